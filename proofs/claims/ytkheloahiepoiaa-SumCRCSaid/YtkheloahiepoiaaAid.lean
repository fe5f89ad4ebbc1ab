/- Small facts about memory for the walks of this claim. -/
import Derived.Test.YtkheloahiepoiaaWWords
import Derived.Lib.SlBytesConst
namespace Gy
open Go Go.RowKit Go.Proofs.YtkheloahiepoiaaW.PrintWords

theorem addr_add (b j : Nat) : (⟨b, 0, none⟩ : Addr).add j = ⟨b, j, none⟩ := by
  unfold Addr.add; split <;> simp_all

/-- A row of numbers that has just been laid reads as these. -/
theorem lit_reads (k : IntKind) (w : World) (xs : List Int) (e : TypeId) (f : Nat × Nat) (hl : xs.length ≤ 9223372036854775807) (C : Array Value) (hC : C = (xs.map (Value.int k)).toArray) :
    Kd.C (Kd.int k) (w.alloc (.cells C e f)) (some ⟨w.heap.size, 0, none⟩) xs.length xs := by
  subst hC
  refine Kd.C_of_reads (d := (0 : Int)) ⟨rfl, hl, fun _ => ⟨_, rfl, fun j hj => ?_⟩⟩
  rw [addr_add]
  have e1 : (w.alloc (Obj.cells (xs.map (Value.int k)).toArray e f)).heap[w.heap.size]? = some (Obj.cells (xs.map (Value.int k)).toArray e f) := by
    show (w.heap.push _)[w.heap.size]? = _
    simp
  unfold World.cell?
  simp only [e1]
  simp [hj, List.getD_eq_getElem?_getD]
end Gy
