/- The walks over package sum: a Roller is made, and rolls on. -/
import Derived.Test.YtkheloahiepoiaaRollCalls
import Derived.Test.YtkheloahiepoiaaMem
namespace Go.Proofs.Ytkheloahiepoiaa.Rolls
open Go Go.RowKit Go.Proofs.YtkheloahiepoiaaW.PrintWords Go.Proofs.YtkheloahiepoiaaW.PrintMore

/-- a Roller of windows of so many bytes, of which so many places are filled -/
structure RollAt (w : World) (g size ko ki : Nat) : Prop where
  out : ∀ y : Nat, y < 256 → w.cell? ⟨g, y, none⟩ = some (.int .u32 ((if y < ko then Gy.outv size y else 0 : Nat) : Int))
  inn : ∀ y : Nat, y < 256 → w.cell? ⟨g, 256 + y, none⟩ = some (.int .u32 ((if y < ki then Gy.cturn 8 y else 0 : Nat) : Int))
  fr : ∀ o, w.frozen? ⟨g, o, none⟩ = false
theorem RollAt.lt {w : World} {g size ko ki : Nat} (h : RollAt w g size ko ki) : g < w.heap.size := Gy.cell_lt (h.out 0 (by omega))
theorem RollAt.below {w w' : World} {g size ko ki : Nat} (h : RollAt w g size ko ki) (hb : Below w.heap.size w w') : RollAt w' g size ko ki := by
  have e := hb.block g h.lt
  refine ⟨fun y hy => ?_, fun y hy => ?_, fun o => ?_⟩
  · have := h.out y hy
    unfold World.cell? at this ⊢
    rw [e]; exact this
  · have := h.inn y hy
    unfold World.cell? at this ⊢
    rw [e]; exact this
  · have := h.fr o
    unfold World.frozen? at this ⊢
    rw [e]; exact this
theorem RollAt.set_in {w : World} {g size ko k : Nat} (h : RollAt w g size ko k) (hk : k < 256) : RollAt (w.setCell ⟨g, 256 + k, none⟩ (.int .u32 ((Gy.cturn 8 k : Nat) : Int))) g size ko (k + 1) := by
  refine ⟨fun y hy => ?_, fun y hy => ?_, fun o => ?_⟩
  · rw [Gy.set_other _ _ _ _ _ (by omega)]; exact h.out y hy
  · by_cases e : y = k
    · subst e
      rw [Gy.cell_set (h.inn y hy), if_pos (by omega)]
    · rw [Gy.set_other _ _ _ _ _ (by omega), h.inn y hy]
      congr 3
      by_cases h1 : y < k
      · rw [if_pos h1, if_pos (by omega)]
      · rw [if_neg h1, if_neg (by omega)]
  · rw [Gy.set_frozen]; exact h.fr o
theorem RollAt.set_out {w : World} {g size k ki : Nat} (h : RollAt w g size k ki) (hk : k < 256) : RollAt (w.setCell ⟨g, k, none⟩ (.int .u32 ((Gy.outv size k : Nat) : Int))) g size (k + 1) ki := by
  refine ⟨fun y hy => ?_, fun y hy => ?_, fun o => ?_⟩
  · by_cases e : y = k
    · subst e
      rw [Gy.cell_set (h.out y hy), if_pos (by omega)]
    · rw [Gy.set_other _ _ _ _ _ (by omega), h.out y hy]
      congr 3
      by_cases h1 : y < k
      · rw [if_pos h1, if_pos (by omega)]
      · rw [if_neg h1, if_neg (by omega)]
  · rw [Gy.set_other _ _ _ _ _ (by omega)]; exact h.inn y hy
  · rw [Gy.set_frozen]; exact h.fr o
set_option maxRecDepth 100000 in
theorem build_roller : ∃ zs : Array Value, zs = Array.replicate 512 (.int .u32 0) ∧ ∀ W : World, (zeroValue 72).run Try.prog W = .ok (.agg zs) W := by
  refine ⟨_, rfl, fun W => ?_⟩
  kernel_rfl
end Go.Proofs.Ytkheloahiepoiaa.Rolls
