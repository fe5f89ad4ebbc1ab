/- Small facts about memory for the walks of this claim. -/
import Derived.Test.YtoakjdgknbhgiaaGreatDoorWWords
import Derived.Lib.SlBytesConst
import Derived.Test.YtoakjdgknbhgiaaGreatDoorProg
import Derived.Below
import Derived.Deep.Draws
import Derived.Deep.AppendLies
import Derived.Maps.AppendAt
import Derived.OwnWalk
import Derived.Laws.BytesArg
import Derived.Laws.MakeOwn
import Derived.Laws.OwnMore
import Derived.Deep.OwnRows
import Derived.Tactics
import Derived.Lib.ConvBytes
import Derived.Laws.Slices
import Derived.WalkKit
import Derived.KernelRfl
import Derived.RowKit3
import Derived.Deep.LoopGhost
import Derived.Deep.QuietTactic
import Derived.BigQuiet
import Derived.WideLaws
import Derived.Deep.DeepCutAuto
import Derived.Deep.CutBlock
import Derived.Deep.RegionHeld3
import Derived.Laws.Rows
import Derived.Lib.AppendStr
import Derived.ArgAppend
import Derived.Laws.IdiomCopy
import Derived.OrdersHeld
import Derived.Laws.BitsLemmas
import Derived.RowKit
import Derived.Test.YtoakjdgknbhgiaaGreatDoorWLast
import Derived.Test.YtoakjdgknbhgiaaGreatDoorWTab
import Derived.Test.YtoakjdgknbhgiaaGreatDoorWFour
import Derived.Test.YtoakjdgknbhgiaaGreatDoorWQPut
import Derived.Test.YtoakjdgknbhgiaaGreatDoorWApart
import Derived.Test.YtoakjdgknbhgiaaGreatDoorWArr
import Derived.Test.YtoakjdgknbhgiaaGreatDoorWZeros
import Derived.Test.YtoakjdgknbhgiaaGreatDoorWFoot
import Derived.Test.YtoakjdgknbhgiaaGreatDoorWKept
import Derived.Test.YtoakjdgknbhgiaaGreatDoorWShare
import Derived.Test.YtoakjdgknbhgiaaGreatDoorWN
import Derived.Test.YtoakjdgknbhgiaaGreatDoorWFootNe
import Derived.Test.YtoakjdgknbhgiaaGreatDoorWAt
import Derived.Test.YtoakjdgknbhgiaaGreatDoorWEqStruct
import Derived.Test.YtoakjdgknbhgiaaGreatDoorWRepsOne
import Derived.Test.YtoakjdgknbhgiaaGreatDoorWInv
import Derived.Test.YtoakjdgknbhgiaaGreatDoorWInvWords
import Derived.Test.YtoakjdgknbhgiaaGreatDoorWGuard
import Derived.Test.YtoakjdgknbhgiaaGreatDoorWNEv
import Derived.Test.YtoakjdgknbhgiaaGreatDoorWMore

namespace Gy
open Go Go.RowKit Go.Proofs.YtoakjdgknbhgiaaGreatDoorW.PrintWords

/-- a fact that the walk does not look at -/
structure Hd (p : Prop) : Prop where
  out : p
theorem ret_eq {k : IntKind} {a b : Int} (h : a = b) : Ending.returned (.int k a) = .returned (.int k b) := by rw [h]
theorem addr_add (b j : Nat) : (⟨b, 0, none⟩ : Addr).add j = ⟨b, j, none⟩ := by
  unfold Addr.add; split <;> simp_all

/-- A row of numbers that has just been laid reads as these. -/
theorem lit_reads (k : IntKind) (w : World) (xs : List Int) (e : TypeId) (f : Nat × Nat) (hl : xs.length ≤ 9223372036854775807) (C : Array Value) (hC : C = (xs.map (Value.int k)).toArray) :
    Kd.C (Kd.int k) (w.alloc (.cells C e f)) (some ⟨w.heap.size, 0, none⟩) xs.length xs := by
  subst hC
  refine Kd.C_of_reads (d := (0 : Int)) ⟨rfl, hl, fun _ => ⟨_, rfl, fun j hj => ?_⟩⟩
  rw [addr_add]
  have e1 : (w.alloc (Obj.cells (xs.map (Value.int k)).toArray e f)).heap[w.heap.size]? = some (Obj.cells (xs.map (Value.int k)).toArray e f) := by
    show (w.heap.push _)[w.heap.size]? = _
    simp
  unfold World.cell?
  simp only [e1]
  simp [hj, List.getD_eq_getElem?_getD]
theorem set_set (w : World) (blk off : Nat) (v v' : Value) : (w.setCell ⟨blk, off, none⟩ v).setCell ⟨blk, off, none⟩ v' = w.setCell ⟨blk, off, none⟩ v' := by
  unfold World.setCell
  congr 1
  apply Array.ext
  · simp
  · intro i h1 h2
    simp only [Array.getElem_modify]
    by_cases h : blk = i
    · simp only [h, if_true]
      cases w.heap[i]'(by simpa using h1) <;> simp
    · simp only [h, if_false]
/-- A cell that was there reads as what was stored last. -/
theorem cell_set {w : World} {a : Addr} {u : Value} (h : w.cell? a = some u) (v : Value) : (w.setCell a v).cell? a = some v := World.cell?_setCell_same' w a v (by rw [h]; rfl)
/-- The same but for how many answers were drawn. -/
def Sm (w' w : World) : Prop := w'.heap = w.heap ∧ w'.tape = w.tape ∧ w'.os = w.os ∧ w'.output = w.output
theorem Sm.refl (w : World) : Sm w w := ⟨rfl, rfl, rfl, rfl⟩
theorem Sm.cell {w' w : World} (h : Sm w' w) (a : Addr) : w'.cell? a = w.cell? a := by unfold World.cell?; rw [h.1]
theorem Sm.frozen {w' w : World} (h : Sm w' w) (a : Addr) : w'.frozen? a = w.frozen? a := by unfold World.frozen?; rw [h.1]
theorem Sm.below {w' w w0 : World} {B : Nat} (h : Sm w' w) (hb : Below B w0 w) : Below B w0 w' :=
  ⟨h.2.2.1.trans hb.os, h.2.1.trans hb.tape, h.2.2.2.trans hb.output, by rw [h.1]; exact hb.size, fun k hk => by rw [h.1]; exact hb.block k hk⟩
end Gy
/- Machine-made by a program of this claim: functions of the Go program as Lean functions, and that its calls do what these say. Lean checks it. -/
namespace Go.Proofs.YtoakjdgknbhgiaaGreatDoor.QDig
open Go.RowKit Go.Proofs.YtoakjdgknbhgiaaGreatDoorW.PrintWords Go.Proofs.YtoakjdgknbhgiaaGreatDoorW.PrintLast Go.Proofs.YtoakjdgknbhgiaaGreatDoorW.PrintMore
attribute [local go_sem] max2_int min2_int max_two min_two max_three min_three max_four min_four   -- for this text's walks alone
set_option linter.unusedVariables false
set_option linter.unusedSimpArgs false



def errW : Option Int → Value
  | none => .nilIface
  | some c => .iface 0 (.int .i64 c)
theorem errW_none : errW none = .nilIface := rfl
theorem errW_some (c : Int) : errW (some c) = .iface 0 (.int .i64 c) := rfl

theorem info5 : (Tryz.prog.info? 5).map (fun i => (i.zero, i.size, i.bytes)) = some (some (.int .u8 0), 1, 1) := by kernel_rfl
-- the values' own types

end Go.Proofs.YtoakjdgknbhgiaaGreatDoor.QDig
