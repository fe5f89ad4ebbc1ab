/- RowCells: the printed walk, and the plain law. -/
import Derived.Test.YtcmigmldecacpaaPureRowCells
import Derived.Test.YtcmigmldecacpaaOpenB
namespace Go.Proofs.Ytcmigmldecacpaa.OwnRow
open Go Go.RowKit Go.Proofs.YtcmigmldecacpaaW.PrintWords

theorem cells (A0 : Option Addr) (c0 : Nat) (r : List Int) (W : World) (hC : (Kd.int .u8).C W A0 r.length r) (hl : r.length ≤ c0) (hg : r.length ≤ 9223372036854775807 ∧ ∀ x ∈ r, (Lit.int .u8 x).wf = true) :
    Calls Try.prog 10 #[.slice A0 r.length c0] W fun e w' => e = .returned (.bool true) ∧ Below W.heap.size W w' := by
  obtain ⟨k, hk⟩ := Pure.RC.RowCells r hg.1
  exact QRowCells.geyserlaw08_RowCells.calls k A0 c0 r true W hC hl hk
end Go.Proofs.Ytcmigmldecacpaa.OwnRow
