/- DenseRanks: the printed walk, and the plain law. -/
import Derived.Test.YtcmigmldecacpaaPureDenseRanks
import Derived.Test.YtcmigmldecacpaaQDenseRanksx1
import Derived.Test.YtcmigmldecacpaaOpenV
namespace Go.Proofs.Ytcmigmldecacpaa.OwnDense
open Go Go.RowKit Go.Proofs.YtcmigmldecacpaaW.PrintWords Go.Proofs.YtcmigmldecacpaaW.PrintMore

theorem ranks (A0 : Option Addr) (c0 : Nat) (l : List (List Int)) (W : World) (hC : (Kd.slice 5 (Kd.int .u8)).C W A0 l.length l) (hl : l.length ≤ c0) (hg : l.length ≤ 9223372036854775807 ∧ ∀ p ∈ l, (p.length ≤ 9223372036854775807 ∧ ∀ x ∈ p, (Lit.int .u8 x).wf = true)) :
    Calls Try.prog 5 #[.slice A0 l.length c0] W fun e w' => e = .returned (.bool true) ∧ Below W.heap.size W w' := by
  obtain ⟨k, hk⟩ := Pure.DenseRanks l hg.1 (fun r hr x hx => OpenB.u8_wf ((hg.2 r hr).2 x hx))
  exact QDenseRanks.geyserlaw05_DenseRanks.calls k A0 c0 l true W hC hl hk
end Go.Proofs.Ytcmigmldecacpaa.OwnDense
