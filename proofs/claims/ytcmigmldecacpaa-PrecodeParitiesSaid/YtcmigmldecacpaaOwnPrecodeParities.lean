/- PrecodeParities: the printed walk, and the plain law. -/
import Derived.Test.YtcmigmldecacpaaPurePrecodeParities
import Derived.Test.YtcmigmldecacpaaQPrecodeParitiesx
import Derived.Test.YtcmigmldecacpaaOpenB
namespace Go.Proofs.Ytcmigmldecacpaa.OwnPrecode
open Go Go.RowKit Go.Proofs.YtcmigmldecacpaaW.PrintWords Go.Proofs.YtcmigmldecacpaaW.PrintMore

theorem parities (A0 : Option Addr) (c0 : Nat) (l : List (List Int)) (a1 : Int) (W : World) (hC : (Kd.slice 5 (Kd.int .u8)).C W A0 l.length l) (hl : l.length ≤ c0) (hg : l.length ≤ 9223372036854775807 ∧ ∀ p ∈ l, (p.length ≤ 9223372036854775807 ∧ ∀ x ∈ p, (Lit.int .u8 x).wf = true)) (_w1 : (Lit.int .i64 a1).wf = true) :
    Calls Try.prog 6 #[.slice A0 l.length c0, .int .i64 a1] W fun e w' => e = .returned (.bool true) ∧ Below W.heap.size W w' := by
  obtain ⟨k, hk⟩ := Pure.PrecodeParities l a1 hg.1 (fun r hr x hx => OpenB.u8_wf ((hg.2 r hr).2 x hx))
  exact QPrecodeParities.geyserlaw07_PrecodeParities.calls k A0 c0 l a1 true W hC hl hk
end Go.Proofs.Ytcmigmldecacpaa.OwnPrecode
