/- VectorDots: the printed walk, and the plain law. -/
import Derived.Test.YtcmigmldecacpaaDoorPureVectorDots
import Derived.Test.YtcmigmldecacpaaDoorQVectorDotsx
import Derived.Test.YtcmigmldecacpaaDoorOpenB
namespace Go.Proofs.YtcmigmldecacpaaDoor.OwnVector
open Go Go.RowKit Go.Proofs.YtcmigmldecacpaaDoorW.PrintWords

theorem dots (A0 : Option Addr) (c0 : Nat) (a : List Int) (A1 : Option Addr) (c1 : Nat) (b : List Int) (W : World) (hC0 : (Kd.int .u8).C W A0 a.length a) (hl0 : a.length ≤ c0) (hg0 : a.length ≤ 9223372036854775807 ∧ ∀ x ∈ a, (Lit.int .u8 x).wf = true)
    (hC1 : (Kd.int .u8).C W A1 b.length b) (hl1 : b.length ≤ c1) (hg1 : b.length ≤ 9223372036854775807 ∧ ∀ x ∈ b, (Lit.int .u8 x).wf = true) :
    Calls Tryd.prog 4 #[.slice A0 a.length c0, .slice A1 b.length c1] W fun e w' => e = .returned (.bool true) ∧ Below W.heap.size W w' := by
  obtain ⟨k, hk⟩ := Pure.VectorDots a b (fun x hx => OpenB.u8_wf (hg0.2 x hx)) (fun x hx => OpenB.u8_wf (hg1.2 x hx))
  exact QVectorDots.geyserlaw04_VectorDots.calls k A0 c0 a A1 c1 b true W hC0 hl0 hC1 hl1 hk
end Go.Proofs.YtcmigmldecacpaaDoor.OwnVector
