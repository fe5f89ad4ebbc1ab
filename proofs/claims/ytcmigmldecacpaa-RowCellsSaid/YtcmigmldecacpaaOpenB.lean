/- Arguments of bytes. -/
import Derived.Test.YtcmigmldecacpaaOpen
import Derived.Test.YtcmigmldecacpaaProg
namespace Go.Proofs.Ytcmigmldecacpaa.OpenB
open Go Go.RowKit Go.Proofs.YtcmigmldecacpaaW.PrintWords

theorem u8_wf {x : Int} (h : (Lit.int .u8 x).wf = true) : 0 ≤ x ∧ x < 256 := by
  have h1 : IntKind.u8.min ≤ x ∧ x ≤ IntKind.u8.max := by simpa [Lit.wf] using h
  have e1 : IntKind.u8.min = 0 := by decide
  have e2 : IntKind.u8.max = 255 := by decide
  omega
set_option maxRecDepth 100000 in
theorem opens_bytes : Gy.Opens Try.prog 31 (Kd.slice 5 (Kd.int .u8)) (fun xs => xs.length ≤ 9223372036854775807 ∧ ∀ x ∈ xs, (Lit.int .u8 x).wf = true) :=
  Gy.Opens.slice Try.underlying31 (by kernel_rfl) (Gy.Opens.int Try.underlying5 (by kernel_rfl))
end Go.Proofs.Ytcmigmldecacpaa.OpenB
