/- Arguments of rows of bytes. -/
import Derived.Test.YtcmigmldecacpaaOpenB
namespace Go.Proofs.Ytcmigmldecacpaa.OpenB
open Go Go.RowKit Go.Proofs.YtcmigmldecacpaaW.PrintWords

set_option maxRecDepth 100000 in
theorem opens_vals : Gy.Opens Try.prog 22 (Kd.slice 31 (Kd.slice 5 (Kd.int .u8))) (fun l => l.length ≤ 9223372036854775807 ∧ ∀ p ∈ l, (p.length ≤ 9223372036854775807 ∧ ∀ x ∈ p, (Lit.int .u8 x).wf = true)) :=
  Gy.Opens.slice Try.underlying22 (by kernel_rfl) (Gy.Opens.slice Try.underlying31 (by kernel_rfl) (Gy.Opens.int Try.underlying5 (by kernel_rfl)))
end Go.Proofs.Ytcmigmldecacpaa.OpenB
