/- Machine-made by a program of this claim: functions of the Go program as Lean functions, and that its calls do what these say. Lean checks it. -/
import Derived.Test.YtfdfijohcapgaaaDoorQPartx0
import Derived.Test.YtfdfijohcapgaaaDoorQPartx1
import Derived.Test.YtfdfijohcapgaaaDoorQPartx2
namespace Go.Proofs.YtfdfijohcapgaaaDoor.QPart
open Go.RowKit Go.Proofs.YtfdfijohcapgaaaDoorW.PrintWords Go.Proofs.YtfdfijohcapgaaaDoorW.PrintLast Go.Proofs.YtfdfijohcapgaaaDoorW.PrintMore
attribute [local go_sem] max2_int min2_int max_two min_two max_three min_three max_four min_four   -- for this text's walks alone
set_option linter.unusedVariables false
set_option linter.unusedSimpArgs false

end Go.Proofs.YtfdfijohcapgaaaDoor.QPart
