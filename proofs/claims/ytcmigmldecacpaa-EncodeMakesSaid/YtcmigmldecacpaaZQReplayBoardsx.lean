/- Machine-made by a program of this claim: functions of the Go program as Lean functions, and that its calls do what these say. Lean checks it. -/
import Derived.Test.YtcmigmldecacpaaZQReplayBoardsx0
import Derived.Test.YtcmigmldecacpaaZQReplayBoardsx1
import Derived.Test.YtcmigmldecacpaaZQReplayBoardsx2
namespace Go.Proofs.Ytcmigmldecacpaa.QReplayBoards
open Go.RowKit Go.Proofs.YtcmigmldecacpaaW.PrintWords Go.Proofs.YtcmigmldecacpaaW.PrintLast Go.Proofs.YtcmigmldecacpaaW.PrintMore
attribute [local go_sem] max2_int min2_int max_two min_two max_three min_three max_four min_four   -- for this text's walks alone
set_option linter.unusedVariables false
set_option linter.unusedSimpArgs false

end Go.Proofs.Ytcmigmldecacpaa.QReplayBoards
