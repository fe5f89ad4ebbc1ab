/- Machine-made by a program of this claim: functions of the Go program as Lean functions, and that its calls do what these say. Lean checks it. -/
import Derived.Test.YtcmigmldecacpaaDoorProg
import Derived.Test.YtcmigmldecacpaaDoorAid
import Derived.Below
import Derived.Deep.Draws
import Derived.Deep.AppendLies
import Derived.Maps.AppendAt
import Derived.OwnWalk
import Derived.Laws.BytesArg
import Derived.Laws.MakeOwn
import Derived.Laws.OwnMore
import Derived.Deep.OwnRows
import Derived.Tactics
import Derived.Lib.ConvBytes
import Derived.Laws.Slices
import Derived.WalkKit
import Derived.KernelRfl
import Derived.RowKit3
import Derived.Deep.LoopGhost
import Derived.Deep.QuietTactic
import Derived.BigQuiet
import Derived.WideLaws
import Derived.Deep.DeepCutAuto
import Derived.Deep.CutBlock
import Derived.Deep.RegionHeld3
import Derived.Laws.Rows
import Derived.Lib.AppendStr
import Derived.ArgAppend
import Derived.Laws.IdiomCopy
import Derived.OrdersHeld
import Derived.Laws.BitsLemmas
import Derived.RowKit
import Derived.Test.YtcmigmldecacpaaDoorWWords
import Derived.Test.YtcmigmldecacpaaDoorWLast
import Derived.Test.YtcmigmldecacpaaDoorWTab
import Derived.Test.YtcmigmldecacpaaDoorWFour
import Derived.Test.YtcmigmldecacpaaDoorWQPut
import Derived.Test.YtcmigmldecacpaaDoorWApart
import Derived.Test.YtcmigmldecacpaaDoorWArr
import Derived.Test.YtcmigmldecacpaaDoorWZeros
import Derived.Test.YtcmigmldecacpaaDoorWFoot
import Derived.Test.YtcmigmldecacpaaDoorWKept
import Derived.Test.YtcmigmldecacpaaDoorWShare
import Derived.Test.YtcmigmldecacpaaDoorWN
import Derived.Test.YtcmigmldecacpaaDoorWFootNe
import Derived.Test.YtcmigmldecacpaaDoorWAt
import Derived.Test.YtcmigmldecacpaaDoorWEqStruct
import Derived.Test.YtcmigmldecacpaaDoorWRepsOne
import Derived.Test.YtcmigmldecacpaaDoorWInv
import Derived.Test.YtcmigmldecacpaaDoorWInvWords
import Derived.Test.YtcmigmldecacpaaDoorWGuard
import Derived.Test.YtcmigmldecacpaaDoorWNEv
import Derived.Test.YtcmigmldecacpaaDoorWMore
namespace Go.Proofs.YtcmigmldecacpaaDoor.QReplayBoards
open Go.RowKit Go.Proofs.YtcmigmldecacpaaDoorW.PrintWords Go.Proofs.YtcmigmldecacpaaDoorW.PrintLast Go.Proofs.YtcmigmldecacpaaDoorW.PrintMore
attribute [local go_sem] max2_int min2_int max_two min_two max_three min_three max_four min_four   -- for this text's walks alone
set_option linter.unusedVariables false
set_option linter.unusedSimpArgs false



def errW : Option Int → Value
  | none => .nilIface
  | some c => .iface 0 (.int .i64 c)
theorem errW_none : errW none = .nilIface := rfl
theorem errW_some (c : Int) : errW (some c) = .iface 0 (.int .i64 c) := rfl

theorem info5 : (Tryd.prog.info? 5).map (fun i => (i.zero, i.size, i.bytes)) = some (some (.int .u8 0), 1, 1) := by kernel_rfl
-- the values' own types

end Go.Proofs.YtcmigmldecacpaaDoor.QReplayBoards
