/- Machine-made by a program of this claim: functions of the Go program as Lean functions, and that its calls do what these say. Lean checks it. -/
import Derived.Test.YtfdfijohcapgaaaDoorProg
import Derived.Test.YtfdfijohcapgaaaDoorAid
import Derived.Below
import Derived.Deep.Draws
import Derived.Deep.AppendLies
import Derived.Maps.AppendAt
import Derived.OwnWalk
import Derived.Laws.BytesArg
import Derived.Laws.MakeOwn
import Derived.Laws.OwnMore
import Derived.Deep.OwnRows
import Derived.Tactics
import Derived.Lib.ConvBytes
import Derived.Laws.Slices
import Derived.WalkKit
import Derived.KernelRfl
import Derived.RowKit3
import Derived.Deep.LoopGhost
import Derived.Deep.QuietTactic
import Derived.BigQuiet
import Derived.WideLaws
import Derived.Deep.DeepCutAuto
import Derived.Deep.CutBlock
import Derived.Deep.RegionHeld3
import Derived.Laws.Rows
import Derived.Lib.AppendStr
import Derived.ArgAppend
import Derived.Laws.IdiomCopy
import Derived.OrdersHeld
import Derived.Laws.BitsLemmas
import Derived.RowKit
import Derived.Test.YtfdfijohcapgaaaDoorWWords
import Derived.Test.YtfdfijohcapgaaaDoorWLast
import Derived.Test.YtfdfijohcapgaaaDoorWTab
import Derived.Test.YtfdfijohcapgaaaDoorWFour
import Derived.Test.YtfdfijohcapgaaaDoorWQPut
import Derived.Test.YtfdfijohcapgaaaDoorWApart
import Derived.Test.YtfdfijohcapgaaaDoorWArr
import Derived.Test.YtfdfijohcapgaaaDoorWZeros
import Derived.Test.YtfdfijohcapgaaaDoorWFoot
import Derived.Test.YtfdfijohcapgaaaDoorWKept
import Derived.Test.YtfdfijohcapgaaaDoorWShare
import Derived.Test.YtfdfijohcapgaaaDoorWN
import Derived.Test.YtfdfijohcapgaaaDoorWFootNe
import Derived.Test.YtfdfijohcapgaaaDoorWAt
import Derived.Test.YtfdfijohcapgaaaDoorWEqStruct
import Derived.Test.YtfdfijohcapgaaaDoorWRepsOne
import Derived.Test.YtfdfijohcapgaaaDoorWInv
import Derived.Test.YtfdfijohcapgaaaDoorWInvWords
import Derived.Test.YtfdfijohcapgaaaDoorWGuard
import Derived.Test.YtfdfijohcapgaaaDoorWNEv
import Derived.Test.YtfdfijohcapgaaaDoorWMore
namespace Go.Proofs.YtfdfijohcapgaaaDoor.QPart
open Go.RowKit Go.Proofs.YtfdfijohcapgaaaDoorW.PrintWords Go.Proofs.YtfdfijohcapgaaaDoorW.PrintLast Go.Proofs.YtfdfijohcapgaaaDoorW.PrintMore
attribute [local go_sem] max2_int min2_int max_two min_two max_three min_three max_four min_four   -- for this text's walks alone
set_option linter.unusedVariables false
set_option linter.unusedSimpArgs false



def errW : Option Int → Value
  | none => .nilIface
  | some c => .iface 0 (.int .i64 c)
theorem errW_none : errW none = .nilIface := rfl
theorem errW_some (c : Int) : errW (some c) = .iface 0 (.int .i64 c) := rfl

-- the values' own types

end Go.Proofs.YtfdfijohcapgaaaDoor.QPart
