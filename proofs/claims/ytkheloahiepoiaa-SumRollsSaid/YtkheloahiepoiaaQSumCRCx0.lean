/- Machine-made by a program of this claim: functions of the Go program as Lean functions, and that its calls do what these say. Lean checks it. -/
import Derived.Test.YtkheloahiepoiaaProg
import Derived.Test.YtkheloahiepoiaaAid
import Derived.Below
import Derived.Deep.Draws
import Derived.Deep.AppendLies
import Derived.Maps.AppendAt
import Derived.OwnWalk
import Derived.Laws.BytesArg
import Derived.Laws.MakeOwn
import Derived.Laws.OwnMore
import Derived.Deep.OwnRows
import Derived.Tactics
import Derived.Lib.ConvBytes
import Derived.Laws.Slices
import Derived.WalkKit
import Derived.KernelRfl
import Derived.RowKit3
import Derived.Deep.LoopGhost
import Derived.Deep.QuietTactic
import Derived.BigQuiet
import Derived.WideLaws
import Derived.Deep.DeepCutAuto
import Derived.Deep.CutBlock
import Derived.Deep.RegionHeld3
import Derived.Laws.Rows
import Derived.Lib.AppendStr
import Derived.ArgAppend
import Derived.Laws.IdiomCopy
import Derived.OrdersHeld
import Derived.Laws.BitsLemmas
import Derived.RowKit
import Derived.Lib.SlBytesConst
import Derived.Test.YtkheloahiepoiaaWWords
import Derived.Test.YtkheloahiepoiaaWLast
import Derived.Test.YtkheloahiepoiaaWTab
import Derived.Test.YtkheloahiepoiaaWFour
import Derived.Test.YtkheloahiepoiaaWQPut
import Derived.Test.YtkheloahiepoiaaWApart
import Derived.Test.YtkheloahiepoiaaWArr
import Derived.Test.YtkheloahiepoiaaWZeros
import Derived.Test.YtkheloahiepoiaaWFoot
import Derived.Test.YtkheloahiepoiaaWKept
import Derived.Test.YtkheloahiepoiaaWShare
import Derived.Test.YtkheloahiepoiaaWN
import Derived.Test.YtkheloahiepoiaaWFootNe
import Derived.Test.YtkheloahiepoiaaWAt
import Derived.Test.YtkheloahiepoiaaWEqStruct
import Derived.Test.YtkheloahiepoiaaWRepsOne
import Derived.Test.YtkheloahiepoiaaWInv
import Derived.Test.YtkheloahiepoiaaWInvWords
import Derived.Test.YtkheloahiepoiaaWGuard
import Derived.Test.YtkheloahiepoiaaWNEv
import Derived.Test.YtkheloahiepoiaaWMore
namespace Go.Proofs.Ytkheloahiepoiaa.QSumCRC
open Go.RowKit Go.Proofs.YtkheloahiepoiaaW.PrintWords Go.Proofs.YtkheloahiepoiaaW.PrintLast Go.Proofs.YtkheloahiepoiaaW.PrintMore
attribute [local go_sem] max2_int min2_int max_two min_two max_three min_three max_four min_four   -- for this text's walks alone
set_option linter.unusedVariables false
set_option linter.unusedSimpArgs false



def errW : Option Int → Value
  | none => .nilIface
  | some c => .iface 0 (.int .i64 c)
theorem errW_none : errW none = .nilIface := rfl
theorem errW_some (c : Int) : errW (some c) = .iface 0 (.int .i64 c) := rfl

theorem info5 : (Try.prog.info? 5).map (fun i => (i.zero, i.size, i.bytes)) = some (some (.int .u8 0), 1, 1) := by kernel_rfl
-- the values' own types

end Go.Proofs.Ytkheloahiepoiaa.QSumCRC
