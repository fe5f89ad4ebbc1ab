/- The door of layer 4 is awake, in the form in which the printer asks for it. -/
import Derived.Test.YtcmigmldecacpaaDoorGiv
import Derived.Test.YtcmigmldecacpaaDoorVecDoor
namespace Go.Proofs.YtcmigmldecacpaaDoor.Giv
open Go Go.RowKit Go.Proofs.YtcmigmldecacpaaDoorW.PrintWords Go.Proofs.YtcmigmldecacpaaDoorW.PrintLast Go.Proofs.YtcmigmldecacpaaDoorW.PrintMore Go.Proofs.YtcmigmldecacpaaDoor.Vec

def geyserlaw04_awake.f : Option Bool := some true
theorem geyserlaw04_awake.calls (r : Bool) (w : World) (h : geyserlaw04_awake.f = some r) :
    Calls Tryd.prog 7 #[] w fun e w' => e = .returned (.bool r) ∧ Below w.heap.size w w' := by
  obtain rfl := Option.some.inj h
  exact awake_calls w
end Go.Proofs.YtcmigmldecacpaaDoor.Giv
