/-
  What every text of walks of a seat starts from.
-/
import Derived.Test.YtfiebpcambdbaaaDoorChecked
import Derived.Test.YtfiebpcambdbaaaDoorMem
import Derived.Eval
set_option linter.unusedVariables false
set_option linter.unusedSimpArgs false
set_option maxHeartbeats 4000000
set_option maxRecDepth 8000
namespace Go.Proofs.YtfiebpcambdbaaaDoor
theorem mixed : Tryd.prog.follows .mixedOrders = true := Tryd.checked.mixed
end Go.Proofs.YtfiebpcambdbaaaDoor
