/-
  What every text of walks of a seat starts from.
-/
import Derived.Test.YtonjhjkhmjfngaaDoorChecked
import Derived.Test.YtonjhjkhmjfngaaDoorMem
import Derived.Eval
namespace Go.Proofs.YtonjhjkhmjfngaaDoor
theorem mixed : Tryd.prog.follows .mixedOrders = true := Tryd.checked.mixed
end Go.Proofs.YtonjhjkhmjfngaaDoor
