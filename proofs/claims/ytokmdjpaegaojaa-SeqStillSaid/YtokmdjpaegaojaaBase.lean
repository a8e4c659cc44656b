/-
  What every text of walks of a seat starts from.
-/
import Derived.Test.YtokmdjpaegaojaaChecked
import Derived.Test.YtokmdjpaegaojaaMem
import Derived.Eval
namespace Go.Proofs.Ytokmdjpaegaojaa
theorem mixed : Try.prog.follows .mixedOrders = true := Try.checked.mixed
end Go.Proofs.Ytokmdjpaegaojaa
