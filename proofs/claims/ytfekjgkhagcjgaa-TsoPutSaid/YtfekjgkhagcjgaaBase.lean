/-
  What every text of walks of a seat starts from.
-/
import Derived.Test.YtfekjgkhagcjgaaChecked
import Derived.Test.YtfekjgkhagcjgaaMem
import Derived.Eval
namespace Go.Proofs.Ytfekjgkhagcjgaa
theorem mixed : Try.prog.follows .mixedOrders = true := Try.checked.mixed
end Go.Proofs.Ytfekjgkhagcjgaa
