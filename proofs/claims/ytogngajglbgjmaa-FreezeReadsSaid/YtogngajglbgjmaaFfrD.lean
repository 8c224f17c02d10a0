/- Contracts, what they say: Ffr. -/
import Derived.Test.YtogngajglbgjmaaFrvD
import Derived.Test.YtogngajglbgjmaaFsmD
import Derived.Test.YtogngajglbgjmaaFakD
namespace Go.Proofs.Ytogngajglbgjmaa.Ev
open Go
set_option linter.unusedVariables false
namespace S
noncomputable section
def byV (n : Int) : List LV := [.int .u8 n]
def byK : List CK := [.i .u8]
end
end S
end Go.Proofs.Ytogngajglbgjmaa.Ev
