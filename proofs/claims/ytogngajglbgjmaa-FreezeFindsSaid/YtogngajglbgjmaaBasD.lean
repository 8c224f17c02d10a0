/- Contracts, what they say: Bas. -/
import Derived.Test.YtogngajglbgjmaaE0
namespace Go.Proofs.Ytogngajglbgjmaa.Ev
open Go
set_option linter.unusedVariables false
namespace S
noncomputable section
def an (a b : Bool) : Bool := bc a b false
def inR (a n : Int) : Bool := bc (ltI a 0) false (ltI a n)
end
end S
end Go.Proofs.Ytogngajglbgjmaa.Ev
