/- Contracts, what they say: Tdg. -/
import Derived.Test.YtlgfojaalmelhaaDoorTakD
import Derived.Test.YtlgfojaalmelhaaDoorTbyD
namespace Go.Proofs.YtlgfojaalmelhaaDoor.Ev
open Go
set_option linter.unusedVariables false
namespace S
noncomputable section
def byV (a : Int) : List LV := [.int .u8 a]
def byK : List CK := [.i .u8]
end
end S
end Go.Proofs.YtlgfojaalmelhaaDoor.Ev
