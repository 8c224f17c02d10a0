/- Contracts, what they say: Tnm. -/
import Derived.Test.YtlgfojaalmelhaaDoorTakD
namespace Go.Proofs.YtlgfojaalmelhaaDoor.Ev
open Go
set_option linter.unusedVariables false
end Go.Proofs.YtlgfojaalmelhaaDoor.Ev
