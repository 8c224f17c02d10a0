/- Contracts, what they say: Tll. -/
import Derived.Test.YtlgfojaalmelhaaDoorTakD
import Derived.Test.YtlgfojaalmelhaaDoorTlrD
import Derived.Test.YtlgfojaalmelhaaDoorTdgD
namespace Go.Proofs.YtlgfojaalmelhaaDoor.Ev
open Go
set_option linter.unusedVariables false
end Go.Proofs.YtlgfojaalmelhaaDoor.Ev
