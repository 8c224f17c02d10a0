/- Contracts, proved: Twd. -/
import Derived.Test.YtlgfojaalmelhaaDoorTwdD
import Derived.Test.YtlgfojaalmelhaaDoorArg
namespace Go.Proofs.YtlgfojaalmelhaaDoor.Ev
open Go
set_option linter.unusedVariables false
set_option linter.unusedSimpArgs false
set_option maxRecDepth 100000
set_option maxHeartbeats 1000000
namespace S
end S
end Go.Proofs.YtlgfojaalmelhaaDoor.Ev
