/- Contracts, proved: Tor. -/
import Derived.Test.YtlgfojaalmelhaaDoorTorD
import Derived.Test.YtlgfojaalmelhaaDoorTofP
import Derived.Test.YtlgfojaalmelhaaDoorTwdP
namespace Go.Proofs.YtlgfojaalmelhaaDoor.Ev
open Go
set_option linter.unusedVariables false
set_option linter.unusedSimpArgs false
set_option maxRecDepth 100000
set_option maxHeartbeats 1000000

end Go.Proofs.YtlgfojaalmelhaaDoor.Ev
