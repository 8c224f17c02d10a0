/- Contracts, what they say: Tak. -/
import Derived.Test.YtlgfojaalmelhaaDoorTshD
namespace Go.Proofs.YtlgfojaalmelhaaDoor.Ev
open Go
set_option linter.unusedVariables false
noncomputable def awk13E : K.CEnt := ⟨9, (fun xs os => match xs, os with
 | [], [.glob g cs, .glob g1 [.int .i64 m]] => some (S.okG g cs g1, ⟨.ret (.bool true), [], []⟩)
 | _, _ => none), [2000000]⟩
end Go.Proofs.YtlgfojaalmelhaaDoor.Ev
