/- Contracts, what they say: Tor. -/
import Derived.Test.YtlgfojaalmelhaaDoorTofD
import Derived.Test.YtlgfojaalmelhaaDoorTwdD
namespace Go.Proofs.YtlgfojaalmelhaaDoor.Ev
open Go
set_option linter.unusedVariables false
namespace S
noncomputable section
def instR (o : Int) : LV := .agg [.str (nm o), .int .i64 (md o), .int .i64 (kd o), .bool (kn o)]
end
end S
noncomputable def corE : K.CEnt := ⟨9, (fun xs os => match xs, os with
 | [.int .i64 o], [] => some (S.isB o, ⟨.ret (S.instR o), [], []⟩)
 | _, _ => none), []⟩
end Go.Proofs.YtlgfojaalmelhaaDoor.Ev
