/- Contracts, what they say: Lsa. -/
import Derived.Test.YtmnpnomllcghmaaSprD
namespace Go.Proofs.Ytmnpnomllcghmaa.Ev
open Go
set_option linter.unusedVariables false
noncomputable def awk16E : K.CEnt := ⟨9, (fun xs os => match xs, os with
  | [], [] => some (true, ⟨.ret (.bool true), [], []⟩)
  | _, _ => none), []⟩
end Go.Proofs.Ytmnpnomllcghmaa.Ev
