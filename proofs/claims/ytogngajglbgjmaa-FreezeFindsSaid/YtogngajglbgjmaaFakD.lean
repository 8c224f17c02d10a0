/- Contracts, what they say: Fak. -/
import Derived.Test.YtogngajglbgjmaaBasD
namespace Go.Proofs.Ytogngajglbgjmaa.Ev
open Go
set_option linter.unusedVariables false
noncomputable def awk25E : K.CEnt := ⟨9, (fun xs os => match xs, os with
  | [], [] => some (true, ⟨.ret (.bool true), [], []⟩)
  | _, _ => none), []⟩
end Go.Proofs.Ytogngajglbgjmaa.Ev
