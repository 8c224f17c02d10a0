/- Contracts, what they say: Ffp. -/
import Derived.Test.YtogngajglbgjmaaFpkD
namespace Go.Proofs.Ytogngajglbgjmaa.Ev
open Go
set_option linter.unusedVariables false
namespace S
noncomputable section
def intV (n : Int) : List LV := [.int .i64 n]
def intK : List CK := [.i .i64]
end
end S
noncomputable def awk25E : K.CEnt := ⟨9, (fun xs os => match xs, os with
  | [], [] => some (true, ⟨.ret (.bool true), [], []⟩)
  | _, _ => none), []⟩
end Go.Proofs.Ytogngajglbgjmaa.Ev
