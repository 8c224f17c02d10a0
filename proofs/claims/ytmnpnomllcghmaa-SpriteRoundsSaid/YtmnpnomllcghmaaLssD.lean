/- Contracts, what they say: Lss. -/
import Derived.Test.YtmnpnomllcghmaaSprD
namespace Go.Proofs.Ytmnpnomllcghmaa.Ev
open Go
set_option linter.unusedVariables false
noncomputable def rStrE (r : Int) : K.CEnt := ⟨9, (fun xs os => match xs, os with
  | [.int .i64 c, .int .i64 m], [] => some (S.an (notB (ltI c 0)) (eqI (c % 8) r), ⟨.ret (.bool (S.starts r m)), [], []⟩)
  | _, _ => none), []⟩
noncomputable def awk16E : K.CEnt := ⟨9, (fun xs os => match xs, os with
  | [], [] => some (true, ⟨.ret (.bool true), [], []⟩)
  | _, _ => none), []⟩
end Go.Proofs.Ytmnpnomllcghmaa.Ev
