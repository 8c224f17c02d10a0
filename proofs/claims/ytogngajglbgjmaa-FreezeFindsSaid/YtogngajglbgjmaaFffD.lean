/- Contracts, what they say: Fff. -/
import Derived.Test.YtogngajglbgjmaaFpkD
import Derived.Test.YtogngajglbgjmaaFunD
import Derived.Test.YtogngajglbgjmaaFakD
namespace Go.Proofs.Ytogngajglbgjmaa.Ev
open Go
set_option linter.unusedVariables false
namespace S
noncomputable section
def inV (n : Int) : List LV := [.int .i64 n]
def inK : List CK := [.i .i64]
/-- Which byte is turned. -/
def fx (a : Int) (L : Nat) : Int := wrapK .i64 ((wrapK .u64 a).tmod (wrapK .u64 ↑(0 + L)))
end
end S
noncomputable def pkNE : K.CEnt := ⟨9, (fun xs os => match xs, os with
  | [.nils], [] => some (true, ⟨.ret (.tup [.slice 0 0 (S.packL [] 0) (.rest 0), .int .i64 0]), [], [.flat [.i .u8] 5 (.grow 1) (S.packed [] 0)]⟩)
  | _, _ => none), []⟩
noncomputable def pkEE : K.CEnt := ⟨9, (fun xs os => match xs, os with
  | [.emp 0], [.empty] => some (true, ⟨.ret (.tup [.slice 1 0 (S.packL [] 0) (.rest 0), .int .i64 0]), [], [.flat [.i .u8] 5 (.grow 1) (S.packed [] 0)]⟩)
  | _, _ => none), []⟩
end Go.Proofs.Ytogngajglbgjmaa.Ev
