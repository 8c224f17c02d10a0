/- Contracts, what they say: Ffb. -/
import Derived.Test.YtogngajglbgjmaaFpkD
import Derived.Test.YtogngajglbgjmaaFunD
import Derived.Test.YtogngajglbgjmaaFsmD
import Derived.Test.YtogngajglbgjmaaFakD
namespace Go.Proofs.Ytogngajglbgjmaa.Ev
open Go
set_option linter.unusedVariables false
namespace S
noncomputable section
def byV (n : Int) : List LV := [.int .u8 n]
def byK : List CK := [.i .u8]
def inV (n : Int) : List LV := [.int .i64 n]
def inK : List CK := [.i .i64]
end
end S
noncomputable def fuGZE : K.CEnt := ⟨9, (fun xs os => match xs, os with
  | [.slice 0 0 L (.known q)], [.flat [.i .u8] et .ro vs] => some (S.okU1 vs L q, ⟨.ret (.tup [.slice 1 0 (S.ul vs L - 1) (.rest 0), .int .i64 0]), [], [.flat [.i .i64] 3 (.grow 1) (S.uw vs L)]⟩)
  | [.slice 0 0 L (.rest 0)], [.flat [.i .u8] et (.grow 1) vs] => some (S.okU0 vs L L, ⟨.ret (.tup [.slice 1 0 0 (.known 0), .int .i64 0]), [], [.cells 3 .exact []]⟩)
  | _, _ => none), [5]⟩
noncomputable def fuBZE : K.CEnt := ⟨9, (fun xs os => match xs, os with
  | [.slice 0 0 L (.known q)], [.flat [.i .u8] et .ro vs] => some (S.okUB vs L q, ⟨.ret (.tup [.nils, .int .i64 9]), [], []⟩)
  | [.slice 0 0 L (.rest 0)], [.flat [.i .u8] et (.grow 1) vs] => some (S.okU0 vs L L, ⟨.ret (.tup [.slice 1 0 0 (.known 0), .int .i64 0]), [], [.cells 3 .exact []]⟩)
  | _, _ => none), [5]⟩
noncomputable def fuZGE : K.CEnt := ⟨9, (fun xs os => match xs, os with
  | [.slice 0 0 L (.known q)], [.flat [.i .u8] et .ro vs] => some (S.okU0 vs L q, ⟨.ret (.tup [.slice 1 0 0 (.known 0), .int .i64 0]), [], [.cells 3 .exact []]⟩)
  | [.slice 0 0 L (.rest 0)], [.flat [.i .u8] et (.grow 1) vs] => some (S.okU1 vs L L, ⟨.ret (.tup [.slice 1 0 (S.ul vs L - 1) (.rest 0), .int .i64 0]), [], [.flat [.i .i64] 3 (.grow 1) (S.uw vs L)]⟩)
  | _, _ => none), [5]⟩
noncomputable def fuBGE : K.CEnt := ⟨9, (fun xs os => match xs, os with
  | [.slice 0 0 L (.known q)], [.flat [.i .u8] et .ro vs] => some (S.okUB vs L q, ⟨.ret (.tup [.nils, .int .i64 9]), [], []⟩)
  | [.slice 0 0 L (.rest 0)], [.flat [.i .u8] et (.grow 1) vs] => some (S.okU1 vs L L, ⟨.ret (.tup [.slice 1 0 (S.ul vs L - 1) (.rest 0), .int .i64 0]), [], [.flat [.i .i64] 3 (.grow 1) (S.uw vs L)]⟩)
  | _, _ => none), [5]⟩
noncomputable def pkBGE : K.CEnt := ⟨9, (fun xs os => match xs, os with
  | [.slice 0 0 W cp], [.flat [.i .i64] et .ro ws] => some (S.okWB ws W, ⟨.ret (.tup [.nils, .int .i64 6]), [], []⟩)
  | [.slice 0 0 W cp], [.flat [.i .i64] et (.grow 1) ws] => some (S.okWG ws W, ⟨.ret (.tup [.slice 1 0 (S.packL ws W) (.rest 0), .int .i64 0]), [], [.flat [.i .u8] 5 (.grow 1) (S.packed ws W)]⟩)
  | _, _ => none), [3]⟩
end Go.Proofs.Ytogngajglbgjmaa.Ev
