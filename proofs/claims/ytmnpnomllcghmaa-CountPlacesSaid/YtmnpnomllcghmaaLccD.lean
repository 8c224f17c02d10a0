/- Contracts, what they say: Lcc. -/
import Derived.Test.YtmnpnomllcghmaaCntD
namespace Go.Proofs.Ytmnpnomllcghmaa.Ev
open Go
set_option linter.unusedVariables false
namespace S
noncomputable section
def okCc (n m a l k t : Int) : Bool := an (eqI m n) (an (an (an (inR (n - 1) 63) (inR a n)) (an (eqI l (st (n - 1))) (eqI t (st a)))) (inR k 256))
end
end S
noncomputable def ccB : K.BEnt := ⟨[1, 3, 5, 6], 9, fun xs os => match xs, os with
  | [.ptr 0 0, .ptr 1 0, .int .i64 a, .int .i64 0], [.cells 30 .exact [.int .i64 n, .int .i64 s, .int .u8 k], .cells 93 .exact [.ptr 2 0, .int .u8 l, .int .i64 m], .cells 110 .exact [.int .u8 t, .int .i64 6, .int .i64 1]] => some (S.okCc n m a l k t, ⟨.normal, [(1, .ptr 0 0), (3, .ptr 1 0), (5, .int .i64 ((a + k) % n)), (6, .int .i64 k)], [(2, .cells 110 .exact [.int .u8 (S.st ((a + k) % n)), .int .i64 6, .int .i64 1])], []⟩)
  | _, _ => none⟩
noncomputable def awk2E : K.CEnt := ⟨9, fun xs os => match xs, os with
  | [], [] => some (true, ⟨.ret (.bool true), [], []⟩)
  | _, _ => none⟩
end Go.Proofs.Ytmnpnomllcghmaa.Ev
