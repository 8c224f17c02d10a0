/- Contracts, what they say: Lcp. -/
import Derived.Test.YtmnpnomllcghmaaPlcD
import Derived.Test.YtmnpnomllcghmaaLccD
namespace Go.Proofs.Ytmnpnomllcghmaa.Ev
open Go
set_option linter.unusedVariables false
namespace S
noncomputable section
def okCp (n a d l m s k : Int) : Bool := an (an (inR n 160) (an (eqI a (n % 4)) (eqI s (st (n / 4))))) (an (an (eqI d 4) (eqI m 40)) (an (eqI l (st 39)) (inR k 256)))
end
end S
noncomputable def cpB : K.BEnt := ⟨[1, 2, 7, 9, 10], 9, fun xs os => match xs, os with
  | [.int .u8 k, .int .i64 ask, .ptr 0 0, .int .i64 n, .int .i64 0], [.cells 98 .exact [.ptr 1 0, .ptr 2 0], .cells 89 .exact [.int .i64 a, .int .i64 d], .cells 93 .exact [.ptr 3 0, .int .u8 l, .int .i64 m], .cells 110 .exact [.int .u8 s, .int .i64 6, .int .i64 1]] => some (S.okCp n a d l m s k, ⟨.normal, [(1, .int .u8 k), (2, .int .i64 ask), (7, .ptr 0 0), (9, .int .i64 ((n + k) % 160)), (10, .int .i64 k)], [(1, .cells 89 .exact [.int .i64 (((n + k) % 160) % 4), .int .i64 4]), (3, .cells 110 .exact [.int .u8 (S.st (((n + k) % 160) / 4)), .int .i64 6, .int .i64 1])], []⟩)
  | _, _ => none⟩
end Go.Proofs.Ytmnpnomllcghmaa.Ev
