/- Contracts, what they say: Lcm. -/
import Derived.Test.YtmnpnomllcghmaaCntD
import Derived.Test.YtmnpnomllcghmaaLccD
namespace Go.Proofs.Ytmnpnomllcghmaa.Ev
open Go
set_option linter.unusedVariables false
namespace S
noncomputable section
def okM0 (n m i t : Int) : Bool := an (an (inR (n - 1) 63) (inR i n)) (an (eqI m n) (eqI t (st i)))
def okM2 (n m m2 i t : Int) : Bool := an (an (inR (n - 1) 63) (isSt t)) (an (inR (ix t) n) (an (eqI m n) (eqI m2 n)))
/-- The second counter's state behind j rounds; how often the marks were alike. -/
def m2st (j : Int) : Int := bc (eqI j 0) 0 (st (j - 1))
def m2sm (i j : Int) : Int := bc (ltI i j) 1 0
end
end S
noncomputable def m0B : K.BEnt := ⟨[0, 1, 5, 6], 9, fun xs os => match xs, os with
  | [.int .i64 n, .int .i64 i, .ptr 0 0, .int .i64 0], [.cells 93 .exact [.ptr 1 0, .int .u8 l, .int .i64 m], .cells 110 .exact [.int .u8 t, .int .i64 6, .int .i64 1]] => some (S.okM0 n m i t, ⟨.normal, [(0, .int .i64 n), (1, .int .i64 i), (5, .ptr 0 0), (6, .int .i64 n)], [], []⟩)
  | _, _ => none⟩
noncomputable def m2B : K.BEnt := ⟨[0, 5, 7, 8, 9], 9, fun xs os => match xs, os with
  | [.int .i64 n, .ptr 0 0, .ptr 2 0, .int .i64 0, .int .i64 0], [.cells 93 .exact [.ptr 1 0, .int .u8 l, .int .i64 m], .cells 110 .exact [.int .u8 t, .int .i64 6, .int .i64 1], .cells 93 .exact [.ptr 3 0, .int .u8 l2, .int .i64 m2], .cells 110 .exact [.int .u8 0, .int .i64 6, .int .i64 1]] => some (S.okM2 n m m2 0 t, ⟨.normal, [(0, .int .i64 n), (5, .ptr 0 0), (7, .ptr 2 0), (8, .int .i64 1), (9, .int .i64 n)], [(3, .cells 110 .exact [.int .u8 (S.m2st n), .int .i64 6, .int .i64 1])], []⟩)
  | _, _ => none⟩
end Go.Proofs.Ytmnpnomllcghmaa.Ev
