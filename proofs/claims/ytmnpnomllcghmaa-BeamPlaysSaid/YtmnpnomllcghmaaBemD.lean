/- Contracts, what they say: Bem. -/
import Derived.Test.YtmnpnomllcghmaaPlcD
namespace Go.Proofs.Ytmnpnomllcghmaa.Ev
open Go
set_option linter.unusedVariables false
namespace S
noncomputable section
def okBm (a s d l n : Int) : Bool := an (an (inR a 4) (an (isSt s) (ltI (ix s) 57))) (an (eqI d 4) (an (eqI l (st 56)) (eqI n 57)))
end
end S
noncomputable def bClockE : K.CEnt := ⟨9, (fun xs os => match xs, os with
  | [.ptr 0 0], [.cells 103 .exact [.ptr 1 0, .ptr 2 0, .bool b], .cells 89 .exact [.int .i64 a, .int .i64 d], .cells 93 .exact [.ptr 3 0, .int .u8 l, .int .i64 n], .cells 110 .exact [.int .u8 s, .int .i64 6, .int .i64 1]] => some (S.okBm a s d l n, ⟨.ret (.int .i64 (S.plc a s)), [], []⟩)
  | _, _ => none), []⟩
noncomputable def bNextE : K.CEnt := ⟨9, (fun xs os => match xs, os with
  | [.ptr 0 0], [.cells 103 .exact [.ptr 1 0, .ptr 2 0, .bool b], .cells 89 .exact [.int .i64 a, .int .i64 d], .cells 93 .exact [.ptr 3 0, .int .u8 l, .int .i64 n], .cells 110 .exact [.int .u8 s, .int .i64 6, .int .i64 1]] => some (S.okBm a s d l n, ⟨.ret (.tup []), [(1, .cells 89 .exact [.int .i64 (bc (ltI (a+1) d) (a+1) 0), .int .i64 d]), (3, .cells 110 .exact [.int .u8 (bc (ltI (a+1) d) s (bc (eqI s l) 0 (S.nx s))), .int .i64 6, .int .i64 1])], []⟩)
  | _, _ => none), []⟩
noncomputable def bBeginE : K.CEnt := ⟨9, (fun xs os => match xs, os with
  | [.ptr 0 0], [.cells 103 .exact [.ptr 1 0, .ptr 2 0, .bool b], .cells 89 .exact [.int .i64 a, .int .i64 d], .cells 93 .exact [.ptr 3 0, .int .u8 l, .int .i64 n], .cells 110 .exact [.int .u8 s, .int .i64 6, .int .i64 1]] => some (S.okBm a s d l n, ⟨.ret (.bool (S.an (eqI a 0) (eqI s 0))), [(0, .cells 103 .exact [.ptr 1 0, .ptr 2 0, .bool (bc (S.an (eqI a 0) (eqI s 0)) false b)])], []⟩)
  | _, _ => none), []⟩
noncomputable def bCombE : K.CEnt := ⟨9, (fun xs os => match xs, os with
  | [.ptr 0 0], [.cells 103 .exact [.ptr 1 0, .ptr 2 0, .bool b], .cells 89 .exact [.int .i64 a, .int .i64 d], .cells 93 .exact [.ptr 3 0, .int .u8 l, .int .i64 n], .cells 110 .exact [.int .u8 s, .int .i64 6, .int .i64 1]] => some (S.okBm a s d l n, ⟨.ret (.tup []), [(0, .cells 103 .exact [.ptr 1 0, .ptr 2 0, .bool true])], []⟩)
  | _, _ => none), []⟩
noncomputable def bPulseE : K.CEnt := ⟨9, (fun xs os => match xs, os with
  | [.ptr 0 0], [.cells 103 .exact [.ptr 1 0, .ptr 2 0, .bool b], .cells 89 .exact [.int .i64 a, .int .i64 d], .cells 93 .exact [.ptr 3 0, .int .u8 l, .int .i64 n], .cells 110 .exact [.int .u8 s, .int .i64 6, .int .i64 1]] => some (S.okBm a s d l n, ⟨.ret (.bool (S.an (notB (ltI (S.ix s) 5)) (notB (ltI 8 (S.ix s))))), [], []⟩)
  | _, _ => none), []⟩
noncomputable def bDarkE : K.CEnt := ⟨9, (fun xs os => match xs, os with
  | [.ptr 0 0], [.cells 103 .exact [.ptr 1 0, .ptr 2 0, .bool b], .cells 89 .exact [.int .i64 a, .int .i64 d], .cells 93 .exact [.ptr 3 0, .int .u8 l, .int .i64 n], .cells 110 .exact [.int .u8 s, .int .i64 6, .int .i64 1]] => some (S.okBm a s d l n, ⟨.ret (.bool (bc b (ltI (S.ix s) 19) (ltI (S.ix s) 17))), [], []⟩)
  | _, _ => none), []⟩
noncomputable def bNewE : K.CEnt := ⟨9, (fun xs os => match xs, os with
  | [.int .i64 m], [] => some (S.inR m 228, ⟨.ret (.ptr 0 0), [], [.cells 103 .exact [.ptr 1 0, .ptr 2 0, .bool false], .cells 89 .exact [.int .i64 (m % 4), .int .i64 4], .cells 93 .exact [.ptr 3 0, .int .u8 (S.st 56), .int .i64 57], .cells 110 .exact [.int .u8 (S.st (m / 4)), .int .i64 6, .int .i64 1]]⟩)
  | _, _ => none), []⟩
end Go.Proofs.Ytmnpnomllcghmaa.Ev
