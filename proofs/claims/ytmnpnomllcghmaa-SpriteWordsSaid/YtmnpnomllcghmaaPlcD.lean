/- Contracts, what they say: Plc. -/
import Derived.Test.YtmnpnomllcghmaaCntD
namespace Go.Proofs.Ytmnpnomllcghmaa.Ev
open Go
set_option linter.unusedVariables false
namespace S
noncomputable section
def okPl (a s d n : Int) : Bool := an (an (inR a 4) (isSt s)) (an (eqI d 4) (eqI n 40))
def plc (a s : Int) : Int := 4 * ix s + a
end
end S
noncomputable def pTickE : K.CEnt := ⟨9, (fun xs os => match xs, os with
  | [.ptr 0 0], [.cells 98 .exact [.ptr 1 0, .ptr 2 0], .cells 89 .exact [.int .i64 a, .int .i64 d], .cells 93 .exact [.ptr 3 0, .int .u8 l, .int .i64 n], .cells 110 .exact [.int .u8 s, .int .i64 6, .int .i64 1]] => some (S.okPl a s d n, ⟨.ret (.bool (S.an (notB (ltI (a+1) d)) (eqI s l))), [(1, .cells 89 .exact [.int .i64 (bc (ltI (a+1) d) (a+1) 0), .int .i64 d]), (3, .cells 110 .exact [.int .u8 (bc (ltI (a+1) d) s (bc (eqI s l) 0 (S.nx s))), .int .i64 6, .int .i64 1])], []⟩)
  | _, _ => none), []⟩
noncomputable def pCountE : K.CEnt := ⟨9, (fun xs os => match xs, os with
  | [.ptr 0 0], [.cells 98 .exact [.ptr 1 0, .ptr 2 0], .cells 89 .exact [.int .i64 a, .int .i64 d], .cells 93 .exact [.ptr 3 0, .int .u8 l, .int .i64 n], .cells 110 .exact [.int .u8 s, .int .i64 6, .int .i64 1]] => some (S.okPl a s d n, ⟨.ret (.int .i64 (S.plc a s)), [], []⟩)
  | _, _ => none), []⟩
noncomputable def pAtE : K.CEnt := ⟨9, (fun xs os => match xs, os with
  | [.ptr 0 0, .int .i64 m], [.cells 98 .exact [.ptr 1 0, .ptr 2 0], .cells 89 .exact [.int .i64 a, .int .i64 d], .cells 93 .exact [.ptr 3 0, .int .u8 l, .int .i64 n], .cells 110 .exact [.int .u8 s, .int .i64 6, .int .i64 1]] => some (S.okPl a s d n, ⟨.ret (.bool (S.an (S.inR m 160) (S.an (eqI a (m % 4)) (eqI s (S.st (m / 4)))))), [], []⟩)
  | _, _ => none), []⟩
noncomputable def pSetE : K.CEnt := ⟨9, (fun xs os => match xs, os with
  | [.ptr 0 0, .int .i64 m], [.cells 98 .exact [.ptr 1 0, .ptr 2 0], .cells 89 .exact [.int .i64 a, .int .i64 d], .cells 93 .exact [.ptr 3 0, .int .u8 l, .int .i64 n], .cells 110 .exact [.int .u8 s, .int .i64 6, .int .i64 1]] => some (S.okPl a s d n, ⟨.ret (.int .i64 (bc (S.inR m 160) 0 6)), [(1, .cells 89 .exact [.int .i64 (bc (S.inR m 160) (m % 4) a), .int .i64 d]), (3, .cells 110 .exact [.int .u8 (bc (S.inR m 160) (S.st (m / 4)) s), .int .i64 6, .int .i64 1])], []⟩)
  | _, _ => none), []⟩
noncomputable def pBeginE : K.CEnt := ⟨9, (fun xs os => match xs, os with
  | [], [] => some (true, ⟨.ret (.ptr 0 0), [], [.cells 98 .exact [.ptr 1 0, .ptr 2 0], .cells 89 .exact [.int .i64 0, .int .i64 4], .cells 93 .exact [.ptr 3 0, .int .u8 (S.st 39), .int .i64 40], .cells 110 .exact [.int .u8 0, .int .i64 6, .int .i64 1]]⟩)
  | _, _ => none), []⟩
noncomputable def pCopyE : K.CEnt := ⟨9, (fun xs os => match xs, os with
  | [.ptr 0 0], [.cells 98 .exact [.ptr 1 0, .ptr 2 0], .cells 89 .exact [.int .i64 a, .int .i64 d], .cells 93 .exact [.ptr 3 0, .int .u8 l, .int .i64 n], .cells 110 .exact [.int .u8 s, .int .i64 6, .int .i64 1]] => some (S.okPl a s d n, ⟨.ret (.ptr 4 0), [], [.cells 98 .exact [.ptr 5 0, .ptr 6 0], .cells 89 .exact [.int .i64 (bc (S.inR (S.plc a s) 160) (S.plc a s % 4) 0), .int .i64 4], .cells 93 .exact [.ptr 7 0, .int .u8 (S.st 39), .int .i64 40], .cells 110 .exact [.int .u8 (bc (S.inR (S.plc a s) 160) (S.st (S.plc a s / 4)) 0), .int .i64 6, .int .i64 1]]⟩)
  | _, _ => none), []⟩
end Go.Proofs.Ytmnpnomllcghmaa.Ev
