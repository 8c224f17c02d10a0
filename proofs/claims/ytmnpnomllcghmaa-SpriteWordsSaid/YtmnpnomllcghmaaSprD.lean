/- Contracts, what they say: Spr. -/
import Derived.Test.YtmnpnomllcghmaaPlcD
namespace Go.Proofs.Ytmnpnomllcghmaa.Ev
open Go
set_option linter.unusedVariables false
namespace S
noncomputable section
def bit (k : Nat) (line : Int) : Bool := notB (eqI (andK IntKind.u16 (Int.fdiv line (2 ^ k)) 1) 0)
def orb (a b : Bool) : Bool := bc a true b
def starts (c m : Int) : Bool := orb (eqI m 0) (orb (an (orb (eqI c 1) (eqI c 3)) (eqI m 16)) (orb (an (orb (eqI c 2) (orb (eqI c 3) (eqI c 6))) (eqI m 32)) (an (orb (eqI c 4) (eqI c 6)) (eqI m 64))))
def young (line scan : Int) : Int := (bc (bit 0 line) 0 (bc (bit 1 line) 1 (bc (bit 2 line) 2 (bc (bit 3 line) 3 (bc (bit 4 line) 4 (bc (bit 5 line) 5 (bc (bit 6 line) 6 (bc (bit 7 line) 7 scan))))))))
def elder (line scan : Int) : Int := (bc (bit 0 line) (bc (bit 1 line) 1 (bc (bit 2 line) 2 (bc (bit 3 line) 3 (bc (bit 4 line) 4 (bc (bit 5 line) 5 (bc (bit 6 line) 6 (bc (bit 7 line) 7 scan))))))) (bc (bit 1 line) (bc (bit 2 line) 2 (bc (bit 3 line) 3 (bc (bit 4 line) 4 (bc (bit 5 line) 5 (bc (bit 6 line) 6 (bc (bit 7 line) 7 scan)))))) (bc (bit 2 line) (bc (bit 3 line) 3 (bc (bit 4 line) 4 (bc (bit 5 line) 5 (bc (bit 6 line) 6 (bc (bit 7 line) 7 scan))))) (bc (bit 3 line) (bc (bit 4 line) 4 (bc (bit 5 line) 5 (bc (bit 6 line) 6 (bc (bit 7 line) 7 scan)))) (bc (bit 4 line) (bc (bit 5 line) 5 (bc (bit 6 line) 6 (bc (bit 7 line) 7 scan))) (bc (bit 5 line) (bc (bit 6 line) 6 (bc (bit 7 line) 7 scan)) (bc (bit 6 line) (bc (bit 7 line) 7 scan) (bc (bit 7 line) scan 255))))))))
def okPm (a d l n s : Int) : Bool := an (okPl a s d n) (an (eqI l (st 39)) (inR (plc a s) 160))
def okTh (line scan : Int) : Bool := an (inR line 256) (an (notB (ltI scan 8)) (ltI scan 256))
def tline (line : Int) (b : Bool) : Int := (2 * line) % 256 + bc b 1 0
def tscan (line scan : Int) : Int := bc (ltI line 128) (bc (ltI scan 255) (scan + 1) 255) 8
def nxp (m : Int) : Int := bc (eqI m 159) 0 (m + 1)
def okW (m y e : Int) : Bool := an (inR m 160) (an (an (notB (ltI y 0)) (notB (ltI 255 y))) (an (notB (ltI 255 e)) (bc (ltI y 8) (ltI y e) (eqI e 255))))
def sline (y e : Int) : Int := bc (ltI e 8) (2 ^ e.toNat) 0 + bc (ltI y 8) (2 ^ y.toNat) 0
def sscan (y e : Int) : Int := bc (ltI y 8) (bc (ltI e 8) 255 e) y
def okR (m y e c : Int) : Bool := an (inR m 160) (an (inR y 256) (an (inR e 256) (notB (ltI c 0))))
def old (y : Int) : Int := bc (ltI y 255) (y + 1) 255
def rY (y : Int) (b : Bool) : Int := bc b 0 (old y)
def rE (y e : Int) (b : Bool) : Int := bc (ltI (rY y b) 8) (bc b (old y) (old e)) 255
def lead7 (n : Int) : Int := bc (ltI n 0) 0 (bc (ltI 7 n) 7 n)
def dot (y e n : Int) : Int := bc (ltI y (lead7 n)) (bc (ltI e (lead7 n)) (-1) (e - lead7 n)) (y - lead7 n)
end
end S
noncomputable def tStartsE : K.CEnt := ⟨9, (fun xs os => match xs, os with
  | [.ptr 0 0, .int .u8 c], [.cells 107 .exact [.ptr 1 0, .int .u16 line, .int .i64 scan], .cells 98 .exact [.ptr 2 0, .ptr 3 0], .cells 89 .exact [.int .i64 a, .int .i64 d], .cells 93 .exact [.ptr 4 0, .int .u8 l, .int .i64 n], .cells 110 .exact [.int .u8 s, .int .i64 6, .int .i64 1]] => some (S.an (S.okPm a d l n s) (S.inR c 256), ⟨.ret (.bool (S.starts (c % 8) (S.plc a s))), [], []⟩)
  | _, _ => none), []⟩
noncomputable def tTwoE : K.CEnt := ⟨9, (fun xs os => match xs, os with
  | [.ptr 0 0], [.cells 107 .exact [.ptr 1 0, .int .u16 line, .int .i64 scan], .cells 98 .exact [.ptr 2 0, .ptr 3 0], .cells 89 .exact [.int .i64 a, .int .i64 d], .cells 93 .exact [.ptr 4 0, .int .u8 l, .int .i64 n], .cells 110 .exact [.int .u8 s, .int .i64 6, .int .i64 1]] => some (true, ⟨.ret (.agg [.int .i64 (S.young line scan), .int .i64 (S.elder line scan)]), [], []⟩)
  | _, _ => none), []⟩
noncomputable def tTickE : K.CEnt := ⟨9, (fun xs os => match xs, os with
  | [.ptr 0 0, .int .u8 c], [.cells 107 .exact [.ptr 1 0, .int .u16 line, .int .i64 scan], .cells 98 .exact [.ptr 2 0, .ptr 3 0], .cells 89 .exact [.int .i64 a, .int .i64 d], .cells 93 .exact [.ptr 4 0, .int .u8 l, .int .i64 n], .cells 110 .exact [.int .u8 s, .int .i64 6, .int .i64 1]] => some (S.an (S.an (S.okPm a d l n s) (S.okTh line scan)) (S.inR c 256), ⟨.ret (.tup []), [(0, .cells 107 .exact [.ptr 1 0, .int .u16 (S.tline line (S.starts (c % 8) (S.nxp (S.plc a s)))), .int .i64 (S.tscan line scan)]), (2, .cells 89 .exact [.int .i64 (bc (ltI (a+1) d) (a+1) 0), .int .i64 d]), (4, .cells 110 .exact [.int .u8 (bc (ltI (a+1) d) s (bc (eqI s l) 0 (S.nx s))), .int .i64 6, .int .i64 1])], []⟩)
  | _, _ => none), []⟩
noncomputable def tCountE : K.CEnt := ⟨9, (fun xs os => match xs, os with
  | [.ptr 0 0], [.cells 107 .exact [.ptr 1 0, .int .u16 line, .int .i64 scan], .cells 98 .exact [.ptr 2 0, .ptr 3 0], .cells 89 .exact [.int .i64 a, .int .i64 d], .cells 93 .exact [.ptr 4 0, .int .u8 l, .int .i64 n], .cells 110 .exact [.int .u8 s, .int .i64 6, .int .i64 1]] => some (S.okPm a d l n s, ⟨.ret (.int .i64 (S.plc a s)), [], []⟩)
  | _, _ => none), []⟩
noncomputable def tPutE : K.CEnt := ⟨9, (fun xs os => match xs, os with
  | [.ptr 0 0, .int .i64 m], [.cells 107 .exact [.ptr 1 0, .int .u16 line, .int .i64 scan], .cells 98 .exact [.ptr 2 0, .ptr 3 0], .cells 89 .exact [.int .i64 a, .int .i64 d], .cells 93 .exact [.ptr 4 0, .int .u8 l, .int .i64 n], .cells 110 .exact [.int .u8 s, .int .i64 6, .int .i64 1]] => some (S.okPm a d l n s, ⟨.ret (.int .i64 (bc (S.inR m 160) 0 6)), [(2, .cells 89 .exact [.int .i64 (bc (S.inR m 160) (m % 4) a), .int .i64 d]), (4, .cells 110 .exact [.int .u8 (bc (S.inR m 160) (S.st (m / 4)) s), .int .i64 6, .int .i64 1])], []⟩)
  | _, _ => none), []⟩
noncomputable def tDotE : K.CEnt := ⟨9, (fun xs os => match xs, os with
  | [.ptr 0 0, .int .i64 q], [.cells 107 .exact [.ptr 1 0, .int .u16 line, .int .i64 scan], .cells 98 .exact [.ptr 2 0, .ptr 3 0], .cells 89 .exact [.int .i64 a, .int .i64 d], .cells 93 .exact [.ptr 4 0, .int .u8 l, .int .i64 n], .cells 110 .exact [.int .u8 s, .int .i64 6, .int .i64 1]] => some (S.okTh line scan, ⟨.ret (.int .i64 (S.dot (S.young line scan) (S.elder line scan) q)), [], []⟩)
  | _, _ => none), []⟩
noncomputable def tWordsE : K.CEnt := ⟨9, (fun xs os => match xs, os with
  | [.ptr 0 0], [.cells 107 .exact [.ptr 1 0, .int .u16 line, .int .i64 scan], .cells 98 .exact [.ptr 2 0, .ptr 3 0], .cells 89 .exact [.int .i64 a, .int .i64 d], .cells 93 .exact [.ptr 4 0, .int .u8 l, .int .i64 n], .cells 110 .exact [.int .u8 s, .int .i64 6, .int .i64 1]] => some (S.okPm a d l n s, ⟨.ret (.agg [.int .i64 (S.plc a s), .int .i64 (S.young line scan), .int .i64 (S.elder line scan)]), [], []⟩)
  | _, _ => none), []⟩
noncomputable def tSetE : K.CEnt := ⟨9, (fun xs os => match xs, os with
  | [.ptr 0 0, .agg [.int .i64 w0, .int .i64 w1, .int .i64 w2]], [.cells 107 .exact [.ptr 1 0, .int .u16 line, .int .i64 scan], .cells 98 .exact [.ptr 2 0, .ptr 3 0], .cells 89 .exact [.int .i64 a, .int .i64 d], .cells 93 .exact [.ptr 4 0, .int .u8 l, .int .i64 n], .cells 110 .exact [.int .u8 s, .int .i64 6, .int .i64 1]] => some (S.okPm a d l n s, ⟨.ret (.int .i64 (bc (S.okW w0 w1 w2) 0 6)), [(0, .cells 107 .exact [.ptr 1 0, .int .u16 (bc (S.okW w0 w1 w2) (S.sline w1 w2) line), .int .i64 (bc (S.okW w0 w1 w2) (S.sscan w1 w2) scan)]), (2, .cells 89 .exact [.int .i64 (bc (S.okW w0 w1 w2) (w0 % 4) a), .int .i64 d]), (4, .cells 110 .exact [.int .u8 (bc (S.okW w0 w1 w2) (S.st (w0 / 4)) s), .int .i64 6, .int .i64 1])], []⟩)
  | _, _ => none), []⟩
noncomputable def tNewE : K.CEnt := ⟨9, (fun xs os => match xs, os with
  | [], [] => some (true, ⟨.ret (.ptr 0 0), [], [.cells 107 .exact [.ptr 1 0, .int .u16 0, .int .i64 255], .cells 98 .exact [.ptr 2 0, .ptr 3 0], .cells 89 .exact [.int .i64 0, .int .i64 4], .cells 93 .exact [.ptr 4 0, .int .u8 (S.st 39), .int .i64 40], .cells 110 .exact [.int .u8 0, .int .i64 6, .int .i64 1]]⟩)
  | _, _ => none), []⟩
noncomputable def tCopyE : K.CEnt := ⟨9, (fun xs os => match xs, os with
  | [.ptr 0 0], [.cells 107 .exact [.ptr 1 0, .int .u16 line, .int .i64 scan], .cells 98 .exact [.ptr 2 0, .ptr 3 0], .cells 89 .exact [.int .i64 a, .int .i64 d], .cells 93 .exact [.ptr 4 0, .int .u8 l, .int .i64 n], .cells 110 .exact [.int .u8 s, .int .i64 6, .int .i64 1]] => some (S.okPm a d l n s, ⟨.ret (.ptr 5 0), [], [.cells 107 .exact [.ptr 6 0, .int .u16 line, .int .i64 scan], .cells 98 .exact [.ptr 7 0, .ptr 8 0], .cells 89 .exact [.int .i64 (bc (S.inR (S.plc a s) 160) (S.plc a s % 4) 0), .int .i64 4], .cells 93 .exact [.ptr 9 0, .int .u8 (S.st 39), .int .i64 40], .cells 110 .exact [.int .u8 (bc (S.inR (S.plc a s) 160) (S.st (S.plc a s / 4)) 0), .int .i64 6, .int .i64 1]]⟩)
  | _, _ => none), []⟩
noncomputable def rStartE : K.CEnt := ⟨9, (fun xs os => match xs, os with
  | [.int .i64 c, .int .i64 m], [] => some (notB (ltI c 0), ⟨.ret (.bool (S.starts (c % 8) m)), [], []⟩)
  | _, _ => none), []⟩
noncomputable def rTickE : K.CEnt := ⟨9, (fun xs os => match xs, os with
  | [.agg [.int .i64 m, .int .i64 y, .int .i64 e], .int .i64 c], [] => some (S.okR m y e c, ⟨.ret (.agg [.int .i64 (S.nxp m), .int .i64 (S.rY y (S.starts (c % 8) (S.nxp m))), .int .i64 (S.rE y e (S.starts (c % 8) (S.nxp m)))]), [], []⟩)
  | _, _ => none), []⟩
noncomputable def rDotE : K.CEnt := ⟨9, (fun xs os => match xs, os with
  | [.agg [.int .i64 m, .int .i64 y, .int .i64 e], .int .i64 q], [] => some (S.okR m y e 0, ⟨.ret (.int .i64 (S.dot y e q)), [], []⟩)
  | _, _ => none), []⟩
end Go.Proofs.Ytmnpnomllcghmaa.Ev
