/- Contracts, what they say: Cnt. -/
import Derived.Test.YtmnpnomllcghmaaE0
namespace Go.Proofs.Ytmnpnomllcghmaa.Ev
open Go
set_option linter.unusedVariables false
namespace S
noncomputable section
def stL : List Nat := [0, 32, 48, 56, 60, 62, 31, 47, 55, 59, 61, 30, 15, 39, 51, 57, 28, 46, 23, 43, 53, 26, 13, 6, 3, 33, 16, 40, 52, 58, 29, 14, 7, 35, 49, 24, 44, 54, 27, 45, 22, 11, 37, 18, 9, 4, 34, 17, 8, 36, 50, 25, 12, 38, 19, 41, 20, 42, 21, 10, 5, 2, 1]
def ixL : List Nat := [0, 62, 61, 24, 45, 60, 23, 32, 48, 44, 59, 41, 52, 22, 31, 12, 26, 47, 43, 54, 56, 58, 40, 18, 35, 51, 21, 38, 16, 30, 11, 6, 1, 25, 46, 33, 49, 42, 53, 13, 27, 55, 57, 19, 36, 39, 17, 7, 2, 34, 50, 14, 28, 20, 37, 8, 3, 15, 29, 9, 4, 10, 5, 63]
def nthN (l : List Nat) (d : Nat) (i : Nat) : Nat := @List.rec Nat (fun _ => Nat → Nat) (fun _ => d) (fun x _ g i => @Nat.rec (fun _ => Nat) x (fun j _ => g j) i) l i
/-- The state behind so many steps; the steps to a state. -/
def st (i : Int) : Int := Int.ofNat (nthN stL 0 i.toNat)
def ix (s : Int) : Int := Int.ofNat (nthN ixL 63 s.toNat)
def isSt (s : Int) : Bool := @Bool.rec (fun _ => Bool) (ltI (ix s) 63) false (ltI s 0)
/-- The next state. -/
def nx (s : Int) : Int := st ((ix s + 1) % 63)
def an (a b : Bool) : Bool := bc a b false
def inR (a n : Int) : Bool := bc (ltI a 0) false (ltI a n)
end
end S
noncomputable def pnextE : K.CEnt := ⟨9, (fun xs os => match xs, os with
  | [.ptr 0 0, .int .u8 s], [.cells 110 .exact [.int .u8 x, .int .i64 6, .int .i64 1]] => some (S.isSt s, ⟨.ret (.int .u8 (S.nx s)), [], []⟩)
  | _, _ => none), []⟩
noncomputable def pstepE : K.CEnt := ⟨9, (fun xs os => match xs, os with
  | [.ptr 0 0], [.cells 110 .exact [.int .u8 s, .int .i64 6, .int .i64 1]] => some (S.isSt s, ⟨.ret (.int .u8 (s % 2)), [(0, .cells 110 .exact [.int .u8 (S.nx s), .int .i64 6, .int .i64 1])], []⟩)
  | _, _ => none), []⟩
noncomputable def pplaceE : K.CEnt := ⟨9, (fun xs os => match xs, os with
  | [.ptr 0 0, .int .u8 s], [.cells 110 .exact [.int .u8 x, .int .i64 6, .int .i64 1]] => some (S.isSt s, ⟨.ret (.tup [.int .i64 (S.ix s), .bool true]), [], []⟩)
  | _, _ => none), []⟩
noncomputable def cmarkE : K.CEnt := ⟨9, (fun xs os => match xs, os with
  | [.int .i64 n], [] => some (S.inR n 63, ⟨.ret (.int .u8 (S.st n)), [], []⟩)
  | _, _ => none), []⟩
noncomputable def rmarkE : K.CEnt := ⟨9, (fun xs os => match xs, os with
  | [.int .i64 n], [] => some (S.inR n 63, ⟨.ret (.int .u8 (S.st n)), [], []⟩)
  | _, _ => none), []⟩
noncomputable def dTickE : K.CEnt := ⟨9, (fun xs os => match xs, os with
  | [.ptr 0 0], [.cells 89 .exact [.int .i64 a, .int .i64 n]] => some (S.inR a 65536, ⟨.ret (.bool (notB (ltI (a+1) n))), [(0, .cells 89 .exact [.int .i64 (bc (ltI (a+1) n) (a+1) 0), .int .i64 n])], []⟩)
  | _, _ => none), []⟩
noncomputable def dCountE : K.CEnt := ⟨9, (fun xs os => match xs, os with
  | [.ptr 0 0], [.cells 89 .exact [.int .i64 a, .int .i64 n]] => some (true, ⟨.ret (.int .i64 a), [], []⟩)
  | _, _ => none), []⟩
noncomputable def dSetE : K.CEnt := ⟨9, (fun xs os => match xs, os with
  | [.ptr 0 0, .int .i64 v], [.cells 89 .exact [.int .i64 a, .int .i64 n]] => some (true, ⟨.ret (.int .i64 (bc (S.inR v n) 0 6)), [(0, .cells 89 .exact [.int .i64 (bc (S.inR v n) v a), .int .i64 n])], []⟩)
  | _, _ => none), []⟩
noncomputable def cTickE : K.CEnt := ⟨9, (fun xs os => match xs, os with
  | [.ptr 0 0], [.cells 93 .exact [.ptr 1 0, .int .u8 l, .int .i64 n], .cells 110 .exact [.int .u8 s, .int .i64 6, .int .i64 1]] => some (S.isSt s, ⟨.ret (.bool (eqI s l)), [(1, .cells 110 .exact [.int .u8 (bc (eqI s l) 0 (S.nx s)), .int .i64 6, .int .i64 1])], []⟩)
  | _, _ => none), []⟩
noncomputable def cCountE : K.CEnt := ⟨9, (fun xs os => match xs, os with
  | [.ptr 0 0], [.cells 93 .exact [.ptr 1 0, .int .u8 l, .int .i64 n], .cells 110 .exact [.int .u8 s, .int .i64 6, .int .i64 1]] => some (S.isSt s, ⟨.ret (.int .i64 (S.ix s)), [], []⟩)
  | _, _ => none), []⟩
noncomputable def cMarkE : K.CEnt := ⟨9, (fun xs os => match xs, os with
  | [.ptr 0 0], [.cells 93 .exact [.ptr 1 0, .int .u8 l, .int .i64 n], .cells 110 .exact [.int .u8 s, .int .i64 6, .int .i64 1]] => some (true, ⟨.ret (.int .u8 s), [], []⟩)
  | _, _ => none), []⟩
noncomputable def cAtE : K.CEnt := ⟨9, (fun xs os => match xs, os with
  | [.ptr 0 0, .int .i64 i], [.cells 93 .exact [.ptr 1 0, .int .u8 l, .int .i64 n], .cells 110 .exact [.int .u8 s, .int .i64 6, .int .i64 1]] => some (ltI n 64, ⟨.ret (.bool (S.an (S.inR i n) (eqI s (S.st i)))), [], []⟩)
  | _, _ => none), []⟩
noncomputable def cSetE : K.CEnt := ⟨9, (fun xs os => match xs, os with
  | [.ptr 0 0, .int .i64 i], [.cells 93 .exact [.ptr 1 0, .int .u8 l, .int .i64 n], .cells 110 .exact [.int .u8 s, .int .i64 6, .int .i64 1]] => some (ltI n 64, ⟨.ret (.int .i64 (bc (S.inR i n) 0 6)), [(1, .cells 110 .exact [.int .u8 (bc (S.inR i n) (S.st i) s), .int .i64 6, .int .i64 1])], []⟩)
  | _, _ => none), []⟩
end Go.Proofs.Ytmnpnomllcghmaa.Ev
