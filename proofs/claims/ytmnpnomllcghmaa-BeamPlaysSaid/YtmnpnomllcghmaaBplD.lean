/- Contracts, what they say: Bpl. -/
import Derived.Test.YtmnpnomllcghmaaBemD
import Derived.Test.YtmnpnomllcghmaaLblD
namespace Go.Proofs.Ytmnpnomllcghmaa.Ev
open Go
set_option linter.unusedVariables false
namespace S
noncomputable section
def okBW (w0 w1 : Int) : Bool := an (inR w0 228) (an (notB (ltI w1 0)) (notB (ltI 1 w1)))
def darkR (m : Int) (b : Bool) : Bool := bc (ltI m 68) true (an b (ltI m 76))
def eqb (a b : Bool) : Bool := bc a b (notB b)
/-- Is it late behind so many clocks? -/
def lateN (b : Bool) (n j : Int) : Bool := bc (ltI 0 j) (bc (eqI n 0) false (bc (ltI 228 (n + j)) false b)) b

def okActs (vs : List LV) : Bool := match vs with
  | [] => true
  | _ :: n :: _ :: _ :: r => an (an (notB (ltI (intOf n) 0)) (ltI (intOf n) 65536)) (okActs r)
  | _ => false
def cnV (vs : List LV) (i : Int) : Int := (intOf (K.atV vs (0 + i.toNat * 4 + 1))) % 600
def okBi (b rb : Bool) (a s d l n rc : Int) (vs : List LV) (L : Nat) (i k : Int) : Bool :=
  an (okBm a s d l n) (an (an (eqI rc (plc a s)) (eqb rb b)) (an (an (okActs vs) (Nat.beq (lenL vs) (L * 4))) (an (an (notB (ltI i 0)) (ltI i L)) (an (notB (ltI k 0)) (notB (ltI (cnV vs i) k))))))
structure Act where
  kind : Int
  n : Int
  w0 : Int
  w1 : Int
def actV (a : Act) : List LV := [.int .i64 a.kind, .int .u16 a.n, .int .i64 a.w0, .int .i64 a.w1]
def acts (l : List Act) : List LV := l.flatMap actV
def actK : List CK := [.i .i64, .i .u16, .i .i64, .i .i64]

def okBo (b rb : Bool) (a s d l n rc : Int) (vs : List LV) (L : Nat) (i : Int) : Bool :=
  an (okBm a s d l n) (an (an (eqI rc (plc a s)) (eqb rb b)) (an (an (okActs vs) (Nat.beq (lenL vs) (L * 4))) (an (notB (ltI i 0)) (notB (ltI L i)))))
end
end S
noncomputable def bResetE : K.CEnt := ⟨9, (fun xs os => match xs, os with
  | [.ptr 0 0], [.cells 103 .exact [.ptr 1 0, .ptr 2 0, .bool b], .cells 89 .exact [.int .i64 a, .int .i64 d], .cells 93 .exact [.ptr 3 0, .int .u8 l, .int .i64 n], .cells 110 .exact [.int .u8 s, .int .i64 6, .int .i64 1]] => some (S.okBm a s d l n, ⟨.ret (.tup []), [(1, .cells 89 .exact [.int .i64 0, .int .i64 d]), (3, .cells 110 .exact [.int .u8 0, .int .i64 6, .int .i64 1])], []⟩)
  | _, _ => none), []⟩
noncomputable def bWordsE : K.CEnt := ⟨9, (fun xs os => match xs, os with
  | [.ptr 0 0], [.cells 103 .exact [.ptr 1 0, .ptr 2 0, .bool b], .cells 89 .exact [.int .i64 a, .int .i64 d], .cells 93 .exact [.ptr 3 0, .int .u8 l, .int .i64 n], .cells 110 .exact [.int .u8 s, .int .i64 6, .int .i64 1]] => some (S.okBm a s d l n, ⟨.ret (.agg [.int .i64 (S.plc a s), .int .i64 (bc b 1 0)]), [], []⟩)
  | _, _ => none), []⟩
noncomputable def bSetE : K.CEnt := ⟨9, (fun xs os => match xs, os with
  | [.ptr 0 0, .agg [.int .i64 w0, .int .i64 w1]], [.cells 103 .exact [.ptr 1 0, .ptr 2 0, .bool b], .cells 89 .exact [.int .i64 a, .int .i64 d], .cells 93 .exact [.ptr 3 0, .int .u8 l, .int .i64 n], .cells 110 .exact [.int .u8 s, .int .i64 6, .int .i64 1]] => some (S.okBm a s d l n, ⟨.ret (.int .i64 (bc (S.okBW w0 w1) 0 6)), [(0, .cells 103 .exact [.ptr 1 0, .ptr 2 0, .bool (bc (S.okBW w0 w1) (eqI w1 1) b)]), (1, .cells 89 .exact [.int .i64 (bc (S.okBW w0 w1) (w0 % 4) a), .int .i64 d]), (3, .cells 110 .exact [.int .u8 (bc (S.okBW w0 w1) (S.st (w0 / 4)) s), .int .i64 6, .int .i64 1])], []⟩)
  | _, _ => none), []⟩
noncomputable def r15BE : K.CEnt := ⟨9, (fun xs os => match xs, os with
  | [.agg [.int .i64 m, .bool b]], [] => some (true, ⟨.ret (.tup [.agg [.int .i64 m, .bool (bc (eqI m 0) false b)], .bool (eqI m 0)]), [], []⟩)
  | _, _ => none), []⟩
noncomputable def r15DE : K.CEnt := ⟨9, (fun xs os => match xs, os with
  | [.agg [.int .i64 m, .bool b]], [] => some (true, ⟨.ret (.bool (S.darkR m b)), [], []⟩)
  | _, _ => none), []⟩
noncomputable def r15PE : K.CEnt := ⟨9, (fun xs os => match xs, os with
  | [.agg [.int .i64 m, .bool b]], [] => some (true, ⟨.ret (.bool (S.an (notB (ltI m 20)) (notB (ltI 35 m)))), [], []⟩)
  | _, _ => none), []⟩
noncomputable def r15NE : K.CEnt := ⟨9, (fun xs os => match xs, os with
  | [.agg [.int .i64 m, .bool b]], [] => some (S.inR m 228, ⟨.ret (.agg [.int .i64 ((m + 1) % 228), .bool b]), [], []⟩)
  | _, _ => none), []⟩
noncomputable def r15WE : K.CEnt := ⟨9, (fun xs os => match xs, os with
  | [.agg [.int .i64 m, .bool b]], [] => some (true, ⟨.ret (.agg [.int .i64 m, .int .i64 (bc b 1 0)]), [], []⟩)
  | _, _ => none), []⟩
noncomputable def r15RE : K.CEnt := ⟨9, (fun xs os => match xs, os with
  | [.agg [.int .i64 w0, .int .i64 w1]], [] => some (true, ⟨.ret (.bool (S.okBW w0 w1)), [], []⟩)
  | _, _ => none), []⟩
noncomputable def biLB : K.BEnt := ⟨[1, 5, 6, 7, 8], 9, (fun xs os => match xs, os with
  | [.slice 0 0 L (.known q), .ptr 1 0, .ptr 5 0, .int .i64 i, .int .i64 k], [.flat [.i .i64, .i .u16, .i .i64, .i .i64] et .ro vs, .cells 103 .exact [.ptr 2 0, .ptr 3 0, .bool b], .cells 89 .exact [.int .i64 a, .int .i64 d], .cells 93 .exact [.ptr 4 0, .int .u8 l, .int .i64 n], .cells 110 .exact [.int .u8 s, .int .i64 6, .int .i64 1], .cells 48 .exact [.int .i64 rc, .bool rb]] => some (S.okBi b rb a s d l n rc vs L i k, ⟨.exit 3, [(1, .slice 0 0 L (.known q)), (5, .ptr 1 0), (6, .ptr 5 0), (7, .int .i64 i), (8, .int .i64 (S.cnV vs i))], [(1, .cells 103 .exact [.ptr 2 0, .ptr 3 0, .bool (S.lateN b (S.plc a s) (S.cnV vs i - k))]), (2, .cells 89 .exact [.int .i64 (((S.plc a s + (S.cnV vs i - k)) % 228) % 4), .int .i64 d]), (4, .cells 110 .exact [.int .u8 (S.st (((S.plc a s + (S.cnV vs i - k)) % 228) / 4)), .int .i64 6, .int .i64 1]), (5, .cells 48 .exact [.int .i64 ((S.plc a s + (S.cnV vs i - k)) % 228), .bool (S.lateN b (S.plc a s) (S.cnV vs i - k))])], []⟩)
  | _, _ => none), []⟩
noncomputable def biB : K.BEnt := ⟨[1, 5, 6, 7, 8], 9, (fun xs os => match xs, os with
  | [.slice 0 0 L (.known q), .ptr 1 0, .ptr 5 0, .int .i64 i, .int .i64 k], [.flat [.i .i64, .i .u16, .i .i64, .i .i64] et .ro vs, .cells 103 .exact [.ptr 2 0, .ptr 3 0, .bool b], .cells 89 .exact [.int .i64 a, .int .i64 d], .cells 93 .exact [.ptr 4 0, .int .u8 l, .int .i64 n], .cells 110 .exact [.int .u8 s, .int .i64 6, .int .i64 1], .cells 48 .exact [.int .i64 rc, .bool rb]] => some (S.okBi b rb a s d l n rc vs L i k, ⟨.normal, [(1, .slice 0 0 L (.known q)), (5, .ptr 1 0), (6, .ptr 5 0), (7, .int .i64 i), (8, .int .i64 (S.cnV vs i))], [(1, .cells 103 .exact [.ptr 2 0, .ptr 3 0, .bool (S.lateN b (S.plc a s) (S.cnV vs i - k))]), (2, .cells 89 .exact [.int .i64 (((S.plc a s + (S.cnV vs i - k)) % 228) % 4), .int .i64 d]), (4, .cells 110 .exact [.int .u8 (S.st (((S.plc a s + (S.cnV vs i - k)) % 228) / 4)), .int .i64 6, .int .i64 1]), (5, .cells 48 .exact [.int .i64 ((S.plc a s + (S.cnV vs i - k)) % 228), .bool (S.lateN b (S.plc a s) (S.cnV vs i - k))])], []⟩)
  | _, _ => none), []⟩
noncomputable def boLB : K.BEnt := ⟨[1, 5, 6, 7], 9, (fun xs os => match xs, os with
  | [.slice 0 0 L (.known q), .ptr 1 0, .ptr 5 0, .int .i64 i], [.flat [.i .i64, .i .u16, .i .i64, .i .i64] et .ro vs, .cells 103 .exact [.ptr 2 0, .ptr 3 0, .bool b], .cells 89 .exact [.int .i64 a, .int .i64 d], .cells 93 .exact [.ptr 4 0, .int .u8 l, .int .i64 n], .cells 110 .exact [.int .u8 s, .int .i64 6, .int .i64 1], .cells 48 .exact [.int .i64 rc, .bool rb]] => some (S.okBo b rb a s d l n rc vs L i, ⟨.exit 0, [], [(1, .dead), (2, .dead), (4, .dead), (5, .dead)], []⟩)
  | _, _ => none), []⟩
noncomputable def boB : K.BEnt := ⟨[1, 5, 6, 7], 9, (fun xs os => match xs, os with
  | [.slice 0 0 L (.known q), .ptr 1 0, .ptr 5 0, .int .i64 i], [.flat [.i .i64, .i .u16, .i .i64, .i .i64] et .ro vs, .cells 103 .exact [.ptr 2 0, .ptr 3 0, .bool b], .cells 89 .exact [.int .i64 a, .int .i64 d], .cells 93 .exact [.ptr 4 0, .int .u8 l, .int .i64 n], .cells 110 .exact [.int .u8 s, .int .i64 6, .int .i64 1], .cells 48 .exact [.int .i64 rc, .bool rb]] => some (S.okBo b rb a s d l n rc vs L i, ⟨.normal, [], [(1, .dead), (2, .dead), (4, .dead), (5, .dead)], []⟩)
  | _, _ => none), []⟩
noncomputable def bNewOE : K.CEnt := ⟨9, (fun xs os => match xs, os with
  | [.int .i64 m], [] => some (notB (S.inR m 228), ⟨.ret .nilp, [], []⟩)
  | _, _ => none), []⟩
end Go.Proofs.Ytmnpnomllcghmaa.Ev
