/- Contracts, what they say: Fnq. -/
import Derived.Test.YtogngajglbgjmaaFchD
namespace Go.Proofs.Ytogngajglbgjmaa.Ev
open Go
set_option linter.unusedVariables false
namespace S
noncomputable section
def rngA : Code → Code := fun c => match c with
  | .rangeFunc _ _ a _ => a
  | c => c
def rngB : Code → Code := fun c => match c with
  | .rangeFunc _ _ _ b => b
  | c => c
def code0 : Code := rngA (inner (blkOf 10 0))
def code1 : Code := rngB (inner (blkOf 10 0))
/-- What a loop over the numbers keeps of Unpack's frame. -/
def T0 : Tr LV := .node .junk (.node .junk (.node .junk (.node (.ptr 1 0) (.node .junk .nil (.node (.func (.func 20) [] [.ptr 2 0]) .nil .nil)) .nil) .nil) .nil) (.node .junk .nil (.node (.ptr 4 0) .nil .nil))
/-- Is it this loop? -/
def lpok (fn n : Nat) (t : Tr LV) (ps : List Tmp) (ca cb : Code) : Bool := @decide (fn = 10 ∧ n = 74 ∧ t = T0 ∧ ps = [48, 49] ∧ ca = code0 ∧ cb = code1) (Classical.propDecidable _)
def by1 (vs : List LV) (o : Nat) : Int := intOf (K.atV vs o)
/-- Bytes: are they? -/
def okY (vs : List LV) : Bool := @Nat.rec (fun _ => Bool) true (fun i r => an (inR (by1 vs i) 256) r) (lenL vs)
/-- What the code adds up, byte by byte; the same in numbers. -/
def orE (vs : List LV) (o : Nat) (k : Nat) : Int := @Nat.rec (fun _ => Int) 0 (fun i a => orK .i64 a (wrapK .i64 (wrapK .i64 (andK .u8 (intOf (K.atV vs (o + i))) 127) * (2 : Int) ^ (7 * i)))) k
def acS (vs : List LV) (o : Nat) (k : Nat) : Int := @Nat.rec (fun _ => Int) 0 (fun i a => a + (by1 vs (o + i) % 128) * 128 ^ i) k
/-- A number's bytes at a place, so many bytes being left: how many (0: there is none), and the number; j bytes may still be looked at. -/
def gt (vs : List LV) (o n : Nat) (j : Nat) : Nat → Int → Nat × Int := @Nat.rec (fun _ => Nat → Int → Nat × Int) (fun _ _ => (0, 0))
  (fun _ g i acc => bc (Nat.blt i n) (bc (ltI (by1 vs (o + i)) 128) (bc (bc (eqI (by1 vs (o + i)) 0) (Nat.blt 0 i) false) (0, 0) (bc (ltI 4611686018427387904 (acc + by1 vs (o + i) * 128 ^ i)) (0, 0) (i + 1, acc + by1 vs (o + i) * 128 ^ i))) (g (i + 1) (acc + (by1 vs (o + i) - 128) * 128 ^ i))) (0, 0)) j
def gk (vs : List LV) (o n : Nat) : Nat := (gt vs o n 9 0 0).1
def gv (vs : List LV) (o n : Nat) : Int := (gt vs o n 9 0 0).2
/-- The numbers from a place on, till there is none; what is left. -/
def nl (vs : List LV) (j : Nat) : Nat → Nat → List LV := @Nat.rec (fun _ => Nat → Nat → List LV) (fun _ _ => []) (fun _ g o n => bc (Nat.beq (gk vs o n) 0) [] (.int .i64 (gv vs o n) :: g (o + gk vs o n) (n - gk vs o n))) j
def nll (vs : List LV) (j o n : Nat) : Nat := lenL (nl vs j o n)
def lf (vs : List LV) (j : Nat) : Nat → Nat → Nat := @Nat.rec (fun _ => Nat → Nat → Nat) (fun _ n => n) (fun _ g o n => bc (Nat.beq (gk vs o n) 0) n (g (o + gk vs o n) (n - gk vs o n))) j
def tyok (dd t1 t2 t4 t5 : Nat) : Bool := an (Nat.beq dd 6) (an (an (Nat.beq t1 3) (Nat.beq t2 23)) (an (Nat.beq t4 22) (Nat.beq t5 3)))
def tyok2 (dd t1 t2 t4 : Nat) : Bool := an (Nat.beq dd 5) (an (an (Nat.beq t1 3) (Nat.beq t2 23)) (Nat.beq t4 22))
def okA (vs : List LV) (o n c : Nat) : Bool := an (okY vs) (an (Nat.ble (o + n) (lenL vs)) (an (Nat.blt n c) (Nat.ble (lenL vs) 1000000)))
def okB (vs : List LV) (o n c m : Nat) (ns : List LV) (left : Int) : Bool := an (okA vs o n c) (an (Nat.beq (lenL ns) m) (an (Nat.ble (m + n) 1000000) (eqI left n)))
end
end S
/-- The loop over the numbers, as its contract says. -/
def nqF_T (et o n c m : Nat) (vs ns : List LV) (left : Int) : Prop := K.LOk Try.prog 20 57 (inner (inner (blkOf 20 0))) [0, 1] [.func (.yield 0) [] [], .ptr 2 0] [.loop .ready none 10 74 S.T0 [48, 49] S.code0 S.code1 6, .cells 3 .exact [.int .i64 left], .cells 23 .exact [.slice 3 o n (.known c)], .flat [.i .u8] et .ro vs, .cells 22 .exact [.slice 5 0 m (.rest 0)], .flat [.i .i64] 3 (.grow 1) ns, .defers false] ⟨.exit 0, [], [(0, .loop .ready none 10 74 S.T0 [48, 49] S.code0 S.code1 6), (1, .cells 3 .exact [.int .i64 (S.lf vs n o n)]), (2, .dead), (4, .cells 22 .exact [.slice 7 0 (m + S.nll vs n o n) (.rest 0)]), (5, .dead)], [.flat [.i .i64] 3 (.grow 1) (app ns (S.nl vs n o n))]⟩
/-- The loop over the numbers, as its contract says. -/
def nqP_T (et o n c m : Nat) (vs ns : List LV) (left : Int) : Prop := K.LOk Try.prog 20 57 (inner (inner (blkOf 20 0))) [0, 1] [.func (.yield 0) [] [], .ptr 2 0] [.loop .ready none 10 74 S.T0 [48, 49] S.code0 S.code1 6, .cells 3 .exact [.int .i64 left], .cells 23 .exact [.slice 3 o n (.known c)], .flat [.i .u8] et .ro vs, .cells 22 .exact [.slice 5 0 m (.rest 0)], .flat [.i .i64] 3 (.grow 1) ns, .defers false] ⟨.ret, [], [(0, .loop .ready none 10 74 S.T0 [48, 49] S.code0 S.code1 6), (1, .cells 3 .exact [.int .i64 (S.lf vs n o n)]), (2, .dead), (4, .cells 22 .exact [.slice 7 0 (m + S.nll vs n o n) (.rest 0)]), (5, .dead)], [.flat [.i .i64] 3 (.grow 1) (app ns (S.nl vs n o n))]⟩
noncomputable def nqFB : K.BEnt := ⟨[0, 1], 9, (fun xs os => match xs, os with
  | [.func (.yield 0) [] [], .ptr 2 0], [.loop .ready none fn nn t ps ca cb dd, .cells t1 .exact [.int .i64 left], .cells t2 .exact [.slice 3 o n (.known c)], .flat [.i .u8] et .ro vs, .cells t4 .exact [.slice 5 0 m (.rest 0)], .flat [.i .i64] t5 (.grow 1) ns, .defers false] => some (S.an (S.lpok fn nn t ps ca cb) (S.an (S.tyok dd t1 t2 t4 t5) (S.an (S.okB vs o n c m ns left) (Nat.beq (S.lf vs n o n) 0))), ⟨.exit 0, [], [(0, .loop .ready none 10 74 S.T0 [48, 49] S.code0 S.code1 6), (1, .cells 3 .exact [.int .i64 (S.lf vs n o n)]), (2, .dead), (4, .cells 22 .exact [.slice 7 0 (m + S.nll vs n o n) (.rest 0)]), (5, .dead)], [.flat [.i .i64] 3 (.grow 1) (app ns (S.nl vs n o n))]⟩)
  | _, _ => none), [3 + 1000000]⟩
noncomputable def nqPB : K.BEnt := ⟨[0, 1], 9, (fun xs os => match xs, os with
  | [.func (.yield 0) [] [], .ptr 2 0], [.loop .ready none fn nn t ps ca cb dd, .cells t1 .exact [.int .i64 left], .cells t2 .exact [.slice 3 o n (.known c)], .flat [.i .u8] et .ro vs, .cells t4 .exact [.slice 5 0 m (.rest 0)], .flat [.i .i64] t5 (.grow 1) ns, .defers false] => some (S.an (S.lpok fn nn t ps ca cb) (S.an (S.tyok dd t1 t2 t4 t5) (S.an (S.okB vs o n c m ns left) (notB (Nat.beq (S.lf vs n o n) 0)))), ⟨.ret, [], [(0, .loop .ready none 10 74 S.T0 [48, 49] S.code0 S.code1 6), (1, .cells 3 .exact [.int .i64 (S.lf vs n o n)]), (2, .dead), (4, .cells 22 .exact [.slice 7 0 (m + S.nll vs n o n) (.rest 0)]), (5, .dead)], [.flat [.i .i64] 3 (.grow 1) (app ns (S.nl vs n o n))]⟩)
  | _, _ => none), [3 + 1000000]⟩
noncomputable def nqAFB : K.BEnt := ⟨[0, 1], 9, (fun xs os => match xs, os with
  | [.func (.yield 0) [] [], .ptr 2 0], [.loop .ready none fn nn t ps ca cb dd, .cells t1 .exact [.int .i64 left], .cells t2 .exact [.slice 3 o n (.known c)], .flat [.i .u8] et .ro vs, .cells t4 .exact [.nils], .defers false] => some (S.an (S.lpok fn nn t ps ca cb) (S.an (S.tyok2 dd t1 t2 t4) (S.an (S.an (S.okA vs o n c) (Nat.ble n 1000000)) (S.an (Nat.beq (S.lf vs n o n) 0) (Nat.ble 1 n)))), ⟨.normal, [], [(0, .loop .ready none 10 74 S.T0 [48, 49] S.code0 S.code1 5), (1, .cells 3 .exact [.int .i64 (S.lf vs n o n)]), (2, .dead), (4, .cells 22 .exact [.slice 6 0 (S.nll vs n o n) (.rest 0)])], [.flat [.i .i64] 3 (.grow 1) (S.nl vs n o n)]⟩)
  | _, _ => none), []⟩
noncomputable def nqAPB : K.BEnt := ⟨[0, 1], 9, (fun xs os => match xs, os with
  | [.func (.yield 0) [] [], .ptr 2 0], [.loop .ready none fn nn t ps ca cb dd, .cells t1 .exact [.int .i64 left], .cells t2 .exact [.slice 3 o n (.known c)], .flat [.i .u8] et .ro vs, .cells t4 .exact [.nils], .defers false] => some (S.an (S.lpok fn nn t ps ca cb) (S.an (S.tyok2 dd t1 t2 t4) (S.an (S.an (S.okA vs o n c) (Nat.ble n 1000000)) (S.an (notB (Nat.beq (S.lf vs n o n) 0)) (notB (Nat.beq (S.gk vs o n) 0))))), ⟨.ret, [], [(0, .loop .ready none 10 74 S.T0 [48, 49] S.code0 S.code1 5), (1, .cells 3 .exact [.int .i64 (S.lf vs n o n)]), (2, .dead), (4, .cells 22 .exact [.slice 6 0 (S.nll vs n o n) (.rest 0)])], [.flat [.i .i64] 3 (.grow 1) (S.nl vs n o n)]⟩)
  | _, _ => none), []⟩
noncomputable def nqAOB : K.BEnt := ⟨[0, 1], 9, (fun xs os => match xs, os with
  | [.func (.yield 0) [] [], .ptr 2 0], [.loop .ready none fn nn t ps ca cb dd, .cells t1 .exact [.int .i64 left], .cells t2 .exact [.slice 3 o n (.known c)], .flat [.i .u8] et .ro vs, .cells t4 .exact [.nils], .defers false] => some (S.an (S.lpok fn nn t ps ca cb) (S.an (S.tyok2 dd t1 t2 t4) (S.an (S.an (S.okA vs o n c) (Nat.ble n 1000000)) (S.an (notB (Nat.beq (S.lf vs n o n) 0)) (Nat.beq (S.gk vs o n) 0)))), ⟨.ret, [], [], []⟩)
  | _, _ => none), []⟩
end Go.Proofs.Ytogngajglbgjmaa.Ev
