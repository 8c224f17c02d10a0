/- Contracts, what they say: Tls. -/
import Derived.Test.YtlgfojaalmelhaaDoorTfnD
import Derived.Test.YtlgfojaalmelhaaDoorTshD
import Derived.Test.YtlgfojaalmelhaaDoorTbyD
namespace Go.Proofs.YtlgfojaalmelhaaDoor.Ev
open Go
set_option linter.unusedVariables false
namespace S
noncomputable section
def code2 : Code := rngA (inner (blkOf 18 0))
def code3 : Code := rngB (inner (blkOf 18 0))
def LTA : Tr LV := Tr.node LV.junk (Tr.node LV.junk Tr.nil (Tr.node (LV.ptr 1 0) (Tr.node (LV.func (Fn.func 44) [] [LV.ptr 2 0, LV.ptr 4 0]) Tr.nil Tr.nil) Tr.nil)) Tr.nil
def LTB : Tr LV := Tr.node LV.junk (Tr.node LV.junk Tr.nil (Tr.node (LV.ptr 1 0) (Tr.node (LV.func (Fn.func 44) [] [LV.ptr 3 0, LV.ptr 5 0]) Tr.nil Tr.nil) Tr.nil)) Tr.nil
/-- Is there a code at this place, whole? -/
def isC (vs : List LV) (o n : Nat) : Bool := and2 (pl (by1 vs o)) (notB (ltI n (len (by1 vs o))))
def a1 (vs : List LV) (o : Nat) : Int := bc (eqI (len (by1 vs o)) 1) 0 (by1 vs (o + 1))
def b1 (vs : List LV) (o : Nat) : Int := bc (eqI (len (by1 vs o)) 3) (by1 vs (o + 2)) 0
/-- The line at a place. -/
def lin (vs : List LV) (o n : Nat) (a : Int) : List UInt8 := bc (isC vs o n) (shw (by1 vs o) (a1 vs o) (b1 vs o) a) (bytes vs o 1)
def stp (vs : List LV) (o n : Nat) : Nat := bc (isC vs o n) (len (by1 vs o)).toNat 1
def nxt (a : Int) (k : Nat) : Int := (a + k) % 65536
/-- The lines. -/
def ls (vs : List LV) (j : Nat) : Nat → Nat → Int → List LV := @Nat.rec (fun _ => Nat → Nat → Int → List LV) (fun _ _ _ => []) (fun _ g o n a => bc (Nat.beq n 0) [] (.str (lin vs o n a) :: g (o + stp vs o n) (n - stp vs o n) (nxt a (stp vs o n)))) j
def lsl (vs : List LV) (j o n : Nat) (a : Int) : Nat := lenL (ls vs j o n a)
def lok (vs : List LV) (o n c M : Nat) (ss : List LV) (a : Int) : Bool := an (an (okR vs o n) (Nat.ble n c)) (an (an (Nat.beq (lenL ss) M) (Nat.ble (M + n) 1000)) (isW a))
end
end S
/-- The loop over the lines, as its contract says. -/
def ls_T (m a : Int) (et o n c M : Nat) (w : Own) (vs ss : List LV) : Prop := K.LOk Tryd.prog 44 54 (inner (inner (blkOf 44 0))) [0, 1, 2] [.func (.yield 0) [] [], .ptr 3 0, .ptr 5 0] [.loop .ready none 18 16 S.LTB [10] S.code2 S.code3 6, .cells 32 .exact [.slice 2 0 M (.rest 0)], .flat [.sr] 9 (.grow 1) ss, .cells 27 .exact [.slice 4 o n (.known c)], .flat [.i .u8] et w vs, .cells 22 .exact [.int .u16 a], .defers false, .glob 0 S.tabV, .glob 1 [.int .i64 m]] ⟨.exit 0, [], [(0, .loop .ready none 18 16 S.LTB [10] S.code2 S.code3 6), (1, .cells 32 .exact [.slice 9 0 (M + S.lsl vs n o n a) (.rest 0)]), (2, .dead), (3, .dead), (5, .dead)], [.flat [.sr] 9 (.grow 1) (app ss (S.ls vs n o n a))]⟩
noncomputable def ln1E : K.CEnt := ⟨9, (fun xs os => match xs, os with
  | [.int .u8 o], [.glob g cs, .glob g1 [.int .i64 m]] => some (S.an (bc (S.okG g cs g1) (S.isB o) false) (eqI (S.len o) 1), ⟨.ret (.int .i64 1), [], []⟩)
  | _, _ => none), [2000000]⟩
noncomputable def ln2E : K.CEnt := ⟨9, (fun xs os => match xs, os with
  | [.int .u8 o], [.glob g cs, .glob g1 [.int .i64 m]] => some (S.an (bc (S.okG g cs g1) (S.isB o) false) (eqI (S.len o) 2), ⟨.ret (.int .i64 2), [], []⟩)
  | _, _ => none), [2000000]⟩
noncomputable def ln3E : K.CEnt := ⟨9, (fun xs os => match xs, os with
  | [.int .u8 o], [.glob g cs, .glob g1 [.int .i64 m]] => some (S.an (bc (S.okG g cs g1) (S.isB o) false) (eqI (S.len o) 3), ⟨.ret (.int .i64 3), [], []⟩)
  | _, _ => none), [2000000]⟩
noncomputable def lsEB : K.BEnt := ⟨[0, 1, 2], 9, (fun xs os => match xs, os with
  | [.func (.yield 0) [] [], .ptr 3 0, .ptr 5 0], [.loop .ready none fn nn t ps ca cb dd, .cells t1 .exact [.slice 2 0 M (.rest 0)], .flat [.sr] e2 (.grow 1) ss, .cells t3 .exact [.slice 4 o n (.known c)], .flat [.i .u8] et w vs, .cells t5 .exact [.int .u16 a], .defers d, .glob g cs, .glob g1 ms] => some (S.lok vs o n c M ss a, ⟨.exit 0, [], [(0, .loop .ready none 18 16 S.LTB [10] S.code2 S.code3 6), (1, .cells 32 .exact [.slice 9 0 (M + S.lsl vs n o n a) (.rest 0)]), (2, .dead), (3, .dead), (5, .dead)], [.flat [.sr] 9 (.grow 1) (app ss (S.ls vs n o n a))]⟩)
  | _, _ => none), [9 + 1000000, 2000000]⟩
noncomputable def lsFB : K.BEnt := ⟨[0, 1, 2], 9, (fun xs os => match xs, os with
  | [.func (.yield 0) [] [], .ptr 2 0, .ptr 4 0], [.loop .ready none fn nn t ps ca cb dd, .cells t1 .exact [.nils], .cells t2 .exact [.slice 3 o n (.known c)], .flat [.i .u8] et w vs, .cells t4 .exact [.int .u16 a], .defers d, .glob g cs, .glob g1 ms] => some (S.an (S.lok vs o n c 0 [] a) (Nat.blt 0 n), ⟨.normal, [], [(0, .loop .ready none 18 16 S.LTA [10] S.code2 S.code3 5), (1, .cells 32 .exact [.slice 8 0 (S.lsl vs n o n a) (.rest 0)]), (2, .dead), (4, .dead)], [.flat [.sr] 9 (.grow 1) (S.ls vs n o n a)]⟩)
  | _, _ => none), [9 + 1000000, 2000000]⟩
noncomputable def liE : K.CEnt := ⟨9, (fun xs os => match xs, os with
  | [.int .u16 a, .slice 0 o n (.known c)], [.flat [.i .u8] et w vs, .glob g cs, .glob g1 [.int .i64 m]] => some (S.an (S.okG g cs g1) (S.an (S.lok vs o n c 0 [] a) (Nat.blt 0 n)), ⟨.ret (.slice 3 0 (S.lsl vs n o n a) (.rest 0)), [], [.flat [.sr] 9 (.grow 1) (S.ls vs n o n a)]⟩)
  | [.int .u16 a, .slice 0 0 n (.rest 0)], [.flat [.i .u8] et (.grow 1) vs, .glob g cs, .glob g1 [.int .i64 m]] => some (S.an (S.okG g cs g1) (S.an (S.an (S.lok vs 0 n n 0 [] a) (Nat.beq (lenL vs) n)) (Nat.blt 0 n)), ⟨.ret (.slice 3 0 (S.lsl vs n 0 n a) (.rest 0)), [], [.flat [.sr] 9 (.grow 1) (S.ls vs n 0 n a)]⟩)
  | _, _ => none), [5, 2000000]⟩
noncomputable def lizE : K.CEnt := ⟨9, (fun xs os => match xs, os with
  | [.int .u16 a, .slice 0 o 0 (.known c)], [.flat [.i .u8] et w vs, .glob g cs, .glob g1 [.int .i64 m]] => some (S.okG g cs g1, ⟨.ret .nils, [], []⟩)
  | _, _ => none), [5, 2000000]⟩
end Go.Proofs.YtlgfojaalmelhaaDoor.Ev
