/- Contracts, what they say: Tfn. -/
import Derived.Test.YtlgfojaalmelhaaDoorTofD
namespace Go.Proofs.YtlgfojaalmelhaaDoor.Ev
open Go
set_option linter.unusedVariables false
namespace S
noncomputable section
def rngA : Code → Code := fun c => match c with
  | .rangeFunc _ _ a _ => a
  | c => c
def rngB : Code → Code := fun c => match c with
  | .rangeFunc _ _ _ b => b
  | c => c
def code0 : Code := rngA (inner (blkOf 54 0))
def code1 : Code := rngB (inner (blkOf 54 0))
def T0 : Tr LV := Tr.node LV.junk (Tr.node LV.junk (Tr.node (LV.ptr 1 0) (Tr.node (LV.ptr 2 0) Tr.nil Tr.nil) Tr.nil) (Tr.node (LV.ptr 3 0) Tr.nil Tr.nil)) (Tr.node (LV.ptr 4 0) (Tr.node (LV.ptr 5 0) Tr.nil Tr.nil) (Tr.node (LV.ptr 6 0) (Tr.node (LV.func (Fn.func 65) [] []) Tr.nil Tr.nil) Tr.nil))
def and2 (a b : Bool) : Bool := bc a b false
/-- Is it a code of this name and way? -/
def mt (s : List UInt8) (k i : Int) : Bool := and2 (eqB (nm i) s) (eqI (md i) k)
def rem6 (i : Int) : Nat := (256 - i).toNat
/-- Is a known one among the codes from i on? The first such. -/
def hit (s : List UInt8) (k : Int) (n : Nat) : Int → Bool := @Nat.rec (fun _ => Int → Bool) (fun _ => false) (fun _ g i => bc (and2 (mt s k i) (kn i)) true (g (i + 1))) n
def hitI (s : List UInt8) (k : Int) (n : Nat) : Int → Int := @Nat.rec (fun _ => Int → Int) (fun _ => 0) (fun _ g i => bc (and2 (mt s k i) (kn i)) i (g (i + 1))) n
/-- Is there one at all; the first. -/
def scH (s : List UInt8) (k : Int) (n : Nat) : Int → Bool → Bool := @Nat.rec (fun _ => Int → Bool → Bool) (fun _ h => h) (fun _ g i h => g (i + 1) (bc (mt s k i) true h)) n
def scF (s : List UInt8) (k : Int) (n : Nat) : Int → Bool → Int → Int := @Nat.rec (fun _ => Int → Bool → Int → Int) (fun _ _ f => f) (fun _ g i h f => g (i + 1) (bc (mt s k i) true h) (bc (mt s k i) (bc h f i) f)) n
def fop (s : List UInt8) (k : Int) : Int := bc (hit s k 256 0) (hitI s k 256 0) (scF s k 256 0 false 0)
def fok (s : List UInt8) (k : Int) : Bool := bc (hit s k 256 0) true (scH s k 256 0 false)
/-- Is a code the one that its text stands for? -/
def pl (o : Int) : Bool := and2 (fok (nm o) (md o)) (eqI (fop (nm o) (md o)) o)
end
end S
noncomputable def fnMB : K.BEnt := ⟨[0, 3], 9, (fun xs os => match xs, os with
  | [.func (.yield 0) [] [], .int .i64 i], [.loop .ready none fn nn t ps ca cb 7, .cells e1 .exact [.int .u8 k], .cells e2 .exact [.bool b], .cells e3 .exact [.bool b3], .cells e4 .exact [.str s], .cells e5 .exact [.int .u8 x5], .cells e6 .exact [.int .u8 x], .defers d, .glob g cs, .glob g1 ms] => some (true, ⟨.exit 0, [], [(0, .loop .ready none 54 31 S.T0 [11, 12] S.code0 S.code1 7), (2, .cells 4 .exact [.bool (S.scH s k (S.rem6 i) i b)]), (6, .cells 5 .exact [.int .u8 (S.scF s k (S.rem6 i) i b x)])], []⟩)
  | _, _ => none), [2000000]⟩
noncomputable def fnMBB : K.BEnt := ⟨[0, 3], 9, (fun xs os => match xs, os with
  | [.func (.yield 0) [] [], .int .i64 i], [.loop .ready none fn nn t ps ca cb 7, .cells e1 .exact [.int .u8 k], .cells e2 .exact [.bool b], .cells e3 .exact [.bool b3], .cells e4 .exact [.str s], .cells e5 .exact [.int .u8 x5], .cells e6 .exact [.int .u8 x], .defers d, .glob g cs, .glob g1 ms] => some (true, ⟨.normal, [], [(0, .loop .ready none 54 31 S.T0 [11, 12] S.code0 S.code1 7), (2, .cells 4 .exact [.bool (S.scH s k (S.rem6 i) i b)]), (6, .cells 5 .exact [.int .u8 (S.scF s k (S.rem6 i) i b x)])], []⟩)
  | _, _ => none), [2000000]⟩
noncomputable def fnHB : K.BEnt := ⟨[0, 3], 9, (fun xs os => match xs, os with
  | [.func (.yield 0) [] [], .int .i64 i], [.loop .ready none fn nn t ps ca cb 7, .cells e1 .exact [.int .u8 k], .cells e2 .exact [.bool b], .cells e3 .exact [.bool b3], .cells e4 .exact [.str s], .cells e5 .exact [.int .u8 x5], .cells e6 .exact [.int .u8 x], .defers d, .glob g cs, .glob g1 ms] => some (true, ⟨.ret, [], [(0, .loop .done (some .ret) 54 31 S.T0 [11, 12] S.code0 S.code1 7), (2, .dead), (3, .cells 4 .exact [.bool true]), (5, .cells 5 .exact [.int .u8 (S.hitI s k (S.rem6 i) i)]), (6, .dead)], []⟩)
  | _, _ => none), [2000000]⟩
noncomputable def fdE : K.CEnt := ⟨9, (fun xs os => match xs, os with
  | [.str s, .int .u8 k], [.glob g cs, .glob g1 [.int .i64 m]] => some (S.okG g cs g1, ⟨.ret (.tup [.int .u8 (S.fop s k), .bool (S.fok s k)]), [], []⟩)
  | _, _ => none), [2000000]⟩
noncomputable def plE : K.CEnt := ⟨9, (fun xs os => match xs, os with
  | [.int .u8 o], [.glob g cs, .glob g1 [.int .i64 m]] => some (bc (S.okG g cs g1) (S.isB o) false, ⟨.ret (.bool (S.pl o)), [], []⟩)
  | _, _ => none), [2000000]⟩
end Go.Proofs.YtlgfojaalmelhaaDoor.Ev
