/- Contracts, what they say: Frg. -/
import Derived.Test.YtogngajglbgjmaaFnqD
namespace Go.Proofs.Ytogngajglbgjmaa.Ev
open Go
set_option linter.unusedVariables false
namespace S
noncomputable section
/-- The number at a place, and where it ends. -/
def rk (vs : List LV) (L : Nat) (a : Int) : Nat := gk vs a.toNat (L - a.toNat)
def rv (vs : List LV) (L : Nat) (a : Int) : Int := bc (Nat.beq (rk vs L a) 0) 0 (gv vs a.toNat (L - a.toNat))
def rx (vs : List LV) (L : Nat) (a : Int) : Int := bc (Nat.beq (rk vs L a) 0) (-1) (a + rk vs L a)
/-- One byte more, from behind. -/
def h1 (vs : List LV) (a i n : Int) : Int := wrapK .i64 (wrapK .i64 (128 * n) + (wrapK .i64 (intOf (K.atV vs (0 + (wrapK .i64 (a + i)).toNat * 1)))).tmod 128)
def hz (vs : List LV) (a : Int) (j : Nat) : Int → Int := @Nat.rec (fun _ => Int → Int) (fun n => n) (fun j g n => g (h1 vs a j n)) j
/-- Places, as the code works them out. -/
def aw (a k : Int) : Int := wrapK .i64 (a + k)
def am (a k : Int) : Int := wrapK .i64 (aw a k - 1)
def okH (vs : List LV) (L : Nat) (a i : Int) : Bool := an (an (Nat.ble L (lenL vs)) (Nat.ble L 1000000)) (an (an (notB (ltI a 0)) (notB (ltI i (-1)))) (an (notB (ltI 8 i)) (ltI (a + i) L)))
def okR (vs : List LV) (L : Nat) (a : Int) : Bool := an (an (okY vs) (Nat.ble L (lenL vs))) (an (Nat.ble L 1000000) (an (notB (ltI a 0)) (notB (ltI L a))))
end
end S
noncomputable def hzLB : K.BEnt := ⟨[0, 1, 6, 7, 8], 9, (fun xs os => match xs, os with
  | [.slice 0 0 L cp, .int .i64 a, .int .i64 k, .int .i64 n, .int .i64 i], [.flat [.i .u8] et w vs] => some (S.okH vs L a i, ⟨.exit 2, [(1, .int .i64 a), (6, .int .i64 k), (7, .int .i64 (S.hz vs a (i + 1).toNat n))], [], []⟩)
  | _, _ => none), []⟩
noncomputable def hzB : K.BEnt := ⟨[0, 1, 6, 7, 8], 9, (fun xs os => match xs, os with
  | [.slice 0 0 L cp, .int .i64 a, .int .i64 k, .int .i64 n, .int .i64 i], [.flat [.i .u8] et w vs] => some (S.okH vs L a i, ⟨.normal, [(1, .int .i64 a), (6, .int .i64 k), (7, .int .i64 (S.hz vs a (i + 1).toNat n))], [], []⟩)
  | _, _ => none), []⟩
noncomputable def rgetE : K.CEnt := ⟨9, (fun xs os => match xs, os with
  | [.slice 0 0 L cp, .int .i64 a], [.flat [.i .u8] et w vs] => some (S.okR vs L a, ⟨.ret (.tup [.int .i64 (S.rv vs L a), .int .i64 (S.rx vs L a)]), [], []⟩)
  | _, _ => none), []⟩
end Go.Proofs.Ytogngajglbgjmaa.Ev
