/- Contracts, what they say: Fch. -/
import Derived.Test.YtogngajglbgjmaaFnuD
namespace Go.Proofs.Ytogngajglbgjmaa.Ev
open Go
set_option linter.unusedVariables false
namespace S
noncomputable section
/-- One byte more. -/
def ck1 (vs : List LV) (i : Int) (p : Int × Int) : Int × Int :=
  ((wrapK .i64 (p.1 + wrapK .i64 (intOf (K.atV vs (0 + i.toNat * 1))))).tmod 255, (wrapK .i64 (p.2 + (wrapK .i64 (p.1 + wrapK .i64 (intOf (K.atV vs (0 + i.toNat * 1))))).tmod 255)).tmod 255)
def ckr (vs : List LV) (j : Nat) : Int → Int × Int → Int × Int := @Nat.rec (fun _ => Int → Int × Int → Int × Int) (fun _ p => p) (fun _ g i p => g (i + 1) (ck1 vs i p)) j
def ca (vs : List LV) (j : Nat) (i a b : Int) : Int := (ckr vs j i (a, b)).1
def cb (vs : List LV) (j : Nat) (i a b : Int) : Int := (ckr vs j i (a, b)).2
def rem (L : Nat) (i : Int) : Nat := ((L : Int) - i).toNat
def okI (vs : List LV) (L : Nat) (i : Int) : Bool := an (an (Nat.ble L (lenL vs)) (Nat.ble L 1000000)) (an (notB (ltI i 0)) (notB (ltI L i)))
def okL (vs : List LV) (L : Nat) : Bool := an (Nat.ble L (lenL vs)) (Nat.ble L 1000000)
/-- The check of so many bytes. -/
def cA (vs : List LV) (L : Nat) : Int := wrapK .u8 (ca vs L 0 0 0)
def cB (vs : List LV) (L : Nat) : Int := wrapK .u8 (cb vs L 0 0 0)
end
end S
noncomputable def chLB : K.BEnt := ⟨[2, 3, 4, 7, 8, 9], 9, (fun xs os => match xs, os with
  | [.ptr 0 0, .int .i64 a, .int .i64 b, .slice 1 0 L cp, .int .i64 N, .int .i64 i], [.cells 41 .exact [.int .u8 0, .int .u8 0], .flat [.i .u8] et w vs] => some (S.an (eqI N L) (S.okI vs L i), ⟨.exit 0, [(2, .ptr 0 0), (3, .int .i64 (S.ca vs (S.rem L i) i a b)), (4, .int .i64 (S.cb vs (S.rem L i) i a b))], [], []⟩)
  | _, _ => none), []⟩
noncomputable def chB : K.BEnt := ⟨[2, 3, 4, 7, 8, 9], 9, (fun xs os => match xs, os with
  | [.ptr 0 0, .int .i64 a, .int .i64 b, .slice 1 0 L cp, .int .i64 N, .int .i64 i], [.cells 41 .exact [.int .u8 0, .int .u8 0], .flat [.i .u8] et w vs] => some (S.an (eqI N L) (S.okI vs L i), ⟨.normal, [(2, .ptr 0 0), (3, .int .i64 (S.ca vs (S.rem L i) i a b)), (4, .int .i64 (S.cb vs (S.rem L i) i a b))], [], []⟩)
  | _, _ => none), []⟩
noncomputable def rcLB : K.BEnt := ⟨[0, 4, 5, 6], 9, (fun xs os => match xs, os with
  | [.slice 0 0 L cp, .int .i64 a, .int .i64 b, .int .i64 i], [.flat [.i .u8] et w vs] => some (S.okI vs L i, ⟨.exit 0, [(4, .int .i64 (S.ca vs (S.rem L i) i a b)), (5, .int .i64 (S.cb vs (S.rem L i) i a b))], [], []⟩)
  | _, _ => none), []⟩
noncomputable def rcB : K.BEnt := ⟨[0, 4, 5, 6], 9, (fun xs os => match xs, os with
  | [.slice 0 0 L cp, .int .i64 a, .int .i64 b, .int .i64 i], [.flat [.i .u8] et w vs] => some (S.okI vs L i, ⟨.normal, [(4, .int .i64 (S.ca vs (S.rem L i) i a b)), (5, .int .i64 (S.cb vs (S.rem L i) i a b))], [], []⟩)
  | _, _ => none), []⟩
noncomputable def chkE : K.CEnt := ⟨9, (fun xs os => match xs, os with
  | [.slice 0 0 L cp], [.flat [.i .u8] et w vs] => some (S.okL vs L, ⟨.ret (.agg [.int .u8 (S.cA vs L), .int .u8 (S.cB vs L)]), [], []⟩)
  | _, _ => none), []⟩
noncomputable def rchkE : K.CEnt := ⟨9, (fun xs os => match xs, os with
  | [.slice 0 0 L cp], [.flat [.i .u8] et w vs] => some (S.okL vs L, ⟨.ret (.tup [.int .u8 (S.cA vs L), .int .u8 (S.cB vs L)]), [], []⟩)
  | _, _ => none), []⟩
end Go.Proofs.Ytogngajglbgjmaa.Ev
