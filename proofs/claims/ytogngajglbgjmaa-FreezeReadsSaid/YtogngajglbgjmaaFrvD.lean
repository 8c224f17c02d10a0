/- Contracts, what they say: Frv. -/
import Derived.Test.YtogngajglbgjmaaFruD
namespace Go.Proofs.Ytogngajglbgjmaa.Ev
open Go
set_option linter.unusedVariables false
namespace S
noncomputable section
def w1 (L : Nat) : Int := wrapK .i64 (↑L - 1)
def e0 (L : Nat) : Nat := (w2 L).toNat - 0
/-- The first number, and where it ends. -/
def rN (vs : List LV) (L : Nat) : Int := rv vs (e0 L) 1
def rP (vs : List LV) (L : Nat) : Int := rx vs (e0 L) 1
def okX (vs : List LV) (L q : Nat) : Bool := an (okUB vs L q) (an (ltI 0 (rN vs L)) (rG vs (L - 2) (rN vs L) (rP vs L) 0))
def okV (vs : List LV) (L q : Nat) : Bool := an (okUB vs L q) (an (ltI 0 (rN vs L)) (notB (rG vs (L - 2) (rN vs L) (rP vs L) 0)))
def okO (vs : List LV) (L q : Nat) : Bool := an (okUB vs L q) (notB (ltI 0 (rN vs L)))
end
end S
noncomputable def runGE : K.CEnt := ⟨9, (fun xs os => match xs, os with
  | [.slice 0 0 L (.known q)], [.flat [.i .u8] et .ro vs] => some (S.okU1 vs L q, ⟨.ret (.tup [.slice 1 0 (S.ul vs L - 1) (.rest 0), .int .i64 0]), [], [.flat [.i .i64] 3 (.grow 1) (S.uw vs L)]⟩)
  | _, _ => none), [5]⟩
noncomputable def runZE : K.CEnt := ⟨9, (fun xs os => match xs, os with
  | [.slice 0 0 L (.known q)], [.flat [.i .u8] et .ro vs] => some (S.okU0 vs L q, ⟨.ret (.tup [.nils, .int .i64 0]), [], []⟩)
  | _, _ => none), [5]⟩
noncomputable def runBE : K.CEnt := ⟨9, (fun xs os => match xs, os with
  | [.slice 0 0 L (.known q)], [.flat [.i .u8] et .ro vs] => some (S.okUB vs L q, ⟨.ret (.tup [.nils, .int .i64 9]), [], []⟩)
  | _, _ => none), [5]⟩
end Go.Proofs.Ytogngajglbgjmaa.Ev
