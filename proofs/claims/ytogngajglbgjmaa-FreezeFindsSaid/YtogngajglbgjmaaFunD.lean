/- Contracts, what they say: Fun. -/
import Derived.Test.YtogngajglbgjmaaFnqD
namespace Go.Proofs.Ytogngajglbgjmaa.Ev
open Go
set_option linter.unusedVariables false
namespace S
noncomputable section
/-- The numbers of bytes, behind the first byte and ahead of the check's two. -/
def un (vs : List LV) (L : Nat) : List LV := nl vs (L - 3) 1 (L - 3)
def ul (vs : List LV) (L : Nat) : Nat := nll vs (L - 3) 1 (L - 3)
def uf (vs : List LV) (L : Nat) : Nat := lf vs (L - 3) 1 (L - 3)
/-- The words of bytes. -/
def uw (vs : List LV) (L : Nat) : List LV := sub (un vs L) 1 (ul vs L - 1)
/-- What the code works out of a length. -/
def w2 (L : Nat) : Int := wrapK .i64 (↑L - 2)
def w3 (L : Nat) : Int := wrapK .i64 (w2 L + 1)
def o1 (q : Nat) : Nat := bc (Nat.beq q 1) 0 1
def nn (L : Nat) : Nat := (w2 L).toNat - 1
def c1 (vs : List LV) (L q : Nat) : Nat := nll vs (nn L) (o1 q) (nn L)
def n1 (vs : List LV) (L q : Nat) : List LV := nl vs (nn L) (o1 q) (nn L)
def l1 (vs : List LV) (L q : Nat) : Nat := lf vs (nn L) (o1 q) (nn L)
def uh (vs : List LV) (L : Nat) : Bool := an (Nat.ble 4 L) (an (eqI (by1 vs 0) 87) (an (eqI (by1 vs (L - 2)) (cA vs (L - 2))) (eqI (by1 vs (L - 1)) (cB vs (L - 2)))))
def uo (vs : List LV) (L : Nat) : Bool := an (uh vs L) (an (Nat.beq (uf vs L) 0) (eqI (by1 (un vs L) 0) (ul vs L - 1)))
def okU (vs : List LV) (L q : Nat) : Bool := an (an (okY vs) (Nat.beq (lenL vs) L)) (an (Nat.ble L 1000000) (Nat.ble L q))
def okU1 (vs : List LV) (L q : Nat) : Bool := an (okU vs L q) (an (uo vs L) (Nat.ble 2 (ul vs L)))
def okU0 (vs : List LV) (L q : Nat) : Bool := an (okU vs L q) (an (uo vs L) (Nat.beq (ul vs L) 1))
def okUB (vs : List LV) (L q : Nat) : Bool := an (okU vs L q) (notB (uo vs L))
end
end S
noncomputable def unGE : K.CEnt := ⟨9, (fun xs os => match xs, os with
  | [.slice 0 0 L (.known q)], [.flat [.i .u8] et .ro vs] => some (S.okU1 vs L q, ⟨.ret (.tup [.slice 1 0 (S.ul vs L - 1) (.rest 0), .int .i64 0]), [], [.flat [.i .i64] 3 (.grow 1) (S.uw vs L)]⟩)
  | [.slice 0 0 L (.rest 0)], [.flat [.i .u8] et (.grow 1) vs] => some (S.okU1 vs L L, ⟨.ret (.tup [.slice 1 0 (S.ul vs L - 1) (.rest 0), .int .i64 0]), [], [.flat [.i .i64] 3 (.grow 1) (S.uw vs L)]⟩)
  | _, _ => none), [5]⟩
noncomputable def unZE : K.CEnt := ⟨9, (fun xs os => match xs, os with
  | [.slice 0 0 L (.known q)], [.flat [.i .u8] et .ro vs] => some (S.okU0 vs L q, ⟨.ret (.tup [.slice 1 0 0 (.known 0), .int .i64 0]), [], [.cells 3 .exact []]⟩)
  | [.slice 0 0 L (.rest 0)], [.flat [.i .u8] et (.grow 1) vs] => some (S.okU0 vs L L, ⟨.ret (.tup [.slice 1 0 0 (.known 0), .int .i64 0]), [], [.cells 3 .exact []]⟩)
  | _, _ => none), [5]⟩
noncomputable def unBE : K.CEnt := ⟨9, (fun xs os => match xs, os with
  | [.slice 0 0 L (.known q)], [.flat [.i .u8] et .ro vs] => some (S.okUB vs L q, ⟨.ret (.tup [.nils, .int .i64 9]), [], []⟩)
  | [.slice 0 0 L (.rest 0)], [.flat [.i .u8] et (.grow 1) vs] => some (S.okUB vs L L, ⟨.ret (.tup [.nils, .int .i64 9]), [], []⟩)
  | _, _ => none), [5]⟩
end Go.Proofs.Ytogngajglbgjmaa.Ev
