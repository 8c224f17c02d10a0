/- Contracts, what they say: Tld. -/
import Derived.Test.YtlgfojaalmelhaaDoorTfwD
import Derived.Test.YtlgfojaalmelhaaDoorTorD
namespace Go.Proofs.YtlgfojaalmelhaaDoor.Ev
open Go
set_option linter.unusedVariables false
namespace S
noncomputable section
def led (vs : List LV) (a : Int) (k : Nat) (x : Int) : Bool := (suc vs a k).any fun y => eqI (a + y) x
def r0 (vs : List LV) (k : Nat) : Int := wrapK IntKind.i64 (intOf (K.atV vs (0 + Int.toNat (k : Int) * 1)))
def rj (vs : List LV) (k j : Nat) : Int := wrapK IntKind.i64 (intOf (K.atV vs (0 + Int.toNat (wrapK IntKind.i64 ((k : Int) + (j : Int))) * 1)))

def okLd (vs : List LV) (W : Nat) (a i : Int) : Bool := an (an (okB vs) (Nat.beq (lenL vs) W)) (an (Nat.ble W 1000) (an (isW a) (an (notB (ltI i 0)) (an (ltI i W) (fits vs W a i.toNat)))))
end
end S
noncomputable def lq1E : K.CEnt := ⟨9, (fun xs os => match xs, os with
 | [.int .i64 o], [] => some (S.an (S.isB o) (eqI (S.len o) 1), ⟨.ret (.int .i64 1), [], []⟩)
 | _, _ => none), []⟩
noncomputable def lq2E : K.CEnt := ⟨9, (fun xs os => match xs, os with
 | [.int .i64 o], [] => some (S.an (S.isB o) (eqI (S.len o) 2), ⟨.ret (.int .i64 2), [], []⟩)
 | _, _ => none), []⟩
noncomputable def lq3E : K.CEnt := ⟨9, (fun xs os => match xs, os with
 | [.int .i64 o], [] => some (S.an (S.isB o) (eqI (S.len o) 3), ⟨.ret (.int .i64 3), [], []⟩)
 | _, _ => none), []⟩
noncomputable def ldE : K.CEnt := ⟨9, (fun xs os => match xs, os with
 | [.int .i64 a, .slice 0 0 W cp, .int .i64 i, .int .i64 x], [.flat [.i .u8] et w vs] => some (S.okLd vs W a i, ⟨.ret (.bool (S.led vs a i.toNat x)), [], []⟩)
 | _, _ => none), [5]⟩
end Go.Proofs.YtlgfojaalmelhaaDoor.Ev
