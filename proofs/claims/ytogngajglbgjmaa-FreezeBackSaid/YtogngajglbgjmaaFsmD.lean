/- Contracts, what they say: Fsm. -/
import Derived.Test.YtogngajglbgjmaaFnuD
namespace Go.Proofs.Ytogngajglbgjmaa.Ev
open Go
set_option linter.unusedVariables false
namespace S
noncomputable section
def v1 (vs : List LV) (i : Int) : Int := intOf (K.atV vs (0 + i.toNat * 1))
def smI (vs us : List LV) (W : Nat) (i : Int) : Bool := an (an (Nat.beq (lenL vs) W) (Nat.beq (lenL us) W)) (an (Nat.ble W 1000000) (an (notB (ltI i 0)) (notB (ltI W i))))
/-- Alike, from a place on. -/
def smR (vs us : List LV) (j : Nat) : Int → Bool := @Nat.rec (fun _ => Int → Bool) (fun _ => true) (fun _ g i => an (eqI (v1 vs i) (v1 us i)) (g (i + 1))) j
def sj (W : Nat) (i : Int) : Nat := ((W : Int) - i).toNat
def smG (vs us : List LV) (W : Nat) (i : Int) : Bool := an (smI vs us W i) (smR vs us (sj W i) i)
end
end S
noncomputable def smLB : K.BEnt := ⟨[0, 1, 5], 9, (fun xs os => match xs, os with
  | [.slice 0 0 W cp, .slice 1 0 W2 cq, .int .i64 i], [.flat [.i .i64] et w vs, .flat [.i .i64] et2 w2 us] => some (S.an (Nat.beq W W2) (S.smG vs us W i), ⟨.exit 0, [], [], []⟩)
  | _, _ => none), []⟩
noncomputable def smB : K.BEnt := ⟨[0, 1, 5], 9, (fun xs os => match xs, os with
  | [.slice 0 0 W cp, .slice 1 0 W2 cq, .int .i64 i], [.flat [.i .i64] et w vs, .flat [.i .i64] et2 w2 us] => some (S.an (Nat.beq W W2) (S.smG vs us W i), ⟨.normal, [], [], []⟩)
  | _, _ => none), []⟩
noncomputable def sameXE : K.CEnt := ⟨9, (fun xs os => match xs, os with
  | [.slice 0 0 W cp, .slice 1 0 W2 cq], [.flat [.i .i64] et w vs, .flat [.i .i64] et2 w2 us] => some (S.an (Nat.beq W W2) (S.smG vs us W 0), ⟨.ret (.bool true), [], []⟩)
  | _, _ => none), [3]⟩
end Go.Proofs.Ytogngajglbgjmaa.Ev
