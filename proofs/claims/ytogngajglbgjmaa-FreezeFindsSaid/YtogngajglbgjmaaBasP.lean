/- Contracts, proved: Bas. -/
import Derived.Test.YtogngajglbgjmaaBasD
namespace Go.Proofs.Ytogngajglbgjmaa.Ev
open Go
set_option linter.unusedVariables false
set_option linter.unusedSimpArgs false
set_option maxRecDepth 100000
set_option maxHeartbeats 1000000
namespace S
theorem an_iff {a b : Bool} : an a b = true ↔ a = true ∧ b = true := by cases a <;> cases b <;> simp [an]
theorem an_false {a b : Bool} : an a b = false ↔ (a = true → b = false) := by cases a <;> cases b <;> simp [an]
theorem inR_iff {a n : Int} : inR a n = true ↔ 0 ≤ a ∧ a < n := by
  unfold inR
  cases hb : ltI a 0 with
  | true => have := ltI_true.1 hb; simp; omega
  | false => have := ltI_false.1 hb; show ltI a n = true ↔ _; rw [ltI_true]; omega
theorem inR_no {a n : Int} : inR a n = false ↔ ¬ (0 ≤ a ∧ a < n) := by
  cases h : inR a n with
  | true => simp [inR_iff.1 h]
  | false => simp only [true_iff]; intro h2; rw [inR_iff.2 h2] at h; cases h
theorem all256 {α : Type} {f g : Int → α} (h : (List.range 256).map (fun (i : Nat) => f (i : Int)) = (List.range 256).map (fun (i : Nat) => g (i : Int))) {n : Int} (h0 : 0 ≤ n) (h1 : n < 256) : f n = g n := by
  have h2 := List.map_inj_left.1 h n.toNat (List.mem_range.2 (by omega))
  rw [show ((n.toNat : Nat) : Int) = n by omega] at h2
  exact h2
theorem eqI_self (a : Int) : eqI a a = true := eqI_true.2 rfl
theorem eqI_comm (a b : Int) : eqI a b = eqI b a := by rw [Bool.eq_iff_iff, eqI_true, eqI_true]; exact eq_comm
end S
end Go.Proofs.Ytogngajglbgjmaa.Ev
