/- Contracts, proved: Fnq. -/
import Derived.Test.YtogngajglbgjmaaFnqD
import Derived.Test.YtogngajglbgjmaaFchP
namespace Go.Proofs.Ytogngajglbgjmaa.Ev
open Go
set_option linter.unusedVariables false
set_option linter.unusedSimpArgs false
set_option maxRecDepth 100000
set_option maxHeartbeats 1000000
namespace S
theorem okY_rec {vs : List LV} : ∀ {j : Nat}, (@Nat.rec (fun _ => Bool) true (fun i r => an (inR (by1 vs i) 256) r) j : Bool) = true ↔ ∀ i, i < j → 0 ≤ intOf (K.atV vs i) ∧ intOf (K.atV vs i) < 256
  | 0 => ⟨fun _ i hi => absurd hi (Nat.not_lt_zero _), fun _ => rfl⟩
  | j + 1 => by
    show an (inR (by1 vs j) 256) (@Nat.rec (fun _ => Bool) true (fun i r => an (inR (by1 vs i) 256) r) j) = true ↔ _
    rw [an_iff, inR_iff, okY_rec (j := j)]
    constructor
    · rintro ⟨h1, h2⟩ i hi
      by_cases e : i = j
      · subst e; exact h1
      · exact h2 i (by omega)
    · intro h; exact ⟨h j (by omega), fun i hi => h i (by omega)⟩
theorem okY_iff {vs : List LV} : okY vs = true ↔ ∀ i, i < lenL vs → 0 ≤ intOf (K.atV vs i) ∧ intOf (K.atV vs i) < 256 := okY_rec
theorem okY_rng {vs : List LV} (h : okY vs = true) {i : Nat} (hi : i < lenL vs) : 0 ≤ intOf (K.atV vs i) ∧ intOf (K.atV vs i) < 256 := okY_iff.1 h i hi
theorem beq00 : Nat.beq 0 0 = true := rfl
theorem bc_self {b : Bool} {p : Prop} : bc b p p = p := by cases b <;> rfl
theorem beqN_iff {a b : Nat} : Nat.beq a b = true ↔ a = b := ⟨Nat.eq_of_beq_eq_true, fun h => by rw [h]; exact Nat.beq_refl _⟩
theorem beqN_no {a b : Nat} : Nat.beq a b = false ↔ a ≠ b := by
  cases h : Nat.beq a b
  · exact ⟨fun _ e => (by rw [beqN_iff.2 e] at h; cases h), fun _ => rfl⟩
  · exact ⟨fun e => (by cases e), fun e => absurd (beqN_iff.1 h) e⟩
theorem bleN_iff {a b : Nat} : Nat.ble a b = true ↔ a ≤ b := ⟨Nat.le_of_ble_eq_true, Nat.ble_eq_true_of_le⟩
theorem bltN_iff {a b : Nat} : Nat.blt a b = true ↔ a < b := bleN_iff
theorem bltN_no {a b : Nat} : Nat.blt a b = false ↔ b ≤ a := by
  cases h : Nat.blt a b
  · exact ⟨fun _ => Nat.le_of_not_lt fun e => (by rw [bltN_iff.2 e] at h; cases h), fun _ => rfl⟩
  · have := bltN_iff.1 h; exact ⟨(fun e => by cases e), fun e => by omega⟩
theorem lpok_ok : lpok 10 74 T0 [48, 49] code0 code1 = true := by
  unfold lpok; exact @decide_eq_true _ (Classical.propDecidable _) ⟨rfl, rfl, rfl, rfl, rfl, rfl⟩
theorem lpok_of {fn n : Nat} {t : Tr LV} {ps : List Tmp} {ca cb : Code} (h : lpok fn n t ps ca cb = true) : fn = 10 ∧ n = 74 ∧ t = T0 ∧ ps = [48, 49] ∧ ca = code0 ∧ cb = code1 := by
  unfold lpok at h; exact @of_decide_eq_true _ (Classical.propDecidable _) h
theorem okA_iff {vs : List LV} {o n c : Nat} : okA vs o n c = true ↔ okY vs = true ∧ o + n ≤ lenL vs ∧ n < c ∧ lenL vs ≤ 1000000 := by
  unfold okA; rw [an_iff, an_iff, an_iff, bleN_iff, bltN_iff, bleN_iff]
theorem okB_iff {vs : List LV} {o n c m : Nat} {ns : List LV} {left : Int} : okB vs o n c m ns left = true ↔ okA vs o n c = true ∧ lenL ns = m ∧ m + n ≤ 1000000 ∧ left = n := by
  unfold okB; rw [an_iff, an_iff, an_iff, beqN_iff, bleN_iff, eqI_true]
/-! what the code adds up -/
theorem and127 {b : Int} (h0 : 0 ≤ b) (h1 : b < 256) : andK .u8 b 127 = b % 128 := all256 (f := fun m => andK .u8 m 127) (g := fun m => m % 128) (by decide +kernel) h0 h1
theorem orK_add {a b : Int} {k : Nat} (ha : 0 ≤ a) (hk : a < 2 ^ k) (hb : 0 ≤ b) (hl : a + b * 2 ^ k < 9223372036854775808) : orK .i64 a (b * 2 ^ k) = a + b * 2 ^ k := by
  obtain ⟨x, rfl⟩ := Int.eq_ofNat_of_zero_le ha
  obtain ⟨y, rfl⟩ := Int.eq_ofNat_of_zero_le hb
  have e : ((y : Int) * 2 ^ k) = ((y * 2 ^ k : Nat) : Int) := by push_cast; rfl
  have hx : x < 2 ^ k := by
    have : ((x : Int)) < ((2 ^ k : Nat) : Int) := by push_cast; exact hk
    exact Int.ofNat_lt.1 this
  have hl2 : x + y * 2 ^ k < 9223372036854775808 := by
    have : ((x + y * 2 ^ k : Nat) : Int) < 9223372036854775808 := by push_cast; exact hl
    omega
  rw [e]
  show bc (Nat.blt x (limK .i64)) (bc (Nat.blt (y * 2 ^ k) (limK .i64)) (Int.ofNat (Nat.lor x (y * 2 ^ k))) _) _ = _
  have l1 : Nat.blt x (limK .i64) = true := bltN_iff.2 (by show x < 9223372036854775808; omega)
  have l2 : Nat.blt (y * 2 ^ k) (limK .i64) = true := bltN_iff.2 (by show y * 2 ^ k < 9223372036854775808; omega)
  rw [l1, l2, bc_true, bc_true]
  show ((x ||| y * 2 ^ k : Nat) : Int) = _
  rw [Nat.or_comm, Nat.mul_comm y, ← Nat.two_pow_add_eq_or_of_lt hx]
  push_cast
  rw [Int.add_comm]
theorem orE_rng {vs : List LV} (hY : okY vs = true) {o : Nat} : ∀ {k : Nat}, o + k ≤ lenL vs → k ≤ 9 → orE vs o k = acS vs o k ∧ 0 ≤ acS vs o k ∧ acS vs o k < 2 ^ (7 * k)
  | 0, _, _ => ⟨rfl, Int.le_refl 0, (by show (0 : Int) < 2 ^ (7 * 0); decide)⟩
  | k + 1, h1, h2 => by
    obtain ⟨e, h3, h4⟩ := orE_rng hY (o := o) (k := k) (by omega) (by omega)
    obtain ⟨r0, r1⟩ := okY_rng hY (i := o + k) (by omega)
    have p7 : (2 : Int) ^ (7 * k) = 128 ^ k := by rw [Int.pow_mul]; rfl
    have p8 : (2 : Int) ^ (7 * (k + 1)) = 128 * 128 ^ k := by rw [show 7 * (k + 1) = 7 * k + 7 by omega, Int.pow_add, p7]; rw [Int.mul_comm]; rfl
    have hp : (1 : Int) ≤ 128 ^ k := Int.pow_pos (by decide)
    have hp8 : (128 : Int) ^ k ≤ 72057594037927936 := by
      have : (128 : Int) ^ k ≤ 128 ^ 8 := by
        have := Nat.pow_le_pow_right (show 0 < 128 by decide) (show k ≤ 8 by omega)
        exact_mod_cast this
      exact Int.le_trans this (by decide)
    have hm0 : 0 ≤ intOf (K.atV vs (o + k)) % 128 := by omega
    have hm1 : intOf (K.atV vs (o + k)) % 128 ≤ 127 := by omega
    have a1 : acS vs o (k + 1) = acS vs o k + intOf (K.atV vs (o + k)) % 128 * 128 ^ k := rfl
    have mu : intOf (K.atV vs (o + k)) % 128 * 128 ^ k ≤ 127 * 128 ^ k := Int.mul_le_mul_of_nonneg_right hm1 (by omega)
    have m0 : 0 ≤ intOf (K.atV vs (o + k)) % 128 * 128 ^ k := Int.mul_nonneg hm0 (by omega)
    have w1 : orE vs o (k + 1) = orK .i64 (orE vs o k) (wrapK .i64 (wrapK .i64 (andK .u8 (intOf (K.atV vs (o + k))) 127) * (2 : Int) ^ (7 * k))) := rfl
    rw [p7] at h4
    refine ⟨?_, by rw [a1]; omega, by rw [a1, p8]; omega⟩
    rw [w1, e, and127 r0 r1, wrapK_i64 (intOf (K.atV vs (o + k)) % 128)]
    rw [show (intOf (K.atV vs (o + k)) % 128 + 9223372036854775808) % 18446744073709551616 - 9223372036854775808 = intOf (K.atV vs (o + k)) % 128 by omega]
    have w3 : wrapK .i64 (intOf (K.atV vs (o + k)) % 128 * 2 ^ (7 * k)) = intOf (K.atV vs (o + k)) % 128 * 2 ^ (7 * k) := by rw [p7, wrapK_i64]; omega
    rw [w3, orK_add h3 (by rw [p7]; exact h4) hm0 (by rw [p7]; omega), p7, a1]
theorem orE_eq {vs : List LV} (hY : okY vs = true) {o k : Nat} (h1 : o + k ≤ lenL vs) (h2 : k ≤ 9) : orE vs o k = acS vs o k := (orE_rng hY h1 h2).1
/-! a number's bytes -/
theorem gt_succ (vs : List LV) (o n j i : Nat) (acc : Int) : gt vs o n (j + 1) i acc = bc (Nat.blt i n) (bc (ltI (by1 vs (o + i)) 128) (bc (bc (eqI (by1 vs (o + i)) 0) (Nat.blt 0 i) false) (0, 0) (bc (ltI 4611686018427387904 (acc + by1 vs (o + i) * 128 ^ i)) (0, 0) (i + 1, acc + by1 vs (o + i) * 128 ^ i))) (gt vs o n j (i + 1) (acc + (by1 vs (o + i) - 128) * 128 ^ i))) (0, 0) := rfl
section
variable {vs : List LV} {o n j i : Nat} (C : gt vs o n 9 0 0 = gt vs o n (j + 1) i (acS vs o i))
include C
theorem gk_end (hi : ¬ i < n) : gk vs o n = 0 := by
  unfold gk; rw [C, gt_succ, bltN_no.2 (by omega)]; rfl
theorem gk_more (hi : i < n) (hx : ¬ intOf (K.atV vs (o + i)) < 128) (r : 0 ≤ intOf (K.atV vs (o + i)) ∧ intOf (K.atV vs (o + i)) < 256) : gt vs o n 9 0 0 = gt vs o n j (i + 1) (acS vs o (i + 1)) := by
  rw [C, gt_succ, bltN_iff.2 hi, bc_true, ltI_false.2 (show 128 ≤ by1 vs (o + i) by unfold by1; omega), bc_false]
  have e : acS vs o (i + 1) = acS vs o i + by1 vs (o + i) % 128 * 128 ^ i := rfl
  rw [e, show by1 vs (o + i) % 128 = by1 vs (o + i) - 128 by unfold by1; omega]
theorem gk_zero (hi : i < n) (hx : intOf (K.atV vs (o + i)) < 128) (hp : 0 < i) (hz : intOf (K.atV vs (o + i)) = 0) : gk vs o n = 0 := by
  unfold gk; rw [C, gt_succ, bltN_iff.2 hi, bc_true, ltI_true.2 (show by1 vs (o + i) < 128 from hx), bc_true, eqI_true.2 (show by1 vs (o + i) = 0 from hz), bc_true, bltN_iff.2 hp]; rfl
theorem gk_last (hi : i < n) (hx : intOf (K.atV vs (o + i)) < 128) (r : 0 ≤ intOf (K.atV vs (o + i)) ∧ intOf (K.atV vs (o + i)) < 256) : gt vs o n 9 0 0 = bc (bc (eqI (by1 vs (o + i)) 0) (Nat.blt 0 i) false) (0, 0) (bc (ltI 4611686018427387904 (acS vs o (i + 1))) (0, 0) (i + 1, acS vs o (i + 1))) := by
  rw [C, gt_succ, bltN_iff.2 hi, bc_true, ltI_true.2 (show by1 vs (o + i) < 128 from hx), bc_true]
  have e : acS vs o (i + 1) = acS vs o i + by1 vs (o + i) % 128 * 128 ^ i := rfl
  rw [e, show by1 vs (o + i) % 128 = by1 vs (o + i) by unfold by1; omega]
theorem gk_big (hi : i < n) (hx : intOf (K.atV vs (o + i)) < 128) (r : 0 ≤ intOf (K.atV vs (o + i)) ∧ intOf (K.atV vs (o + i)) < 256) (hw : 4611686018427387904 < acS vs o (i + 1)) : gk vs o n = 0 := by
  unfold gk; rw [gk_last C hi hx r, ltI_true.2 hw, bc_true]
  cases bc (eqI (by1 vs (o + i)) 0) (Nat.blt 0 i) false <;> rfl
theorem gk_num (hi : i < n) (hx : intOf (K.atV vs (o + i)) < 128) (hz : i = 0 ∨ intOf (K.atV vs (o + i)) ≠ 0) (r : 0 ≤ intOf (K.atV vs (o + i)) ∧ intOf (K.atV vs (o + i)) < 256) (hw : acS vs o (i + 1) ≤ 4611686018427387904) : gk vs o n = i + 1 ∧ gv vs o n = acS vs o (i + 1) := by
  unfold gk gv; rw [gk_last C hi hx r, ltI_false.2 hw, bc_false]
  have e : (bc (eqI (by1 vs (o + i)) 0) (Nat.blt 0 i) false : Bool) = false := by
    rcases hz with rfl | h
    · cases eqI (by1 vs (o + 0)) 0 <;> rfl
    · rw [eqI_false.2 (show by1 vs (o + i) ≠ 0 from h)]; rfl
  rw [e]
  exact ⟨rfl, rfl⟩
end
theorem gk_long {vs : List LV} {o n : Nat} (C : gt vs o n 9 0 0 = gt vs o n 1 8 (acS vs o 8)) (hi : 8 < n) (hx : ¬ intOf (K.atV vs (o + 8)) < 128) : gk vs o n = 0 := by
  unfold gk; rw [C, gt_succ, bltN_iff.2 hi, bc_true, ltI_false.2 (show 128 ≤ by1 vs (o + 8) by unfold by1; omega), bc_false]; rfl
theorem gt_le (vs : List LV) (o n : Nat) : ∀ (j i : Nat) (acc : Int), (gt vs o n j i acc).1 ≤ n
  | 0, i, acc => Nat.zero_le n
  | j + 1, i, acc => by
    rw [gt_succ]
    cases h : Nat.blt i n
    · exact Nat.zero_le n
    · rw [bc_true]
      have := bltN_iff.1 h
      cases ltI (by1 vs (o + i)) 128
      · rw [bc_false]; exact gt_le vs o n j _ _
      · rw [bc_true]
        cases (bc (eqI (by1 vs (o + i)) 0) (Nat.blt 0 i) false : Bool)
        · rw [bc_false]
          cases ltI 4611686018427387904 (acc + by1 vs (o + i) * 128 ^ i)
          · rw [bc_false]; show i + 1 ≤ n; omega
          · exact Nat.zero_le n
        · exact Nat.zero_le n
theorem gk_le (vs : List LV) (o n : Nat) : gk vs o n ≤ n := gt_le vs o n 9 0 0
/-! the numbers, one by one -/
theorem lf_succ (vs : List LV) (j o n : Nat) : lf vs (j + 1) o n = bc (Nat.beq (gk vs o n) 0) n (lf vs j (o + gk vs o n) (n - gk vs o n)) := rfl
theorem nl_succ (vs : List LV) (j o n : Nat) : nl vs (j + 1) o n = bc (Nat.beq (gk vs o n) 0) [] (.int .i64 (gv vs o n) :: nl vs j (o + gk vs o n) (n - gk vs o n)) := rfl
theorem fuel (vs : List LV) : ∀ (n j j' o : Nat), n ≤ j → n ≤ j' → lf vs j o n = lf vs j' o n ∧ nl vs j o n = nl vs j' o n := by
  intro n
  induction n using Nat.strongRecOn with
  | _ n ih =>
    intro j j' o h1 h2
    have hl := gk_le vs o n
    have h0 : n = 0 → gk vs o n = 0 := fun e => by omega
    have z : ∀ j, gk vs o n = 0 → lf vs j o n = n ∧ nl vs j o n = [] := fun j e => by
      cases j with
      | zero => exact ⟨rfl, rfl⟩
      | succ j => rw [lf_succ, nl_succ, e]; exact ⟨rfl, rfl⟩
    by_cases hg : gk vs o n = 0
    · rw [(z j hg).1, (z j hg).2, (z j' hg).1, (z j' hg).2]; exact ⟨rfl, rfl⟩
    · cases j with
      | zero => omega
      | succ j =>
        cases j' with
        | zero => omega
        | succ j' =>
          obtain ⟨a, b⟩ := ih (n - gk vs o n) (by omega) j j' (o + gk vs o n) (by omega) (by omega)
          rw [lf_succ, lf_succ, nl_succ, nl_succ, a, b]; exact ⟨rfl, rfl⟩
theorem lf_stop {vs : List LV} {o n : Nat} (g : gk vs o n = 0) (h : 1 ≤ n) : lf vs n o n ≠ 0 := by
  cases n with
  | zero => omega
  | succ n => rw [lf_succ, g]; show n + 1 ≠ 0; omega
theorem stop {vs : List LV} {o n : Nat} (g : gk vs o n = 0) : lf vs n o n = n ∧ nl vs n o n = [] := by
  cases n with
  | zero => exact ⟨rfl, rfl⟩
  | succ n => rw [lf_succ, nl_succ, g]; exact ⟨rfl, rfl⟩
theorem go {vs : List LV} {o n k : Nat} (g : gk vs o n = k) (h : 1 ≤ k) : lf vs n o n = lf vs (n - k) (o + k) (n - k) ∧ nl vs n o n = .int .i64 (gv vs o n) :: nl vs (n - k) (o + k) (n - k) := by
  have hl := gk_le vs o n
  cases n with
  | zero => omega
  | succ n =>
    rw [lf_succ, nl_succ, g, beq_no h, bc_false, bc_false]
    obtain ⟨a, b⟩ := fuel vs (n + 1 - k) n (n + 1 - k) (o + k) (by omega) (by omega)
    rw [a, b]; exact ⟨rfl, rfl⟩
end S
/-- What is left to be shown where a number of k bytes was read. -/
def nqRF_leaf (et o n c m : Nat) (vs ns : List LV) (left : Int) (k : Nat) : Prop :=
  (bc (Nat.ble n n) (bc (Nat.ble k n) (bc (Nat.ble n c) (bc (Nat.ble ((0 : Nat) + m) (lenL ns)) (bc (Nat.ble ((m + (1 : Nat)) * (8 : Nat)) (1099511627776 : Nat)) (bc (S.an (S.lpok (10 : FuncId) (74 : Nat) S.T0 [(48 : Tmp), (49 : Tmp)] S.code0 S.code1) (S.an (S.tyok (6 : Nat) (3 : TypeId) (23 : TypeId) (22 : TypeId) (3 : Nat)) (S.an (S.okB vs (@bc Nat (Nat.beq c k) o (o + k)) (n - k) (c - k) (m + (1 : Nat)) (app (sub ns (0 : Nat) m) (sub (setMany [LV.int IntKind.i64 (0 : Int)] (0 : Nat) [LV.int IntKind.i64 (S.orE vs o k)]) (0 : Nat) (1 : Nat))) ↑(n - k)) (Nat.beq (S.lf vs (n - k) (@bc Nat (Nat.beq c k) o (o + k)) (n - k)) (0 : Nat))))) (K.LOk Try.prog 20 57 (inner (inner (blkOf 20 0))) [(0 : Nat), (1 : Nat)] [LV.func (Fn.yield (0 : Nat)) [] [], LV.ptr (2 : Nat) (0 : Nat)] [LObj.loop LoopState.ready none (10 : FuncId) (74 : Nat) S.T0 [(48 : Tmp), (49 : Tmp)] S.code0 S.code1 (6 : Nat), LObj.cells (3 : TypeId) Own.exact [LV.int IntKind.i64 ↑(n - k)], LObj.cells (23 : TypeId) Own.exact [LV.slice (3 : Nat) (@bc Nat (Nat.beq c k) o (o + k)) (n - k) (Cap.known (c - k))], LObj.flat [CK.i IntKind.u8] et Own.ro vs, LObj.cells (22 : TypeId) Own.exact [LV.slice (5 : Nat) (0 : Nat) (m + (1 : Nat)) (Cap.rest (0 : Nat))], LObj.flat [CK.i IntKind.i64] (3 : Nat) (Own.grow (1 : Nat)) (app (sub ns (0 : Nat) m) (sub (setMany [LV.int IntKind.i64 (0 : Int)] (0 : Nat) [LV.int IntKind.i64 (S.orE vs o k)]) (0 : Nat) (1 : Nat))), LObj.defers false] { x := LX.exit (0 : Nat), L := [], ch := [((0 : Nat), LObj.loop LoopState.ready none (10 : FuncId) (74 : Nat) S.T0 [(48 : Tmp), (49 : Tmp)] S.code0 S.code1 (6 : Nat)), ((1 : Nat), LObj.cells (3 : TypeId) Own.exact [LV.int IntKind.i64 ↑(S.lf vs (n - k) (@bc Nat (Nat.beq c k) o (o + k)) (n - k))]), ((2 : Nat), LObj.dead), ((4 : Nat), LObj.cells (22 : TypeId) Own.exact [LV.slice (7 : Nat) (0 : Nat) (m + (1 : Nat) + S.nll vs (n - k) (@bc Nat (Nat.beq c k) o (o + k)) (n - k)) (Cap.rest (0 : Nat))]), ((5 : Nat), LObj.dead)], new := [LObj.flat [CK.i IntKind.i64] (3 : TypeId) (Own.grow (1 : Nat)) (app (app (sub ns (0 : Nat) m) (sub (setMany [LV.int IntKind.i64 (0 : Int)] (0 : Nat) [LV.int IntKind.i64 (S.orE vs o k)]) (0 : Nat) (1 : Nat))) (S.nl vs (n - k) (@bc Nat (Nat.beq c k) o (o + k)) (n - k)))] } ∧ bc (Nat.beq n (0 : Nat)) False (LoopState.ready = LoopState.ready ∧ ((none : Option Code) = none ∧ ([(48 : Tmp), (49 : Tmp)] = [(48 : Tmp), (49 : Tmp)] ∧ (S.code0 = S.code0 ∧ (S.code1 = S.code1 ∧ ((0 : Nat) = (0 : Nat) ∧ ((0 : Nat) = (0 : Nat) ∧ ((0 : Nat) = (0 : Nat) ∧ ((↑(S.lf vs n o n) : Int) = ↑(S.lf vs (n - k) (@bc Nat (Nat.beq c k) o (o + k)) (n - k)) ∧ ((0 : Nat) = (0 : Nat) ∧ (m + S.nll vs n o n = m + (1 : Nat) + S.nll vs (n - k) (@bc Nat (Nat.beq c k) o (o + k)) (n - k) ∧ (Cap.rest (0 : Nat) = Cap.rest (0 : Nat) ∧ (app ns (S.nl vs n o n) = app (app (sub ns (0 : Nat) m) (sub (setMany [LV.int IntKind.i64 (0 : Int)] (0 : Nat) [LV.int IntKind.i64 (S.orE vs o k)]) (0 : Nat) (1 : Nat))) (S.nl vs (n - k) (@bc Nat (Nat.beq c k) o (o + k)) (n - k)) ∧ True)))))))))))))) False) False) False) False) False) False)
theorem nqRF_run (et o n c m : Nat) (vs ns : List LV) (left : Int) : K.RunL2 (envK [] (fun g id => none) (fun g i => bc (Nat.beq g 10) (hasN [6, 7] i) (true))) K.openE 30 20 57 (inner (inner (blkOf 20 0))) nqFB [(0, .func (.yield 0) [] []), (1, .ptr 2 0)] [.loop .ready none 10 74 S.T0 [48, 49] S.code0 S.code1 6, .cells 3 .exact [.int .i64 left], .cells 23 .exact [.slice 3 o n (.known c)], .flat [.i .u8] et .ro vs, .cells 22 .exact [.slice 5 0 m (.rest 0)], .flat [.i .i64] 3 (.grow 1) ns, .defers false] (.skip 1 (.fork (.skip 1 (.take true (.skip 5 (.fork (.skip 6 (.take true (.skip 0 (.fork (.skip 5 (.fork (.skip 6 (.take true (.skip 0 (.fork (.skip 5 (.fork (.skip 6 (.take true (.skip 0 (.fork (.skip 5 (.fork (.skip 6 (.take true (.skip 0 (.fork (.skip 5 (.fork (.skip 6 (.take true (.skip 0 (.fork (.skip 5 (.fork (.skip 6 (.take true (.skip 0 (.fork (.skip 5 (.fork (.skip 6 (.take true (.skip 0 (.fork (.skip 5 (.fork (.skip 6 (.take true (.skip 0 (.fork (.skip 5 (.fork .auto (.skip 6 (.take false .auto)))) .auto)))) (.skip 6 (.take false .auto)))) .auto)))) (.skip 6 (.take false .auto)))) .auto)))) (.skip 6 (.take false .auto)))) .auto)))) (.skip 6 (.take false .auto)))) .auto)))) (.skip 6 (.take false .auto)))) .auto)))) (.skip 6 (.take false .auto)))) .auto)))) (.skip 6 (.take false .auto)))) .auto)))) (.skip 6 (.take false .auto)))))) .auto)) (Nat.beq n 0) ⟨.exit 0, [], [], []⟩ ⟨.exit 0, [], [(0, .loop .ready none 10 74 S.T0 [48, 49] S.code0 S.code1 6), (1, .cells 3 .exact [.int .i64 (S.lf vs n o n)]), (2, .dead), (4, .cells 22 .exact [.slice 7 0 (m + S.nll vs n o n) (.rest 0)]), (5, .dead)], [.flat [.i .i64] 3 (.grow 1) (app ns (S.nl vs n o n))]⟩ =
    (bc (ltI (0 : Int) ↑n) (ltI (0 : Int) ↑n = true ∧ bc (ltI (0 : Int) ↑n) (bc (Nat.ble (o + (0 : Nat) + (1 : Nat)) (lenL vs)) (bc (notB (ltI (intOf (K.atV vs (o + (0 : Nat)))) (128 : Int))) (notB (ltI (intOf (K.atV vs (o + (0 : Nat)))) (128 : Int)) = true ∧ bc (ltI ((1 : Int)) ↑n) (bc (ltI ((1 : Int)) ↑n) (bc (Nat.ble (o + (1 : Nat) + (1 : Nat)) (lenL vs)) (bc (notB (ltI (intOf (K.atV vs (o + (1 : Nat)))) (128 : Int))) (notB (ltI (intOf (K.atV vs (o + (1 : Nat)))) (128 : Int)) = true ∧ bc (ltI ((2 : Int)) ↑n) (bc (ltI ((2 : Int)) ↑n) (bc (Nat.ble (o + (2 : Nat) + (1 : Nat)) (lenL vs)) (bc (notB (ltI (intOf (K.atV vs (o + (2 : Nat)))) (128 : Int))) (notB (ltI (intOf (K.atV vs (o + (2 : Nat)))) (128 : Int)) = true ∧ bc (ltI ((3 : Int)) ↑n) (bc (ltI ((3 : Int)) ↑n) (bc (Nat.ble (o + (3 : Nat) + (1 : Nat)) (lenL vs)) (bc (notB (ltI (intOf (K.atV vs (o + (3 : Nat)))) (128 : Int))) (notB (ltI (intOf (K.atV vs (o + (3 : Nat)))) (128 : Int)) = true ∧ bc (ltI ((4 : Int)) ↑n) (bc (ltI ((4 : Int)) ↑n) (bc (Nat.ble (o + (4 : Nat) + (1 : Nat)) (lenL vs)) (bc (notB (ltI (intOf (K.atV vs (o + (4 : Nat)))) (128 : Int))) (notB (ltI (intOf (K.atV vs (o + (4 : Nat)))) (128 : Int)) = true ∧ bc (ltI ((5 : Int)) ↑n) (bc (ltI ((5 : Int)) ↑n) (bc (Nat.ble (o + (5 : Nat) + (1 : Nat)) (lenL vs)) (bc (notB (ltI (intOf (K.atV vs (o + (5 : Nat)))) (128 : Int))) (notB (ltI (intOf (K.atV vs (o + (5 : Nat)))) (128 : Int)) = true ∧ bc (ltI ((6 : Int)) ↑n) (bc (ltI ((6 : Int)) ↑n) (bc (Nat.ble (o + (6 : Nat) + (1 : Nat)) (lenL vs)) (bc (notB (ltI (intOf (K.atV vs (o + (6 : Nat)))) (128 : Int))) (notB (ltI (intOf (K.atV vs (o + (6 : Nat)))) (128 : Int)) = true ∧ bc (ltI ((7 : Int)) ↑n) (bc (ltI ((7 : Int)) ↑n) (bc (Nat.ble (o + (7 : Nat) + (1 : Nat)) (lenL vs)) (bc (notB (ltI (intOf (K.atV vs (o + (7 : Nat)))) (128 : Int))) (notB (ltI (intOf (K.atV vs (o + (7 : Nat)))) (128 : Int)) = true ∧ bc (ltI ((8 : Int)) ↑n) (bc (ltI ((8 : Int)) ↑n) (bc (Nat.ble (o + (8 : Nat) + (1 : Nat)) (lenL vs)) (bc (notB (ltI (intOf (K.atV vs (o + (8 : Nat)))) (128 : Int))) (bc (Nat.beq n (0 : Nat)) False False) (notB (ltI (intOf (K.atV vs (o + (8 : Nat)))) (128 : Int)) = false ∧ bc (eqI (intOf (K.atV vs (o + (8 : Nat)))) (0 : Int)) (bc (Nat.beq n (0 : Nat)) False False) (bc (ltI (4611686018427387904 : Int) (S.orE vs o 9)) (bc (Nat.beq n (0 : Nat)) False False) (nqRF_leaf et o n c m vs ns left 9)))) False) False) (bc (Nat.beq n (0 : Nat)) False False)) (notB (ltI (intOf (K.atV vs (o + (7 : Nat)))) (128 : Int)) = false ∧ bc (eqI (intOf (K.atV vs (o + (7 : Nat)))) (0 : Int)) (bc (Nat.beq n (0 : Nat)) False False) (bc (ltI (4611686018427387904 : Int) (S.orE vs o 8)) (bc (Nat.beq n (0 : Nat)) False False) (nqRF_leaf et o n c m vs ns left 8)))) False) False) (bc (Nat.beq n (0 : Nat)) False False)) (notB (ltI (intOf (K.atV vs (o + (6 : Nat)))) (128 : Int)) = false ∧ bc (eqI (intOf (K.atV vs (o + (6 : Nat)))) (0 : Int)) (bc (Nat.beq n (0 : Nat)) False False) (bc (ltI (4611686018427387904 : Int) (S.orE vs o 7)) (bc (Nat.beq n (0 : Nat)) False False) (nqRF_leaf et o n c m vs ns left 7)))) False) False) (bc (Nat.beq n (0 : Nat)) False False)) (notB (ltI (intOf (K.atV vs (o + (5 : Nat)))) (128 : Int)) = false ∧ bc (eqI (intOf (K.atV vs (o + (5 : Nat)))) (0 : Int)) (bc (Nat.beq n (0 : Nat)) False False) (bc (ltI (4611686018427387904 : Int) (S.orE vs o 6)) (bc (Nat.beq n (0 : Nat)) False False) (nqRF_leaf et o n c m vs ns left 6)))) False) False) (bc (Nat.beq n (0 : Nat)) False False)) (notB (ltI (intOf (K.atV vs (o + (4 : Nat)))) (128 : Int)) = false ∧ bc (eqI (intOf (K.atV vs (o + (4 : Nat)))) (0 : Int)) (bc (Nat.beq n (0 : Nat)) False False) (bc (ltI (4611686018427387904 : Int) (S.orE vs o 5)) (bc (Nat.beq n (0 : Nat)) False False) (nqRF_leaf et o n c m vs ns left 5)))) False) False) (bc (Nat.beq n (0 : Nat)) False False)) (notB (ltI (intOf (K.atV vs (o + (3 : Nat)))) (128 : Int)) = false ∧ bc (eqI (intOf (K.atV vs (o + (3 : Nat)))) (0 : Int)) (bc (Nat.beq n (0 : Nat)) False False) (bc (ltI (4611686018427387904 : Int) (S.orE vs o 4)) (bc (Nat.beq n (0 : Nat)) False False) (nqRF_leaf et o n c m vs ns left 4)))) False) False) (bc (Nat.beq n (0 : Nat)) False False)) (notB (ltI (intOf (K.atV vs (o + (2 : Nat)))) (128 : Int)) = false ∧ bc (eqI (intOf (K.atV vs (o + (2 : Nat)))) (0 : Int)) (bc (Nat.beq n (0 : Nat)) False False) (bc (ltI (4611686018427387904 : Int) (S.orE vs o 3)) (bc (Nat.beq n (0 : Nat)) False False) (nqRF_leaf et o n c m vs ns left 3)))) False) False) (bc (Nat.beq n (0 : Nat)) False False)) (notB (ltI (intOf (K.atV vs (o + (1 : Nat)))) (128 : Int)) = false ∧ bc (eqI (intOf (K.atV vs (o + (1 : Nat)))) (0 : Int)) (bc (Nat.beq n (0 : Nat)) False False) (bc (ltI (4611686018427387904 : Int) (S.orE vs o 2)) (bc (Nat.beq n (0 : Nat)) False False) (nqRF_leaf et o n c m vs ns left 2)))) False) False) (bc (Nat.beq n (0 : Nat)) False False)) (notB (ltI (intOf (K.atV vs (o + (0 : Nat)))) (128 : Int)) = false ∧ bc (eqI (intOf (K.atV vs (o + (0 : Nat)))) (0 : Int)) (bc (ltI (4611686018427387904 : Int) (S.orE vs o 1)) (bc (Nat.beq n (0 : Nat)) False False) (nqRF_leaf et o n c m vs ns left 1)) (bc (ltI (4611686018427387904 : Int) (S.orE vs o 1)) (bc (Nat.beq n (0 : Nat)) False False) (nqRF_leaf et o n c m vs ns left 1)))) False) False) (bc (Nat.beq n (0 : Nat)) True False)) := by kernel_rfl
theorem nqRF_leaf_ok (et o n c m : Nat) (vs ns : List LV) (left : Int) (k : Nat) (hA : S.okA vs o n c = true) (hB : lenL ns = m ∧ m + n ≤ 1000000 ∧ left = n) (hF : S.lf vs n o n = 0) (hk : 1 ≤ k) (hkn : k ≤ n) (G1 : S.gk vs o n = k) (G2 : S.gv vs o n = S.orE vs o k) (IH : ∀ (o2 n2 c2 m2 : Nat) (ns2 : List LV) (left2 : Int), n2 < n → S.okA vs o2 n2 c2 = true → (lenL ns2 = m2 ∧ m2 + n2 ≤ 1000000 ∧ left2 = n2) → S.lf vs n2 o2 n2 = 0 → nqF_T et o2 n2 c2 m2 vs ns2 left2) : nqRF_leaf et o n c m vs ns left k := by
  obtain ⟨hY, h1, h2, h3⟩ := S.okA_iff.1 hA
  obtain ⟨E1, E2⟩ := S.go G1 hk
  rw [G2] at E2
  have hA2 : S.okA vs (o + k) (n - k) (c - k) = true := S.okA_iff.2 ⟨hY, by omega, by omega, h3⟩
  have hl1 : S.nll vs n o n = 1 + S.nll vs (n - k) (o + k) (n - k) := by unfold S.nll; rw [E2, K.lenL_eq, List.length_cons, ← K.lenL_eq]; omega
  have hF2 : S.lf vs (n - k) (o + k) (n - k) = 0 := by rw [← E1]; exact hF
  have hB2 : lenL (app ns [.int .i64 (S.orE vs o k)]) = (m + 1) ∧ (m + 1) + (n - k) ≤ 1000000 ∧ ((n - k : Nat) : Int) = (n - k : Nat) := ⟨by rw [S.lenL_app, hB.1]; rfl, by omega, rfl⟩
  have ih := IH (o + k) (n - k) (c - k) (m + 1) (app ns [.int .i64 (S.orE vs o k)]) (n - k : Nat) (by omega) hA2 hB2 hF2
  have okb := S.okB_iff.2 ⟨hA2, hB2⟩
  have bk : Nat.beq c k = false := S.beqN_no.2 (by omega)
  have b1 := S.bleN_iff.2 (Nat.le_refl n)
  have b2 := S.bleN_iff.2 hkn
  have b3 : Nat.ble n c = true := S.bleN_iff.2 (by omega)
  have ty : S.tyok 6 3 23 22 3 = true := rfl
  have at2 : S.an true true = true := rfl
  have lz : Nat.beq (S.lf vs (n - k) (o + k) (n - k)) 0 = true := S.beqN_iff.2 hF2
  unfold nqRF_leaf
  have b4 : ((0 : Nat) + m).ble (lenL ns) = true := S.bleN_iff.2 (by rw [hB.1]; omega)
  have b5 : ((m + 1) * 8).ble 1099511627776 = true := S.bleN_iff.2 (by omega)
  have so : ∀ x : LV, sub (setMany [.int .i64 0] 0 [x]) 0 1 = [x] := fun _ => rfl
  have sa := S.sub_all hB.1
  simp only [b4, b5, so, sa, b1, b2, b3, bk, bc_true, bc_false, S.lpok_ok, ty, okb, lz, at2, notB_t, notB_f]
  refine ⟨ih, ?_⟩
  clear ih
  have nz : Nat.beq n 0 = false := S.beq_no (by omega)
  rw [nz, bc_false, E1, hl1, E2]
  simp only [S.app_app, S.app_cons, S.app_nil, Nat.add_assoc, and_true]
theorem nqRF_con (et o n c m : Nat) (vs ns : List LV) (left : Int) (hA : S.okA vs o n c = true) (hB : lenL ns = m ∧ m + n ≤ 1000000 ∧ left = n) (hF : S.lf vs n o n = 0) (IH : ∀ (o2 n2 c2 m2 : Nat) (ns2 : List LV) (left2 : Int), n2 < n → S.okA vs o2 n2 c2 = true → (lenL ns2 = m2 ∧ m2 + n2 ≤ 1000000 ∧ left2 = n2) → S.lf vs n2 o2 n2 = 0 → nqF_T et o2 n2 c2 m2 vs ns2 left2) : GT Try.prog (fun k => .code (inner (inner (blkOf 20 0))) :: .inLoop (inner (inner (blkOf 20 0))) :: k) (Fr.ofL 20 57 [(0, .func (.yield 0) [] []), (1, .ptr 2 0)] [] none) (Heap.of [.loop .ready none 10 74 S.T0 [48, 49] S.code0 S.code1 6, .cells 3 .exact [.int .i64 left], .cells 23 .exact [.slice 3 o n (.known c)], .flat [.i .u8] et .ro vs, .cells 22 .exact [.slice 5 0 m (.rest 0)], .flat [.i .i64] 3 (.grow 1) ns, .defers false]) ((bc (Nat.beq n 0) ⟨.exit 0, [], [], []⟩ ⟨.exit 0, [], [(0, .loop .ready none 10 74 S.T0 [48, 49] S.code0 S.code1 6), (1, .cells 3 .exact [.int .i64 (S.lf vs n o n)]), (2, .dead), (4, .cells 22 .exact [.slice 7 0 (m + S.nll vs n o n) (.rest 0)]), (5, .dead)], [.flat [.i .i64] 3 (.grow 1) (app ns (S.nl vs n o n))]⟩) : K.BRes).x (Fr.ofL 20 57 ((bc (Nat.beq n 0) ⟨.exit 0, [], [], []⟩ ⟨.exit 0, [], [(0, .loop .ready none 10 74 S.T0 [48, 49] S.code0 S.code1 6), (1, .cells 3 .exact [.int .i64 (S.lf vs n o n)]), (2, .dead), (4, .cells 22 .exact [.slice 7 0 (m + S.nll vs n o n) (.rest 0)]), (5, .dead)], [.flat [.i .i64] 3 (.grow 1) (app ns (S.nl vs n o n))]⟩) : K.BRes).L [] none) (Heap.of (K.chg [.loop .ready none 10 74 S.T0 [48, 49] S.code0 S.code1 6, .cells 3 .exact [.int .i64 left], .cells 23 .exact [.slice 3 o n (.known c)], .flat [.i .u8] et .ro vs, .cells 22 .exact [.slice 5 0 m (.rest 0)], .flat [.i .i64] 3 (.grow 1) ns, .defers false] ((bc (Nat.beq n 0) ⟨.exit 0, [], [], []⟩ ⟨.exit 0, [], [(0, .loop .ready none 10 74 S.T0 [48, 49] S.code0 S.code1 6), (1, .cells 3 .exact [.int .i64 (S.lf vs n o n)]), (2, .dead), (4, .cells 22 .exact [.slice 7 0 (m + S.nll vs n o n) (.rest 0)]), (5, .dead)], [.flat [.i .i64] 3 (.grow 1) (app ns (S.nl vs n o n))]⟩) : K.BRes).ch ++ ((bc (Nat.beq n 0) ⟨.exit 0, [], [], []⟩ ⟨.exit 0, [], [(0, .loop .ready none 10 74 S.T0 [48, 49] S.code0 S.code1 6), (1, .cells 3 .exact [.int .i64 (S.lf vs n o n)]), (2, .dead), (4, .cells 22 .exact [.slice 7 0 (m + S.nll vs n o n) (.rest 0)]), (5, .dead)], [.flat [.i .i64] 3 (.grow 1) (app ns (S.nl vs n o n))]⟩) : K.BRes).new)) := by
  have hr := cast (nqRF_run et o n c m vs ns left).symm (by
    obtain ⟨hY, h1, h2, h3⟩ := S.okA_iff.1 hA
    have C0 : S.gt vs o n 9 0 0 = S.gt vs o n 9 0 (S.acS vs o 0) := rfl
    have LEAF := fun k (hk : 1 ≤ k) (hkn : k ≤ n) (G1 : S.gk vs o n = k) (G2 : S.gv vs o n = S.orE vs o k) => nqRF_leaf_ok et o n c m vs ns left k hA hB hF hk hkn G1 G2 IH
    by_cases hi0 : 0 < n
    rotate_left
    · have n0 : n = 0 := by omega
      subst n0
      have e0 : ltI (0 : Int) ((0 : Nat) : Int) = false := rfl
      simp only [e0, S.beq00, bc_false, bc_true]
    have e0 : ltI (0 : Int) (n : Int) = true := ltI_true.2 (by omega)
    have b0 : (o + 0 + 1).ble (lenL vs) = true := Nat.ble_eq_true_of_le (by omega)
    have r0 := S.okY_rng hY (i := o + 0) (by omega)
    have hn1 : 1 ≤ n := by omega
    have nz : Nat.beq n 0 = false := S.beq_no hn1
    by_cases x0 : intOf (K.atV vs (o + 0)) < 128
    · have y := ltI_true.2 x0
      have O := S.orE_eq hY (o := o) (k := 1) (by omega) (by omega)
      by_cases w : 4611686018427387904 < S.orE vs o 1
      · have g0 : S.gk vs o n = 0 := S.gk_big (j := 8) (i := 0) C0 hi0 x0 r0 (by rw [← O]; exact w)
        simp only [e0, b0, y, notB_t, notB_f, S.beq00, bc_true, bc_false, true_and, nz, ltI_true.2 w, g0, S.bc_self]
        exact absurd hF (S.lf_stop g0 hn1)
      have G := S.gk_num (j := 8) (i := 0) C0 hi0 x0 (.inl rfl) r0 (by rw [← O]; exact Int.not_lt.1 w)
      have F := LEAF 1 (by omega) (by omega) G.1 (G.2.trans O.symm)
      simp only [e0, b0, y, notB_t, notB_f, S.beq00, bc_true, bc_false, true_and, nz, ltI_false.2 (Int.not_lt.1 w), S.bc_self]
      exact F
    have C1 := S.gk_more (j := 8) (i := 0) C0 hi0 x0 r0
    simp only [e0, b0, ltI_false.2 (Int.not_lt.1 x0), notB_t, notB_f, S.beq00, bc_true, bc_false, true_and, nz]
    by_cases hi1 : 1 < n
    rotate_left
    · have e1 : ltI (1 : Int) (n : Int) = false := ltI_false.2 (by omega)
      have g0 : S.gk vs o n = 0 := S.gk_end (j := 7) (i := 1) C1 hi1
      simp only [e1, g0, S.beq00, bc_true, bc_false]
      exact absurd hF (S.lf_stop g0 hn1)
    have e1 : ltI (1 : Int) (n : Int) = true := ltI_true.2 (by omega)
    have b1 : (o + 1 + 1).ble (lenL vs) = true := Nat.ble_eq_true_of_le (by omega)
    have r1 := S.okY_rng hY (i := o + 1) (by omega)
    by_cases x1 : intOf (K.atV vs (o + 1)) < 128
    · have y := ltI_true.2 x1
      have O := S.orE_eq hY (o := o) (k := 2) (by omega) (by omega)
      by_cases z : intOf (K.atV vs (o + 1)) = 0
      · have g0 : S.gk vs o n = 0 := S.gk_zero (j := 7) (i := 1) C1 hi1 x1 (by omega) z
        simp only [e1, b1, y, notB_t, notB_f, S.beq00, bc_true, bc_false, true_and, eqI_true.2 z, g0]
        exact absurd hF (S.lf_stop g0 hn1)
      have zz := eqI_false.2 z
      by_cases w : 4611686018427387904 < S.orE vs o 2
      · have g0 : S.gk vs o n = 0 := S.gk_big (j := 7) (i := 1) C1 hi1 x1 r1 (by rw [← O]; exact w)
        simp only [e1, b1, y, notB_t, notB_f, S.beq00, bc_true, bc_false, true_and, zz, ltI_true.2 w, g0, S.bc_self]
        exact absurd hF (S.lf_stop g0 hn1)
      have G := S.gk_num (j := 7) (i := 1) C1 hi1 x1 (.inr z) r1 (by rw [← O]; exact Int.not_lt.1 w)
      have F := LEAF 2 (by omega) (by omega) G.1 (G.2.trans O.symm)
      simp only [e1, b1, y, notB_t, notB_f, S.beq00, bc_true, bc_false, true_and, zz, ltI_false.2 (Int.not_lt.1 w), S.bc_self]
      exact F
    have C2 := S.gk_more (j := 7) (i := 1) C1 hi1 x1 r1
    simp only [e1, b1, ltI_false.2 (Int.not_lt.1 x1), notB_t, notB_f, S.beq00, bc_true, bc_false, true_and]
    by_cases hi2 : 2 < n
    rotate_left
    · have e2 : ltI (2 : Int) (n : Int) = false := ltI_false.2 (by omega)
      have g0 : S.gk vs o n = 0 := S.gk_end (j := 6) (i := 2) C2 hi2
      simp only [e2, g0, S.beq00, bc_true, bc_false]
      exact absurd hF (S.lf_stop g0 hn1)
    have e2 : ltI (2 : Int) (n : Int) = true := ltI_true.2 (by omega)
    have b2 : (o + 2 + 1).ble (lenL vs) = true := Nat.ble_eq_true_of_le (by omega)
    have r2 := S.okY_rng hY (i := o + 2) (by omega)
    by_cases x2 : intOf (K.atV vs (o + 2)) < 128
    · have y := ltI_true.2 x2
      have O := S.orE_eq hY (o := o) (k := 3) (by omega) (by omega)
      by_cases z : intOf (K.atV vs (o + 2)) = 0
      · have g0 : S.gk vs o n = 0 := S.gk_zero (j := 6) (i := 2) C2 hi2 x2 (by omega) z
        simp only [e2, b2, y, notB_t, notB_f, S.beq00, bc_true, bc_false, true_and, eqI_true.2 z, g0]
        exact absurd hF (S.lf_stop g0 hn1)
      have zz := eqI_false.2 z
      by_cases w : 4611686018427387904 < S.orE vs o 3
      · have g0 : S.gk vs o n = 0 := S.gk_big (j := 6) (i := 2) C2 hi2 x2 r2 (by rw [← O]; exact w)
        simp only [e2, b2, y, notB_t, notB_f, S.beq00, bc_true, bc_false, true_and, zz, ltI_true.2 w, g0, S.bc_self]
        exact absurd hF (S.lf_stop g0 hn1)
      have G := S.gk_num (j := 6) (i := 2) C2 hi2 x2 (.inr z) r2 (by rw [← O]; exact Int.not_lt.1 w)
      have F := LEAF 3 (by omega) (by omega) G.1 (G.2.trans O.symm)
      simp only [e2, b2, y, notB_t, notB_f, S.beq00, bc_true, bc_false, true_and, zz, ltI_false.2 (Int.not_lt.1 w), S.bc_self]
      exact F
    have C3 := S.gk_more (j := 6) (i := 2) C2 hi2 x2 r2
    simp only [e2, b2, ltI_false.2 (Int.not_lt.1 x2), notB_t, notB_f, S.beq00, bc_true, bc_false, true_and]
    by_cases hi3 : 3 < n
    rotate_left
    · have e3 : ltI (3 : Int) (n : Int) = false := ltI_false.2 (by omega)
      have g0 : S.gk vs o n = 0 := S.gk_end (j := 5) (i := 3) C3 hi3
      simp only [e3, g0, S.beq00, bc_true, bc_false]
      exact absurd hF (S.lf_stop g0 hn1)
    have e3 : ltI (3 : Int) (n : Int) = true := ltI_true.2 (by omega)
    have b3 : (o + 3 + 1).ble (lenL vs) = true := Nat.ble_eq_true_of_le (by omega)
    have r3 := S.okY_rng hY (i := o + 3) (by omega)
    by_cases x3 : intOf (K.atV vs (o + 3)) < 128
    · have y := ltI_true.2 x3
      have O := S.orE_eq hY (o := o) (k := 4) (by omega) (by omega)
      by_cases z : intOf (K.atV vs (o + 3)) = 0
      · have g0 : S.gk vs o n = 0 := S.gk_zero (j := 5) (i := 3) C3 hi3 x3 (by omega) z
        simp only [e3, b3, y, notB_t, notB_f, S.beq00, bc_true, bc_false, true_and, eqI_true.2 z, g0]
        exact absurd hF (S.lf_stop g0 hn1)
      have zz := eqI_false.2 z
      by_cases w : 4611686018427387904 < S.orE vs o 4
      · have g0 : S.gk vs o n = 0 := S.gk_big (j := 5) (i := 3) C3 hi3 x3 r3 (by rw [← O]; exact w)
        simp only [e3, b3, y, notB_t, notB_f, S.beq00, bc_true, bc_false, true_and, zz, ltI_true.2 w, g0, S.bc_self]
        exact absurd hF (S.lf_stop g0 hn1)
      have G := S.gk_num (j := 5) (i := 3) C3 hi3 x3 (.inr z) r3 (by rw [← O]; exact Int.not_lt.1 w)
      have F := LEAF 4 (by omega) (by omega) G.1 (G.2.trans O.symm)
      simp only [e3, b3, y, notB_t, notB_f, S.beq00, bc_true, bc_false, true_and, zz, ltI_false.2 (Int.not_lt.1 w), S.bc_self]
      exact F
    have C4 := S.gk_more (j := 5) (i := 3) C3 hi3 x3 r3
    simp only [e3, b3, ltI_false.2 (Int.not_lt.1 x3), notB_t, notB_f, S.beq00, bc_true, bc_false, true_and]
    by_cases hi4 : 4 < n
    rotate_left
    · have e4 : ltI (4 : Int) (n : Int) = false := ltI_false.2 (by omega)
      have g0 : S.gk vs o n = 0 := S.gk_end (j := 4) (i := 4) C4 hi4
      simp only [e4, g0, S.beq00, bc_true, bc_false]
      exact absurd hF (S.lf_stop g0 hn1)
    have e4 : ltI (4 : Int) (n : Int) = true := ltI_true.2 (by omega)
    have b4 : (o + 4 + 1).ble (lenL vs) = true := Nat.ble_eq_true_of_le (by omega)
    have r4 := S.okY_rng hY (i := o + 4) (by omega)
    by_cases x4 : intOf (K.atV vs (o + 4)) < 128
    · have y := ltI_true.2 x4
      have O := S.orE_eq hY (o := o) (k := 5) (by omega) (by omega)
      by_cases z : intOf (K.atV vs (o + 4)) = 0
      · have g0 : S.gk vs o n = 0 := S.gk_zero (j := 4) (i := 4) C4 hi4 x4 (by omega) z
        simp only [e4, b4, y, notB_t, notB_f, S.beq00, bc_true, bc_false, true_and, eqI_true.2 z, g0]
        exact absurd hF (S.lf_stop g0 hn1)
      have zz := eqI_false.2 z
      by_cases w : 4611686018427387904 < S.orE vs o 5
      · have g0 : S.gk vs o n = 0 := S.gk_big (j := 4) (i := 4) C4 hi4 x4 r4 (by rw [← O]; exact w)
        simp only [e4, b4, y, notB_t, notB_f, S.beq00, bc_true, bc_false, true_and, zz, ltI_true.2 w, g0, S.bc_self]
        exact absurd hF (S.lf_stop g0 hn1)
      have G := S.gk_num (j := 4) (i := 4) C4 hi4 x4 (.inr z) r4 (by rw [← O]; exact Int.not_lt.1 w)
      have F := LEAF 5 (by omega) (by omega) G.1 (G.2.trans O.symm)
      simp only [e4, b4, y, notB_t, notB_f, S.beq00, bc_true, bc_false, true_and, zz, ltI_false.2 (Int.not_lt.1 w), S.bc_self]
      exact F
    have C5 := S.gk_more (j := 4) (i := 4) C4 hi4 x4 r4
    simp only [e4, b4, ltI_false.2 (Int.not_lt.1 x4), notB_t, notB_f, S.beq00, bc_true, bc_false, true_and]
    by_cases hi5 : 5 < n
    rotate_left
    · have e5 : ltI (5 : Int) (n : Int) = false := ltI_false.2 (by omega)
      have g0 : S.gk vs o n = 0 := S.gk_end (j := 3) (i := 5) C5 hi5
      simp only [e5, g0, S.beq00, bc_true, bc_false]
      exact absurd hF (S.lf_stop g0 hn1)
    have e5 : ltI (5 : Int) (n : Int) = true := ltI_true.2 (by omega)
    have b5 : (o + 5 + 1).ble (lenL vs) = true := Nat.ble_eq_true_of_le (by omega)
    have r5 := S.okY_rng hY (i := o + 5) (by omega)
    by_cases x5 : intOf (K.atV vs (o + 5)) < 128
    · have y := ltI_true.2 x5
      have O := S.orE_eq hY (o := o) (k := 6) (by omega) (by omega)
      by_cases z : intOf (K.atV vs (o + 5)) = 0
      · have g0 : S.gk vs o n = 0 := S.gk_zero (j := 3) (i := 5) C5 hi5 x5 (by omega) z
        simp only [e5, b5, y, notB_t, notB_f, S.beq00, bc_true, bc_false, true_and, eqI_true.2 z, g0]
        exact absurd hF (S.lf_stop g0 hn1)
      have zz := eqI_false.2 z
      by_cases w : 4611686018427387904 < S.orE vs o 6
      · have g0 : S.gk vs o n = 0 := S.gk_big (j := 3) (i := 5) C5 hi5 x5 r5 (by rw [← O]; exact w)
        simp only [e5, b5, y, notB_t, notB_f, S.beq00, bc_true, bc_false, true_and, zz, ltI_true.2 w, g0, S.bc_self]
        exact absurd hF (S.lf_stop g0 hn1)
      have G := S.gk_num (j := 3) (i := 5) C5 hi5 x5 (.inr z) r5 (by rw [← O]; exact Int.not_lt.1 w)
      have F := LEAF 6 (by omega) (by omega) G.1 (G.2.trans O.symm)
      simp only [e5, b5, y, notB_t, notB_f, S.beq00, bc_true, bc_false, true_and, zz, ltI_false.2 (Int.not_lt.1 w), S.bc_self]
      exact F
    have C6 := S.gk_more (j := 3) (i := 5) C5 hi5 x5 r5
    simp only [e5, b5, ltI_false.2 (Int.not_lt.1 x5), notB_t, notB_f, S.beq00, bc_true, bc_false, true_and]
    by_cases hi6 : 6 < n
    rotate_left
    · have e6 : ltI (6 : Int) (n : Int) = false := ltI_false.2 (by omega)
      have g0 : S.gk vs o n = 0 := S.gk_end (j := 2) (i := 6) C6 hi6
      simp only [e6, g0, S.beq00, bc_true, bc_false]
      exact absurd hF (S.lf_stop g0 hn1)
    have e6 : ltI (6 : Int) (n : Int) = true := ltI_true.2 (by omega)
    have b6 : (o + 6 + 1).ble (lenL vs) = true := Nat.ble_eq_true_of_le (by omega)
    have r6 := S.okY_rng hY (i := o + 6) (by omega)
    by_cases x6 : intOf (K.atV vs (o + 6)) < 128
    · have y := ltI_true.2 x6
      have O := S.orE_eq hY (o := o) (k := 7) (by omega) (by omega)
      by_cases z : intOf (K.atV vs (o + 6)) = 0
      · have g0 : S.gk vs o n = 0 := S.gk_zero (j := 2) (i := 6) C6 hi6 x6 (by omega) z
        simp only [e6, b6, y, notB_t, notB_f, S.beq00, bc_true, bc_false, true_and, eqI_true.2 z, g0]
        exact absurd hF (S.lf_stop g0 hn1)
      have zz := eqI_false.2 z
      by_cases w : 4611686018427387904 < S.orE vs o 7
      · have g0 : S.gk vs o n = 0 := S.gk_big (j := 2) (i := 6) C6 hi6 x6 r6 (by rw [← O]; exact w)
        simp only [e6, b6, y, notB_t, notB_f, S.beq00, bc_true, bc_false, true_and, zz, ltI_true.2 w, g0, S.bc_self]
        exact absurd hF (S.lf_stop g0 hn1)
      have G := S.gk_num (j := 2) (i := 6) C6 hi6 x6 (.inr z) r6 (by rw [← O]; exact Int.not_lt.1 w)
      have F := LEAF 7 (by omega) (by omega) G.1 (G.2.trans O.symm)
      simp only [e6, b6, y, notB_t, notB_f, S.beq00, bc_true, bc_false, true_and, zz, ltI_false.2 (Int.not_lt.1 w), S.bc_self]
      exact F
    have C7 := S.gk_more (j := 2) (i := 6) C6 hi6 x6 r6
    simp only [e6, b6, ltI_false.2 (Int.not_lt.1 x6), notB_t, notB_f, S.beq00, bc_true, bc_false, true_and]
    by_cases hi7 : 7 < n
    rotate_left
    · have e7 : ltI (7 : Int) (n : Int) = false := ltI_false.2 (by omega)
      have g0 : S.gk vs o n = 0 := S.gk_end (j := 1) (i := 7) C7 hi7
      simp only [e7, g0, S.beq00, bc_true, bc_false]
      exact absurd hF (S.lf_stop g0 hn1)
    have e7 : ltI (7 : Int) (n : Int) = true := ltI_true.2 (by omega)
    have b7 : (o + 7 + 1).ble (lenL vs) = true := Nat.ble_eq_true_of_le (by omega)
    have r7 := S.okY_rng hY (i := o + 7) (by omega)
    by_cases x7 : intOf (K.atV vs (o + 7)) < 128
    · have y := ltI_true.2 x7
      have O := S.orE_eq hY (o := o) (k := 8) (by omega) (by omega)
      by_cases z : intOf (K.atV vs (o + 7)) = 0
      · have g0 : S.gk vs o n = 0 := S.gk_zero (j := 1) (i := 7) C7 hi7 x7 (by omega) z
        simp only [e7, b7, y, notB_t, notB_f, S.beq00, bc_true, bc_false, true_and, eqI_true.2 z, g0]
        exact absurd hF (S.lf_stop g0 hn1)
      have zz := eqI_false.2 z
      by_cases w : 4611686018427387904 < S.orE vs o 8
      · have g0 : S.gk vs o n = 0 := S.gk_big (j := 1) (i := 7) C7 hi7 x7 r7 (by rw [← O]; exact w)
        simp only [e7, b7, y, notB_t, notB_f, S.beq00, bc_true, bc_false, true_and, zz, ltI_true.2 w, g0, S.bc_self]
        exact absurd hF (S.lf_stop g0 hn1)
      have G := S.gk_num (j := 1) (i := 7) C7 hi7 x7 (.inr z) r7 (by rw [← O]; exact Int.not_lt.1 w)
      have F := LEAF 8 (by omega) (by omega) G.1 (G.2.trans O.symm)
      simp only [e7, b7, y, notB_t, notB_f, S.beq00, bc_true, bc_false, true_and, zz, ltI_false.2 (Int.not_lt.1 w), S.bc_self]
      exact F
    have C8 := S.gk_more (j := 1) (i := 7) C7 hi7 x7 r7
    simp only [e7, b7, ltI_false.2 (Int.not_lt.1 x7), notB_t, notB_f, S.beq00, bc_true, bc_false, true_and]
    by_cases hi8 : 8 < n
    rotate_left
    · have e8 : ltI (8 : Int) (n : Int) = false := ltI_false.2 (by omega)
      have g0 : S.gk vs o n = 0 := S.gk_end (j := 0) (i := 8) C8 hi8
      simp only [e8, g0, S.beq00, bc_true, bc_false]
      exact absurd hF (S.lf_stop g0 hn1)
    have e8 : ltI (8 : Int) (n : Int) = true := ltI_true.2 (by omega)
    have b8 : (o + 8 + 1).ble (lenL vs) = true := Nat.ble_eq_true_of_le (by omega)
    have r8 := S.okY_rng hY (i := o + 8) (by omega)
    by_cases x8 : intOf (K.atV vs (o + 8)) < 128
    · have y := ltI_true.2 x8
      have O := S.orE_eq hY (o := o) (k := 9) (by omega) (by omega)
      by_cases z : intOf (K.atV vs (o + 8)) = 0
      · have g0 : S.gk vs o n = 0 := S.gk_zero (j := 0) (i := 8) C8 hi8 x8 (by omega) z
        simp only [e8, b8, y, notB_t, notB_f, S.beq00, bc_true, bc_false, true_and, eqI_true.2 z, g0]
        exact absurd hF (S.lf_stop g0 hn1)
      have zz := eqI_false.2 z
      by_cases w : 4611686018427387904 < S.orE vs o 9
      · have g0 : S.gk vs o n = 0 := S.gk_big (j := 0) (i := 8) C8 hi8 x8 r8 (by rw [← O]; exact w)
        simp only [e8, b8, y, notB_t, notB_f, S.beq00, bc_true, bc_false, true_and, zz, ltI_true.2 w, g0, S.bc_self]
        exact absurd hF (S.lf_stop g0 hn1)
      have G := S.gk_num (j := 0) (i := 8) C8 hi8 x8 (.inr z) r8 (by rw [← O]; exact Int.not_lt.1 w)
      have F := LEAF 9 (by omega) (by omega) G.1 (G.2.trans O.symm)
      simp only [e8, b8, y, notB_t, notB_f, S.beq00, bc_true, bc_false, true_and, zz, ltI_false.2 (Int.not_lt.1 w), S.bc_self]
      exact F
    have g0 : S.gk vs o n = 0 := S.gk_long C8 hi8 x8
    simp only [e8, b8, ltI_false.2 (Int.not_lt.1 x8), notB_t, notB_f, S.beq00, bc_true, bc_false, true_and, g0]
    exact absurd hF (S.lf_stop g0 hn1))
  obtain ⟨q1, q2⟩ := K.RunL2.one hr
  cases hb : Nat.beq n 0
  · exact K.loop_of_run good (envK_ok (fun p hp => by cases hp)) K.openE_ok (q2 hb)
  · exact K.loop_of_run good (envK_ok (fun p hp => by cases hp)) K.openE_ok (q1 hb)
/-- What is left to be shown where a number of k bytes was read. -/
def nqQF_leaf (et o n c : Nat) (vs : List LV) (left : Int) (k : Nat) : Prop :=
  (bc (Nat.ble n n) (bc (Nat.ble k n) (bc (Nat.ble n c) (bc (S.an (S.lpok (10 : FuncId) (74 : Nat) S.T0 [(48 : Tmp), (49 : Tmp)] S.code0 S.code1) (S.an (S.tyok (6 : Nat) (3 : TypeId) (23 : TypeId) (22 : TypeId) (3 : Nat)) (S.an (S.okB vs (@bc Nat (Nat.beq c k) o (o + k)) (n - k) (c - k) (1 : Nat) [LV.int IntKind.i64 (S.orE vs o k)] ↑(n - k)) (Nat.beq (S.lf vs (n - k) (@bc Nat (Nat.beq c k) o (o + k)) (n - k)) (0 : Nat))))) (K.LOk Try.prog 20 57 (inner (inner (blkOf 20 0))) [(0 : Nat), (1 : Nat)] [LV.func (Fn.yield (0 : Nat)) [] [], LV.ptr (2 : Nat) (0 : Nat)] [LObj.loop LoopState.ready none (10 : FuncId) (74 : Nat) S.T0 [(48 : Tmp), (49 : Tmp)] S.code0 S.code1 (6 : Nat), LObj.cells (3 : TypeId) Own.exact [LV.int IntKind.i64 ↑(n - k)], LObj.cells (23 : TypeId) Own.exact [LV.slice (3 : Nat) (@bc Nat (Nat.beq c k) o (o + k)) (n - k) (Cap.known (c - k))], LObj.flat [CK.i IntKind.u8] et Own.ro vs, LObj.cells (22 : TypeId) Own.exact [LV.slice (5 : Nat) (0 : Nat) (1 : Nat) (Cap.rest (0 : Nat))], LObj.flat [CK.i IntKind.i64] (3 : Nat) (Own.grow (1 : Nat)) [LV.int IntKind.i64 (S.orE vs o k)], LObj.defers false] { x := LX.exit (0 : Nat), L := [], ch := [((0 : Nat), LObj.loop LoopState.ready none (10 : FuncId) (74 : Nat) S.T0 [(48 : Tmp), (49 : Tmp)] S.code0 S.code1 (6 : Nat)), ((1 : Nat), LObj.cells (3 : TypeId) Own.exact [LV.int IntKind.i64 ↑(S.lf vs (n - k) (@bc Nat (Nat.beq c k) o (o + k)) (n - k))]), ((2 : Nat), LObj.dead), ((4 : Nat), LObj.cells (22 : TypeId) Own.exact [LV.slice (7 : Nat) (0 : Nat) ((1 : Nat) + S.nll vs (n - k) (@bc Nat (Nat.beq c k) o (o + k)) (n - k)) (Cap.rest (0 : Nat))]), ((5 : Nat), LObj.dead)], new := [LObj.flat [CK.i IntKind.i64] (3 : TypeId) (Own.grow (1 : Nat)) (app [LV.int IntKind.i64 (S.orE vs o k)] (S.nl vs (n - k) (@bc Nat (Nat.beq c k) o (o + k)) (n - k)))] } ∧ bc (Nat.beq n (0 : Nat)) False (LoopState.ready = LoopState.ready ∧ ((none : Option Code) = none ∧ ([(48 : Tmp), (49 : Tmp)] = [(48 : Tmp), (49 : Tmp)] ∧ (S.code0 = S.code0 ∧ (S.code1 = S.code1 ∧ ((0 : Nat) = (0 : Nat) ∧ ((0 : Nat) = (0 : Nat) ∧ ((0 : Nat) = (0 : Nat) ∧ ((↑(S.lf vs n o n) : Int) = ↑(S.lf vs (n - k) (@bc Nat (Nat.beq c k) o (o + k)) (n - k)) ∧ ((0 : Nat) = (0 : Nat) ∧ (S.nll vs n o n = (1 : Nat) + S.nll vs (n - k) (@bc Nat (Nat.beq c k) o (o + k)) (n - k) ∧ (Cap.rest (0 : Nat) = Cap.rest (0 : Nat) ∧ (S.nl vs n o n = app [LV.int IntKind.i64 (S.orE vs o k)] (S.nl vs (n - k) (@bc Nat (Nat.beq c k) o (o + k)) (n - k)) ∧ True)))))))))))))) False) False) False) False)
theorem nqQF_run (et o n c : Nat) (vs : List LV) (left : Int) : K.RunL2 (envK [] (fun g id => none) (fun g i => bc (Nat.beq g 10) (hasN [6, 7] i) (true))) K.openE 30 20 57 (inner (inner (blkOf 20 0))) nqFB [(0, .func (.yield 0) [] []), (1, .ptr 2 0)] [.loop .ready none 10 74 S.T0 [48, 49] S.code0 S.code1 5, .cells 3 .exact [.int .i64 left], .cells 23 .exact [.slice 3 o n (.known c)], .flat [.i .u8] et .ro vs, .cells 22 .exact [.nils], .defers false] (.skip 1 (.fork (.skip 1 (.take true (.skip 5 (.fork (.skip 6 (.take true (.skip 0 (.fork (.skip 5 (.fork (.skip 6 (.take true (.skip 0 (.fork (.skip 5 (.fork (.skip 6 (.take true (.skip 0 (.fork (.skip 5 (.fork (.skip 6 (.take true (.skip 0 (.fork (.skip 5 (.fork (.skip 6 (.take true (.skip 0 (.fork (.skip 5 (.fork (.skip 6 (.take true (.skip 0 (.fork (.skip 5 (.fork (.skip 6 (.take true (.skip 0 (.fork (.skip 5 (.fork (.skip 6 (.take true (.skip 0 (.fork (.skip 5 (.fork .auto (.skip 6 (.take false .auto)))) .auto)))) (.skip 6 (.take false .auto)))) .auto)))) (.skip 6 (.take false .auto)))) .auto)))) (.skip 6 (.take false .auto)))) .auto)))) (.skip 6 (.take false .auto)))) .auto)))) (.skip 6 (.take false .auto)))) .auto)))) (.skip 6 (.take false .auto)))) .auto)))) (.skip 6 (.take false .auto)))) .auto)))) (.skip 6 (.take false .auto)))))) .auto)) (Nat.beq n 0) ⟨.exit 0, [], [], []⟩ ⟨.exit 0, [], [(0, .loop .ready none 10 74 S.T0 [48, 49] S.code0 S.code1 5), (1, .cells 3 .exact [.int .i64 (S.lf vs n o n)]), (2, .dead), (4, .cells 22 .exact [.slice 6 0 (S.nll vs n o n) (.rest 0)])], [.flat [.i .i64] 3 (.grow 1) (S.nl vs n o n)]⟩ =
    (bc (ltI (0 : Int) ↑n) (ltI (0 : Int) ↑n = true ∧ bc (ltI (0 : Int) ↑n) (bc (Nat.ble (o + (0 : Nat) + (1 : Nat)) (lenL vs)) (bc (notB (ltI (intOf (K.atV vs (o + (0 : Nat)))) (128 : Int))) (notB (ltI (intOf (K.atV vs (o + (0 : Nat)))) (128 : Int)) = true ∧ bc (ltI ((1 : Int)) ↑n) (bc (ltI ((1 : Int)) ↑n) (bc (Nat.ble (o + (1 : Nat) + (1 : Nat)) (lenL vs)) (bc (notB (ltI (intOf (K.atV vs (o + (1 : Nat)))) (128 : Int))) (notB (ltI (intOf (K.atV vs (o + (1 : Nat)))) (128 : Int)) = true ∧ bc (ltI ((2 : Int)) ↑n) (bc (ltI ((2 : Int)) ↑n) (bc (Nat.ble (o + (2 : Nat) + (1 : Nat)) (lenL vs)) (bc (notB (ltI (intOf (K.atV vs (o + (2 : Nat)))) (128 : Int))) (notB (ltI (intOf (K.atV vs (o + (2 : Nat)))) (128 : Int)) = true ∧ bc (ltI ((3 : Int)) ↑n) (bc (ltI ((3 : Int)) ↑n) (bc (Nat.ble (o + (3 : Nat) + (1 : Nat)) (lenL vs)) (bc (notB (ltI (intOf (K.atV vs (o + (3 : Nat)))) (128 : Int))) (notB (ltI (intOf (K.atV vs (o + (3 : Nat)))) (128 : Int)) = true ∧ bc (ltI ((4 : Int)) ↑n) (bc (ltI ((4 : Int)) ↑n) (bc (Nat.ble (o + (4 : Nat) + (1 : Nat)) (lenL vs)) (bc (notB (ltI (intOf (K.atV vs (o + (4 : Nat)))) (128 : Int))) (notB (ltI (intOf (K.atV vs (o + (4 : Nat)))) (128 : Int)) = true ∧ bc (ltI ((5 : Int)) ↑n) (bc (ltI ((5 : Int)) ↑n) (bc (Nat.ble (o + (5 : Nat) + (1 : Nat)) (lenL vs)) (bc (notB (ltI (intOf (K.atV vs (o + (5 : Nat)))) (128 : Int))) (notB (ltI (intOf (K.atV vs (o + (5 : Nat)))) (128 : Int)) = true ∧ bc (ltI ((6 : Int)) ↑n) (bc (ltI ((6 : Int)) ↑n) (bc (Nat.ble (o + (6 : Nat) + (1 : Nat)) (lenL vs)) (bc (notB (ltI (intOf (K.atV vs (o + (6 : Nat)))) (128 : Int))) (notB (ltI (intOf (K.atV vs (o + (6 : Nat)))) (128 : Int)) = true ∧ bc (ltI ((7 : Int)) ↑n) (bc (ltI ((7 : Int)) ↑n) (bc (Nat.ble (o + (7 : Nat) + (1 : Nat)) (lenL vs)) (bc (notB (ltI (intOf (K.atV vs (o + (7 : Nat)))) (128 : Int))) (notB (ltI (intOf (K.atV vs (o + (7 : Nat)))) (128 : Int)) = true ∧ bc (ltI ((8 : Int)) ↑n) (bc (ltI ((8 : Int)) ↑n) (bc (Nat.ble (o + (8 : Nat) + (1 : Nat)) (lenL vs)) (bc (notB (ltI (intOf (K.atV vs (o + (8 : Nat)))) (128 : Int))) (bc (Nat.beq n (0 : Nat)) False False) (notB (ltI (intOf (K.atV vs (o + (8 : Nat)))) (128 : Int)) = false ∧ bc (eqI (intOf (K.atV vs (o + (8 : Nat)))) (0 : Int)) (bc (Nat.beq n (0 : Nat)) False False) (bc (ltI (4611686018427387904 : Int) (S.orE vs o 9)) (bc (Nat.beq n (0 : Nat)) False False) (nqQF_leaf et o n c vs left 9)))) False) False) (bc (Nat.beq n (0 : Nat)) False False)) (notB (ltI (intOf (K.atV vs (o + (7 : Nat)))) (128 : Int)) = false ∧ bc (eqI (intOf (K.atV vs (o + (7 : Nat)))) (0 : Int)) (bc (Nat.beq n (0 : Nat)) False False) (bc (ltI (4611686018427387904 : Int) (S.orE vs o 8)) (bc (Nat.beq n (0 : Nat)) False False) (nqQF_leaf et o n c vs left 8)))) False) False) (bc (Nat.beq n (0 : Nat)) False False)) (notB (ltI (intOf (K.atV vs (o + (6 : Nat)))) (128 : Int)) = false ∧ bc (eqI (intOf (K.atV vs (o + (6 : Nat)))) (0 : Int)) (bc (Nat.beq n (0 : Nat)) False False) (bc (ltI (4611686018427387904 : Int) (S.orE vs o 7)) (bc (Nat.beq n (0 : Nat)) False False) (nqQF_leaf et o n c vs left 7)))) False) False) (bc (Nat.beq n (0 : Nat)) False False)) (notB (ltI (intOf (K.atV vs (o + (5 : Nat)))) (128 : Int)) = false ∧ bc (eqI (intOf (K.atV vs (o + (5 : Nat)))) (0 : Int)) (bc (Nat.beq n (0 : Nat)) False False) (bc (ltI (4611686018427387904 : Int) (S.orE vs o 6)) (bc (Nat.beq n (0 : Nat)) False False) (nqQF_leaf et o n c vs left 6)))) False) False) (bc (Nat.beq n (0 : Nat)) False False)) (notB (ltI (intOf (K.atV vs (o + (4 : Nat)))) (128 : Int)) = false ∧ bc (eqI (intOf (K.atV vs (o + (4 : Nat)))) (0 : Int)) (bc (Nat.beq n (0 : Nat)) False False) (bc (ltI (4611686018427387904 : Int) (S.orE vs o 5)) (bc (Nat.beq n (0 : Nat)) False False) (nqQF_leaf et o n c vs left 5)))) False) False) (bc (Nat.beq n (0 : Nat)) False False)) (notB (ltI (intOf (K.atV vs (o + (3 : Nat)))) (128 : Int)) = false ∧ bc (eqI (intOf (K.atV vs (o + (3 : Nat)))) (0 : Int)) (bc (Nat.beq n (0 : Nat)) False False) (bc (ltI (4611686018427387904 : Int) (S.orE vs o 4)) (bc (Nat.beq n (0 : Nat)) False False) (nqQF_leaf et o n c vs left 4)))) False) False) (bc (Nat.beq n (0 : Nat)) False False)) (notB (ltI (intOf (K.atV vs (o + (2 : Nat)))) (128 : Int)) = false ∧ bc (eqI (intOf (K.atV vs (o + (2 : Nat)))) (0 : Int)) (bc (Nat.beq n (0 : Nat)) False False) (bc (ltI (4611686018427387904 : Int) (S.orE vs o 3)) (bc (Nat.beq n (0 : Nat)) False False) (nqQF_leaf et o n c vs left 3)))) False) False) (bc (Nat.beq n (0 : Nat)) False False)) (notB (ltI (intOf (K.atV vs (o + (1 : Nat)))) (128 : Int)) = false ∧ bc (eqI (intOf (K.atV vs (o + (1 : Nat)))) (0 : Int)) (bc (Nat.beq n (0 : Nat)) False False) (bc (ltI (4611686018427387904 : Int) (S.orE vs o 2)) (bc (Nat.beq n (0 : Nat)) False False) (nqQF_leaf et o n c vs left 2)))) False) False) (bc (Nat.beq n (0 : Nat)) False False)) (notB (ltI (intOf (K.atV vs (o + (0 : Nat)))) (128 : Int)) = false ∧ bc (eqI (intOf (K.atV vs (o + (0 : Nat)))) (0 : Int)) (bc (ltI (4611686018427387904 : Int) (S.orE vs o 1)) (bc (Nat.beq n (0 : Nat)) False False) (nqQF_leaf et o n c vs left 1)) (bc (ltI (4611686018427387904 : Int) (S.orE vs o 1)) (bc (Nat.beq n (0 : Nat)) False False) (nqQF_leaf et o n c vs left 1)))) False) False) (bc (Nat.beq n (0 : Nat)) True False)) := by kernel_rfl
theorem nqQF_leaf_ok (et o n c : Nat) (vs : List LV) (left : Int) (k : Nat) (hA : S.okA vs o n c = true) (hB : n ≤ 1000000) (hF : S.lf vs n o n = 0) (hk : 1 ≤ k) (hkn : k ≤ n) (G1 : S.gk vs o n = k) (G2 : S.gv vs o n = S.orE vs o k) (IH : ∀ (o2 n2 c2 m2 : Nat) (ns2 : List LV) (left2 : Int), n2 < n → S.okA vs o2 n2 c2 = true → (lenL ns2 = m2 ∧ m2 + n2 ≤ 1000000 ∧ left2 = n2) → S.lf vs n2 o2 n2 = 0 → nqF_T et o2 n2 c2 m2 vs ns2 left2) : nqQF_leaf et o n c vs left k := by
  obtain ⟨hY, h1, h2, h3⟩ := S.okA_iff.1 hA
  obtain ⟨E1, E2⟩ := S.go G1 hk
  rw [G2] at E2
  have hA2 : S.okA vs (o + k) (n - k) (c - k) = true := S.okA_iff.2 ⟨hY, by omega, by omega, h3⟩
  have hl1 : S.nll vs n o n = 1 + S.nll vs (n - k) (o + k) (n - k) := by unfold S.nll; rw [E2, K.lenL_eq, List.length_cons, ← K.lenL_eq]; omega
  have hF2 : S.lf vs (n - k) (o + k) (n - k) = 0 := by rw [← E1]; exact hF
  have hB2 : lenL ([.int .i64 (S.orE vs o k)] : List LV) = 1 ∧ 1 + (n - k) ≤ 1000000 ∧ ((n - k : Nat) : Int) = (n - k : Nat) := ⟨by rfl, by omega, rfl⟩
  have ih := IH (o + k) (n - k) (c - k) 1 ([.int .i64 (S.orE vs o k)] : List LV) (n - k : Nat) (by omega) hA2 hB2 hF2
  have okb := S.okB_iff.2 ⟨hA2, hB2⟩
  have bk : Nat.beq c k = false := S.beqN_no.2 (by omega)
  have b1 := S.bleN_iff.2 (Nat.le_refl n)
  have b2 := S.bleN_iff.2 hkn
  have b3 : Nat.ble n c = true := S.bleN_iff.2 (by omega)
  have ty : S.tyok 6 3 23 22 3 = true := rfl
  have at2 : S.an true true = true := rfl
  have lz : Nat.beq (S.lf vs (n - k) (o + k) (n - k)) 0 = true := S.beqN_iff.2 hF2
  unfold nqQF_leaf
  simp only [b1, b2, b3, bk, bc_true, bc_false, S.lpok_ok, ty, okb, lz, at2, notB_t, notB_f]
  refine ⟨ih, ?_⟩
  clear ih
  have nz : Nat.beq n 0 = false := S.beq_no (by omega)
  rw [nz, bc_false, E1, hl1, E2]
  simp only [S.app_app, S.app_cons, S.app_nil, Nat.add_assoc, and_true]
theorem nqQF_con (et o n c : Nat) (vs : List LV) (left : Int) (hA : S.okA vs o n c = true) (hB : n ≤ 1000000) (hF : S.lf vs n o n = 0) (IH : ∀ (o2 n2 c2 m2 : Nat) (ns2 : List LV) (left2 : Int), n2 < n → S.okA vs o2 n2 c2 = true → (lenL ns2 = m2 ∧ m2 + n2 ≤ 1000000 ∧ left2 = n2) → S.lf vs n2 o2 n2 = 0 → nqF_T et o2 n2 c2 m2 vs ns2 left2) : GT Try.prog (fun k => .code (inner (inner (blkOf 20 0))) :: .inLoop (inner (inner (blkOf 20 0))) :: k) (Fr.ofL 20 57 [(0, .func (.yield 0) [] []), (1, .ptr 2 0)] [] none) (Heap.of [.loop .ready none 10 74 S.T0 [48, 49] S.code0 S.code1 5, .cells 3 .exact [.int .i64 left], .cells 23 .exact [.slice 3 o n (.known c)], .flat [.i .u8] et .ro vs, .cells 22 .exact [.nils], .defers false]) ((bc (Nat.beq n 0) ⟨.exit 0, [], [], []⟩ ⟨.exit 0, [], [(0, .loop .ready none 10 74 S.T0 [48, 49] S.code0 S.code1 5), (1, .cells 3 .exact [.int .i64 (S.lf vs n o n)]), (2, .dead), (4, .cells 22 .exact [.slice 6 0 (S.nll vs n o n) (.rest 0)])], [.flat [.i .i64] 3 (.grow 1) (S.nl vs n o n)]⟩) : K.BRes).x (Fr.ofL 20 57 ((bc (Nat.beq n 0) ⟨.exit 0, [], [], []⟩ ⟨.exit 0, [], [(0, .loop .ready none 10 74 S.T0 [48, 49] S.code0 S.code1 5), (1, .cells 3 .exact [.int .i64 (S.lf vs n o n)]), (2, .dead), (4, .cells 22 .exact [.slice 6 0 (S.nll vs n o n) (.rest 0)])], [.flat [.i .i64] 3 (.grow 1) (S.nl vs n o n)]⟩) : K.BRes).L [] none) (Heap.of (K.chg [.loop .ready none 10 74 S.T0 [48, 49] S.code0 S.code1 5, .cells 3 .exact [.int .i64 left], .cells 23 .exact [.slice 3 o n (.known c)], .flat [.i .u8] et .ro vs, .cells 22 .exact [.nils], .defers false] ((bc (Nat.beq n 0) ⟨.exit 0, [], [], []⟩ ⟨.exit 0, [], [(0, .loop .ready none 10 74 S.T0 [48, 49] S.code0 S.code1 5), (1, .cells 3 .exact [.int .i64 (S.lf vs n o n)]), (2, .dead), (4, .cells 22 .exact [.slice 6 0 (S.nll vs n o n) (.rest 0)])], [.flat [.i .i64] 3 (.grow 1) (S.nl vs n o n)]⟩) : K.BRes).ch ++ ((bc (Nat.beq n 0) ⟨.exit 0, [], [], []⟩ ⟨.exit 0, [], [(0, .loop .ready none 10 74 S.T0 [48, 49] S.code0 S.code1 5), (1, .cells 3 .exact [.int .i64 (S.lf vs n o n)]), (2, .dead), (4, .cells 22 .exact [.slice 6 0 (S.nll vs n o n) (.rest 0)])], [.flat [.i .i64] 3 (.grow 1) (S.nl vs n o n)]⟩) : K.BRes).new)) := by
  have hr := cast (nqQF_run et o n c vs left).symm (by
    obtain ⟨hY, h1, h2, h3⟩ := S.okA_iff.1 hA
    have C0 : S.gt vs o n 9 0 0 = S.gt vs o n 9 0 (S.acS vs o 0) := rfl
    have LEAF := fun k (hk : 1 ≤ k) (hkn : k ≤ n) (G1 : S.gk vs o n = k) (G2 : S.gv vs o n = S.orE vs o k) => nqQF_leaf_ok et o n c vs left k hA hB hF hk hkn G1 G2 IH
    by_cases hi0 : 0 < n
    rotate_left
    · have n0 : n = 0 := by omega
      subst n0
      have e0 : ltI (0 : Int) ((0 : Nat) : Int) = false := rfl
      simp only [e0, S.beq00, bc_false, bc_true]
    have e0 : ltI (0 : Int) (n : Int) = true := ltI_true.2 (by omega)
    have b0 : (o + 0 + 1).ble (lenL vs) = true := Nat.ble_eq_true_of_le (by omega)
    have r0 := S.okY_rng hY (i := o + 0) (by omega)
    have hn1 : 1 ≤ n := by omega
    have nz : Nat.beq n 0 = false := S.beq_no hn1
    by_cases x0 : intOf (K.atV vs (o + 0)) < 128
    · have y := ltI_true.2 x0
      have O := S.orE_eq hY (o := o) (k := 1) (by omega) (by omega)
      by_cases w : 4611686018427387904 < S.orE vs o 1
      · have g0 : S.gk vs o n = 0 := S.gk_big (j := 8) (i := 0) C0 hi0 x0 r0 (by rw [← O]; exact w)
        simp only [e0, b0, y, notB_t, notB_f, S.beq00, bc_true, bc_false, true_and, nz, ltI_true.2 w, g0, S.bc_self]
        exact absurd hF (S.lf_stop g0 hn1)
      have G := S.gk_num (j := 8) (i := 0) C0 hi0 x0 (.inl rfl) r0 (by rw [← O]; exact Int.not_lt.1 w)
      have F := LEAF 1 (by omega) (by omega) G.1 (G.2.trans O.symm)
      simp only [e0, b0, y, notB_t, notB_f, S.beq00, bc_true, bc_false, true_and, nz, ltI_false.2 (Int.not_lt.1 w), S.bc_self]
      exact F
    have C1 := S.gk_more (j := 8) (i := 0) C0 hi0 x0 r0
    simp only [e0, b0, ltI_false.2 (Int.not_lt.1 x0), notB_t, notB_f, S.beq00, bc_true, bc_false, true_and, nz]
    by_cases hi1 : 1 < n
    rotate_left
    · have e1 : ltI (1 : Int) (n : Int) = false := ltI_false.2 (by omega)
      have g0 : S.gk vs o n = 0 := S.gk_end (j := 7) (i := 1) C1 hi1
      simp only [e1, g0, S.beq00, bc_true, bc_false]
      exact absurd hF (S.lf_stop g0 hn1)
    have e1 : ltI (1 : Int) (n : Int) = true := ltI_true.2 (by omega)
    have b1 : (o + 1 + 1).ble (lenL vs) = true := Nat.ble_eq_true_of_le (by omega)
    have r1 := S.okY_rng hY (i := o + 1) (by omega)
    by_cases x1 : intOf (K.atV vs (o + 1)) < 128
    · have y := ltI_true.2 x1
      have O := S.orE_eq hY (o := o) (k := 2) (by omega) (by omega)
      by_cases z : intOf (K.atV vs (o + 1)) = 0
      · have g0 : S.gk vs o n = 0 := S.gk_zero (j := 7) (i := 1) C1 hi1 x1 (by omega) z
        simp only [e1, b1, y, notB_t, notB_f, S.beq00, bc_true, bc_false, true_and, eqI_true.2 z, g0]
        exact absurd hF (S.lf_stop g0 hn1)
      have zz := eqI_false.2 z
      by_cases w : 4611686018427387904 < S.orE vs o 2
      · have g0 : S.gk vs o n = 0 := S.gk_big (j := 7) (i := 1) C1 hi1 x1 r1 (by rw [← O]; exact w)
        simp only [e1, b1, y, notB_t, notB_f, S.beq00, bc_true, bc_false, true_and, zz, ltI_true.2 w, g0, S.bc_self]
        exact absurd hF (S.lf_stop g0 hn1)
      have G := S.gk_num (j := 7) (i := 1) C1 hi1 x1 (.inr z) r1 (by rw [← O]; exact Int.not_lt.1 w)
      have F := LEAF 2 (by omega) (by omega) G.1 (G.2.trans O.symm)
      simp only [e1, b1, y, notB_t, notB_f, S.beq00, bc_true, bc_false, true_and, zz, ltI_false.2 (Int.not_lt.1 w), S.bc_self]
      exact F
    have C2 := S.gk_more (j := 7) (i := 1) C1 hi1 x1 r1
    simp only [e1, b1, ltI_false.2 (Int.not_lt.1 x1), notB_t, notB_f, S.beq00, bc_true, bc_false, true_and]
    by_cases hi2 : 2 < n
    rotate_left
    · have e2 : ltI (2 : Int) (n : Int) = false := ltI_false.2 (by omega)
      have g0 : S.gk vs o n = 0 := S.gk_end (j := 6) (i := 2) C2 hi2
      simp only [e2, g0, S.beq00, bc_true, bc_false]
      exact absurd hF (S.lf_stop g0 hn1)
    have e2 : ltI (2 : Int) (n : Int) = true := ltI_true.2 (by omega)
    have b2 : (o + 2 + 1).ble (lenL vs) = true := Nat.ble_eq_true_of_le (by omega)
    have r2 := S.okY_rng hY (i := o + 2) (by omega)
    by_cases x2 : intOf (K.atV vs (o + 2)) < 128
    · have y := ltI_true.2 x2
      have O := S.orE_eq hY (o := o) (k := 3) (by omega) (by omega)
      by_cases z : intOf (K.atV vs (o + 2)) = 0
      · have g0 : S.gk vs o n = 0 := S.gk_zero (j := 6) (i := 2) C2 hi2 x2 (by omega) z
        simp only [e2, b2, y, notB_t, notB_f, S.beq00, bc_true, bc_false, true_and, eqI_true.2 z, g0]
        exact absurd hF (S.lf_stop g0 hn1)
      have zz := eqI_false.2 z
      by_cases w : 4611686018427387904 < S.orE vs o 3
      · have g0 : S.gk vs o n = 0 := S.gk_big (j := 6) (i := 2) C2 hi2 x2 r2 (by rw [← O]; exact w)
        simp only [e2, b2, y, notB_t, notB_f, S.beq00, bc_true, bc_false, true_and, zz, ltI_true.2 w, g0, S.bc_self]
        exact absurd hF (S.lf_stop g0 hn1)
      have G := S.gk_num (j := 6) (i := 2) C2 hi2 x2 (.inr z) r2 (by rw [← O]; exact Int.not_lt.1 w)
      have F := LEAF 3 (by omega) (by omega) G.1 (G.2.trans O.symm)
      simp only [e2, b2, y, notB_t, notB_f, S.beq00, bc_true, bc_false, true_and, zz, ltI_false.2 (Int.not_lt.1 w), S.bc_self]
      exact F
    have C3 := S.gk_more (j := 6) (i := 2) C2 hi2 x2 r2
    simp only [e2, b2, ltI_false.2 (Int.not_lt.1 x2), notB_t, notB_f, S.beq00, bc_true, bc_false, true_and]
    by_cases hi3 : 3 < n
    rotate_left
    · have e3 : ltI (3 : Int) (n : Int) = false := ltI_false.2 (by omega)
      have g0 : S.gk vs o n = 0 := S.gk_end (j := 5) (i := 3) C3 hi3
      simp only [e3, g0, S.beq00, bc_true, bc_false]
      exact absurd hF (S.lf_stop g0 hn1)
    have e3 : ltI (3 : Int) (n : Int) = true := ltI_true.2 (by omega)
    have b3 : (o + 3 + 1).ble (lenL vs) = true := Nat.ble_eq_true_of_le (by omega)
    have r3 := S.okY_rng hY (i := o + 3) (by omega)
    by_cases x3 : intOf (K.atV vs (o + 3)) < 128
    · have y := ltI_true.2 x3
      have O := S.orE_eq hY (o := o) (k := 4) (by omega) (by omega)
      by_cases z : intOf (K.atV vs (o + 3)) = 0
      · have g0 : S.gk vs o n = 0 := S.gk_zero (j := 5) (i := 3) C3 hi3 x3 (by omega) z
        simp only [e3, b3, y, notB_t, notB_f, S.beq00, bc_true, bc_false, true_and, eqI_true.2 z, g0]
        exact absurd hF (S.lf_stop g0 hn1)
      have zz := eqI_false.2 z
      by_cases w : 4611686018427387904 < S.orE vs o 4
      · have g0 : S.gk vs o n = 0 := S.gk_big (j := 5) (i := 3) C3 hi3 x3 r3 (by rw [← O]; exact w)
        simp only [e3, b3, y, notB_t, notB_f, S.beq00, bc_true, bc_false, true_and, zz, ltI_true.2 w, g0, S.bc_self]
        exact absurd hF (S.lf_stop g0 hn1)
      have G := S.gk_num (j := 5) (i := 3) C3 hi3 x3 (.inr z) r3 (by rw [← O]; exact Int.not_lt.1 w)
      have F := LEAF 4 (by omega) (by omega) G.1 (G.2.trans O.symm)
      simp only [e3, b3, y, notB_t, notB_f, S.beq00, bc_true, bc_false, true_and, zz, ltI_false.2 (Int.not_lt.1 w), S.bc_self]
      exact F
    have C4 := S.gk_more (j := 5) (i := 3) C3 hi3 x3 r3
    simp only [e3, b3, ltI_false.2 (Int.not_lt.1 x3), notB_t, notB_f, S.beq00, bc_true, bc_false, true_and]
    by_cases hi4 : 4 < n
    rotate_left
    · have e4 : ltI (4 : Int) (n : Int) = false := ltI_false.2 (by omega)
      have g0 : S.gk vs o n = 0 := S.gk_end (j := 4) (i := 4) C4 hi4
      simp only [e4, g0, S.beq00, bc_true, bc_false]
      exact absurd hF (S.lf_stop g0 hn1)
    have e4 : ltI (4 : Int) (n : Int) = true := ltI_true.2 (by omega)
    have b4 : (o + 4 + 1).ble (lenL vs) = true := Nat.ble_eq_true_of_le (by omega)
    have r4 := S.okY_rng hY (i := o + 4) (by omega)
    by_cases x4 : intOf (K.atV vs (o + 4)) < 128
    · have y := ltI_true.2 x4
      have O := S.orE_eq hY (o := o) (k := 5) (by omega) (by omega)
      by_cases z : intOf (K.atV vs (o + 4)) = 0
      · have g0 : S.gk vs o n = 0 := S.gk_zero (j := 4) (i := 4) C4 hi4 x4 (by omega) z
        simp only [e4, b4, y, notB_t, notB_f, S.beq00, bc_true, bc_false, true_and, eqI_true.2 z, g0]
        exact absurd hF (S.lf_stop g0 hn1)
      have zz := eqI_false.2 z
      by_cases w : 4611686018427387904 < S.orE vs o 5
      · have g0 : S.gk vs o n = 0 := S.gk_big (j := 4) (i := 4) C4 hi4 x4 r4 (by rw [← O]; exact w)
        simp only [e4, b4, y, notB_t, notB_f, S.beq00, bc_true, bc_false, true_and, zz, ltI_true.2 w, g0, S.bc_self]
        exact absurd hF (S.lf_stop g0 hn1)
      have G := S.gk_num (j := 4) (i := 4) C4 hi4 x4 (.inr z) r4 (by rw [← O]; exact Int.not_lt.1 w)
      have F := LEAF 5 (by omega) (by omega) G.1 (G.2.trans O.symm)
      simp only [e4, b4, y, notB_t, notB_f, S.beq00, bc_true, bc_false, true_and, zz, ltI_false.2 (Int.not_lt.1 w), S.bc_self]
      exact F
    have C5 := S.gk_more (j := 4) (i := 4) C4 hi4 x4 r4
    simp only [e4, b4, ltI_false.2 (Int.not_lt.1 x4), notB_t, notB_f, S.beq00, bc_true, bc_false, true_and]
    by_cases hi5 : 5 < n
    rotate_left
    · have e5 : ltI (5 : Int) (n : Int) = false := ltI_false.2 (by omega)
      have g0 : S.gk vs o n = 0 := S.gk_end (j := 3) (i := 5) C5 hi5
      simp only [e5, g0, S.beq00, bc_true, bc_false]
      exact absurd hF (S.lf_stop g0 hn1)
    have e5 : ltI (5 : Int) (n : Int) = true := ltI_true.2 (by omega)
    have b5 : (o + 5 + 1).ble (lenL vs) = true := Nat.ble_eq_true_of_le (by omega)
    have r5 := S.okY_rng hY (i := o + 5) (by omega)
    by_cases x5 : intOf (K.atV vs (o + 5)) < 128
    · have y := ltI_true.2 x5
      have O := S.orE_eq hY (o := o) (k := 6) (by omega) (by omega)
      by_cases z : intOf (K.atV vs (o + 5)) = 0
      · have g0 : S.gk vs o n = 0 := S.gk_zero (j := 3) (i := 5) C5 hi5 x5 (by omega) z
        simp only [e5, b5, y, notB_t, notB_f, S.beq00, bc_true, bc_false, true_and, eqI_true.2 z, g0]
        exact absurd hF (S.lf_stop g0 hn1)
      have zz := eqI_false.2 z
      by_cases w : 4611686018427387904 < S.orE vs o 6
      · have g0 : S.gk vs o n = 0 := S.gk_big (j := 3) (i := 5) C5 hi5 x5 r5 (by rw [← O]; exact w)
        simp only [e5, b5, y, notB_t, notB_f, S.beq00, bc_true, bc_false, true_and, zz, ltI_true.2 w, g0, S.bc_self]
        exact absurd hF (S.lf_stop g0 hn1)
      have G := S.gk_num (j := 3) (i := 5) C5 hi5 x5 (.inr z) r5 (by rw [← O]; exact Int.not_lt.1 w)
      have F := LEAF 6 (by omega) (by omega) G.1 (G.2.trans O.symm)
      simp only [e5, b5, y, notB_t, notB_f, S.beq00, bc_true, bc_false, true_and, zz, ltI_false.2 (Int.not_lt.1 w), S.bc_self]
      exact F
    have C6 := S.gk_more (j := 3) (i := 5) C5 hi5 x5 r5
    simp only [e5, b5, ltI_false.2 (Int.not_lt.1 x5), notB_t, notB_f, S.beq00, bc_true, bc_false, true_and]
    by_cases hi6 : 6 < n
    rotate_left
    · have e6 : ltI (6 : Int) (n : Int) = false := ltI_false.2 (by omega)
      have g0 : S.gk vs o n = 0 := S.gk_end (j := 2) (i := 6) C6 hi6
      simp only [e6, g0, S.beq00, bc_true, bc_false]
      exact absurd hF (S.lf_stop g0 hn1)
    have e6 : ltI (6 : Int) (n : Int) = true := ltI_true.2 (by omega)
    have b6 : (o + 6 + 1).ble (lenL vs) = true := Nat.ble_eq_true_of_le (by omega)
    have r6 := S.okY_rng hY (i := o + 6) (by omega)
    by_cases x6 : intOf (K.atV vs (o + 6)) < 128
    · have y := ltI_true.2 x6
      have O := S.orE_eq hY (o := o) (k := 7) (by omega) (by omega)
      by_cases z : intOf (K.atV vs (o + 6)) = 0
      · have g0 : S.gk vs o n = 0 := S.gk_zero (j := 2) (i := 6) C6 hi6 x6 (by omega) z
        simp only [e6, b6, y, notB_t, notB_f, S.beq00, bc_true, bc_false, true_and, eqI_true.2 z, g0]
        exact absurd hF (S.lf_stop g0 hn1)
      have zz := eqI_false.2 z
      by_cases w : 4611686018427387904 < S.orE vs o 7
      · have g0 : S.gk vs o n = 0 := S.gk_big (j := 2) (i := 6) C6 hi6 x6 r6 (by rw [← O]; exact w)
        simp only [e6, b6, y, notB_t, notB_f, S.beq00, bc_true, bc_false, true_and, zz, ltI_true.2 w, g0, S.bc_self]
        exact absurd hF (S.lf_stop g0 hn1)
      have G := S.gk_num (j := 2) (i := 6) C6 hi6 x6 (.inr z) r6 (by rw [← O]; exact Int.not_lt.1 w)
      have F := LEAF 7 (by omega) (by omega) G.1 (G.2.trans O.symm)
      simp only [e6, b6, y, notB_t, notB_f, S.beq00, bc_true, bc_false, true_and, zz, ltI_false.2 (Int.not_lt.1 w), S.bc_self]
      exact F
    have C7 := S.gk_more (j := 2) (i := 6) C6 hi6 x6 r6
    simp only [e6, b6, ltI_false.2 (Int.not_lt.1 x6), notB_t, notB_f, S.beq00, bc_true, bc_false, true_and]
    by_cases hi7 : 7 < n
    rotate_left
    · have e7 : ltI (7 : Int) (n : Int) = false := ltI_false.2 (by omega)
      have g0 : S.gk vs o n = 0 := S.gk_end (j := 1) (i := 7) C7 hi7
      simp only [e7, g0, S.beq00, bc_true, bc_false]
      exact absurd hF (S.lf_stop g0 hn1)
    have e7 : ltI (7 : Int) (n : Int) = true := ltI_true.2 (by omega)
    have b7 : (o + 7 + 1).ble (lenL vs) = true := Nat.ble_eq_true_of_le (by omega)
    have r7 := S.okY_rng hY (i := o + 7) (by omega)
    by_cases x7 : intOf (K.atV vs (o + 7)) < 128
    · have y := ltI_true.2 x7
      have O := S.orE_eq hY (o := o) (k := 8) (by omega) (by omega)
      by_cases z : intOf (K.atV vs (o + 7)) = 0
      · have g0 : S.gk vs o n = 0 := S.gk_zero (j := 1) (i := 7) C7 hi7 x7 (by omega) z
        simp only [e7, b7, y, notB_t, notB_f, S.beq00, bc_true, bc_false, true_and, eqI_true.2 z, g0]
        exact absurd hF (S.lf_stop g0 hn1)
      have zz := eqI_false.2 z
      by_cases w : 4611686018427387904 < S.orE vs o 8
      · have g0 : S.gk vs o n = 0 := S.gk_big (j := 1) (i := 7) C7 hi7 x7 r7 (by rw [← O]; exact w)
        simp only [e7, b7, y, notB_t, notB_f, S.beq00, bc_true, bc_false, true_and, zz, ltI_true.2 w, g0, S.bc_self]
        exact absurd hF (S.lf_stop g0 hn1)
      have G := S.gk_num (j := 1) (i := 7) C7 hi7 x7 (.inr z) r7 (by rw [← O]; exact Int.not_lt.1 w)
      have F := LEAF 8 (by omega) (by omega) G.1 (G.2.trans O.symm)
      simp only [e7, b7, y, notB_t, notB_f, S.beq00, bc_true, bc_false, true_and, zz, ltI_false.2 (Int.not_lt.1 w), S.bc_self]
      exact F
    have C8 := S.gk_more (j := 1) (i := 7) C7 hi7 x7 r7
    simp only [e7, b7, ltI_false.2 (Int.not_lt.1 x7), notB_t, notB_f, S.beq00, bc_true, bc_false, true_and]
    by_cases hi8 : 8 < n
    rotate_left
    · have e8 : ltI (8 : Int) (n : Int) = false := ltI_false.2 (by omega)
      have g0 : S.gk vs o n = 0 := S.gk_end (j := 0) (i := 8) C8 hi8
      simp only [e8, g0, S.beq00, bc_true, bc_false]
      exact absurd hF (S.lf_stop g0 hn1)
    have e8 : ltI (8 : Int) (n : Int) = true := ltI_true.2 (by omega)
    have b8 : (o + 8 + 1).ble (lenL vs) = true := Nat.ble_eq_true_of_le (by omega)
    have r8 := S.okY_rng hY (i := o + 8) (by omega)
    by_cases x8 : intOf (K.atV vs (o + 8)) < 128
    · have y := ltI_true.2 x8
      have O := S.orE_eq hY (o := o) (k := 9) (by omega) (by omega)
      by_cases z : intOf (K.atV vs (o + 8)) = 0
      · have g0 : S.gk vs o n = 0 := S.gk_zero (j := 0) (i := 8) C8 hi8 x8 (by omega) z
        simp only [e8, b8, y, notB_t, notB_f, S.beq00, bc_true, bc_false, true_and, eqI_true.2 z, g0]
        exact absurd hF (S.lf_stop g0 hn1)
      have zz := eqI_false.2 z
      by_cases w : 4611686018427387904 < S.orE vs o 9
      · have g0 : S.gk vs o n = 0 := S.gk_big (j := 0) (i := 8) C8 hi8 x8 r8 (by rw [← O]; exact w)
        simp only [e8, b8, y, notB_t, notB_f, S.beq00, bc_true, bc_false, true_and, zz, ltI_true.2 w, g0, S.bc_self]
        exact absurd hF (S.lf_stop g0 hn1)
      have G := S.gk_num (j := 0) (i := 8) C8 hi8 x8 (.inr z) r8 (by rw [← O]; exact Int.not_lt.1 w)
      have F := LEAF 9 (by omega) (by omega) G.1 (G.2.trans O.symm)
      simp only [e8, b8, y, notB_t, notB_f, S.beq00, bc_true, bc_false, true_and, zz, ltI_false.2 (Int.not_lt.1 w), S.bc_self]
      exact F
    have g0 : S.gk vs o n = 0 := S.gk_long C8 hi8 x8
    simp only [e8, b8, ltI_false.2 (Int.not_lt.1 x8), notB_t, notB_f, S.beq00, bc_true, bc_false, true_and, g0]
    exact absurd hF (S.lf_stop g0 hn1))
  obtain ⟨q1, q2⟩ := K.RunL2.one hr
  cases hb : Nat.beq n 0
  · exact K.loop_of_run good (envK_ok (fun p hp => by cases hp)) K.openE_ok (q2 hb)
  · exact K.loop_of_run good (envK_ok (fun p hp => by cases hp)) K.openE_ok (q1 hb)
/-- What is left to be shown where a number of k bytes was read. -/
def nqRP_leaf (et o n c m : Nat) (vs ns : List LV) (left : Int) (k : Nat) : Prop :=
  (bc (Nat.ble n n) (bc (Nat.ble k n) (bc (Nat.ble n c) (bc (Nat.ble ((0 : Nat) + m) (lenL ns)) (bc (Nat.ble ((m + (1 : Nat)) * (8 : Nat)) (1099511627776 : Nat)) (bc (S.an (S.lpok (10 : FuncId) (74 : Nat) S.T0 [(48 : Tmp), (49 : Tmp)] S.code0 S.code1) (S.an (S.tyok (6 : Nat) (3 : TypeId) (23 : TypeId) (22 : TypeId) (3 : Nat)) (S.an (S.okB vs (@bc Nat (Nat.beq c k) o (o + k)) (n - k) (c - k) (m + (1 : Nat)) (app (sub ns (0 : Nat) m) (sub (setMany [LV.int IntKind.i64 (0 : Int)] (0 : Nat) [LV.int IntKind.i64 (S.orE vs o k)]) (0 : Nat) (1 : Nat))) ↑(n - k)) (notB (Nat.beq (S.lf vs (n - k) (@bc Nat (Nat.beq c k) o (o + k)) (n - k)) (0 : Nat)))))) (K.LOk Try.prog 20 57 (inner (inner (blkOf 20 0))) [(0 : Nat), (1 : Nat)] [LV.func (Fn.yield (0 : Nat)) [] [], LV.ptr (2 : Nat) (0 : Nat)] [LObj.loop LoopState.ready none (10 : FuncId) (74 : Nat) S.T0 [(48 : Tmp), (49 : Tmp)] S.code0 S.code1 (6 : Nat), LObj.cells (3 : TypeId) Own.exact [LV.int IntKind.i64 ↑(n - k)], LObj.cells (23 : TypeId) Own.exact [LV.slice (3 : Nat) (@bc Nat (Nat.beq c k) o (o + k)) (n - k) (Cap.known (c - k))], LObj.flat [CK.i IntKind.u8] et Own.ro vs, LObj.cells (22 : TypeId) Own.exact [LV.slice (5 : Nat) (0 : Nat) (m + (1 : Nat)) (Cap.rest (0 : Nat))], LObj.flat [CK.i IntKind.i64] (3 : Nat) (Own.grow (1 : Nat)) (app (sub ns (0 : Nat) m) (sub (setMany [LV.int IntKind.i64 (0 : Int)] (0 : Nat) [LV.int IntKind.i64 (S.orE vs o k)]) (0 : Nat) (1 : Nat))), LObj.defers false] { x := LX.ret, L := [], ch := [((0 : Nat), LObj.loop LoopState.ready none (10 : FuncId) (74 : Nat) S.T0 [(48 : Tmp), (49 : Tmp)] S.code0 S.code1 (6 : Nat)), ((1 : Nat), LObj.cells (3 : TypeId) Own.exact [LV.int IntKind.i64 ↑(S.lf vs (n - k) (@bc Nat (Nat.beq c k) o (o + k)) (n - k))]), ((2 : Nat), LObj.dead), ((4 : Nat), LObj.cells (22 : TypeId) Own.exact [LV.slice (7 : Nat) (0 : Nat) (m + (1 : Nat) + S.nll vs (n - k) (@bc Nat (Nat.beq c k) o (o + k)) (n - k)) (Cap.rest (0 : Nat))]), ((5 : Nat), LObj.dead)], new := [LObj.flat [CK.i IntKind.i64] (3 : TypeId) (Own.grow (1 : Nat)) (app (app (sub ns (0 : Nat) m) (sub (setMany [LV.int IntKind.i64 (0 : Int)] (0 : Nat) [LV.int IntKind.i64 (S.orE vs o k)]) (0 : Nat) (1 : Nat))) (S.nl vs (n - k) (@bc Nat (Nat.beq c k) o (o + k)) (n - k)))] } ∧ bc (Nat.beq (S.gk vs o n) (0 : Nat)) False (LoopState.ready = LoopState.ready ∧ ((none : Option Code) = none ∧ ([(48 : Tmp), (49 : Tmp)] = [(48 : Tmp), (49 : Tmp)] ∧ (S.code0 = S.code0 ∧ (S.code1 = S.code1 ∧ ((0 : Nat) = (0 : Nat) ∧ ((0 : Nat) = (0 : Nat) ∧ ((0 : Nat) = (0 : Nat) ∧ ((↑(S.lf vs n o n) : Int) = ↑(S.lf vs (n - k) (@bc Nat (Nat.beq c k) o (o + k)) (n - k)) ∧ ((0 : Nat) = (0 : Nat) ∧ (m + S.nll vs n o n = m + (1 : Nat) + S.nll vs (n - k) (@bc Nat (Nat.beq c k) o (o + k)) (n - k) ∧ (Cap.rest (0 : Nat) = Cap.rest (0 : Nat) ∧ (app ns (S.nl vs n o n) = app (app (sub ns (0 : Nat) m) (sub (setMany [LV.int IntKind.i64 (0 : Int)] (0 : Nat) [LV.int IntKind.i64 (S.orE vs o k)]) (0 : Nat) (1 : Nat))) (S.nl vs (n - k) (@bc Nat (Nat.beq c k) o (o + k)) (n - k)) ∧ True)))))))))))))) False) False) False) False) False) False)
theorem nqRP_run (et o n c m : Nat) (vs ns : List LV) (left : Int) : K.RunL2 (envK [] (fun g id => none) (fun g i => bc (Nat.beq g 10) (hasN [6, 7] i) (true))) K.openE 30 20 57 (inner (inner (blkOf 20 0))) nqPB [(0, .func (.yield 0) [] []), (1, .ptr 2 0)] [.loop .ready none 10 74 S.T0 [48, 49] S.code0 S.code1 6, .cells 3 .exact [.int .i64 left], .cells 23 .exact [.slice 3 o n (.known c)], .flat [.i .u8] et .ro vs, .cells 22 .exact [.slice 5 0 m (.rest 0)], .flat [.i .i64] 3 (.grow 1) ns, .defers false] (.skip 1 (.fork (.skip 1 (.take true (.skip 5 (.fork (.skip 6 (.take true (.skip 0 (.fork (.skip 5 (.fork (.skip 6 (.take true (.skip 0 (.fork (.skip 5 (.fork (.skip 6 (.take true (.skip 0 (.fork (.skip 5 (.fork (.skip 6 (.take true (.skip 0 (.fork (.skip 5 (.fork (.skip 6 (.take true (.skip 0 (.fork (.skip 5 (.fork (.skip 6 (.take true (.skip 0 (.fork (.skip 5 (.fork (.skip 6 (.take true (.skip 0 (.fork (.skip 5 (.fork (.skip 6 (.take true (.skip 0 (.fork (.skip 5 (.fork .auto (.skip 6 (.take false .auto)))) .auto)))) (.skip 6 (.take false .auto)))) .auto)))) (.skip 6 (.take false .auto)))) .auto)))) (.skip 6 (.take false .auto)))) .auto)))) (.skip 6 (.take false .auto)))) .auto)))) (.skip 6 (.take false .auto)))) .auto)))) (.skip 6 (.take false .auto)))) .auto)))) (.skip 6 (.take false .auto)))) .auto)))) (.skip 6 (.take false .auto)))))) .auto)) (Nat.beq (S.gk vs o n) 0) ⟨.ret, [], [], []⟩ ⟨.ret, [], [(0, .loop .ready none 10 74 S.T0 [48, 49] S.code0 S.code1 6), (1, .cells 3 .exact [.int .i64 (S.lf vs n o n)]), (2, .dead), (4, .cells 22 .exact [.slice 7 0 (m + S.nll vs n o n) (.rest 0)]), (5, .dead)], [.flat [.i .i64] 3 (.grow 1) (app ns (S.nl vs n o n))]⟩ =
    (bc (ltI (0 : Int) ↑n) (ltI (0 : Int) ↑n = true ∧ bc (ltI (0 : Int) ↑n) (bc (Nat.ble (o + (0 : Nat) + (1 : Nat)) (lenL vs)) (bc (notB (ltI (intOf (K.atV vs (o + (0 : Nat)))) (128 : Int))) (notB (ltI (intOf (K.atV vs (o + (0 : Nat)))) (128 : Int)) = true ∧ bc (ltI ((1 : Int)) ↑n) (bc (ltI ((1 : Int)) ↑n) (bc (Nat.ble (o + (1 : Nat) + (1 : Nat)) (lenL vs)) (bc (notB (ltI (intOf (K.atV vs (o + (1 : Nat)))) (128 : Int))) (notB (ltI (intOf (K.atV vs (o + (1 : Nat)))) (128 : Int)) = true ∧ bc (ltI ((2 : Int)) ↑n) (bc (ltI ((2 : Int)) ↑n) (bc (Nat.ble (o + (2 : Nat) + (1 : Nat)) (lenL vs)) (bc (notB (ltI (intOf (K.atV vs (o + (2 : Nat)))) (128 : Int))) (notB (ltI (intOf (K.atV vs (o + (2 : Nat)))) (128 : Int)) = true ∧ bc (ltI ((3 : Int)) ↑n) (bc (ltI ((3 : Int)) ↑n) (bc (Nat.ble (o + (3 : Nat) + (1 : Nat)) (lenL vs)) (bc (notB (ltI (intOf (K.atV vs (o + (3 : Nat)))) (128 : Int))) (notB (ltI (intOf (K.atV vs (o + (3 : Nat)))) (128 : Int)) = true ∧ bc (ltI ((4 : Int)) ↑n) (bc (ltI ((4 : Int)) ↑n) (bc (Nat.ble (o + (4 : Nat) + (1 : Nat)) (lenL vs)) (bc (notB (ltI (intOf (K.atV vs (o + (4 : Nat)))) (128 : Int))) (notB (ltI (intOf (K.atV vs (o + (4 : Nat)))) (128 : Int)) = true ∧ bc (ltI ((5 : Int)) ↑n) (bc (ltI ((5 : Int)) ↑n) (bc (Nat.ble (o + (5 : Nat) + (1 : Nat)) (lenL vs)) (bc (notB (ltI (intOf (K.atV vs (o + (5 : Nat)))) (128 : Int))) (notB (ltI (intOf (K.atV vs (o + (5 : Nat)))) (128 : Int)) = true ∧ bc (ltI ((6 : Int)) ↑n) (bc (ltI ((6 : Int)) ↑n) (bc (Nat.ble (o + (6 : Nat) + (1 : Nat)) (lenL vs)) (bc (notB (ltI (intOf (K.atV vs (o + (6 : Nat)))) (128 : Int))) (notB (ltI (intOf (K.atV vs (o + (6 : Nat)))) (128 : Int)) = true ∧ bc (ltI ((7 : Int)) ↑n) (bc (ltI ((7 : Int)) ↑n) (bc (Nat.ble (o + (7 : Nat) + (1 : Nat)) (lenL vs)) (bc (notB (ltI (intOf (K.atV vs (o + (7 : Nat)))) (128 : Int))) (notB (ltI (intOf (K.atV vs (o + (7 : Nat)))) (128 : Int)) = true ∧ bc (ltI ((8 : Int)) ↑n) (bc (ltI ((8 : Int)) ↑n) (bc (Nat.ble (o + (8 : Nat) + (1 : Nat)) (lenL vs)) (bc (notB (ltI (intOf (K.atV vs (o + (8 : Nat)))) (128 : Int))) (bc (Nat.beq (S.gk vs o n) (0 : Nat)) True False) (notB (ltI (intOf (K.atV vs (o + (8 : Nat)))) (128 : Int)) = false ∧ bc (eqI (intOf (K.atV vs (o + (8 : Nat)))) (0 : Int)) (bc (Nat.beq (S.gk vs o n) (0 : Nat)) True False) (bc (ltI (4611686018427387904 : Int) (S.orE vs o 9)) (bc (Nat.beq (S.gk vs o n) (0 : Nat)) True False) (nqRP_leaf et o n c m vs ns left 9)))) False) False) (bc (Nat.beq (S.gk vs o n) (0 : Nat)) True False)) (notB (ltI (intOf (K.atV vs (o + (7 : Nat)))) (128 : Int)) = false ∧ bc (eqI (intOf (K.atV vs (o + (7 : Nat)))) (0 : Int)) (bc (Nat.beq (S.gk vs o n) (0 : Nat)) True False) (bc (ltI (4611686018427387904 : Int) (S.orE vs o 8)) (bc (Nat.beq (S.gk vs o n) (0 : Nat)) True False) (nqRP_leaf et o n c m vs ns left 8)))) False) False) (bc (Nat.beq (S.gk vs o n) (0 : Nat)) True False)) (notB (ltI (intOf (K.atV vs (o + (6 : Nat)))) (128 : Int)) = false ∧ bc (eqI (intOf (K.atV vs (o + (6 : Nat)))) (0 : Int)) (bc (Nat.beq (S.gk vs o n) (0 : Nat)) True False) (bc (ltI (4611686018427387904 : Int) (S.orE vs o 7)) (bc (Nat.beq (S.gk vs o n) (0 : Nat)) True False) (nqRP_leaf et o n c m vs ns left 7)))) False) False) (bc (Nat.beq (S.gk vs o n) (0 : Nat)) True False)) (notB (ltI (intOf (K.atV vs (o + (5 : Nat)))) (128 : Int)) = false ∧ bc (eqI (intOf (K.atV vs (o + (5 : Nat)))) (0 : Int)) (bc (Nat.beq (S.gk vs o n) (0 : Nat)) True False) (bc (ltI (4611686018427387904 : Int) (S.orE vs o 6)) (bc (Nat.beq (S.gk vs o n) (0 : Nat)) True False) (nqRP_leaf et o n c m vs ns left 6)))) False) False) (bc (Nat.beq (S.gk vs o n) (0 : Nat)) True False)) (notB (ltI (intOf (K.atV vs (o + (4 : Nat)))) (128 : Int)) = false ∧ bc (eqI (intOf (K.atV vs (o + (4 : Nat)))) (0 : Int)) (bc (Nat.beq (S.gk vs o n) (0 : Nat)) True False) (bc (ltI (4611686018427387904 : Int) (S.orE vs o 5)) (bc (Nat.beq (S.gk vs o n) (0 : Nat)) True False) (nqRP_leaf et o n c m vs ns left 5)))) False) False) (bc (Nat.beq (S.gk vs o n) (0 : Nat)) True False)) (notB (ltI (intOf (K.atV vs (o + (3 : Nat)))) (128 : Int)) = false ∧ bc (eqI (intOf (K.atV vs (o + (3 : Nat)))) (0 : Int)) (bc (Nat.beq (S.gk vs o n) (0 : Nat)) True False) (bc (ltI (4611686018427387904 : Int) (S.orE vs o 4)) (bc (Nat.beq (S.gk vs o n) (0 : Nat)) True False) (nqRP_leaf et o n c m vs ns left 4)))) False) False) (bc (Nat.beq (S.gk vs o n) (0 : Nat)) True False)) (notB (ltI (intOf (K.atV vs (o + (2 : Nat)))) (128 : Int)) = false ∧ bc (eqI (intOf (K.atV vs (o + (2 : Nat)))) (0 : Int)) (bc (Nat.beq (S.gk vs o n) (0 : Nat)) True False) (bc (ltI (4611686018427387904 : Int) (S.orE vs o 3)) (bc (Nat.beq (S.gk vs o n) (0 : Nat)) True False) (nqRP_leaf et o n c m vs ns left 3)))) False) False) (bc (Nat.beq (S.gk vs o n) (0 : Nat)) True False)) (notB (ltI (intOf (K.atV vs (o + (1 : Nat)))) (128 : Int)) = false ∧ bc (eqI (intOf (K.atV vs (o + (1 : Nat)))) (0 : Int)) (bc (Nat.beq (S.gk vs o n) (0 : Nat)) True False) (bc (ltI (4611686018427387904 : Int) (S.orE vs o 2)) (bc (Nat.beq (S.gk vs o n) (0 : Nat)) True False) (nqRP_leaf et o n c m vs ns left 2)))) False) False) (bc (Nat.beq (S.gk vs o n) (0 : Nat)) True False)) (notB (ltI (intOf (K.atV vs (o + (0 : Nat)))) (128 : Int)) = false ∧ bc (eqI (intOf (K.atV vs (o + (0 : Nat)))) (0 : Int)) (bc (ltI (4611686018427387904 : Int) (S.orE vs o 1)) (bc (Nat.beq (S.gk vs o n) (0 : Nat)) True False) (nqRP_leaf et o n c m vs ns left 1)) (bc (ltI (4611686018427387904 : Int) (S.orE vs o 1)) (bc (Nat.beq (S.gk vs o n) (0 : Nat)) True False) (nqRP_leaf et o n c m vs ns left 1)))) False) False) (bc (Nat.beq (S.gk vs o n) (0 : Nat)) False False)) := by kernel_rfl
theorem nqRP_leaf_ok (et o n c m : Nat) (vs ns : List LV) (left : Int) (k : Nat) (hA : S.okA vs o n c = true) (hB : lenL ns = m ∧ m + n ≤ 1000000 ∧ left = n) (hF : S.lf vs n o n ≠ 0) (hk : 1 ≤ k) (hkn : k ≤ n) (G1 : S.gk vs o n = k) (G2 : S.gv vs o n = S.orE vs o k) (IH : ∀ (o2 n2 c2 m2 : Nat) (ns2 : List LV) (left2 : Int), n2 < n → S.okA vs o2 n2 c2 = true → (lenL ns2 = m2 ∧ m2 + n2 ≤ 1000000 ∧ left2 = n2) → S.lf vs n2 o2 n2 ≠ 0 → nqP_T et o2 n2 c2 m2 vs ns2 left2) : nqRP_leaf et o n c m vs ns left k := by
  obtain ⟨hY, h1, h2, h3⟩ := S.okA_iff.1 hA
  obtain ⟨E1, E2⟩ := S.go G1 hk
  rw [G2] at E2
  have hA2 : S.okA vs (o + k) (n - k) (c - k) = true := S.okA_iff.2 ⟨hY, by omega, by omega, h3⟩
  have hl1 : S.nll vs n o n = 1 + S.nll vs (n - k) (o + k) (n - k) := by unfold S.nll; rw [E2, K.lenL_eq, List.length_cons, ← K.lenL_eq]; omega
  have hF2 : S.lf vs (n - k) (o + k) (n - k) ≠ 0 := by rw [← E1]; exact hF
  have hB2 : lenL (app ns [.int .i64 (S.orE vs o k)]) = (m + 1) ∧ (m + 1) + (n - k) ≤ 1000000 ∧ ((n - k : Nat) : Int) = (n - k : Nat) := ⟨by rw [S.lenL_app, hB.1]; rfl, by omega, rfl⟩
  have ih := IH (o + k) (n - k) (c - k) (m + 1) (app ns [.int .i64 (S.orE vs o k)]) (n - k : Nat) (by omega) hA2 hB2 hF2
  have okb := S.okB_iff.2 ⟨hA2, hB2⟩
  have bk : Nat.beq c k = false := S.beqN_no.2 (by omega)
  have b1 := S.bleN_iff.2 (Nat.le_refl n)
  have b2 := S.bleN_iff.2 hkn
  have b3 : Nat.ble n c = true := S.bleN_iff.2 (by omega)
  have ty : S.tyok 6 3 23 22 3 = true := rfl
  have at2 : S.an true true = true := rfl
  have lz : Nat.beq (S.lf vs (n - k) (o + k) (n - k)) 0 = false := S.beqN_no.2 hF2
  unfold nqRP_leaf
  have b4 : ((0 : Nat) + m).ble (lenL ns) = true := S.bleN_iff.2 (by rw [hB.1]; omega)
  have b5 : ((m + 1) * 8).ble 1099511627776 = true := S.bleN_iff.2 (by omega)
  have so : ∀ x : LV, sub (setMany [.int .i64 0] 0 [x]) 0 1 = [x] := fun _ => rfl
  have sa := S.sub_all hB.1
  simp only [b4, b5, so, sa, b1, b2, b3, bk, bc_true, bc_false, S.lpok_ok, ty, okb, lz, at2, notB_t, notB_f]
  refine ⟨ih, ?_⟩
  clear ih
  have nz : Nat.beq (S.gk vs o n) 0 = false := S.beq_no (by omega)
  rw [nz, bc_false, E1, hl1, E2]
  simp only [S.app_app, S.app_cons, S.app_nil, Nat.add_assoc, and_true]
theorem nqRP_con (et o n c m : Nat) (vs ns : List LV) (left : Int) (hA : S.okA vs o n c = true) (hB : lenL ns = m ∧ m + n ≤ 1000000 ∧ left = n) (hF : S.lf vs n o n ≠ 0) (IH : ∀ (o2 n2 c2 m2 : Nat) (ns2 : List LV) (left2 : Int), n2 < n → S.okA vs o2 n2 c2 = true → (lenL ns2 = m2 ∧ m2 + n2 ≤ 1000000 ∧ left2 = n2) → S.lf vs n2 o2 n2 ≠ 0 → nqP_T et o2 n2 c2 m2 vs ns2 left2) : GT Try.prog (fun k => .code (inner (inner (blkOf 20 0))) :: .inLoop (inner (inner (blkOf 20 0))) :: k) (Fr.ofL 20 57 [(0, .func (.yield 0) [] []), (1, .ptr 2 0)] [] none) (Heap.of [.loop .ready none 10 74 S.T0 [48, 49] S.code0 S.code1 6, .cells 3 .exact [.int .i64 left], .cells 23 .exact [.slice 3 o n (.known c)], .flat [.i .u8] et .ro vs, .cells 22 .exact [.slice 5 0 m (.rest 0)], .flat [.i .i64] 3 (.grow 1) ns, .defers false]) ((bc (Nat.beq (S.gk vs o n) 0) ⟨.ret, [], [], []⟩ ⟨.ret, [], [(0, .loop .ready none 10 74 S.T0 [48, 49] S.code0 S.code1 6), (1, .cells 3 .exact [.int .i64 (S.lf vs n o n)]), (2, .dead), (4, .cells 22 .exact [.slice 7 0 (m + S.nll vs n o n) (.rest 0)]), (5, .dead)], [.flat [.i .i64] 3 (.grow 1) (app ns (S.nl vs n o n))]⟩) : K.BRes).x (Fr.ofL 20 57 ((bc (Nat.beq (S.gk vs o n) 0) ⟨.ret, [], [], []⟩ ⟨.ret, [], [(0, .loop .ready none 10 74 S.T0 [48, 49] S.code0 S.code1 6), (1, .cells 3 .exact [.int .i64 (S.lf vs n o n)]), (2, .dead), (4, .cells 22 .exact [.slice 7 0 (m + S.nll vs n o n) (.rest 0)]), (5, .dead)], [.flat [.i .i64] 3 (.grow 1) (app ns (S.nl vs n o n))]⟩) : K.BRes).L [] none) (Heap.of (K.chg [.loop .ready none 10 74 S.T0 [48, 49] S.code0 S.code1 6, .cells 3 .exact [.int .i64 left], .cells 23 .exact [.slice 3 o n (.known c)], .flat [.i .u8] et .ro vs, .cells 22 .exact [.slice 5 0 m (.rest 0)], .flat [.i .i64] 3 (.grow 1) ns, .defers false] ((bc (Nat.beq (S.gk vs o n) 0) ⟨.ret, [], [], []⟩ ⟨.ret, [], [(0, .loop .ready none 10 74 S.T0 [48, 49] S.code0 S.code1 6), (1, .cells 3 .exact [.int .i64 (S.lf vs n o n)]), (2, .dead), (4, .cells 22 .exact [.slice 7 0 (m + S.nll vs n o n) (.rest 0)]), (5, .dead)], [.flat [.i .i64] 3 (.grow 1) (app ns (S.nl vs n o n))]⟩) : K.BRes).ch ++ ((bc (Nat.beq (S.gk vs o n) 0) ⟨.ret, [], [], []⟩ ⟨.ret, [], [(0, .loop .ready none 10 74 S.T0 [48, 49] S.code0 S.code1 6), (1, .cells 3 .exact [.int .i64 (S.lf vs n o n)]), (2, .dead), (4, .cells 22 .exact [.slice 7 0 (m + S.nll vs n o n) (.rest 0)]), (5, .dead)], [.flat [.i .i64] 3 (.grow 1) (app ns (S.nl vs n o n))]⟩) : K.BRes).new)) := by
  have hr := cast (nqRP_run et o n c m vs ns left).symm (by
    obtain ⟨hY, h1, h2, h3⟩ := S.okA_iff.1 hA
    have C0 : S.gt vs o n 9 0 0 = S.gt vs o n 9 0 (S.acS vs o 0) := rfl
    have LEAF := fun k (hk : 1 ≤ k) (hkn : k ≤ n) (G1 : S.gk vs o n = k) (G2 : S.gv vs o n = S.orE vs o k) => nqRP_leaf_ok et o n c m vs ns left k hA hB hF hk hkn G1 G2 IH
    by_cases hi0 : 0 < n
    rotate_left
    · have n0 : n = 0 := by omega
      subst n0
      have e0 : ltI (0 : Int) ((0 : Nat) : Int) = false := rfl
      exact absurd rfl hF
    have e0 : ltI (0 : Int) (n : Int) = true := ltI_true.2 (by omega)
    have b0 : (o + 0 + 1).ble (lenL vs) = true := Nat.ble_eq_true_of_le (by omega)
    have r0 := S.okY_rng hY (i := o + 0) (by omega)
    have hn1 : 1 ≤ n := by omega
    have nz : Nat.beq n 0 = false := S.beq_no hn1
    by_cases x0 : intOf (K.atV vs (o + 0)) < 128
    · have y := ltI_true.2 x0
      have O := S.orE_eq hY (o := o) (k := 1) (by omega) (by omega)
      by_cases w : 4611686018427387904 < S.orE vs o 1
      · have g0 : S.gk vs o n = 0 := S.gk_big (j := 8) (i := 0) C0 hi0 x0 r0 (by rw [← O]; exact w)
        simp only [e0, b0, y, notB_t, notB_f, S.beq00, bc_true, bc_false, true_and, nz, ltI_true.2 w, g0, S.bc_self]
      have G := S.gk_num (j := 8) (i := 0) C0 hi0 x0 (.inl rfl) r0 (by rw [← O]; exact Int.not_lt.1 w)
      have F := LEAF 1 (by omega) (by omega) G.1 (G.2.trans O.symm)
      simp only [e0, b0, y, notB_t, notB_f, S.beq00, bc_true, bc_false, true_and, nz, ltI_false.2 (Int.not_lt.1 w), S.bc_self]
      exact F
    have C1 := S.gk_more (j := 8) (i := 0) C0 hi0 x0 r0
    simp only [e0, b0, ltI_false.2 (Int.not_lt.1 x0), notB_t, notB_f, S.beq00, bc_true, bc_false, true_and, nz]
    by_cases hi1 : 1 < n
    rotate_left
    · have e1 : ltI (1 : Int) (n : Int) = false := ltI_false.2 (by omega)
      have g0 : S.gk vs o n = 0 := S.gk_end (j := 7) (i := 1) C1 hi1
      simp only [e1, g0, S.beq00, bc_true, bc_false]
    have e1 : ltI (1 : Int) (n : Int) = true := ltI_true.2 (by omega)
    have b1 : (o + 1 + 1).ble (lenL vs) = true := Nat.ble_eq_true_of_le (by omega)
    have r1 := S.okY_rng hY (i := o + 1) (by omega)
    by_cases x1 : intOf (K.atV vs (o + 1)) < 128
    · have y := ltI_true.2 x1
      have O := S.orE_eq hY (o := o) (k := 2) (by omega) (by omega)
      by_cases z : intOf (K.atV vs (o + 1)) = 0
      · have g0 : S.gk vs o n = 0 := S.gk_zero (j := 7) (i := 1) C1 hi1 x1 (by omega) z
        simp only [e1, b1, y, notB_t, notB_f, S.beq00, bc_true, bc_false, true_and, eqI_true.2 z, g0]
      have zz := eqI_false.2 z
      by_cases w : 4611686018427387904 < S.orE vs o 2
      · have g0 : S.gk vs o n = 0 := S.gk_big (j := 7) (i := 1) C1 hi1 x1 r1 (by rw [← O]; exact w)
        simp only [e1, b1, y, notB_t, notB_f, S.beq00, bc_true, bc_false, true_and, zz, ltI_true.2 w, g0, S.bc_self]
      have G := S.gk_num (j := 7) (i := 1) C1 hi1 x1 (.inr z) r1 (by rw [← O]; exact Int.not_lt.1 w)
      have F := LEAF 2 (by omega) (by omega) G.1 (G.2.trans O.symm)
      simp only [e1, b1, y, notB_t, notB_f, S.beq00, bc_true, bc_false, true_and, zz, ltI_false.2 (Int.not_lt.1 w), S.bc_self]
      exact F
    have C2 := S.gk_more (j := 7) (i := 1) C1 hi1 x1 r1
    simp only [e1, b1, ltI_false.2 (Int.not_lt.1 x1), notB_t, notB_f, S.beq00, bc_true, bc_false, true_and]
    by_cases hi2 : 2 < n
    rotate_left
    · have e2 : ltI (2 : Int) (n : Int) = false := ltI_false.2 (by omega)
      have g0 : S.gk vs o n = 0 := S.gk_end (j := 6) (i := 2) C2 hi2
      simp only [e2, g0, S.beq00, bc_true, bc_false]
    have e2 : ltI (2 : Int) (n : Int) = true := ltI_true.2 (by omega)
    have b2 : (o + 2 + 1).ble (lenL vs) = true := Nat.ble_eq_true_of_le (by omega)
    have r2 := S.okY_rng hY (i := o + 2) (by omega)
    by_cases x2 : intOf (K.atV vs (o + 2)) < 128
    · have y := ltI_true.2 x2
      have O := S.orE_eq hY (o := o) (k := 3) (by omega) (by omega)
      by_cases z : intOf (K.atV vs (o + 2)) = 0
      · have g0 : S.gk vs o n = 0 := S.gk_zero (j := 6) (i := 2) C2 hi2 x2 (by omega) z
        simp only [e2, b2, y, notB_t, notB_f, S.beq00, bc_true, bc_false, true_and, eqI_true.2 z, g0]
      have zz := eqI_false.2 z
      by_cases w : 4611686018427387904 < S.orE vs o 3
      · have g0 : S.gk vs o n = 0 := S.gk_big (j := 6) (i := 2) C2 hi2 x2 r2 (by rw [← O]; exact w)
        simp only [e2, b2, y, notB_t, notB_f, S.beq00, bc_true, bc_false, true_and, zz, ltI_true.2 w, g0, S.bc_self]
      have G := S.gk_num (j := 6) (i := 2) C2 hi2 x2 (.inr z) r2 (by rw [← O]; exact Int.not_lt.1 w)
      have F := LEAF 3 (by omega) (by omega) G.1 (G.2.trans O.symm)
      simp only [e2, b2, y, notB_t, notB_f, S.beq00, bc_true, bc_false, true_and, zz, ltI_false.2 (Int.not_lt.1 w), S.bc_self]
      exact F
    have C3 := S.gk_more (j := 6) (i := 2) C2 hi2 x2 r2
    simp only [e2, b2, ltI_false.2 (Int.not_lt.1 x2), notB_t, notB_f, S.beq00, bc_true, bc_false, true_and]
    by_cases hi3 : 3 < n
    rotate_left
    · have e3 : ltI (3 : Int) (n : Int) = false := ltI_false.2 (by omega)
      have g0 : S.gk vs o n = 0 := S.gk_end (j := 5) (i := 3) C3 hi3
      simp only [e3, g0, S.beq00, bc_true, bc_false]
    have e3 : ltI (3 : Int) (n : Int) = true := ltI_true.2 (by omega)
    have b3 : (o + 3 + 1).ble (lenL vs) = true := Nat.ble_eq_true_of_le (by omega)
    have r3 := S.okY_rng hY (i := o + 3) (by omega)
    by_cases x3 : intOf (K.atV vs (o + 3)) < 128
    · have y := ltI_true.2 x3
      have O := S.orE_eq hY (o := o) (k := 4) (by omega) (by omega)
      by_cases z : intOf (K.atV vs (o + 3)) = 0
      · have g0 : S.gk vs o n = 0 := S.gk_zero (j := 5) (i := 3) C3 hi3 x3 (by omega) z
        simp only [e3, b3, y, notB_t, notB_f, S.beq00, bc_true, bc_false, true_and, eqI_true.2 z, g0]
      have zz := eqI_false.2 z
      by_cases w : 4611686018427387904 < S.orE vs o 4
      · have g0 : S.gk vs o n = 0 := S.gk_big (j := 5) (i := 3) C3 hi3 x3 r3 (by rw [← O]; exact w)
        simp only [e3, b3, y, notB_t, notB_f, S.beq00, bc_true, bc_false, true_and, zz, ltI_true.2 w, g0, S.bc_self]
      have G := S.gk_num (j := 5) (i := 3) C3 hi3 x3 (.inr z) r3 (by rw [← O]; exact Int.not_lt.1 w)
      have F := LEAF 4 (by omega) (by omega) G.1 (G.2.trans O.symm)
      simp only [e3, b3, y, notB_t, notB_f, S.beq00, bc_true, bc_false, true_and, zz, ltI_false.2 (Int.not_lt.1 w), S.bc_self]
      exact F
    have C4 := S.gk_more (j := 5) (i := 3) C3 hi3 x3 r3
    simp only [e3, b3, ltI_false.2 (Int.not_lt.1 x3), notB_t, notB_f, S.beq00, bc_true, bc_false, true_and]
    by_cases hi4 : 4 < n
    rotate_left
    · have e4 : ltI (4 : Int) (n : Int) = false := ltI_false.2 (by omega)
      have g0 : S.gk vs o n = 0 := S.gk_end (j := 4) (i := 4) C4 hi4
      simp only [e4, g0, S.beq00, bc_true, bc_false]
    have e4 : ltI (4 : Int) (n : Int) = true := ltI_true.2 (by omega)
    have b4 : (o + 4 + 1).ble (lenL vs) = true := Nat.ble_eq_true_of_le (by omega)
    have r4 := S.okY_rng hY (i := o + 4) (by omega)
    by_cases x4 : intOf (K.atV vs (o + 4)) < 128
    · have y := ltI_true.2 x4
      have O := S.orE_eq hY (o := o) (k := 5) (by omega) (by omega)
      by_cases z : intOf (K.atV vs (o + 4)) = 0
      · have g0 : S.gk vs o n = 0 := S.gk_zero (j := 4) (i := 4) C4 hi4 x4 (by omega) z
        simp only [e4, b4, y, notB_t, notB_f, S.beq00, bc_true, bc_false, true_and, eqI_true.2 z, g0]
      have zz := eqI_false.2 z
      by_cases w : 4611686018427387904 < S.orE vs o 5
      · have g0 : S.gk vs o n = 0 := S.gk_big (j := 4) (i := 4) C4 hi4 x4 r4 (by rw [← O]; exact w)
        simp only [e4, b4, y, notB_t, notB_f, S.beq00, bc_true, bc_false, true_and, zz, ltI_true.2 w, g0, S.bc_self]
      have G := S.gk_num (j := 4) (i := 4) C4 hi4 x4 (.inr z) r4 (by rw [← O]; exact Int.not_lt.1 w)
      have F := LEAF 5 (by omega) (by omega) G.1 (G.2.trans O.symm)
      simp only [e4, b4, y, notB_t, notB_f, S.beq00, bc_true, bc_false, true_and, zz, ltI_false.2 (Int.not_lt.1 w), S.bc_self]
      exact F
    have C5 := S.gk_more (j := 4) (i := 4) C4 hi4 x4 r4
    simp only [e4, b4, ltI_false.2 (Int.not_lt.1 x4), notB_t, notB_f, S.beq00, bc_true, bc_false, true_and]
    by_cases hi5 : 5 < n
    rotate_left
    · have e5 : ltI (5 : Int) (n : Int) = false := ltI_false.2 (by omega)
      have g0 : S.gk vs o n = 0 := S.gk_end (j := 3) (i := 5) C5 hi5
      simp only [e5, g0, S.beq00, bc_true, bc_false]
    have e5 : ltI (5 : Int) (n : Int) = true := ltI_true.2 (by omega)
    have b5 : (o + 5 + 1).ble (lenL vs) = true := Nat.ble_eq_true_of_le (by omega)
    have r5 := S.okY_rng hY (i := o + 5) (by omega)
    by_cases x5 : intOf (K.atV vs (o + 5)) < 128
    · have y := ltI_true.2 x5
      have O := S.orE_eq hY (o := o) (k := 6) (by omega) (by omega)
      by_cases z : intOf (K.atV vs (o + 5)) = 0
      · have g0 : S.gk vs o n = 0 := S.gk_zero (j := 3) (i := 5) C5 hi5 x5 (by omega) z
        simp only [e5, b5, y, notB_t, notB_f, S.beq00, bc_true, bc_false, true_and, eqI_true.2 z, g0]
      have zz := eqI_false.2 z
      by_cases w : 4611686018427387904 < S.orE vs o 6
      · have g0 : S.gk vs o n = 0 := S.gk_big (j := 3) (i := 5) C5 hi5 x5 r5 (by rw [← O]; exact w)
        simp only [e5, b5, y, notB_t, notB_f, S.beq00, bc_true, bc_false, true_and, zz, ltI_true.2 w, g0, S.bc_self]
      have G := S.gk_num (j := 3) (i := 5) C5 hi5 x5 (.inr z) r5 (by rw [← O]; exact Int.not_lt.1 w)
      have F := LEAF 6 (by omega) (by omega) G.1 (G.2.trans O.symm)
      simp only [e5, b5, y, notB_t, notB_f, S.beq00, bc_true, bc_false, true_and, zz, ltI_false.2 (Int.not_lt.1 w), S.bc_self]
      exact F
    have C6 := S.gk_more (j := 3) (i := 5) C5 hi5 x5 r5
    simp only [e5, b5, ltI_false.2 (Int.not_lt.1 x5), notB_t, notB_f, S.beq00, bc_true, bc_false, true_and]
    by_cases hi6 : 6 < n
    rotate_left
    · have e6 : ltI (6 : Int) (n : Int) = false := ltI_false.2 (by omega)
      have g0 : S.gk vs o n = 0 := S.gk_end (j := 2) (i := 6) C6 hi6
      simp only [e6, g0, S.beq00, bc_true, bc_false]
    have e6 : ltI (6 : Int) (n : Int) = true := ltI_true.2 (by omega)
    have b6 : (o + 6 + 1).ble (lenL vs) = true := Nat.ble_eq_true_of_le (by omega)
    have r6 := S.okY_rng hY (i := o + 6) (by omega)
    by_cases x6 : intOf (K.atV vs (o + 6)) < 128
    · have y := ltI_true.2 x6
      have O := S.orE_eq hY (o := o) (k := 7) (by omega) (by omega)
      by_cases z : intOf (K.atV vs (o + 6)) = 0
      · have g0 : S.gk vs o n = 0 := S.gk_zero (j := 2) (i := 6) C6 hi6 x6 (by omega) z
        simp only [e6, b6, y, notB_t, notB_f, S.beq00, bc_true, bc_false, true_and, eqI_true.2 z, g0]
      have zz := eqI_false.2 z
      by_cases w : 4611686018427387904 < S.orE vs o 7
      · have g0 : S.gk vs o n = 0 := S.gk_big (j := 2) (i := 6) C6 hi6 x6 r6 (by rw [← O]; exact w)
        simp only [e6, b6, y, notB_t, notB_f, S.beq00, bc_true, bc_false, true_and, zz, ltI_true.2 w, g0, S.bc_self]
      have G := S.gk_num (j := 2) (i := 6) C6 hi6 x6 (.inr z) r6 (by rw [← O]; exact Int.not_lt.1 w)
      have F := LEAF 7 (by omega) (by omega) G.1 (G.2.trans O.symm)
      simp only [e6, b6, y, notB_t, notB_f, S.beq00, bc_true, bc_false, true_and, zz, ltI_false.2 (Int.not_lt.1 w), S.bc_self]
      exact F
    have C7 := S.gk_more (j := 2) (i := 6) C6 hi6 x6 r6
    simp only [e6, b6, ltI_false.2 (Int.not_lt.1 x6), notB_t, notB_f, S.beq00, bc_true, bc_false, true_and]
    by_cases hi7 : 7 < n
    rotate_left
    · have e7 : ltI (7 : Int) (n : Int) = false := ltI_false.2 (by omega)
      have g0 : S.gk vs o n = 0 := S.gk_end (j := 1) (i := 7) C7 hi7
      simp only [e7, g0, S.beq00, bc_true, bc_false]
    have e7 : ltI (7 : Int) (n : Int) = true := ltI_true.2 (by omega)
    have b7 : (o + 7 + 1).ble (lenL vs) = true := Nat.ble_eq_true_of_le (by omega)
    have r7 := S.okY_rng hY (i := o + 7) (by omega)
    by_cases x7 : intOf (K.atV vs (o + 7)) < 128
    · have y := ltI_true.2 x7
      have O := S.orE_eq hY (o := o) (k := 8) (by omega) (by omega)
      by_cases z : intOf (K.atV vs (o + 7)) = 0
      · have g0 : S.gk vs o n = 0 := S.gk_zero (j := 1) (i := 7) C7 hi7 x7 (by omega) z
        simp only [e7, b7, y, notB_t, notB_f, S.beq00, bc_true, bc_false, true_and, eqI_true.2 z, g0]
      have zz := eqI_false.2 z
      by_cases w : 4611686018427387904 < S.orE vs o 8
      · have g0 : S.gk vs o n = 0 := S.gk_big (j := 1) (i := 7) C7 hi7 x7 r7 (by rw [← O]; exact w)
        simp only [e7, b7, y, notB_t, notB_f, S.beq00, bc_true, bc_false, true_and, zz, ltI_true.2 w, g0, S.bc_self]
      have G := S.gk_num (j := 1) (i := 7) C7 hi7 x7 (.inr z) r7 (by rw [← O]; exact Int.not_lt.1 w)
      have F := LEAF 8 (by omega) (by omega) G.1 (G.2.trans O.symm)
      simp only [e7, b7, y, notB_t, notB_f, S.beq00, bc_true, bc_false, true_and, zz, ltI_false.2 (Int.not_lt.1 w), S.bc_self]
      exact F
    have C8 := S.gk_more (j := 1) (i := 7) C7 hi7 x7 r7
    simp only [e7, b7, ltI_false.2 (Int.not_lt.1 x7), notB_t, notB_f, S.beq00, bc_true, bc_false, true_and]
    by_cases hi8 : 8 < n
    rotate_left
    · have e8 : ltI (8 : Int) (n : Int) = false := ltI_false.2 (by omega)
      have g0 : S.gk vs o n = 0 := S.gk_end (j := 0) (i := 8) C8 hi8
      simp only [e8, g0, S.beq00, bc_true, bc_false]
    have e8 : ltI (8 : Int) (n : Int) = true := ltI_true.2 (by omega)
    have b8 : (o + 8 + 1).ble (lenL vs) = true := Nat.ble_eq_true_of_le (by omega)
    have r8 := S.okY_rng hY (i := o + 8) (by omega)
    by_cases x8 : intOf (K.atV vs (o + 8)) < 128
    · have y := ltI_true.2 x8
      have O := S.orE_eq hY (o := o) (k := 9) (by omega) (by omega)
      by_cases z : intOf (K.atV vs (o + 8)) = 0
      · have g0 : S.gk vs o n = 0 := S.gk_zero (j := 0) (i := 8) C8 hi8 x8 (by omega) z
        simp only [e8, b8, y, notB_t, notB_f, S.beq00, bc_true, bc_false, true_and, eqI_true.2 z, g0]
      have zz := eqI_false.2 z
      by_cases w : 4611686018427387904 < S.orE vs o 9
      · have g0 : S.gk vs o n = 0 := S.gk_big (j := 0) (i := 8) C8 hi8 x8 r8 (by rw [← O]; exact w)
        simp only [e8, b8, y, notB_t, notB_f, S.beq00, bc_true, bc_false, true_and, zz, ltI_true.2 w, g0, S.bc_self]
      have G := S.gk_num (j := 0) (i := 8) C8 hi8 x8 (.inr z) r8 (by rw [← O]; exact Int.not_lt.1 w)
      have F := LEAF 9 (by omega) (by omega) G.1 (G.2.trans O.symm)
      simp only [e8, b8, y, notB_t, notB_f, S.beq00, bc_true, bc_false, true_and, zz, ltI_false.2 (Int.not_lt.1 w), S.bc_self]
      exact F
    have g0 : S.gk vs o n = 0 := S.gk_long C8 hi8 x8
    simp only [e8, b8, ltI_false.2 (Int.not_lt.1 x8), notB_t, notB_f, S.beq00, bc_true, bc_false, true_and, g0])
  obtain ⟨q1, q2⟩ := K.RunL2.one hr
  cases hb : Nat.beq (S.gk vs o n) 0
  · exact K.loop_of_run good (envK_ok (fun p hp => by cases hp)) K.openE_ok (q2 hb)
  · exact K.loop_of_run good (envK_ok (fun p hp => by cases hp)) K.openE_ok (q1 hb)
/-- What is left to be shown where a number of k bytes was read. -/
def nqQP_leaf (et o n c : Nat) (vs : List LV) (left : Int) (k : Nat) : Prop :=
  (bc (Nat.ble n n) (bc (Nat.ble k n) (bc (Nat.ble n c) (bc (S.an (S.lpok (10 : FuncId) (74 : Nat) S.T0 [(48 : Tmp), (49 : Tmp)] S.code0 S.code1) (S.an (S.tyok (6 : Nat) (3 : TypeId) (23 : TypeId) (22 : TypeId) (3 : Nat)) (S.an (S.okB vs (@bc Nat (Nat.beq c k) o (o + k)) (n - k) (c - k) (1 : Nat) [LV.int IntKind.i64 (S.orE vs o k)] ↑(n - k)) (notB (Nat.beq (S.lf vs (n - k) (@bc Nat (Nat.beq c k) o (o + k)) (n - k)) (0 : Nat)))))) (K.LOk Try.prog 20 57 (inner (inner (blkOf 20 0))) [(0 : Nat), (1 : Nat)] [LV.func (Fn.yield (0 : Nat)) [] [], LV.ptr (2 : Nat) (0 : Nat)] [LObj.loop LoopState.ready none (10 : FuncId) (74 : Nat) S.T0 [(48 : Tmp), (49 : Tmp)] S.code0 S.code1 (6 : Nat), LObj.cells (3 : TypeId) Own.exact [LV.int IntKind.i64 ↑(n - k)], LObj.cells (23 : TypeId) Own.exact [LV.slice (3 : Nat) (@bc Nat (Nat.beq c k) o (o + k)) (n - k) (Cap.known (c - k))], LObj.flat [CK.i IntKind.u8] et Own.ro vs, LObj.cells (22 : TypeId) Own.exact [LV.slice (5 : Nat) (0 : Nat) (1 : Nat) (Cap.rest (0 : Nat))], LObj.flat [CK.i IntKind.i64] (3 : Nat) (Own.grow (1 : Nat)) [LV.int IntKind.i64 (S.orE vs o k)], LObj.defers false] { x := LX.ret, L := [], ch := [((0 : Nat), LObj.loop LoopState.ready none (10 : FuncId) (74 : Nat) S.T0 [(48 : Tmp), (49 : Tmp)] S.code0 S.code1 (6 : Nat)), ((1 : Nat), LObj.cells (3 : TypeId) Own.exact [LV.int IntKind.i64 ↑(S.lf vs (n - k) (@bc Nat (Nat.beq c k) o (o + k)) (n - k))]), ((2 : Nat), LObj.dead), ((4 : Nat), LObj.cells (22 : TypeId) Own.exact [LV.slice (7 : Nat) (0 : Nat) ((1 : Nat) + S.nll vs (n - k) (@bc Nat (Nat.beq c k) o (o + k)) (n - k)) (Cap.rest (0 : Nat))]), ((5 : Nat), LObj.dead)], new := [LObj.flat [CK.i IntKind.i64] (3 : TypeId) (Own.grow (1 : Nat)) (app [LV.int IntKind.i64 (S.orE vs o k)] (S.nl vs (n - k) (@bc Nat (Nat.beq c k) o (o + k)) (n - k)))] } ∧ bc (Nat.beq (S.gk vs o n) (0 : Nat)) False (LoopState.ready = LoopState.ready ∧ ((none : Option Code) = none ∧ ([(48 : Tmp), (49 : Tmp)] = [(48 : Tmp), (49 : Tmp)] ∧ (S.code0 = S.code0 ∧ (S.code1 = S.code1 ∧ ((0 : Nat) = (0 : Nat) ∧ ((0 : Nat) = (0 : Nat) ∧ ((0 : Nat) = (0 : Nat) ∧ ((↑(S.lf vs n o n) : Int) = ↑(S.lf vs (n - k) (@bc Nat (Nat.beq c k) o (o + k)) (n - k)) ∧ ((0 : Nat) = (0 : Nat) ∧ (S.nll vs n o n = (1 : Nat) + S.nll vs (n - k) (@bc Nat (Nat.beq c k) o (o + k)) (n - k) ∧ (Cap.rest (0 : Nat) = Cap.rest (0 : Nat) ∧ (S.nl vs n o n = app [LV.int IntKind.i64 (S.orE vs o k)] (S.nl vs (n - k) (@bc Nat (Nat.beq c k) o (o + k)) (n - k)) ∧ True)))))))))))))) False) False) False) False)
theorem nqQP_run (et o n c : Nat) (vs : List LV) (left : Int) : K.RunL2 (envK [] (fun g id => none) (fun g i => bc (Nat.beq g 10) (hasN [6, 7] i) (true))) K.openE 30 20 57 (inner (inner (blkOf 20 0))) nqPB [(0, .func (.yield 0) [] []), (1, .ptr 2 0)] [.loop .ready none 10 74 S.T0 [48, 49] S.code0 S.code1 5, .cells 3 .exact [.int .i64 left], .cells 23 .exact [.slice 3 o n (.known c)], .flat [.i .u8] et .ro vs, .cells 22 .exact [.nils], .defers false] (.skip 1 (.fork (.skip 1 (.take true (.skip 5 (.fork (.skip 6 (.take true (.skip 0 (.fork (.skip 5 (.fork (.skip 6 (.take true (.skip 0 (.fork (.skip 5 (.fork (.skip 6 (.take true (.skip 0 (.fork (.skip 5 (.fork (.skip 6 (.take true (.skip 0 (.fork (.skip 5 (.fork (.skip 6 (.take true (.skip 0 (.fork (.skip 5 (.fork (.skip 6 (.take true (.skip 0 (.fork (.skip 5 (.fork (.skip 6 (.take true (.skip 0 (.fork (.skip 5 (.fork (.skip 6 (.take true (.skip 0 (.fork (.skip 5 (.fork .auto (.skip 6 (.take false .auto)))) .auto)))) (.skip 6 (.take false .auto)))) .auto)))) (.skip 6 (.take false .auto)))) .auto)))) (.skip 6 (.take false .auto)))) .auto)))) (.skip 6 (.take false .auto)))) .auto)))) (.skip 6 (.take false .auto)))) .auto)))) (.skip 6 (.take false .auto)))) .auto)))) (.skip 6 (.take false .auto)))) .auto)))) (.skip 6 (.take false .auto)))))) .auto)) (Nat.beq (S.gk vs o n) 0) ⟨.ret, [], [], []⟩ ⟨.ret, [], [(0, .loop .ready none 10 74 S.T0 [48, 49] S.code0 S.code1 5), (1, .cells 3 .exact [.int .i64 (S.lf vs n o n)]), (2, .dead), (4, .cells 22 .exact [.slice 6 0 (S.nll vs n o n) (.rest 0)])], [.flat [.i .i64] 3 (.grow 1) (S.nl vs n o n)]⟩ =
    (bc (ltI (0 : Int) ↑n) (ltI (0 : Int) ↑n = true ∧ bc (ltI (0 : Int) ↑n) (bc (Nat.ble (o + (0 : Nat) + (1 : Nat)) (lenL vs)) (bc (notB (ltI (intOf (K.atV vs (o + (0 : Nat)))) (128 : Int))) (notB (ltI (intOf (K.atV vs (o + (0 : Nat)))) (128 : Int)) = true ∧ bc (ltI ((1 : Int)) ↑n) (bc (ltI ((1 : Int)) ↑n) (bc (Nat.ble (o + (1 : Nat) + (1 : Nat)) (lenL vs)) (bc (notB (ltI (intOf (K.atV vs (o + (1 : Nat)))) (128 : Int))) (notB (ltI (intOf (K.atV vs (o + (1 : Nat)))) (128 : Int)) = true ∧ bc (ltI ((2 : Int)) ↑n) (bc (ltI ((2 : Int)) ↑n) (bc (Nat.ble (o + (2 : Nat) + (1 : Nat)) (lenL vs)) (bc (notB (ltI (intOf (K.atV vs (o + (2 : Nat)))) (128 : Int))) (notB (ltI (intOf (K.atV vs (o + (2 : Nat)))) (128 : Int)) = true ∧ bc (ltI ((3 : Int)) ↑n) (bc (ltI ((3 : Int)) ↑n) (bc (Nat.ble (o + (3 : Nat) + (1 : Nat)) (lenL vs)) (bc (notB (ltI (intOf (K.atV vs (o + (3 : Nat)))) (128 : Int))) (notB (ltI (intOf (K.atV vs (o + (3 : Nat)))) (128 : Int)) = true ∧ bc (ltI ((4 : Int)) ↑n) (bc (ltI ((4 : Int)) ↑n) (bc (Nat.ble (o + (4 : Nat) + (1 : Nat)) (lenL vs)) (bc (notB (ltI (intOf (K.atV vs (o + (4 : Nat)))) (128 : Int))) (notB (ltI (intOf (K.atV vs (o + (4 : Nat)))) (128 : Int)) = true ∧ bc (ltI ((5 : Int)) ↑n) (bc (ltI ((5 : Int)) ↑n) (bc (Nat.ble (o + (5 : Nat) + (1 : Nat)) (lenL vs)) (bc (notB (ltI (intOf (K.atV vs (o + (5 : Nat)))) (128 : Int))) (notB (ltI (intOf (K.atV vs (o + (5 : Nat)))) (128 : Int)) = true ∧ bc (ltI ((6 : Int)) ↑n) (bc (ltI ((6 : Int)) ↑n) (bc (Nat.ble (o + (6 : Nat) + (1 : Nat)) (lenL vs)) (bc (notB (ltI (intOf (K.atV vs (o + (6 : Nat)))) (128 : Int))) (notB (ltI (intOf (K.atV vs (o + (6 : Nat)))) (128 : Int)) = true ∧ bc (ltI ((7 : Int)) ↑n) (bc (ltI ((7 : Int)) ↑n) (bc (Nat.ble (o + (7 : Nat) + (1 : Nat)) (lenL vs)) (bc (notB (ltI (intOf (K.atV vs (o + (7 : Nat)))) (128 : Int))) (notB (ltI (intOf (K.atV vs (o + (7 : Nat)))) (128 : Int)) = true ∧ bc (ltI ((8 : Int)) ↑n) (bc (ltI ((8 : Int)) ↑n) (bc (Nat.ble (o + (8 : Nat) + (1 : Nat)) (lenL vs)) (bc (notB (ltI (intOf (K.atV vs (o + (8 : Nat)))) (128 : Int))) (bc (Nat.beq (S.gk vs o n) (0 : Nat)) True False) (notB (ltI (intOf (K.atV vs (o + (8 : Nat)))) (128 : Int)) = false ∧ bc (eqI (intOf (K.atV vs (o + (8 : Nat)))) (0 : Int)) (bc (Nat.beq (S.gk vs o n) (0 : Nat)) True False) (bc (ltI (4611686018427387904 : Int) (S.orE vs o 9)) (bc (Nat.beq (S.gk vs o n) (0 : Nat)) True False) (nqQP_leaf et o n c vs left 9)))) False) False) (bc (Nat.beq (S.gk vs o n) (0 : Nat)) True False)) (notB (ltI (intOf (K.atV vs (o + (7 : Nat)))) (128 : Int)) = false ∧ bc (eqI (intOf (K.atV vs (o + (7 : Nat)))) (0 : Int)) (bc (Nat.beq (S.gk vs o n) (0 : Nat)) True False) (bc (ltI (4611686018427387904 : Int) (S.orE vs o 8)) (bc (Nat.beq (S.gk vs o n) (0 : Nat)) True False) (nqQP_leaf et o n c vs left 8)))) False) False) (bc (Nat.beq (S.gk vs o n) (0 : Nat)) True False)) (notB (ltI (intOf (K.atV vs (o + (6 : Nat)))) (128 : Int)) = false ∧ bc (eqI (intOf (K.atV vs (o + (6 : Nat)))) (0 : Int)) (bc (Nat.beq (S.gk vs o n) (0 : Nat)) True False) (bc (ltI (4611686018427387904 : Int) (S.orE vs o 7)) (bc (Nat.beq (S.gk vs o n) (0 : Nat)) True False) (nqQP_leaf et o n c vs left 7)))) False) False) (bc (Nat.beq (S.gk vs o n) (0 : Nat)) True False)) (notB (ltI (intOf (K.atV vs (o + (5 : Nat)))) (128 : Int)) = false ∧ bc (eqI (intOf (K.atV vs (o + (5 : Nat)))) (0 : Int)) (bc (Nat.beq (S.gk vs o n) (0 : Nat)) True False) (bc (ltI (4611686018427387904 : Int) (S.orE vs o 6)) (bc (Nat.beq (S.gk vs o n) (0 : Nat)) True False) (nqQP_leaf et o n c vs left 6)))) False) False) (bc (Nat.beq (S.gk vs o n) (0 : Nat)) True False)) (notB (ltI (intOf (K.atV vs (o + (4 : Nat)))) (128 : Int)) = false ∧ bc (eqI (intOf (K.atV vs (o + (4 : Nat)))) (0 : Int)) (bc (Nat.beq (S.gk vs o n) (0 : Nat)) True False) (bc (ltI (4611686018427387904 : Int) (S.orE vs o 5)) (bc (Nat.beq (S.gk vs o n) (0 : Nat)) True False) (nqQP_leaf et o n c vs left 5)))) False) False) (bc (Nat.beq (S.gk vs o n) (0 : Nat)) True False)) (notB (ltI (intOf (K.atV vs (o + (3 : Nat)))) (128 : Int)) = false ∧ bc (eqI (intOf (K.atV vs (o + (3 : Nat)))) (0 : Int)) (bc (Nat.beq (S.gk vs o n) (0 : Nat)) True False) (bc (ltI (4611686018427387904 : Int) (S.orE vs o 4)) (bc (Nat.beq (S.gk vs o n) (0 : Nat)) True False) (nqQP_leaf et o n c vs left 4)))) False) False) (bc (Nat.beq (S.gk vs o n) (0 : Nat)) True False)) (notB (ltI (intOf (K.atV vs (o + (2 : Nat)))) (128 : Int)) = false ∧ bc (eqI (intOf (K.atV vs (o + (2 : Nat)))) (0 : Int)) (bc (Nat.beq (S.gk vs o n) (0 : Nat)) True False) (bc (ltI (4611686018427387904 : Int) (S.orE vs o 3)) (bc (Nat.beq (S.gk vs o n) (0 : Nat)) True False) (nqQP_leaf et o n c vs left 3)))) False) False) (bc (Nat.beq (S.gk vs o n) (0 : Nat)) True False)) (notB (ltI (intOf (K.atV vs (o + (1 : Nat)))) (128 : Int)) = false ∧ bc (eqI (intOf (K.atV vs (o + (1 : Nat)))) (0 : Int)) (bc (Nat.beq (S.gk vs o n) (0 : Nat)) True False) (bc (ltI (4611686018427387904 : Int) (S.orE vs o 2)) (bc (Nat.beq (S.gk vs o n) (0 : Nat)) True False) (nqQP_leaf et o n c vs left 2)))) False) False) (bc (Nat.beq (S.gk vs o n) (0 : Nat)) True False)) (notB (ltI (intOf (K.atV vs (o + (0 : Nat)))) (128 : Int)) = false ∧ bc (eqI (intOf (K.atV vs (o + (0 : Nat)))) (0 : Int)) (bc (ltI (4611686018427387904 : Int) (S.orE vs o 1)) (bc (Nat.beq (S.gk vs o n) (0 : Nat)) True False) (nqQP_leaf et o n c vs left 1)) (bc (ltI (4611686018427387904 : Int) (S.orE vs o 1)) (bc (Nat.beq (S.gk vs o n) (0 : Nat)) True False) (nqQP_leaf et o n c vs left 1)))) False) False) (bc (Nat.beq (S.gk vs o n) (0 : Nat)) False False)) := by kernel_rfl
theorem nqQP_leaf_ok (et o n c : Nat) (vs : List LV) (left : Int) (k : Nat) (hA : S.okA vs o n c = true) (hB : n ≤ 1000000) (hF : S.lf vs n o n ≠ 0) (hk : 1 ≤ k) (hkn : k ≤ n) (G1 : S.gk vs o n = k) (G2 : S.gv vs o n = S.orE vs o k) (IH : ∀ (o2 n2 c2 m2 : Nat) (ns2 : List LV) (left2 : Int), n2 < n → S.okA vs o2 n2 c2 = true → (lenL ns2 = m2 ∧ m2 + n2 ≤ 1000000 ∧ left2 = n2) → S.lf vs n2 o2 n2 ≠ 0 → nqP_T et o2 n2 c2 m2 vs ns2 left2) : nqQP_leaf et o n c vs left k := by
  obtain ⟨hY, h1, h2, h3⟩ := S.okA_iff.1 hA
  obtain ⟨E1, E2⟩ := S.go G1 hk
  rw [G2] at E2
  have hA2 : S.okA vs (o + k) (n - k) (c - k) = true := S.okA_iff.2 ⟨hY, by omega, by omega, h3⟩
  have hl1 : S.nll vs n o n = 1 + S.nll vs (n - k) (o + k) (n - k) := by unfold S.nll; rw [E2, K.lenL_eq, List.length_cons, ← K.lenL_eq]; omega
  have hF2 : S.lf vs (n - k) (o + k) (n - k) ≠ 0 := by rw [← E1]; exact hF
  have hB2 : lenL ([.int .i64 (S.orE vs o k)] : List LV) = 1 ∧ 1 + (n - k) ≤ 1000000 ∧ ((n - k : Nat) : Int) = (n - k : Nat) := ⟨by rfl, by omega, rfl⟩
  have ih := IH (o + k) (n - k) (c - k) 1 ([.int .i64 (S.orE vs o k)] : List LV) (n - k : Nat) (by omega) hA2 hB2 hF2
  have okb := S.okB_iff.2 ⟨hA2, hB2⟩
  have bk : Nat.beq c k = false := S.beqN_no.2 (by omega)
  have b1 := S.bleN_iff.2 (Nat.le_refl n)
  have b2 := S.bleN_iff.2 hkn
  have b3 : Nat.ble n c = true := S.bleN_iff.2 (by omega)
  have ty : S.tyok 6 3 23 22 3 = true := rfl
  have at2 : S.an true true = true := rfl
  have lz : Nat.beq (S.lf vs (n - k) (o + k) (n - k)) 0 = false := S.beqN_no.2 hF2
  unfold nqQP_leaf
  simp only [b1, b2, b3, bk, bc_true, bc_false, S.lpok_ok, ty, okb, lz, at2, notB_t, notB_f]
  refine ⟨ih, ?_⟩
  clear ih
  have nz : Nat.beq (S.gk vs o n) 0 = false := S.beq_no (by omega)
  rw [nz, bc_false, E1, hl1, E2]
  simp only [S.app_app, S.app_cons, S.app_nil, Nat.add_assoc, and_true]
theorem nqQP_con (et o n c : Nat) (vs : List LV) (left : Int) (hA : S.okA vs o n c = true) (hB : n ≤ 1000000) (hF : S.lf vs n o n ≠ 0) (IH : ∀ (o2 n2 c2 m2 : Nat) (ns2 : List LV) (left2 : Int), n2 < n → S.okA vs o2 n2 c2 = true → (lenL ns2 = m2 ∧ m2 + n2 ≤ 1000000 ∧ left2 = n2) → S.lf vs n2 o2 n2 ≠ 0 → nqP_T et o2 n2 c2 m2 vs ns2 left2) : GT Try.prog (fun k => .code (inner (inner (blkOf 20 0))) :: .inLoop (inner (inner (blkOf 20 0))) :: k) (Fr.ofL 20 57 [(0, .func (.yield 0) [] []), (1, .ptr 2 0)] [] none) (Heap.of [.loop .ready none 10 74 S.T0 [48, 49] S.code0 S.code1 5, .cells 3 .exact [.int .i64 left], .cells 23 .exact [.slice 3 o n (.known c)], .flat [.i .u8] et .ro vs, .cells 22 .exact [.nils], .defers false]) ((bc (Nat.beq (S.gk vs o n) 0) ⟨.ret, [], [], []⟩ ⟨.ret, [], [(0, .loop .ready none 10 74 S.T0 [48, 49] S.code0 S.code1 5), (1, .cells 3 .exact [.int .i64 (S.lf vs n o n)]), (2, .dead), (4, .cells 22 .exact [.slice 6 0 (S.nll vs n o n) (.rest 0)])], [.flat [.i .i64] 3 (.grow 1) (S.nl vs n o n)]⟩) : K.BRes).x (Fr.ofL 20 57 ((bc (Nat.beq (S.gk vs o n) 0) ⟨.ret, [], [], []⟩ ⟨.ret, [], [(0, .loop .ready none 10 74 S.T0 [48, 49] S.code0 S.code1 5), (1, .cells 3 .exact [.int .i64 (S.lf vs n o n)]), (2, .dead), (4, .cells 22 .exact [.slice 6 0 (S.nll vs n o n) (.rest 0)])], [.flat [.i .i64] 3 (.grow 1) (S.nl vs n o n)]⟩) : K.BRes).L [] none) (Heap.of (K.chg [.loop .ready none 10 74 S.T0 [48, 49] S.code0 S.code1 5, .cells 3 .exact [.int .i64 left], .cells 23 .exact [.slice 3 o n (.known c)], .flat [.i .u8] et .ro vs, .cells 22 .exact [.nils], .defers false] ((bc (Nat.beq (S.gk vs o n) 0) ⟨.ret, [], [], []⟩ ⟨.ret, [], [(0, .loop .ready none 10 74 S.T0 [48, 49] S.code0 S.code1 5), (1, .cells 3 .exact [.int .i64 (S.lf vs n o n)]), (2, .dead), (4, .cells 22 .exact [.slice 6 0 (S.nll vs n o n) (.rest 0)])], [.flat [.i .i64] 3 (.grow 1) (S.nl vs n o n)]⟩) : K.BRes).ch ++ ((bc (Nat.beq (S.gk vs o n) 0) ⟨.ret, [], [], []⟩ ⟨.ret, [], [(0, .loop .ready none 10 74 S.T0 [48, 49] S.code0 S.code1 5), (1, .cells 3 .exact [.int .i64 (S.lf vs n o n)]), (2, .dead), (4, .cells 22 .exact [.slice 6 0 (S.nll vs n o n) (.rest 0)])], [.flat [.i .i64] 3 (.grow 1) (S.nl vs n o n)]⟩) : K.BRes).new)) := by
  have hr := cast (nqQP_run et o n c vs left).symm (by
    obtain ⟨hY, h1, h2, h3⟩ := S.okA_iff.1 hA
    have C0 : S.gt vs o n 9 0 0 = S.gt vs o n 9 0 (S.acS vs o 0) := rfl
    have LEAF := fun k (hk : 1 ≤ k) (hkn : k ≤ n) (G1 : S.gk vs o n = k) (G2 : S.gv vs o n = S.orE vs o k) => nqQP_leaf_ok et o n c vs left k hA hB hF hk hkn G1 G2 IH
    by_cases hi0 : 0 < n
    rotate_left
    · have n0 : n = 0 := by omega
      subst n0
      have e0 : ltI (0 : Int) ((0 : Nat) : Int) = false := rfl
      exact absurd rfl hF
    have e0 : ltI (0 : Int) (n : Int) = true := ltI_true.2 (by omega)
    have b0 : (o + 0 + 1).ble (lenL vs) = true := Nat.ble_eq_true_of_le (by omega)
    have r0 := S.okY_rng hY (i := o + 0) (by omega)
    have hn1 : 1 ≤ n := by omega
    have nz : Nat.beq n 0 = false := S.beq_no hn1
    by_cases x0 : intOf (K.atV vs (o + 0)) < 128
    · have y := ltI_true.2 x0
      have O := S.orE_eq hY (o := o) (k := 1) (by omega) (by omega)
      by_cases w : 4611686018427387904 < S.orE vs o 1
      · have g0 : S.gk vs o n = 0 := S.gk_big (j := 8) (i := 0) C0 hi0 x0 r0 (by rw [← O]; exact w)
        simp only [e0, b0, y, notB_t, notB_f, S.beq00, bc_true, bc_false, true_and, nz, ltI_true.2 w, g0, S.bc_self]
      have G := S.gk_num (j := 8) (i := 0) C0 hi0 x0 (.inl rfl) r0 (by rw [← O]; exact Int.not_lt.1 w)
      have F := LEAF 1 (by omega) (by omega) G.1 (G.2.trans O.symm)
      simp only [e0, b0, y, notB_t, notB_f, S.beq00, bc_true, bc_false, true_and, nz, ltI_false.2 (Int.not_lt.1 w), S.bc_self]
      exact F
    have C1 := S.gk_more (j := 8) (i := 0) C0 hi0 x0 r0
    simp only [e0, b0, ltI_false.2 (Int.not_lt.1 x0), notB_t, notB_f, S.beq00, bc_true, bc_false, true_and, nz]
    by_cases hi1 : 1 < n
    rotate_left
    · have e1 : ltI (1 : Int) (n : Int) = false := ltI_false.2 (by omega)
      have g0 : S.gk vs o n = 0 := S.gk_end (j := 7) (i := 1) C1 hi1
      simp only [e1, g0, S.beq00, bc_true, bc_false]
    have e1 : ltI (1 : Int) (n : Int) = true := ltI_true.2 (by omega)
    have b1 : (o + 1 + 1).ble (lenL vs) = true := Nat.ble_eq_true_of_le (by omega)
    have r1 := S.okY_rng hY (i := o + 1) (by omega)
    by_cases x1 : intOf (K.atV vs (o + 1)) < 128
    · have y := ltI_true.2 x1
      have O := S.orE_eq hY (o := o) (k := 2) (by omega) (by omega)
      by_cases z : intOf (K.atV vs (o + 1)) = 0
      · have g0 : S.gk vs o n = 0 := S.gk_zero (j := 7) (i := 1) C1 hi1 x1 (by omega) z
        simp only [e1, b1, y, notB_t, notB_f, S.beq00, bc_true, bc_false, true_and, eqI_true.2 z, g0]
      have zz := eqI_false.2 z
      by_cases w : 4611686018427387904 < S.orE vs o 2
      · have g0 : S.gk vs o n = 0 := S.gk_big (j := 7) (i := 1) C1 hi1 x1 r1 (by rw [← O]; exact w)
        simp only [e1, b1, y, notB_t, notB_f, S.beq00, bc_true, bc_false, true_and, zz, ltI_true.2 w, g0, S.bc_self]
      have G := S.gk_num (j := 7) (i := 1) C1 hi1 x1 (.inr z) r1 (by rw [← O]; exact Int.not_lt.1 w)
      have F := LEAF 2 (by omega) (by omega) G.1 (G.2.trans O.symm)
      simp only [e1, b1, y, notB_t, notB_f, S.beq00, bc_true, bc_false, true_and, zz, ltI_false.2 (Int.not_lt.1 w), S.bc_self]
      exact F
    have C2 := S.gk_more (j := 7) (i := 1) C1 hi1 x1 r1
    simp only [e1, b1, ltI_false.2 (Int.not_lt.1 x1), notB_t, notB_f, S.beq00, bc_true, bc_false, true_and]
    by_cases hi2 : 2 < n
    rotate_left
    · have e2 : ltI (2 : Int) (n : Int) = false := ltI_false.2 (by omega)
      have g0 : S.gk vs o n = 0 := S.gk_end (j := 6) (i := 2) C2 hi2
      simp only [e2, g0, S.beq00, bc_true, bc_false]
    have e2 : ltI (2 : Int) (n : Int) = true := ltI_true.2 (by omega)
    have b2 : (o + 2 + 1).ble (lenL vs) = true := Nat.ble_eq_true_of_le (by omega)
    have r2 := S.okY_rng hY (i := o + 2) (by omega)
    by_cases x2 : intOf (K.atV vs (o + 2)) < 128
    · have y := ltI_true.2 x2
      have O := S.orE_eq hY (o := o) (k := 3) (by omega) (by omega)
      by_cases z : intOf (K.atV vs (o + 2)) = 0
      · have g0 : S.gk vs o n = 0 := S.gk_zero (j := 6) (i := 2) C2 hi2 x2 (by omega) z
        simp only [e2, b2, y, notB_t, notB_f, S.beq00, bc_true, bc_false, true_and, eqI_true.2 z, g0]
      have zz := eqI_false.2 z
      by_cases w : 4611686018427387904 < S.orE vs o 3
      · have g0 : S.gk vs o n = 0 := S.gk_big (j := 6) (i := 2) C2 hi2 x2 r2 (by rw [← O]; exact w)
        simp only [e2, b2, y, notB_t, notB_f, S.beq00, bc_true, bc_false, true_and, zz, ltI_true.2 w, g0, S.bc_self]
      have G := S.gk_num (j := 6) (i := 2) C2 hi2 x2 (.inr z) r2 (by rw [← O]; exact Int.not_lt.1 w)
      have F := LEAF 3 (by omega) (by omega) G.1 (G.2.trans O.symm)
      simp only [e2, b2, y, notB_t, notB_f, S.beq00, bc_true, bc_false, true_and, zz, ltI_false.2 (Int.not_lt.1 w), S.bc_self]
      exact F
    have C3 := S.gk_more (j := 6) (i := 2) C2 hi2 x2 r2
    simp only [e2, b2, ltI_false.2 (Int.not_lt.1 x2), notB_t, notB_f, S.beq00, bc_true, bc_false, true_and]
    by_cases hi3 : 3 < n
    rotate_left
    · have e3 : ltI (3 : Int) (n : Int) = false := ltI_false.2 (by omega)
      have g0 : S.gk vs o n = 0 := S.gk_end (j := 5) (i := 3) C3 hi3
      simp only [e3, g0, S.beq00, bc_true, bc_false]
    have e3 : ltI (3 : Int) (n : Int) = true := ltI_true.2 (by omega)
    have b3 : (o + 3 + 1).ble (lenL vs) = true := Nat.ble_eq_true_of_le (by omega)
    have r3 := S.okY_rng hY (i := o + 3) (by omega)
    by_cases x3 : intOf (K.atV vs (o + 3)) < 128
    · have y := ltI_true.2 x3
      have O := S.orE_eq hY (o := o) (k := 4) (by omega) (by omega)
      by_cases z : intOf (K.atV vs (o + 3)) = 0
      · have g0 : S.gk vs o n = 0 := S.gk_zero (j := 5) (i := 3) C3 hi3 x3 (by omega) z
        simp only [e3, b3, y, notB_t, notB_f, S.beq00, bc_true, bc_false, true_and, eqI_true.2 z, g0]
      have zz := eqI_false.2 z
      by_cases w : 4611686018427387904 < S.orE vs o 4
      · have g0 : S.gk vs o n = 0 := S.gk_big (j := 5) (i := 3) C3 hi3 x3 r3 (by rw [← O]; exact w)
        simp only [e3, b3, y, notB_t, notB_f, S.beq00, bc_true, bc_false, true_and, zz, ltI_true.2 w, g0, S.bc_self]
      have G := S.gk_num (j := 5) (i := 3) C3 hi3 x3 (.inr z) r3 (by rw [← O]; exact Int.not_lt.1 w)
      have F := LEAF 4 (by omega) (by omega) G.1 (G.2.trans O.symm)
      simp only [e3, b3, y, notB_t, notB_f, S.beq00, bc_true, bc_false, true_and, zz, ltI_false.2 (Int.not_lt.1 w), S.bc_self]
      exact F
    have C4 := S.gk_more (j := 5) (i := 3) C3 hi3 x3 r3
    simp only [e3, b3, ltI_false.2 (Int.not_lt.1 x3), notB_t, notB_f, S.beq00, bc_true, bc_false, true_and]
    by_cases hi4 : 4 < n
    rotate_left
    · have e4 : ltI (4 : Int) (n : Int) = false := ltI_false.2 (by omega)
      have g0 : S.gk vs o n = 0 := S.gk_end (j := 4) (i := 4) C4 hi4
      simp only [e4, g0, S.beq00, bc_true, bc_false]
    have e4 : ltI (4 : Int) (n : Int) = true := ltI_true.2 (by omega)
    have b4 : (o + 4 + 1).ble (lenL vs) = true := Nat.ble_eq_true_of_le (by omega)
    have r4 := S.okY_rng hY (i := o + 4) (by omega)
    by_cases x4 : intOf (K.atV vs (o + 4)) < 128
    · have y := ltI_true.2 x4
      have O := S.orE_eq hY (o := o) (k := 5) (by omega) (by omega)
      by_cases z : intOf (K.atV vs (o + 4)) = 0
      · have g0 : S.gk vs o n = 0 := S.gk_zero (j := 4) (i := 4) C4 hi4 x4 (by omega) z
        simp only [e4, b4, y, notB_t, notB_f, S.beq00, bc_true, bc_false, true_and, eqI_true.2 z, g0]
      have zz := eqI_false.2 z
      by_cases w : 4611686018427387904 < S.orE vs o 5
      · have g0 : S.gk vs o n = 0 := S.gk_big (j := 4) (i := 4) C4 hi4 x4 r4 (by rw [← O]; exact w)
        simp only [e4, b4, y, notB_t, notB_f, S.beq00, bc_true, bc_false, true_and, zz, ltI_true.2 w, g0, S.bc_self]
      have G := S.gk_num (j := 4) (i := 4) C4 hi4 x4 (.inr z) r4 (by rw [← O]; exact Int.not_lt.1 w)
      have F := LEAF 5 (by omega) (by omega) G.1 (G.2.trans O.symm)
      simp only [e4, b4, y, notB_t, notB_f, S.beq00, bc_true, bc_false, true_and, zz, ltI_false.2 (Int.not_lt.1 w), S.bc_self]
      exact F
    have C5 := S.gk_more (j := 4) (i := 4) C4 hi4 x4 r4
    simp only [e4, b4, ltI_false.2 (Int.not_lt.1 x4), notB_t, notB_f, S.beq00, bc_true, bc_false, true_and]
    by_cases hi5 : 5 < n
    rotate_left
    · have e5 : ltI (5 : Int) (n : Int) = false := ltI_false.2 (by omega)
      have g0 : S.gk vs o n = 0 := S.gk_end (j := 3) (i := 5) C5 hi5
      simp only [e5, g0, S.beq00, bc_true, bc_false]
    have e5 : ltI (5 : Int) (n : Int) = true := ltI_true.2 (by omega)
    have b5 : (o + 5 + 1).ble (lenL vs) = true := Nat.ble_eq_true_of_le (by omega)
    have r5 := S.okY_rng hY (i := o + 5) (by omega)
    by_cases x5 : intOf (K.atV vs (o + 5)) < 128
    · have y := ltI_true.2 x5
      have O := S.orE_eq hY (o := o) (k := 6) (by omega) (by omega)
      by_cases z : intOf (K.atV vs (o + 5)) = 0
      · have g0 : S.gk vs o n = 0 := S.gk_zero (j := 3) (i := 5) C5 hi5 x5 (by omega) z
        simp only [e5, b5, y, notB_t, notB_f, S.beq00, bc_true, bc_false, true_and, eqI_true.2 z, g0]
      have zz := eqI_false.2 z
      by_cases w : 4611686018427387904 < S.orE vs o 6
      · have g0 : S.gk vs o n = 0 := S.gk_big (j := 3) (i := 5) C5 hi5 x5 r5 (by rw [← O]; exact w)
        simp only [e5, b5, y, notB_t, notB_f, S.beq00, bc_true, bc_false, true_and, zz, ltI_true.2 w, g0, S.bc_self]
      have G := S.gk_num (j := 3) (i := 5) C5 hi5 x5 (.inr z) r5 (by rw [← O]; exact Int.not_lt.1 w)
      have F := LEAF 6 (by omega) (by omega) G.1 (G.2.trans O.symm)
      simp only [e5, b5, y, notB_t, notB_f, S.beq00, bc_true, bc_false, true_and, zz, ltI_false.2 (Int.not_lt.1 w), S.bc_self]
      exact F
    have C6 := S.gk_more (j := 3) (i := 5) C5 hi5 x5 r5
    simp only [e5, b5, ltI_false.2 (Int.not_lt.1 x5), notB_t, notB_f, S.beq00, bc_true, bc_false, true_and]
    by_cases hi6 : 6 < n
    rotate_left
    · have e6 : ltI (6 : Int) (n : Int) = false := ltI_false.2 (by omega)
      have g0 : S.gk vs o n = 0 := S.gk_end (j := 2) (i := 6) C6 hi6
      simp only [e6, g0, S.beq00, bc_true, bc_false]
    have e6 : ltI (6 : Int) (n : Int) = true := ltI_true.2 (by omega)
    have b6 : (o + 6 + 1).ble (lenL vs) = true := Nat.ble_eq_true_of_le (by omega)
    have r6 := S.okY_rng hY (i := o + 6) (by omega)
    by_cases x6 : intOf (K.atV vs (o + 6)) < 128
    · have y := ltI_true.2 x6
      have O := S.orE_eq hY (o := o) (k := 7) (by omega) (by omega)
      by_cases z : intOf (K.atV vs (o + 6)) = 0
      · have g0 : S.gk vs o n = 0 := S.gk_zero (j := 2) (i := 6) C6 hi6 x6 (by omega) z
        simp only [e6, b6, y, notB_t, notB_f, S.beq00, bc_true, bc_false, true_and, eqI_true.2 z, g0]
      have zz := eqI_false.2 z
      by_cases w : 4611686018427387904 < S.orE vs o 7
      · have g0 : S.gk vs o n = 0 := S.gk_big (j := 2) (i := 6) C6 hi6 x6 r6 (by rw [← O]; exact w)
        simp only [e6, b6, y, notB_t, notB_f, S.beq00, bc_true, bc_false, true_and, zz, ltI_true.2 w, g0, S.bc_self]
      have G := S.gk_num (j := 2) (i := 6) C6 hi6 x6 (.inr z) r6 (by rw [← O]; exact Int.not_lt.1 w)
      have F := LEAF 7 (by omega) (by omega) G.1 (G.2.trans O.symm)
      simp only [e6, b6, y, notB_t, notB_f, S.beq00, bc_true, bc_false, true_and, zz, ltI_false.2 (Int.not_lt.1 w), S.bc_self]
      exact F
    have C7 := S.gk_more (j := 2) (i := 6) C6 hi6 x6 r6
    simp only [e6, b6, ltI_false.2 (Int.not_lt.1 x6), notB_t, notB_f, S.beq00, bc_true, bc_false, true_and]
    by_cases hi7 : 7 < n
    rotate_left
    · have e7 : ltI (7 : Int) (n : Int) = false := ltI_false.2 (by omega)
      have g0 : S.gk vs o n = 0 := S.gk_end (j := 1) (i := 7) C7 hi7
      simp only [e7, g0, S.beq00, bc_true, bc_false]
    have e7 : ltI (7 : Int) (n : Int) = true := ltI_true.2 (by omega)
    have b7 : (o + 7 + 1).ble (lenL vs) = true := Nat.ble_eq_true_of_le (by omega)
    have r7 := S.okY_rng hY (i := o + 7) (by omega)
    by_cases x7 : intOf (K.atV vs (o + 7)) < 128
    · have y := ltI_true.2 x7
      have O := S.orE_eq hY (o := o) (k := 8) (by omega) (by omega)
      by_cases z : intOf (K.atV vs (o + 7)) = 0
      · have g0 : S.gk vs o n = 0 := S.gk_zero (j := 1) (i := 7) C7 hi7 x7 (by omega) z
        simp only [e7, b7, y, notB_t, notB_f, S.beq00, bc_true, bc_false, true_and, eqI_true.2 z, g0]
      have zz := eqI_false.2 z
      by_cases w : 4611686018427387904 < S.orE vs o 8
      · have g0 : S.gk vs o n = 0 := S.gk_big (j := 1) (i := 7) C7 hi7 x7 r7 (by rw [← O]; exact w)
        simp only [e7, b7, y, notB_t, notB_f, S.beq00, bc_true, bc_false, true_and, zz, ltI_true.2 w, g0, S.bc_self]
      have G := S.gk_num (j := 1) (i := 7) C7 hi7 x7 (.inr z) r7 (by rw [← O]; exact Int.not_lt.1 w)
      have F := LEAF 8 (by omega) (by omega) G.1 (G.2.trans O.symm)
      simp only [e7, b7, y, notB_t, notB_f, S.beq00, bc_true, bc_false, true_and, zz, ltI_false.2 (Int.not_lt.1 w), S.bc_self]
      exact F
    have C8 := S.gk_more (j := 1) (i := 7) C7 hi7 x7 r7
    simp only [e7, b7, ltI_false.2 (Int.not_lt.1 x7), notB_t, notB_f, S.beq00, bc_true, bc_false, true_and]
    by_cases hi8 : 8 < n
    rotate_left
    · have e8 : ltI (8 : Int) (n : Int) = false := ltI_false.2 (by omega)
      have g0 : S.gk vs o n = 0 := S.gk_end (j := 0) (i := 8) C8 hi8
      simp only [e8, g0, S.beq00, bc_true, bc_false]
    have e8 : ltI (8 : Int) (n : Int) = true := ltI_true.2 (by omega)
    have b8 : (o + 8 + 1).ble (lenL vs) = true := Nat.ble_eq_true_of_le (by omega)
    have r8 := S.okY_rng hY (i := o + 8) (by omega)
    by_cases x8 : intOf (K.atV vs (o + 8)) < 128
    · have y := ltI_true.2 x8
      have O := S.orE_eq hY (o := o) (k := 9) (by omega) (by omega)
      by_cases z : intOf (K.atV vs (o + 8)) = 0
      · have g0 : S.gk vs o n = 0 := S.gk_zero (j := 0) (i := 8) C8 hi8 x8 (by omega) z
        simp only [e8, b8, y, notB_t, notB_f, S.beq00, bc_true, bc_false, true_and, eqI_true.2 z, g0]
      have zz := eqI_false.2 z
      by_cases w : 4611686018427387904 < S.orE vs o 9
      · have g0 : S.gk vs o n = 0 := S.gk_big (j := 0) (i := 8) C8 hi8 x8 r8 (by rw [← O]; exact w)
        simp only [e8, b8, y, notB_t, notB_f, S.beq00, bc_true, bc_false, true_and, zz, ltI_true.2 w, g0, S.bc_self]
      have G := S.gk_num (j := 0) (i := 8) C8 hi8 x8 (.inr z) r8 (by rw [← O]; exact Int.not_lt.1 w)
      have F := LEAF 9 (by omega) (by omega) G.1 (G.2.trans O.symm)
      simp only [e8, b8, y, notB_t, notB_f, S.beq00, bc_true, bc_false, true_and, zz, ltI_false.2 (Int.not_lt.1 w), S.bc_self]
      exact F
    have g0 : S.gk vs o n = 0 := S.gk_long C8 hi8 x8
    simp only [e8, b8, ltI_false.2 (Int.not_lt.1 x8), notB_t, notB_f, S.beq00, bc_true, bc_false, true_and, g0])
  obtain ⟨q1, q2⟩ := K.RunL2.one hr
  cases hb : Nat.beq (S.gk vs o n) 0
  · exact K.loop_of_run good (envK_ok (fun p hp => by cases hp)) K.openE_ok (q2 hb)
  · exact K.loop_of_run good (envK_ok (fun p hp => by cases hp)) K.openE_ok (q1 hb)
theorem nq_mv {pre : List Item → List Item} {f : Fr} {H : Heap} {x : LX} {g n0 : Nat} (et o n c m : Nat) (vs ns : List LV) (left : Int) (h : GT Try.prog pre f H x (Fr.ofL g n0 [] [] none) (Heap.of [.loop .ready none 10 74 S.T0 [48, 49] S.code0 S.code1 6, .cells 3 .exact [.int .i64 left], .cells 23 .exact [.slice 3 o n (.known c)], .flat [.i .u8] et .ro vs, .cells 22 .exact [.slice 5 0 m (.rest 0)], .flat [.i .i64] 3 (.grow 1) ns, .defers false])) (hn : H.n ≤ 7) (hx : ∀ v, x ≠ .pan v) (hl : left = (S.lf vs n o n : Nat)) (hnl : S.nl vs n o n = []) :
    GT Try.prog pre f H x (Fr.ofL g n0 [] [] none) (Heap.of [.loop .ready none 10 74 S.T0 [48, 49] S.code0 S.code1 6, .cells 3 .exact [.int .i64 (S.lf vs n o n)], .dead, .flat [.i .u8] et .ro vs, .cells 22 .exact [.slice 7 0 (m + S.nll vs n o n) (.rest 0)], .dead, .defers false, .flat [.i .i64] 3 (.grow 1) (app ns (S.nl vs n o n))]) := by
  have z : S.nll vs n o n = 0 := by unfold S.nll; rw [hnl]; rfl
  have z2 : app ns (S.nl vs n o n) = ns := by rw [hnl, K.app_eq, List.append_nil]
  rw [z, z2, ← hl, Nat.add_zero]
  have h7 : at_ (K.mvl 7 5) 7 = 5 := rfl
  have hT : K.mapKO (at_ (K.mvl 7 5)) (.loop .ready none 10 74 S.T0 [48, 49] S.code0 S.code1 6) = .loop .ready none 10 74 S.T0 [48, 49] S.code0 S.code1 6 := by kernel_rfl
  have hW : K.wfKO 8 (.loop .ready none 10 74 S.T0 [48, 49] S.code0 S.code1 6) = true := by kernel_rfl
  have hlp : sameObj (at_ (K.mvl 7 5)) (.loop .ready none 10 74 S.T0 [48, 49] S.code0 S.code1 6) (.loop .ready none 10 74 S.T0 [48, 49] S.code0 S.code1 6) ∧ ltObj 8 (.loop .ready none 10 74 S.T0 [48, 49] S.code0 S.code1 6) := by
    have h1 := K.wfKO_B hW
    have h2 := eqObj_map (at_ (K.mvl 7 5)) h1
    rw [← K.mapKO_eq, hT] at h2
    exact ⟨eqObj_same h2, wfObjB_lt h1⟩
  refine K.GT_mv2 (os := [.loop .ready none 10 74 S.T0 [48, 49] S.code0 S.code1 6, .cells 3 .exact [.int .i64 left], .cells 23 .exact [.slice 3 o n (.known c)], .flat [.i .u8] et .ro vs, .cells 22 .exact [.slice 5 0 m (.rest 0)], .flat [.i .i64] 3 (.grow 1) ns, .defers false]) (j := 5) h hn (by show 5 < 7; decide) rfl (fun _ => rfl) ?_ hx trivial trivial
  intro i h1 h2
  have hcase : i = 0 ∨ i = 1 ∨ i = 2 ∨ i = 3 ∨ i = 4 ∨ i = 6 ∨ i = 7 := by
    have : i < 8 := h1
    omega
  rcases hcase with rfl | rfl | rfl | rfl | rfl | rfl | rfl
  · exact ⟨(by show 0 < 7; decide), hlp⟩
  · exact ⟨(by show 1 < 7; decide), (by show sameObj (at_ (K.mvl 7 5)) (.cells 3 .exact [.int .i64 left]) (.cells 3 .exact [.int .i64 left]); simp [sameObj, sameVs, sameV]), (by simp [ltObj, lts, lt])⟩
  · exact ⟨(by show 2 < 7; decide), trivial, trivial⟩
  · exact ⟨(by show 3 < 7; decide), (by show sameObj (at_ (K.mvl 7 5)) (.flat [.i .u8] et .ro vs) (.flat [.i .u8] et .ro vs); simp [sameObj, sameVs, sameV]), (by simp [ltObj])⟩
  · exact ⟨(by show 4 < 7; decide), (by show sameObj (at_ (K.mvl 7 5)) (.cells 22 .exact [.slice 7 0 m (.rest 0)]) (.cells 22 .exact [.slice 5 0 m (.rest 0)]); simp [sameObj, sameVs, sameV]; exact h7), (by simp [ltObj, lts, lt])⟩
  · exact ⟨(by show 6 < 7; decide), (by show sameObj (at_ (K.mvl 7 5)) (.defers false) (.defers false); simp [sameObj, sameVs, sameV]), (by simp [ltObj])⟩
  · exact ⟨(by show 5 < 7; decide), (by show sameObj (at_ (K.mvl 7 5)) (.flat [.i .i64] 3 (.grow 1) ns) (.flat [.i .i64] 3 (.grow 1) ns); simp [sameObj, sameVs, sameV]), (by simp [ltObj])⟩
theorem nqF_lok (et : Nat) (vs : List LV) : ∀ (n o c m : Nat) (ns : List LV) (left : Int), S.okA vs o n c = true → (lenL ns = m ∧ m + n ≤ 1000000 ∧ left = n) → S.lf vs n o n = 0 → nqF_T et o n c m vs ns left := by
  intro n
  induction n using Nat.strongRecOn with
  | _ n ih =>
    intro o c m ns left hA hB hF
    have h := nqRF_con et o n c m vs ns left hA hB hF (fun o2 n2 c2 m2 ns2 left2 hlt a b c => ih n2 hlt o2 c2 m2 ns2 left2 a b c)
    cases hb : Nat.beq n 0 with
    | false => rw [hb] at h; exact h
    | true =>
      rw [hb] at h
      have hb := S.beqN_iff.1 hb
      have st := S.stop (vs := vs) (o := o) (n := n) (by have := S.gk_le vs o n; omega)
      exact nq_mv et o n c m vs ns left (n0 := 57) h (Nat.le_refl 7) (fun v e => by cases e) (by rw [st.1]; exact hB.2.2) st.2
theorem nqP_lok (et : Nat) (vs : List LV) : ∀ (n o c m : Nat) (ns : List LV) (left : Int), S.okA vs o n c = true → (lenL ns = m ∧ m + n ≤ 1000000 ∧ left = n) → S.lf vs n o n ≠ 0 → nqP_T et o n c m vs ns left := by
  intro n
  induction n using Nat.strongRecOn with
  | _ n ih =>
    intro o c m ns left hA hB hF
    have h := nqRP_con et o n c m vs ns left hA hB hF (fun o2 n2 c2 m2 ns2 left2 hlt a b c => ih n2 hlt o2 c2 m2 ns2 left2 a b c)
    cases hb : Nat.beq (S.gk vs o n) 0 with
    | false => rw [hb] at h; exact h
    | true =>
      rw [hb] at h
      have hb := S.beqN_iff.1 hb
      have st := S.stop (vs := vs) (o := o) (n := n) hb
      exact nq_mv et o n c m vs ns left (n0 := 57) h (Nat.le_refl 7) (fun v e => by cases e) (by rw [st.1]; exact hB.2.2) st.2
theorem nq_hb : blkOf 20 0 = .block 0 (.loop (inner (inner (blkOf 20 0)))) := by kernel_rfl
theorem nqAF_blk (et o n c : Nat) (vs : List LV) (left : Int) (hA : S.okA vs o n c = true) (hB : n ≤ 1000000) (hF : S.lf vs n o n = 0) (h1 : 1 ≤ n) : K.BOk Try.prog 20 57 (blkOf 20 0) [0, 1] [.func (.yield 0) [] [], .ptr 2 0] [.loop .ready none 10 74 S.T0 [48, 49] S.code0 S.code1 5, .cells 3 .exact [.int .i64 left], .cells 23 .exact [.slice 3 o n (.known c)], .flat [.i .u8] et .ro vs, .cells 22 .exact [.nils], .defers false] ⟨.normal, [], [(0, .loop .ready none 10 74 S.T0 [48, 49] S.code0 S.code1 5), (1, .cells 3 .exact [.int .i64 (S.lf vs n o n)]), (2, .dead), (4, .cells 22 .exact [.slice 6 0 (S.nll vs n o n) (.rest 0)])], [.flat [.i .i64] 3 (.grow 1) (S.nl vs n o n)]⟩ := by
  have h := nqQF_con et o n c vs left hA hB hF (fun o2 n2 c2 m2 ns2 left2 _ a b c => nqF_lok et vs n2 o2 c2 m2 ns2 left2 a b c)
  have hb : Nat.beq n 0 = false := S.beq_no h1
  rw [hb] at h
  unfold K.BOk
  rw [nq_hb]
  exact K.CT.block (K.GT.loop h)
theorem nqAP_blk (et o n c : Nat) (vs : List LV) (left : Int) (hA : S.okA vs o n c = true) (hB : n ≤ 1000000) (hF : S.lf vs n o n ≠ 0) (h1 : S.gk vs o n ≠ 0) : K.BOk Try.prog 20 57 (blkOf 20 0) [0, 1] [.func (.yield 0) [] [], .ptr 2 0] [.loop .ready none 10 74 S.T0 [48, 49] S.code0 S.code1 5, .cells 3 .exact [.int .i64 left], .cells 23 .exact [.slice 3 o n (.known c)], .flat [.i .u8] et .ro vs, .cells 22 .exact [.nils], .defers false] ⟨.ret, [], [(0, .loop .ready none 10 74 S.T0 [48, 49] S.code0 S.code1 5), (1, .cells 3 .exact [.int .i64 (S.lf vs n o n)]), (2, .dead), (4, .cells 22 .exact [.slice 6 0 (S.nll vs n o n) (.rest 0)])], [.flat [.i .i64] 3 (.grow 1) (S.nl vs n o n)]⟩ := by
  have h := nqQP_con et o n c vs left hA hB hF (fun o2 n2 c2 m2 ns2 left2 _ a b c => nqP_lok et vs n2 o2 c2 m2 ns2 left2 a b c)
  have hb : Nat.beq (S.gk vs o n) 0 = false := S.beqN_no.2 h1
  rw [hb] at h
  unfold K.BOk
  rw [nq_hb]
  exact K.CT.blockRet (K.GT.loop h)
theorem nqAO_blk (et o n c : Nat) (vs : List LV) (left : Int) (hA : S.okA vs o n c = true) (hB : n ≤ 1000000) (hF : S.lf vs n o n ≠ 0) (h1 : S.gk vs o n = 0) : K.BOk Try.prog 20 57 (blkOf 20 0) [0, 1] [.func (.yield 0) [] [], .ptr 2 0] [.loop .ready none 10 74 S.T0 [48, 49] S.code0 S.code1 5, .cells 3 .exact [.int .i64 left], .cells 23 .exact [.slice 3 o n (.known c)], .flat [.i .u8] et .ro vs, .cells 22 .exact [.nils], .defers false] ⟨.ret, [], [], []⟩ := by
  have h := nqQP_con et o n c vs left hA hB hF (fun o2 n2 c2 m2 ns2 left2 _ a b c => nqP_lok et vs n2 o2 c2 m2 ns2 left2 a b c)
  have hb : Nat.beq (S.gk vs o n) 0 = true := S.beqN_iff.2 h1
  rw [hb] at h
  unfold K.BOk
  rw [nq_hb]
  exact K.CT.blockRet (K.GT.loop h)
end Go.Proofs.Ytogngajglbgjmaa.Ev
