/- Words written and read again, bytes read and written again: plain laws. -/
import Derived.Test.YtogngajglbgjmaaFpkP
import Derived.Test.YtogngajglbgjmaaFunP
namespace Go.Proofs.Ytogngajglbgjmaa.Ev
open Go
set_option linter.unusedVariables false
set_option linter.unusedSimpArgs false
set_option maxRecDepth 100000
namespace S
theorem atV_get {vs : List LV} {i : Nat} (h : i < vs.length) : K.atV vs i = vs[i] := by unfold K.atV; rw [List.getD_eq_getElem?_getD, List.getElem?_eq_getElem h]; rfl
theorem atV_app1 {a b : List LV} {i : Nat} (h : i < lenL a) : K.atV (app a b) i = K.atV a i := by
  rw [K.lenL_eq] at h
  rw [K.app_eq, atV_get (by rw [List.length_append]; omega), atV_get h, List.getElem_append_left h]
theorem atV_app2 (a b : List LV) (i : Nat) : K.atV (app a b) (lenL a + i) = K.atV b i := by
  unfold K.atV
  rw [K.app_eq, K.lenL_eq, List.getD_eq_getElem?_getD, List.getD_eq_getElem?_getD, List.getElem?_append_right (by omega), Nat.add_sub_cancel_left]
theorem atV_cons (x : LV) (l : List LV) (i : Nat) : K.atV (x :: l) (i + 1) = K.atV l i := rfl
theorem list_ext {a b : List LV} (h : lenL a = lenL b) (he : ∀ i, i < lenL a → K.atV a i = K.atV b i) : a = b := by
  rw [K.lenL_eq, K.lenL_eq] at h
  refine List.ext_getElem h fun i h1 h2 => ?_
  have := he i (by rw [K.lenL_eq]; exact h1)
  rw [atV_get h1, atV_get h2] at this; exact this
/-- The bytes of words. -/
noncomputable def cat (us : List LV) : List LV := us.flatMap fun u => num (intOf u)
theorem cat_cons (u : LV) (us : List LV) : cat (u :: us) = app (num (intOf u)) (cat us) := by rw [K.app_eq]; rfl
theorem nb_zero (y : Int) : nb 0 y = [.int .u8 y] := rfl
theorem nb_succ (j : Nat) (y : Int) : nb (j + 1) y = bc (ltI y 128) [.int .u8 y] (.int .u8 (y % 128 + 128) :: nb j (y / 128)) := rfl
theorem nb_small {j : Nat} {y : Int} (h : y < 128) : nb j y = [.int .u8 y] := by
  cases j with
  | zero => rfl
  | succ j => rw [nb_succ, ltI_true.2 h]; rfl
theorem pow128 (i : Nat) : (128 : Int) ^ (i + 1) = 128 * 128 ^ i := by rw [Int.pow_succ, Int.mul_comm]
theorem pow_pos128 (i : Nat) : (1 : Int) ≤ 128 ^ i := Int.pow_pos (by decide)
theorem split128 (y p : Int) : y % 128 * p + y / 128 * (128 * p) = y * p := by
  have h : y % 128 + 128 * (y / 128) = y := by omega
  rw [show y / 128 * (128 * p) = 128 * (y / 128) * p by rw [← Int.mul_assoc, Int.mul_comm (y / 128) 128], ← Int.add_mul, h]
theorem div_lt {y p : Int} (h : y < 128 * p) : y / 128 < p := by omega
/-! a number that was written is read -/
theorem gt_fin {vs : List LV} {o n j i : Nat} {acc y : Int} (hb : by1 vs (o + i) = y) (h0 : 0 ≤ y) (h1 : y < 128) (hy : 0 < i → y ≠ 0) (hs : acc + y * 128 ^ i ≤ 4611686018427387904) (hn : i < n) : gt vs o n (j + 1) i acc = (i + 1, acc + y * 128 ^ i) := by
  rw [gt_succ, bltN_iff.2 hn, bc_true, hb, ltI_true.2 h1, bc_true, ltI_false.2 hs, bc_false]
  have e : (bc (eqI y 0) (Nat.blt 0 i) false : Bool) = false := by
    cases h : eqI y 0
    · rfl
    · rw [bc_true]
      have := eqI_true.1 h
      exact bltN_no.2 (Nat.le_of_not_lt fun h => hy h this)
  rw [e, bc_false]
theorem gt_read {vs : List LV} {o n : Nat} : ∀ (j : Nat) (y : Int) (i : Nat) (acc : Int), (∀ q, q < lenL (nb j y) → intOf (K.atV vs (o + i + q)) = intOf (K.atV (nb j y) q)) → 0 ≤ y → y < 128 ^ (j + 1) → (0 < i → y ≠ 0) →
    acc + y * 128 ^ i ≤ 4611686018427387904 → i + lenL (nb j y) ≤ n → gt vs o n (j + 1) i acc = (i + lenL (nb j y), acc + y * 128 ^ i)
  | 0, y, i, acc, hb, h0, h1, hy, hs, hn => gt_fin (hb 0 (show 0 < 1 by decide)) h0 h1 hy hs hn
  | j + 1, y, i, acc, hb, h0, h1, hy, hs, hn => by
    by_cases hx : y < 128
    · rw [nb_small hx] at hb hn ⊢
      exact gt_fin (hb 0 (show 0 < 1 by decide)) h0 hx hy hs hn
    · have e := nb_succ j y
      rw [ltI_false.2 (by omega), bc_false] at e
      rw [e] at hb hn ⊢
      rw [lenL_cons] at hb hn ⊢
      have b0 : by1 vs (o + i) = y % 128 + 128 := hb 0 (by omega)
      have hp := pow_pos128 i
      have sp := split128 y (128 ^ i)
      have h2 : y / 128 < 128 ^ (j + 1) := div_lt (by rw [← pow128]; exact h1)
      rw [gt_succ, bltN_iff.2 (show i < n by omega), bc_true, b0, ltI_false.2 (by omega), bc_false, show y % 128 + 128 - 128 = y % 128 by omega]
      rw [gt_read j (y / 128) (i + 1) _ (fun q hq => ?_) (by omega) h2 (fun _ => by omega) (by rw [pow128]; omega) (by omega), pow128]
      · rw [Nat.add_assoc, Int.add_assoc, sp]
      · have := hb (q + 1) (by omega)
        rw [atV_cons] at this
        rw [← this, show o + (i + 1) + q = o + i + (q + 1) by omega]
theorem gk_read {vs : List LV} {o n : Nat} {x : Int} (h0 : 0 ≤ x) (h1 : x ≤ 4611686018427387904) (hb : ∀ q, q < numl x → intOf (K.atV vs (o + q)) = intOf (K.atV (num x) q)) (hn : numl x ≤ n) : gk vs o n = numl x ∧ gv vs o n = x := by
  have h := gt_read (vs := vs) (o := o) (n := n) 8 x 0 0 (fun q hq => hb q hq) h0 (by omega) (fun h => absurd h (by decide)) (by omega) (by unfold numl num at hn; omega)
  unfold gk gv
  rw [h]
  exact ⟨Nat.zero_add _, by show 0 + x * 1 = x; omega⟩
/-- A list of numbers. -/
def Nums (us : List LV) : Prop := ∀ u, u ∈ us → ∃ x, u = .int .i64 x ∧ 0 ≤ x ∧ x ≤ 4611686018427387904
theorem nl_read {vs : List LV} : ∀ (us : List LV) (o n : Nat), Nums us → n = lenL (cat us) → (∀ q, q < n → intOf (K.atV vs (o + q)) = intOf (K.atV (cat us) q)) → nl vs n o n = us ∧ lf vs n o n = 0
  | [], o, n, _, hn, _ => by subst hn; exact ⟨rfl, rfl⟩
  | u :: us, o, n, hu, hn, hb => by
    obtain ⟨x, rfl, x0, x1⟩ := hu u (by simp)
    have hc : cat (.int .i64 x :: us) = app (num x) (cat us) := cat_cons _ _
    have hl : n = numl x + lenL (cat us) := by rw [hn, hc, lenL_app]; rfl
    obtain ⟨g1, g2⟩ := gk_read (vs := vs) (o := o) (n := n) x0 x1 (fun q hq => by
      rw [hb q (by omega), hc, atV_app1 hq]) (by omega)
    obtain ⟨e1, e2⟩ := go g1 (numl_rng x).1
    obtain ⟨a, b⟩ := nl_read us (o + numl x) (n - numl x) (fun v hv => hu v (by simp [hv])) (by omega) (fun q hq => by
      rw [Nat.add_assoc, hb (numl x + q) (by omega), hc]
      exact congrArg intOf (atV_app2 (num x) (cat us) q))
    rw [e1, e2, g2, a, b]
    exact ⟨rfl, rfl⟩
/-! bytes that were read are those that are written -/
/-- A list of bytes. -/
def Byts (vs : List LV) : Prop := ∀ i, i < lenL vs → ∃ b, K.atV vs i = .int .u8 b ∧ 0 ≤ b ∧ b < 256
theorem gt_back {vs : List LV} (hV : Byts vs) {o n : Nat} (hl : o + n ≤ lenL vs) : ∀ (j i : Nat) (acc : Int), (gt vs o n (j + 1) i acc).1 ≠ 0 →
    ∃ y, 0 ≤ y ∧ (gt vs o n (j + 1) i acc).2 = acc + y * 128 ^ i ∧ (0 < i → y ≠ 0) ∧ (gt vs o n (j + 1) i acc).1 = i + lenL (nb j y) ∧ i + lenL (nb j y) ≤ n ∧ ∀ q, q < lenL (nb j y) → K.atV vs (o + i + q) = K.atV (nb j y) q
  | j, i, acc, hk => by
    rw [gt_succ] at hk ⊢
    cases hi : Nat.blt i n with
    | false => rw [hi] at hk; exact absurd rfl hk
    | true =>
      rw [hi, bc_true] at hk
      rw [bc_true]
      have hi := bltN_iff.1 hi
      obtain ⟨b, eb, b0, b1⟩ := hV (o + i) (by omega)
      have e1 : by1 vs (o + i) = b := by unfold by1; rw [eb]; rfl
      rw [e1] at hk ⊢
      cases hx : ltI b 128 with
      | true =>
        rw [hx, bc_true] at hk
        rw [bc_true]
        have hx := ltI_true.1 hx
        cases hz : (bc (eqI b 0) (Nat.blt 0 i) false : Bool) with
        | true => rw [hz] at hk; exact absurd rfl hk
        | false =>
          rw [hz, bc_false] at hk
          rw [bc_false]
          cases hw : ltI 4611686018427387904 (acc + b * 128 ^ i) with
          | true => rw [hw] at hk; exact absurd rfl hk
          | false =>
            rw [bc_false]
            refine ⟨b, b0, rfl, fun hp h => ?_, by rw [nb_small hx]; rfl, by rw [nb_small hx]; show i + 1 ≤ n; omega, fun q hq => ?_⟩
            · rw [eqI_true.2 h, bc_true, bltN_iff.2 hp] at hz; cases hz
            · rw [nb_small hx] at hq ⊢
              have : q = 0 := by have : q < 1 := hq; omega
              subst this
              exact eb
      | false =>
        rw [hx, bc_false] at hk
        rw [bc_false]
        have hx := ltI_false.1 hx
        cases j with
        | zero => exact absurd rfl hk
        | succ j =>
          obtain ⟨y, y0, y1, y2, y3, y5, y4⟩ := gt_back hV hl j (i + 1) (acc + (b - 128) * 128 ^ i) hk
          have y2 := y2 (by omega)
          have em : (b - 128 + 128 * y) % 128 = b - 128 := by omega
          have ed : (b - 128 + 128 * y) / 128 = y := by omega
          have en : nb (j + 1) (b - 128 + 128 * y) = .int .u8 b :: nb j y := by
            rw [nb_succ, ltI_false.2 (by omega), bc_false, em, ed, show b - 128 + 128 = b by omega]
          refine ⟨b - 128 + 128 * y, by omega, ?_, fun _ => by omega, ?_, ?_, fun q hq => ?_⟩
          · rw [y1, pow128]
            have sp := split128 (b - 128 + 128 * y) (128 ^ i)
            rw [em, ed] at sp
            omega
          · rw [y3, en, lenL_cons]; omega
          · rw [en, lenL_cons]; omega
          · rw [en] at hq ⊢
            cases q with
            | zero => exact eb
            | succ q =>
              rw [lenL_cons] at hq
              rw [atV_cons, ← y4 q (by omega), show o + i + (q + 1) = o + (i + 1) + q by omega]
theorem gk_back {vs : List LV} (hV : Byts vs) {o n : Nat} (hl : o + n ≤ lenL vs) (hk : gk vs o n ≠ 0) : 0 ≤ gv vs o n ∧ gk vs o n = numl (gv vs o n) ∧ gk vs o n ≤ n ∧ ∀ q, q < numl (gv vs o n) → K.atV vs (o + q) = K.atV (num (gv vs o n)) q := by
  obtain ⟨y, y0, y1, _, y3, y5, y4⟩ := gt_back hV hl 8 0 0 hk
  have e : gv vs o n = y := by unfold gv; rw [y1]; show 0 + y * 1 = y; omega
  have e2 : gk vs o n = 0 + lenL (nb 8 y) := y3
  rw [e]
  refine ⟨y0, by rw [e2]; show _ = lenL (nb 8 y); omega, by rw [e2]; omega, fun q hq => y4 q hq⟩
theorem cat_back {vs : List LV} (hV : Byts vs) : ∀ (n o : Nat), o + n ≤ lenL vs → lf vs n o n = 0 → lenL (cat (nl vs n o n)) = n ∧ ∀ q, q < n → K.atV vs (o + q) = K.atV (cat (nl vs n o n)) q := by
  intro n
  induction n using Nat.strongRecOn with
  | _ n ih =>
    intro o hl hf
    by_cases hk : gk vs o n = 0
    · obtain ⟨a, b⟩ := stop hk
      rw [a] at hf
      subst hf
      exact ⟨rfl, fun q hq => absurd hq (Nat.not_lt_zero _)⟩
    · obtain ⟨g0, g1, g2, g3⟩ := gk_back hV hl hk
      obtain ⟨e1, e2⟩ := go (vs := vs) (o := o) (n := n) rfl (by omega)
      rw [e1] at hf
      obtain ⟨a, b⟩ := ih (n - gk vs o n) (by omega) (o + gk vs o n) (by omega) hf
      have hc : cat (nl vs n o n) = app (num (gv vs o n)) (cat (nl vs (n - gk vs o n) (o + gk vs o n) (n - gk vs o n))) := by rw [e2]; exact cat_cons _ _
      have hnl : lenL (num (gv vs o n)) = gk vs o n := g1.symm
      refine ⟨by rw [hc, lenL_app, a, hnl]; omega, fun q hq => ?_⟩
      rw [hc]
      by_cases h : q < gk vs o n
      · rw [atV_app1 (by rw [hnl]; exact h)]; exact g3 q (by rw [← g1]; exact h)
      · have := atV_app2 (num (gv vs o n)) (cat (nl vs (n - gk vs o n) (o + gk vs o n) (n - gk vs o n))) (q - gk vs o n)
        rw [hnl, show gk vs o n + (q - gk vs o n) = q by omega] at this
        rw [this, ← b (q - gk vs o n) (by omega), show o + gk vs o n + (q - gk vs o n) = o + q by omega]
theorem gt_rng2 {vs : List LV} (hY : okY vs = true) {o n : Nat} (hl : o + n ≤ lenL vs) : ∀ (j i : Nat) (acc : Int), 0 ≤ acc → 0 ≤ (gt vs o n j i acc).2 ∧ (gt vs o n j i acc).2 ≤ 4611686018427387904
  | 0, i, acc, _ => ⟨Int.le_refl 0, (by decide : (0 : Int) ≤ 4611686018427387904)⟩
  | j + 1, i, acc, h => by
    rw [gt_succ]
    cases hi : Nat.blt i n
    · exact ⟨Int.le_refl 0, (by decide : (0 : Int) ≤ 4611686018427387904)⟩
    · rw [bc_true]
      have hi := bltN_iff.1 hi
      obtain ⟨r0, r1⟩ := okY_rng hY (i := o + i) (by omega)
      have hp : (0 : Int) ≤ 128 ^ i := Int.le_of_lt (Int.pow_pos (by decide))
      cases hx : ltI (by1 vs (o + i)) 128
      · rw [bc_false]
        have hx : 128 ≤ by1 vs (o + i) := ltI_false.1 hx
        exact gt_rng2 hY hl j _ _ (Int.add_nonneg h (Int.mul_nonneg (by omega) hp))
      · rw [bc_true]
        cases (bc (eqI (by1 vs (o + i)) 0) (Nat.blt 0 i) false : Bool)
        · rw [bc_false]
          cases hw : ltI 4611686018427387904 (acc + by1 vs (o + i) * 128 ^ i)
          · rw [bc_false]
            exact ⟨Int.add_nonneg h (Int.mul_nonneg r0 hp), ltI_false.1 hw⟩
          · exact ⟨Int.le_refl 0, (by decide : (0 : Int) ≤ 4611686018427387904)⟩
        · exact ⟨Int.le_refl 0, (by decide : (0 : Int) ≤ 4611686018427387904)⟩
theorem gv_rng2 {vs : List LV} (hY : okY vs = true) {o n : Nat} (hl : o + n ≤ lenL vs) : 0 ≤ gv vs o n ∧ gv vs o n ≤ 4611686018427387904 := gt_rng2 hY hl 9 0 0 (Int.le_refl 0)
theorem nl_nums {vs : List LV} (hY : okY vs = true) : ∀ (j o n : Nat), o + n ≤ lenL vs → Nums (nl vs j o n)
  | 0, o, n, _ => fun u hu => by cases hu
  | j + 1, o, n, hl => by
    rw [nl_succ]
    cases hz : Nat.beq (gk vs o n) 0
    · rw [bc_false]
      have hle := gk_le vs o n
      intro u hu
      rcases List.mem_cons.1 hu with rfl | hu
      · have := gv_rng2 hY hl
        exact ⟨_, rfl, this.1, this.2⟩
      · exact nl_nums hY j _ _ (by omega) u hu
    · intro u hu; cases hu
/-! the bytes of words, as the code writes them -/
theorem pw_cat {ws : List LV} : ∀ (j : Nat) (i : Int), 0 ≤ i → i.toNat + j = lenL ws → pw ws j i = cat (ws.drop i.toNat)
  | 0, i, _, h => by
    rw [K.lenL_eq] at h
    rw [List.drop_eq_nil_of_le (by omega)]; rfl
  | j + 1, i, h0, h => by
    rw [K.lenL_eq] at h
    have e : pw ws (j + 1) i = app (num (wd ws i)) (pw ws j (i + 1)) := rfl
    have ew : wd ws i = intOf ws[i.toNat] := by
      unfold wd
      rw [Nat.zero_add, Nat.mul_one, atV_get (show i.toNat < ws.length by omega)]
    rw [e, pw_cat j (i + 1) (by omega) (by rw [K.lenL_eq]; omega), List.drop_eq_getElem_cons (show i.toNat < ws.length by omega), cat_cons, ew, show (i + 1).toNat = i.toNat + 1 by omega]
theorem body_cat {ws : List LV} {W : Nat} (h : lenL ws = W) : body ws W = .int .u8 87 :: cat (.int .i64 W :: ws) := by
  have hr : rem W 0 = W := by unfold rem; omega
  unfold body
  rw [hr, pw_cat W 0 (Int.le_refl 0) (by rw [h]; simp), cat_cons]
  rfl
theorem ckr_congr {vs us : List LV} {n : Nat} (h : ∀ q, q < n → intOf (K.atV vs q) = intOf (K.atV us q)) : ∀ (j : Nat) (i : Int) (p : Int × Int), 0 ≤ i → i.toNat + j ≤ n → ckr vs j i p = ckr us j i p
  | 0, i, p, _, _ => rfl
  | j + 1, i, p, h0, h1 => by
    show ckr vs j (i + 1) (ck1 vs i p) = ckr us j (i + 1) (ck1 us i p)
    have e : ck1 vs i p = ck1 us i p := by
      unfold ck1
      rw [Nat.zero_add, Nat.mul_one, h i.toNat (by omega)]
    rw [e]
    exact ckr_congr h j (i + 1) _ (by omega) (by omega)
theorem cA_congr {vs us : List LV} {n : Nat} (h : ∀ q, q < n → intOf (K.atV vs q) = intOf (K.atV us q)) : cA vs n = cA us n := by
  unfold cA ca; rw [ckr_congr h n 0 (0, 0) (Int.le_refl 0) (by simp)]
theorem cB_congr {vs us : List LV} {n : Nat} (h : ∀ q, q < n → intOf (K.atV vs q) = intOf (K.atV us q)) : cB vs n = cB us n := by
  unfold cB cb; rw [ckr_congr h n 0 (0, 0) (Int.le_refl 0) (by simp)]
theorem Byts.app {a b : List LV} (ha : Byts a) (hb : Byts b) : Byts (app a b) := by
  intro i hi
  rw [lenL_app] at hi
  by_cases h : i < lenL a
  · rw [atV_app1 h]; exact ha i h
  · have := atV_app2 a b (i - lenL a)
    rw [show lenL a + (i - lenL a) = i by omega] at this
    rw [this]; exact hb _ (by omega)
theorem Byts.cons {b : Int} {l : List LV} (h0 : 0 ≤ b) (h1 : b < 256) (hl : Byts l) : Byts (.int .u8 b :: l) := by
  intro i hi
  cases i with
  | zero => exact ⟨b, rfl, h0, h1⟩
  | succ i => rw [lenL_cons] at hi; exact hl i (by omega)
theorem Byts.nil : Byts [] := fun i hi => absurd hi (Nat.not_lt_zero _)
theorem nb_byts : ∀ (j : Nat) (y : Int), 0 ≤ y → y < 128 ^ (j + 1) → Byts (nb j y)
  | 0, y, h0, h1 => Byts.cons h0 (by have : y < 128 := h1; omega) Byts.nil
  | j + 1, y, h0, h1 => by
    by_cases hx : y < 128
    · rw [nb_small hx]; exact Byts.cons h0 (by omega) Byts.nil
    · rw [nb_succ, ltI_false.2 (by omega), bc_false]
      exact Byts.cons (by omega) (by omega) (nb_byts j (y / 128) (by omega) (div_lt (by rw [← pow128]; exact h1)))
theorem cat_byts : ∀ {us : List LV}, Nums us → Byts (cat us)
  | [], _ => Byts.nil
  | u :: us, h => by
    obtain ⟨x, rfl, x0, x1⟩ := h u (by simp)
    rw [cat_cons]
    exact Byts.app (nb_byts 8 x x0 (by omega)) (cat_byts fun v hv => h v (by simp [hv]))
theorem cat_len : ∀ (us : List LV), lenL us ≤ lenL (cat us) ∧ lenL (cat us) ≤ 9 * lenL us
  | [] => ⟨Nat.le_refl 0, Nat.le_refl 0⟩
  | u :: us => by
    obtain ⟨a, b⟩ := cat_len us
    have := numl_rng (intOf u)
    rw [cat_cons, lenL_app, lenL_cons]
    unfold numl at this
    omega
theorem cA_rng (vs : List LV) (n : Nat) : 0 ≤ cA vs n ∧ cA vs n < 256 := by unfold cA; rw [wrapK_u8]; omega
theorem cB_rng (vs : List LV) (n : Nat) : 0 ≤ cB vs n ∧ cB vs n < 256 := by unfold cB; rw [wrapK_u8]; omega
theorem Byts.okY {vs : List LV} (h : Byts vs) : okY vs = true := okY_iff.2 fun i hi => by
  obtain ⟨b, e, b0, b1⟩ := h i hi
  rw [e]; exact ⟨b0, b1⟩
/-- Words that were written are read. -/
theorem read_packed {ws : List LV} {W : Nat} (hw : lenL ws = W) (hN : Nums ws) (hW : W ≤ 100000) : Byts (packed ws W) ∧ (4 ≤ packL ws W ∧ packL ws W ≤ 1000000) ∧ uo (packed ws W) (packL ws W) = true ∧ un (packed ws W) (packL ws W) = .int .i64 W :: ws := by
  have hU : Nums (.int .i64 W :: ws) := fun u hu => by
    rcases List.mem_cons.1 hu with rfl | hu
    · exact ⟨W, rfl, by omega, by omega⟩
    · exact hN u hu
  have hb := body_cat hw
  obtain ⟨l1, l2⟩ := cat_len (.int .i64 W :: ws)
  rw [lenL_cons, hw] at l1 l2
  have hbl : lenL (body ws W) = 1 + lenL (cat (.int .i64 W :: ws)) := by rw [hb, lenL_cons]
  have hL : packL ws W = lenL (body ws W) + 2 := by unfold packL packed; rw [lenL_app]; rfl
  have hbb : Byts (body ws W) := by rw [hb]; exact Byts.cons (by decide) (by decide) (cat_byts hU)
  have hP : Byts (packed ws W) := by
    unfold packed
    exact Byts.app hbb (Byts.cons (cA_rng _ _).1 (cA_rng _ _).2 (Byts.cons (cB_rng _ _).1 (cB_rng _ _).2 Byts.nil))
  have at1 : ∀ q, q < lenL (body ws W) → K.atV (packed ws W) q = K.atV (body ws W) q := fun q hq => by unfold packed; exact atV_app1 hq
  have atA : K.atV (packed ws W) (lenL (body ws W)) = .int .u8 (cA (body ws W) (lenL (body ws W))) := by unfold packed; exact atV_app2 (body ws W) _ 0
  have atB : K.atV (packed ws W) (lenL (body ws W) + 1) = .int .u8 (cB (body ws W) (lenL (body ws W))) := by unfold packed; exact atV_app2 (body ws W) _ 1
  have e3 : packL ws W - 3 = lenL (cat (.int .i64 W :: ws)) := by omega
  obtain ⟨r1, r2⟩ := nl_read (vs := packed ws W) (.int .i64 W :: ws) 1 (packL ws W - 3) hU e3 (fun q hq => by
    rw [at1 (1 + q) (by omega), hb, Nat.add_comm 1 q, atV_cons])
  have hun : un (packed ws W) (packL ws W) = .int .i64 W :: ws := r1
  refine ⟨hP, ⟨by omega, by omega⟩, ?_, hun⟩
  have hul : ul (packed ws W) (packL ws W) = W + 1 := by
    have : ul (packed ws W) (packL ws W) = lenL (un (packed ws W) (packL ws W)) := rfl
    rw [this, hun, lenL_cons, hw]; omega
  refine uo_iff.2 ⟨uh_iff.2 ⟨by omega, ?_, ?_, ?_⟩, r2, ?_⟩
  · rw [at1 0 (by omega), hb]; rfl
  · rw [show packL ws W - 2 = lenL (body ws W) by omega, atA, cA_congr (vs := packed ws W) (us := body ws W) fun q hq => by rw [at1 q hq]]; rfl
  · rw [show packL ws W - 2 = lenL (body ws W) by omega, show packL ws W - 1 = lenL (body ws W) + 1 by omega, atB, cB_congr (vs := packed ws W) (us := body ws W) fun q hq => by rw [at1 q hq]]; rfl
  · rw [hun, hul]; show (W : Int) = _; omega
/-- Bytes that were read are written. -/
theorem pack_read {vs : List LV} {L : Nat} (hV : Byts vs) (hL : lenL vs = L) (hM : L ≤ 1000000) (hO : uo vs L = true) : packed (uw vs L) (ul vs L - 1) = vs ∧ Nums (uw vs L) ∧ lenL (uw vs L) = ul vs L - 1 ∧ 1 ≤ ul vs L ∧ ul vs L ≤ L - 3 := by
  obtain ⟨hH, hF, h1⟩ := uo_iff.1 hO
  obtain ⟨h4, x0, x1, x2⟩ := uh_iff.1 hH
  have hNs : Nums (un vs L) := nl_nums hV.okY (L - 3) 1 (L - 3) (by omega)
  obtain ⟨c1, c2⟩ := cat_back hV (L - 3) 1 (by omega) hF
  have c1 : lenL (cat (un vs L)) = L - 3 := c1
  have c2 : ∀ q, q < L - 3 → K.atV vs (1 + q) = K.atV (cat (un vs L)) q := c2
  have hul : ul vs L = lenL (un vs L) := rfl
  have hle : ul vs L ≤ L - 3 := nl_len vs _ _ _
  have huw : uw vs L = sub (un vs L) 1 (ul vs L - 1) := rfl
  rw [huw]
  generalize un vs L = us at *
  cases us with
  | nil =>
    exfalso
    rw [hul] at h1
    exact absurd h1 (by decide)
  | cons u us =>
    obtain ⟨x, rfl, y0, y1⟩ := hNs u (by simp)
    rw [lenL_cons] at hul
    have hs : sub (.int .i64 x :: us) 1 (ul vs L - 1) = us := by
      rw [show ul vs L - 1 = lenL us by omega]
      exact sub_all rfl
    rw [hs]
    have h1 : x = (ul vs L : Int) - 1 := h1
    have hx : LV.int .i64 x :: us = .int .i64 ((ul vs L - 1 : Nat) : Int) :: us := by rw [show x = ((ul vs L - 1 : Nat) : Int) by omega]
    have hlu : lenL us = ul vs L - 1 := by omega
    have hb : body us (ul vs L - 1) = .int .u8 87 :: cat (.int .i64 x :: us) := by rw [body_cat hlu, hx]
    have hbl : lenL (body us (ul vs L - 1)) = L - 2 := by rw [hb, lenL_cons, c1]; omega
    have hbv : ∀ q, q < L - 2 → K.atV (body us (ul vs L - 1)) q = K.atV vs q := fun q hq => by
      rw [hb]
      cases q with
      | zero =>
        obtain ⟨b, e, _⟩ := hV 0 (by omega)
        rw [e] at x0 ⊢
        rw [← show b = 87 from x0]; rfl
      | succ q =>
        rw [atV_cons, ← c2 q (by omega), Nat.add_comm]
    refine ⟨?_, fun v hv => hNs v (by simp [hv]), hlu, by omega, hle⟩
    have hp : packed us (ul vs L - 1) = app (body us (ul vs L - 1)) [.int .u8 (cA (body us (ul vs L - 1)) (lenL (body us (ul vs L - 1)))), .int .u8 (cB (body us (ul vs L - 1)) (lenL (body us (ul vs L - 1))))] := rfl
    rw [hbl, cA_congr (us := vs) (fun q hq => by rw [hbv q hq]), cB_congr (us := vs) (fun q hq => by rw [hbv q hq]), ← x1, ← x2] at hp
    rw [hp]
    refine list_ext (by rw [lenL_app, hbl, hL]; show L - 2 + 2 = L; omega) fun i hi => ?_
    rw [lenL_app, hbl] at hi
    have hi : i < L - 2 + 2 := hi
    by_cases hi2 : i < L - 2
    · rw [atV_app1 (by rw [hbl]; exact hi2), hbv i hi2]
    · obtain ⟨b, e, _⟩ := hV i (by omega)
      by_cases hi3 : i = L - 2
      · subst hi3
        have := atV_app2 (body us (ul vs L - 1)) [.int .u8 (intOf (K.atV vs (L - 2))), .int .u8 (intOf (K.atV vs (L - 1)))] 0
        rw [hbl, Nat.add_zero] at this
        rw [this, e]; rfl
      · have : i = L - 2 + 1 := by omega
        have h2 := atV_app2 (body us (ul vs L - 1)) [.int .u8 (intOf (K.atV vs (L - 2))), .int .u8 (intOf (K.atV vs (L - 1)))] 1
        rw [hbl, ← this] at h2
        have hi4 : L - 1 = i := by omega
        rw [h2, hi4, e]; rfl
theorem okF_of {ws : List LV} (h : ∀ q, q < lenL ws → okN (intOf (K.atV ws q)) = true) : ∀ (j : Nat) (i : Int), 0 ≤ i → i.toNat + j ≤ lenL ws → okF ws j i = true
  | 0, i, _, _ => rfl
  | j + 1, i, h0, h1 => by
    have e : okF ws (j + 1) i = an (okN (wd ws i)) (okF ws j (i + 1)) := rfl
    rw [e, an_iff]
    refine ⟨?_, okF_of h j (i + 1) (by omega) (by omega)⟩
    unfold wd
    rw [Nat.zero_add, Nat.mul_one]; exact h _ (by omega)
theorem okF_to {ws : List LV} : ∀ (j : Nat) (i : Int), 0 ≤ i → okF ws j i = true → ∀ q, i.toNat ≤ q → q < i.toNat + j → okN (intOf (K.atV ws q)) = true
  | 0, i, _, _, q, h1, h2 => by omega
  | j + 1, i, h0, h, q, h1, h2 => by
    have e : okF ws (j + 1) i = an (okN (wd ws i)) (okF ws j (i + 1)) := rfl
    rw [e, an_iff] at h
    by_cases hq : q = i.toNat
    · subst hq
      have := h.1
      unfold wd at this
      rw [Nat.zero_add, Nat.mul_one] at this; exact this
    · exact okF_to j (i + 1) (by omega) h.2 q (by omega) (by omega)
theorem nums_okWG {ws : List LV} {W : Nat} (h : Nums ws) (hw : lenL ws = W) (hW : W ≤ 100000) : okWG ws W = true := by
  have hr : rem W 0 = W := by unfold rem; omega
  refine an_iff.2 ⟨okW_iff.2 ⟨hw, hW⟩, ?_⟩
  rw [hr]
  refine okF_of (fun q hq => ?_) W 0 (Int.le_refl 0) (by simp [hw])
  rw [K.lenL_eq] at hq
  rw [atV_get hq]
  obtain ⟨x, e, x0, x1⟩ := h _ (List.getElem_mem hq)
  rw [e]; exact okN_iff.2 ⟨x0, x1⟩
end S
end Go.Proofs.Ytogngajglbgjmaa.Ev
