/- Contracts, proved: Tfw. -/
import Derived.Test.YtlgfojaalmelhaaDoorTfwD
import Derived.Test.YtlgfojaalmelhaaDoorTofP
import Derived.Test.YtlgfojaalmelhaaDoorTshP
namespace Go.Proofs.YtlgfojaalmelhaaDoor.Ev
open Go
set_option linter.unusedVariables false
set_option linter.unusedSimpArgs false
set_option maxRecDepth 100000
set_option maxHeartbeats 1000000
namespace S
theorem an_iff {a b : Bool} : an a b = true ↔ a = true ∧ b = true := by cases a <;> cases b <;> decide
theorem bleN {a b : Nat} : Nat.ble a b = true ↔ a ≤ b := ⟨Nat.le_of_ble_eq_true, Nat.ble_eq_true_of_le⟩
theorem beqN {a b : Nat} : Nat.beq a b = true ↔ a = b := ⟨Nat.eq_of_beq_eq_true, fun h => by rw [h]; exact Nat.beq_refl _⟩
theorem okB_go {vs : List LV} : ∀ (n : Nat), (@Nat.rec (fun _ => Bool) true (fun i r => an (byOk (by1 vs i)) r) n) = true → ∀ i, i < n → 0 ≤ by1 vs i ∧ by1 vs i < 256
 | n + 1, h, i, hi => by
  obtain ⟨h1, h2⟩ := an_iff.1 (show an (byOk (by1 vs n)) _ = true from h)
  by_cases e : i = n
  ·subst e
   obtain ⟨h3, h4⟩ := an_iff.1 h1
   exact ⟨ltI_false.1 (notB_true.1 h3), ltI_true.1 h4⟩
  ·exact okB_go n h2 i (by omega)
theorem okB_at {vs : List LV} (h : okB vs = true) {i : Nat} (hi : i < lenL vs) : 0 ≤ by1 vs i ∧ by1 vs i < 256 := okB_go _ h i hi
theorem sub_all {l : List LV} {n : Nat} (h : lenL l = n) : sub l 0 n = l := by
 unfold sub; rw [← h, K.lenL_eq]
 simp [takeN_eq, dropN_eq]
theorem dcd_iff {p : Prop} : dcd p = true ↔ p := by unfold dcd; exact @decide_eq_true_iff p (Classical.propDecidable p)
theorem dcd_congr {p q : Prop} (h : p ↔ q) : dcd p = dcd q := by
 cases hp : dcd p with
 | true => exact (dcd_iff.2 (h.1 (dcd_iff.1 hp))).symm
 | false =>
  cases hq : dcd q with
  | true => rw [dcd_iff.2 (h.2 (dcd_iff.1 hq))] at hp; cases hp
  | false => rfl
theorem row_len (f : Nat → Bool) (W : Nat) : lenL (row f W) = W := by unfold row; rw [K.lenL_eq]; simp
theorem row_get (f : Nat → Bool) (W p : Nat) : (row f W)[p]? = if p < W then some (.bool (f p)) else none := by
 unfold row
 rw [List.getElem?_map]
 by_cases h : p < W
 ·rw [List.getElem?_range h, if_pos h]; rfl
 ·rw [if_neg h, List.getElem?_eq_none (by simp; omega)]; rfl
theorem row_at {f : Nat → Bool} {W p : Nat} (h : p < W) : K.atV (row f W) p = .bool (f p) := by
 unfold K.atV; rw [List.getD_eq_getElem?_getD, row_get, if_pos h]; rfl
theorem row_b {f : Nat → Bool} {W p : Nat} (h : p < W) : boolOf (K.atV (row f W) p) = f p := by rw [row_at h]; rfl
theorem row_bg {f : Nat → Bool} {W p : Nat} : bgAt (row f W) p = true ↔ p < W ∧ f p = true := by
 unfold bgAt
 by_cases h : p < W
 ·rw [row_b h]; exact ⟨fun e => ⟨h, e⟩, fun e => e.2⟩
 ·constructor
  ·intro e
   exfalso
   unfold K.atV at e
   rw [List.getD_eq_getElem?_getD, row_get, if_neg h] at e
   cases e
  ·exact fun e => absurd e.1 h
theorem row_ext {f g : Nat → Bool} {W : Nat} (h : ∀ p, p < W → f p = g p) : row f W = row g W := by
 apply List.ext_getElem?
 intro p
 rw [row_get, row_get]
 by_cases hp : p < W
 ·rw [if_pos hp, if_pos hp, h p hp]
 ·rw [if_neg hp, if_neg hp]
theorem row_upd {f : Nat → Bool} {W i : Nat} (h : i < W) : setMany (row f W) i [.bool true] = row (updB f i) W := by
 have hl : (row f W).length = W := by rw [← K.lenL_eq]; exact row_len f W
 rw [setMany_eq _ _ _ (by rw [hl]; simp; omega)]
 apply List.ext_getElem?
 intro p
 rw [row_get, List.append_assoc, List.getElem?_append, List.length_take, hl, Nat.min_eq_left (by omega)]
 by_cases h1 : p < i
 ·rw [if_pos h1, List.getElem?_take, if_pos h1, row_get]
  by_cases h2 : p < W
  ·rw [if_pos h2, if_pos h2]; unfold updB
   cases hb : Nat.beq p i with
   | true => have := beqN.1 hb; omega
   | false => rfl
  ·omega
 ·rw [if_neg h1]
  by_cases h2 : p = i
  ·subst h2
   rw [if_pos h, Nat.sub_self]
   unfold updB
   rw [beqN.2 rfl]; rfl
  ·have e : p - i = (p - i - 1) + 1 := by omega
   rw [e, List.singleton_append, List.getElem?_cons_succ, List.getElem?_drop]
   have e2 : i + [LV.bool true].length + (p - i - 1) = p := by simp; omega
   rw [e2, row_get]
   by_cases h3 : p < W
   ·rw [if_pos h3, if_pos h3]; unfold updB
    cases hb : Nat.beq p i with
    | true => have := beqN.1 hb; omega
    | false => rfl
   ·rw [if_neg h3, if_neg h3]
theorem cnt_same {f g : Nat → Bool} : ∀ {W : Nat}, (∀ p, p < W → f p = g p) → cnt f W = cnt g W
 | 0, _ => rfl
 | W + 1, h => by
  show cnt f W + bc (f W) 0 1 = cnt g W + bc (g W) 0 1
  rw [cnt_same fun p hp => h p (by omega), h W (by omega)]
theorem cnt_upd {f : Nat → Bool} {i : Nat} (hf : f i = false) : ∀ {W : Nat}, i < W → cnt (updB f i) W + 1 = cnt f W
 | W + 1, h => by
  show cnt (updB f i) W + bc (updB f i W) 0 1 + 1 = cnt f W + bc (f W) 0 1
  by_cases e : i = W
  ·subst e
   have e1 : updB f i i = true := by unfold updB; rw [beqN.2 rfl]; rfl
   rw [e1, hf, cnt_same (g := f) fun p hp => by
    unfold updB
    cases hb : Nat.beq p i with
    | true => have := beqN.1 hb; omega
    | false => rfl]
   rfl
  ·have e1 : updB f i W = f W := by
    unfold updB
    cases hb : Nat.beq W i with
    | true => have := beqN.1 hb; omega
    | false => rfl
   have := cnt_upd hf (W := W) (by omega)
   rw [e1]; omega
theorem updB_iff {f : Nat → Bool} {i p : Nat} : updB f i p = true ↔ p = i ∨ f p = true := by
 unfold updB
 cases hb : Nat.beq p i with
 | true => rw [bc_true]; exact ⟨fun _ => .inl (beqN.1 hb), fun _ => rfl⟩
 | false =>
  rw [bc_false]
  exact ⟨fun h => .inr h, fun h => by
   rcases h with h | h
   ·rw [beqN.2 h] at hb; cases hb
   ·exact h⟩
theorem rch_le {vs : List LV} {W : Nat} {a : Int} {E E2 : Int → Prop} (h : ∀ y, valid vs W a y → E y → rch vs W a E2 y) : ∀ {x}, rch vs W a E x → rch vs W a E2 x := by
 intro x hx
 induction hx with
 | start h1 h2 => exact h _ h2 h1
 | step _ h2 h3 ih => exact .step ih h2 h3
theorem cvR_congr {vs : List LV} {W : Nat} {a : Int} {E E2 : Int → Prop} (h : ∀ x, rch vs W a E x ↔ rch vs W a E2 x) : cvR vs W a E = cvR vs W a E2 := by
 unfold cvR
 refine row_ext fun p _ => dcd_congr ?_
 unfold cov
 exact ⟨fun ⟨i, h1, h2⟩ => ⟨i, (h i).1 h1, h2⟩, fun ⟨i, h1, h2⟩ => ⟨i, (h i).2 h1, h2⟩⟩
theorem sub_len {ws : List LV} {M : Nat} (h : M ≤ lenL ws) : lenL (sub ws 0 M) = M := by
 unfold sub; rw [K.lenL_eq, takeN_eq, dropN_eq]
 rw [K.lenL_eq] at h
 simp; omega
theorem sub_at {ws : List LV} {M k : Nat} (hk : k < M) : K.atV (sub ws 0 M) k = K.atV ws k := by
 unfold K.atV sub
 rw [takeN_eq, dropN_eq, List.getD_eq_getElem?_getD, List.getD_eq_getElem?_getD, List.getElem?_take, if_pos hk, List.drop_zero]
theorem ini_iff {f : Nat → Bool} {W M : Nat} {ws : List LV} {x : Int} (h : M ≤ lenL ws) : ini (row f W) (sub ws 0 M) x ↔ (0 ≤ x ∧ x < W ∧ f x.toNat = true) ∨ ∃ k, k < M ∧ intOf (K.atV ws k) = x := by
 unfold ini
 rw [row_bg, sub_len h]
 constructor
 ·rintro (⟨h1, h2, h3⟩ | ⟨k, h1, h2⟩)
  ·exact .inl ⟨h1, by omega, h3⟩
  ·exact .inr ⟨k, h1, by rw [← sub_at h1]; exact h2⟩
 ·rintro (⟨h1, h2, h3⟩ | ⟨k, h1, h2⟩)
  ·exact .inl ⟨h1, by omega, h3⟩
  ·exact .inr ⟨k, h1, by rw [sub_at h1]; exact h2⟩
theorem inv_pop {vs rc bg ws : List LV} {W M : Nat} {a x : Int} {f : Nat → Bool} (hI : Inv vs W a f rc bg ws M) (hM : 0 < M) (hx : intOf (K.atV ws (M - 1)) = x) (hs : valid vs W a x → f x.toNat = true) :
  Inv vs W a f rc bg ws (M - 1) ∧ fin vs W a bg ws M = fin vs W a bg ws (M - 1) := by
 have hle := hI.le
 refine ⟨⟨hI.bg, hI.rc, by omega, by have := hI.ms; omega, hI.ok, fun i hi hf y hy hv => ?_⟩, ?_⟩
 ·rcases hI.cl i hi hf y hy hv with h | ⟨k, hk, he⟩
  ·exact .inl h
  ·by_cases e : k = M - 1
   ·subst e
    rw [hx] at he; subst he
    exact .inl (hs hv)
   ·exact .inr ⟨k, by omega, he⟩
 ·unfold fin
  refine cvR_congr fun z => ?_
  rw [hI.bg]
  constructor
  ·refine rch_le fun y hv hy => ?_
   rcases (ini_iff hle).1 hy with h | ⟨k, hk, he⟩
   ·exact .start ((ini_iff (by omega)).2 (.inl h)) hv
   ·by_cases e : k = M - 1
    ·subst e
     rw [hx] at he; subst he
     exact .start ((ini_iff (by omega)).2 (.inl ⟨hv.1, hv.2.1, hs hv⟩)) hv
    ·exact .start ((ini_iff (by omega)).2 (.inr ⟨k, by omega, he⟩)) hv
  ·refine rch_le fun y hv hy => ?_
   rcases (ini_iff (by omega)).1 hy with h | ⟨k, hk, he⟩
   ·exact .start ((ini_iff hle).2 (.inl h)) hv
   ·exact .start ((ini_iff hle).2 (.inr ⟨k, by omega, he⟩)) hv
theorem inv_visit {vs rc bg ws ws2 : List LV} {W M M2 i : Nat} {a : Int} {f : Nat → Bool} {L : List Int} (hI : Inv vs W a f rc bg ws M) (hM : 0 < M) (hx : intOf (K.atV ws (M - 1)) = i) (hi : i < W) (hfit : fits vs W a i = true) (hf : f i = false)
  (hL : suc vs a i = L) (hl : M2 = M - 1 + L.length) (hle2 : M2 ≤ lenL ws2) (h2 : L.length ≤ 2) (hk : ∀ k, k < M - 1 → intOf (K.atV ws2 k) = intOf (K.atV ws k)) (hj : ∀ j (h : j < L.length), intOf (K.atV ws2 (M - 1 + j)) = L[j]) :
  Inv vs W a (updB f i) (row (cvf vs W (updB f i)) W) (row (updB f i) W) ws2 M2 ∧ fin vs W a bg ws M = fin vs W a (row (updB f i) W) ws2 M2 ∧ 3 * cnt (updB f i) W + M2 < 3 * cnt f W + M := by
 have hle := hI.le
 have hc := cnt_upd hf hi
 have hms := hI.ms
 have hv : valid vs W a (i : Int) := ⟨by omega, by omega, hfit⟩
 have hin : ∀ y, y ∈ L → ∃ k, k < M2 ∧ intOf (K.atV ws2 k) = y := fun y hy => by
  obtain ⟨j, hjl, he⟩ := List.getElem_of_mem hy
  exact ⟨M - 1 + j, by omega, (hj j hjl).trans he⟩
 have hold : ∀ k, k < M → intOf (K.atV ws k) = i ∨ ∃ q, q < M2 ∧ intOf (K.atV ws2 q) = intOf (K.atV ws k) := fun k hkM => by
  by_cases e : k = M - 1
  ·subst e; exact .inl hx
  ·exact .inr ⟨k, by omega, hk k (by omega)⟩
 refine ⟨⟨rfl, rfl, hle2, by omega, fun p hp h => ?_, fun p hp h y hy hvy => ?_⟩, ?_, by omega⟩
 ·rcases updB_iff.1 h with e | h
  ·subst e; exact hfit
  ·exact hI.ok p hp h
 ·rcases updB_iff.1 h with e | h
  ·subst e
   rw [hL] at hy
   exact .inr (hin y hy)
  ·rcases hI.cl p hp h y hy hvy with h | ⟨k, hkM, he⟩
   ·exact .inl (updB_iff.2 (.inr h))
   ·rcases hold k hkM with h | ⟨q, hq, hqe⟩
    ·left
     rw [he] at h
     subst h
     exact updB_iff.2 (.inl (by omega))
    ·exact .inr ⟨q, hq, hqe.trans he⟩
 ·unfold fin
  refine cvR_congr fun z => ?_
  rw [hI.bg]
  constructor
  ·refine rch_le fun y hv hy => ?_
   rcases (ini_iff hle).1 hy with ⟨h1, h2, h3⟩ | ⟨k, hkM, he⟩
   ·exact .start ((ini_iff hle2).2 (.inl ⟨h1, h2, updB_iff.2 (.inr h3)⟩)) hv
   ·rcases hold k hkM with h | ⟨q, hq, hqe⟩
    ·rw [he] at h
     exact .start ((ini_iff hle2).2 (.inl ⟨hv.1, hv.2.1, updB_iff.2 (.inl (by omega))⟩)) hv
    ·exact .start ((ini_iff hle2).2 (.inr ⟨q, hq, hqe.trans he⟩)) hv
  ·have hiR : rch vs W a (ini (row f W) (sub ws 0 M)) (i : Int) := .start ((ini_iff hle).2 (.inr ⟨M - 1, by omega, hx⟩)) hv
   refine rch_le fun y hv hy => ?_
   rcases (ini_iff hle2).1 hy with ⟨h1, h2, h3⟩ | ⟨k, hkM, he⟩
   ·rcases updB_iff.1 h3 with e | h3
    ·have : y = i := by omega
     subst this; exact hiR
    ·exact .start ((ini_iff hle).2 (.inl ⟨h1, h2, h3⟩)) hv
   ·by_cases hkk : k < M - 1
    ·exact .start ((ini_iff hle).2 (.inr ⟨k, by omega, (hk k hkk).symm.trans he⟩)) hv
    ·have hjl : k - (M - 1) < L.length := by omega
     have e := hj (k - (M - 1)) hjl
     rw [show M - 1 + (k - (M - 1)) = k by omega, he] at e
     refine .step hiR ?_ hv
     rw [Int.toNat_natCast, hL, e]
     exact List.getElem_mem hjl
theorem inv_end {vs rc bg ws : List LV} {W : Nat} {a : Int} {f : Nat → Bool} (hI : Inv vs W a f rc bg ws 0) : fin vs W a bg ws 0 = rc := by
 rw [hI.rc]
 unfold fin cvR
 refine row_ext fun p _ => ?_
 unfold cvf
 refine dcd_congr ?_
 have hin : ∀ x, rch vs W a (ini bg (sub ws 0 0)) x → 0 ≤ x ∧ x < W ∧ f x.toNat = true := by
  intro x hx
  rw [hI.bg] at hx
  induction hx with
  | start h _ =>
   rcases (ini_iff (Nat.zero_le _)).1 h with h | ⟨k, hk, _⟩
   ·exact h
   ·omega
  | step _ h2 h3 ih =>
   rcases hI.cl _ (by omega) ih.2.2 _ h2 h3 with h | ⟨k, hk, _⟩
   ·exact ⟨h3.1, h3.2.1, h⟩
   ·omega
 constructor
 ·rintro ⟨i, h1, h2⟩
  exact ⟨i, hin i h1, h2⟩
 ·rintro ⟨i, h1, h2⟩
  refine ⟨i, ?_, h2⟩
  rw [hI.bg]
  refine .start ((ini_iff (Nat.zero_le _)).2 (.inl h1)) ⟨h1.1, h1.2.1, hI.ok _ (by omega) h1.2.2⟩
theorem cvf_upd {vs : List LV} {W i p : Nat} {f : Nat → Bool} (hi : i < W) : cvf vs W (updB f i) p = true ↔ cvf vs W f p = true ∨ (i ≤ p ∧ (p : Int) < i + len (by1 vs i)) := by
 unfold cvf
 rw [dcd_iff, dcd_iff]
 unfold cov
 constructor
 ·rintro ⟨j, ⟨h1, h2, h3⟩, h4, h5⟩
  rcases updB_iff.1 h3 with e | h3
  ·have : j = i := by omega
   subst this; exact .inr ⟨h4, h5⟩
  ·exact .inl ⟨j, ⟨h1, h2, h3⟩, h4, h5⟩
 ·rintro (⟨j, ⟨h1, h2, h3⟩, h4, h5⟩ | ⟨h4, h5⟩)
  ·exact ⟨j, ⟨h1, h2, updB_iff.2 (.inr h3)⟩, h4, h5⟩
  ·exact ⟨i, ⟨by omega, by omega, updB_iff.2 (.inl (by omega))⟩, h4, h5⟩
theorem eqb {x y : Bool} (h : x = true ↔ y = true) : x = y := by
 cases x with
 | true => exact (h.1 rfl).symm
 | false =>
  cases y with
  | true => exact h.2 rfl
  | false => rfl
theorem rc_1 {vs : List LV} {W i : Nat} {f : Nat → Bool} (hi : i < W) (hk : len (by1 vs i) = 1) : setMany (row (cvf vs W f) W) i [.bool true] = row (cvf vs W (updB f i)) W := by
 rw [row_upd hi]
 refine row_ext fun p _ => eqb ?_
 rw [updB_iff, cvf_upd hi, hk]
 constructor
 ·rintro (h | h)
  ·exact .inr (by omega)
  ·exact .inl h
 ·rintro (h | h)
  ·exact .inr h
  ·exact .inl (by omega)
theorem rc_2 {vs : List LV} {W i : Nat} {f : Nat → Bool} (hi : i + 1 < W) (hk : len (by1 vs i) = 2) : setMany (setMany (row (cvf vs W f) W) i [.bool true]) (i + 1) [.bool true] = row (cvf vs W (updB f i)) W := by
 rw [row_upd (by omega), row_upd hi]
 refine row_ext fun p _ => eqb ?_
 rw [updB_iff, updB_iff, cvf_upd (by omega), hk]
 constructor
 ·rintro (h | h | h)
  ·exact .inr (by omega)
  ·exact .inr (by omega)
  ·exact .inl h
 ·rintro (h | h)
  ·exact .inr (.inr h)
  ·by_cases e : p = i
   ·exact .inr (.inl e)
   ·exact .inl (by omega)
theorem rc_3 {vs : List LV} {W i : Nat} {f : Nat → Bool} (hi : i + 2 < W) (hk : len (by1 vs i) = 3) : setMany (setMany (setMany (row (cvf vs W f) W) i [.bool true]) (i + 1) [.bool true]) (i + 2) [.bool true] = row (cvf vs W (updB f i)) W := by
 rw [row_upd (by omega), row_upd (by omega), row_upd hi]
 refine row_ext fun p _ => eqb ?_
 rw [updB_iff, updB_iff, updB_iff, cvf_upd (by omega), hk]
 constructor
 ·rintro (h | h | h | h)
  ·exact .inr (by omega)
  ·exact .inr (by omega)
  ·exact .inr (by omega)
  ·exact .inl h
 ·rintro (h | h)
  ·exact .inr (.inr (.inr h))
  ·by_cases e : p = i
   ·exact .inr (.inr (.inl e))
   ·by_cases e2 : p = i + 1
    ·exact .inr (.inl e2)
    ·exact .inl (by omega)
end S
theorem wl_Ei {a : Int} {c W : Nat} {x y : List LV} (h : x = y) : wl_E a c W x y := ⟨rfl, rfl, rfl, rfl, rfl, rfl, rfl, rfl, rfl, rfl, rfl, rfl, rfl, rfl, h, trivial⟩

namespace S
theorem tabK_all : ((List.range 256).all fun i => bc (eqI (kd (Int.ofNat i)) 4) (eqI (len (Int.ofNat i)) 2) true && bc (eqI (kd (Int.ofNat i)) 7) (eqI (len (Int.ofNat i)) 3) true && bc (eqI (kd (Int.ofNat i)) 8) (eqI (len (Int.ofNat i)) 3) true) = true := by kernel_rfl
theorem tabK {o : Int} (h : 0 ≤ o ∧ o < 256) : (eqI (kd o) 4 = true → len o = 2) ∧ (eqI (kd o) 7 = true → len o = 3) ∧ (eqI (kd o) 8 = true → len o = 3) := by
 obtain ⟨i, rfl⟩ := Int.eq_ofNat_of_zero_le h.1
 have := List.all_eq_true.1 tabK_all i (List.mem_range.2 (by omega))
 simp only [Bool.and_eq_true] at this
 obtain ⟨⟨h1, h2⟩, h3⟩ := this
 refine ⟨fun e => ?_, fun e => ?_, fun e => ?_⟩
 ·have e : eqI (kd (Int.ofNat i)) 4 = true := e
  rw [e, bc_true] at h1; exact eqI_true.1 h1
 ·have e : eqI (kd (Int.ofNat i)) 7 = true := e
  rw [e, bc_true] at h2; exact eqI_true.1 h2
 ·have e : eqI (kd (Int.ofNat i)) 8 = true := e
  rw [e, bc_true] at h3; exact eqI_true.1 h3
theorem len_cases (o : Int) : len o = 1 ∨ len o = 2 ∨ len o = 3 := by
 unfold len
 cases eqI (md o) 0 with
 | true => exact .inl rfl
 | false =>
  cases eqI (md o) 1 with
  | true => exact .inl rfl
  | false =>
   cases is3 (md o) with
   | true => exact .inr (.inr rfl)
   | false => exact .inr (.inl rfl)
theorem tgB {a i b : Int} (ha : 0 ≤ a ∧ a < 65536) (hi : 0 ≤ i ∧ i < 1000) (hb : 0 ≤ b ∧ b < 256) : wrapK .i64 (wrapK .i64 (wrapK .u16 (wrapK .u16 (a + i + 2) + wrapK .u16 (wrapK .i16 (wrapK .i8 b)))) - a) = rel a i b := by
 unfold rel
 rw [wrapK_i64, wrapK_i64, wrapK_u16, wrapK_u16, wrapK_u16, wrapK_i16, wrapK_i8]
 split <;> omega
theorem tgA {a b c : Int} (ha : 0 ≤ a ∧ a < 65536) (hb : 0 ≤ b ∧ b < 256) (hc : 0 ≤ c ∧ c < 256) : wrapK .i64 (wrapK .i64 (wrapK .i64 b + wrapK .i64 (wrapK .i64 c * (2 : Int) ^ (8 : Nat))) - a) = b + 256 * c - a := by
 rw [wrapK_i64, wrapK_i64, wrapK_i64, wrapK_i64, wrapK_i64]; omega
theorem app_at {ws : List LV} {n k : Nat} {l : List LV} (h : n ≤ lenL ws) : (k < n → K.atV (app (sub ws 0 n) l) k = K.atV ws k) ∧ K.atV (app (sub ws 0 n) l) (n + k) = K.atV l k ∧ lenL (app (sub ws 0 n) l) = n + lenL l := by
 have hl : (sub ws 0 n).length = n := by rw [← K.lenL_eq]; exact sub_len h
 refine ⟨fun hk => ?_, ?_, ?_⟩
 ·rw [← sub_at (ws := ws) hk]
  unfold K.atV
  rw [K.app_eq, List.getD_eq_getElem?_getD, List.getD_eq_getElem?_getD, List.getElem?_append_left (by omega)]
 ·unfold K.atV
  rw [K.app_eq, List.getD_eq_getElem?_getD, List.getD_eq_getElem?_getD, List.getElem?_append_right (by omega), hl, Nat.add_sub_cancel_left]
 ·rw [K.app_eq, K.lenL_eq, List.length_append, hl, K.lenL_eq]
end S
theorem lw1_k (o : Int) (g : Nat) (cs : List LV) (g1 : Nat) (m : Int) (h : S.an (bc (S.okG g cs g1) (S.isB o) false) (eqI (S.len o) 1) = true) : HT Tryd.prog 20 [.int .u8 o] (Heap.of [.glob g cs, .glob g1 [.int .i64 m]]) (.ret (.int .i64 1)) (Heap.of [.glob g cs, .glob g1 [.int .i64 m]]) := by
 obtain ⟨h1, h2⟩ := S.an_iff.1 h
 rw [← eqI_true.1 h2]
 exact cln_k o g cs g1 m h1
theorem lw1_ok : lw1E.ok Tryd.prog 20 := by
 intro xs os b r h h3
 unfold lw1E at h
 simp only at h
 split at h
 ·injection h with h; injection h with h1 h2; subst h1; subst h2
  exact lw1_k _ _ _ _ _ h3
 ·cases h
theorem lw2_k (o : Int) (g : Nat) (cs : List LV) (g1 : Nat) (m : Int) (h : S.an (bc (S.okG g cs g1) (S.isB o) false) (eqI (S.len o) 2) = true) : HT Tryd.prog 20 [.int .u8 o] (Heap.of [.glob g cs, .glob g1 [.int .i64 m]]) (.ret (.int .i64 2)) (Heap.of [.glob g cs, .glob g1 [.int .i64 m]]) := by
 obtain ⟨h1, h2⟩ := S.an_iff.1 h
 rw [← eqI_true.1 h2]
 exact cln_k o g cs g1 m h1
theorem lw2_ok : lw2E.ok Tryd.prog 20 := by
 intro xs os b r h h3
 unfold lw2E at h
 simp only at h
 split at h
 ·injection h with h; injection h with h1 h2; subst h1; subst h2
  exact lw2_k _ _ _ _ _ h3
 ·cases h
theorem lw3_k (o : Int) (g : Nat) (cs : List LV) (g1 : Nat) (m : Int) (h : S.an (bc (S.okG g cs g1) (S.isB o) false) (eqI (S.len o) 3) = true) : HT Tryd.prog 20 [.int .u8 o] (Heap.of [.glob g cs, .glob g1 [.int .i64 m]]) (.ret (.int .i64 3)) (Heap.of [.glob g cs, .glob g1 [.int .i64 m]]) := by
 obtain ⟨h1, h2⟩ := S.an_iff.1 h
 rw [← eqI_true.1 h2]
 exact cln_k o g cs g1 m h1
theorem lw3_ok : lw3E.ok Tryd.prog 20 := by
 intro xs os b r h h3
 unfold lw3E at h
 simp only at h
 split at h
 ·injection h with h; injection h with h1 h2; subst h1; subst h2
  exact lw3_k _ _ _ _ _ h3
 ·cases h
theorem wl1_run (m a : Int) (et c W M : Nat) (w : Own) (vs rc ws : List LV) (f : Nat → Bool) : K.RunL2 (envL [(21, cofE), (20, lw1E)]) K.openE 30 22 81 (inner (inner (blkOf 22 2))) wlEB [(7, .ptr 0 0)] [.cells 73 .exact [.int .i64 a, .slice 1 0 W (.known c), .slice 2 0 W (.known W), .slice 3 0 W (.known W), .slice 4 0 M (.rest 0)], .flat [.i .u8] et w vs, .flat [.bo] 4 .exact rc, .flat [.bo] 4 .exact (S.row f W), .flat [.i .i64] 3 (.grow 1) ws, .glob 0 S.tabV, .glob 1 [.int .i64 m]] (.skip 1 (.fork (.skip 2 (.fork .auto (.skip 4 (.fork .auto (.skip 8 (.fork .auto (.skip 1 (.take false (.skip 3 (.fork .auto (.skip 10 (.fork .auto (.skip 7 (.take false (.skip 3 (.fork .auto (.skip 1 (.take false (.skip 3 (.fork .auto (.skip 4 (.take false (.skip 4 (.fork (.skip 0 (.take true .auto)) (.skip 0 (.fork (.skip 0 (.take true .auto)) (.skip 0 (.fork (.skip 0 (.take true .auto)) (.skip 0 (.fork .auto (.skip 0 (.fork (.skip 1 (.fork .auto (.skip 1 (.take false .auto)))) (.skip 0 (.fork (.skip 0 (.take true (.skip 1 (.take false .auto)))) (.skip 0 (.fork (.skip 1 (.take false .auto)) .auto)))))))))))))))))))))))))))))))))))) .auto)) (Nat.beq M 0) ⟨.exit 2, [(7, .ptr 0 0)], [], []⟩ ⟨.exit 2, [(7, .ptr 0 0)], [(0, .cells 73 .exact [.int .i64 a, .slice 1 0 W (.known c), .slice 2 0 W (.known W), .slice 3 0 W (.known W), .slice 7 0 0 (.rest 0)]), (2, .flat [.bo] 4 .exact (S.fin vs W a (S.row f W) ws M)), (3, .dead), (4, .dead)], [.dead]⟩ =
  (bc (ltI 0 ↑M) (bc (ltI (wrapK IntKind.i64 (↑M - 1)) 0) False (bc (ltI (wrapK IntKind.i64 (↑M - 1)) ↑M) (bc (Nat.ble (0 + S.m1 M * 1 + 1) (lenL ws)) (bc (notB (ltI (wrapK IntKind.i64 (↑M - 1)) 0)) (bc (Nat.ble (S.m1 M) M) (bc (Nat.ble (0 + M * 1) (lenL (flatF [CK.i IntKind.i64] ws))) (bc (ltI (S.tp ws M) 0) (wl_T m a et c W (S.m1 M) w vs rc (S.row f W) ws ∧ bc (Nat.beq M 0) False (wl_E a c W (S.fin vs W a (S.row f W) ws M) (S.fin vs W a (S.row f W) ws (S.m1 M)))) (bc (notB (ltI (S.tp ws M) ↑W)) (wl_T m a et c W (S.m1 M) w vs rc (S.row f W) ws ∧ bc (Nat.beq M 0) False (wl_E a c W (S.fin vs W a (S.row f W) ws M) (S.fin vs W a (S.row f W) ws (S.m1 M)))) (ltI (S.tp ws M) (0 : Int) = false ∧ bc (ltI (S.tp ws M) ↑W) (bc (Nat.ble (0 + Int.toNat (S.tp ws M) * 1 + 1) (lenL vs)) (bc (S.an (bc (S.okG 0 S.tabV 1) (S.isB (S.ot vs ws M)) false) (eqI (S.len (S.ot vs ws M)) 1)) (bc (ltI (wrapK IntKind.i64 (↑W - S.tp ws M)) 1) (wl_T m a et c W (S.m1 M) w vs rc (S.row f W) ws ∧ bc (Nat.beq M 0) False (wl_E a c W (S.fin vs W a (S.row f W) ws M) (S.fin vs W a (S.row f W) ws (S.m1 M)))) (bc (ltI 65536 (wrapK IntKind.i64 (wrapK IntKind.i64 (a + S.tp ws M) + 1))) (wl_T m a et c W (S.m1 M) w vs rc (S.row f W) ws ∧ bc (Nat.beq M 0) False (wl_E a c W (S.fin vs W a (S.row f W) ws M) (S.fin vs W a (S.row f W) ws (S.m1 M)))) (ltI (S.tp ws M) (0 : Int) = false ∧ bc (ltI (S.tp ws M) ↑W) (bc (Nat.ble (0 + Int.toNat (S.tp ws M) * 1 + 1) (lenL (S.row f W))) (bc (boolOf (K.atV (S.row f W) (0 + Int.toNat (S.tp ws M) * 1))) (wl_T m a et c W (S.m1 M) w vs rc (S.row f W) ws ∧ bc (Nat.beq M 0) False (wl_E a c W (S.fin vs W a (S.row f W) ws M) (S.fin vs W a (S.row f W) ws (S.m1 M)))) (ltI (S.tp ws M) (0 : Int) = false ∧ bc (ltI (S.tp ws M) ↑W) (bc (Nat.ble (0 + Int.toNat (S.tp ws M) * 1 + 1) (lenL (S.row f W))) (bc (ltI (wrapK IntKind.i64 (S.tp ws M + 0)) 0) False (bc (ltI (wrapK IntKind.i64 (S.tp ws M + 0)) ↑W) (bc (Nat.ble (0 + Int.toNat (wrapK IntKind.i64 (S.tp ws M + 0)) * 1 + 1) (lenL rc)) (ltI (S.tp ws M) (0 : Int) = false ∧ bc (ltI (S.tp ws M) ↑W) (bc (Nat.ble (0 + Int.toNat (S.tp ws M) * 1 + 1) (lenL vs)) (bc (bc (S.okG 0 S.tabV 1) (S.isB (S.ot vs ws M)) false) (bc (eqI (S.kd (S.ot vs ws M)) 9) (eqI (S.kd (S.ot vs ws M)) (9 : Int) = true ∧ bc (Nat.ble (0 + S.m1 M) (lenL ws)) (wl_T m a et c W (S.m1 M) w vs (setMany rc (0 + Int.toNat (wrapK IntKind.i64 (S.tp ws M + 0)) * 1) [LV.bool true]) (setMany (S.row f W) (0 + Int.toNat (S.tp ws M) * 1) [LV.bool true]) ws ∧ bc (Nat.beq M 0) False (wl_E a c W (S.fin vs W a (S.row f W) ws M) (S.fin vs W a (setMany (S.row f W) (0 + Int.toNat (S.tp ws M) * 1) [LV.bool true]) ws (S.m1 M)))) False) (bc (eqI (S.kd (S.ot vs ws M)) 10) (eqI (S.kd (S.ot vs ws M)) (10 : Int) = true ∧ bc (Nat.ble (0 + S.m1 M) (lenL ws)) (wl_T m a et c W (S.m1 M) w vs (setMany rc (0 + Int.toNat (wrapK IntKind.i64 (S.tp ws M + 0)) * 1) [LV.bool true]) (setMany (S.row f W) (0 + Int.toNat (S.tp ws M) * 1) [LV.bool true]) ws ∧ bc (Nat.beq M 0) False (wl_E a c W (S.fin vs W a (S.row f W) ws M) (S.fin vs W a (setMany (S.row f W) (0 + Int.toNat (S.tp ws M) * 1) [LV.bool true]) ws (S.m1 M)))) False) (bc (eqI (S.kd (S.ot vs ws M)) 11) (eqI (S.kd (S.ot vs ws M)) (11 : Int) = true ∧ bc (Nat.ble (0 + S.m1 M) (lenL ws)) (wl_T m a et c W (S.m1 M) w vs (setMany rc (0 + Int.toNat (wrapK IntKind.i64 (S.tp ws M + 0)) * 1) [LV.bool true]) (setMany (S.row f W) (0 + Int.toNat (S.tp ws M) * 1) [LV.bool true]) ws ∧ bc (Nat.beq M 0) False (wl_E a c W (S.fin vs W a (S.row f W) ws M) (S.fin vs W a (setMany (S.row f W) (0 + Int.toNat (S.tp ws M) * 1) [LV.bool true]) ws (S.m1 M)))) False) (bc (eqI (S.kd (S.ot vs ws M)) 12) (bc (Nat.ble (0 + S.m1 M) (lenL ws)) (wl_T m a et c W (S.m1 M) w vs (setMany rc (0 + Int.toNat (wrapK IntKind.i64 (S.tp ws M + 0)) * 1) [LV.bool true]) (setMany (S.row f W) (0 + Int.toNat (S.tp ws M) * 1) [LV.bool true]) ws ∧ bc (Nat.beq M 0) False (wl_E a c W (S.fin vs W a (S.row f W) ws M) (S.fin vs W a (setMany (S.row f W) (0 + Int.toNat (S.tp ws M) * 1) [LV.bool true]) ws (S.m1 M)))) False) (bc (eqI (S.kd (S.ot vs ws M)) 7) (bc (eqI (S.md (S.ot vs ws M)) 12) (bc (Nat.ble (0 + S.m1 M) (lenL ws)) (wl_T m a et c W (S.m1 M) w vs (setMany rc (0 + Int.toNat (wrapK IntKind.i64 (S.tp ws M + 0)) * 1) [LV.bool true]) (setMany (S.row f W) (0 + Int.toNat (S.tp ws M) * 1) [LV.bool true]) ws ∧ bc (Nat.beq M 0) False (wl_E a c W (S.fin vs W a (S.row f W) ws M) (S.fin vs W a (setMany (S.row f W) (0 + Int.toNat (S.tp ws M) * 1) [LV.bool true]) ws (S.m1 M)))) False) (ltI (S.tp ws M) (0 : Int) = false ∧ bc (ltI (S.tp ws M) ↑W) (bc (Nat.ble (0 + Int.toNat (S.tp ws M) * 1 + 1) (lenL vs)) (bc (S.an (bc (S.okG 0 S.tabV 1) (S.isB (S.ot vs ws M)) false) (eqI (S.len (S.ot vs ws M)) 1)) (bc (ltI (wrapK IntKind.i64 (S.tp ws M + 1)) 0) False (bc (ltI (wrapK IntKind.i64 (S.tp ws M + 1)) ↑W) (bc (Nat.ble (0 + Int.toNat (wrapK IntKind.i64 (S.tp ws M + 1)) * 1 + 1) (lenL vs)) (bc (ltI (wrapK IntKind.i64 (S.tp ws M + 2)) 0) False (bc (ltI (wrapK IntKind.i64 (S.tp ws M + 2)) ↑W) (bc (Nat.ble (0 + Int.toNat (wrapK IntKind.i64 (S.tp ws M + 2)) * 1 + 1) (lenL vs)) (bc (Nat.ble (0 + S.m1 M) (lenL ws)) (bc (Nat.ble ((S.m1 M + 1) * 8) 1099511627776) (wl_T m a et c W (S.m1 M + 1) w vs (setMany rc (0 + Int.toNat (wrapK IntKind.i64 (S.tp ws M + 0)) * 1) [LV.bool true]) (setMany (S.row f W) (0 + Int.toNat (S.tp ws M) * 1) [LV.bool true]) (app (sub ws 0 (S.m1 M)) (sub (setMany [LV.int IntKind.i64 0] 0 [LV.int IntKind.i64 (wrapK IntKind.i64 (wrapK IntKind.i64 (wrapK IntKind.i64 (S.jn vs ws M 1) + wrapK IntKind.i64 (wrapK IntKind.i64 (S.jn vs ws M 2) * 2 ^ 8)) - a))]) 0 1)) ∧ bc (Nat.beq M 0) False (wl_E a c W (S.fin vs W a (S.row f W) ws M) (S.fin vs W a (setMany (S.row f W) (0 + Int.toNat (S.tp ws M) * 1) [LV.bool true]) (app (sub ws 0 (S.m1 M)) (sub (setMany [LV.int IntKind.i64 0] 0 [LV.int IntKind.i64 (wrapK IntKind.i64 (wrapK IntKind.i64 (wrapK IntKind.i64 (S.jn vs ws M 1) + wrapK IntKind.i64 (wrapK IntKind.i64 (S.jn vs ws M 2) * 2 ^ 8)) - a))]) 0 1)) (S.m1 M + 1)))) False) False) False) False)) False) False)) False) False) False)) (bc (eqI (S.kd (S.ot vs ws M)) 4) (eqI (S.kd (S.ot vs ws M)) (4 : Int) = true ∧ (ltI (S.tp ws M) (0 : Int) = false ∧ bc (ltI (S.tp ws M) ↑W) (bc (Nat.ble (0 + Int.toNat (S.tp ws M) * 1 + 1) (lenL vs)) (bc (S.an (bc (S.okG 0 S.tabV 1) (S.isB (S.ot vs ws M)) false) (eqI (S.len (S.ot vs ws M)) 1)) (bc (ltI (wrapK IntKind.i64 (S.tp ws M + 1)) 0) False (bc (ltI (wrapK IntKind.i64 (S.tp ws M + 1)) ↑W) (bc (Nat.ble (0 + Int.toNat (wrapK IntKind.i64 (S.tp ws M + 1)) * 1 + 1) (lenL vs)) (bc (ltI (wrapK IntKind.i64 (S.tp ws M + 2)) 0) False (bc (ltI (wrapK IntKind.i64 (S.tp ws M + 2)) ↑W) (bc (Nat.ble (0 + Int.toNat (wrapK IntKind.i64 (S.tp ws M + 2)) * 1 + 1) (lenL vs)) (bc (Nat.ble (0 + S.m1 M) (lenL ws)) (bc (Nat.ble ((S.m1 M + 2) * 8) 1099511627776) (wl_T m a et c W (S.m1 M + 2) w vs (setMany rc (0 + Int.toNat (wrapK IntKind.i64 (S.tp ws M + 0)) * 1) [LV.bool true]) (setMany (S.row f W) (0 + Int.toNat (S.tp ws M) * 1) [LV.bool true]) (app (sub ws 0 (S.m1 M)) (sub (setMany (setMany [LV.int IntKind.i64 0, LV.int IntKind.i64 0] 0 [LV.int IntKind.i64 (wrapK IntKind.i64 (wrapK IntKind.i64 (wrapK IntKind.i64 (S.jn vs ws M 1) + wrapK IntKind.i64 (wrapK IntKind.i64 (S.jn vs ws M 2) * 2 ^ 8)) - a))]) 1 [LV.int IntKind.i64 (wrapK IntKind.i64 (S.tp ws M + 1))]) 0 2)) ∧ bc (Nat.beq M 0) False (wl_E a c W (S.fin vs W a (S.row f W) ws M) (S.fin vs W a (setMany (S.row f W) (0 + Int.toNat (S.tp ws M) * 1) [LV.bool true]) (app (sub ws 0 (S.m1 M)) (sub (setMany (setMany [LV.int IntKind.i64 0, LV.int IntKind.i64 0] 0 [LV.int IntKind.i64 (wrapK IntKind.i64 (wrapK IntKind.i64 (wrapK IntKind.i64 (S.jn vs ws M 1) + wrapK IntKind.i64 (wrapK IntKind.i64 (S.jn vs ws M 2) * 2 ^ 8)) - a))]) 1 [LV.int IntKind.i64 (wrapK IntKind.i64 (S.tp ws M + 1))]) 0 2)) (S.m1 M + 2)))) False) False) False) False)) False) False)) False) False) False)) (bc (eqI (S.kd (S.ot vs ws M)) 8) (ltI (S.tp ws M) (0 : Int) = false ∧ bc (ltI (S.tp ws M) ↑W) (bc (Nat.ble (0 + Int.toNat (S.tp ws M) * 1 + 1) (lenL vs)) (bc (S.an (bc (S.okG 0 S.tabV 1) (S.isB (S.ot vs ws M)) false) (eqI (S.len (S.ot vs ws M)) 1)) (bc (ltI (wrapK IntKind.i64 (S.tp ws M + 1)) 0) False (bc (ltI (wrapK IntKind.i64 (S.tp ws M + 1)) ↑W) (bc (Nat.ble (0 + Int.toNat (wrapK IntKind.i64 (S.tp ws M + 1)) * 1 + 1) (lenL vs)) (bc (ltI (wrapK IntKind.i64 (S.tp ws M + 2)) 0) False (bc (ltI (wrapK IntKind.i64 (S.tp ws M + 2)) ↑W) (bc (Nat.ble (0 + Int.toNat (wrapK IntKind.i64 (S.tp ws M + 2)) * 1 + 1) (lenL vs)) (bc (Nat.ble (0 + S.m1 M) (lenL ws)) (bc (Nat.ble ((S.m1 M + 2) * 8) 1099511627776) (wl_T m a et c W (S.m1 M + 2) w vs (setMany rc (0 + Int.toNat (wrapK IntKind.i64 (S.tp ws M + 0)) * 1) [LV.bool true]) (setMany (S.row f W) (0 + Int.toNat (S.tp ws M) * 1) [LV.bool true]) (app (sub ws 0 (S.m1 M)) (sub (setMany (setMany [LV.int IntKind.i64 0, LV.int IntKind.i64 0] 0 [LV.int IntKind.i64 (wrapK IntKind.i64 (wrapK IntKind.i64 (wrapK IntKind.i64 (S.jn vs ws M 1) + wrapK IntKind.i64 (wrapK IntKind.i64 (S.jn vs ws M 2) * 2 ^ 8)) - a))]) 1 [LV.int IntKind.i64 (wrapK IntKind.i64 (S.tp ws M + 1))]) 0 2)) ∧ bc (Nat.beq M 0) False (wl_E a c W (S.fin vs W a (S.row f W) ws M) (S.fin vs W a (setMany (S.row f W) (0 + Int.toNat (S.tp ws M) * 1) [LV.bool true]) (app (sub ws 0 (S.m1 M)) (sub (setMany (setMany [LV.int IntKind.i64 0, LV.int IntKind.i64 0] 0 [LV.int IntKind.i64 (wrapK IntKind.i64 (wrapK IntKind.i64 (wrapK IntKind.i64 (S.jn vs ws M 1) + wrapK IntKind.i64 (wrapK IntKind.i64 (S.jn vs ws M 2) * 2 ^ 8)) - a))]) 1 [LV.int IntKind.i64 (wrapK IntKind.i64 (S.tp ws M + 1))]) 0 2)) (S.m1 M + 2)))) False) False) False) False)) False) False)) False) False) False) (bc (Nat.ble (0 + S.m1 M) (lenL ws)) (bc (Nat.ble ((S.m1 M + 1) * 8) 1099511627776) (wl_T m a et c W (S.m1 M + 1) w vs (setMany rc (0 + Int.toNat (wrapK IntKind.i64 (S.tp ws M + 0)) * 1) [LV.bool true]) (setMany (S.row f W) (0 + Int.toNat (S.tp ws M) * 1) [LV.bool true]) (app (sub ws 0 (S.m1 M)) (sub (setMany [LV.int IntKind.i64 0] 0 [LV.int IntKind.i64 (wrapK IntKind.i64 (S.tp ws M + 1))]) 0 1)) ∧ bc (Nat.beq M 0) False (wl_E a c W (S.fin vs W a (S.row f W) ws M) (S.fin vs W a (setMany (S.row f W) (0 + Int.toNat (S.tp ws M) * 1) [LV.bool true]) (app (sub ws 0 (S.m1 M)) (sub (setMany [LV.int IntKind.i64 0] 0 [LV.int IntKind.i64 (wrapK IntKind.i64 (S.tp ws M + 1))]) 0 1)) (S.m1 M + 1)))) False) False)))))))) False) False) False) False) False)) False) False)) False) False))) False) False) False))) False) False) False) False) False)) (bc (Nat.beq M 0) ((0 : Nat) = (0 : Nat) ∧ True) False)) := by kernel_rfl
theorem wl1_con (m a : Int) (et c W M : Nat) (w : Own) (vs rc ws : List LV) (f : Nat → Bool) (hb : S.okB vs = true) (hl : lenL vs = W) (hW : W ≤ 1000) (hA : 0 ≤ a ∧ a < 65536) (hI : S.Inv vs W a f rc (S.row f W) ws M) (hk : 0 < M → ∀ i : Nat, intOf (K.atV ws (M - 1)) = i → i < W → S.len (S.by1 vs i) = 1) (IH : ∀ (M2 : Nat) (rc2 bg2 ws2 : List LV) (f2 : Nat → Bool), 3 * S.cnt f2 W + M2 < 3 * S.cnt f W + M → S.Inv vs W a f2 rc2 bg2 ws2 M2 → wl_T m a et c W M2 w vs rc2 bg2 ws2) : GT Tryd.prog (fun k => .code (inner (inner (blkOf 22 2))) :: .inLoop (inner (inner (blkOf 22 2))) :: k) (Fr.ofL 22 81 [(7, .ptr 0 0)] [] none) (Heap.of [.cells 73 .exact [.int .i64 a, .slice 1 0 W (.known c), .slice 2 0 W (.known W), .slice 3 0 W (.known W), .slice 4 0 M (.rest 0)], .flat [.i .u8] et w vs, .flat [.bo] 4 .exact rc, .flat [.bo] 4 .exact (S.row f W), .flat [.i .i64] 3 (.grow 1) ws, .glob 0 S.tabV, .glob 1 [.int .i64 m]]) ((bc (Nat.beq M 0) ⟨.exit 2, [(7, .ptr 0 0)], [], []⟩ ⟨.exit 2, [(7, .ptr 0 0)], [(0, .cells 73 .exact [.int .i64 a, .slice 1 0 W (.known c), .slice 2 0 W (.known W), .slice 3 0 W (.known W), .slice 7 0 0 (.rest 0)]), (2, .flat [.bo] 4 .exact (S.fin vs W a (S.row f W) ws M)), (3, .dead), (4, .dead)], [.dead]⟩) : K.BRes).x (Fr.ofL 22 81 ((bc (Nat.beq M 0) ⟨.exit 2, [(7, .ptr 0 0)], [], []⟩ ⟨.exit 2, [(7, .ptr 0 0)], [(0, .cells 73 .exact [.int .i64 a, .slice 1 0 W (.known c), .slice 2 0 W (.known W), .slice 3 0 W (.known W), .slice 7 0 0 (.rest 0)]), (2, .flat [.bo] 4 .exact (S.fin vs W a (S.row f W) ws M)), (3, .dead), (4, .dead)], [.dead]⟩) : K.BRes).L [] none) (Heap.of (K.chg [.cells 73 .exact [.int .i64 a, .slice 1 0 W (.known c), .slice 2 0 W (.known W), .slice 3 0 W (.known W), .slice 4 0 M (.rest 0)], .flat [.i .u8] et w vs, .flat [.bo] 4 .exact rc, .flat [.bo] 4 .exact (S.row f W), .flat [.i .i64] 3 (.grow 1) ws, .glob 0 S.tabV, .glob 1 [.int .i64 m]] ((bc (Nat.beq M 0) ⟨.exit 2, [(7, .ptr 0 0)], [], []⟩ ⟨.exit 2, [(7, .ptr 0 0)], [(0, .cells 73 .exact [.int .i64 a, .slice 1 0 W (.known c), .slice 2 0 W (.known W), .slice 3 0 W (.known W), .slice 7 0 0 (.rest 0)]), (2, .flat [.bo] 4 .exact (S.fin vs W a (S.row f W) ws M)), (3, .dead), (4, .dead)], [.dead]⟩) : K.BRes).ch ++ ((bc (Nat.beq M 0) ⟨.exit 2, [(7, .ptr 0 0)], [], []⟩ ⟨.exit 2, [(7, .ptr 0 0)], [(0, .cells 73 .exact [.int .i64 a, .slice 1 0 W (.known c), .slice 2 0 W (.known W), .slice 3 0 W (.known W), .slice 7 0 0 (.rest 0)]), (2, .flat [.bo] 4 .exact (S.fin vs W a (S.row f W) ws M)), (3, .dead), (4, .dead)], [.dead]⟩) : K.BRes).new)) := by
 have hr := cast (wl1_run m a et c W M w vs rc ws f).symm (by
  by_cases hM : 0 < M
  rotate_left
  ·have z : M = 0 := by omega
   subst z
   have e : ltI 0 ((0 : Nat) : Int) = false := rfl
   have z2 : Nat.beq 0 0 = true := rfl
   simp only [e, z2, bc_false, bc_true, and_true]
  have hle := hI.le
  have hms := hI.ms
  have m1 : wrapK .i64 ((M : Int) - 1) = ((M - 1 : Nat) : Int) := by rw [wrapK_i64]; omega
  have m2 : S.m1 M = M - 1 := by
   show Int.toNat (wrapK .i64 ((M : Int) - 1)) = M - 1
   rw [m1]; exact Int.toNat_natCast _
  obtain ⟨x, hx⟩ : ∃ x, intOf (K.atV ws (M - 1)) = x := ⟨_, rfl⟩
  have tpx : S.tp ws M = x := by unfold S.tp; rw [m2, Nat.zero_add, Nat.mul_one]; exact hx
  have e1 : ltI 0 (M : Int) = true := ltI_true.2 (by omega)
  have n1 : ltI ((M - 1 : Nat) : Int) 0 = false := ltI_false.2 (by omega)
  have e2 : ltI ((M - 1 : Nat) : Int) M = true := ltI_true.2 (by omega)
  have b1 : Nat.ble (M - 1 + 1) (lenL ws) = true := S.bleN.2 (by omega)
  have b2 : Nat.ble (M - 1) M = true := S.bleN.2 (by omega)
  have b3 : Nat.ble M (lenL (flatF [.i .i64] ws)) = true := S.bleN.2 (by rw [K.lenL_eq, flat_length, ← K.lenL_eq]; omega)
  have nz : Nat.beq M 0 = false := by
   cases h : Nat.beq M 0 with
   | false => rfl
   | true => have := S.beqN.1 h; omega
  have SK : ∀ (h : S.valid vs W a x → f x.toNat = true), wl_T m a et c W (M - 1) w vs rc (S.row f W) ws ∧ wl_E a c W (S.fin vs W a (S.row f W) ws M) (S.fin vs W a (S.row f W) ws (M - 1)) := fun h => by
   obtain ⟨p1, p2⟩ := S.inv_pop hI hM hx h
   exact ⟨IH (M - 1) rc (S.row f W) ws f (by omega) p1, wl_Ei p2⟩
  by_cases h0 : x < 0
  ·simp only [m1, m2, tpx, e1, n1, e2, b1, b2, b3, ltI_true.2 h0, nz, Nat.zero_add, Nat.mul_one, notB_t, notB_f, bc_true, bc_false, true_and]
   exact SK (fun h => absurd h.1 (by omega))
  have x0 := ltI_false.2 (Int.not_lt.1 h0)
  by_cases h1 : (W : Int) ≤ x
  ·simp only [m1, m2, tpx, e1, n1, e2, b1, b2, b3, x0, ltI_false.2 h1, nz, Nat.zero_add, Nat.mul_one, notB_t, notB_f, bc_true, bc_false, true_and]
   exact SK (fun h => absurd h.2.1 (by omega))
  obtain ⟨i, rfl⟩ : ∃ i : Nat, x = i := ⟨x.toNat, by omega⟩
  have hi : i < W := by omega
  have hk := hk hM i hx hi
  have T : ∀ z : Nat, Int.toNat (z : Int) = z := Int.toNat_natCast
  have x1 : ltI (i : Int) W = true := ltI_true.2 (by omega)
  have ot : S.ot vs ws M = S.by1 vs i := by unfold S.ot; rw [tpx, Nat.zero_add, Int.toNat_natCast, Nat.mul_one]; rfl
  have bi : Nat.ble (i + 1) (lenL vs) = true := S.bleN.2 (by omega)
  have g0 := S.okB_at hb (i := i) (by omega)
  have iB : S.isB (S.by1 vs i) = true := S.isB_iff.2 g0
  have hG := S.okG_0
  have at2 : S.an true true = true := rfl
  have hkE : eqI (S.len (S.by1 vs i)) 1 = true := eqI_true.2 hk
  have ww : wrapK .i64 ((W : Int) - i) = (W : Int) - i := by rw [wrapK_i64]; omega
  have wa : wrapK .i64 (wrapK .i64 (a + i) + 1) = a + i + 1 := by rw [wrapK_i64, wrapK_i64]; omega
  have fit : S.fits vs W a i = true ↔ ¬ ((W : Int) - i < 1) ∧ ¬ (65536 < a + i + 1) := by unfold S.fits; rw [S.an_iff, notB_true, notB_true, ltI_false, ltI_false, hk]; omega
  by_cases h2 : (W : Int) - i < 1
  ·simp only [m1, m2, tpx, e1, n1, e2, b1, b2, b3, x0, x1, ot, bi, iB, hG, at2, hkE, ww, wa, nz, T, Nat.zero_add, Nat.mul_one, notB_t, notB_f, bc_true, bc_false, true_and, ltI_true.2 h2]
   exact SK (fun h => by have := h.2.2; rw [T] at this; exact absurd h2 (fit.1 this).1)
  by_cases h3 : 65536 < a + i + 1
  ·simp only [m1, m2, tpx, e1, n1, e2, b1, b2, b3, x0, x1, ot, bi, iB, hG, at2, hkE, ww, wa, nz, T, Nat.zero_add, Nat.mul_one, notB_t, notB_f, bc_true, bc_false, true_and, ltI_false.2 (Int.not_lt.1 h2), ltI_true.2 h3]
   exact SK (fun h => by have := h.2.2; rw [T] at this; exact absurd h3 (fit.1 this).2)
  have hfit := fit.2 ⟨h2, h3⟩
  have k2 := ltI_false.2 (Int.not_lt.1 h2)
  have k3 := ltI_false.2 (Int.not_lt.1 h3)
  have rl : ∀ g, lenL (S.row g W) = W := fun g => S.row_len g W
  have br : Nat.ble (i + 1) W = true := S.bleN.2 (by omega)
  have rb : boolOf (K.atV (S.row f W) i) = f i := S.row_b hi
  cases hf : f i with
  | true =>
   simp only [m1, m2, tpx, e1, n1, e2, b1, b2, b3, x0, x1, ot, bi, iB, hG, at2, hkE, ww, wa, nz, T, Nat.zero_add, Nat.mul_one, notB_t, notB_f, bc_true, bc_false, true_and, k2, k3, rl, br, rb, hf]
   exact SK (fun _ => by rw [T]; exact hf)
  | false =>
   have hrc := hI.rc
   subst hrc
   have w0 : wrapK .i64 ((i : Int) + 0) = (i : Int) := by rw [wrapK_i64]; omega
   have w1 : wrapK .i64 ((i : Int) + 1) = ((i + 1 : Nat) : Int) := by rw [wrapK_i64]; omega
   have w2 : wrapK .i64 ((i : Int) + 2) = ((i + 2 : Nat) : Int) := by rw [wrapK_i64]; omega
   have w3 : wrapK .i64 ((i : Int) + 3) = ((i + 3 : Nat) : Int) := by rw [wrapK_i64]; omega
   have b4 : Nat.ble (M - 1) (lenL ws) = true := S.bleN.2 (by omega)
   have b5 : Nat.ble ((M - 1 + 1) * 8) 1099511627776 = true := S.bleN.2 (by omega)
   have b6 : Nat.ble ((M - 1 + 2) * 8) 1099511627776 = true := S.bleN.2 (by omega)
   have st1 : ∀ y : Int, sub (setMany [LV.int .i64 0] 0 [LV.int .i64 y]) 0 1 = [LV.int .i64 y] := fun y => rfl
   have st2 : ∀ y z : Int, sub (setMany (setMany [LV.int .i64 0, LV.int .i64 0] 0 [LV.int .i64 y]) 1 [LV.int .i64 z]) 0 2 = [LV.int .i64 y, LV.int .i64 z] := fun y z => rfl
   have hK := S.tabK g0
   have rcE : setMany (S.row (S.cvf vs W f) W) i [.bool true] = S.row (S.cvf vs W (S.updB f i)) W := S.rc_1 (f := f) (by omega) hk
   have u0 : setMany (S.row f W) i [.bool true] = S.row (S.updB f i) W := S.row_upd hi
   have V0 : S.suc vs a i = [] → wl_T m a et c W (M - 1) w vs (S.row (S.cvf vs W (S.updB f i)) W) (S.row (S.updB f i) W) ws ∧ wl_E a c W (S.fin vs W a (S.row f W) ws M) (S.fin vs W a (S.row (S.updB f i) W) ws (M - 1)) := fun hs => by
    obtain ⟨p1, p2, p3⟩ := S.inv_visit (ws2 := ws) (M2 := M - 1) hI hM hx hi hfit hf hs rfl (by omega) (by decide) (fun _ _ => rfl) (fun j h => absurd h (Nat.not_lt_zero j))
    exact ⟨IH (M - 1) _ _ ws (S.updB f i) p3 p1, wl_Ei p2⟩
   have V1 : ∀ y : Int, S.suc vs a i = [y] → wl_T m a et c W (M - 1 + 1) w vs (S.row (S.cvf vs W (S.updB f i)) W) (S.row (S.updB f i) W) (app (sub ws 0 (M - 1)) [LV.int .i64 y]) ∧ wl_E a c W (S.fin vs W a (S.row f W) ws M) (S.fin vs W a (S.row (S.updB f i) W) (app (sub ws 0 (M - 1)) [LV.int .i64 y]) (M - 1 + 1)) := fun y hs => by
    have A := fun k => S.app_at (ws := ws) (n := M - 1) (k := k) (l := [LV.int .i64 y]) (by omega)
    obtain ⟨p1, p2, p3⟩ := S.inv_visit (ws2 := app (sub ws 0 (M - 1)) [LV.int .i64 y]) (M2 := M - 1 + 1) hI hM hx hi hfit hf hs rfl (by rw [(A 0).2.2]; exact Nat.le_refl _) (by simp) (fun k h => by rw [(A k).1 h]) (fun j h => by
     rw [(A j).2.1]
     have : j = 0 := by simp at h; omega
     subst this; rfl)
    exact ⟨IH (M - 1 + 1) _ _ _ (S.updB f i) p3 p1, wl_Ei p2⟩
   have V2 : ∀ y z : Int, S.suc vs a i = [y, z] → wl_T m a et c W (M - 1 + 2) w vs (S.row (S.cvf vs W (S.updB f i)) W) (S.row (S.updB f i) W) (app (sub ws 0 (M - 1)) [LV.int .i64 y, LV.int .i64 z]) ∧ wl_E a c W (S.fin vs W a (S.row f W) ws M) (S.fin vs W a (S.row (S.updB f i) W) (app (sub ws 0 (M - 1)) [LV.int .i64 y, LV.int .i64 z]) (M - 1 + 2)) := fun y z hs => by
    have A := fun k => S.app_at (ws := ws) (n := M - 1) (k := k) (l := [LV.int .i64 y, LV.int .i64 z]) (by omega)
    obtain ⟨p1, p2, p3⟩ := S.inv_visit (ws2 := app (sub ws 0 (M - 1)) [LV.int .i64 y, LV.int .i64 z]) (M2 := M - 1 + 2) hI hM hx hi hfit hf hs rfl (by rw [(A 0).2.2]; exact Nat.le_refl _) (by simp) (fun k h => by rw [(A k).1 h]) (fun j h => by
     rw [(A j).2.1]
     have : j = 0 ∨ j = 1 := by simp at h; omega
     rcases this with rfl | rfl <;> rfl)
    exact ⟨IH (M - 1 + 2) _ _ _ (S.updB f i) p3 p1, wl_Ei p2⟩
   cases q9 : eqI (S.kd (S.by1 vs i)) 9 with
   | true =>
    simp only [m1, m2, tpx, e1, n1, e2, b1, b2, b3, x0, x1, ot, bi, iB, hG, at2, hkE, ww, wa, nz, T, Nat.zero_add, Nat.mul_one, notB_t, notB_f, bc_true, bc_false, true_and, k2, k3, rl, br, rb, hf, w0, w1, w2, w3, b4, b5, b6, st1, st2, u0, rcE, q9]
    exact V0 (by unfold S.suc S.isE; rw [q9]; rfl)
   | false =>
    cases q10 : eqI (S.kd (S.by1 vs i)) 10 with
    | true =>
     simp only [m1, m2, tpx, e1, n1, e2, b1, b2, b3, x0, x1, ot, bi, iB, hG, at2, hkE, ww, wa, nz, T, Nat.zero_add, Nat.mul_one, notB_t, notB_f, bc_true, bc_false, true_and, k2, k3, rl, br, rb, hf, w0, w1, w2, w3, b4, b5, b6, st1, st2, u0, rcE, q9, q10]
     exact V0 (by unfold S.suc S.isE; rw [q9, q10]; rfl)
    | false =>
     cases q11 : eqI (S.kd (S.by1 vs i)) 11 with
     | true =>
      simp only [m1, m2, tpx, e1, n1, e2, b1, b2, b3, x0, x1, ot, bi, iB, hG, at2, hkE, ww, wa, nz, T, Nat.zero_add, Nat.mul_one, notB_t, notB_f, bc_true, bc_false, true_and, k2, k3, rl, br, rb, hf, w0, w1, w2, w3, b4, b5, b6, st1, st2, u0, rcE, q9, q10, q11]
      exact V0 (by unfold S.suc S.isE; rw [q9, q10, q11]; rfl)
     | false =>
      cases q12 : eqI (S.kd (S.by1 vs i)) 12 with
      | true =>
       simp only [m1, m2, tpx, e1, n1, e2, b1, b2, b3, x0, x1, ot, bi, iB, hG, at2, hkE, ww, wa, nz, T, Nat.zero_add, Nat.mul_one, notB_t, notB_f, bc_true, bc_false, true_and, k2, k3, rl, br, rb, hf, w0, w1, w2, w3, b4, b5, b6, st1, st2, u0, rcE, q9, q10, q11, q12]
       exact V0 (by unfold S.suc S.isE; rw [q9, q10, q11, q12]; rfl)
      | false =>
       cases q7 : eqI (S.kd (S.by1 vs i)) 7 with
       | true => have := hK.2.1 q7; omega
       | false =>
        cases q4 : eqI (S.kd (S.by1 vs i)) 4 with
        | true => have := hK.1 q4; omega
        | false =>
         cases q8 : eqI (S.kd (S.by1 vs i)) 8 with
         | true => have := hK.2.2 q8; omega
         | false =>
          simp only [m1, m2, tpx, e1, n1, e2, b1, b2, b3, x0, x1, ot, bi, iB, hG, at2, hkE, ww, wa, nz, T, Nat.zero_add, Nat.mul_one, notB_t, notB_f, bc_true, bc_false, true_and, k2, k3, rl, br, rb, hf, w0, w1, w2, w3, b4, b5, b6, st1, st2, u0, rcE, q9, q10, q11, q12, q7, q4, q8]
          exact V1 _ (by unfold S.suc S.isE; rw [q9, q10, q11, q12, q7, q4, q8, hk]; rfl))
 obtain ⟨q1, q2⟩ := K.RunL2.one hr
 cases hb : Nat.beq M 0
 ·exact K.loop_of_run good (envL_ok (fun p hp => by simp only [List.mem_cons, List.not_mem_nil, or_false] at hp; rcases hp with rfl | rfl <;> first | exact cof_ok | exact lw1_ok)) K.openE_ok (q2 hb)
 ·exact K.loop_of_run good (envL_ok (fun p hp => by simp only [List.mem_cons, List.not_mem_nil, or_false] at hp; rcases hp with rfl | rfl <;> first | exact cof_ok | exact lw1_ok)) K.openE_ok (q1 hb)
theorem wl2_run (m a : Int) (et c W M : Nat) (w : Own) (vs rc ws : List LV) (f : Nat → Bool) : K.RunL2 (envL [(21, cofE), (20, lw2E)]) K.openE 30 22 81 (inner (inner (blkOf 22 2))) wlEB [(7, .ptr 0 0)] [.cells 73 .exact [.int .i64 a, .slice 1 0 W (.known c), .slice 2 0 W (.known W), .slice 3 0 W (.known W), .slice 4 0 M (.rest 0)], .flat [.i .u8] et w vs, .flat [.bo] 4 .exact rc, .flat [.bo] 4 .exact (S.row f W), .flat [.i .i64] 3 (.grow 1) ws, .glob 0 S.tabV, .glob 1 [.int .i64 m]] (.skip 1 (.fork (.skip 2 (.fork .auto (.skip 4 (.fork .auto (.skip 8 (.fork .auto (.skip 1 (.take false (.skip 3 (.fork .auto (.skip 10 (.fork .auto (.skip 7 (.take false (.skip 3 (.fork .auto (.skip 1 (.take false (.skip 3 (.fork .auto (.skip 3 (.fork .auto (.skip 4 (.take false (.skip 4 (.fork (.skip 0 (.take true .auto)) (.skip 0 (.fork (.skip 0 (.take true .auto)) (.skip 0 (.fork (.skip 0 (.take true .auto)) (.skip 0 (.fork .auto (.skip 0 (.fork (.skip 1 (.fork .auto (.skip 1 (.take false .auto)))) (.skip 0 (.fork (.skip 0 (.take true (.skip 1 (.take false .auto)))) (.skip 0 (.fork (.skip 1 (.take false .auto)) .auto)))))))))))))))))))))))))))))))))))))) .auto)) (Nat.beq M 0) ⟨.exit 2, [(7, .ptr 0 0)], [], []⟩ ⟨.exit 2, [(7, .ptr 0 0)], [(0, .cells 73 .exact [.int .i64 a, .slice 1 0 W (.known c), .slice 2 0 W (.known W), .slice 3 0 W (.known W), .slice 7 0 0 (.rest 0)]), (2, .flat [.bo] 4 .exact (S.fin vs W a (S.row f W) ws M)), (3, .dead), (4, .dead)], [.dead]⟩ =
  (bc (ltI 0 ↑M) (bc (ltI (wrapK IntKind.i64 (↑M - 1)) 0) False (bc (ltI (wrapK IntKind.i64 (↑M - 1)) ↑M) (bc (Nat.ble (0 + S.m1 M * 1 + 1) (lenL ws)) (bc (notB (ltI (wrapK IntKind.i64 (↑M - 1)) 0)) (bc (Nat.ble (S.m1 M) M) (bc (Nat.ble (0 + M * 1) (lenL (flatF [CK.i IntKind.i64] ws))) (bc (ltI (S.tp ws M) 0) (wl_T m a et c W (S.m1 M) w vs rc (S.row f W) ws ∧ bc (Nat.beq M 0) False (wl_E a c W (S.fin vs W a (S.row f W) ws M) (S.fin vs W a (S.row f W) ws (S.m1 M)))) (bc (notB (ltI (S.tp ws M) ↑W)) (wl_T m a et c W (S.m1 M) w vs rc (S.row f W) ws ∧ bc (Nat.beq M 0) False (wl_E a c W (S.fin vs W a (S.row f W) ws M) (S.fin vs W a (S.row f W) ws (S.m1 M)))) (ltI (S.tp ws M) (0 : Int) = false ∧ bc (ltI (S.tp ws M) ↑W) (bc (Nat.ble (0 + Int.toNat (S.tp ws M) * 1 + 1) (lenL vs)) (bc (S.an (bc (S.okG 0 S.tabV 1) (S.isB (S.ot vs ws M)) false) (eqI (S.len (S.ot vs ws M)) 2)) (bc (ltI (wrapK IntKind.i64 (↑W - S.tp ws M)) 2) (wl_T m a et c W (S.m1 M) w vs rc (S.row f W) ws ∧ bc (Nat.beq M 0) False (wl_E a c W (S.fin vs W a (S.row f W) ws M) (S.fin vs W a (S.row f W) ws (S.m1 M)))) (bc (ltI 65536 (wrapK IntKind.i64 (wrapK IntKind.i64 (a + S.tp ws M) + 2))) (wl_T m a et c W (S.m1 M) w vs rc (S.row f W) ws ∧ bc (Nat.beq M 0) False (wl_E a c W (S.fin vs W a (S.row f W) ws M) (S.fin vs W a (S.row f W) ws (S.m1 M)))) (ltI (S.tp ws M) (0 : Int) = false ∧ bc (ltI (S.tp ws M) ↑W) (bc (Nat.ble (0 + Int.toNat (S.tp ws M) * 1 + 1) (lenL (S.row f W))) (bc (boolOf (K.atV (S.row f W) (0 + Int.toNat (S.tp ws M) * 1))) (wl_T m a et c W (S.m1 M) w vs rc (S.row f W) ws ∧ bc (Nat.beq M 0) False (wl_E a c W (S.fin vs W a (S.row f W) ws M) (S.fin vs W a (S.row f W) ws (S.m1 M)))) (ltI (S.tp ws M) (0 : Int) = false ∧ bc (ltI (S.tp ws M) ↑W) (bc (Nat.ble (0 + Int.toNat (S.tp ws M) * 1 + 1) (lenL (S.row f W))) (bc (ltI (wrapK IntKind.i64 (S.tp ws M + 0)) 0) False (bc (ltI (wrapK IntKind.i64 (S.tp ws M + 0)) ↑W) (bc (Nat.ble (0 + Int.toNat (wrapK IntKind.i64 (S.tp ws M + 0)) * 1 + 1) (lenL rc)) (bc (ltI (wrapK IntKind.i64 (S.tp ws M + 1)) 0) False (bc (ltI (wrapK IntKind.i64 (S.tp ws M + 1)) ↑W) (bc (Nat.ble (0 + Int.toNat (wrapK IntKind.i64 (S.tp ws M + 1)) * 1 + 1) (lenL (setMany rc (0 + Int.toNat (wrapK IntKind.i64 (S.tp ws M + 0)) * 1) [LV.bool true]))) (ltI (S.tp ws M) (0 : Int) = false ∧ bc (ltI (S.tp ws M) ↑W) (bc (Nat.ble (0 + Int.toNat (S.tp ws M) * 1 + 1) (lenL vs)) (bc (bc (S.okG 0 S.tabV 1) (S.isB (S.ot vs ws M)) false) (bc (eqI (S.kd (S.ot vs ws M)) 9) (eqI (S.kd (S.ot vs ws M)) (9 : Int) = true ∧ bc (Nat.ble (0 + S.m1 M) (lenL ws)) (wl_T m a et c W (S.m1 M) w vs (setMany (setMany rc (0 + Int.toNat (wrapK IntKind.i64 (S.tp ws M + 0)) * 1) [LV.bool true]) (0 + Int.toNat (wrapK IntKind.i64 (S.tp ws M + 1)) * 1) [LV.bool true]) (setMany (S.row f W) (0 + Int.toNat (S.tp ws M) * 1) [LV.bool true]) ws ∧ bc (Nat.beq M 0) False (wl_E a c W (S.fin vs W a (S.row f W) ws M) (S.fin vs W a (setMany (S.row f W) (0 + Int.toNat (S.tp ws M) * 1) [LV.bool true]) ws (S.m1 M)))) False) (bc (eqI (S.kd (S.ot vs ws M)) 10) (eqI (S.kd (S.ot vs ws M)) (10 : Int) = true ∧ bc (Nat.ble (0 + S.m1 M) (lenL ws)) (wl_T m a et c W (S.m1 M) w vs (setMany (setMany rc (0 + Int.toNat (wrapK IntKind.i64 (S.tp ws M + 0)) * 1) [LV.bool true]) (0 + Int.toNat (wrapK IntKind.i64 (S.tp ws M + 1)) * 1) [LV.bool true]) (setMany (S.row f W) (0 + Int.toNat (S.tp ws M) * 1) [LV.bool true]) ws ∧ bc (Nat.beq M 0) False (wl_E a c W (S.fin vs W a (S.row f W) ws M) (S.fin vs W a (setMany (S.row f W) (0 + Int.toNat (S.tp ws M) * 1) [LV.bool true]) ws (S.m1 M)))) False) (bc (eqI (S.kd (S.ot vs ws M)) 11) (eqI (S.kd (S.ot vs ws M)) (11 : Int) = true ∧ bc (Nat.ble (0 + S.m1 M) (lenL ws)) (wl_T m a et c W (S.m1 M) w vs (setMany (setMany rc (0 + Int.toNat (wrapK IntKind.i64 (S.tp ws M + 0)) * 1) [LV.bool true]) (0 + Int.toNat (wrapK IntKind.i64 (S.tp ws M + 1)) * 1) [LV.bool true]) (setMany (S.row f W) (0 + Int.toNat (S.tp ws M) * 1) [LV.bool true]) ws ∧ bc (Nat.beq M 0) False (wl_E a c W (S.fin vs W a (S.row f W) ws M) (S.fin vs W a (setMany (S.row f W) (0 + Int.toNat (S.tp ws M) * 1) [LV.bool true]) ws (S.m1 M)))) False) (bc (eqI (S.kd (S.ot vs ws M)) 12) (bc (Nat.ble (0 + S.m1 M) (lenL ws)) (wl_T m a et c W (S.m1 M) w vs (setMany (setMany rc (0 + Int.toNat (wrapK IntKind.i64 (S.tp ws M + 0)) * 1) [LV.bool true]) (0 + Int.toNat (wrapK IntKind.i64 (S.tp ws M + 1)) * 1) [LV.bool true]) (setMany (S.row f W) (0 + Int.toNat (S.tp ws M) * 1) [LV.bool true]) ws ∧ bc (Nat.beq M 0) False (wl_E a c W (S.fin vs W a (S.row f W) ws M) (S.fin vs W a (setMany (S.row f W) (0 + Int.toNat (S.tp ws M) * 1) [LV.bool true]) ws (S.m1 M)))) False) (bc (eqI (S.kd (S.ot vs ws M)) 7) (bc (eqI (S.md (S.ot vs ws M)) 12) (bc (Nat.ble (0 + S.m1 M) (lenL ws)) (wl_T m a et c W (S.m1 M) w vs (setMany (setMany rc (0 + Int.toNat (wrapK IntKind.i64 (S.tp ws M + 0)) * 1) [LV.bool true]) (0 + Int.toNat (wrapK IntKind.i64 (S.tp ws M + 1)) * 1) [LV.bool true]) (setMany (S.row f W) (0 + Int.toNat (S.tp ws M) * 1) [LV.bool true]) ws ∧ bc (Nat.beq M 0) False (wl_E a c W (S.fin vs W a (S.row f W) ws M) (S.fin vs W a (setMany (S.row f W) (0 + Int.toNat (S.tp ws M) * 1) [LV.bool true]) ws (S.m1 M)))) False) (ltI (S.tp ws M) (0 : Int) = false ∧ bc (ltI (S.tp ws M) ↑W) (bc (Nat.ble (0 + Int.toNat (S.tp ws M) * 1 + 1) (lenL vs)) (bc (S.an (bc (S.okG 0 S.tabV 1) (S.isB (S.ot vs ws M)) false) (eqI (S.len (S.ot vs ws M)) 2)) (bc (ltI (wrapK IntKind.i64 (S.tp ws M + 1)) 0) False (bc (ltI (wrapK IntKind.i64 (S.tp ws M + 1)) ↑W) (bc (Nat.ble (0 + Int.toNat (wrapK IntKind.i64 (S.tp ws M + 1)) * 1 + 1) (lenL vs)) (bc (Nat.ble (0 + S.m1 M) (lenL ws)) (bc (Nat.ble ((S.m1 M + 1) * 8) 1099511627776) (wl_T m a et c W (S.m1 M + 1) w vs (setMany (setMany rc (0 + Int.toNat (wrapK IntKind.i64 (S.tp ws M + 0)) * 1) [LV.bool true]) (0 + Int.toNat (wrapK IntKind.i64 (S.tp ws M + 1)) * 1) [LV.bool true]) (setMany (S.row f W) (0 + Int.toNat (S.tp ws M) * 1) [LV.bool true]) (app (sub ws 0 (S.m1 M)) (sub (setMany [LV.int IntKind.i64 0] 0 [LV.int IntKind.i64 (wrapK IntKind.i64 (wrapK IntKind.i64 (wrapK IntKind.u16 (wrapK IntKind.u16 (wrapK IntKind.i64 (wrapK IntKind.i64 (a + S.tp ws M) + 2)) + wrapK IntKind.u16 (wrapK IntKind.i16 (wrapK IntKind.i8 (S.jn vs ws M 1))))) - a))]) 0 1)) ∧ bc (Nat.beq M 0) False (wl_E a c W (S.fin vs W a (S.row f W) ws M) (S.fin vs W a (setMany (S.row f W) (0 + Int.toNat (S.tp ws M) * 1) [LV.bool true]) (app (sub ws 0 (S.m1 M)) (sub (setMany [LV.int IntKind.i64 0] 0 [LV.int IntKind.i64 (wrapK IntKind.i64 (wrapK IntKind.i64 (wrapK IntKind.u16 (wrapK IntKind.u16 (wrapK IntKind.i64 (wrapK IntKind.i64 (a + S.tp ws M) + 2)) + wrapK IntKind.u16 (wrapK IntKind.i16 (wrapK IntKind.i8 (S.jn vs ws M 1))))) - a))]) 0 1)) (S.m1 M + 1)))) False) False) False) False)) False) False) False)) (bc (eqI (S.kd (S.ot vs ws M)) 4) (eqI (S.kd (S.ot vs ws M)) (4 : Int) = true ∧ (ltI (S.tp ws M) (0 : Int) = false ∧ bc (ltI (S.tp ws M) ↑W) (bc (Nat.ble (0 + Int.toNat (S.tp ws M) * 1 + 1) (lenL vs)) (bc (S.an (bc (S.okG 0 S.tabV 1) (S.isB (S.ot vs ws M)) false) (eqI (S.len (S.ot vs ws M)) 2)) (bc (ltI (wrapK IntKind.i64 (S.tp ws M + 1)) 0) False (bc (ltI (wrapK IntKind.i64 (S.tp ws M + 1)) ↑W) (bc (Nat.ble (0 + Int.toNat (wrapK IntKind.i64 (S.tp ws M + 1)) * 1 + 1) (lenL vs)) (bc (Nat.ble (0 + S.m1 M) (lenL ws)) (bc (Nat.ble ((S.m1 M + 2) * 8) 1099511627776) (wl_T m a et c W (S.m1 M + 2) w vs (setMany (setMany rc (0 + Int.toNat (wrapK IntKind.i64 (S.tp ws M + 0)) * 1) [LV.bool true]) (0 + Int.toNat (wrapK IntKind.i64 (S.tp ws M + 1)) * 1) [LV.bool true]) (setMany (S.row f W) (0 + Int.toNat (S.tp ws M) * 1) [LV.bool true]) (app (sub ws 0 (S.m1 M)) (sub (setMany (setMany [LV.int IntKind.i64 0, LV.int IntKind.i64 0] 0 [LV.int IntKind.i64 (wrapK IntKind.i64 (wrapK IntKind.i64 (wrapK IntKind.u16 (wrapK IntKind.u16 (wrapK IntKind.i64 (wrapK IntKind.i64 (a + S.tp ws M) + 2)) + wrapK IntKind.u16 (wrapK IntKind.i16 (wrapK IntKind.i8 (S.jn vs ws M 1))))) - a))]) 1 [LV.int IntKind.i64 (wrapK IntKind.i64 (S.tp ws M + 2))]) 0 2)) ∧ bc (Nat.beq M 0) False (wl_E a c W (S.fin vs W a (S.row f W) ws M) (S.fin vs W a (setMany (S.row f W) (0 + Int.toNat (S.tp ws M) * 1) [LV.bool true]) (app (sub ws 0 (S.m1 M)) (sub (setMany (setMany [LV.int IntKind.i64 0, LV.int IntKind.i64 0] 0 [LV.int IntKind.i64 (wrapK IntKind.i64 (wrapK IntKind.i64 (wrapK IntKind.u16 (wrapK IntKind.u16 (wrapK IntKind.i64 (wrapK IntKind.i64 (a + S.tp ws M) + 2)) + wrapK IntKind.u16 (wrapK IntKind.i16 (wrapK IntKind.i8 (S.jn vs ws M 1))))) - a))]) 1 [LV.int IntKind.i64 (wrapK IntKind.i64 (S.tp ws M + 2))]) 0 2)) (S.m1 M + 2)))) False) False) False) False)) False) False) False)) (bc (eqI (S.kd (S.ot vs ws M)) 8) (ltI (S.tp ws M) (0 : Int) = false ∧ bc (ltI (S.tp ws M) ↑W) (bc (Nat.ble (0 + Int.toNat (S.tp ws M) * 1 + 1) (lenL vs)) (bc (S.an (bc (S.okG 0 S.tabV 1) (S.isB (S.ot vs ws M)) false) (eqI (S.len (S.ot vs ws M)) 2)) (bc (ltI (wrapK IntKind.i64 (S.tp ws M + 1)) 0) False (bc (ltI (wrapK IntKind.i64 (S.tp ws M + 1)) ↑W) (bc (Nat.ble (0 + Int.toNat (wrapK IntKind.i64 (S.tp ws M + 1)) * 1 + 1) (lenL vs)) (bc (Nat.ble (0 + S.m1 M) (lenL ws)) (bc (Nat.ble ((S.m1 M + 2) * 8) 1099511627776) (wl_T m a et c W (S.m1 M + 2) w vs (setMany (setMany rc (0 + Int.toNat (wrapK IntKind.i64 (S.tp ws M + 0)) * 1) [LV.bool true]) (0 + Int.toNat (wrapK IntKind.i64 (S.tp ws M + 1)) * 1) [LV.bool true]) (setMany (S.row f W) (0 + Int.toNat (S.tp ws M) * 1) [LV.bool true]) (app (sub ws 0 (S.m1 M)) (sub (setMany (setMany [LV.int IntKind.i64 0, LV.int IntKind.i64 0] 0 [LV.int IntKind.i64 (wrapK IntKind.i64 (wrapK IntKind.i64 (wrapK IntKind.u16 (wrapK IntKind.u16 (wrapK IntKind.i64 (wrapK IntKind.i64 (a + S.tp ws M) + 2)) + wrapK IntKind.u16 (wrapK IntKind.i16 (wrapK IntKind.i8 (S.jn vs ws M 1))))) - a))]) 1 [LV.int IntKind.i64 (wrapK IntKind.i64 (S.tp ws M + 2))]) 0 2)) ∧ bc (Nat.beq M 0) False (wl_E a c W (S.fin vs W a (S.row f W) ws M) (S.fin vs W a (setMany (S.row f W) (0 + Int.toNat (S.tp ws M) * 1) [LV.bool true]) (app (sub ws 0 (S.m1 M)) (sub (setMany (setMany [LV.int IntKind.i64 0, LV.int IntKind.i64 0] 0 [LV.int IntKind.i64 (wrapK IntKind.i64 (wrapK IntKind.i64 (wrapK IntKind.u16 (wrapK IntKind.u16 (wrapK IntKind.i64 (wrapK IntKind.i64 (a + S.tp ws M) + 2)) + wrapK IntKind.u16 (wrapK IntKind.i16 (wrapK IntKind.i8 (S.jn vs ws M 1))))) - a))]) 1 [LV.int IntKind.i64 (wrapK IntKind.i64 (S.tp ws M + 2))]) 0 2)) (S.m1 M + 2)))) False) False) False) False)) False) False) False) (bc (Nat.ble (0 + S.m1 M) (lenL ws)) (bc (Nat.ble ((S.m1 M + 1) * 8) 1099511627776) (wl_T m a et c W (S.m1 M + 1) w vs (setMany (setMany rc (0 + Int.toNat (wrapK IntKind.i64 (S.tp ws M + 0)) * 1) [LV.bool true]) (0 + Int.toNat (wrapK IntKind.i64 (S.tp ws M + 1)) * 1) [LV.bool true]) (setMany (S.row f W) (0 + Int.toNat (S.tp ws M) * 1) [LV.bool true]) (app (sub ws 0 (S.m1 M)) (sub (setMany [LV.int IntKind.i64 0] 0 [LV.int IntKind.i64 (wrapK IntKind.i64 (S.tp ws M + 2))]) 0 1)) ∧ bc (Nat.beq M 0) False (wl_E a c W (S.fin vs W a (S.row f W) ws M) (S.fin vs W a (setMany (S.row f W) (0 + Int.toNat (S.tp ws M) * 1) [LV.bool true]) (app (sub ws 0 (S.m1 M)) (sub (setMany [LV.int IntKind.i64 0] 0 [LV.int IntKind.i64 (wrapK IntKind.i64 (S.tp ws M + 2))]) 0 1)) (S.m1 M + 1)))) False) False)))))))) False) False) False) False) False)) False) False)) False) False)) False) False))) False) False) False))) False) False) False) False) False)) (bc (Nat.beq M 0) ((0 : Nat) = (0 : Nat) ∧ True) False)) := by kernel_rfl
theorem wl2_con (m a : Int) (et c W M : Nat) (w : Own) (vs rc ws : List LV) (f : Nat → Bool) (hb : S.okB vs = true) (hl : lenL vs = W) (hW : W ≤ 1000) (hA : 0 ≤ a ∧ a < 65536) (hI : S.Inv vs W a f rc (S.row f W) ws M) (hk : 0 < M → ∀ i : Nat, intOf (K.atV ws (M - 1)) = i → i < W → S.len (S.by1 vs i) = 2) (IH : ∀ (M2 : Nat) (rc2 bg2 ws2 : List LV) (f2 : Nat → Bool), 3 * S.cnt f2 W + M2 < 3 * S.cnt f W + M → S.Inv vs W a f2 rc2 bg2 ws2 M2 → wl_T m a et c W M2 w vs rc2 bg2 ws2) : GT Tryd.prog (fun k => .code (inner (inner (blkOf 22 2))) :: .inLoop (inner (inner (blkOf 22 2))) :: k) (Fr.ofL 22 81 [(7, .ptr 0 0)] [] none) (Heap.of [.cells 73 .exact [.int .i64 a, .slice 1 0 W (.known c), .slice 2 0 W (.known W), .slice 3 0 W (.known W), .slice 4 0 M (.rest 0)], .flat [.i .u8] et w vs, .flat [.bo] 4 .exact rc, .flat [.bo] 4 .exact (S.row f W), .flat [.i .i64] 3 (.grow 1) ws, .glob 0 S.tabV, .glob 1 [.int .i64 m]]) ((bc (Nat.beq M 0) ⟨.exit 2, [(7, .ptr 0 0)], [], []⟩ ⟨.exit 2, [(7, .ptr 0 0)], [(0, .cells 73 .exact [.int .i64 a, .slice 1 0 W (.known c), .slice 2 0 W (.known W), .slice 3 0 W (.known W), .slice 7 0 0 (.rest 0)]), (2, .flat [.bo] 4 .exact (S.fin vs W a (S.row f W) ws M)), (3, .dead), (4, .dead)], [.dead]⟩) : K.BRes).x (Fr.ofL 22 81 ((bc (Nat.beq M 0) ⟨.exit 2, [(7, .ptr 0 0)], [], []⟩ ⟨.exit 2, [(7, .ptr 0 0)], [(0, .cells 73 .exact [.int .i64 a, .slice 1 0 W (.known c), .slice 2 0 W (.known W), .slice 3 0 W (.known W), .slice 7 0 0 (.rest 0)]), (2, .flat [.bo] 4 .exact (S.fin vs W a (S.row f W) ws M)), (3, .dead), (4, .dead)], [.dead]⟩) : K.BRes).L [] none) (Heap.of (K.chg [.cells 73 .exact [.int .i64 a, .slice 1 0 W (.known c), .slice 2 0 W (.known W), .slice 3 0 W (.known W), .slice 4 0 M (.rest 0)], .flat [.i .u8] et w vs, .flat [.bo] 4 .exact rc, .flat [.bo] 4 .exact (S.row f W), .flat [.i .i64] 3 (.grow 1) ws, .glob 0 S.tabV, .glob 1 [.int .i64 m]] ((bc (Nat.beq M 0) ⟨.exit 2, [(7, .ptr 0 0)], [], []⟩ ⟨.exit 2, [(7, .ptr 0 0)], [(0, .cells 73 .exact [.int .i64 a, .slice 1 0 W (.known c), .slice 2 0 W (.known W), .slice 3 0 W (.known W), .slice 7 0 0 (.rest 0)]), (2, .flat [.bo] 4 .exact (S.fin vs W a (S.row f W) ws M)), (3, .dead), (4, .dead)], [.dead]⟩) : K.BRes).ch ++ ((bc (Nat.beq M 0) ⟨.exit 2, [(7, .ptr 0 0)], [], []⟩ ⟨.exit 2, [(7, .ptr 0 0)], [(0, .cells 73 .exact [.int .i64 a, .slice 1 0 W (.known c), .slice 2 0 W (.known W), .slice 3 0 W (.known W), .slice 7 0 0 (.rest 0)]), (2, .flat [.bo] 4 .exact (S.fin vs W a (S.row f W) ws M)), (3, .dead), (4, .dead)], [.dead]⟩) : K.BRes).new)) := by
 have hr := cast (wl2_run m a et c W M w vs rc ws f).symm (by
  by_cases hM : 0 < M
  rotate_left
  ·have z : M = 0 := by omega
   subst z
   have e : ltI 0 ((0 : Nat) : Int) = false := rfl
   have z2 : Nat.beq 0 0 = true := rfl
   simp only [e, z2, bc_false, bc_true, and_true]
  have hle := hI.le
  have hms := hI.ms
  have m1 : wrapK .i64 ((M : Int) - 1) = ((M - 1 : Nat) : Int) := by rw [wrapK_i64]; omega
  have m2 : S.m1 M = M - 1 := by
   show Int.toNat (wrapK .i64 ((M : Int) - 1)) = M - 1
   rw [m1]; exact Int.toNat_natCast _
  obtain ⟨x, hx⟩ : ∃ x, intOf (K.atV ws (M - 1)) = x := ⟨_, rfl⟩
  have tpx : S.tp ws M = x := by unfold S.tp; rw [m2, Nat.zero_add, Nat.mul_one]; exact hx
  have e1 : ltI 0 (M : Int) = true := ltI_true.2 (by omega)
  have n1 : ltI ((M - 1 : Nat) : Int) 0 = false := ltI_false.2 (by omega)
  have e2 : ltI ((M - 1 : Nat) : Int) M = true := ltI_true.2 (by omega)
  have b1 : Nat.ble (M - 1 + 1) (lenL ws) = true := S.bleN.2 (by omega)
  have b2 : Nat.ble (M - 1) M = true := S.bleN.2 (by omega)
  have b3 : Nat.ble M (lenL (flatF [.i .i64] ws)) = true := S.bleN.2 (by rw [K.lenL_eq, flat_length, ← K.lenL_eq]; omega)
  have nz : Nat.beq M 0 = false := by
   cases h : Nat.beq M 0 with
   | false => rfl
   | true => have := S.beqN.1 h; omega
  have SK : ∀ (h : S.valid vs W a x → f x.toNat = true), wl_T m a et c W (M - 1) w vs rc (S.row f W) ws ∧ wl_E a c W (S.fin vs W a (S.row f W) ws M) (S.fin vs W a (S.row f W) ws (M - 1)) := fun h => by
   obtain ⟨p1, p2⟩ := S.inv_pop hI hM hx h
   exact ⟨IH (M - 1) rc (S.row f W) ws f (by omega) p1, wl_Ei p2⟩
  by_cases h0 : x < 0
  ·simp only [m1, m2, tpx, e1, n1, e2, b1, b2, b3, ltI_true.2 h0, nz, Nat.zero_add, Nat.mul_one, notB_t, notB_f, bc_true, bc_false, true_and]
   exact SK (fun h => absurd h.1 (by omega))
  have x0 := ltI_false.2 (Int.not_lt.1 h0)
  by_cases h1 : (W : Int) ≤ x
  ·simp only [m1, m2, tpx, e1, n1, e2, b1, b2, b3, x0, ltI_false.2 h1, nz, Nat.zero_add, Nat.mul_one, notB_t, notB_f, bc_true, bc_false, true_and]
   exact SK (fun h => absurd h.2.1 (by omega))
  obtain ⟨i, rfl⟩ : ∃ i : Nat, x = i := ⟨x.toNat, by omega⟩
  have hi : i < W := by omega
  have hk := hk hM i hx hi
  have T : ∀ z : Nat, Int.toNat (z : Int) = z := Int.toNat_natCast
  have x1 : ltI (i : Int) W = true := ltI_true.2 (by omega)
  have ot : S.ot vs ws M = S.by1 vs i := by unfold S.ot; rw [tpx, Nat.zero_add, Int.toNat_natCast, Nat.mul_one]; rfl
  have bi : Nat.ble (i + 1) (lenL vs) = true := S.bleN.2 (by omega)
  have g0 := S.okB_at hb (i := i) (by omega)
  have iB : S.isB (S.by1 vs i) = true := S.isB_iff.2 g0
  have hG := S.okG_0
  have at2 : S.an true true = true := rfl
  have hkE : eqI (S.len (S.by1 vs i)) 2 = true := eqI_true.2 hk
  have ww : wrapK .i64 ((W : Int) - i) = (W : Int) - i := by rw [wrapK_i64]; omega
  have wa : wrapK .i64 (wrapK .i64 (a + i) + 2) = a + i + 2 := by rw [wrapK_i64, wrapK_i64]; omega
  have fit : S.fits vs W a i = true ↔ ¬ ((W : Int) - i < 2) ∧ ¬ (65536 < a + i + 2) := by unfold S.fits; rw [S.an_iff, notB_true, notB_true, ltI_false, ltI_false, hk]; omega
  by_cases h2 : (W : Int) - i < 2
  ·simp only [m1, m2, tpx, e1, n1, e2, b1, b2, b3, x0, x1, ot, bi, iB, hG, at2, hkE, ww, wa, nz, T, Nat.zero_add, Nat.mul_one, notB_t, notB_f, bc_true, bc_false, true_and, ltI_true.2 h2]
   exact SK (fun h => by have := h.2.2; rw [T] at this; exact absurd h2 (fit.1 this).1)
  by_cases h3 : 65536 < a + i + 2
  ·simp only [m1, m2, tpx, e1, n1, e2, b1, b2, b3, x0, x1, ot, bi, iB, hG, at2, hkE, ww, wa, nz, T, Nat.zero_add, Nat.mul_one, notB_t, notB_f, bc_true, bc_false, true_and, ltI_false.2 (Int.not_lt.1 h2), ltI_true.2 h3]
   exact SK (fun h => by have := h.2.2; rw [T] at this; exact absurd h3 (fit.1 this).2)
  have hfit := fit.2 ⟨h2, h3⟩
  have k2 := ltI_false.2 (Int.not_lt.1 h2)
  have k3 := ltI_false.2 (Int.not_lt.1 h3)
  have rl : ∀ g, lenL (S.row g W) = W := fun g => S.row_len g W
  have br : Nat.ble (i + 1) W = true := S.bleN.2 (by omega)
  have rb : boolOf (K.atV (S.row f W) i) = f i := S.row_b hi
  cases hf : f i with
  | true =>
   simp only [m1, m2, tpx, e1, n1, e2, b1, b2, b3, x0, x1, ot, bi, iB, hG, at2, hkE, ww, wa, nz, T, Nat.zero_add, Nat.mul_one, notB_t, notB_f, bc_true, bc_false, true_and, k2, k3, rl, br, rb, hf]
   exact SK (fun _ => by rw [T]; exact hf)
  | false =>
   have hrc := hI.rc
   subst hrc
   have w0 : wrapK .i64 ((i : Int) + 0) = (i : Int) := by rw [wrapK_i64]; omega
   have w1 : wrapK .i64 ((i : Int) + 1) = ((i + 1 : Nat) : Int) := by rw [wrapK_i64]; omega
   have w2 : wrapK .i64 ((i : Int) + 2) = ((i + 2 : Nat) : Int) := by rw [wrapK_i64]; omega
   have w3 : wrapK .i64 ((i : Int) + 3) = ((i + 3 : Nat) : Int) := by rw [wrapK_i64]; omega
   have b4 : Nat.ble (M - 1) (lenL ws) = true := S.bleN.2 (by omega)
   have b5 : Nat.ble ((M - 1 + 1) * 8) 1099511627776 = true := S.bleN.2 (by omega)
   have b6 : Nat.ble ((M - 1 + 2) * 8) 1099511627776 = true := S.bleN.2 (by omega)
   have st1 : ∀ y : Int, sub (setMany [LV.int .i64 0] 0 [LV.int .i64 y]) 0 1 = [LV.int .i64 y] := fun y => rfl
   have st2 : ∀ y z : Int, sub (setMany (setMany [LV.int .i64 0, LV.int .i64 0] 0 [LV.int .i64 y]) 1 [LV.int .i64 z]) 0 2 = [LV.int .i64 y, LV.int .i64 z] := fun y z => rfl
   have hK := S.tabK g0
   have rcE : setMany (setMany (S.row (S.cvf vs W f) W) i [.bool true]) (i + 1) [.bool true] = S.row (S.cvf vs W (S.updB f i)) W := S.rc_2 (f := f) (by omega) hk
   have u0 : setMany (S.row f W) i [.bool true] = S.row (S.updB f i) W := S.row_upd hi
   have p1 : ltI ((i + 1 : Nat) : Int) 0 = false := ltI_false.2 (by omega)
   have q1 : ltI ((i + 1 : Nat) : Int) W = true := ltI_true.2 (by omega)
   have d1 : Nat.ble (i + 1 + 1) (lenL vs) = true := S.bleN.2 (by omega)
   have l1 : Nat.ble (i + 1 + 1) (lenL (setMany (S.row (S.cvf vs W f) W) i [.bool true])) = true := by
    rw [S.row_upd (by omega)]
    exact S.bleN.2 (by rw [S.row_len]; omega)
   have g1 := S.okB_at hb (i := i + 1) (by omega)
   have j1 : S.jn vs ws M 1 = S.by1 vs (i + 1) := by
    show intOf (K.atV vs (0 + Int.toNat (wrapK IntKind.i64 (S.tp ws M + 1)) * 1)) = _
    rw [tpx, w1, Int.toNat_natCast, Nat.zero_add, Nat.mul_one]; rfl
   have V0 : S.suc vs a i = [] → wl_T m a et c W (M - 1) w vs (S.row (S.cvf vs W (S.updB f i)) W) (S.row (S.updB f i) W) ws ∧ wl_E a c W (S.fin vs W a (S.row f W) ws M) (S.fin vs W a (S.row (S.updB f i) W) ws (M - 1)) := fun hs => by
    obtain ⟨p1, p2, p3⟩ := S.inv_visit (ws2 := ws) (M2 := M - 1) hI hM hx hi hfit hf hs rfl (by omega) (by decide) (fun _ _ => rfl) (fun j h => absurd h (Nat.not_lt_zero j))
    exact ⟨IH (M - 1) _ _ ws (S.updB f i) p3 p1, wl_Ei p2⟩
   have V1 : ∀ y : Int, S.suc vs a i = [y] → wl_T m a et c W (M - 1 + 1) w vs (S.row (S.cvf vs W (S.updB f i)) W) (S.row (S.updB f i) W) (app (sub ws 0 (M - 1)) [LV.int .i64 y]) ∧ wl_E a c W (S.fin vs W a (S.row f W) ws M) (S.fin vs W a (S.row (S.updB f i) W) (app (sub ws 0 (M - 1)) [LV.int .i64 y]) (M - 1 + 1)) := fun y hs => by
    have A := fun k => S.app_at (ws := ws) (n := M - 1) (k := k) (l := [LV.int .i64 y]) (by omega)
    obtain ⟨p1, p2, p3⟩ := S.inv_visit (ws2 := app (sub ws 0 (M - 1)) [LV.int .i64 y]) (M2 := M - 1 + 1) hI hM hx hi hfit hf hs rfl (by rw [(A 0).2.2]; exact Nat.le_refl _) (by simp) (fun k h => by rw [(A k).1 h]) (fun j h => by
     rw [(A j).2.1]
     have : j = 0 := by simp at h; omega
     subst this; rfl)
    exact ⟨IH (M - 1 + 1) _ _ _ (S.updB f i) p3 p1, wl_Ei p2⟩
   have V2 : ∀ y z : Int, S.suc vs a i = [y, z] → wl_T m a et c W (M - 1 + 2) w vs (S.row (S.cvf vs W (S.updB f i)) W) (S.row (S.updB f i) W) (app (sub ws 0 (M - 1)) [LV.int .i64 y, LV.int .i64 z]) ∧ wl_E a c W (S.fin vs W a (S.row f W) ws M) (S.fin vs W a (S.row (S.updB f i) W) (app (sub ws 0 (M - 1)) [LV.int .i64 y, LV.int .i64 z]) (M - 1 + 2)) := fun y z hs => by
    have A := fun k => S.app_at (ws := ws) (n := M - 1) (k := k) (l := [LV.int .i64 y, LV.int .i64 z]) (by omega)
    obtain ⟨p1, p2, p3⟩ := S.inv_visit (ws2 := app (sub ws 0 (M - 1)) [LV.int .i64 y, LV.int .i64 z]) (M2 := M - 1 + 2) hI hM hx hi hfit hf hs rfl (by rw [(A 0).2.2]; exact Nat.le_refl _) (by simp) (fun k h => by rw [(A k).1 h]) (fun j h => by
     rw [(A j).2.1]
     have : j = 0 ∨ j = 1 := by simp at h; omega
     rcases this with rfl | rfl <;> rfl)
    exact ⟨IH (M - 1 + 2) _ _ _ (S.updB f i) p3 p1, wl_Ei p2⟩
   cases q9 : eqI (S.kd (S.by1 vs i)) 9 with
   | true =>
    simp only [m1, m2, tpx, e1, n1, e2, b1, b2, b3, x0, x1, ot, bi, iB, hG, at2, hkE, ww, wa, nz, T, Nat.zero_add, Nat.mul_one, notB_t, notB_f, bc_true, bc_false, true_and, k2, k3, rl, br, rb, hf, w0, w1, w2, w3, b4, b5, b6, st1, st2, u0, rcE, p1, q1, d1, l1, j1, q9]
    exact V0 (by unfold S.suc S.isE; rw [q9]; rfl)
   | false =>
    cases q10 : eqI (S.kd (S.by1 vs i)) 10 with
    | true =>
     simp only [m1, m2, tpx, e1, n1, e2, b1, b2, b3, x0, x1, ot, bi, iB, hG, at2, hkE, ww, wa, nz, T, Nat.zero_add, Nat.mul_one, notB_t, notB_f, bc_true, bc_false, true_and, k2, k3, rl, br, rb, hf, w0, w1, w2, w3, b4, b5, b6, st1, st2, u0, rcE, p1, q1, d1, l1, j1, q9, q10]
     exact V0 (by unfold S.suc S.isE; rw [q9, q10]; rfl)
    | false =>
     cases q11 : eqI (S.kd (S.by1 vs i)) 11 with
     | true =>
      simp only [m1, m2, tpx, e1, n1, e2, b1, b2, b3, x0, x1, ot, bi, iB, hG, at2, hkE, ww, wa, nz, T, Nat.zero_add, Nat.mul_one, notB_t, notB_f, bc_true, bc_false, true_and, k2, k3, rl, br, rb, hf, w0, w1, w2, w3, b4, b5, b6, st1, st2, u0, rcE, p1, q1, d1, l1, j1, q9, q10, q11]
      exact V0 (by unfold S.suc S.isE; rw [q9, q10, q11]; rfl)
     | false =>
      cases q12 : eqI (S.kd (S.by1 vs i)) 12 with
      | true =>
       simp only [m1, m2, tpx, e1, n1, e2, b1, b2, b3, x0, x1, ot, bi, iB, hG, at2, hkE, ww, wa, nz, T, Nat.zero_add, Nat.mul_one, notB_t, notB_f, bc_true, bc_false, true_and, k2, k3, rl, br, rb, hf, w0, w1, w2, w3, b4, b5, b6, st1, st2, u0, rcE, p1, q1, d1, l1, j1, q9, q10, q11, q12]
       exact V0 (by unfold S.suc S.isE; rw [q9, q10, q11, q12]; rfl)
      | false =>
       cases q7 : eqI (S.kd (S.by1 vs i)) 7 with
       | true => have := hK.2.1 q7; omega
       | false =>
        cases q4 : eqI (S.kd (S.by1 vs i)) 4 with
        | true =>
         simp only [m1, m2, tpx, e1, n1, e2, b1, b2, b3, x0, x1, ot, bi, iB, hG, at2, hkE, ww, wa, nz, T, Nat.zero_add, Nat.mul_one, notB_t, notB_f, bc_true, bc_false, true_and, k2, k3, rl, br, rb, hf, w0, w1, w2, w3, b4, b5, b6, st1, st2, u0, rcE, p1, q1, d1, l1, j1, q9, q10, q11, q12, q7, q4, S.tgB hA ⟨Int.natCast_nonneg i, by omega⟩ g1]
         exact V2 _ _ (by unfold S.suc S.isE S.tgx; rw [q9, q10, q11, q12, q7, q4, hk]; rfl)
        | false =>
         cases q8 : eqI (S.kd (S.by1 vs i)) 8 with
         | true => have := hK.2.2 q8; omega
         | false =>
          simp only [m1, m2, tpx, e1, n1, e2, b1, b2, b3, x0, x1, ot, bi, iB, hG, at2, hkE, ww, wa, nz, T, Nat.zero_add, Nat.mul_one, notB_t, notB_f, bc_true, bc_false, true_and, k2, k3, rl, br, rb, hf, w0, w1, w2, w3, b4, b5, b6, st1, st2, u0, rcE, p1, q1, d1, l1, j1, q9, q10, q11, q12, q7, q4, q8]
          exact V1 _ (by unfold S.suc S.isE; rw [q9, q10, q11, q12, q7, q4, q8, hk]; rfl))
 obtain ⟨q1, q2⟩ := K.RunL2.one hr
 cases hb : Nat.beq M 0
 ·exact K.loop_of_run good (envL_ok (fun p hp => by simp only [List.mem_cons, List.not_mem_nil, or_false] at hp; rcases hp with rfl | rfl <;> first | exact cof_ok | exact lw2_ok)) K.openE_ok (q2 hb)
 ·exact K.loop_of_run good (envL_ok (fun p hp => by simp only [List.mem_cons, List.not_mem_nil, or_false] at hp; rcases hp with rfl | rfl <;> first | exact cof_ok | exact lw2_ok)) K.openE_ok (q1 hb)
theorem wl3_run (m a : Int) (et c W M : Nat) (w : Own) (vs rc ws : List LV) (f : Nat → Bool) : K.RunL2 (envL [(21, cofE), (20, lw3E)]) K.openE 30 22 81 (inner (inner (blkOf 22 2))) wlEB [(7, .ptr 0 0)] [.cells 73 .exact [.int .i64 a, .slice 1 0 W (.known c), .slice 2 0 W (.known W), .slice 3 0 W (.known W), .slice 4 0 M (.rest 0)], .flat [.i .u8] et w vs, .flat [.bo] 4 .exact rc, .flat [.bo] 4 .exact (S.row f W), .flat [.i .i64] 3 (.grow 1) ws, .glob 0 S.tabV, .glob 1 [.int .i64 m]] (.skip 1 (.fork (.skip 2 (.fork .auto (.skip 4 (.fork .auto (.skip 8 (.fork .auto (.skip 1 (.take false (.skip 3 (.fork .auto (.skip 10 (.fork .auto (.skip 7 (.take false (.skip 3 (.fork .auto (.skip 1 (.take false (.skip 3 (.fork .auto (.skip 3 (.fork .auto (.skip 3 (.fork .auto (.skip 4 (.take false (.skip 4 (.fork (.skip 0 (.take true .auto)) (.skip 0 (.fork (.skip 0 (.take true .auto)) (.skip 0 (.fork (.skip 0 (.take true .auto)) (.skip 0 (.fork .auto (.skip 0 (.fork (.skip 1 (.fork .auto (.skip 1 (.take false .auto)))) (.skip 0 (.fork (.skip 0 (.take true (.skip 1 (.take false .auto)))) (.skip 0 (.fork (.skip 1 (.take false .auto)) .auto)))))))))))))))))))))))))))))))))))))))) .auto)) (Nat.beq M 0) ⟨.exit 2, [(7, .ptr 0 0)], [], []⟩ ⟨.exit 2, [(7, .ptr 0 0)], [(0, .cells 73 .exact [.int .i64 a, .slice 1 0 W (.known c), .slice 2 0 W (.known W), .slice 3 0 W (.known W), .slice 7 0 0 (.rest 0)]), (2, .flat [.bo] 4 .exact (S.fin vs W a (S.row f W) ws M)), (3, .dead), (4, .dead)], [.dead]⟩ =
  (bc (ltI 0 ↑M) (bc (ltI (wrapK IntKind.i64 (↑M - 1)) 0) False (bc (ltI (wrapK IntKind.i64 (↑M - 1)) ↑M) (bc (Nat.ble (0 + S.m1 M * 1 + 1) (lenL ws)) (bc (notB (ltI (wrapK IntKind.i64 (↑M - 1)) 0)) (bc (Nat.ble (S.m1 M) M) (bc (Nat.ble (0 + M * 1) (lenL (flatF [CK.i IntKind.i64] ws))) (bc (ltI (S.tp ws M) 0) (wl_T m a et c W (S.m1 M) w vs rc (S.row f W) ws ∧ bc (Nat.beq M 0) False (wl_E a c W (S.fin vs W a (S.row f W) ws M) (S.fin vs W a (S.row f W) ws (S.m1 M)))) (bc (notB (ltI (S.tp ws M) ↑W)) (wl_T m a et c W (S.m1 M) w vs rc (S.row f W) ws ∧ bc (Nat.beq M 0) False (wl_E a c W (S.fin vs W a (S.row f W) ws M) (S.fin vs W a (S.row f W) ws (S.m1 M)))) (ltI (S.tp ws M) (0 : Int) = false ∧ bc (ltI (S.tp ws M) ↑W) (bc (Nat.ble (0 + Int.toNat (S.tp ws M) * 1 + 1) (lenL vs)) (bc (S.an (bc (S.okG 0 S.tabV 1) (S.isB (S.ot vs ws M)) false) (eqI (S.len (S.ot vs ws M)) 3)) (bc (ltI (wrapK IntKind.i64 (↑W - S.tp ws M)) 3) (wl_T m a et c W (S.m1 M) w vs rc (S.row f W) ws ∧ bc (Nat.beq M 0) False (wl_E a c W (S.fin vs W a (S.row f W) ws M) (S.fin vs W a (S.row f W) ws (S.m1 M)))) (bc (ltI 65536 (wrapK IntKind.i64 (wrapK IntKind.i64 (a + S.tp ws M) + 3))) (wl_T m a et c W (S.m1 M) w vs rc (S.row f W) ws ∧ bc (Nat.beq M 0) False (wl_E a c W (S.fin vs W a (S.row f W) ws M) (S.fin vs W a (S.row f W) ws (S.m1 M)))) (ltI (S.tp ws M) (0 : Int) = false ∧ bc (ltI (S.tp ws M) ↑W) (bc (Nat.ble (0 + Int.toNat (S.tp ws M) * 1 + 1) (lenL (S.row f W))) (bc (boolOf (K.atV (S.row f W) (0 + Int.toNat (S.tp ws M) * 1))) (wl_T m a et c W (S.m1 M) w vs rc (S.row f W) ws ∧ bc (Nat.beq M 0) False (wl_E a c W (S.fin vs W a (S.row f W) ws M) (S.fin vs W a (S.row f W) ws (S.m1 M)))) (ltI (S.tp ws M) (0 : Int) = false ∧ bc (ltI (S.tp ws M) ↑W) (bc (Nat.ble (0 + Int.toNat (S.tp ws M) * 1 + 1) (lenL (S.row f W))) (bc (ltI (wrapK IntKind.i64 (S.tp ws M + 0)) 0) False (bc (ltI (wrapK IntKind.i64 (S.tp ws M + 0)) ↑W) (bc (Nat.ble (0 + Int.toNat (wrapK IntKind.i64 (S.tp ws M + 0)) * 1 + 1) (lenL rc)) (bc (ltI (wrapK IntKind.i64 (S.tp ws M + 1)) 0) False (bc (ltI (wrapK IntKind.i64 (S.tp ws M + 1)) ↑W) (bc (Nat.ble (0 + Int.toNat (wrapK IntKind.i64 (S.tp ws M + 1)) * 1 + 1) (lenL (setMany rc (0 + Int.toNat (wrapK IntKind.i64 (S.tp ws M + 0)) * 1) [LV.bool true]))) (bc (ltI (wrapK IntKind.i64 (S.tp ws M + 2)) 0) False (bc (ltI (wrapK IntKind.i64 (S.tp ws M + 2)) ↑W) (bc (Nat.ble (0 + Int.toNat (wrapK IntKind.i64 (S.tp ws M + 2)) * 1 + 1) (lenL (setMany (setMany rc (0 + Int.toNat (wrapK IntKind.i64 (S.tp ws M + 0)) * 1) [LV.bool true]) (0 + Int.toNat (wrapK IntKind.i64 (S.tp ws M + 1)) * 1) [LV.bool true]))) (ltI (S.tp ws M) (0 : Int) = false ∧ bc (ltI (S.tp ws M) ↑W) (bc (Nat.ble (0 + Int.toNat (S.tp ws M) * 1 + 1) (lenL vs)) (bc (bc (S.okG 0 S.tabV 1) (S.isB (S.ot vs ws M)) false) (bc (eqI (S.kd (S.ot vs ws M)) 9) (eqI (S.kd (S.ot vs ws M)) (9 : Int) = true ∧ bc (Nat.ble (0 + S.m1 M) (lenL ws)) (wl_T m a et c W (S.m1 M) w vs (setMany (setMany (setMany rc (0 + Int.toNat (wrapK IntKind.i64 (S.tp ws M + 0)) * 1) [LV.bool true]) (0 + Int.toNat (wrapK IntKind.i64 (S.tp ws M + 1)) * 1) [LV.bool true]) (0 + Int.toNat (wrapK IntKind.i64 (S.tp ws M + 2)) * 1) [LV.bool true]) (setMany (S.row f W) (0 + Int.toNat (S.tp ws M) * 1) [LV.bool true]) ws ∧ bc (Nat.beq M 0) False (wl_E a c W (S.fin vs W a (S.row f W) ws M) (S.fin vs W a (setMany (S.row f W) (0 + Int.toNat (S.tp ws M) * 1) [LV.bool true]) ws (S.m1 M)))) False) (bc (eqI (S.kd (S.ot vs ws M)) 10) (eqI (S.kd (S.ot vs ws M)) (10 : Int) = true ∧ bc (Nat.ble (0 + S.m1 M) (lenL ws)) (wl_T m a et c W (S.m1 M) w vs (setMany (setMany (setMany rc (0 + Int.toNat (wrapK IntKind.i64 (S.tp ws M + 0)) * 1) [LV.bool true]) (0 + Int.toNat (wrapK IntKind.i64 (S.tp ws M + 1)) * 1) [LV.bool true]) (0 + Int.toNat (wrapK IntKind.i64 (S.tp ws M + 2)) * 1) [LV.bool true]) (setMany (S.row f W) (0 + Int.toNat (S.tp ws M) * 1) [LV.bool true]) ws ∧ bc (Nat.beq M 0) False (wl_E a c W (S.fin vs W a (S.row f W) ws M) (S.fin vs W a (setMany (S.row f W) (0 + Int.toNat (S.tp ws M) * 1) [LV.bool true]) ws (S.m1 M)))) False) (bc (eqI (S.kd (S.ot vs ws M)) 11) (eqI (S.kd (S.ot vs ws M)) (11 : Int) = true ∧ bc (Nat.ble (0 + S.m1 M) (lenL ws)) (wl_T m a et c W (S.m1 M) w vs (setMany (setMany (setMany rc (0 + Int.toNat (wrapK IntKind.i64 (S.tp ws M + 0)) * 1) [LV.bool true]) (0 + Int.toNat (wrapK IntKind.i64 (S.tp ws M + 1)) * 1) [LV.bool true]) (0 + Int.toNat (wrapK IntKind.i64 (S.tp ws M + 2)) * 1) [LV.bool true]) (setMany (S.row f W) (0 + Int.toNat (S.tp ws M) * 1) [LV.bool true]) ws ∧ bc (Nat.beq M 0) False (wl_E a c W (S.fin vs W a (S.row f W) ws M) (S.fin vs W a (setMany (S.row f W) (0 + Int.toNat (S.tp ws M) * 1) [LV.bool true]) ws (S.m1 M)))) False) (bc (eqI (S.kd (S.ot vs ws M)) 12) (bc (Nat.ble (0 + S.m1 M) (lenL ws)) (wl_T m a et c W (S.m1 M) w vs (setMany (setMany (setMany rc (0 + Int.toNat (wrapK IntKind.i64 (S.tp ws M + 0)) * 1) [LV.bool true]) (0 + Int.toNat (wrapK IntKind.i64 (S.tp ws M + 1)) * 1) [LV.bool true]) (0 + Int.toNat (wrapK IntKind.i64 (S.tp ws M + 2)) * 1) [LV.bool true]) (setMany (S.row f W) (0 + Int.toNat (S.tp ws M) * 1) [LV.bool true]) ws ∧ bc (Nat.beq M 0) False (wl_E a c W (S.fin vs W a (S.row f W) ws M) (S.fin vs W a (setMany (S.row f W) (0 + Int.toNat (S.tp ws M) * 1) [LV.bool true]) ws (S.m1 M)))) False) (bc (eqI (S.kd (S.ot vs ws M)) 7) (bc (eqI (S.md (S.ot vs ws M)) 12) (bc (Nat.ble (0 + S.m1 M) (lenL ws)) (wl_T m a et c W (S.m1 M) w vs (setMany (setMany (setMany rc (0 + Int.toNat (wrapK IntKind.i64 (S.tp ws M + 0)) * 1) [LV.bool true]) (0 + Int.toNat (wrapK IntKind.i64 (S.tp ws M + 1)) * 1) [LV.bool true]) (0 + Int.toNat (wrapK IntKind.i64 (S.tp ws M + 2)) * 1) [LV.bool true]) (setMany (S.row f W) (0 + Int.toNat (S.tp ws M) * 1) [LV.bool true]) ws ∧ bc (Nat.beq M 0) False (wl_E a c W (S.fin vs W a (S.row f W) ws M) (S.fin vs W a (setMany (S.row f W) (0 + Int.toNat (S.tp ws M) * 1) [LV.bool true]) ws (S.m1 M)))) False) (ltI (S.tp ws M) (0 : Int) = false ∧ bc (ltI (S.tp ws M) ↑W) (bc (Nat.ble (0 + Int.toNat (S.tp ws M) * 1 + 1) (lenL vs)) (bc (S.an (bc (S.okG 0 S.tabV 1) (S.isB (S.ot vs ws M)) false) (eqI (S.len (S.ot vs ws M)) 3)) (bc (ltI (wrapK IntKind.i64 (S.tp ws M + 1)) 0) False (bc (ltI (wrapK IntKind.i64 (S.tp ws M + 1)) ↑W) (bc (Nat.ble (0 + Int.toNat (wrapK IntKind.i64 (S.tp ws M + 1)) * 1 + 1) (lenL vs)) (bc (ltI (wrapK IntKind.i64 (S.tp ws M + 2)) 0) False (bc (ltI (wrapK IntKind.i64 (S.tp ws M + 2)) ↑W) (bc (Nat.ble (0 + Int.toNat (wrapK IntKind.i64 (S.tp ws M + 2)) * 1 + 1) (lenL vs)) (bc (Nat.ble (0 + S.m1 M) (lenL ws)) (bc (Nat.ble ((S.m1 M + 1) * 8) 1099511627776) (wl_T m a et c W (S.m1 M + 1) w vs (setMany (setMany (setMany rc (0 + Int.toNat (wrapK IntKind.i64 (S.tp ws M + 0)) * 1) [LV.bool true]) (0 + Int.toNat (wrapK IntKind.i64 (S.tp ws M + 1)) * 1) [LV.bool true]) (0 + Int.toNat (wrapK IntKind.i64 (S.tp ws M + 2)) * 1) [LV.bool true]) (setMany (S.row f W) (0 + Int.toNat (S.tp ws M) * 1) [LV.bool true]) (app (sub ws 0 (S.m1 M)) (sub (setMany [LV.int IntKind.i64 0] 0 [LV.int IntKind.i64 (wrapK IntKind.i64 (wrapK IntKind.i64 (wrapK IntKind.i64 (S.jn vs ws M 1) + wrapK IntKind.i64 (wrapK IntKind.i64 (S.jn vs ws M 2) * 2 ^ 8)) - a))]) 0 1)) ∧ bc (Nat.beq M 0) False (wl_E a c W (S.fin vs W a (S.row f W) ws M) (S.fin vs W a (setMany (S.row f W) (0 + Int.toNat (S.tp ws M) * 1) [LV.bool true]) (app (sub ws 0 (S.m1 M)) (sub (setMany [LV.int IntKind.i64 0] 0 [LV.int IntKind.i64 (wrapK IntKind.i64 (wrapK IntKind.i64 (wrapK IntKind.i64 (S.jn vs ws M 1) + wrapK IntKind.i64 (wrapK IntKind.i64 (S.jn vs ws M 2) * 2 ^ 8)) - a))]) 0 1)) (S.m1 M + 1)))) False) False) False) False)) False) False)) False) False) False)) (bc (eqI (S.kd (S.ot vs ws M)) 4) (eqI (S.kd (S.ot vs ws M)) (4 : Int) = true ∧ (ltI (S.tp ws M) (0 : Int) = false ∧ bc (ltI (S.tp ws M) ↑W) (bc (Nat.ble (0 + Int.toNat (S.tp ws M) * 1 + 1) (lenL vs)) (bc (S.an (bc (S.okG 0 S.tabV 1) (S.isB (S.ot vs ws M)) false) (eqI (S.len (S.ot vs ws M)) 3)) (bc (ltI (wrapK IntKind.i64 (S.tp ws M + 1)) 0) False (bc (ltI (wrapK IntKind.i64 (S.tp ws M + 1)) ↑W) (bc (Nat.ble (0 + Int.toNat (wrapK IntKind.i64 (S.tp ws M + 1)) * 1 + 1) (lenL vs)) (bc (ltI (wrapK IntKind.i64 (S.tp ws M + 2)) 0) False (bc (ltI (wrapK IntKind.i64 (S.tp ws M + 2)) ↑W) (bc (Nat.ble (0 + Int.toNat (wrapK IntKind.i64 (S.tp ws M + 2)) * 1 + 1) (lenL vs)) (bc (Nat.ble (0 + S.m1 M) (lenL ws)) (bc (Nat.ble ((S.m1 M + 2) * 8) 1099511627776) (wl_T m a et c W (S.m1 M + 2) w vs (setMany (setMany (setMany rc (0 + Int.toNat (wrapK IntKind.i64 (S.tp ws M + 0)) * 1) [LV.bool true]) (0 + Int.toNat (wrapK IntKind.i64 (S.tp ws M + 1)) * 1) [LV.bool true]) (0 + Int.toNat (wrapK IntKind.i64 (S.tp ws M + 2)) * 1) [LV.bool true]) (setMany (S.row f W) (0 + Int.toNat (S.tp ws M) * 1) [LV.bool true]) (app (sub ws 0 (S.m1 M)) (sub (setMany (setMany [LV.int IntKind.i64 0, LV.int IntKind.i64 0] 0 [LV.int IntKind.i64 (wrapK IntKind.i64 (wrapK IntKind.i64 (wrapK IntKind.i64 (S.jn vs ws M 1) + wrapK IntKind.i64 (wrapK IntKind.i64 (S.jn vs ws M 2) * 2 ^ 8)) - a))]) 1 [LV.int IntKind.i64 (wrapK IntKind.i64 (S.tp ws M + 3))]) 0 2)) ∧ bc (Nat.beq M 0) False (wl_E a c W (S.fin vs W a (S.row f W) ws M) (S.fin vs W a (setMany (S.row f W) (0 + Int.toNat (S.tp ws M) * 1) [LV.bool true]) (app (sub ws 0 (S.m1 M)) (sub (setMany (setMany [LV.int IntKind.i64 0, LV.int IntKind.i64 0] 0 [LV.int IntKind.i64 (wrapK IntKind.i64 (wrapK IntKind.i64 (wrapK IntKind.i64 (S.jn vs ws M 1) + wrapK IntKind.i64 (wrapK IntKind.i64 (S.jn vs ws M 2) * 2 ^ 8)) - a))]) 1 [LV.int IntKind.i64 (wrapK IntKind.i64 (S.tp ws M + 3))]) 0 2)) (S.m1 M + 2)))) False) False) False) False)) False) False)) False) False) False)) (bc (eqI (S.kd (S.ot vs ws M)) 8) (ltI (S.tp ws M) (0 : Int) = false ∧ bc (ltI (S.tp ws M) ↑W) (bc (Nat.ble (0 + Int.toNat (S.tp ws M) * 1 + 1) (lenL vs)) (bc (S.an (bc (S.okG 0 S.tabV 1) (S.isB (S.ot vs ws M)) false) (eqI (S.len (S.ot vs ws M)) 3)) (bc (ltI (wrapK IntKind.i64 (S.tp ws M + 1)) 0) False (bc (ltI (wrapK IntKind.i64 (S.tp ws M + 1)) ↑W) (bc (Nat.ble (0 + Int.toNat (wrapK IntKind.i64 (S.tp ws M + 1)) * 1 + 1) (lenL vs)) (bc (ltI (wrapK IntKind.i64 (S.tp ws M + 2)) 0) False (bc (ltI (wrapK IntKind.i64 (S.tp ws M + 2)) ↑W) (bc (Nat.ble (0 + Int.toNat (wrapK IntKind.i64 (S.tp ws M + 2)) * 1 + 1) (lenL vs)) (bc (Nat.ble (0 + S.m1 M) (lenL ws)) (bc (Nat.ble ((S.m1 M + 2) * 8) 1099511627776) (wl_T m a et c W (S.m1 M + 2) w vs (setMany (setMany (setMany rc (0 + Int.toNat (wrapK IntKind.i64 (S.tp ws M + 0)) * 1) [LV.bool true]) (0 + Int.toNat (wrapK IntKind.i64 (S.tp ws M + 1)) * 1) [LV.bool true]) (0 + Int.toNat (wrapK IntKind.i64 (S.tp ws M + 2)) * 1) [LV.bool true]) (setMany (S.row f W) (0 + Int.toNat (S.tp ws M) * 1) [LV.bool true]) (app (sub ws 0 (S.m1 M)) (sub (setMany (setMany [LV.int IntKind.i64 0, LV.int IntKind.i64 0] 0 [LV.int IntKind.i64 (wrapK IntKind.i64 (wrapK IntKind.i64 (wrapK IntKind.i64 (S.jn vs ws M 1) + wrapK IntKind.i64 (wrapK IntKind.i64 (S.jn vs ws M 2) * 2 ^ 8)) - a))]) 1 [LV.int IntKind.i64 (wrapK IntKind.i64 (S.tp ws M + 3))]) 0 2)) ∧ bc (Nat.beq M 0) False (wl_E a c W (S.fin vs W a (S.row f W) ws M) (S.fin vs W a (setMany (S.row f W) (0 + Int.toNat (S.tp ws M) * 1) [LV.bool true]) (app (sub ws 0 (S.m1 M)) (sub (setMany (setMany [LV.int IntKind.i64 0, LV.int IntKind.i64 0] 0 [LV.int IntKind.i64 (wrapK IntKind.i64 (wrapK IntKind.i64 (wrapK IntKind.i64 (S.jn vs ws M 1) + wrapK IntKind.i64 (wrapK IntKind.i64 (S.jn vs ws M 2) * 2 ^ 8)) - a))]) 1 [LV.int IntKind.i64 (wrapK IntKind.i64 (S.tp ws M + 3))]) 0 2)) (S.m1 M + 2)))) False) False) False) False)) False) False)) False) False) False) (bc (Nat.ble (0 + S.m1 M) (lenL ws)) (bc (Nat.ble ((S.m1 M + 1) * 8) 1099511627776) (wl_T m a et c W (S.m1 M + 1) w vs (setMany (setMany (setMany rc (0 + Int.toNat (wrapK IntKind.i64 (S.tp ws M + 0)) * 1) [LV.bool true]) (0 + Int.toNat (wrapK IntKind.i64 (S.tp ws M + 1)) * 1) [LV.bool true]) (0 + Int.toNat (wrapK IntKind.i64 (S.tp ws M + 2)) * 1) [LV.bool true]) (setMany (S.row f W) (0 + Int.toNat (S.tp ws M) * 1) [LV.bool true]) (app (sub ws 0 (S.m1 M)) (sub (setMany [LV.int IntKind.i64 0] 0 [LV.int IntKind.i64 (wrapK IntKind.i64 (S.tp ws M + 3))]) 0 1)) ∧ bc (Nat.beq M 0) False (wl_E a c W (S.fin vs W a (S.row f W) ws M) (S.fin vs W a (setMany (S.row f W) (0 + Int.toNat (S.tp ws M) * 1) [LV.bool true]) (app (sub ws 0 (S.m1 M)) (sub (setMany [LV.int IntKind.i64 0] 0 [LV.int IntKind.i64 (wrapK IntKind.i64 (S.tp ws M + 3))]) 0 1)) (S.m1 M + 1)))) False) False)))))))) False) False) False) False) False)) False) False)) False) False)) False) False)) False) False))) False) False) False))) False) False) False) False) False)) (bc (Nat.beq M 0) ((0 : Nat) = (0 : Nat) ∧ True) False)) := by kernel_rfl
theorem wl3_con (m a : Int) (et c W M : Nat) (w : Own) (vs rc ws : List LV) (f : Nat → Bool) (hb : S.okB vs = true) (hl : lenL vs = W) (hW : W ≤ 1000) (hA : 0 ≤ a ∧ a < 65536) (hI : S.Inv vs W a f rc (S.row f W) ws M) (hk : 0 < M → ∀ i : Nat, intOf (K.atV ws (M - 1)) = i → i < W → S.len (S.by1 vs i) = 3) (IH : ∀ (M2 : Nat) (rc2 bg2 ws2 : List LV) (f2 : Nat → Bool), 3 * S.cnt f2 W + M2 < 3 * S.cnt f W + M → S.Inv vs W a f2 rc2 bg2 ws2 M2 → wl_T m a et c W M2 w vs rc2 bg2 ws2) : GT Tryd.prog (fun k => .code (inner (inner (blkOf 22 2))) :: .inLoop (inner (inner (blkOf 22 2))) :: k) (Fr.ofL 22 81 [(7, .ptr 0 0)] [] none) (Heap.of [.cells 73 .exact [.int .i64 a, .slice 1 0 W (.known c), .slice 2 0 W (.known W), .slice 3 0 W (.known W), .slice 4 0 M (.rest 0)], .flat [.i .u8] et w vs, .flat [.bo] 4 .exact rc, .flat [.bo] 4 .exact (S.row f W), .flat [.i .i64] 3 (.grow 1) ws, .glob 0 S.tabV, .glob 1 [.int .i64 m]]) ((bc (Nat.beq M 0) ⟨.exit 2, [(7, .ptr 0 0)], [], []⟩ ⟨.exit 2, [(7, .ptr 0 0)], [(0, .cells 73 .exact [.int .i64 a, .slice 1 0 W (.known c), .slice 2 0 W (.known W), .slice 3 0 W (.known W), .slice 7 0 0 (.rest 0)]), (2, .flat [.bo] 4 .exact (S.fin vs W a (S.row f W) ws M)), (3, .dead), (4, .dead)], [.dead]⟩) : K.BRes).x (Fr.ofL 22 81 ((bc (Nat.beq M 0) ⟨.exit 2, [(7, .ptr 0 0)], [], []⟩ ⟨.exit 2, [(7, .ptr 0 0)], [(0, .cells 73 .exact [.int .i64 a, .slice 1 0 W (.known c), .slice 2 0 W (.known W), .slice 3 0 W (.known W), .slice 7 0 0 (.rest 0)]), (2, .flat [.bo] 4 .exact (S.fin vs W a (S.row f W) ws M)), (3, .dead), (4, .dead)], [.dead]⟩) : K.BRes).L [] none) (Heap.of (K.chg [.cells 73 .exact [.int .i64 a, .slice 1 0 W (.known c), .slice 2 0 W (.known W), .slice 3 0 W (.known W), .slice 4 0 M (.rest 0)], .flat [.i .u8] et w vs, .flat [.bo] 4 .exact rc, .flat [.bo] 4 .exact (S.row f W), .flat [.i .i64] 3 (.grow 1) ws, .glob 0 S.tabV, .glob 1 [.int .i64 m]] ((bc (Nat.beq M 0) ⟨.exit 2, [(7, .ptr 0 0)], [], []⟩ ⟨.exit 2, [(7, .ptr 0 0)], [(0, .cells 73 .exact [.int .i64 a, .slice 1 0 W (.known c), .slice 2 0 W (.known W), .slice 3 0 W (.known W), .slice 7 0 0 (.rest 0)]), (2, .flat [.bo] 4 .exact (S.fin vs W a (S.row f W) ws M)), (3, .dead), (4, .dead)], [.dead]⟩) : K.BRes).ch ++ ((bc (Nat.beq M 0) ⟨.exit 2, [(7, .ptr 0 0)], [], []⟩ ⟨.exit 2, [(7, .ptr 0 0)], [(0, .cells 73 .exact [.int .i64 a, .slice 1 0 W (.known c), .slice 2 0 W (.known W), .slice 3 0 W (.known W), .slice 7 0 0 (.rest 0)]), (2, .flat [.bo] 4 .exact (S.fin vs W a (S.row f W) ws M)), (3, .dead), (4, .dead)], [.dead]⟩) : K.BRes).new)) := by
 have hr := cast (wl3_run m a et c W M w vs rc ws f).symm (by
  by_cases hM : 0 < M
  rotate_left
  ·have z : M = 0 := by omega
   subst z
   have e : ltI 0 ((0 : Nat) : Int) = false := rfl
   have z2 : Nat.beq 0 0 = true := rfl
   simp only [e, z2, bc_false, bc_true, and_true]
  have hle := hI.le
  have hms := hI.ms
  have m1 : wrapK .i64 ((M : Int) - 1) = ((M - 1 : Nat) : Int) := by rw [wrapK_i64]; omega
  have m2 : S.m1 M = M - 1 := by
   show Int.toNat (wrapK .i64 ((M : Int) - 1)) = M - 1
   rw [m1]; exact Int.toNat_natCast _
  obtain ⟨x, hx⟩ : ∃ x, intOf (K.atV ws (M - 1)) = x := ⟨_, rfl⟩
  have tpx : S.tp ws M = x := by unfold S.tp; rw [m2, Nat.zero_add, Nat.mul_one]; exact hx
  have e1 : ltI 0 (M : Int) = true := ltI_true.2 (by omega)
  have n1 : ltI ((M - 1 : Nat) : Int) 0 = false := ltI_false.2 (by omega)
  have e2 : ltI ((M - 1 : Nat) : Int) M = true := ltI_true.2 (by omega)
  have b1 : Nat.ble (M - 1 + 1) (lenL ws) = true := S.bleN.2 (by omega)
  have b2 : Nat.ble (M - 1) M = true := S.bleN.2 (by omega)
  have b3 : Nat.ble M (lenL (flatF [.i .i64] ws)) = true := S.bleN.2 (by rw [K.lenL_eq, flat_length, ← K.lenL_eq]; omega)
  have nz : Nat.beq M 0 = false := by
   cases h : Nat.beq M 0 with
   | false => rfl
   | true => have := S.beqN.1 h; omega
  have SK : ∀ (h : S.valid vs W a x → f x.toNat = true), wl_T m a et c W (M - 1) w vs rc (S.row f W) ws ∧ wl_E a c W (S.fin vs W a (S.row f W) ws M) (S.fin vs W a (S.row f W) ws (M - 1)) := fun h => by
   obtain ⟨p1, p2⟩ := S.inv_pop hI hM hx h
   exact ⟨IH (M - 1) rc (S.row f W) ws f (by omega) p1, wl_Ei p2⟩
  by_cases h0 : x < 0
  ·simp only [m1, m2, tpx, e1, n1, e2, b1, b2, b3, ltI_true.2 h0, nz, Nat.zero_add, Nat.mul_one, notB_t, notB_f, bc_true, bc_false, true_and]
   exact SK (fun h => absurd h.1 (by omega))
  have x0 := ltI_false.2 (Int.not_lt.1 h0)
  by_cases h1 : (W : Int) ≤ x
  ·simp only [m1, m2, tpx, e1, n1, e2, b1, b2, b3, x0, ltI_false.2 h1, nz, Nat.zero_add, Nat.mul_one, notB_t, notB_f, bc_true, bc_false, true_and]
   exact SK (fun h => absurd h.2.1 (by omega))
  obtain ⟨i, rfl⟩ : ∃ i : Nat, x = i := ⟨x.toNat, by omega⟩
  have hi : i < W := by omega
  have hk := hk hM i hx hi
  have T : ∀ z : Nat, Int.toNat (z : Int) = z := Int.toNat_natCast
  have x1 : ltI (i : Int) W = true := ltI_true.2 (by omega)
  have ot : S.ot vs ws M = S.by1 vs i := by unfold S.ot; rw [tpx, Nat.zero_add, Int.toNat_natCast, Nat.mul_one]; rfl
  have bi : Nat.ble (i + 1) (lenL vs) = true := S.bleN.2 (by omega)
  have g0 := S.okB_at hb (i := i) (by omega)
  have iB : S.isB (S.by1 vs i) = true := S.isB_iff.2 g0
  have hG := S.okG_0
  have at2 : S.an true true = true := rfl
  have hkE : eqI (S.len (S.by1 vs i)) 3 = true := eqI_true.2 hk
  have ww : wrapK .i64 ((W : Int) - i) = (W : Int) - i := by rw [wrapK_i64]; omega
  have wa : wrapK .i64 (wrapK .i64 (a + i) + 3) = a + i + 3 := by rw [wrapK_i64, wrapK_i64]; omega
  have fit : S.fits vs W a i = true ↔ ¬ ((W : Int) - i < 3) ∧ ¬ (65536 < a + i + 3) := by unfold S.fits; rw [S.an_iff, notB_true, notB_true, ltI_false, ltI_false, hk]; omega
  by_cases h2 : (W : Int) - i < 3
  ·simp only [m1, m2, tpx, e1, n1, e2, b1, b2, b3, x0, x1, ot, bi, iB, hG, at2, hkE, ww, wa, nz, T, Nat.zero_add, Nat.mul_one, notB_t, notB_f, bc_true, bc_false, true_and, ltI_true.2 h2]
   exact SK (fun h => by have := h.2.2; rw [T] at this; exact absurd h2 (fit.1 this).1)
  by_cases h3 : 65536 < a + i + 3
  ·simp only [m1, m2, tpx, e1, n1, e2, b1, b2, b3, x0, x1, ot, bi, iB, hG, at2, hkE, ww, wa, nz, T, Nat.zero_add, Nat.mul_one, notB_t, notB_f, bc_true, bc_false, true_and, ltI_false.2 (Int.not_lt.1 h2), ltI_true.2 h3]
   exact SK (fun h => by have := h.2.2; rw [T] at this; exact absurd h3 (fit.1 this).2)
  have hfit := fit.2 ⟨h2, h3⟩
  have k2 := ltI_false.2 (Int.not_lt.1 h2)
  have k3 := ltI_false.2 (Int.not_lt.1 h3)
  have rl : ∀ g, lenL (S.row g W) = W := fun g => S.row_len g W
  have br : Nat.ble (i + 1) W = true := S.bleN.2 (by omega)
  have rb : boolOf (K.atV (S.row f W) i) = f i := S.row_b hi
  cases hf : f i with
  | true =>
   simp only [m1, m2, tpx, e1, n1, e2, b1, b2, b3, x0, x1, ot, bi, iB, hG, at2, hkE, ww, wa, nz, T, Nat.zero_add, Nat.mul_one, notB_t, notB_f, bc_true, bc_false, true_and, k2, k3, rl, br, rb, hf]
   exact SK (fun _ => by rw [T]; exact hf)
  | false =>
   have hrc := hI.rc
   subst hrc
   have w0 : wrapK .i64 ((i : Int) + 0) = (i : Int) := by rw [wrapK_i64]; omega
   have w1 : wrapK .i64 ((i : Int) + 1) = ((i + 1 : Nat) : Int) := by rw [wrapK_i64]; omega
   have w2 : wrapK .i64 ((i : Int) + 2) = ((i + 2 : Nat) : Int) := by rw [wrapK_i64]; omega
   have w3 : wrapK .i64 ((i : Int) + 3) = ((i + 3 : Nat) : Int) := by rw [wrapK_i64]; omega
   have b4 : Nat.ble (M - 1) (lenL ws) = true := S.bleN.2 (by omega)
   have b5 : Nat.ble ((M - 1 + 1) * 8) 1099511627776 = true := S.bleN.2 (by omega)
   have b6 : Nat.ble ((M - 1 + 2) * 8) 1099511627776 = true := S.bleN.2 (by omega)
   have st1 : ∀ y : Int, sub (setMany [LV.int .i64 0] 0 [LV.int .i64 y]) 0 1 = [LV.int .i64 y] := fun y => rfl
   have st2 : ∀ y z : Int, sub (setMany (setMany [LV.int .i64 0, LV.int .i64 0] 0 [LV.int .i64 y]) 1 [LV.int .i64 z]) 0 2 = [LV.int .i64 y, LV.int .i64 z] := fun y z => rfl
   have hK := S.tabK g0
   have rcE : setMany (setMany (setMany (S.row (S.cvf vs W f) W) i [.bool true]) (i + 1) [.bool true]) (i + 2) [.bool true] = S.row (S.cvf vs W (S.updB f i)) W := S.rc_3 (f := f) (by omega) hk
   have u0 : setMany (S.row f W) i [.bool true] = S.row (S.updB f i) W := S.row_upd hi
   have p1 : ltI ((i + 1 : Nat) : Int) 0 = false := ltI_false.2 (by omega)
   have q1 : ltI ((i + 1 : Nat) : Int) W = true := ltI_true.2 (by omega)
   have d1 : Nat.ble (i + 1 + 1) (lenL vs) = true := S.bleN.2 (by omega)
   have l1 : Nat.ble (i + 1 + 1) (lenL (setMany (S.row (S.cvf vs W f) W) i [.bool true])) = true := by
    rw [S.row_upd (by omega)]
    exact S.bleN.2 (by rw [S.row_len]; omega)
   have g1 := S.okB_at hb (i := i + 1) (by omega)
   have j1 : S.jn vs ws M 1 = S.by1 vs (i + 1) := by
    show intOf (K.atV vs (0 + Int.toNat (wrapK IntKind.i64 (S.tp ws M + 1)) * 1)) = _
    rw [tpx, w1, Int.toNat_natCast, Nat.zero_add, Nat.mul_one]; rfl
   have p2 : ltI ((i + 2 : Nat) : Int) 0 = false := ltI_false.2 (by omega)
   have q2 : ltI ((i + 2 : Nat) : Int) W = true := ltI_true.2 (by omega)
   have d2 : Nat.ble (i + 2 + 1) (lenL vs) = true := S.bleN.2 (by omega)
   have l2 : Nat.ble (i + 2 + 1) (lenL (setMany (setMany (S.row (S.cvf vs W f) W) i [.bool true]) (i + 1) [.bool true])) = true := by
    rw [S.row_upd (by omega), S.row_upd (by omega)]
    exact S.bleN.2 (by rw [S.row_len]; omega)
   have g2 := S.okB_at hb (i := i + 2) (by omega)
   have j2 : S.jn vs ws M 2 = S.by1 vs (i + 2) := by
    show intOf (K.atV vs (0 + Int.toNat (wrapK IntKind.i64 (S.tp ws M + 2)) * 1)) = _
    rw [tpx, w2, Int.toNat_natCast, Nat.zero_add, Nat.mul_one]; rfl
   have V0 : S.suc vs a i = [] → wl_T m a et c W (M - 1) w vs (S.row (S.cvf vs W (S.updB f i)) W) (S.row (S.updB f i) W) ws ∧ wl_E a c W (S.fin vs W a (S.row f W) ws M) (S.fin vs W a (S.row (S.updB f i) W) ws (M - 1)) := fun hs => by
    obtain ⟨p1, p2, p3⟩ := S.inv_visit (ws2 := ws) (M2 := M - 1) hI hM hx hi hfit hf hs rfl (by omega) (by decide) (fun _ _ => rfl) (fun j h => absurd h (Nat.not_lt_zero j))
    exact ⟨IH (M - 1) _ _ ws (S.updB f i) p3 p1, wl_Ei p2⟩
   have V1 : ∀ y : Int, S.suc vs a i = [y] → wl_T m a et c W (M - 1 + 1) w vs (S.row (S.cvf vs W (S.updB f i)) W) (S.row (S.updB f i) W) (app (sub ws 0 (M - 1)) [LV.int .i64 y]) ∧ wl_E a c W (S.fin vs W a (S.row f W) ws M) (S.fin vs W a (S.row (S.updB f i) W) (app (sub ws 0 (M - 1)) [LV.int .i64 y]) (M - 1 + 1)) := fun y hs => by
    have A := fun k => S.app_at (ws := ws) (n := M - 1) (k := k) (l := [LV.int .i64 y]) (by omega)
    obtain ⟨p1, p2, p3⟩ := S.inv_visit (ws2 := app (sub ws 0 (M - 1)) [LV.int .i64 y]) (M2 := M - 1 + 1) hI hM hx hi hfit hf hs rfl (by rw [(A 0).2.2]; exact Nat.le_refl _) (by simp) (fun k h => by rw [(A k).1 h]) (fun j h => by
     rw [(A j).2.1]
     have : j = 0 := by simp at h; omega
     subst this; rfl)
    exact ⟨IH (M - 1 + 1) _ _ _ (S.updB f i) p3 p1, wl_Ei p2⟩
   have V2 : ∀ y z : Int, S.suc vs a i = [y, z] → wl_T m a et c W (M - 1 + 2) w vs (S.row (S.cvf vs W (S.updB f i)) W) (S.row (S.updB f i) W) (app (sub ws 0 (M - 1)) [LV.int .i64 y, LV.int .i64 z]) ∧ wl_E a c W (S.fin vs W a (S.row f W) ws M) (S.fin vs W a (S.row (S.updB f i) W) (app (sub ws 0 (M - 1)) [LV.int .i64 y, LV.int .i64 z]) (M - 1 + 2)) := fun y z hs => by
    have A := fun k => S.app_at (ws := ws) (n := M - 1) (k := k) (l := [LV.int .i64 y, LV.int .i64 z]) (by omega)
    obtain ⟨p1, p2, p3⟩ := S.inv_visit (ws2 := app (sub ws 0 (M - 1)) [LV.int .i64 y, LV.int .i64 z]) (M2 := M - 1 + 2) hI hM hx hi hfit hf hs rfl (by rw [(A 0).2.2]; exact Nat.le_refl _) (by simp) (fun k h => by rw [(A k).1 h]) (fun j h => by
     rw [(A j).2.1]
     have : j = 0 ∨ j = 1 := by simp at h; omega
     rcases this with rfl | rfl <;> rfl)
    exact ⟨IH (M - 1 + 2) _ _ _ (S.updB f i) p3 p1, wl_Ei p2⟩
   cases q9 : eqI (S.kd (S.by1 vs i)) 9 with
   | true =>
    simp only [m1, m2, tpx, e1, n1, e2, b1, b2, b3, x0, x1, ot, bi, iB, hG, at2, hkE, ww, wa, nz, T, Nat.zero_add, Nat.mul_one, notB_t, notB_f, bc_true, bc_false, true_and, k2, k3, rl, br, rb, hf, w0, w1, w2, w3, b4, b5, b6, st1, st2, u0, rcE, p1, q1, d1, l1, j1, p2, q2, d2, l2, j2, q9]
    exact V0 (by unfold S.suc S.isE; rw [q9]; rfl)
   | false =>
    cases q10 : eqI (S.kd (S.by1 vs i)) 10 with
    | true =>
     simp only [m1, m2, tpx, e1, n1, e2, b1, b2, b3, x0, x1, ot, bi, iB, hG, at2, hkE, ww, wa, nz, T, Nat.zero_add, Nat.mul_one, notB_t, notB_f, bc_true, bc_false, true_and, k2, k3, rl, br, rb, hf, w0, w1, w2, w3, b4, b5, b6, st1, st2, u0, rcE, p1, q1, d1, l1, j1, p2, q2, d2, l2, j2, q9, q10]
     exact V0 (by unfold S.suc S.isE; rw [q9, q10]; rfl)
    | false =>
     cases q11 : eqI (S.kd (S.by1 vs i)) 11 with
     | true =>
      simp only [m1, m2, tpx, e1, n1, e2, b1, b2, b3, x0, x1, ot, bi, iB, hG, at2, hkE, ww, wa, nz, T, Nat.zero_add, Nat.mul_one, notB_t, notB_f, bc_true, bc_false, true_and, k2, k3, rl, br, rb, hf, w0, w1, w2, w3, b4, b5, b6, st1, st2, u0, rcE, p1, q1, d1, l1, j1, p2, q2, d2, l2, j2, q9, q10, q11]
      exact V0 (by unfold S.suc S.isE; rw [q9, q10, q11]; rfl)
     | false =>
      cases q12 : eqI (S.kd (S.by1 vs i)) 12 with
      | true =>
       simp only [m1, m2, tpx, e1, n1, e2, b1, b2, b3, x0, x1, ot, bi, iB, hG, at2, hkE, ww, wa, nz, T, Nat.zero_add, Nat.mul_one, notB_t, notB_f, bc_true, bc_false, true_and, k2, k3, rl, br, rb, hf, w0, w1, w2, w3, b4, b5, b6, st1, st2, u0, rcE, p1, q1, d1, l1, j1, p2, q2, d2, l2, j2, q9, q10, q11, q12]
       exact V0 (by unfold S.suc S.isE; rw [q9, q10, q11, q12]; rfl)
      | false =>
       cases q7 : eqI (S.kd (S.by1 vs i)) 7 with
       | true =>
        cases q12m : eqI (S.md (S.by1 vs i)) 12 with
        | true =>
         simp only [m1, m2, tpx, e1, n1, e2, b1, b2, b3, x0, x1, ot, bi, iB, hG, at2, hkE, ww, wa, nz, T, Nat.zero_add, Nat.mul_one, notB_t, notB_f, bc_true, bc_false, true_and, k2, k3, rl, br, rb, hf, w0, w1, w2, w3, b4, b5, b6, st1, st2, u0, rcE, p1, q1, d1, l1, j1, p2, q2, d2, l2, j2, q9, q10, q11, q12, q7, q12m]
         exact V0 (by unfold S.suc S.isE; rw [q9, q10, q11, q12, q7, q12m]; rfl)
        | false =>
         simp only [m1, m2, tpx, e1, n1, e2, b1, b2, b3, x0, x1, ot, bi, iB, hG, at2, hkE, ww, wa, nz, T, Nat.zero_add, Nat.mul_one, notB_t, notB_f, bc_true, bc_false, true_and, k2, k3, rl, br, rb, hf, w0, w1, w2, w3, b4, b5, b6, st1, st2, u0, rcE, p1, q1, d1, l1, j1, p2, q2, d2, l2, j2, q9, q10, q11, q12, q7, q12m, S.tgA hA g1 g2]
         exact V1 _ (by unfold S.suc S.isE S.tgx; rw [q9, q10, q11, q12, q7, q12m, hk]; rfl)
       | false =>
        cases q4 : eqI (S.kd (S.by1 vs i)) 4 with
        | true => have := hK.1 q4; omega
        | false =>
         cases q8 : eqI (S.kd (S.by1 vs i)) 8 with
         | true =>
          simp only [m1, m2, tpx, e1, n1, e2, b1, b2, b3, x0, x1, ot, bi, iB, hG, at2, hkE, ww, wa, nz, T, Nat.zero_add, Nat.mul_one, notB_t, notB_f, bc_true, bc_false, true_and, k2, k3, rl, br, rb, hf, w0, w1, w2, w3, b4, b5, b6, st1, st2, u0, rcE, p1, q1, d1, l1, j1, p2, q2, d2, l2, j2, q9, q10, q11, q12, q7, q4, q8, S.tgA hA g1 g2]
          exact V2 _ _ (by unfold S.suc S.isE S.tgx; rw [q9, q10, q11, q12, q7, q4, q8, hk]; rfl)
         | false =>
          simp only [m1, m2, tpx, e1, n1, e2, b1, b2, b3, x0, x1, ot, bi, iB, hG, at2, hkE, ww, wa, nz, T, Nat.zero_add, Nat.mul_one, notB_t, notB_f, bc_true, bc_false, true_and, k2, k3, rl, br, rb, hf, w0, w1, w2, w3, b4, b5, b6, st1, st2, u0, rcE, p1, q1, d1, l1, j1, p2, q2, d2, l2, j2, q9, q10, q11, q12, q7, q4, q8]
          exact V1 _ (by unfold S.suc S.isE; rw [q9, q10, q11, q12, q7, q4, q8, hk]; rfl))
 obtain ⟨q1, q2⟩ := K.RunL2.one hr
 cases hb : Nat.beq M 0
 ·exact K.loop_of_run good (envL_ok (fun p hp => by simp only [List.mem_cons, List.not_mem_nil, or_false] at hp; rcases hp with rfl | rfl <;> first | exact cof_ok | exact lw3_ok)) K.openE_ok (q2 hb)
 ·exact K.loop_of_run good (envL_ok (fun p hp => by simp only [List.mem_cons, List.not_mem_nil, or_false] at hp; rcases hp with rfl | rfl <;> first | exact cof_ok | exact lw3_ok)) K.openE_ok (q1 hb)
theorem wl_mv {pre : List Item → List Item} {f1 : Fr} {H : Heap} {x : LX} (m a : Int) (et c W : Nat) (w : Own) (vs rc ws : List LV) (f : Nat → Bool) (h : GT Tryd.prog pre f1 H x (Fr.ofL 22 81 [(7, .ptr 0 0)] [] none) (Heap.of [.cells 73 .exact [.int .i64 a, .slice 1 0 W (.known c), .slice 2 0 W (.known W), .slice 3 0 W (.known W), .slice 4 0 0 (.rest 0)], .flat [.i .u8] et w vs, .flat [.bo] 4 .exact rc, .flat [.bo] 4 .exact (S.row f W), .flat [.i .i64] 3 (.grow 1) ws, .glob 0 S.tabV, .glob 1 [.int .i64 m]])) (hn : H.n ≤ 7) (hx : ∀ v, x ≠ .pan v) :
  GT Tryd.prog pre f1 H x (Fr.ofL 22 81 [(7, .ptr 0 0)] [] none) (Heap.of [.cells 73 .exact [.int .i64 a, .slice 1 0 W (.known c), .slice 2 0 W (.known W), .slice 3 0 W (.known W), .slice 7 0 0 (.rest 0)], .flat [.i .u8] et w vs, .flat [.bo] 4 .exact rc, .dead, .dead, .glob 0 S.tabV, .glob 1 [.int .i64 m], .dead]) := by
 have h7 : at_ (K.mvl 7 4) 7 = 4 := rfl
 refine K.GT_mv2 (os := [.cells 73 .exact [.int .i64 a, .slice 1 0 W (.known c), .slice 2 0 W (.known W), .slice 3 0 W (.known W), .slice 4 0 0 (.rest 0)], .flat [.i .u8] et w vs, .flat [.bo] 4 .exact rc, .flat [.bo] 4 .exact (S.row f W), .flat [.i .i64] 3 (.grow 1) ws, .glob 0 S.tabV, .glob 1 [.int .i64 m]]) (j := 4) h hn (by show 4 < 7; decide) rfl (fun _ => rfl) ?_ hx ⟨by (have hg : (Fr.ofL 22 81 [(7, .ptr 0 0)] [] none).get 7 = .ptr 0 0 := by kernel_rfl); (show sameV (at_ (K.mvl 7 4)) (.ptr 0 0) ((Fr.ofL 22 81 [(7, .ptr 0 0)] [] none).get 7)); (rw [hg]; simp only [sameV]; repeat' (first | exact rfl | exact trivial | constructor)), trivial⟩ ⟨by (show lt 8 (.ptr 0 0)); simp [lt], trivial⟩
 intro i h1 h2
 have hcase : i = 0 ∨ i = 1 ∨ i = 2 ∨ i = 3 ∨ i = 5 ∨ i = 6 ∨ i = 7 := by
  have : i < 8 := h1
  omega
 rcases hcase with rfl | rfl | rfl | rfl | rfl | rfl | rfl
 ·exact ⟨(by show 0 < 7; decide), (by show sameObj (at_ (K.mvl 7 4)) (.cells 73 .exact [.int .i64 a, .slice 1 0 W (.known c), .slice 2 0 W (.known W), .slice 3 0 W (.known W), .slice 7 0 0 (.rest 0)]) (.cells 73 .exact [.int .i64 a, .slice 1 0 W (.known c), .slice 2 0 W (.known W), .slice 3 0 W (.known W), .slice 4 0 0 (.rest 0)]); simp [sameObj, sameVs, sameV]; repeat' (first | exact h7 | exact rfl | exact trivial | constructor)), (by simp [ltObj, lts, lt])⟩
 ·exact ⟨(by show 1 < 7; decide), (by show sameObj (at_ (K.mvl 7 4)) (.flat [.i .u8] et w vs) (.flat [.i .u8] et w vs); simp [sameObj, sameVs, sameV]), (by simp [ltObj])⟩
 ·exact ⟨(by show 2 < 7; decide), (by show sameObj (at_ (K.mvl 7 4)) (.flat [.bo] 4 .exact rc) (.flat [.bo] 4 .exact rc); simp [sameObj, sameVs, sameV]), (by simp [ltObj])⟩
 ·exact ⟨(by show 3 < 7; decide), trivial, trivial⟩
 ·exact ⟨(by show 5 < 7; decide), (by show sameObj (at_ (K.mvl 7 4)) (.glob 0 S.tabV) (.glob 0 S.tabV); simp [sameObj, sameVs, sameV]), (by simp [ltObj])⟩
 ·exact ⟨(by show 6 < 7; decide), (by show sameObj (at_ (K.mvl 7 4)) (.glob 1 [.int .i64 m]) (.glob 1 [.int .i64 m]); simp [sameObj, sameVs, sameV]), (by simp [ltObj])⟩
 ·exact ⟨(by show 4 < 7; decide), trivial, trivial⟩
theorem wl_lok (m a : Int) (et c W : Nat) (w : Own) (vs : List LV) (hb : S.okB vs = true) (hl : lenL vs = W) (hW : W ≤ 1000) (hA : 0 ≤ a ∧ a < 65536) : ∀ (j M : Nat) (rc bg ws : List LV) (f : Nat → Bool), 3 * S.cnt f W + M = j → S.Inv vs W a f rc bg ws M → wl_T m a et c W M w vs rc bg ws := by
 intro j
 induction j using Nat.strongRecOn with
 | _ j ih =>
  intro M rc bg ws f hm hI
  have hbg := hI.bg
  subst hbg
  have IH := fun (M2 : Nat) (rc2 bg2 ws2 : List LV) (f2 : Nat → Bool) (h : 3 * S.cnt f2 W + M2 < 3 * S.cnt f W + M) (h2 : S.Inv vs W a f2 rc2 bg2 ws2 M2) => ih _ (by omega) M2 rc2 bg2 ws2 f2 rfl h2
  have h : GT Tryd.prog (fun k => .code (inner (inner (blkOf 22 2))) :: .inLoop (inner (inner (blkOf 22 2))) :: k) (Fr.ofL 22 81 [(7, .ptr 0 0)] [] none) (Heap.of [.cells 73 .exact [.int .i64 a, .slice 1 0 W (.known c), .slice 2 0 W (.known W), .slice 3 0 W (.known W), .slice 4 0 M (.rest 0)], .flat [.i .u8] et w vs, .flat [.bo] 4 .exact rc, .flat [.bo] 4 .exact (S.row f W), .flat [.i .i64] 3 (.grow 1) ws, .glob 0 S.tabV, .glob 1 [.int .i64 m]]) (bc (Nat.beq M 0) ⟨.exit 2, [(7, .ptr 0 0)], [], []⟩ ⟨.exit 2, [(7, .ptr 0 0)], [(0, .cells 73 .exact [.int .i64 a, .slice 1 0 W (.known c), .slice 2 0 W (.known W), .slice 3 0 W (.known W), .slice 7 0 0 (.rest 0)]), (2, .flat [.bo] 4 .exact (S.fin vs W a (S.row f W) ws M)), (3, .dead), (4, .dead)], [.dead]⟩ : K.BRes).x (Fr.ofL 22 81 (bc (Nat.beq M 0) ⟨.exit 2, [(7, .ptr 0 0)], [], []⟩ ⟨.exit 2, [(7, .ptr 0 0)], [(0, .cells 73 .exact [.int .i64 a, .slice 1 0 W (.known c), .slice 2 0 W (.known W), .slice 3 0 W (.known W), .slice 7 0 0 (.rest 0)]), (2, .flat [.bo] 4 .exact (S.fin vs W a (S.row f W) ws M)), (3, .dead), (4, .dead)], [.dead]⟩ : K.BRes).L [] none) (Heap.of (K.chg [.cells 73 .exact [.int .i64 a, .slice 1 0 W (.known c), .slice 2 0 W (.known W), .slice 3 0 W (.known W), .slice 4 0 M (.rest 0)], .flat [.i .u8] et w vs, .flat [.bo] 4 .exact rc, .flat [.bo] 4 .exact (S.row f W), .flat [.i .i64] 3 (.grow 1) ws, .glob 0 S.tabV, .glob 1 [.int .i64 m]] (bc (Nat.beq M 0) ⟨.exit 2, [(7, .ptr 0 0)], [], []⟩ ⟨.exit 2, [(7, .ptr 0 0)], [(0, .cells 73 .exact [.int .i64 a, .slice 1 0 W (.known c), .slice 2 0 W (.known W), .slice 3 0 W (.known W), .slice 7 0 0 (.rest 0)]), (2, .flat [.bo] 4 .exact (S.fin vs W a (S.row f W) ws M)), (3, .dead), (4, .dead)], [.dead]⟩ : K.BRes).ch ++ (bc (Nat.beq M 0) ⟨.exit 2, [(7, .ptr 0 0)], [], []⟩ ⟨.exit 2, [(7, .ptr 0 0)], [(0, .cells 73 .exact [.int .i64 a, .slice 1 0 W (.known c), .slice 2 0 W (.known W), .slice 3 0 W (.known W), .slice 7 0 0 (.rest 0)]), (2, .flat [.bo] 4 .exact (S.fin vs W a (S.row f W) ws M)), (3, .dead), (4, .dead)], [.dead]⟩ : K.BRes).new)) := by
   rcases S.len_cases (S.by1 vs (Int.toNat (intOf (K.atV ws (M - 1))))) with hk | hk | hk
   ·exact wl1_con m a et c W M w vs rc ws f hb hl hW hA hI (fun _ i hi _ => by rw [hi, Int.toNat_natCast] at hk; exact hk) IH
   ·exact wl2_con m a et c W M w vs rc ws f hb hl hW hA hI (fun _ i hi _ => by rw [hi, Int.toNat_natCast] at hk; exact hk) IH
   ·exact wl3_con m a et c W M w vs rc ws f hb hl hW hA hI (fun _ i hi _ => by rw [hi, Int.toNat_natCast] at hk; exact hk) IH
  cases hb2 : Nat.beq M 0 with
  | false => rw [hb2] at h; exact h
  | true =>
   rw [hb2] at h
   have hz := S.beqN.1 hb2
   subst hz
   have hf := S.inv_end hI
   unfold wl_T
   rw [hf]
   exact wl_mv m a et c W w vs rc ws f h (Nat.le_refl 7) (fun v e => by cases e)
theorem wl_blk (m a : Int) (et c W M : Nat) (w : Own) (vs rc bg ws : List LV) (f : Nat → Bool) (hb : S.okB vs = true) (hl : lenL vs = W) (hW : W ≤ 1000) (hA : 0 ≤ a ∧ a < 65536) (hI : S.Inv vs W a f rc bg ws M) : K.BOk Tryd.prog 22 81 (blkOf 22 2) [7] [.ptr 0 0] [.cells 73 .exact [.int .i64 a, .slice 1 0 W (.known c), .slice 2 0 W (.known W), .slice 3 0 W (.known W), .slice 4 0 M (.rest 0)], .flat [.i .u8] et w vs, .flat [.bo] 4 .exact rc, .flat [.bo] 4 .exact bg, .flat [.i .i64] 3 (.grow 1) ws, .glob 0 S.tabV, .glob 1 [.int .i64 m]] ⟨.normal, [(7, .ptr 0 0)], [(0, .cells 73 .exact [.int .i64 a, .slice 1 0 W (.known c), .slice 2 0 W (.known W), .slice 3 0 W (.known W), .slice 7 0 0 (.rest 0)]), (2, .flat [.bo] 4 .exact (S.fin vs W a bg ws M)), (3, .dead), (4, .dead)], [.dead]⟩ := by
 have hb2 : blkOf 22 2 = .block 2 (.loop (inner (inner (blkOf 22 2)))) := by kernel_rfl
 unfold K.BOk
 rw [hb2]
 exact K.CT.block (K.GT.loop (wl_lok m a et c W w vs hb hl hW hA _ M rc bg ws f rfl hI))
end Go.Proofs.YtlgfojaalmelhaaDoor.Ev
