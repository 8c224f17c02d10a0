/- Contracts, proved: Fff. -/
import Derived.Test.YtogngajglbgjmaaFffD
import Derived.Test.YtogngajglbgjmaaFbk
import Derived.Test.YtogngajglbgjmaaFakP
import Derived.Test.YtogngajglbgjmaaFunP
import Derived.Test.YtogngajglbgjmaaFpkP
namespace Go.Proofs.Ytogngajglbgjmaa.Ev
open Go
set_option linter.unusedVariables false
set_option linter.unusedSimpArgs false
set_option maxRecDepth 100000
set_option maxHeartbeats 1000000
namespace S
theorem fx_rng {a : Int} {L : Nat} (h : 1 ≤ L) (h2 : L ≤ 1000000) : 0 ≤ fx a L ∧ fx a L < L ∧ wrapK .u64 ((0 + L : Nat) : Int) = (L : Int) := by
  unfold fx
  have w : wrapK .u64 ((0 + L : Nat) : Int) = (L : Int) := by rw [wrapK_u64]; omega
  have u0 : 0 ≤ wrapK .u64 a := by rw [wrapK_u64]; omega
  rw [w, Int.tmod_eq_emod_of_nonneg u0, wrapK_i64]
  have m0 := Int.emod_nonneg (wrapK .u64 a) (show (L : Int) ≠ 0 by omega)
  have m1 := Int.emod_lt_of_pos (wrapK .u64 a) (show (0 : Int) < L by omega)
  omega
theorem set_len {vs : List LV} {i : Nat} {x : LV} (hi : i + 1 ≤ lenL vs) : lenL (setMany vs i [x]) = lenL vs := by
  rw [K.lenL_eq] at hi
  rw [K.lenL_eq, K.lenL_eq, setMany_length _ _ _ (by simpa using hi)]
theorem set_at {vs : List LV} {i q : Nat} {x : LV} (hi : i + 1 ≤ lenL vs) : K.atV (setMany vs i [x]) q = if q = i then x else K.atV vs q := by
  rw [K.lenL_eq] at hi
  have e : setMany vs i [x] = vs.set i x := by
    rw [setMany_eq _ _ _ (by simpa using hi), List.set_eq_take_append_cons_drop, if_pos (by omega)]
    simp
  rw [e]
  unfold K.atV
  rw [List.getD_eq_getElem?_getD, List.getD_eq_getElem?_getD, List.getElem?_set]
  by_cases h : q = i
  · subst h; rw [if_pos rfl, if_pos rfl, if_pos (by omega)]; rfl
  · rw [if_neg (fun e => h e.symm), if_neg h]
theorem set_byts {vs : List LV} (hV : Byts vs) {i : Nat} {v : Int} (hi : i + 1 ≤ lenL vs) (h0 : 0 ≤ v) (h1 : v < 256) : Byts (setMany vs i [.int .u8 v]) := by
  intro q hq
  rw [set_len hi] at hq
  rw [set_at hi]
  by_cases h : q = i
  · rw [if_pos h]; exact ⟨v, rfl, h0, h1⟩
  · rw [if_neg h]; exact hV q hq
theorem ck1_fst {vs : List LV} {i : Int} {p : Int × Int} (hp : 0 ≤ p.1 ∧ p.1 < 255) (hb : 0 ≤ intOf (K.atV vs i.toNat) ∧ intOf (K.atV vs i.toNat) < 256) : (ck1 vs i p).1 = (p.1 + intOf (K.atV vs i.toNat)) % 255 := by
  have w1 : wrapK .i64 (intOf (K.atV vs i.toNat)) = intOf (K.atV vs i.toNat) := by rw [wrapK_i64]; omega
  have w2 : wrapK .i64 (p.1 + intOf (K.atV vs i.toNat)) = p.1 + intOf (K.atV vs i.toNat) := by rw [wrapK_i64]; omega
  unfold ck1
  rw [Nat.zero_add, Nat.mul_one, w1]
  show (wrapK .i64 (p.1 + intOf (K.atV vs i.toNat))).tmod 255 = _
  rw [w2, Int.tmod_eq_emod_of_nonneg (by omega)]
theorem ckr_succ (vs : List LV) (j : Nat) (i : Int) (p : Int × Int) : ckr vs (j + 1) i p = ckr vs j (i + 1) (ck1 vs i p) := rfl
theorem ckr_rng {vs : List LV} {n : Nat} (hb : ∀ q, q < n → 0 ≤ intOf (K.atV vs q) ∧ intOf (K.atV vs q) < 256) : ∀ (j : Nat) (i : Int) (p : Int × Int), 0 ≤ i → i.toNat + j ≤ n → 0 ≤ p.1 ∧ p.1 < 255 → 0 ≤ (ckr vs j i p).1 ∧ (ckr vs j i p).1 < 255
  | 0, i, p, _, _, h => h
  | j + 1, i, p, h0, h1, h => by
    rw [ckr_succ]
    refine ckr_rng hb j (i + 1) _ (by omega) (by omega) ?_
    rw [ck1_fst h (hb _ (by omega))]; omega
theorem ckr_diff {vs us : List LV} {n t : Nat} (ht : t < n) (hs : ∀ q, q < n → q ≠ t → intOf (K.atV vs q) = intOf (K.atV us q)) (hd : intOf (K.atV vs t) % 255 ≠ intOf (K.atV us t) % 255) (hv : ∀ q, q < n → 0 ≤ intOf (K.atV vs q) ∧ intOf (K.atV vs q) < 256)
    (hu : ∀ q, q < n → 0 ≤ intOf (K.atV us q) ∧ intOf (K.atV us q) < 256) : ∀ (j : Nat) (i : Int) (p r : Int × Int), 0 ≤ i → i.toNat + j = n → (0 ≤ p.1 ∧ p.1 < 255) → (0 ≤ r.1 ∧ r.1 < 255) → ((p.1 ≠ r.1 ∧ t < i.toNat) ∨ (p.1 = r.1 ∧ i.toNat ≤ t)) → (ckr vs j i p).1 ≠ (ckr us j i r).1
  | 0, i, p, r, h0, h1, hp, hr, h => by
    rcases h with h | h
    · exact h.1
    · omega
  | j + 1, i, p, r, h0, h1, hp, hr, h => by
    rw [ckr_succ, ckr_succ]
    have b1 := hv i.toNat (by omega)
    have b2 := hu i.toNat (by omega)
    have e1 := ck1_fst hp b1
    have e2 := ck1_fst hr b2
    refine ckr_diff ht hs hd hv hu j (i + 1) _ _ (by omega) (by omega) (by rw [e1]; omega) (by rw [e2]; omega) ?_
    rw [e1, e2]
    by_cases hq : i.toNat = t
    · rw [hq] at b1 b2 ⊢
      rcases h with h | h
      · omega
      · left
        refine ⟨?_, by omega⟩
        rw [h.1]; omega
    · have hsq := hs i.toNat (by omega) hq
      rw [hsq] at b1 ⊢
      rcases h with h | h
      · left; refine ⟨?_, by omega⟩; omega
      · right; refine ⟨?_, by omega⟩; rw [h.1]
theorem cA_diff {vs us : List LV} {n t : Nat} (ht : t < n) (hs : ∀ q, q < n → q ≠ t → intOf (K.atV vs q) = intOf (K.atV us q)) (hd : intOf (K.atV vs t) % 255 ≠ intOf (K.atV us t) % 255) (hv : ∀ q, q < n → 0 ≤ intOf (K.atV vs q) ∧ intOf (K.atV vs q) < 256)
    (hu : ∀ q, q < n → 0 ≤ intOf (K.atV us q) ∧ intOf (K.atV us q) < 256) : cA vs n ≠ cA us n := by
  have h := ckr_diff ht hs hd hv hu n 0 (0, 0) (0, 0) (Int.le_refl 0) (by simp) ⟨by decide, by decide⟩ ⟨by decide, by decide⟩ (.inr ⟨rfl, by simp⟩)
  have r1 := ckr_rng hv n 0 (0, 0) (Int.le_refl 0) (by simp) ⟨by decide, by decide⟩
  have r2 := ckr_rng hu n 0 (0, 0) (Int.le_refl 0) (by simp) ⟨by decide, by decide⟩
  unfold cA ca
  rw [wrapK_u8, wrapK_u8]
  intro e
  apply h
  omega
theorem Byts.at {vs : List LV} (h : Byts vs) {q : Nat} (hq : q < lenL vs) : 0 ≤ intOf (K.atV vs q) ∧ intOf (K.atV vs q) < 256 := by
  obtain ⟨b, e, b0, b1⟩ := h q hq
  rw [e]; exact ⟨b0, b1⟩
/-- One byte that is another one is found. -/
theorem ff_no {vs : List LV} {L i : Nat} {v : Int} (hV : Byts vs) (hL : lenL vs = L) (hO : uo vs L = true) (hi : i < L) (h0 : 0 ≤ v) (h1 : v < 256) (hd : v % 255 ≠ intOf (K.atV vs i) % 255) : uo (setMany vs i [.int .u8 v]) L = false := by
  cases hn : uo (setMany vs i [.int .u8 v]) L with
  | false => rfl
  | true =>
    exfalso
    have hi2 : i + 1 ≤ lenL vs := by omega
    obtain ⟨h4, _, x1, x2⟩ := uh_iff.1 (uo_iff.1 hO).1
    obtain ⟨_, _, y1, y2⟩ := uh_iff.1 (uo_iff.1 hn).1
    have hN := set_byts hV hi2 h0 h1
    have hNl : lenL (setMany vs i [.int .u8 v]) = L := by rw [set_len hi2, hL]
    have ati : K.atV (setMany vs i [.int .u8 v]) i = .int .u8 v := by rw [set_at hi2, if_pos rfl]
    have atq : ∀ q, q ≠ i → K.atV (setMany vs i [.int .u8 v]) q = K.atV vs q := fun q hq => by rw [set_at hi2, if_neg hq]
    by_cases c1 : i < L - 2
    · rw [atq (L - 2) (by omega), x1] at y1
      refine cA_diff c1 (fun q hq hne => by rw [atq q hne]) (by rw [ati]; exact fun e => hd e.symm.symm) (fun q hq => hN.at (by omega)) (fun q hq => hV.at (by omega)) y1.symm
    · by_cases c2 : i = L - 2
      · subst c2
        rw [ati, cA_congr (us := vs) (fun q hq => by rw [atq q (by omega)]), ← x1] at y1
        exact hd (by rw [← y1]; rfl)
      · have c3 : i = L - 1 := by omega
        subst c3
        rw [ati, cB_congr (us := vs) (fun q hq => by rw [atq q (by omega)]), ← x2] at y2
        exact hd (by rw [← y2]; rfl)
/-- What is told of the bytes of words. -/
def PF (ws : List LV) (W : Nat) : Prop := Byts (packed ws W) ∧ (4 ≤ packL ws W ∧ packL ws W ≤ 1000000) ∧ uo (packed ws W) (packL ws W) = true
theorem pf_of {ws : List LV} {W : Nat} (hw : lenL ws = W) (hN : Nums ws) (hW : W ≤ 100000) : PF ws W := by
  obtain ⟨a, b, c, _⟩ := read_packed hw hN hW
  exact ⟨a, b, c⟩
/-- The bytes, one of them turned. -/
noncomputable def tb (ws : List LV) (W : Nat) (a v : Int) : List LV := setMany (packed ws W) (fx a (packL ws W)).toNat [.int .u8 v]
theorem tb_facts {ws : List LV} {W : Nat} {a v : Int} (h : PF ws W) (h0 : 0 ≤ v) (h1 : v ≤ 255) : okU (tb ws W a v) (packL ws W) (packL ws W) = true ∧ (v % 255 ≠ intOf (K.atV (packed ws W) (fx a (packL ws W)).toNat) % 255 → uo (tb ws W a v) (packL ws W) = false) := by
  obtain ⟨hB, ⟨l1, l2⟩, hO⟩ := h
  obtain ⟨f0, f1, _⟩ := fx_rng (a := a) (L := packL ws W) (by omega) l2
  have hi : (fx a (packL ws W)).toNat < packL ws W := by omega
  have hi2 : (fx a (packL ws W)).toNat + 1 ≤ lenL (packed ws W) := hi
  refine ⟨okU_iff.2 ⟨⟨(set_byts hB hi2 h0 (by omega)).okY, ?_⟩, l2, Nat.le_refl _⟩, fun hd => ff_no hB rfl hO hi h0 (by omega) hd⟩
  unfold tb
  rw [set_len hi2]; rfl
theorem inV_len (l : List Int) : lenL (l.flatMap inV) = l.length := by rw [K.lenL_eq, flatMap_length _ 1 (fun _ => rfl) l, Nat.mul_one]
theorem inV_nums {l : List Int} (hF : okF (l.flatMap inV) (rem l.length 0) 0 = true) : Nums (l.flatMap inV) := by
  have hr : rem l.length 0 = l.length := by unfold rem; omega
  rw [hr] at hF
  have h := okF_to l.length 0 (Int.le_refl 0) hF
  intro u hu
  obtain ⟨i, hi, e⟩ := List.getElem_of_mem hu
  have hi2 : i < l.length := by rw [← inV_len l, K.lenL_eq]; exact hi
  have := okN_iff.1 (h i (Nat.zero_le _) (by show i < 0 + l.length; omega))
  rw [atV_get hi] at this
  obtain ⟨a, ha, hb⟩ := List.mem_flatMap.1 hu
  have hb : u = .int .i64 a := by simpa [inV] using hb
  rw [e, hb] at this
  exact ⟨a, hb, this.1, this.2⟩
theorem pk4 : packL [] 0 = 4 := by kernel_rfl
theorem ul_one3 {vs : List LV} {L : Nat} (h : uo vs L = true) (hC : ¬ 2 ≤ ul vs L) : ul vs L = 1 := by
  obtain ⟨_, _, h1⟩ := uo_iff.1 h
  have h3 : ul vs L ≠ 0 := fun h => by
    have e : un vs L = [] := by
      have : lenL (un vs L) = 0 := h
      rw [K.lenL_eq] at this
      exact List.eq_nil_of_length_eq_zero this
    rw [e, h] at h1
    exact absurd h1 (by decide)
  omega
end S
theorem pkN0_run : K.bodyF (envL []) (K.runF (envL []) 30) 7 [.nils] (Heap.of []) Hint.auto (K.endC K.openE 0 ⟨.ret (.tup [.slice 0 0 (S.packL [] 0) (.rest 0), .int .i64 0]), [], [.flat [.i .u8] 5 (.grow 1) (S.packed [] 0)]⟩) =
    (((0 : Nat) = (0 : Nat) ∧ ((4 : Nat) = (4 : Nat) ∧ (Cap.rest (0 : Nat) = Cap.rest (0 : Nat) ∧ ((0 : Int) = (0 : Int) ∧ (flatF [CK.i IntKind.u8] (S.packed [] (0 : Nat)) = [LV.int IntKind.u8 (87 : Int), LV.int IntKind.u8 (wrapK IntKind.u8 ↑(0 : Nat)), LV.int IntKind.u8 (wrapK IntKind.u8 (Int.tmod (wrapK IntKind.i64 (Int.tmod (wrapK IntKind.i64 ((0 : Int) + wrapK IntKind.i64 (87 : Int))) (255 : Int) + wrapK IntKind.i64 (wrapK IntKind.u8 ↑(0 : Nat)))) (255 : Int))), LV.int IntKind.u8 (wrapK IntKind.u8 (Int.tmod (wrapK IntKind.i64 (Int.tmod (wrapK IntKind.i64 ((0 : Int) + Int.tmod (wrapK IntKind.i64 ((0 : Int) + wrapK IntKind.i64 (87 : Int))) (255 : Int))) (255 : Int) + Int.tmod (wrapK IntKind.i64 (Int.tmod (wrapK IntKind.i64 ((0 : Int) + wrapK IntKind.i64 (87 : Int))) (255 : Int) + wrapK IntKind.i64 (wrapK IntKind.u8 ↑(0 : Nat)))) (255 : Int))) (255 : Int)))] ∧ True)))))) := by kernel_rfl
theorem pkN0_con   : HT Try.prog 7 [.nils] (Heap.of []) (⟨.ret (.tup [.slice 0 0 (S.packL [] 0) (.rest 0), .int .i64 0]), [], [.flat [.i .u8] 5 (.grow 1) (S.packed [] 0)]⟩ : K.CRes).e (Heap.of (K.chg [] (⟨.ret (.tup [.slice 0 0 (S.packL [] 0) (.rest 0), .int .i64 0]), [], [.flat [.i .u8] 5 (.grow 1) (S.packed [] 0)]⟩ : K.CRes).ch ++ (⟨.ret (.tup [.slice 0 0 (S.packL [] 0) (.rest 0), .int .i64 0]), [], [.flat [.i .u8] 5 (.grow 1) (S.packed [] 0)]⟩ : K.CRes).new)) := by
  refine K.con_of_run good (A := envL []) (envL_ok ?_) K.openE_ok (k := 30) (cast (pkN0_run).symm ?_)
  · intro p hp; cases hp
  · have h4 : S.packL [] 0 = 4 := by kernel_rfl
    have hf : flatF [.i .u8] (S.packed [] 0) = [.int .u8 87, .int .u8 0, .int .u8 87, .int .u8 174] := by kernel_rfl
    exact ⟨rfl, h4, rfl, rfl, hf, trivial⟩
theorem pkE0_run : K.bodyF (envL []) (K.runF (envL []) 30) 7 [.emp 0] (Heap.of [.empty]) Hint.auto (K.endC K.openE 1 ⟨.ret (.tup [.slice 1 0 (S.packL [] 0) (.rest 0), .int .i64 0]), [], [.flat [.i .u8] 5 (.grow 1) (S.packed [] 0)]⟩) =
    (((0 : Nat) = (0 : Nat) ∧ ((4 : Nat) = (4 : Nat) ∧ (Cap.rest (0 : Nat) = Cap.rest (0 : Nat) ∧ ((0 : Int) = (0 : Int) ∧ (flatF [CK.i IntKind.u8] (S.packed [] (0 : Nat)) = [LV.int IntKind.u8 (87 : Int), LV.int IntKind.u8 (wrapK IntKind.u8 ↑(0 : Nat)), LV.int IntKind.u8 (wrapK IntKind.u8 (Int.tmod (wrapK IntKind.i64 (Int.tmod (wrapK IntKind.i64 ((0 : Int) + wrapK IntKind.i64 (87 : Int))) (255 : Int) + wrapK IntKind.i64 (wrapK IntKind.u8 ↑(0 : Nat)))) (255 : Int))), LV.int IntKind.u8 (wrapK IntKind.u8 (Int.tmod (wrapK IntKind.i64 (Int.tmod (wrapK IntKind.i64 ((0 : Int) + Int.tmod (wrapK IntKind.i64 ((0 : Int) + wrapK IntKind.i64 (87 : Int))) (255 : Int))) (255 : Int) + Int.tmod (wrapK IntKind.i64 (Int.tmod (wrapK IntKind.i64 ((0 : Int) + wrapK IntKind.i64 (87 : Int))) (255 : Int) + wrapK IntKind.i64 (wrapK IntKind.u8 ↑(0 : Nat)))) (255 : Int))) (255 : Int)))] ∧ True)))))) := by kernel_rfl
theorem pkE0_con   : HT Try.prog 7 [.emp 0] (Heap.of [.empty]) (⟨.ret (.tup [.slice 1 0 (S.packL [] 0) (.rest 0), .int .i64 0]), [], [.flat [.i .u8] 5 (.grow 1) (S.packed [] 0)]⟩ : K.CRes).e (Heap.of (K.chg [.empty] (⟨.ret (.tup [.slice 1 0 (S.packL [] 0) (.rest 0), .int .i64 0]), [], [.flat [.i .u8] 5 (.grow 1) (S.packed [] 0)]⟩ : K.CRes).ch ++ (⟨.ret (.tup [.slice 1 0 (S.packL [] 0) (.rest 0), .int .i64 0]), [], [.flat [.i .u8] 5 (.grow 1) (S.packed [] 0)]⟩ : K.CRes).new)) := by
  refine K.con_of_run good (A := envL []) (envL_ok ?_) K.openE_ok (k := 30) (cast (pkE0_run).symm ?_)
  · intro p hp; cases hp
  · have h4 : S.packL [] 0 = 4 := by kernel_rfl
    have hf : flatF [.i .u8] (S.packed [] 0) = [.int .u8 87, .int .u8 0, .int .u8 87, .int .u8 174] := by kernel_rfl
    exact ⟨rfl, h4, rfl, rfl, hf, trivial⟩
theorem pkN_ok : pkNE.ok Try.prog 7 := by
  intro xs os b r h h3
  unfold pkNE at h
  simp only at h
  split at h
  · injection h with h; injection h with h1 h2; subst h1; subst h2
    exact pkN0_con
  · cases h
theorem pkE_ok : pkEE.ok Try.prog 7 := by
  intro xs os b r h h3
  unfold pkEE at h
  simp only at h
  split at h
  · injection h with h; injection h with h1 h2; subst h1; subst h2
    exact pkE0_con
  · cases h
theorem ffNG_run (a v : Int) : K.bodyF (envL [(7, pkNE), (10, unGE), (9, awk25E)]) (K.runF (envL [(7, pkNE), (10, unGE), (9, awk25E)]) 30) 6 [.nils, .int .i64 a, .int .u8 v] (Heap.of []) (.skip 9 (.fork .auto (.skip 3 (.take false .auto)))) (K.endC K.openE 0 ⟨.ret (.bool true), [], []⟩) =
    (bc (ltI (S.fx a (4 : Nat)) (0 : Int)) False (bc (ltI (S.fx a (4 : Nat)) ↑(4 : Nat)) (bc (Nat.ble ((0 : Nat) + Int.toNat (S.fx a (4 : Nat)) * (1 : Nat) + (1 : Nat)) (4 : Nat)) (bc (S.okU1 (setMany (app (sub [] (0 : Nat) (0 : Nat)) (sub (S.packed [] (0 : Nat)) (0 : Nat) (4 : Nat))) ((0 : Nat) + Int.toNat (S.fx a (4 : Nat)) * (1 : Nat)) [LV.int IntKind.u8 v]) (4 : Nat) (4 : Nat)) (ltI (S.fx a (4 : Nat)) (0 : Int) = false ∧ bc (ltI (S.fx a (4 : Nat)) ↑(4 : Nat)) (bc (Nat.ble ((0 : Nat) + Int.toNat (S.fx a (4 : Nat)) * (1 : Nat) + (1 : Nat)) (4 : Nat)) (bc (eqI (Int.tmod (wrapK IntKind.i64 v) (255 : Int)) (Int.tmod (wrapK IntKind.i64 (intOf (K.atV (S.packed [] (0 : Nat)) ((0 : Nat) + Int.toNat (S.fx a (4 : Nat)) * (1 : Nat))))) (255 : Int))) (true = true ∧ True) (true = false ∧ True)) False) False) False) False) False)) := by kernel_rfl
theorem ffNG_con (a v : Int) (h0v : 0 ≤ v) (h1v : v ≤ 255) (hP : S.PF [] 0) (hX : S.okU1 (S.tb [] 0 a v) (S.packL [] 0) (S.packL [] 0) = true) (hU : S.uo (S.tb [] 0 a v) (S.packL [] 0) = true) : HT Try.prog 6 [.nils, .int .i64 a, .int .u8 v] (Heap.of []) (⟨.ret (.bool true), [], []⟩ : K.CRes).e (Heap.of (K.chg [] (⟨.ret (.bool true), [], []⟩ : K.CRes).ch ++ (⟨.ret (.bool true), [], []⟩ : K.CRes).new)) := by
  refine K.con_of_run good (A := envL [(7, pkNE), (10, unGE), (9, awk25E)]) (envL_ok ?_) K.openE_ok (k := 30) (cast (ffNG_run a v).symm ?_)
  · intro p hp; simp only [List.mem_cons, List.not_mem_nil, or_false] at hp; rcases hp with rfl | rfl | rfl <;> first | exact pkN_ok | exact unG_ok | exact awk25_ok
  · have l12 := hP.2.1
    obtain ⟨f0, f1, f2⟩ := S.fx_rng (a := a) (L := S.packL [] 0) (by omega) l12.2
    have hp : lenL (S.packed [] 0) = S.packL [] 0 := rfl
    have sa := S.sub_all hp
    have ap : app (sub [] 0 0) (S.packed [] 0) = S.packed [] 0 := rfl
    have b1 : Nat.ble (S.packL [] 0) 1099511627776 = true := S.bleN_iff.2 (by omega)
    have e1 : eqI (S.packL [] 0 : Int) 0 = false := eqI_false.2 (by omega)
    have e2 : ltI (S.fx a (S.packL [] 0)) 0 = false := ltI_false.2 f0
    have e3 : ltI (S.fx a (S.packL [] 0)) (S.packL [] 0) = true := ltI_true.2 f1
    have b2 : Nat.ble ((S.fx a (S.packL [] 0)).toNat + 1) (S.packL [] 0) = true := S.bleN_iff.2 (by omega)
    rw [Nat.zero_add] at f2
    have ht : setMany (S.packed [] 0) (S.fx a (S.packL [] 0)).toNat [.int .u8 v] = S.tb [] 0 a v := rfl
    rw [S.pk4] at f0 f1 hp sa ht hX hU b2
    have e2 : ltI (S.fx a 4) 0 = false := ltI_false.2 f0
    have e3 : ltI (S.fx a 4) ((4 : Nat) : Int) = true := ltI_true.2 f1
    have hb := hP.1.at (q := (S.fx a (4)).toNat) (by rw [hp]; omega)
    have wv : (wrapK .i64 v).tmod 255 = v % 255 := by rw [show wrapK .i64 v = v by rw [wrapK_i64]; omega, Int.tmod_eq_emod_of_nonneg h0v]
    have wb : (wrapK .i64 (intOf (K.atV (S.packed [] 0) (S.fx a (4)).toNat))).tmod 255 = intOf (K.atV (S.packed [] 0) (S.fx a (4)).toNat) % 255 := by
      rw [show wrapK .i64 (intOf (K.atV (S.packed [] 0) (S.fx a (4)).toNat)) = intOf (K.atV (S.packed [] 0) (S.fx a (4)).toNat) by rw [wrapK_i64]; omega, Int.tmod_eq_emod_of_nonneg hb.1]
    have eq : eqI (v % 255) (intOf (K.atV (S.packed [] 0) (S.fx a (4)).toNat) % 255) = true := by
      refine eqI_true.2 (Classical.byContradiction fun hne => ?_)
      have := (S.tb_facts (a := a) hP h0v h1v).2 (by rw [S.pk4]; exact hne)
      rw [S.pk4] at this
      rw [hU] at this; cases this
    simp only [Nat.zero_add, Nat.mul_one, hp, sa, ap, S.ble_self, b1, f2, e1, e2, e3, b2, ht, hX, bc_true, bc_false, true_and, wv, wb, eq]
theorem ffNZ_run (a v : Int) : K.bodyF (envL [(7, pkNE), (10, unZE), (9, awk25E)]) (K.runF (envL [(7, pkNE), (10, unZE), (9, awk25E)]) 30) 6 [.nils, .int .i64 a, .int .u8 v] (Heap.of []) (.skip 9 (.fork .auto (.skip 3 (.take false .auto)))) (K.endC K.openE 0 ⟨.ret (.bool true), [], []⟩) =
    (bc (ltI (S.fx a (4 : Nat)) (0 : Int)) False (bc (ltI (S.fx a (4 : Nat)) ↑(4 : Nat)) (bc (Nat.ble ((0 : Nat) + Int.toNat (S.fx a (4 : Nat)) * (1 : Nat) + (1 : Nat)) (4 : Nat)) (bc (S.okU0 (setMany (app (sub [] (0 : Nat) (0 : Nat)) (sub (S.packed [] (0 : Nat)) (0 : Nat) (4 : Nat))) ((0 : Nat) + Int.toNat (S.fx a (4 : Nat)) * (1 : Nat)) [LV.int IntKind.u8 v]) (4 : Nat) (4 : Nat)) (ltI (S.fx a (4 : Nat)) (0 : Int) = false ∧ bc (ltI (S.fx a (4 : Nat)) ↑(4 : Nat)) (bc (Nat.ble ((0 : Nat) + Int.toNat (S.fx a (4 : Nat)) * (1 : Nat) + (1 : Nat)) (4 : Nat)) (bc (eqI (Int.tmod (wrapK IntKind.i64 v) (255 : Int)) (Int.tmod (wrapK IntKind.i64 (intOf (K.atV (S.packed [] (0 : Nat)) ((0 : Nat) + Int.toNat (S.fx a (4 : Nat)) * (1 : Nat))))) (255 : Int))) (true = true ∧ True) (true = false ∧ True)) False) False) False) False) False)) := by kernel_rfl
theorem ffNZ_con (a v : Int) (h0v : 0 ≤ v) (h1v : v ≤ 255) (hP : S.PF [] 0) (hX : S.okU0 (S.tb [] 0 a v) (S.packL [] 0) (S.packL [] 0) = true) (hU : S.uo (S.tb [] 0 a v) (S.packL [] 0) = true) : HT Try.prog 6 [.nils, .int .i64 a, .int .u8 v] (Heap.of []) (⟨.ret (.bool true), [], []⟩ : K.CRes).e (Heap.of (K.chg [] (⟨.ret (.bool true), [], []⟩ : K.CRes).ch ++ (⟨.ret (.bool true), [], []⟩ : K.CRes).new)) := by
  refine K.con_of_run good (A := envL [(7, pkNE), (10, unZE), (9, awk25E)]) (envL_ok ?_) K.openE_ok (k := 30) (cast (ffNZ_run a v).symm ?_)
  · intro p hp; simp only [List.mem_cons, List.not_mem_nil, or_false] at hp; rcases hp with rfl | rfl | rfl <;> first | exact pkN_ok | exact unZ_ok | exact awk25_ok
  · have l12 := hP.2.1
    obtain ⟨f0, f1, f2⟩ := S.fx_rng (a := a) (L := S.packL [] 0) (by omega) l12.2
    have hp : lenL (S.packed [] 0) = S.packL [] 0 := rfl
    have sa := S.sub_all hp
    have ap : app (sub [] 0 0) (S.packed [] 0) = S.packed [] 0 := rfl
    have b1 : Nat.ble (S.packL [] 0) 1099511627776 = true := S.bleN_iff.2 (by omega)
    have e1 : eqI (S.packL [] 0 : Int) 0 = false := eqI_false.2 (by omega)
    have e2 : ltI (S.fx a (S.packL [] 0)) 0 = false := ltI_false.2 f0
    have e3 : ltI (S.fx a (S.packL [] 0)) (S.packL [] 0) = true := ltI_true.2 f1
    have b2 : Nat.ble ((S.fx a (S.packL [] 0)).toNat + 1) (S.packL [] 0) = true := S.bleN_iff.2 (by omega)
    rw [Nat.zero_add] at f2
    have ht : setMany (S.packed [] 0) (S.fx a (S.packL [] 0)).toNat [.int .u8 v] = S.tb [] 0 a v := rfl
    rw [S.pk4] at f0 f1 hp sa ht hX hU b2
    have e2 : ltI (S.fx a 4) 0 = false := ltI_false.2 f0
    have e3 : ltI (S.fx a 4) ((4 : Nat) : Int) = true := ltI_true.2 f1
    have hb := hP.1.at (q := (S.fx a (4)).toNat) (by rw [hp]; omega)
    have wv : (wrapK .i64 v).tmod 255 = v % 255 := by rw [show wrapK .i64 v = v by rw [wrapK_i64]; omega, Int.tmod_eq_emod_of_nonneg h0v]
    have wb : (wrapK .i64 (intOf (K.atV (S.packed [] 0) (S.fx a (4)).toNat))).tmod 255 = intOf (K.atV (S.packed [] 0) (S.fx a (4)).toNat) % 255 := by
      rw [show wrapK .i64 (intOf (K.atV (S.packed [] 0) (S.fx a (4)).toNat)) = intOf (K.atV (S.packed [] 0) (S.fx a (4)).toNat) by rw [wrapK_i64]; omega, Int.tmod_eq_emod_of_nonneg hb.1]
    have eq : eqI (v % 255) (intOf (K.atV (S.packed [] 0) (S.fx a (4)).toNat) % 255) = true := by
      refine eqI_true.2 (Classical.byContradiction fun hne => ?_)
      have := (S.tb_facts (a := a) hP h0v h1v).2 (by rw [S.pk4]; exact hne)
      rw [S.pk4] at this
      rw [hU] at this; cases this
    simp only [Nat.zero_add, Nat.mul_one, hp, sa, ap, S.ble_self, b1, f2, e1, e2, e3, b2, ht, hX, bc_true, bc_false, true_and, wv, wb, eq]
theorem ffNB_run (a v : Int) : K.bodyF (envL [(7, pkNE), (10, unBE), (9, awk25E)]) (K.runF (envL [(7, pkNE), (10, unBE), (9, awk25E)]) 30) 6 [.nils, .int .i64 a, .int .u8 v] (Heap.of []) (.skip 9 (.fork .auto (.skip 3 (.take false .auto)))) (K.endC K.openE 0 ⟨.ret (.bool true), [], []⟩) =
    (bc (ltI (S.fx a (4 : Nat)) (0 : Int)) False (bc (ltI (S.fx a (4 : Nat)) ↑(4 : Nat)) (bc (Nat.ble ((0 : Nat) + Int.toNat (S.fx a (4 : Nat)) * (1 : Nat) + (1 : Nat)) (4 : Nat)) (bc (S.okUB (setMany (app (sub [] (0 : Nat) (0 : Nat)) (sub (S.packed [] (0 : Nat)) (0 : Nat) (4 : Nat))) ((0 : Nat) + Int.toNat (S.fx a (4 : Nat)) * (1 : Nat)) [LV.int IntKind.u8 v]) (4 : Nat) (4 : Nat)) (ltI (S.fx a (4 : Nat)) (0 : Int) = false ∧ bc (ltI (S.fx a (4 : Nat)) ↑(4 : Nat)) (bc (Nat.ble ((0 : Nat) + Int.toNat (S.fx a (4 : Nat)) * (1 : Nat) + (1 : Nat)) (4 : Nat)) (bc (eqI (Int.tmod (wrapK IntKind.i64 v) (255 : Int)) (Int.tmod (wrapK IntKind.i64 (intOf (K.atV (S.packed [] (0 : Nat)) ((0 : Nat) + Int.toNat (S.fx a (4 : Nat)) * (1 : Nat))))) (255 : Int))) (true = true ∧ True) (true = true ∧ True)) False) False) False) False) False)) := by kernel_rfl
theorem ffNB_con (a v : Int) (h0v : 0 ≤ v) (h1v : v ≤ 255) (hP : S.PF [] 0) (hX : S.okUB (S.tb [] 0 a v) (S.packL [] 0) (S.packL [] 0) = true) (hU : S.uo (S.tb [] 0 a v) (S.packL [] 0) = false) : HT Try.prog 6 [.nils, .int .i64 a, .int .u8 v] (Heap.of []) (⟨.ret (.bool true), [], []⟩ : K.CRes).e (Heap.of (K.chg [] (⟨.ret (.bool true), [], []⟩ : K.CRes).ch ++ (⟨.ret (.bool true), [], []⟩ : K.CRes).new)) := by
  refine K.con_of_run good (A := envL [(7, pkNE), (10, unBE), (9, awk25E)]) (envL_ok ?_) K.openE_ok (k := 30) (cast (ffNB_run a v).symm ?_)
  · intro p hp; simp only [List.mem_cons, List.not_mem_nil, or_false] at hp; rcases hp with rfl | rfl | rfl <;> first | exact pkN_ok | exact unB_ok | exact awk25_ok
  · have l12 := hP.2.1
    obtain ⟨f0, f1, f2⟩ := S.fx_rng (a := a) (L := S.packL [] 0) (by omega) l12.2
    have hp : lenL (S.packed [] 0) = S.packL [] 0 := rfl
    have sa := S.sub_all hp
    have ap : app (sub [] 0 0) (S.packed [] 0) = S.packed [] 0 := rfl
    have b1 : Nat.ble (S.packL [] 0) 1099511627776 = true := S.bleN_iff.2 (by omega)
    have e1 : eqI (S.packL [] 0 : Int) 0 = false := eqI_false.2 (by omega)
    have e2 : ltI (S.fx a (S.packL [] 0)) 0 = false := ltI_false.2 f0
    have e3 : ltI (S.fx a (S.packL [] 0)) (S.packL [] 0) = true := ltI_true.2 f1
    have b2 : Nat.ble ((S.fx a (S.packL [] 0)).toNat + 1) (S.packL [] 0) = true := S.bleN_iff.2 (by omega)
    rw [Nat.zero_add] at f2
    have ht : setMany (S.packed [] 0) (S.fx a (S.packL [] 0)).toNat [.int .u8 v] = S.tb [] 0 a v := rfl
    rw [S.pk4] at f0 f1 hp sa ht hX hU b2
    have e2 : ltI (S.fx a 4) 0 = false := ltI_false.2 f0
    have e3 : ltI (S.fx a 4) ((4 : Nat) : Int) = true := ltI_true.2 f1
    simp only [Nat.zero_add, Nat.mul_one, hp, sa, ap, S.ble_self, b1, f2, e1, e2, e3, b2, ht, hX, bc_true, bc_false, true_and]
    cases eqI ((wrapK .i64 v).tmod 255) ((wrapK .i64 (intOf (K.atV (S.packed [] 0) (S.fx a (4)).toNat))).tmod 255) <;> simp
theorem ffEG_run (a v : Int) : K.bodyF (envL [(7, pkEE), (10, unGE), (9, awk25E)]) (K.runF (envL [(7, pkEE), (10, unGE), (9, awk25E)]) 30) 6 [.emp 0, .int .i64 a, .int .u8 v] (Heap.of [.empty]) (.skip 9 (.fork .auto (.skip 3 (.take false .auto)))) (K.endC K.openE 1 ⟨.ret (.bool true), [], []⟩) =
    (bc (ltI (S.fx a (4 : Nat)) (0 : Int)) False (bc (ltI (S.fx a (4 : Nat)) ↑(4 : Nat)) (bc (Nat.ble ((0 : Nat) + Int.toNat (S.fx a (4 : Nat)) * (1 : Nat) + (1 : Nat)) (4 : Nat)) (bc (S.okU1 (setMany (app (sub [] (0 : Nat) (0 : Nat)) (sub (S.packed [] (0 : Nat)) (0 : Nat) (4 : Nat))) ((0 : Nat) + Int.toNat (S.fx a (4 : Nat)) * (1 : Nat)) [LV.int IntKind.u8 v]) (4 : Nat) (4 : Nat)) (ltI (S.fx a (4 : Nat)) (0 : Int) = false ∧ bc (ltI (S.fx a (4 : Nat)) ↑(4 : Nat)) (bc (Nat.ble ((0 : Nat) + Int.toNat (S.fx a (4 : Nat)) * (1 : Nat) + (1 : Nat)) (4 : Nat)) (bc (eqI (Int.tmod (wrapK IntKind.i64 v) (255 : Int)) (Int.tmod (wrapK IntKind.i64 (intOf (K.atV (S.packed [] (0 : Nat)) ((0 : Nat) + Int.toNat (S.fx a (4 : Nat)) * (1 : Nat))))) (255 : Int))) (true = true ∧ True) (true = false ∧ True)) False) False) False) False) False)) := by kernel_rfl
theorem ffEG_con (a v : Int) (h0v : 0 ≤ v) (h1v : v ≤ 255) (hP : S.PF [] 0) (hX : S.okU1 (S.tb [] 0 a v) (S.packL [] 0) (S.packL [] 0) = true) (hU : S.uo (S.tb [] 0 a v) (S.packL [] 0) = true) : HT Try.prog 6 [.emp 0, .int .i64 a, .int .u8 v] (Heap.of [.empty]) (⟨.ret (.bool true), [], []⟩ : K.CRes).e (Heap.of (K.chg [.empty] (⟨.ret (.bool true), [], []⟩ : K.CRes).ch ++ (⟨.ret (.bool true), [], []⟩ : K.CRes).new)) := by
  refine K.con_of_run good (A := envL [(7, pkEE), (10, unGE), (9, awk25E)]) (envL_ok ?_) K.openE_ok (k := 30) (cast (ffEG_run a v).symm ?_)
  · intro p hp; simp only [List.mem_cons, List.not_mem_nil, or_false] at hp; rcases hp with rfl | rfl | rfl <;> first | exact pkE_ok | exact unG_ok | exact awk25_ok
  · have l12 := hP.2.1
    obtain ⟨f0, f1, f2⟩ := S.fx_rng (a := a) (L := S.packL [] 0) (by omega) l12.2
    have hp : lenL (S.packed [] 0) = S.packL [] 0 := rfl
    have sa := S.sub_all hp
    have ap : app (sub [] 0 0) (S.packed [] 0) = S.packed [] 0 := rfl
    have b1 : Nat.ble (S.packL [] 0) 1099511627776 = true := S.bleN_iff.2 (by omega)
    have e1 : eqI (S.packL [] 0 : Int) 0 = false := eqI_false.2 (by omega)
    have e2 : ltI (S.fx a (S.packL [] 0)) 0 = false := ltI_false.2 f0
    have e3 : ltI (S.fx a (S.packL [] 0)) (S.packL [] 0) = true := ltI_true.2 f1
    have b2 : Nat.ble ((S.fx a (S.packL [] 0)).toNat + 1) (S.packL [] 0) = true := S.bleN_iff.2 (by omega)
    rw [Nat.zero_add] at f2
    have ht : setMany (S.packed [] 0) (S.fx a (S.packL [] 0)).toNat [.int .u8 v] = S.tb [] 0 a v := rfl
    rw [S.pk4] at f0 f1 hp sa ht hX hU b2
    have e2 : ltI (S.fx a 4) 0 = false := ltI_false.2 f0
    have e3 : ltI (S.fx a 4) ((4 : Nat) : Int) = true := ltI_true.2 f1
    have hb := hP.1.at (q := (S.fx a (4)).toNat) (by rw [hp]; omega)
    have wv : (wrapK .i64 v).tmod 255 = v % 255 := by rw [show wrapK .i64 v = v by rw [wrapK_i64]; omega, Int.tmod_eq_emod_of_nonneg h0v]
    have wb : (wrapK .i64 (intOf (K.atV (S.packed [] 0) (S.fx a (4)).toNat))).tmod 255 = intOf (K.atV (S.packed [] 0) (S.fx a (4)).toNat) % 255 := by
      rw [show wrapK .i64 (intOf (K.atV (S.packed [] 0) (S.fx a (4)).toNat)) = intOf (K.atV (S.packed [] 0) (S.fx a (4)).toNat) by rw [wrapK_i64]; omega, Int.tmod_eq_emod_of_nonneg hb.1]
    have eq : eqI (v % 255) (intOf (K.atV (S.packed [] 0) (S.fx a (4)).toNat) % 255) = true := by
      refine eqI_true.2 (Classical.byContradiction fun hne => ?_)
      have := (S.tb_facts (a := a) hP h0v h1v).2 (by rw [S.pk4]; exact hne)
      rw [S.pk4] at this
      rw [hU] at this; cases this
    simp only [Nat.zero_add, Nat.mul_one, hp, sa, ap, S.ble_self, b1, f2, e1, e2, e3, b2, ht, hX, bc_true, bc_false, true_and, wv, wb, eq]
theorem ffEZ_run (a v : Int) : K.bodyF (envL [(7, pkEE), (10, unZE), (9, awk25E)]) (K.runF (envL [(7, pkEE), (10, unZE), (9, awk25E)]) 30) 6 [.emp 0, .int .i64 a, .int .u8 v] (Heap.of [.empty]) (.skip 9 (.fork .auto (.skip 3 (.take false .auto)))) (K.endC K.openE 1 ⟨.ret (.bool true), [], []⟩) =
    (bc (ltI (S.fx a (4 : Nat)) (0 : Int)) False (bc (ltI (S.fx a (4 : Nat)) ↑(4 : Nat)) (bc (Nat.ble ((0 : Nat) + Int.toNat (S.fx a (4 : Nat)) * (1 : Nat) + (1 : Nat)) (4 : Nat)) (bc (S.okU0 (setMany (app (sub [] (0 : Nat) (0 : Nat)) (sub (S.packed [] (0 : Nat)) (0 : Nat) (4 : Nat))) ((0 : Nat) + Int.toNat (S.fx a (4 : Nat)) * (1 : Nat)) [LV.int IntKind.u8 v]) (4 : Nat) (4 : Nat)) (ltI (S.fx a (4 : Nat)) (0 : Int) = false ∧ bc (ltI (S.fx a (4 : Nat)) ↑(4 : Nat)) (bc (Nat.ble ((0 : Nat) + Int.toNat (S.fx a (4 : Nat)) * (1 : Nat) + (1 : Nat)) (4 : Nat)) (bc (eqI (Int.tmod (wrapK IntKind.i64 v) (255 : Int)) (Int.tmod (wrapK IntKind.i64 (intOf (K.atV (S.packed [] (0 : Nat)) ((0 : Nat) + Int.toNat (S.fx a (4 : Nat)) * (1 : Nat))))) (255 : Int))) (true = true ∧ True) (true = false ∧ True)) False) False) False) False) False)) := by kernel_rfl
theorem ffEZ_con (a v : Int) (h0v : 0 ≤ v) (h1v : v ≤ 255) (hP : S.PF [] 0) (hX : S.okU0 (S.tb [] 0 a v) (S.packL [] 0) (S.packL [] 0) = true) (hU : S.uo (S.tb [] 0 a v) (S.packL [] 0) = true) : HT Try.prog 6 [.emp 0, .int .i64 a, .int .u8 v] (Heap.of [.empty]) (⟨.ret (.bool true), [], []⟩ : K.CRes).e (Heap.of (K.chg [.empty] (⟨.ret (.bool true), [], []⟩ : K.CRes).ch ++ (⟨.ret (.bool true), [], []⟩ : K.CRes).new)) := by
  refine K.con_of_run good (A := envL [(7, pkEE), (10, unZE), (9, awk25E)]) (envL_ok ?_) K.openE_ok (k := 30) (cast (ffEZ_run a v).symm ?_)
  · intro p hp; simp only [List.mem_cons, List.not_mem_nil, or_false] at hp; rcases hp with rfl | rfl | rfl <;> first | exact pkE_ok | exact unZ_ok | exact awk25_ok
  · have l12 := hP.2.1
    obtain ⟨f0, f1, f2⟩ := S.fx_rng (a := a) (L := S.packL [] 0) (by omega) l12.2
    have hp : lenL (S.packed [] 0) = S.packL [] 0 := rfl
    have sa := S.sub_all hp
    have ap : app (sub [] 0 0) (S.packed [] 0) = S.packed [] 0 := rfl
    have b1 : Nat.ble (S.packL [] 0) 1099511627776 = true := S.bleN_iff.2 (by omega)
    have e1 : eqI (S.packL [] 0 : Int) 0 = false := eqI_false.2 (by omega)
    have e2 : ltI (S.fx a (S.packL [] 0)) 0 = false := ltI_false.2 f0
    have e3 : ltI (S.fx a (S.packL [] 0)) (S.packL [] 0) = true := ltI_true.2 f1
    have b2 : Nat.ble ((S.fx a (S.packL [] 0)).toNat + 1) (S.packL [] 0) = true := S.bleN_iff.2 (by omega)
    rw [Nat.zero_add] at f2
    have ht : setMany (S.packed [] 0) (S.fx a (S.packL [] 0)).toNat [.int .u8 v] = S.tb [] 0 a v := rfl
    rw [S.pk4] at f0 f1 hp sa ht hX hU b2
    have e2 : ltI (S.fx a 4) 0 = false := ltI_false.2 f0
    have e3 : ltI (S.fx a 4) ((4 : Nat) : Int) = true := ltI_true.2 f1
    have hb := hP.1.at (q := (S.fx a (4)).toNat) (by rw [hp]; omega)
    have wv : (wrapK .i64 v).tmod 255 = v % 255 := by rw [show wrapK .i64 v = v by rw [wrapK_i64]; omega, Int.tmod_eq_emod_of_nonneg h0v]
    have wb : (wrapK .i64 (intOf (K.atV (S.packed [] 0) (S.fx a (4)).toNat))).tmod 255 = intOf (K.atV (S.packed [] 0) (S.fx a (4)).toNat) % 255 := by
      rw [show wrapK .i64 (intOf (K.atV (S.packed [] 0) (S.fx a (4)).toNat)) = intOf (K.atV (S.packed [] 0) (S.fx a (4)).toNat) by rw [wrapK_i64]; omega, Int.tmod_eq_emod_of_nonneg hb.1]
    have eq : eqI (v % 255) (intOf (K.atV (S.packed [] 0) (S.fx a (4)).toNat) % 255) = true := by
      refine eqI_true.2 (Classical.byContradiction fun hne => ?_)
      have := (S.tb_facts (a := a) hP h0v h1v).2 (by rw [S.pk4]; exact hne)
      rw [S.pk4] at this
      rw [hU] at this; cases this
    simp only [Nat.zero_add, Nat.mul_one, hp, sa, ap, S.ble_self, b1, f2, e1, e2, e3, b2, ht, hX, bc_true, bc_false, true_and, wv, wb, eq]
theorem ffEB_run (a v : Int) : K.bodyF (envL [(7, pkEE), (10, unBE), (9, awk25E)]) (K.runF (envL [(7, pkEE), (10, unBE), (9, awk25E)]) 30) 6 [.emp 0, .int .i64 a, .int .u8 v] (Heap.of [.empty]) (.skip 9 (.fork .auto (.skip 3 (.take false .auto)))) (K.endC K.openE 1 ⟨.ret (.bool true), [], []⟩) =
    (bc (ltI (S.fx a (4 : Nat)) (0 : Int)) False (bc (ltI (S.fx a (4 : Nat)) ↑(4 : Nat)) (bc (Nat.ble ((0 : Nat) + Int.toNat (S.fx a (4 : Nat)) * (1 : Nat) + (1 : Nat)) (4 : Nat)) (bc (S.okUB (setMany (app (sub [] (0 : Nat) (0 : Nat)) (sub (S.packed [] (0 : Nat)) (0 : Nat) (4 : Nat))) ((0 : Nat) + Int.toNat (S.fx a (4 : Nat)) * (1 : Nat)) [LV.int IntKind.u8 v]) (4 : Nat) (4 : Nat)) (ltI (S.fx a (4 : Nat)) (0 : Int) = false ∧ bc (ltI (S.fx a (4 : Nat)) ↑(4 : Nat)) (bc (Nat.ble ((0 : Nat) + Int.toNat (S.fx a (4 : Nat)) * (1 : Nat) + (1 : Nat)) (4 : Nat)) (bc (eqI (Int.tmod (wrapK IntKind.i64 v) (255 : Int)) (Int.tmod (wrapK IntKind.i64 (intOf (K.atV (S.packed [] (0 : Nat)) ((0 : Nat) + Int.toNat (S.fx a (4 : Nat)) * (1 : Nat))))) (255 : Int))) (true = true ∧ True) (true = true ∧ True)) False) False) False) False) False)) := by kernel_rfl
theorem ffEB_con (a v : Int) (h0v : 0 ≤ v) (h1v : v ≤ 255) (hP : S.PF [] 0) (hX : S.okUB (S.tb [] 0 a v) (S.packL [] 0) (S.packL [] 0) = true) (hU : S.uo (S.tb [] 0 a v) (S.packL [] 0) = false) : HT Try.prog 6 [.emp 0, .int .i64 a, .int .u8 v] (Heap.of [.empty]) (⟨.ret (.bool true), [], []⟩ : K.CRes).e (Heap.of (K.chg [.empty] (⟨.ret (.bool true), [], []⟩ : K.CRes).ch ++ (⟨.ret (.bool true), [], []⟩ : K.CRes).new)) := by
  refine K.con_of_run good (A := envL [(7, pkEE), (10, unBE), (9, awk25E)]) (envL_ok ?_) K.openE_ok (k := 30) (cast (ffEB_run a v).symm ?_)
  · intro p hp; simp only [List.mem_cons, List.not_mem_nil, or_false] at hp; rcases hp with rfl | rfl | rfl <;> first | exact pkE_ok | exact unB_ok | exact awk25_ok
  · have l12 := hP.2.1
    obtain ⟨f0, f1, f2⟩ := S.fx_rng (a := a) (L := S.packL [] 0) (by omega) l12.2
    have hp : lenL (S.packed [] 0) = S.packL [] 0 := rfl
    have sa := S.sub_all hp
    have ap : app (sub [] 0 0) (S.packed [] 0) = S.packed [] 0 := rfl
    have b1 : Nat.ble (S.packL [] 0) 1099511627776 = true := S.bleN_iff.2 (by omega)
    have e1 : eqI (S.packL [] 0 : Int) 0 = false := eqI_false.2 (by omega)
    have e2 : ltI (S.fx a (S.packL [] 0)) 0 = false := ltI_false.2 f0
    have e3 : ltI (S.fx a (S.packL [] 0)) (S.packL [] 0) = true := ltI_true.2 f1
    have b2 : Nat.ble ((S.fx a (S.packL [] 0)).toNat + 1) (S.packL [] 0) = true := S.bleN_iff.2 (by omega)
    rw [Nat.zero_add] at f2
    have ht : setMany (S.packed [] 0) (S.fx a (S.packL [] 0)).toNat [.int .u8 v] = S.tb [] 0 a v := rfl
    rw [S.pk4] at f0 f1 hp sa ht hX hU b2
    have e2 : ltI (S.fx a 4) 0 = false := ltI_false.2 f0
    have e3 : ltI (S.fx a 4) ((4 : Nat) : Int) = true := ltI_true.2 f1
    simp only [Nat.zero_add, Nat.mul_one, hp, sa, ap, S.ble_self, b1, f2, e1, e2, e3, b2, ht, hX, bc_true, bc_false, true_and]
    cases eqI ((wrapK .i64 v).tmod 255) ((wrapK .i64 (intOf (K.atV (S.packed [] 0) (S.fx a (4)).toNat))).tmod 255) <;> simp
theorem ffSG_run (W p ew : Nat) (ws : List LV) (a v : Int) : K.bodyF (envL [(7, pakGE), (10, unGE), (9, awk25E)]) (K.runF (envL [(7, pakGE), (10, unGE), (9, awk25E)]) 30) 6 [.slice 0 0 W (.known p), .int .i64 a, .int .u8 v] (Heap.of [.flat [.i .i64] ew .ro ws]) (.skip 0 (.fork .auto (.skip 7 (.fork .auto (.skip 0 (.fork .auto (.skip 3 (.take false .auto)))))))) (K.endC K.openE 1 ⟨.ret (.bool true), [], []⟩) =
    (bc (ltI (400 : Int) ↑W) (true = true ∧ True) (bc (S.okWG ws W) (bc (Nat.ble ((0 : Nat) + S.packL ws W) (lenL (S.packed ws W))) (bc (Nat.ble (((0 : Nat) + S.packL ws W) * (1 : Nat)) (1099511627776 : Nat)) (bc (eqI (wrapK IntKind.u64 ↑((0 : Nat) + S.packL ws W)) (0 : Int)) False (bc (ltI (S.fx a (S.packL ws W)) (0 : Int)) False (bc (ltI (S.fx a (S.packL ws W)) ↑((0 : Nat) + S.packL ws W)) (bc (Nat.ble ((0 : Nat) + Int.toNat (S.fx a (S.packL ws W)) * (1 : Nat) + (1 : Nat)) (lenL (app (sub [] (0 : Nat) (0 : Nat)) (sub (S.packed ws W) (0 : Nat) (S.packL ws W))))) (bc (S.okU1 (setMany (app (sub [] (0 : Nat) (0 : Nat)) (sub (S.packed ws W) (0 : Nat) (S.packL ws W))) ((0 : Nat) + Int.toNat (S.fx a (S.packL ws W)) * (1 : Nat)) [LV.int IntKind.u8 v]) ((0 : Nat) + S.packL ws W) ((0 : Nat) + S.packL ws W)) (ltI (S.fx a (S.packL ws W)) (0 : Int) = false ∧ bc (ltI (S.fx a (S.packL ws W)) ↑(S.packL ws W)) (bc (Nat.ble ((0 : Nat) + Int.toNat (S.fx a (S.packL ws W)) * (1 : Nat) + (1 : Nat)) (lenL (S.packed ws W))) (bc (eqI (Int.tmod (wrapK IntKind.i64 v) (255 : Int)) (Int.tmod (wrapK IntKind.i64 (intOf (K.atV (S.packed ws W) ((0 : Nat) + Int.toNat (S.fx a (S.packL ws W)) * (1 : Nat))))) (255 : Int))) (true = true ∧ True) (true = false ∧ True)) False) False) False) False) False))) False) False) False)) := by kernel_rfl
theorem ffSG_con (W p ew : Nat) (ws : List LV) (a v : Int) (h0v : 0 ≤ v) (h1v : v ≤ 255) (hw : W ≤ 400 → S.okWG ws W = true ∧ S.PF ws W) (hX : S.okU1 (S.tb ws W a v) (S.packL ws W) (S.packL ws W) = true) (hU : S.uo (S.tb ws W a v) (S.packL ws W) = true) : HT Try.prog 6 [.slice 0 0 W (.known p), .int .i64 a, .int .u8 v] (Heap.of [.flat [.i .i64] ew .ro ws]) (⟨.ret (.bool true), [], []⟩ : K.CRes).e (Heap.of (K.chg [.flat [.i .i64] ew .ro ws] (⟨.ret (.bool true), [], []⟩ : K.CRes).ch ++ (⟨.ret (.bool true), [], []⟩ : K.CRes).new)) := by
  refine K.con_of_run good (A := envL [(7, pakGE), (10, unGE), (9, awk25E)]) (envL_ok ?_) K.openE_ok (k := 30) (cast (ffSG_run W p ew ws a v).symm ?_)
  · intro p hp; simp only [List.mem_cons, List.not_mem_nil, or_false] at hp; rcases hp with rfl | rfl | rfl <;> first | exact pakG_ok | exact unG_ok | exact awk25_ok
  · by_cases h4 : 400 < (W : Int)
    · rw [ltI_true.2 h4]; simp
    rw [ltI_false.2 (by omega), bc_false]
    obtain ⟨w1, hP⟩ := hw (by omega)
    have l12 := hP.2.1
    obtain ⟨f0, f1, f2⟩ := S.fx_rng (a := a) (L := S.packL ws W) (by omega) l12.2
    have hp : lenL (S.packed ws W) = S.packL ws W := rfl
    have sa := S.sub_all hp
    have ap : app (sub [] 0 0) (S.packed ws W) = S.packed ws W := rfl
    have b1 : Nat.ble (S.packL ws W) 1099511627776 = true := S.bleN_iff.2 (by omega)
    have e1 : eqI (S.packL ws W : Int) 0 = false := eqI_false.2 (by omega)
    have e2 : ltI (S.fx a (S.packL ws W)) 0 = false := ltI_false.2 f0
    have e3 : ltI (S.fx a (S.packL ws W)) (S.packL ws W) = true := ltI_true.2 f1
    have b2 : Nat.ble ((S.fx a (S.packL ws W)).toNat + 1) (S.packL ws W) = true := S.bleN_iff.2 (by omega)
    rw [Nat.zero_add] at f2
    have ht : setMany (S.packed ws W) (S.fx a (S.packL ws W)).toNat [.int .u8 v] = S.tb ws W a v := rfl
    have hb := hP.1.at (q := (S.fx a (S.packL ws W)).toNat) (by rw [hp]; omega)
    have wv : (wrapK .i64 v).tmod 255 = v % 255 := by rw [show wrapK .i64 v = v by rw [wrapK_i64]; omega, Int.tmod_eq_emod_of_nonneg h0v]
    have wb : (wrapK .i64 (intOf (K.atV (S.packed ws W) (S.fx a (S.packL ws W)).toNat))).tmod 255 = intOf (K.atV (S.packed ws W) (S.fx a (S.packL ws W)).toNat) % 255 := by
      rw [show wrapK .i64 (intOf (K.atV (S.packed ws W) (S.fx a (S.packL ws W)).toNat)) = intOf (K.atV (S.packed ws W) (S.fx a (S.packL ws W)).toNat) by rw [wrapK_i64]; omega, Int.tmod_eq_emod_of_nonneg hb.1]
    have eq : eqI (v % 255) (intOf (K.atV (S.packed ws W) (S.fx a (S.packL ws W)).toNat) % 255) = true := by
      refine eqI_true.2 (Classical.byContradiction fun hne => ?_)
      have := (S.tb_facts (a := a) hP h0v h1v).2 hne
      rw [hU] at this; cases this
    simp only [w1, Nat.zero_add, Nat.mul_one, hp, sa, ap, S.ble_self, b1, f2, e1, e2, e3, b2, ht, hX, bc_true, bc_false, true_and, wv, wb, eq]
theorem ffSZ_run (W p ew : Nat) (ws : List LV) (a v : Int) : K.bodyF (envL [(7, pakGE), (10, unZE), (9, awk25E)]) (K.runF (envL [(7, pakGE), (10, unZE), (9, awk25E)]) 30) 6 [.slice 0 0 W (.known p), .int .i64 a, .int .u8 v] (Heap.of [.flat [.i .i64] ew .ro ws]) (.skip 0 (.fork .auto (.skip 7 (.fork .auto (.skip 0 (.fork .auto (.skip 3 (.take false .auto)))))))) (K.endC K.openE 1 ⟨.ret (.bool true), [], []⟩) =
    (bc (ltI (400 : Int) ↑W) (true = true ∧ True) (bc (S.okWG ws W) (bc (Nat.ble ((0 : Nat) + S.packL ws W) (lenL (S.packed ws W))) (bc (Nat.ble (((0 : Nat) + S.packL ws W) * (1 : Nat)) (1099511627776 : Nat)) (bc (eqI (wrapK IntKind.u64 ↑((0 : Nat) + S.packL ws W)) (0 : Int)) False (bc (ltI (S.fx a (S.packL ws W)) (0 : Int)) False (bc (ltI (S.fx a (S.packL ws W)) ↑((0 : Nat) + S.packL ws W)) (bc (Nat.ble ((0 : Nat) + Int.toNat (S.fx a (S.packL ws W)) * (1 : Nat) + (1 : Nat)) (lenL (app (sub [] (0 : Nat) (0 : Nat)) (sub (S.packed ws W) (0 : Nat) (S.packL ws W))))) (bc (S.okU0 (setMany (app (sub [] (0 : Nat) (0 : Nat)) (sub (S.packed ws W) (0 : Nat) (S.packL ws W))) ((0 : Nat) + Int.toNat (S.fx a (S.packL ws W)) * (1 : Nat)) [LV.int IntKind.u8 v]) ((0 : Nat) + S.packL ws W) ((0 : Nat) + S.packL ws W)) (ltI (S.fx a (S.packL ws W)) (0 : Int) = false ∧ bc (ltI (S.fx a (S.packL ws W)) ↑(S.packL ws W)) (bc (Nat.ble ((0 : Nat) + Int.toNat (S.fx a (S.packL ws W)) * (1 : Nat) + (1 : Nat)) (lenL (S.packed ws W))) (bc (eqI (Int.tmod (wrapK IntKind.i64 v) (255 : Int)) (Int.tmod (wrapK IntKind.i64 (intOf (K.atV (S.packed ws W) ((0 : Nat) + Int.toNat (S.fx a (S.packL ws W)) * (1 : Nat))))) (255 : Int))) (true = true ∧ True) (true = false ∧ True)) False) False) False) False) False))) False) False) False)) := by kernel_rfl
theorem ffSZ_con (W p ew : Nat) (ws : List LV) (a v : Int) (h0v : 0 ≤ v) (h1v : v ≤ 255) (hw : W ≤ 400 → S.okWG ws W = true ∧ S.PF ws W) (hX : S.okU0 (S.tb ws W a v) (S.packL ws W) (S.packL ws W) = true) (hU : S.uo (S.tb ws W a v) (S.packL ws W) = true) : HT Try.prog 6 [.slice 0 0 W (.known p), .int .i64 a, .int .u8 v] (Heap.of [.flat [.i .i64] ew .ro ws]) (⟨.ret (.bool true), [], []⟩ : K.CRes).e (Heap.of (K.chg [.flat [.i .i64] ew .ro ws] (⟨.ret (.bool true), [], []⟩ : K.CRes).ch ++ (⟨.ret (.bool true), [], []⟩ : K.CRes).new)) := by
  refine K.con_of_run good (A := envL [(7, pakGE), (10, unZE), (9, awk25E)]) (envL_ok ?_) K.openE_ok (k := 30) (cast (ffSZ_run W p ew ws a v).symm ?_)
  · intro p hp; simp only [List.mem_cons, List.not_mem_nil, or_false] at hp; rcases hp with rfl | rfl | rfl <;> first | exact pakG_ok | exact unZ_ok | exact awk25_ok
  · by_cases h4 : 400 < (W : Int)
    · rw [ltI_true.2 h4]; simp
    rw [ltI_false.2 (by omega), bc_false]
    obtain ⟨w1, hP⟩ := hw (by omega)
    have l12 := hP.2.1
    obtain ⟨f0, f1, f2⟩ := S.fx_rng (a := a) (L := S.packL ws W) (by omega) l12.2
    have hp : lenL (S.packed ws W) = S.packL ws W := rfl
    have sa := S.sub_all hp
    have ap : app (sub [] 0 0) (S.packed ws W) = S.packed ws W := rfl
    have b1 : Nat.ble (S.packL ws W) 1099511627776 = true := S.bleN_iff.2 (by omega)
    have e1 : eqI (S.packL ws W : Int) 0 = false := eqI_false.2 (by omega)
    have e2 : ltI (S.fx a (S.packL ws W)) 0 = false := ltI_false.2 f0
    have e3 : ltI (S.fx a (S.packL ws W)) (S.packL ws W) = true := ltI_true.2 f1
    have b2 : Nat.ble ((S.fx a (S.packL ws W)).toNat + 1) (S.packL ws W) = true := S.bleN_iff.2 (by omega)
    rw [Nat.zero_add] at f2
    have ht : setMany (S.packed ws W) (S.fx a (S.packL ws W)).toNat [.int .u8 v] = S.tb ws W a v := rfl
    have hb := hP.1.at (q := (S.fx a (S.packL ws W)).toNat) (by rw [hp]; omega)
    have wv : (wrapK .i64 v).tmod 255 = v % 255 := by rw [show wrapK .i64 v = v by rw [wrapK_i64]; omega, Int.tmod_eq_emod_of_nonneg h0v]
    have wb : (wrapK .i64 (intOf (K.atV (S.packed ws W) (S.fx a (S.packL ws W)).toNat))).tmod 255 = intOf (K.atV (S.packed ws W) (S.fx a (S.packL ws W)).toNat) % 255 := by
      rw [show wrapK .i64 (intOf (K.atV (S.packed ws W) (S.fx a (S.packL ws W)).toNat)) = intOf (K.atV (S.packed ws W) (S.fx a (S.packL ws W)).toNat) by rw [wrapK_i64]; omega, Int.tmod_eq_emod_of_nonneg hb.1]
    have eq : eqI (v % 255) (intOf (K.atV (S.packed ws W) (S.fx a (S.packL ws W)).toNat) % 255) = true := by
      refine eqI_true.2 (Classical.byContradiction fun hne => ?_)
      have := (S.tb_facts (a := a) hP h0v h1v).2 hne
      rw [hU] at this; cases this
    simp only [w1, Nat.zero_add, Nat.mul_one, hp, sa, ap, S.ble_self, b1, f2, e1, e2, e3, b2, ht, hX, bc_true, bc_false, true_and, wv, wb, eq]
theorem ffSB_run (W p ew : Nat) (ws : List LV) (a v : Int) : K.bodyF (envL [(7, pakGE), (10, unBE), (9, awk25E)]) (K.runF (envL [(7, pakGE), (10, unBE), (9, awk25E)]) 30) 6 [.slice 0 0 W (.known p), .int .i64 a, .int .u8 v] (Heap.of [.flat [.i .i64] ew .ro ws]) (.skip 0 (.fork .auto (.skip 7 (.fork .auto (.skip 0 (.fork .auto (.skip 3 (.take false .auto)))))))) (K.endC K.openE 1 ⟨.ret (.bool true), [], []⟩) =
    (bc (ltI (400 : Int) ↑W) (true = true ∧ True) (bc (S.okWG ws W) (bc (Nat.ble ((0 : Nat) + S.packL ws W) (lenL (S.packed ws W))) (bc (Nat.ble (((0 : Nat) + S.packL ws W) * (1 : Nat)) (1099511627776 : Nat)) (bc (eqI (wrapK IntKind.u64 ↑((0 : Nat) + S.packL ws W)) (0 : Int)) False (bc (ltI (S.fx a (S.packL ws W)) (0 : Int)) False (bc (ltI (S.fx a (S.packL ws W)) ↑((0 : Nat) + S.packL ws W)) (bc (Nat.ble ((0 : Nat) + Int.toNat (S.fx a (S.packL ws W)) * (1 : Nat) + (1 : Nat)) (lenL (app (sub [] (0 : Nat) (0 : Nat)) (sub (S.packed ws W) (0 : Nat) (S.packL ws W))))) (bc (S.okUB (setMany (app (sub [] (0 : Nat) (0 : Nat)) (sub (S.packed ws W) (0 : Nat) (S.packL ws W))) ((0 : Nat) + Int.toNat (S.fx a (S.packL ws W)) * (1 : Nat)) [LV.int IntKind.u8 v]) ((0 : Nat) + S.packL ws W) ((0 : Nat) + S.packL ws W)) (ltI (S.fx a (S.packL ws W)) (0 : Int) = false ∧ bc (ltI (S.fx a (S.packL ws W)) ↑(S.packL ws W)) (bc (Nat.ble ((0 : Nat) + Int.toNat (S.fx a (S.packL ws W)) * (1 : Nat) + (1 : Nat)) (lenL (S.packed ws W))) (bc (eqI (Int.tmod (wrapK IntKind.i64 v) (255 : Int)) (Int.tmod (wrapK IntKind.i64 (intOf (K.atV (S.packed ws W) ((0 : Nat) + Int.toNat (S.fx a (S.packL ws W)) * (1 : Nat))))) (255 : Int))) (true = true ∧ True) (true = true ∧ True)) False) False) False) False) False))) False) False) False)) := by kernel_rfl
theorem ffSB_con (W p ew : Nat) (ws : List LV) (a v : Int) (h0v : 0 ≤ v) (h1v : v ≤ 255) (hw : W ≤ 400 → S.okWG ws W = true ∧ S.PF ws W) (hX : S.okUB (S.tb ws W a v) (S.packL ws W) (S.packL ws W) = true) (hU : S.uo (S.tb ws W a v) (S.packL ws W) = false) : HT Try.prog 6 [.slice 0 0 W (.known p), .int .i64 a, .int .u8 v] (Heap.of [.flat [.i .i64] ew .ro ws]) (⟨.ret (.bool true), [], []⟩ : K.CRes).e (Heap.of (K.chg [.flat [.i .i64] ew .ro ws] (⟨.ret (.bool true), [], []⟩ : K.CRes).ch ++ (⟨.ret (.bool true), [], []⟩ : K.CRes).new)) := by
  refine K.con_of_run good (A := envL [(7, pakGE), (10, unBE), (9, awk25E)]) (envL_ok ?_) K.openE_ok (k := 30) (cast (ffSB_run W p ew ws a v).symm ?_)
  · intro p hp; simp only [List.mem_cons, List.not_mem_nil, or_false] at hp; rcases hp with rfl | rfl | rfl <;> first | exact pakG_ok | exact unB_ok | exact awk25_ok
  · by_cases h4 : 400 < (W : Int)
    · rw [ltI_true.2 h4]; simp
    rw [ltI_false.2 (by omega), bc_false]
    obtain ⟨w1, hP⟩ := hw (by omega)
    have l12 := hP.2.1
    obtain ⟨f0, f1, f2⟩ := S.fx_rng (a := a) (L := S.packL ws W) (by omega) l12.2
    have hp : lenL (S.packed ws W) = S.packL ws W := rfl
    have sa := S.sub_all hp
    have ap : app (sub [] 0 0) (S.packed ws W) = S.packed ws W := rfl
    have b1 : Nat.ble (S.packL ws W) 1099511627776 = true := S.bleN_iff.2 (by omega)
    have e1 : eqI (S.packL ws W : Int) 0 = false := eqI_false.2 (by omega)
    have e2 : ltI (S.fx a (S.packL ws W)) 0 = false := ltI_false.2 f0
    have e3 : ltI (S.fx a (S.packL ws W)) (S.packL ws W) = true := ltI_true.2 f1
    have b2 : Nat.ble ((S.fx a (S.packL ws W)).toNat + 1) (S.packL ws W) = true := S.bleN_iff.2 (by omega)
    rw [Nat.zero_add] at f2
    have ht : setMany (S.packed ws W) (S.fx a (S.packL ws W)).toNat [.int .u8 v] = S.tb ws W a v := rfl
    simp only [w1, Nat.zero_add, Nat.mul_one, hp, sa, ap, S.ble_self, b1, f2, e1, e2, e3, b2, ht, hX, bc_true, bc_false, true_and]
    cases eqI ((wrapK .i64 v).tmod 255) ((wrapK .i64 (intOf (K.atV (S.packed ws W) (S.fx a (S.packL ws W)).toNat))).tmod 255) <;> simp
theorem ffx_run (W p ew : Nat) (ws : List LV) (a v : Int) : K.bodyF (envL [(7, pakBE), (10, unBE), (9, awk25E)]) (K.runF (envL [(7, pakBE), (10, unBE), (9, awk25E)]) 30) 6 [.slice 0 0 W (.known p), .int .i64 a, .int .u8 v] (Heap.of [.flat [.i .i64] ew .ro ws]) Hint.auto (K.endC K.openE 1 ⟨.ret (.bool true), [], []⟩) =
    (bc (ltI (400 : Int) ↑W) (true = true ∧ True) (bc (S.okWB ws W) (true = true ∧ True) False)) := by kernel_rfl
theorem ffx_con (W p ew : Nat) (ws : List LV) (a v : Int) (hw : W ≤ 400 → S.okWB ws W = true) : HT Try.prog 6 [.slice 0 0 W (.known p), .int .i64 a, .int .u8 v] (Heap.of [.flat [.i .i64] ew .ro ws]) (⟨.ret (.bool true), [], []⟩ : K.CRes).e (Heap.of (K.chg [.flat [.i .i64] ew .ro ws] (⟨.ret (.bool true), [], []⟩ : K.CRes).ch ++ (⟨.ret (.bool true), [], []⟩ : K.CRes).new)) := by
  refine K.con_of_run good (A := envL [(7, pakBE), (10, unBE), (9, awk25E)]) (envL_ok ?_) K.openE_ok (k := 30) (cast (ffx_run W p ew ws a v).symm ?_)
  · intro p hp; simp only [List.mem_cons, List.not_mem_nil, or_false] at hp; rcases hp with rfl | rfl | rfl <;> first | exact pakB_ok | exact unB_ok | exact awk25_ok
  · by_cases h4 : 400 < (W : Int)
    · rw [ltI_true.2 h4]; simp
    rw [ltI_false.2 (by omega), bc_false]
    simp only [hw (by omega), bc_true]
    simp
theorem ff_N (a : Int) (v : Int) (h0v : 0 ≤ v) (h1v : v ≤ 255) : HT Try.prog 6 [.nils, .int .i64 a, .int .u8 v] (Heap.of []) (.ret (.bool true)) (Heap.of []) := by
  have hP : S.PF [] 0 := S.pf_of rfl (fun u hu => by cases hu) (by decide)
  have hk := (S.tb_facts (a := a) hP h0v h1v).1
  cases hO : S.uo (S.tb [] 0 a v) (S.packL [] 0) with
  | false => exact ffNB_con a v h0v h1v hP (S.an_iff.2 ⟨hk, by rw [hO]; rfl⟩) hO
  | true =>
    by_cases hC : 2 ≤ S.ul (S.tb [] 0 a v) (S.packL [] 0)
    · exact ffNG_con a v h0v h1v hP (S.an_iff.2 ⟨hk, S.an_iff.2 ⟨hO, S.bleN_iff.2 hC⟩⟩) hO
    · exact ffNZ_con a v h0v h1v hP (S.an_iff.2 ⟨hk, S.an_iff.2 ⟨hO, S.beqN_iff.2 (S.ul_one3 hO hC)⟩⟩) hO
theorem ff_E (a : Int) (v : Int) (h0v : 0 ≤ v) (h1v : v ≤ 255) : HT Try.prog 6 [.emp 0, .int .i64 a, .int .u8 v] (Heap.of [.empty]) (.ret (.bool true)) (Heap.of [.empty]) := by
  have hP : S.PF [] 0 := S.pf_of rfl (fun u hu => by cases hu) (by decide)
  have hk := (S.tb_facts (a := a) hP h0v h1v).1
  cases hO : S.uo (S.tb [] 0 a v) (S.packL [] 0) with
  | false => exact ffEB_con a v h0v h1v hP (S.an_iff.2 ⟨hk, by rw [hO]; rfl⟩) hO
  | true =>
    by_cases hC : 2 ≤ S.ul (S.tb [] 0 a v) (S.packL [] 0)
    · exact ffEG_con a v h0v h1v hP (S.an_iff.2 ⟨hk, S.an_iff.2 ⟨hO, S.bleN_iff.2 hC⟩⟩) hO
    · exact ffEZ_con a v h0v h1v hP (S.an_iff.2 ⟨hk, S.an_iff.2 ⟨hO, S.beqN_iff.2 (S.ul_one3 hO hC)⟩⟩) hO
theorem ff_S (l0 : List Int) (p0 ew : Nat) (hz0 : 0 < l0.length) (hq0 : l0.length ≤ p0) (hl0 : ∀ a, a ∈ l0 → -9223372036854775808 ≤ a ∧ a ≤ 9223372036854775807) (a : Int) (v : Int) (h0v : 0 ≤ v) (h1v : v ≤ 255) : HT Try.prog 6 [.slice 0 0 l0.length (.known p0), .int .i64 a, .int .u8 v] (Heap.of [.flat S.inK ew .ro (l0.flatMap S.inV)]) (.ret (.bool true)) (Heap.of [.flat S.inK ew .ro (l0.flatMap S.inV)]) := by
  by_cases h4 : 400 < l0.length
  · exact ffx_con l0.length p0 ew _ a v (fun h => by omega)
  cases hF : S.okF (l0.flatMap S.inV) (S.rem l0.length 0) 0 with
  | false => exact ffx_con l0.length p0 ew _ a v (fun h => S.an_iff.2 ⟨S.okW_iff.2 ⟨S.inV_len l0, by omega⟩, by rw [hF]; rfl⟩)
  | true =>
    have wg := S.nums_okWG (S.inV_nums hF) (S.inV_len l0) (by omega)
    have hP := S.pf_of (S.inV_len l0) (S.inV_nums hF) (by omega)
    have hk := (S.tb_facts (a := a) hP h0v h1v).1
    cases hO : S.uo (S.tb (l0.flatMap S.inV) l0.length a v) (S.packL (l0.flatMap S.inV) l0.length) with
    | false => exact ffSB_con l0.length p0 ew _ a v h0v h1v (fun _ => ⟨wg, hP⟩) (S.an_iff.2 ⟨hk, by rw [hO]; rfl⟩) hO
    | true =>
      by_cases hC : 2 ≤ S.ul (S.tb (l0.flatMap S.inV) l0.length a v) (S.packL (l0.flatMap S.inV) l0.length)
      · exact ffSG_con l0.length p0 ew _ a v h0v h1v (fun _ => ⟨wg, hP⟩) (S.an_iff.2 ⟨hk, S.an_iff.2 ⟨hO, S.bleN_iff.2 hC⟩⟩) hO
      · exact ffSZ_con l0.length p0 ew _ a v h0v h1v (fun _ => ⟨wg, hP⟩) (S.an_iff.2 ⟨hk, S.an_iff.2 ⟨hO, S.beqN_iff.2 (S.ul_one3 hO hC)⟩⟩) hO
end Go.Proofs.Ytogngajglbgjmaa.Ev
