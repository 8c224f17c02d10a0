/- Contracts, proved: Ffr. -/
import Derived.Test.YtogngajglbgjmaaFfrD
import Derived.Test.YtogngajglbgjmaaFrvP
import Derived.Test.YtogngajglbgjmaaFsmP
import Derived.Test.YtogngajglbgjmaaFakP
namespace Go.Proofs.Ytogngajglbgjmaa.Ev
open Go
set_option linter.unusedVariables false
set_option linter.unusedSimpArgs false
set_option maxRecDepth 100000
set_option maxHeartbeats 1000000
namespace S
theorem okU_self {vs : List LV} {L q : Nat} (h : okU vs L q = true) : okU vs L L = true := by
  obtain ⟨⟨a, b⟩, c, d⟩ := okU_iff.1 h
  exact okU_iff.2 ⟨⟨a, b⟩, c, Nat.le_refl L⟩
theorem cp_all {vs : List LV} {L : Nat} (h : lenL vs = L) : app (sub [] 0 0) (sub vs 0 L) = vs := by rw [sub_all h]; rfl
theorem ble_0 {L : Nat} (h : 1 ≤ L) : Nat.ble L 0 = false := by
  cases e : Nat.ble L 0
  · rfl
  · have := Nat.le_of_ble_eq_true e; omega
theorem ul_one {vs : List LV} {L : Nat} (h : uo vs L = true) (hC : Nat.ble 2 (ul vs L) = false) : ul vs L = 1 := by
  obtain ⟨_, _, h1⟩ := uo_iff.1 h
  have h2 : ¬ 2 ≤ ul vs L := fun h => by rw [bleN_iff.2 h] at hC; cases hC
  have h3 : ul vs L ≠ 0 := fun h => by
    have e : un vs L = [] := by
      have : lenL (un vs L) = 0 := h
      rw [K.lenL_eq] at this
      exact List.eq_nil_of_length_eq_zero this
    rw [e, h] at h1
    exact absurd h1 (by decide)
  omega
theorem byV_at (l : List Int) (i : Nat) (h : i < l.length) : intOf (K.atV (l.flatMap byV) i) = l[i] := by
  induction l generalizing i with
  | nil => simp at h
  | cons a l ih =>
    cases i with
    | zero => rfl
    | succ i => exact ih i (by simpa using h)
theorem byV_len (l : List Int) : lenL (l.flatMap byV) = l.length := by rw [K.lenL_eq, flatMap_length _ 1 (fun _ => rfl) l, Nat.mul_one]
theorem byV_okU {l : List Int} {q : Nat} (hl : ∀ a, a ∈ l → 0 ≤ a ∧ a ≤ 255) (h : l.length ≤ 1000000) (hq : l.length ≤ q) : okU (l.flatMap byV) l.length q = true := by
  refine okU_iff.2 ⟨⟨okY_iff.2 fun i hi => ?_, byV_len l⟩, h, hq⟩
  rw [byV_len] at hi
  rw [byV_at l i hi]
  have := hl l[i] (List.getElem_mem hi)
  omega
end S
theorem fqN_run : K.bodyF (envL []) (K.runF (envL []) 30) 4 [.nils] (Heap.of []) .auto (K.endC K.shutE 0 ⟨.ret (.bool true), [], []⟩) = True := by kernel_rfl
theorem fqN_con : HT Try.prog 4 [.nils] (Heap.of []) (⟨.ret (.bool true), [], []⟩ : K.CRes).e (Heap.of (K.chg [] (⟨.ret (.bool true), [], []⟩ : K.CRes).ch ++ (⟨.ret (.bool true), [], []⟩ : K.CRes).new)) := by
  refine K.con_of_eq (A := envL []) (E := K.shutE) (k := 30) (g := 4) (xs := [.nils]) (os := []) (r := ⟨.ret (.bool true), [], []⟩) (h := .auto) good (envL_ok ?_) K.shutE_ok (fqN_run)
  intro p hp; cases hp
theorem fqE_run : K.bodyF (envL []) (K.runF (envL []) 30) 4 [.emp 0] (Heap.of [.empty]) .auto (K.endC K.shutE 1 ⟨.ret (.bool true), [], []⟩) = True := by kernel_rfl
theorem fqE_con : HT Try.prog 4 [.emp 0] (Heap.of [.empty]) (⟨.ret (.bool true), [], []⟩ : K.CRes).e (Heap.of (K.chg [.empty] (⟨.ret (.bool true), [], []⟩ : K.CRes).ch ++ (⟨.ret (.bool true), [], []⟩ : K.CRes).new)) := by
  refine K.con_of_eq (A := envL []) (E := K.shutE) (k := 30) (g := 4) (xs := [.emp 0]) (os := [.empty]) (r := ⟨.ret (.bool true), [], []⟩) (h := .auto) good (envL_ok ?_) K.shutE_ok (fqE_run)
  intro p hp; cases hp
theorem fqL_run (L et q : Nat) (vs : List LV) : K.bodyF (envL []) (K.runF (envL []) 30) 4 [.slice 0 0 L (.known q)] (Heap.of [.flat [.i .u8] et .ro vs]) (.take true .auto) (K.endC K.openE 1 ⟨.ret (.bool true), [], []⟩) =
    ((ltI (2000 : Int) ↑L = true ∧ (true = true ∧ True))) := by kernel_rfl
theorem fqL_con (L et q : Nat) (vs : List LV) (h0 : ltI 2000 L = true) : HT Try.prog 4 [.slice 0 0 L (.known q)] (Heap.of [.flat [.i .u8] et .ro vs]) (⟨.ret (.bool true), [], []⟩ : K.CRes).e (Heap.of (K.chg [.flat [.i .u8] et .ro vs] (⟨.ret (.bool true), [], []⟩ : K.CRes).ch ++ (⟨.ret (.bool true), [], []⟩ : K.CRes).new)) := by
  refine K.con_of_run good (A := envL []) (envL_ok ?_) K.openE_ok (k := 30) (cast (fqL_run L et q vs).symm ?_)
  · intro p hp; cases hp
  · exact ⟨h0, rfl, trivial⟩
theorem fqG_run (L et q : Nat) (vs : List LV) : K.bodyF (envL [(10, unGE), (11, runGE), (12, sameXE), (9, awk25E)]) (K.runF (envL [(10, unGE), (11, runGE), (12, sameXE), (9, awk25E)]) 30) 4 [.slice 0 0 L (.known q)] (Heap.of [.flat [.i .u8] et .ro vs]) Hint.auto (K.endC K.openE 1 ⟨.ret (.bool true), [], []⟩) =
    (bc (ltI (2000 : Int) ↑L) (true = true ∧ True) (bc (Nat.ble ((0 : Nat) + L) (lenL vs)) (bc (Nat.ble ((0 : Nat) + L) (0 : Nat)) (bc (Nat.beq L (0 : Nat)) (bc (S.okU1 vs L q) (bc (notB (eqI ↑(0 : Nat) ↑(S.ul vs L - (1 : Nat)))) (true = false ∧ True) (true = false ∧ True)) False) False) (bc (Nat.ble (((0 : Nat) + L) * (1 : Nat)) (1099511627776 : Nat)) (bc (S.okU1 (app (sub [] (0 : Nat) (0 : Nat)) (sub vs (0 : Nat) L)) ((0 : Nat) + L) ((0 : Nat) + L)) (bc (S.okU1 vs L q) (bc (S.an (Nat.beq (S.ul (app (sub [] (0 : Nat) (0 : Nat)) (sub vs (0 : Nat) L)) ((0 : Nat) + L) - (1 : Nat)) (S.ul vs L - (1 : Nat))) (S.smG (S.uw (app (sub [] (0 : Nat) (0 : Nat)) (sub vs (0 : Nat) L)) ((0 : Nat) + L)) (S.uw vs L) (S.ul (app (sub [] (0 : Nat) (0 : Nat)) (sub vs (0 : Nat) L)) ((0 : Nat) + L) - (1 : Nat)) (0 : Int))) (true = true ∧ True) False) False) False) False)) False)) := by kernel_rfl
theorem fqG_con (L et q : Nat) (vs : List LV) (h0 : S.okU1 vs L q = true) : HT Try.prog 4 [.slice 0 0 L (.known q)] (Heap.of [.flat [.i .u8] et .ro vs]) (⟨.ret (.bool true), [], []⟩ : K.CRes).e (Heap.of (K.chg [.flat [.i .u8] et .ro vs] (⟨.ret (.bool true), [], []⟩ : K.CRes).ch ++ (⟨.ret (.bool true), [], []⟩ : K.CRes).new)) := by
  refine K.con_of_run good (A := envL [(10, unGE), (11, runGE), (12, sameXE), (9, awk25E)]) (envL_ok ?_) K.openE_ok (k := 30) (cast (fqG_run L et q vs).symm ?_)
  · intro p hp; simp only [List.mem_cons, List.not_mem_nil, or_false] at hp; rcases hp with rfl | rfl | rfl | rfl <;> first | exact unG_ok | exact runG_ok | exact sameX_ok | exact awk25_ok
  · by_cases h2 : 2000 < (L : Int)
    · rw [ltI_true.2 h2]; simp
    rw [ltI_false.2 (by omega), bc_false]
    obtain ⟨hU, hX⟩ := S.an_iff.1 h0
    obtain ⟨⟨hY, hL⟩, hM, hq⟩ := S.okU_iff.1 hU
    have b0 : Nat.ble L (lenL vs) = true := S.bleN_iff.2 (by omega)
    have b1 : Nat.ble L 1099511627776 = true := S.bleN_iff.2 (by omega)
    have cp := S.cp_all hL
    have hS := S.an_iff.2 ⟨S.okU_self hU, hX⟩
    obtain ⟨hO, hC⟩ := S.an_iff.1 hX
    obtain ⟨h4, _⟩ := S.uh_iff.1 (S.uo_iff.1 hO).1
    have z := S.ble_0 (show 1 ≤ L by omega)
    have hS : S.okU1 vs L L = true := hS
    have cl2 : S.ul vs L ≤ L - 3 := S.nl_len vs _ _ _
    have hC2 := S.bleN_iff.1 hC
    have lw : lenL (S.uw vs L) = S.ul vs L - 1 := by
      have e : lenL (S.un vs L) = S.ul vs L := rfl
      unfold S.uw
      rw [K.lenL_eq, sub_eq, List.length_take, List.length_drop, ← K.lenL_eq, e]; omega
    have sm : S.smG (S.uw vs L) (S.uw vs L) (S.ul vs L - 1) 0 = true := S.an_iff.2 ⟨S.smI_iff.2 ⟨⟨lw, lw⟩, by omega, Int.le_refl 0, by omega⟩, S.smR_self _ _ _⟩
    have bs : Nat.beq (S.ul vs L - 1) (S.ul vs L - 1) = true := Nat.beq_refl _
    have at2 : S.an true true = true := rfl
    simp only [Nat.zero_add, Nat.mul_one, b0, b1, cp, h0, bc_true, bc_false, z, hS, sm, bs, at2]
    simp
theorem fqZ_run (L et q : Nat) (vs : List LV) : K.bodyF (envL [(10, unZE), (11, runZE), (12, sameXE), (9, awk25E)]) (K.runF (envL [(10, unZE), (11, runZE), (12, sameXE), (9, awk25E)]) 30) 4 [.slice 0 0 L (.known q)] (Heap.of [.flat [.i .u8] et .ro vs]) Hint.auto (K.endC K.openE 1 ⟨.ret (.bool true), [], []⟩) =
    (bc (ltI (2000 : Int) ↑L) (true = true ∧ True) (bc (Nat.ble ((0 : Nat) + L) (lenL vs)) (bc (Nat.ble ((0 : Nat) + L) (0 : Nat)) (bc (Nat.beq L (0 : Nat)) (bc (S.okU0 vs L q) (true = false ∧ True) False) False) (bc (Nat.ble (((0 : Nat) + L) * (1 : Nat)) (1099511627776 : Nat)) (bc (S.okU0 (app (sub [] (0 : Nat) (0 : Nat)) (sub vs (0 : Nat) L)) ((0 : Nat) + L) ((0 : Nat) + L)) (bc (S.okU0 vs L q) (true = true ∧ True) False) False) False)) False)) := by kernel_rfl
theorem fqZ_con (L et q : Nat) (vs : List LV) (h0 : S.okU0 vs L q = true) : HT Try.prog 4 [.slice 0 0 L (.known q)] (Heap.of [.flat [.i .u8] et .ro vs]) (⟨.ret (.bool true), [], []⟩ : K.CRes).e (Heap.of (K.chg [.flat [.i .u8] et .ro vs] (⟨.ret (.bool true), [], []⟩ : K.CRes).ch ++ (⟨.ret (.bool true), [], []⟩ : K.CRes).new)) := by
  refine K.con_of_run good (A := envL [(10, unZE), (11, runZE), (12, sameXE), (9, awk25E)]) (envL_ok ?_) K.openE_ok (k := 30) (cast (fqZ_run L et q vs).symm ?_)
  · intro p hp; simp only [List.mem_cons, List.not_mem_nil, or_false] at hp; rcases hp with rfl | rfl | rfl | rfl <;> first | exact unZ_ok | exact runZ_ok | exact sameX_ok | exact awk25_ok
  · by_cases h2 : 2000 < (L : Int)
    · rw [ltI_true.2 h2]; simp
    rw [ltI_false.2 (by omega), bc_false]
    obtain ⟨hU, hX⟩ := S.an_iff.1 h0
    obtain ⟨⟨hY, hL⟩, hM, hq⟩ := S.okU_iff.1 hU
    have b0 : Nat.ble L (lenL vs) = true := S.bleN_iff.2 (by omega)
    have b1 : Nat.ble L 1099511627776 = true := S.bleN_iff.2 (by omega)
    have cp := S.cp_all hL
    have hS := S.an_iff.2 ⟨S.okU_self hU, hX⟩
    obtain ⟨hO, hC⟩ := S.an_iff.1 hX
    obtain ⟨h4, _⟩ := S.uh_iff.1 (S.uo_iff.1 hO).1
    have z := S.ble_0 (show 1 ≤ L by omega)
    have hS : S.okU0 vs L L = true := hS
    simp only [Nat.zero_add, Nat.mul_one, b0, b1, cp, h0, bc_true, bc_false, z, hS]
    simp
theorem fqB_run (L et q : Nat) (vs : List LV) : K.bodyF (envL [(10, unBE), (11, runBE), (12, sameXE), (9, awk25E)]) (K.runF (envL [(10, unBE), (11, runBE), (12, sameXE), (9, awk25E)]) 30) 4 [.slice 0 0 L (.known q)] (Heap.of [.flat [.i .u8] et .ro vs]) Hint.auto (K.endC K.openE 1 ⟨.ret (.bool true), [], []⟩) =
    (bc (ltI (2000 : Int) ↑L) (true = true ∧ True) (bc (Nat.ble ((0 : Nat) + L) (lenL vs)) (bc (Nat.ble ((0 : Nat) + L) (0 : Nat)) (bc (Nat.beq L (0 : Nat)) (bc (S.okUB vs L q) (true = true ∧ True) False) False) (bc (Nat.ble (((0 : Nat) + L) * (1 : Nat)) (1099511627776 : Nat)) (bc (S.okUB (app (sub [] (0 : Nat) (0 : Nat)) (sub vs (0 : Nat) L)) ((0 : Nat) + L) ((0 : Nat) + L)) (bc (S.okUB vs L q) (true = true ∧ True) False) False) False)) False)) := by kernel_rfl
theorem fqB_con (L et q : Nat) (vs : List LV) (h0 : S.okUB vs L q = true) : HT Try.prog 4 [.slice 0 0 L (.known q)] (Heap.of [.flat [.i .u8] et .ro vs]) (⟨.ret (.bool true), [], []⟩ : K.CRes).e (Heap.of (K.chg [.flat [.i .u8] et .ro vs] (⟨.ret (.bool true), [], []⟩ : K.CRes).ch ++ (⟨.ret (.bool true), [], []⟩ : K.CRes).new)) := by
  refine K.con_of_run good (A := envL [(10, unBE), (11, runBE), (12, sameXE), (9, awk25E)]) (envL_ok ?_) K.openE_ok (k := 30) (cast (fqB_run L et q vs).symm ?_)
  · intro p hp; simp only [List.mem_cons, List.not_mem_nil, or_false] at hp; rcases hp with rfl | rfl | rfl | rfl <;> first | exact unB_ok | exact runB_ok | exact sameX_ok | exact awk25_ok
  · by_cases h2 : 2000 < (L : Int)
    · rw [ltI_true.2 h2]; simp
    rw [ltI_false.2 (by omega), bc_false]
    obtain ⟨hU, hX⟩ := S.an_iff.1 h0
    obtain ⟨⟨hY, hL⟩, hM, hq⟩ := S.okU_iff.1 hU
    have b0 : Nat.ble L (lenL vs) = true := S.bleN_iff.2 (by omega)
    have b1 : Nat.ble L 1099511627776 = true := S.bleN_iff.2 (by omega)
    have cp := S.cp_all hL
    have hS := S.an_iff.2 ⟨S.okU_self hU, hX⟩
    have hS : S.okUB vs L L = true := hS
    by_cases hz : L = 0
    · subst hz
      have z1 : Nat.ble 0 0 = true := rfl
      have z2 : Nat.beq 0 0 = true := rfl
      simp only [Nat.zero_add, Nat.mul_one, b0, b1, cp, h0, bc_true, bc_false, z1, z2]
      simp
    have z := S.ble_0 (show 1 ≤ L by omega)
    simp only [Nat.zero_add, Nat.mul_one, b0, b1, cp, h0, bc_true, bc_false, z, hS]
    simp
theorem fq_N : HT Try.prog 4 [.nils] (Heap.of []) (.ret (.bool true)) (Heap.of []) := fqN_con
theorem fq_E : HT Try.prog 4 [.emp 0] (Heap.of [.empty]) (.ret (.bool true)) (Heap.of [.empty]) := fqE_con
theorem fq_S (l : List Int) (q et : Nat) (hz : 0 < l.length) (hq : l.length ≤ q) (hl : ∀ a, a ∈ l → 0 ≤ a ∧ a ≤ 255) : HT Try.prog 4 [.slice 0 0 l.length (.known q)] (Heap.of [.flat S.byK et .ro (l.flatMap S.byV)]) (.ret (.bool true)) (Heap.of [.flat S.byK et .ro (l.flatMap S.byV)]) := by
  by_cases h2 : 2000 < (l.length : Int)
  · exact fqL_con l.length et q _ (ltI_true.2 h2)
  · have hU := S.byV_okU hl (by omega) hq
    cases hO : S.uo (l.flatMap S.byV) l.length with
    | false => exact fqB_con l.length et q _ (S.an_iff.2 ⟨hU, by rw [hO]; rfl⟩)
    | true =>
      cases hC : Nat.ble 2 (S.ul (l.flatMap S.byV) l.length) with
      | true => exact fqG_con l.length et q _ (S.an_iff.2 ⟨hU, S.an_iff.2 ⟨hO, hC⟩⟩)
      | false =>
        refine fqZ_con l.length et q _ (S.an_iff.2 ⟨hU, S.an_iff.2 ⟨hO, S.beqN_iff.2 ?_⟩⟩)
        exact S.ul_one hO hC
end Go.Proofs.Ytogngajglbgjmaa.Ev
