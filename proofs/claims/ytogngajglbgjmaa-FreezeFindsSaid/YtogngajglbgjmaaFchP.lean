/- Contracts, proved: Fch. -/
import Derived.Test.YtogngajglbgjmaaFchD
import Derived.Test.YtogngajglbgjmaaFnuP
namespace Go.Proofs.Ytogngajglbgjmaa.Ev
open Go
set_option linter.unusedVariables false
set_option linter.unusedSimpArgs false
set_option maxRecDepth 100000
set_option maxHeartbeats 1000000
namespace S
theorem ble_self (n : Nat) : n.ble n = true := Nat.ble_eq_true_of_le (Nat.le_refl n)
theorem ble_no (n : Nat) : (n + 2).ble n = false := by
  cases h : (n + 2).ble n
  · rfl
  · have := Nat.le_of_ble_eq_true h; omega
theorem beq_no {n : Nat} (h : 1 ≤ n) : n.beq 0 = false := by cases n with | zero => omega | succ n => rfl
theorem lenL_cons {α : Type} (x : α) (l : List α) : lenL (x :: l) = 1 + lenL l := by rw [K.lenL_eq, K.lenL_eq, List.length_cons]; omega
theorem okL_iff {vs : List LV} {L : Nat} : okL vs L = true ↔ L ≤ lenL vs ∧ L ≤ 1000000 := by
  unfold okL; rw [an_iff]
  exact and_congr ⟨Nat.le_of_ble_eq_true, Nat.ble_eq_true_of_le⟩ ⟨Nat.le_of_ble_eq_true, Nat.ble_eq_true_of_le⟩
theorem okI_iff {vs : List LV} {L : Nat} {i : Int} : okI vs L i = true ↔ (L ≤ lenL vs ∧ L ≤ 1000000) ∧ 0 ≤ i ∧ i ≤ L := by
  unfold okI; rw [an_iff, an_iff (a := notB _), notB_true, notB_true, ltI_false, ltI_false]
  exact and_congr okL_iff Iff.rfl
end S
theorem chR_run (L et : Nat) (cp : Cap) (w : Own) (vs : List LV) (a b i : Int) : K.RunL (envL []) K.openE 30 14 28 (inner (inner (blkOf 14 0))) chLB [(2, .ptr 0 0), (3, .int .i64 a), (4, .int .i64 b), (7, .slice 1 0 L cp), (8, .int .i64 L), (9, .int .i64 i)] [.cells 41 .exact [.int .u8 0, .int .u8 0], .flat [.i .u8] et w vs] Hint.auto ⟨.exit 0, [(2, .ptr 0 0), (3, .int .i64 (S.ca vs (S.rem L i) i a b)), (4, .int .i64 (S.cb vs (S.rem L i) i a b))], [], []⟩ =
    (bc (ltI i ↑L) (bc (ltI i (0 : Int)) False (bc (ltI i ↑L) (bc (Nat.ble ((0 : Nat) + Int.toNat i * (1 : Nat) + (1 : Nat)) (lenL vs)) (bc (S.an (eqI ↑L ↑L) (S.okI vs L (wrapK IntKind.i64 (i + (1 : Int))))) (K.LOk Try.prog 14 28 (inner (inner (blkOf 14 0))) [(2 : Nat), (3 : Nat), (4 : Nat), (7 : Nat), (8 : Nat), (9 : Nat)] [LV.ptr (0 : Nat) (0 : Nat), LV.int IntKind.i64 (Int.tmod (wrapK IntKind.i64 (a + wrapK IntKind.i64 (intOf (K.atV vs ((0 : Nat) + Int.toNat i * (1 : Nat)))))) (255 : Int)), LV.int IntKind.i64 (Int.tmod (wrapK IntKind.i64 (b + Int.tmod (wrapK IntKind.i64 (a + wrapK IntKind.i64 (intOf (K.atV vs ((0 : Nat) + Int.toNat i * (1 : Nat)))))) (255 : Int))) (255 : Int)), LV.slice (1 : Nat) (0 : Nat) L cp, LV.int IntKind.i64 ↑L, LV.int IntKind.i64 (wrapK IntKind.i64 (i + (1 : Int)))] [LObj.cells (41 : TypeId) Own.exact [LV.int IntKind.u8 (0 : Int), LV.int IntKind.u8 (0 : Int)], LObj.flat [CK.i IntKind.u8] et w vs] { x := LX.exit (0 : Nat), L := [((2 : Nat), LV.ptr (0 : Nat) (0 : Nat)), ((3 : Nat), LV.int IntKind.i64 (S.ca vs (S.rem L (wrapK IntKind.i64 (i + (1 : Int)))) (wrapK IntKind.i64 (i + (1 : Int))) (Int.tmod (wrapK IntKind.i64 (a + wrapK IntKind.i64 (intOf (K.atV vs ((0 : Nat) + Int.toNat i * (1 : Nat)))))) (255 : Int)) (Int.tmod (wrapK IntKind.i64 (b + Int.tmod (wrapK IntKind.i64 (a + wrapK IntKind.i64 (intOf (K.atV vs ((0 : Nat) + Int.toNat i * (1 : Nat)))))) (255 : Int))) (255 : Int)))), ((4 : Nat), LV.int IntKind.i64 (S.cb vs (S.rem L (wrapK IntKind.i64 (i + (1 : Int)))) (wrapK IntKind.i64 (i + (1 : Int))) (Int.tmod (wrapK IntKind.i64 (a + wrapK IntKind.i64 (intOf (K.atV vs ((0 : Nat) + Int.toNat i * (1 : Nat)))))) (255 : Int)) (Int.tmod (wrapK IntKind.i64 (b + Int.tmod (wrapK IntKind.i64 (a + wrapK IntKind.i64 (intOf (K.atV vs ((0 : Nat) + Int.toNat i * (1 : Nat)))))) (255 : Int))) (255 : Int))))], ch := [], new := [] } ∧ ((0 : Nat) = (0 : Nat) ∧ (S.ca vs (S.rem L i) i a b = S.ca vs (S.rem L (wrapK IntKind.i64 (i + (1 : Int)))) (wrapK IntKind.i64 (i + (1 : Int))) (Int.tmod (wrapK IntKind.i64 (a + wrapK IntKind.i64 (intOf (K.atV vs ((0 : Nat) + Int.toNat i * (1 : Nat)))))) (255 : Int)) (Int.tmod (wrapK IntKind.i64 (b + Int.tmod (wrapK IntKind.i64 (a + wrapK IntKind.i64 (intOf (K.atV vs ((0 : Nat) + Int.toNat i * (1 : Nat)))))) (255 : Int))) (255 : Int)) ∧ (S.cb vs (S.rem L i) i a b = S.cb vs (S.rem L (wrapK IntKind.i64 (i + (1 : Int)))) (wrapK IntKind.i64 (i + (1 : Int))) (Int.tmod (wrapK IntKind.i64 (a + wrapK IntKind.i64 (intOf (K.atV vs ((0 : Nat) + Int.toNat i * (1 : Nat)))))) (255 : Int)) (Int.tmod (wrapK IntKind.i64 (b + Int.tmod (wrapK IntKind.i64 (a + wrapK IntKind.i64 (intOf (K.atV vs ((0 : Nat) + Int.toNat i * (1 : Nat)))))) (255 : Int))) (255 : Int)) ∧ True)))) False) False) False)) ((0 : Nat) = (0 : Nat) ∧ (S.ca vs (S.rem L i) i a b = a ∧ (S.cb vs (S.rem L i) i a b = b ∧ True)))) := by kernel_rfl
theorem chR_con (L et : Nat) (cp : Cap) (w : Own) (vs : List LV) (a b i : Int) (h0 : L ≤ lenL vs) (h1 : L ≤ 1000000) (h2 : 0 ≤ i) (h3 : i ≤ L) (h4 : ∀ (a2 b2 : Int), i < L → K.LOk Try.prog 14 28 (inner (inner (blkOf 14 0))) [2, 3, 4, 7, 8, 9] [.ptr 0 0, .int .i64 a2, .int .i64 b2, .slice 1 0 L cp, .int .i64 L, .int .i64 (i + 1)] [.cells 41 .exact [.int .u8 0, .int .u8 0], .flat [.i .u8] et w vs] ⟨.exit 0, [(2, .ptr 0 0), (3, .int .i64 (S.ca vs (S.rem L (i + 1)) (i + 1) a2 b2)), (4, .int .i64 (S.cb vs (S.rem L (i + 1)) (i + 1) a2 b2))], [], []⟩)  : GT Try.prog (fun k => .code (inner (inner (blkOf 14 0))) :: .inLoop (inner (inner (blkOf 14 0))) :: k) (Fr.ofL 14 28 [(2, .ptr 0 0), (3, .int .i64 a), (4, .int .i64 b), (7, .slice 1 0 L cp), (8, .int .i64 L), (9, .int .i64 i)] [] none) (Heap.of [.cells 41 .exact [.int .u8 0, .int .u8 0], .flat [.i .u8] et w vs]) (⟨.exit 0, [(2, .ptr 0 0), (3, .int .i64 (S.ca vs (S.rem L i) i a b)), (4, .int .i64 (S.cb vs (S.rem L i) i a b))], [], []⟩ : K.BRes).x (Fr.ofL 14 28 (⟨.exit 0, [(2, .ptr 0 0), (3, .int .i64 (S.ca vs (S.rem L i) i a b)), (4, .int .i64 (S.cb vs (S.rem L i) i a b))], [], []⟩ : K.BRes).L [] none) (Heap.of (K.chg [.cells 41 .exact [.int .u8 0, .int .u8 0], .flat [.i .u8] et w vs] (⟨.exit 0, [(2, .ptr 0 0), (3, .int .i64 (S.ca vs (S.rem L i) i a b)), (4, .int .i64 (S.cb vs (S.rem L i) i a b))], [], []⟩ : K.BRes).ch ++ (⟨.exit 0, [(2, .ptr 0 0), (3, .int .i64 (S.ca vs (S.rem L i) i a b)), (4, .int .i64 (S.cb vs (S.rem L i) i a b))], [], []⟩ : K.BRes).new)) := by
  refine K.loop_of_run good (A := envL []) (envL_ok ?_) K.openE_ok (k := 30) (ent := chLB) (cast (chR_run L et cp w vs a b i).symm ?_)
  · intro p hp; cases hp
  · have w2 : wrapK .i64 (i + 1) = i + 1 := by rw [wrapK_i64]; omega
    have at2 : S.an true true = true := rfl
    by_cases hi : i < L
    · have e0 : ltI i 0 = false := ltI_false.2 h2
      have e1 : ltI i L = true := ltI_true.2 hi
      have b0 : (0 + i.toNat * 1 + 1).ble (lenL vs) = true := Nat.ble_eq_true_of_le (by omega)
      have okn : S.okI vs L (i + 1) = true := S.okI_iff.2 ⟨⟨h0, h1⟩, by omega, by omega⟩
      have jj : S.rem L i = S.rem L (i + 1) + 1 := by unfold S.rem; omega
      have r1 : S.ca vs (S.rem L i) i a b = S.ca vs (S.rem L (i + 1)) (i + 1) (S.ck1 vs i (a, b)).1 (S.ck1 vs i (a, b)).2 := by unfold S.ca; rw [jj]; rfl
      have r2 : S.cb vs (S.rem L i) i a b = S.cb vs (S.rem L (i + 1)) (i + 1) (S.ck1 vs i (a, b)).1 (S.ck1 vs i (a, b)).2 := by unfold S.cb; rw [jj]; rfl
      have ih := h4 (S.ck1 vs i (a, b)).1 (S.ck1 vs i (a, b)).2 hi
      simp only [w2, e0, e1, b0, okn, at2, S.eqI_self, r1, r2, bc_true, bc_false]
      refine ⟨ih, ?_⟩
      repeat' (first | exact rfl | exact trivial | constructor)
    · have e1 : ltI i L = false := ltI_false.2 (by omega)
      have z : S.rem L i = 0 := by unfold S.rem; omega
      have z1 : S.ca vs 0 i a b = a := rfl
      have z2 : S.cb vs 0 i a b = b := rfl
      simp only [e1, bc_false, z, z1, z2]
      repeat' (first | exact rfl | exact trivial | constructor)
theorem ch_lok (L et : Nat) (cp : Cap) (w : Own) (vs : List LV) (h0 : L ≤ lenL vs) (h1 : L ≤ 1000000) : ∀ (j : Nat) (a b i : Int), 0 ≤ i → i ≤ L → S.rem L i = j →
    K.LOk Try.prog 14 28 (inner (inner (blkOf 14 0))) [2, 3, 4, 7, 8, 9] [.ptr 0 0, .int .i64 a, .int .i64 b, .slice 1 0 L cp, .int .i64 L, .int .i64 i] [.cells 41 .exact [.int .u8 0, .int .u8 0], .flat [.i .u8] et w vs] ⟨.exit 0, [(2, .ptr 0 0), (3, .int .i64 (S.ca vs (S.rem L i) i a b)), (4, .int .i64 (S.cb vs (S.rem L i) i a b))], [], []⟩ := by
  intro j
  induction j with
  | zero =>
    intro a b i h2 h3 hm
    unfold S.rem at hm
    exact chR_con L et cp w vs a b i h0 h1 h2 h3 fun a2 b2 hk => by omega
  | succ j ih =>
    intro a b i h2 h3 hm
    unfold S.rem at hm
    exact chR_con L et cp w vs a b i h0 h1 h2 h3 fun a2 b2 hk => ih a2 b2 (i + 1) (by omega) (by omega) (by unfold S.rem; omega)
theorem ch_blk (L et : Nat) (cp : Cap) (w : Own) (vs : List LV) (a b i : Int) (h0 : L ≤ lenL vs) (h1 : L ≤ 1000000) (h2 : 0 ≤ i) (h3 : i ≤ L) :
    K.BOk Try.prog 14 28 (blkOf 14 0) [2, 3, 4, 7, 8, 9] [.ptr 0 0, .int .i64 a, .int .i64 b, .slice 1 0 L cp, .int .i64 L, .int .i64 i] [.cells 41 .exact [.int .u8 0, .int .u8 0], .flat [.i .u8] et w vs] ⟨.normal, [(2, .ptr 0 0), (3, .int .i64 (S.ca vs (S.rem L i) i a b)), (4, .int .i64 (S.cb vs (S.rem L i) i a b))], [], []⟩ := by
  have hb : blkOf 14 0 = .block 0 (.loop (inner (inner (blkOf 14 0)))) := by kernel_rfl
  unfold K.BOk
  rw [hb]
  exact K.CT.block (K.GT.loop (ch_lok L et cp w vs h0 h1 _ a b i h2 h3 rfl))
theorem rcR_run (L et : Nat) (cp : Cap) (w : Own) (vs : List LV) (a b i : Int) : K.RunL (envL []) K.openE 30 16 29 (inner (inner (blkOf 16 0))) rcLB [(0, .slice 0 0 L cp), (4, .int .i64 a), (5, .int .i64 b), (6, .int .i64 i)] [.flat [.i .u8] et w vs] Hint.auto ⟨.exit 0, [(4, .int .i64 (S.ca vs (S.rem L i) i a b)), (5, .int .i64 (S.cb vs (S.rem L i) i a b))], [], []⟩ =
    (bc (ltI i ↑L) (bc (ltI i (0 : Int)) False (bc (ltI i ↑L) (bc (Nat.ble ((0 : Nat) + Int.toNat i * (1 : Nat) + (1 : Nat)) (lenL vs)) (bc (S.okI vs L (wrapK IntKind.i64 (i + (1 : Int)))) (K.LOk Try.prog 16 29 (inner (inner (blkOf 16 0))) [(0 : Nat), (4 : Nat), (5 : Nat), (6 : Nat)] [LV.slice (0 : Nat) (0 : Nat) L cp, LV.int IntKind.i64 (Int.tmod (wrapK IntKind.i64 (a + wrapK IntKind.i64 (intOf (K.atV vs ((0 : Nat) + Int.toNat i * (1 : Nat)))))) (255 : Int)), LV.int IntKind.i64 (Int.tmod (wrapK IntKind.i64 (b + Int.tmod (wrapK IntKind.i64 (a + wrapK IntKind.i64 (intOf (K.atV vs ((0 : Nat) + Int.toNat i * (1 : Nat)))))) (255 : Int))) (255 : Int)), LV.int IntKind.i64 (wrapK IntKind.i64 (i + (1 : Int)))] [LObj.flat [CK.i IntKind.u8] et w vs] { x := LX.exit (0 : Nat), L := [((4 : Nat), LV.int IntKind.i64 (S.ca vs (S.rem L (wrapK IntKind.i64 (i + (1 : Int)))) (wrapK IntKind.i64 (i + (1 : Int))) (Int.tmod (wrapK IntKind.i64 (a + wrapK IntKind.i64 (intOf (K.atV vs ((0 : Nat) + Int.toNat i * (1 : Nat)))))) (255 : Int)) (Int.tmod (wrapK IntKind.i64 (b + Int.tmod (wrapK IntKind.i64 (a + wrapK IntKind.i64 (intOf (K.atV vs ((0 : Nat) + Int.toNat i * (1 : Nat)))))) (255 : Int))) (255 : Int)))), ((5 : Nat), LV.int IntKind.i64 (S.cb vs (S.rem L (wrapK IntKind.i64 (i + (1 : Int)))) (wrapK IntKind.i64 (i + (1 : Int))) (Int.tmod (wrapK IntKind.i64 (a + wrapK IntKind.i64 (intOf (K.atV vs ((0 : Nat) + Int.toNat i * (1 : Nat)))))) (255 : Int)) (Int.tmod (wrapK IntKind.i64 (b + Int.tmod (wrapK IntKind.i64 (a + wrapK IntKind.i64 (intOf (K.atV vs ((0 : Nat) + Int.toNat i * (1 : Nat)))))) (255 : Int))) (255 : Int))))], ch := [], new := [] } ∧ (S.ca vs (S.rem L i) i a b = S.ca vs (S.rem L (wrapK IntKind.i64 (i + (1 : Int)))) (wrapK IntKind.i64 (i + (1 : Int))) (Int.tmod (wrapK IntKind.i64 (a + wrapK IntKind.i64 (intOf (K.atV vs ((0 : Nat) + Int.toNat i * (1 : Nat)))))) (255 : Int)) (Int.tmod (wrapK IntKind.i64 (b + Int.tmod (wrapK IntKind.i64 (a + wrapK IntKind.i64 (intOf (K.atV vs ((0 : Nat) + Int.toNat i * (1 : Nat)))))) (255 : Int))) (255 : Int)) ∧ (S.cb vs (S.rem L i) i a b = S.cb vs (S.rem L (wrapK IntKind.i64 (i + (1 : Int)))) (wrapK IntKind.i64 (i + (1 : Int))) (Int.tmod (wrapK IntKind.i64 (a + wrapK IntKind.i64 (intOf (K.atV vs ((0 : Nat) + Int.toNat i * (1 : Nat)))))) (255 : Int)) (Int.tmod (wrapK IntKind.i64 (b + Int.tmod (wrapK IntKind.i64 (a + wrapK IntKind.i64 (intOf (K.atV vs ((0 : Nat) + Int.toNat i * (1 : Nat)))))) (255 : Int))) (255 : Int)) ∧ True))) False) False) False)) (S.ca vs (S.rem L i) i a b = a ∧ (S.cb vs (S.rem L i) i a b = b ∧ True))) := by kernel_rfl
theorem rcR_con (L et : Nat) (cp : Cap) (w : Own) (vs : List LV) (a b i : Int) (h0 : L ≤ lenL vs) (h1 : L ≤ 1000000) (h2 : 0 ≤ i) (h3 : i ≤ L) (h4 : ∀ (a2 b2 : Int), i < L → K.LOk Try.prog 16 29 (inner (inner (blkOf 16 0))) [0, 4, 5, 6] [.slice 0 0 L cp, .int .i64 a2, .int .i64 b2, .int .i64 (i + 1)] [.flat [.i .u8] et w vs] ⟨.exit 0, [(4, .int .i64 (S.ca vs (S.rem L (i + 1)) (i + 1) a2 b2)), (5, .int .i64 (S.cb vs (S.rem L (i + 1)) (i + 1) a2 b2))], [], []⟩)  : GT Try.prog (fun k => .code (inner (inner (blkOf 16 0))) :: .inLoop (inner (inner (blkOf 16 0))) :: k) (Fr.ofL 16 29 [(0, .slice 0 0 L cp), (4, .int .i64 a), (5, .int .i64 b), (6, .int .i64 i)] [] none) (Heap.of [.flat [.i .u8] et w vs]) (⟨.exit 0, [(4, .int .i64 (S.ca vs (S.rem L i) i a b)), (5, .int .i64 (S.cb vs (S.rem L i) i a b))], [], []⟩ : K.BRes).x (Fr.ofL 16 29 (⟨.exit 0, [(4, .int .i64 (S.ca vs (S.rem L i) i a b)), (5, .int .i64 (S.cb vs (S.rem L i) i a b))], [], []⟩ : K.BRes).L [] none) (Heap.of (K.chg [.flat [.i .u8] et w vs] (⟨.exit 0, [(4, .int .i64 (S.ca vs (S.rem L i) i a b)), (5, .int .i64 (S.cb vs (S.rem L i) i a b))], [], []⟩ : K.BRes).ch ++ (⟨.exit 0, [(4, .int .i64 (S.ca vs (S.rem L i) i a b)), (5, .int .i64 (S.cb vs (S.rem L i) i a b))], [], []⟩ : K.BRes).new)) := by
  refine K.loop_of_run good (A := envL []) (envL_ok ?_) K.openE_ok (k := 30) (ent := rcLB) (cast (rcR_run L et cp w vs a b i).symm ?_)
  · intro p hp; cases hp
  · have w2 : wrapK .i64 (i + 1) = i + 1 := by rw [wrapK_i64]; omega
    have at2 : S.an true true = true := rfl
    by_cases hi : i < L
    · have e0 : ltI i 0 = false := ltI_false.2 h2
      have e1 : ltI i L = true := ltI_true.2 hi
      have b0 : (0 + i.toNat * 1 + 1).ble (lenL vs) = true := Nat.ble_eq_true_of_le (by omega)
      have okn : S.okI vs L (i + 1) = true := S.okI_iff.2 ⟨⟨h0, h1⟩, by omega, by omega⟩
      have jj : S.rem L i = S.rem L (i + 1) + 1 := by unfold S.rem; omega
      have r1 : S.ca vs (S.rem L i) i a b = S.ca vs (S.rem L (i + 1)) (i + 1) (S.ck1 vs i (a, b)).1 (S.ck1 vs i (a, b)).2 := by unfold S.ca; rw [jj]; rfl
      have r2 : S.cb vs (S.rem L i) i a b = S.cb vs (S.rem L (i + 1)) (i + 1) (S.ck1 vs i (a, b)).1 (S.ck1 vs i (a, b)).2 := by unfold S.cb; rw [jj]; rfl
      have ih := h4 (S.ck1 vs i (a, b)).1 (S.ck1 vs i (a, b)).2 hi
      simp only [w2, e0, e1, b0, okn, at2, S.eqI_self, r1, r2, bc_true, bc_false]
      refine ⟨ih, ?_⟩
      repeat' (first | exact rfl | exact trivial | constructor)
    · have e1 : ltI i L = false := ltI_false.2 (by omega)
      have z : S.rem L i = 0 := by unfold S.rem; omega
      have z1 : S.ca vs 0 i a b = a := rfl
      have z2 : S.cb vs 0 i a b = b := rfl
      simp only [e1, bc_false, z, z1, z2]
      repeat' (first | exact rfl | exact trivial | constructor)
theorem rc_lok (L et : Nat) (cp : Cap) (w : Own) (vs : List LV) (h0 : L ≤ lenL vs) (h1 : L ≤ 1000000) : ∀ (j : Nat) (a b i : Int), 0 ≤ i → i ≤ L → S.rem L i = j →
    K.LOk Try.prog 16 29 (inner (inner (blkOf 16 0))) [0, 4, 5, 6] [.slice 0 0 L cp, .int .i64 a, .int .i64 b, .int .i64 i] [.flat [.i .u8] et w vs] ⟨.exit 0, [(4, .int .i64 (S.ca vs (S.rem L i) i a b)), (5, .int .i64 (S.cb vs (S.rem L i) i a b))], [], []⟩ := by
  intro j
  induction j with
  | zero =>
    intro a b i h2 h3 hm
    unfold S.rem at hm
    exact rcR_con L et cp w vs a b i h0 h1 h2 h3 fun a2 b2 hk => by omega
  | succ j ih =>
    intro a b i h2 h3 hm
    unfold S.rem at hm
    exact rcR_con L et cp w vs a b i h0 h1 h2 h3 fun a2 b2 hk => ih a2 b2 (i + 1) (by omega) (by omega) (by unfold S.rem; omega)
theorem rc_blk (L et : Nat) (cp : Cap) (w : Own) (vs : List LV) (a b i : Int) (h0 : L ≤ lenL vs) (h1 : L ≤ 1000000) (h2 : 0 ≤ i) (h3 : i ≤ L) :
    K.BOk Try.prog 16 29 (blkOf 16 0) [0, 4, 5, 6] [.slice 0 0 L cp, .int .i64 a, .int .i64 b, .int .i64 i] [.flat [.i .u8] et w vs] ⟨.normal, [(4, .int .i64 (S.ca vs (S.rem L i) i a b)), (5, .int .i64 (S.cb vs (S.rem L i) i a b))], [], []⟩ := by
  have hb : blkOf 16 0 = .block 0 (.loop (inner (inner (blkOf 16 0)))) := by kernel_rfl
  unfold K.BOk
  rw [hb]
  exact K.CT.block (K.GT.loop (rc_lok L et cp w vs h0 h1 _ a b i h2 h3 rfl))
theorem chk_run (L et : Nat) (cp : Cap) (w : Own) (vs : List LV) : K.bodyF (envB [] (fun g id => bc (Nat.beq g 14) (bc (Nat.beq id 0) (some chB) (none)) (none))) (K.runF (envB [] (fun g id => bc (Nat.beq g 14) (bc (Nat.beq id 0) (some chB) (none)) (none))) 30) 14 [.slice 0 0 L cp] (Heap.of [.flat [.i .u8] et w vs]) Hint.auto (K.endC K.openE 1 ⟨.ret (.agg [.int .u8 (S.cA vs L), .int .u8 (S.cB vs L)]), [], []⟩) =
    (bc (S.an (eqI ↑L ↑L) (S.okI vs L (0 : Int))) (K.BOk Try.prog 14 28 (blkOf 14 0) [(2 : Nat), (3 : Nat), (4 : Nat), (7 : Nat), (8 : Nat), (9 : Nat)] [LV.ptr (0 : Nat) (0 : Nat), LV.int IntKind.i64 (0 : Int), LV.int IntKind.i64 (0 : Int), LV.slice (1 : Nat) (0 : Nat) L cp, LV.int IntKind.i64 ↑L, LV.int IntKind.i64 (0 : Int)] [LObj.cells (41 : Nat) Own.exact [LV.int IntKind.u8 (0 : Int), LV.int IntKind.u8 (0 : Int)], LObj.flat [CK.i IntKind.u8] et w vs] { x := LX.normal, L := [((2 : Nat), LV.ptr (0 : Nat) (0 : Nat)), ((3 : Nat), LV.int IntKind.i64 (S.ca vs (S.rem L (0 : Int)) (0 : Int) (0 : Int) (0 : Int))), ((4 : Nat), LV.int IntKind.i64 (S.cb vs (S.rem L (0 : Int)) (0 : Int) (0 : Int) (0 : Int)))], ch := [], new := [] } ∧ (S.cA vs L = wrapK IntKind.u8 (S.ca vs (S.rem L (0 : Int)) (0 : Int) (0 : Int) (0 : Int)) ∧ (S.cB vs L = wrapK IntKind.u8 (S.cb vs (S.rem L (0 : Int)) (0 : Int) (0 : Int) (0 : Int)) ∧ True))) False) := by kernel_rfl
theorem chk_con (L et : Nat) (cp : Cap) (w : Own) (vs : List LV) (h0 : S.okL vs L = true)  : HT Try.prog 14 [.slice 0 0 L cp] (Heap.of [.flat [.i .u8] et w vs]) (⟨.ret (.agg [.int .u8 (S.cA vs L), .int .u8 (S.cB vs L)]), [], []⟩ : K.CRes).e (Heap.of (K.chg [.flat [.i .u8] et w vs] (⟨.ret (.agg [.int .u8 (S.cA vs L), .int .u8 (S.cB vs L)]), [], []⟩ : K.CRes).ch ++ (⟨.ret (.agg [.int .u8 (S.cA vs L), .int .u8 (S.cB vs L)]), [], []⟩ : K.CRes).new)) := by
  refine K.con_of_run good (A := envB [] (fun g id => bc (Nat.beq g 14) (bc (Nat.beq id 0) (some chB) (none)) (none))) (envB_ok ?_) K.openE_ok (k := 30) (cast (chk_run L et cp w vs).symm ?_)
  · intro p hp; cases hp
  · obtain ⟨h1, h2⟩ := S.okL_iff.1 h0
    have at2 : S.an true true = true := rfl
    have ok := S.okI_iff.2 (show (L ≤ lenL vs ∧ L ≤ 1000000) ∧ 0 ≤ (0 : Int) ∧ (0 : Int) ≤ L from ⟨⟨h1, h2⟩, by omega, by omega⟩)
    have B := ch_blk L et cp w vs 0 0 0 h1 h2 (by omega) (by omega)
    have z : S.rem L 0 = L := by unfold S.rem; omega
    simp only [ok, at2, S.eqI_self, bc_true]
    refine ⟨B, ?_⟩
    rw [z]
    exact ⟨rfl, rfl, trivial⟩
theorem chk_ok : chkE.ok Try.prog 14 := by
  intro xs os b r h h3
  unfold chkE at h
  simp only at h
  split at h
  · injection h with h; injection h with h1 h2; subst h1; subst h2
    exact chk_con _ _ _ _ _ h3
  · cases h
theorem rchk_run (L et : Nat) (cp : Cap) (w : Own) (vs : List LV) : K.bodyF (envB [] (fun g id => bc (Nat.beq g 16) (bc (Nat.beq id 0) (some rcB) (none)) (none))) (K.runF (envB [] (fun g id => bc (Nat.beq g 16) (bc (Nat.beq id 0) (some rcB) (none)) (none))) 30) 16 [.slice 0 0 L cp] (Heap.of [.flat [.i .u8] et w vs]) Hint.auto (K.endC K.openE 1 ⟨.ret (.tup [.int .u8 (S.cA vs L), .int .u8 (S.cB vs L)]), [], []⟩) =
    (bc (S.okI vs L (0 : Int)) (K.BOk Try.prog 16 29 (blkOf 16 0) [(0 : Nat), (4 : Nat), (5 : Nat), (6 : Nat)] [LV.slice (0 : Nat) (0 : Nat) L cp, LV.int IntKind.i64 (0 : Int), LV.int IntKind.i64 (0 : Int), LV.int IntKind.i64 (0 : Int)] [LObj.flat [CK.i IntKind.u8] et w vs] { x := LX.normal, L := [((4 : Nat), LV.int IntKind.i64 (S.ca vs (S.rem L (0 : Int)) (0 : Int) (0 : Int) (0 : Int))), ((5 : Nat), LV.int IntKind.i64 (S.cb vs (S.rem L (0 : Int)) (0 : Int) (0 : Int) (0 : Int)))], ch := [], new := [] } ∧ (S.cA vs L = wrapK IntKind.u8 (S.ca vs (S.rem L (0 : Int)) (0 : Int) (0 : Int) (0 : Int)) ∧ (S.cB vs L = wrapK IntKind.u8 (S.cb vs (S.rem L (0 : Int)) (0 : Int) (0 : Int) (0 : Int)) ∧ True))) False) := by kernel_rfl
theorem rchk_con (L et : Nat) (cp : Cap) (w : Own) (vs : List LV) (h0 : S.okL vs L = true)  : HT Try.prog 16 [.slice 0 0 L cp] (Heap.of [.flat [.i .u8] et w vs]) (⟨.ret (.tup [.int .u8 (S.cA vs L), .int .u8 (S.cB vs L)]), [], []⟩ : K.CRes).e (Heap.of (K.chg [.flat [.i .u8] et w vs] (⟨.ret (.tup [.int .u8 (S.cA vs L), .int .u8 (S.cB vs L)]), [], []⟩ : K.CRes).ch ++ (⟨.ret (.tup [.int .u8 (S.cA vs L), .int .u8 (S.cB vs L)]), [], []⟩ : K.CRes).new)) := by
  refine K.con_of_run good (A := envB [] (fun g id => bc (Nat.beq g 16) (bc (Nat.beq id 0) (some rcB) (none)) (none))) (envB_ok ?_) K.openE_ok (k := 30) (cast (rchk_run L et cp w vs).symm ?_)
  · intro p hp; cases hp
  · obtain ⟨h1, h2⟩ := S.okL_iff.1 h0
    have at2 : S.an true true = true := rfl
    have ok := S.okI_iff.2 (show (L ≤ lenL vs ∧ L ≤ 1000000) ∧ 0 ≤ (0 : Int) ∧ (0 : Int) ≤ L from ⟨⟨h1, h2⟩, by omega, by omega⟩)
    have B := rc_blk L et cp w vs 0 0 0 h1 h2 (by omega) (by omega)
    have z : S.rem L 0 = L := by unfold S.rem; omega
    simp only [ok, bc_true]
    refine ⟨B, ?_⟩
    rw [z]
    exact ⟨rfl, rfl, trivial⟩
theorem rchk_ok : rchkE.ok Try.prog 16 := by
  intro xs os b r h h3
  unfold rchkE at h
  simp only at h
  split at h
  · injection h with h; injection h with h1 h2; subst h1; subst h2
    exact rchk_con _ _ _ _ _ h3
  · cases h
end Go.Proofs.Ytogngajglbgjmaa.Ev
