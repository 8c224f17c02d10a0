/- Contracts, proved: Fsm. -/
import Derived.Test.YtogngajglbgjmaaFsmD
import Derived.Test.YtogngajglbgjmaaFnuP
namespace Go.Proofs.Ytogngajglbgjmaa.Ev
open Go
set_option linter.unusedVariables false
set_option linter.unusedSimpArgs false
set_option maxRecDepth 100000
set_option maxHeartbeats 1000000
namespace S
theorem smI_iff {vs us : List LV} {W : Nat} {i : Int} : smI vs us W i = true ↔ (lenL vs = W ∧ lenL us = W) ∧ W ≤ 1000000 ∧ 0 ≤ i ∧ i ≤ W := by
  have e : ∀ a b : Nat, Nat.beq a b = true ↔ a = b := fun a b => ⟨Nat.eq_of_beq_eq_true, fun h => by rw [h]; exact Nat.beq_refl _⟩
  have l : ∀ a b : Nat, Nat.ble a b = true ↔ a ≤ b := fun a b => ⟨Nat.le_of_ble_eq_true, Nat.ble_eq_true_of_le⟩
  unfold smI; rw [an_iff, an_iff, an_iff, an_iff, e, e, l, notB_true, notB_true, ltI_false, ltI_false]
theorem smR_self (vs : List LV) : ∀ (j : Nat) (i : Int), smR vs vs j i = true
  | 0, i => rfl
  | j + 1, i => by
    show an (eqI (v1 vs i) (v1 vs i)) (smR vs vs j (i + 1)) = true
    rw [an_iff]; exact ⟨eqI_self _, smR_self vs j (i + 1)⟩
end S
theorem smR_run (W et et2 : Nat) (cp cq : Cap) (w w2 : Own) (vs us : List LV) (i : Int) : K.RunL (envL []) K.openE 30 12 26 (inner (inner (blkOf 12 0))) smLB [(0, .slice 0 0 W cp), (1, .slice 1 0 W cq), (5, .int .i64 i)] [.flat [.i .i64] et w vs, .flat [.i .i64] et2 w2 us] (.skip 0 (.fork (.skip 0 (.fork .auto (.skip 1 (.take false .auto)))) .auto)) ⟨.exit 0, [], [], []⟩ =
    (bc (ltI i ↑W) (bc (ltI i (0 : Int)) False (bc (ltI i ↑W) (bc (Nat.ble ((0 : Nat) + Int.toNat i * (1 : Nat) + (1 : Nat)) (lenL vs)) (ltI i (0 : Int) = false ∧ bc (ltI i ↑W) (bc (Nat.ble ((0 : Nat) + Int.toNat i * (1 : Nat) + (1 : Nat)) (lenL us)) (bc (notB (eqI (intOf (K.atV vs ((0 : Nat) + Int.toNat i * (1 : Nat)))) (intOf (K.atV us ((0 : Nat) + Int.toNat i * (1 : Nat)))))) False (bc (S.an (Nat.beq W W) (S.smG vs us W (wrapK IntKind.i64 (i + (1 : Int))))) (K.LOk Try.prog 12 26 (inner (inner (blkOf 12 0))) [(0 : Nat), (1 : Nat), (5 : Nat)] [LV.slice (0 : Nat) (0 : Nat) W cp, LV.slice (1 : Nat) (0 : Nat) W cq, LV.int IntKind.i64 (wrapK IntKind.i64 (i + (1 : Int)))] [LObj.flat [CK.i IntKind.i64] et w vs, LObj.flat [CK.i IntKind.i64] et2 w2 us] { x := LX.exit (0 : Nat), L := [], ch := [], new := [] } ∧ True) False)) False) False) False) False)) True) := by kernel_rfl
theorem smR_con (W et et2 : Nat) (cp cq : Cap) (w w2 : Own) (vs us : List LV) (i : Int) (hG : S.smG vs us W i = true) (IH : i < W → S.smG vs us W (i + 1) = true → K.LOk Try.prog 12 26 (inner (inner (blkOf 12 0))) [0, 1, 5] [.slice 0 0 W cp, .slice 1 0 W cq, .int .i64 (i + 1)] [.flat [.i .i64] et w vs, .flat [.i .i64] et2 w2 us] ⟨.exit 0, [], [], []⟩) : GT Try.prog (fun k => .code (inner (inner (blkOf 12 0))) :: .inLoop (inner (inner (blkOf 12 0))) :: k) (Fr.ofL 12 26 [(0, .slice 0 0 W cp), (1, .slice 1 0 W cq), (5, .int .i64 i)] [] none) (Heap.of [.flat [.i .i64] et w vs, .flat [.i .i64] et2 w2 us]) (⟨.exit 0, [], [], []⟩ : K.BRes).x (Fr.ofL 12 26 (⟨.exit 0, [], [], []⟩ : K.BRes).L [] none) (Heap.of (K.chg [.flat [.i .i64] et w vs, .flat [.i .i64] et2 w2 us] (⟨.exit 0, [], [], []⟩ : K.BRes).ch ++ (⟨.exit 0, [], [], []⟩ : K.BRes).new)) := by
  refine K.loop_of_run good (A := envL []) (envL_ok ?_) K.openE_ok (k := 30) (ent := smLB) (cast (smR_run W et et2 cp cq w w2 vs us i).symm ?_)
  · intro p hp; cases hp
  · obtain ⟨hI, hR⟩ := S.an_iff.1 hG
    obtain ⟨⟨h1, h2⟩, h3, h4, h5⟩ := S.smI_iff.1 hI
    have w1 : wrapK .i64 (i + 1) = i + 1 := by rw [wrapK_i64]; omega
    have at2 : S.an true true = true := rfl
    have bs : Nat.beq W W = true := Nat.beq_refl W
    by_cases hi : i < W
    · have e0 : ltI i 0 = false := ltI_false.2 h4
      have e1 : ltI i W = true := ltI_true.2 hi
      have b0 : (0 + i.toNat * 1 + 1).ble (lenL vs) = true := Nat.ble_eq_true_of_le (by omega)
      have b1 : (0 + i.toNat * 1 + 1).ble (lenL us) = true := Nat.ble_eq_true_of_le (by omega)
      have jj : S.sj W i = S.sj W (i + 1) + 1 := by unfold S.sj; omega
      have hS : S.an (eqI (S.v1 vs i) (S.v1 us i)) (S.smR vs us (S.sj W (i + 1)) (i + 1)) = true := by rw [jj] at hR; exact hR
      obtain ⟨q1, q2⟩ := S.an_iff.1 hS
      have q1 : eqI (intOf (K.atV vs (0 + i.toNat * 1))) (intOf (K.atV us (0 + i.toNat * 1))) = true := q1
      have ok : S.smG vs us W (i + 1) = true := S.an_iff.2 ⟨S.smI_iff.2 ⟨⟨h1, h2⟩, h3, by omega, by omega⟩, q2⟩
      have ih := IH hi ok
      simp only [w1, e0, e1, b0, b1, q1, ok, bs, at2, notB_t, notB_f, bc_true, bc_false, true_and, and_true]
      exact ih
    · have e1 : ltI i W = false := ltI_false.2 (by omega)
      simp only [e1, bc_false]
theorem sm_lok (W et et2 : Nat) (cp cq : Cap) (w w2 : Own) (vs us : List LV) : ∀ (j : Nat) (i : Int), S.smG vs us W i = true → S.sj W i = j → K.LOk Try.prog 12 26 (inner (inner (blkOf 12 0))) [0, 1, 5] [.slice 0 0 W cp, .slice 1 0 W cq, .int .i64 i] [.flat [.i .i64] et w vs, .flat [.i .i64] et2 w2 us] ⟨.exit 0, [], [], []⟩ := by
  intro j
  induction j with
  | zero =>
    intro i hG hj
    exact smR_con W et et2 cp cq w w2 vs us i hG fun hi _ => by unfold S.sj at hj; omega
  | succ j ih =>
    intro i hG hj
    exact smR_con W et et2 cp cq w w2 vs us i hG fun hi h => ih (i + 1) h (by unfold S.sj at hj ⊢; omega)
theorem sm_blk (W et et2 : Nat) (cp cq : Cap) (w w2 : Own) (vs us : List LV) (i : Int) (hG : S.smG vs us W i = true) : K.BOk Try.prog 12 26 (blkOf 12 0) [0, 1, 5] [.slice 0 0 W cp, .slice 1 0 W cq, .int .i64 i] [.flat [.i .i64] et w vs, .flat [.i .i64] et2 w2 us] ⟨.normal, [], [], []⟩ := by
  have hb : blkOf 12 0 = .block 0 (.loop (inner (inner (blkOf 12 0)))) := by kernel_rfl
  unfold K.BOk
  rw [hb]
  exact K.CT.block (K.GT.loop (sm_lok W et et2 cp cq w w2 vs us _ i hG rfl))
theorem same_run (W et et2 : Nat) (cp cq : Cap) (w w2 : Own) (vs us : List LV) : K.bodyF (envB [] (fun g id => bc (Nat.beq g 12) (bc (Nat.beq id 0) (some smB) (none)) (none))) (K.runF (envB [] (fun g id => bc (Nat.beq g 12) (bc (Nat.beq id 0) (some smB) (none)) (none))) 30) 12 [.slice 0 0 W cp, .slice 1 0 W cq] (Heap.of [.flat [.i .i64] et w vs, .flat [.i .i64] et2 w2 us]) Hint.auto (K.endC K.openE 2 ⟨.ret (.bool true), [], []⟩) =
    (bc (notB (eqI ↑W ↑W)) (true = false ∧ True) (bc (S.an (Nat.beq W W) (S.smG vs us W (0 : Int))) (K.BOk Try.prog 12 26 (blkOf 12 0) [(0 : Nat), (1 : Nat), (5 : Nat)] [LV.slice (0 : Nat) (0 : Nat) W cp, LV.slice (1 : Nat) (0 : Nat) W cq, LV.int IntKind.i64 (0 : Int)] [LObj.flat [CK.i IntKind.i64] et w vs, LObj.flat [CK.i IntKind.i64] et2 w2 us] { x := LX.normal, L := [], ch := [], new := [] } ∧ (true = true ∧ True)) False)) := by kernel_rfl
theorem same_con (W et et2 : Nat) (cp cq : Cap) (w w2 : Own) (vs us : List LV) (h0 : S.smG vs us W 0 = true) : HT Try.prog 12 [.slice 0 0 W cp, .slice 1 0 W cq] (Heap.of [.flat [.i .i64] et w vs, .flat [.i .i64] et2 w2 us]) (⟨.ret (.bool true), [], []⟩ : K.CRes).e (Heap.of (K.chg [.flat [.i .i64] et w vs, .flat [.i .i64] et2 w2 us] (⟨.ret (.bool true), [], []⟩ : K.CRes).ch ++ (⟨.ret (.bool true), [], []⟩ : K.CRes).new)) := by
  refine K.con_of_run good (A := envB [] (fun g id => bc (Nat.beq g 12) (bc (Nat.beq id 0) (some smB) (none)) (none))) (envB_ok ?_) K.openE_ok (k := 30) (cast (same_run W et et2 cp cq w w2 vs us).symm ?_)
  · intro p hp; cases hp
  · have at2 : S.an true true = true := rfl
    have bs : Nat.beq W W = true := Nat.beq_refl W
    have B := sm_blk W et et2 cp cq w w2 vs us 0 h0
    simp only [S.eqI_self, h0, bs, at2, notB_t, bc_true, bc_false]
    exact ⟨B, by simp⟩
theorem sameX_k (W W2 et et2 : Nat) (cp cq : Cap) (w w2 : Own) (vs us : List LV) (h : S.an (Nat.beq W W2) (S.smG vs us W 0) = true) : HT Try.prog 12 [.slice 0 0 W cp, .slice 1 0 W2 cq] (Heap.of [.flat [.i .i64] et w vs, .flat [.i .i64] et2 w2 us]) (.ret (.bool true)) (Heap.of [.flat [.i .i64] et w vs, .flat [.i .i64] et2 w2 us]) := by
  obtain ⟨h1, h2⟩ := S.an_iff.1 h
  have h1 := Nat.eq_of_beq_eq_true h1
  subst h1
  exact same_con W et et2 cp cq w w2 vs us h2
theorem sameX_ok : sameXE.ok Try.prog 12 := by
  intro xs os b r h h3
  unfold sameXE at h
  simp only at h
  split at h
  · injection h with h; injection h with h1 h2; subst h1; subst h2
    exact sameX_k _ _ _ _ _ _ _ _ _ _ h3
  · cases h
end Go.Proofs.Ytogngajglbgjmaa.Ev
