/- Contracts, proved: Lcm. -/
import Derived.Test.YtmnpnomllcghmaaLcmD
import Derived.Test.YtmnpnomllcghmaaPlcP
import Derived.Test.YtmnpnomllcghmaaLccP
namespace Go.Proofs.Ytmnpnomllcghmaa.Ev
open Go
set_option linter.unusedVariables false
set_option linter.unusedSimpArgs false
set_option maxRecDepth 100000
namespace S
theorem cc_at' {s n a : Int} (h2 : n ≤ 63) (h3 : 0 ≤ a) (h4 : a < n) : an (inR s n) (eqI (st a) (st s)) = eqI s a := by
  rw [Bool.eq_iff_iff, an_iff, inR_iff, eqI_true, eqI_true]
  constructor
  · rintro ⟨⟨h5, h6⟩, h7⟩
    exact (st_inj h3 (by omega) h5 (by omega) h7).symm
  · rintro rfl; exact ⟨⟨h3, h4⟩, rfl⟩
theorem okM0_iff {n m i t : Int} (h : okM0 n m i t = true) : m = n ∧ 1 ≤ n ∧ n ≤ 63 ∧ 0 ≤ i ∧ i < n ∧ t = st i := by
  unfold okM0 at h
  simp only [an_iff, inR_iff, eqI_true] at h
  obtain ⟨⟨⟨h1, h2⟩, h3, h4⟩, h5, h6⟩ := h
  exact ⟨h5, by omega, by omega, h3, h4, h6⟩
theorem okM2_iff {n m m2 i t : Int} (h : okM2 n m m2 i t = true) : m = n ∧ m2 = n ∧ 1 ≤ n ∧ n ≤ 63 ∧ ∃ i, 0 ≤ i ∧ i < n ∧ t = st i ∧ ix t = i := by
  unfold okM2 at h
  simp only [an_iff, inR_iff, eqI_true] at h
  obtain ⟨⟨⟨h1, h2⟩, h0⟩, ⟨h3, h4⟩, h5, h6⟩ := h
  obtain ⟨j, hj0, hj1, hj⟩ := isSt_ex h0
  subst hj
  rw [ix_st hj0 hj1] at h3 h4
  exact ⟨h5, h6, by omega, by omega, j, h3, h4, rfl, ix_st hj0 hj1⟩
end S
theorem m0R_run (n i l k : Int) : K.RunB (envL [(26, cAtE), (22, cSetE), (25, cMarkE)]) K.openE 30 5 88 (inner (inner (blkOf 5 0))) [(0, .int .i64 n), (1, .int .i64 i), (5, .ptr 0 0), (6, .int .i64 k)] [.cells 93 .exact [.ptr 1 0, .int .u8 l, .int .i64 n], .cells 110 .exact [.int .u8 (S.st i), .int .i64 6, .int .i64 1]] Hint.auto ⟨.normal, [(0, .int .i64 n), (1, .int .i64 i), (5, .ptr 0 0), (6, .int .i64 (k + 1))], [], []⟩ =
    (bc (ltI k n) (bc (ltI k (64 : Int)) (bc (ltI n (64 : Int)) (bc (!S.an (S.inR k n) (eqI (S.st i) (S.st k)) == eqI k i) False (n = n ∧ (i = i ∧ ((0 : Nat) = (0 : Nat) ∧ (k + (1 : Int) = wrapK IntKind.i64 (k + (1 : Int)) ∧ True))))) False) False) False) := by kernel_rfl
theorem m0R_con (n i l k : Int) (h0 : 1 ≤ n) (h1 : n ≤ 63) (h2 : 0 ≤ i) (h3 : i < n) (h4 : 0 ≤ k) (h5 : k < n) : CT Try.prog (inner (inner (blkOf 5 0))) (Fr.ofL 5 88 [(0, .int .i64 n), (1, .int .i64 i), (5, .ptr 0 0), (6, .int .i64 k)] [] none) (Heap.of [.cells 93 .exact [.ptr 1 0, .int .u8 l, .int .i64 n], .cells 110 .exact [.int .u8 (S.st i), .int .i64 6, .int .i64 1]]) (⟨.normal, [(0, .int .i64 n), (1, .int .i64 i), (5, .ptr 0 0), (6, .int .i64 (k + 1))], [], []⟩ : K.BRes).x (Fr.ofL 5 88 (⟨.normal, [(0, .int .i64 n), (1, .int .i64 i), (5, .ptr 0 0), (6, .int .i64 (k + 1))], [], []⟩ : K.BRes).L [] none) (Heap.of (K.chg [.cells 93 .exact [.ptr 1 0, .int .u8 l, .int .i64 n], .cells 110 .exact [.int .u8 (S.st i), .int .i64 6, .int .i64 1]] (⟨.normal, [(0, .int .i64 n), (1, .int .i64 i), (5, .ptr 0 0), (6, .int .i64 (k + 1))], [], []⟩ : K.BRes).ch ++ (⟨.normal, [(0, .int .i64 n), (1, .int .i64 i), (5, .ptr 0 0), (6, .int .i64 (k + 1))], [], []⟩ : K.BRes).new)) := by
  refine K.code_of_run good (A := envL [(26, cAtE), (22, cSetE), (25, cMarkE)]) (envL_ok ?_) K.openE_ok (k := 30) (cast (m0R_run n i l k).symm ?_)
  · intro p hp; simp only [List.mem_cons, List.not_mem_nil, or_false] at hp; rcases hp with rfl | rfl | rfl <;> first | exact cAt_ok | exact cSet_ok | exact cMark_ok
  · have w : wrapK .i64 (k + 1) = k + 1 := by rw [wrapK_i64]; omega
    have e := S.cc_at' (s := k) h1 h2 h3
    rw [w, ltI_true.2 h5, ltI_true.2 (show k < 64 by omega), ltI_true.2 (show n < 64 by omega), e]
    simp [notB]
theorem m0X_run (n i l : Int) : K.RunB (envL [(26, cAtE), (22, cSetE), (25, cMarkE)]) K.openE 30 5 88 (inner (inner (blkOf 5 0))) [(0, .int .i64 n), (1, .int .i64 i), (5, .ptr 0 0), (6, .int .i64 n)] [.cells 93 .exact [.ptr 1 0, .int .u8 l, .int .i64 n], .cells 110 .exact [.int .u8 (S.st i), .int .i64 6, .int .i64 1]] Hint.auto ⟨.exit 0, [(0, .int .i64 n), (1, .int .i64 i), (5, .ptr 0 0), (6, .int .i64 n)], [], []⟩ =
    (bc (ltI n n) (bc (ltI n (64 : Int)) (bc (ltI n (64 : Int)) (bc (!S.an (S.inR n n) (eqI (S.st i) (S.st n)) == eqI n i) False False) False) (n = n ∧ (i = i ∧ ((0 : Nat) = (0 : Nat) ∧ (n = n ∧ True))))) (n = n ∧ (i = i ∧ ((0 : Nat) = (0 : Nat) ∧ (n = n ∧ True))))) := by kernel_rfl
theorem m0X_con (n i l : Int) (h0 : 1 ≤ n) (h1 : n ≤ 63) : CT Try.prog (inner (inner (blkOf 5 0))) (Fr.ofL 5 88 [(0, .int .i64 n), (1, .int .i64 i), (5, .ptr 0 0), (6, .int .i64 n)] [] none) (Heap.of [.cells 93 .exact [.ptr 1 0, .int .u8 l, .int .i64 n], .cells 110 .exact [.int .u8 (S.st i), .int .i64 6, .int .i64 1]]) (⟨.exit 0, [(0, .int .i64 n), (1, .int .i64 i), (5, .ptr 0 0), (6, .int .i64 n)], [], []⟩ : K.BRes).x (Fr.ofL 5 88 (⟨.exit 0, [(0, .int .i64 n), (1, .int .i64 i), (5, .ptr 0 0), (6, .int .i64 n)], [], []⟩ : K.BRes).L [] none) (Heap.of (K.chg [.cells 93 .exact [.ptr 1 0, .int .u8 l, .int .i64 n], .cells 110 .exact [.int .u8 (S.st i), .int .i64 6, .int .i64 1]] (⟨.exit 0, [(0, .int .i64 n), (1, .int .i64 i), (5, .ptr 0 0), (6, .int .i64 n)], [], []⟩ : K.BRes).ch ++ (⟨.exit 0, [(0, .int .i64 n), (1, .int .i64 i), (5, .ptr 0 0), (6, .int .i64 n)], [], []⟩ : K.BRes).new)) := by
  refine K.code_of_run good (A := envL [(26, cAtE), (22, cSetE), (25, cMarkE)]) (envL_ok ?_) K.openE_ok (k := 30) (cast (m0X_run n i l).symm ?_)
  · intro p hp; simp only [List.mem_cons, List.not_mem_nil, or_false] at hp; rcases hp with rfl | rfl | rfl <;> first | exact cAt_ok | exact cSet_ok | exact cMark_ok
  · rw [ltI_false.2 (Int.le_refl n)]
    simp
theorem m2R_run (n i l l2 k : Int) : K.RunB (envL [(26, cAtE), (22, cSetE), (25, cMarkE)]) K.openE 30 5 88 (inner (inner (blkOf 5 2))) [(0, .int .i64 n), (5, .ptr 0 0), (7, .ptr 2 0), (8, .int .i64 (S.m2sm i k)), (9, .int .i64 k)] [.cells 93 .exact [.ptr 1 0, .int .u8 l, .int .i64 n], .cells 110 .exact [.int .u8 (S.st i), .int .i64 6, .int .i64 1], .cells 93 .exact [.ptr 3 0, .int .u8 l2, .int .i64 n], .cells 110 .exact [.int .u8 (S.m2st k), .int .i64 6, .int .i64 1]] Hint.auto ⟨.normal, [(0, .int .i64 n), (5, .ptr 0 0), (7, .ptr 2 0), (8, .int .i64 (S.m2sm i (k + 1))), (9, .int .i64 (k + 1))], [(3, .cells 110 .exact [.int .u8 (S.m2st (k + 1)), .int .i64 6, .int .i64 1])], []⟩ =
    (bc (ltI k n) (bc (ltI k (64 : Int)) (bc (ltI n (64 : Int)) (bc (eqI (bc (S.inR k n) (0 : Int) (6 : Int)) (0 : Int)) (bc (eqI (bc (S.inR k n) (S.st k) (S.m2st k)) (S.st i)) (n = n ∧ ((0 : Nat) = (0 : Nat) ∧ ((0 : Nat) = (0 : Nat) ∧ (S.m2sm i (k + (1 : Int)) = wrapK IntKind.i64 (S.m2sm i k + (1 : Int)) ∧ (k + (1 : Int) = wrapK IntKind.i64 (k + (1 : Int)) ∧ (S.m2st (k + (1 : Int)) = bc (S.inR k n) (S.st k) (S.m2st k) ∧ ((6 : Int) = (6 : Int) ∧ ((1 : Int) = (1 : Int) ∧ True)))))))) (n = n ∧ ((0 : Nat) = (0 : Nat) ∧ ((0 : Nat) = (0 : Nat) ∧ (S.m2sm i (k + (1 : Int)) = S.m2sm i k ∧ (k + (1 : Int) = wrapK IntKind.i64 (k + (1 : Int)) ∧ (S.m2st (k + (1 : Int)) = bc (S.inR k n) (S.st k) (S.m2st k) ∧ ((6 : Int) = (6 : Int) ∧ ((1 : Int) = (1 : Int) ∧ True))))))))) (n = n ∧ ((0 : Nat) = (0 : Nat) ∧ ((0 : Nat) = (0 : Nat) ∧ (S.m2sm i (k + (1 : Int)) = S.m2sm i k ∧ (k + (1 : Int) = wrapK IntKind.i64 (k + (1 : Int)) ∧ (S.m2st (k + (1 : Int)) = bc (S.inR k n) (S.st k) (S.m2st k) ∧ ((6 : Int) = (6 : Int) ∧ ((1 : Int) = (1 : Int) ∧ True))))))))) False) False) False) := by kernel_rfl
theorem m2R_con (n i l l2 k : Int) (h0 : 1 ≤ n) (h1 : n ≤ 63) (h2 : 0 ≤ i) (h3 : i < n) (h4 : 0 ≤ k) (h5 : k < n) : CT Try.prog (inner (inner (blkOf 5 2))) (Fr.ofL 5 88 [(0, .int .i64 n), (5, .ptr 0 0), (7, .ptr 2 0), (8, .int .i64 (S.m2sm i k)), (9, .int .i64 k)] [] none) (Heap.of [.cells 93 .exact [.ptr 1 0, .int .u8 l, .int .i64 n], .cells 110 .exact [.int .u8 (S.st i), .int .i64 6, .int .i64 1], .cells 93 .exact [.ptr 3 0, .int .u8 l2, .int .i64 n], .cells 110 .exact [.int .u8 (S.m2st k), .int .i64 6, .int .i64 1]]) (⟨.normal, [(0, .int .i64 n), (5, .ptr 0 0), (7, .ptr 2 0), (8, .int .i64 (S.m2sm i (k + 1))), (9, .int .i64 (k + 1))], [(3, .cells 110 .exact [.int .u8 (S.m2st (k + 1)), .int .i64 6, .int .i64 1])], []⟩ : K.BRes).x (Fr.ofL 5 88 (⟨.normal, [(0, .int .i64 n), (5, .ptr 0 0), (7, .ptr 2 0), (8, .int .i64 (S.m2sm i (k + 1))), (9, .int .i64 (k + 1))], [(3, .cells 110 .exact [.int .u8 (S.m2st (k + 1)), .int .i64 6, .int .i64 1])], []⟩ : K.BRes).L [] none) (Heap.of (K.chg [.cells 93 .exact [.ptr 1 0, .int .u8 l, .int .i64 n], .cells 110 .exact [.int .u8 (S.st i), .int .i64 6, .int .i64 1], .cells 93 .exact [.ptr 3 0, .int .u8 l2, .int .i64 n], .cells 110 .exact [.int .u8 (S.m2st k), .int .i64 6, .int .i64 1]] (⟨.normal, [(0, .int .i64 n), (5, .ptr 0 0), (7, .ptr 2 0), (8, .int .i64 (S.m2sm i (k + 1))), (9, .int .i64 (k + 1))], [(3, .cells 110 .exact [.int .u8 (S.m2st (k + 1)), .int .i64 6, .int .i64 1])], []⟩ : K.BRes).ch ++ (⟨.normal, [(0, .int .i64 n), (5, .ptr 0 0), (7, .ptr 2 0), (8, .int .i64 (S.m2sm i (k + 1))), (9, .int .i64 (k + 1))], [(3, .cells 110 .exact [.int .u8 (S.m2st (k + 1)), .int .i64 6, .int .i64 1])], []⟩ : K.BRes).new)) := by
  refine K.code_of_run good (A := envL [(26, cAtE), (22, cSetE), (25, cMarkE)]) (envL_ok ?_) K.openE_ok (k := 30) (cast (m2R_run n i l l2 k).symm ?_)
  · intro p hp; simp only [List.mem_cons, List.not_mem_nil, or_false] at hp; rcases hp with rfl | rfl | rfl <;> first | exact cAt_ok | exact cSet_ok | exact cMark_ok
  · have w : wrapK .i64 (k + 1) = k + 1 := by rw [wrapK_i64]; omega
    have e1 : S.inR k n = true := S.inR_iff.2 ⟨h4, h5⟩
    have e2 : S.m2st (k + 1) = S.st k := by
      unfold S.m2st
      rw [eqI_false.2 (show k + 1 ≠ 0 by omega), bc_false, show k + 1 - 1 = k by omega]
    rw [w, ltI_true.2 h5, ltI_true.2 (show k < 64 by omega), ltI_true.2 (show n < 64 by omega), e1, e2]
    by_cases hk : k = i
    · subst hk
      have e3 : S.m2sm k k = 0 := by unfold S.m2sm; rw [ltI_false.2 (Int.le_refl k)]; rfl
      have e4 : S.m2sm k (k + 1) = 1 := by unfold S.m2sm; rw [ltI_true.2 (show k < k + 1 by omega)]; rfl
      have e5 : wrapK .i64 (0 + 1) = 1 := rfl
      rw [e3, e4, e5]
      simp [S.eqI_self]
    · have e3 : eqI (S.st k) (S.st i) = false := eqI_false.2 fun e => hk (S.st_inj h4 (by omega) h2 (by omega) e)
      have e4 : S.m2sm i (k + 1) = S.m2sm i k := by
        unfold S.m2sm
        by_cases h6 : i < k
        · rw [ltI_true.2 h6, ltI_true.2 (show i < k + 1 by omega)]
        · rw [ltI_false.2 (show k ≤ i by omega), ltI_false.2 (show k + 1 ≤ i by omega)]
      simp [S.eqI_self, e3, e4]
theorem m2X_run (n i l l2 : Int) : K.RunB (envL [(26, cAtE), (22, cSetE), (25, cMarkE)]) K.openE 30 5 88 (inner (inner (blkOf 5 2))) [(0, .int .i64 n), (5, .ptr 0 0), (7, .ptr 2 0), (8, .int .i64 (S.m2sm i n)), (9, .int .i64 n)] [.cells 93 .exact [.ptr 1 0, .int .u8 l, .int .i64 n], .cells 110 .exact [.int .u8 (S.st i), .int .i64 6, .int .i64 1], .cells 93 .exact [.ptr 3 0, .int .u8 l2, .int .i64 n], .cells 110 .exact [.int .u8 (S.m2st n), .int .i64 6, .int .i64 1]] Hint.auto ⟨.exit 2, [(0, .int .i64 n), (5, .ptr 0 0), (7, .ptr 2 0), (8, .int .i64 1), (9, .int .i64 n)], [], []⟩ =
    (bc (ltI n n) (bc (ltI n (64 : Int)) (bc (ltI n (64 : Int)) (bc (eqI (bc (S.inR n n) (0 : Int) (6 : Int)) (0 : Int)) (bc (eqI (bc (S.inR n n) (S.st n) (S.m2st n)) (S.st i)) False False) False) False) (n = n ∧ ((0 : Nat) = (0 : Nat) ∧ ((0 : Nat) = (0 : Nat) ∧ ((1 : Int) = S.m2sm i n ∧ (n = n ∧ True)))))) (n = n ∧ ((0 : Nat) = (0 : Nat) ∧ ((0 : Nat) = (0 : Nat) ∧ ((1 : Int) = S.m2sm i n ∧ (n = n ∧ True)))))) := by kernel_rfl
theorem m2X_con (n i l l2 : Int) (h0 : 1 ≤ n) (h1 : n ≤ 63) (h2 : 0 ≤ i) (h3 : i < n) : CT Try.prog (inner (inner (blkOf 5 2))) (Fr.ofL 5 88 [(0, .int .i64 n), (5, .ptr 0 0), (7, .ptr 2 0), (8, .int .i64 (S.m2sm i n)), (9, .int .i64 n)] [] none) (Heap.of [.cells 93 .exact [.ptr 1 0, .int .u8 l, .int .i64 n], .cells 110 .exact [.int .u8 (S.st i), .int .i64 6, .int .i64 1], .cells 93 .exact [.ptr 3 0, .int .u8 l2, .int .i64 n], .cells 110 .exact [.int .u8 (S.m2st n), .int .i64 6, .int .i64 1]]) (⟨.exit 2, [(0, .int .i64 n), (5, .ptr 0 0), (7, .ptr 2 0), (8, .int .i64 1), (9, .int .i64 n)], [], []⟩ : K.BRes).x (Fr.ofL 5 88 (⟨.exit 2, [(0, .int .i64 n), (5, .ptr 0 0), (7, .ptr 2 0), (8, .int .i64 1), (9, .int .i64 n)], [], []⟩ : K.BRes).L [] none) (Heap.of (K.chg [.cells 93 .exact [.ptr 1 0, .int .u8 l, .int .i64 n], .cells 110 .exact [.int .u8 (S.st i), .int .i64 6, .int .i64 1], .cells 93 .exact [.ptr 3 0, .int .u8 l2, .int .i64 n], .cells 110 .exact [.int .u8 (S.m2st n), .int .i64 6, .int .i64 1]] (⟨.exit 2, [(0, .int .i64 n), (5, .ptr 0 0), (7, .ptr 2 0), (8, .int .i64 1), (9, .int .i64 n)], [], []⟩ : K.BRes).ch ++ (⟨.exit 2, [(0, .int .i64 n), (5, .ptr 0 0), (7, .ptr 2 0), (8, .int .i64 1), (9, .int .i64 n)], [], []⟩ : K.BRes).new)) := by
  refine K.code_of_run good (A := envL [(26, cAtE), (22, cSetE), (25, cMarkE)]) (envL_ok ?_) K.openE_ok (k := 30) (cast (m2X_run n i l l2).symm ?_)
  · intro p hp; simp only [List.mem_cons, List.not_mem_nil, or_false] at hp; rcases hp with rfl | rfl | rfl <;> first | exact cAt_ok | exact cSet_ok | exact cMark_ok
  · have e : S.m2sm i n = 1 := by unfold S.m2sm; rw [ltI_true.2 h3]; rfl
    rw [ltI_false.2 (Int.le_refl n), e]
    simp
theorem m0_blk (n m i l t : Int) (h : S.okM0 n m i t = true) : K.BOk Try.prog 5 88 (blkOf 5 0) [0, 1, 5, 6] [.int .i64 n, .int .i64 i, .ptr 0 0, .int .i64 0] [.cells 93 .exact [.ptr 1 0, .int .u8 l, .int .i64 m], .cells 110 .exact [.int .u8 t, .int .i64 6, .int .i64 1]] ⟨.normal, [(0, .int .i64 n), (1, .int .i64 i), (5, .ptr 0 0), (6, .int .i64 n)], [], []⟩ := by
  obtain ⟨rfl, h1, h2, h3, h4, rfl⟩ := S.okM0_iff h
  have hb : blkOf 5 0 = .block 0 (.loop (inner (inner (blkOf 5 0)))) := by kernel_rfl
  unfold K.BOk
  rw [hb]
  refine K.CT.block ?_
  have hk : ((m.toNat : Nat) : Int) = m := by omega
  have main := K.loop_count (P := Try.prog) (c := inner (inner (blkOf 5 0))) (fun j => Fr.ofL 5 88 [(0, .int .i64 m), (1, .int .i64 i), (5, .ptr 0 0), (6, .int .i64 (j : Nat))] [] none)
    (fun _ => Heap.of [.cells 93 .exact [.ptr 1 0, .int .u8 l, .int .i64 m], .cells 110 .exact [.int .u8 (S.st i), .int .i64 6, .int .i64 1]]) m.toNat (x := .exit 0) (by simp) (fun j hj => m0R_con m i l (j : Nat) h1 h2 h3 h4 (by omega) (by omega)) (by
      show CT _ _ (Fr.ofL _ _ [(0, .int .i64 m), (1, .int .i64 i), (5, .ptr 0 0), (6, .int .i64 (m.toNat : Nat))] [] none) _ _ _ _
      rw [hk]; exact m0X_con m i l h1 h2)
  exact main
theorem m2_blk (n m m2 l l2 t : Int) (h : S.okM2 n m m2 0 t = true) : K.BOk Try.prog 5 88 (blkOf 5 2) [0, 5, 7, 8, 9] [.int .i64 n, .ptr 0 0, .ptr 2 0, .int .i64 0, .int .i64 0] [.cells 93 .exact [.ptr 1 0, .int .u8 l, .int .i64 m], .cells 110 .exact [.int .u8 t, .int .i64 6, .int .i64 1], .cells 93 .exact [.ptr 3 0, .int .u8 l2, .int .i64 m2], .cells 110 .exact [.int .u8 0, .int .i64 6, .int .i64 1]] ⟨.normal, [(0, .int .i64 n), (5, .ptr 0 0), (7, .ptr 2 0), (8, .int .i64 1), (9, .int .i64 n)], [(3, .cells 110 .exact [.int .u8 (S.m2st n), .int .i64 6, .int .i64 1])], []⟩ := by
  obtain ⟨rfl, rfl, h1, h2, i, h3, h4, rfl, h5⟩ := S.okM2_iff h
  have hb : blkOf 5 2 = .block 2 (.loop (inner (inner (blkOf 5 2)))) := by kernel_rfl
  unfold K.BOk
  rw [hb]
  refine K.CT.block ?_
  have hk : ((m2.toNat : Nat) : Int) = m2 := by omega
  have main := K.loop_count (P := Try.prog) (c := inner (inner (blkOf 5 2))) (fun j => Fr.ofL 5 88 [(0, .int .i64 m2), (5, .ptr 0 0), (7, .ptr 2 0), (8, .int .i64 (S.m2sm i (j : Nat))), (9, .int .i64 (j : Nat))] [] none)
    (fun j => Heap.of [.cells 93 .exact [.ptr 1 0, .int .u8 l, .int .i64 m2], .cells 110 .exact [.int .u8 (S.st i), .int .i64 6, .int .i64 1], .cells 93 .exact [.ptr 3 0, .int .u8 l2, .int .i64 m2], .cells 110 .exact [.int .u8 (S.m2st (j : Nat)), .int .i64 6, .int .i64 1]]) m2.toNat (x := .exit 2) (by simp) (fun j hj => m2R_con m2 i l l2 (j : Nat) h1 h2 h3 h4 (by omega) (by omega)) (by
      show CT _ _ (Fr.ofL _ _ [(0, .int .i64 m2), (5, .ptr 0 0), (7, .ptr 2 0), (8, .int .i64 (S.m2sm i (m2.toNat : Nat))), (9, .int .i64 (m2.toNat : Nat))] [] none) (Heap.of [.cells 93 .exact [.ptr 1 0, .int .u8 l, .int .i64 m2], .cells 110 .exact [.int .u8 (S.st i), .int .i64 6, .int .i64 1], .cells 93 .exact [.ptr 3 0, .int .u8 l2, .int .i64 m2], .cells 110 .exact [.int .u8 (S.m2st (m2.toNat : Nat)), .int .i64 6, .int .i64 1]]) _ _ _
      rw [hk]; exact m2X_con m2 i l l2 h1 h2 h3 h4)
  have e1 : S.m2sm i ((0 : Nat) : Int) = 0 := by unfold S.m2sm; rw [ltI_false.2 (by omega)]; rfl
  have e2 : S.m2st ((0 : Nat) : Int) = 0 := rfl
  simp only [e1, e2] at main
  exact main
theorem mTop_run (n i : Int) : K.bodyF (envB [(26, cAtE), (22, cSetE), (25, cMarkE), (74, cmarkE), (18, awk2E)] (fun g id => bc (Nat.beq g 5) (bc (Nat.beq id 0) (some m0B) (bc (Nat.beq g 5) (bc (Nat.beq id 2) (some m2B) (none)) (none))) (bc (Nat.beq g 5) (bc (Nat.beq id 2) (some m2B) (none)) (none)))) (K.runF (envB [(26, cAtE), (22, cSetE), (25, cMarkE), (74, cmarkE), (18, awk2E)] (fun g id => bc (Nat.beq g 5) (bc (Nat.beq id 0) (some m0B) (bc (Nat.beq g 5) (bc (Nat.beq id 2) (some m2B) (none)) (none))) (bc (Nat.beq g 5) (bc (Nat.beq id 2) (some m2B) (none)) (none)))) 30) 5 [.int .i64 n, .int .i64 i] (Heap.of []) Hint.auto (K.endC K.openE 0 ⟨.ret (.bool true), [], []⟩) =
    (bc (ltI n (1 : Int)) (bc (ltI n (1 : Int)) (true = true ∧ True) (bc (true == ltI (63 : Int) n) (true = true ∧ True) (true = false ∧ True))) (bc (ltI (63 : Int) n) (bc (ltI n (1 : Int)) (true = true ∧ True) (bc (true == ltI (63 : Int) n) (true = true ∧ True) (true = false ∧ True))) (bc (S.inR (wrapK IntKind.i64 (n - (1 : Int))) (63 : Int)) (bc (ltI n (64 : Int)) (bc (notB (eqI (bc (S.inR i n) (0 : Int) (6 : Int)) (0 : Int))) (bc (ltI n (1 : Int)) (true = false ∧ True) (bc (false == ltI (63 : Int) n) (true = true ∧ True) (true = false ∧ True))) (bc (S.okM0 n n i (bc (S.inR i n) (S.st i) (0 : Int))) (K.BOk Try.prog 5 88 (blkOf 5 0) [(0 : Nat), (1 : Nat), (5 : Nat), (6 : Nat)] [LV.int IntKind.i64 n, LV.int IntKind.i64 i, LV.ptr (0 : Nat) (0 : Nat), LV.int IntKind.i64 (0 : Int)] [LObj.cells (93 : Nat) Own.exact [LV.ptr (1 : Nat) (0 : Nat), LV.int IntKind.u8 (S.st (wrapK IntKind.i64 (n - (1 : Int)))), LV.int IntKind.i64 n], LObj.cells (110 : TypeId) Own.exact [LV.int IntKind.u8 (bc (S.inR i n) (S.st i) (0 : Int)), LV.int IntKind.i64 (6 : Int), LV.int IntKind.i64 (1 : Int)]] { x := LX.normal, L := [((0 : Nat), LV.int IntKind.i64 n), ((1 : Nat), LV.int IntKind.i64 i), ((5 : Nat), LV.ptr (0 : Nat) (0 : Nat)), ((6 : Nat), LV.int IntKind.i64 n)], ch := [], new := [] } ∧ bc (ltI n (1 : Int)) False (bc (ltI (63 : Int) n) False (bc (S.inR (wrapK IntKind.i64 (n - (1 : Int))) (63 : Int)) (bc (S.okM2 n n n (0 : Int) (bc (S.inR i n) (S.st i) (0 : Int))) (K.BOk Try.prog 5 88 (blkOf 5 2) [(0 : Nat), (5 : Nat), (7 : Nat), (8 : Nat), (9 : Nat)] [LV.int IntKind.i64 n, LV.ptr (0 : Nat) (0 : Nat), LV.ptr (2 : Nat) (0 : Nat), LV.int IntKind.i64 (0 : Int), LV.int IntKind.i64 (0 : Int)] [LObj.cells (93 : Nat) Own.exact [LV.ptr (1 : Nat) (0 : Nat), LV.int IntKind.u8 (S.st (wrapK IntKind.i64 (n - (1 : Int)))), LV.int IntKind.i64 n], LObj.cells (110 : TypeId) Own.exact [LV.int IntKind.u8 (bc (S.inR i n) (S.st i) (0 : Int)), LV.int IntKind.i64 (6 : Int), LV.int IntKind.i64 (1 : Int)], LObj.cells (93 : Nat) Own.exact [LV.ptr (3 : Nat) (0 : Nat), LV.int IntKind.u8 (S.st (wrapK IntKind.i64 (n - (1 : Int)))), LV.int IntKind.i64 n], LObj.cells (110 : Nat) Own.exact [LV.int IntKind.u8 (0 : Int), LV.int IntKind.i64 (6 : Int), LV.int IntKind.i64 (1 : Int)]] { x := LX.normal, L := [((0 : Nat), LV.int IntKind.i64 n), ((5 : Nat), LV.ptr (0 : Nat) (0 : Nat)), ((7 : Nat), LV.ptr (2 : Nat) (0 : Nat)), ((8 : Nat), LV.int IntKind.i64 (1 : Int)), ((9 : Nat), LV.int IntKind.i64 n)], ch := [((3 : Nat), LObj.cells (110 : TypeId) Own.exact [LV.int IntKind.u8 (S.m2st n), LV.int IntKind.i64 (6 : Int), LV.int IntKind.i64 (1 : Int)])], new := [] } ∧ bc (ltI n (64 : Int)) (bc (notB (S.an (S.inR n n) (eqI (bc (S.inR i n) (S.st i) (0 : Int)) (S.st n)))) (bc (ltI n (64 : Int)) (true = true ∧ True) False) (true = false ∧ True)) False) False) False))) False)) False) False))) := by kernel_rfl
theorem mTop_con (n i : Int) : HT Try.prog 5 [.int .i64 n, .int .i64 i] (Heap.of []) (⟨.ret (.bool true), [], []⟩ : K.CRes).e (Heap.of (K.chg [] (⟨.ret (.bool true), [], []⟩ : K.CRes).ch ++ (⟨.ret (.bool true), [], []⟩ : K.CRes).new)) := by
  refine K.con_of_run good (A := envB [(26, cAtE), (22, cSetE), (25, cMarkE), (74, cmarkE), (18, awk2E)] (fun g id => bc (Nat.beq g 5) (bc (Nat.beq id 0) (some m0B) (bc (Nat.beq g 5) (bc (Nat.beq id 2) (some m2B) (none)) (none))) (bc (Nat.beq g 5) (bc (Nat.beq id 2) (some m2B) (none)) (none)))) (envB_ok ?_) K.openE_ok (k := 30) (cast (mTop_run n i).symm ?_)
  · intro p hp; simp only [List.mem_cons, List.not_mem_nil, or_false] at hp; rcases hp with rfl | rfl | rfl | rfl | rfl <;> first | exact cAt_ok | exact cSet_ok | exact cMark_ok | exact cmark_ok | exact awk2_ok
  · by_cases h1 : n < 1
    · simp [ltI_true.2 h1]
    have e1 : ltI n 1 = false := ltI_false.2 (by omega)
    by_cases h2 : 63 < n
    · simp [e1, ltI_true.2 h2]
    have e2 : ltI 63 n = false := ltI_false.2 (by omega)
    have w : wrapK .i64 (n - 1) = n - 1 := by rw [wrapK_i64]; omega
    have e3 : S.inR (n - 1) 63 = true := S.inR_iff.2 (by omega)
    have e4 : ltI n 64 = true := ltI_true.2 (by omega)
    by_cases h3 : 0 ≤ i ∧ i < n
    · have e5 : S.inR i n = true := S.inR_iff.2 h3
      have e6 : S.inR n n = false := S.inR_no.2 (by omega)
      have o0 : S.okM0 n n i (S.st i) = true := by
        unfold S.okM0
        simp only [S.an_iff, S.inR_iff, eqI_true]
        exact ⟨⟨⟨by omega, by omega⟩, h3⟩, trivial, trivial⟩
      have o2 : S.okM2 n n n 0 (S.st i) = true := by
        unfold S.okM2
        simp only [S.an_iff, S.inR_iff, eqI_true]
        rw [S.ix_st h3.1 (by omega)]
        exact ⟨⟨⟨by omega, by omega⟩, S.isSt_st h3.1 (by omega)⟩, h3, trivial, trivial⟩
      have B0 := m0_blk n n i (S.st (n - 1)) (S.st i) o0
      have B2 := m2_blk n n n (S.st (n - 1)) (S.st (n - 1)) (S.st i) o2
      have e7 : eqI 0 0 = true := rfl
      simp only [e1, e2, w, e3, e4, e5, e6, e7, o0, o2, bc_true, bc_false, notB_t, notB_f, S.an]
      exact ⟨B0, B2, by simp⟩
    · have e5 : S.inR i n = false := S.inR_no.2 h3
      have e7 : eqI 6 0 = false := rfl
      simp [e1, e2, w, e3, e4, e5, e7, notB]
end Go.Proofs.Ytmnpnomllcghmaa.Ev
