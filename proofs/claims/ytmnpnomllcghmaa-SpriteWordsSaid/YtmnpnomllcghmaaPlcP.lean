/- Contracts, proved: Plc. -/
import Derived.Test.YtmnpnomllcghmaaPlcD
import Derived.Test.YtmnpnomllcghmaaCntP
namespace Go.Proofs.Ytmnpnomllcghmaa.Ev
open Go
set_option linter.unusedVariables false
set_option linter.unusedSimpArgs false
set_option maxRecDepth 100000
namespace S
theorem okPl_iff {a s d n : Int} (h : okPl a s d n = true) : (0 ≤ a ∧ a < 4) ∧ isSt s = true ∧ d = 4 ∧ n = 40 ∧ 0 ≤ ix s ∧ ix s < 63 := by
  unfold okPl at h
  simp only [an_iff, inR_iff, eqI_true] at h
  obtain ⟨⟨h1, h2⟩, h3, h4⟩ := h
  obtain ⟨i, hi0, hi1, hi⟩ := isSt_ex h2
  subst hi
  rw [ix_st hi0 hi1]
  exact ⟨h1, h2, h3, h4, hi0, hi1⟩
theorem okPl_of {a s : Int} (h1 : 0 ≤ a) (h2 : a < 4) (h3 : isSt s = true) : okPl a s 4 40 = true := by
  unfold okPl
  simp only [an_iff, inR_iff, eqI_true]
  exact ⟨⟨⟨h1, h2⟩, h3⟩, trivial, trivial⟩
theorem eqI_self (a : Int) : eqI a a = true := eqI_true.2 rfl
theorem st0 : st 0 = 0 := by decide +kernel
theorem pl_ok {n : Int} (h0 : 0 ≤ n) (h1 : n < 160) : okPl (n % 4) (st (n / 4)) 4 40 = true :=
  okPl_of (by omega) (by omega) (isSt_st (by omega) (by omega))
theorem pl_plc {n : Int} (h0 : 0 ≤ n) (h1 : n < 160) : plc (n % 4) (st (n / 4)) = n := by
  unfold plc; rw [ix_st (by omega) (by omega)]; omega
theorem pl_in {n : Int} (h0 : 0 ≤ n) (h1 : n < 160) : inR n 160 = true := inR_iff.2 ⟨h0, h1⟩
theorem pl_at {n m : Int} (h0 : 0 ≤ n) (h1 : n < 160) : an (inR m 160) (an (eqI (n % 4) (m % 4)) (eqI (st (n / 4)) (st (m / 4)))) = eqI m n := by
  rw [Bool.eq_iff_iff, an_iff, an_iff, inR_iff, eqI_true, eqI_true, eqI_true]
  constructor
  · rintro ⟨⟨h2, h3⟩, h4, h5⟩
    have := st_inj (by omega) (by omega) (by omega) (by omega) h5
    omega
  · rintro rfl; exact ⟨⟨h0, h1⟩, rfl, rfl⟩
theorem pl_next {n : Int} (h0 : 0 ≤ n) (h1 : n < 160) : (n + 1) % 160 = if n = 159 then 0 else n + 1 := by
  split <;> omega
theorem pl_again {n : Int} (h0 : 0 ≤ n) (h1 : n < 160) : an (notB (ltI (n % 4 + 1) 4)) (eqI (st (n / 4)) (st 39)) = eqI ((n + 1) % 160) 0 := by
  rw [Bool.eq_iff_iff, an_iff, notB_true, ltI_false, eqI_true, eqI_true]
  constructor
  · rintro ⟨h2, h3⟩
    have := st_inj (by omega) (by omega) (by omega) (by omega) h3
    omega
  · intro h
    have : n / 4 = 39 := by omega
    exact ⟨by omega, by rw [this]⟩
theorem pl_a {n : Int} (h0 : 0 ≤ n) (h1 : n < 160) : bc (ltI (n % 4 + 1) 4) (n % 4 + 1) 0 = ((n + 1) % 160) % 4 := by
  by_cases h : n % 4 + 1 < 4
  · rw [ltI_true.2 h, bc_true]; omega
  · rw [ltI_false.2 (by omega), bc_false]; omega
theorem pl_s {n : Int} (h0 : 0 ≤ n) (h1 : n < 160) : bc (ltI (n % 4 + 1) 4) (st (n / 4)) (bc (eqI (st (n / 4)) (st 39)) 0 (nx (st (n / 4)))) = st (((n + 1) % 160) / 4) := by
  by_cases h : n % 4 + 1 < 4
  · rw [ltI_true.2 h, bc_true, show ((n + 1) % 160) / 4 = n / 4 by omega]
  · rw [ltI_false.2 (by omega), bc_false]
    by_cases h2 : n / 4 = 39
    · rw [h2, eqI_self, bc_true, show ((n + 1) % 160) / 4 = 0 by omega, st0]
    · rw [show eqI (st (n / 4)) (st 39) = false from eqI_false.2 fun e => h2 (st_inj (by omega) (by omega) (by omega) (by omega) e), bc_false, nx_st (by omega) (by omega)]
      rw [show (n / 4 + 1) % 63 = ((n + 1) % 160) / 4 by omega]
end S
theorem pTick_run (a d l n s : Int) : K.bodyF (envL [(19, dTickE), (23, cTickE)]) (K.runF (envL [(19, dTickE), (23, cTickE)]) 30) 35 [.ptr 0 0] (Heap.of [.cells 98 .exact [.ptr 1 0, .ptr 2 0], .cells 89 .exact [.int .i64 a, .int .i64 d], .cells 93 .exact [.ptr 3 0, .int .u8 l, .int .i64 n], .cells 110 .exact [.int .u8 s, .int .i64 6, .int .i64 1]]) Hint.auto (K.endC K.openE 4 ⟨.ret (.bool (S.an (notB (ltI (a+1) d)) (eqI s l))), [(1, .cells 89 .exact [.int .i64 (bc (ltI (a+1) d) (a+1) 0), .int .i64 d]), (3, .cells 110 .exact [.int .u8 (bc (ltI (a+1) d) s (bc (eqI s l) 0 (S.nx s))), .int .i64 6, .int .i64 1])], []⟩) =
    (bc (S.inR a (65536 : Int)) (bc (notB (ltI (a + (1 : Int)) d)) (bc (S.isSt s) (S.an (notB (ltI (a + (1 : Int)) d)) (eqI s l) = eqI s l ∧ (bc (ltI (a + (1 : Int)) d) (a + (1 : Int)) (0 : Int) = bc (ltI (a + (1 : Int)) d) (a + (1 : Int)) (0 : Int) ∧ (d = d ∧ (bc (ltI (a + (1 : Int)) d) s (bc (eqI s l) (0 : Int) (S.nx s)) = bc (eqI s l) (0 : Int) (S.nx s) ∧ ((6 : Int) = (6 : Int) ∧ ((1 : Int) = (1 : Int) ∧ True)))))) False) (S.an (notB (ltI (a + (1 : Int)) d)) (eqI s l) = false ∧ (bc (ltI (a + (1 : Int)) d) (a + (1 : Int)) (0 : Int) = bc (ltI (a + (1 : Int)) d) (a + (1 : Int)) (0 : Int) ∧ (d = d ∧ (bc (ltI (a + (1 : Int)) d) s (bc (eqI s l) (0 : Int) (S.nx s)) = s ∧ ((6 : Int) = (6 : Int) ∧ ((1 : Int) = (1 : Int) ∧ True))))))) False) := by kernel_rfl
theorem pTick_con (a d l n s : Int) (h0 : S.okPl a s d n = true) : HT Try.prog 35 [.ptr 0 0] (Heap.of [.cells 98 .exact [.ptr 1 0, .ptr 2 0], .cells 89 .exact [.int .i64 a, .int .i64 d], .cells 93 .exact [.ptr 3 0, .int .u8 l, .int .i64 n], .cells 110 .exact [.int .u8 s, .int .i64 6, .int .i64 1]]) (⟨.ret (.bool (S.an (notB (ltI (a+1) d)) (eqI s l))), [(1, .cells 89 .exact [.int .i64 (bc (ltI (a+1) d) (a+1) 0), .int .i64 d]), (3, .cells 110 .exact [.int .u8 (bc (ltI (a+1) d) s (bc (eqI s l) 0 (S.nx s))), .int .i64 6, .int .i64 1])], []⟩ : K.CRes).e (Heap.of (K.chg [.cells 98 .exact [.ptr 1 0, .ptr 2 0], .cells 89 .exact [.int .i64 a, .int .i64 d], .cells 93 .exact [.ptr 3 0, .int .u8 l, .int .i64 n], .cells 110 .exact [.int .u8 s, .int .i64 6, .int .i64 1]] (⟨.ret (.bool (S.an (notB (ltI (a+1) d)) (eqI s l))), [(1, .cells 89 .exact [.int .i64 (bc (ltI (a+1) d) (a+1) 0), .int .i64 d]), (3, .cells 110 .exact [.int .u8 (bc (ltI (a+1) d) s (bc (eqI s l) 0 (S.nx s))), .int .i64 6, .int .i64 1])], []⟩ : K.CRes).ch ++ (⟨.ret (.bool (S.an (notB (ltI (a+1) d)) (eqI s l))), [(1, .cells 89 .exact [.int .i64 (bc (ltI (a+1) d) (a+1) 0), .int .i64 d]), (3, .cells 110 .exact [.int .u8 (bc (ltI (a+1) d) s (bc (eqI s l) 0 (S.nx s))), .int .i64 6, .int .i64 1])], []⟩ : K.CRes).new)) := by
  refine K.con_of_run good (A := envL [(19, dTickE), (23, cTickE)]) (envL_ok ?_) K.openE_ok (k := 30) (cast (pTick_run a d l n s).symm ?_)
  · intro p hp; simp only [List.mem_cons, List.not_mem_nil, or_false] at hp; rcases hp with rfl | rfl <;> first | exact dTick_ok | exact cTick_ok
  · obtain ⟨ha, hs, rfl, rfl, hx⟩ := S.okPl_iff h0
    repeat' (first | (refine bcI (fun _ => ?_) (fun _ => ?_)) | (refine And.intro ?_ ?_))
    all_goals first | rfl | trivial | (simp_all only [notB_true, notB_false, notB_t, notB_f, S.an, bc_true, bc_false, reduceCtorEq, Bool.false_eq_true, Bool.true_eq_false]; done) | (simp_all only [notB_true, notB_false, notB_t, notB_f, S.an, S.inR, bc_true, bc_false, reduceCtorEq, Bool.false_eq_true, Bool.true_eq_false]; done) | (simp only [S.inR_no, S.inR_iff, S.plc, ltI_true, ltI_false, eqI_true, eqI_false, wrapK_i64, wrapK_u8] at *; omega) | skip
theorem pTick_ok : pTickE.ok Try.prog 35 := by
  intro xs os b r h h3
  unfold pTickE at h
  simp only at h
  split at h
  · injection h with h; injection h with h1 h2; subst h1; subst h2
    exact pTick_con _ _ _ _ _ h3
  · cases h
theorem pCount_run (a d l n s : Int) : K.bodyF (envL [(20, dCountE), (24, cCountE)]) (K.runF (envL [(20, dCountE), (24, cCountE)]) 30) 33 [.ptr 0 0] (Heap.of [.cells 98 .exact [.ptr 1 0, .ptr 2 0], .cells 89 .exact [.int .i64 a, .int .i64 d], .cells 93 .exact [.ptr 3 0, .int .u8 l, .int .i64 n], .cells 110 .exact [.int .u8 s, .int .i64 6, .int .i64 1]]) Hint.auto (K.endC K.openE 4 ⟨.ret (.int .i64 (S.plc a s)), [], []⟩) =
    (bc (S.isSt s) (S.plc a s = wrapK IntKind.i64 (wrapK IntKind.i64 ((4 : Int) * S.ix s) + a) ∧ True) False) := by kernel_rfl
theorem pCount_con (a d l n s : Int) (h0 : S.okPl a s d n = true) : HT Try.prog 33 [.ptr 0 0] (Heap.of [.cells 98 .exact [.ptr 1 0, .ptr 2 0], .cells 89 .exact [.int .i64 a, .int .i64 d], .cells 93 .exact [.ptr 3 0, .int .u8 l, .int .i64 n], .cells 110 .exact [.int .u8 s, .int .i64 6, .int .i64 1]]) (⟨.ret (.int .i64 (S.plc a s)), [], []⟩ : K.CRes).e (Heap.of (K.chg [.cells 98 .exact [.ptr 1 0, .ptr 2 0], .cells 89 .exact [.int .i64 a, .int .i64 d], .cells 93 .exact [.ptr 3 0, .int .u8 l, .int .i64 n], .cells 110 .exact [.int .u8 s, .int .i64 6, .int .i64 1]] (⟨.ret (.int .i64 (S.plc a s)), [], []⟩ : K.CRes).ch ++ (⟨.ret (.int .i64 (S.plc a s)), [], []⟩ : K.CRes).new)) := by
  refine K.con_of_run good (A := envL [(20, dCountE), (24, cCountE)]) (envL_ok ?_) K.openE_ok (k := 30) (cast (pCount_run a d l n s).symm ?_)
  · intro p hp; simp only [List.mem_cons, List.not_mem_nil, or_false] at hp; rcases hp with rfl | rfl <;> first | exact dCount_ok | exact cCount_ok
  · obtain ⟨ha, hs, rfl, rfl, hx⟩ := S.okPl_iff h0
    repeat' (first | (refine bcI (fun _ => ?_) (fun _ => ?_)) | (refine And.intro ?_ ?_))
    all_goals first | rfl | trivial | (simp_all only [notB_true, notB_false, notB_t, notB_f, S.an, bc_true, bc_false, reduceCtorEq, Bool.false_eq_true, Bool.true_eq_false]; done) | (simp_all only [notB_true, notB_false, notB_t, notB_f, S.an, S.inR, bc_true, bc_false, reduceCtorEq, Bool.false_eq_true, Bool.true_eq_false]; done) | (simp only [S.inR_no, S.inR_iff, S.plc, ltI_true, ltI_false, eqI_true, eqI_false, wrapK_i64, wrapK_u8] at *; omega) | skip
theorem pCount_ok : pCountE.ok Try.prog 33 := by
  intro xs os b r h h3
  unfold pCountE at h
  simp only at h
  split at h
  · injection h with h; injection h with h1 h2; subst h1; subst h2
    exact pCount_con _ _ _ _ _ h3
  · cases h
theorem pAt_run (a d l n s m : Int) : K.bodyF (envL [(20, dCountE), (26, cAtE)]) (K.runF (envL [(20, dCountE), (26, cAtE)]) 30) 34 [.ptr 0 0, .int .i64 m] (Heap.of [.cells 98 .exact [.ptr 1 0, .ptr 2 0], .cells 89 .exact [.int .i64 a, .int .i64 d], .cells 93 .exact [.ptr 3 0, .int .u8 l, .int .i64 n], .cells 110 .exact [.int .u8 s, .int .i64 6, .int .i64 1]]) Hint.auto (K.endC K.openE 4 ⟨.ret (.bool (S.an (S.inR m 160) (S.an (eqI a (m % 4)) (eqI s (S.st (m / 4)))))), [], []⟩) =
    (bc (notB (ltI m (0 : Int))) (bc (ltI m (160 : Int)) (bc (eqI a (m.tmod (4 : Int))) (bc (ltI n (64 : Int)) (S.an (S.inR m (160 : Int)) (S.an (eqI a (m % (4 : Int))) (eqI s (S.st (m / (4 : Int))))) = S.an (S.inR (wrapK IntKind.i64 (m.tdiv (4 : Int))) n) (eqI s (S.st (wrapK IntKind.i64 (m.tdiv (4 : Int))))) ∧ True) False) (S.an (S.inR m (160 : Int)) (S.an (eqI a (m % (4 : Int))) (eqI s (S.st (m / (4 : Int))))) = false ∧ True)) (S.an (S.inR m (160 : Int)) (S.an (eqI a (m % (4 : Int))) (eqI s (S.st (m / (4 : Int))))) = false ∧ True)) (S.an (S.inR m (160 : Int)) (S.an (eqI a (m % (4 : Int))) (eqI s (S.st (m / (4 : Int))))) = false ∧ True)) := by kernel_rfl
theorem pAt_con (a d l n s m : Int) (h0 : S.okPl a s d n = true) : HT Try.prog 34 [.ptr 0 0, .int .i64 m] (Heap.of [.cells 98 .exact [.ptr 1 0, .ptr 2 0], .cells 89 .exact [.int .i64 a, .int .i64 d], .cells 93 .exact [.ptr 3 0, .int .u8 l, .int .i64 n], .cells 110 .exact [.int .u8 s, .int .i64 6, .int .i64 1]]) (⟨.ret (.bool (S.an (S.inR m 160) (S.an (eqI a (m % 4)) (eqI s (S.st (m / 4)))))), [], []⟩ : K.CRes).e (Heap.of (K.chg [.cells 98 .exact [.ptr 1 0, .ptr 2 0], .cells 89 .exact [.int .i64 a, .int .i64 d], .cells 93 .exact [.ptr 3 0, .int .u8 l, .int .i64 n], .cells 110 .exact [.int .u8 s, .int .i64 6, .int .i64 1]] (⟨.ret (.bool (S.an (S.inR m 160) (S.an (eqI a (m % 4)) (eqI s (S.st (m / 4)))))), [], []⟩ : K.CRes).ch ++ (⟨.ret (.bool (S.an (S.inR m 160) (S.an (eqI a (m % 4)) (eqI s (S.st (m / 4)))))), [], []⟩ : K.CRes).new)) := by
  refine K.con_of_run good (A := envL [(20, dCountE), (26, cAtE)]) (envL_ok ?_) K.openE_ok (k := 30) (cast (pAt_run a d l n s m).symm ?_)
  · intro p hp; simp only [List.mem_cons, List.not_mem_nil, or_false] at hp; rcases hp with rfl | rfl <;> first | exact dCount_ok | exact cAt_ok
  · obtain ⟨ha, hs, rfl, rfl, hx⟩ := S.okPl_iff h0
    rcases Int.lt_or_le m 0 with h1 | h1
    · have e1 : ltI m 0 = true := ltI_true.2 h1
      simp [e1, S.inR, S.an, notB]
    · have e1 : ltI m 0 = false := ltI_false.2 h1
      rcases Int.lt_or_le m 160 with h2 | h2
      · have e2 : ltI m 160 = true := ltI_true.2 h2
        have e3 : m.tmod 4 = m % 4 := Int.tmod_eq_emod_of_nonneg h1
        have e4 : wrapK .i64 (m.tdiv 4) = m / 4 := by rw [Int.tdiv_eq_ediv_of_nonneg h1, wrapK_i64]; omega
        have e5 : S.inR (m / 4) 40 = true := S.inR_iff.2 (by omega)
        have e6 : S.inR m 160 = true := S.inR_iff.2 ⟨h1, h2⟩
        have e7 : S.inR (m % 4) 4 = true := S.inR_iff.2 (by omega)
        have e8 : ltI 40 64 = true := rfl
        simp [e1, e2, e3, e4, e5, e6, e7, e8, S.an, notB]
        cases hb : eqI a (m % 4) <;> simp [hb]
      · have e2 : ltI m 160 = false := ltI_false.2 h2
        simp [e1, e2, S.inR, S.an, notB]
theorem pAt_ok : pAtE.ok Try.prog 34 := by
  intro xs os b r h h3
  unfold pAtE at h
  simp only at h
  split at h
  · injection h with h; injection h with h1 h2; subst h1; subst h2
    exact pAt_con _ _ _ _ _ _ h3
  · cases h
theorem pSet_run (a d l n s m : Int) : K.bodyF (envL [(17, dSetE), (22, cSetE)]) (K.runF (envL [(17, dSetE), (22, cSetE)]) 30) 32 [.ptr 0 0, .int .i64 m] (Heap.of [.cells 98 .exact [.ptr 1 0, .ptr 2 0], .cells 89 .exact [.int .i64 a, .int .i64 d], .cells 93 .exact [.ptr 3 0, .int .u8 l, .int .i64 n], .cells 110 .exact [.int .u8 s, .int .i64 6, .int .i64 1]]) Hint.auto (K.endC K.openE 4 ⟨.ret (.int .i64 (bc (S.inR m 160) 0 6)), [(1, .cells 89 .exact [.int .i64 (bc (S.inR m 160) (m % 4) a), .int .i64 d]), (3, .cells 110 .exact [.int .u8 (bc (S.inR m 160) (S.st (m / 4)) s), .int .i64 6, .int .i64 1])], []⟩) =
    (bc (ltI m (0 : Int)) (bc (S.inR m (160 : Int)) (0 : Int) (6 : Int) = (6 : Int) ∧ (bc (S.inR m (160 : Int)) (m % (4 : Int)) a = a ∧ (d = d ∧ (bc (S.inR m (160 : Int)) (S.st (m / (4 : Int))) s = s ∧ ((6 : Int) = (6 : Int) ∧ ((1 : Int) = (1 : Int) ∧ True)))))) (bc (notB (ltI m (160 : Int))) (bc (S.inR m (160 : Int)) (0 : Int) (6 : Int) = (6 : Int) ∧ (bc (S.inR m (160 : Int)) (m % (4 : Int)) a = a ∧ (d = d ∧ (bc (S.inR m (160 : Int)) (S.st (m / (4 : Int))) s = s ∧ ((6 : Int) = (6 : Int) ∧ ((1 : Int) = (1 : Int) ∧ True)))))) (bc (ltI n (64 : Int)) (bc (S.inR m (160 : Int)) (0 : Int) (6 : Int) = bc (S.inR (wrapK IntKind.i64 (m.tdiv (4 : Int))) n) (0 : Int) (6 : Int) ∧ (bc (S.inR m (160 : Int)) (m % (4 : Int)) a = bc (S.inR (m.tmod (4 : Int)) d) (m.tmod (4 : Int)) a ∧ (d = d ∧ (bc (S.inR m (160 : Int)) (S.st (m / (4 : Int))) s = bc (S.inR (wrapK IntKind.i64 (m.tdiv (4 : Int))) n) (S.st (wrapK IntKind.i64 (m.tdiv (4 : Int)))) s ∧ ((6 : Int) = (6 : Int) ∧ ((1 : Int) = (1 : Int) ∧ True)))))) False))) := by kernel_rfl
theorem pSet_con (a d l n s m : Int) (h0 : S.okPl a s d n = true) : HT Try.prog 32 [.ptr 0 0, .int .i64 m] (Heap.of [.cells 98 .exact [.ptr 1 0, .ptr 2 0], .cells 89 .exact [.int .i64 a, .int .i64 d], .cells 93 .exact [.ptr 3 0, .int .u8 l, .int .i64 n], .cells 110 .exact [.int .u8 s, .int .i64 6, .int .i64 1]]) (⟨.ret (.int .i64 (bc (S.inR m 160) 0 6)), [(1, .cells 89 .exact [.int .i64 (bc (S.inR m 160) (m % 4) a), .int .i64 d]), (3, .cells 110 .exact [.int .u8 (bc (S.inR m 160) (S.st (m / 4)) s), .int .i64 6, .int .i64 1])], []⟩ : K.CRes).e (Heap.of (K.chg [.cells 98 .exact [.ptr 1 0, .ptr 2 0], .cells 89 .exact [.int .i64 a, .int .i64 d], .cells 93 .exact [.ptr 3 0, .int .u8 l, .int .i64 n], .cells 110 .exact [.int .u8 s, .int .i64 6, .int .i64 1]] (⟨.ret (.int .i64 (bc (S.inR m 160) 0 6)), [(1, .cells 89 .exact [.int .i64 (bc (S.inR m 160) (m % 4) a), .int .i64 d]), (3, .cells 110 .exact [.int .u8 (bc (S.inR m 160) (S.st (m / 4)) s), .int .i64 6, .int .i64 1])], []⟩ : K.CRes).ch ++ (⟨.ret (.int .i64 (bc (S.inR m 160) 0 6)), [(1, .cells 89 .exact [.int .i64 (bc (S.inR m 160) (m % 4) a), .int .i64 d]), (3, .cells 110 .exact [.int .u8 (bc (S.inR m 160) (S.st (m / 4)) s), .int .i64 6, .int .i64 1])], []⟩ : K.CRes).new)) := by
  refine K.con_of_run good (A := envL [(17, dSetE), (22, cSetE)]) (envL_ok ?_) K.openE_ok (k := 30) (cast (pSet_run a d l n s m).symm ?_)
  · intro p hp; simp only [List.mem_cons, List.not_mem_nil, or_false] at hp; rcases hp with rfl | rfl <;> first | exact dSet_ok | exact cSet_ok
  · obtain ⟨ha, hs, rfl, rfl, hx⟩ := S.okPl_iff h0
    rcases Int.lt_or_le m 0 with h1 | h1
    · have e1 : ltI m 0 = true := ltI_true.2 h1
      simp [e1, S.inR, S.an, notB]
    · have e1 : ltI m 0 = false := ltI_false.2 h1
      rcases Int.lt_or_le m 160 with h2 | h2
      · have e2 : ltI m 160 = true := ltI_true.2 h2
        have e3 : m.tmod 4 = m % 4 := Int.tmod_eq_emod_of_nonneg h1
        have e4 : wrapK .i64 (m.tdiv 4) = m / 4 := by rw [Int.tdiv_eq_ediv_of_nonneg h1, wrapK_i64]; omega
        have e5 : S.inR (m / 4) 40 = true := S.inR_iff.2 (by omega)
        have e6 : S.inR m 160 = true := S.inR_iff.2 ⟨h1, h2⟩
        have e7 : S.inR (m % 4) 4 = true := S.inR_iff.2 (by omega)
        have e8 : ltI 40 64 = true := rfl
        simp [e1, e2, e3, e4, e5, e6, e7, e8, S.an, notB]
      · have e2 : ltI m 160 = false := ltI_false.2 h2
        simp [e1, e2, S.inR, S.an, notB]
theorem pSet_ok : pSetE.ok Try.prog 32 := by
  intro xs os b r h h3
  unfold pSetE at h
  simp only at h
  split at h
  · injection h with h; injection h with h1 h2; subst h1; subst h2
    exact pSet_con _ _ _ _ _ _ h3
  · cases h
theorem pBegin_run : K.bodyF (envL [(74, cmarkE)]) (K.runF (envL [(74, cmarkE)]) 30) 31 [] (Heap.of []) Hint.auto (K.endC K.openE 0 ⟨.ret (.ptr 0 0), [], [.cells 98 .exact [.ptr 1 0, .ptr 2 0], .cells 89 .exact [.int .i64 0, .int .i64 4], .cells 93 .exact [.ptr 3 0, .int .u8 (S.st 39), .int .i64 40], .cells 110 .exact [.int .u8 0, .int .i64 6, .int .i64 1]]⟩) =
    (((0 : Nat) = (0 : Nat) ∧ ((0 : Nat) = (0 : Nat) ∧ ((0 : Nat) = (0 : Nat) ∧ ((0 : Int) = (0 : Int) ∧ ((4 : Int) = (4 : Int) ∧ ((0 : Nat) = (0 : Nat) ∧ (S.st (39 : Int) = S.st (wrapK IntKind.i64 ((40 : Int) - (1 : Int))) ∧ ((40 : Int) = (40 : Int) ∧ ((0 : Int) = (0 : Int) ∧ ((6 : Int) = (6 : Int) ∧ ((1 : Int) = (1 : Int) ∧ True)))))))))))) := by kernel_rfl
theorem pBegin_con  : HT Try.prog 31 [] (Heap.of []) (⟨.ret (.ptr 0 0), [], [.cells 98 .exact [.ptr 1 0, .ptr 2 0], .cells 89 .exact [.int .i64 0, .int .i64 4], .cells 93 .exact [.ptr 3 0, .int .u8 (S.st 39), .int .i64 40], .cells 110 .exact [.int .u8 0, .int .i64 6, .int .i64 1]]⟩ : K.CRes).e (Heap.of (K.chg [] (⟨.ret (.ptr 0 0), [], [.cells 98 .exact [.ptr 1 0, .ptr 2 0], .cells 89 .exact [.int .i64 0, .int .i64 4], .cells 93 .exact [.ptr 3 0, .int .u8 (S.st 39), .int .i64 40], .cells 110 .exact [.int .u8 0, .int .i64 6, .int .i64 1]]⟩ : K.CRes).ch ++ (⟨.ret (.ptr 0 0), [], [.cells 98 .exact [.ptr 1 0, .ptr 2 0], .cells 89 .exact [.int .i64 0, .int .i64 4], .cells 93 .exact [.ptr 3 0, .int .u8 (S.st 39), .int .i64 40], .cells 110 .exact [.int .u8 0, .int .i64 6, .int .i64 1]]⟩ : K.CRes).new)) := by
  refine K.con_of_run good (A := envL [(74, cmarkE)]) (envL_ok ?_) K.openE_ok (k := 30) (cast (pBegin_run).symm ?_)
  · intro p hp; simp only [List.mem_cons, List.not_mem_nil, or_false] at hp; rcases hp with rfl <;> first | exact cmark_ok
  · simp; rfl
theorem pBegin_ok : pBeginE.ok Try.prog 31 := by
  intro xs os b r h h3
  unfold pBeginE at h
  simp only at h
  split at h
  · injection h with h; injection h with h1 h2; subst h1; subst h2
    exact pBegin_con
  · cases h
theorem pCopy_run (a d l n s : Int) : K.bodyF (envL [(31, pBeginE), (33, pCountE), (32, pSetE)]) (K.runF (envL [(31, pBeginE), (33, pCountE), (32, pSetE)]) 30) 36 [.ptr 0 0] (Heap.of [.cells 98 .exact [.ptr 1 0, .ptr 2 0], .cells 89 .exact [.int .i64 a, .int .i64 d], .cells 93 .exact [.ptr 3 0, .int .u8 l, .int .i64 n], .cells 110 .exact [.int .u8 s, .int .i64 6, .int .i64 1]]) Hint.auto (K.endC K.openE 4 ⟨.ret (.ptr 4 0), [], [.cells 98 .exact [.ptr 5 0, .ptr 6 0], .cells 89 .exact [.int .i64 (bc (S.inR (S.plc a s) 160) (S.plc a s % 4) 0), .int .i64 4], .cells 93 .exact [.ptr 7 0, .int .u8 (S.st 39), .int .i64 40], .cells 110 .exact [.int .u8 (bc (S.inR (S.plc a s) 160) (S.st (S.plc a s / 4)) 0), .int .i64 6, .int .i64 1]]⟩) =
    (bc (S.okPl a s d n) ((0 : Nat) = (0 : Nat) ∧ ((0 : Nat) = (0 : Nat) ∧ ((0 : Nat) = (0 : Nat) ∧ (bc (S.inR (S.plc a s) (160 : Int)) (S.plc a s % (4 : Int)) (0 : Int) = bc (S.inR (S.plc a s) (160 : Int)) (S.plc a s % (4 : Int)) (0 : Int) ∧ ((4 : Int) = (4 : Int) ∧ ((0 : Nat) = (0 : Nat) ∧ (S.st (39 : Int) = S.st (39 : Int) ∧ ((40 : Int) = (40 : Int) ∧ (bc (S.inR (S.plc a s) (160 : Int)) (S.st (S.plc a s / (4 : Int))) (0 : Int) = bc (S.inR (S.plc a s) (160 : Int)) (S.st (S.plc a s / (4 : Int))) (0 : Int) ∧ ((6 : Int) = (6 : Int) ∧ ((1 : Int) = (1 : Int) ∧ True))))))))))) False) := by kernel_rfl
theorem pCopy_con (a d l n s : Int) (h0 : S.okPl a s d n = true) : HT Try.prog 36 [.ptr 0 0] (Heap.of [.cells 98 .exact [.ptr 1 0, .ptr 2 0], .cells 89 .exact [.int .i64 a, .int .i64 d], .cells 93 .exact [.ptr 3 0, .int .u8 l, .int .i64 n], .cells 110 .exact [.int .u8 s, .int .i64 6, .int .i64 1]]) (⟨.ret (.ptr 4 0), [], [.cells 98 .exact [.ptr 5 0, .ptr 6 0], .cells 89 .exact [.int .i64 (bc (S.inR (S.plc a s) 160) (S.plc a s % 4) 0), .int .i64 4], .cells 93 .exact [.ptr 7 0, .int .u8 (S.st 39), .int .i64 40], .cells 110 .exact [.int .u8 (bc (S.inR (S.plc a s) 160) (S.st (S.plc a s / 4)) 0), .int .i64 6, .int .i64 1]]⟩ : K.CRes).e (Heap.of (K.chg [.cells 98 .exact [.ptr 1 0, .ptr 2 0], .cells 89 .exact [.int .i64 a, .int .i64 d], .cells 93 .exact [.ptr 3 0, .int .u8 l, .int .i64 n], .cells 110 .exact [.int .u8 s, .int .i64 6, .int .i64 1]] (⟨.ret (.ptr 4 0), [], [.cells 98 .exact [.ptr 5 0, .ptr 6 0], .cells 89 .exact [.int .i64 (bc (S.inR (S.plc a s) 160) (S.plc a s % 4) 0), .int .i64 4], .cells 93 .exact [.ptr 7 0, .int .u8 (S.st 39), .int .i64 40], .cells 110 .exact [.int .u8 (bc (S.inR (S.plc a s) 160) (S.st (S.plc a s / 4)) 0), .int .i64 6, .int .i64 1]]⟩ : K.CRes).ch ++ (⟨.ret (.ptr 4 0), [], [.cells 98 .exact [.ptr 5 0, .ptr 6 0], .cells 89 .exact [.int .i64 (bc (S.inR (S.plc a s) 160) (S.plc a s % 4) 0), .int .i64 4], .cells 93 .exact [.ptr 7 0, .int .u8 (S.st 39), .int .i64 40], .cells 110 .exact [.int .u8 (bc (S.inR (S.plc a s) 160) (S.st (S.plc a s / 4)) 0), .int .i64 6, .int .i64 1]]⟩ : K.CRes).new)) := by
  refine K.con_of_run good (A := envL [(31, pBeginE), (33, pCountE), (32, pSetE)]) (envL_ok ?_) K.openE_ok (k := 30) (cast (pCopy_run a d l n s).symm ?_)
  · intro p hp; simp only [List.mem_cons, List.not_mem_nil, or_false] at hp; rcases hp with rfl | rfl | rfl <;> first | exact pBegin_ok | exact pCount_ok | exact pSet_ok
  · simp [h0]
theorem pCopy_ok : pCopyE.ok Try.prog 36 := by
  intro xs os b r h h3
  unfold pCopyE at h
  simp only at h
  split at h
  · injection h with h; injection h with h1 h2; subst h1; subst h2
    exact pCopy_con _ _ _ _ _ h3
  · cases h
end Go.Proofs.Ytmnpnomllcghmaa.Ev
