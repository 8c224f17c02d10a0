/- Contracts, proved: Bem. -/
import Derived.Test.YtmnpnomllcghmaaBemD
import Derived.Test.YtmnpnomllcghmaaPlcP
namespace Go.Proofs.Ytmnpnomllcghmaa.Ev
open Go
set_option linter.unusedVariables false
set_option linter.unusedSimpArgs false
set_option maxRecDepth 100000
namespace S
theorem okBm_iff {a s d l n : Int} (h : okBm a s d l n = true) : (0 ≤ a ∧ a < 4) ∧ isSt s = true ∧ d = 4 ∧ l = st 56 ∧ n = 57 ∧ 0 ≤ ix s ∧ ix s < 57 := by
  unfold okBm at h
  simp only [an_iff, inR_iff, eqI_true, ltI_true] at h
  obtain ⟨⟨h1, h2, h3⟩, h4, h5, h6⟩ := h
  obtain ⟨i, hi0, hi1, hi⟩ := isSt_ex h2
  subst hi
  rw [ix_st hi0 hi1] at h3 ⊢
  exact ⟨h1, h2, h4, h5, h6, hi0, h3⟩
theorem okBm_of {a s : Int} (h1 : 0 ≤ a) (h2 : a < 4) (h3 : isSt s = true) (h4 : ix s < 57) : okBm a s 4 (st 56) 57 = true := by
  unfold okBm
  simp only [an_iff, inR_iff, eqI_true, ltI_true]
  exact ⟨⟨⟨h1, h2⟩, h3, h4⟩, trivial, trivial, trivial⟩
theorem bm_ok {n : Int} (h0 : 0 ≤ n) (h1 : n < 228) : okBm (n % 4) (st (n / 4)) 4 (st 56) 57 = true :=
  okBm_of (by omega) (by omega) (isSt_st (by omega) (by omega)) (by rw [ix_st (by omega) (by omega)]; omega)
theorem bm_plc {n : Int} (h0 : 0 ≤ n) (h1 : n < 228) : plc (n % 4) (st (n / 4)) = n := by
  unfold plc; rw [ix_st (by omega) (by omega)]; omega
theorem bm_a {n : Int} (h0 : 0 ≤ n) (h1 : n < 228) : bc (ltI (n % 4 + 1) 4) (n % 4 + 1) 0 = ((n + 1) % 228) % 4 := by
  by_cases h : n % 4 + 1 < 4
  · rw [ltI_true.2 h, bc_true]; omega
  · rw [ltI_false.2 (by omega), bc_false]; omega
theorem bm_s {n : Int} (h0 : 0 ≤ n) (h1 : n < 228) : bc (ltI (n % 4 + 1) 4) (st (n / 4)) (bc (eqI (st (n / 4)) (st 56)) 0 (nx (st (n / 4)))) = st (((n + 1) % 228) / 4) := by
  by_cases h : n % 4 + 1 < 4
  · rw [ltI_true.2 h, bc_true, show ((n + 1) % 228) / 4 = n / 4 by omega]
  · rw [ltI_false.2 (by omega), bc_false]
    by_cases h2 : n / 4 = 56
    · rw [h2, eqI_self, bc_true, show ((n + 1) % 228) / 4 = 0 by omega, st0]
    · rw [show eqI (st (n / 4)) (st 56) = false from eqI_false.2 fun e => h2 (st_inj (by omega) (by omega) (by omega) (by omega) e), bc_false, nx_st (by omega) (by omega)]
      rw [show (n / 4 + 1) % 63 = ((n + 1) % 228) / 4 by omega]
end S
theorem bClock_run (b : Bool) (a d l n s : Int) : K.bodyF (envL [(20, dCountE), (24, cCountE)]) (K.runF (envL [(20, dCountE), (24, cCountE)]) 30) 39 [.ptr 0 0] (Heap.of [.cells 103 .exact [.ptr 1 0, .ptr 2 0, .bool b], .cells 89 .exact [.int .i64 a, .int .i64 d], .cells 93 .exact [.ptr 3 0, .int .u8 l, .int .i64 n], .cells 110 .exact [.int .u8 s, .int .i64 6, .int .i64 1]]) Hint.auto (K.endC K.openE 4 ⟨.ret (.int .i64 (S.plc a s)), [], []⟩) =
    (bc (S.isSt s) (S.plc a s = wrapK IntKind.i64 (wrapK IntKind.i64 ((4 : Int) * S.ix s) + a) ∧ True) False) := by kernel_rfl
theorem bClock_con (b : Bool) (a d l n s : Int) (h0 : S.okBm a s d l n = true) : HT Try.prog 39 [.ptr 0 0] (Heap.of [.cells 103 .exact [.ptr 1 0, .ptr 2 0, .bool b], .cells 89 .exact [.int .i64 a, .int .i64 d], .cells 93 .exact [.ptr 3 0, .int .u8 l, .int .i64 n], .cells 110 .exact [.int .u8 s, .int .i64 6, .int .i64 1]]) (⟨.ret (.int .i64 (S.plc a s)), [], []⟩ : K.CRes).e (Heap.of (K.chg [.cells 103 .exact [.ptr 1 0, .ptr 2 0, .bool b], .cells 89 .exact [.int .i64 a, .int .i64 d], .cells 93 .exact [.ptr 3 0, .int .u8 l, .int .i64 n], .cells 110 .exact [.int .u8 s, .int .i64 6, .int .i64 1]] (⟨.ret (.int .i64 (S.plc a s)), [], []⟩ : K.CRes).ch ++ (⟨.ret (.int .i64 (S.plc a s)), [], []⟩ : K.CRes).new)) := by
  refine K.con_of_run good (A := envL [(20, dCountE), (24, cCountE)]) (envL_ok ?_) K.openE_ok (k := 30) (cast (bClock_run b a d l n s).symm ?_)
  · intro p hp; simp only [List.mem_cons, List.not_mem_nil, or_false] at hp; rcases hp with rfl | rfl <;> first | exact dCount_ok | exact cCount_ok
  · obtain ⟨ha, hs, rfl, rfl, rfl, hx0, hx1⟩ := S.okBm_iff h0
    repeat' (first | (refine bcI (fun _ => ?_) (fun _ => ?_)) | (refine And.intro ?_ ?_))
    all_goals first | rfl | trivial | (simp_all only [notB_true, notB_false, notB_t, notB_f, S.an, bc_true, bc_false, reduceCtorEq, Bool.false_eq_true, Bool.true_eq_false]; done) | (simp_all only [notB_true, notB_false, notB_t, notB_f, S.an, S.inR, bc_true, bc_false, reduceCtorEq, Bool.false_eq_true, Bool.true_eq_false]; done) | (simp only [S.inR_no, S.inR_iff, S.plc, ltI_true, ltI_false, eqI_true, eqI_false, wrapK_i64, wrapK_u8] at *; omega) | skip
theorem bClock_ok : bClockE.ok Try.prog 39 := by
  intro xs os b r h h3
  unfold bClockE at h
  simp only at h
  split at h
  · injection h with h; injection h with h1 h2; subst h1; subst h2
    exact bClock_con _ _ _ _ _ _ h3
  · cases h
theorem bNext_run (b : Bool) (a d l n s : Int) : K.bodyF (envL [(19, dTickE), (23, cTickE)]) (K.runF (envL [(19, dTickE), (23, cTickE)]) 30) 40 [.ptr 0 0] (Heap.of [.cells 103 .exact [.ptr 1 0, .ptr 2 0, .bool b], .cells 89 .exact [.int .i64 a, .int .i64 d], .cells 93 .exact [.ptr 3 0, .int .u8 l, .int .i64 n], .cells 110 .exact [.int .u8 s, .int .i64 6, .int .i64 1]]) Hint.auto (K.endC K.openE 4 ⟨.ret (.tup []), [(1, .cells 89 .exact [.int .i64 (bc (ltI (a+1) d) (a+1) 0), .int .i64 d]), (3, .cells 110 .exact [.int .u8 (bc (ltI (a+1) d) s (bc (eqI s l) 0 (S.nx s))), .int .i64 6, .int .i64 1])], []⟩) =
    (bc (S.inR a (65536 : Int)) (bc (notB (ltI (a + (1 : Int)) d)) (bc (S.isSt s) (bc (ltI (a + (1 : Int)) d) (a + (1 : Int)) (0 : Int) = bc (ltI (a + (1 : Int)) d) (a + (1 : Int)) (0 : Int) ∧ (d = d ∧ (bc (ltI (a + (1 : Int)) d) s (bc (eqI s l) (0 : Int) (S.nx s)) = bc (eqI s l) (0 : Int) (S.nx s) ∧ ((6 : Int) = (6 : Int) ∧ ((1 : Int) = (1 : Int) ∧ True))))) False) (bc (ltI (a + (1 : Int)) d) (a + (1 : Int)) (0 : Int) = bc (ltI (a + (1 : Int)) d) (a + (1 : Int)) (0 : Int) ∧ (d = d ∧ (bc (ltI (a + (1 : Int)) d) s (bc (eqI s l) (0 : Int) (S.nx s)) = s ∧ ((6 : Int) = (6 : Int) ∧ ((1 : Int) = (1 : Int) ∧ True)))))) False) := by kernel_rfl
theorem bNext_con (b : Bool) (a d l n s : Int) (h0 : S.okBm a s d l n = true) : HT Try.prog 40 [.ptr 0 0] (Heap.of [.cells 103 .exact [.ptr 1 0, .ptr 2 0, .bool b], .cells 89 .exact [.int .i64 a, .int .i64 d], .cells 93 .exact [.ptr 3 0, .int .u8 l, .int .i64 n], .cells 110 .exact [.int .u8 s, .int .i64 6, .int .i64 1]]) (⟨.ret (.tup []), [(1, .cells 89 .exact [.int .i64 (bc (ltI (a+1) d) (a+1) 0), .int .i64 d]), (3, .cells 110 .exact [.int .u8 (bc (ltI (a+1) d) s (bc (eqI s l) 0 (S.nx s))), .int .i64 6, .int .i64 1])], []⟩ : K.CRes).e (Heap.of (K.chg [.cells 103 .exact [.ptr 1 0, .ptr 2 0, .bool b], .cells 89 .exact [.int .i64 a, .int .i64 d], .cells 93 .exact [.ptr 3 0, .int .u8 l, .int .i64 n], .cells 110 .exact [.int .u8 s, .int .i64 6, .int .i64 1]] (⟨.ret (.tup []), [(1, .cells 89 .exact [.int .i64 (bc (ltI (a+1) d) (a+1) 0), .int .i64 d]), (3, .cells 110 .exact [.int .u8 (bc (ltI (a+1) d) s (bc (eqI s l) 0 (S.nx s))), .int .i64 6, .int .i64 1])], []⟩ : K.CRes).ch ++ (⟨.ret (.tup []), [(1, .cells 89 .exact [.int .i64 (bc (ltI (a+1) d) (a+1) 0), .int .i64 d]), (3, .cells 110 .exact [.int .u8 (bc (ltI (a+1) d) s (bc (eqI s l) 0 (S.nx s))), .int .i64 6, .int .i64 1])], []⟩ : K.CRes).new)) := by
  refine K.con_of_run good (A := envL [(19, dTickE), (23, cTickE)]) (envL_ok ?_) K.openE_ok (k := 30) (cast (bNext_run b a d l n s).symm ?_)
  · intro p hp; simp only [List.mem_cons, List.not_mem_nil, or_false] at hp; rcases hp with rfl | rfl <;> first | exact dTick_ok | exact cTick_ok
  · obtain ⟨ha, hs, rfl, rfl, rfl, hx0, hx1⟩ := S.okBm_iff h0
    repeat' (first | (refine bcI (fun _ => ?_) (fun _ => ?_)) | (refine And.intro ?_ ?_))
    all_goals first | rfl | trivial | (simp_all only [notB_true, notB_false, notB_t, notB_f, S.an, bc_true, bc_false, reduceCtorEq, Bool.false_eq_true, Bool.true_eq_false]; done) | (simp_all only [notB_true, notB_false, notB_t, notB_f, S.an, S.inR, bc_true, bc_false, reduceCtorEq, Bool.false_eq_true, Bool.true_eq_false]; done) | (simp only [S.inR_no, S.inR_iff, S.plc, ltI_true, ltI_false, eqI_true, eqI_false, wrapK_i64, wrapK_u8] at *; omega) | skip
theorem bNext_ok : bNextE.ok Try.prog 40 := by
  intro xs os b r h h3
  unfold bNextE at h
  simp only at h
  split at h
  · injection h with h; injection h with h1 h2; subst h1; subst h2
    exact bNext_con _ _ _ _ _ _ h3
  · cases h
theorem bBegin_run (b : Bool) (a d l n s : Int) : K.bodyF (envL [(20, dCountE), (26, cAtE)]) (K.runF (envL [(20, dCountE), (26, cAtE)]) 30) 41 [.ptr 0 0] (Heap.of [.cells 103 .exact [.ptr 1 0, .ptr 2 0, .bool b], .cells 89 .exact [.int .i64 a, .int .i64 d], .cells 93 .exact [.ptr 3 0, .int .u8 l, .int .i64 n], .cells 110 .exact [.int .u8 s, .int .i64 6, .int .i64 1]]) Hint.auto (K.endC K.openE 4 ⟨.ret (.bool (S.an (eqI a 0) (eqI s 0))), [(0, .cells 103 .exact [.ptr 1 0, .ptr 2 0, .bool (bc (S.an (eqI a 0) (eqI s 0)) false b)])], []⟩) =
    (bc (notB (eqI a (0 : Int))) (S.an (eqI a (0 : Int)) (eqI s (0 : Int)) = false ∧ ((0 : Nat) = (0 : Nat) ∧ ((0 : Nat) = (0 : Nat) ∧ (bc (S.an (eqI a (0 : Int)) (eqI s (0 : Int))) false b = b ∧ True)))) (bc (ltI n (64 : Int)) (bc (notB (S.an (S.inR (0 : Int) n) (eqI s (S.st (0 : Int))))) (S.an (eqI a (0 : Int)) (eqI s (0 : Int)) = false ∧ ((0 : Nat) = (0 : Nat) ∧ ((0 : Nat) = (0 : Nat) ∧ (bc (S.an (eqI a (0 : Int)) (eqI s (0 : Int))) false b = b ∧ True)))) (S.an (eqI a (0 : Int)) (eqI s (0 : Int)) = true ∧ ((0 : Nat) = (0 : Nat) ∧ ((0 : Nat) = (0 : Nat) ∧ (bc (S.an (eqI a (0 : Int)) (eqI s (0 : Int))) false b = false ∧ True))))) False)) := by kernel_rfl
theorem bBegin_con (b : Bool) (a d l n s : Int) (h0 : S.okBm a s d l n = true) : HT Try.prog 41 [.ptr 0 0] (Heap.of [.cells 103 .exact [.ptr 1 0, .ptr 2 0, .bool b], .cells 89 .exact [.int .i64 a, .int .i64 d], .cells 93 .exact [.ptr 3 0, .int .u8 l, .int .i64 n], .cells 110 .exact [.int .u8 s, .int .i64 6, .int .i64 1]]) (⟨.ret (.bool (S.an (eqI a 0) (eqI s 0))), [(0, .cells 103 .exact [.ptr 1 0, .ptr 2 0, .bool (bc (S.an (eqI a 0) (eqI s 0)) false b)])], []⟩ : K.CRes).e (Heap.of (K.chg [.cells 103 .exact [.ptr 1 0, .ptr 2 0, .bool b], .cells 89 .exact [.int .i64 a, .int .i64 d], .cells 93 .exact [.ptr 3 0, .int .u8 l, .int .i64 n], .cells 110 .exact [.int .u8 s, .int .i64 6, .int .i64 1]] (⟨.ret (.bool (S.an (eqI a 0) (eqI s 0))), [(0, .cells 103 .exact [.ptr 1 0, .ptr 2 0, .bool (bc (S.an (eqI a 0) (eqI s 0)) false b)])], []⟩ : K.CRes).ch ++ (⟨.ret (.bool (S.an (eqI a 0) (eqI s 0))), [(0, .cells 103 .exact [.ptr 1 0, .ptr 2 0, .bool (bc (S.an (eqI a 0) (eqI s 0)) false b)])], []⟩ : K.CRes).new)) := by
  refine K.con_of_run good (A := envL [(20, dCountE), (26, cAtE)]) (envL_ok ?_) K.openE_ok (k := 30) (cast (bBegin_run b a d l n s).symm ?_)
  · intro p hp; simp only [List.mem_cons, List.not_mem_nil, or_false] at hp; rcases hp with rfl | rfl <;> first | exact dCount_ok | exact cAt_ok
  · obtain ⟨ha, hs, rfl, rfl, rfl, hx0, hx1⟩ := S.okBm_iff h0
    have e0 : S.inR 0 57 = true := S.inR_iff.2 (by omega)
    have e1 : ltI 57 64 = true := ltI_true.2 (by omega)
    rw [S.st0, e0, e1]
    cases h1 : eqI a 0 <;> cases h2 : eqI s 0 <;> cases b <;> simp [S.an, notB]
theorem bBegin_ok : bBeginE.ok Try.prog 41 := by
  intro xs os b r h h3
  unfold bBeginE at h
  simp only at h
  split at h
  · injection h with h; injection h with h1 h2; subst h1; subst h2
    exact bBegin_con _ _ _ _ _ _ h3
  · cases h
theorem bComb_run (b : Bool) (a d l n s : Int) : K.bodyF (envL []) (K.runF (envL []) 30) 42 [.ptr 0 0] (Heap.of [.cells 103 .exact [.ptr 1 0, .ptr 2 0, .bool b], .cells 89 .exact [.int .i64 a, .int .i64 d], .cells 93 .exact [.ptr 3 0, .int .u8 l, .int .i64 n], .cells 110 .exact [.int .u8 s, .int .i64 6, .int .i64 1]]) Hint.auto (K.endC K.openE 4 ⟨.ret (.tup []), [(0, .cells 103 .exact [.ptr 1 0, .ptr 2 0, .bool true])], []⟩) =
    (((0 : Nat) = (0 : Nat) ∧ ((0 : Nat) = (0 : Nat) ∧ (true = true ∧ True)))) := by kernel_rfl
theorem bComb_con (b : Bool) (a d l n s : Int) (h0 : S.okBm a s d l n = true) : HT Try.prog 42 [.ptr 0 0] (Heap.of [.cells 103 .exact [.ptr 1 0, .ptr 2 0, .bool b], .cells 89 .exact [.int .i64 a, .int .i64 d], .cells 93 .exact [.ptr 3 0, .int .u8 l, .int .i64 n], .cells 110 .exact [.int .u8 s, .int .i64 6, .int .i64 1]]) (⟨.ret (.tup []), [(0, .cells 103 .exact [.ptr 1 0, .ptr 2 0, .bool true])], []⟩ : K.CRes).e (Heap.of (K.chg [.cells 103 .exact [.ptr 1 0, .ptr 2 0, .bool b], .cells 89 .exact [.int .i64 a, .int .i64 d], .cells 93 .exact [.ptr 3 0, .int .u8 l, .int .i64 n], .cells 110 .exact [.int .u8 s, .int .i64 6, .int .i64 1]] (⟨.ret (.tup []), [(0, .cells 103 .exact [.ptr 1 0, .ptr 2 0, .bool true])], []⟩ : K.CRes).ch ++ (⟨.ret (.tup []), [(0, .cells 103 .exact [.ptr 1 0, .ptr 2 0, .bool true])], []⟩ : K.CRes).new)) := by
  refine K.con_of_run good (A := envL []) (envL_ok ?_) K.openE_ok (k := 30) (cast (bComb_run b a d l n s).symm ?_)
  · intro p hp; cases hp
  · obtain ⟨ha, hs, rfl, rfl, rfl, hx0, hx1⟩ := S.okBm_iff h0
    repeat' (first | (refine bcI (fun _ => ?_) (fun _ => ?_)) | (refine And.intro ?_ ?_))
    all_goals first | rfl | trivial | (simp_all only [notB_true, notB_false, notB_t, notB_f, S.an, bc_true, bc_false, reduceCtorEq, Bool.false_eq_true, Bool.true_eq_false]; done) | (simp_all only [notB_true, notB_false, notB_t, notB_f, S.an, S.inR, bc_true, bc_false, reduceCtorEq, Bool.false_eq_true, Bool.true_eq_false]; done) | (simp only [S.inR_no, S.inR_iff, S.plc, ltI_true, ltI_false, eqI_true, eqI_false, wrapK_i64, wrapK_u8] at *; omega) | skip
theorem bComb_ok : bCombE.ok Try.prog 42 := by
  intro xs os b r h h3
  unfold bCombE at h
  simp only at h
  split at h
  · injection h with h; injection h with h1 h2; subst h1; subst h2
    exact bComb_con _ _ _ _ _ _ h3
  · cases h
theorem bPulse_run (b : Bool) (a d l n s : Int) : K.bodyF (envL [(24, cCountE)]) (K.runF (envL [(24, cCountE)]) 30) 43 [.ptr 0 0] (Heap.of [.cells 103 .exact [.ptr 1 0, .ptr 2 0, .bool b], .cells 89 .exact [.int .i64 a, .int .i64 d], .cells 93 .exact [.ptr 3 0, .int .u8 l, .int .i64 n], .cells 110 .exact [.int .u8 s, .int .i64 6, .int .i64 1]]) Hint.auto (K.endC K.openE 4 ⟨.ret (.bool (S.an (notB (ltI (S.ix s) 5)) (notB (ltI 8 (S.ix s))))), [], []⟩) =
    (bc (S.isSt s) (bc (notB (ltI (S.ix s) (5 : Int))) (S.an (notB (ltI (S.ix s) (5 : Int))) (notB (ltI (8 : Int) (S.ix s))) = notB (ltI (8 : Int) (S.ix s)) ∧ True) (S.an (notB (ltI (S.ix s) (5 : Int))) (notB (ltI (8 : Int) (S.ix s))) = false ∧ True)) False) := by kernel_rfl
theorem bPulse_con (b : Bool) (a d l n s : Int) (h0 : S.okBm a s d l n = true) : HT Try.prog 43 [.ptr 0 0] (Heap.of [.cells 103 .exact [.ptr 1 0, .ptr 2 0, .bool b], .cells 89 .exact [.int .i64 a, .int .i64 d], .cells 93 .exact [.ptr 3 0, .int .u8 l, .int .i64 n], .cells 110 .exact [.int .u8 s, .int .i64 6, .int .i64 1]]) (⟨.ret (.bool (S.an (notB (ltI (S.ix s) 5)) (notB (ltI 8 (S.ix s))))), [], []⟩ : K.CRes).e (Heap.of (K.chg [.cells 103 .exact [.ptr 1 0, .ptr 2 0, .bool b], .cells 89 .exact [.int .i64 a, .int .i64 d], .cells 93 .exact [.ptr 3 0, .int .u8 l, .int .i64 n], .cells 110 .exact [.int .u8 s, .int .i64 6, .int .i64 1]] (⟨.ret (.bool (S.an (notB (ltI (S.ix s) 5)) (notB (ltI 8 (S.ix s))))), [], []⟩ : K.CRes).ch ++ (⟨.ret (.bool (S.an (notB (ltI (S.ix s) 5)) (notB (ltI 8 (S.ix s))))), [], []⟩ : K.CRes).new)) := by
  refine K.con_of_run good (A := envL [(24, cCountE)]) (envL_ok ?_) K.openE_ok (k := 30) (cast (bPulse_run b a d l n s).symm ?_)
  · intro p hp; simp only [List.mem_cons, List.not_mem_nil, or_false] at hp; rcases hp with rfl <;> first | exact cCount_ok
  · obtain ⟨ha, hs, rfl, rfl, rfl, hx0, hx1⟩ := S.okBm_iff h0
    repeat' (first | (refine bcI (fun _ => ?_) (fun _ => ?_)) | (refine And.intro ?_ ?_))
    all_goals first | rfl | trivial | (simp_all only [notB_true, notB_false, notB_t, notB_f, S.an, bc_true, bc_false, reduceCtorEq, Bool.false_eq_true, Bool.true_eq_false]; done) | (simp_all only [notB_true, notB_false, notB_t, notB_f, S.an, S.inR, bc_true, bc_false, reduceCtorEq, Bool.false_eq_true, Bool.true_eq_false]; done) | (simp only [S.inR_no, S.inR_iff, S.plc, ltI_true, ltI_false, eqI_true, eqI_false, wrapK_i64, wrapK_u8] at *; omega) | skip
theorem bPulse_ok : bPulseE.ok Try.prog 43 := by
  intro xs os b r h h3
  unfold bPulseE at h
  simp only at h
  split at h
  · injection h with h; injection h with h1 h2; subst h1; subst h2
    exact bPulse_con _ _ _ _ _ _ h3
  · cases h
theorem bDark_run (b : Bool) (a d l n s : Int) : K.bodyF (envL [(24, cCountE)]) (K.runF (envL [(24, cCountE)]) 30) 44 [.ptr 0 0] (Heap.of [.cells 103 .exact [.ptr 1 0, .ptr 2 0, .bool b], .cells 89 .exact [.int .i64 a, .int .i64 d], .cells 93 .exact [.ptr 3 0, .int .u8 l, .int .i64 n], .cells 110 .exact [.int .u8 s, .int .i64 6, .int .i64 1]]) Hint.auto (K.endC K.openE 4 ⟨.ret (.bool (bc b (ltI (S.ix s) 19) (ltI (S.ix s) 17))), [], []⟩) =
    (bc (b) (bc (S.isSt s) (bc b (ltI (S.ix s) (19 : Int)) (ltI (S.ix s) (17 : Int)) = ltI (S.ix s) (19 : Int) ∧ True) False) (bc (S.isSt s) (bc b (ltI (S.ix s) (19 : Int)) (ltI (S.ix s) (17 : Int)) = ltI (S.ix s) (17 : Int) ∧ True) False)) := by kernel_rfl
theorem bDark_con (b : Bool) (a d l n s : Int) (h0 : S.okBm a s d l n = true) : HT Try.prog 44 [.ptr 0 0] (Heap.of [.cells 103 .exact [.ptr 1 0, .ptr 2 0, .bool b], .cells 89 .exact [.int .i64 a, .int .i64 d], .cells 93 .exact [.ptr 3 0, .int .u8 l, .int .i64 n], .cells 110 .exact [.int .u8 s, .int .i64 6, .int .i64 1]]) (⟨.ret (.bool (bc b (ltI (S.ix s) 19) (ltI (S.ix s) 17))), [], []⟩ : K.CRes).e (Heap.of (K.chg [.cells 103 .exact [.ptr 1 0, .ptr 2 0, .bool b], .cells 89 .exact [.int .i64 a, .int .i64 d], .cells 93 .exact [.ptr 3 0, .int .u8 l, .int .i64 n], .cells 110 .exact [.int .u8 s, .int .i64 6, .int .i64 1]] (⟨.ret (.bool (bc b (ltI (S.ix s) 19) (ltI (S.ix s) 17))), [], []⟩ : K.CRes).ch ++ (⟨.ret (.bool (bc b (ltI (S.ix s) 19) (ltI (S.ix s) 17))), [], []⟩ : K.CRes).new)) := by
  refine K.con_of_run good (A := envL [(24, cCountE)]) (envL_ok ?_) K.openE_ok (k := 30) (cast (bDark_run b a d l n s).symm ?_)
  · intro p hp; simp only [List.mem_cons, List.not_mem_nil, or_false] at hp; rcases hp with rfl <;> first | exact cCount_ok
  · obtain ⟨ha, hs, rfl, rfl, rfl, hx0, hx1⟩ := S.okBm_iff h0
    repeat' (first | (refine bcI (fun _ => ?_) (fun _ => ?_)) | (refine And.intro ?_ ?_))
    all_goals first | rfl | trivial | (simp_all only [notB_true, notB_false, notB_t, notB_f, S.an, bc_true, bc_false, reduceCtorEq, Bool.false_eq_true, Bool.true_eq_false]; done) | (simp_all only [notB_true, notB_false, notB_t, notB_f, S.an, S.inR, bc_true, bc_false, reduceCtorEq, Bool.false_eq_true, Bool.true_eq_false]; done) | (simp only [S.inR_no, S.inR_iff, S.plc, ltI_true, ltI_false, eqI_true, eqI_false, wrapK_i64, wrapK_u8] at *; omega) | skip
theorem bDark_ok : bDarkE.ok Try.prog 44 := by
  intro xs os b r h h3
  unfold bDarkE at h
  simp only at h
  split at h
  · injection h with h; injection h with h1 h2; subst h1; subst h2
    exact bDark_con _ _ _ _ _ _ h3
  · cases h
theorem bNew_run (m : Int) : K.bodyF (envL [(74, cmarkE), (17, dSetE), (22, cSetE)]) (K.runF (envL [(74, cmarkE), (17, dSetE), (22, cSetE)]) 30) 37 [.int .i64 m] (Heap.of []) Hint.auto (K.endC K.openE 0 ⟨.ret (.ptr 0 0), [], [.cells 103 .exact [.ptr 1 0, .ptr 2 0, .bool false], .cells 89 .exact [.int .i64 (m % 4), .int .i64 4], .cells 93 .exact [.ptr 3 0, .int .u8 (S.st 56), .int .i64 57], .cells 110 .exact [.int .u8 (S.st (m / 4)), .int .i64 6, .int .i64 1]]⟩) =
    (bc (notB (ltI m (0 : Int))) (bc (notB (notB (ltI (227 : Int) m))) False ((0 : Nat) = (0 : Nat) ∧ ((0 : Nat) = (0 : Nat) ∧ ((0 : Nat) = (0 : Nat) ∧ (false = false ∧ (m % (4 : Int) = bc (S.inR (m.tmod (4 : Int)) (4 : Int)) (m.tmod (4 : Int)) (0 : Int) ∧ ((4 : Int) = (4 : Int) ∧ ((0 : Nat) = (0 : Nat) ∧ (S.st (56 : Int) = S.st (wrapK IntKind.i64 ((57 : Int) - (1 : Int))) ∧ ((57 : Int) = (57 : Int) ∧ (S.st (m / (4 : Int)) = bc (S.inR (wrapK IntKind.i64 (m.tdiv (4 : Int))) (57 : Int)) (S.st (wrapK IntKind.i64 (m.tdiv (4 : Int)))) (0 : Int) ∧ ((6 : Int) = (6 : Int) ∧ ((1 : Int) = (1 : Int) ∧ True))))))))))))) False) := by kernel_rfl
theorem bNew_con (m : Int) (h0 : S.inR m 228 = true) : HT Try.prog 37 [.int .i64 m] (Heap.of []) (⟨.ret (.ptr 0 0), [], [.cells 103 .exact [.ptr 1 0, .ptr 2 0, .bool false], .cells 89 .exact [.int .i64 (m % 4), .int .i64 4], .cells 93 .exact [.ptr 3 0, .int .u8 (S.st 56), .int .i64 57], .cells 110 .exact [.int .u8 (S.st (m / 4)), .int .i64 6, .int .i64 1]]⟩ : K.CRes).e (Heap.of (K.chg [] (⟨.ret (.ptr 0 0), [], [.cells 103 .exact [.ptr 1 0, .ptr 2 0, .bool false], .cells 89 .exact [.int .i64 (m % 4), .int .i64 4], .cells 93 .exact [.ptr 3 0, .int .u8 (S.st 56), .int .i64 57], .cells 110 .exact [.int .u8 (S.st (m / 4)), .int .i64 6, .int .i64 1]]⟩ : K.CRes).ch ++ (⟨.ret (.ptr 0 0), [], [.cells 103 .exact [.ptr 1 0, .ptr 2 0, .bool false], .cells 89 .exact [.int .i64 (m % 4), .int .i64 4], .cells 93 .exact [.ptr 3 0, .int .u8 (S.st 56), .int .i64 57], .cells 110 .exact [.int .u8 (S.st (m / 4)), .int .i64 6, .int .i64 1]]⟩ : K.CRes).new)) := by
  refine K.con_of_run good (A := envL [(74, cmarkE), (17, dSetE), (22, cSetE)]) (envL_ok ?_) K.openE_ok (k := 30) (cast (bNew_run m).symm ?_)
  · intro p hp; simp only [List.mem_cons, List.not_mem_nil, or_false] at hp; rcases hp with rfl | rfl | rfl <;> first | exact cmark_ok | exact dSet_ok | exact cSet_ok
  · have h1 := S.inR_iff.1 h0
    have e1 : ltI m 0 = false := ltI_false.2 h1.1
    have e2 : ltI 227 m = false := ltI_false.2 (by omega)
    have e3 : m.tmod 4 = m % 4 := Int.tmod_eq_emod_of_nonneg h1.1
    have e4 : wrapK .i64 (m.tdiv 4) = m / 4 := by rw [Int.tdiv_eq_ediv_of_nonneg h1.1, wrapK_i64]; omega
    have e5 : S.inR (m % 4) 4 = true := S.inR_iff.2 (by omega)
    have e6 : S.inR (m / 4) 57 = true := S.inR_iff.2 (by omega)
    have e7 : ltI 57 64 = true := ltI_true.2 (by omega)
    simp [e1, e2, e3, e4, e5, e6, e7, notB]
    rfl
theorem bNew_ok : bNewE.ok Try.prog 37 := by
  intro xs os b r h h3
  unfold bNewE at h
  simp only at h
  split at h
  · injection h with h; injection h with h1 h2; subst h1; subst h2
    exact bNew_con _ h3
  · cases h
end Go.Proofs.Ytmnpnomllcghmaa.Ev
