/- Contracts, proved: Cnt. -/
import Derived.Test.YtmnpnomllcghmaaCntD
namespace Go.Proofs.Ytmnpnomllcghmaa.Ev
open Go
set_option linter.unusedVariables false
set_option linter.unusedSimpArgs false
set_option maxRecDepth 100000
namespace S
theorem isSt_fin {s : Int} (h : isSt s = true) : ∃ i : Fin 63, s = st (i.val : Nat) := by
  have key : ∀ n : Fin 64, isSt (n.val : Nat) = true → ∃ i : Fin 63, ((n.val : Nat) : Int) = st (i.val : Nat) := by decide +kernel
  have h0 : 0 ≤ s := by
    unfold isSt at h
    cases hb : ltI s 0 with
    | true => rw [hb] at h; cases h
    | false => exact ltI_false.1 hb
  by_cases h1 : s < 64
  · have := key ⟨s.toNat, by omega⟩
    simp only [show ((s.toNat : Nat) : Int) = s by omega] at this
    exact this h
  · have hx : ix s = 63 := by
      unfold ix nthN
      have e : s.toNat = (s.toNat - 64) + 64 := by omega
      rw [e]; rfl
    unfold isSt at h
    rw [hx] at h
    cases hb : ltI s 0 with
    | true => rw [hb] at h; cases h
    | false => rw [hb] at h; cases h
theorem st_facts : ∀ i : Fin 63, ix (st (i.val : Nat)) = (i.val : Nat) ∧ isSt (st (i.val : Nat)) = true ∧ 0 ≤ st (i.val : Nat) ∧ st (i.val : Nat) < 64 := by decide +kernel
theorem ix_st {i : Int} (h0 : 0 ≤ i) (h1 : i < 63) : ix (st i) = i := by
  have := (st_facts ⟨i.toNat, by omega⟩).1
  simp only [show ((i.toNat : Nat) : Int) = i by omega] at this
  exact this
theorem isSt_st {i : Int} (h0 : 0 ≤ i) (h1 : i < 63) : isSt (st i) = true := by
  have := (st_facts ⟨i.toNat, by omega⟩).2.1
  simp only [show ((i.toNat : Nat) : Int) = i by omega] at this
  exact this
theorem st_bd {i : Int} (h0 : 0 ≤ i) (h1 : i < 63) : 0 ≤ st i ∧ st i < 64 := by
  have := (st_facts ⟨i.toNat, by omega⟩).2.2
  simp only [show ((i.toNat : Nat) : Int) = i by omega] at this
  exact this
theorem isSt_ex {s : Int} (h : isSt s = true) : ∃ i : Int, 0 ≤ i ∧ i < 63 ∧ s = st i := by
  obtain ⟨i, hi⟩ := isSt_fin h
  exact ⟨(i.val : Nat), by omega, by have := i.isLt; omega, hi⟩
theorem st_inj {i j : Int} (h0 : 0 ≤ i) (h1 : i < 63) (h2 : 0 ≤ j) (h3 : j < 63) (h : st i = st j) : i = j := by
  rw [← ix_st h0 h1, h, ix_st h2 h3]
theorem nx_st {i : Int} (h0 : 0 ≤ i) (h1 : i < 63) : nx (st i) = st ((i + 1) % 63) := by unfold nx; rw [ix_st h0 h1]
theorem an_iff {a b : Bool} : an a b = true ↔ a = true ∧ b = true := by cases a <;> cases b <;> simp [an]
theorem an_false {a b : Bool} : an a b = false ↔ (a = true → b = false) := by cases a <;> cases b <;> simp [an]
theorem inR_iff {a n : Int} : inR a n = true ↔ 0 ≤ a ∧ a < n := by
  unfold inR
  cases hb : ltI a 0 with
  | true => have := ltI_true.1 hb; simp; omega
  | false => have := ltI_false.1 hb; show ltI a n = true ↔ _; rw [ltI_true]; omega
theorem inR_no {a n : Int} : inR a n = false ↔ ¬ (0 ≤ a ∧ a < n) := by
  cases h : inR a n with
  | true => simp [inR_iff.1 h]
  | false => simp only [true_iff]; intro h2; rw [inR_iff.2 h2] at h; cases h
end S
theorem pnext_run (x s : Int) : K.bodyF (envL []) (K.runF (envL []) 30) 90 [.ptr 0 0, .int .u8 s] (Heap.of [.cells 110 .exact [.int .u8 x, .int .i64 6, .int .i64 1]]) Hint.auto (K.endC K.openE 1 ⟨.ret (.int .u8 (S.nx s)), [], []⟩) =
    ((S.nx s = orK IntKind.u8 (s.fdiv ((2 : Int) ^ min (Int.toNat (1 : Int)) (nat_lit 8))) (wrapK IntKind.u8 (andK IntKind.u8 (xorK IntKind.u8 (xorK IntKind.u8 s (s.fdiv ((2 : Int) ^ min (Int.toNat (1 : Int)) (nat_lit 8)))) (1 : Int)) (1 : Int) * (2 : Int) ^ min (wrapK IntKind.i64 ((6 : Int) - (1 : Int))).toNat (nat_lit 8))) ∧ True)) := by kernel_rfl
theorem pnext_con (x s : Int) (h0 : S.isSt s = true) : HT Try.prog 90 [.ptr 0 0, .int .u8 s] (Heap.of [.cells 110 .exact [.int .u8 x, .int .i64 6, .int .i64 1]]) (⟨.ret (.int .u8 (S.nx s)), [], []⟩ : K.CRes).e (Heap.of (K.chg [.cells 110 .exact [.int .u8 x, .int .i64 6, .int .i64 1]] (⟨.ret (.int .u8 (S.nx s)), [], []⟩ : K.CRes).ch ++ (⟨.ret (.int .u8 (S.nx s)), [], []⟩ : K.CRes).new)) := by
  refine K.con_of_run good (A := envL []) (envL_ok ?_) K.openE_ok (k := 30) (cast (pnext_run x s).symm ?_)
  · intro p hp; cases hp
  · obtain ⟨i, hi⟩ := S.isSt_fin h0
    subst hi; clear h0
    refine ⟨?_, trivial⟩
    revert i; decide +kernel
theorem pnext_ok : pnextE.ok Try.prog 90 := by
  intro xs os b r h h3
  unfold pnextE at h
  simp only at h
  split at h
  · injection h with h; injection h with h1 h2; subst h1; subst h2
    exact pnext_con _ _ h3
  · cases h
theorem pstep_run (s : Int) : K.bodyF (envL [(90, pnextE)]) (K.runF (envL [(90, pnextE)]) 30) 77 [.ptr 0 0] (Heap.of [.cells 110 .exact [.int .u8 s, .int .i64 6, .int .i64 1]]) Hint.auto (K.endC K.openE 1 ⟨.ret (.int .u8 (s % 2)), [(0, .cells 110 .exact [.int .u8 (S.nx s), .int .i64 6, .int .i64 1])], []⟩) =
    (bc (S.isSt s) (s % (2 : Int) = andK IntKind.u8 s (1 : Int) ∧ (S.nx s = S.nx s ∧ ((6 : Int) = (6 : Int) ∧ ((1 : Int) = (1 : Int) ∧ True)))) False) := by kernel_rfl
theorem pstep_con (s : Int) (h0 : S.isSt s = true) : HT Try.prog 77 [.ptr 0 0] (Heap.of [.cells 110 .exact [.int .u8 s, .int .i64 6, .int .i64 1]]) (⟨.ret (.int .u8 (s % 2)), [(0, .cells 110 .exact [.int .u8 (S.nx s), .int .i64 6, .int .i64 1])], []⟩ : K.CRes).e (Heap.of (K.chg [.cells 110 .exact [.int .u8 s, .int .i64 6, .int .i64 1]] (⟨.ret (.int .u8 (s % 2)), [(0, .cells 110 .exact [.int .u8 (S.nx s), .int .i64 6, .int .i64 1])], []⟩ : K.CRes).ch ++ (⟨.ret (.int .u8 (s % 2)), [(0, .cells 110 .exact [.int .u8 (S.nx s), .int .i64 6, .int .i64 1])], []⟩ : K.CRes).new)) := by
  refine K.con_of_run good (A := envL [(90, pnextE)]) (envL_ok ?_) K.openE_ok (k := 30) (cast (pstep_run s).symm ?_)
  · intro p hp; simp only [List.mem_cons, List.not_mem_nil, or_false] at hp; rcases hp with rfl <;> first | exact pnext_ok
  · refine bcI (fun _ => ⟨?_, rfl, rfl, rfl, trivial⟩) (fun h => by rw [h0] at h; cases h)
    obtain ⟨i, hi⟩ := S.isSt_fin h0
    subst hi; clear h0
    revert i; decide +kernel
theorem pstep_ok : pstepE.ok Try.prog 77 := by
  intro xs os b r h h3
  unfold pstepE at h
  simp only at h
  split at h
  · injection h with h; injection h with h1 h2; subst h1; subst h2
    exact pstep_con _ h3
  · cases h
theorem pplace_runs (x : Int) : K.conjN 63 (fun j => K.bodyF (envL [(90, pnextE)]) (K.runF (envL [(90, pnextE)]) 30) 78 [.ptr 0 0, .int .u8 (S.st (Int.ofNat j))] (Heap.of [.cells 110 .exact [.int .u8 x, .int .i64 6, .int .i64 1]]) .auto (K.endC K.shutE 1 ⟨.ret (.tup [.int .i64 (S.ix (S.st (Int.ofNat j))), .bool true]), [], []⟩)) = K.trueN 63 := by kernel_rfl
theorem pplace_con (x s : Int) (h0 : S.isSt s = true) : HT Try.prog 78 [.ptr 0 0, .int .u8 s] (Heap.of [.cells 110 .exact [.int .u8 x, .int .i64 6, .int .i64 1]]) (.ret (.tup [.int .i64 (S.ix s), .bool true])) (Heap.of [.cells 110 .exact [.int .u8 x, .int .i64 6, .int .i64 1]]) := by
  obtain ⟨i, hi⟩ := S.isSt_fin h0
  subst hi
  have h := K.conj_of (pplace_runs x) i.val i.isLt
  refine K.con_of_run good (envL_ok ?_) K.shutE_ok h
  intro p hp; simp only [List.mem_cons, List.not_mem_nil, or_false] at hp; subst hp; exact pnext_ok
theorem pplace_ok : pplaceE.ok Try.prog 78 := by
  intro xs os b r h h3
  unfold pplaceE at h
  simp only at h
  split at h
  · injection h with h; injection h with h1 h2; subst h1; subst h2
    exact pplace_con _ _ h3
  · cases h
theorem cmark_runs : K.conjN 63 (fun j => K.bodyF (envL [(77, pstepE)]) (K.runF (envL [(77, pstepE)]) 30) 74 [.int .i64 (Int.ofNat j)] (Heap.of []) .auto (K.endC K.shutE 0 ⟨.ret (.int .u8 (S.st (Int.ofNat j))), [], []⟩)) = K.trueN 63 := by kernel_rfl
theorem cmark_con (n : Int) (h0 : S.inR n 63 = true) : HT Try.prog 74 [.int .i64 n] (Heap.of []) (.ret (.int .u8 (S.st n))) (Heap.of []) := by
  have h1 := S.inR_iff.1 h0
  have h := K.conj_of cmark_runs n.toNat (by omega)
  simp only [show Int.ofNat n.toNat = n from Int.toNat_of_nonneg h1.1] at h
  refine K.con_of_run good (envL_ok ?_) K.shutE_ok h
  intro p hp; simp only [List.mem_cons, List.not_mem_nil, or_false] at hp; subst hp; exact pstep_ok
theorem cmark_ok : cmarkE.ok Try.prog 74 := by
  intro xs os b r h h3
  unfold cmarkE at h
  simp only at h
  split at h
  · injection h with h; injection h with h1 h2; subst h1; subst h2
    exact cmark_con _ h3
  · cases h
theorem rmark_runs : K.conjN 63 (fun j => K.bodyF (envL []) (K.runF (envL []) 30) 28 [.int .i64 (Int.ofNat j)] (Heap.of []) .auto (K.endC K.shutE 0 ⟨.ret (.int .u8 (S.st (Int.ofNat j))), [], []⟩)) = K.trueN 63 := by kernel_rfl
theorem rmark_con (n : Int) (h0 : S.inR n 63 = true) : HT Try.prog 28 [.int .i64 n] (Heap.of []) (.ret (.int .u8 (S.st n))) (Heap.of []) := by
  have h1 := S.inR_iff.1 h0
  have h := K.conj_of rmark_runs n.toNat (by omega)
  simp only [show Int.ofNat n.toNat = n from Int.toNat_of_nonneg h1.1] at h
  refine K.con_of_run good (envL_ok ?_) K.shutE_ok h
  intro p hp; cases hp
theorem rmark_ok : rmarkE.ok Try.prog 28 := by
  intro xs os b r h h3
  unfold rmarkE at h
  simp only at h
  split at h
  · injection h with h; injection h with h1 h2; subst h1; subst h2
    exact rmark_con _ h3
  · cases h
theorem dTick_run (a n : Int) : K.bodyF (envL []) (K.runF (envL []) 30) 19 [.ptr 0 0] (Heap.of [.cells 89 .exact [.int .i64 a, .int .i64 n]]) Hint.auto (K.endC K.openE 1 ⟨.ret (.bool (notB (ltI (a+1) n))), [(0, .cells 89 .exact [.int .i64 (bc (ltI (a+1) n) (a+1) 0), .int .i64 n])], []⟩) =
    (bc (notB (ltI (wrapK IntKind.i64 (a + (1 : Int))) n)) (notB (ltI (a + (1 : Int)) n) = true ∧ (bc (ltI (a + (1 : Int)) n) (a + (1 : Int)) (0 : Int) = (0 : Int) ∧ (n = n ∧ True))) (notB (ltI (a + (1 : Int)) n) = false ∧ (bc (ltI (a + (1 : Int)) n) (a + (1 : Int)) (0 : Int) = wrapK IntKind.i64 (a + (1 : Int)) ∧ (n = n ∧ True)))) := by kernel_rfl
theorem dTick_con (a n : Int) (h0 : S.inR a 65536 = true) : HT Try.prog 19 [.ptr 0 0] (Heap.of [.cells 89 .exact [.int .i64 a, .int .i64 n]]) (⟨.ret (.bool (notB (ltI (a+1) n))), [(0, .cells 89 .exact [.int .i64 (bc (ltI (a+1) n) (a+1) 0), .int .i64 n])], []⟩ : K.CRes).e (Heap.of (K.chg [.cells 89 .exact [.int .i64 a, .int .i64 n]] (⟨.ret (.bool (notB (ltI (a+1) n))), [(0, .cells 89 .exact [.int .i64 (bc (ltI (a+1) n) (a+1) 0), .int .i64 n])], []⟩ : K.CRes).ch ++ (⟨.ret (.bool (notB (ltI (a+1) n))), [(0, .cells 89 .exact [.int .i64 (bc (ltI (a+1) n) (a+1) 0), .int .i64 n])], []⟩ : K.CRes).new)) := by
  refine K.con_of_run good (A := envL []) (envL_ok ?_) K.openE_ok (k := 30) (cast (dTick_run a n).symm ?_)
  · intro p hp; cases hp
  · have h1 := S.inR_iff.1 h0
    have e : wrapK .i64 (a + 1) = a + 1 := by rw [wrapK_i64]; omega
    rw [e]
    cases hb : ltI (a + 1) n <;> simp [hb, notB]
theorem dTick_ok : dTickE.ok Try.prog 19 := by
  intro xs os b r h h3
  unfold dTickE at h
  simp only at h
  split at h
  · injection h with h; injection h with h1 h2; subst h1; subst h2
    exact dTick_con _ _ h3
  · cases h
theorem dCount_run (a n : Int) : K.bodyF (envL []) (K.runF (envL []) 30) 20 [.ptr 0 0] (Heap.of [.cells 89 .exact [.int .i64 a, .int .i64 n]]) Hint.auto (K.endC K.openE 1 ⟨.ret (.int .i64 a), [], []⟩) =
    ((a = a ∧ True)) := by kernel_rfl
theorem dCount_con (a n : Int) : HT Try.prog 20 [.ptr 0 0] (Heap.of [.cells 89 .exact [.int .i64 a, .int .i64 n]]) (⟨.ret (.int .i64 a), [], []⟩ : K.CRes).e (Heap.of (K.chg [.cells 89 .exact [.int .i64 a, .int .i64 n]] (⟨.ret (.int .i64 a), [], []⟩ : K.CRes).ch ++ (⟨.ret (.int .i64 a), [], []⟩ : K.CRes).new)) := by
  refine K.con_of_run good (A := envL []) (envL_ok ?_) K.openE_ok (k := 30) (cast (dCount_run a n).symm ?_)
  · intro p hp; cases hp
  · repeat' (first | (refine bcI (fun _ => ?_) (fun _ => ?_)) | (refine And.intro ?_ ?_))
    all_goals first | rfl | trivial | assumption | (simp_all only [ltI_true, ltI_false, eqI_true, eqI_false, notB_true, notB_false, wrapK_i64, wrapK_u8, wrapK_u16, S.inR_iff]; done) | (simp only [ltI_true, ltI_false, eqI_true, eqI_false, notB_true, notB_false, wrapK_i64, wrapK_u8, wrapK_u16, S.inR_iff] at *; omega)
theorem dCount_ok : dCountE.ok Try.prog 20 := by
  intro xs os b r h h3
  unfold dCountE at h
  simp only at h
  split at h
  · injection h with h; injection h with h1 h2; subst h1; subst h2
    exact dCount_con _ _
  · cases h
theorem dSet_run (a n v : Int) : K.bodyF (envL []) (K.runF (envL []) 30) 17 [.ptr 0 0, .int .i64 v] (Heap.of [.cells 89 .exact [.int .i64 a, .int .i64 n]]) Hint.auto (K.endC K.openE 1 ⟨.ret (.int .i64 (bc (S.inR v n) 0 6)), [(0, .cells 89 .exact [.int .i64 (bc (S.inR v n) v a), .int .i64 n])], []⟩) =
    (bc (ltI v (0 : Int)) (bc (S.inR v n) (0 : Int) (6 : Int) = (6 : Int) ∧ (bc (S.inR v n) v a = a ∧ (n = n ∧ True))) (bc (notB (ltI v n)) (bc (S.inR v n) (0 : Int) (6 : Int) = (6 : Int) ∧ (bc (S.inR v n) v a = a ∧ (n = n ∧ True))) (bc (S.inR v n) (0 : Int) (6 : Int) = (0 : Int) ∧ (bc (S.inR v n) v a = v ∧ (n = n ∧ True))))) := by kernel_rfl
theorem dSet_con (a n v : Int) : HT Try.prog 17 [.ptr 0 0, .int .i64 v] (Heap.of [.cells 89 .exact [.int .i64 a, .int .i64 n]]) (⟨.ret (.int .i64 (bc (S.inR v n) 0 6)), [(0, .cells 89 .exact [.int .i64 (bc (S.inR v n) v a), .int .i64 n])], []⟩ : K.CRes).e (Heap.of (K.chg [.cells 89 .exact [.int .i64 a, .int .i64 n]] (⟨.ret (.int .i64 (bc (S.inR v n) 0 6)), [(0, .cells 89 .exact [.int .i64 (bc (S.inR v n) v a), .int .i64 n])], []⟩ : K.CRes).ch ++ (⟨.ret (.int .i64 (bc (S.inR v n) 0 6)), [(0, .cells 89 .exact [.int .i64 (bc (S.inR v n) v a), .int .i64 n])], []⟩ : K.CRes).new)) := by
  refine K.con_of_run good (A := envL []) (envL_ok ?_) K.openE_ok (k := 30) (cast (dSet_run a n v).symm ?_)
  · intro p hp; cases hp
  · unfold S.inR
    cases h1 : ltI v 0 <;> cases h2 : ltI v n <;> simp [notB]
theorem dSet_ok : dSetE.ok Try.prog 17 := by
  intro xs os b r h h3
  unfold dSetE at h
  simp only at h
  split at h
  · injection h with h; injection h with h1 h2; subst h1; subst h2
    exact dSet_con _ _ _
  · cases h
theorem cTick_run (s l n : Int) : K.bodyF (envL [(77, pstepE)]) (K.runF (envL [(77, pstepE)]) 30) 23 [.ptr 0 0] (Heap.of [.cells 93 .exact [.ptr 1 0, .int .u8 l, .int .i64 n], .cells 110 .exact [.int .u8 s, .int .i64 6, .int .i64 1]]) Hint.auto (K.endC K.openE 2 ⟨.ret (.bool (eqI s l)), [(1, .cells 110 .exact [.int .u8 (bc (eqI s l) 0 (S.nx s)), .int .i64 6, .int .i64 1])], []⟩) =
    (bc (eqI s l) (eqI s l = true ∧ (bc (eqI s l) (0 : Int) (S.nx s) = (0 : Int) ∧ ((6 : Int) = (6 : Int) ∧ ((1 : Int) = (1 : Int) ∧ True)))) (bc (S.isSt s) (eqI s l = false ∧ (bc (eqI s l) (0 : Int) (S.nx s) = S.nx s ∧ ((6 : Int) = (6 : Int) ∧ ((1 : Int) = (1 : Int) ∧ True)))) False)) := by kernel_rfl
theorem cTick_con (s l n : Int) (h0 : S.isSt s = true) : HT Try.prog 23 [.ptr 0 0] (Heap.of [.cells 93 .exact [.ptr 1 0, .int .u8 l, .int .i64 n], .cells 110 .exact [.int .u8 s, .int .i64 6, .int .i64 1]]) (⟨.ret (.bool (eqI s l)), [(1, .cells 110 .exact [.int .u8 (bc (eqI s l) 0 (S.nx s)), .int .i64 6, .int .i64 1])], []⟩ : K.CRes).e (Heap.of (K.chg [.cells 93 .exact [.ptr 1 0, .int .u8 l, .int .i64 n], .cells 110 .exact [.int .u8 s, .int .i64 6, .int .i64 1]] (⟨.ret (.bool (eqI s l)), [(1, .cells 110 .exact [.int .u8 (bc (eqI s l) 0 (S.nx s)), .int .i64 6, .int .i64 1])], []⟩ : K.CRes).ch ++ (⟨.ret (.bool (eqI s l)), [(1, .cells 110 .exact [.int .u8 (bc (eqI s l) 0 (S.nx s)), .int .i64 6, .int .i64 1])], []⟩ : K.CRes).new)) := by
  refine K.con_of_run good (A := envL [(77, pstepE)]) (envL_ok ?_) K.openE_ok (k := 30) (cast (cTick_run s l n).symm ?_)
  · intro p hp; simp only [List.mem_cons, List.not_mem_nil, or_false] at hp; rcases hp with rfl <;> first | exact pstep_ok
  · have h1 := h0
    cases hb : eqI s l <;> simp [hb, h0]
theorem cTick_ok : cTickE.ok Try.prog 23 := by
  intro xs os b r h h3
  unfold cTickE at h
  simp only at h
  split at h
  · injection h with h; injection h with h1 h2; subst h1; subst h2
    exact cTick_con _ _ _ h3
  · cases h
theorem cCount_run (s l n : Int) : K.bodyF (envL [(78, pplaceE)]) (K.runF (envL [(78, pplaceE)]) 30) 24 [.ptr 0 0] (Heap.of [.cells 93 .exact [.ptr 1 0, .int .u8 l, .int .i64 n], .cells 110 .exact [.int .u8 s, .int .i64 6, .int .i64 1]]) Hint.auto (K.endC K.openE 2 ⟨.ret (.int .i64 (S.ix s)), [], []⟩) =
    (bc (S.isSt s) (S.ix s = S.ix s ∧ True) False) := by kernel_rfl
theorem cCount_con (s l n : Int) (h0 : S.isSt s = true) : HT Try.prog 24 [.ptr 0 0] (Heap.of [.cells 93 .exact [.ptr 1 0, .int .u8 l, .int .i64 n], .cells 110 .exact [.int .u8 s, .int .i64 6, .int .i64 1]]) (⟨.ret (.int .i64 (S.ix s)), [], []⟩ : K.CRes).e (Heap.of (K.chg [.cells 93 .exact [.ptr 1 0, .int .u8 l, .int .i64 n], .cells 110 .exact [.int .u8 s, .int .i64 6, .int .i64 1]] (⟨.ret (.int .i64 (S.ix s)), [], []⟩ : K.CRes).ch ++ (⟨.ret (.int .i64 (S.ix s)), [], []⟩ : K.CRes).new)) := by
  refine K.con_of_run good (A := envL [(78, pplaceE)]) (envL_ok ?_) K.openE_ok (k := 30) (cast (cCount_run s l n).symm ?_)
  · intro p hp; simp only [List.mem_cons, List.not_mem_nil, or_false] at hp; rcases hp with rfl <;> first | exact pplace_ok
  · simp [h0]
theorem cCount_ok : cCountE.ok Try.prog 24 := by
  intro xs os b r h h3
  unfold cCountE at h
  simp only at h
  split at h
  · injection h with h; injection h with h1 h2; subst h1; subst h2
    exact cCount_con _ _ _ h3
  · cases h
theorem cMark_run (s l n : Int) : K.bodyF (envL []) (K.runF (envL []) 30) 25 [.ptr 0 0] (Heap.of [.cells 93 .exact [.ptr 1 0, .int .u8 l, .int .i64 n], .cells 110 .exact [.int .u8 s, .int .i64 6, .int .i64 1]]) Hint.auto (K.endC K.openE 2 ⟨.ret (.int .u8 s), [], []⟩) =
    ((s = s ∧ True)) := by kernel_rfl
theorem cMark_con (s l n : Int) : HT Try.prog 25 [.ptr 0 0] (Heap.of [.cells 93 .exact [.ptr 1 0, .int .u8 l, .int .i64 n], .cells 110 .exact [.int .u8 s, .int .i64 6, .int .i64 1]]) (⟨.ret (.int .u8 s), [], []⟩ : K.CRes).e (Heap.of (K.chg [.cells 93 .exact [.ptr 1 0, .int .u8 l, .int .i64 n], .cells 110 .exact [.int .u8 s, .int .i64 6, .int .i64 1]] (⟨.ret (.int .u8 s), [], []⟩ : K.CRes).ch ++ (⟨.ret (.int .u8 s), [], []⟩ : K.CRes).new)) := by
  refine K.con_of_run good (A := envL []) (envL_ok ?_) K.openE_ok (k := 30) (cast (cMark_run s l n).symm ?_)
  · intro p hp; cases hp
  · simp
theorem cMark_ok : cMarkE.ok Try.prog 25 := by
  intro xs os b r h h3
  unfold cMarkE at h
  simp only at h
  split at h
  · injection h with h; injection h with h1 h2; subst h1; subst h2
    exact cMark_con _ _ _
  · cases h
theorem cAt_run (s l n i : Int) : K.bodyF (envL [(74, cmarkE)]) (K.runF (envL [(74, cmarkE)]) 30) 26 [.ptr 0 0, .int .i64 i] (Heap.of [.cells 93 .exact [.ptr 1 0, .int .u8 l, .int .i64 n], .cells 110 .exact [.int .u8 s, .int .i64 6, .int .i64 1]]) Hint.auto (K.endC K.openE 2 ⟨.ret (.bool (S.an (S.inR i n) (eqI s (S.st i)))), [], []⟩) =
    (bc (notB (ltI i (0 : Int))) (bc (ltI i n) (bc (S.inR i (63 : Int)) (S.an (S.inR i n) (eqI s (S.st i)) = eqI s (S.st i) ∧ True) False) (S.an (S.inR i n) (eqI s (S.st i)) = false ∧ True)) (S.an (S.inR i n) (eqI s (S.st i)) = false ∧ True)) := by kernel_rfl
theorem cAt_con (s l n i : Int) (h0 : ltI n 64 = true) : HT Try.prog 26 [.ptr 0 0, .int .i64 i] (Heap.of [.cells 93 .exact [.ptr 1 0, .int .u8 l, .int .i64 n], .cells 110 .exact [.int .u8 s, .int .i64 6, .int .i64 1]]) (⟨.ret (.bool (S.an (S.inR i n) (eqI s (S.st i)))), [], []⟩ : K.CRes).e (Heap.of (K.chg [.cells 93 .exact [.ptr 1 0, .int .u8 l, .int .i64 n], .cells 110 .exact [.int .u8 s, .int .i64 6, .int .i64 1]] (⟨.ret (.bool (S.an (S.inR i n) (eqI s (S.st i)))), [], []⟩ : K.CRes).ch ++ (⟨.ret (.bool (S.an (S.inR i n) (eqI s (S.st i)))), [], []⟩ : K.CRes).new)) := by
  refine K.con_of_run good (A := envL [(74, cmarkE)]) (envL_ok ?_) K.openE_ok (k := 30) (cast (cAt_run s l n i).symm ?_)
  · intro p hp; simp only [List.mem_cons, List.not_mem_nil, or_false] at hp; rcases hp with rfl <;> first | exact cmark_ok
  · repeat' (first | (refine bcI (fun _ => ?_) (fun _ => ?_)) | (refine And.intro ?_ ?_))
    all_goals (try simp_all only [notB_true, notB_false, notB_t, notB_f, S.an, S.inR, bc_true, bc_false, reduceCtorEq, Bool.false_eq_true, Bool.true_eq_false])
    all_goals (try (simp only [ltI_true, ltI_false, eqI_true, eqI_false, wrapK_i64, wrapK_u8] at *; omega))
theorem cAt_ok : cAtE.ok Try.prog 26 := by
  intro xs os b r h h3
  unfold cAtE at h
  simp only at h
  split at h
  · injection h with h; injection h with h1 h2; subst h1; subst h2
    exact cAt_con _ _ _ _ h3
  · cases h
theorem cSet_run (s l n i : Int) : K.bodyF (envL [(74, cmarkE)]) (K.runF (envL [(74, cmarkE)]) 30) 22 [.ptr 0 0, .int .i64 i] (Heap.of [.cells 93 .exact [.ptr 1 0, .int .u8 l, .int .i64 n], .cells 110 .exact [.int .u8 s, .int .i64 6, .int .i64 1]]) Hint.auto (K.endC K.openE 2 ⟨.ret (.int .i64 (bc (S.inR i n) 0 6)), [(1, .cells 110 .exact [.int .u8 (bc (S.inR i n) (S.st i) s), .int .i64 6, .int .i64 1])], []⟩) =
    (bc (ltI i (0 : Int)) (bc (S.inR i n) (0 : Int) (6 : Int) = (6 : Int) ∧ (bc (S.inR i n) (S.st i) s = s ∧ ((6 : Int) = (6 : Int) ∧ ((1 : Int) = (1 : Int) ∧ True)))) (bc (notB (ltI i n)) (bc (S.inR i n) (0 : Int) (6 : Int) = (6 : Int) ∧ (bc (S.inR i n) (S.st i) s = s ∧ ((6 : Int) = (6 : Int) ∧ ((1 : Int) = (1 : Int) ∧ True)))) (bc (S.inR i (63 : Int)) (bc (notB (eqI ((wrapK IntKind.i64 (S.st i)).fdiv ((2 : Int) ^ min (Int.toNat (6 : Int)) (nat_lit 64))) (0 : Int))) (bc (S.inR i n) (0 : Int) (6 : Int) = (6 : Int) ∧ (bc (S.inR i n) (S.st i) s = s ∧ ((6 : Int) = (6 : Int) ∧ ((1 : Int) = (1 : Int) ∧ True)))) (bc (S.inR i n) (0 : Int) (6 : Int) = (0 : Int) ∧ (bc (S.inR i n) (S.st i) s = S.st i ∧ ((6 : Int) = (6 : Int) ∧ ((1 : Int) = (1 : Int) ∧ True))))) False))) := by kernel_rfl
theorem cSet_con (s l n i : Int) (h0 : ltI n 64 = true) : HT Try.prog 22 [.ptr 0 0, .int .i64 i] (Heap.of [.cells 93 .exact [.ptr 1 0, .int .u8 l, .int .i64 n], .cells 110 .exact [.int .u8 s, .int .i64 6, .int .i64 1]]) (⟨.ret (.int .i64 (bc (S.inR i n) 0 6)), [(1, .cells 110 .exact [.int .u8 (bc (S.inR i n) (S.st i) s), .int .i64 6, .int .i64 1])], []⟩ : K.CRes).e (Heap.of (K.chg [.cells 93 .exact [.ptr 1 0, .int .u8 l, .int .i64 n], .cells 110 .exact [.int .u8 s, .int .i64 6, .int .i64 1]] (⟨.ret (.int .i64 (bc (S.inR i n) 0 6)), [(1, .cells 110 .exact [.int .u8 (bc (S.inR i n) (S.st i) s), .int .i64 6, .int .i64 1])], []⟩ : K.CRes).ch ++ (⟨.ret (.int .i64 (bc (S.inR i n) 0 6)), [(1, .cells 110 .exact [.int .u8 (bc (S.inR i n) (S.st i) s), .int .i64 6, .int .i64 1])], []⟩ : K.CRes).new)) := by
  refine K.con_of_run good (A := envL [(74, cmarkE)]) (envL_ok ?_) K.openE_ok (k := 30) (cast (cSet_run s l n i).symm ?_)
  · intro p hp; simp only [List.mem_cons, List.not_mem_nil, or_false] at hp; rcases hp with rfl <;> first | exact cmark_ok
  · have e : S.inR i 63 = true → eqI ((wrapK .i64 (S.st i)).fdiv ((2 : Int) ^ min (Int.toNat 6) 64)) 0 = true := fun h => by
      have h1 := S.inR_iff.1 h
      have h2 := S.st_bd h1.1 h1.2
      rw [eqI_true, wrapK_i64, show ((2 : Int) ^ min (Int.toNat 6) 64) = 64 from rfl, show (S.st i + 9223372036854775808) % 18446744073709551616 - 9223372036854775808 = S.st i by omega, Int.fdiv_eq_ediv_of_nonneg _ (by omega)]
      omega
    repeat' (first | (refine bcI (fun _ => ?_) (fun _ => ?_)) | (refine And.intro ?_ ?_))
    all_goals (try simp_all only [notB_true, notB_false, notB_t, notB_f, S.an, S.inR, bc_true, bc_false, reduceCtorEq, Bool.false_eq_true, Bool.true_eq_false])
    all_goals (try (simp only [ltI_true, ltI_false, eqI_true, eqI_false, wrapK_i64, wrapK_u8] at *; omega))
theorem cSet_ok : cSetE.ok Try.prog 22 := by
  intro xs os b r h h3
  unfold cSetE at h
  simp only at h
  split at h
  · injection h with h; injection h with h1 h2; subst h1; subst h2
    exact cSet_con _ _ _ _ h3
  · cases h
end Go.Proofs.Ytmnpnomllcghmaa.Ev
