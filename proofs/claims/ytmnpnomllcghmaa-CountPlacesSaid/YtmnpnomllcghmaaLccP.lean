/- Contracts, proved: Lcc. -/
import Derived.Test.YtmnpnomllcghmaaLccD
import Derived.Test.YtmnpnomllcghmaaCntP
namespace Go.Proofs.Ytmnpnomllcghmaa.Ev
open Go
set_option linter.unusedVariables false
set_option linter.unusedSimpArgs false
set_option maxRecDepth 100000
namespace S
theorem eqI_self (a : Int) : eqI a a = true := eqI_true.2 rfl
theorem st0 : st 0 = 0 := by decide +kernel
theorem cc_at {s n a : Int} (h2 : n ≤ 63) (h3 : 0 ≤ a) (h4 : a < n) : an (inR s n) (eqI (st a) (st s)) = eqI s a := by
  rw [Bool.eq_iff_iff, an_iff, inR_iff, eqI_true, eqI_true]
  constructor
  · rintro ⟨⟨h5, h6⟩, h7⟩
    exact (st_inj h3 (by omega) h5 (by omega) h7).symm
  · rintro rfl; exact ⟨⟨h3, h4⟩, rfl⟩
theorem cc_mod {n a : Int} (h3 : 0 ≤ a) (h4 : a < n) : (a + 1) % n = if a = n - 1 then 0 else a + 1 := by
  split
  · rename_i h; subst h; rw [show n - 1 + 1 = n by omega]; exact Int.emod_self
  · exact Int.emod_eq_of_lt (by omega) (by omega)
theorem cc_again {n a : Int} (h2 : n ≤ 63) (h3 : 0 ≤ a) (h4 : a < n) : eqI (st a) (st (n - 1)) = eqI ((a + 1) % n) 0 := by
  rw [Bool.eq_iff_iff, eqI_true, eqI_true, cc_mod h3 h4]
  constructor
  · intro h; rw [if_pos (st_inj h3 (by omega) (by omega) (by omega) h)]
  · intro h; split at h
    · rename_i e; rw [← e]
    · omega
theorem cc_next {n a : Int} (h2 : n ≤ 63) (h3 : 0 ≤ a) (h4 : a < n) : bc (eqI (st a) (st (n - 1))) 0 (nx (st a)) = st ((a + 1) % n) := by
  rw [nx_st h3 (by omega), cc_mod h3 h4]
  by_cases e : a = n - 1
  · rw [if_pos e, ← e, eqI_self, bc_true, st0]
  · rw [if_neg e, show eqI (st a) (st (n - 1)) = false from eqI_false.2 fun h => e (st_inj h3 (by omega) (by omega) (by omega) h), bc_false, Int.emod_eq_of_lt (by omega) (by omega)]
theorem okCc_iff {n m a l k t : Int} (h : okCc n m a l k t = true) : n = m ∧ 1 ≤ n ∧ n ≤ 63 ∧ 0 ≤ a ∧ a < n ∧ l = st (n - 1) ∧ t = st a ∧ 0 ≤ k ∧ k ≤ 255 := by
  unfold okCc at h
  simp only [an_iff, inR_iff, eqI_true] at h
  obtain ⟨h0, ⟨⟨⟨h1, h2⟩, h3, h4⟩, h5, h6⟩, h7, h8⟩ := h
  exact ⟨h0.symm, by omega, by omega, h3, h4, h5, h6, h7, by omega⟩
end S
theorem ccR_run (n s k l a i : Int) : K.RunB (envL [(24, cCountE), (25, cMarkE), (28, rmarkE), (26, cAtE), (23, cTickE)]) K.openE 30 4 136 (inner (inner (blkOf 4 0))) [(1, .ptr 0 0), (3, .ptr 1 0), (5, .int .i64 a), (6, .int .i64 i)] [.cells 30 .exact [.int .i64 n, .int .i64 s, .int .u8 k], .cells 93 .exact [.ptr 2 0, .int .u8 l, .int .i64 n], .cells 110 .exact [.int .u8 (S.st a), .int .i64 6, .int .i64 1]] Hint.auto ⟨.normal, [(1, .ptr 0 0), (3, .ptr 1 0), (5, .int .i64 ((a + 1) % n)), (6, .int .i64 (i + 1))], [(2, .cells 110 .exact [.int .u8 (S.st ((a + 1) % n)), .int .i64 6, .int .i64 1])], []⟩ =
    (bc (ltI i (wrapK IntKind.i64 k)) (bc (eqI n (0 : Int)) False (bc (eqI n (0 : Int)) False (bc (S.isSt (S.st a)) (bc (notB (eqI (S.ix (S.st a)) a)) False (bc (S.inR a (63 : Int)) (bc (notB (eqI (S.st a) (S.st a))) False (bc (ltI n (64 : Int)) (bc (notB (S.an (S.inR a n) (eqI (S.st a) (S.st a)))) False (bc (ltI n (64 : Int)) (bc (!S.an (S.inR s n) (eqI (S.st a) (S.st s)) == eqI s a) False (bc (S.isSt (S.st a)) (bc (!eqI (S.st a) l == eqI ((wrapK IntKind.i64 (a + (1 : Int))).tmod n) (0 : Int)) False ((0 : Nat) = (0 : Nat) ∧ ((0 : Nat) = (0 : Nat) ∧ ((a + (1 : Int)) % n = (wrapK IntKind.i64 (a + (1 : Int))).tmod n ∧ (i + (1 : Int) = wrapK IntKind.i64 (i + (1 : Int)) ∧ (S.st ((a + (1 : Int)) % n) = bc (eqI (S.st a) l) (0 : Int) (S.nx (S.st a)) ∧ ((6 : Int) = (6 : Int) ∧ ((1 : Int) = (1 : Int) ∧ True)))))))) False)) False)) False)) False)) False))) False) := by kernel_rfl
theorem ccR_con (n s k l a i : Int) (h0 : 1 ≤ n) (h1 : n ≤ 63) (h2 : 0 ≤ a) (h3 : a < n) (h4 : l = S.st (n - 1)) (h5 : 0 ≤ k) (h6 : k ≤ 255) (h7 : 0 ≤ i) (h8 : i < k) : CT Try.prog (inner (inner (blkOf 4 0))) (Fr.ofL 4 136 [(1, .ptr 0 0), (3, .ptr 1 0), (5, .int .i64 a), (6, .int .i64 i)] [] none) (Heap.of [.cells 30 .exact [.int .i64 n, .int .i64 s, .int .u8 k], .cells 93 .exact [.ptr 2 0, .int .u8 l, .int .i64 n], .cells 110 .exact [.int .u8 (S.st a), .int .i64 6, .int .i64 1]]) (⟨.normal, [(1, .ptr 0 0), (3, .ptr 1 0), (5, .int .i64 ((a + 1) % n)), (6, .int .i64 (i + 1))], [(2, .cells 110 .exact [.int .u8 (S.st ((a + 1) % n)), .int .i64 6, .int .i64 1])], []⟩ : K.BRes).x (Fr.ofL 4 136 (⟨.normal, [(1, .ptr 0 0), (3, .ptr 1 0), (5, .int .i64 ((a + 1) % n)), (6, .int .i64 (i + 1))], [(2, .cells 110 .exact [.int .u8 (S.st ((a + 1) % n)), .int .i64 6, .int .i64 1])], []⟩ : K.BRes).L [] none) (Heap.of (K.chg [.cells 30 .exact [.int .i64 n, .int .i64 s, .int .u8 k], .cells 93 .exact [.ptr 2 0, .int .u8 l, .int .i64 n], .cells 110 .exact [.int .u8 (S.st a), .int .i64 6, .int .i64 1]] (⟨.normal, [(1, .ptr 0 0), (3, .ptr 1 0), (5, .int .i64 ((a + 1) % n)), (6, .int .i64 (i + 1))], [(2, .cells 110 .exact [.int .u8 (S.st ((a + 1) % n)), .int .i64 6, .int .i64 1])], []⟩ : K.BRes).ch ++ (⟨.normal, [(1, .ptr 0 0), (3, .ptr 1 0), (5, .int .i64 ((a + 1) % n)), (6, .int .i64 (i + 1))], [(2, .cells 110 .exact [.int .u8 (S.st ((a + 1) % n)), .int .i64 6, .int .i64 1])], []⟩ : K.BRes).new)) := by
  refine K.code_of_run good (A := envL [(24, cCountE), (25, cMarkE), (28, rmarkE), (26, cAtE), (23, cTickE)]) (envL_ok ?_) K.openE_ok (k := 30) (cast (ccR_run n s k l a i).symm ?_)
  · intro p hp; simp only [List.mem_cons, List.not_mem_nil, or_false] at hp; rcases hp with rfl | rfl | rfl | rfl | rfl <;> first | exact cCount_ok | exact cMark_ok | exact rmark_ok | exact cAt_ok | exact cTick_ok
  · subst h4
    have w1 : wrapK .i64 k = k := by rw [wrapK_i64]; omega
    have w2 : wrapK .i64 (a + 1) = a + 1 := by rw [wrapK_i64]; omega
    have w3 : wrapK .i64 (i + 1) = i + 1 := by rw [wrapK_i64]; omega
    have e1 : ltI i k = true := ltI_true.2 h8
    have e2 : eqI n 0 = false := eqI_false.2 (by omega)
    have e3 := S.isSt_st h2 (show a < 63 by omega)
    have e4 := S.ix_st h2 (show a < 63 by omega)
    have e5 : S.inR a 63 = true := S.inR_iff.2 (by omega)
    have e6 : ltI n 64 = true := ltI_true.2 (by omega)
    have e7 : S.inR a n = true := S.inR_iff.2 ⟨h2, h3⟩
    have e8 := S.cc_at (s := s) h1 h2 h3
    have e9 := S.cc_again h1 h2 h3
    have e10 := S.cc_next h1 h2 h3
    have e11 : (a + 1).tmod n = (a + 1) % n := Int.tmod_eq_emod_of_nonneg (by omega)
    rw [w1, w2, w3, e1, e2, e3, e4, e5, e6, e7, e8, e9, e11, ← e10, e9]
    simp [S.eqI_self, S.an, notB]
theorem ccX_run (n s k l a i : Int) : K.RunB (envL [(24, cCountE), (25, cMarkE), (28, rmarkE), (26, cAtE), (23, cTickE)]) K.openE 30 4 136 (inner (inner (blkOf 4 0))) [(1, .ptr 0 0), (3, .ptr 1 0), (5, .int .i64 a), (6, .int .i64 i)] [.cells 30 .exact [.int .i64 n, .int .i64 s, .int .u8 k], .cells 93 .exact [.ptr 2 0, .int .u8 l, .int .i64 n], .cells 110 .exact [.int .u8 (S.st a), .int .i64 6, .int .i64 1]] Hint.auto ⟨.exit 0, [(1, .ptr 0 0), (3, .ptr 1 0), (5, .int .i64 a), (6, .int .i64 i)], [], []⟩ =
    (bc (ltI i (wrapK IntKind.i64 k)) (bc (eqI n (0 : Int)) False (bc (eqI n (0 : Int)) False (bc (S.isSt (S.st a)) (bc (notB (eqI (S.ix (S.st a)) a)) False (bc (S.inR a (63 : Int)) (bc (notB (eqI (S.st a) (S.st a))) False (bc (ltI n (64 : Int)) (bc (notB (S.an (S.inR a n) (eqI (S.st a) (S.st a)))) False (bc (ltI n (64 : Int)) (bc (!S.an (S.inR s n) (eqI (S.st a) (S.st s)) == eqI s a) False (bc (S.isSt (S.st a)) (bc (!eqI (S.st a) l == eqI ((wrapK IntKind.i64 (a + (1 : Int))).tmod n) (0 : Int)) False False) False)) False)) False)) False)) False))) ((0 : Nat) = (0 : Nat) ∧ ((0 : Nat) = (0 : Nat) ∧ (a = a ∧ (i = i ∧ True))))) := by kernel_rfl
theorem ccX_con (n s k l a i : Int) (h0 : 0 ≤ k) (h1 : k ≤ 255) (h2 : i = k) : CT Try.prog (inner (inner (blkOf 4 0))) (Fr.ofL 4 136 [(1, .ptr 0 0), (3, .ptr 1 0), (5, .int .i64 a), (6, .int .i64 i)] [] none) (Heap.of [.cells 30 .exact [.int .i64 n, .int .i64 s, .int .u8 k], .cells 93 .exact [.ptr 2 0, .int .u8 l, .int .i64 n], .cells 110 .exact [.int .u8 (S.st a), .int .i64 6, .int .i64 1]]) (⟨.exit 0, [(1, .ptr 0 0), (3, .ptr 1 0), (5, .int .i64 a), (6, .int .i64 i)], [], []⟩ : K.BRes).x (Fr.ofL 4 136 (⟨.exit 0, [(1, .ptr 0 0), (3, .ptr 1 0), (5, .int .i64 a), (6, .int .i64 i)], [], []⟩ : K.BRes).L [] none) (Heap.of (K.chg [.cells 30 .exact [.int .i64 n, .int .i64 s, .int .u8 k], .cells 93 .exact [.ptr 2 0, .int .u8 l, .int .i64 n], .cells 110 .exact [.int .u8 (S.st a), .int .i64 6, .int .i64 1]] (⟨.exit 0, [(1, .ptr 0 0), (3, .ptr 1 0), (5, .int .i64 a), (6, .int .i64 i)], [], []⟩ : K.BRes).ch ++ (⟨.exit 0, [(1, .ptr 0 0), (3, .ptr 1 0), (5, .int .i64 a), (6, .int .i64 i)], [], []⟩ : K.BRes).new)) := by
  refine K.code_of_run good (A := envL [(24, cCountE), (25, cMarkE), (28, rmarkE), (26, cAtE), (23, cTickE)]) (envL_ok ?_) K.openE_ok (k := 30) (cast (ccX_run n s k l a i).symm ?_)
  · intro p hp; simp only [List.mem_cons, List.not_mem_nil, or_false] at hp; rcases hp with rfl | rfl | rfl | rfl | rfl <;> first | exact cCount_ok | exact cMark_ok | exact rmark_ok | exact cAt_ok | exact cTick_ok
  · have w1 : wrapK .i64 k = k := by rw [wrapK_i64]; omega
    rw [w1, show ltI i k = false from ltI_false.2 (by omega)]
    simp
theorem cc_blk (n m s k l a t : Int) (h : S.okCc n m a l k t = true) : K.BOk Try.prog 4 136 (blkOf 4 0) [1, 3, 5, 6] [.ptr 0 0, .ptr 1 0, .int .i64 a, .int .i64 0] [.cells 30 .exact [.int .i64 n, .int .i64 s, .int .u8 k], .cells 93 .exact [.ptr 2 0, .int .u8 l, .int .i64 m], .cells 110 .exact [.int .u8 t, .int .i64 6, .int .i64 1]] ⟨.normal, [(1, .ptr 0 0), (3, .ptr 1 0), (5, .int .i64 ((a + k) % n)), (6, .int .i64 k)], [(2, .cells 110 .exact [.int .u8 (S.st ((a + k) % n)), .int .i64 6, .int .i64 1])], []⟩ := by
  obtain ⟨rfl, h1, h2, h3, h4, rfl, rfl, h7, h8⟩ := S.okCc_iff h
  have hb : blkOf 4 0 = .block 0 (.loop (inner (inner (blkOf 4 0)))) := by kernel_rfl
  unfold K.BOk
  rw [hb]
  refine K.CT.block ?_
  have hk : ((k.toNat : Nat) : Int) = k := by omega
  have main := K.loop_count (P := Try.prog) (c := inner (inner (blkOf 4 0))) (fun j => Fr.ofL 4 136 [(1, .ptr 0 0), (3, .ptr 1 0), (5, .int .i64 ((a + (j : Nat)) % n)), (6, .int .i64 (j : Nat))] [] none)
    (fun j => Heap.of [.cells 30 .exact [.int .i64 n, .int .i64 s, .int .u8 k], .cells 93 .exact [.ptr 2 0, .int .u8 (S.st (n - 1)), .int .i64 n], .cells 110 .exact [.int .u8 (S.st ((a + (j : Nat)) % n)), .int .i64 6, .int .i64 1]]) k.toNat (x := .exit 0) (by simp) (fun j hj => ?_) (ccX_con n s k (S.st (n - 1)) ((a + (k.toNat : Nat)) % n) (k.toNat : Nat) h7 h8 hk)
  · rw [hk] at main
    have e0 : (a + ((0 : Nat) : Int)) % n = a := by rw [show a + ((0 : Nat) : Int) = a by omega]; exact Int.emod_eq_of_lt h3 h4
    simp only [e0] at main
    exact main
  · have h9 := Int.emod_nonneg (a + (j : Nat)) (show n ≠ 0 by omega)
    have h10 := Int.emod_lt_of_pos (a + (j : Nat)) (show 0 < n by omega)
    have := ccR_con n s k (S.st (n - 1)) ((a + (j : Nat)) % n) (j : Nat) h1 h2 h9 h10 rfl h7 h8 (by omega) (by omega)
    rw [Int.emod_add_emod, show a + (j : Int) + 1 = a + ((j + 1 : Nat) : Int) by omega] at this
    exact this
theorem awk2_run : K.bodyF (envL []) (K.runF (envL []) 30) 18 [] (Heap.of []) Hint.auto (K.endC K.openE 0 ⟨.ret (.bool true), [], []⟩) =
    ((true = eqI (wrapK IntKind.i64 (wrapK IntKind.i64 ((4 : Int) * (0 : Int)) + (0 : Int))) (0 : Int) ∧ True)) := by kernel_rfl
theorem awk2_con  : HT Try.prog 18 [] (Heap.of []) (⟨.ret (.bool true), [], []⟩ : K.CRes).e (Heap.of (K.chg [] (⟨.ret (.bool true), [], []⟩ : K.CRes).ch ++ (⟨.ret (.bool true), [], []⟩ : K.CRes).new)) := by
  refine K.con_of_run good (A := envL []) (envL_ok ?_) K.openE_ok (k := 30) (cast (awk2_run).symm ?_)
  · intro p hp; cases hp
  · exact ⟨rfl, trivial⟩
theorem awk2_ok : awk2E.ok Try.prog 18 := by
  intro xs os b r h h3
  unfold awk2E at h
  simp only at h
  split at h
  · injection h with h; injection h with h1 h2; subst h1; subst h2
    exact awk2_con
  · cases h
theorem ccTop_run (n s k : Int) : K.bodyF (envB [(24, cCountE), (25, cMarkE), (28, rmarkE), (26, cAtE), (23, cTickE), (22, cSetE), (74, cmarkE), (18, awk2E)] (fun g id => bc (Nat.beq g 4) (bc (Nat.beq id 0) (some ccB) (none)) (none))) (K.runF (envB [(24, cCountE), (25, cMarkE), (28, rmarkE), (26, cAtE), (23, cTickE), (22, cSetE), (74, cmarkE), (18, awk2E)] (fun g id => bc (Nat.beq g 4) (bc (Nat.beq id 0) (some ccB) (none)) (none))) 30) 4 [.agg [.int .i64 n, .int .i64 s, .int .u8 k]] (Heap.of []) Hint.auto (K.endC K.openE 0 ⟨.ret (.bool true), [], []⟩) =
    (bc (ltI n (1 : Int)) (bc (ltI n (1 : Int)) (true = true ∧ True) (bc (ltI (63 : Int) n) (true = true ∧ True) (bc (notB (ltI s (0 : Int))) (bc (ltI s n) (bc (!eqI (1 : Int) (0 : Int) == eqI s s) (true = false ∧ True) (true = false ∧ True)) (bc (!eqI (1 : Int) (0 : Int) == eqI (0 : Int) s) (true = false ∧ True) (true = false ∧ True))) (bc (!eqI (1 : Int) (0 : Int) == eqI (0 : Int) s) (true = false ∧ True) (true = false ∧ True))))) (bc (ltI (63 : Int) n) (bc (ltI n (1 : Int)) (true = true ∧ True) (bc (ltI (63 : Int) n) (true = true ∧ True) (bc (notB (ltI s (0 : Int))) (bc (ltI s n) (bc (!eqI (1 : Int) (0 : Int) == eqI s s) (true = false ∧ True) (true = false ∧ True)) (bc (!eqI (1 : Int) (0 : Int) == eqI (0 : Int) s) (true = false ∧ True) (true = false ∧ True))) (bc (!eqI (1 : Int) (0 : Int) == eqI (0 : Int) s) (true = false ∧ True) (true = false ∧ True))))) (bc (S.inR (wrapK IntKind.i64 (n - (1 : Int))) (63 : Int)) (bc (ltI n (64 : Int)) (bc (ltI n (1 : Int)) (true = false ∧ True) (bc (ltI (63 : Int) n) (true = false ∧ True) (bc (notB (ltI s (0 : Int))) (bc (ltI s n) (bc (!eqI (bc (S.inR s n) (0 : Int) (6 : Int)) (0 : Int) == eqI s s) (true = false ∧ True) (bc (notB (eqI (bc (S.inR s n) (0 : Int) (6 : Int)) (0 : Int))) (bc (notB (eqI (bc (S.inR s n) (0 : Int) (6 : Int)) (6 : Int))) (true = false ∧ True) (bc (S.okCc n n s (S.st (wrapK IntKind.i64 (n - (1 : Int)))) k (bc (S.inR s n) (S.st s) (0 : Int))) (K.BOk Try.prog 4 136 (blkOf 4 0) [(1 : Nat), (3 : Nat), (5 : Nat), (6 : Nat)] [LV.ptr (0 : Nat) (0 : Nat), LV.ptr (1 : Nat) (0 : Nat), LV.int IntKind.i64 s, LV.int IntKind.i64 (0 : Int)] [LObj.cells (30 : Nat) Own.exact [LV.int IntKind.i64 n, LV.int IntKind.i64 s, LV.int IntKind.u8 k], LObj.cells (93 : Nat) Own.exact [LV.ptr (2 : Nat) (0 : Nat), LV.int IntKind.u8 (S.st (wrapK IntKind.i64 (n - (1 : Int)))), LV.int IntKind.i64 n], LObj.cells (110 : TypeId) Own.exact [LV.int IntKind.u8 (bc (S.inR s n) (S.st s) (0 : Int)), LV.int IntKind.i64 (6 : Int), LV.int IntKind.i64 (1 : Int)]] { x := LX.normal, L := [((1 : Nat), LV.ptr (0 : Nat) (0 : Nat)), ((3 : Nat), LV.ptr (1 : Nat) (0 : Nat)), ((5 : Nat), LV.int IntKind.i64 ((s + k) % n)), ((6 : Nat), LV.int IntKind.i64 k)], ch := [((2 : Nat), LObj.cells (110 : TypeId) Own.exact [LV.int IntKind.u8 (S.st ((s + k) % n)), LV.int IntKind.i64 (6 : Int), LV.int IntKind.i64 (1 : Int)])], new := [] } ∧ bc (S.isSt (S.st ((s + k) % n))) (bc (eqI (S.ix (S.st ((s + k) % n))) ((s + k) % n)) (true = true ∧ True) (true = false ∧ True)) False) False)) (bc (S.okCc n n s (S.st (wrapK IntKind.i64 (n - (1 : Int)))) k (bc (S.inR s n) (S.st s) (0 : Int))) (K.BOk Try.prog 4 136 (blkOf 4 0) [(1 : Nat), (3 : Nat), (5 : Nat), (6 : Nat)] [LV.ptr (0 : Nat) (0 : Nat), LV.ptr (1 : Nat) (0 : Nat), LV.int IntKind.i64 s, LV.int IntKind.i64 (0 : Int)] [LObj.cells (30 : Nat) Own.exact [LV.int IntKind.i64 n, LV.int IntKind.i64 s, LV.int IntKind.u8 k], LObj.cells (93 : Nat) Own.exact [LV.ptr (2 : Nat) (0 : Nat), LV.int IntKind.u8 (S.st (wrapK IntKind.i64 (n - (1 : Int)))), LV.int IntKind.i64 n], LObj.cells (110 : TypeId) Own.exact [LV.int IntKind.u8 (bc (S.inR s n) (S.st s) (0 : Int)), LV.int IntKind.i64 (6 : Int), LV.int IntKind.i64 (1 : Int)]] { x := LX.normal, L := [((1 : Nat), LV.ptr (0 : Nat) (0 : Nat)), ((3 : Nat), LV.ptr (1 : Nat) (0 : Nat)), ((5 : Nat), LV.int IntKind.i64 ((s + k) % n)), ((6 : Nat), LV.int IntKind.i64 k)], ch := [((2 : Nat), LObj.cells (110 : TypeId) Own.exact [LV.int IntKind.u8 (S.st ((s + k) % n)), LV.int IntKind.i64 (6 : Int), LV.int IntKind.i64 (1 : Int)])], new := [] } ∧ bc (S.isSt (S.st ((s + k) % n))) (bc (eqI (S.ix (S.st ((s + k) % n))) ((s + k) % n)) (true = true ∧ True) (true = false ∧ True)) False) False))) (bc (!eqI (bc (S.inR s n) (0 : Int) (6 : Int)) (0 : Int) == eqI (0 : Int) s) (true = false ∧ True) (bc (notB (eqI (bc (S.inR s n) (0 : Int) (6 : Int)) (0 : Int))) (bc (notB (eqI (bc (S.inR s n) (0 : Int) (6 : Int)) (6 : Int))) (true = false ∧ True) (bc (S.okCc n n (0 : Int) (S.st (wrapK IntKind.i64 (n - (1 : Int)))) k (bc (S.inR s n) (S.st s) (0 : Int))) (K.BOk Try.prog 4 136 (blkOf 4 0) [(1 : Nat), (3 : Nat), (5 : Nat), (6 : Nat)] [LV.ptr (0 : Nat) (0 : Nat), LV.ptr (1 : Nat) (0 : Nat), LV.int IntKind.i64 (0 : Int), LV.int IntKind.i64 (0 : Int)] [LObj.cells (30 : Nat) Own.exact [LV.int IntKind.i64 n, LV.int IntKind.i64 s, LV.int IntKind.u8 k], LObj.cells (93 : Nat) Own.exact [LV.ptr (2 : Nat) (0 : Nat), LV.int IntKind.u8 (S.st (wrapK IntKind.i64 (n - (1 : Int)))), LV.int IntKind.i64 n], LObj.cells (110 : TypeId) Own.exact [LV.int IntKind.u8 (bc (S.inR s n) (S.st s) (0 : Int)), LV.int IntKind.i64 (6 : Int), LV.int IntKind.i64 (1 : Int)]] { x := LX.normal, L := [((1 : Nat), LV.ptr (0 : Nat) (0 : Nat)), ((3 : Nat), LV.ptr (1 : Nat) (0 : Nat)), ((5 : Nat), LV.int IntKind.i64 (((0 : Int) + k) % n)), ((6 : Nat), LV.int IntKind.i64 k)], ch := [((2 : Nat), LObj.cells (110 : TypeId) Own.exact [LV.int IntKind.u8 (S.st (((0 : Int) + k) % n)), LV.int IntKind.i64 (6 : Int), LV.int IntKind.i64 (1 : Int)])], new := [] } ∧ bc (S.isSt (S.st (((0 : Int) + k) % n))) (bc (eqI (S.ix (S.st (((0 : Int) + k) % n))) (((0 : Int) + k) % n)) (true = true ∧ True) (true = false ∧ True)) False) False)) (bc (S.okCc n n (0 : Int) (S.st (wrapK IntKind.i64 (n - (1 : Int)))) k (bc (S.inR s n) (S.st s) (0 : Int))) (K.BOk Try.prog 4 136 (blkOf 4 0) [(1 : Nat), (3 : Nat), (5 : Nat), (6 : Nat)] [LV.ptr (0 : Nat) (0 : Nat), LV.ptr (1 : Nat) (0 : Nat), LV.int IntKind.i64 (0 : Int), LV.int IntKind.i64 (0 : Int)] [LObj.cells (30 : Nat) Own.exact [LV.int IntKind.i64 n, LV.int IntKind.i64 s, LV.int IntKind.u8 k], LObj.cells (93 : Nat) Own.exact [LV.ptr (2 : Nat) (0 : Nat), LV.int IntKind.u8 (S.st (wrapK IntKind.i64 (n - (1 : Int)))), LV.int IntKind.i64 n], LObj.cells (110 : TypeId) Own.exact [LV.int IntKind.u8 (bc (S.inR s n) (S.st s) (0 : Int)), LV.int IntKind.i64 (6 : Int), LV.int IntKind.i64 (1 : Int)]] { x := LX.normal, L := [((1 : Nat), LV.ptr (0 : Nat) (0 : Nat)), ((3 : Nat), LV.ptr (1 : Nat) (0 : Nat)), ((5 : Nat), LV.int IntKind.i64 (((0 : Int) + k) % n)), ((6 : Nat), LV.int IntKind.i64 k)], ch := [((2 : Nat), LObj.cells (110 : TypeId) Own.exact [LV.int IntKind.u8 (S.st (((0 : Int) + k) % n)), LV.int IntKind.i64 (6 : Int), LV.int IntKind.i64 (1 : Int)])], new := [] } ∧ bc (S.isSt (S.st (((0 : Int) + k) % n))) (bc (eqI (S.ix (S.st (((0 : Int) + k) % n))) (((0 : Int) + k) % n)) (true = true ∧ True) (true = false ∧ True)) False) False)))) (bc (!eqI (bc (S.inR s n) (0 : Int) (6 : Int)) (0 : Int) == eqI (0 : Int) s) (true = false ∧ True) (bc (notB (eqI (bc (S.inR s n) (0 : Int) (6 : Int)) (0 : Int))) (bc (notB (eqI (bc (S.inR s n) (0 : Int) (6 : Int)) (6 : Int))) (true = false ∧ True) (bc (S.okCc n n (0 : Int) (S.st (wrapK IntKind.i64 (n - (1 : Int)))) k (bc (S.inR s n) (S.st s) (0 : Int))) (K.BOk Try.prog 4 136 (blkOf 4 0) [(1 : Nat), (3 : Nat), (5 : Nat), (6 : Nat)] [LV.ptr (0 : Nat) (0 : Nat), LV.ptr (1 : Nat) (0 : Nat), LV.int IntKind.i64 (0 : Int), LV.int IntKind.i64 (0 : Int)] [LObj.cells (30 : Nat) Own.exact [LV.int IntKind.i64 n, LV.int IntKind.i64 s, LV.int IntKind.u8 k], LObj.cells (93 : Nat) Own.exact [LV.ptr (2 : Nat) (0 : Nat), LV.int IntKind.u8 (S.st (wrapK IntKind.i64 (n - (1 : Int)))), LV.int IntKind.i64 n], LObj.cells (110 : TypeId) Own.exact [LV.int IntKind.u8 (bc (S.inR s n) (S.st s) (0 : Int)), LV.int IntKind.i64 (6 : Int), LV.int IntKind.i64 (1 : Int)]] { x := LX.normal, L := [((1 : Nat), LV.ptr (0 : Nat) (0 : Nat)), ((3 : Nat), LV.ptr (1 : Nat) (0 : Nat)), ((5 : Nat), LV.int IntKind.i64 (((0 : Int) + k) % n)), ((6 : Nat), LV.int IntKind.i64 k)], ch := [((2 : Nat), LObj.cells (110 : TypeId) Own.exact [LV.int IntKind.u8 (S.st (((0 : Int) + k) % n)), LV.int IntKind.i64 (6 : Int), LV.int IntKind.i64 (1 : Int)])], new := [] } ∧ bc (S.isSt (S.st (((0 : Int) + k) % n))) (bc (eqI (S.ix (S.st (((0 : Int) + k) % n))) (((0 : Int) + k) % n)) (true = true ∧ True) (true = false ∧ True)) False) False)) (bc (S.okCc n n (0 : Int) (S.st (wrapK IntKind.i64 (n - (1 : Int)))) k (bc (S.inR s n) (S.st s) (0 : Int))) (K.BOk Try.prog 4 136 (blkOf 4 0) [(1 : Nat), (3 : Nat), (5 : Nat), (6 : Nat)] [LV.ptr (0 : Nat) (0 : Nat), LV.ptr (1 : Nat) (0 : Nat), LV.int IntKind.i64 (0 : Int), LV.int IntKind.i64 (0 : Int)] [LObj.cells (30 : Nat) Own.exact [LV.int IntKind.i64 n, LV.int IntKind.i64 s, LV.int IntKind.u8 k], LObj.cells (93 : Nat) Own.exact [LV.ptr (2 : Nat) (0 : Nat), LV.int IntKind.u8 (S.st (wrapK IntKind.i64 (n - (1 : Int)))), LV.int IntKind.i64 n], LObj.cells (110 : TypeId) Own.exact [LV.int IntKind.u8 (bc (S.inR s n) (S.st s) (0 : Int)), LV.int IntKind.i64 (6 : Int), LV.int IntKind.i64 (1 : Int)]] { x := LX.normal, L := [((1 : Nat), LV.ptr (0 : Nat) (0 : Nat)), ((3 : Nat), LV.ptr (1 : Nat) (0 : Nat)), ((5 : Nat), LV.int IntKind.i64 (((0 : Int) + k) % n)), ((6 : Nat), LV.int IntKind.i64 k)], ch := [((2 : Nat), LObj.cells (110 : TypeId) Own.exact [LV.int IntKind.u8 (S.st (((0 : Int) + k) % n)), LV.int IntKind.i64 (6 : Int), LV.int IntKind.i64 (1 : Int)])], new := [] } ∧ bc (S.isSt (S.st (((0 : Int) + k) % n))) (bc (eqI (S.ix (S.st (((0 : Int) + k) % n))) (((0 : Int) + k) % n)) (true = true ∧ True) (true = false ∧ True)) False) False)))))) False) False))) := by kernel_rfl
theorem ccTop_con (n s k : Int) (h0 : S.inR k 256 = true) : HT Try.prog 4 [.agg [.int .i64 n, .int .i64 s, .int .u8 k]] (Heap.of []) (⟨.ret (.bool true), [], []⟩ : K.CRes).e (Heap.of (K.chg [] (⟨.ret (.bool true), [], []⟩ : K.CRes).ch ++ (⟨.ret (.bool true), [], []⟩ : K.CRes).new)) := by
  refine K.con_of_run good (A := envB [(24, cCountE), (25, cMarkE), (28, rmarkE), (26, cAtE), (23, cTickE), (22, cSetE), (74, cmarkE), (18, awk2E)] (fun g id => bc (Nat.beq g 4) (bc (Nat.beq id 0) (some ccB) (none)) (none))) (envB_ok ?_) K.openE_ok (k := 30) (cast (ccTop_run n s k).symm ?_)
  · intro p hp; simp only [List.mem_cons, List.not_mem_nil, or_false] at hp; rcases hp with rfl | rfl | rfl | rfl | rfl | rfl | rfl | rfl <;> first | exact cCount_ok | exact cMark_ok | exact rmark_ok | exact cAt_ok | exact cTick_ok | exact cSet_ok | exact cmark_ok | exact awk2_ok
  · have hk := S.inR_iff.1 h0
    by_cases h1 : n < 1
    · simp [ltI_true.2 h1]
    have e1 : ltI n 1 = false := ltI_false.2 (by omega)
    by_cases h2 : 63 < n
    · simp [e1, ltI_true.2 h2]
    have e2 : ltI 63 n = false := ltI_false.2 (by omega)
    have w : wrapK .i64 (n - 1) = n - 1 := by rw [wrapK_i64]; omega
    have e3 : S.inR (n - 1) 63 = true := S.inR_iff.2 (by omega)
    have e4 : ltI n 64 = true := ltI_true.2 (by omega)
    have ok : ∀ a t, 0 ≤ a → a < n → t = S.st a → S.okCc n n a (S.st (n - 1)) k t = true := fun a t ha hb ht => by
      unfold S.okCc
      simp only [S.an_iff, S.inR_iff, eqI_true]
      exact ⟨trivial, ⟨⟨by omega, by omega⟩, trivial, ht⟩, hk⟩
    have fin : ∀ a : Int, S.isSt (S.st ((a + k) % n)) = true ∧ eqI (S.ix (S.st ((a + k) % n))) ((a + k) % n) = true := fun a => by
      have h9 := Int.emod_nonneg (a + k) (show n ≠ 0 by omega)
      have h10 := Int.emod_lt_of_pos (a + k) (show 0 < n by omega)
      exact ⟨S.isSt_st h9 (by omega), by rw [S.ix_st h9 (by omega)]; exact S.eqI_self _⟩
    by_cases h3 : 0 ≤ s ∧ s < n
    · have e5 : S.inR s n = true := S.inR_iff.2 h3
      have o := ok s (S.st s) h3.1 h3.2 rfl
      have B := cc_blk n n s k (S.st (n - 1)) s (S.st s) o
      have f := fin s
      simp only [e1, e2, w, e3, e4, e5, o, f.1, f.2, ltI_false.2 h3.1, ltI_true.2 h3.2, S.eqI_self, bc_true, bc_false, notB_t, notB_f]
      first | exact ⟨B, rfl, trivial⟩ | simpa using B
    · have e5 : S.inR s n = false := S.inR_no.2 h3
      have o := ok 0 0 (by omega) (by omega) S.st0.symm
      have B := cc_blk n n s k (S.st (n - 1)) 0 0 o
      have f := fin 0
      have e6 : eqI 0 s = false := eqI_false.2 (by omega)
      have e7 : eqI 6 0 = false := rfl
      have e8 : eqI 6 6 = true := rfl
      by_cases h4 : s < 0
      · simp only [e1, e2, w, e3, e4, e5, e6, e7, e8, o, f.1, f.2, ltI_true.2 h4, S.eqI_self, bc_true, bc_false, notB_t, notB_f]
        first | exact ⟨B, rfl, trivial⟩ | simpa using B
      · simp only [e1, e2, w, e3, e4, e5, e6, e7, e8, o, f.1, f.2, ltI_false.2 (show 0 ≤ s by omega), ltI_false.2 (show n ≤ s by omega), S.eqI_self, bc_true, bc_false, notB_t, notB_f]
        first | exact ⟨B, rfl, trivial⟩ | simpa using B
end Go.Proofs.Ytmnpnomllcghmaa.Ev
