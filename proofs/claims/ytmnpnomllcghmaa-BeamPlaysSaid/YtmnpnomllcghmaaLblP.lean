/- Contracts, proved: Lbl. -/
import Derived.Test.YtmnpnomllcghmaaLblD
import Derived.Test.YtmnpnomllcghmaaBemP
namespace Go.Proofs.Ytmnpnomllcghmaa.Ev
open Go
set_option linter.unusedVariables false
set_option linter.unusedSimpArgs false
set_option maxRecDepth 100000

theorem blR_run (b cb : Bool) (n i : Int) : K.RunB (envL [(39, bClockE), (40, bNextE)]) K.openE 30 9 78 (inner (inner (blkOf 9 0))) [(1, .bool cb), (5, .ptr 0 0), (6, .int .i64 i)] [.cells 103 .exact [.ptr 1 0, .ptr 2 0, .bool b], .cells 89 .exact [.int .i64 (n % 4), .int .i64 4], .cells 93 .exact [.ptr 3 0, .int .u8 (S.st 56), .int .i64 57], .cells 110 .exact [.int .u8 (S.st (n / 4)), .int .i64 6, .int .i64 1]] Hint.auto ⟨.normal, [(1, .bool cb), (5, .ptr 0 0), (6, .int .i64 (i + 1))], [(1, .cells 89 .exact [.int .i64 (((n + 1) % 228) % 4), .int .i64 4]), (3, .cells 110 .exact [.int .u8 (S.st (((n + 1) % 228) / 4)), .int .i64 6, .int .i64 1])], []⟩ =
    (bc (ltI i (228 : Int)) (bc (S.okBm (n % (4 : Int)) (S.st (n / (4 : Int))) (4 : Int) (S.st (56 : Int)) (57 : Int)) (bc (notB (eqI (S.plc (n % (4 : Int)) (S.st (n / (4 : Int)))) (0 : Int))) (bc (S.okBm (n % (4 : Int)) (S.st (n / (4 : Int))) (4 : Int) (S.st (56 : Int)) (57 : Int)) (cb = cb ∧ ((0 : Nat) = (0 : Nat) ∧ (i + (1 : Int) = wrapK IntKind.i64 (i + (1 : Int)) ∧ ((n + (1 : Int)) % (228 : Int) % (4 : Int) = bc (ltI (n % (4 : Int) + (1 : Int)) (4 : Int)) (n % (4 : Int) + (1 : Int)) (0 : Int) ∧ ((4 : Int) = (4 : Int) ∧ (S.st ((n + (1 : Int)) % (228 : Int) / (4 : Int)) = bc (ltI (n % (4 : Int) + (1 : Int)) (4 : Int)) (S.st (n / (4 : Int))) (bc (eqI (S.st (n / (4 : Int))) (S.st (56 : Int))) (0 : Int) (S.nx (S.st (n / (4 : Int))))) ∧ ((6 : Int) = (6 : Int) ∧ ((1 : Int) = (1 : Int) ∧ True)))))))) False) False) False) False) := by kernel_rfl
theorem blR_con (b cb : Bool) (n i : Int) (h0 : 1 ≤ n) (h1 : n < 228) (h2 : 0 ≤ i) (h3 : i < 228) : CT Try.prog (inner (inner (blkOf 9 0))) (Fr.ofL 9 78 [(1, .bool cb), (5, .ptr 0 0), (6, .int .i64 i)] [] none) (Heap.of [.cells 103 .exact [.ptr 1 0, .ptr 2 0, .bool b], .cells 89 .exact [.int .i64 (n % 4), .int .i64 4], .cells 93 .exact [.ptr 3 0, .int .u8 (S.st 56), .int .i64 57], .cells 110 .exact [.int .u8 (S.st (n / 4)), .int .i64 6, .int .i64 1]]) (⟨.normal, [(1, .bool cb), (5, .ptr 0 0), (6, .int .i64 (i + 1))], [(1, .cells 89 .exact [.int .i64 (((n + 1) % 228) % 4), .int .i64 4]), (3, .cells 110 .exact [.int .u8 (S.st (((n + 1) % 228) / 4)), .int .i64 6, .int .i64 1])], []⟩ : K.BRes).x (Fr.ofL 9 78 (⟨.normal, [(1, .bool cb), (5, .ptr 0 0), (6, .int .i64 (i + 1))], [(1, .cells 89 .exact [.int .i64 (((n + 1) % 228) % 4), .int .i64 4]), (3, .cells 110 .exact [.int .u8 (S.st (((n + 1) % 228) / 4)), .int .i64 6, .int .i64 1])], []⟩ : K.BRes).L [] none) (Heap.of (K.chg [.cells 103 .exact [.ptr 1 0, .ptr 2 0, .bool b], .cells 89 .exact [.int .i64 (n % 4), .int .i64 4], .cells 93 .exact [.ptr 3 0, .int .u8 (S.st 56), .int .i64 57], .cells 110 .exact [.int .u8 (S.st (n / 4)), .int .i64 6, .int .i64 1]] (⟨.normal, [(1, .bool cb), (5, .ptr 0 0), (6, .int .i64 (i + 1))], [(1, .cells 89 .exact [.int .i64 (((n + 1) % 228) % 4), .int .i64 4]), (3, .cells 110 .exact [.int .u8 (S.st (((n + 1) % 228) / 4)), .int .i64 6, .int .i64 1])], []⟩ : K.BRes).ch ++ (⟨.normal, [(1, .bool cb), (5, .ptr 0 0), (6, .int .i64 (i + 1))], [(1, .cells 89 .exact [.int .i64 (((n + 1) % 228) % 4), .int .i64 4]), (3, .cells 110 .exact [.int .u8 (S.st (((n + 1) % 228) / 4)), .int .i64 6, .int .i64 1])], []⟩ : K.BRes).new)) := by
  refine K.code_of_run good (A := envL [(39, bClockE), (40, bNextE)]) (envL_ok ?_) K.openE_ok (k := 30) (cast (blR_run b cb n i).symm ?_)
  · intro p hp; simp only [List.mem_cons, List.not_mem_nil, or_false] at hp; rcases hp with rfl | rfl <;> first | exact bClock_ok | exact bNext_ok
  · have e1 : ltI i 228 = true := ltI_true.2 h3
    have e2 := S.bm_ok (show 0 ≤ n by omega) h1
    have e3 := S.bm_plc (show 0 ≤ n by omega) h1
    have e4 := S.bm_a (show 0 ≤ n by omega) h1
    have e5 := S.bm_s (show 0 ≤ n by omega) h1
    have e6 : eqI n 0 = false := eqI_false.2 (by omega)
    have e7 : wrapK .i64 (i + 1) = i + 1 := by rw [wrapK_i64]; omega
    rw [e1, e2, e3, e4, e5, e6, e7]
    simp [notB]
theorem blX_run (b cb : Bool) (i : Int) : K.RunB (envL [(39, bClockE), (40, bNextE)]) K.openE 30 9 78 (inner (inner (blkOf 9 0))) [(1, .bool cb), (5, .ptr 0 0), (6, .int .i64 i)] [.cells 103 .exact [.ptr 1 0, .ptr 2 0, .bool b], .cells 89 .exact [.int .i64 0, .int .i64 4], .cells 93 .exact [.ptr 3 0, .int .u8 (S.st 56), .int .i64 57], .cells 110 .exact [.int .u8 0, .int .i64 6, .int .i64 1]] Hint.auto ⟨.exit 0, [(1, .bool cb), (5, .ptr 0 0), (6, .int .i64 i)], [], []⟩ =
    (bc (ltI i (228 : Int)) (cb = cb ∧ ((0 : Nat) = (0 : Nat) ∧ (i = i ∧ True))) (cb = cb ∧ ((0 : Nat) = (0 : Nat) ∧ (i = i ∧ True)))) := by kernel_rfl
theorem blX_con (b cb : Bool) (i : Int) (h0 : 0 ≤ i) : CT Try.prog (inner (inner (blkOf 9 0))) (Fr.ofL 9 78 [(1, .bool cb), (5, .ptr 0 0), (6, .int .i64 i)] [] none) (Heap.of [.cells 103 .exact [.ptr 1 0, .ptr 2 0, .bool b], .cells 89 .exact [.int .i64 0, .int .i64 4], .cells 93 .exact [.ptr 3 0, .int .u8 (S.st 56), .int .i64 57], .cells 110 .exact [.int .u8 0, .int .i64 6, .int .i64 1]]) (⟨.exit 0, [(1, .bool cb), (5, .ptr 0 0), (6, .int .i64 i)], [], []⟩ : K.BRes).x (Fr.ofL 9 78 (⟨.exit 0, [(1, .bool cb), (5, .ptr 0 0), (6, .int .i64 i)], [], []⟩ : K.BRes).L [] none) (Heap.of (K.chg [.cells 103 .exact [.ptr 1 0, .ptr 2 0, .bool b], .cells 89 .exact [.int .i64 0, .int .i64 4], .cells 93 .exact [.ptr 3 0, .int .u8 (S.st 56), .int .i64 57], .cells 110 .exact [.int .u8 0, .int .i64 6, .int .i64 1]] (⟨.exit 0, [(1, .bool cb), (5, .ptr 0 0), (6, .int .i64 i)], [], []⟩ : K.BRes).ch ++ (⟨.exit 0, [(1, .bool cb), (5, .ptr 0 0), (6, .int .i64 i)], [], []⟩ : K.BRes).new)) := by
  refine K.code_of_run good (A := envL [(39, bClockE), (40, bNextE)]) (envL_ok ?_) K.openE_ok (k := 30) (cast (blX_run b cb i).symm ?_)
  · intro p hp; simp only [List.mem_cons, List.not_mem_nil, or_false] at hp; rcases hp with rfl | rfl <;> first | exact bClock_ok | exact bNext_ok
  · cases ltI i 228 <;> simp
theorem bl_blk (b cb : Bool) (a s d l n : Int) (h : S.okBm a s d l n = true) : K.BOk Try.prog 9 78 (blkOf 9 0) [1, 5, 6] [.bool cb, .ptr 0 0, .int .i64 0] [.cells 103 .exact [.ptr 1 0, .ptr 2 0, .bool b], .cells 89 .exact [.int .i64 a, .int .i64 d], .cells 93 .exact [.ptr 3 0, .int .u8 l, .int .i64 n], .cells 110 .exact [.int .u8 s, .int .i64 6, .int .i64 1]] ⟨.normal, [(1, .bool cb), (5, .ptr 0 0), (6, .int .i64 ((228 - S.plc a s) % 228))], [(1, .cells 89 .exact [.int .i64 0, .int .i64 d]), (3, .cells 110 .exact [.int .u8 0, .int .i64 6, .int .i64 1])], []⟩ := by
  obtain ⟨⟨h1, h2⟩, hs, rfl, rfl, rfl, hx0, hx1⟩ := S.okBm_iff h
  obtain ⟨i, hi0, hi1, rfl⟩ := S.isSt_ex hs
  rw [S.ix_st hi0 hi1] at hx0 hx1
  have hpl : S.plc a (S.st i) = 4 * i + a := by unfold S.plc; rw [S.ix_st hi0 hi1]
  have hb : blkOf 9 0 = .block 0 (.loop (inner (inner (blkOf 9 0)))) := by kernel_rfl
  unfold K.BOk
  rw [hb]
  refine K.CT.block ?_
  generalize hc : 4 * i + a = c at hpl
  have hN : (((228 - c) % 228).toNat : Int) = (228 - c) % 228 := by omega
  have hend : (c + (228 - c) % 228) % 228 = 0 := by omega
  have main := K.loop_count (P := Try.prog) (c := inner (inner (blkOf 9 0))) (fun j => Fr.ofL 9 78 [(1, .bool cb), (5, .ptr 0 0), (6, .int .i64 (j : Nat))] [] none)
    (fun j => Heap.of [.cells 103 .exact [.ptr 1 0, .ptr 2 0, .bool b], .cells 89 .exact [.int .i64 (((c + (j : Nat)) % 228) % 4), .int .i64 4], .cells 93 .exact [.ptr 3 0, .int .u8 (S.st 56), .int .i64 57], .cells 110 .exact [.int .u8 (S.st (((c + (j : Nat)) % 228) / 4)), .int .i64 6, .int .i64 1]]) ((228 - c) % 228).toNat (x := .exit 0) (by simp) (fun j hj => ?_) (by
      have := blX_con b cb (((228 - c) % 228).toNat : Nat) (by omega)
      rw [hN]
      rw [hN] at this
      simp only [hend]
      exact this)
  · have e0 : (c + ((0 : Nat) : Int)) % 228 = c := by omega
    simp only [e0] at main
    rw [hpl]
    have e1 : c % 4 = a := by omega
    have e2 : c / 4 = i := by omega
    rw [e1, e2] at main
    exact main
  · have hj1 : 0 ≤ (c + (j : Nat)) % 228 := by omega
    have := blR_con b cb ((c + (j : Nat)) % 228) (j : Nat) (by omega) (by omega) (by omega) (by omega)
    rw [Int.emod_add_emod, show c + (j : Int) + 1 = c + ((j + 1 : Nat) : Int) by omega] at this
    exact this
theorem awk15_run : K.bodyF (envL []) (K.runF (envL []) 30) 38 [] (Heap.of []) .auto (K.endC K.shutE 0 ⟨.ret (.bool true), [], []⟩) = True := by kernel_rfl
theorem awk15_con : HT Try.prog 38 [] (Heap.of []) (⟨.ret (.bool true), [], []⟩ : K.CRes).e (Heap.of (K.chg [] (⟨.ret (.bool true), [], []⟩ : K.CRes).ch ++ (⟨.ret (.bool true), [], []⟩ : K.CRes).new)) := by
  refine K.con_of_eq (A := envL []) (E := K.shutE) (k := 30) (g := 38) (xs := []) (os := []) (r := ⟨.ret (.bool true), [], []⟩) (h := .auto) good (envL_ok ?_) K.shutE_ok (awk15_run)
  intro p hp; cases hp
theorem awk15_ok : awk15E.ok Try.prog 38 := by
  intro xs os b r h h3
  unfold awk15E at h
  simp only at h
  split at h
  · injection h with h; injection h with h1 h2; subst h1; subst h2
    exact awk15_con
  · cases h
theorem blTt_run (c : Int) : K.bodyF (envB [(37, bNewE), (39, bClockE), (40, bNextE), (41, bBeginE), (42, bCombE), (43, bPulseE), (44, bDarkE), (38, awk15E)] (fun g id => bc (Nat.beq g 9) (bc (Nat.beq id 0) (some blB) (none)) (none))) (K.runF (envB [(37, bNewE), (39, bClockE), (40, bNextE), (41, bBeginE), (42, bCombE), (43, bPulseE), (44, bDarkE), (38, awk15E)] (fun g id => bc (Nat.beq g 9) (bc (Nat.beq id 0) (some blB) (none)) (none))) 30) 9 [.int .u8 c, .bool true] (Heap.of []) Hint.auto (K.endC K.openE 0 ⟨.ret (.bool true), [], []⟩) =
    (bc (S.inR (wrapK IntKind.i64 c) (228 : Int)) (bc (S.okBm (wrapK IntKind.i64 c % (4 : Int)) (S.st (wrapK IntKind.i64 c / (4 : Int))) (4 : Int) (S.st (56 : Int)) (57 : Int)) (K.BOk Try.prog 9 78 (blkOf 9 0) [(1 : Nat), (5 : Nat), (6 : Nat)] [LV.bool true, LV.ptr (0 : Nat) (0 : Nat), LV.int IntKind.i64 (0 : Int)] [LObj.cells (103 : TypeId) Own.exact [LV.ptr (1 : Nat) (0 : Nat), LV.ptr (2 : Nat) (0 : Nat), LV.bool false], LObj.cells (89 : TypeId) Own.exact [LV.int IntKind.i64 (wrapK IntKind.i64 c % (4 : Int)), LV.int IntKind.i64 (4 : Int)], LObj.cells (93 : TypeId) Own.exact [LV.ptr (3 : Nat) (0 : Nat), LV.int IntKind.u8 (S.st (56 : Int)), LV.int IntKind.i64 (57 : Int)], LObj.cells (110 : TypeId) Own.exact [LV.int IntKind.u8 (S.st (wrapK IntKind.i64 c / (4 : Int))), LV.int IntKind.i64 (6 : Int), LV.int IntKind.i64 (1 : Int)]] { x := LX.normal, L := [((1 : Nat), LV.bool true), ((5 : Nat), LV.ptr (0 : Nat) (0 : Nat)), ((6 : Nat), LV.int IntKind.i64 (((228 : Int) - S.plc (wrapK IntKind.i64 c % (4 : Int)) (S.st (wrapK IntKind.i64 c / (4 : Int)))) % (228 : Int)))], ch := [((1 : Nat), LObj.cells (89 : TypeId) Own.exact [LV.int IntKind.i64 (0 : Int), LV.int IntKind.i64 (4 : Int)]), ((3 : Nat), LObj.cells (110 : TypeId) Own.exact [LV.int IntKind.u8 (0 : Int), LV.int IntKind.i64 (6 : Int), LV.int IntKind.i64 (1 : Int)])], new := [] } ∧ (true = true ∧ True)) False) False) := by kernel_rfl
theorem blTt_con (c : Int) (h0 : S.inR c 228 = true) : HT Try.prog 9 [.int .u8 c, .bool true] (Heap.of []) (⟨.ret (.bool true), [], []⟩ : K.CRes).e (Heap.of (K.chg [] (⟨.ret (.bool true), [], []⟩ : K.CRes).ch ++ (⟨.ret (.bool true), [], []⟩ : K.CRes).new)) := by
  refine K.con_of_run good (A := envB [(37, bNewE), (39, bClockE), (40, bNextE), (41, bBeginE), (42, bCombE), (43, bPulseE), (44, bDarkE), (38, awk15E)] (fun g id => bc (Nat.beq g 9) (bc (Nat.beq id 0) (some blB) (none)) (none))) (envB_ok ?_) K.openE_ok (k := 30) (cast (blTt_run c).symm ?_)
  · intro p hp; simp only [List.mem_cons, List.not_mem_nil, or_false] at hp; rcases hp with rfl | rfl | rfl | rfl | rfl | rfl | rfl | rfl <;> first | exact bNew_ok | exact bClock_ok | exact bNext_ok | exact bBegin_ok | exact bComb_ok | exact bPulse_ok | exact bDark_ok | exact awk15_ok
  · have h1 := S.inR_iff.1 h0
    have w : wrapK .i64 c = c := by rw [wrapK_i64]; omega
    have e2 := S.okBm_of (a := c % 4) (s := S.st (c / 4)) (by omega) (by omega) (S.isSt_st (by omega) (by omega)) (by rw [S.ix_st (by omega) (by omega)]; omega)
    have B := bl_blk false true (c % 4) (S.st (c / 4)) 4 (S.st 56) 57 e2
    rw [w, h0, e2]
    simp only [bc_true]
    exact ⟨B, by simp⟩
theorem blTf_run (c : Int) : K.bodyF (envB [(37, bNewE), (39, bClockE), (40, bNextE), (41, bBeginE), (42, bCombE), (43, bPulseE), (44, bDarkE), (38, awk15E)] (fun g id => bc (Nat.beq g 9) (bc (Nat.beq id 0) (some blB) (none)) (none))) (K.runF (envB [(37, bNewE), (39, bClockE), (40, bNextE), (41, bBeginE), (42, bCombE), (43, bPulseE), (44, bDarkE), (38, awk15E)] (fun g id => bc (Nat.beq g 9) (bc (Nat.beq id 0) (some blB) (none)) (none))) 30) 9 [.int .u8 c, .bool false] (Heap.of []) Hint.auto (K.endC K.openE 0 ⟨.ret (.bool true), [], []⟩) =
    (bc (S.inR (wrapK IntKind.i64 c) (228 : Int)) (bc (S.okBm (wrapK IntKind.i64 c % (4 : Int)) (S.st (wrapK IntKind.i64 c / (4 : Int))) (4 : Int) (S.st (56 : Int)) (57 : Int)) (K.BOk Try.prog 9 78 (blkOf 9 0) [(1 : Nat), (5 : Nat), (6 : Nat)] [LV.bool false, LV.ptr (0 : Nat) (0 : Nat), LV.int IntKind.i64 (0 : Int)] [LObj.cells (103 : TypeId) Own.exact [LV.ptr (1 : Nat) (0 : Nat), LV.ptr (2 : Nat) (0 : Nat), LV.bool false], LObj.cells (89 : TypeId) Own.exact [LV.int IntKind.i64 (wrapK IntKind.i64 c % (4 : Int)), LV.int IntKind.i64 (4 : Int)], LObj.cells (93 : TypeId) Own.exact [LV.ptr (3 : Nat) (0 : Nat), LV.int IntKind.u8 (S.st (56 : Int)), LV.int IntKind.i64 (57 : Int)], LObj.cells (110 : TypeId) Own.exact [LV.int IntKind.u8 (S.st (wrapK IntKind.i64 c / (4 : Int))), LV.int IntKind.i64 (6 : Int), LV.int IntKind.i64 (1 : Int)]] { x := LX.normal, L := [((1 : Nat), LV.bool false), ((5 : Nat), LV.ptr (0 : Nat) (0 : Nat)), ((6 : Nat), LV.int IntKind.i64 (((228 : Int) - S.plc (wrapK IntKind.i64 c % (4 : Int)) (S.st (wrapK IntKind.i64 c / (4 : Int)))) % (228 : Int)))], ch := [((1 : Nat), LObj.cells (89 : TypeId) Own.exact [LV.int IntKind.i64 (0 : Int), LV.int IntKind.i64 (4 : Int)]), ((3 : Nat), LObj.cells (110 : TypeId) Own.exact [LV.int IntKind.u8 (0 : Int), LV.int IntKind.i64 (6 : Int), LV.int IntKind.i64 (1 : Int)])], new := [] } ∧ (true = true ∧ True)) False) False) := by kernel_rfl
theorem blTf_con (c : Int) (h0 : S.inR c 228 = true) : HT Try.prog 9 [.int .u8 c, .bool false] (Heap.of []) (⟨.ret (.bool true), [], []⟩ : K.CRes).e (Heap.of (K.chg [] (⟨.ret (.bool true), [], []⟩ : K.CRes).ch ++ (⟨.ret (.bool true), [], []⟩ : K.CRes).new)) := by
  refine K.con_of_run good (A := envB [(37, bNewE), (39, bClockE), (40, bNextE), (41, bBeginE), (42, bCombE), (43, bPulseE), (44, bDarkE), (38, awk15E)] (fun g id => bc (Nat.beq g 9) (bc (Nat.beq id 0) (some blB) (none)) (none))) (envB_ok ?_) K.openE_ok (k := 30) (cast (blTf_run c).symm ?_)
  · intro p hp; simp only [List.mem_cons, List.not_mem_nil, or_false] at hp; rcases hp with rfl | rfl | rfl | rfl | rfl | rfl | rfl | rfl <;> first | exact bNew_ok | exact bClock_ok | exact bNext_ok | exact bBegin_ok | exact bComb_ok | exact bPulse_ok | exact bDark_ok | exact awk15_ok
  · have h1 := S.inR_iff.1 h0
    have w : wrapK .i64 c = c := by rw [wrapK_i64]; omega
    have e2 := S.okBm_of (a := c % 4) (s := S.st (c / 4)) (by omega) (by omega) (S.isSt_st (by omega) (by omega)) (by rw [S.ix_st (by omega) (by omega)]; omega)
    have B := bl_blk false false (c % 4) (S.st (c / 4)) 4 (S.st 56) 57 e2
    rw [w, h0, e2]
    simp only [bc_true]
    exact ⟨B, by simp⟩
theorem blN_run (c : Int) (b : Bool) : K.bodyF (envL [(38, awk15E)]) (K.runF (envL [(38, awk15E)]) 30) 9 [.int .u8 c, .bool b] (Heap.of []) (.skip 0 (.take true (.skip 3 (.take true (.skip 1 (.take true .auto)))))) (K.endC K.openE 0 ⟨.ret (.bool true), [], []⟩) =
    ((notB (ltI (wrapK IntKind.i64 c) (0 : Int)) = true ∧ (notB (notB (ltI (227 : Int) (wrapK IntKind.i64 c))) = true ∧ (ltI (227 : Int) c = true ∧ (true = true ∧ True))))) := by kernel_rfl
theorem blN_con (c : Int) (b : Bool) (h0 : S.an (ltI 227 c) (ltI c 256) = true) : HT Try.prog 9 [.int .u8 c, .bool b] (Heap.of []) (⟨.ret (.bool true), [], []⟩ : K.CRes).e (Heap.of (K.chg [] (⟨.ret (.bool true), [], []⟩ : K.CRes).ch ++ (⟨.ret (.bool true), [], []⟩ : K.CRes).new)) := by
  refine K.con_of_run good (A := envL [(38, awk15E)]) (envL_ok ?_) K.openE_ok (k := 30) (cast (blN_run c b).symm ?_)
  · intro p hp; simp only [List.mem_cons, List.not_mem_nil, or_false] at hp; rcases hp with rfl <;> first | exact awk15_ok
  · obtain ⟨h1, h2⟩ := S.an_iff.1 h0
    have h1 := ltI_true.1 h1
    have h2 := ltI_true.1 h2
    have w : wrapK .i64 c = c := by rw [wrapK_i64]; omega
    rw [w, ltI_false.2 (show 0 ≤ c by omega), ltI_true.2 h1]
    simp [notB]
theorem bl_top (c : Int) (h0 : 0 ≤ c) (h1 : c ≤ 255) (b : Bool) : HT Try.prog 9 [.int .u8 c, .bool b] (Heap.of []) (.ret (.bool true)) (Heap.of []) := by
  by_cases h : c < 228
  · cases b
    · exact blTf_con c (S.inR_iff.2 ⟨h0, h⟩)
    · exact blTt_con c (S.inR_iff.2 ⟨h0, h⟩)
  · exact blN_con c b (S.an_iff.2 ⟨ltI_true.2 (by omega), ltI_true.2 (by omega)⟩)
end Go.Proofs.Ytmnpnomllcghmaa.Ev
