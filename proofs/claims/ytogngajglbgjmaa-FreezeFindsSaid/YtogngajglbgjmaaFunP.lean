/- Contracts, proved: Fun. -/
import Derived.Test.YtogngajglbgjmaaFunD
import Derived.Test.YtogngajglbgjmaaFnqP
import Derived.Test.YtogngajglbgjmaaFchP
namespace Go.Proofs.Ytogngajglbgjmaa.Ev
open Go
set_option linter.unusedVariables false
set_option linter.unusedSimpArgs false
set_option maxRecDepth 100000
set_option maxHeartbeats 1000000
namespace S
theorem nl_len (vs : List LV) : ∀ (j o n : Nat), lenL (nl vs j o n) ≤ j
  | 0, o, n => Nat.le_refl 0
  | j + 1, o, n => by
    rw [nl_succ]
    cases Nat.beq (gk vs o n) 0
    · have := nl_len vs j (o + gk vs o n) (n - gk vs o n)
      rw [bc_false, K.lenL_eq, List.length_cons, ← K.lenL_eq]; omega
    · exact Nat.zero_le _
theorem okU_iff {vs : List LV} {L q : Nat} : okU vs L q = true ↔ (okY vs = true ∧ lenL vs = L) ∧ L ≤ 1000000 ∧ L ≤ q := by
  unfold okU; rw [an_iff, an_iff, an_iff, beqN_iff, bleN_iff, bleN_iff]
theorem w2_eq {L : Nat} (h : 4 ≤ L) (h2 : L ≤ 1000000) : w2 L = ((L - 2 : Nat) : Int) := by unfold w2; rw [wrapK_i64]; omega
theorem w3_eq {L : Nat} (h : 4 ≤ L) (h2 : L ≤ 1000000) : w3 L = ((L - 1 : Nat) : Int) := by unfold w3; rw [w2_eq h h2, wrapK_i64]; omega
theorem nn_eq {L : Nat} (h : 4 ≤ L) (h2 : L ≤ 1000000) : nn L = L - 3 := by unfold nn; rw [w2_eq h h2]; omega
theorem o1_eq {q : Nat} (h : 4 ≤ q) : o1 q = 1 := by unfold o1; rw [beqN_no.2 (show q ≠ 1 by omega)]; rfl
theorem uh_iff {vs : List LV} {L : Nat} : uh vs L = true ↔ 4 ≤ L ∧ intOf (K.atV vs 0) = 87 ∧ intOf (K.atV vs (L - 2)) = cA vs (L - 2) ∧ intOf (K.atV vs (L - 1)) = cB vs (L - 2) := by
  unfold uh; rw [an_iff, an_iff, an_iff, bleN_iff, eqI_true, eqI_true, eqI_true]; exact Iff.rfl
theorem uo_iff {vs : List LV} {L : Nat} : uo vs L = true ↔ uh vs L = true ∧ uf vs L = 0 ∧ intOf (K.atV (un vs L) 0) = (ul vs L : Int) - 1 := by
  unfold uo; rw [an_iff, an_iff, beqN_iff, eqI_true]; exact Iff.rfl
theorem an_no {a b : Bool} : an a b = false ↔ ¬ (a = true ∧ b = true) := by rw [← an_iff]; cases an a b <;> simp
end S
theorem uG_run (L et q : Nat) (vs : List LV) : K.bodyF (envK [(14, chkE)] (fun g id => bc (Nat.beq g 20) (bc (Nat.beq id 0) (some nqAFB) (none)) (none)) (fun g i => bc (Nat.beq g 10) (hasN [6, 7] i) (true))) (K.runF (envK [(14, chkE)] (fun g id => bc (Nat.beq g 20) (bc (Nat.beq id 0) (some nqAFB) (none)) (none)) (fun g i => bc (Nat.beq g 10) (hasN [6, 7] i) (true))) 30) 10 [.slice 0 0 L (.known q)] (Heap.of [.flat [.i .u8] et .ro vs]) Hint.auto (K.endC K.openE 1 ⟨.ret (.tup [.slice 1 0 (S.ul vs L - 1) (.rest 0), .int .i64 0]), [], [.flat [.i .i64] 3 (.grow 1) (S.uw vs L)]⟩) =
    (bc (ltI ↑L (4 : Int)) False (bc (ltI (0 : Int) ↑L) (bc (Nat.ble (1 : Nat) (lenL vs)) (bc (notB (eqI (intOf (K.atV vs (0 : Nat))) (87 : Int))) False (bc (notB (ltI (S.w2 L) (0 : Int))) (bc (Nat.ble (Int.toNat (S.w2 L)) L) (bc (Nat.ble (Int.toNat (S.w2 L)) q) (bc (S.okL vs (Int.toNat (S.w2 L) - (0 : Nat))) (bc (ltI (S.w2 L) (0 : Int)) False (bc (ltI (S.w2 L) ↑L) (bc (Nat.ble ((0 : Nat) + Int.toNat (S.w2 L) * (1 : Nat) + (1 : Nat)) (lenL vs)) (bc (notB (eqI (intOf (K.atV vs ((0 : Nat) + Int.toNat (S.w2 L) * (1 : Nat)))) (S.cA vs (Int.toNat (S.w2 L) - (0 : Nat))))) False (bc (ltI (S.w3 L) (0 : Int)) False (bc (ltI (S.w3 L) ↑L) (bc (Nat.ble ((0 : Nat) + Int.toNat (S.w3 L) * (1 : Nat) + (1 : Nat)) (lenL vs)) (bc (notB (eqI (intOf (K.atV vs ((0 : Nat) + Int.toNat (S.w3 L) * (1 : Nat)))) (S.cB vs (Int.toNat (S.w2 L) - (0 : Nat))))) False (bc (notB (ltI (S.w2 L) (0 : Int))) (bc (Nat.ble (Int.toNat (S.w2 L)) L) (bc (Nat.ble (1 : Nat) (Int.toNat (S.w2 L))) (bc (Nat.ble (Int.toNat (S.w2 L)) q) (bc (S.an (S.lpok (10 : FuncId) (74 : Nat) S.T0 [(48 : Nat), (49 : Nat)] S.code0 S.code1) (S.an (S.tyok2 (5 : Nat) (3 : Nat) (23 : Nat) (22 : Nat)) (S.an (S.an (S.okA vs (S.o1 q) (S.nn L) (q - (1 : Nat))) (Nat.ble (S.nn L) (1000000 : Nat))) (S.an (Nat.beq (S.l1 vs L q) (0 : Nat)) (Nat.ble (1 : Nat) (S.nn L)))))) (K.BOk Try.prog 20 57 (blkOf 20 0) [(0 : Nat), (1 : Nat)] [LV.func (Fn.yield (0 : Nat)) [] [], LV.ptr (2 : Nat) (0 : Nat)] [LObj.loop LoopState.ready none (10 : FuncId) (74 : Nat) S.T0 [(48 : Nat), (49 : Nat)] S.code0 S.code1 (5 : Nat), LObj.cells (3 : Nat) Own.exact [LV.int IntKind.i64 (S.w2 L)], LObj.cells (23 : Nat) Own.exact [LV.slice (3 : Nat) (S.o1 q) (S.nn L) (Cap.known (q - (1 : Nat)))], LObj.flat [CK.i IntKind.u8] et Own.ro vs, LObj.cells (22 : Nat) Own.exact [LV.nils], LObj.defers false] { x := LX.normal, L := [], ch := [((0 : Nat), LObj.loop LoopState.ready none (10 : FuncId) (74 : Nat) S.T0 [(48 : Tmp), (49 : Tmp)] S.code0 S.code1 (5 : Nat)), ((1 : Nat), LObj.cells (3 : TypeId) Own.exact [LV.int IntKind.i64 ↑(S.l1 vs L q)]), ((2 : Nat), LObj.dead), ((4 : Nat), LObj.cells (22 : TypeId) Own.exact [LV.slice (6 : Nat) (0 : Nat) (S.c1 vs L q) (Cap.rest (0 : Nat))])], new := [LObj.flat [CK.i IntKind.i64] (3 : TypeId) (Own.grow (1 : Nat)) (S.n1 vs L q)] } ∧ bc (eqI ↑(S.c1 vs L q) (0 : Int)) False (bc (notB (eqI ↑(S.l1 vs L q) (0 : Int))) False (bc (ltI (0 : Int) ↑(S.c1 vs L q)) (bc (Nat.ble (1 : Nat) (lenL (S.n1 vs L q))) (bc (notB (eqI (intOf (K.atV (S.n1 vs L q) (0 : Nat))) (wrapK IntKind.i64 (↑(S.c1 vs L q) - (1 : Int))))) False (bc (Nat.ble (S.c1 vs L q) (S.c1 vs L q)) (bc (Nat.ble (1 : Nat) (S.c1 vs L q)) (bc (Nat.ble ((0 : Nat) + S.c1 vs L q * (1 : Nat)) (lenL (flatF [CK.i IntKind.i64] (S.n1 vs L q)))) (bc (Nat.beq (1 : Nat) (S.c1 vs L q)) ((0 : Nat) = (0 : Nat) ∧ (S.ul vs L - (1 : Nat) = (0 : Nat) ∧ (Cap.rest (0 : Nat) = Cap.known (0 : Nat) ∧ ((0 : Int) = (0 : Int) ∧ False)))) (bc (Nat.ble ((1 : Nat) + (S.c1 vs L q - (1 : Nat))) (lenL (S.n1 vs L q))) (bc (Nat.ble ((0 : Nat) + (S.c1 vs L q - (1 : Nat))) (0 : Nat)) (bc (Nat.beq (S.c1 vs L q - (1 : Nat)) (0 : Nat)) ((0 : Nat) = (0 : Nat) ∧ (S.ul vs L - (1 : Nat) = (0 : Nat) ∧ (Cap.rest (0 : Nat) = Cap.known (0 : Nat) ∧ ((0 : Int) = (0 : Int) ∧ False)))) False) (bc (Nat.ble (((0 : Nat) + (S.c1 vs L q - (1 : Nat))) * (8 : Nat)) (1099511627776 : Nat)) ((0 : Nat) = (0 : Nat) ∧ (S.ul vs L - (1 : Nat) = (0 : Nat) + (S.c1 vs L q - (1 : Nat)) ∧ (Cap.rest (0 : Nat) = Cap.rest (0 : Nat) ∧ ((0 : Int) = (0 : Int) ∧ (S.uw vs L = app (sub [] (0 : Nat) (0 : Nat)) (sub (S.n1 vs L q) (1 : Nat) (S.c1 vs L q - (1 : Nat))) ∧ True))))) False)) False)) False) False) False)) False) False))) False) False) False) False) False)) False) False))) False) False)) False) False) False) False)) False) False)) := by kernel_rfl
theorem uG_con (L et q : Nat) (vs : List LV) (h0 : S.okU1 vs L q = true)  : HT Try.prog 10 [.slice 0 0 L (.known q)] (Heap.of [.flat [.i .u8] et .ro vs]) (⟨.ret (.tup [.slice 1 0 (S.ul vs L - 1) (.rest 0), .int .i64 0]), [], [.flat [.i .i64] 3 (.grow 1) (S.uw vs L)]⟩ : K.CRes).e (Heap.of (K.chg [.flat [.i .u8] et .ro vs] (⟨.ret (.tup [.slice 1 0 (S.ul vs L - 1) (.rest 0), .int .i64 0]), [], [.flat [.i .i64] 3 (.grow 1) (S.uw vs L)]⟩ : K.CRes).ch ++ (⟨.ret (.tup [.slice 1 0 (S.ul vs L - 1) (.rest 0), .int .i64 0]), [], [.flat [.i .i64] 3 (.grow 1) (S.uw vs L)]⟩ : K.CRes).new)) := by
  refine K.con_of_run good (A := envK [(14, chkE)] (fun g id => bc (Nat.beq g 20) (bc (Nat.beq id 0) (some nqAFB) (none)) (none)) (fun g i => bc (Nat.beq g 10) (hasN [6, 7] i) (true))) (envK_ok ?_) K.openE_ok (k := 30) (cast (uG_run L et q vs).symm ?_)
  · intro p hp; simp only [List.mem_cons, List.not_mem_nil, or_false] at hp; rcases hp with rfl <;> first | exact chk_ok
  · obtain ⟨hU, h0⟩ := S.an_iff.1 h0
    obtain ⟨⟨hY, hL⟩, hM, hq⟩ := S.okU_iff.1 hU
    obtain ⟨hO, hC⟩ := S.an_iff.1 h0
    obtain ⟨hH, hF, h1⟩ := S.uo_iff.1 hO
    obtain ⟨h4, x0, x1, x2⟩ := S.uh_iff.1 hH
    have e1 : ltI (L : Int) 4 = false := ltI_false.2 (by omega)
    have e2 : ltI 0 (L : Int) = true := ltI_true.2 (by omega)
    have b1 : Nat.ble 1 (lenL vs) = true := S.bleN_iff.2 (by omega)
    have W2 := S.w2_eq (L := L) (by omega) hM
    have W3 := S.w3_eq (L := L) (by omega) hM
    have t2 : ((L - 2 : Nat) : Int).toNat = L - 2 := Int.toNat_natCast _
    have t3 : ((L - 1 : Nat) : Int).toNat = L - 1 := Int.toNat_natCast _
    have n2 : ltI ((L - 2 : Nat) : Int) 0 = false := ltI_false.2 (by omega)
    have n3 : ltI ((L - 1 : Nat) : Int) 0 = false := ltI_false.2 (by omega)
    have e3 : ltI ((L - 2 : Nat) : Int) L = true := ltI_true.2 (by omega)
    have e4 : ltI ((L - 1 : Nat) : Int) L = true := ltI_true.2 (by omega)
    have b2 : Nat.ble (L - 2) L = true := S.bleN_iff.2 (by omega)
    have b3 : Nat.ble (L - 2) q = true := S.bleN_iff.2 (by omega)
    have b4 : Nat.ble 1 (L - 2) = true := S.bleN_iff.2 (by omega)
    have b5 : Nat.ble (L - 2 + 1) (lenL vs) = true := S.bleN_iff.2 (by omega)
    have b6 : Nat.ble (L - 1 + 1) (lenL vs) = true := S.bleN_iff.2 (by omega)
    have okl : S.okL vs (L - 2) = true := S.okL_iff.2 ⟨by omega, by omega⟩
    have O1 := S.o1_eq (q := q) (by omega)
    have NN := S.nn_eq (L := L) (by omega) hM
    have C1 : S.c1 vs L q = S.ul vs L := by unfold S.c1 S.ul; rw [O1, NN]
    have N1 : S.n1 vs L q = S.un vs L := by unfold S.n1 S.un; rw [O1, NN]
    have L1 : S.l1 vs L q = S.uf vs L := by unfold S.l1 S.uf; rw [O1, NN]
    have okA : S.okA vs 1 (L - 3) (q - 1) = true := S.okA_iff.2 ⟨hY, by omega, by omega, by omega⟩
    have b7 : Nat.ble (L - 3) 1000000 = true := S.bleN_iff.2 (by omega)
    have b8 : Nat.ble 1 (L - 3) = true := S.bleN_iff.2 (by omega)
    have ty : S.tyok2 5 3 23 22 = true := rfl
    have at2 : S.an true true = true := rfl
    have cl : lenL (S.un vs L) = S.ul vs L := rfl
    have cl2 : S.ul vs L ≤ L - 3 := S.nl_len vs _ _ _
    have fl2 : lenL (flatF [.i .i64] (S.un vs L)) = S.ul vs L := by rw [K.lenL_eq, flat_length, ← K.lenL_eq]; rfl
    have HL : lenL vs = L := hL
    have B := nqAF_blk et 1 (L - 3) (q - 1) vs (L - 2 : Nat) okA (by omega) hF (by omega)
    have F0 : Nat.beq (S.lf vs (L - 3) 1 (L - 3)) 0 = true := S.beqN_iff.2 hF
    have F1 : S.lf vs (L - 3) 1 (L - 3) = 0 := hF
    have F2 : S.uf vs L = 0 := hF
    have Z0 : eqI ((0 : Nat) : Int) 0 = true := rfl
    have w : wrapK .i64 ((S.ul vs L : Int) - 1) = (S.ul vs L : Int) - 1 := by rw [wrapK_i64]; omega
    have hC := S.bleN_iff.1 hC
    have c0 : eqI (S.ul vs L : Int) 0 = false := eqI_false.2 (by omega)
    have c1 : ltI 0 (S.ul vs L : Int) = true := ltI_true.2 (by omega)
    have c2 : Nat.ble 1 (S.ul vs L) = true := S.bleN_iff.2 (by omega)
    have c3 : Nat.beq 1 (S.ul vs L) = false := S.beqN_no.2 (by omega)
    have c4 : Nat.ble (1 + (S.ul vs L - 1)) (S.ul vs L) = true := S.bleN_iff.2 (by omega)
    have c5 : Nat.ble (S.ul vs L - 1) 0 = false := by
      cases h : Nat.ble (S.ul vs L - 1) 0
      · rfl
      · have := S.bleN_iff.1 h; omega
    have c6 : Nat.ble ((S.ul vs L - 1) * 8) 1099511627776 = true := S.bleN_iff.2 (by omega)
    simp only [e1, e2, b1, W2, W3, t2, t3, n2, n3, e3, e4, b2, b3, b4, b5, b6, okl, O1, NN, C1, N1, L1, okA, b7, b8, ty, at2, cl, fl2, S.lpok_ok, Nat.zero_add, Nat.mul_one, Nat.sub_zero, notB_t, notB_f, S.eqI_self, S.beq00, bc_true, bc_false, x0, x1, x2, F0, F1, F2, Z0, h1, w, c0, c1, c2, c3, c4, c5, c6, S.ble_self] at B ⊢
    refine ⟨B, ?_⟩
    repeat' (first | exact rfl | exact trivial | constructor)
theorem uZ_run (L et q : Nat) (vs : List LV) : K.bodyF (envK [(14, chkE)] (fun g id => bc (Nat.beq g 20) (bc (Nat.beq id 0) (some nqAFB) (none)) (none)) (fun g i => bc (Nat.beq g 10) (hasN [6, 7] i) (true))) (K.runF (envK [(14, chkE)] (fun g id => bc (Nat.beq g 20) (bc (Nat.beq id 0) (some nqAFB) (none)) (none)) (fun g i => bc (Nat.beq g 10) (hasN [6, 7] i) (true))) 30) 10 [.slice 0 0 L (.known q)] (Heap.of [.flat [.i .u8] et .ro vs]) Hint.auto (K.endC K.openE 1 ⟨.ret (.tup [.slice 1 0 0 (.known 0), .int .i64 0]), [], [.cells 3 .exact []]⟩) =
    (bc (ltI ↑L (4 : Int)) False (bc (ltI (0 : Int) ↑L) (bc (Nat.ble (1 : Nat) (lenL vs)) (bc (notB (eqI (intOf (K.atV vs (0 : Nat))) (87 : Int))) False (bc (notB (ltI (S.w2 L) (0 : Int))) (bc (Nat.ble (Int.toNat (S.w2 L)) L) (bc (Nat.ble (Int.toNat (S.w2 L)) q) (bc (S.okL vs (Int.toNat (S.w2 L) - (0 : Nat))) (bc (ltI (S.w2 L) (0 : Int)) False (bc (ltI (S.w2 L) ↑L) (bc (Nat.ble ((0 : Nat) + Int.toNat (S.w2 L) * (1 : Nat) + (1 : Nat)) (lenL vs)) (bc (notB (eqI (intOf (K.atV vs ((0 : Nat) + Int.toNat (S.w2 L) * (1 : Nat)))) (S.cA vs (Int.toNat (S.w2 L) - (0 : Nat))))) False (bc (ltI (S.w3 L) (0 : Int)) False (bc (ltI (S.w3 L) ↑L) (bc (Nat.ble ((0 : Nat) + Int.toNat (S.w3 L) * (1 : Nat) + (1 : Nat)) (lenL vs)) (bc (notB (eqI (intOf (K.atV vs ((0 : Nat) + Int.toNat (S.w3 L) * (1 : Nat)))) (S.cB vs (Int.toNat (S.w2 L) - (0 : Nat))))) False (bc (notB (ltI (S.w2 L) (0 : Int))) (bc (Nat.ble (Int.toNat (S.w2 L)) L) (bc (Nat.ble (1 : Nat) (Int.toNat (S.w2 L))) (bc (Nat.ble (Int.toNat (S.w2 L)) q) (bc (S.an (S.lpok (10 : FuncId) (74 : Nat) S.T0 [(48 : Nat), (49 : Nat)] S.code0 S.code1) (S.an (S.tyok2 (5 : Nat) (3 : Nat) (23 : Nat) (22 : Nat)) (S.an (S.an (S.okA vs (S.o1 q) (S.nn L) (q - (1 : Nat))) (Nat.ble (S.nn L) (1000000 : Nat))) (S.an (Nat.beq (S.l1 vs L q) (0 : Nat)) (Nat.ble (1 : Nat) (S.nn L)))))) (K.BOk Try.prog 20 57 (blkOf 20 0) [(0 : Nat), (1 : Nat)] [LV.func (Fn.yield (0 : Nat)) [] [], LV.ptr (2 : Nat) (0 : Nat)] [LObj.loop LoopState.ready none (10 : FuncId) (74 : Nat) S.T0 [(48 : Nat), (49 : Nat)] S.code0 S.code1 (5 : Nat), LObj.cells (3 : Nat) Own.exact [LV.int IntKind.i64 (S.w2 L)], LObj.cells (23 : Nat) Own.exact [LV.slice (3 : Nat) (S.o1 q) (S.nn L) (Cap.known (q - (1 : Nat)))], LObj.flat [CK.i IntKind.u8] et Own.ro vs, LObj.cells (22 : Nat) Own.exact [LV.nils], LObj.defers false] { x := LX.normal, L := [], ch := [((0 : Nat), LObj.loop LoopState.ready none (10 : FuncId) (74 : Nat) S.T0 [(48 : Tmp), (49 : Tmp)] S.code0 S.code1 (5 : Nat)), ((1 : Nat), LObj.cells (3 : TypeId) Own.exact [LV.int IntKind.i64 ↑(S.l1 vs L q)]), ((2 : Nat), LObj.dead), ((4 : Nat), LObj.cells (22 : TypeId) Own.exact [LV.slice (6 : Nat) (0 : Nat) (S.c1 vs L q) (Cap.rest (0 : Nat))])], new := [LObj.flat [CK.i IntKind.i64] (3 : TypeId) (Own.grow (1 : Nat)) (S.n1 vs L q)] } ∧ bc (eqI ↑(S.c1 vs L q) (0 : Int)) False (bc (notB (eqI ↑(S.l1 vs L q) (0 : Int))) False (bc (ltI (0 : Int) ↑(S.c1 vs L q)) (bc (Nat.ble (1 : Nat) (lenL (S.n1 vs L q))) (bc (notB (eqI (intOf (K.atV (S.n1 vs L q) (0 : Nat))) (wrapK IntKind.i64 (↑(S.c1 vs L q) - (1 : Int))))) False (bc (Nat.ble (S.c1 vs L q) (S.c1 vs L q)) (bc (Nat.ble (1 : Nat) (S.c1 vs L q)) (bc (Nat.ble ((0 : Nat) + S.c1 vs L q * (1 : Nat)) (lenL (flatF [CK.i IntKind.i64] (S.n1 vs L q)))) (bc (Nat.beq (1 : Nat) (S.c1 vs L q)) ((0 : Nat) = (0 : Nat) ∧ ((0 : Nat) = (0 : Nat) ∧ (Cap.known (0 : Nat) = Cap.known (0 : Nat) ∧ ((0 : Int) = (0 : Int) ∧ True)))) (bc (Nat.ble ((1 : Nat) + (S.c1 vs L q - (1 : Nat))) (lenL (S.n1 vs L q))) (bc (Nat.ble ((0 : Nat) + (S.c1 vs L q - (1 : Nat))) (0 : Nat)) (bc (Nat.beq (S.c1 vs L q - (1 : Nat)) (0 : Nat)) ((0 : Nat) = (0 : Nat) ∧ ((0 : Nat) = (0 : Nat) ∧ (Cap.known (0 : Nat) = Cap.known (0 : Nat) ∧ ((0 : Int) = (0 : Int) ∧ True)))) False) (bc (Nat.ble (((0 : Nat) + (S.c1 vs L q - (1 : Nat))) * (8 : Nat)) (1099511627776 : Nat)) ((0 : Nat) = (0 : Nat) ∧ ((0 : Nat) = (0 : Nat) + (S.c1 vs L q - (1 : Nat)) ∧ (Cap.known (0 : Nat) = Cap.rest (0 : Nat) ∧ ((0 : Int) = (0 : Int) ∧ False)))) False)) False)) False) False) False)) False) False))) False) False) False) False) False)) False) False))) False) False)) False) False) False) False)) False) False)) := by kernel_rfl
theorem uZ_con (L et q : Nat) (vs : List LV) (h0 : S.okU0 vs L q = true)  : HT Try.prog 10 [.slice 0 0 L (.known q)] (Heap.of [.flat [.i .u8] et .ro vs]) (⟨.ret (.tup [.slice 1 0 0 (.known 0), .int .i64 0]), [], [.cells 3 .exact []]⟩ : K.CRes).e (Heap.of (K.chg [.flat [.i .u8] et .ro vs] (⟨.ret (.tup [.slice 1 0 0 (.known 0), .int .i64 0]), [], [.cells 3 .exact []]⟩ : K.CRes).ch ++ (⟨.ret (.tup [.slice 1 0 0 (.known 0), .int .i64 0]), [], [.cells 3 .exact []]⟩ : K.CRes).new)) := by
  refine K.con_of_run good (A := envK [(14, chkE)] (fun g id => bc (Nat.beq g 20) (bc (Nat.beq id 0) (some nqAFB) (none)) (none)) (fun g i => bc (Nat.beq g 10) (hasN [6, 7] i) (true))) (envK_ok ?_) K.openE_ok (k := 30) (cast (uZ_run L et q vs).symm ?_)
  · intro p hp; simp only [List.mem_cons, List.not_mem_nil, or_false] at hp; rcases hp with rfl <;> first | exact chk_ok
  · obtain ⟨hU, h0⟩ := S.an_iff.1 h0
    obtain ⟨⟨hY, hL⟩, hM, hq⟩ := S.okU_iff.1 hU
    obtain ⟨hO, hC⟩ := S.an_iff.1 h0
    obtain ⟨hH, hF, h1⟩ := S.uo_iff.1 hO
    obtain ⟨h4, x0, x1, x2⟩ := S.uh_iff.1 hH
    have e1 : ltI (L : Int) 4 = false := ltI_false.2 (by omega)
    have e2 : ltI 0 (L : Int) = true := ltI_true.2 (by omega)
    have b1 : Nat.ble 1 (lenL vs) = true := S.bleN_iff.2 (by omega)
    have W2 := S.w2_eq (L := L) (by omega) hM
    have W3 := S.w3_eq (L := L) (by omega) hM
    have t2 : ((L - 2 : Nat) : Int).toNat = L - 2 := Int.toNat_natCast _
    have t3 : ((L - 1 : Nat) : Int).toNat = L - 1 := Int.toNat_natCast _
    have n2 : ltI ((L - 2 : Nat) : Int) 0 = false := ltI_false.2 (by omega)
    have n3 : ltI ((L - 1 : Nat) : Int) 0 = false := ltI_false.2 (by omega)
    have e3 : ltI ((L - 2 : Nat) : Int) L = true := ltI_true.2 (by omega)
    have e4 : ltI ((L - 1 : Nat) : Int) L = true := ltI_true.2 (by omega)
    have b2 : Nat.ble (L - 2) L = true := S.bleN_iff.2 (by omega)
    have b3 : Nat.ble (L - 2) q = true := S.bleN_iff.2 (by omega)
    have b4 : Nat.ble 1 (L - 2) = true := S.bleN_iff.2 (by omega)
    have b5 : Nat.ble (L - 2 + 1) (lenL vs) = true := S.bleN_iff.2 (by omega)
    have b6 : Nat.ble (L - 1 + 1) (lenL vs) = true := S.bleN_iff.2 (by omega)
    have okl : S.okL vs (L - 2) = true := S.okL_iff.2 ⟨by omega, by omega⟩
    have O1 := S.o1_eq (q := q) (by omega)
    have NN := S.nn_eq (L := L) (by omega) hM
    have C1 : S.c1 vs L q = S.ul vs L := by unfold S.c1 S.ul; rw [O1, NN]
    have N1 : S.n1 vs L q = S.un vs L := by unfold S.n1 S.un; rw [O1, NN]
    have L1 : S.l1 vs L q = S.uf vs L := by unfold S.l1 S.uf; rw [O1, NN]
    have okA : S.okA vs 1 (L - 3) (q - 1) = true := S.okA_iff.2 ⟨hY, by omega, by omega, by omega⟩
    have b7 : Nat.ble (L - 3) 1000000 = true := S.bleN_iff.2 (by omega)
    have b8 : Nat.ble 1 (L - 3) = true := S.bleN_iff.2 (by omega)
    have ty : S.tyok2 5 3 23 22 = true := rfl
    have at2 : S.an true true = true := rfl
    have cl : lenL (S.un vs L) = S.ul vs L := rfl
    have cl2 : S.ul vs L ≤ L - 3 := S.nl_len vs _ _ _
    have fl2 : lenL (flatF [.i .i64] (S.un vs L)) = S.ul vs L := by rw [K.lenL_eq, flat_length, ← K.lenL_eq]; rfl
    have HL : lenL vs = L := hL
    have B := nqAF_blk et 1 (L - 3) (q - 1) vs (L - 2 : Nat) okA (by omega) hF (by omega)
    have F0 : Nat.beq (S.lf vs (L - 3) 1 (L - 3)) 0 = true := S.beqN_iff.2 hF
    have F1 : S.lf vs (L - 3) 1 (L - 3) = 0 := hF
    have F2 : S.uf vs L = 0 := hF
    have Z0 : eqI ((0 : Nat) : Int) 0 = true := rfl
    have w : wrapK .i64 ((S.ul vs L : Int) - 1) = (S.ul vs L : Int) - 1 := by rw [wrapK_i64]; omega
    have hC := S.beqN_iff.1 hC
    have c0 : eqI (S.ul vs L : Int) 0 = false := eqI_false.2 (by omega)
    have c1 : ltI 0 (S.ul vs L : Int) = true := ltI_true.2 (by omega)
    have c2 : Nat.ble 1 (S.ul vs L) = true := S.bleN_iff.2 (by omega)
    have c3 : Nat.beq 1 (S.ul vs L) = true := S.beqN_iff.2 hC.symm
    simp only [e1, e2, b1, W2, W3, t2, t3, n2, n3, e3, e4, b2, b3, b4, b5, b6, okl, O1, NN, C1, N1, L1, okA, b7, b8, ty, at2, cl, fl2, S.lpok_ok, Nat.zero_add, Nat.mul_one, Nat.sub_zero, notB_t, notB_f, S.eqI_self, S.beq00, bc_true, bc_false, x0, x1, x2, F0, F1, F2, Z0, h1, w, c0, c1, c2, c3, S.ble_self] at B ⊢
    refine ⟨B, ?_⟩
    repeat' (first | exact rfl | exact trivial | constructor)
theorem uF_run (L et q : Nat) (vs : List LV) : K.bodyF (envK [(14, chkE)] (fun g id => bc (Nat.beq g 20) (bc (Nat.beq id 0) (some nqAFB) (none)) (none)) (fun g i => bc (Nat.beq g 10) (hasN [6, 7] i) (true))) (K.runF (envK [(14, chkE)] (fun g id => bc (Nat.beq g 20) (bc (Nat.beq id 0) (some nqAFB) (none)) (none)) (fun g i => bc (Nat.beq g 10) (hasN [6, 7] i) (true))) 30) 10 [.slice 0 0 L (.known q)] (Heap.of [.flat [.i .u8] et .ro vs]) Hint.auto (K.endC K.openE 1 ⟨.ret (.tup [.nils, .int .i64 9]), [], []⟩) =
    (bc (ltI ↑L (4 : Int)) ((9 : Int) = (9 : Int) ∧ True) (bc (ltI (0 : Int) ↑L) (bc (Nat.ble (1 : Nat) (lenL vs)) (bc (notB (eqI (intOf (K.atV vs (0 : Nat))) (87 : Int))) ((9 : Int) = (9 : Int) ∧ True) (bc (notB (ltI (S.w2 L) (0 : Int))) (bc (Nat.ble (Int.toNat (S.w2 L)) L) (bc (Nat.ble (Int.toNat (S.w2 L)) q) (bc (S.okL vs (Int.toNat (S.w2 L) - (0 : Nat))) (bc (ltI (S.w2 L) (0 : Int)) False (bc (ltI (S.w2 L) ↑L) (bc (Nat.ble ((0 : Nat) + Int.toNat (S.w2 L) * (1 : Nat) + (1 : Nat)) (lenL vs)) (bc (notB (eqI (intOf (K.atV vs ((0 : Nat) + Int.toNat (S.w2 L) * (1 : Nat)))) (S.cA vs (Int.toNat (S.w2 L) - (0 : Nat))))) ((9 : Int) = (9 : Int) ∧ True) (bc (ltI (S.w3 L) (0 : Int)) False (bc (ltI (S.w3 L) ↑L) (bc (Nat.ble ((0 : Nat) + Int.toNat (S.w3 L) * (1 : Nat) + (1 : Nat)) (lenL vs)) (bc (notB (eqI (intOf (K.atV vs ((0 : Nat) + Int.toNat (S.w3 L) * (1 : Nat)))) (S.cB vs (Int.toNat (S.w2 L) - (0 : Nat))))) ((9 : Int) = (9 : Int) ∧ True) (bc (notB (ltI (S.w2 L) (0 : Int))) (bc (Nat.ble (Int.toNat (S.w2 L)) L) (bc (Nat.ble (1 : Nat) (Int.toNat (S.w2 L))) (bc (Nat.ble (Int.toNat (S.w2 L)) q) (bc (S.an (S.lpok (10 : FuncId) (74 : Nat) S.T0 [(48 : Nat), (49 : Nat)] S.code0 S.code1) (S.an (S.tyok2 (5 : Nat) (3 : Nat) (23 : Nat) (22 : Nat)) (S.an (S.an (S.okA vs (S.o1 q) (S.nn L) (q - (1 : Nat))) (Nat.ble (S.nn L) (1000000 : Nat))) (S.an (Nat.beq (S.l1 vs L q) (0 : Nat)) (Nat.ble (1 : Nat) (S.nn L)))))) (K.BOk Try.prog 20 57 (blkOf 20 0) [(0 : Nat), (1 : Nat)] [LV.func (Fn.yield (0 : Nat)) [] [], LV.ptr (2 : Nat) (0 : Nat)] [LObj.loop LoopState.ready none (10 : FuncId) (74 : Nat) S.T0 [(48 : Nat), (49 : Nat)] S.code0 S.code1 (5 : Nat), LObj.cells (3 : Nat) Own.exact [LV.int IntKind.i64 (S.w2 L)], LObj.cells (23 : Nat) Own.exact [LV.slice (3 : Nat) (S.o1 q) (S.nn L) (Cap.known (q - (1 : Nat)))], LObj.flat [CK.i IntKind.u8] et Own.ro vs, LObj.cells (22 : Nat) Own.exact [LV.nils], LObj.defers false] { x := LX.normal, L := [], ch := [((0 : Nat), LObj.loop LoopState.ready none (10 : FuncId) (74 : Nat) S.T0 [(48 : Tmp), (49 : Tmp)] S.code0 S.code1 (5 : Nat)), ((1 : Nat), LObj.cells (3 : TypeId) Own.exact [LV.int IntKind.i64 ↑(S.l1 vs L q)]), ((2 : Nat), LObj.dead), ((4 : Nat), LObj.cells (22 : TypeId) Own.exact [LV.slice (6 : Nat) (0 : Nat) (S.c1 vs L q) (Cap.rest (0 : Nat))])], new := [LObj.flat [CK.i IntKind.i64] (3 : TypeId) (Own.grow (1 : Nat)) (S.n1 vs L q)] } ∧ bc (eqI ↑(S.c1 vs L q) (0 : Int)) ((9 : Int) = (9 : Int) ∧ True) (bc (notB (eqI ↑(S.l1 vs L q) (0 : Int))) ((9 : Int) = (9 : Int) ∧ True) (bc (ltI (0 : Int) ↑(S.c1 vs L q)) (bc (Nat.ble (1 : Nat) (lenL (S.n1 vs L q))) (bc (notB (eqI (intOf (K.atV (S.n1 vs L q) (0 : Nat))) (wrapK IntKind.i64 (↑(S.c1 vs L q) - (1 : Int))))) ((9 : Int) = (9 : Int) ∧ True) (bc (Nat.ble (S.c1 vs L q) (S.c1 vs L q)) (bc (Nat.ble (1 : Nat) (S.c1 vs L q)) (bc (Nat.ble ((0 : Nat) + S.c1 vs L q * (1 : Nat)) (lenL (flatF [CK.i IntKind.i64] (S.n1 vs L q)))) (bc (Nat.beq (1 : Nat) (S.c1 vs L q)) False (bc (Nat.ble ((1 : Nat) + (S.c1 vs L q - (1 : Nat))) (lenL (S.n1 vs L q))) (bc (Nat.ble ((0 : Nat) + (S.c1 vs L q - (1 : Nat))) (0 : Nat)) (bc (Nat.beq (S.c1 vs L q - (1 : Nat)) (0 : Nat)) False False) (bc (Nat.ble (((0 : Nat) + (S.c1 vs L q - (1 : Nat))) * (8 : Nat)) (1099511627776 : Nat)) False False)) False)) False) False) False)) False) False))) False) False) False) False) False)) False) False))) False) False)) False) False) False) False)) False) False)) := by kernel_rfl
theorem uF_con (L et q : Nat) (vs : List LV) (h0 : S.an (S.okU vs L q) (S.an (notB (S.uo vs L)) (Nat.beq (S.uf vs L) 0)) = true)  : HT Try.prog 10 [.slice 0 0 L (.known q)] (Heap.of [.flat [.i .u8] et .ro vs]) (⟨.ret (.tup [.nils, .int .i64 9]), [], []⟩ : K.CRes).e (Heap.of (K.chg [.flat [.i .u8] et .ro vs] (⟨.ret (.tup [.nils, .int .i64 9]), [], []⟩ : K.CRes).ch ++ (⟨.ret (.tup [.nils, .int .i64 9]), [], []⟩ : K.CRes).new)) := by
  refine K.con_of_run good (A := envK [(14, chkE)] (fun g id => bc (Nat.beq g 20) (bc (Nat.beq id 0) (some nqAFB) (none)) (none)) (fun g i => bc (Nat.beq g 10) (hasN [6, 7] i) (true))) (envK_ok ?_) K.openE_ok (k := 30) (cast (uF_run L et q vs).symm ?_)
  · intro p hp; simp only [List.mem_cons, List.not_mem_nil, or_false] at hp; rcases hp with rfl <;> first | exact chk_ok
  · obtain ⟨hU, h0⟩ := S.an_iff.1 h0
    obtain ⟨⟨hY, hL⟩, hM, hq⟩ := S.okU_iff.1 hU
    have hO : S.uo vs L = false := notB_true.1 ((S.an_iff.1 h0).1)
    by_cases h4 : L < 4
    · have e1 : ltI (L : Int) 4 = true := ltI_true.2 (by omega)
      simp only [e1, bc_true]
      simp
    have e1 : ltI (L : Int) 4 = false := ltI_false.2 (by omega)
    have e2 : ltI 0 (L : Int) = true := ltI_true.2 (by omega)
    have b1 : Nat.ble 1 (lenL vs) = true := S.bleN_iff.2 (by omega)
    have W2 := S.w2_eq (L := L) (by omega) hM
    have W3 := S.w3_eq (L := L) (by omega) hM
    have t2 : ((L - 2 : Nat) : Int).toNat = L - 2 := Int.toNat_natCast _
    have t3 : ((L - 1 : Nat) : Int).toNat = L - 1 := Int.toNat_natCast _
    have n2 : ltI ((L - 2 : Nat) : Int) 0 = false := ltI_false.2 (by omega)
    have n3 : ltI ((L - 1 : Nat) : Int) 0 = false := ltI_false.2 (by omega)
    have e3 : ltI ((L - 2 : Nat) : Int) L = true := ltI_true.2 (by omega)
    have e4 : ltI ((L - 1 : Nat) : Int) L = true := ltI_true.2 (by omega)
    have b2 : Nat.ble (L - 2) L = true := S.bleN_iff.2 (by omega)
    have b3 : Nat.ble (L - 2) q = true := S.bleN_iff.2 (by omega)
    have b4 : Nat.ble 1 (L - 2) = true := S.bleN_iff.2 (by omega)
    have b5 : Nat.ble (L - 2 + 1) (lenL vs) = true := S.bleN_iff.2 (by omega)
    have b6 : Nat.ble (L - 1 + 1) (lenL vs) = true := S.bleN_iff.2 (by omega)
    have okl : S.okL vs (L - 2) = true := S.okL_iff.2 ⟨by omega, by omega⟩
    have O1 := S.o1_eq (q := q) (by omega)
    have NN := S.nn_eq (L := L) (by omega) hM
    have C1 : S.c1 vs L q = S.ul vs L := by unfold S.c1 S.ul; rw [O1, NN]
    have N1 : S.n1 vs L q = S.un vs L := by unfold S.n1 S.un; rw [O1, NN]
    have L1 : S.l1 vs L q = S.uf vs L := by unfold S.l1 S.uf; rw [O1, NN]
    have okA : S.okA vs 1 (L - 3) (q - 1) = true := S.okA_iff.2 ⟨hY, by omega, by omega, by omega⟩
    have b7 : Nat.ble (L - 3) 1000000 = true := S.bleN_iff.2 (by omega)
    have b8 : Nat.ble 1 (L - 3) = true := S.bleN_iff.2 (by omega)
    have ty : S.tyok2 5 3 23 22 = true := rfl
    have at2 : S.an true true = true := rfl
    have cl : lenL (S.un vs L) = S.ul vs L := rfl
    have cl2 : S.ul vs L ≤ L - 3 := S.nl_len vs _ _ _
    have fl2 : lenL (flatF [.i .i64] (S.un vs L)) = S.ul vs L := by rw [K.lenL_eq, flat_length, ← K.lenL_eq]; rfl
    have HL : lenL vs = L := hL
    by_cases x0 : intOf (K.atV vs 0) = 87
    rotate_left
    · simp only [e1, e2, b1, W2, W3, t2, t3, n2, n3, e3, e4, b2, b3, b4, b5, b6, okl, O1, NN, C1, N1, L1, okA, b7, b8, ty, at2, cl, fl2, S.lpok_ok, Nat.zero_add, Nat.mul_one, Nat.sub_zero, notB_t, notB_f, S.eqI_self, S.beq00, bc_true, bc_false, eqI_false.2 x0]
      simp
    by_cases x1 : intOf (K.atV vs (L - 2)) = S.cA vs (L - 2)
    rotate_left
    · simp only [e1, e2, b1, W2, W3, t2, t3, n2, n3, e3, e4, b2, b3, b4, b5, b6, okl, O1, NN, C1, N1, L1, okA, b7, b8, ty, at2, cl, fl2, S.lpok_ok, Nat.zero_add, Nat.mul_one, Nat.sub_zero, notB_t, notB_f, S.eqI_self, S.beq00, bc_true, bc_false, x0, eqI_false.2 x1]
      simp
    by_cases x2 : intOf (K.atV vs (L - 1)) = S.cB vs (L - 2)
    rotate_left
    · simp only [e1, e2, b1, W2, W3, t2, t3, n2, n3, e3, e4, b2, b3, b4, b5, b6, okl, O1, NN, C1, N1, L1, okA, b7, b8, ty, at2, cl, fl2, S.lpok_ok, Nat.zero_add, Nat.mul_one, Nat.sub_zero, notB_t, notB_f, S.eqI_self, S.beq00, bc_true, bc_false, x0, x1, eqI_false.2 x2]
      simp
    have hH : S.uh vs L = true := S.uh_iff.2 ⟨by omega, x0, x1, x2⟩
    have hN : ¬ (S.uf vs L = 0 ∧ intOf (K.atV (S.un vs L) 0) = (S.ul vs L : Int) - 1) := fun h => by
      rw [S.uo_iff.2 ⟨hH, h.1, h.2⟩] at hO; cases hO
    have hF : S.uf vs L = 0 := S.beqN_iff.1 (S.an_iff.1 h0).2
    have B := nqAF_blk et 1 (L - 3) (q - 1) vs (L - 2 : Nat) okA (by omega) hF (by omega)
    have F0 : Nat.beq (S.lf vs (L - 3) 1 (L - 3)) 0 = true := S.beqN_iff.2 hF
    have F1 : S.lf vs (L - 3) 1 (L - 3) = 0 := hF
    have Z0 : eqI ((0 : Nat) : Int) 0 = true := rfl
    have w : wrapK .i64 ((S.ul vs L : Int) - 1) = (S.ul vs L : Int) - 1 := by rw [wrapK_i64]; omega
    have x3 : intOf (K.atV (S.un vs L) 0) ≠ (S.ul vs L : Int) - 1 := fun h => hN ⟨hF, h⟩
    cases c0 : eqI (S.ul vs L : Int) 0
    · have c0' := eqI_false.1 c0
      have c1 : ltI 0 (S.ul vs L : Int) = true := ltI_true.2 (by omega)
      have c2 : Nat.ble 1 (S.ul vs L) = true := S.bleN_iff.2 (by omega)
      simp only [e1, e2, b1, W2, W3, t2, t3, n2, n3, e3, e4, b2, b3, b4, b5, b6, okl, O1, NN, C1, N1, L1, okA, b7, b8, ty, at2, cl, fl2, S.lpok_ok, Nat.zero_add, Nat.mul_one, Nat.sub_zero, notB_t, notB_f, S.eqI_self, S.beq00, bc_true, bc_false, x0, x1, x2, F0, F1, hF, Z0, w, c0, c1, c2, eqI_false.2 x3] at B ⊢
      exact ⟨B, by simp⟩
    · simp only [e1, e2, b1, W2, W3, t2, t3, n2, n3, e3, e4, b2, b3, b4, b5, b6, okl, O1, NN, C1, N1, L1, okA, b7, b8, ty, at2, cl, fl2, S.lpok_ok, Nat.zero_add, Nat.mul_one, Nat.sub_zero, notB_t, notB_f, S.eqI_self, S.beq00, bc_true, bc_false, x0, x1, x2, F0, F1, hF, Z0, c0] at B ⊢
      exact ⟨B, by simp⟩
theorem uP_run (L et q : Nat) (vs : List LV) : K.bodyF (envK [(14, chkE)] (fun g id => bc (Nat.beq g 20) (bc (Nat.beq id 0) (some nqAPB) (none)) (none)) (fun g i => bc (Nat.beq g 10) (hasN [6, 7] i) (true))) (K.runF (envK [(14, chkE)] (fun g id => bc (Nat.beq g 20) (bc (Nat.beq id 0) (some nqAPB) (none)) (none)) (fun g i => bc (Nat.beq g 10) (hasN [6, 7] i) (true))) 30) 10 [.slice 0 0 L (.known q)] (Heap.of [.flat [.i .u8] et .ro vs]) Hint.auto (K.endC K.openE 1 ⟨.ret (.tup [.nils, .int .i64 9]), [], []⟩) =
    (bc (ltI ↑L (4 : Int)) ((9 : Int) = (9 : Int) ∧ True) (bc (ltI (0 : Int) ↑L) (bc (Nat.ble (1 : Nat) (lenL vs)) (bc (notB (eqI (intOf (K.atV vs (0 : Nat))) (87 : Int))) ((9 : Int) = (9 : Int) ∧ True) (bc (notB (ltI (S.w2 L) (0 : Int))) (bc (Nat.ble (Int.toNat (S.w2 L)) L) (bc (Nat.ble (Int.toNat (S.w2 L)) q) (bc (S.okL vs (Int.toNat (S.w2 L) - (0 : Nat))) (bc (ltI (S.w2 L) (0 : Int)) False (bc (ltI (S.w2 L) ↑L) (bc (Nat.ble ((0 : Nat) + Int.toNat (S.w2 L) * (1 : Nat) + (1 : Nat)) (lenL vs)) (bc (notB (eqI (intOf (K.atV vs ((0 : Nat) + Int.toNat (S.w2 L) * (1 : Nat)))) (S.cA vs (Int.toNat (S.w2 L) - (0 : Nat))))) ((9 : Int) = (9 : Int) ∧ True) (bc (ltI (S.w3 L) (0 : Int)) False (bc (ltI (S.w3 L) ↑L) (bc (Nat.ble ((0 : Nat) + Int.toNat (S.w3 L) * (1 : Nat) + (1 : Nat)) (lenL vs)) (bc (notB (eqI (intOf (K.atV vs ((0 : Nat) + Int.toNat (S.w3 L) * (1 : Nat)))) (S.cB vs (Int.toNat (S.w2 L) - (0 : Nat))))) ((9 : Int) = (9 : Int) ∧ True) (bc (notB (ltI (S.w2 L) (0 : Int))) (bc (Nat.ble (Int.toNat (S.w2 L)) L) (bc (Nat.ble (1 : Nat) (Int.toNat (S.w2 L))) (bc (Nat.ble (Int.toNat (S.w2 L)) q) (bc (S.an (S.lpok (10 : FuncId) (74 : Nat) S.T0 [(48 : Nat), (49 : Nat)] S.code0 S.code1) (S.an (S.tyok2 (5 : Nat) (3 : Nat) (23 : Nat) (22 : Nat)) (S.an (S.an (S.okA vs (S.o1 q) (S.nn L) (q - (1 : Nat))) (Nat.ble (S.nn L) (1000000 : Nat))) (S.an (notB (Nat.beq (S.l1 vs L q) (0 : Nat))) (notB (Nat.beq (S.gk vs (S.o1 q) (S.nn L)) (0 : Nat))))))) (K.BOk Try.prog 20 57 (blkOf 20 0) [(0 : Nat), (1 : Nat)] [LV.func (Fn.yield (0 : Nat)) [] [], LV.ptr (2 : Nat) (0 : Nat)] [LObj.loop LoopState.ready none (10 : FuncId) (74 : Nat) S.T0 [(48 : Nat), (49 : Nat)] S.code0 S.code1 (5 : Nat), LObj.cells (3 : Nat) Own.exact [LV.int IntKind.i64 (S.w2 L)], LObj.cells (23 : Nat) Own.exact [LV.slice (3 : Nat) (S.o1 q) (S.nn L) (Cap.known (q - (1 : Nat)))], LObj.flat [CK.i IntKind.u8] et Own.ro vs, LObj.cells (22 : Nat) Own.exact [LV.nils], LObj.defers false] { x := LX.ret, L := [], ch := [((0 : Nat), LObj.loop LoopState.ready none (10 : FuncId) (74 : Nat) S.T0 [(48 : Tmp), (49 : Tmp)] S.code0 S.code1 (5 : Nat)), ((1 : Nat), LObj.cells (3 : TypeId) Own.exact [LV.int IntKind.i64 ↑(S.l1 vs L q)]), ((2 : Nat), LObj.dead), ((4 : Nat), LObj.cells (22 : TypeId) Own.exact [LV.slice (6 : Nat) (0 : Nat) (S.c1 vs L q) (Cap.rest (0 : Nat))])], new := [LObj.flat [CK.i IntKind.i64] (3 : TypeId) (Own.grow (1 : Nat)) (S.n1 vs L q)] } ∧ bc (eqI ↑(S.c1 vs L q) (0 : Int)) ((9 : Int) = (9 : Int) ∧ True) (bc (notB (eqI ↑(S.l1 vs L q) (0 : Int))) ((9 : Int) = (9 : Int) ∧ True) (bc (ltI (0 : Int) ↑(S.c1 vs L q)) (bc (Nat.ble (1 : Nat) (lenL (S.n1 vs L q))) (bc (notB (eqI (intOf (K.atV (S.n1 vs L q) (0 : Nat))) (wrapK IntKind.i64 (↑(S.c1 vs L q) - (1 : Int))))) ((9 : Int) = (9 : Int) ∧ True) (bc (Nat.ble (S.c1 vs L q) (S.c1 vs L q)) (bc (Nat.ble (1 : Nat) (S.c1 vs L q)) (bc (Nat.ble ((0 : Nat) + S.c1 vs L q * (1 : Nat)) (lenL (flatF [CK.i IntKind.i64] (S.n1 vs L q)))) (bc (Nat.beq (1 : Nat) (S.c1 vs L q)) False (bc (Nat.ble ((1 : Nat) + (S.c1 vs L q - (1 : Nat))) (lenL (S.n1 vs L q))) (bc (Nat.ble ((0 : Nat) + (S.c1 vs L q - (1 : Nat))) (0 : Nat)) (bc (Nat.beq (S.c1 vs L q - (1 : Nat)) (0 : Nat)) False False) (bc (Nat.ble (((0 : Nat) + (S.c1 vs L q - (1 : Nat))) * (8 : Nat)) (1099511627776 : Nat)) False False)) False)) False) False) False)) False) False))) False) False) False) False) False)) False) False))) False) False)) False) False) False) False)) False) False)) := by kernel_rfl
theorem uP_con (L et q : Nat) (vs : List LV) (h0 : S.an (S.okU vs L q) (S.an (notB (S.uo vs L)) (S.an (notB (Nat.beq (S.uf vs L) 0)) (notB (Nat.beq (S.gk vs 1 (L - 3)) 0)))) = true)  : HT Try.prog 10 [.slice 0 0 L (.known q)] (Heap.of [.flat [.i .u8] et .ro vs]) (⟨.ret (.tup [.nils, .int .i64 9]), [], []⟩ : K.CRes).e (Heap.of (K.chg [.flat [.i .u8] et .ro vs] (⟨.ret (.tup [.nils, .int .i64 9]), [], []⟩ : K.CRes).ch ++ (⟨.ret (.tup [.nils, .int .i64 9]), [], []⟩ : K.CRes).new)) := by
  refine K.con_of_run good (A := envK [(14, chkE)] (fun g id => bc (Nat.beq g 20) (bc (Nat.beq id 0) (some nqAPB) (none)) (none)) (fun g i => bc (Nat.beq g 10) (hasN [6, 7] i) (true))) (envK_ok ?_) K.openE_ok (k := 30) (cast (uP_run L et q vs).symm ?_)
  · intro p hp; simp only [List.mem_cons, List.not_mem_nil, or_false] at hp; rcases hp with rfl <;> first | exact chk_ok
  · obtain ⟨hU, h0⟩ := S.an_iff.1 h0
    obtain ⟨⟨hY, hL⟩, hM, hq⟩ := S.okU_iff.1 hU
    have hO : S.uo vs L = false := notB_true.1 ((S.an_iff.1 h0).1)
    by_cases h4 : L < 4
    · have e1 : ltI (L : Int) 4 = true := ltI_true.2 (by omega)
      simp only [e1, bc_true]
      simp
    have e1 : ltI (L : Int) 4 = false := ltI_false.2 (by omega)
    have e2 : ltI 0 (L : Int) = true := ltI_true.2 (by omega)
    have b1 : Nat.ble 1 (lenL vs) = true := S.bleN_iff.2 (by omega)
    have W2 := S.w2_eq (L := L) (by omega) hM
    have W3 := S.w3_eq (L := L) (by omega) hM
    have t2 : ((L - 2 : Nat) : Int).toNat = L - 2 := Int.toNat_natCast _
    have t3 : ((L - 1 : Nat) : Int).toNat = L - 1 := Int.toNat_natCast _
    have n2 : ltI ((L - 2 : Nat) : Int) 0 = false := ltI_false.2 (by omega)
    have n3 : ltI ((L - 1 : Nat) : Int) 0 = false := ltI_false.2 (by omega)
    have e3 : ltI ((L - 2 : Nat) : Int) L = true := ltI_true.2 (by omega)
    have e4 : ltI ((L - 1 : Nat) : Int) L = true := ltI_true.2 (by omega)
    have b2 : Nat.ble (L - 2) L = true := S.bleN_iff.2 (by omega)
    have b3 : Nat.ble (L - 2) q = true := S.bleN_iff.2 (by omega)
    have b4 : Nat.ble 1 (L - 2) = true := S.bleN_iff.2 (by omega)
    have b5 : Nat.ble (L - 2 + 1) (lenL vs) = true := S.bleN_iff.2 (by omega)
    have b6 : Nat.ble (L - 1 + 1) (lenL vs) = true := S.bleN_iff.2 (by omega)
    have okl : S.okL vs (L - 2) = true := S.okL_iff.2 ⟨by omega, by omega⟩
    have O1 := S.o1_eq (q := q) (by omega)
    have NN := S.nn_eq (L := L) (by omega) hM
    have C1 : S.c1 vs L q = S.ul vs L := by unfold S.c1 S.ul; rw [O1, NN]
    have N1 : S.n1 vs L q = S.un vs L := by unfold S.n1 S.un; rw [O1, NN]
    have L1 : S.l1 vs L q = S.uf vs L := by unfold S.l1 S.uf; rw [O1, NN]
    have okA : S.okA vs 1 (L - 3) (q - 1) = true := S.okA_iff.2 ⟨hY, by omega, by omega, by omega⟩
    have b7 : Nat.ble (L - 3) 1000000 = true := S.bleN_iff.2 (by omega)
    have b8 : Nat.ble 1 (L - 3) = true := S.bleN_iff.2 (by omega)
    have ty : S.tyok2 5 3 23 22 = true := rfl
    have at2 : S.an true true = true := rfl
    have cl : lenL (S.un vs L) = S.ul vs L := rfl
    have cl2 : S.ul vs L ≤ L - 3 := S.nl_len vs _ _ _
    have fl2 : lenL (flatF [.i .i64] (S.un vs L)) = S.ul vs L := by rw [K.lenL_eq, flat_length, ← K.lenL_eq]; rfl
    have HL : lenL vs = L := hL
    by_cases x0 : intOf (K.atV vs 0) = 87
    rotate_left
    · simp only [e1, e2, b1, W2, W3, t2, t3, n2, n3, e3, e4, b2, b3, b4, b5, b6, okl, O1, NN, C1, N1, L1, okA, b7, b8, ty, at2, cl, fl2, S.lpok_ok, Nat.zero_add, Nat.mul_one, Nat.sub_zero, notB_t, notB_f, S.eqI_self, S.beq00, bc_true, bc_false, eqI_false.2 x0]
      simp
    by_cases x1 : intOf (K.atV vs (L - 2)) = S.cA vs (L - 2)
    rotate_left
    · simp only [e1, e2, b1, W2, W3, t2, t3, n2, n3, e3, e4, b2, b3, b4, b5, b6, okl, O1, NN, C1, N1, L1, okA, b7, b8, ty, at2, cl, fl2, S.lpok_ok, Nat.zero_add, Nat.mul_one, Nat.sub_zero, notB_t, notB_f, S.eqI_self, S.beq00, bc_true, bc_false, x0, eqI_false.2 x1]
      simp
    by_cases x2 : intOf (K.atV vs (L - 1)) = S.cB vs (L - 2)
    rotate_left
    · simp only [e1, e2, b1, W2, W3, t2, t3, n2, n3, e3, e4, b2, b3, b4, b5, b6, okl, O1, NN, C1, N1, L1, okA, b7, b8, ty, at2, cl, fl2, S.lpok_ok, Nat.zero_add, Nat.mul_one, Nat.sub_zero, notB_t, notB_f, S.eqI_self, S.beq00, bc_true, bc_false, x0, x1, eqI_false.2 x2]
      simp
    have hH : S.uh vs L = true := S.uh_iff.2 ⟨by omega, x0, x1, x2⟩
    have hN : ¬ (S.uf vs L = 0 ∧ intOf (K.atV (S.un vs L) 0) = (S.ul vs L : Int) - 1) := fun h => by
      rw [S.uo_iff.2 ⟨hH, h.1, h.2⟩] at hO; cases hO
    obtain ⟨hF, hG⟩ := S.an_iff.1 (S.an_iff.1 h0).2
    have hF : S.uf vs L ≠ 0 := S.beqN_no.1 (notB_true.1 hF)
    have hG : S.gk vs 1 (L - 3) ≠ 0 := S.beqN_no.1 (notB_true.1 hG)
    have B := nqAP_blk et 1 (L - 3) (q - 1) vs (L - 2 : Nat) okA (by omega) hF hG
    have F0 : Nat.beq (S.lf vs (L - 3) 1 (L - 3)) 0 = false := S.beqN_no.2 hF
    have F3 : Nat.beq (S.gk vs 1 (L - 3)) 0 = false := S.beqN_no.2 hG
    have F4 : Nat.beq (S.uf vs L) 0 = false := S.beqN_no.2 hF
    have Z0 : eqI (S.uf vs L : Int) 0 = false := eqI_false.2 (by omega)
    cases c0 : eqI (S.ul vs L : Int) 0
    · simp only [e1, e2, b1, W2, W3, t2, t3, n2, n3, e3, e4, b2, b3, b4, b5, b6, okl, O1, NN, C1, N1, L1, okA, b7, b8, ty, at2, cl, fl2, S.lpok_ok, Nat.zero_add, Nat.mul_one, Nat.sub_zero, notB_t, notB_f, S.eqI_self, S.beq00, bc_true, bc_false, x0, x1, x2, F0, F3, F4, Z0, c0] at B ⊢
      exact ⟨B, by simp⟩
    · simp only [e1, e2, b1, W2, W3, t2, t3, n2, n3, e3, e4, b2, b3, b4, b5, b6, okl, O1, NN, C1, N1, L1, okA, b7, b8, ty, at2, cl, fl2, S.lpok_ok, Nat.zero_add, Nat.mul_one, Nat.sub_zero, notB_t, notB_f, S.eqI_self, S.beq00, bc_true, bc_false, x0, x1, x2, F0, F3, F4, c0] at B ⊢
      exact ⟨B, by simp⟩
theorem uO_run (L et q : Nat) (vs : List LV) : K.bodyF (envK [(14, chkE)] (fun g id => bc (Nat.beq g 20) (bc (Nat.beq id 0) (some nqAOB) (none)) (none)) (fun g i => bc (Nat.beq g 10) (hasN [6, 7] i) (true))) (K.runF (envK [(14, chkE)] (fun g id => bc (Nat.beq g 20) (bc (Nat.beq id 0) (some nqAOB) (none)) (none)) (fun g i => bc (Nat.beq g 10) (hasN [6, 7] i) (true))) 30) 10 [.slice 0 0 L (.known q)] (Heap.of [.flat [.i .u8] et .ro vs]) Hint.auto (K.endC K.openE 1 ⟨.ret (.tup [.nils, .int .i64 9]), [], []⟩) =
    (bc (ltI ↑L (4 : Int)) ((9 : Int) = (9 : Int) ∧ True) (bc (ltI (0 : Int) ↑L) (bc (Nat.ble (1 : Nat) (lenL vs)) (bc (notB (eqI (intOf (K.atV vs (0 : Nat))) (87 : Int))) ((9 : Int) = (9 : Int) ∧ True) (bc (notB (ltI (S.w2 L) (0 : Int))) (bc (Nat.ble (Int.toNat (S.w2 L)) L) (bc (Nat.ble (Int.toNat (S.w2 L)) q) (bc (S.okL vs (Int.toNat (S.w2 L) - (0 : Nat))) (bc (ltI (S.w2 L) (0 : Int)) False (bc (ltI (S.w2 L) ↑L) (bc (Nat.ble ((0 : Nat) + Int.toNat (S.w2 L) * (1 : Nat) + (1 : Nat)) (lenL vs)) (bc (notB (eqI (intOf (K.atV vs ((0 : Nat) + Int.toNat (S.w2 L) * (1 : Nat)))) (S.cA vs (Int.toNat (S.w2 L) - (0 : Nat))))) ((9 : Int) = (9 : Int) ∧ True) (bc (ltI (S.w3 L) (0 : Int)) False (bc (ltI (S.w3 L) ↑L) (bc (Nat.ble ((0 : Nat) + Int.toNat (S.w3 L) * (1 : Nat) + (1 : Nat)) (lenL vs)) (bc (notB (eqI (intOf (K.atV vs ((0 : Nat) + Int.toNat (S.w3 L) * (1 : Nat)))) (S.cB vs (Int.toNat (S.w2 L) - (0 : Nat))))) ((9 : Int) = (9 : Int) ∧ True) (bc (notB (ltI (S.w2 L) (0 : Int))) (bc (Nat.ble (Int.toNat (S.w2 L)) L) (bc (Nat.ble (1 : Nat) (Int.toNat (S.w2 L))) (bc (Nat.ble (Int.toNat (S.w2 L)) q) (bc (S.an (S.lpok (10 : FuncId) (74 : Nat) S.T0 [(48 : Nat), (49 : Nat)] S.code0 S.code1) (S.an (S.tyok2 (5 : Nat) (3 : Nat) (23 : Nat) (22 : Nat)) (S.an (S.an (S.okA vs (S.o1 q) (S.nn L) (q - (1 : Nat))) (Nat.ble (S.nn L) (1000000 : Nat))) (S.an (notB (Nat.beq (S.l1 vs L q) (0 : Nat))) (Nat.beq (S.gk vs (S.o1 q) (S.nn L)) (0 : Nat)))))) (K.BOk Try.prog 20 57 (blkOf 20 0) [(0 : Nat), (1 : Nat)] [LV.func (Fn.yield (0 : Nat)) [] [], LV.ptr (2 : Nat) (0 : Nat)] [LObj.loop LoopState.ready none (10 : FuncId) (74 : Nat) S.T0 [(48 : Nat), (49 : Nat)] S.code0 S.code1 (5 : Nat), LObj.cells (3 : Nat) Own.exact [LV.int IntKind.i64 (S.w2 L)], LObj.cells (23 : Nat) Own.exact [LV.slice (3 : Nat) (S.o1 q) (S.nn L) (Cap.known (q - (1 : Nat)))], LObj.flat [CK.i IntKind.u8] et Own.ro vs, LObj.cells (22 : Nat) Own.exact [LV.nils], LObj.defers false] { x := LX.ret, L := [], ch := [], new := [] } ∧ ((9 : Int) = (9 : Int) ∧ True)) False) False) False) False) False)) False) False))) False) False)) False) False) False) False)) False) False)) := by kernel_rfl
theorem uO_con (L et q : Nat) (vs : List LV) (h0 : S.an (S.okU vs L q) (S.an (notB (S.uo vs L)) (S.an (notB (Nat.beq (S.uf vs L) 0)) (Nat.beq (S.gk vs 1 (L - 3)) 0))) = true)  : HT Try.prog 10 [.slice 0 0 L (.known q)] (Heap.of [.flat [.i .u8] et .ro vs]) (⟨.ret (.tup [.nils, .int .i64 9]), [], []⟩ : K.CRes).e (Heap.of (K.chg [.flat [.i .u8] et .ro vs] (⟨.ret (.tup [.nils, .int .i64 9]), [], []⟩ : K.CRes).ch ++ (⟨.ret (.tup [.nils, .int .i64 9]), [], []⟩ : K.CRes).new)) := by
  refine K.con_of_run good (A := envK [(14, chkE)] (fun g id => bc (Nat.beq g 20) (bc (Nat.beq id 0) (some nqAOB) (none)) (none)) (fun g i => bc (Nat.beq g 10) (hasN [6, 7] i) (true))) (envK_ok ?_) K.openE_ok (k := 30) (cast (uO_run L et q vs).symm ?_)
  · intro p hp; simp only [List.mem_cons, List.not_mem_nil, or_false] at hp; rcases hp with rfl <;> first | exact chk_ok
  · obtain ⟨hU, h0⟩ := S.an_iff.1 h0
    obtain ⟨⟨hY, hL⟩, hM, hq⟩ := S.okU_iff.1 hU
    have hO : S.uo vs L = false := notB_true.1 ((S.an_iff.1 h0).1)
    by_cases h4 : L < 4
    · have e1 : ltI (L : Int) 4 = true := ltI_true.2 (by omega)
      simp only [e1, bc_true]
      simp
    have e1 : ltI (L : Int) 4 = false := ltI_false.2 (by omega)
    have e2 : ltI 0 (L : Int) = true := ltI_true.2 (by omega)
    have b1 : Nat.ble 1 (lenL vs) = true := S.bleN_iff.2 (by omega)
    have W2 := S.w2_eq (L := L) (by omega) hM
    have W3 := S.w3_eq (L := L) (by omega) hM
    have t2 : ((L - 2 : Nat) : Int).toNat = L - 2 := Int.toNat_natCast _
    have t3 : ((L - 1 : Nat) : Int).toNat = L - 1 := Int.toNat_natCast _
    have n2 : ltI ((L - 2 : Nat) : Int) 0 = false := ltI_false.2 (by omega)
    have n3 : ltI ((L - 1 : Nat) : Int) 0 = false := ltI_false.2 (by omega)
    have e3 : ltI ((L - 2 : Nat) : Int) L = true := ltI_true.2 (by omega)
    have e4 : ltI ((L - 1 : Nat) : Int) L = true := ltI_true.2 (by omega)
    have b2 : Nat.ble (L - 2) L = true := S.bleN_iff.2 (by omega)
    have b3 : Nat.ble (L - 2) q = true := S.bleN_iff.2 (by omega)
    have b4 : Nat.ble 1 (L - 2) = true := S.bleN_iff.2 (by omega)
    have b5 : Nat.ble (L - 2 + 1) (lenL vs) = true := S.bleN_iff.2 (by omega)
    have b6 : Nat.ble (L - 1 + 1) (lenL vs) = true := S.bleN_iff.2 (by omega)
    have okl : S.okL vs (L - 2) = true := S.okL_iff.2 ⟨by omega, by omega⟩
    have O1 := S.o1_eq (q := q) (by omega)
    have NN := S.nn_eq (L := L) (by omega) hM
    have C1 : S.c1 vs L q = S.ul vs L := by unfold S.c1 S.ul; rw [O1, NN]
    have N1 : S.n1 vs L q = S.un vs L := by unfold S.n1 S.un; rw [O1, NN]
    have L1 : S.l1 vs L q = S.uf vs L := by unfold S.l1 S.uf; rw [O1, NN]
    have okA : S.okA vs 1 (L - 3) (q - 1) = true := S.okA_iff.2 ⟨hY, by omega, by omega, by omega⟩
    have b7 : Nat.ble (L - 3) 1000000 = true := S.bleN_iff.2 (by omega)
    have b8 : Nat.ble 1 (L - 3) = true := S.bleN_iff.2 (by omega)
    have ty : S.tyok2 5 3 23 22 = true := rfl
    have at2 : S.an true true = true := rfl
    have cl : lenL (S.un vs L) = S.ul vs L := rfl
    have cl2 : S.ul vs L ≤ L - 3 := S.nl_len vs _ _ _
    have fl2 : lenL (flatF [.i .i64] (S.un vs L)) = S.ul vs L := by rw [K.lenL_eq, flat_length, ← K.lenL_eq]; rfl
    have HL : lenL vs = L := hL
    by_cases x0 : intOf (K.atV vs 0) = 87
    rotate_left
    · simp only [e1, e2, b1, W2, W3, t2, t3, n2, n3, e3, e4, b2, b3, b4, b5, b6, okl, O1, NN, C1, N1, L1, okA, b7, b8, ty, at2, cl, fl2, S.lpok_ok, Nat.zero_add, Nat.mul_one, Nat.sub_zero, notB_t, notB_f, S.eqI_self, S.beq00, bc_true, bc_false, eqI_false.2 x0]
      simp
    by_cases x1 : intOf (K.atV vs (L - 2)) = S.cA vs (L - 2)
    rotate_left
    · simp only [e1, e2, b1, W2, W3, t2, t3, n2, n3, e3, e4, b2, b3, b4, b5, b6, okl, O1, NN, C1, N1, L1, okA, b7, b8, ty, at2, cl, fl2, S.lpok_ok, Nat.zero_add, Nat.mul_one, Nat.sub_zero, notB_t, notB_f, S.eqI_self, S.beq00, bc_true, bc_false, x0, eqI_false.2 x1]
      simp
    by_cases x2 : intOf (K.atV vs (L - 1)) = S.cB vs (L - 2)
    rotate_left
    · simp only [e1, e2, b1, W2, W3, t2, t3, n2, n3, e3, e4, b2, b3, b4, b5, b6, okl, O1, NN, C1, N1, L1, okA, b7, b8, ty, at2, cl, fl2, S.lpok_ok, Nat.zero_add, Nat.mul_one, Nat.sub_zero, notB_t, notB_f, S.eqI_self, S.beq00, bc_true, bc_false, x0, x1, eqI_false.2 x2]
      simp
    have hH : S.uh vs L = true := S.uh_iff.2 ⟨by omega, x0, x1, x2⟩
    have hN : ¬ (S.uf vs L = 0 ∧ intOf (K.atV (S.un vs L) 0) = (S.ul vs L : Int) - 1) := fun h => by
      rw [S.uo_iff.2 ⟨hH, h.1, h.2⟩] at hO; cases hO
    obtain ⟨hF, hG⟩ := S.an_iff.1 (S.an_iff.1 h0).2
    have hF : S.uf vs L ≠ 0 := S.beqN_no.1 (notB_true.1 hF)
    have hG : S.gk vs 1 (L - 3) = 0 := S.beqN_iff.1 hG
    have B := nqAO_blk et 1 (L - 3) (q - 1) vs (L - 2 : Nat) okA (by omega) hF hG
    have F0 : Nat.beq (S.lf vs (L - 3) 1 (L - 3)) 0 = false := S.beqN_no.2 hF
    have F3 : Nat.beq (S.gk vs 1 (L - 3)) 0 = true := S.beqN_iff.2 hG
    have F4 : Nat.beq (S.uf vs L) 0 = false := S.beqN_no.2 hF
    simp only [e1, e2, b1, W2, W3, t2, t3, n2, n3, e3, e4, b2, b3, b4, b5, b6, okl, O1, NN, C1, N1, L1, okA, b7, b8, ty, at2, cl, fl2, S.lpok_ok, Nat.zero_add, Nat.mul_one, Nat.sub_zero, notB_t, notB_f, S.eqI_self, S.beq00, bc_true, bc_false, x0, x1, x2, F0, F3, F4] at B ⊢
    exact ⟨B, by simp⟩
theorem uB_con (L et q : Nat) (vs : List LV) (h : S.okUB vs L q = true) : HT Try.prog 10 [.slice 0 0 L (.known q)] (Heap.of [.flat [.i .u8] et .ro vs]) (.ret (.tup [.nils, .int .i64 9])) (Heap.of [.flat [.i .u8] et .ro vs]) := by
  obtain ⟨hU, hO⟩ := S.an_iff.1 h
  cases h1 : Nat.beq (S.uf vs L) 0
  · cases h2 : Nat.beq (S.gk vs 1 (L - 3)) 0
    · exact uP_con L et q vs (S.an_iff.2 ⟨hU, S.an_iff.2 ⟨hO, by rw [h1, h2]; rfl⟩⟩)
    · exact uO_con L et q vs (S.an_iff.2 ⟨hU, S.an_iff.2 ⟨hO, by rw [h1, h2]; rfl⟩⟩)
  · exact uF_con L et q vs (S.an_iff.2 ⟨hU, S.an_iff.2 ⟨hO, by rw [h1]⟩⟩)
/-- Bytes that are looked at alone: a row that grows will do. -/
theorem look1 {g : FuncId} {L et : Nat} {vs : List LV} {e : LEnd} {new : List LObj} (hv : lenL vs = L) (hn : ∀ o, o ∈ new → o.sits = true → o.owns = true)
    (h : ∀ q, L ≤ q → HT Try.prog g [.slice 0 0 L (.known q)] (Heap.of [.flat [.i .u8] et .ro vs]) e (Heap.of ([.flat [.i .u8] et .ro vs] ++ new))) :
    HT Try.prog g [.slice 0 0 L (.rest 0)] (Heap.of [.flat [.i .u8] et (.grow 1) vs]) e (Heap.of ([.flat [.i .u8] et (.grow 1) vs] ++ new)) := by
  refine K.HT.look (os := [.flat [.i .u8] et (.grow 1) vs]) (os1 := [.flat [.i .u8] et .ro vs]) rfl (fun i h1 h2 => ?_) hn (fun ρ w hs => ⟨[.slice 0 0 L (.known (ρ 0).cap)], ?_, ?_, h _ ?_⟩)
  · have : i = 0 := by simp at h1; omega
    subst this
    exact .inr ⟨_, _, _, _, rfl, rfl⟩
  · simp [decs, dec, capOf]
  · simp [lts, lt]
  · have := hs.obj 0 (by show 0 < 1; decide)
    obtain ⟨_, lo, hi, spare, _, h3, _, _⟩ := this
    rw [flat_length, ← K.lenL_eq, hv] at h3
    omega
theorem unG_k (L et : Nat) (vs : List LV) (h : S.okU1 vs L L = true) : HT Try.prog 10 [.slice 0 0 L (.rest 0)] (Heap.of [.flat [.i .u8] et (.grow 1) vs]) (⟨.ret (.tup [.slice 1 0 (S.ul vs L - 1) (.rest 0), .int .i64 0]), [], [.flat [.i .i64] 3 (.grow 1) (S.uw vs L)]⟩ : K.CRes).e (Heap.of ([.flat [.i .u8] et (.grow 1) vs] ++ (⟨.ret (.tup [.slice 1 0 (S.ul vs L - 1) (.rest 0), .int .i64 0]), [], [.flat [.i .i64] 3 (.grow 1) (S.uw vs L)]⟩ : K.CRes).new)) := by
  obtain ⟨hU, hO⟩ := S.an_iff.1 h
  obtain ⟨⟨hY, hL⟩, hM, hq⟩ := S.okU_iff.1 hU
  exact look1 hL (fun o ho _ => by simp only [List.mem_cons, List.not_mem_nil, or_false] at ho; subst ho; rfl) fun q h2 => uG_con L et q vs (S.an_iff.2 ⟨S.okU_iff.2 ⟨⟨hY, hL⟩, hM, h2⟩, hO⟩)
theorem unZ_k (L et : Nat) (vs : List LV) (h : S.okU0 vs L L = true) : HT Try.prog 10 [.slice 0 0 L (.rest 0)] (Heap.of [.flat [.i .u8] et (.grow 1) vs]) (⟨.ret (.tup [.slice 1 0 0 (.known 0), .int .i64 0]), [], [.cells 3 .exact []]⟩ : K.CRes).e (Heap.of ([.flat [.i .u8] et (.grow 1) vs] ++ (⟨.ret (.tup [.slice 1 0 0 (.known 0), .int .i64 0]), [], [.cells 3 .exact []]⟩ : K.CRes).new)) := by
  obtain ⟨hU, hO⟩ := S.an_iff.1 h
  obtain ⟨⟨hY, hL⟩, hM, hq⟩ := S.okU_iff.1 hU
  exact look1 hL (fun o ho _ => by simp only [List.mem_cons, List.not_mem_nil, or_false] at ho; subst ho; rfl) fun q h2 => uZ_con L et q vs (S.an_iff.2 ⟨S.okU_iff.2 ⟨⟨hY, hL⟩, hM, h2⟩, hO⟩)
theorem unB_k (L et : Nat) (vs : List LV) (h : S.okUB vs L L = true) : HT Try.prog 10 [.slice 0 0 L (.rest 0)] (Heap.of [.flat [.i .u8] et (.grow 1) vs]) (.ret (.tup [.nils, .int .i64 9])) (Heap.of ([.flat [.i .u8] et (.grow 1) vs] ++ [])) := by
  obtain ⟨hU, hO⟩ := S.an_iff.1 h
  obtain ⟨⟨hY, hL⟩, hM, hq⟩ := S.okU_iff.1 hU
  exact look1 hL (fun o ho _ => by cases ho) fun q h2 => uB_con L et q vs (S.an_iff.2 ⟨S.okU_iff.2 ⟨⟨hY, hL⟩, hM, h2⟩, hO⟩)
theorem unG_ok : unGE.ok Try.prog 10 := by
  intro xs os b r h h3
  unfold unGE at h
  simp only at h
  split at h
  · injection h with h; injection h with h1 h2; subst h1; subst h2
    exact uG_con _ _ _ _ h3
  · injection h with h; injection h with h1 h2; subst h1; subst h2
    exact unG_k _ _ _ h3
  · cases h
theorem unZ_ok : unZE.ok Try.prog 10 := by
  intro xs os b r h h3
  unfold unZE at h
  simp only at h
  split at h
  · injection h with h; injection h with h1 h2; subst h1; subst h2
    exact uZ_con _ _ _ _ h3
  · injection h with h; injection h with h1 h2; subst h1; subst h2
    exact unZ_k _ _ _ h3
  · cases h
theorem unB_ok : unBE.ok Try.prog 10 := by
  intro xs os b r h h3
  unfold unBE at h
  simp only at h
  split at h
  · injection h with h; injection h with h1 h2; subst h1; subst h2
    exact uB_con _ _ _ _ h3
  · injection h with h; injection h with h1 h2; subst h1; subst h2
    exact unB_k _ _ _ h3
  · cases h
end Go.Proofs.Ytogngajglbgjmaa.Ev
