/- Contracts, proved: Tmw. -/
import Derived.Test.YtlgfojaalmelhaaDoorTmwD
import Derived.Test.YtlgfojaalmelhaaDoorTmnP
namespace Go.Proofs.YtlgfojaalmelhaaDoor.Ev
open Go
set_option linter.unusedVariables false
set_option linter.unusedSimpArgs false
set_option maxRecDepth 100000
set_option maxHeartbeats 1000000

theorem wlNR_run (a : Int) (W M : Nat) (rc bg ws : List LV) : K.RunL (envL []) K.openE 30 22 81 (inner (inner (blkOf 22 2))) wlNEB [(7, .ptr 0 0)] [.cells 73 .exact [.int .i64 a, .nils, .slice 1 0 W (.known W), .slice 2 0 W (.known W), .slice 3 0 M (.rest 0)], .flat [.bo] 4 .exact rc, .flat [.bo] 4 .exact bg, .flat [.i .i64] 3 (.grow 1) ws] Hint.auto ⟨.exit 2, [(7, .ptr 0 0)], [(0, .cells 73 .exact [.int .i64 a, .nils, .slice 1 0 W (.known W), .slice 2 0 W (.known W), .slice 3 0 0 (.rest 0)])], []⟩ =
  (bc (ltI 0 ↑M) (bc (ltI (wrapK IntKind.i64 (↑M - 1)) 0) False (bc (ltI (wrapK IntKind.i64 (↑M - 1)) ↑M) (bc (Nat.ble (0 + Int.toNat (wrapK IntKind.i64 (↑M - 1)) * 1 + 1) (lenL ws)) (bc (notB (ltI (wrapK IntKind.i64 (↑M - 1)) 0)) (bc (Nat.ble (Int.toNat (wrapK IntKind.i64 (↑M - 1))) M) (bc (Nat.ble (0 + M * 1) (lenL (flatF [CK.i IntKind.i64] ws))) (bc (ltI (intOf (K.atV ws (0 + Int.toNat (wrapK IntKind.i64 (↑M - 1)) * 1))) 0) (K.LOk Tryd.prog 22 81 (inner (inner (blkOf 22 2))) [7] [LV.ptr 0 0] [LObj.cells 73 Own.exact [LV.int IntKind.i64 a, LV.nils, LV.slice 1 0 W (Cap.known W), LV.slice 2 0 W (Cap.known W), LV.slice 3 0 (Int.toNat (wrapK IntKind.i64 (↑M - 1))) (Cap.rest 0)], LObj.flat [CK.bo] 4 Own.exact rc, LObj.flat [CK.bo] 4 Own.exact bg, LObj.flat [CK.i IntKind.i64] 3 (Own.grow 1) ws] { x := LX.exit 2, L := [(7, LV.ptr 0 0)], ch := [(0, LObj.cells 73 Own.exact [LV.int IntKind.i64 a, LV.nils, LV.slice 1 0 W (Cap.known W), LV.slice 2 0 W (Cap.known W), LV.slice 3 0 0 (Cap.rest 0)])], new := [] } ∧ ((0 : Nat) = (0 : Nat) ∧ (a = a ∧ ((0 : Nat) = (0 : Nat) ∧ (W = W ∧ (Cap.known W = Cap.known W ∧ ((0 : Nat) = (0 : Nat) ∧ (W = W ∧ (Cap.known W = Cap.known W ∧ ((0 : Nat) = (0 : Nat) ∧ ((0 : Nat) = (0 : Nat) ∧ (Cap.rest (0 : Nat) = Cap.rest 0 ∧ True)))))))))))) (bc (notB (ltI (intOf (K.atV ws (0 + Int.toNat (wrapK IntKind.i64 (↑M - 1)) * 1))) ↑0)) (K.LOk Tryd.prog 22 81 (inner (inner (blkOf 22 2))) [7] [LV.ptr 0 0] [LObj.cells 73 Own.exact [LV.int IntKind.i64 a, LV.nils, LV.slice 1 0 W (Cap.known W), LV.slice 2 0 W (Cap.known W), LV.slice 3 0 (Int.toNat (wrapK IntKind.i64 (↑M - 1))) (Cap.rest 0)], LObj.flat [CK.bo] 4 Own.exact rc, LObj.flat [CK.bo] 4 Own.exact bg, LObj.flat [CK.i IntKind.i64] 3 (Own.grow 1) ws] { x := LX.exit 2, L := [(7, LV.ptr 0 0)], ch := [(0, LObj.cells 73 Own.exact [LV.int IntKind.i64 a, LV.nils, LV.slice 1 0 W (Cap.known W), LV.slice 2 0 W (Cap.known W), LV.slice 3 0 0 (Cap.rest 0)])], new := [] } ∧ ((0 : Nat) = (0 : Nat) ∧ (a = a ∧ ((0 : Nat) = (0 : Nat) ∧ (W = W ∧ (Cap.known W = Cap.known W ∧ ((0 : Nat) = (0 : Nat) ∧ (W = W ∧ (Cap.known W = Cap.known W ∧ ((0 : Nat) = (0 : Nat) ∧ ((0 : Nat) = (0 : Nat) ∧ (Cap.rest (0 : Nat) = Cap.rest 0 ∧ True)))))))))))) False)) False) False) False) False) False)) ((0 : Nat) = (0 : Nat) ∧ (a = a ∧ ((0 : Nat) = (0 : Nat) ∧ (W = W ∧ (Cap.known W = Cap.known W ∧ ((0 : Nat) = (0 : Nat) ∧ (W = W ∧ (Cap.known W = Cap.known W ∧ ((0 : Nat) = (0 : Nat) ∧ ((0 : Nat) = M ∧ (Cap.rest (0 : Nat) = Cap.rest 0 ∧ True)))))))))))) := by kernel_rfl
theorem wlNR_con (a : Int) (W M : Nat) (rc bg ws : List LV) (h : 0 < M) (hM : M ≤ 3100) (hw : M ≤ lenL ws) (IH : wlN_T a W (M - 1) rc bg ws) : GT Tryd.prog (fun k => .code (inner (inner (blkOf 22 2))) :: .inLoop (inner (inner (blkOf 22 2))) :: k) (Fr.ofL 22 81 [(7, .ptr 0 0)] [] none) (Heap.of [.cells 73 .exact [.int .i64 a, .nils, .slice 1 0 W (.known W), .slice 2 0 W (.known W), .slice 3 0 M (.rest 0)], .flat [.bo] 4 .exact rc, .flat [.bo] 4 .exact bg, .flat [.i .i64] 3 (.grow 1) ws]) (⟨.exit 2, [(7, .ptr 0 0)], [(0, .cells 73 .exact [.int .i64 a, .nils, .slice 1 0 W (.known W), .slice 2 0 W (.known W), .slice 3 0 0 (.rest 0)])], []⟩ : K.BRes).x (Fr.ofL 22 81 (⟨.exit 2, [(7, .ptr 0 0)], [(0, .cells 73 .exact [.int .i64 a, .nils, .slice 1 0 W (.known W), .slice 2 0 W (.known W), .slice 3 0 0 (.rest 0)])], []⟩ : K.BRes).L [] none) (Heap.of (K.chg [.cells 73 .exact [.int .i64 a, .nils, .slice 1 0 W (.known W), .slice 2 0 W (.known W), .slice 3 0 M (.rest 0)], .flat [.bo] 4 .exact rc, .flat [.bo] 4 .exact bg, .flat [.i .i64] 3 (.grow 1) ws] (⟨.exit 2, [(7, .ptr 0 0)], [(0, .cells 73 .exact [.int .i64 a, .nils, .slice 1 0 W (.known W), .slice 2 0 W (.known W), .slice 3 0 0 (.rest 0)])], []⟩ : K.BRes).ch ++ (⟨.exit 2, [(7, .ptr 0 0)], [(0, .cells 73 .exact [.int .i64 a, .nils, .slice 1 0 W (.known W), .slice 2 0 W (.known W), .slice 3 0 0 (.rest 0)])], []⟩ : K.BRes).new)) := by
 refine K.loop_of_run good (A := envL []) (envL_ok ?_) K.openE_ok (k := 30) (ent := wlNEB) (cast (wlNR_run a W M rc bg ws).symm ?_)
 ·intro p hp; cases hp
 ·have m1 : wrapK .i64 ((M : Int) - 1) = ((M - 1 : Nat) : Int) := by rw [wrapK_i64]; omega
  have T : ∀ z : Nat, Int.toNat (z : Int) = z := Int.toNat_natCast
  have e1 : ltI 0 (M : Int) = true := ltI_true.2 (by omega)
  have n1 : ltI ((M - 1 : Nat) : Int) 0 = false := ltI_false.2 (by omega)
  have e2 : ltI ((M - 1 : Nat) : Int) M = true := ltI_true.2 (by omega)
  have b1 : Nat.ble (M - 1 + 1) (lenL ws) = true := S.bleN.2 (by omega)
  have b2 : Nat.ble (M - 1) M = true := S.bleN.2 (by omega)
  have b3 : Nat.ble M (lenL (flatF [.i .i64] ws)) = true := S.bleN.2 (by rw [K.lenL_eq, flat_length, ← K.lenL_eq]; omega)
  have z0 : ((0 : Nat) : Int) = 0 := rfl
  simp only [m1, T, e1, n1, e2, b1, b2, b3, Nat.zero_add, Nat.mul_one, notB_t, notB_f, bc_true, bc_false, and_true]
  cases hx : ltI (intOf (K.atV ws (M - 1))) 0 with
  | true => exact IH
  | false =>
   simp only [z0, hx, notB_t, notB_f, bc_true, bc_false, and_true]
   exact IH
theorem wlN0_run (a : Int) (W : Nat) (rc bg ws : List LV) : K.RunL (envL []) K.openE 30 22 81 (inner (inner (blkOf 22 2))) wlNEB [(7, .ptr 0 0)] [.cells 73 .exact [.int .i64 a, .nils, .slice 1 0 W (.known W), .slice 2 0 W (.known W), .slice 3 0 0 (.rest 0)], .flat [.bo] 4 .exact rc, .flat [.bo] 4 .exact bg, .flat [.i .i64] 3 (.grow 1) ws] Hint.auto ⟨.exit 2, [(7, .ptr 0 0)], [], []⟩ =
  (((0 : Nat) = (0 : Nat) ∧ True)) := by kernel_rfl
theorem wlN0_con (a : Int) (W : Nat) (rc bg ws : List LV)  : GT Tryd.prog (fun k => .code (inner (inner (blkOf 22 2))) :: .inLoop (inner (inner (blkOf 22 2))) :: k) (Fr.ofL 22 81 [(7, .ptr 0 0)] [] none) (Heap.of [.cells 73 .exact [.int .i64 a, .nils, .slice 1 0 W (.known W), .slice 2 0 W (.known W), .slice 3 0 0 (.rest 0)], .flat [.bo] 4 .exact rc, .flat [.bo] 4 .exact bg, .flat [.i .i64] 3 (.grow 1) ws]) (⟨.exit 2, [(7, .ptr 0 0)], [], []⟩ : K.BRes).x (Fr.ofL 22 81 (⟨.exit 2, [(7, .ptr 0 0)], [], []⟩ : K.BRes).L [] none) (Heap.of (K.chg [.cells 73 .exact [.int .i64 a, .nils, .slice 1 0 W (.known W), .slice 2 0 W (.known W), .slice 3 0 0 (.rest 0)], .flat [.bo] 4 .exact rc, .flat [.bo] 4 .exact bg, .flat [.i .i64] 3 (.grow 1) ws] (⟨.exit 2, [(7, .ptr 0 0)], [], []⟩ : K.BRes).ch ++ (⟨.exit 2, [(7, .ptr 0 0)], [], []⟩ : K.BRes).new)) := by
 refine K.loop_of_run good (A := envL []) (envL_ok ?_) K.openE_ok (k := 30) (ent := wlNEB) (cast (wlN0_run a W rc bg ws).symm ?_)
 ·intro p hp; cases hp
 ·exact ⟨rfl, trivial⟩
theorem wlER_run (a : Int) (W M : Nat) (rc bg ws : List LV) : K.RunL (envL []) K.openE 30 22 81 (inner (inner (blkOf 22 2))) wlEEB [(7, .ptr 0 0)] [.cells 73 .exact [.int .i64 a, .emp 1, .slice 2 0 W (.known W), .slice 3 0 W (.known W), .slice 4 0 M (.rest 0)], .empty, .flat [.bo] 4 .exact rc, .flat [.bo] 4 .exact bg, .flat [.i .i64] 3 (.grow 1) ws] Hint.auto ⟨.exit 2, [(7, .ptr 0 0)], [(0, .cells 73 .exact [.int .i64 a, .emp 1, .slice 2 0 W (.known W), .slice 3 0 W (.known W), .slice 4 0 0 (.rest 0)])], []⟩ =
  (bc (ltI 0 ↑M) (bc (ltI (wrapK IntKind.i64 (↑M - 1)) 0) False (bc (ltI (wrapK IntKind.i64 (↑M - 1)) ↑M) (bc (Nat.ble (0 + Int.toNat (wrapK IntKind.i64 (↑M - 1)) * 1 + 1) (lenL ws)) (bc (notB (ltI (wrapK IntKind.i64 (↑M - 1)) 0)) (bc (Nat.ble (Int.toNat (wrapK IntKind.i64 (↑M - 1))) M) (bc (Nat.ble (0 + M * 1) (lenL (flatF [CK.i IntKind.i64] ws))) (bc (ltI (intOf (K.atV ws (0 + Int.toNat (wrapK IntKind.i64 (↑M - 1)) * 1))) 0) (K.LOk Tryd.prog 22 81 (inner (inner (blkOf 22 2))) [7] [LV.ptr 0 0] [LObj.cells 73 Own.exact [LV.int IntKind.i64 a, LV.emp 1, LV.slice 2 0 W (Cap.known W), LV.slice 3 0 W (Cap.known W), LV.slice 4 0 (Int.toNat (wrapK IntKind.i64 (↑M - 1))) (Cap.rest 0)], LObj.empty, LObj.flat [CK.bo] 4 Own.exact rc, LObj.flat [CK.bo] 4 Own.exact bg, LObj.flat [CK.i IntKind.i64] 3 (Own.grow 1) ws] { x := LX.exit 2, L := [(7, LV.ptr 0 0)], ch := [(0, LObj.cells 73 Own.exact [LV.int IntKind.i64 a, LV.emp 1, LV.slice 2 0 W (Cap.known W), LV.slice 3 0 W (Cap.known W), LV.slice 4 0 0 (Cap.rest 0)])], new := [] } ∧ ((0 : Nat) = (0 : Nat) ∧ (a = a ∧ ((0 : Nat) = (0 : Nat) ∧ (W = W ∧ (Cap.known W = Cap.known W ∧ ((0 : Nat) = (0 : Nat) ∧ (W = W ∧ (Cap.known W = Cap.known W ∧ ((0 : Nat) = (0 : Nat) ∧ ((0 : Nat) = (0 : Nat) ∧ (Cap.rest (0 : Nat) = Cap.rest 0 ∧ True)))))))))))) (bc (notB (ltI (intOf (K.atV ws (0 + Int.toNat (wrapK IntKind.i64 (↑M - 1)) * 1))) ↑0)) (K.LOk Tryd.prog 22 81 (inner (inner (blkOf 22 2))) [7] [LV.ptr 0 0] [LObj.cells 73 Own.exact [LV.int IntKind.i64 a, LV.emp 1, LV.slice 2 0 W (Cap.known W), LV.slice 3 0 W (Cap.known W), LV.slice 4 0 (Int.toNat (wrapK IntKind.i64 (↑M - 1))) (Cap.rest 0)], LObj.empty, LObj.flat [CK.bo] 4 Own.exact rc, LObj.flat [CK.bo] 4 Own.exact bg, LObj.flat [CK.i IntKind.i64] 3 (Own.grow 1) ws] { x := LX.exit 2, L := [(7, LV.ptr 0 0)], ch := [(0, LObj.cells 73 Own.exact [LV.int IntKind.i64 a, LV.emp 1, LV.slice 2 0 W (Cap.known W), LV.slice 3 0 W (Cap.known W), LV.slice 4 0 0 (Cap.rest 0)])], new := [] } ∧ ((0 : Nat) = (0 : Nat) ∧ (a = a ∧ ((0 : Nat) = (0 : Nat) ∧ (W = W ∧ (Cap.known W = Cap.known W ∧ ((0 : Nat) = (0 : Nat) ∧ (W = W ∧ (Cap.known W = Cap.known W ∧ ((0 : Nat) = (0 : Nat) ∧ ((0 : Nat) = (0 : Nat) ∧ (Cap.rest (0 : Nat) = Cap.rest 0 ∧ True)))))))))))) False)) False) False) False) False) False)) ((0 : Nat) = (0 : Nat) ∧ (a = a ∧ ((0 : Nat) = (0 : Nat) ∧ (W = W ∧ (Cap.known W = Cap.known W ∧ ((0 : Nat) = (0 : Nat) ∧ (W = W ∧ (Cap.known W = Cap.known W ∧ ((0 : Nat) = (0 : Nat) ∧ ((0 : Nat) = M ∧ (Cap.rest (0 : Nat) = Cap.rest 0 ∧ True)))))))))))) := by kernel_rfl
theorem wlER_con (a : Int) (W M : Nat) (rc bg ws : List LV) (h : 0 < M) (hM : M ≤ 3100) (hw : M ≤ lenL ws) (IH : wlE_T a W (M - 1) rc bg ws) : GT Tryd.prog (fun k => .code (inner (inner (blkOf 22 2))) :: .inLoop (inner (inner (blkOf 22 2))) :: k) (Fr.ofL 22 81 [(7, .ptr 0 0)] [] none) (Heap.of [.cells 73 .exact [.int .i64 a, .emp 1, .slice 2 0 W (.known W), .slice 3 0 W (.known W), .slice 4 0 M (.rest 0)], .empty, .flat [.bo] 4 .exact rc, .flat [.bo] 4 .exact bg, .flat [.i .i64] 3 (.grow 1) ws]) (⟨.exit 2, [(7, .ptr 0 0)], [(0, .cells 73 .exact [.int .i64 a, .emp 1, .slice 2 0 W (.known W), .slice 3 0 W (.known W), .slice 4 0 0 (.rest 0)])], []⟩ : K.BRes).x (Fr.ofL 22 81 (⟨.exit 2, [(7, .ptr 0 0)], [(0, .cells 73 .exact [.int .i64 a, .emp 1, .slice 2 0 W (.known W), .slice 3 0 W (.known W), .slice 4 0 0 (.rest 0)])], []⟩ : K.BRes).L [] none) (Heap.of (K.chg [.cells 73 .exact [.int .i64 a, .emp 1, .slice 2 0 W (.known W), .slice 3 0 W (.known W), .slice 4 0 M (.rest 0)], .empty, .flat [.bo] 4 .exact rc, .flat [.bo] 4 .exact bg, .flat [.i .i64] 3 (.grow 1) ws] (⟨.exit 2, [(7, .ptr 0 0)], [(0, .cells 73 .exact [.int .i64 a, .emp 1, .slice 2 0 W (.known W), .slice 3 0 W (.known W), .slice 4 0 0 (.rest 0)])], []⟩ : K.BRes).ch ++ (⟨.exit 2, [(7, .ptr 0 0)], [(0, .cells 73 .exact [.int .i64 a, .emp 1, .slice 2 0 W (.known W), .slice 3 0 W (.known W), .slice 4 0 0 (.rest 0)])], []⟩ : K.BRes).new)) := by
 refine K.loop_of_run good (A := envL []) (envL_ok ?_) K.openE_ok (k := 30) (ent := wlEEB) (cast (wlER_run a W M rc bg ws).symm ?_)
 ·intro p hp; cases hp
 ·have m1 : wrapK .i64 ((M : Int) - 1) = ((M - 1 : Nat) : Int) := by rw [wrapK_i64]; omega
  have T : ∀ z : Nat, Int.toNat (z : Int) = z := Int.toNat_natCast
  have e1 : ltI 0 (M : Int) = true := ltI_true.2 (by omega)
  have n1 : ltI ((M - 1 : Nat) : Int) 0 = false := ltI_false.2 (by omega)
  have e2 : ltI ((M - 1 : Nat) : Int) M = true := ltI_true.2 (by omega)
  have b1 : Nat.ble (M - 1 + 1) (lenL ws) = true := S.bleN.2 (by omega)
  have b2 : Nat.ble (M - 1) M = true := S.bleN.2 (by omega)
  have b3 : Nat.ble M (lenL (flatF [.i .i64] ws)) = true := S.bleN.2 (by rw [K.lenL_eq, flat_length, ← K.lenL_eq]; omega)
  have z0 : ((0 : Nat) : Int) = 0 := rfl
  simp only [m1, T, e1, n1, e2, b1, b2, b3, Nat.zero_add, Nat.mul_one, notB_t, notB_f, bc_true, bc_false, and_true]
  cases hx : ltI (intOf (K.atV ws (M - 1))) 0 with
  | true => exact IH
  | false =>
   simp only [z0, hx, notB_t, notB_f, bc_true, bc_false, and_true]
   exact IH
theorem wlE0_run (a : Int) (W : Nat) (rc bg ws : List LV) : K.RunL (envL []) K.openE 30 22 81 (inner (inner (blkOf 22 2))) wlEEB [(7, .ptr 0 0)] [.cells 73 .exact [.int .i64 a, .emp 1, .slice 2 0 W (.known W), .slice 3 0 W (.known W), .slice 4 0 0 (.rest 0)], .empty, .flat [.bo] 4 .exact rc, .flat [.bo] 4 .exact bg, .flat [.i .i64] 3 (.grow 1) ws] Hint.auto ⟨.exit 2, [(7, .ptr 0 0)], [], []⟩ =
  (((0 : Nat) = (0 : Nat) ∧ True)) := by kernel_rfl
theorem wlE0_con (a : Int) (W : Nat) (rc bg ws : List LV)  : GT Tryd.prog (fun k => .code (inner (inner (blkOf 22 2))) :: .inLoop (inner (inner (blkOf 22 2))) :: k) (Fr.ofL 22 81 [(7, .ptr 0 0)] [] none) (Heap.of [.cells 73 .exact [.int .i64 a, .emp 1, .slice 2 0 W (.known W), .slice 3 0 W (.known W), .slice 4 0 0 (.rest 0)], .empty, .flat [.bo] 4 .exact rc, .flat [.bo] 4 .exact bg, .flat [.i .i64] 3 (.grow 1) ws]) (⟨.exit 2, [(7, .ptr 0 0)], [], []⟩ : K.BRes).x (Fr.ofL 22 81 (⟨.exit 2, [(7, .ptr 0 0)], [], []⟩ : K.BRes).L [] none) (Heap.of (K.chg [.cells 73 .exact [.int .i64 a, .emp 1, .slice 2 0 W (.known W), .slice 3 0 W (.known W), .slice 4 0 0 (.rest 0)], .empty, .flat [.bo] 4 .exact rc, .flat [.bo] 4 .exact bg, .flat [.i .i64] 3 (.grow 1) ws] (⟨.exit 2, [(7, .ptr 0 0)], [], []⟩ : K.BRes).ch ++ (⟨.exit 2, [(7, .ptr 0 0)], [], []⟩ : K.BRes).new)) := by
 refine K.loop_of_run good (A := envL []) (envL_ok ?_) K.openE_ok (k := 30) (ent := wlEEB) (cast (wlE0_run a W rc bg ws).symm ?_)
 ·intro p hp; cases hp
 ·exact ⟨rfl, trivial⟩
theorem wlN_lok (a : Int) (W : Nat) (rc bg ws : List LV) : ∀ (M : Nat), M ≤ 3100 → M ≤ lenL ws → wlN_T a W M rc bg ws := by
 intro M
 induction M with
 | zero =>
  intro _ _
  exact wlN0_con a W rc bg ws
 | succ M ih =>
  intro h1 h2
  exact wlNR_con a W (M + 1) rc bg ws (Nat.succ_pos M) h1 h2 (ih (by omega) (by omega))
theorem wlN_blk (a : Int) (W M : Nat) (rc bg ws : List LV) (h1 : M ≤ 3100) (h2 : M ≤ lenL ws) : K.BOk Tryd.prog 22 81 (blkOf 22 2) [7] [.ptr 0 0] [.cells 73 .exact [.int .i64 a, .nils, .slice 1 0 W (.known W), .slice 2 0 W (.known W), .slice 3 0 M (.rest 0)], .flat [.bo] 4 .exact rc, .flat [.bo] 4 .exact bg, .flat [.i .i64] 3 (.grow 1) ws] ⟨.normal, [(7, .ptr 0 0)], [(0, .cells 73 .exact [.int .i64 a, .nils, .slice 1 0 W (.known W), .slice 2 0 W (.known W), .slice 3 0 0 (.rest 0)])], []⟩ := by
 have hb2 : blkOf 22 2 = .block 2 (.loop (inner (inner (blkOf 22 2)))) := by kernel_rfl
 unfold K.BOk
 rw [hb2]
 exact K.CT.block (K.GT.loop (wlN_lok a W rc bg ws M h1 h2))
theorem wlE_lok (a : Int) (W : Nat) (rc bg ws : List LV) : ∀ (M : Nat), M ≤ 3100 → M ≤ lenL ws → wlE_T a W M rc bg ws := by
 intro M
 induction M with
 | zero =>
  intro _ _
  exact wlE0_con a W rc bg ws
 | succ M ih =>
  intro h1 h2
  exact wlER_con a W (M + 1) rc bg ws (Nat.succ_pos M) h1 h2 (ih (by omega) (by omega))
theorem wlE_blk (a : Int) (W M : Nat) (rc bg ws : List LV) (h1 : M ≤ 3100) (h2 : M ≤ lenL ws) : K.BOk Tryd.prog 22 81 (blkOf 22 2) [7] [.ptr 0 0] [.cells 73 .exact [.int .i64 a, .emp 1, .slice 2 0 W (.known W), .slice 3 0 W (.known W), .slice 4 0 M (.rest 0)], .empty, .flat [.bo] 4 .exact rc, .flat [.bo] 4 .exact bg, .flat [.i .i64] 3 (.grow 1) ws] ⟨.normal, [(7, .ptr 0 0)], [(0, .cells 73 .exact [.int .i64 a, .emp 1, .slice 2 0 W (.known W), .slice 3 0 W (.known W), .slice 4 0 0 (.rest 0)])], []⟩ := by
 have hb2 : blkOf 22 2 = .block 2 (.loop (inner (inner (blkOf 22 2)))) := by kernel_rfl
 unfold K.BOk
 rw [hb2]
 exact K.CT.block (K.GT.loop (wlE_lok a W rc bg ws M h1 h2))
theorem fwNS_run (a : Int) (N q e2 : Nat) (w2 : Own) (es : List LV) : K.bodyF (envB [] (fun g id => bc (Nat.beq g 22) (bc (Nat.beq id 0) (some feNBB) (bc (Nat.beq g 22) (bc (Nat.beq id 2) (some wlNBB) (none)) (none))) (bc (Nat.beq g 22) (bc (Nat.beq id 2) (some wlNBB) (none)) (none)))) (K.runF (envB [] (fun g id => bc (Nat.beq g 22) (bc (Nat.beq id 0) (some feNBB) (bc (Nat.beq g 22) (bc (Nat.beq id 2) (some wlNBB) (none)) (none))) (bc (Nat.beq g 22) (bc (Nat.beq id 2) (some wlNBB) (none)) (none)))) 30) 22 [.int .u16 a, .nils, .slice 0 0 N (.known q)] (Heap.of [.flat [.i .u16] e2 w2 es]) Hint.auto (K.endC K.openE 1 ⟨.ret (.slice 1 0 0 (.known 0)), [], [.flat [.bo] 4 .exact []]⟩) =
  (bc (S.an (eqI ↑N ↑N) (S.an (eqI 0 0) (S.okN es N))) (K.BOk Tryd.prog 22 81 (blkOf 22 0) [7, 23, 24, 25] [LV.ptr 0 0, LV.slice 3 0 N (Cap.known q), LV.int IntKind.i64 ↑N, LV.int IntKind.i64 0] [LObj.cells 73 Own.exact [LV.int IntKind.i64 (wrapK IntKind.i64 a), LV.nils, LV.slice 1 0 0 (Cap.known 0), LV.slice 2 0 0 (Cap.known 0), LV.nils], LObj.flat [CK.bo] 4 Own.exact [], LObj.flat [CK.bo] 4 Own.exact [], LObj.flat [CK.i IntKind.u16] e2 w2 es] { x := LX.normal, L := [(7, LV.ptr 0 0)], ch := [(0, LObj.cells 73 Own.exact [LV.int IntKind.i64 (wrapK IntKind.i64 a), LV.nils, LV.slice 1 0 0 (Cap.known 0), LV.slice 2 0 0 (Cap.known 0), LV.slice 4 0 N (Cap.rest 0)])], new := [LObj.flat [CK.i IntKind.i64] 3 (Own.grow 1) (S.ens es (wrapK IntKind.i64 a) N 0)] } ∧ (K.BOk Tryd.prog 22 81 (blkOf 22 2) [7] [LV.ptr 0 0] [LObj.cells 73 Own.exact [LV.int IntKind.i64 (wrapK IntKind.i64 a), LV.nils, LV.slice 1 0 0 (Cap.known 0), LV.slice 2 0 0 (Cap.known 0), LV.slice 3 0 N (Cap.rest 0)], LObj.flat [CK.bo] 4 Own.exact [], LObj.flat [CK.bo] 4 Own.exact [], LObj.flat [CK.i IntKind.i64] 3 (Own.grow 1) (S.ens es (wrapK IntKind.i64 a) N 0)] { x := LX.normal, L := [(7, LV.ptr 0 0)], ch := [(0, LObj.cells 73 Own.exact [LV.int IntKind.i64 (wrapK IntKind.i64 a), LV.nils, LV.slice 1 0 0 (Cap.known 0), LV.slice 2 0 0 (Cap.known 0), LV.slice 3 0 0 (Cap.rest 0)])], new := [] } ∧ ((0 : Nat) = (0 : Nat) ∧ ((0 : Nat) = (0 : Nat) ∧ (Cap.known (0 : Nat) = Cap.known 0 ∧ (([] : List LV) = [] ∧ True)))))) False) := by kernel_rfl
theorem fwNS_con (a : Int) (N q e2 : Nat) (w2 : Own) (es : List LV) (h0 : S.okN es N = true)  : HT Tryd.prog 22 [.int .u16 a, .nils, .slice 0 0 N (.known q)] (Heap.of [.flat [.i .u16] e2 w2 es]) (⟨.ret (.slice 1 0 0 (.known 0)), [], [.flat [.bo] 4 .exact []]⟩ : K.CRes).e (Heap.of (K.chg [.flat [.i .u16] e2 w2 es] (⟨.ret (.slice 1 0 0 (.known 0)), [], [.flat [.bo] 4 .exact []]⟩ : K.CRes).ch ++ (⟨.ret (.slice 1 0 0 (.known 0)), [], [.flat [.bo] 4 .exact []]⟩ : K.CRes).new)) := by
 refine K.con_of_run good (A := envB [] (fun g id => bc (Nat.beq g 22) (bc (Nat.beq id 0) (some feNBB) (bc (Nat.beq g 22) (bc (Nat.beq id 2) (some wlNBB) (none)) (none))) (bc (Nat.beq g 22) (bc (Nat.beq id 2) (some wlNBB) (none)) (none)))) (envB_ok ?_) K.openE_ok (k := 30) (cast (fwNS_run a N q e2 w2 es).symm ?_)
 ·intro p hp; cases hp
 ·obtain ⟨h1, h2, h3⟩ := S.okN_iff.1 h0
  have p := S.eqI_sm (N : Int)
  have e0 : eqI 0 0 = true := rfl
  have at2 : S.an true true = true := rfl
  simp only [p, e0, h0, at2, bc_true, and_true]
  exact ⟨feN_blk _ 0 N q e2 w2 [] [] es h2 h1 h3, wlN_blk _ 0 N [] [] _ (by omega) (by rw [S.ens_len]; exact Nat.le_refl _)⟩
theorem fwNS_ok : fwNSE.ok Tryd.prog 22 := by
 intro xs os b r h h3
 unfold fwNSE at h
 simp only at h
 split at h
 ·injection h with h; injection h with h1 h2; subst h1; subst h2
  exact fwNS_con _ _ _ _ _ _ h3
 ·cases h
theorem fwES_run (a : Int) (N q e2 : Nat) (w2 : Own) (es : List LV) : K.bodyF (envB [] (fun g id => bc (Nat.beq g 22) (bc (Nat.beq id 0) (some feEBB) (bc (Nat.beq g 22) (bc (Nat.beq id 2) (some wlEBB) (none)) (none))) (bc (Nat.beq g 22) (bc (Nat.beq id 2) (some wlEBB) (none)) (none)))) (K.runF (envB [] (fun g id => bc (Nat.beq g 22) (bc (Nat.beq id 0) (some feEBB) (bc (Nat.beq g 22) (bc (Nat.beq id 2) (some wlEBB) (none)) (none))) (bc (Nat.beq g 22) (bc (Nat.beq id 2) (some wlEBB) (none)) (none)))) 30) 22 [.int .u16 a, .emp 0, .slice 1 0 N (.known q)] (Heap.of [.empty, .flat [.i .u16] e2 w2 es]) Hint.auto (K.endC K.openE 2 ⟨.ret (.slice 2 0 0 (.known 0)), [], [.flat [.bo] 4 .exact []]⟩) =
  (bc (S.an (eqI ↑N ↑N) (S.an (eqI 0 0) (S.okN es N))) (K.BOk Tryd.prog 22 81 (blkOf 22 0) [7, 23, 24, 25] [LV.ptr 0 0, LV.slice 4 0 N (Cap.known q), LV.int IntKind.i64 ↑N, LV.int IntKind.i64 0] [LObj.cells 73 Own.exact [LV.int IntKind.i64 (wrapK IntKind.i64 a), LV.emp 1, LV.slice 2 0 0 (Cap.known 0), LV.slice 3 0 0 (Cap.known 0), LV.nils], LObj.empty, LObj.flat [CK.bo] 4 Own.exact [], LObj.flat [CK.bo] 4 Own.exact [], LObj.flat [CK.i IntKind.u16] e2 w2 es] { x := LX.normal, L := [(7, LV.ptr 0 0)], ch := [(0, LObj.cells 73 Own.exact [LV.int IntKind.i64 (wrapK IntKind.i64 a), LV.emp 1, LV.slice 2 0 0 (Cap.known 0), LV.slice 3 0 0 (Cap.known 0), LV.slice 5 0 N (Cap.rest 0)])], new := [LObj.flat [CK.i IntKind.i64] 3 (Own.grow 1) (S.ens es (wrapK IntKind.i64 a) N 0)] } ∧ (K.BOk Tryd.prog 22 81 (blkOf 22 2) [7] [LV.ptr 0 0] [LObj.cells 73 Own.exact [LV.int IntKind.i64 (wrapK IntKind.i64 a), LV.emp 1, LV.slice 2 0 0 (Cap.known 0), LV.slice 3 0 0 (Cap.known 0), LV.slice 4 0 N (Cap.rest 0)], LObj.empty, LObj.flat [CK.bo] 4 Own.exact [], LObj.flat [CK.bo] 4 Own.exact [], LObj.flat [CK.i IntKind.i64] 3 (Own.grow 1) (S.ens es (wrapK IntKind.i64 a) N 0)] { x := LX.normal, L := [(7, LV.ptr 0 0)], ch := [(0, LObj.cells 73 Own.exact [LV.int IntKind.i64 (wrapK IntKind.i64 a), LV.emp 1, LV.slice 2 0 0 (Cap.known 0), LV.slice 3 0 0 (Cap.known 0), LV.slice 4 0 0 (Cap.rest 0)])], new := [] } ∧ ((0 : Nat) = (0 : Nat) ∧ ((0 : Nat) = (0 : Nat) ∧ (Cap.known (0 : Nat) = Cap.known 0 ∧ (([] : List LV) = [] ∧ True)))))) False) := by kernel_rfl
theorem fwES_con (a : Int) (N q e2 : Nat) (w2 : Own) (es : List LV) (h0 : S.okN es N = true)  : HT Tryd.prog 22 [.int .u16 a, .emp 0, .slice 1 0 N (.known q)] (Heap.of [.empty, .flat [.i .u16] e2 w2 es]) (⟨.ret (.slice 2 0 0 (.known 0)), [], [.flat [.bo] 4 .exact []]⟩ : K.CRes).e (Heap.of (K.chg [.empty, .flat [.i .u16] e2 w2 es] (⟨.ret (.slice 2 0 0 (.known 0)), [], [.flat [.bo] 4 .exact []]⟩ : K.CRes).ch ++ (⟨.ret (.slice 2 0 0 (.known 0)), [], [.flat [.bo] 4 .exact []]⟩ : K.CRes).new)) := by
 refine K.con_of_run good (A := envB [] (fun g id => bc (Nat.beq g 22) (bc (Nat.beq id 0) (some feEBB) (bc (Nat.beq g 22) (bc (Nat.beq id 2) (some wlEBB) (none)) (none))) (bc (Nat.beq g 22) (bc (Nat.beq id 2) (some wlEBB) (none)) (none)))) (envB_ok ?_) K.openE_ok (k := 30) (cast (fwES_run a N q e2 w2 es).symm ?_)
 ·intro p hp; cases hp
 ·obtain ⟨h1, h2, h3⟩ := S.okN_iff.1 h0
  have p := S.eqI_sm (N : Int)
  have e0 : eqI 0 0 = true := rfl
  have at2 : S.an true true = true := rfl
  simp only [p, e0, h0, at2, bc_true, and_true]
  exact ⟨feE_blk _ 0 N q e2 w2 [] [] es h2 h1 h3, wlE_blk _ 0 N [] [] _ (by omega) (by rw [S.ens_len]; exact Nat.le_refl _)⟩
theorem fwES_ok : fwESE.ok Tryd.prog 22 := by
 intro xs os b r h h3
 unfold fwESE at h
 simp only at h
 split at h
 ·injection h with h; injection h with h1 h2; subst h1; subst h2
  exact fwES_con _ _ _ _ _ _ h3
 ·cases h
theorem fwSn_run (m a : Int) (et c W g g1 : Nat) (w : Own) (vs cs : List LV) : K.bodyF (envL []) (K.runF (envL []) 30) 22 [.int .u16 a, .slice 0 0 W (.known c), .nils] (Heap.of [.flat [.i .u8] et w vs, .glob g cs, .glob g1 [.int .i64 m]]) Hint.auto (K.endC K.openE 3 ⟨.ret (.slice 3 0 W (.known W)), [], [.flat [.bo] 4 .exact (S.zr W)]⟩) =
  (bc (notB (ltI ↑W ↑W)) (bc (notB (ltI 1073741824 (↑W * ↑1))) (bc (notB (ltI 1073741824 ↑W)) (bc (notB (ltI ↑W ↑W)) (bc (notB (ltI 1073741824 (↑W * ↑1))) (bc (notB (ltI 1073741824 ↑W)) ((0 : Nat) = (0 : Nat) ∧ (W = Int.toNat ↑W ∧ (Cap.known W = Cap.known (Int.toNat ↑W) ∧ (S.zr W = S.zr W ∧ True)))) False) False) False) False) False) False) := by kernel_rfl
theorem fwSn_con (m a : Int) (et c W g g1 : Nat) (w : Own) (vs cs : List LV) (h0 : S.okF vs W a = true)  : HT Tryd.prog 22 [.int .u16 a, .slice 0 0 W (.known c), .nils] (Heap.of [.flat [.i .u8] et w vs, .glob g cs, .glob g1 [.int .i64 m]]) (⟨.ret (.slice 3 0 W (.known W)), [], [.flat [.bo] 4 .exact (S.zr W)]⟩ : K.CRes).e (Heap.of (K.chg [.flat [.i .u8] et w vs, .glob g cs, .glob g1 [.int .i64 m]] (⟨.ret (.slice 3 0 W (.known W)), [], [.flat [.bo] 4 .exact (S.zr W)]⟩ : K.CRes).ch ++ (⟨.ret (.slice 3 0 W (.known W)), [], [.flat [.bo] 4 .exact (S.zr W)]⟩ : K.CRes).new)) := by
 refine K.con_of_run good (A := envL []) (envL_ok ?_) K.openE_ok (k := 30) (cast (fwSn_run m a et c W g g1 w vs cs).symm ?_)
 ·intro p hp; cases hp
 ·obtain ⟨⟨hb, hl⟩, hW, hA⟩ := S.okF_iff.1 h0
  have wa : wrapK .i64 a = a := by rw [wrapK_i64]; omega
  have c1 : ltI (W : Int) W = false := ltI_false.2 (Int.le_refl _)
  have c2 : ltI 1073741824 ((W : Int) * 1) = false := ltI_false.2 (by omega)
  have c3 : ltI 1073741824 (W : Int) = false := ltI_false.2 (by omega)
  have tn : Int.toNat (W : Int) = W := Int.toNat_natCast W
  simp only [c1, c2, c3, tn, notB_f, bc_true, and_self]
theorem fwSe_run (m a : Int) (et c W g g1 : Nat) (w : Own) (vs cs : List LV) : K.bodyF (envL []) (K.runF (envL []) 30) 22 [.int .u16 a, .slice 0 0 W (.known c), .emp 1] (Heap.of [.flat [.i .u8] et w vs, .empty, .glob g cs, .glob g1 [.int .i64 m]]) Hint.auto (K.endC K.openE 4 ⟨.ret (.slice 4 0 W (.known W)), [], [.flat [.bo] 4 .exact (S.zr W)]⟩) =
  (bc (notB (ltI ↑W ↑W)) (bc (notB (ltI 1073741824 (↑W * ↑1))) (bc (notB (ltI 1073741824 ↑W)) (bc (notB (ltI ↑W ↑W)) (bc (notB (ltI 1073741824 (↑W * ↑1))) (bc (notB (ltI 1073741824 ↑W)) ((0 : Nat) = (0 : Nat) ∧ (W = Int.toNat ↑W ∧ (Cap.known W = Cap.known (Int.toNat ↑W) ∧ (S.zr W = S.zr W ∧ True)))) False) False) False) False) False) False) := by kernel_rfl
theorem fwSe_con (m a : Int) (et c W g g1 : Nat) (w : Own) (vs cs : List LV) (h0 : S.okF vs W a = true)  : HT Tryd.prog 22 [.int .u16 a, .slice 0 0 W (.known c), .emp 1] (Heap.of [.flat [.i .u8] et w vs, .empty, .glob g cs, .glob g1 [.int .i64 m]]) (⟨.ret (.slice 4 0 W (.known W)), [], [.flat [.bo] 4 .exact (S.zr W)]⟩ : K.CRes).e (Heap.of (K.chg [.flat [.i .u8] et w vs, .empty, .glob g cs, .glob g1 [.int .i64 m]] (⟨.ret (.slice 4 0 W (.known W)), [], [.flat [.bo] 4 .exact (S.zr W)]⟩ : K.CRes).ch ++ (⟨.ret (.slice 4 0 W (.known W)), [], [.flat [.bo] 4 .exact (S.zr W)]⟩ : K.CRes).new)) := by
 refine K.con_of_run good (A := envL []) (envL_ok ?_) K.openE_ok (k := 30) (cast (fwSe_run m a et c W g g1 w vs cs).symm ?_)
 ·intro p hp; cases hp
 ·obtain ⟨⟨hb, hl⟩, hW, hA⟩ := S.okF_iff.1 h0
  have wa : wrapK .i64 a = a := by rw [wrapK_i64]; omega
  have c1 : ltI (W : Int) W = false := ltI_false.2 (Int.le_refl _)
  have c2 : ltI 1073741824 ((W : Int) * 1) = false := ltI_false.2 (by omega)
  have c3 : ltI 1073741824 (W : Int) = false := ltI_false.2 (by omega)
  have tn : Int.toNat (W : Int) = W := Int.toNat_natCast W
  simp only [c1, c2, c3, tn, notB_f, bc_true, and_self]
namespace S
theorem okM_iff {es : List LV} {N : Nat} : okM es N = true ↔ N ≤ lenL es ∧ N ≤ 30 := by unfold okM; rw [an_iff, bleN, bleN]
theorem flw_le {vs es : List LV} {W k N p : Nat} {a : Int} (h : k ≤ N) (hp : p < W) (hb : boolOf (K.atV (flw vs W a es k) p) = true) : boolOf (K.atV (flw vs W a es N) p) = true := by
 unfold flw cvR at hb ⊢
 rw [row_b hp] at hb ⊢
 rw [dcd_iff] at hb ⊢
 obtain ⟨i, h1, h2, h3⟩ := hb
 exact ⟨i, rch_le (fun y hv ⟨j, hj, he⟩ => .start ⟨j, by omega, he⟩ hv) h1, h2, h3⟩
end S
theorem fm_k (m a : Int) (et c W N q e2 : Nat) (w w2 : Own) (vs es cs : List LV) (g g1 : Nat) (h : S.an (S.okG g cs g1) (S.an (S.okF vs W a) (S.okM es N)) = true) : HT Tryd.prog 22 [.int .u16 a, .slice 0 0 W (.known c), .slice 1 0 N (.known q)] (Heap.of [.flat [.i .u8] et w vs, .flat [.i .u16] e2 w2 es, .glob g cs, .glob g1 [.int .i64 m]]) (.ret (.slice 4 0 W (.known W))) (Heap.of ([.flat [.i .u8] et w vs, .flat [.i .u16] e2 w2 es, .glob g cs, .glob g1 [.int .i64 m]] ++ [.flat [.bo] 4 .exact (S.flw vs W a es N)])) := by
 obtain ⟨h1, h2⟩ := S.an_iff.1 h
 obtain ⟨z1, z2, z3⟩ := S.okG_ok h1
 subst z1; subst z2; subst z3
 obtain ⟨h3, h4⟩ := S.an_iff.1 h2
 obtain ⟨h5, h6⟩ := S.okM_iff.1 h4
 cases N with
 | zero => exact fwZ_con m a et c W q e2 w w2 vs es h3
 | succ N => exact fwS_con m a et c W (N + 1) q e2 w w2 vs es (S.an_iff.2 ⟨h3, S.okN_iff.2 ⟨h5, by omega, h6⟩⟩)
theorem fm_ok : fmE.ok Tryd.prog 22 := by
 intro xs os b r h h3
 unfold fmE at h
 simp only at h
 split at h
 ·injection h with h; injection h with h1 h2; subst h1; subst h2
  exact fm_k _ _ _ _ _ _ _ _ _ _ _ _ _ _ _ h3
 ·injection h with h; injection h with h1 h2; subst h1; subst h2
  exact fwSn_con _ _ _ _ _ _ _ _ _ _ h3
 ·injection h with h; injection h with h1 h2; subst h1; subst h2
  exact fwSe_con _ _ _ _ _ _ _ _ _ _ h3
 ·cases h
end Go.Proofs.YtlgfojaalmelhaaDoor.Ev
