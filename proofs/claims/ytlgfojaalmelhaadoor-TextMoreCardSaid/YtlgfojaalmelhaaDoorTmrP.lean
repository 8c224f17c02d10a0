/- Contracts, proved: Tmr. -/
import Derived.Test.YtlgfojaalmelhaaDoorTmrD
import Derived.Test.YtlgfojaalmelhaaDoorTakP
import Derived.Test.YtlgfojaalmelhaaDoorTmwP
namespace Go.Proofs.YtlgfojaalmelhaaDoor.Ev
open Go
set_option linter.unusedVariables false
set_option linter.unusedSimpArgs false
set_option maxRecDepth 100000
set_option maxHeartbeats 1000000
namespace S
theorem okB_intro {vs : List LV} : ∀ (n : Nat), (∀ i, i < n → 0 ≤ by1 vs i ∧ by1 vs i < 256) → (@Nat.rec (fun _ => Bool) true (fun i r => an (byOk (by1 vs i)) r) n) = true
 | 0, _ => rfl
 | n + 1, h => by
  obtain ⟨a, b⟩ := h n (by omega)
  exact an_iff.2 ⟨an_iff.2 ⟨notB_true.2 (ltI_false.2 a), ltI_true.2 b⟩, okB_intro n fun i hi => h i (by omega)⟩
theorem row_len1 (l : List Int) : lenL (l.flatMap byV) = l.length := by
 rw [K.lenL_eq, flatMap_length byV 1 (fun _ => rfl), Nat.mul_one]
theorem row_len2 (l : List Int) : lenL (l.flatMap wdV) = l.length := by
 rw [K.lenL_eq, flatMap_length wdV 1 (fun _ => rfl), Nat.mul_one]
theorem row_ok1 (l : List Int) (h : ∀ a, a ∈ l → 0 ≤ a ∧ a ≤ 255) : okB (l.flatMap byV) = true := by
 unfold okB
 rw [row_len1]
 refine okB_intro _ fun i hi => ?_
 have e := atV_rows byV 1 (fun _ => rfl) l hi (c := 0) (by decide)
 rw [Nat.mul_one, Nat.add_zero] at e
 unfold by1; rw [e]
 have := h l[i] (List.getElem_mem hi)
 show 0 ≤ l[i] ∧ l[i] < 256
 omega
theorem zr_len {W : Nat} : lenL (zr W) = W := by rw [zr_row]; exact row_len _ W
end S
theorem m0NR_run (a : Int) (et c W : Nat) (w : Own) (vs : List LV) (i : Nat) (x y : List LV) : K.RunL (envL []) K.openE 30 9 85 (inner (inner (blkOf 9 0))) m0NEB [(0, .int .u16 a), (1, .slice 0 0 W (.known c)), (2, .nils), (7, .slice 1 0 W (.known W)), (8, .slice 2 0 W (.known W)), (9, .int .i64 i)] [.flat [.i .u8] et w vs, .flat [.bo] 4 .exact x, .flat [.bo] 4 .exact y] Hint.auto ⟨.exit 0, [(0, .int .u16 a), (1, .slice 0 0 W (.known c)), (2, .nils), (7, .slice 1 0 W (.known W))], [], []⟩ =
  (bc (ltI ↑i ↑W) (bc (ltI ↑i ↑W) (bc (Nat.ble (0 + Int.toNat ↑i * 1 + 1) (lenL y)) (bc (boolOf (K.atV y (0 + Int.toNat ↑i * 1))) False (K.LOk Tryd.prog 9 85 (inner (inner (blkOf 9 0))) [0, 1, 2, 7, 8, 9] [LV.int IntKind.u16 a, LV.slice 0 0 W (Cap.known c), LV.nils, LV.slice 1 0 W (Cap.known W), LV.slice 2 0 W (Cap.known W), LV.int IntKind.i64 (wrapK IntKind.i64 (↑i + 1))] [LObj.flat [CK.i IntKind.u8] et w vs, LObj.flat [CK.bo] 4 Own.exact x, LObj.flat [CK.bo] 4 Own.exact y] { x := LX.exit 0, L := [(0, LV.int IntKind.u16 a), (1, LV.slice 0 0 W (Cap.known c)), (2, LV.nils), (7, LV.slice 1 0 W (Cap.known W))], ch := [], new := [] } ∧ (a = a ∧ ((0 : Nat) = (0 : Nat) ∧ (W = W ∧ (Cap.known c = Cap.known c ∧ ((0 : Nat) = (0 : Nat) ∧ (W = W ∧ (Cap.known W = Cap.known W ∧ True))))))))) False) False) (a = a ∧ ((0 : Nat) = (0 : Nat) ∧ (W = W ∧ (Cap.known c = Cap.known c ∧ ((0 : Nat) = (0 : Nat) ∧ (W = W ∧ (Cap.known W = Cap.known W ∧ True)))))))) := by kernel_rfl
theorem m0NR_con (a : Int) (et c W : Nat) (w : Own) (vs : List LV) (i : Nat) (x y : List LV) (hy : y = S.zr W) (hi : i ≤ W) (hW : W ≤ 1000) (IH : i < W → m0N_T a et c W w vs (i + 1) x y) : GT Tryd.prog (fun k => .code (inner (inner (blkOf 9 0))) :: .inLoop (inner (inner (blkOf 9 0))) :: k) (Fr.ofL 9 85 [(0, .int .u16 a), (1, .slice 0 0 W (.known c)), (2, .nils), (7, .slice 1 0 W (.known W)), (8, .slice 2 0 W (.known W)), (9, .int .i64 i)] [] none) (Heap.of [.flat [.i .u8] et w vs, .flat [.bo] 4 .exact x, .flat [.bo] 4 .exact y]) (⟨.exit 0, [(0, .int .u16 a), (1, .slice 0 0 W (.known c)), (2, .nils), (7, .slice 1 0 W (.known W))], [], []⟩ : K.BRes).x (Fr.ofL 9 85 (⟨.exit 0, [(0, .int .u16 a), (1, .slice 0 0 W (.known c)), (2, .nils), (7, .slice 1 0 W (.known W))], [], []⟩ : K.BRes).L [] none) (Heap.of (K.chg [.flat [.i .u8] et w vs, .flat [.bo] 4 .exact x, .flat [.bo] 4 .exact y] (⟨.exit 0, [(0, .int .u16 a), (1, .slice 0 0 W (.known c)), (2, .nils), (7, .slice 1 0 W (.known W))], [], []⟩ : K.BRes).ch ++ (⟨.exit 0, [(0, .int .u16 a), (1, .slice 0 0 W (.known c)), (2, .nils), (7, .slice 1 0 W (.known W))], [], []⟩ : K.BRes).new)) := by
 refine K.loop_of_run good (A := envL []) (envL_ok ?_) K.openE_ok (k := 30) (ent := m0NEB) (cast (m0NR_run a et c W w vs i x y).symm ?_)
 ·intro p hp; cases hp
 ·have T : ∀ z : Nat, Int.toNat (z : Int) = z := Int.toNat_natCast
  have w1 : wrapK .i64 ((i : Int) + 1) = ((i + 1 : Nat) : Int) := by rw [wrapK_i64]; omega
  subst hy
  have hz : lenL (S.zr W) = W := by rw [S.zr_row]; exact S.row_len _ W
  by_cases h : i < W
  ·have e1 : ltI (i : Int) W = true := ltI_true.2 (by omega)
   have b1 : Nat.ble (i + 1) W = true := S.bleN.2 (by omega)
   have bf : boolOf (K.atV (S.zr W) i) = false := by rw [S.zr_row]; exact S.row_b h
   simp only [e1, b1, w1, T, bf, hz, Nat.zero_add, Nat.mul_one, bc_true, bc_false, and_true]
   exact IH h
  ·have e1 : ltI (i : Int) W = false := ltI_false.2 (by omega)
   simp only [e1, bc_false, and_true]
theorem m4NR_run (a : Int) (et c W : Nat) (w : Own) (vs : List LV) (k : Int) (i : Nat) (x y : List LV) : K.RunL (envL []) K.openE 30 9 85 (inner (inner (blkOf 9 4))) m4NEB [(0, .int .u16 a), (1, .slice 0 0 W (.known c)), (2, .nils), (7, .slice 1 0 W (.known W)), (10, .int .i64 k), (11, .slice 2 0 W (.known W)), (12, .int .i64 i)] [.flat [.i .u8] et w vs, .flat [.bo] 4 .exact x, .flat [.bo] 4 .exact y] Hint.auto ⟨.exit 4, [(0, .int .u16 a), (1, .slice 0 0 W (.known c)), (2, .nils), (7, .slice 1 0 W (.known W)), (10, .int .i64 k)], [], []⟩ =
  (bc (ltI ↑i ↑W) (bc (ltI ↑i ↑W) (bc (Nat.ble (0 + Int.toNat ↑i * 1 + 1) (lenL y)) (bc (boolOf (K.atV y (0 + Int.toNat ↑i * 1))) (bc (ltI ↑i ↑W) (bc (Nat.ble (0 + Int.toNat ↑i * 1 + 1) (lenL x)) (bc (notB (boolOf (K.atV x (0 + Int.toNat ↑i * 1)))) False (K.LOk Tryd.prog 9 85 (inner (inner (blkOf 9 4))) [0, 1, 2, 7, 10, 11, 12] [LV.int IntKind.u16 a, LV.slice 0 0 W (Cap.known c), LV.nils, LV.slice 1 0 W (Cap.known W), LV.int IntKind.i64 k, LV.slice 2 0 W (Cap.known W), LV.int IntKind.i64 (wrapK IntKind.i64 (↑i + 1))] [LObj.flat [CK.i IntKind.u8] et w vs, LObj.flat [CK.bo] 4 Own.exact x, LObj.flat [CK.bo] 4 Own.exact y] { x := LX.exit 4, L := [(0, LV.int IntKind.u16 a), (1, LV.slice 0 0 W (Cap.known c)), (2, LV.nils), (7, LV.slice 1 0 W (Cap.known W)), (10, LV.int IntKind.i64 k)], ch := [], new := [] } ∧ (a = a ∧ ((0 : Nat) = (0 : Nat) ∧ (W = W ∧ (Cap.known c = Cap.known c ∧ ((0 : Nat) = (0 : Nat) ∧ (W = W ∧ (Cap.known W = Cap.known W ∧ (k = k ∧ True)))))))))) False) False) (K.LOk Tryd.prog 9 85 (inner (inner (blkOf 9 4))) [0, 1, 2, 7, 10, 11, 12] [LV.int IntKind.u16 a, LV.slice 0 0 W (Cap.known c), LV.nils, LV.slice 1 0 W (Cap.known W), LV.int IntKind.i64 k, LV.slice 2 0 W (Cap.known W), LV.int IntKind.i64 (wrapK IntKind.i64 (↑i + 1))] [LObj.flat [CK.i IntKind.u8] et w vs, LObj.flat [CK.bo] 4 Own.exact x, LObj.flat [CK.bo] 4 Own.exact y] { x := LX.exit 4, L := [(0, LV.int IntKind.u16 a), (1, LV.slice 0 0 W (Cap.known c)), (2, LV.nils), (7, LV.slice 1 0 W (Cap.known W)), (10, LV.int IntKind.i64 k)], ch := [], new := [] } ∧ (a = a ∧ ((0 : Nat) = (0 : Nat) ∧ (W = W ∧ (Cap.known c = Cap.known c ∧ ((0 : Nat) = (0 : Nat) ∧ (W = W ∧ (Cap.known W = Cap.known W ∧ (k = k ∧ True)))))))))) False) False) (a = a ∧ ((0 : Nat) = (0 : Nat) ∧ (W = W ∧ (Cap.known c = Cap.known c ∧ ((0 : Nat) = (0 : Nat) ∧ (W = W ∧ (Cap.known W = Cap.known W ∧ (k = k ∧ True))))))))) := by kernel_rfl
theorem m4NR_con (a : Int) (et c W : Nat) (w : Own) (vs : List LV) (k : Int) (i : Nat) (x y : List LV) (hy : S.leB y x W) (hx : lenL x = W) (hl : lenL y = W) (hi : i ≤ W) (hW : W ≤ 1000) (IH : i < W → m4N_T a et c W w vs k (i + 1) x y) : GT Tryd.prog (fun k => .code (inner (inner (blkOf 9 4))) :: .inLoop (inner (inner (blkOf 9 4))) :: k) (Fr.ofL 9 85 [(0, .int .u16 a), (1, .slice 0 0 W (.known c)), (2, .nils), (7, .slice 1 0 W (.known W)), (10, .int .i64 k), (11, .slice 2 0 W (.known W)), (12, .int .i64 i)] [] none) (Heap.of [.flat [.i .u8] et w vs, .flat [.bo] 4 .exact x, .flat [.bo] 4 .exact y]) (⟨.exit 4, [(0, .int .u16 a), (1, .slice 0 0 W (.known c)), (2, .nils), (7, .slice 1 0 W (.known W)), (10, .int .i64 k)], [], []⟩ : K.BRes).x (Fr.ofL 9 85 (⟨.exit 4, [(0, .int .u16 a), (1, .slice 0 0 W (.known c)), (2, .nils), (7, .slice 1 0 W (.known W)), (10, .int .i64 k)], [], []⟩ : K.BRes).L [] none) (Heap.of (K.chg [.flat [.i .u8] et w vs, .flat [.bo] 4 .exact x, .flat [.bo] 4 .exact y] (⟨.exit 4, [(0, .int .u16 a), (1, .slice 0 0 W (.known c)), (2, .nils), (7, .slice 1 0 W (.known W)), (10, .int .i64 k)], [], []⟩ : K.BRes).ch ++ (⟨.exit 4, [(0, .int .u16 a), (1, .slice 0 0 W (.known c)), (2, .nils), (7, .slice 1 0 W (.known W)), (10, .int .i64 k)], [], []⟩ : K.BRes).new)) := by
 refine K.loop_of_run good (A := envL []) (envL_ok ?_) K.openE_ok (k := 30) (ent := m4NEB) (cast (m4NR_run a et c W w vs k i x y).symm ?_)
 ·intro p hp; cases hp
 ·have T : ∀ z : Nat, Int.toNat (z : Int) = z := Int.toNat_natCast
  have w1 : wrapK .i64 ((i : Int) + 1) = ((i + 1 : Nat) : Int) := by rw [wrapK_i64]; omega
  by_cases h : i < W
  ·have e1 : ltI (i : Int) W = true := ltI_true.2 (by omega)
   have b1 : Nat.ble (i + 1) W = true := S.bleN.2 (by omega)
   have IH := IH h
   have hle := hy i h
   cases hb : boolOf (K.atV y i) with
   | false =>
    simp only [e1, b1, w1, T, hb, hx, hl, Nat.zero_add, Nat.mul_one, bc_true, bc_false, and_true]
    exact IH
   | true =>
    have ha := hle hb
    simp only [e1, b1, w1, T, hb, ha, hx, hl, notB_t, Nat.zero_add, Nat.mul_one, bc_true, bc_false, and_true]
    exact IH
  ·have e1 : ltI (i : Int) W = false := ltI_false.2 (by omega)
   simp only [e1, bc_false, and_true]
theorem m0ER_run (a : Int) (et c W : Nat) (w : Own) (vs : List LV) (i : Nat) (x y : List LV) : K.RunL (envL []) K.openE 30 9 85 (inner (inner (blkOf 9 0))) m0EEB [(0, .int .u16 a), (1, .slice 0 0 W (.known c)), (2, .emp 1), (7, .slice 2 0 W (.known W)), (8, .slice 3 0 W (.known W)), (9, .int .i64 i)] [.flat [.i .u8] et w vs, .empty, .flat [.bo] 4 .exact x, .flat [.bo] 4 .exact y] Hint.auto ⟨.exit 0, [(0, .int .u16 a), (1, .slice 0 0 W (.known c)), (2, .emp 1), (7, .slice 2 0 W (.known W))], [], []⟩ =
  (bc (ltI ↑i ↑W) (bc (ltI ↑i ↑W) (bc (Nat.ble (0 + Int.toNat ↑i * 1 + 1) (lenL y)) (bc (boolOf (K.atV y (0 + Int.toNat ↑i * 1))) False (K.LOk Tryd.prog 9 85 (inner (inner (blkOf 9 0))) [0, 1, 2, 7, 8, 9] [LV.int IntKind.u16 a, LV.slice 0 0 W (Cap.known c), LV.emp 1, LV.slice 2 0 W (Cap.known W), LV.slice 3 0 W (Cap.known W), LV.int IntKind.i64 (wrapK IntKind.i64 (↑i + 1))] [LObj.flat [CK.i IntKind.u8] et w vs, LObj.empty, LObj.flat [CK.bo] 4 Own.exact x, LObj.flat [CK.bo] 4 Own.exact y] { x := LX.exit 0, L := [(0, LV.int IntKind.u16 a), (1, LV.slice 0 0 W (Cap.known c)), (2, LV.emp 1), (7, LV.slice 2 0 W (Cap.known W))], ch := [], new := [] } ∧ (a = a ∧ ((0 : Nat) = (0 : Nat) ∧ (W = W ∧ (Cap.known c = Cap.known c ∧ ((0 : Nat) = (0 : Nat) ∧ (W = W ∧ (Cap.known W = Cap.known W ∧ True))))))))) False) False) (a = a ∧ ((0 : Nat) = (0 : Nat) ∧ (W = W ∧ (Cap.known c = Cap.known c ∧ ((0 : Nat) = (0 : Nat) ∧ (W = W ∧ (Cap.known W = Cap.known W ∧ True)))))))) := by kernel_rfl
theorem m0ER_con (a : Int) (et c W : Nat) (w : Own) (vs : List LV) (i : Nat) (x y : List LV) (hy : y = S.zr W) (hi : i ≤ W) (hW : W ≤ 1000) (IH : i < W → m0E_T a et c W w vs (i + 1) x y) : GT Tryd.prog (fun k => .code (inner (inner (blkOf 9 0))) :: .inLoop (inner (inner (blkOf 9 0))) :: k) (Fr.ofL 9 85 [(0, .int .u16 a), (1, .slice 0 0 W (.known c)), (2, .emp 1), (7, .slice 2 0 W (.known W)), (8, .slice 3 0 W (.known W)), (9, .int .i64 i)] [] none) (Heap.of [.flat [.i .u8] et w vs, .empty, .flat [.bo] 4 .exact x, .flat [.bo] 4 .exact y]) (⟨.exit 0, [(0, .int .u16 a), (1, .slice 0 0 W (.known c)), (2, .emp 1), (7, .slice 2 0 W (.known W))], [], []⟩ : K.BRes).x (Fr.ofL 9 85 (⟨.exit 0, [(0, .int .u16 a), (1, .slice 0 0 W (.known c)), (2, .emp 1), (7, .slice 2 0 W (.known W))], [], []⟩ : K.BRes).L [] none) (Heap.of (K.chg [.flat [.i .u8] et w vs, .empty, .flat [.bo] 4 .exact x, .flat [.bo] 4 .exact y] (⟨.exit 0, [(0, .int .u16 a), (1, .slice 0 0 W (.known c)), (2, .emp 1), (7, .slice 2 0 W (.known W))], [], []⟩ : K.BRes).ch ++ (⟨.exit 0, [(0, .int .u16 a), (1, .slice 0 0 W (.known c)), (2, .emp 1), (7, .slice 2 0 W (.known W))], [], []⟩ : K.BRes).new)) := by
 refine K.loop_of_run good (A := envL []) (envL_ok ?_) K.openE_ok (k := 30) (ent := m0EEB) (cast (m0ER_run a et c W w vs i x y).symm ?_)
 ·intro p hp; cases hp
 ·have T : ∀ z : Nat, Int.toNat (z : Int) = z := Int.toNat_natCast
  have w1 : wrapK .i64 ((i : Int) + 1) = ((i + 1 : Nat) : Int) := by rw [wrapK_i64]; omega
  subst hy
  have hz : lenL (S.zr W) = W := by rw [S.zr_row]; exact S.row_len _ W
  by_cases h : i < W
  ·have e1 : ltI (i : Int) W = true := ltI_true.2 (by omega)
   have b1 : Nat.ble (i + 1) W = true := S.bleN.2 (by omega)
   have bf : boolOf (K.atV (S.zr W) i) = false := by rw [S.zr_row]; exact S.row_b h
   simp only [e1, b1, w1, T, bf, hz, Nat.zero_add, Nat.mul_one, bc_true, bc_false, and_true]
   exact IH h
  ·have e1 : ltI (i : Int) W = false := ltI_false.2 (by omega)
   simp only [e1, bc_false, and_true]
theorem m4ER_run (a : Int) (et c W : Nat) (w : Own) (vs : List LV) (k : Int) (i : Nat) (x y : List LV) : K.RunL (envL []) K.openE 30 9 85 (inner (inner (blkOf 9 4))) m4EEB [(0, .int .u16 a), (1, .slice 0 0 W (.known c)), (2, .emp 1), (7, .slice 2 0 W (.known W)), (10, .int .i64 k), (11, .slice 3 0 W (.known W)), (12, .int .i64 i)] [.flat [.i .u8] et w vs, .empty, .flat [.bo] 4 .exact x, .flat [.bo] 4 .exact y] Hint.auto ⟨.exit 4, [(0, .int .u16 a), (1, .slice 0 0 W (.known c)), (2, .emp 1), (7, .slice 2 0 W (.known W)), (10, .int .i64 k)], [], []⟩ =
  (bc (ltI ↑i ↑W) (bc (ltI ↑i ↑W) (bc (Nat.ble (0 + Int.toNat ↑i * 1 + 1) (lenL y)) (bc (boolOf (K.atV y (0 + Int.toNat ↑i * 1))) (bc (ltI ↑i ↑W) (bc (Nat.ble (0 + Int.toNat ↑i * 1 + 1) (lenL x)) (bc (notB (boolOf (K.atV x (0 + Int.toNat ↑i * 1)))) False (K.LOk Tryd.prog 9 85 (inner (inner (blkOf 9 4))) [0, 1, 2, 7, 10, 11, 12] [LV.int IntKind.u16 a, LV.slice 0 0 W (Cap.known c), LV.emp 1, LV.slice 2 0 W (Cap.known W), LV.int IntKind.i64 k, LV.slice 3 0 W (Cap.known W), LV.int IntKind.i64 (wrapK IntKind.i64 (↑i + 1))] [LObj.flat [CK.i IntKind.u8] et w vs, LObj.empty, LObj.flat [CK.bo] 4 Own.exact x, LObj.flat [CK.bo] 4 Own.exact y] { x := LX.exit 4, L := [(0, LV.int IntKind.u16 a), (1, LV.slice 0 0 W (Cap.known c)), (2, LV.emp 1), (7, LV.slice 2 0 W (Cap.known W)), (10, LV.int IntKind.i64 k)], ch := [], new := [] } ∧ (a = a ∧ ((0 : Nat) = (0 : Nat) ∧ (W = W ∧ (Cap.known c = Cap.known c ∧ ((0 : Nat) = (0 : Nat) ∧ (W = W ∧ (Cap.known W = Cap.known W ∧ (k = k ∧ True)))))))))) False) False) (K.LOk Tryd.prog 9 85 (inner (inner (blkOf 9 4))) [0, 1, 2, 7, 10, 11, 12] [LV.int IntKind.u16 a, LV.slice 0 0 W (Cap.known c), LV.emp 1, LV.slice 2 0 W (Cap.known W), LV.int IntKind.i64 k, LV.slice 3 0 W (Cap.known W), LV.int IntKind.i64 (wrapK IntKind.i64 (↑i + 1))] [LObj.flat [CK.i IntKind.u8] et w vs, LObj.empty, LObj.flat [CK.bo] 4 Own.exact x, LObj.flat [CK.bo] 4 Own.exact y] { x := LX.exit 4, L := [(0, LV.int IntKind.u16 a), (1, LV.slice 0 0 W (Cap.known c)), (2, LV.emp 1), (7, LV.slice 2 0 W (Cap.known W)), (10, LV.int IntKind.i64 k)], ch := [], new := [] } ∧ (a = a ∧ ((0 : Nat) = (0 : Nat) ∧ (W = W ∧ (Cap.known c = Cap.known c ∧ ((0 : Nat) = (0 : Nat) ∧ (W = W ∧ (Cap.known W = Cap.known W ∧ (k = k ∧ True)))))))))) False) False) (a = a ∧ ((0 : Nat) = (0 : Nat) ∧ (W = W ∧ (Cap.known c = Cap.known c ∧ ((0 : Nat) = (0 : Nat) ∧ (W = W ∧ (Cap.known W = Cap.known W ∧ (k = k ∧ True))))))))) := by kernel_rfl
theorem m4ER_con (a : Int) (et c W : Nat) (w : Own) (vs : List LV) (k : Int) (i : Nat) (x y : List LV) (hy : S.leB y x W) (hx : lenL x = W) (hl : lenL y = W) (hi : i ≤ W) (hW : W ≤ 1000) (IH : i < W → m4E_T a et c W w vs k (i + 1) x y) : GT Tryd.prog (fun k => .code (inner (inner (blkOf 9 4))) :: .inLoop (inner (inner (blkOf 9 4))) :: k) (Fr.ofL 9 85 [(0, .int .u16 a), (1, .slice 0 0 W (.known c)), (2, .emp 1), (7, .slice 2 0 W (.known W)), (10, .int .i64 k), (11, .slice 3 0 W (.known W)), (12, .int .i64 i)] [] none) (Heap.of [.flat [.i .u8] et w vs, .empty, .flat [.bo] 4 .exact x, .flat [.bo] 4 .exact y]) (⟨.exit 4, [(0, .int .u16 a), (1, .slice 0 0 W (.known c)), (2, .emp 1), (7, .slice 2 0 W (.known W)), (10, .int .i64 k)], [], []⟩ : K.BRes).x (Fr.ofL 9 85 (⟨.exit 4, [(0, .int .u16 a), (1, .slice 0 0 W (.known c)), (2, .emp 1), (7, .slice 2 0 W (.known W)), (10, .int .i64 k)], [], []⟩ : K.BRes).L [] none) (Heap.of (K.chg [.flat [.i .u8] et w vs, .empty, .flat [.bo] 4 .exact x, .flat [.bo] 4 .exact y] (⟨.exit 4, [(0, .int .u16 a), (1, .slice 0 0 W (.known c)), (2, .emp 1), (7, .slice 2 0 W (.known W)), (10, .int .i64 k)], [], []⟩ : K.BRes).ch ++ (⟨.exit 4, [(0, .int .u16 a), (1, .slice 0 0 W (.known c)), (2, .emp 1), (7, .slice 2 0 W (.known W)), (10, .int .i64 k)], [], []⟩ : K.BRes).new)) := by
 refine K.loop_of_run good (A := envL []) (envL_ok ?_) K.openE_ok (k := 30) (ent := m4EEB) (cast (m4ER_run a et c W w vs k i x y).symm ?_)
 ·intro p hp; cases hp
 ·have T : ∀ z : Nat, Int.toNat (z : Int) = z := Int.toNat_natCast
  have w1 : wrapK .i64 ((i : Int) + 1) = ((i + 1 : Nat) : Int) := by rw [wrapK_i64]; omega
  by_cases h : i < W
  ·have e1 : ltI (i : Int) W = true := ltI_true.2 (by omega)
   have b1 : Nat.ble (i + 1) W = true := S.bleN.2 (by omega)
   have IH := IH h
   have hle := hy i h
   cases hb : boolOf (K.atV y i) with
   | false =>
    simp only [e1, b1, w1, T, hb, hx, hl, Nat.zero_add, Nat.mul_one, bc_true, bc_false, and_true]
    exact IH
   | true =>
    have ha := hle hb
    simp only [e1, b1, w1, T, hb, ha, hx, hl, notB_t, Nat.zero_add, Nat.mul_one, bc_true, bc_false, and_true]
    exact IH
  ·have e1 : ltI (i : Int) W = false := ltI_false.2 (by omega)
   simp only [e1, bc_false, and_true]
theorem m0SR_run (a : Int) (et c W : Nat) (w : Own) (vs : List LV) (N q e2 : Nat) (w2 : Own) (es : List LV) (i : Nat) (x y : List LV) : K.RunL (envL []) K.openE 30 9 85 (inner (inner (blkOf 9 0))) m0SEB [(0, .int .u16 a), (1, .slice 0 0 W (.known c)), (2, .slice 1 0 N (.known q)), (7, .slice 2 0 W (.known W)), (8, .slice 3 0 W (.known W)), (9, .int .i64 i)] [.flat [.i .u8] et w vs, .flat [.i .u16] e2 w2 es, .flat [.bo] 4 .exact x, .flat [.bo] 4 .exact y] Hint.auto ⟨.exit 0, [(0, .int .u16 a), (1, .slice 0 0 W (.known c)), (2, .slice 1 0 N (.known q)), (7, .slice 2 0 W (.known W))], [], []⟩ =
  (bc (ltI ↑i ↑W) (bc (ltI ↑i ↑W) (bc (Nat.ble (0 + Int.toNat ↑i * 1 + 1) (lenL y)) (bc (boolOf (K.atV y (0 + Int.toNat ↑i * 1))) False (K.LOk Tryd.prog 9 85 (inner (inner (blkOf 9 0))) [0, 1, 2, 7, 8, 9] [LV.int IntKind.u16 a, LV.slice 0 0 W (Cap.known c), LV.slice 1 0 N (Cap.known q), LV.slice 2 0 W (Cap.known W), LV.slice 3 0 W (Cap.known W), LV.int IntKind.i64 (wrapK IntKind.i64 (↑i + 1))] [LObj.flat [CK.i IntKind.u8] et w vs, LObj.flat [CK.i IntKind.u16] e2 w2 es, LObj.flat [CK.bo] 4 Own.exact x, LObj.flat [CK.bo] 4 Own.exact y] { x := LX.exit 0, L := [(0, LV.int IntKind.u16 a), (1, LV.slice 0 0 W (Cap.known c)), (2, LV.slice 1 0 N (Cap.known q)), (7, LV.slice 2 0 W (Cap.known W))], ch := [], new := [] } ∧ (a = a ∧ ((0 : Nat) = (0 : Nat) ∧ (W = W ∧ (Cap.known c = Cap.known c ∧ ((0 : Nat) = (0 : Nat) ∧ (N = N ∧ (Cap.known q = Cap.known q ∧ ((0 : Nat) = (0 : Nat) ∧ (W = W ∧ (Cap.known W = Cap.known W ∧ True)))))))))))) False) False) (a = a ∧ ((0 : Nat) = (0 : Nat) ∧ (W = W ∧ (Cap.known c = Cap.known c ∧ ((0 : Nat) = (0 : Nat) ∧ (N = N ∧ (Cap.known q = Cap.known q ∧ ((0 : Nat) = (0 : Nat) ∧ (W = W ∧ (Cap.known W = Cap.known W ∧ True))))))))))) := by kernel_rfl
theorem m0SR_con (a : Int) (et c W : Nat) (w : Own) (vs : List LV) (N q e2 : Nat) (w2 : Own) (es : List LV) (i : Nat) (x y : List LV) (hy : y = S.zr W) (hi : i ≤ W) (hW : W ≤ 1000) (IH : i < W → m0S_T a et c W w vs N q e2 w2 es (i + 1) x y) : GT Tryd.prog (fun k => .code (inner (inner (blkOf 9 0))) :: .inLoop (inner (inner (blkOf 9 0))) :: k) (Fr.ofL 9 85 [(0, .int .u16 a), (1, .slice 0 0 W (.known c)), (2, .slice 1 0 N (.known q)), (7, .slice 2 0 W (.known W)), (8, .slice 3 0 W (.known W)), (9, .int .i64 i)] [] none) (Heap.of [.flat [.i .u8] et w vs, .flat [.i .u16] e2 w2 es, .flat [.bo] 4 .exact x, .flat [.bo] 4 .exact y]) (⟨.exit 0, [(0, .int .u16 a), (1, .slice 0 0 W (.known c)), (2, .slice 1 0 N (.known q)), (7, .slice 2 0 W (.known W))], [], []⟩ : K.BRes).x (Fr.ofL 9 85 (⟨.exit 0, [(0, .int .u16 a), (1, .slice 0 0 W (.known c)), (2, .slice 1 0 N (.known q)), (7, .slice 2 0 W (.known W))], [], []⟩ : K.BRes).L [] none) (Heap.of (K.chg [.flat [.i .u8] et w vs, .flat [.i .u16] e2 w2 es, .flat [.bo] 4 .exact x, .flat [.bo] 4 .exact y] (⟨.exit 0, [(0, .int .u16 a), (1, .slice 0 0 W (.known c)), (2, .slice 1 0 N (.known q)), (7, .slice 2 0 W (.known W))], [], []⟩ : K.BRes).ch ++ (⟨.exit 0, [(0, .int .u16 a), (1, .slice 0 0 W (.known c)), (2, .slice 1 0 N (.known q)), (7, .slice 2 0 W (.known W))], [], []⟩ : K.BRes).new)) := by
 refine K.loop_of_run good (A := envL []) (envL_ok ?_) K.openE_ok (k := 30) (ent := m0SEB) (cast (m0SR_run a et c W w vs N q e2 w2 es i x y).symm ?_)
 ·intro p hp; cases hp
 ·have T : ∀ z : Nat, Int.toNat (z : Int) = z := Int.toNat_natCast
  have w1 : wrapK .i64 ((i : Int) + 1) = ((i + 1 : Nat) : Int) := by rw [wrapK_i64]; omega
  subst hy
  have hz : lenL (S.zr W) = W := by rw [S.zr_row]; exact S.row_len _ W
  by_cases h : i < W
  ·have e1 : ltI (i : Int) W = true := ltI_true.2 (by omega)
   have b1 : Nat.ble (i + 1) W = true := S.bleN.2 (by omega)
   have bf : boolOf (K.atV (S.zr W) i) = false := by rw [S.zr_row]; exact S.row_b h
   simp only [e1, b1, w1, T, bf, hz, Nat.zero_add, Nat.mul_one, bc_true, bc_false, and_true]
   exact IH h
  ·have e1 : ltI (i : Int) W = false := ltI_false.2 (by omega)
   simp only [e1, bc_false, and_true]
theorem m4SR_run (a : Int) (et c W : Nat) (w : Own) (vs : List LV) (N q e2 : Nat) (w2 : Own) (es : List LV) (k : Int) (i : Nat) (x y : List LV) : K.RunL (envL []) K.openE 30 9 85 (inner (inner (blkOf 9 4))) m4SEB [(0, .int .u16 a), (1, .slice 0 0 W (.known c)), (2, .slice 1 0 N (.known q)), (7, .slice 2 0 W (.known W)), (10, .int .i64 k), (11, .slice 3 0 W (.known W)), (12, .int .i64 i)] [.flat [.i .u8] et w vs, .flat [.i .u16] e2 w2 es, .flat [.bo] 4 .exact x, .flat [.bo] 4 .exact y] Hint.auto ⟨.exit 4, [(0, .int .u16 a), (1, .slice 0 0 W (.known c)), (2, .slice 1 0 N (.known q)), (7, .slice 2 0 W (.known W)), (10, .int .i64 k)], [], []⟩ =
  (bc (ltI ↑i ↑W) (bc (ltI ↑i ↑W) (bc (Nat.ble (0 + Int.toNat ↑i * 1 + 1) (lenL y)) (bc (boolOf (K.atV y (0 + Int.toNat ↑i * 1))) (bc (ltI ↑i ↑W) (bc (Nat.ble (0 + Int.toNat ↑i * 1 + 1) (lenL x)) (bc (notB (boolOf (K.atV x (0 + Int.toNat ↑i * 1)))) False (K.LOk Tryd.prog 9 85 (inner (inner (blkOf 9 4))) [0, 1, 2, 7, 10, 11, 12] [LV.int IntKind.u16 a, LV.slice 0 0 W (Cap.known c), LV.slice 1 0 N (Cap.known q), LV.slice 2 0 W (Cap.known W), LV.int IntKind.i64 k, LV.slice 3 0 W (Cap.known W), LV.int IntKind.i64 (wrapK IntKind.i64 (↑i + 1))] [LObj.flat [CK.i IntKind.u8] et w vs, LObj.flat [CK.i IntKind.u16] e2 w2 es, LObj.flat [CK.bo] 4 Own.exact x, LObj.flat [CK.bo] 4 Own.exact y] { x := LX.exit 4, L := [(0, LV.int IntKind.u16 a), (1, LV.slice 0 0 W (Cap.known c)), (2, LV.slice 1 0 N (Cap.known q)), (7, LV.slice 2 0 W (Cap.known W)), (10, LV.int IntKind.i64 k)], ch := [], new := [] } ∧ (a = a ∧ ((0 : Nat) = (0 : Nat) ∧ (W = W ∧ (Cap.known c = Cap.known c ∧ ((0 : Nat) = (0 : Nat) ∧ (N = N ∧ (Cap.known q = Cap.known q ∧ ((0 : Nat) = (0 : Nat) ∧ (W = W ∧ (Cap.known W = Cap.known W ∧ (k = k ∧ True))))))))))))) False) False) (K.LOk Tryd.prog 9 85 (inner (inner (blkOf 9 4))) [0, 1, 2, 7, 10, 11, 12] [LV.int IntKind.u16 a, LV.slice 0 0 W (Cap.known c), LV.slice 1 0 N (Cap.known q), LV.slice 2 0 W (Cap.known W), LV.int IntKind.i64 k, LV.slice 3 0 W (Cap.known W), LV.int IntKind.i64 (wrapK IntKind.i64 (↑i + 1))] [LObj.flat [CK.i IntKind.u8] et w vs, LObj.flat [CK.i IntKind.u16] e2 w2 es, LObj.flat [CK.bo] 4 Own.exact x, LObj.flat [CK.bo] 4 Own.exact y] { x := LX.exit 4, L := [(0, LV.int IntKind.u16 a), (1, LV.slice 0 0 W (Cap.known c)), (2, LV.slice 1 0 N (Cap.known q)), (7, LV.slice 2 0 W (Cap.known W)), (10, LV.int IntKind.i64 k)], ch := [], new := [] } ∧ (a = a ∧ ((0 : Nat) = (0 : Nat) ∧ (W = W ∧ (Cap.known c = Cap.known c ∧ ((0 : Nat) = (0 : Nat) ∧ (N = N ∧ (Cap.known q = Cap.known q ∧ ((0 : Nat) = (0 : Nat) ∧ (W = W ∧ (Cap.known W = Cap.known W ∧ (k = k ∧ True))))))))))))) False) False) (a = a ∧ ((0 : Nat) = (0 : Nat) ∧ (W = W ∧ (Cap.known c = Cap.known c ∧ ((0 : Nat) = (0 : Nat) ∧ (N = N ∧ (Cap.known q = Cap.known q ∧ ((0 : Nat) = (0 : Nat) ∧ (W = W ∧ (Cap.known W = Cap.known W ∧ (k = k ∧ True)))))))))))) := by kernel_rfl
theorem m4SR_con (a : Int) (et c W : Nat) (w : Own) (vs : List LV) (N q e2 : Nat) (w2 : Own) (es : List LV) (k : Int) (i : Nat) (x y : List LV) (hy : S.leB y x W) (hx : lenL x = W) (hl : lenL y = W) (hi : i ≤ W) (hW : W ≤ 1000) (IH : i < W → m4S_T a et c W w vs N q e2 w2 es k (i + 1) x y) : GT Tryd.prog (fun k => .code (inner (inner (blkOf 9 4))) :: .inLoop (inner (inner (blkOf 9 4))) :: k) (Fr.ofL 9 85 [(0, .int .u16 a), (1, .slice 0 0 W (.known c)), (2, .slice 1 0 N (.known q)), (7, .slice 2 0 W (.known W)), (10, .int .i64 k), (11, .slice 3 0 W (.known W)), (12, .int .i64 i)] [] none) (Heap.of [.flat [.i .u8] et w vs, .flat [.i .u16] e2 w2 es, .flat [.bo] 4 .exact x, .flat [.bo] 4 .exact y]) (⟨.exit 4, [(0, .int .u16 a), (1, .slice 0 0 W (.known c)), (2, .slice 1 0 N (.known q)), (7, .slice 2 0 W (.known W)), (10, .int .i64 k)], [], []⟩ : K.BRes).x (Fr.ofL 9 85 (⟨.exit 4, [(0, .int .u16 a), (1, .slice 0 0 W (.known c)), (2, .slice 1 0 N (.known q)), (7, .slice 2 0 W (.known W)), (10, .int .i64 k)], [], []⟩ : K.BRes).L [] none) (Heap.of (K.chg [.flat [.i .u8] et w vs, .flat [.i .u16] e2 w2 es, .flat [.bo] 4 .exact x, .flat [.bo] 4 .exact y] (⟨.exit 4, [(0, .int .u16 a), (1, .slice 0 0 W (.known c)), (2, .slice 1 0 N (.known q)), (7, .slice 2 0 W (.known W)), (10, .int .i64 k)], [], []⟩ : K.BRes).ch ++ (⟨.exit 4, [(0, .int .u16 a), (1, .slice 0 0 W (.known c)), (2, .slice 1 0 N (.known q)), (7, .slice 2 0 W (.known W)), (10, .int .i64 k)], [], []⟩ : K.BRes).new)) := by
 refine K.loop_of_run good (A := envL []) (envL_ok ?_) K.openE_ok (k := 30) (ent := m4SEB) (cast (m4SR_run a et c W w vs N q e2 w2 es k i x y).symm ?_)
 ·intro p hp; cases hp
 ·have T : ∀ z : Nat, Int.toNat (z : Int) = z := Int.toNat_natCast
  have w1 : wrapK .i64 ((i : Int) + 1) = ((i + 1 : Nat) : Int) := by rw [wrapK_i64]; omega
  by_cases h : i < W
  ·have e1 : ltI (i : Int) W = true := ltI_true.2 (by omega)
   have b1 : Nat.ble (i + 1) W = true := S.bleN.2 (by omega)
   have IH := IH h
   have hle := hy i h
   cases hb : boolOf (K.atV y i) with
   | false =>
    simp only [e1, b1, w1, T, hb, hx, hl, Nat.zero_add, Nat.mul_one, bc_true, bc_false, and_true]
    exact IH
   | true =>
    have ha := hle hb
    simp only [e1, b1, w1, T, hb, ha, hx, hl, notB_t, Nat.zero_add, Nat.mul_one, bc_true, bc_false, and_true]
    exact IH
  ·have e1 : ltI (i : Int) W = false := ltI_false.2 (by omega)
   simp only [e1, bc_false, and_true]
theorem m0N_blk (a : Int) (et c W : Nat) (w : Own) (vs : List LV) (x y : List LV) (hy : y = S.zr W) (hW : W ≤ 1000) : K.BOk Tryd.prog 9 85 (blkOf 9 0) [0, 1, 2, 7, 8, 9] [.int .u16 a, .slice 0 0 W (.known c), .nils, .slice 1 0 W (.known W), .slice 2 0 W (.known W), .int .i64 0] [.flat [.i .u8] et w vs, .flat [.bo] 4 .exact x, .flat [.bo] 4 .exact y] ⟨.normal, [(0, .int .u16 a), (1, .slice 0 0 W (.known c)), (2, .nils), (7, .slice 1 0 W (.known W))], [], []⟩ := by
 have hb2 : blkOf 9 0 = .block 0 (.loop (inner (inner (blkOf 9 0)))) := by kernel_rfl
 have h : ∀ (j i : Nat), i ≤ W → W - i = j → m0N_T a et c W w vs i x y := by
  intro j
  induction j with
  | zero => intro i hi hm; exact m0NR_con a et c W w vs i x y hy hi hW fun h => by omega
  | succ j ih => intro i hi hm; exact m0NR_con a et c W w vs i x y hy hi hW fun h => ih (i + 1) (by omega) (by omega)
 unfold K.BOk
 rw [hb2]
 exact K.CT.block (K.GT.loop (h _ 0 (Nat.zero_le _) rfl))
theorem m4N_blk (a : Int) (et c W : Nat) (w : Own) (vs : List LV) (k : Int) (x y : List LV) (hy : S.leB y x W) (hx : lenL x = W) (hl : lenL y = W) (hW : W ≤ 1000) : K.BOk Tryd.prog 9 85 (blkOf 9 4) [0, 1, 2, 7, 10, 11, 12] [.int .u16 a, .slice 0 0 W (.known c), .nils, .slice 1 0 W (.known W), .int .i64 k, .slice 2 0 W (.known W), .int .i64 0] [.flat [.i .u8] et w vs, .flat [.bo] 4 .exact x, .flat [.bo] 4 .exact y] ⟨.normal, [(0, .int .u16 a), (1, .slice 0 0 W (.known c)), (2, .nils), (7, .slice 1 0 W (.known W)), (10, .int .i64 k)], [], []⟩ := by
 have hb2 : blkOf 9 4 = .block 4 (.loop (inner (inner (blkOf 9 4)))) := by kernel_rfl
 have h : ∀ (j i : Nat), i ≤ W → W - i = j → m4N_T a et c W w vs k i x y := by
  intro j
  induction j with
  | zero => intro i hi hm; exact m4NR_con a et c W w vs k i x y hy hx hl hi hW fun h => by omega
  | succ j ih => intro i hi hm; exact m4NR_con a et c W w vs k i x y hy hx hl hi hW fun h => ih (i + 1) (by omega) (by omega)
 unfold K.BOk
 rw [hb2]
 exact K.CT.block (K.GT.loop (h _ 0 (Nat.zero_le _) rfl))
theorem m0E_blk (a : Int) (et c W : Nat) (w : Own) (vs : List LV) (x y : List LV) (hy : y = S.zr W) (hW : W ≤ 1000) : K.BOk Tryd.prog 9 85 (blkOf 9 0) [0, 1, 2, 7, 8, 9] [.int .u16 a, .slice 0 0 W (.known c), .emp 1, .slice 2 0 W (.known W), .slice 3 0 W (.known W), .int .i64 0] [.flat [.i .u8] et w vs, .empty, .flat [.bo] 4 .exact x, .flat [.bo] 4 .exact y] ⟨.normal, [(0, .int .u16 a), (1, .slice 0 0 W (.known c)), (2, .emp 1), (7, .slice 2 0 W (.known W))], [], []⟩ := by
 have hb2 : blkOf 9 0 = .block 0 (.loop (inner (inner (blkOf 9 0)))) := by kernel_rfl
 have h : ∀ (j i : Nat), i ≤ W → W - i = j → m0E_T a et c W w vs i x y := by
  intro j
  induction j with
  | zero => intro i hi hm; exact m0ER_con a et c W w vs i x y hy hi hW fun h => by omega
  | succ j ih => intro i hi hm; exact m0ER_con a et c W w vs i x y hy hi hW fun h => ih (i + 1) (by omega) (by omega)
 unfold K.BOk
 rw [hb2]
 exact K.CT.block (K.GT.loop (h _ 0 (Nat.zero_le _) rfl))
theorem m4E_blk (a : Int) (et c W : Nat) (w : Own) (vs : List LV) (k : Int) (x y : List LV) (hy : S.leB y x W) (hx : lenL x = W) (hl : lenL y = W) (hW : W ≤ 1000) : K.BOk Tryd.prog 9 85 (blkOf 9 4) [0, 1, 2, 7, 10, 11, 12] [.int .u16 a, .slice 0 0 W (.known c), .emp 1, .slice 2 0 W (.known W), .int .i64 k, .slice 3 0 W (.known W), .int .i64 0] [.flat [.i .u8] et w vs, .empty, .flat [.bo] 4 .exact x, .flat [.bo] 4 .exact y] ⟨.normal, [(0, .int .u16 a), (1, .slice 0 0 W (.known c)), (2, .emp 1), (7, .slice 2 0 W (.known W)), (10, .int .i64 k)], [], []⟩ := by
 have hb2 : blkOf 9 4 = .block 4 (.loop (inner (inner (blkOf 9 4)))) := by kernel_rfl
 have h : ∀ (j i : Nat), i ≤ W → W - i = j → m4E_T a et c W w vs k i x y := by
  intro j
  induction j with
  | zero => intro i hi hm; exact m4ER_con a et c W w vs k i x y hy hx hl hi hW fun h => by omega
  | succ j ih => intro i hi hm; exact m4ER_con a et c W w vs k i x y hy hx hl hi hW fun h => ih (i + 1) (by omega) (by omega)
 unfold K.BOk
 rw [hb2]
 exact K.CT.block (K.GT.loop (h _ 0 (Nat.zero_le _) rfl))
theorem m0S_blk (a : Int) (et c W : Nat) (w : Own) (vs : List LV) (N q e2 : Nat) (w2 : Own) (es : List LV) (x y : List LV) (hy : y = S.zr W) (hW : W ≤ 1000) : K.BOk Tryd.prog 9 85 (blkOf 9 0) [0, 1, 2, 7, 8, 9] [.int .u16 a, .slice 0 0 W (.known c), .slice 1 0 N (.known q), .slice 2 0 W (.known W), .slice 3 0 W (.known W), .int .i64 0] [.flat [.i .u8] et w vs, .flat [.i .u16] e2 w2 es, .flat [.bo] 4 .exact x, .flat [.bo] 4 .exact y] ⟨.normal, [(0, .int .u16 a), (1, .slice 0 0 W (.known c)), (2, .slice 1 0 N (.known q)), (7, .slice 2 0 W (.known W))], [], []⟩ := by
 have hb2 : blkOf 9 0 = .block 0 (.loop (inner (inner (blkOf 9 0)))) := by kernel_rfl
 have h : ∀ (j i : Nat), i ≤ W → W - i = j → m0S_T a et c W w vs N q e2 w2 es i x y := by
  intro j
  induction j with
  | zero => intro i hi hm; exact m0SR_con a et c W w vs N q e2 w2 es i x y hy hi hW fun h => by omega
  | succ j ih => intro i hi hm; exact m0SR_con a et c W w vs N q e2 w2 es i x y hy hi hW fun h => ih (i + 1) (by omega) (by omega)
 unfold K.BOk
 rw [hb2]
 exact K.CT.block (K.GT.loop (h _ 0 (Nat.zero_le _) rfl))
theorem m4S_blk (a : Int) (et c W : Nat) (w : Own) (vs : List LV) (N q e2 : Nat) (w2 : Own) (es : List LV) (k : Int) (x y : List LV) (hy : S.leB y x W) (hx : lenL x = W) (hl : lenL y = W) (hW : W ≤ 1000) : K.BOk Tryd.prog 9 85 (blkOf 9 4) [0, 1, 2, 7, 10, 11, 12] [.int .u16 a, .slice 0 0 W (.known c), .slice 1 0 N (.known q), .slice 2 0 W (.known W), .int .i64 k, .slice 3 0 W (.known W), .int .i64 0] [.flat [.i .u8] et w vs, .flat [.i .u16] e2 w2 es, .flat [.bo] 4 .exact x, .flat [.bo] 4 .exact y] ⟨.normal, [(0, .int .u16 a), (1, .slice 0 0 W (.known c)), (2, .slice 1 0 N (.known q)), (7, .slice 2 0 W (.known W)), (10, .int .i64 k)], [], []⟩ := by
 have hb2 : blkOf 9 4 = .block 4 (.loop (inner (inner (blkOf 9 4)))) := by kernel_rfl
 have h : ∀ (j i : Nat), i ≤ W → W - i = j → m4S_T a et c W w vs N q e2 w2 es k i x y := by
  intro j
  induction j with
  | zero => intro i hi hm; exact m4SR_con a et c W w vs N q e2 w2 es k i x y hy hx hl hi hW fun h => by omega
  | succ j ih => intro i hi hm; exact m4SR_con a et c W w vs N q e2 w2 es k i x y hy hx hl hi hW fun h => ih (i + 1) (by omega) (by omega)
 unfold K.BOk
 rw [hb2]
 exact K.CT.block (K.GT.loop (h _ 0 (Nat.zero_le _) rfl))
theorem m2SR_run (m : Int) (a : Int) (et c W : Nat) (w : Own) (vs : List LV) (N q e2 : Nat) (w2 : Own) (es : List LV) (k : Nat) (x : List LV) : K.RunL (envB [(22, fmE)] (fun g id => bc (Nat.beq g 9) (bc (Nat.beq id 4) (some m4SBB) (none)) (none))) K.openE 30 9 85 (inner (inner (blkOf 9 2))) m2SEB [(0, .int .u16 a), (1, .slice 0 0 W (.known c)), (2, .slice 1 0 N (.known q)), (7, .slice 2 0 W (.known W)), (10, .int .i64 k)] [.flat [.i .u8] et w vs, .flat [.i .u16] e2 w2 es, .flat [.bo] 4 .exact x, .glob 0 S.tabV, .glob 1 [.int .i64 m]] Hint.auto ⟨.exit 2, [], [], []⟩ =
  (bc (notB (ltI ↑N ↑k)) (bc (Nat.ble (Int.toNat ↑k) N) (bc (Nat.ble (Int.toNat ↑k) q) (bc (S.an (S.okG 0 S.tabV 1) (S.an (S.okF vs W a) (S.okM es (Int.toNat ↑k - 0)))) (bc (notB (eqI ↑W ↑W)) False (K.BOk Tryd.prog 9 85 (blkOf 9 4) [0, 1, 2, 7, 10, 11, 12] [LV.int IntKind.u16 a, LV.slice 0 0 W (Cap.known c), LV.slice 1 0 N (Cap.known q), LV.slice 2 0 W (Cap.known W), LV.int IntKind.i64 ↑k, LV.slice 3 0 W (Cap.known W), LV.int IntKind.i64 0] [LObj.flat [CK.i IntKind.u8] et w vs, LObj.flat [CK.i IntKind.u16] e2 w2 es, LObj.flat [CK.bo] 4 Own.exact x, LObj.flat [CK.bo] 4 Own.exact (S.flw vs W a es (Int.toNat ↑k - 0))] { x := LX.normal, L := [(0, LV.int IntKind.u16 a), (1, LV.slice 0 0 W (Cap.known c)), (2, LV.slice 1 0 N (Cap.known q)), (7, LV.slice 2 0 W (Cap.known W)), (10, LV.int IntKind.i64 ↑k)], ch := [], new := [] } ∧ (K.LOk Tryd.prog 9 85 (inner (inner (blkOf 9 2))) [0, 1, 2, 7, 10] [LV.int IntKind.u16 a, LV.slice 0 0 W (Cap.known c), LV.slice 1 0 N (Cap.known q), LV.slice 2 0 W (Cap.known W), LV.int IntKind.i64 (wrapK IntKind.i64 (↑k + 1))] [LObj.flat [CK.i IntKind.u8] et w vs, LObj.flat [CK.i IntKind.u16] e2 w2 es, LObj.flat [CK.bo] 4 Own.exact x, LObj.glob 0 S.tabV, LObj.glob 1 [LV.int IntKind.i64 m]] { x := LX.exit 2, L := [], ch := [], new := [] } ∧ True))) False) False) False) True) := by kernel_rfl
theorem m2SR_con (m : Int) (a : Int) (et c W : Nat) (w : Own) (vs : List LV) (N q e2 : Nat) (w2 : Own) (es : List LV) (k : Nat) (x : List LV) (hx : x = S.flw vs W a es N) (hF : S.okF vs W a = true) (hN : N ≤ 10) (hE : N ≤ lenL es) (hq : N ≤ q) (hk : k ≤ N + 1) (IH : k ≤ N → m2S_T m a et c W w vs N q e2 w2 es (k + 1) x) : GT Tryd.prog (fun k => .code (inner (inner (blkOf 9 2))) :: .inLoop (inner (inner (blkOf 9 2))) :: k) (Fr.ofL 9 85 [(0, .int .u16 a), (1, .slice 0 0 W (.known c)), (2, .slice 1 0 N (.known q)), (7, .slice 2 0 W (.known W)), (10, .int .i64 k)] [] none) (Heap.of [.flat [.i .u8] et w vs, .flat [.i .u16] e2 w2 es, .flat [.bo] 4 .exact x, .glob 0 S.tabV, .glob 1 [.int .i64 m]]) (⟨.exit 2, [], [], []⟩ : K.BRes).x (Fr.ofL 9 85 (⟨.exit 2, [], [], []⟩ : K.BRes).L [] none) (Heap.of (K.chg [.flat [.i .u8] et w vs, .flat [.i .u16] e2 w2 es, .flat [.bo] 4 .exact x, .glob 0 S.tabV, .glob 1 [.int .i64 m]] (⟨.exit 2, [], [], []⟩ : K.BRes).ch ++ (⟨.exit 2, [], [], []⟩ : K.BRes).new)) := by
 refine K.loop_of_run good (A := envB [(22, fmE)] (fun g id => bc (Nat.beq g 9) (bc (Nat.beq id 4) (some m4SBB) (none)) (none))) (envB_ok ?_) K.openE_ok (k := 30) (ent := m2SEB) (cast (m2SR_run m a et c W w vs N q e2 w2 es k x).symm ?_)
 ·intro p hp; simp only [List.mem_cons, List.not_mem_nil, or_false] at hp; rcases hp with rfl <;> first | exact fm_ok
 ·have T : ∀ z : Nat, Int.toNat (z : Int) = z := Int.toNat_natCast
  have hG := S.okG_0
  have at2 : S.an true true = true := rfl
  have hl : lenL x = W := by rw [hx]; exact S.row_len _ W
  have hW := (S.okF_iff.1 hF).2.1
  by_cases h : k ≤ N
  ·have w1 : wrapK .i64 ((k : Int) + 1) = ((k + 1 : Nat) : Int) := by rw [wrapK_i64]; omega
   have e1 : ltI (N : Int) k = false := ltI_false.2 (by omega)
   have b1 : Nat.ble k N = true := S.bleN.2 h
   have b2 : Nat.ble k q = true := S.bleN.2 (by omega)
   have oM : S.okM es k = true := S.okM_iff.2 ⟨by omega, by omega⟩
   have IH := IH h
   have e2 := S.eqI_sm (W : Int)
   simp only [e1, e2, b1, b2, w1, T, hG, at2, hF, oM, Nat.sub_zero, notB_t, notB_f, bc_true, bc_false, and_true]
   exact ⟨m4S_blk a et c W w vs N q _ w2 es k x _ (fun p hp hb => by rw [hx]; exact S.flw_le h hp hb) hl (S.row_len _ W) (by omega), IH⟩
  ·have e1 : ltI (N : Int) k = true := ltI_true.2 (by omega)
   simp only [e1, notB_t, bc_false]
theorem m2NR_run (a : Int) (k : Nat) (N q e2 : Nat) (w2 : Own) (es : List LV) : K.RunL (envL [(22, fwNSE)]) K.openE 30 9 85 (inner (inner (blkOf 9 2))) m2NEB [(0, .int .u16 a), (1, .nils), (2, .slice 0 0 N (.known q)), (10, .int .i64 k)] [.flat [.i .u16] e2 w2 es] Hint.auto ⟨.exit 2, [], [], []⟩ =
  (bc (notB (ltI ↑N ↑k)) (bc (Nat.ble (Int.toNat ↑k) N) (bc (Nat.ble (Int.toNat ↑k) q) (bc (S.okN es (Int.toNat ↑k - 0)) (K.LOk Tryd.prog 9 85 (inner (inner (blkOf 9 2))) [0, 1, 2, 10] [LV.int IntKind.u16 a, LV.nils, LV.slice 0 0 N (Cap.known q), LV.int IntKind.i64 (wrapK IntKind.i64 (↑k + 1))] [LObj.flat [CK.i IntKind.u16] e2 w2 es] { x := LX.exit 2, L := [], ch := [], new := [] } ∧ True) False) False) False) True) := by kernel_rfl
theorem m2NR_con (a : Int) (k : Nat) (N q e2 : Nat) (w2 : Own) (es : List LV) (hN : N ≤ 10) (hE : N ≤ lenL es) (hq : N ≤ q) (hk0 : 0 < k) (hk : k ≤ N + 1) (IH : k ≤ N → m2N_T a (k + 1) N q e2 w2 es) : GT Tryd.prog (fun k => .code (inner (inner (blkOf 9 2))) :: .inLoop (inner (inner (blkOf 9 2))) :: k) (Fr.ofL 9 85 [(0, .int .u16 a), (1, .nils), (2, .slice 0 0 N (.known q)), (10, .int .i64 k)] [] none) (Heap.of [.flat [.i .u16] e2 w2 es]) (⟨.exit 2, [], [], []⟩ : K.BRes).x (Fr.ofL 9 85 (⟨.exit 2, [], [], []⟩ : K.BRes).L [] none) (Heap.of (K.chg [.flat [.i .u16] e2 w2 es] (⟨.exit 2, [], [], []⟩ : K.BRes).ch ++ (⟨.exit 2, [], [], []⟩ : K.BRes).new)) := by
 refine K.loop_of_run good (A := envL [(22, fwNSE)]) (envL_ok ?_) K.openE_ok (k := 30) (ent := m2NEB) (cast (m2NR_run a k N q e2 w2 es).symm ?_)
 ·intro p hp; simp only [List.mem_cons, List.not_mem_nil, or_false] at hp; rcases hp with rfl <;> first | exact fwNS_ok
 ·have T : ∀ z : Nat, Int.toNat (z : Int) = z := Int.toNat_natCast
  by_cases h : k ≤ N
  ·have w1 : wrapK .i64 ((k : Int) + 1) = ((k + 1 : Nat) : Int) := by rw [wrapK_i64]; omega
   have e1 : ltI (N : Int) k = false := ltI_false.2 (by omega)
   have b1 : Nat.ble k N = true := S.bleN.2 h
   have b2 : Nat.ble k q = true := S.bleN.2 (by omega)
   have oN : S.okN es k = true := S.okN_iff.2 ⟨by omega, hk0, by omega⟩
   have IH := IH h
   simp only [e1, b1, b2, w1, T, oN, Nat.sub_zero, notB_f, bc_true, and_true]
   exact IH
  ·have e1 : ltI (N : Int) k = true := ltI_true.2 (by omega)
   simp only [e1, notB_t, bc_false]
theorem m2N0_run (a : Int) (N q e2 : Nat) (w2 : Own) (es : List LV) : K.RunL (envL []) K.openE 30 9 85 (inner (inner (blkOf 9 2))) m2NEB [(0, .int .u16 a), (1, .nils), (2, .slice 0 0 N (.known q)), (10, .int .i64 0)] [.flat [.i .u16] e2 w2 es] Hint.auto ⟨.exit 2, [], [], []⟩ =
  ((K.LOk Tryd.prog 9 85 (inner (inner (blkOf 9 2))) [0, 1, 2, 10] [LV.int IntKind.u16 a, LV.nils, LV.slice 0 0 N (Cap.known q), LV.int IntKind.i64 (wrapK IntKind.i64 (0 + 1))] [LObj.flat [CK.i IntKind.u16] e2 w2 es] { x := LX.exit 2, L := [], ch := [], new := [] } ∧ True)) := by kernel_rfl
theorem m2N0_con (a : Int) (N q e2 : Nat) (w2 : Own) (es : List LV) (hN : N ≤ 10) (IH : m2N_T a 1 N q e2 w2 es) : GT Tryd.prog (fun k => .code (inner (inner (blkOf 9 2))) :: .inLoop (inner (inner (blkOf 9 2))) :: k) (Fr.ofL 9 85 [(0, .int .u16 a), (1, .nils), (2, .slice 0 0 N (.known q)), (10, .int .i64 0)] [] none) (Heap.of [.flat [.i .u16] e2 w2 es]) (⟨.exit 2, [], [], []⟩ : K.BRes).x (Fr.ofL 9 85 (⟨.exit 2, [], [], []⟩ : K.BRes).L [] none) (Heap.of (K.chg [.flat [.i .u16] e2 w2 es] (⟨.exit 2, [], [], []⟩ : K.BRes).ch ++ (⟨.exit 2, [], [], []⟩ : K.BRes).new)) := by
 refine K.loop_of_run good (A := envL []) (envL_ok ?_) K.openE_ok (k := 30) (ent := m2NEB) (cast (m2N0_run a N q e2 w2 es).symm ?_)
 ·intro p hp; cases hp
 ·have w1 : wrapK .i64 ((0 : Int) + 1) = ((1 : Nat) : Int) := by rw [wrapK_i64]; rfl
  rw [w1]
  exact ⟨IH, trivial⟩
theorem m2ER_run (a : Int) (k : Nat) (N q e2 : Nat) (w2 : Own) (es : List LV) : K.RunL (envL [(22, fwESE)]) K.openE 30 9 85 (inner (inner (blkOf 9 2))) m2EEB [(0, .int .u16 a), (1, .emp 0), (2, .slice 1 0 N (.known q)), (10, .int .i64 k)] [.empty, .flat [.i .u16] e2 w2 es] Hint.auto ⟨.exit 2, [], [], []⟩ =
  (bc (notB (ltI ↑N ↑k)) (bc (Nat.ble (Int.toNat ↑k) N) (bc (Nat.ble (Int.toNat ↑k) q) (bc (S.okN es (Int.toNat ↑k - 0)) (K.LOk Tryd.prog 9 85 (inner (inner (blkOf 9 2))) [0, 1, 2, 10] [LV.int IntKind.u16 a, LV.emp 0, LV.slice 1 0 N (Cap.known q), LV.int IntKind.i64 (wrapK IntKind.i64 (↑k + 1))] [LObj.empty, LObj.flat [CK.i IntKind.u16] e2 w2 es] { x := LX.exit 2, L := [], ch := [], new := [] } ∧ True) False) False) False) True) := by kernel_rfl
theorem m2ER_con (a : Int) (k : Nat) (N q e2 : Nat) (w2 : Own) (es : List LV) (hN : N ≤ 10) (hE : N ≤ lenL es) (hq : N ≤ q) (hk0 : 0 < k) (hk : k ≤ N + 1) (IH : k ≤ N → m2E_T a (k + 1) N q e2 w2 es) : GT Tryd.prog (fun k => .code (inner (inner (blkOf 9 2))) :: .inLoop (inner (inner (blkOf 9 2))) :: k) (Fr.ofL 9 85 [(0, .int .u16 a), (1, .emp 0), (2, .slice 1 0 N (.known q)), (10, .int .i64 k)] [] none) (Heap.of [.empty, .flat [.i .u16] e2 w2 es]) (⟨.exit 2, [], [], []⟩ : K.BRes).x (Fr.ofL 9 85 (⟨.exit 2, [], [], []⟩ : K.BRes).L [] none) (Heap.of (K.chg [.empty, .flat [.i .u16] e2 w2 es] (⟨.exit 2, [], [], []⟩ : K.BRes).ch ++ (⟨.exit 2, [], [], []⟩ : K.BRes).new)) := by
 refine K.loop_of_run good (A := envL [(22, fwESE)]) (envL_ok ?_) K.openE_ok (k := 30) (ent := m2EEB) (cast (m2ER_run a k N q e2 w2 es).symm ?_)
 ·intro p hp; simp only [List.mem_cons, List.not_mem_nil, or_false] at hp; rcases hp with rfl <;> first | exact fwES_ok
 ·have T : ∀ z : Nat, Int.toNat (z : Int) = z := Int.toNat_natCast
  by_cases h : k ≤ N
  ·have w1 : wrapK .i64 ((k : Int) + 1) = ((k + 1 : Nat) : Int) := by rw [wrapK_i64]; omega
   have e1 : ltI (N : Int) k = false := ltI_false.2 (by omega)
   have b1 : Nat.ble k N = true := S.bleN.2 h
   have b2 : Nat.ble k q = true := S.bleN.2 (by omega)
   have oN : S.okN es k = true := S.okN_iff.2 ⟨by omega, hk0, by omega⟩
   have IH := IH h
   simp only [e1, b1, b2, w1, T, oN, Nat.sub_zero, notB_f, bc_true, and_true]
   exact IH
  ·have e1 : ltI (N : Int) k = true := ltI_true.2 (by omega)
   simp only [e1, notB_t, bc_false]
theorem m2E0_run (a : Int) (N q e2 : Nat) (w2 : Own) (es : List LV) : K.RunL (envL []) K.openE 30 9 85 (inner (inner (blkOf 9 2))) m2EEB [(0, .int .u16 a), (1, .emp 0), (2, .slice 1 0 N (.known q)), (10, .int .i64 0)] [.empty, .flat [.i .u16] e2 w2 es] Hint.auto ⟨.exit 2, [], [], []⟩ =
  ((K.LOk Tryd.prog 9 85 (inner (inner (blkOf 9 2))) [0, 1, 2, 10] [LV.int IntKind.u16 a, LV.emp 0, LV.slice 1 0 N (Cap.known q), LV.int IntKind.i64 (wrapK IntKind.i64 (0 + 1))] [LObj.empty, LObj.flat [CK.i IntKind.u16] e2 w2 es] { x := LX.exit 2, L := [], ch := [], new := [] } ∧ True)) := by kernel_rfl
theorem m2E0_con (a : Int) (N q e2 : Nat) (w2 : Own) (es : List LV) (hN : N ≤ 10) (IH : m2E_T a 1 N q e2 w2 es) : GT Tryd.prog (fun k => .code (inner (inner (blkOf 9 2))) :: .inLoop (inner (inner (blkOf 9 2))) :: k) (Fr.ofL 9 85 [(0, .int .u16 a), (1, .emp 0), (2, .slice 1 0 N (.known q)), (10, .int .i64 0)] [] none) (Heap.of [.empty, .flat [.i .u16] e2 w2 es]) (⟨.exit 2, [], [], []⟩ : K.BRes).x (Fr.ofL 9 85 (⟨.exit 2, [], [], []⟩ : K.BRes).L [] none) (Heap.of (K.chg [.empty, .flat [.i .u16] e2 w2 es] (⟨.exit 2, [], [], []⟩ : K.BRes).ch ++ (⟨.exit 2, [], [], []⟩ : K.BRes).new)) := by
 refine K.loop_of_run good (A := envL []) (envL_ok ?_) K.openE_ok (k := 30) (ent := m2EEB) (cast (m2E0_run a N q e2 w2 es).symm ?_)
 ·intro p hp; cases hp
 ·have w1 : wrapK .i64 ((0 : Int) + 1) = ((1 : Nat) : Int) := by rw [wrapK_i64]; rfl
  rw [w1]
  exact ⟨IH, trivial⟩
theorem m2S_blk (m : Int) (a : Int) (et c W : Nat) (w : Own) (vs : List LV) (N q e2 : Nat) (w2 : Own) (es : List LV) (x : List LV) (hx : x = S.flw vs W a es N) (hF : S.okF vs W a = true) (hN : N ≤ 10) (hE : N ≤ lenL es) (hq : N ≤ q) : K.BOk Tryd.prog 9 85 (blkOf 9 2) [0, 1, 2, 7, 10] [.int .u16 a, .slice 0 0 W (.known c), .slice 1 0 N (.known q), .slice 2 0 W (.known W), .int .i64 0] [.flat [.i .u8] et w vs, .flat [.i .u16] e2 w2 es, .flat [.bo] 4 .exact x, .glob 0 S.tabV, .glob 1 [.int .i64 m]] ⟨.normal, [], [], []⟩ := by
 have hb2 : blkOf 9 2 = .block 2 (.loop (inner (inner (blkOf 9 2)))) := by kernel_rfl
 have h : ∀ (j k : Nat), k ≤ N + 1 → N + 1 - k = j → m2S_T m a et c W w vs N q e2 w2 es k x := by
  intro j
  induction j with
  | zero => intro k hk hm; exact m2SR_con m a et c W w vs N q e2 w2 es k x hx hF hN hE hq hk fun h => by omega
  | succ j ih => intro k hk hm; exact m2SR_con m a et c W w vs N q e2 w2 es k x hx hF hN hE hq hk fun h => ih (k + 1) (by omega) (by omega)
 unfold K.BOk
 rw [hb2]
 exact K.CT.block (K.GT.loop (h _ 0 (Nat.zero_le _) rfl))
theorem m2N_blk (a : Int) (N q e2 : Nat) (w2 : Own) (es : List LV) (hN : N ≤ 10) (hE : N ≤ lenL es) (hq : N ≤ q) : K.BOk Tryd.prog 9 85 (blkOf 9 2) [0, 1, 2, 10] [.int .u16 a, .nils, .slice 0 0 N (.known q), .int .i64 0] [.flat [.i .u16] e2 w2 es] ⟨.normal, [], [], []⟩ := by
 have hb2 : blkOf 9 2 = .block 2 (.loop (inner (inner (blkOf 9 2)))) := by kernel_rfl
 have h : ∀ (j k : Nat), 0 < k → k ≤ N + 1 → N + 1 - k = j → m2N_T a k N q e2 w2 es := by
  intro j
  induction j with
  | zero => intro k h0 hk hm; exact m2NR_con a k N q e2 w2 es hN hE hq h0 hk fun h => by omega
  | succ j ih => intro k h0 hk hm; exact m2NR_con a k N q e2 w2 es hN hE hq h0 hk fun h => ih (k + 1) (by omega) (by omega) (by omega)
 unfold K.BOk
 rw [hb2]
 exact K.CT.block (K.GT.loop (m2N0_con a N q e2 w2 es hN (h _ 1 (by omega) (by omega) rfl)))
theorem m2E_blk (a : Int) (N q e2 : Nat) (w2 : Own) (es : List LV) (hN : N ≤ 10) (hE : N ≤ lenL es) (hq : N ≤ q) : K.BOk Tryd.prog 9 85 (blkOf 9 2) [0, 1, 2, 10] [.int .u16 a, .emp 0, .slice 1 0 N (.known q), .int .i64 0] [.empty, .flat [.i .u16] e2 w2 es] ⟨.normal, [], [], []⟩ := by
 have hb2 : blkOf 9 2 = .block 2 (.loop (inner (inner (blkOf 9 2)))) := by kernel_rfl
 have h : ∀ (j k : Nat), 0 < k → k ≤ N + 1 → N + 1 - k = j → m2E_T a k N q e2 w2 es := by
  intro j
  induction j with
  | zero => intro k h0 hk hm; exact m2ER_con a k N q e2 w2 es hN hE hq h0 hk fun h => by omega
  | succ j ih => intro k h0 hk hm; exact m2ER_con a k N q e2 w2 es hN hE hq h0 hk fun h => ih (k + 1) (by omega) (by omega) (by omega)
 unfold K.BOk
 rw [hb2]
 exact K.CT.block (K.GT.loop (m2E0_con a N q e2 w2 es hN (h _ 1 (by omega) (by omega) rfl)))
theorem tmNN_run (a m : Int) : K.bodyF (envL [(12, awk13E)]) (K.runF (envL [(12, awk13E)]) 30) 9 [.int .u16 a, .nils, .nils] (Heap.of [.glob 0 S.tabV, .glob 1 [.int .i64 m]]) Hint.auto (K.endC K.openE 2 ⟨.ret (.bool true), [], []⟩) =
  ((true = true ∧ True)) := by kernel_rfl
theorem tmNN_con (a m : Int) (h0 : 0 ≤ a ∧ a < 65536)   : HT Tryd.prog 9 [.int .u16 a, .nils, .nils] (Heap.of [.glob 0 S.tabV, .glob 1 [.int .i64 m]]) (⟨.ret (.bool true), [], []⟩ : K.CRes).e (Heap.of (K.chg [.glob 0 S.tabV, .glob 1 [.int .i64 m]] (⟨.ret (.bool true), [], []⟩ : K.CRes).ch ++ (⟨.ret (.bool true), [], []⟩ : K.CRes).new)) := by
 refine K.con_of_run good (A := envL [(12, awk13E)]) (envL_ok ?_) K.openE_ok (k := 30) (cast (tmNN_run a m).symm ?_)
 ·intro p hp; simp only [List.mem_cons, List.not_mem_nil, or_false] at hp; rcases hp with rfl <;> first | exact awk13_ok
 ·simp only [and_true]
theorem tmNE_run (a m : Int) : K.bodyF (envL [(12, awk13E)]) (K.runF (envL [(12, awk13E)]) 30) 9 [.int .u16 a, .nils, .emp 0] (Heap.of [.empty, .glob 0 S.tabV, .glob 1 [.int .i64 m]]) Hint.auto (K.endC K.openE 3 ⟨.ret (.bool true), [], []⟩) =
  ((true = true ∧ True)) := by kernel_rfl
theorem tmNE_con (a m : Int) (h0 : 0 ≤ a ∧ a < 65536)   : HT Tryd.prog 9 [.int .u16 a, .nils, .emp 0] (Heap.of [.empty, .glob 0 S.tabV, .glob 1 [.int .i64 m]]) (⟨.ret (.bool true), [], []⟩ : K.CRes).e (Heap.of (K.chg [.empty, .glob 0 S.tabV, .glob 1 [.int .i64 m]] (⟨.ret (.bool true), [], []⟩ : K.CRes).ch ++ (⟨.ret (.bool true), [], []⟩ : K.CRes).new)) := by
 refine K.con_of_run good (A := envL [(12, awk13E)]) (envL_ok ?_) K.openE_ok (k := 30) (cast (tmNE_run a m).symm ?_)
 ·intro p hp; simp only [List.mem_cons, List.not_mem_nil, or_false] at hp; rcases hp with rfl <;> first | exact awk13_ok
 ·simp only [and_true]
theorem tmNS_run (a m : Int) (N q e2 : Nat) (es : List LV) : K.bodyF (envB [(12, awk13E), (22, fwNSE)] (fun g id => bc (Nat.beq g 9) (bc (Nat.beq id 2) (some m2NBB) (none)) (none))) (K.runF (envB [(12, awk13E), (22, fwNSE)] (fun g id => bc (Nat.beq g 9) (bc (Nat.beq id 2) (some m2NBB) (none)) (none))) 30) 9 [.int .u16 a, .nils, .slice 0 0 N (.known q)] (Heap.of [.flat [.i .u16] e2 .ro es, .glob 0 S.tabV, .glob 1 [.int .i64 m]]) Hint.auto (K.endC K.openE 3 ⟨.ret (.bool true), [], []⟩) =
  (bc (ltI 10 ↑N) (true = true ∧ True) (bc (S.okN es N) (K.BOk Tryd.prog 9 85 (blkOf 9 2) [0, 1, 2, 10] [LV.int IntKind.u16 a, LV.nils, LV.slice 0 0 N (Cap.known q), LV.int IntKind.i64 0] [LObj.flat [CK.i IntKind.u16] e2 Own.ro es] { x := LX.normal, L := [], ch := [], new := [] } ∧ (true = true ∧ True)) False)) := by kernel_rfl
theorem tmNS_con (a m : Int) (N q e2 : Nat) (es : List LV) (h0 : 0 ≤ a ∧ a < 65536)  (k2 : lenL es = N) (k3 : 0 < N) (k4 : N ≤ q) : HT Tryd.prog 9 [.int .u16 a, .nils, .slice 0 0 N (.known q)] (Heap.of [.flat [.i .u16] e2 .ro es, .glob 0 S.tabV, .glob 1 [.int .i64 m]]) (⟨.ret (.bool true), [], []⟩ : K.CRes).e (Heap.of (K.chg [.flat [.i .u16] e2 .ro es, .glob 0 S.tabV, .glob 1 [.int .i64 m]] (⟨.ret (.bool true), [], []⟩ : K.CRes).ch ++ (⟨.ret (.bool true), [], []⟩ : K.CRes).new)) := by
 refine K.con_of_run good (A := envB [(12, awk13E), (22, fwNSE)] (fun g id => bc (Nat.beq g 9) (bc (Nat.beq id 2) (some m2NBB) (none)) (none))) (envB_ok ?_) K.openE_ok (k := 30) (cast (tmNS_run a m N q e2 es).symm ?_)
 ·intro p hp; simp only [List.mem_cons, List.not_mem_nil, or_false] at hp; rcases hp with rfl | rfl <;> first | exact awk13_ok | exact fwNS_ok
 ·have hG := S.okG_0
  have at2 : S.an true true = true := rfl
  refine bcI (fun _ => ⟨rfl, trivial⟩) (fun hN => ?_)
  have hN := ltI_false.1 hN
  have oN : S.okN es N = true := S.okN_iff.2 ⟨by omega, k3, by omega⟩
  have oM : S.okM es N = true := S.okM_iff.2 ⟨by omega, by omega⟩
  simp only [hG, at2, notB_f, notB_t, bc_true, bc_false, true_and, and_true, oN, oM]
  exact m2N_blk a N q _ .ro es (by omega) (by omega) k4
theorem tmEN_run (a m : Int) : K.bodyF (envL [(12, awk13E)]) (K.runF (envL [(12, awk13E)]) 30) 9 [.int .u16 a, .emp 0, .nils] (Heap.of [.empty, .glob 0 S.tabV, .glob 1 [.int .i64 m]]) Hint.auto (K.endC K.openE 3 ⟨.ret (.bool true), [], []⟩) =
  ((true = true ∧ True)) := by kernel_rfl
theorem tmEN_con (a m : Int) (h0 : 0 ≤ a ∧ a < 65536)   : HT Tryd.prog 9 [.int .u16 a, .emp 0, .nils] (Heap.of [.empty, .glob 0 S.tabV, .glob 1 [.int .i64 m]]) (⟨.ret (.bool true), [], []⟩ : K.CRes).e (Heap.of (K.chg [.empty, .glob 0 S.tabV, .glob 1 [.int .i64 m]] (⟨.ret (.bool true), [], []⟩ : K.CRes).ch ++ (⟨.ret (.bool true), [], []⟩ : K.CRes).new)) := by
 refine K.con_of_run good (A := envL [(12, awk13E)]) (envL_ok ?_) K.openE_ok (k := 30) (cast (tmEN_run a m).symm ?_)
 ·intro p hp; simp only [List.mem_cons, List.not_mem_nil, or_false] at hp; rcases hp with rfl <;> first | exact awk13_ok
 ·simp only [and_true]
theorem tmEE_run (a m : Int) : K.bodyF (envL [(12, awk13E)]) (K.runF (envL [(12, awk13E)]) 30) 9 [.int .u16 a, .emp 0, .emp 1] (Heap.of [.empty, .empty, .glob 0 S.tabV, .glob 1 [.int .i64 m]]) Hint.auto (K.endC K.openE 4 ⟨.ret (.bool true), [], []⟩) =
  ((true = true ∧ True)) := by kernel_rfl
theorem tmEE_con (a m : Int) (h0 : 0 ≤ a ∧ a < 65536)   : HT Tryd.prog 9 [.int .u16 a, .emp 0, .emp 1] (Heap.of [.empty, .empty, .glob 0 S.tabV, .glob 1 [.int .i64 m]]) (⟨.ret (.bool true), [], []⟩ : K.CRes).e (Heap.of (K.chg [.empty, .empty, .glob 0 S.tabV, .glob 1 [.int .i64 m]] (⟨.ret (.bool true), [], []⟩ : K.CRes).ch ++ (⟨.ret (.bool true), [], []⟩ : K.CRes).new)) := by
 refine K.con_of_run good (A := envL [(12, awk13E)]) (envL_ok ?_) K.openE_ok (k := 30) (cast (tmEE_run a m).symm ?_)
 ·intro p hp; simp only [List.mem_cons, List.not_mem_nil, or_false] at hp; rcases hp with rfl <;> first | exact awk13_ok
 ·simp only [and_true]
theorem tmES_run (a m : Int) (N q e2 : Nat) (es : List LV) : K.bodyF (envB [(12, awk13E), (22, fwESE)] (fun g id => bc (Nat.beq g 9) (bc (Nat.beq id 2) (some m2EBB) (none)) (none))) (K.runF (envB [(12, awk13E), (22, fwESE)] (fun g id => bc (Nat.beq g 9) (bc (Nat.beq id 2) (some m2EBB) (none)) (none))) 30) 9 [.int .u16 a, .emp 0, .slice 1 0 N (.known q)] (Heap.of [.empty, .flat [.i .u16] e2 .ro es, .glob 0 S.tabV, .glob 1 [.int .i64 m]]) Hint.auto (K.endC K.openE 4 ⟨.ret (.bool true), [], []⟩) =
  (bc (ltI 10 ↑N) (true = true ∧ True) (bc (S.okN es N) (K.BOk Tryd.prog 9 85 (blkOf 9 2) [0, 1, 2, 10] [LV.int IntKind.u16 a, LV.emp 0, LV.slice 1 0 N (Cap.known q), LV.int IntKind.i64 0] [LObj.empty, LObj.flat [CK.i IntKind.u16] e2 Own.ro es] { x := LX.normal, L := [], ch := [], new := [] } ∧ (true = true ∧ True)) False)) := by kernel_rfl
theorem tmES_con (a m : Int) (N q e2 : Nat) (es : List LV) (h0 : 0 ≤ a ∧ a < 65536)  (k2 : lenL es = N) (k3 : 0 < N) (k4 : N ≤ q) : HT Tryd.prog 9 [.int .u16 a, .emp 0, .slice 1 0 N (.known q)] (Heap.of [.empty, .flat [.i .u16] e2 .ro es, .glob 0 S.tabV, .glob 1 [.int .i64 m]]) (⟨.ret (.bool true), [], []⟩ : K.CRes).e (Heap.of (K.chg [.empty, .flat [.i .u16] e2 .ro es, .glob 0 S.tabV, .glob 1 [.int .i64 m]] (⟨.ret (.bool true), [], []⟩ : K.CRes).ch ++ (⟨.ret (.bool true), [], []⟩ : K.CRes).new)) := by
 refine K.con_of_run good (A := envB [(12, awk13E), (22, fwESE)] (fun g id => bc (Nat.beq g 9) (bc (Nat.beq id 2) (some m2EBB) (none)) (none))) (envB_ok ?_) K.openE_ok (k := 30) (cast (tmES_run a m N q e2 es).symm ?_)
 ·intro p hp; simp only [List.mem_cons, List.not_mem_nil, or_false] at hp; rcases hp with rfl | rfl <;> first | exact awk13_ok | exact fwES_ok
 ·have hG := S.okG_0
  have at2 : S.an true true = true := rfl
  refine bcI (fun _ => ⟨rfl, trivial⟩) (fun hN => ?_)
  have hN := ltI_false.1 hN
  have oN : S.okN es N = true := S.okN_iff.2 ⟨by omega, k3, by omega⟩
  have oM : S.okM es N = true := S.okM_iff.2 ⟨by omega, by omega⟩
  simp only [hG, at2, notB_f, notB_t, bc_true, bc_false, true_and, and_true, oN, oM]
  exact m2E_blk a N q _ .ro es (by omega) (by omega) k4
theorem tmSN_run (a m : Int) (L cap et : Nat) (vs : List LV) : K.bodyF (envB [(12, awk13E), (22, fmE)] (fun g id => bc (Nat.beq g 9) (bc (Nat.beq id 0) (some m0NBB) (bc (Nat.beq g 9) (bc (Nat.beq id 4) (some m4NBB) (none)) (none))) (bc (Nat.beq g 9) (bc (Nat.beq id 4) (some m4NBB) (none)) (none)))) (K.runF (envB [(12, awk13E), (22, fmE)] (fun g id => bc (Nat.beq g 9) (bc (Nat.beq id 0) (some m0NBB) (bc (Nat.beq g 9) (bc (Nat.beq id 4) (some m4NBB) (none)) (none))) (bc (Nat.beq g 9) (bc (Nat.beq id 4) (some m4NBB) (none)) (none)))) 30) 9 [.int .u16 a, .slice 0 0 L (.known cap), .nils] (Heap.of [.flat [.i .u8] et .ro vs, .glob 0 S.tabV, .glob 1 [.int .i64 m]]) (.skip 0 (.fork .auto (.skip 6 (.fork .auto (.skip 5 (.take false (.skip 4 (.take false .auto)))))))) (K.endC K.openE 3 ⟨.ret (.bool true), [], []⟩) =
  (bc (ltI 400 ↑L) (true = true ∧ True) (bc (S.okF vs L a) (bc (S.okF vs L a) (bc (notB (eqI ↑L ↑L)) (true = false ∧ True) (notB (eqI ↑L ↑L) = false ∧ (K.BOk Tryd.prog 9 85 (blkOf 9 0) [0, 1, 2, 7, 8, 9] [LV.int IntKind.u16 a, LV.slice 0 0 L (Cap.known cap), LV.nils, LV.slice 1 0 L (Cap.known L), LV.slice 2 0 L (Cap.known L), LV.int IntKind.i64 0] [LObj.flat [CK.i IntKind.u8] et Own.ro vs, LObj.flat [CK.bo] 4 Own.exact (S.zr L), LObj.flat [CK.bo] 4 Own.exact (S.zr L)] { x := LX.normal, L := [(0, LV.int IntKind.u16 a), (1, LV.slice 0 0 L (Cap.known cap)), (2, LV.nils), (7, LV.slice 1 0 L (Cap.known L))], ch := [], new := [] } ∧ bc (S.okF vs L a) (notB (eqI ↑L ↑L) = false ∧ (K.BOk Tryd.prog 9 85 (blkOf 9 4) [0, 1, 2, 7, 10, 11, 12] [LV.int IntKind.u16 a, LV.slice 0 0 L (Cap.known cap), LV.nils, LV.slice 1 0 L (Cap.known L), LV.int IntKind.i64 0, LV.slice 2 0 L (Cap.known L), LV.int IntKind.i64 0] [LObj.flat [CK.i IntKind.u8] et Own.ro vs, LObj.flat [CK.bo] 4 Own.exact (S.zr L), LObj.flat [CK.bo] 4 Own.exact (S.zr L)] { x := LX.normal, L := [(0, LV.int IntKind.u16 a), (1, LV.slice 0 0 L (Cap.known cap)), (2, LV.nils), (7, LV.slice 1 0 L (Cap.known L)), (10, LV.int IntKind.i64 0)], ch := [], new := [] } ∧ (true = true ∧ True))) False))) False) False)) := by kernel_rfl
theorem tmSN_con (a m : Int) (L cap et : Nat) (vs : List LV) (h0 : 0 ≤ a ∧ a < 65536) (h1 : S.okB vs = true) (h2 : lenL vs = L) (h3 : 0 < L)  : HT Tryd.prog 9 [.int .u16 a, .slice 0 0 L (.known cap), .nils] (Heap.of [.flat [.i .u8] et .ro vs, .glob 0 S.tabV, .glob 1 [.int .i64 m]]) (⟨.ret (.bool true), [], []⟩ : K.CRes).e (Heap.of (K.chg [.flat [.i .u8] et .ro vs, .glob 0 S.tabV, .glob 1 [.int .i64 m]] (⟨.ret (.bool true), [], []⟩ : K.CRes).ch ++ (⟨.ret (.bool true), [], []⟩ : K.CRes).new)) := by
 refine K.con_of_run good (A := envB [(12, awk13E), (22, fmE)] (fun g id => bc (Nat.beq g 9) (bc (Nat.beq id 0) (some m0NBB) (bc (Nat.beq g 9) (bc (Nat.beq id 4) (some m4NBB) (none)) (none))) (bc (Nat.beq g 9) (bc (Nat.beq id 4) (some m4NBB) (none)) (none)))) (envB_ok ?_) K.openE_ok (k := 30) (cast (tmSN_run a m L cap et vs).symm ?_)
 ·intro p hp; simp only [List.mem_cons, List.not_mem_nil, or_false] at hp; rcases hp with rfl | rfl <;> first | exact awk13_ok | exact fm_ok
 ·have hG := S.okG_0
  have at2 : S.an true true = true := rfl
  refine bcI (fun _ => ⟨rfl, trivial⟩) (fun hL => ?_)
  have hL := ltI_false.1 hL
  have oF : S.okF vs L a = true := S.okF_iff.2 ⟨⟨h1, h2⟩, by omega, h0⟩
  have eL := S.eqI_sm (L : Int)
  simp only [hG, at2, notB_f, notB_t, bc_true, bc_false, true_and, and_true, oF, eL]
  exact ⟨m0N_blk a et cap L .ro vs _ _ rfl (by omega), m4N_blk a et cap L .ro vs 0 _ _ (fun _ _ h => h) S.zr_len S.zr_len (by omega)⟩
theorem tmSE_run (a m : Int) (L cap et : Nat) (vs : List LV) : K.bodyF (envB [(12, awk13E), (22, fmE)] (fun g id => bc (Nat.beq g 9) (bc (Nat.beq id 0) (some m0EBB) (bc (Nat.beq g 9) (bc (Nat.beq id 4) (some m4EBB) (none)) (none))) (bc (Nat.beq g 9) (bc (Nat.beq id 4) (some m4EBB) (none)) (none)))) (K.runF (envB [(12, awk13E), (22, fmE)] (fun g id => bc (Nat.beq g 9) (bc (Nat.beq id 0) (some m0EBB) (bc (Nat.beq g 9) (bc (Nat.beq id 4) (some m4EBB) (none)) (none))) (bc (Nat.beq g 9) (bc (Nat.beq id 4) (some m4EBB) (none)) (none)))) 30) 9 [.int .u16 a, .slice 0 0 L (.known cap), .emp 1] (Heap.of [.flat [.i .u8] et .ro vs, .empty, .glob 0 S.tabV, .glob 1 [.int .i64 m]]) (.skip 0 (.fork .auto (.skip 6 (.fork .auto (.skip 5 (.take false (.skip 4 (.take false .auto)))))))) (K.endC K.openE 4 ⟨.ret (.bool true), [], []⟩) =
  (bc (ltI 400 ↑L) (true = true ∧ True) (bc (S.okF vs L a) (bc (S.okF vs L a) (bc (notB (eqI ↑L ↑L)) (true = false ∧ True) (notB (eqI ↑L ↑L) = false ∧ (K.BOk Tryd.prog 9 85 (blkOf 9 0) [0, 1, 2, 7, 8, 9] [LV.int IntKind.u16 a, LV.slice 0 0 L (Cap.known cap), LV.emp 1, LV.slice 2 0 L (Cap.known L), LV.slice 3 0 L (Cap.known L), LV.int IntKind.i64 0] [LObj.flat [CK.i IntKind.u8] et Own.ro vs, LObj.empty, LObj.flat [CK.bo] 4 Own.exact (S.zr L), LObj.flat [CK.bo] 4 Own.exact (S.zr L)] { x := LX.normal, L := [(0, LV.int IntKind.u16 a), (1, LV.slice 0 0 L (Cap.known cap)), (2, LV.emp 1), (7, LV.slice 2 0 L (Cap.known L))], ch := [], new := [] } ∧ bc (S.okF vs L a) (notB (eqI ↑L ↑L) = false ∧ (K.BOk Tryd.prog 9 85 (blkOf 9 4) [0, 1, 2, 7, 10, 11, 12] [LV.int IntKind.u16 a, LV.slice 0 0 L (Cap.known cap), LV.emp 1, LV.slice 2 0 L (Cap.known L), LV.int IntKind.i64 0, LV.slice 3 0 L (Cap.known L), LV.int IntKind.i64 0] [LObj.flat [CK.i IntKind.u8] et Own.ro vs, LObj.empty, LObj.flat [CK.bo] 4 Own.exact (S.zr L), LObj.flat [CK.bo] 4 Own.exact (S.zr L)] { x := LX.normal, L := [(0, LV.int IntKind.u16 a), (1, LV.slice 0 0 L (Cap.known cap)), (2, LV.emp 1), (7, LV.slice 2 0 L (Cap.known L)), (10, LV.int IntKind.i64 0)], ch := [], new := [] } ∧ (true = true ∧ True))) False))) False) False)) := by kernel_rfl
theorem tmSE_con (a m : Int) (L cap et : Nat) (vs : List LV) (h0 : 0 ≤ a ∧ a < 65536) (h1 : S.okB vs = true) (h2 : lenL vs = L) (h3 : 0 < L)  : HT Tryd.prog 9 [.int .u16 a, .slice 0 0 L (.known cap), .emp 1] (Heap.of [.flat [.i .u8] et .ro vs, .empty, .glob 0 S.tabV, .glob 1 [.int .i64 m]]) (⟨.ret (.bool true), [], []⟩ : K.CRes).e (Heap.of (K.chg [.flat [.i .u8] et .ro vs, .empty, .glob 0 S.tabV, .glob 1 [.int .i64 m]] (⟨.ret (.bool true), [], []⟩ : K.CRes).ch ++ (⟨.ret (.bool true), [], []⟩ : K.CRes).new)) := by
 refine K.con_of_run good (A := envB [(12, awk13E), (22, fmE)] (fun g id => bc (Nat.beq g 9) (bc (Nat.beq id 0) (some m0EBB) (bc (Nat.beq g 9) (bc (Nat.beq id 4) (some m4EBB) (none)) (none))) (bc (Nat.beq g 9) (bc (Nat.beq id 4) (some m4EBB) (none)) (none)))) (envB_ok ?_) K.openE_ok (k := 30) (cast (tmSE_run a m L cap et vs).symm ?_)
 ·intro p hp; simp only [List.mem_cons, List.not_mem_nil, or_false] at hp; rcases hp with rfl | rfl <;> first | exact awk13_ok | exact fm_ok
 ·have hG := S.okG_0
  have at2 : S.an true true = true := rfl
  refine bcI (fun _ => ⟨rfl, trivial⟩) (fun hL => ?_)
  have hL := ltI_false.1 hL
  have oF : S.okF vs L a = true := S.okF_iff.2 ⟨⟨h1, h2⟩, by omega, h0⟩
  have eL := S.eqI_sm (L : Int)
  simp only [hG, at2, notB_f, notB_t, bc_true, bc_false, true_and, and_true, oF, eL]
  exact ⟨m0E_blk a et cap L .ro vs _ _ rfl (by omega), m4E_blk a et cap L .ro vs 0 _ _ (fun _ _ h => h) S.zr_len S.zr_len (by omega)⟩
theorem tmSS_run (a m : Int) (L cap et : Nat) (vs : List LV) (N q e2 : Nat) (es : List LV) : K.bodyF (envB [(12, awk13E), (22, fmE)] (fun g id => bc (Nat.beq g 9) (bc (Nat.beq id 0) (some m0SBB) (bc (Nat.beq g 9) (bc (Nat.beq id 4) (some m4SBB) (bc (Nat.beq g 9) (bc (Nat.beq id 2) (some m2SBB) (none)) (none))) (bc (Nat.beq g 9) (bc (Nat.beq id 2) (some m2SBB) (none)) (none)))) (bc (Nat.beq g 9) (bc (Nat.beq id 4) (some m4SBB) (bc (Nat.beq g 9) (bc (Nat.beq id 2) (some m2SBB) (none)) (none))) (bc (Nat.beq g 9) (bc (Nat.beq id 2) (some m2SBB) (none)) (none))))) (K.runF (envB [(12, awk13E), (22, fmE)] (fun g id => bc (Nat.beq g 9) (bc (Nat.beq id 0) (some m0SBB) (bc (Nat.beq g 9) (bc (Nat.beq id 4) (some m4SBB) (bc (Nat.beq g 9) (bc (Nat.beq id 2) (some m2SBB) (none)) (none))) (bc (Nat.beq g 9) (bc (Nat.beq id 2) (some m2SBB) (none)) (none)))) (bc (Nat.beq g 9) (bc (Nat.beq id 4) (some m4SBB) (bc (Nat.beq g 9) (bc (Nat.beq id 2) (some m2SBB) (none)) (none))) (bc (Nat.beq g 9) (bc (Nat.beq id 2) (some m2SBB) (none)) (none))))) 30) 9 [.int .u16 a, .slice 0 0 L (.known cap), .slice 1 0 N (.known q)] (Heap.of [.flat [.i .u8] et .ro vs, .flat [.i .u16] e2 .ro es, .glob 0 S.tabV, .glob 1 [.int .i64 m]]) (.skip 0 (.fork .auto (.skip 3 (.fork .auto (.skip 2 (.fork .auto (.skip 5 (.take false .auto)))))))) (K.endC K.openE 4 ⟨.ret (.bool true), [], []⟩) =
  (bc (ltI 400 ↑L) (true = true ∧ True) (bc (ltI 10 ↑N) (true = true ∧ True) (bc (S.an (S.okG 0 S.tabV 1) (S.an (S.okF vs L a) (S.okM es N))) (bc (S.okF vs L a) (bc (notB (eqI ↑L ↑L)) (true = false ∧ True) (notB (eqI ↑L ↑L) = false ∧ (K.BOk Tryd.prog 9 85 (blkOf 9 0) [0, 1, 2, 7, 8, 9] [LV.int IntKind.u16 a, LV.slice 0 0 L (Cap.known cap), LV.slice 1 0 N (Cap.known q), LV.slice 2 0 L (Cap.known L), LV.slice 3 0 L (Cap.known L), LV.int IntKind.i64 0] [LObj.flat [CK.i IntKind.u8] et Own.ro vs, LObj.flat [CK.i IntKind.u16] e2 Own.ro es, LObj.flat [CK.bo] 4 Own.exact (S.flw vs L a es N), LObj.flat [CK.bo] 4 Own.exact (S.zr L)] { x := LX.normal, L := [(0, LV.int IntKind.u16 a), (1, LV.slice 0 0 L (Cap.known cap)), (2, LV.slice 1 0 N (Cap.known q)), (7, LV.slice 2 0 L (Cap.known L))], ch := [], new := [] } ∧ (K.BOk Tryd.prog 9 85 (blkOf 9 2) [0, 1, 2, 7, 10] [LV.int IntKind.u16 a, LV.slice 0 0 L (Cap.known cap), LV.slice 1 0 N (Cap.known q), LV.slice 2 0 L (Cap.known L), LV.int IntKind.i64 0] [LObj.flat [CK.i IntKind.u8] et Own.ro vs, LObj.flat [CK.i IntKind.u16] e2 Own.ro es, LObj.flat [CK.bo] 4 Own.exact (S.flw vs L a es N), LObj.glob 0 S.tabV, LObj.glob 1 [LV.int IntKind.i64 m]] { x := LX.normal, L := [], ch := [], new := [] } ∧ (true = true ∧ True))))) False) False))) := by kernel_rfl
theorem tmSS_con (a m : Int) (L cap et : Nat) (vs : List LV) (N q e2 : Nat) (es : List LV) (h0 : 0 ≤ a ∧ a < 65536) (h1 : S.okB vs = true) (h2 : lenL vs = L) (h3 : 0 < L) (k2 : lenL es = N) (k3 : 0 < N) (k4 : N ≤ q) : HT Tryd.prog 9 [.int .u16 a, .slice 0 0 L (.known cap), .slice 1 0 N (.known q)] (Heap.of [.flat [.i .u8] et .ro vs, .flat [.i .u16] e2 .ro es, .glob 0 S.tabV, .glob 1 [.int .i64 m]]) (⟨.ret (.bool true), [], []⟩ : K.CRes).e (Heap.of (K.chg [.flat [.i .u8] et .ro vs, .flat [.i .u16] e2 .ro es, .glob 0 S.tabV, .glob 1 [.int .i64 m]] (⟨.ret (.bool true), [], []⟩ : K.CRes).ch ++ (⟨.ret (.bool true), [], []⟩ : K.CRes).new)) := by
 refine K.con_of_run good (A := envB [(12, awk13E), (22, fmE)] (fun g id => bc (Nat.beq g 9) (bc (Nat.beq id 0) (some m0SBB) (bc (Nat.beq g 9) (bc (Nat.beq id 4) (some m4SBB) (bc (Nat.beq g 9) (bc (Nat.beq id 2) (some m2SBB) (none)) (none))) (bc (Nat.beq g 9) (bc (Nat.beq id 2) (some m2SBB) (none)) (none)))) (bc (Nat.beq g 9) (bc (Nat.beq id 4) (some m4SBB) (bc (Nat.beq g 9) (bc (Nat.beq id 2) (some m2SBB) (none)) (none))) (bc (Nat.beq g 9) (bc (Nat.beq id 2) (some m2SBB) (none)) (none))))) (envB_ok ?_) K.openE_ok (k := 30) (cast (tmSS_run a m L cap et vs N q e2 es).symm ?_)
 ·intro p hp; simp only [List.mem_cons, List.not_mem_nil, or_false] at hp; rcases hp with rfl | rfl <;> first | exact awk13_ok | exact fm_ok
 ·have hG := S.okG_0
  have at2 : S.an true true = true := rfl
  refine bcI (fun _ => ⟨rfl, trivial⟩) (fun hL => ?_)
  have hL := ltI_false.1 hL
  have oF : S.okF vs L a = true := S.okF_iff.2 ⟨⟨h1, h2⟩, by omega, h0⟩
  have eL := S.eqI_sm (L : Int)
  refine bcI (fun _ => ⟨rfl, trivial⟩) (fun hN => ?_)
  have hN := ltI_false.1 hN
  have oN : S.okN es N = true := S.okN_iff.2 ⟨by omega, k3, by omega⟩
  have oM : S.okM es N = true := S.okM_iff.2 ⟨by omega, by omega⟩
  simp only [hG, at2, notB_f, notB_t, bc_true, bc_false, true_and, and_true, oF, eL, oN, oM]
  exact ⟨m0S_blk a et cap L .ro vs N q _ .ro es _ _ rfl (by omega), m2S_blk m a et cap L .ro vs N q _ .ro es _ rfl oF (by omega) (by omega) k4⟩
theorem tm_FNN (x0 : Int) (hl0 : 0 ≤ x0) (hu0 : x0 ≤ 65535) (m : Int) : HT Tryd.prog 9 [.int .u16 x0, .nils, .nils] (Heap.of [.glob 0 S.tabV, .glob 1 [.int .i64 m]]) (.ret (.bool true)) (Heap.of [.glob 0 S.tabV, .glob 1 [.int .i64 m]]) :=
 tmNN_con x0 m ⟨hl0, by omega⟩
theorem tm_FNE (x0 : Int) (hl0 : 0 ≤ x0) (hu0 : x0 ≤ 65535) (m : Int) : HT Tryd.prog 9 [.int .u16 x0, .nils, .emp 0] (Heap.of [.empty, .glob 0 S.tabV, .glob 1 [.int .i64 m]]) (.ret (.bool true)) (Heap.of [.empty, .glob 0 S.tabV, .glob 1 [.int .i64 m]]) :=
 tmNE_con x0 m ⟨hl0, by omega⟩
theorem tm_FNS (x0 : Int) (hl0 : 0 ≤ x0) (hu0 : x0 ≤ 65535) (l2 : List Int) (cap2 et2 : Nat) (hz2 : 0 < l2.length) (hq2 : l2.length ≤ cap2) (hl2 : ∀ a, a ∈ l2 → 0 ≤ a ∧ a ≤ 65535) (m : Int) : HT Tryd.prog 9 [.int .u16 x0, .nils, .slice 0 0 l2.length (.known cap2)] (Heap.of [.flat S.wdK et2 .ro (l2.flatMap S.wdV), .glob 0 S.tabV, .glob 1 [.int .i64 m]]) (.ret (.bool true)) (Heap.of [.flat S.wdK et2 .ro (l2.flatMap S.wdV), .glob 0 S.tabV, .glob 1 [.int .i64 m]]) :=
 tmNS_con x0 m l2.length cap2 et2 (l2.flatMap S.wdV) ⟨hl0, by omega⟩ (S.row_len2 l2) hz2 hq2
theorem tm_FEN (x0 : Int) (hl0 : 0 ≤ x0) (hu0 : x0 ≤ 65535) (m : Int) : HT Tryd.prog 9 [.int .u16 x0, .emp 0, .nils] (Heap.of [.empty, .glob 0 S.tabV, .glob 1 [.int .i64 m]]) (.ret (.bool true)) (Heap.of [.empty, .glob 0 S.tabV, .glob 1 [.int .i64 m]]) :=
 tmEN_con x0 m ⟨hl0, by omega⟩
theorem tm_FEE (x0 : Int) (hl0 : 0 ≤ x0) (hu0 : x0 ≤ 65535) (m : Int) : HT Tryd.prog 9 [.int .u16 x0, .emp 0, .emp 1] (Heap.of [.empty, .empty, .glob 0 S.tabV, .glob 1 [.int .i64 m]]) (.ret (.bool true)) (Heap.of [.empty, .empty, .glob 0 S.tabV, .glob 1 [.int .i64 m]]) :=
 tmEE_con x0 m ⟨hl0, by omega⟩
theorem tm_FES (x0 : Int) (hl0 : 0 ≤ x0) (hu0 : x0 ≤ 65535) (l2 : List Int) (cap2 et2 : Nat) (hz2 : 0 < l2.length) (hq2 : l2.length ≤ cap2) (hl2 : ∀ a, a ∈ l2 → 0 ≤ a ∧ a ≤ 65535) (m : Int) : HT Tryd.prog 9 [.int .u16 x0, .emp 0, .slice 1 0 l2.length (.known cap2)] (Heap.of [.empty, .flat S.wdK et2 .ro (l2.flatMap S.wdV), .glob 0 S.tabV, .glob 1 [.int .i64 m]]) (.ret (.bool true)) (Heap.of [.empty, .flat S.wdK et2 .ro (l2.flatMap S.wdV), .glob 0 S.tabV, .glob 1 [.int .i64 m]]) :=
 tmES_con x0 m l2.length cap2 et2 (l2.flatMap S.wdV) ⟨hl0, by omega⟩ (S.row_len2 l2) hz2 hq2
theorem tm_FSN (x0 : Int) (hl0 : 0 ≤ x0) (hu0 : x0 ≤ 65535) (l1 : List Int) (cap1 et1 : Nat) (hz1 : 0 < l1.length) (hq1 : l1.length ≤ cap1) (hl1 : ∀ a, a ∈ l1 → 0 ≤ a ∧ a ≤ 255) (m : Int) : HT Tryd.prog 9 [.int .u16 x0, .slice 0 0 l1.length (.known cap1), .nils] (Heap.of [.flat S.byK et1 .ro (l1.flatMap S.byV), .glob 0 S.tabV, .glob 1 [.int .i64 m]]) (.ret (.bool true)) (Heap.of [.flat S.byK et1 .ro (l1.flatMap S.byV), .glob 0 S.tabV, .glob 1 [.int .i64 m]]) :=
 tmSN_con x0 m l1.length cap1 et1 (l1.flatMap S.byV) ⟨hl0, by omega⟩ (S.row_ok1 l1 hl1) (S.row_len1 l1) hz1
theorem tm_FSE (x0 : Int) (hl0 : 0 ≤ x0) (hu0 : x0 ≤ 65535) (l1 : List Int) (cap1 et1 : Nat) (hz1 : 0 < l1.length) (hq1 : l1.length ≤ cap1) (hl1 : ∀ a, a ∈ l1 → 0 ≤ a ∧ a ≤ 255) (m : Int) : HT Tryd.prog 9 [.int .u16 x0, .slice 0 0 l1.length (.known cap1), .emp 1] (Heap.of [.flat S.byK et1 .ro (l1.flatMap S.byV), .empty, .glob 0 S.tabV, .glob 1 [.int .i64 m]]) (.ret (.bool true)) (Heap.of [.flat S.byK et1 .ro (l1.flatMap S.byV), .empty, .glob 0 S.tabV, .glob 1 [.int .i64 m]]) :=
 tmSE_con x0 m l1.length cap1 et1 (l1.flatMap S.byV) ⟨hl0, by omega⟩ (S.row_ok1 l1 hl1) (S.row_len1 l1) hz1
theorem tm_FSS (x0 : Int) (hl0 : 0 ≤ x0) (hu0 : x0 ≤ 65535) (l1 : List Int) (cap1 et1 : Nat) (hz1 : 0 < l1.length) (hq1 : l1.length ≤ cap1) (hl1 : ∀ a, a ∈ l1 → 0 ≤ a ∧ a ≤ 255) (l2 : List Int) (cap2 et2 : Nat) (hz2 : 0 < l2.length) (hq2 : l2.length ≤ cap2) (hl2 : ∀ a, a ∈ l2 → 0 ≤ a ∧ a ≤ 65535) (m : Int) : HT Tryd.prog 9 [.int .u16 x0, .slice 0 0 l1.length (.known cap1), .slice 1 0 l2.length (.known cap2)] (Heap.of [.flat S.byK et1 .ro (l1.flatMap S.byV), .flat S.wdK et2 .ro (l2.flatMap S.wdV), .glob 0 S.tabV, .glob 1 [.int .i64 m]]) (.ret (.bool true)) (Heap.of [.flat S.byK et1 .ro (l1.flatMap S.byV), .flat S.wdK et2 .ro (l2.flatMap S.wdV), .glob 0 S.tabV, .glob 1 [.int .i64 m]]) :=
 tmSS_con x0 m l1.length cap1 et1 (l1.flatMap S.byV) l2.length cap2 et2 (l2.flatMap S.wdV) ⟨hl0, by omega⟩ (S.row_ok1 l1 hl1) (S.row_len1 l1) hz1 (S.row_len2 l2) hz2 hq2
end Go.Proofs.YtlgfojaalmelhaaDoor.Ev
