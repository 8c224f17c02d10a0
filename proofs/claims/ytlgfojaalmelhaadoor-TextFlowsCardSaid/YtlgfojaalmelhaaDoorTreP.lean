/- Contracts, proved: Tre. -/
import Derived.Test.YtlgfojaalmelhaaDoorTreD
import Derived.Test.YtlgfojaalmelhaaDoorTrzP
namespace Go.Proofs.YtlgfojaalmelhaaDoor.Ev
open Go
set_option linter.unusedVariables false
set_option linter.unusedSimpArgs false
set_option maxRecDepth 100000
set_option maxHeartbeats 1000000

theorem lqx_ok : lqxE.ok Tryd.prog 28 := by
 intro xs os b r h h3
 unfold lqxE at h
 simp only at h
 split at h
 ·injection h with h; injection h with h1 h2; subst h1; subst h2
  exact rlx_con _ h3
 ·cases h
theorem s6N_run (i n : Int) (k : Nat) (mo : Bool) (a : Int) (et W : Nat) (cp : Cap) (w : Own) (vs : List LV) : K.RunL (envL [(36, ldE)]) K.openE 30 23 111 (inner (inner (blkOf 23 6))) s6NEB [(0, .int .i64 a), (1, .slice 0 0 W cp), (2, .nils), (7, .slice 1 0 W (.known W)), (8, .slice 2 0 W (.known W)), (9, .bool mo), (10, .int .i64 i), (11, .int .i64 n), (12, .bool false), (14, .int .i64 k)] [.flat [.i .u8] et w vs, .flat [.bo] 4 .exact (S.zr W), .flat [.bo] 4 .exact (S.zr W)] Hint.auto ⟨.exit 6, [(0, .int .i64 a), (1, .slice 0 0 W cp), (2, .nils), (7, .slice 1 0 W (.known W)), (8, .slice 2 0 W (.known W)), (9, .bool mo), (10, .int .i64 i), (11, .int .i64 n), (12, .bool false)], [], []⟩ =
  (bc (ltI ↑k ↑W) (bc (ltI ↑k ↑W) (bc (Nat.ble (0 + Int.toNat ↑k * 1 + 1) (lenL (S.zr W))) (bc (boolOf (K.atV (S.zr W) (0 + Int.toNat ↑k * 1))) (bc (S.okLd vs W a ↑k) (s6N_T i n (wrapK IntKind.i64 (↑k + 1)) (S.led vs a (Int.toNat ↑k) (wrapK IntKind.i64 (a + i))) mo a et W cp w vs ∧ (a = a ∧ ((0 : Nat) = (0 : Nat) ∧ (W = W ∧ (cp = cp ∧ ((0 : Nat) = (0 : Nat) ∧ (W = W ∧ (Cap.known W = Cap.known W ∧ ((0 : Nat) = (0 : Nat) ∧ (W = W ∧ (Cap.known W = Cap.known W ∧ (mo = mo ∧ (i = i ∧ (n = n ∧ (false = false ∧ True))))))))))))))) False) (s6N_T i n (wrapK IntKind.i64 (↑k + 1)) false mo a et W cp w vs ∧ (a = a ∧ ((0 : Nat) = (0 : Nat) ∧ (W = W ∧ (cp = cp ∧ ((0 : Nat) = (0 : Nat) ∧ (W = W ∧ (Cap.known W = Cap.known W ∧ ((0 : Nat) = (0 : Nat) ∧ (W = W ∧ (Cap.known W = Cap.known W ∧ (mo = mo ∧ (i = i ∧ (n = n ∧ (false = false ∧ True)))))))))))))))) False) False) (a = a ∧ ((0 : Nat) = (0 : Nat) ∧ (W = W ∧ (cp = cp ∧ ((0 : Nat) = (0 : Nat) ∧ (W = W ∧ (Cap.known W = Cap.known W ∧ ((0 : Nat) = (0 : Nat) ∧ (W = W ∧ (Cap.known W = Cap.known W ∧ (mo = mo ∧ (i = i ∧ (n = n ∧ (false = false ∧ True))))))))))))))) := by kernel_rfl
theorem s6N_con (i n : Int) (k : Nat) (mo : Bool) (a : Int) (et W : Nat) (cp : Cap) (w : Own) (vs : List LV) (hW : W ≤ 1000) (hk : k ≤ W) (IH : k < W → s6N_T i n ((k + 1 : Nat) : Int) false mo a et W cp w vs) : GT Tryd.prog (fun k => .code (inner (inner (blkOf 23 6))) :: .inLoop (inner (inner (blkOf 23 6))) :: k) (Fr.ofL 23 111 [(0, .int .i64 a), (1, .slice 0 0 W cp), (2, .nils), (7, .slice 1 0 W (.known W)), (8, .slice 2 0 W (.known W)), (9, .bool mo), (10, .int .i64 i), (11, .int .i64 n), (12, .bool false), (14, .int .i64 k)] [] none) (Heap.of [.flat [.i .u8] et w vs, .flat [.bo] 4 .exact (S.zr W), .flat [.bo] 4 .exact (S.zr W)]) (⟨.exit 6, [(0, .int .i64 a), (1, .slice 0 0 W cp), (2, .nils), (7, .slice 1 0 W (.known W)), (8, .slice 2 0 W (.known W)), (9, .bool mo), (10, .int .i64 i), (11, .int .i64 n), (12, .bool false)], [], []⟩ : K.BRes).x (Fr.ofL 23 111 (⟨.exit 6, [(0, .int .i64 a), (1, .slice 0 0 W cp), (2, .nils), (7, .slice 1 0 W (.known W)), (8, .slice 2 0 W (.known W)), (9, .bool mo), (10, .int .i64 i), (11, .int .i64 n), (12, .bool false)], [], []⟩ : K.BRes).L [] none) (Heap.of (K.chg [.flat [.i .u8] et w vs, .flat [.bo] 4 .exact (S.zr W), .flat [.bo] 4 .exact (S.zr W)] (⟨.exit 6, [(0, .int .i64 a), (1, .slice 0 0 W cp), (2, .nils), (7, .slice 1 0 W (.known W)), (8, .slice 2 0 W (.known W)), (9, .bool mo), (10, .int .i64 i), (11, .int .i64 n), (12, .bool false)], [], []⟩ : K.BRes).ch ++ (⟨.exit 6, [(0, .int .i64 a), (1, .slice 0 0 W cp), (2, .nils), (7, .slice 1 0 W (.known W)), (8, .slice 2 0 W (.known W)), (9, .bool mo), (10, .int .i64 i), (11, .int .i64 n), (12, .bool false)], [], []⟩ : K.BRes).new)) := by
 refine K.loop_of_run good (A := envL [(36, ldE)]) (envL_ok ?_) K.openE_ok (k := 30) (ent := s6NEB) (cast (s6N_run i n k mo a et W cp w vs).symm ?_)
 ·intro p hp; simp only [List.mem_cons, List.not_mem_nil, or_false] at hp; rcases hp with rfl <;> first | exact ld_ok
 ·have T : ∀ z : Nat, Int.toNat (z : Int) = z := Int.toNat_natCast
  have w1 : wrapK .i64 ((k : Int) + 1) = ((k + 1 : Nat) : Int) := by rw [wrapK_i64]; omega
  by_cases h : k < W
  ·have e1 : ltI (k : Int) W = true := ltI_true.2 (by omega)
   have b1 : Nat.ble (k + 1) (lenL (S.zr W)) = true := S.bleN.2 (by rw [S.zr_row, S.row_len]; omega)
   have q : boolOf (K.atV (S.zr W) k) = false := by rw [S.zr_row, S.row_b h]
   simp only [e1, w1, T, b1, q, Nat.zero_add, Nat.mul_one, notB_f, bc_true, bc_false, and_self, and_true]
   exact IH h
  ·have e1 : ltI (k : Int) W = false := ltI_false.2 (by omega)
   simp only [e1, bc_false, and_self]
theorem p2N_run (i : Nat) (mo : Bool) (a : Int) (et W : Nat) (cp : Cap) (w : Own) (vs : List LV) : K.RunL (envB [(28, lqxE)] (fun g id => bc (Nat.beq g 23) (bc (Nat.beq id 6) (some s6NBB) (none)) (none))) K.openE 30 23 111 (inner (inner (blkOf 23 2))) p2NEB [(0, .int .i64 a), (1, .slice 0 0 W cp), (2, .nils), (7, .slice 1 0 W (.known W)), (8, .slice 2 0 W (.known W)), (9, .bool mo), (10, .int .i64 i)] [.flat [.i .u8] et w vs, .flat [.bo] 4 .exact (S.zr W), .flat [.bo] 4 .exact (S.zr W)] Hint.auto ⟨.exit 2, [(0, .int .i64 a), (1, .slice 0 0 W cp), (2, .nils), (7, .slice 1 0 W (.known W)), (8, .slice 2 0 W (.known W)), (9, .bool mo)], [], []⟩ =
  (bc (ltI ↑i ↑W) (bc (ltI ↑i ↑W) (bc (Nat.ble (0 + Int.toNat ↑i * 1 + 1) (lenL vs)) (bc (S.isB (S.r0 vs i)) (bc (ltI ↑i ↑W) (bc (Nat.ble (0 + Int.toNat ↑i * 1 + 1) (lenL (S.zr W))) (bc (boolOf (K.atV (S.zr W) (0 + Int.toNat ↑i * 1))) (p2N_T (wrapK IntKind.i64 (↑i + 1)) mo a et W cp w vs ∧ (a = a ∧ ((0 : Nat) = (0 : Nat) ∧ (W = W ∧ (cp = cp ∧ ((0 : Nat) = (0 : Nat) ∧ (W = W ∧ (Cap.known W = Cap.known W ∧ ((0 : Nat) = (0 : Nat) ∧ (W = W ∧ (Cap.known W = Cap.known W ∧ (mo = mo ∧ True)))))))))))) (bc (ltI (wrapK IntKind.i64 (↑W - ↑i)) (S.len (S.r0 vs i))) (p2N_T (wrapK IntKind.i64 (↑i + 1)) mo a et W cp w vs ∧ (a = a ∧ ((0 : Nat) = (0 : Nat) ∧ (W = W ∧ (cp = cp ∧ ((0 : Nat) = (0 : Nat) ∧ (W = W ∧ (Cap.known W = Cap.known W ∧ ((0 : Nat) = (0 : Nat) ∧ (W = W ∧ (Cap.known W = Cap.known W ∧ (mo = mo ∧ True)))))))))))) (bc (ltI 65536 (wrapK IntKind.i64 (wrapK IntKind.i64 (a + ↑i) + S.len (S.r0 vs i)))) (p2N_T (wrapK IntKind.i64 (↑i + 1)) mo a et W cp w vs ∧ (a = a ∧ ((0 : Nat) = (0 : Nat) ∧ (W = W ∧ (cp = cp ∧ ((0 : Nat) = (0 : Nat) ∧ (W = W ∧ (Cap.known W = Cap.known W ∧ ((0 : Nat) = (0 : Nat) ∧ (W = W ∧ (Cap.known W = Cap.known W ∧ (mo = mo ∧ True)))))))))))) (s6N_K i (S.len (S.r0 vs i)) mo a et W cp w vs ∧ (p2N_T (wrapK IntKind.i64 (↑i + 1)) mo a et W cp w vs ∧ (a = a ∧ ((0 : Nat) = (0 : Nat) ∧ (W = W ∧ (cp = cp ∧ ((0 : Nat) = (0 : Nat) ∧ (W = W ∧ (Cap.known W = Cap.known W ∧ ((0 : Nat) = (0 : Nat) ∧ (W = W ∧ (Cap.known W = Cap.known W ∧ (mo = mo ∧ True)))))))))))))))) False) False) False) False) False) (a = a ∧ ((0 : Nat) = (0 : Nat) ∧ (W = W ∧ (cp = cp ∧ ((0 : Nat) = (0 : Nat) ∧ (W = W ∧ (Cap.known W = Cap.known W ∧ ((0 : Nat) = (0 : Nat) ∧ (W = W ∧ (Cap.known W = Cap.known W ∧ (mo = mo ∧ True)))))))))))) := by kernel_rfl
theorem p2N_con (i : Nat) (mo : Bool) (a : Int) (et W : Nat) (cp : Cap) (w : Own) (vs : List LV) (hb : S.okB vs = true) (hl : lenL vs = W) (hW : W ≤ 1000) (hi : i ≤ W) (K6 : ∀ n : Int, s6N_K i n mo a et W cp w vs) (IH : i < W → p2N_T ((i + 1 : Nat) : Int) mo a et W cp w vs) : GT Tryd.prog (fun k => .code (inner (inner (blkOf 23 2))) :: .inLoop (inner (inner (blkOf 23 2))) :: k) (Fr.ofL 23 111 [(0, .int .i64 a), (1, .slice 0 0 W cp), (2, .nils), (7, .slice 1 0 W (.known W)), (8, .slice 2 0 W (.known W)), (9, .bool mo), (10, .int .i64 i)] [] none) (Heap.of [.flat [.i .u8] et w vs, .flat [.bo] 4 .exact (S.zr W), .flat [.bo] 4 .exact (S.zr W)]) (⟨.exit 2, [(0, .int .i64 a), (1, .slice 0 0 W cp), (2, .nils), (7, .slice 1 0 W (.known W)), (8, .slice 2 0 W (.known W)), (9, .bool mo)], [], []⟩ : K.BRes).x (Fr.ofL 23 111 (⟨.exit 2, [(0, .int .i64 a), (1, .slice 0 0 W cp), (2, .nils), (7, .slice 1 0 W (.known W)), (8, .slice 2 0 W (.known W)), (9, .bool mo)], [], []⟩ : K.BRes).L [] none) (Heap.of (K.chg [.flat [.i .u8] et w vs, .flat [.bo] 4 .exact (S.zr W), .flat [.bo] 4 .exact (S.zr W)] (⟨.exit 2, [(0, .int .i64 a), (1, .slice 0 0 W cp), (2, .nils), (7, .slice 1 0 W (.known W)), (8, .slice 2 0 W (.known W)), (9, .bool mo)], [], []⟩ : K.BRes).ch ++ (⟨.exit 2, [(0, .int .i64 a), (1, .slice 0 0 W cp), (2, .nils), (7, .slice 1 0 W (.known W)), (8, .slice 2 0 W (.known W)), (9, .bool mo)], [], []⟩ : K.BRes).new)) := by
 refine K.loop_of_run good (A := envB [(28, lqxE)] (fun g id => bc (Nat.beq g 23) (bc (Nat.beq id 6) (some s6NBB) (none)) (none))) (envB_ok ?_) K.openE_ok (k := 30) (ent := p2NEB) (cast (p2N_run i mo a et W cp w vs).symm ?_)
 ·intro p hp; simp only [List.mem_cons, List.not_mem_nil, or_false] at hp; rcases hp with rfl <;> first | exact lqx_ok
 ·have T : ∀ z : Nat, Int.toNat (z : Int) = z := Int.toNat_natCast
  have w1 : wrapK .i64 ((i : Int) + 1) = ((i + 1 : Nat) : Int) := by rw [wrapK_i64]; omega
  by_cases h : i < W
  rotate_left
  ·have e1 : ltI (i : Int) W = false := ltI_false.2 (by omega)
   simp only [e1, bc_false, and_self]
  have e1 : ltI (i : Int) W = true := ltI_true.2 (by omega)
  have b1 : Nat.ble (i + 1) (lenL vs) = true := S.bleN.2 (by omega)
  have b2 : Nat.ble (i + 1) (lenL (S.zr W)) = true := S.bleN.2 (by rw [S.zr_row, S.row_len]; omega)
  have q : boolOf (K.atV (S.zr W) i) = false := by rw [S.zr_row, S.row_b h]
  have g0 := S.okB_at hb (i := i) (by omega)
  have r0 : S.r0 vs i = S.by1 vs i := by
   unfold S.r0
   rw [Int.toNat_natCast, Nat.mul_one, Nat.zero_add]
   show wrapK .i64 (S.by1 vs i) = _
   rw [wrapK_i64]; omega
  have iB : S.isB (S.by1 vs i) = true := S.isB_iff.2 g0
  simp only [e1, b1, b2, q, r0, iB, w1, T, Nat.zero_add, Nat.mul_one, bc_true, bc_false, true_and, and_true]
  have H := IH h
  cases ltI (wrapK .i64 ((W : Int) - i)) (S.len (S.by1 vs i)) with
  | true => exact H
  | false =>
   cases ltI 65536 (wrapK .i64 (wrapK .i64 (a + i) + S.len (S.by1 vs i))) with
   | true => exact H
   | false => exact ⟨K6 _, H⟩
theorem s6N_k (i n : Int) (mo : Bool) (a : Int) (et W : Nat) (cp : Cap) (w : Own) (vs : List LV) (hW : W ≤ 1000) : s6N_K i n mo a et W cp w vs := by
 have hb2 : blkOf 23 6 = .block 6 (.loop (inner (inner (blkOf 23 6)))) := by kernel_rfl
 have h : ∀ (j k : Nat), k ≤ W → W - k = j → s6N_T i n (k : Int) false mo a et W cp w vs := by
  intro j
  induction j with
  | zero => intro k hk hm; exact s6N_con i n k mo a et W cp w vs hW hk fun h => by omega
  | succ j ih => intro k hk hm; exact s6N_con i n k mo a et W cp w vs hW hk fun h => ih (k + 1) (by omega) (by omega)
 unfold s6N_K K.BOk
 rw [hb2]
 exact K.CT.block (K.GT.loop (h _ 0 (Nat.zero_le _) rfl))
theorem p2N_blk (mo : Bool) (a : Int) (et W : Nat) (cp : Cap) (w : Own) (vs : List LV) (hb : S.okB vs = true) (hl : lenL vs = W) (hW : W ≤ 1000) : K.BOk Tryd.prog 23 111 (blkOf 23 2) [0, 1, 2, 7, 8, 9, 10] [.int .i64 a, .slice 0 0 W cp, .nils, .slice 1 0 W (.known W), .slice 2 0 W (.known W), .bool mo, .int .i64 0] [.flat [.i .u8] et w vs, .flat [.bo] 4 .exact (S.zr W), .flat [.bo] 4 .exact (S.zr W)] ⟨.normal, [(0, .int .i64 a), (1, .slice 0 0 W cp), (2, .nils), (7, .slice 1 0 W (.known W)), (8, .slice 2 0 W (.known W)), (9, .bool mo)], [], []⟩ := by
 have hb2 : blkOf 23 2 = .block 2 (.loop (inner (inner (blkOf 23 2)))) := by kernel_rfl
 have h : ∀ (j i : Nat), i ≤ W → W - i = j → p2N_T (i : Int) mo a et W cp w vs := by
  intro j
  induction j with
  | zero => intro i hi hm; exact p2N_con i mo a et W cp w vs hb hl hW hi (fun n => s6N_k i n mo a et W cp w vs hW) fun h => by omega
  | succ j ih => intro i hi hm; exact p2N_con i mo a et W cp w vs hb hl hW hi (fun n => s6N_k i n mo a et W cp w vs hW) fun h => ih (i + 1) (by omega) (by omega)
 unfold K.BOk
 rw [hb2]
 exact K.CT.block (K.GT.loop (h _ 0 (Nat.zero_le _) rfl))
theorem rwN_run (a : Int) (et W : Nat) (cp : Cap) (w : Own) (vs : List LV) : K.bodyF (envB [] (fun g id => bc (Nat.beq g 23) (bc (Nat.beq id 2) (some p2NBB) (none)) (none))) (K.runF (envB [] (fun g id => bc (Nat.beq g 23) (bc (Nat.beq id 2) (some p2NBB) (none)) (none))) 30) 23 [.int .i64 a, .slice 0 0 W cp, .nils] (Heap.of [.flat [.i .u8] et w vs]) Hint.auto (K.endC K.openE 1 ⟨.ret (.slice 1 0 W (.known W)), [], [.flat [.bo] 4 .exact (S.zr W)]⟩) =
  (bc (notB (ltI ↑W ↑W)) (bc (notB (ltI 1073741824 (↑W * ↑1))) (bc (notB (ltI 1073741824 ↑W)) (bc (notB (ltI ↑W ↑W)) (bc (notB (ltI 1073741824 (↑W * ↑1))) (bc (notB (ltI 1073741824 ↑W)) (K.BOk Tryd.prog 23 111 (blkOf 23 2) [0, 1, 2, 7, 8, 9, 10] [LV.int IntKind.i64 a, LV.slice 0 0 W cp, LV.nils, LV.slice 1 0 (Int.toNat ↑W) (Cap.known (Int.toNat ↑W)), LV.slice 2 0 (Int.toNat ↑W) (Cap.known (Int.toNat ↑W)), LV.bool false, LV.int IntKind.i64 0] [LObj.flat [CK.i IntKind.u8] et w vs, LObj.flat [CK.bo] 4 Own.exact (S.zr W), LObj.flat [CK.bo] 4 Own.exact (S.zr W)] { x := LX.normal, L := [(0, LV.int IntKind.i64 a), (1, LV.slice 0 0 W cp), (2, LV.nils), (7, LV.slice 1 0 (Int.toNat ↑W) (Cap.known (Int.toNat ↑W))), (8, LV.slice 2 0 (Int.toNat ↑W) (Cap.known (Int.toNat ↑W))), (9, LV.bool false)], ch := [], new := [] } ∧ ((0 : Nat) = (0 : Nat) ∧ (W = Int.toNat ↑W ∧ (Cap.known W = Cap.known (Int.toNat ↑W) ∧ (S.zr W = S.zr W ∧ True))))) False) False) False) False) False) False) := by kernel_rfl
theorem rwN_con (a : Int) (et W : Nat) (cp : Cap) (w : Own) (vs : List LV) (h0 : S.okF vs W a = true)  : HT Tryd.prog 23 [.int .i64 a, .slice 0 0 W cp, .nils] (Heap.of [.flat [.i .u8] et w vs]) (⟨.ret (.slice 1 0 W (.known W)), [], [.flat [.bo] 4 .exact (S.zr W)]⟩ : K.CRes).e (Heap.of (K.chg [.flat [.i .u8] et w vs] (⟨.ret (.slice 1 0 W (.known W)), [], [.flat [.bo] 4 .exact (S.zr W)]⟩ : K.CRes).ch ++ (⟨.ret (.slice 1 0 W (.known W)), [], [.flat [.bo] 4 .exact (S.zr W)]⟩ : K.CRes).new)) := by
 refine K.con_of_run good (A := envB [] (fun g id => bc (Nat.beq g 23) (bc (Nat.beq id 2) (some p2NBB) (none)) (none))) (envB_ok ?_) K.openE_ok (k := 30) (cast (rwN_run a et W cp w vs).symm ?_)
 ·intro p hp; cases hp
 ·obtain ⟨⟨hb, hl⟩, hW, hA⟩ := S.okF_iff.1 h0
  have wa : wrapK .i64 a = a := by rw [wrapK_i64]; omega
  have c1 : ltI (W : Int) W = false := ltI_false.2 (Int.le_refl _)
  have c2 : ltI 1073741824 ((W : Int) * 1) = false := ltI_false.2 (by omega)
  have c3 : ltI 1073741824 (W : Int) = false := ltI_false.2 (by omega)
  have tn : Int.toNat (W : Int) = W := Int.toNat_natCast W
  simp only [c1, c2, c3, tn, notB_f, bc_true, and_true, true_and]
  have B := p2N_blk false a et W cp w vs hb hl hW
  first
   | exact B
   | exact ⟨B, rfl⟩
   | exact ⟨B, by simp⟩
theorem s6E_run (i n : Int) (k : Nat) (mo : Bool) (a : Int) (et W : Nat) (cp : Cap) (w : Own) (vs : List LV) : K.RunL (envL [(36, ldE)]) K.openE 30 23 111 (inner (inner (blkOf 23 6))) s6EEB [(0, .int .i64 a), (1, .slice 0 0 W cp), (2, .emp 1), (7, .slice 2 0 W (.known W)), (8, .slice 3 0 W (.known W)), (9, .bool mo), (10, .int .i64 i), (11, .int .i64 n), (12, .bool false), (14, .int .i64 k)] [.flat [.i .u8] et w vs, .empty, .flat [.bo] 4 .exact (S.zr W), .flat [.bo] 4 .exact (S.zr W)] Hint.auto ⟨.exit 6, [(0, .int .i64 a), (1, .slice 0 0 W cp), (2, .emp 1), (7, .slice 2 0 W (.known W)), (8, .slice 3 0 W (.known W)), (9, .bool mo), (10, .int .i64 i), (11, .int .i64 n), (12, .bool false)], [], []⟩ =
  (bc (ltI ↑k ↑W) (bc (ltI ↑k ↑W) (bc (Nat.ble (0 + Int.toNat ↑k * 1 + 1) (lenL (S.zr W))) (bc (boolOf (K.atV (S.zr W) (0 + Int.toNat ↑k * 1))) (bc (S.okLd vs W a ↑k) (s6E_T i n (wrapK IntKind.i64 (↑k + 1)) (S.led vs a (Int.toNat ↑k) (wrapK IntKind.i64 (a + i))) mo a et W cp w vs ∧ (a = a ∧ ((0 : Nat) = (0 : Nat) ∧ (W = W ∧ (cp = cp ∧ ((0 : Nat) = (0 : Nat) ∧ (W = W ∧ (Cap.known W = Cap.known W ∧ ((0 : Nat) = (0 : Nat) ∧ (W = W ∧ (Cap.known W = Cap.known W ∧ (mo = mo ∧ (i = i ∧ (n = n ∧ (false = false ∧ True))))))))))))))) False) (s6E_T i n (wrapK IntKind.i64 (↑k + 1)) false mo a et W cp w vs ∧ (a = a ∧ ((0 : Nat) = (0 : Nat) ∧ (W = W ∧ (cp = cp ∧ ((0 : Nat) = (0 : Nat) ∧ (W = W ∧ (Cap.known W = Cap.known W ∧ ((0 : Nat) = (0 : Nat) ∧ (W = W ∧ (Cap.known W = Cap.known W ∧ (mo = mo ∧ (i = i ∧ (n = n ∧ (false = false ∧ True)))))))))))))))) False) False) (a = a ∧ ((0 : Nat) = (0 : Nat) ∧ (W = W ∧ (cp = cp ∧ ((0 : Nat) = (0 : Nat) ∧ (W = W ∧ (Cap.known W = Cap.known W ∧ ((0 : Nat) = (0 : Nat) ∧ (W = W ∧ (Cap.known W = Cap.known W ∧ (mo = mo ∧ (i = i ∧ (n = n ∧ (false = false ∧ True))))))))))))))) := by kernel_rfl
theorem s6E_con (i n : Int) (k : Nat) (mo : Bool) (a : Int) (et W : Nat) (cp : Cap) (w : Own) (vs : List LV) (hW : W ≤ 1000) (hk : k ≤ W) (IH : k < W → s6E_T i n ((k + 1 : Nat) : Int) false mo a et W cp w vs) : GT Tryd.prog (fun k => .code (inner (inner (blkOf 23 6))) :: .inLoop (inner (inner (blkOf 23 6))) :: k) (Fr.ofL 23 111 [(0, .int .i64 a), (1, .slice 0 0 W cp), (2, .emp 1), (7, .slice 2 0 W (.known W)), (8, .slice 3 0 W (.known W)), (9, .bool mo), (10, .int .i64 i), (11, .int .i64 n), (12, .bool false), (14, .int .i64 k)] [] none) (Heap.of [.flat [.i .u8] et w vs, .empty, .flat [.bo] 4 .exact (S.zr W), .flat [.bo] 4 .exact (S.zr W)]) (⟨.exit 6, [(0, .int .i64 a), (1, .slice 0 0 W cp), (2, .emp 1), (7, .slice 2 0 W (.known W)), (8, .slice 3 0 W (.known W)), (9, .bool mo), (10, .int .i64 i), (11, .int .i64 n), (12, .bool false)], [], []⟩ : K.BRes).x (Fr.ofL 23 111 (⟨.exit 6, [(0, .int .i64 a), (1, .slice 0 0 W cp), (2, .emp 1), (7, .slice 2 0 W (.known W)), (8, .slice 3 0 W (.known W)), (9, .bool mo), (10, .int .i64 i), (11, .int .i64 n), (12, .bool false)], [], []⟩ : K.BRes).L [] none) (Heap.of (K.chg [.flat [.i .u8] et w vs, .empty, .flat [.bo] 4 .exact (S.zr W), .flat [.bo] 4 .exact (S.zr W)] (⟨.exit 6, [(0, .int .i64 a), (1, .slice 0 0 W cp), (2, .emp 1), (7, .slice 2 0 W (.known W)), (8, .slice 3 0 W (.known W)), (9, .bool mo), (10, .int .i64 i), (11, .int .i64 n), (12, .bool false)], [], []⟩ : K.BRes).ch ++ (⟨.exit 6, [(0, .int .i64 a), (1, .slice 0 0 W cp), (2, .emp 1), (7, .slice 2 0 W (.known W)), (8, .slice 3 0 W (.known W)), (9, .bool mo), (10, .int .i64 i), (11, .int .i64 n), (12, .bool false)], [], []⟩ : K.BRes).new)) := by
 refine K.loop_of_run good (A := envL [(36, ldE)]) (envL_ok ?_) K.openE_ok (k := 30) (ent := s6EEB) (cast (s6E_run i n k mo a et W cp w vs).symm ?_)
 ·intro p hp; simp only [List.mem_cons, List.not_mem_nil, or_false] at hp; rcases hp with rfl <;> first | exact ld_ok
 ·have T : ∀ z : Nat, Int.toNat (z : Int) = z := Int.toNat_natCast
  have w1 : wrapK .i64 ((k : Int) + 1) = ((k + 1 : Nat) : Int) := by rw [wrapK_i64]; omega
  by_cases h : k < W
  ·have e1 : ltI (k : Int) W = true := ltI_true.2 (by omega)
   have b1 : Nat.ble (k + 1) (lenL (S.zr W)) = true := S.bleN.2 (by rw [S.zr_row, S.row_len]; omega)
   have q : boolOf (K.atV (S.zr W) k) = false := by rw [S.zr_row, S.row_b h]
   simp only [e1, w1, T, b1, q, Nat.zero_add, Nat.mul_one, notB_f, bc_true, bc_false, and_self, and_true]
   exact IH h
  ·have e1 : ltI (k : Int) W = false := ltI_false.2 (by omega)
   simp only [e1, bc_false, and_self]
theorem p2E_run (i : Nat) (mo : Bool) (a : Int) (et W : Nat) (cp : Cap) (w : Own) (vs : List LV) : K.RunL (envB [(28, lqxE)] (fun g id => bc (Nat.beq g 23) (bc (Nat.beq id 6) (some s6EBB) (none)) (none))) K.openE 30 23 111 (inner (inner (blkOf 23 2))) p2EEB [(0, .int .i64 a), (1, .slice 0 0 W cp), (2, .emp 1), (7, .slice 2 0 W (.known W)), (8, .slice 3 0 W (.known W)), (9, .bool mo), (10, .int .i64 i)] [.flat [.i .u8] et w vs, .empty, .flat [.bo] 4 .exact (S.zr W), .flat [.bo] 4 .exact (S.zr W)] Hint.auto ⟨.exit 2, [(0, .int .i64 a), (1, .slice 0 0 W cp), (2, .emp 1), (7, .slice 2 0 W (.known W)), (8, .slice 3 0 W (.known W)), (9, .bool mo)], [], []⟩ =
  (bc (ltI ↑i ↑W) (bc (ltI ↑i ↑W) (bc (Nat.ble (0 + Int.toNat ↑i * 1 + 1) (lenL vs)) (bc (S.isB (S.r0 vs i)) (bc (ltI ↑i ↑W) (bc (Nat.ble (0 + Int.toNat ↑i * 1 + 1) (lenL (S.zr W))) (bc (boolOf (K.atV (S.zr W) (0 + Int.toNat ↑i * 1))) (p2E_T (wrapK IntKind.i64 (↑i + 1)) mo a et W cp w vs ∧ (a = a ∧ ((0 : Nat) = (0 : Nat) ∧ (W = W ∧ (cp = cp ∧ ((0 : Nat) = (0 : Nat) ∧ (W = W ∧ (Cap.known W = Cap.known W ∧ ((0 : Nat) = (0 : Nat) ∧ (W = W ∧ (Cap.known W = Cap.known W ∧ (mo = mo ∧ True)))))))))))) (bc (ltI (wrapK IntKind.i64 (↑W - ↑i)) (S.len (S.r0 vs i))) (p2E_T (wrapK IntKind.i64 (↑i + 1)) mo a et W cp w vs ∧ (a = a ∧ ((0 : Nat) = (0 : Nat) ∧ (W = W ∧ (cp = cp ∧ ((0 : Nat) = (0 : Nat) ∧ (W = W ∧ (Cap.known W = Cap.known W ∧ ((0 : Nat) = (0 : Nat) ∧ (W = W ∧ (Cap.known W = Cap.known W ∧ (mo = mo ∧ True)))))))))))) (bc (ltI 65536 (wrapK IntKind.i64 (wrapK IntKind.i64 (a + ↑i) + S.len (S.r0 vs i)))) (p2E_T (wrapK IntKind.i64 (↑i + 1)) mo a et W cp w vs ∧ (a = a ∧ ((0 : Nat) = (0 : Nat) ∧ (W = W ∧ (cp = cp ∧ ((0 : Nat) = (0 : Nat) ∧ (W = W ∧ (Cap.known W = Cap.known W ∧ ((0 : Nat) = (0 : Nat) ∧ (W = W ∧ (Cap.known W = Cap.known W ∧ (mo = mo ∧ True)))))))))))) (s6E_K i (S.len (S.r0 vs i)) mo a et W cp w vs ∧ (p2E_T (wrapK IntKind.i64 (↑i + 1)) mo a et W cp w vs ∧ (a = a ∧ ((0 : Nat) = (0 : Nat) ∧ (W = W ∧ (cp = cp ∧ ((0 : Nat) = (0 : Nat) ∧ (W = W ∧ (Cap.known W = Cap.known W ∧ ((0 : Nat) = (0 : Nat) ∧ (W = W ∧ (Cap.known W = Cap.known W ∧ (mo = mo ∧ True)))))))))))))))) False) False) False) False) False) (a = a ∧ ((0 : Nat) = (0 : Nat) ∧ (W = W ∧ (cp = cp ∧ ((0 : Nat) = (0 : Nat) ∧ (W = W ∧ (Cap.known W = Cap.known W ∧ ((0 : Nat) = (0 : Nat) ∧ (W = W ∧ (Cap.known W = Cap.known W ∧ (mo = mo ∧ True)))))))))))) := by kernel_rfl
theorem p2E_con (i : Nat) (mo : Bool) (a : Int) (et W : Nat) (cp : Cap) (w : Own) (vs : List LV) (hb : S.okB vs = true) (hl : lenL vs = W) (hW : W ≤ 1000) (hi : i ≤ W) (K6 : ∀ n : Int, s6E_K i n mo a et W cp w vs) (IH : i < W → p2E_T ((i + 1 : Nat) : Int) mo a et W cp w vs) : GT Tryd.prog (fun k => .code (inner (inner (blkOf 23 2))) :: .inLoop (inner (inner (blkOf 23 2))) :: k) (Fr.ofL 23 111 [(0, .int .i64 a), (1, .slice 0 0 W cp), (2, .emp 1), (7, .slice 2 0 W (.known W)), (8, .slice 3 0 W (.known W)), (9, .bool mo), (10, .int .i64 i)] [] none) (Heap.of [.flat [.i .u8] et w vs, .empty, .flat [.bo] 4 .exact (S.zr W), .flat [.bo] 4 .exact (S.zr W)]) (⟨.exit 2, [(0, .int .i64 a), (1, .slice 0 0 W cp), (2, .emp 1), (7, .slice 2 0 W (.known W)), (8, .slice 3 0 W (.known W)), (9, .bool mo)], [], []⟩ : K.BRes).x (Fr.ofL 23 111 (⟨.exit 2, [(0, .int .i64 a), (1, .slice 0 0 W cp), (2, .emp 1), (7, .slice 2 0 W (.known W)), (8, .slice 3 0 W (.known W)), (9, .bool mo)], [], []⟩ : K.BRes).L [] none) (Heap.of (K.chg [.flat [.i .u8] et w vs, .empty, .flat [.bo] 4 .exact (S.zr W), .flat [.bo] 4 .exact (S.zr W)] (⟨.exit 2, [(0, .int .i64 a), (1, .slice 0 0 W cp), (2, .emp 1), (7, .slice 2 0 W (.known W)), (8, .slice 3 0 W (.known W)), (9, .bool mo)], [], []⟩ : K.BRes).ch ++ (⟨.exit 2, [(0, .int .i64 a), (1, .slice 0 0 W cp), (2, .emp 1), (7, .slice 2 0 W (.known W)), (8, .slice 3 0 W (.known W)), (9, .bool mo)], [], []⟩ : K.BRes).new)) := by
 refine K.loop_of_run good (A := envB [(28, lqxE)] (fun g id => bc (Nat.beq g 23) (bc (Nat.beq id 6) (some s6EBB) (none)) (none))) (envB_ok ?_) K.openE_ok (k := 30) (ent := p2EEB) (cast (p2E_run i mo a et W cp w vs).symm ?_)
 ·intro p hp; simp only [List.mem_cons, List.not_mem_nil, or_false] at hp; rcases hp with rfl <;> first | exact lqx_ok
 ·have T : ∀ z : Nat, Int.toNat (z : Int) = z := Int.toNat_natCast
  have w1 : wrapK .i64 ((i : Int) + 1) = ((i + 1 : Nat) : Int) := by rw [wrapK_i64]; omega
  by_cases h : i < W
  rotate_left
  ·have e1 : ltI (i : Int) W = false := ltI_false.2 (by omega)
   simp only [e1, bc_false, and_self]
  have e1 : ltI (i : Int) W = true := ltI_true.2 (by omega)
  have b1 : Nat.ble (i + 1) (lenL vs) = true := S.bleN.2 (by omega)
  have b2 : Nat.ble (i + 1) (lenL (S.zr W)) = true := S.bleN.2 (by rw [S.zr_row, S.row_len]; omega)
  have q : boolOf (K.atV (S.zr W) i) = false := by rw [S.zr_row, S.row_b h]
  have g0 := S.okB_at hb (i := i) (by omega)
  have r0 : S.r0 vs i = S.by1 vs i := by
   unfold S.r0
   rw [Int.toNat_natCast, Nat.mul_one, Nat.zero_add]
   show wrapK .i64 (S.by1 vs i) = _
   rw [wrapK_i64]; omega
  have iB : S.isB (S.by1 vs i) = true := S.isB_iff.2 g0
  simp only [e1, b1, b2, q, r0, iB, w1, T, Nat.zero_add, Nat.mul_one, bc_true, bc_false, true_and, and_true]
  have H := IH h
  cases ltI (wrapK .i64 ((W : Int) - i)) (S.len (S.by1 vs i)) with
  | true => exact H
  | false =>
   cases ltI 65536 (wrapK .i64 (wrapK .i64 (a + i) + S.len (S.by1 vs i))) with
   | true => exact H
   | false => exact ⟨K6 _, H⟩
theorem s6E_k (i n : Int) (mo : Bool) (a : Int) (et W : Nat) (cp : Cap) (w : Own) (vs : List LV) (hW : W ≤ 1000) : s6E_K i n mo a et W cp w vs := by
 have hb2 : blkOf 23 6 = .block 6 (.loop (inner (inner (blkOf 23 6)))) := by kernel_rfl
 have h : ∀ (j k : Nat), k ≤ W → W - k = j → s6E_T i n (k : Int) false mo a et W cp w vs := by
  intro j
  induction j with
  | zero => intro k hk hm; exact s6E_con i n k mo a et W cp w vs hW hk fun h => by omega
  | succ j ih => intro k hk hm; exact s6E_con i n k mo a et W cp w vs hW hk fun h => ih (k + 1) (by omega) (by omega)
 unfold s6E_K K.BOk
 rw [hb2]
 exact K.CT.block (K.GT.loop (h _ 0 (Nat.zero_le _) rfl))
theorem p2E_blk (mo : Bool) (a : Int) (et W : Nat) (cp : Cap) (w : Own) (vs : List LV) (hb : S.okB vs = true) (hl : lenL vs = W) (hW : W ≤ 1000) : K.BOk Tryd.prog 23 111 (blkOf 23 2) [0, 1, 2, 7, 8, 9, 10] [.int .i64 a, .slice 0 0 W cp, .emp 1, .slice 2 0 W (.known W), .slice 3 0 W (.known W), .bool mo, .int .i64 0] [.flat [.i .u8] et w vs, .empty, .flat [.bo] 4 .exact (S.zr W), .flat [.bo] 4 .exact (S.zr W)] ⟨.normal, [(0, .int .i64 a), (1, .slice 0 0 W cp), (2, .emp 1), (7, .slice 2 0 W (.known W)), (8, .slice 3 0 W (.known W)), (9, .bool mo)], [], []⟩ := by
 have hb2 : blkOf 23 2 = .block 2 (.loop (inner (inner (blkOf 23 2)))) := by kernel_rfl
 have h : ∀ (j i : Nat), i ≤ W → W - i = j → p2E_T (i : Int) mo a et W cp w vs := by
  intro j
  induction j with
  | zero => intro i hi hm; exact p2E_con i mo a et W cp w vs hb hl hW hi (fun n => s6E_k i n mo a et W cp w vs hW) fun h => by omega
  | succ j ih => intro i hi hm; exact p2E_con i mo a et W cp w vs hb hl hW hi (fun n => s6E_k i n mo a et W cp w vs hW) fun h => ih (i + 1) (by omega) (by omega)
 unfold K.BOk
 rw [hb2]
 exact K.CT.block (K.GT.loop (h _ 0 (Nat.zero_le _) rfl))
theorem rwE_run (a : Int) (et W : Nat) (cp : Cap) (w : Own) (vs : List LV) : K.bodyF (envB [] (fun g id => bc (Nat.beq g 23) (bc (Nat.beq id 2) (some p2EBB) (none)) (none))) (K.runF (envB [] (fun g id => bc (Nat.beq g 23) (bc (Nat.beq id 2) (some p2EBB) (none)) (none))) 30) 23 [.int .i64 a, .slice 0 0 W cp, .emp 1] (Heap.of [.flat [.i .u8] et w vs, .empty]) Hint.auto (K.endC K.openE 2 ⟨.ret (.slice 2 0 W (.known W)), [], [.flat [.bo] 4 .exact (S.zr W)]⟩) =
  (bc (notB (ltI ↑W ↑W)) (bc (notB (ltI 1073741824 (↑W * ↑1))) (bc (notB (ltI 1073741824 ↑W)) (bc (notB (ltI ↑W ↑W)) (bc (notB (ltI 1073741824 (↑W * ↑1))) (bc (notB (ltI 1073741824 ↑W)) (K.BOk Tryd.prog 23 111 (blkOf 23 2) [0, 1, 2, 7, 8, 9, 10] [LV.int IntKind.i64 a, LV.slice 0 0 W cp, LV.emp 1, LV.slice 2 0 (Int.toNat ↑W) (Cap.known (Int.toNat ↑W)), LV.slice 3 0 (Int.toNat ↑W) (Cap.known (Int.toNat ↑W)), LV.bool false, LV.int IntKind.i64 0] [LObj.flat [CK.i IntKind.u8] et w vs, LObj.empty, LObj.flat [CK.bo] 4 Own.exact (S.zr W), LObj.flat [CK.bo] 4 Own.exact (S.zr W)] { x := LX.normal, L := [(0, LV.int IntKind.i64 a), (1, LV.slice 0 0 W cp), (2, LV.emp 1), (7, LV.slice 2 0 (Int.toNat ↑W) (Cap.known (Int.toNat ↑W))), (8, LV.slice 3 0 (Int.toNat ↑W) (Cap.known (Int.toNat ↑W))), (9, LV.bool false)], ch := [], new := [] } ∧ ((0 : Nat) = (0 : Nat) ∧ (W = Int.toNat ↑W ∧ (Cap.known W = Cap.known (Int.toNat ↑W) ∧ (S.zr W = S.zr W ∧ True))))) False) False) False) False) False) False) := by kernel_rfl
theorem rwE_con (a : Int) (et W : Nat) (cp : Cap) (w : Own) (vs : List LV) (h0 : S.okF vs W a = true)  : HT Tryd.prog 23 [.int .i64 a, .slice 0 0 W cp, .emp 1] (Heap.of [.flat [.i .u8] et w vs, .empty]) (⟨.ret (.slice 2 0 W (.known W)), [], [.flat [.bo] 4 .exact (S.zr W)]⟩ : K.CRes).e (Heap.of (K.chg [.flat [.i .u8] et w vs, .empty] (⟨.ret (.slice 2 0 W (.known W)), [], [.flat [.bo] 4 .exact (S.zr W)]⟩ : K.CRes).ch ++ (⟨.ret (.slice 2 0 W (.known W)), [], [.flat [.bo] 4 .exact (S.zr W)]⟩ : K.CRes).new)) := by
 refine K.con_of_run good (A := envB [] (fun g id => bc (Nat.beq g 23) (bc (Nat.beq id 2) (some p2EBB) (none)) (none))) (envB_ok ?_) K.openE_ok (k := 30) (cast (rwE_run a et W cp w vs).symm ?_)
 ·intro p hp; cases hp
 ·obtain ⟨⟨hb, hl⟩, hW, hA⟩ := S.okF_iff.1 h0
  have wa : wrapK .i64 a = a := by rw [wrapK_i64]; omega
  have c1 : ltI (W : Int) W = false := ltI_false.2 (Int.le_refl _)
  have c2 : ltI 1073741824 ((W : Int) * 1) = false := ltI_false.2 (by omega)
  have c3 : ltI 1073741824 (W : Int) = false := ltI_false.2 (by omega)
  have tn : Int.toNat (W : Int) = W := Int.toNat_natCast W
  simp only [c1, c2, c3, tn, notB_f, bc_true, and_true, true_and]
  have B := p2E_blk false a et W cp w vs hb hl hW
  first
   | exact B
   | exact ⟨B, rfl⟩
   | exact ⟨B, by simp⟩
end Go.Proofs.YtlgfojaalmelhaaDoor.Ev
