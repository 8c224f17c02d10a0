/- Contracts, proved: Tld. -/
import Derived.Test.YtlgfojaalmelhaaDoorTldD
import Derived.Test.YtlgfojaalmelhaaDoorTfwP
import Derived.Test.YtlgfojaalmelhaaDoorTorP
namespace Go.Proofs.YtlgfojaalmelhaaDoor.Ev
open Go
set_option linter.unusedVariables false
set_option linter.unusedSimpArgs false
set_option maxRecDepth 100000
set_option maxHeartbeats 1000000
namespace S
theorem led_0 {vs : List LV} {a x : Int} {k : Nat} (h : suc vs a k = []) : led vs a k x = false := by unfold led; rw [h]; rfl
theorem led_1 {vs : List LV} {a x y Y : Int} {k : Nat} (h : suc vs a k = [y]) (hY : a + y = Y) : led vs a k x = eqI Y x := by
 unfold led; rw [h, ← hY]
 show (eqI (a + y) x || false) = _
 cases eqI (a + y) x <;> rfl
theorem led_2 {vs : List LV} {a x y z Y Z : Int} {k : Nat} (h : suc vs a k = [y, z]) (hY : a + y = Y) (hZ : a + z = Z) : led vs a k x = bc (eqI Y x) true (eqI Z x) := by
 unfold led; rw [h, ← hY, ← hZ]
 show (eqI (a + y) x || (eqI (a + z) x || false)) = _
 cases eqI (a + y) x <;> cases eqI (a + z) x <;> rfl
theorem fin_1 {b c : Bool} (h : b = c) : bc c (b = true ∧ True) (b = false ∧ True) := by rw [h]; cases c <;> exact ⟨rfl, trivial⟩
theorem fin_2 {b c d : Bool} (h : b = bc c true d) : bc c (b = true ∧ True) (bc d (b = true ∧ True) (b = false ∧ True)) := by
 rw [h]; cases c <;> cases d <;> exact ⟨rfl, trivial⟩
theorem tgR2 {a i b : Int} (ha : 0 ≤ a ∧ a < 65536) (hi : 0 ≤ i ∧ i < 1000) (hb : 0 ≤ b ∧ b < 256) : (128 ≤ b → Int.tmod (wrapK .i64 (wrapK .i64 (wrapK .i64 (a + i + 2 + b) - 256) + 65536)) 65536 = a + rel a i b) ∧
  (b < 128 → Int.tmod (wrapK .i64 (wrapK .i64 (a + i + 2 + b) + 65536)) 65536 = a + rel a i b) := by
 unfold rel
 constructor
 ·intro h
  rw [wrapK_i64, wrapK_i64, wrapK_i64, if_neg (by omega), Int.tmod_eq_emod_of_nonneg (by omega)]; omega
 ·intro h
  rw [wrapK_i64, wrapK_i64, if_pos h, Int.tmod_eq_emod_of_nonneg (by omega)]; omega
end S

namespace S
theorem isW_iff2 {p : Int} : isW p = true ↔ 0 ≤ p ∧ p < 65536 := by
 unfold isW
 cases h : ltI p 0 with
 | true => rw [bc_true]; have := ltI_true.1 h; exact ⟨fun h => (by cases h), fun h => by omega⟩
 | false => rw [bc_false, ltI_true]; have := ltI_false.1 h; omega
theorem okD_iff {vs : List LV} {W : Nat} {a i : Int} : okLd vs W a i = true ↔ (okB vs = true ∧ lenL vs = W) ∧ W ≤ 1000 ∧ (0 ≤ a ∧ a < 65536) ∧ 0 ≤ i ∧ i < W ∧ fits vs W a i.toNat = true := by
 unfold okLd; rw [an_iff, an_iff, an_iff, an_iff, an_iff, an_iff, beqN, bleN, isW_iff2, notB_true, ltI_false, ltI_true]
end S
theorem rlx_run (o : Int) : K.bodyF (envL [(25, corE)]) (K.runF (envL [(25, corE)]) 30) 28 [.int .i64 o] (Heap.of []) Hint.auto (K.endC K.openE 0 ⟨.ret (.int .i64 (S.len o)), [], []⟩) =
  (bc (S.isB o) (bc (notB (ltI 1 (S.md o))) (S.len o = (1 : Int) ∧ True) (bc (notB (ltI (S.md o) 6)) (bc (notB (ltI 8 (S.md o))) (S.len o = (3 : Int) ∧ True) (bc (eqI (S.md o) 12) (S.len o = (3 : Int) ∧ True) (S.len o = (2 : Int) ∧ True))) (bc (eqI (S.md o) 12) (S.len o = (3 : Int) ∧ True) (S.len o = (2 : Int) ∧ True)))) False) := by kernel_rfl
theorem rlx_con (o : Int) (h0 : S.isB o = true)  : HT Tryd.prog 28 [.int .i64 o] (Heap.of []) (⟨.ret (.int .i64 (S.len o)), [], []⟩ : K.CRes).e (Heap.of (K.chg [] (⟨.ret (.int .i64 (S.len o)), [], []⟩ : K.CRes).ch ++ (⟨.ret (.int .i64 (S.len o)), [], []⟩ : K.CRes).new)) := by
 refine K.con_of_run good (A := envL [(25, corE)]) (envL_ok ?_) K.openE_ok (k := 30) (cast (rlx_run o).symm ?_)
 ·intro p hp; simp only [List.mem_cons, List.not_mem_nil, or_false] at hp; rcases hp with rfl <;> first | exact cor_ok
 ·have r1 := S.isB_iff.1 h0
  obtain ⟨hl, hm⟩ := S.tab_at r1
  simp only [h0, bc_true]
  rcases S.md_cases hm with h | h | h | h | h | h | h | h | h | h | h | h | h <;> (unfold S.len S.is3; rw [h]; exact ⟨rfl, trivial⟩)
theorem lq1_k (o : Int) (h : S.an (S.isB o) (eqI (S.len o) 1) = true) : HT Tryd.prog 28 [.int .i64 o] (Heap.of []) (.ret (.int .i64 1)) (Heap.of []) := by
 obtain ⟨h1, h2⟩ := S.an_iff.1 h
 rw [← eqI_true.1 h2]
 exact rlx_con o h1
theorem lq1_ok : lq1E.ok Tryd.prog 28 := by
 intro xs os b r h h3
 unfold lq1E at h
 simp only at h
 split at h
 ·injection h with h; injection h with h1 h2; subst h1; subst h2
  exact lq1_k _ h3
 ·cases h
theorem lq2_k (o : Int) (h : S.an (S.isB o) (eqI (S.len o) 2) = true) : HT Tryd.prog 28 [.int .i64 o] (Heap.of []) (.ret (.int .i64 2)) (Heap.of []) := by
 obtain ⟨h1, h2⟩ := S.an_iff.1 h
 rw [← eqI_true.1 h2]
 exact rlx_con o h1
theorem lq2_ok : lq2E.ok Tryd.prog 28 := by
 intro xs os b r h h3
 unfold lq2E at h
 simp only at h
 split at h
 ·injection h with h; injection h with h1 h2; subst h1; subst h2
  exact lq2_k _ h3
 ·cases h
theorem lq3_k (o : Int) (h : S.an (S.isB o) (eqI (S.len o) 3) = true) : HT Tryd.prog 28 [.int .i64 o] (Heap.of []) (.ret (.int .i64 3)) (Heap.of []) := by
 obtain ⟨h1, h2⟩ := S.an_iff.1 h
 rw [← eqI_true.1 h2]
 exact rlx_con o h1
theorem lq3_ok : lq3E.ok Tryd.prog 28 := by
 intro xs os b r h h3
 unfold lq3E at h
 simp only at h
 split at h
 ·injection h with h; injection h with h1 h2; subst h1; subst h2
  exact lq3_k _ h3
 ·cases h
theorem ld1_run (a x : Int) (k et W : Nat) (cp : Cap) (w : Own) (vs : List LV) : K.bodyF (envL [(25, corE), (28, lq1E)]) (K.runF (envL [(25, corE), (28, lq1E)]) 30) 36 [.int .i64 a, .slice 0 0 W cp, .int .i64 k, .int .i64 x] (Heap.of [.flat [.i .u8] et w vs]) (.skip 11 (.fork (.skip 3 (.take true (.skip 0 (.take true .auto)))) (.skip 1 (.take false (.skip 0 (.fork .auto (.skip 0 (.fork .auto (.skip 0 (.fork (.skip 0 (.take true .auto)) (.skip 0 (.fork (.skip 0 (.take true .auto)) (.skip 0 (.fork (.skip 0 (.take true .auto)) .auto)))))))))))))) (K.endC K.openE 1 ⟨.ret (.bool (S.led vs a k x)), [], []⟩) =
  (bc (ltI ↑k ↑W) (bc (Nat.ble (0 + Int.toNat ↑k * 1 + 1) (lenL vs)) (bc (S.an (S.isB (S.r0 vs k)) (eqI (S.len (S.r0 vs k)) 1)) (bc (ltI ↑k ↑W) (bc (Nat.ble (0 + Int.toNat ↑k * 1 + 1) (lenL vs)) (bc (S.isB (S.r0 vs k)) (bc (S.an (S.isB (S.r0 vs k)) (eqI (S.len (S.r0 vs k)) 1)) (bc (eqI (S.kd (S.r0 vs k)) 4) (eqI (S.kd (S.r0 vs k)) (4 : Int) = true ∧ (eqI (S.kd (S.r0 vs k)) (4 : Int) = true ∧ bc (eqI (Int.tmod (wrapK IntKind.i64 (wrapK IntKind.i64 (wrapK IntKind.i64 (wrapK IntKind.i64 (a + ↑k) + 2) + 0) + 65536)) 65536) x) (S.led vs a k x = true ∧ True) (bc (eqI (wrapK IntKind.i64 (wrapK IntKind.i64 (a + ↑k) + 1)) x) (S.led vs a k x = true ∧ True) (S.led vs a k x = false ∧ True)))) (eqI (S.kd (S.r0 vs k)) (4 : Int) = false ∧ bc (eqI (S.kd (S.r0 vs k)) 8) (bc (eqI (wrapK IntKind.i64 (wrapK IntKind.i64 (256 * 0) + 0)) x) (S.led vs a k x = true ∧ True) (bc (eqI (wrapK IntKind.i64 (wrapK IntKind.i64 (a + ↑k) + 1)) x) (S.led vs a k x = true ∧ True) (S.led vs a k x = false ∧ True))) (bc (eqI (S.kd (S.r0 vs k)) 7) (bc (eqI (S.md (S.r0 vs k)) 12) (S.led vs a k x = false ∧ True) (bc (eqI (wrapK IntKind.i64 (wrapK IntKind.i64 (256 * 0) + 0)) x) (S.led vs a k x = true ∧ True) (S.led vs a k x = false ∧ True))) (bc (eqI (S.kd (S.r0 vs k)) 9) (eqI (S.kd (S.r0 vs k)) (9 : Int) = true ∧ (S.led vs a k x = false ∧ True)) (bc (eqI (S.kd (S.r0 vs k)) 10) (eqI (S.kd (S.r0 vs k)) (10 : Int) = true ∧ (S.led vs a k x = false ∧ True)) (bc (eqI (S.kd (S.r0 vs k)) 11) (eqI (S.kd (S.r0 vs k)) (11 : Int) = true ∧ (S.led vs a k x = false ∧ True)) (bc (eqI (S.kd (S.r0 vs k)) 12) (S.led vs a k x = false ∧ True) (bc (eqI (wrapK IntKind.i64 (wrapK IntKind.i64 (a + ↑k) + 1)) x) (S.led vs a k x = true ∧ True) (S.led vs a k x = false ∧ True))))))))) False) False) False) False) False) False) False) := by kernel_rfl
theorem ld1_con (a x : Int) (k et W : Nat) (cp : Cap) (w : Own) (vs : List LV) (hb : S.okB vs = true) (hl : lenL vs = W) (hW : W ≤ 1000) (hA : 0 ≤ a ∧ a < 65536) (hk : k < W) (hn : S.len (S.by1 vs k) = 1) (hf : (1 : Int) ≤ W - k) : HT Tryd.prog 36 [.int .i64 a, .slice 0 0 W cp, .int .i64 k, .int .i64 x] (Heap.of [.flat [.i .u8] et w vs]) (⟨.ret (.bool (S.led vs a k x)), [], []⟩ : K.CRes).e (Heap.of (K.chg [.flat [.i .u8] et w vs] (⟨.ret (.bool (S.led vs a k x)), [], []⟩ : K.CRes).ch ++ (⟨.ret (.bool (S.led vs a k x)), [], []⟩ : K.CRes).new)) := by
 refine K.con_of_run good (A := envL [(25, corE), (28, lq1E)]) (envL_ok ?_) K.openE_ok (k := 30) (cast (ld1_run a x k et W cp w vs).symm ?_)
 ·intro p hp; simp only [List.mem_cons, List.not_mem_nil, or_false] at hp; rcases hp with rfl | rfl <;> first | exact cor_ok | exact lq1_ok
 ·have hi : k < W := hk
  have T : ∀ z : Nat, Int.toNat (z : Int) = z := Int.toNat_natCast
  have x0 : ltI (k : Int) 0 = false := ltI_false.2 (by omega)
  have x1 : ltI (k : Int) W = true := ltI_true.2 (by omega)
  have bi : Nat.ble (k + 1) (lenL vs) = true := S.bleN.2 (by omega)
  have g0 := S.okB_at hb (i := k) (by omega)
  have r0 : S.r0 vs k = S.by1 vs k := by
   unfold S.r0
   rw [Int.toNat_natCast, Nat.mul_one, Nat.zero_add]
   show wrapK .i64 (S.by1 vs k) = _
   rw [wrapK_i64]; omega
  have iB : S.isB (S.by1 vs k) = true := S.isB_iff.2 g0
  have at2 : S.an true true = true := rfl
  have hkE : eqI (S.len (S.by1 vs k)) 1 = true := eqI_true.2 hn
  have hK := S.tabK g0
  have wb : wrapK .i64 (wrapK .i64 (a + k) + 1) = a + k + 1 := by rw [wrapK_i64, wrapK_i64]; omega
  cases q9 : eqI (S.kd (S.by1 vs k)) 9 with
  | true =>
   have z : S.kd (S.by1 vs k) = 9 := eqI_true.1 q9
   have n4 : eqI (S.kd (S.by1 vs k)) 4 = false := by rw [z]; rfl
   have n8 : eqI (S.kd (S.by1 vs k)) 8 = false := by rw [z]; rfl
   have n7 : eqI (S.kd (S.by1 vs k)) 7 = false := by rw [z]; rfl
   simp only [x0, x1, bi, r0, iB, at2, hkE, wb, T, Nat.zero_add, Nat.mul_one, notB_t, notB_f, bc_true, bc_false, true_and, n4, n8, n7, q9, S.led_0 (x := x) (show S.suc vs a k = [] by unfold S.suc S.isE; rw [q9]; rfl), and_self]
  | false =>
   cases q10 : eqI (S.kd (S.by1 vs k)) 10 with
   | true =>
    have z : S.kd (S.by1 vs k) = 10 := eqI_true.1 q10
    have n4 : eqI (S.kd (S.by1 vs k)) 4 = false := by rw [z]; rfl
    have n8 : eqI (S.kd (S.by1 vs k)) 8 = false := by rw [z]; rfl
    have n7 : eqI (S.kd (S.by1 vs k)) 7 = false := by rw [z]; rfl
    simp only [x0, x1, bi, r0, iB, at2, hkE, wb, T, Nat.zero_add, Nat.mul_one, notB_t, notB_f, bc_true, bc_false, true_and, n4, n8, n7, q9, q10, S.led_0 (x := x) (show S.suc vs a k = [] by unfold S.suc S.isE; rw [q9, q10]; rfl), and_self]
   | false =>
    cases q11 : eqI (S.kd (S.by1 vs k)) 11 with
    | true =>
     have z : S.kd (S.by1 vs k) = 11 := eqI_true.1 q11
     have n4 : eqI (S.kd (S.by1 vs k)) 4 = false := by rw [z]; rfl
     have n8 : eqI (S.kd (S.by1 vs k)) 8 = false := by rw [z]; rfl
     have n7 : eqI (S.kd (S.by1 vs k)) 7 = false := by rw [z]; rfl
     simp only [x0, x1, bi, r0, iB, at2, hkE, wb, T, Nat.zero_add, Nat.mul_one, notB_t, notB_f, bc_true, bc_false, true_and, n4, n8, n7, q9, q10, q11, S.led_0 (x := x) (show S.suc vs a k = [] by unfold S.suc S.isE; rw [q9, q10, q11]; rfl), and_self]
    | false =>
     cases q12 : eqI (S.kd (S.by1 vs k)) 12 with
     | true =>
      have z : S.kd (S.by1 vs k) = 12 := eqI_true.1 q12
      have n4 : eqI (S.kd (S.by1 vs k)) 4 = false := by rw [z]; rfl
      have n8 : eqI (S.kd (S.by1 vs k)) 8 = false := by rw [z]; rfl
      have n7 : eqI (S.kd (S.by1 vs k)) 7 = false := by rw [z]; rfl
      simp only [x0, x1, bi, r0, iB, at2, hkE, wb, T, Nat.zero_add, Nat.mul_one, notB_t, notB_f, bc_true, bc_false, true_and, n4, n8, n7, q9, q10, q11, q12, S.led_0 (x := x) (show S.suc vs a k = [] by unfold S.suc S.isE; rw [q9, q10, q11, q12]; rfl), and_self]
     | false =>
      cases q7 : eqI (S.kd (S.by1 vs k)) 7 with
      | true => have := hK.2.1 q7; omega
      | false =>
       cases q4 : eqI (S.kd (S.by1 vs k)) 4 with
       | true => have := hK.1 q4; omega
       | false =>
        cases q8 : eqI (S.kd (S.by1 vs k)) 8 with
        | true => have := hK.2.2 q8; omega
        | false =>
         simp only [x0, x1, bi, r0, iB, at2, hkE, wb, T, Nat.zero_add, Nat.mul_one, notB_t, notB_f, bc_true, bc_false, true_and, q9, q10, q11, q12, q7, q4, q8]
         exact S.fin_1 (S.led_1 (y := (k : Int) + S.len (S.by1 vs k)) (by unfold S.suc S.isE; rw [q9, q10, q11, q12, q7, q4, q8]; rfl) (by rw [hn]; omega))
theorem ld2_run (a x : Int) (k et W : Nat) (cp : Cap) (w : Own) (vs : List LV) : K.bodyF (envL [(25, corE), (28, lq2E)]) (K.runF (envL [(25, corE), (28, lq2E)]) 30) 36 [.int .i64 a, .slice 0 0 W cp, .int .i64 k, .int .i64 x] (Heap.of [.flat [.i .u8] et w vs]) (.skip 4 (.fork .auto (.skip 8 (.fork (.skip 0 (.fork (.skip 2 (.take true (.skip 0 (.take true .auto)))) (.skip 2 (.take true (.skip 0 (.take true .auto)))))) (.skip 1 (.take false (.skip 0 (.fork .auto (.skip 0 (.fork .auto (.skip 0 (.fork (.skip 0 (.take true .auto)) (.skip 0 (.fork (.skip 0 (.take true .auto)) (.skip 0 (.fork (.skip 0 (.take true .auto)) .auto)))))))))))))))) (K.endC K.openE 1 ⟨.ret (.bool (S.led vs a k x)), [], []⟩) =
  (bc (ltI ↑k ↑W) (bc (Nat.ble (0 + Int.toNat ↑k * 1 + 1) (lenL vs)) (bc (S.an (S.isB (S.r0 vs k)) (eqI (S.len (S.r0 vs k)) 2)) (bc (ltI (wrapK IntKind.i64 (↑k + 1)) 0) False (bc (ltI (wrapK IntKind.i64 (↑k + 1)) ↑W) (bc (Nat.ble (0 + Int.toNat (wrapK IntKind.i64 (↑k + 1)) * 1 + 1) (lenL vs)) (bc (ltI ↑k ↑W) (bc (Nat.ble (0 + Int.toNat ↑k * 1 + 1) (lenL vs)) (bc (S.isB (S.r0 vs k)) (bc (S.an (S.isB (S.r0 vs k)) (eqI (S.len (S.r0 vs k)) 2)) (bc (eqI (S.kd (S.r0 vs k)) 4) (bc (notB (ltI (S.rj vs k 1) 128)) (eqI (S.kd (S.r0 vs k)) (4 : Int) = true ∧ (eqI (S.kd (S.r0 vs k)) (4 : Int) = true ∧ bc (eqI (Int.tmod (wrapK IntKind.i64 (wrapK IntKind.i64 (wrapK IntKind.i64 (wrapK IntKind.i64 (wrapK IntKind.i64 (a + ↑k) + 2) + S.rj vs k 1) - 256) + 65536)) 65536) x) (S.led vs a k x = true ∧ True) (bc (eqI (wrapK IntKind.i64 (wrapK IntKind.i64 (a + ↑k) + 2)) x) (S.led vs a k x = true ∧ True) (S.led vs a k x = false ∧ True)))) (eqI (S.kd (S.r0 vs k)) (4 : Int) = true ∧ (eqI (S.kd (S.r0 vs k)) (4 : Int) = true ∧ bc (eqI (Int.tmod (wrapK IntKind.i64 (wrapK IntKind.i64 (wrapK IntKind.i64 (wrapK IntKind.i64 (a + ↑k) + 2) + S.rj vs k 1) + 65536)) 65536) x) (S.led vs a k x = true ∧ True) (bc (eqI (wrapK IntKind.i64 (wrapK IntKind.i64 (a + ↑k) + 2)) x) (S.led vs a k x = true ∧ True) (S.led vs a k x = false ∧ True))))) (eqI (S.kd (S.r0 vs k)) (4 : Int) = false ∧ bc (eqI (S.kd (S.r0 vs k)) 8) (bc (eqI (wrapK IntKind.i64 (wrapK IntKind.i64 (256 * 0) + S.rj vs k 1)) x) (S.led vs a k x = true ∧ True) (bc (eqI (wrapK IntKind.i64 (wrapK IntKind.i64 (a + ↑k) + 2)) x) (S.led vs a k x = true ∧ True) (S.led vs a k x = false ∧ True))) (bc (eqI (S.kd (S.r0 vs k)) 7) (bc (eqI (S.md (S.r0 vs k)) 12) (S.led vs a k x = false ∧ True) (bc (eqI (wrapK IntKind.i64 (wrapK IntKind.i64 (256 * 0) + S.rj vs k 1)) x) (S.led vs a k x = true ∧ True) (S.led vs a k x = false ∧ True))) (bc (eqI (S.kd (S.r0 vs k)) 9) (eqI (S.kd (S.r0 vs k)) (9 : Int) = true ∧ (S.led vs a k x = false ∧ True)) (bc (eqI (S.kd (S.r0 vs k)) 10) (eqI (S.kd (S.r0 vs k)) (10 : Int) = true ∧ (S.led vs a k x = false ∧ True)) (bc (eqI (S.kd (S.r0 vs k)) 11) (eqI (S.kd (S.r0 vs k)) (11 : Int) = true ∧ (S.led vs a k x = false ∧ True)) (bc (eqI (S.kd (S.r0 vs k)) 12) (S.led vs a k x = false ∧ True) (bc (eqI (wrapK IntKind.i64 (wrapK IntKind.i64 (a + ↑k) + 2)) x) (S.led vs a k x = true ∧ True) (S.led vs a k x = false ∧ True))))))))) False) False) False) False) False) False)) False) False) False) := by kernel_rfl
theorem ld2_con (a x : Int) (k et W : Nat) (cp : Cap) (w : Own) (vs : List LV) (hb : S.okB vs = true) (hl : lenL vs = W) (hW : W ≤ 1000) (hA : 0 ≤ a ∧ a < 65536) (hk : k < W) (hn : S.len (S.by1 vs k) = 2) (hf : (2 : Int) ≤ W - k) : HT Tryd.prog 36 [.int .i64 a, .slice 0 0 W cp, .int .i64 k, .int .i64 x] (Heap.of [.flat [.i .u8] et w vs]) (⟨.ret (.bool (S.led vs a k x)), [], []⟩ : K.CRes).e (Heap.of (K.chg [.flat [.i .u8] et w vs] (⟨.ret (.bool (S.led vs a k x)), [], []⟩ : K.CRes).ch ++ (⟨.ret (.bool (S.led vs a k x)), [], []⟩ : K.CRes).new)) := by
 refine K.con_of_run good (A := envL [(25, corE), (28, lq2E)]) (envL_ok ?_) K.openE_ok (k := 30) (cast (ld2_run a x k et W cp w vs).symm ?_)
 ·intro p hp; simp only [List.mem_cons, List.not_mem_nil, or_false] at hp; rcases hp with rfl | rfl <;> first | exact cor_ok | exact lq2_ok
 ·have hi : k < W := hk
  have T : ∀ z : Nat, Int.toNat (z : Int) = z := Int.toNat_natCast
  have x0 : ltI (k : Int) 0 = false := ltI_false.2 (by omega)
  have x1 : ltI (k : Int) W = true := ltI_true.2 (by omega)
  have bi : Nat.ble (k + 1) (lenL vs) = true := S.bleN.2 (by omega)
  have g0 := S.okB_at hb (i := k) (by omega)
  have r0 : S.r0 vs k = S.by1 vs k := by
   unfold S.r0
   rw [Int.toNat_natCast, Nat.mul_one, Nat.zero_add]
   show wrapK .i64 (S.by1 vs k) = _
   rw [wrapK_i64]; omega
  have iB : S.isB (S.by1 vs k) = true := S.isB_iff.2 g0
  have at2 : S.an true true = true := rfl
  have hkE : eqI (S.len (S.by1 vs k)) 2 = true := eqI_true.2 hn
  have hK := S.tabK g0
  have wb : wrapK .i64 (wrapK .i64 (a + k) + 2) = a + k + 2 := by rw [wrapK_i64, wrapK_i64]; omega
  have w1 : wrapK .i64 ((k : Int) + 1) = ((k + 1 : Nat) : Int) := by rw [wrapK_i64]; omega
  have p1 : ltI ((k + 1 : Nat) : Int) 0 = false := ltI_false.2 (by omega)
  have q1 : ltI ((k + 1 : Nat) : Int) W = true := ltI_true.2 (by omega)
  have d1 : Nat.ble (k + 1 + 1) (lenL vs) = true := S.bleN.2 (by omega)
  have g1 := S.okB_at hb (i := k + 1) (by omega)
  have j1 : S.rj vs k 1 = S.by1 vs (k + 1) := by
   show wrapK .i64 (intOf (K.atV vs (0 + Int.toNat (wrapK .i64 ((k : Int) + 1)) * 1))) = _
   rw [w1, Int.toNat_natCast, Nat.mul_one, Nat.zero_add]
   show wrapK .i64 (S.by1 vs (k + 1)) = _
   rw [wrapK_i64]; omega
  cases q9 : eqI (S.kd (S.by1 vs k)) 9 with
  | true =>
   have z : S.kd (S.by1 vs k) = 9 := eqI_true.1 q9
   have n4 : eqI (S.kd (S.by1 vs k)) 4 = false := by rw [z]; rfl
   have n8 : eqI (S.kd (S.by1 vs k)) 8 = false := by rw [z]; rfl
   have n7 : eqI (S.kd (S.by1 vs k)) 7 = false := by rw [z]; rfl
   simp only [x0, x1, bi, r0, iB, at2, hkE, wb, T, Nat.zero_add, Nat.mul_one, notB_t, notB_f, bc_true, bc_false, true_and, w1, p1, q1, d1, j1, n4, n8, n7, q9, S.led_0 (x := x) (show S.suc vs a k = [] by unfold S.suc S.isE; rw [q9]; rfl), and_self]
  | false =>
   cases q10 : eqI (S.kd (S.by1 vs k)) 10 with
   | true =>
    have z : S.kd (S.by1 vs k) = 10 := eqI_true.1 q10
    have n4 : eqI (S.kd (S.by1 vs k)) 4 = false := by rw [z]; rfl
    have n8 : eqI (S.kd (S.by1 vs k)) 8 = false := by rw [z]; rfl
    have n7 : eqI (S.kd (S.by1 vs k)) 7 = false := by rw [z]; rfl
    simp only [x0, x1, bi, r0, iB, at2, hkE, wb, T, Nat.zero_add, Nat.mul_one, notB_t, notB_f, bc_true, bc_false, true_and, w1, p1, q1, d1, j1, n4, n8, n7, q9, q10, S.led_0 (x := x) (show S.suc vs a k = [] by unfold S.suc S.isE; rw [q9, q10]; rfl), and_self]
   | false =>
    cases q11 : eqI (S.kd (S.by1 vs k)) 11 with
    | true =>
     have z : S.kd (S.by1 vs k) = 11 := eqI_true.1 q11
     have n4 : eqI (S.kd (S.by1 vs k)) 4 = false := by rw [z]; rfl
     have n8 : eqI (S.kd (S.by1 vs k)) 8 = false := by rw [z]; rfl
     have n7 : eqI (S.kd (S.by1 vs k)) 7 = false := by rw [z]; rfl
     simp only [x0, x1, bi, r0, iB, at2, hkE, wb, T, Nat.zero_add, Nat.mul_one, notB_t, notB_f, bc_true, bc_false, true_and, w1, p1, q1, d1, j1, n4, n8, n7, q9, q10, q11, S.led_0 (x := x) (show S.suc vs a k = [] by unfold S.suc S.isE; rw [q9, q10, q11]; rfl), and_self]
    | false =>
     cases q12 : eqI (S.kd (S.by1 vs k)) 12 with
     | true =>
      have z : S.kd (S.by1 vs k) = 12 := eqI_true.1 q12
      have n4 : eqI (S.kd (S.by1 vs k)) 4 = false := by rw [z]; rfl
      have n8 : eqI (S.kd (S.by1 vs k)) 8 = false := by rw [z]; rfl
      have n7 : eqI (S.kd (S.by1 vs k)) 7 = false := by rw [z]; rfl
      simp only [x0, x1, bi, r0, iB, at2, hkE, wb, T, Nat.zero_add, Nat.mul_one, notB_t, notB_f, bc_true, bc_false, true_and, w1, p1, q1, d1, j1, n4, n8, n7, q9, q10, q11, q12, S.led_0 (x := x) (show S.suc vs a k = [] by unfold S.suc S.isE; rw [q9, q10, q11, q12]; rfl), and_self]
     | false =>
      cases q7 : eqI (S.kd (S.by1 vs k)) 7 with
      | true => have := hK.2.1 q7; omega
      | false =>
       cases q4 : eqI (S.kd (S.by1 vs k)) 4 with
       | true =>
        have hs : S.suc vs a k = [S.tgx vs a k, (k : Int) + S.len (S.by1 vs k)] := by unfold S.suc S.isE; rw [q9, q10, q11, q12, q7, q4]; rfl
        have htg : S.tgx vs a k = S.rel a k (S.by1 vs (k + 1)) := by unfold S.tgx; rw [hn]; rfl
        have hL := S.led_2 (x := x) hs (Y := a + S.rel a k (S.by1 vs (k + 1))) (Z := a + k + 2) (by rw [htg]) (by rw [hn]; omega)
        have tr := S.tgR2 hA (i := k) ⟨by omega, by omega⟩ g1
        by_cases h8 : S.by1 vs (k + 1) < 128
        ·simp only [x0, x1, bi, r0, iB, at2, hkE, wb, T, Nat.zero_add, Nat.mul_one, notB_t, notB_f, bc_true, bc_false, true_and, w1, p1, q1, d1, j1, q9, q10, q11, q12, q7, q4, ltI_true.2 h8, tr.2 h8]
         exact S.fin_2 hL
        ·simp only [x0, x1, bi, r0, iB, at2, hkE, wb, T, Nat.zero_add, Nat.mul_one, notB_t, notB_f, bc_true, bc_false, true_and, w1, p1, q1, d1, j1, q9, q10, q11, q12, q7, q4, ltI_false.2 (Int.not_lt.1 h8), tr.1 (Int.not_lt.1 h8)]
         exact S.fin_2 hL
       | false =>
        cases q8 : eqI (S.kd (S.by1 vs k)) 8 with
        | true => have := hK.2.2 q8; omega
        | false =>
         simp only [x0, x1, bi, r0, iB, at2, hkE, wb, T, Nat.zero_add, Nat.mul_one, notB_t, notB_f, bc_true, bc_false, true_and, w1, p1, q1, d1, j1, q9, q10, q11, q12, q7, q4, q8]
         exact S.fin_1 (S.led_1 (y := (k : Int) + S.len (S.by1 vs k)) (by unfold S.suc S.isE; rw [q9, q10, q11, q12, q7, q4, q8]; rfl) (by rw [hn]; omega))
theorem ld3_run (a x : Int) (k et W : Nat) (cp : Cap) (w : Own) (vs : List LV) : K.bodyF (envL [(25, corE), (28, lq3E)]) (K.runF (envL [(25, corE), (28, lq3E)]) 30) 36 [.int .i64 a, .slice 0 0 W cp, .int .i64 k, .int .i64 x] (Heap.of [.flat [.i .u8] et w vs]) (.skip 4 (.fork .auto (.skip 2 (.fork .auto (.skip 7 (.fork (.skip 0 (.fork (.skip 2 (.take true (.skip 0 (.take true .auto)))) (.skip 2 (.take true (.skip 0 (.take true .auto)))))) (.skip 1 (.take false (.skip 0 (.fork .auto (.skip 0 (.fork .auto (.skip 0 (.fork (.skip 0 (.take true .auto)) (.skip 0 (.fork (.skip 0 (.take true .auto)) (.skip 0 (.fork (.skip 0 (.take true .auto)) .auto)))))))))))))))))) (K.endC K.openE 1 ⟨.ret (.bool (S.led vs a k x)), [], []⟩) =
  (bc (ltI ↑k ↑W) (bc (Nat.ble (0 + Int.toNat ↑k * 1 + 1) (lenL vs)) (bc (S.an (S.isB (S.r0 vs k)) (eqI (S.len (S.r0 vs k)) 3)) (bc (ltI (wrapK IntKind.i64 (↑k + 1)) 0) False (bc (ltI (wrapK IntKind.i64 (↑k + 1)) ↑W) (bc (Nat.ble (0 + Int.toNat (wrapK IntKind.i64 (↑k + 1)) * 1 + 1) (lenL vs)) (bc (ltI (wrapK IntKind.i64 (↑k + 2)) 0) False (bc (ltI (wrapK IntKind.i64 (↑k + 2)) ↑W) (bc (Nat.ble (0 + Int.toNat (wrapK IntKind.i64 (↑k + 2)) * 1 + 1) (lenL vs)) (bc (ltI ↑k ↑W) (bc (Nat.ble (0 + Int.toNat ↑k * 1 + 1) (lenL vs)) (bc (S.isB (S.r0 vs k)) (bc (S.an (S.isB (S.r0 vs k)) (eqI (S.len (S.r0 vs k)) 3)) (bc (eqI (S.kd (S.r0 vs k)) 4) (bc (notB (ltI (S.rj vs k 1) 128)) (eqI (S.kd (S.r0 vs k)) (4 : Int) = true ∧ (eqI (S.kd (S.r0 vs k)) (4 : Int) = true ∧ bc (eqI (Int.tmod (wrapK IntKind.i64 (wrapK IntKind.i64 (wrapK IntKind.i64 (wrapK IntKind.i64 (wrapK IntKind.i64 (a + ↑k) + 2) + S.rj vs k 1) - 256) + 65536)) 65536) x) (S.led vs a k x = true ∧ True) (bc (eqI (wrapK IntKind.i64 (wrapK IntKind.i64 (a + ↑k) + 3)) x) (S.led vs a k x = true ∧ True) (S.led vs a k x = false ∧ True)))) (eqI (S.kd (S.r0 vs k)) (4 : Int) = true ∧ (eqI (S.kd (S.r0 vs k)) (4 : Int) = true ∧ bc (eqI (Int.tmod (wrapK IntKind.i64 (wrapK IntKind.i64 (wrapK IntKind.i64 (wrapK IntKind.i64 (a + ↑k) + 2) + S.rj vs k 1) + 65536)) 65536) x) (S.led vs a k x = true ∧ True) (bc (eqI (wrapK IntKind.i64 (wrapK IntKind.i64 (a + ↑k) + 3)) x) (S.led vs a k x = true ∧ True) (S.led vs a k x = false ∧ True))))) (eqI (S.kd (S.r0 vs k)) (4 : Int) = false ∧ bc (eqI (S.kd (S.r0 vs k)) 8) (bc (eqI (wrapK IntKind.i64 (wrapK IntKind.i64 (256 * S.rj vs k 2) + S.rj vs k 1)) x) (S.led vs a k x = true ∧ True) (bc (eqI (wrapK IntKind.i64 (wrapK IntKind.i64 (a + ↑k) + 3)) x) (S.led vs a k x = true ∧ True) (S.led vs a k x = false ∧ True))) (bc (eqI (S.kd (S.r0 vs k)) 7) (bc (eqI (S.md (S.r0 vs k)) 12) (S.led vs a k x = false ∧ True) (bc (eqI (wrapK IntKind.i64 (wrapK IntKind.i64 (256 * S.rj vs k 2) + S.rj vs k 1)) x) (S.led vs a k x = true ∧ True) (S.led vs a k x = false ∧ True))) (bc (eqI (S.kd (S.r0 vs k)) 9) (eqI (S.kd (S.r0 vs k)) (9 : Int) = true ∧ (S.led vs a k x = false ∧ True)) (bc (eqI (S.kd (S.r0 vs k)) 10) (eqI (S.kd (S.r0 vs k)) (10 : Int) = true ∧ (S.led vs a k x = false ∧ True)) (bc (eqI (S.kd (S.r0 vs k)) 11) (eqI (S.kd (S.r0 vs k)) (11 : Int) = true ∧ (S.led vs a k x = false ∧ True)) (bc (eqI (S.kd (S.r0 vs k)) 12) (S.led vs a k x = false ∧ True) (bc (eqI (wrapK IntKind.i64 (wrapK IntKind.i64 (a + ↑k) + 3)) x) (S.led vs a k x = true ∧ True) (S.led vs a k x = false ∧ True))))))))) False) False) False) False) False) False)) False) False)) False) False) False) := by kernel_rfl
theorem ld3_con (a x : Int) (k et W : Nat) (cp : Cap) (w : Own) (vs : List LV) (hb : S.okB vs = true) (hl : lenL vs = W) (hW : W ≤ 1000) (hA : 0 ≤ a ∧ a < 65536) (hk : k < W) (hn : S.len (S.by1 vs k) = 3) (hf : (3 : Int) ≤ W - k) : HT Tryd.prog 36 [.int .i64 a, .slice 0 0 W cp, .int .i64 k, .int .i64 x] (Heap.of [.flat [.i .u8] et w vs]) (⟨.ret (.bool (S.led vs a k x)), [], []⟩ : K.CRes).e (Heap.of (K.chg [.flat [.i .u8] et w vs] (⟨.ret (.bool (S.led vs a k x)), [], []⟩ : K.CRes).ch ++ (⟨.ret (.bool (S.led vs a k x)), [], []⟩ : K.CRes).new)) := by
 refine K.con_of_run good (A := envL [(25, corE), (28, lq3E)]) (envL_ok ?_) K.openE_ok (k := 30) (cast (ld3_run a x k et W cp w vs).symm ?_)
 ·intro p hp; simp only [List.mem_cons, List.not_mem_nil, or_false] at hp; rcases hp with rfl | rfl <;> first | exact cor_ok | exact lq3_ok
 ·have hi : k < W := hk
  have T : ∀ z : Nat, Int.toNat (z : Int) = z := Int.toNat_natCast
  have x0 : ltI (k : Int) 0 = false := ltI_false.2 (by omega)
  have x1 : ltI (k : Int) W = true := ltI_true.2 (by omega)
  have bi : Nat.ble (k + 1) (lenL vs) = true := S.bleN.2 (by omega)
  have g0 := S.okB_at hb (i := k) (by omega)
  have r0 : S.r0 vs k = S.by1 vs k := by
   unfold S.r0
   rw [Int.toNat_natCast, Nat.mul_one, Nat.zero_add]
   show wrapK .i64 (S.by1 vs k) = _
   rw [wrapK_i64]; omega
  have iB : S.isB (S.by1 vs k) = true := S.isB_iff.2 g0
  have at2 : S.an true true = true := rfl
  have hkE : eqI (S.len (S.by1 vs k)) 3 = true := eqI_true.2 hn
  have hK := S.tabK g0
  have wb : wrapK .i64 (wrapK .i64 (a + k) + 3) = a + k + 3 := by rw [wrapK_i64, wrapK_i64]; omega
  have w1 : wrapK .i64 ((k : Int) + 1) = ((k + 1 : Nat) : Int) := by rw [wrapK_i64]; omega
  have p1 : ltI ((k + 1 : Nat) : Int) 0 = false := ltI_false.2 (by omega)
  have q1 : ltI ((k + 1 : Nat) : Int) W = true := ltI_true.2 (by omega)
  have d1 : Nat.ble (k + 1 + 1) (lenL vs) = true := S.bleN.2 (by omega)
  have g1 := S.okB_at hb (i := k + 1) (by omega)
  have j1 : S.rj vs k 1 = S.by1 vs (k + 1) := by
   show wrapK .i64 (intOf (K.atV vs (0 + Int.toNat (wrapK .i64 ((k : Int) + 1)) * 1))) = _
   rw [w1, Int.toNat_natCast, Nat.mul_one, Nat.zero_add]
   show wrapK .i64 (S.by1 vs (k + 1)) = _
   rw [wrapK_i64]; omega
  have w2 : wrapK .i64 ((k : Int) + 2) = ((k + 2 : Nat) : Int) := by rw [wrapK_i64]; omega
  have p2 : ltI ((k + 2 : Nat) : Int) 0 = false := ltI_false.2 (by omega)
  have q2 : ltI ((k + 2 : Nat) : Int) W = true := ltI_true.2 (by omega)
  have d2 : Nat.ble (k + 2 + 1) (lenL vs) = true := S.bleN.2 (by omega)
  have g2 := S.okB_at hb (i := k + 2) (by omega)
  have j2 : S.rj vs k 2 = S.by1 vs (k + 2) := by
   show wrapK .i64 (intOf (K.atV vs (0 + Int.toNat (wrapK .i64 ((k : Int) + 2)) * 1))) = _
   rw [w2, Int.toNat_natCast, Nat.mul_one, Nat.zero_add]
   show wrapK .i64 (S.by1 vs (k + 2)) = _
   rw [wrapK_i64]; omega
  have ta : wrapK .i64 (wrapK .i64 (256 * S.by1 vs (k + 2)) + S.by1 vs (k + 1)) = a + (S.by1 vs (k + 1) + 256 * S.by1 vs (k + 2) - a) := by rw [wrapK_i64, wrapK_i64]; omega
  cases q9 : eqI (S.kd (S.by1 vs k)) 9 with
  | true =>
   have z : S.kd (S.by1 vs k) = 9 := eqI_true.1 q9
   have n4 : eqI (S.kd (S.by1 vs k)) 4 = false := by rw [z]; rfl
   have n8 : eqI (S.kd (S.by1 vs k)) 8 = false := by rw [z]; rfl
   have n7 : eqI (S.kd (S.by1 vs k)) 7 = false := by rw [z]; rfl
   simp only [x0, x1, bi, r0, iB, at2, hkE, wb, T, Nat.zero_add, Nat.mul_one, notB_t, notB_f, bc_true, bc_false, true_and, w1, p1, q1, d1, j1, w2, p2, q2, d2, j2, ta, n4, n8, n7, q9, S.led_0 (x := x) (show S.suc vs a k = [] by unfold S.suc S.isE; rw [q9]; rfl), and_self]
  | false =>
   cases q10 : eqI (S.kd (S.by1 vs k)) 10 with
   | true =>
    have z : S.kd (S.by1 vs k) = 10 := eqI_true.1 q10
    have n4 : eqI (S.kd (S.by1 vs k)) 4 = false := by rw [z]; rfl
    have n8 : eqI (S.kd (S.by1 vs k)) 8 = false := by rw [z]; rfl
    have n7 : eqI (S.kd (S.by1 vs k)) 7 = false := by rw [z]; rfl
    simp only [x0, x1, bi, r0, iB, at2, hkE, wb, T, Nat.zero_add, Nat.mul_one, notB_t, notB_f, bc_true, bc_false, true_and, w1, p1, q1, d1, j1, w2, p2, q2, d2, j2, ta, n4, n8, n7, q9, q10, S.led_0 (x := x) (show S.suc vs a k = [] by unfold S.suc S.isE; rw [q9, q10]; rfl), and_self]
   | false =>
    cases q11 : eqI (S.kd (S.by1 vs k)) 11 with
    | true =>
     have z : S.kd (S.by1 vs k) = 11 := eqI_true.1 q11
     have n4 : eqI (S.kd (S.by1 vs k)) 4 = false := by rw [z]; rfl
     have n8 : eqI (S.kd (S.by1 vs k)) 8 = false := by rw [z]; rfl
     have n7 : eqI (S.kd (S.by1 vs k)) 7 = false := by rw [z]; rfl
     simp only [x0, x1, bi, r0, iB, at2, hkE, wb, T, Nat.zero_add, Nat.mul_one, notB_t, notB_f, bc_true, bc_false, true_and, w1, p1, q1, d1, j1, w2, p2, q2, d2, j2, ta, n4, n8, n7, q9, q10, q11, S.led_0 (x := x) (show S.suc vs a k = [] by unfold S.suc S.isE; rw [q9, q10, q11]; rfl), and_self]
    | false =>
     cases q12 : eqI (S.kd (S.by1 vs k)) 12 with
     | true =>
      have z : S.kd (S.by1 vs k) = 12 := eqI_true.1 q12
      have n4 : eqI (S.kd (S.by1 vs k)) 4 = false := by rw [z]; rfl
      have n8 : eqI (S.kd (S.by1 vs k)) 8 = false := by rw [z]; rfl
      have n7 : eqI (S.kd (S.by1 vs k)) 7 = false := by rw [z]; rfl
      simp only [x0, x1, bi, r0, iB, at2, hkE, wb, T, Nat.zero_add, Nat.mul_one, notB_t, notB_f, bc_true, bc_false, true_and, w1, p1, q1, d1, j1, w2, p2, q2, d2, j2, ta, n4, n8, n7, q9, q10, q11, q12, S.led_0 (x := x) (show S.suc vs a k = [] by unfold S.suc S.isE; rw [q9, q10, q11, q12]; rfl), and_self]
     | false =>
      cases q7 : eqI (S.kd (S.by1 vs k)) 7 with
      | true =>
       have z : S.kd (S.by1 vs k) = 7 := eqI_true.1 q7
       have n4 : eqI (S.kd (S.by1 vs k)) 4 = false := by rw [z]; rfl
       have n8 : eqI (S.kd (S.by1 vs k)) 8 = false := by rw [z]; rfl
       cases qm : eqI (S.md (S.by1 vs k)) 12 with
       | true =>
        simp only [x0, x1, bi, r0, iB, at2, hkE, wb, T, Nat.zero_add, Nat.mul_one, notB_t, notB_f, bc_true, bc_false, true_and, w1, p1, q1, d1, j1, w2, p2, q2, d2, j2, ta, n4, n8, q9, q10, q11, q12, q7, qm, S.led_0 (x := x) (show S.suc vs a k = [] by unfold S.suc S.isE; rw [q9, q10, q11, q12, q7, qm]; rfl), and_self]
       | false =>
        simp only [x0, x1, bi, r0, iB, at2, hkE, wb, T, Nat.zero_add, Nat.mul_one, notB_t, notB_f, bc_true, bc_false, true_and, w1, p1, q1, d1, j1, w2, p2, q2, d2, j2, ta, n4, n8, q9, q10, q11, q12, q7, qm]
        exact S.fin_1 (S.led_1 (y := S.tgx vs a k) (by unfold S.suc S.isE; rw [q9, q10, q11, q12, q7, qm]; rfl) (by unfold S.tgx; rw [hn]; rfl))
      | false =>
       cases q4 : eqI (S.kd (S.by1 vs k)) 4 with
       | true => have := hK.1 q4; omega
       | false =>
        cases q8 : eqI (S.kd (S.by1 vs k)) 8 with
        | true =>
         have hs : S.suc vs a k = [S.tgx vs a k, (k : Int) + S.len (S.by1 vs k)] := by unfold S.suc S.isE; rw [q9, q10, q11, q12, q7, q4, q8]; rfl
         simp only [x0, x1, bi, r0, iB, at2, hkE, wb, T, Nat.zero_add, Nat.mul_one, notB_t, notB_f, bc_true, bc_false, true_and, w1, p1, q1, d1, j1, w2, p2, q2, d2, j2, ta, q9, q10, q11, q12, q7, q4, q8]
         exact S.fin_2 (S.led_2 (x := x) hs (by unfold S.tgx; rw [hn]; rfl) (by rw [hn]; omega))
        | false =>
         simp only [x0, x1, bi, r0, iB, at2, hkE, wb, T, Nat.zero_add, Nat.mul_one, notB_t, notB_f, bc_true, bc_false, true_and, w1, p1, q1, d1, j1, w2, p2, q2, d2, j2, ta, q9, q10, q11, q12, q7, q4, q8]
         exact S.fin_1 (S.led_1 (y := (k : Int) + S.len (S.by1 vs k)) (by unfold S.suc S.isE; rw [q9, q10, q11, q12, q7, q4, q8]; rfl) (by rw [hn]; omega))
theorem ld_k (a x i : Int) (et W : Nat) (cp : Cap) (w : Own) (vs : List LV) (h : S.okLd vs W a i = true) : HT Tryd.prog 36 [.int .i64 a, .slice 0 0 W cp, .int .i64 i, .int .i64 x] (Heap.of [.flat [.i .u8] et w vs]) (.ret (.bool (S.led vs a i.toNat x))) (Heap.of [.flat [.i .u8] et w vs]) := by
 obtain ⟨⟨hb, hl⟩, hW, hA, h0, h1, hf⟩ := S.okD_iff.1 h
 obtain ⟨k, rfl⟩ := Int.eq_ofNat_of_zero_le h0
 rw [Int.toNat_natCast] at hf ⊢
 unfold S.fits at hf
 rw [S.an_iff, notB_true, notB_true, ltI_false, ltI_false] at hf
 rcases S.len_cases (S.by1 vs k) with hn | hn | hn
 ·exact ld1_con a x k et W cp w vs hb hl hW hA (by omega) hn (by omega)
 ·exact ld2_con a x k et W cp w vs hb hl hW hA (by omega) hn (by omega)
 ·exact ld3_con a x k et W cp w vs hb hl hW hA (by omega) hn (by omega)
theorem ld_ok : ldE.ok Tryd.prog 36 := by
 intro xs os b r h h3
 unfold ldE at h
 simp only at h
 split at h
 ·injection h with h; injection h with h1 h2; subst h1; subst h2
  exact ld_k _ _ _ _ _ _ _ _ h3
 ·cases h
end Go.Proofs.YtlgfojaalmelhaaDoor.Ev
