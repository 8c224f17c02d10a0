/- Contracts, proved: Frg. -/
import Derived.Test.YtogngajglbgjmaaFrgD
import Derived.Test.YtogngajglbgjmaaFnqP
namespace Go.Proofs.Ytogngajglbgjmaa.Ev
open Go
set_option linter.unusedVariables false
set_option linter.unusedSimpArgs false
set_option maxRecDepth 100000
set_option maxHeartbeats 1000000
namespace S
theorem okH_iff {vs : List LV} {L : Nat} {a i : Int} : okH vs L a i = true ↔ (L ≤ lenL vs ∧ L ≤ 1000000) ∧ (0 ≤ a ∧ -1 ≤ i) ∧ i ≤ 8 ∧ a + i < L := by
  unfold okH; rw [an_iff, an_iff, an_iff, an_iff, an_iff, bleN_iff, bleN_iff, notB_true, notB_true, notB_true, ltI_false, ltI_false, ltI_false, ltI_true]
theorem okR_iff {vs : List LV} {L : Nat} {a : Int} : okR vs L a = true ↔ (okY vs = true ∧ L ≤ lenL vs) ∧ L ≤ 1000000 ∧ 0 ≤ a ∧ a ≤ L := by
  unfold okR; rw [an_iff, an_iff, an_iff, an_iff, bleN_iff, bleN_iff, notB_true, notB_true, ltI_false, ltI_false]
theorem aw_eq {o k : Nat} (h : o ≤ 1000000) (h2 : k ≤ 20) : aw (o : Int) (k : Int) = ((o + k : Nat) : Int) := by unfold aw; rw [wrapK_i64]; omega
theorem am_eq {o k k1 : Nat} (hk : k1 = k + 1) (h : o ≤ 1000000) (h2 : k ≤ 19) : am (o : Int) (k1 : Int) = ((o + k : Nat) : Int) := by
  unfold am; rw [aw_eq h (by omega), wrapK_i64]; omega
section
variable {L o n i : Nat} {vs : List LV}
theorem lv1 (ON : L - o = n) (ha : o ≤ L) (hi : ¬ i < n) : ltI (L : Int) ((o + (i + 1) : Nat) : Int) = true := ltI_true.2 (by omega)
theorem lv2 (ON : L - o = n) (hi : i < n) : ltI (L : Int) ((o + (i + 1) : Nat) : Int) = false := ltI_false.2 (by omega)
theorem lv3 : ltI ((o + i : Nat) : Int) 0 = false := ltI_false.2 (by omega)
theorem lv4 (ON : L - o = n) (hi : i < n) : ltI ((o + i : Nat) : Int) L = true := ltI_true.2 (by omega)
theorem lv5 (ON : L - o = n) (hi : i < n) (hL : L ≤ lenL vs) : Nat.ble (o + i + 1) (lenL vs) = true := bleN_iff.2 (by omega)
theorem lv6 (ON : L - o = n) (hi : i < n) (hL : L ≤ lenL vs) : o + i < lenL vs := by omega
theorem lv7 (ON : L - o = n) (hi : i < n) (hL : L ≤ lenL vs) (hM : L ≤ 1000000) (h : i ≤ 8) : okH vs L o i = true := okH_iff.2 ⟨⟨hL, hM⟩, by omega, by omega, by omega⟩
theorem lv8 (ON : L - o = n) (hi : i < n) : (o : Int) + (i : Int) < L := by omega
end
theorem hz_succ (vs : List LV) (a : Int) (j : Nat) (n : Int) : hz vs a (j + 1) n = hz vs a j (h1 vs a j n) := rfl
theorem hz_eq {vs : List LV} (hY : okY vs = true) {o : Nat} (ho : o ≤ 1000000) : ∀ {j : Nat} {n : Int}, o + j ≤ lenL vs → j ≤ 9 → 0 ≤ n → (n + 1) * 128 ^ j ≤ 9223372036854775808 → hz vs o j n = n * 128 ^ j + acS vs o j
  | 0, n, _, _, _, _ => by show n = n * 1 + 0; omega
  | j + 1, n, h1', h2, h3, h4 => by
    obtain ⟨r0, r1⟩ := okY_rng hY (i := o + j) (by omega)
    have hp : (1 : Int) ≤ 128 ^ j := Int.pow_pos (by decide)
    have p8 : (128 : Int) ^ (j + 1) = 128 * 128 ^ j := by rw [Int.pow_succ, Int.mul_comm]
    have e0 : (wrapK .i64 ((o : Int) + (j : Int))).toNat = o + j := by rw [wrapK_i64]; omega
    have b0 : 0 ≤ intOf (K.atV vs (o + j)) % 128 := by omega
    have b1 : intOf (K.atV vs (o + j)) % 128 ≤ 127 := by omega
    have q1 : (n + 1) * (128 * 128 ^ j) = 128 * (n + 1) * 128 ^ j := by rw [← Int.mul_assoc, Int.mul_comm (n + 1) 128]
    rw [p8, q1] at h4
    have q2 : 128 * (n + 1) ≤ 128 * (n + 1) * 128 ^ j := by
      have := Int.mul_le_mul_of_nonneg_left hp (show 0 ≤ 128 * (n + 1) by omega)
      rw [Int.mul_one] at this; exact this
    have e1 : S.h1 vs o j n = 128 * n + intOf (K.atV vs (o + j)) % 128 := by
      unfold S.h1
      rw [e0, Nat.zero_add, Nat.mul_one]
      have w1 : wrapK .i64 (intOf (K.atV vs (o + j))) = intOf (K.atV vs (o + j)) := by rw [wrapK_i64]; omega
      have w2 : wrapK .i64 (128 * n) = 128 * n := by rw [wrapK_i64]; omega
      rw [w1, w2, Int.tmod_eq_emod_of_nonneg r0, wrapK_i64]; omega
    have m1 : (128 * n + intOf (K.atV vs (o + j)) % 128 + 1) * 128 ^ j ≤ 128 * (n + 1) * 128 ^ j := Int.mul_le_mul_of_nonneg_right (by omega) (by omega)
    rw [hz_succ, e1, hz_eq hY ho (j := j) (by omega) (by omega) (by omega) (by omega)]
    have a1 : acS vs o (j + 1) = acS vs o j + intOf (K.atV vs (o + j)) % 128 * 128 ^ j := rfl
    rw [a1, p8, Int.add_mul, show n * (128 * 128 ^ j) = 128 * n * 128 ^ j by rw [← Int.mul_assoc, Int.mul_comm n 128]]
    omega
theorem hz_ac {vs : List LV} (hY : okY vs = true) {o n L j : Nat} (ho : o ≤ 1000000) (ON : L - o = n) (hi : j < n) (hL : L ≤ lenL vs) (hj : j ≤ 8) : hz vs o (j + 1) 0 = acS vs o (j + 1) := by
  have hp : (128 : Int) ^ (j + 1) ≤ 128 ^ 9 := by
    have := Nat.pow_le_pow_right (show 0 < 128 by decide) (show j + 1 ≤ 9 by omega)
    exact_mod_cast this
  rw [hz_eq hY ho (j := j + 1) (n := 0) (by omega) (by omega) (by decide) (by rw [Int.zero_add, Int.one_mul]; exact hp), Int.zero_mul, Int.zero_add]
theorem eqR {vs : List LV} {o n L k : Nat} (ON : L - o = n) (g : gk vs o n = k) (h : Nat.beq k 0 = false) : rv vs L (o : Int) = gv vs o n ∧ rx vs L (o : Int) = ((o + k : Nat) : Int) := by
  unfold rv rx rk
  rw [Int.toNat_natCast, ON, g, h]
  exact ⟨rfl, by show (o : Int) + (k : Int) = _; omega⟩
theorem eqR0 {vs : List LV} {o n L : Nat} (ON : L - o = n) (g : gk vs o n = 0) : rv vs L (o : Int) = 0 ∧ rx vs L (o : Int) = -1 := by
  unfold rv rx rk
  rw [Int.toNat_natCast, ON, g]
  exact ⟨rfl, rfl⟩
end S
theorem hzR_run (L et : Nat) (cp : Cap) (w : Own) (vs : List LV) (a k n i : Int) : K.RunL (envL []) K.openE 30 19 64 (inner (inner (blkOf 19 2))) hzLB [(0, .slice 0 0 L cp), (1, .int .i64 a), (6, .int .i64 k), (7, .int .i64 n), (8, .int .i64 i)] [.flat [.i .u8] et w vs] Hint.auto ⟨.exit 2, [(1, .int .i64 a), (6, .int .i64 k), (7, .int .i64 (S.hz vs a (i + 1).toNat n))], [], []⟩ =
    (bc (notB (ltI i (0 : Int))) (bc (ltI (wrapK IntKind.i64 (a + i)) (0 : Int)) False (bc (ltI (wrapK IntKind.i64 (a + i)) ↑L) (bc (Nat.ble ((0 : Nat) + Int.toNat (wrapK IntKind.i64 (a + i)) * (1 : Nat) + (1 : Nat)) (lenL vs)) (bc (S.okH vs L a (wrapK IntKind.i64 (i - (1 : Int)))) (K.LOk Try.prog 19 64 (inner (inner (blkOf 19 2))) [(0 : Nat), (1 : Nat), (6 : Nat), (7 : Nat), (8 : Nat)] [LV.slice (0 : Nat) (0 : Nat) L cp, LV.int IntKind.i64 a, LV.int IntKind.i64 k, LV.int IntKind.i64 (wrapK IntKind.i64 (wrapK IntKind.i64 ((128 : Int) * n) + Int.tmod (wrapK IntKind.i64 (intOf (K.atV vs ((0 : Nat) + Int.toNat (wrapK IntKind.i64 (a + i)) * (1 : Nat))))) (128 : Int))), LV.int IntKind.i64 (wrapK IntKind.i64 (i - (1 : Int)))] [LObj.flat [CK.i IntKind.u8] et w vs] { x := LX.exit (2 : Nat), L := [((1 : Nat), LV.int IntKind.i64 a), ((6 : Nat), LV.int IntKind.i64 k), ((7 : Nat), LV.int IntKind.i64 (S.hz vs a (Int.toNat (wrapK IntKind.i64 (i - (1 : Int)) + (1 : Int))) (wrapK IntKind.i64 (wrapK IntKind.i64 ((128 : Int) * n) + Int.tmod (wrapK IntKind.i64 (intOf (K.atV vs ((0 : Nat) + Int.toNat (wrapK IntKind.i64 (a + i)) * (1 : Nat))))) (128 : Int)))))], ch := [], new := [] } ∧ (a = a ∧ (k = k ∧ (S.hz vs a (Int.toNat (i + (1 : Int))) n = S.hz vs a (Int.toNat (wrapK IntKind.i64 (i - (1 : Int)) + (1 : Int))) (wrapK IntKind.i64 (wrapK IntKind.i64 ((128 : Int) * n) + Int.tmod (wrapK IntKind.i64 (intOf (K.atV vs ((0 : Nat) + Int.toNat (wrapK IntKind.i64 (a + i)) * (1 : Nat))))) (128 : Int))) ∧ True)))) False) False) False)) (a = a ∧ (k = k ∧ (S.hz vs a (Int.toNat (i + (1 : Int))) n = n ∧ True)))) := by kernel_rfl
theorem hzR_con (L et : Nat) (cp : Cap) (w : Own) (vs : List LV) (a k n i : Int) (h0 : L ≤ lenL vs) (h1 : L ≤ 1000000) (h2 : 0 ≤ a) (h3 : -1 ≤ i) (h4 : i ≤ 8) (h5 : a + i < L) (h6 : ∀ (n2 : Int), 0 ≤ i → K.LOk Try.prog 19 64 (inner (inner (blkOf 19 2))) [0, 1, 6, 7, 8] [.slice 0 0 L cp, .int .i64 a, .int .i64 k, .int .i64 n2, .int .i64 (i - 1)] [.flat [.i .u8] et w vs] ⟨.exit 2, [(1, .int .i64 a), (6, .int .i64 k), (7, .int .i64 (S.hz vs a ((i - 1) + 1).toNat n2))], [], []⟩)  : GT Try.prog (fun k => .code (inner (inner (blkOf 19 2))) :: .inLoop (inner (inner (blkOf 19 2))) :: k) (Fr.ofL 19 64 [(0, .slice 0 0 L cp), (1, .int .i64 a), (6, .int .i64 k), (7, .int .i64 n), (8, .int .i64 i)] [] none) (Heap.of [.flat [.i .u8] et w vs]) (⟨.exit 2, [(1, .int .i64 a), (6, .int .i64 k), (7, .int .i64 (S.hz vs a (i + 1).toNat n))], [], []⟩ : K.BRes).x (Fr.ofL 19 64 (⟨.exit 2, [(1, .int .i64 a), (6, .int .i64 k), (7, .int .i64 (S.hz vs a (i + 1).toNat n))], [], []⟩ : K.BRes).L [] none) (Heap.of (K.chg [.flat [.i .u8] et w vs] (⟨.exit 2, [(1, .int .i64 a), (6, .int .i64 k), (7, .int .i64 (S.hz vs a (i + 1).toNat n))], [], []⟩ : K.BRes).ch ++ (⟨.exit 2, [(1, .int .i64 a), (6, .int .i64 k), (7, .int .i64 (S.hz vs a (i + 1).toNat n))], [], []⟩ : K.BRes).new)) := by
  refine K.loop_of_run good (A := envL []) (envL_ok ?_) K.openE_ok (k := 30) (ent := hzLB) (cast (hzR_run L et cp w vs a k n i).symm ?_)
  · intro p hp; cases hp
  · have at2 : S.an true true = true := rfl
    by_cases hi : 0 ≤ i
    · have w1 : wrapK .i64 (a + i) = a + i := by rw [wrapK_i64]; omega
      have w2 : wrapK .i64 (i - 1) = i - 1 := by rw [wrapK_i64]; omega
      have e0 : ltI i 0 = false := ltI_false.2 hi
      have e1 : ltI (a + i) 0 = false := ltI_false.2 (by omega)
      have e2 : ltI (a + i) L = true := ltI_true.2 h5
      have b0 : (0 + (a + i).toNat * 1 + 1).ble (lenL vs) = true := S.bleN_iff.2 (by omega)
      have ok : S.okH vs L a (i - 1) = true := S.okH_iff.2 ⟨⟨h0, h1⟩, by omega, by omega, by omega⟩
      have jj : (i + 1).toNat = (i - 1 + 1).toNat + 1 := by omega
      have js : ((i - 1 + 1).toNat : Int) = i := by omega
      have hh : S.hz vs a (i + 1).toNat n = S.hz vs a (i - 1 + 1).toNat (wrapK .i64 (wrapK .i64 (128 * n) + (wrapK .i64 (intOf (K.atV vs (0 + (a + i).toNat * 1)))).tmod 128)) := by
        rw [jj, S.hz_succ]; unfold S.h1; rw [js, w1]
      have ih := h6 (wrapK .i64 (wrapK .i64 (128 * n) + (wrapK .i64 (intOf (K.atV vs (0 + (a + i).toNat * 1)))).tmod 128)) hi
      simp only [w1, w2, e0, e1, e2, b0, ok, notB_f, bc_true, bc_false]
      exact ⟨ih, by simp [hh]⟩
    · have e0 : ltI i 0 = true := ltI_true.2 (by omega)
      have z : (i + 1).toNat = 0 := by omega
      simp only [e0, z, notB_t, bc_false]
      exact ⟨trivial, trivial, rfl, trivial⟩
theorem hz_lok (L et : Nat) (cp : Cap) (w : Own) (vs : List LV) (a k : Int) (h0 : L ≤ lenL vs) (h1 : L ≤ 1000000) (h2 : 0 ≤ a) : ∀ (j : Nat) (n i : Int), -1 ≤ i → i ≤ 8 → a + i < L → (i + 1).toNat = j →
    K.LOk Try.prog 19 64 (inner (inner (blkOf 19 2))) [0, 1, 6, 7, 8] [.slice 0 0 L cp, .int .i64 a, .int .i64 k, .int .i64 n, .int .i64 i] [.flat [.i .u8] et w vs] ⟨.exit 2, [(1, .int .i64 a), (6, .int .i64 k), (7, .int .i64 (S.hz vs a (i + 1).toNat n))], [], []⟩ := by
  intro j
  induction j with
  | zero =>
    intro n i h3 h4 h5 hm
    exact hzR_con L et cp w vs a k n i h0 h1 h2 h3 h4 h5 fun n2 hk => by omega
  | succ j ih =>
    intro n i h3 h4 h5 hm
    exact hzR_con L et cp w vs a k n i h0 h1 h2 h3 h4 h5 fun n2 hk => ih n2 (i - 1) (by omega) (by omega) (by omega) (by omega)
theorem hz_blk (L et : Nat) (cp : Cap) (w : Own) (vs : List LV) (a k n i : Int) (h0 : L ≤ lenL vs) (h1 : L ≤ 1000000) (h2 : 0 ≤ a) (h3 : -1 ≤ i) (h4 : i ≤ 8) (h5 : a + i < L) :
    K.BOk Try.prog 19 64 (blkOf 19 2) [0, 1, 6, 7, 8] [.slice 0 0 L cp, .int .i64 a, .int .i64 k, .int .i64 n, .int .i64 i] [.flat [.i .u8] et w vs] ⟨.normal, [(1, .int .i64 a), (6, .int .i64 k), (7, .int .i64 (S.hz vs a (i + 1).toNat n))], [], []⟩ := by
  have hb : blkOf 19 2 = .block 2 (.loop (inner (inner (blkOf 19 2)))) := by kernel_rfl
  unfold K.BOk
  rw [hb]
  exact K.CT.block (K.GT.loop (hz_lok L et cp w vs a k h0 h1 h2 _ n i h3 h4 h5 rfl))
theorem rget_run (L et : Nat) (cp : Cap) (w : Own) (vs : List LV) (a : Int) : K.bodyF (envB [] (fun g id => bc (Nat.beq g 19) (bc (Nat.beq id 2) (some hzB) (none)) (none))) (K.runF (envB [] (fun g id => bc (Nat.beq g 19) (bc (Nat.beq id 2) (some hzB) (none)) (none))) 30) 19 [.slice 0 0 L cp, .int .i64 a] (Heap.of [.flat [.i .u8] et w vs]) (.skip 7 (.fork (.skip 0 (.fork .auto (.skip 1 (.fork (.skip 7 (.fork (.skip 0 (.fork .auto (.skip 1 (.fork (.skip 7 (.fork (.skip 0 (.fork .auto (.skip 1 (.fork (.skip 7 (.fork (.skip 0 (.fork .auto (.skip 1 (.fork (.skip 7 (.fork (.skip 0 (.fork .auto (.skip 1 (.fork (.skip 7 (.fork (.skip 0 (.fork .auto (.skip 1 (.fork (.skip 7 (.fork (.skip 0 (.fork .auto (.skip 1 (.fork (.skip 7 (.fork (.skip 0 (.fork .auto (.skip 1 (.fork (.skip 7 (.fork (.skip 0 (.fork .auto (.skip 1 (.fork .auto (.skip 6 (.take false .auto)))))) .auto)) (.skip 6 (.take false .auto)))))) .auto)) (.skip 6 (.take false .auto)))))) .auto)) (.skip 6 (.take false .auto)))))) .auto)) (.skip 6 (.take false .auto)))))) .auto)) (.skip 6 (.take false .auto)))))) .auto)) (.skip 6 (.take false .auto)))))) .auto)) (.skip 6 (.take false .auto)))))) .auto)) .auto)))) .auto)) (K.endC K.openE 1 ⟨.ret (.tup [.int .i64 (S.rv vs L a), .int .i64 (S.rx vs L a)]), [], []⟩) =
    (bc (notB (ltI (↑L) (S.aw a 1))) (bc (ltI (S.am a 1) (0 : Int)) False (bc (ltI (S.am a 1) ↑L) (bc (Nat.ble ((0 : Nat) + Int.toNat (S.am a 1) * (1 : Nat) + (1 : Nat)) (lenL vs)) (bc (notB (ltI (intOf (K.atV vs ((0 : Nat) + Int.toNat (S.am a 1) * (1 : Nat)))) (128 : Int))) (bc (notB (ltI (↑L) (S.aw a 2))) (bc (ltI (S.am a 2) (0 : Int)) False (bc (ltI (S.am a 2) ↑L) (bc (Nat.ble ((0 : Nat) + Int.toNat (S.am a 2) * (1 : Nat) + (1 : Nat)) (lenL vs)) (bc (notB (ltI (intOf (K.atV vs ((0 : Nat) + Int.toNat (S.am a 2) * (1 : Nat)))) (128 : Int))) (bc (notB (ltI (↑L) (S.aw a 3))) (bc (ltI (S.am a 3) (0 : Int)) False (bc (ltI (S.am a 3) ↑L) (bc (Nat.ble ((0 : Nat) + Int.toNat (S.am a 3) * (1 : Nat) + (1 : Nat)) (lenL vs)) (bc (notB (ltI (intOf (K.atV vs ((0 : Nat) + Int.toNat (S.am a 3) * (1 : Nat)))) (128 : Int))) (bc (notB (ltI (↑L) (S.aw a 4))) (bc (ltI (S.am a 4) (0 : Int)) False (bc (ltI (S.am a 4) ↑L) (bc (Nat.ble ((0 : Nat) + Int.toNat (S.am a 4) * (1 : Nat) + (1 : Nat)) (lenL vs)) (bc (notB (ltI (intOf (K.atV vs ((0 : Nat) + Int.toNat (S.am a 4) * (1 : Nat)))) (128 : Int))) (bc (notB (ltI (↑L) (S.aw a 5))) (bc (ltI (S.am a 5) (0 : Int)) False (bc (ltI (S.am a 5) ↑L) (bc (Nat.ble ((0 : Nat) + Int.toNat (S.am a 5) * (1 : Nat) + (1 : Nat)) (lenL vs)) (bc (notB (ltI (intOf (K.atV vs ((0 : Nat) + Int.toNat (S.am a 5) * (1 : Nat)))) (128 : Int))) (bc (notB (ltI (↑L) (S.aw a 6))) (bc (ltI (S.am a 6) (0 : Int)) False (bc (ltI (S.am a 6) ↑L) (bc (Nat.ble ((0 : Nat) + Int.toNat (S.am a 6) * (1 : Nat) + (1 : Nat)) (lenL vs)) (bc (notB (ltI (intOf (K.atV vs ((0 : Nat) + Int.toNat (S.am a 6) * (1 : Nat)))) (128 : Int))) (bc (notB (ltI (↑L) (S.aw a 7))) (bc (ltI (S.am a 7) (0 : Int)) False (bc (ltI (S.am a 7) ↑L) (bc (Nat.ble ((0 : Nat) + Int.toNat (S.am a 7) * (1 : Nat) + (1 : Nat)) (lenL vs)) (bc (notB (ltI (intOf (K.atV vs ((0 : Nat) + Int.toNat (S.am a 7) * (1 : Nat)))) (128 : Int))) (bc (notB (ltI (↑L) (S.aw a 8))) (bc (ltI (S.am a 8) (0 : Int)) False (bc (ltI (S.am a 8) ↑L) (bc (Nat.ble ((0 : Nat) + Int.toNat (S.am a 8) * (1 : Nat) + (1 : Nat)) (lenL vs)) (bc (notB (ltI (intOf (K.atV vs ((0 : Nat) + Int.toNat (S.am a 8) * (1 : Nat)))) (128 : Int))) (bc (notB (ltI (↑L) (S.aw a 9))) (bc (ltI (S.am a 9) (0 : Int)) False (bc (ltI (S.am a 9) ↑L) (bc (Nat.ble ((0 : Nat) + Int.toNat (S.am a 9) * (1 : Nat) + (1 : Nat)) (lenL vs)) (bc (notB (ltI (intOf (K.atV vs ((0 : Nat) + Int.toNat (S.am a 9) * (1 : Nat)))) (128 : Int))) (S.rv vs L a = (0 : Int) ∧ (S.rx vs L a = (-1 : Int) ∧ True)) (ltI (S.am a 9) (0 : Int) = false ∧ bc (ltI (S.am a 9) ↑L) (bc (Nat.ble ((0 : Nat) + Int.toNat (S.am a 9) * (1 : Nat) + (1 : Nat)) (lenL vs)) (bc (eqI (intOf (K.atV vs ((0 : Nat) + Int.toNat (S.am a 9) * (1 : Nat)))) (0 : Int)) (S.rv vs L a = (0 : Int) ∧ (S.rx vs L a = (-1 : Int) ∧ True)) (bc (S.okH vs L a (8 : Int)) (K.BOk Try.prog 19 64 (blkOf 19 2) [(0 : Nat), (1 : Nat), (6 : Nat), (7 : Nat), (8 : Nat)] [LV.slice (0 : Nat) (0 : Nat) L cp, LV.int IntKind.i64 a, LV.int IntKind.i64 (9 : Int), LV.int IntKind.i64 (0 : Int), LV.int IntKind.i64 (8 : Int)] [LObj.flat [CK.i IntKind.u8] et w vs] { x := LX.normal, L := [((1 : Nat), LV.int IntKind.i64 a), ((6 : Nat), LV.int IntKind.i64 (9 : Int)), ((7 : Nat), LV.int IntKind.i64 (S.hz vs a (9 : Nat) (0 : Int)))], ch := [], new := [] } ∧ bc (ltI (4611686018427387904 : Int) (S.hz vs a (9 : Nat) (0 : Int))) (S.rv vs L a = (0 : Int) ∧ (S.rx vs L a = (-1 : Int) ∧ True)) (S.rv vs L a = S.hz vs a (9 : Nat) (0 : Int) ∧ (S.rx vs L a = S.aw a 9 ∧ True))) False)) False) False)) False) False)) (S.rv vs L a = (0 : Int) ∧ (S.rx vs L a = (-1 : Int) ∧ True))) (ltI (S.am a 8) (0 : Int) = false ∧ bc (ltI (S.am a 8) ↑L) (bc (Nat.ble ((0 : Nat) + Int.toNat (S.am a 8) * (1 : Nat) + (1 : Nat)) (lenL vs)) (bc (eqI (intOf (K.atV vs ((0 : Nat) + Int.toNat (S.am a 8) * (1 : Nat)))) (0 : Int)) (S.rv vs L a = (0 : Int) ∧ (S.rx vs L a = (-1 : Int) ∧ True)) (bc (S.okH vs L a (7 : Int)) (K.BOk Try.prog 19 64 (blkOf 19 2) [(0 : Nat), (1 : Nat), (6 : Nat), (7 : Nat), (8 : Nat)] [LV.slice (0 : Nat) (0 : Nat) L cp, LV.int IntKind.i64 a, LV.int IntKind.i64 (8 : Int), LV.int IntKind.i64 (0 : Int), LV.int IntKind.i64 (7 : Int)] [LObj.flat [CK.i IntKind.u8] et w vs] { x := LX.normal, L := [((1 : Nat), LV.int IntKind.i64 a), ((6 : Nat), LV.int IntKind.i64 (8 : Int)), ((7 : Nat), LV.int IntKind.i64 (S.hz vs a (8 : Nat) (0 : Int)))], ch := [], new := [] } ∧ bc (ltI (4611686018427387904 : Int) (S.hz vs a (8 : Nat) (0 : Int))) (S.rv vs L a = (0 : Int) ∧ (S.rx vs L a = (-1 : Int) ∧ True)) (S.rv vs L a = S.hz vs a (8 : Nat) (0 : Int) ∧ (S.rx vs L a = S.aw a 8 ∧ True))) False)) False) False)) False) False)) (S.rv vs L a = (0 : Int) ∧ (S.rx vs L a = (-1 : Int) ∧ True))) (ltI (S.am a 7) (0 : Int) = false ∧ bc (ltI (S.am a 7) ↑L) (bc (Nat.ble ((0 : Nat) + Int.toNat (S.am a 7) * (1 : Nat) + (1 : Nat)) (lenL vs)) (bc (eqI (intOf (K.atV vs ((0 : Nat) + Int.toNat (S.am a 7) * (1 : Nat)))) (0 : Int)) (S.rv vs L a = (0 : Int) ∧ (S.rx vs L a = (-1 : Int) ∧ True)) (bc (S.okH vs L a (6 : Int)) (K.BOk Try.prog 19 64 (blkOf 19 2) [(0 : Nat), (1 : Nat), (6 : Nat), (7 : Nat), (8 : Nat)] [LV.slice (0 : Nat) (0 : Nat) L cp, LV.int IntKind.i64 a, LV.int IntKind.i64 (7 : Int), LV.int IntKind.i64 (0 : Int), LV.int IntKind.i64 (6 : Int)] [LObj.flat [CK.i IntKind.u8] et w vs] { x := LX.normal, L := [((1 : Nat), LV.int IntKind.i64 a), ((6 : Nat), LV.int IntKind.i64 (7 : Int)), ((7 : Nat), LV.int IntKind.i64 (S.hz vs a (7 : Nat) (0 : Int)))], ch := [], new := [] } ∧ bc (ltI (4611686018427387904 : Int) (S.hz vs a (7 : Nat) (0 : Int))) (S.rv vs L a = (0 : Int) ∧ (S.rx vs L a = (-1 : Int) ∧ True)) (S.rv vs L a = S.hz vs a (7 : Nat) (0 : Int) ∧ (S.rx vs L a = S.aw a 7 ∧ True))) False)) False) False)) False) False)) (S.rv vs L a = (0 : Int) ∧ (S.rx vs L a = (-1 : Int) ∧ True))) (ltI (S.am a 6) (0 : Int) = false ∧ bc (ltI (S.am a 6) ↑L) (bc (Nat.ble ((0 : Nat) + Int.toNat (S.am a 6) * (1 : Nat) + (1 : Nat)) (lenL vs)) (bc (eqI (intOf (K.atV vs ((0 : Nat) + Int.toNat (S.am a 6) * (1 : Nat)))) (0 : Int)) (S.rv vs L a = (0 : Int) ∧ (S.rx vs L a = (-1 : Int) ∧ True)) (bc (S.okH vs L a (5 : Int)) (K.BOk Try.prog 19 64 (blkOf 19 2) [(0 : Nat), (1 : Nat), (6 : Nat), (7 : Nat), (8 : Nat)] [LV.slice (0 : Nat) (0 : Nat) L cp, LV.int IntKind.i64 a, LV.int IntKind.i64 (6 : Int), LV.int IntKind.i64 (0 : Int), LV.int IntKind.i64 (5 : Int)] [LObj.flat [CK.i IntKind.u8] et w vs] { x := LX.normal, L := [((1 : Nat), LV.int IntKind.i64 a), ((6 : Nat), LV.int IntKind.i64 (6 : Int)), ((7 : Nat), LV.int IntKind.i64 (S.hz vs a (6 : Nat) (0 : Int)))], ch := [], new := [] } ∧ bc (ltI (4611686018427387904 : Int) (S.hz vs a (6 : Nat) (0 : Int))) (S.rv vs L a = (0 : Int) ∧ (S.rx vs L a = (-1 : Int) ∧ True)) (S.rv vs L a = S.hz vs a (6 : Nat) (0 : Int) ∧ (S.rx vs L a = S.aw a 6 ∧ True))) False)) False) False)) False) False)) (S.rv vs L a = (0 : Int) ∧ (S.rx vs L a = (-1 : Int) ∧ True))) (ltI (S.am a 5) (0 : Int) = false ∧ bc (ltI (S.am a 5) ↑L) (bc (Nat.ble ((0 : Nat) + Int.toNat (S.am a 5) * (1 : Nat) + (1 : Nat)) (lenL vs)) (bc (eqI (intOf (K.atV vs ((0 : Nat) + Int.toNat (S.am a 5) * (1 : Nat)))) (0 : Int)) (S.rv vs L a = (0 : Int) ∧ (S.rx vs L a = (-1 : Int) ∧ True)) (bc (S.okH vs L a (4 : Int)) (K.BOk Try.prog 19 64 (blkOf 19 2) [(0 : Nat), (1 : Nat), (6 : Nat), (7 : Nat), (8 : Nat)] [LV.slice (0 : Nat) (0 : Nat) L cp, LV.int IntKind.i64 a, LV.int IntKind.i64 (5 : Int), LV.int IntKind.i64 (0 : Int), LV.int IntKind.i64 (4 : Int)] [LObj.flat [CK.i IntKind.u8] et w vs] { x := LX.normal, L := [((1 : Nat), LV.int IntKind.i64 a), ((6 : Nat), LV.int IntKind.i64 (5 : Int)), ((7 : Nat), LV.int IntKind.i64 (S.hz vs a (5 : Nat) (0 : Int)))], ch := [], new := [] } ∧ bc (ltI (4611686018427387904 : Int) (S.hz vs a (5 : Nat) (0 : Int))) (S.rv vs L a = (0 : Int) ∧ (S.rx vs L a = (-1 : Int) ∧ True)) (S.rv vs L a = S.hz vs a (5 : Nat) (0 : Int) ∧ (S.rx vs L a = S.aw a 5 ∧ True))) False)) False) False)) False) False)) (S.rv vs L a = (0 : Int) ∧ (S.rx vs L a = (-1 : Int) ∧ True))) (ltI (S.am a 4) (0 : Int) = false ∧ bc (ltI (S.am a 4) ↑L) (bc (Nat.ble ((0 : Nat) + Int.toNat (S.am a 4) * (1 : Nat) + (1 : Nat)) (lenL vs)) (bc (eqI (intOf (K.atV vs ((0 : Nat) + Int.toNat (S.am a 4) * (1 : Nat)))) (0 : Int)) (S.rv vs L a = (0 : Int) ∧ (S.rx vs L a = (-1 : Int) ∧ True)) (bc (S.okH vs L a (3 : Int)) (K.BOk Try.prog 19 64 (blkOf 19 2) [(0 : Nat), (1 : Nat), (6 : Nat), (7 : Nat), (8 : Nat)] [LV.slice (0 : Nat) (0 : Nat) L cp, LV.int IntKind.i64 a, LV.int IntKind.i64 (4 : Int), LV.int IntKind.i64 (0 : Int), LV.int IntKind.i64 (3 : Int)] [LObj.flat [CK.i IntKind.u8] et w vs] { x := LX.normal, L := [((1 : Nat), LV.int IntKind.i64 a), ((6 : Nat), LV.int IntKind.i64 (4 : Int)), ((7 : Nat), LV.int IntKind.i64 (S.hz vs a (4 : Nat) (0 : Int)))], ch := [], new := [] } ∧ bc (ltI (4611686018427387904 : Int) (S.hz vs a (4 : Nat) (0 : Int))) (S.rv vs L a = (0 : Int) ∧ (S.rx vs L a = (-1 : Int) ∧ True)) (S.rv vs L a = S.hz vs a (4 : Nat) (0 : Int) ∧ (S.rx vs L a = S.aw a 4 ∧ True))) False)) False) False)) False) False)) (S.rv vs L a = (0 : Int) ∧ (S.rx vs L a = (-1 : Int) ∧ True))) (ltI (S.am a 3) (0 : Int) = false ∧ bc (ltI (S.am a 3) ↑L) (bc (Nat.ble ((0 : Nat) + Int.toNat (S.am a 3) * (1 : Nat) + (1 : Nat)) (lenL vs)) (bc (eqI (intOf (K.atV vs ((0 : Nat) + Int.toNat (S.am a 3) * (1 : Nat)))) (0 : Int)) (S.rv vs L a = (0 : Int) ∧ (S.rx vs L a = (-1 : Int) ∧ True)) (bc (S.okH vs L a (2 : Int)) (K.BOk Try.prog 19 64 (blkOf 19 2) [(0 : Nat), (1 : Nat), (6 : Nat), (7 : Nat), (8 : Nat)] [LV.slice (0 : Nat) (0 : Nat) L cp, LV.int IntKind.i64 a, LV.int IntKind.i64 (3 : Int), LV.int IntKind.i64 (0 : Int), LV.int IntKind.i64 (2 : Int)] [LObj.flat [CK.i IntKind.u8] et w vs] { x := LX.normal, L := [((1 : Nat), LV.int IntKind.i64 a), ((6 : Nat), LV.int IntKind.i64 (3 : Int)), ((7 : Nat), LV.int IntKind.i64 (S.hz vs a (3 : Nat) (0 : Int)))], ch := [], new := [] } ∧ bc (ltI (4611686018427387904 : Int) (S.hz vs a (3 : Nat) (0 : Int))) (S.rv vs L a = (0 : Int) ∧ (S.rx vs L a = (-1 : Int) ∧ True)) (S.rv vs L a = S.hz vs a (3 : Nat) (0 : Int) ∧ (S.rx vs L a = S.aw a 3 ∧ True))) False)) False) False)) False) False)) (S.rv vs L a = (0 : Int) ∧ (S.rx vs L a = (-1 : Int) ∧ True))) (ltI (S.am a 2) (0 : Int) = false ∧ bc (ltI (S.am a 2) ↑L) (bc (Nat.ble ((0 : Nat) + Int.toNat (S.am a 2) * (1 : Nat) + (1 : Nat)) (lenL vs)) (bc (eqI (intOf (K.atV vs ((0 : Nat) + Int.toNat (S.am a 2) * (1 : Nat)))) (0 : Int)) (S.rv vs L a = (0 : Int) ∧ (S.rx vs L a = (-1 : Int) ∧ True)) (bc (S.okH vs L a (1 : Int)) (K.BOk Try.prog 19 64 (blkOf 19 2) [(0 : Nat), (1 : Nat), (6 : Nat), (7 : Nat), (8 : Nat)] [LV.slice (0 : Nat) (0 : Nat) L cp, LV.int IntKind.i64 a, LV.int IntKind.i64 (2 : Int), LV.int IntKind.i64 (0 : Int), LV.int IntKind.i64 (1 : Int)] [LObj.flat [CK.i IntKind.u8] et w vs] { x := LX.normal, L := [((1 : Nat), LV.int IntKind.i64 a), ((6 : Nat), LV.int IntKind.i64 (2 : Int)), ((7 : Nat), LV.int IntKind.i64 (S.hz vs a (2 : Nat) (0 : Int)))], ch := [], new := [] } ∧ bc (ltI (4611686018427387904 : Int) (S.hz vs a (2 : Nat) (0 : Int))) (S.rv vs L a = (0 : Int) ∧ (S.rx vs L a = (-1 : Int) ∧ True)) (S.rv vs L a = S.hz vs a (2 : Nat) (0 : Int) ∧ (S.rx vs L a = S.aw a 2 ∧ True))) False)) False) False)) False) False)) (S.rv vs L a = (0 : Int) ∧ (S.rx vs L a = (-1 : Int) ∧ True))) (bc (S.okH vs L a (0 : Int)) (K.BOk Try.prog 19 64 (blkOf 19 2) [(0 : Nat), (1 : Nat), (6 : Nat), (7 : Nat), (8 : Nat)] [LV.slice (0 : Nat) (0 : Nat) L cp, LV.int IntKind.i64 a, LV.int IntKind.i64 (1 : Int), LV.int IntKind.i64 (0 : Int), LV.int IntKind.i64 (0 : Int)] [LObj.flat [CK.i IntKind.u8] et w vs] { x := LX.normal, L := [((1 : Nat), LV.int IntKind.i64 a), ((6 : Nat), LV.int IntKind.i64 (1 : Int)), ((7 : Nat), LV.int IntKind.i64 (S.hz vs a (1 : Nat) (0 : Int)))], ch := [], new := [] } ∧ bc (ltI (4611686018427387904 : Int) (S.hz vs a (1 : Nat) (0 : Int))) (S.rv vs L a = (0 : Int) ∧ (S.rx vs L a = (-1 : Int) ∧ True)) (S.rv vs L a = S.hz vs a (1 : Nat) (0 : Int) ∧ (S.rx vs L a = S.aw a 1 ∧ True))) False)) False) False)) (S.rv vs L a = (0 : Int) ∧ (S.rx vs L a = (-1 : Int) ∧ True))) := by kernel_rfl
theorem rget_con (L et : Nat) (cp : Cap) (w : Own) (vs : List LV) (a : Int) (h0 : S.okR vs L a = true) : HT Try.prog 19 [.slice 0 0 L cp, .int .i64 a] (Heap.of [.flat [.i .u8] et w vs]) (⟨.ret (.tup [.int .i64 (S.rv vs L a), .int .i64 (S.rx vs L a)]), [], []⟩ : K.CRes).e (Heap.of (K.chg [.flat [.i .u8] et w vs] (⟨.ret (.tup [.int .i64 (S.rv vs L a), .int .i64 (S.rx vs L a)]), [], []⟩ : K.CRes).ch ++ (⟨.ret (.tup [.int .i64 (S.rv vs L a), .int .i64 (S.rx vs L a)]), [], []⟩ : K.CRes).new)) := by
  refine K.con_of_run good (A := envB [] (fun g id => bc (Nat.beq g 19) (bc (Nat.beq id 2) (some hzB) (none)) (none))) (envB_ok ?_) K.openE_ok (k := 30) (cast (rget_run L et cp w vs a).symm ?_)
  · intro p hp; cases hp
  · obtain ⟨⟨hY, hL⟩, hM, hoo, ha2⟩ := S.okR_iff.1 h0
    obtain ⟨o, rfl⟩ := Int.eq_ofNat_of_zero_le hoo
    have ha3 : o ≤ L := Int.ofNat_le.1 ha2
    have ho : o ≤ 1000000 := Nat.le_trans ha3 hM
    have T : ∀ x : Nat, (x : Int).toNat = x := Int.toNat_natCast
    obtain ⟨n, ON⟩ : ∃ n, L - o = n := ⟨_, rfl⟩
    have C0 : S.gt vs o n 9 0 0 = S.gt vs o n 9 0 (S.acS vs o 0) := rfl
    have A1 : S.aw (o : Int) 1 = ((o + 1 : Nat) : Int) := S.aw_eq (k := 1) ho (by decide)
    have A2 : S.aw (o : Int) 2 = ((o + 2 : Nat) : Int) := S.aw_eq (k := 2) ho (by decide)
    have A3 : S.aw (o : Int) 3 = ((o + 3 : Nat) : Int) := S.aw_eq (k := 3) ho (by decide)
    have A4 : S.aw (o : Int) 4 = ((o + 4 : Nat) : Int) := S.aw_eq (k := 4) ho (by decide)
    have A5 : S.aw (o : Int) 5 = ((o + 5 : Nat) : Int) := S.aw_eq (k := 5) ho (by decide)
    have A6 : S.aw (o : Int) 6 = ((o + 6 : Nat) : Int) := S.aw_eq (k := 6) ho (by decide)
    have A7 : S.aw (o : Int) 7 = ((o + 7 : Nat) : Int) := S.aw_eq (k := 7) ho (by decide)
    have A8 : S.aw (o : Int) 8 = ((o + 8 : Nat) : Int) := S.aw_eq (k := 8) ho (by decide)
    have A9 : S.aw (o : Int) 9 = ((o + 9 : Nat) : Int) := S.aw_eq (k := 9) ho (by decide)
    have M0 : S.am (o : Int) 1 = ((o + 0 : Nat) : Int) := S.am_eq (k := 0) (k1 := 1) rfl ho (by decide)
    have M1 : S.am (o : Int) 2 = ((o + 1 : Nat) : Int) := S.am_eq (k := 1) (k1 := 2) rfl ho (by decide)
    have M2 : S.am (o : Int) 3 = ((o + 2 : Nat) : Int) := S.am_eq (k := 2) (k1 := 3) rfl ho (by decide)
    have M3 : S.am (o : Int) 4 = ((o + 3 : Nat) : Int) := S.am_eq (k := 3) (k1 := 4) rfl ho (by decide)
    have M4 : S.am (o : Int) 5 = ((o + 4 : Nat) : Int) := S.am_eq (k := 4) (k1 := 5) rfl ho (by decide)
    have M5 : S.am (o : Int) 6 = ((o + 5 : Nat) : Int) := S.am_eq (k := 5) (k1 := 6) rfl ho (by decide)
    have M6 : S.am (o : Int) 7 = ((o + 6 : Nat) : Int) := S.am_eq (k := 6) (k1 := 7) rfl ho (by decide)
    have M7 : S.am (o : Int) 8 = ((o + 7 : Nat) : Int) := S.am_eq (k := 7) (k1 := 8) rfl ho (by decide)
    have M8 : S.am (o : Int) 9 = ((o + 8 : Nat) : Int) := S.am_eq (k := 8) (k1 := 9) rfl ho (by decide)
    by_cases hi0 : 0 < n
    rotate_left
    · obtain ⟨g0, g1⟩ := S.eqR0 ON (S.gk_end (j := 8) (i := 0) C0 hi0)
      have e : ltI (L : Int) ((o + 1 : Nat) : Int) = true := S.lv1 (i := 0) ON ha3 hi0
      simp only [A1, e, notB_t, bc_false]
      exact ⟨g0, g1, trivial⟩
    have e0 : ltI (L : Int) ((o + 1 : Nat) : Int) = false := S.lv2 (i := 0) ON hi0
    have f0 : ltI ((o + 0 : Nat) : Int) 0 = false := S.lv3
    have m0 : ltI ((o + 0 : Nat) : Int) L = true := S.lv4 ON hi0
    have b0 : Nat.ble (o + 0 + 1) (lenL vs) = true := S.lv5 ON hi0 hL
    have r0 := S.okY_rng hY (i := o + 0) (S.lv6 ON hi0 hL)
    by_cases x0 : intOf (K.atV vs (o + 0)) < 128
    · have Z : S.hz vs o 1 0 = S.acS vs o 1 := S.hz_ac hY (j := 0) ho ON hi0 hL (by decide)
      have ok : S.okH vs L o 0 = true := S.lv7 (i := 0) ON hi0 hL hM (by decide)
      have B : K.BOk Try.prog 19 64 (blkOf 19 2) [0, 1, 6, 7, 8] [.slice 0 0 L cp, .int .i64 o, .int .i64 1, .int .i64 0, .int .i64 0] [.flat [.i .u8] et w vs] ⟨.normal, [(1, .int .i64 o), (6, .int .i64 1), (7, .int .i64 (S.hz vs o 1 0))], [], []⟩ := hz_blk L et cp w vs o 1 0 0 hL hM hoo (by decide) (by decide) (S.lv8 (i := 0) ON hi0)
      rw [Z] at B
      by_cases w : 4611686018427387904 < S.acS vs o 1
      · obtain ⟨g0, g1⟩ := S.eqR0 ON (S.gk_big (j := 8) (i := 0) C0 hi0 x0 r0 w)
        simp only [A1, M0, e0, f0, m0, b0, ltI_true.2 x0, T, Nat.zero_add, Nat.mul_one, notB_t, notB_f, bc_true, bc_false, true_and, ok, Z, ltI_true.2 w, g0, g1]
        exact ⟨B, trivial⟩
      have G := S.gk_num (j := 8) (i := 0) C0 hi0 x0 (.inl rfl) r0 (Int.not_lt.1 w)
      obtain ⟨g0, g1⟩ := S.eqR ON G.1 rfl
      simp only [A1, M0, e0, f0, m0, b0, ltI_true.2 x0, T, Nat.zero_add, Nat.mul_one, notB_t, notB_f, bc_true, bc_false, true_and, ok, Z, ltI_false.2 (Int.not_lt.1 w), g0, g1, G.2]
      exact ⟨B, trivial⟩
    have C1 := S.gk_more (j := 8) (i := 0) C0 hi0 x0 r0
    simp only [A1, M0, e0, f0, m0, b0, ltI_false.2 (Int.not_lt.1 x0), T, Nat.zero_add, Nat.mul_one, notB_t, notB_f, bc_true, bc_false, true_and]
    by_cases hi1 : 1 < n
    rotate_left
    · obtain ⟨g0, g1⟩ := S.eqR0 ON (S.gk_end (j := 7) (i := 1) C1 hi1)
      have e : ltI (L : Int) ((o + 2 : Nat) : Int) = true := S.lv1 (i := 1) ON ha3 hi1
      simp only [A2, e, notB_t, bc_false]
      exact ⟨g0, g1, trivial⟩
    have e1 : ltI (L : Int) ((o + 2 : Nat) : Int) = false := S.lv2 (i := 1) ON hi1
    have f1 : ltI ((o + 1 : Nat) : Int) 0 = false := S.lv3
    have m1 : ltI ((o + 1 : Nat) : Int) L = true := S.lv4 ON hi1
    have b1 : Nat.ble (o + 1 + 1) (lenL vs) = true := S.lv5 ON hi1 hL
    have r1 := S.okY_rng hY (i := o + 1) (S.lv6 ON hi1 hL)
    by_cases x1 : intOf (K.atV vs (o + 1)) < 128
    · have Z : S.hz vs o 2 0 = S.acS vs o 2 := S.hz_ac hY (j := 1) ho ON hi1 hL (by decide)
      by_cases z : intOf (K.atV vs (o + 1)) = 0
      · obtain ⟨g0, g1⟩ := S.eqR0 ON (S.gk_zero (j := 7) (i := 1) C1 hi1 x1 (by decide) z)
        simp only [A2, M1, e1, f1, m1, b1, ltI_true.2 x1, T, Nat.zero_add, Nat.mul_one, notB_t, notB_f, bc_true, bc_false, true_and, eqI_true.2 z, g0, g1]
      have ok : S.okH vs L o 1 = true := S.lv7 (i := 1) ON hi1 hL hM (by decide)
      have B : K.BOk Try.prog 19 64 (blkOf 19 2) [0, 1, 6, 7, 8] [.slice 0 0 L cp, .int .i64 o, .int .i64 2, .int .i64 0, .int .i64 1] [.flat [.i .u8] et w vs] ⟨.normal, [(1, .int .i64 o), (6, .int .i64 2), (7, .int .i64 (S.hz vs o 2 0))], [], []⟩ := hz_blk L et cp w vs o 2 0 1 hL hM hoo (by decide) (by decide) (S.lv8 (i := 1) ON hi1)
      rw [Z] at B
      by_cases w : 4611686018427387904 < S.acS vs o 2
      · obtain ⟨g0, g1⟩ := S.eqR0 ON (S.gk_big (j := 7) (i := 1) C1 hi1 x1 r1 w)
        simp only [A2, M1, e1, f1, m1, b1, ltI_true.2 x1, T, Nat.zero_add, Nat.mul_one, notB_t, notB_f, bc_true, bc_false, true_and, eqI_false.2 z, ok, Z, ltI_true.2 w, g0, g1]
        exact ⟨B, trivial⟩
      have G := S.gk_num (j := 7) (i := 1) C1 hi1 x1 (.inr z) r1 (Int.not_lt.1 w)
      obtain ⟨g0, g1⟩ := S.eqR ON G.1 rfl
      simp only [A2, M1, e1, f1, m1, b1, ltI_true.2 x1, T, Nat.zero_add, Nat.mul_one, notB_t, notB_f, bc_true, bc_false, true_and, eqI_false.2 z, ok, Z, ltI_false.2 (Int.not_lt.1 w), g0, g1, G.2]
      exact ⟨B, trivial⟩
    have C2 := S.gk_more (j := 7) (i := 1) C1 hi1 x1 r1
    simp only [A2, M1, e1, f1, m1, b1, ltI_false.2 (Int.not_lt.1 x1), T, Nat.zero_add, Nat.mul_one, notB_t, notB_f, bc_true, bc_false, true_and]
    by_cases hi2 : 2 < n
    rotate_left
    · obtain ⟨g0, g1⟩ := S.eqR0 ON (S.gk_end (j := 6) (i := 2) C2 hi2)
      have e : ltI (L : Int) ((o + 3 : Nat) : Int) = true := S.lv1 (i := 2) ON ha3 hi2
      simp only [A3, e, notB_t, bc_false]
      exact ⟨g0, g1, trivial⟩
    have e2 : ltI (L : Int) ((o + 3 : Nat) : Int) = false := S.lv2 (i := 2) ON hi2
    have f2 : ltI ((o + 2 : Nat) : Int) 0 = false := S.lv3
    have m2 : ltI ((o + 2 : Nat) : Int) L = true := S.lv4 ON hi2
    have b2 : Nat.ble (o + 2 + 1) (lenL vs) = true := S.lv5 ON hi2 hL
    have r2 := S.okY_rng hY (i := o + 2) (S.lv6 ON hi2 hL)
    by_cases x2 : intOf (K.atV vs (o + 2)) < 128
    · have Z : S.hz vs o 3 0 = S.acS vs o 3 := S.hz_ac hY (j := 2) ho ON hi2 hL (by decide)
      by_cases z : intOf (K.atV vs (o + 2)) = 0
      · obtain ⟨g0, g1⟩ := S.eqR0 ON (S.gk_zero (j := 6) (i := 2) C2 hi2 x2 (by decide) z)
        simp only [A3, M2, e2, f2, m2, b2, ltI_true.2 x2, T, Nat.zero_add, Nat.mul_one, notB_t, notB_f, bc_true, bc_false, true_and, eqI_true.2 z, g0, g1]
      have ok : S.okH vs L o 2 = true := S.lv7 (i := 2) ON hi2 hL hM (by decide)
      have B : K.BOk Try.prog 19 64 (blkOf 19 2) [0, 1, 6, 7, 8] [.slice 0 0 L cp, .int .i64 o, .int .i64 3, .int .i64 0, .int .i64 2] [.flat [.i .u8] et w vs] ⟨.normal, [(1, .int .i64 o), (6, .int .i64 3), (7, .int .i64 (S.hz vs o 3 0))], [], []⟩ := hz_blk L et cp w vs o 3 0 2 hL hM hoo (by decide) (by decide) (S.lv8 (i := 2) ON hi2)
      rw [Z] at B
      by_cases w : 4611686018427387904 < S.acS vs o 3
      · obtain ⟨g0, g1⟩ := S.eqR0 ON (S.gk_big (j := 6) (i := 2) C2 hi2 x2 r2 w)
        simp only [A3, M2, e2, f2, m2, b2, ltI_true.2 x2, T, Nat.zero_add, Nat.mul_one, notB_t, notB_f, bc_true, bc_false, true_and, eqI_false.2 z, ok, Z, ltI_true.2 w, g0, g1]
        exact ⟨B, trivial⟩
      have G := S.gk_num (j := 6) (i := 2) C2 hi2 x2 (.inr z) r2 (Int.not_lt.1 w)
      obtain ⟨g0, g1⟩ := S.eqR ON G.1 rfl
      simp only [A3, M2, e2, f2, m2, b2, ltI_true.2 x2, T, Nat.zero_add, Nat.mul_one, notB_t, notB_f, bc_true, bc_false, true_and, eqI_false.2 z, ok, Z, ltI_false.2 (Int.not_lt.1 w), g0, g1, G.2]
      exact ⟨B, trivial⟩
    have C3 := S.gk_more (j := 6) (i := 2) C2 hi2 x2 r2
    simp only [A3, M2, e2, f2, m2, b2, ltI_false.2 (Int.not_lt.1 x2), T, Nat.zero_add, Nat.mul_one, notB_t, notB_f, bc_true, bc_false, true_and]
    by_cases hi3 : 3 < n
    rotate_left
    · obtain ⟨g0, g1⟩ := S.eqR0 ON (S.gk_end (j := 5) (i := 3) C3 hi3)
      have e : ltI (L : Int) ((o + 4 : Nat) : Int) = true := S.lv1 (i := 3) ON ha3 hi3
      simp only [A4, e, notB_t, bc_false]
      exact ⟨g0, g1, trivial⟩
    have e3 : ltI (L : Int) ((o + 4 : Nat) : Int) = false := S.lv2 (i := 3) ON hi3
    have f3 : ltI ((o + 3 : Nat) : Int) 0 = false := S.lv3
    have m3 : ltI ((o + 3 : Nat) : Int) L = true := S.lv4 ON hi3
    have b3 : Nat.ble (o + 3 + 1) (lenL vs) = true := S.lv5 ON hi3 hL
    have r3 := S.okY_rng hY (i := o + 3) (S.lv6 ON hi3 hL)
    by_cases x3 : intOf (K.atV vs (o + 3)) < 128
    · have Z : S.hz vs o 4 0 = S.acS vs o 4 := S.hz_ac hY (j := 3) ho ON hi3 hL (by decide)
      by_cases z : intOf (K.atV vs (o + 3)) = 0
      · obtain ⟨g0, g1⟩ := S.eqR0 ON (S.gk_zero (j := 5) (i := 3) C3 hi3 x3 (by decide) z)
        simp only [A4, M3, e3, f3, m3, b3, ltI_true.2 x3, T, Nat.zero_add, Nat.mul_one, notB_t, notB_f, bc_true, bc_false, true_and, eqI_true.2 z, g0, g1]
      have ok : S.okH vs L o 3 = true := S.lv7 (i := 3) ON hi3 hL hM (by decide)
      have B : K.BOk Try.prog 19 64 (blkOf 19 2) [0, 1, 6, 7, 8] [.slice 0 0 L cp, .int .i64 o, .int .i64 4, .int .i64 0, .int .i64 3] [.flat [.i .u8] et w vs] ⟨.normal, [(1, .int .i64 o), (6, .int .i64 4), (7, .int .i64 (S.hz vs o 4 0))], [], []⟩ := hz_blk L et cp w vs o 4 0 3 hL hM hoo (by decide) (by decide) (S.lv8 (i := 3) ON hi3)
      rw [Z] at B
      by_cases w : 4611686018427387904 < S.acS vs o 4
      · obtain ⟨g0, g1⟩ := S.eqR0 ON (S.gk_big (j := 5) (i := 3) C3 hi3 x3 r3 w)
        simp only [A4, M3, e3, f3, m3, b3, ltI_true.2 x3, T, Nat.zero_add, Nat.mul_one, notB_t, notB_f, bc_true, bc_false, true_and, eqI_false.2 z, ok, Z, ltI_true.2 w, g0, g1]
        exact ⟨B, trivial⟩
      have G := S.gk_num (j := 5) (i := 3) C3 hi3 x3 (.inr z) r3 (Int.not_lt.1 w)
      obtain ⟨g0, g1⟩ := S.eqR ON G.1 rfl
      simp only [A4, M3, e3, f3, m3, b3, ltI_true.2 x3, T, Nat.zero_add, Nat.mul_one, notB_t, notB_f, bc_true, bc_false, true_and, eqI_false.2 z, ok, Z, ltI_false.2 (Int.not_lt.1 w), g0, g1, G.2]
      exact ⟨B, trivial⟩
    have C4 := S.gk_more (j := 5) (i := 3) C3 hi3 x3 r3
    simp only [A4, M3, e3, f3, m3, b3, ltI_false.2 (Int.not_lt.1 x3), T, Nat.zero_add, Nat.mul_one, notB_t, notB_f, bc_true, bc_false, true_and]
    by_cases hi4 : 4 < n
    rotate_left
    · obtain ⟨g0, g1⟩ := S.eqR0 ON (S.gk_end (j := 4) (i := 4) C4 hi4)
      have e : ltI (L : Int) ((o + 5 : Nat) : Int) = true := S.lv1 (i := 4) ON ha3 hi4
      simp only [A5, e, notB_t, bc_false]
      exact ⟨g0, g1, trivial⟩
    have e4 : ltI (L : Int) ((o + 5 : Nat) : Int) = false := S.lv2 (i := 4) ON hi4
    have f4 : ltI ((o + 4 : Nat) : Int) 0 = false := S.lv3
    have m4 : ltI ((o + 4 : Nat) : Int) L = true := S.lv4 ON hi4
    have b4 : Nat.ble (o + 4 + 1) (lenL vs) = true := S.lv5 ON hi4 hL
    have r4 := S.okY_rng hY (i := o + 4) (S.lv6 ON hi4 hL)
    by_cases x4 : intOf (K.atV vs (o + 4)) < 128
    · have Z : S.hz vs o 5 0 = S.acS vs o 5 := S.hz_ac hY (j := 4) ho ON hi4 hL (by decide)
      by_cases z : intOf (K.atV vs (o + 4)) = 0
      · obtain ⟨g0, g1⟩ := S.eqR0 ON (S.gk_zero (j := 4) (i := 4) C4 hi4 x4 (by decide) z)
        simp only [A5, M4, e4, f4, m4, b4, ltI_true.2 x4, T, Nat.zero_add, Nat.mul_one, notB_t, notB_f, bc_true, bc_false, true_and, eqI_true.2 z, g0, g1]
      have ok : S.okH vs L o 4 = true := S.lv7 (i := 4) ON hi4 hL hM (by decide)
      have B : K.BOk Try.prog 19 64 (blkOf 19 2) [0, 1, 6, 7, 8] [.slice 0 0 L cp, .int .i64 o, .int .i64 5, .int .i64 0, .int .i64 4] [.flat [.i .u8] et w vs] ⟨.normal, [(1, .int .i64 o), (6, .int .i64 5), (7, .int .i64 (S.hz vs o 5 0))], [], []⟩ := hz_blk L et cp w vs o 5 0 4 hL hM hoo (by decide) (by decide) (S.lv8 (i := 4) ON hi4)
      rw [Z] at B
      by_cases w : 4611686018427387904 < S.acS vs o 5
      · obtain ⟨g0, g1⟩ := S.eqR0 ON (S.gk_big (j := 4) (i := 4) C4 hi4 x4 r4 w)
        simp only [A5, M4, e4, f4, m4, b4, ltI_true.2 x4, T, Nat.zero_add, Nat.mul_one, notB_t, notB_f, bc_true, bc_false, true_and, eqI_false.2 z, ok, Z, ltI_true.2 w, g0, g1]
        exact ⟨B, trivial⟩
      have G := S.gk_num (j := 4) (i := 4) C4 hi4 x4 (.inr z) r4 (Int.not_lt.1 w)
      obtain ⟨g0, g1⟩ := S.eqR ON G.1 rfl
      simp only [A5, M4, e4, f4, m4, b4, ltI_true.2 x4, T, Nat.zero_add, Nat.mul_one, notB_t, notB_f, bc_true, bc_false, true_and, eqI_false.2 z, ok, Z, ltI_false.2 (Int.not_lt.1 w), g0, g1, G.2]
      exact ⟨B, trivial⟩
    have C5 := S.gk_more (j := 4) (i := 4) C4 hi4 x4 r4
    simp only [A5, M4, e4, f4, m4, b4, ltI_false.2 (Int.not_lt.1 x4), T, Nat.zero_add, Nat.mul_one, notB_t, notB_f, bc_true, bc_false, true_and]
    by_cases hi5 : 5 < n
    rotate_left
    · obtain ⟨g0, g1⟩ := S.eqR0 ON (S.gk_end (j := 3) (i := 5) C5 hi5)
      have e : ltI (L : Int) ((o + 6 : Nat) : Int) = true := S.lv1 (i := 5) ON ha3 hi5
      simp only [A6, e, notB_t, bc_false]
      exact ⟨g0, g1, trivial⟩
    have e5 : ltI (L : Int) ((o + 6 : Nat) : Int) = false := S.lv2 (i := 5) ON hi5
    have f5 : ltI ((o + 5 : Nat) : Int) 0 = false := S.lv3
    have m5 : ltI ((o + 5 : Nat) : Int) L = true := S.lv4 ON hi5
    have b5 : Nat.ble (o + 5 + 1) (lenL vs) = true := S.lv5 ON hi5 hL
    have r5 := S.okY_rng hY (i := o + 5) (S.lv6 ON hi5 hL)
    by_cases x5 : intOf (K.atV vs (o + 5)) < 128
    · have Z : S.hz vs o 6 0 = S.acS vs o 6 := S.hz_ac hY (j := 5) ho ON hi5 hL (by decide)
      by_cases z : intOf (K.atV vs (o + 5)) = 0
      · obtain ⟨g0, g1⟩ := S.eqR0 ON (S.gk_zero (j := 3) (i := 5) C5 hi5 x5 (by decide) z)
        simp only [A6, M5, e5, f5, m5, b5, ltI_true.2 x5, T, Nat.zero_add, Nat.mul_one, notB_t, notB_f, bc_true, bc_false, true_and, eqI_true.2 z, g0, g1]
      have ok : S.okH vs L o 5 = true := S.lv7 (i := 5) ON hi5 hL hM (by decide)
      have B : K.BOk Try.prog 19 64 (blkOf 19 2) [0, 1, 6, 7, 8] [.slice 0 0 L cp, .int .i64 o, .int .i64 6, .int .i64 0, .int .i64 5] [.flat [.i .u8] et w vs] ⟨.normal, [(1, .int .i64 o), (6, .int .i64 6), (7, .int .i64 (S.hz vs o 6 0))], [], []⟩ := hz_blk L et cp w vs o 6 0 5 hL hM hoo (by decide) (by decide) (S.lv8 (i := 5) ON hi5)
      rw [Z] at B
      by_cases w : 4611686018427387904 < S.acS vs o 6
      · obtain ⟨g0, g1⟩ := S.eqR0 ON (S.gk_big (j := 3) (i := 5) C5 hi5 x5 r5 w)
        simp only [A6, M5, e5, f5, m5, b5, ltI_true.2 x5, T, Nat.zero_add, Nat.mul_one, notB_t, notB_f, bc_true, bc_false, true_and, eqI_false.2 z, ok, Z, ltI_true.2 w, g0, g1]
        exact ⟨B, trivial⟩
      have G := S.gk_num (j := 3) (i := 5) C5 hi5 x5 (.inr z) r5 (Int.not_lt.1 w)
      obtain ⟨g0, g1⟩ := S.eqR ON G.1 rfl
      simp only [A6, M5, e5, f5, m5, b5, ltI_true.2 x5, T, Nat.zero_add, Nat.mul_one, notB_t, notB_f, bc_true, bc_false, true_and, eqI_false.2 z, ok, Z, ltI_false.2 (Int.not_lt.1 w), g0, g1, G.2]
      exact ⟨B, trivial⟩
    have C6 := S.gk_more (j := 3) (i := 5) C5 hi5 x5 r5
    simp only [A6, M5, e5, f5, m5, b5, ltI_false.2 (Int.not_lt.1 x5), T, Nat.zero_add, Nat.mul_one, notB_t, notB_f, bc_true, bc_false, true_and]
    by_cases hi6 : 6 < n
    rotate_left
    · obtain ⟨g0, g1⟩ := S.eqR0 ON (S.gk_end (j := 2) (i := 6) C6 hi6)
      have e : ltI (L : Int) ((o + 7 : Nat) : Int) = true := S.lv1 (i := 6) ON ha3 hi6
      simp only [A7, e, notB_t, bc_false]
      exact ⟨g0, g1, trivial⟩
    have e6 : ltI (L : Int) ((o + 7 : Nat) : Int) = false := S.lv2 (i := 6) ON hi6
    have f6 : ltI ((o + 6 : Nat) : Int) 0 = false := S.lv3
    have m6 : ltI ((o + 6 : Nat) : Int) L = true := S.lv4 ON hi6
    have b6 : Nat.ble (o + 6 + 1) (lenL vs) = true := S.lv5 ON hi6 hL
    have r6 := S.okY_rng hY (i := o + 6) (S.lv6 ON hi6 hL)
    by_cases x6 : intOf (K.atV vs (o + 6)) < 128
    · have Z : S.hz vs o 7 0 = S.acS vs o 7 := S.hz_ac hY (j := 6) ho ON hi6 hL (by decide)
      by_cases z : intOf (K.atV vs (o + 6)) = 0
      · obtain ⟨g0, g1⟩ := S.eqR0 ON (S.gk_zero (j := 2) (i := 6) C6 hi6 x6 (by decide) z)
        simp only [A7, M6, e6, f6, m6, b6, ltI_true.2 x6, T, Nat.zero_add, Nat.mul_one, notB_t, notB_f, bc_true, bc_false, true_and, eqI_true.2 z, g0, g1]
      have ok : S.okH vs L o 6 = true := S.lv7 (i := 6) ON hi6 hL hM (by decide)
      have B : K.BOk Try.prog 19 64 (blkOf 19 2) [0, 1, 6, 7, 8] [.slice 0 0 L cp, .int .i64 o, .int .i64 7, .int .i64 0, .int .i64 6] [.flat [.i .u8] et w vs] ⟨.normal, [(1, .int .i64 o), (6, .int .i64 7), (7, .int .i64 (S.hz vs o 7 0))], [], []⟩ := hz_blk L et cp w vs o 7 0 6 hL hM hoo (by decide) (by decide) (S.lv8 (i := 6) ON hi6)
      rw [Z] at B
      by_cases w : 4611686018427387904 < S.acS vs o 7
      · obtain ⟨g0, g1⟩ := S.eqR0 ON (S.gk_big (j := 2) (i := 6) C6 hi6 x6 r6 w)
        simp only [A7, M6, e6, f6, m6, b6, ltI_true.2 x6, T, Nat.zero_add, Nat.mul_one, notB_t, notB_f, bc_true, bc_false, true_and, eqI_false.2 z, ok, Z, ltI_true.2 w, g0, g1]
        exact ⟨B, trivial⟩
      have G := S.gk_num (j := 2) (i := 6) C6 hi6 x6 (.inr z) r6 (Int.not_lt.1 w)
      obtain ⟨g0, g1⟩ := S.eqR ON G.1 rfl
      simp only [A7, M6, e6, f6, m6, b6, ltI_true.2 x6, T, Nat.zero_add, Nat.mul_one, notB_t, notB_f, bc_true, bc_false, true_and, eqI_false.2 z, ok, Z, ltI_false.2 (Int.not_lt.1 w), g0, g1, G.2]
      exact ⟨B, trivial⟩
    have C7 := S.gk_more (j := 2) (i := 6) C6 hi6 x6 r6
    simp only [A7, M6, e6, f6, m6, b6, ltI_false.2 (Int.not_lt.1 x6), T, Nat.zero_add, Nat.mul_one, notB_t, notB_f, bc_true, bc_false, true_and]
    by_cases hi7 : 7 < n
    rotate_left
    · obtain ⟨g0, g1⟩ := S.eqR0 ON (S.gk_end (j := 1) (i := 7) C7 hi7)
      have e : ltI (L : Int) ((o + 8 : Nat) : Int) = true := S.lv1 (i := 7) ON ha3 hi7
      simp only [A8, e, notB_t, bc_false]
      exact ⟨g0, g1, trivial⟩
    have e7 : ltI (L : Int) ((o + 8 : Nat) : Int) = false := S.lv2 (i := 7) ON hi7
    have f7 : ltI ((o + 7 : Nat) : Int) 0 = false := S.lv3
    have m7 : ltI ((o + 7 : Nat) : Int) L = true := S.lv4 ON hi7
    have b7 : Nat.ble (o + 7 + 1) (lenL vs) = true := S.lv5 ON hi7 hL
    have r7 := S.okY_rng hY (i := o + 7) (S.lv6 ON hi7 hL)
    by_cases x7 : intOf (K.atV vs (o + 7)) < 128
    · have Z : S.hz vs o 8 0 = S.acS vs o 8 := S.hz_ac hY (j := 7) ho ON hi7 hL (by decide)
      by_cases z : intOf (K.atV vs (o + 7)) = 0
      · obtain ⟨g0, g1⟩ := S.eqR0 ON (S.gk_zero (j := 1) (i := 7) C7 hi7 x7 (by decide) z)
        simp only [A8, M7, e7, f7, m7, b7, ltI_true.2 x7, T, Nat.zero_add, Nat.mul_one, notB_t, notB_f, bc_true, bc_false, true_and, eqI_true.2 z, g0, g1]
      have ok : S.okH vs L o 7 = true := S.lv7 (i := 7) ON hi7 hL hM (by decide)
      have B : K.BOk Try.prog 19 64 (blkOf 19 2) [0, 1, 6, 7, 8] [.slice 0 0 L cp, .int .i64 o, .int .i64 8, .int .i64 0, .int .i64 7] [.flat [.i .u8] et w vs] ⟨.normal, [(1, .int .i64 o), (6, .int .i64 8), (7, .int .i64 (S.hz vs o 8 0))], [], []⟩ := hz_blk L et cp w vs o 8 0 7 hL hM hoo (by decide) (by decide) (S.lv8 (i := 7) ON hi7)
      rw [Z] at B
      by_cases w : 4611686018427387904 < S.acS vs o 8
      · obtain ⟨g0, g1⟩ := S.eqR0 ON (S.gk_big (j := 1) (i := 7) C7 hi7 x7 r7 w)
        simp only [A8, M7, e7, f7, m7, b7, ltI_true.2 x7, T, Nat.zero_add, Nat.mul_one, notB_t, notB_f, bc_true, bc_false, true_and, eqI_false.2 z, ok, Z, ltI_true.2 w, g0, g1]
        exact ⟨B, trivial⟩
      have G := S.gk_num (j := 1) (i := 7) C7 hi7 x7 (.inr z) r7 (Int.not_lt.1 w)
      obtain ⟨g0, g1⟩ := S.eqR ON G.1 rfl
      simp only [A8, M7, e7, f7, m7, b7, ltI_true.2 x7, T, Nat.zero_add, Nat.mul_one, notB_t, notB_f, bc_true, bc_false, true_and, eqI_false.2 z, ok, Z, ltI_false.2 (Int.not_lt.1 w), g0, g1, G.2]
      exact ⟨B, trivial⟩
    have C8 := S.gk_more (j := 1) (i := 7) C7 hi7 x7 r7
    simp only [A8, M7, e7, f7, m7, b7, ltI_false.2 (Int.not_lt.1 x7), T, Nat.zero_add, Nat.mul_one, notB_t, notB_f, bc_true, bc_false, true_and]
    by_cases hi8 : 8 < n
    rotate_left
    · obtain ⟨g0, g1⟩ := S.eqR0 ON (S.gk_end (j := 0) (i := 8) C8 hi8)
      have e : ltI (L : Int) ((o + 9 : Nat) : Int) = true := S.lv1 (i := 8) ON ha3 hi8
      simp only [A9, e, notB_t, bc_false]
      exact ⟨g0, g1, trivial⟩
    have e8 : ltI (L : Int) ((o + 9 : Nat) : Int) = false := S.lv2 (i := 8) ON hi8
    have f8 : ltI ((o + 8 : Nat) : Int) 0 = false := S.lv3
    have m8 : ltI ((o + 8 : Nat) : Int) L = true := S.lv4 ON hi8
    have b8 : Nat.ble (o + 8 + 1) (lenL vs) = true := S.lv5 ON hi8 hL
    have r8 := S.okY_rng hY (i := o + 8) (S.lv6 ON hi8 hL)
    by_cases x8 : intOf (K.atV vs (o + 8)) < 128
    · have Z : S.hz vs o 9 0 = S.acS vs o 9 := S.hz_ac hY (j := 8) ho ON hi8 hL (by decide)
      by_cases z : intOf (K.atV vs (o + 8)) = 0
      · obtain ⟨g0, g1⟩ := S.eqR0 ON (S.gk_zero (j := 0) (i := 8) C8 hi8 x8 (by decide) z)
        simp only [A9, M8, e8, f8, m8, b8, ltI_true.2 x8, T, Nat.zero_add, Nat.mul_one, notB_t, notB_f, bc_true, bc_false, true_and, eqI_true.2 z, g0, g1]
      have ok : S.okH vs L o 8 = true := S.lv7 (i := 8) ON hi8 hL hM (by decide)
      have B : K.BOk Try.prog 19 64 (blkOf 19 2) [0, 1, 6, 7, 8] [.slice 0 0 L cp, .int .i64 o, .int .i64 9, .int .i64 0, .int .i64 8] [.flat [.i .u8] et w vs] ⟨.normal, [(1, .int .i64 o), (6, .int .i64 9), (7, .int .i64 (S.hz vs o 9 0))], [], []⟩ := hz_blk L et cp w vs o 9 0 8 hL hM hoo (by decide) (by decide) (S.lv8 (i := 8) ON hi8)
      rw [Z] at B
      by_cases w : 4611686018427387904 < S.acS vs o 9
      · obtain ⟨g0, g1⟩ := S.eqR0 ON (S.gk_big (j := 0) (i := 8) C8 hi8 x8 r8 w)
        simp only [A9, M8, e8, f8, m8, b8, ltI_true.2 x8, T, Nat.zero_add, Nat.mul_one, notB_t, notB_f, bc_true, bc_false, true_and, eqI_false.2 z, ok, Z, ltI_true.2 w, g0, g1]
        exact ⟨B, trivial⟩
      have G := S.gk_num (j := 0) (i := 8) C8 hi8 x8 (.inr z) r8 (Int.not_lt.1 w)
      obtain ⟨g0, g1⟩ := S.eqR ON G.1 rfl
      simp only [A9, M8, e8, f8, m8, b8, ltI_true.2 x8, T, Nat.zero_add, Nat.mul_one, notB_t, notB_f, bc_true, bc_false, true_and, eqI_false.2 z, ok, Z, ltI_false.2 (Int.not_lt.1 w), g0, g1, G.2]
      exact ⟨B, trivial⟩
    obtain ⟨g0, g1⟩ := S.eqR0 ON (S.gk_long C8 hi8 x8)
    simp only [A9, M8, e8, f8, m8, b8, ltI_false.2 (Int.not_lt.1 x8), T, Nat.zero_add, Nat.mul_one, notB_t, notB_f, bc_true, bc_false, true_and, g0, g1]
theorem rget_ok : rgetE.ok Try.prog 19 := by
  intro xs os b r h h3
  unfold rgetE at h
  simp only at h
  split at h
  · injection h with h; injection h with h1 h2; subst h1; subst h2
    exact rget_con _ _ _ _ _ _ h3
  · cases h
end Go.Proofs.Ytogngajglbgjmaa.Ev
