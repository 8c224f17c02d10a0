/- Contracts, proved: Trw. -/
import Derived.Test.YtlgfojaalmelhaaDoorTrwD
import Derived.Test.YtlgfojaalmelhaaDoorTfeP
import Derived.Test.YtlgfojaalmelhaaDoorTldP
namespace Go.Proofs.YtlgfojaalmelhaaDoor.Ev
open Go
set_option linter.unusedVariables false
set_option linter.unusedSimpArgs false
set_option maxRecDepth 100000
set_option maxHeartbeats 1000000
namespace S
theorem oE_end {es : List LV} {N k : Nat} {x : Int} {b : Bool} (h : N ≤ k) : oE es N x k b = b := by
 cases b with
 | true => rfl
 | false =>
  show dcd (hE es N x k) = false
  cases hd : dcd (hE es N x k) with
  | false => rfl
  | true => obtain ⟨q, h1, h2, _⟩ := dcd_iff.1 hd; omega
theorem oE_step {es : List LV} {N k : Nat} {x : Int} (h : k < N) : oE es N x k false = oE es N x (k + 1) (eqI (eq0 es k) x) := by
 show dcd (hE es N x k) = _
 cases he : eqI (eq0 es k) x with
 | true => exact dcd_iff.2 ⟨k, Nat.le_refl k, h, eqI_true.1 he⟩
 | false =>
  show _ = dcd (hE es N x (k + 1))
  refine dcd_congr ⟨?_, ?_⟩
  ·rintro ⟨q, h1, h2, h3⟩
   by_cases e : q = k
   ·subst e; exact absurd h3 (eqI_false.1 he)
   ·exact ⟨q, by omega, h2, h3⟩
  ·rintro ⟨q, h1, h2, h3⟩; exact ⟨q, by omega, h2, h3⟩
theorem oL_end {vs bg : List LV} {W k : Nat} {a x : Int} {b : Bool} (h : W ≤ k) : oL vs W a bg x k b = b := by
 cases b with
 | true => rfl
 | false =>
  show dcd (hL vs W a bg x k) = false
  cases hd : dcd (hL vs W a bg x k) with
  | false => rfl
  | true => obtain ⟨q, h1, h2, _⟩ := dcd_iff.1 hd; omega
theorem oL_step {vs bg : List LV} {W k : Nat} {a x : Int} {c : Bool} (h : k < W) (hc : c = true ↔ bgAt bg k = true ∧ led vs a k x = true) : oL vs W a bg x k false = oL vs W a bg x (k + 1) c := by
 show dcd (hL vs W a bg x k) = _
 cases c with
 | true => obtain ⟨h1, h2⟩ := hc.1 rfl; exact dcd_iff.2 ⟨k, Nat.le_refl k, h, h1, h2⟩
 | false =>
  show _ = dcd (hL vs W a bg x (k + 1))
  refine dcd_congr ⟨?_, ?_⟩
  ·rintro ⟨q, h1, h2, h3, h4⟩
   by_cases e : q = k
   ·subst e; exact absurd (hc.2 ⟨h3, h4⟩) (by decide)
   ·exact ⟨q, by omega, h2, h3, h4⟩
  ·rintro ⟨q, h1, h2, h3⟩; exact ⟨q, by omega, h2, h3⟩
end S
theorem sc_i {a i n : Int} {W N : Nat} {cp cq : Cap} {mo x y : Bool} (h : x = y) : sc_E a i n W N cp cq mo x y := ⟨rfl, rfl, rfl, rfl, rfl, rfl, rfl, rfl, rfl, rfl, rfl, rfl, rfl, rfl, rfl, rfl, h, trivial⟩
theorem s4R_run (i n : Int) (k : Nat) (is : Bool) (a : Int) (et e2 W N : Nat) (cp cq : Cap) (w w2 : Own) (vs es bg out : List LV) (mo : Bool) : K.RunL (envL []) K.openE 30 23 111 (inner (inner (blkOf 23 4))) s4EB [(0, .int .i64 a), (1, .slice 0 0 W cp), (2, .slice 1 0 N cq), (7, .slice 2 0 W (.known W)), (8, .slice 3 0 W (.known W)), (9, .bool mo), (10, .int .i64 i), (11, .int .i64 n), (12, .bool is), (13, .int .i64 k)] [.flat [.i .u8] et w vs, .flat [.i .u16] e2 w2 es, .flat [.bo] 4 .exact bg, .flat [.bo] 4 .exact out] Hint.auto ⟨.exit 4, [(0, .int .i64 a), (1, .slice 0 0 W cp), (2, .slice 1 0 N cq), (7, .slice 2 0 W (.known W)), (8, .slice 3 0 W (.known W)), (9, .bool mo), (10, .int .i64 i), (11, .int .i64 n), (12, .bool (S.oE es N (wrapK .i64 (a + i)) k is))], [], []⟩ =
  (bc (ltI ↑k ↑N) (bc (is) (bc (notB (ltI (wrapK IntKind.i64 (↑k + 1)) 0)) (s4_T i n (wrapK IntKind.i64 (↑k + 1)) true a et e2 W N cp cq w w2 vs es bg out mo ∧ (sc_E a i n W N cp cq mo (S.oE es N (wrapK IntKind.i64 (a + i)) k is) (S.oE es N (wrapK IntKind.i64 (a + i)) (Int.toNat (wrapK IntKind.i64 (↑k + 1))) true))) False) (bc (ltI ↑k ↑N) (bc (Nat.ble (0 + Int.toNat ↑k * 1 + 1) (lenL es)) (bc (notB (ltI (wrapK IntKind.i64 (↑k + 1)) 0)) (s4_T i n (wrapK IntKind.i64 (↑k + 1)) (eqI (wrapK IntKind.i64 (intOf (K.atV es (0 + Int.toNat ↑k * 1)))) (wrapK IntKind.i64 (a + i))) a et e2 W N cp cq w w2 vs es bg out mo ∧ (sc_E a i n W N cp cq mo (S.oE es N (wrapK IntKind.i64 (a + i)) k is) (S.oE es N (wrapK IntKind.i64 (a + i)) (Int.toNat (wrapK IntKind.i64 (↑k + 1))) (eqI (wrapK IntKind.i64 (intOf (K.atV es (0 + Int.toNat ↑k * 1)))) (wrapK IntKind.i64 (a + i)))))) False) False) False)) (sc_E a i n W N cp cq mo (S.oE es N (wrapK IntKind.i64 (a + i)) k is) (is))) := by kernel_rfl
theorem s4R_con (i n : Int) (k : Nat) (is : Bool) (a : Int) (et e2 W N : Nat) (cp cq : Cap) (w w2 : Own) (vs es bg out : List LV) (mo : Bool) (hN : N ≤ lenL es) (hM : N ≤ 1000) (hk : k ≤ N) (IH : ∀ b : Bool, k < N → s4_T i n ((k + 1 : Nat) : Int) b a et e2 W N cp cq w w2 vs es bg out mo) : GT Tryd.prog (fun k => .code (inner (inner (blkOf 23 4))) :: .inLoop (inner (inner (blkOf 23 4))) :: k) (Fr.ofL 23 111 [(0, .int .i64 a), (1, .slice 0 0 W cp), (2, .slice 1 0 N cq), (7, .slice 2 0 W (.known W)), (8, .slice 3 0 W (.known W)), (9, .bool mo), (10, .int .i64 i), (11, .int .i64 n), (12, .bool is), (13, .int .i64 k)] [] none) (Heap.of [.flat [.i .u8] et w vs, .flat [.i .u16] e2 w2 es, .flat [.bo] 4 .exact bg, .flat [.bo] 4 .exact out]) (⟨.exit 4, [(0, .int .i64 a), (1, .slice 0 0 W cp), (2, .slice 1 0 N cq), (7, .slice 2 0 W (.known W)), (8, .slice 3 0 W (.known W)), (9, .bool mo), (10, .int .i64 i), (11, .int .i64 n), (12, .bool (S.oE es N (wrapK .i64 (a + i)) k is))], [], []⟩ : K.BRes).x (Fr.ofL 23 111 (⟨.exit 4, [(0, .int .i64 a), (1, .slice 0 0 W cp), (2, .slice 1 0 N cq), (7, .slice 2 0 W (.known W)), (8, .slice 3 0 W (.known W)), (9, .bool mo), (10, .int .i64 i), (11, .int .i64 n), (12, .bool (S.oE es N (wrapK .i64 (a + i)) k is))], [], []⟩ : K.BRes).L [] none) (Heap.of (K.chg [.flat [.i .u8] et w vs, .flat [.i .u16] e2 w2 es, .flat [.bo] 4 .exact bg, .flat [.bo] 4 .exact out] (⟨.exit 4, [(0, .int .i64 a), (1, .slice 0 0 W cp), (2, .slice 1 0 N cq), (7, .slice 2 0 W (.known W)), (8, .slice 3 0 W (.known W)), (9, .bool mo), (10, .int .i64 i), (11, .int .i64 n), (12, .bool (S.oE es N (wrapK .i64 (a + i)) k is))], [], []⟩ : K.BRes).ch ++ (⟨.exit 4, [(0, .int .i64 a), (1, .slice 0 0 W cp), (2, .slice 1 0 N cq), (7, .slice 2 0 W (.known W)), (8, .slice 3 0 W (.known W)), (9, .bool mo), (10, .int .i64 i), (11, .int .i64 n), (12, .bool (S.oE es N (wrapK .i64 (a + i)) k is))], [], []⟩ : K.BRes).new)) := by
 refine K.loop_of_run good (A := envL []) (envL_ok ?_) K.openE_ok (k := 30) (ent := s4EB) (cast (s4R_run i n k is a et e2 W N cp cq w w2 vs es bg out mo).symm ?_)
 ·intro p hp; cases hp
 ·have T : ∀ z : Nat, Int.toNat (z : Int) = z := Int.toNat_natCast
  have w1 : wrapK .i64 ((k : Int) + 1) = ((k + 1 : Nat) : Int) := by rw [wrapK_i64]; omega
  have n0 : ltI ((k + 1 : Nat) : Int) 0 = false := ltI_false.2 (by omega)
  by_cases h : k < N
  ·have e1 : ltI (k : Int) N = true := ltI_true.2 (by omega)
   have b1 : Nat.ble (k + 1) (lenL es) = true := S.bleN.2 (by omega)
   have he : wrapK .i64 (intOf (K.atV es k)) = S.eq0 es k := by unfold S.eq0; rw [T, Nat.mul_one, Nat.zero_add]
   cases is with
   | true =>
    simp only [e1, w1, n0, T, notB_f, bc_true]
    exact ⟨IH true h, sc_i rfl⟩
   | false =>
    simp only [e1, w1, n0, T, b1, he, Nat.zero_add, Nat.mul_one, notB_f, bc_true, bc_false]
    exact ⟨IH _ h, sc_i (S.oE_step h)⟩
  ·have e1 : ltI (k : Int) N = false := ltI_false.2 (by omega)
   simp only [e1, bc_false]
   exact sc_i (S.oE_end (by omega))
theorem s6R_run (i n : Int) (k : Nat) (is : Bool) (a : Int) (et e2 W N : Nat) (cp cq : Cap) (w w2 : Own) (vs es bg out : List LV) (mo : Bool) : K.RunL (envL [(36, ldE)]) K.openE 30 23 111 (inner (inner (blkOf 23 6))) s6EB [(0, .int .i64 a), (1, .slice 0 0 W cp), (2, .slice 1 0 N cq), (7, .slice 2 0 W (.known W)), (8, .slice 3 0 W (.known W)), (9, .bool mo), (10, .int .i64 i), (11, .int .i64 n), (12, .bool is), (14, .int .i64 k)] [.flat [.i .u8] et w vs, .flat [.i .u16] e2 w2 es, .flat [.bo] 4 .exact bg, .flat [.bo] 4 .exact out] Hint.auto ⟨.exit 6, [(0, .int .i64 a), (1, .slice 0 0 W cp), (2, .slice 1 0 N cq), (7, .slice 2 0 W (.known W)), (8, .slice 3 0 W (.known W)), (9, .bool mo), (10, .int .i64 i), (11, .int .i64 n), (12, .bool (S.oL vs W a bg (wrapK .i64 (a + i)) k is))], [], []⟩ =
  (bc (ltI ↑k ↑W) (bc (notB is) (bc (ltI ↑k ↑W) (bc (Nat.ble (0 + Int.toNat ↑k * 1 + 1) (lenL bg)) (bc (boolOf (K.atV bg (0 + Int.toNat ↑k * 1))) (bc (S.okLd vs W a ↑k) (bc (notB (ltI (wrapK IntKind.i64 (↑k + 1)) 0)) (s6_T i n (wrapK IntKind.i64 (↑k + 1)) (S.led vs a (Int.toNat ↑k) (wrapK IntKind.i64 (a + i))) a et e2 W N cp cq w w2 vs es bg out mo ∧ (sc_E a i n W N cp cq mo (S.oL vs W a bg (wrapK IntKind.i64 (a + i)) k is) (S.oL vs W a bg (wrapK IntKind.i64 (a + i)) (Int.toNat (wrapK IntKind.i64 (↑k + 1))) (S.led vs a (Int.toNat ↑k) (wrapK IntKind.i64 (a + i)))))) False) False) (bc (notB (ltI (wrapK IntKind.i64 (↑k + 1)) 0)) (s6_T i n (wrapK IntKind.i64 (↑k + 1)) false a et e2 W N cp cq w w2 vs es bg out mo ∧ (sc_E a i n W N cp cq mo (S.oL vs W a bg (wrapK IntKind.i64 (a + i)) k is) (S.oL vs W a bg (wrapK IntKind.i64 (a + i)) (Int.toNat (wrapK IntKind.i64 (↑k + 1))) false))) False)) False) False) (sc_E a i n W N cp cq mo (S.oL vs W a bg (wrapK IntKind.i64 (a + i)) k is) (is))) (sc_E a i n W N cp cq mo (S.oL vs W a bg (wrapK IntKind.i64 (a + i)) k is) (is))) := by kernel_rfl
theorem s6R_con (i n : Int) (k : Nat) (is : Bool) (a : Int) (et e2 W N : Nat) (cp cq : Cap) (w w2 : Own) (vs es bg out : List LV) (mo : Bool) (hb : S.okB vs = true) (hl : lenL vs = W) (hW : W ≤ 1000) (hA : 0 ≤ a ∧ a < 65536) (hg : lenL bg = W) (hf : ∀ q, q < W → S.bgAt bg q = true → S.fits vs W a q = true) (hk : k ≤ W) (IH : ∀ b : Bool, k < W → s6_T i n ((k + 1 : Nat) : Int) b a et e2 W N cp cq w w2 vs es bg out mo) : GT Tryd.prog (fun k => .code (inner (inner (blkOf 23 6))) :: .inLoop (inner (inner (blkOf 23 6))) :: k) (Fr.ofL 23 111 [(0, .int .i64 a), (1, .slice 0 0 W cp), (2, .slice 1 0 N cq), (7, .slice 2 0 W (.known W)), (8, .slice 3 0 W (.known W)), (9, .bool mo), (10, .int .i64 i), (11, .int .i64 n), (12, .bool is), (14, .int .i64 k)] [] none) (Heap.of [.flat [.i .u8] et w vs, .flat [.i .u16] e2 w2 es, .flat [.bo] 4 .exact bg, .flat [.bo] 4 .exact out]) (⟨.exit 6, [(0, .int .i64 a), (1, .slice 0 0 W cp), (2, .slice 1 0 N cq), (7, .slice 2 0 W (.known W)), (8, .slice 3 0 W (.known W)), (9, .bool mo), (10, .int .i64 i), (11, .int .i64 n), (12, .bool (S.oL vs W a bg (wrapK .i64 (a + i)) k is))], [], []⟩ : K.BRes).x (Fr.ofL 23 111 (⟨.exit 6, [(0, .int .i64 a), (1, .slice 0 0 W cp), (2, .slice 1 0 N cq), (7, .slice 2 0 W (.known W)), (8, .slice 3 0 W (.known W)), (9, .bool mo), (10, .int .i64 i), (11, .int .i64 n), (12, .bool (S.oL vs W a bg (wrapK .i64 (a + i)) k is))], [], []⟩ : K.BRes).L [] none) (Heap.of (K.chg [.flat [.i .u8] et w vs, .flat [.i .u16] e2 w2 es, .flat [.bo] 4 .exact bg, .flat [.bo] 4 .exact out] (⟨.exit 6, [(0, .int .i64 a), (1, .slice 0 0 W cp), (2, .slice 1 0 N cq), (7, .slice 2 0 W (.known W)), (8, .slice 3 0 W (.known W)), (9, .bool mo), (10, .int .i64 i), (11, .int .i64 n), (12, .bool (S.oL vs W a bg (wrapK .i64 (a + i)) k is))], [], []⟩ : K.BRes).ch ++ (⟨.exit 6, [(0, .int .i64 a), (1, .slice 0 0 W cp), (2, .slice 1 0 N cq), (7, .slice 2 0 W (.known W)), (8, .slice 3 0 W (.known W)), (9, .bool mo), (10, .int .i64 i), (11, .int .i64 n), (12, .bool (S.oL vs W a bg (wrapK .i64 (a + i)) k is))], [], []⟩ : K.BRes).new)) := by
 refine K.loop_of_run good (A := envL [(36, ldE)]) (envL_ok ?_) K.openE_ok (k := 30) (ent := s6EB) (cast (s6R_run i n k is a et e2 W N cp cq w w2 vs es bg out mo).symm ?_)
 ·intro p hp; simp only [List.mem_cons, List.not_mem_nil, or_false] at hp; rcases hp with rfl <;> first | exact ld_ok
 ·have T : ∀ z : Nat, Int.toNat (z : Int) = z := Int.toNat_natCast
  have w1 : wrapK .i64 ((k : Int) + 1) = ((k + 1 : Nat) : Int) := by rw [wrapK_i64]; omega
  have n0 : ltI ((k + 1 : Nat) : Int) 0 = false := ltI_false.2 (by omega)
  by_cases h : k < W
  ·have e1 : ltI (k : Int) W = true := ltI_true.2 (by omega)
   cases is with
   | true =>
    simp only [e1, notB_t, bc_true, bc_false]
    exact sc_i rfl
   | false =>
    have b1 : Nat.ble (k + 1) (lenL bg) = true := S.bleN.2 (by omega)
    cases hq : boolOf (K.atV bg k) with
    | true =>
     have hq2 : S.bgAt bg k = true := hq
     have hD : S.okLd vs W a (k : Int) = true := S.okD_iff.2 ⟨⟨hb, hl⟩, hW, hA, by omega, by omega, by rw [T]; exact hf k h hq2⟩
     simp only [e1, w1, n0, T, b1, hq, hD, Nat.zero_add, Nat.mul_one, notB_f, bc_true, bc_false]
     exact ⟨IH _ h, sc_i (S.oL_step h ⟨fun e => ⟨hq2, e⟩, fun e => e.2⟩)⟩
    | false =>
     have hq2 : S.bgAt bg k = false := hq
     simp only [e1, w1, n0, T, b1, hq, Nat.zero_add, Nat.mul_one, notB_f, bc_true, bc_false]
     exact ⟨IH _ h, sc_i (S.oL_step h ⟨fun e => (by cases e), fun e => by rw [hq2] at e; cases e.1⟩)⟩
  ·have e1 : ltI (k : Int) W = false := ltI_false.2 (by omega)
   simp only [e1, bc_false]
   exact sc_i (S.oL_end (by omega))
theorem s4_lok (i n a : Int) (et e2 W N : Nat) (cp cq : Cap) (w w2 : Own) (vs es bg out : List LV) (mo : Bool) (hN : N ≤ lenL es) (hM : N ≤ 1000) : ∀ (j k : Nat) (is : Bool), k ≤ N → N - k = j → s4_T i n (k : Int) is a et e2 W N cp cq w w2 vs es bg out mo := by
 intro j
 induction j with
 | zero =>
  intro k is hk hm
  exact s4R_con i n k is a et e2 W N cp cq w w2 vs es bg out mo hN hM hk fun b h => by omega
 | succ j ih =>
  intro k is hk hm
  exact s4R_con i n k is a et e2 W N cp cq w w2 vs es bg out mo hN hM hk fun b h => ih (k + 1) b (by omega) (by omega)
theorem s6_lok (i n a : Int) (et e2 W N : Nat) (cp cq : Cap) (w w2 : Own) (vs es bg out : List LV) (mo : Bool) (hb : S.okB vs = true) (hl : lenL vs = W) (hW : W ≤ 1000) (hA : 0 ≤ a ∧ a < 65536) (hg : lenL bg = W) (hf : ∀ q, q < W → S.bgAt bg q = true → S.fits vs W a q = true) : ∀ (j k : Nat) (is : Bool), k ≤ W → W - k = j → s6_T i n (k : Int) is a et e2 W N cp cq w w2 vs es bg out mo := by
 intro j
 induction j with
 | zero =>
  intro k is hk hm
  exact s6R_con i n k is a et e2 W N cp cq w w2 vs es bg out mo hb hl hW hA hg hf hk fun b h => by omega
 | succ j ih =>
  intro k is hk hm
  exact s6R_con i n k is a et e2 W N cp cq w w2 vs es bg out mo hb hl hW hA hg hf hk fun b h => ih (k + 1) b (by omega) (by omega)
theorem s4_blk (i n a : Int) (is : Bool) (et e2 W N : Nat) (cp cq : Cap) (w w2 : Own) (vs es bg out : List LV) (mo : Bool) (hN : N ≤ lenL es) (hM : N ≤ 1000) : K.BOk Tryd.prog 23 111 (blkOf 23 4) [0, 1, 2, 7, 8, 9, 10, 11, 12, 13] [.int .i64 a, .slice 0 0 W cp, .slice 1 0 N cq, .slice 2 0 W (.known W), .slice 3 0 W (.known W), .bool mo, .int .i64 i, .int .i64 n, .bool is, .int .i64 0] [.flat [.i .u8] et w vs, .flat [.i .u16] e2 w2 es, .flat [.bo] 4 .exact bg, .flat [.bo] 4 .exact out] ⟨.normal, [(0, .int .i64 a), (1, .slice 0 0 W cp), (2, .slice 1 0 N cq), (7, .slice 2 0 W (.known W)), (8, .slice 3 0 W (.known W)), (9, .bool mo), (10, .int .i64 i), (11, .int .i64 n), (12, .bool (S.oE es N (wrapK .i64 (a + i)) 0 is))], [], []⟩ := by
 have hb2 : blkOf 23 4 = .block 4 (.loop (inner (inner (blkOf 23 4)))) := by kernel_rfl
 unfold K.BOk
 rw [hb2]
 exact K.CT.block (K.GT.loop (s4_lok i n a et e2 W N cp cq w w2 vs es bg out mo hN hM _ 0 is (Nat.zero_le _) rfl))
theorem s6_blk (i n a : Int) (is : Bool) (et e2 W N : Nat) (cp cq : Cap) (w w2 : Own) (vs es bg out : List LV) (mo : Bool) (hb : S.okB vs = true) (hl : lenL vs = W) (hW : W ≤ 1000) (hA : 0 ≤ a ∧ a < 65536) (hg : lenL bg = W) (hf : ∀ q, q < W → S.bgAt bg q = true → S.fits vs W a q = true) : K.BOk Tryd.prog 23 111 (blkOf 23 6) [0, 1, 2, 7, 8, 9, 10, 11, 12, 14] [.int .i64 a, .slice 0 0 W cp, .slice 1 0 N cq, .slice 2 0 W (.known W), .slice 3 0 W (.known W), .bool mo, .int .i64 i, .int .i64 n, .bool is, .int .i64 0] [.flat [.i .u8] et w vs, .flat [.i .u16] e2 w2 es, .flat [.bo] 4 .exact bg, .flat [.bo] 4 .exact out] ⟨.normal, [(0, .int .i64 a), (1, .slice 0 0 W cp), (2, .slice 1 0 N cq), (7, .slice 2 0 W (.known W)), (8, .slice 3 0 W (.known W)), (9, .bool mo), (10, .int .i64 i), (11, .int .i64 n), (12, .bool (S.oL vs W a bg (wrapK .i64 (a + i)) 0 is))], [], []⟩ := by
 have hb2 : blkOf 23 6 = .block 6 (.loop (inner (inner (blkOf 23 6)))) := by kernel_rfl
 unfold K.BOk
 rw [hb2]
 exact K.CT.block (K.GT.loop (s6_lok i n a et e2 W N cp cq w w2 vs es bg out mo hb hl hW hA hg hf _ 0 is (Nat.zero_le _) rfl))
end Go.Proofs.YtlgfojaalmelhaaDoor.Ev
