/- Contracts, proved: Trp. -/
import Derived.Test.YtlgfojaalmelhaaDoorTrpD
import Derived.Test.YtlgfojaalmelhaaDoorTrwP
namespace Go.Proofs.YtlgfojaalmelhaaDoor.Ev
open Go
set_option linter.unusedVariables false
set_option linter.unusedSimpArgs false
set_option maxRecDepth 100000
set_option maxHeartbeats 1000000
theorem pc_i {a : Int} {W N : Nat} {cp cq : Cap} {x y : Bool} {x2 y2 x3 y3 : List LV} (h : x = y) (h2 : x2 = y2) (h3 : x3 = y3) : pc_E a W N cp cq x y x2 y2 x3 y3 := ⟨rfl, rfl, rfl, rfl, rfl, rfl, rfl, rfl, rfl, rfl, rfl, rfl, rfl, h, h2, h3, trivial⟩
namespace S
theorem hit_iff {vs es bg : List LV} {W N i : Nat} {a : Int} : hit vs W a es N bg i = true ↔ (bgAt bg i = false ∧ fits vs W a i = true) ∧ oL vs W a bg (a + i) 0 (oE es N (a + i) 0 false) = true := by
 unfold hit; rw [an_iff, an_iff, notB_true]
end S
theorem p21_run (i : Nat) (a : Int) (et e2 W N : Nat) (cp cq : Cap) (w w2 : Own) (vs es : List LV) (f g : Nat → Bool) (mo : Bool) : K.RunL (envB [(28, lq1E)] (fun g id => bc (Nat.beq g 23) (bc (Nat.beq id 4) (some s4BB) (bc (Nat.beq g 23) (bc (Nat.beq id 6) (some s6BB) (none)) (none))) (bc (Nat.beq g 23) (bc (Nat.beq id 6) (some s6BB) (none)) (none)))) K.openE 30 23 111 (inner (inner (blkOf 23 2))) p2EB [(0, .int .i64 a), (1, .slice 0 0 W cp), (2, .slice 1 0 N cq), (7, .slice 2 0 W (.known W)), (8, .slice 3 0 W (.known W)), (9, .bool mo), (10, .int .i64 i)] [.flat [.i .u8] et w vs, .flat [.i .u16] e2 w2 es, .flat [.bo] 4 .exact (S.row f W), .flat [.bo] 4 .exact (S.row g W)] Hint.auto ⟨.exit 2, [(0, .int .i64 a), (1, .slice 0 0 W cp), (2, .slice 1 0 N cq), (7, .slice 2 0 W (.known W)), (8, .slice 3 0 W (.known W)), (9, .bool (S.PM vs W a es N (W - i) i (S.row f W) mo))], [(2, .flat [.bo] 4 .exact (S.PB vs W a es N (W - i) i (S.row f W))), (3, .flat [.bo] 4 .exact (S.PO vs W a es N (W - i) i (S.row f W) (S.row g W)))], []⟩ =
  (bc (ltI ↑i ↑W) (bc (ltI ↑i ↑W) (bc (Nat.ble (0 + Int.toNat ↑i * 1 + 1) (lenL vs)) (bc (S.an (S.isB (S.r0 vs i)) (eqI (S.len (S.r0 vs i)) 1)) (bc (ltI ↑i ↑W) (bc (Nat.ble (0 + Int.toNat ↑i * 1 + 1) (lenL (S.row f W))) (bc (boolOf (K.atV (S.row f W) (0 + Int.toNat ↑i * 1))) (bc (notB (ltI (wrapK IntKind.i64 (↑i + 1)) 0)) (p2_T (wrapK IntKind.i64 (↑i + 1)) a et e2 W N cp cq w w2 vs es (S.row f W) (S.row g W) mo ∧ (pc_E a W N cp cq (S.PM vs W a es N (W - i) i (S.row f W) mo) (S.PM vs W a es N (W - Int.toNat (wrapK IntKind.i64 (↑i + 1))) (Int.toNat (wrapK IntKind.i64 (↑i + 1))) (S.row f W) mo) (S.PB vs W a es N (W - i) i (S.row f W)) (S.PB vs W a es N (W - Int.toNat (wrapK IntKind.i64 (↑i + 1))) (Int.toNat (wrapK IntKind.i64 (↑i + 1))) (S.row f W)) (S.PO vs W a es N (W - i) i (S.row f W) (S.row g W)) (S.PO vs W a es N (W - Int.toNat (wrapK IntKind.i64 (↑i + 1))) (Int.toNat (wrapK IntKind.i64 (↑i + 1))) (S.row f W) (S.row g W)))) False) (bc (ltI (wrapK IntKind.i64 (↑W - ↑i)) 1) (bc (notB (ltI (wrapK IntKind.i64 (↑i + 1)) 0)) (p2_T (wrapK IntKind.i64 (↑i + 1)) a et e2 W N cp cq w w2 vs es (S.row f W) (S.row g W) mo ∧ (pc_E a W N cp cq (S.PM vs W a es N (W - i) i (S.row f W) mo) (S.PM vs W a es N (W - Int.toNat (wrapK IntKind.i64 (↑i + 1))) (Int.toNat (wrapK IntKind.i64 (↑i + 1))) (S.row f W) mo) (S.PB vs W a es N (W - i) i (S.row f W)) (S.PB vs W a es N (W - Int.toNat (wrapK IntKind.i64 (↑i + 1))) (Int.toNat (wrapK IntKind.i64 (↑i + 1))) (S.row f W)) (S.PO vs W a es N (W - i) i (S.row f W) (S.row g W)) (S.PO vs W a es N (W - Int.toNat (wrapK IntKind.i64 (↑i + 1))) (Int.toNat (wrapK IntKind.i64 (↑i + 1))) (S.row f W) (S.row g W)))) False) (bc (ltI 65536 (wrapK IntKind.i64 (wrapK IntKind.i64 (a + ↑i) + 1))) (bc (notB (ltI (wrapK IntKind.i64 (↑i + 1)) 0)) (p2_T (wrapK IntKind.i64 (↑i + 1)) a et e2 W N cp cq w w2 vs es (S.row f W) (S.row g W) mo ∧ (pc_E a W N cp cq (S.PM vs W a es N (W - i) i (S.row f W) mo) (S.PM vs W a es N (W - Int.toNat (wrapK IntKind.i64 (↑i + 1))) (Int.toNat (wrapK IntKind.i64 (↑i + 1))) (S.row f W) mo) (S.PB vs W a es N (W - i) i (S.row f W)) (S.PB vs W a es N (W - Int.toNat (wrapK IntKind.i64 (↑i + 1))) (Int.toNat (wrapK IntKind.i64 (↑i + 1))) (S.row f W)) (S.PO vs W a es N (W - i) i (S.row f W) (S.row g W)) (S.PO vs W a es N (W - Int.toNat (wrapK IntKind.i64 (↑i + 1))) (Int.toNat (wrapK IntKind.i64 (↑i + 1))) (S.row f W) (S.row g W)))) False) (s4_K i 1 a false et e2 W N cp cq w w2 vs es (S.row f W) (S.row g W) mo ∧ (s6_K i 1 a (S.oE es N (wrapK IntKind.i64 (a + ↑i)) 0 false) et e2 W N cp cq w w2 vs es (S.row f W) (S.row g W) mo ∧ bc (S.oL vs W a (S.row f W) (wrapK IntKind.i64 (a + ↑i)) 0 (S.oE es N (wrapK IntKind.i64 (a + ↑i)) 0 false)) (bc (ltI ↑i ↑W) (bc (Nat.ble (0 + Int.toNat ↑i * 1 + 1) (lenL (S.row f W))) (bc (ltI (wrapK IntKind.i64 (↑i + 0)) 0) False (bc (ltI (wrapK IntKind.i64 (↑i + 0)) ↑W) (bc (Nat.ble (0 + Int.toNat (wrapK IntKind.i64 (↑i + 0)) * 1 + 1) (lenL (S.row g W))) (bc (notB (ltI (wrapK IntKind.i64 (↑i + 1)) 0)) (p2_T (wrapK IntKind.i64 (↑i + 1)) a et e2 W N cp cq w w2 vs es (setMany (S.row f W) (0 + Int.toNat ↑i * 1) [LV.bool true]) (setMany (S.row g W) (0 + Int.toNat (wrapK IntKind.i64 (↑i + 0)) * 1) [LV.bool true]) true ∧ (pc_E a W N cp cq (S.PM vs W a es N (W - i) i (S.row f W) mo) (S.PM vs W a es N (W - Int.toNat (wrapK IntKind.i64 (↑i + 1))) (Int.toNat (wrapK IntKind.i64 (↑i + 1))) (setMany (S.row f W) (0 + Int.toNat ↑i * 1) [LV.bool true]) true) (S.PB vs W a es N (W - i) i (S.row f W)) (S.PB vs W a es N (W - Int.toNat (wrapK IntKind.i64 (↑i + 1))) (Int.toNat (wrapK IntKind.i64 (↑i + 1))) (setMany (S.row f W) (0 + Int.toNat ↑i * 1) [LV.bool true])) (S.PO vs W a es N (W - i) i (S.row f W) (S.row g W)) (S.PO vs W a es N (W - Int.toNat (wrapK IntKind.i64 (↑i + 1))) (Int.toNat (wrapK IntKind.i64 (↑i + 1))) (setMany (S.row f W) (0 + Int.toNat ↑i * 1) [LV.bool true]) (setMany (S.row g W) (0 + Int.toNat (wrapK IntKind.i64 (↑i + 0)) * 1) [LV.bool true])))) False) False) False)) False) False) (bc (notB (ltI (wrapK IntKind.i64 (↑i + 1)) 0)) (p2_T (wrapK IntKind.i64 (↑i + 1)) a et e2 W N cp cq w w2 vs es (S.row f W) (S.row g W) mo ∧ (pc_E a W N cp cq (S.PM vs W a es N (W - i) i (S.row f W) mo) (S.PM vs W a es N (W - Int.toNat (wrapK IntKind.i64 (↑i + 1))) (Int.toNat (wrapK IntKind.i64 (↑i + 1))) (S.row f W) mo) (S.PB vs W a es N (W - i) i (S.row f W)) (S.PB vs W a es N (W - Int.toNat (wrapK IntKind.i64 (↑i + 1))) (Int.toNat (wrapK IntKind.i64 (↑i + 1))) (S.row f W)) (S.PO vs W a es N (W - i) i (S.row f W) (S.row g W)) (S.PO vs W a es N (W - Int.toNat (wrapK IntKind.i64 (↑i + 1))) (Int.toNat (wrapK IntKind.i64 (↑i + 1))) (S.row f W) (S.row g W)))) False)))))) False) False) False) False) False) (pc_E a W N cp cq (S.PM vs W a es N (W - i) i (S.row f W) mo) (mo) (S.PB vs W a es N (W - i) i (S.row f W)) (S.row f W) (S.PO vs W a es N (W - i) i (S.row f W) (S.row g W)) (S.row g W))) := by kernel_rfl
theorem p21_con (i : Nat) (a : Int) (et e2 W N : Nat) (cp cq : Cap) (w w2 : Own) (vs es : List LV) (f g : Nat → Bool) (mo : Bool) (hb : S.okB vs = true) (hl : lenL vs = W) (hW : W ≤ 1000) (hA : 0 ≤ a ∧ a < 65536) (hN : N ≤ lenL es) (hM : N ≤ 1000) (hf : ∀ q, q < W → f q = true → S.fits vs W a q = true) (hi : i ≤ W) (hn : i < W → S.len (S.by1 vs i) = 1) (IH : ∀ (f2 g2 : Nat → Bool) (mo2 : Bool), i < W → (∀ q, q < W → f2 q = true → S.fits vs W a q = true) → p2_T ((i + 1 : Nat) : Int) a et e2 W N cp cq w w2 vs es (S.row f2 W) (S.row g2 W) mo2) : GT Tryd.prog (fun k => .code (inner (inner (blkOf 23 2))) :: .inLoop (inner (inner (blkOf 23 2))) :: k) (Fr.ofL 23 111 [(0, .int .i64 a), (1, .slice 0 0 W cp), (2, .slice 1 0 N cq), (7, .slice 2 0 W (.known W)), (8, .slice 3 0 W (.known W)), (9, .bool mo), (10, .int .i64 i)] [] none) (Heap.of [.flat [.i .u8] et w vs, .flat [.i .u16] e2 w2 es, .flat [.bo] 4 .exact (S.row f W), .flat [.bo] 4 .exact (S.row g W)]) (⟨.exit 2, [(0, .int .i64 a), (1, .slice 0 0 W cp), (2, .slice 1 0 N cq), (7, .slice 2 0 W (.known W)), (8, .slice 3 0 W (.known W)), (9, .bool (S.PM vs W a es N (W - i) i (S.row f W) mo))], [(2, .flat [.bo] 4 .exact (S.PB vs W a es N (W - i) i (S.row f W))), (3, .flat [.bo] 4 .exact (S.PO vs W a es N (W - i) i (S.row f W) (S.row g W)))], []⟩ : K.BRes).x (Fr.ofL 23 111 (⟨.exit 2, [(0, .int .i64 a), (1, .slice 0 0 W cp), (2, .slice 1 0 N cq), (7, .slice 2 0 W (.known W)), (8, .slice 3 0 W (.known W)), (9, .bool (S.PM vs W a es N (W - i) i (S.row f W) mo))], [(2, .flat [.bo] 4 .exact (S.PB vs W a es N (W - i) i (S.row f W))), (3, .flat [.bo] 4 .exact (S.PO vs W a es N (W - i) i (S.row f W) (S.row g W)))], []⟩ : K.BRes).L [] none) (Heap.of (K.chg [.flat [.i .u8] et w vs, .flat [.i .u16] e2 w2 es, .flat [.bo] 4 .exact (S.row f W), .flat [.bo] 4 .exact (S.row g W)] (⟨.exit 2, [(0, .int .i64 a), (1, .slice 0 0 W cp), (2, .slice 1 0 N cq), (7, .slice 2 0 W (.known W)), (8, .slice 3 0 W (.known W)), (9, .bool (S.PM vs W a es N (W - i) i (S.row f W) mo))], [(2, .flat [.bo] 4 .exact (S.PB vs W a es N (W - i) i (S.row f W))), (3, .flat [.bo] 4 .exact (S.PO vs W a es N (W - i) i (S.row f W) (S.row g W)))], []⟩ : K.BRes).ch ++ (⟨.exit 2, [(0, .int .i64 a), (1, .slice 0 0 W cp), (2, .slice 1 0 N cq), (7, .slice 2 0 W (.known W)), (8, .slice 3 0 W (.known W)), (9, .bool (S.PM vs W a es N (W - i) i (S.row f W) mo))], [(2, .flat [.bo] 4 .exact (S.PB vs W a es N (W - i) i (S.row f W))), (3, .flat [.bo] 4 .exact (S.PO vs W a es N (W - i) i (S.row f W) (S.row g W)))], []⟩ : K.BRes).new)) := by
 refine K.loop_of_run good (A := envB [(28, lq1E)] (fun g id => bc (Nat.beq g 23) (bc (Nat.beq id 4) (some s4BB) (bc (Nat.beq g 23) (bc (Nat.beq id 6) (some s6BB) (none)) (none))) (bc (Nat.beq g 23) (bc (Nat.beq id 6) (some s6BB) (none)) (none)))) (envB_ok ?_) K.openE_ok (k := 30) (ent := p2EB) (cast (p21_run i a et e2 W N cp cq w w2 vs es f g mo).symm ?_)
 ·intro p hp; simp only [List.mem_cons, List.not_mem_nil, or_false] at hp; rcases hp with rfl <;> first | exact lq1_ok
 ·have T : ∀ z : Nat, Int.toNat (z : Int) = z := Int.toNat_natCast
  have w1 : wrapK .i64 ((i : Int) + 1) = ((i + 1 : Nat) : Int) := by rw [wrapK_i64]; omega
  have n0 : ltI ((i + 1 : Nat) : Int) 0 = false := ltI_false.2 (by omega)
  by_cases h : i < W
  rotate_left
  ·have e1 : ltI (i : Int) W = false := ltI_false.2 (by omega)
   have z : W - i = 0 := by omega
   simp only [e1, z, bc_false]
   exact pc_i rfl rfl rfl
  have hn := hn h
  have e1 : ltI (i : Int) W = true := ltI_true.2 (by omega)
  have b1 : Nat.ble (i + 1) (lenL vs) = true := S.bleN.2 (by omega)
  have g0 := S.okB_at hb (i := i) (by omega)
  have r0 : S.r0 vs i = S.by1 vs i := by
   unfold S.r0
   rw [Int.toNat_natCast, Nat.mul_one, Nat.zero_add]
   show wrapK .i64 (S.by1 vs i) = _
   rw [wrapK_i64]; omega
  have iB : S.isB (S.by1 vs i) = true := S.isB_iff.2 g0
  have at2 : S.an true true = true := rfl
  have hkE : eqI (S.len (S.by1 vs i)) 1 = true := eqI_true.2 hn
  have rl : ∀ g, lenL (S.row g W) = W := fun g => S.row_len g W
  have br : Nat.ble (i + 1) W = true := S.bleN.2 (by omega)
  have rb : boolOf (K.atV (S.row f W) i) = f i := S.row_b h
  have wai : wrapK .i64 (a + i) = a + i := by rw [wrapK_i64]; omega
  have wan : wrapK .i64 (a + i + 1) = a + i + 1 := by rw [wrapK_i64]; omega
  have ww : wrapK .i64 ((W : Int) - i) = (W : Int) - i := by rw [wrapK_i64]; omega
  have hs : W - i = (W - (i + 1)) + 1 := by omega
  have sM : S.PM vs W a es N (W - i) i (S.row f W) mo = S.PM vs W a es N (W - (i + 1)) (i + 1) (S.nb vs W a es N (S.row f W) i) (bc (S.hit vs W a es N (S.row f W) i) true mo) := by rw [hs]; rfl
  have sB : S.PB vs W a es N (W - i) i (S.row f W) = S.PB vs W a es N (W - (i + 1)) (i + 1) (S.nb vs W a es N (S.row f W) i) := by rw [hs]; rfl
  have sO : S.PO vs W a es N (W - i) i (S.row f W) (S.row g W) = S.PO vs W a es N (W - (i + 1)) (i + 1) (S.nb vs W a es N (S.row f W) i) (bc (S.hit vs W a es N (S.row f W) i) (S.mk1 vs (S.row g W) i) (S.row g W)) := by rw [hs]; rfl
  have NH : S.hit vs W a es N (S.row f W) i = false → p2_T ((i + 1 : Nat) : Int) a et e2 W N cp cq w w2 vs es (S.row f W) (S.row g W) mo ∧ pc_E a W N cp cq (S.PM vs W a es N (W - i) i (S.row f W) mo) (S.PM vs W a es N (W - (i + 1)) (i + 1) (S.row f W) mo) (S.PB vs W a es N (W - i) i (S.row f W)) (S.PB vs W a es N (W - (i + 1)) (i + 1) (S.row f W)) (S.PO vs W a es N (W - i) i (S.row f W) (S.row g W)) (S.PO vs W a es N (W - (i + 1)) (i + 1) (S.row f W) (S.row g W)) := fun hh => by
   have hnb : S.nb vs W a es N (S.row f W) i = S.row f W := by unfold S.nb; rw [hh]; rfl
   rw [hnb] at sB
   rw [hnb, hh] at sM sO
   exact ⟨IH f g mo h hf, pc_i sM sB sO⟩
  have fit : S.fits vs W a i = true ↔ ¬ ((W : Int) - i < 1) ∧ ¬ (65536 < a + i + 1) := by unfold S.fits; rw [S.an_iff, notB_true, notB_true, ltI_false, ltI_false, hn]; omega
  have nf : ¬ S.fits vs W a i = true → S.hit vs W a es N (S.row f W) i = false := fun hq => by
   cases hh : S.hit vs W a es N (S.row f W) i with
   | false => rfl
   | true => exact absurd (S.hit_iff.1 hh).1.2 hq
  cases hfi : f i with
  | true =>
   simp only [e1, b1, r0, iB, at2, hkE, rl, br, rb, wai, wan, ww, w1, n0, T, Nat.zero_add, Nat.mul_one, notB_t, notB_f, bc_true, bc_false, true_and, hfi]
   exact NH (by
    cases hh : S.hit vs W a es N (S.row f W) i with
    | false => rfl
    | true =>
     have := (S.hit_iff.1 hh).1.1
     rw [S.row_bg.2 ⟨h, hfi⟩] at this; cases this)
  | false =>
   have hbg : S.bgAt (S.row f W) i = false := by
    cases hq : S.bgAt (S.row f W) i with
    | false => rfl
    | true => have := (S.row_bg.1 hq).2; rw [hfi] at this; cases this
   by_cases h2 : (W : Int) - i < 1
   ·simp only [e1, b1, r0, iB, at2, hkE, rl, br, rb, wai, wan, ww, w1, n0, T, Nat.zero_add, Nat.mul_one, notB_t, notB_f, bc_true, bc_false, true_and, hfi, ltI_true.2 h2]
    exact NH (nf fun hq => (fit.1 hq).1 h2)
   by_cases h3 : 65536 < a + i + 1
   ·simp only [e1, b1, r0, iB, at2, hkE, rl, br, rb, wai, wan, ww, w1, n0, T, Nat.zero_add, Nat.mul_one, notB_t, notB_f, bc_true, bc_false, true_and, hfi, ltI_false.2 (Int.not_lt.1 h2), ltI_true.2 h3]
    exact NH (nf fun hq => (fit.1 hq).2 h3)
   have hfit := fit.2 ⟨h2, h3⟩
   have k2 := ltI_false.2 (Int.not_lt.1 h2)
   have k3 := ltI_false.2 (Int.not_lt.1 h3)
   have B4 : s4_K i 1 a false et e2 W N cp cq w w2 vs es (S.row f W) (S.row g W) mo := s4_blk i 1 a false et e2 W N cp cq w w2 vs es (S.row f W) (S.row g W) mo hN hM
   have B6 : s6_K i 1 a (S.oE es N (a + i) 0 false) et e2 W N cp cq w w2 vs es (S.row f W) (S.row g W) mo := s6_blk i 1 a (S.oE es N (a + i) 0 false) et e2 W N cp cq w w2 vs es (S.row f W) (S.row g W) mo hb hl hW hA (S.row_len f W) (fun q hq h => hf q hq (S.row_bg.1 h).2)
   cases ho : S.oL vs W a (S.row f W) (a + i) 0 (S.oE es N (a + i) 0 false) with
   | false =>
    simp only [e1, b1, r0, iB, at2, hkE, rl, br, rb, wai, wan, ww, w1, n0, T, Nat.zero_add, Nat.mul_one, notB_t, notB_f, bc_true, bc_false, true_and, hfi, k2, k3, ho]
    refine ⟨B4, B6, NH ?_⟩
    cases hh : S.hit vs W a es N (S.row f W) i with
    | false => rfl
    | true => have := (S.hit_iff.1 hh).2; rw [ho] at this; cases this
   | true =>
    have hh : S.hit vs W a es N (S.row f W) i = true := S.hit_iff.2 ⟨⟨hbg, hfit⟩, ho⟩
    have u0 : ∀ g, setMany (S.row g W) i [.bool true] = S.row (S.updB g i) W := fun g => S.row_upd h
    have hnb : S.nb vs W a es N (S.row f W) i = S.row (S.updB f i) W := by unfold S.nb; rw [hh, bc_true, u0]
    have w0 : wrapK .i64 ((i : Int) + 0) = (i : Int) := by rw [wrapK_i64]; omega
    have hmk : S.mk1 vs (S.row g W) i = S.row (S.updB g i) W := by unfold S.mk1; rw [hn]; exact u0 g
    rw [hnb] at sB
    rw [hnb, hh, bc_true] at sM
    rw [hnb, hh, bc_true, hmk] at sO
    simp only [e1, b1, r0, iB, at2, hkE, rl, br, rb, wai, wan, ww, w1, n0, T, Nat.zero_add, Nat.mul_one, notB_t, notB_f, bc_true, bc_false, true_and, hfi, k2, k3, ho, w0, u0]
    refine ⟨B4, B6, IH (S.updB f i) _ true h (fun q hq hx => ?_), pc_i sM sB sO⟩
    rcases S.updB_iff.1 hx with e | hx
    ·subst e; exact hfit
    ·exact hf q hq hx
theorem p22_run (i : Nat) (a : Int) (et e2 W N : Nat) (cp cq : Cap) (w w2 : Own) (vs es : List LV) (f g : Nat → Bool) (mo : Bool) : K.RunL (envB [(28, lq2E)] (fun g id => bc (Nat.beq g 23) (bc (Nat.beq id 4) (some s4BB) (bc (Nat.beq g 23) (bc (Nat.beq id 6) (some s6BB) (none)) (none))) (bc (Nat.beq g 23) (bc (Nat.beq id 6) (some s6BB) (none)) (none)))) K.openE 30 23 111 (inner (inner (blkOf 23 2))) p2EB [(0, .int .i64 a), (1, .slice 0 0 W cp), (2, .slice 1 0 N cq), (7, .slice 2 0 W (.known W)), (8, .slice 3 0 W (.known W)), (9, .bool mo), (10, .int .i64 i)] [.flat [.i .u8] et w vs, .flat [.i .u16] e2 w2 es, .flat [.bo] 4 .exact (S.row f W), .flat [.bo] 4 .exact (S.row g W)] Hint.auto ⟨.exit 2, [(0, .int .i64 a), (1, .slice 0 0 W cp), (2, .slice 1 0 N cq), (7, .slice 2 0 W (.known W)), (8, .slice 3 0 W (.known W)), (9, .bool (S.PM vs W a es N (W - i) i (S.row f W) mo))], [(2, .flat [.bo] 4 .exact (S.PB vs W a es N (W - i) i (S.row f W))), (3, .flat [.bo] 4 .exact (S.PO vs W a es N (W - i) i (S.row f W) (S.row g W)))], []⟩ =
  (bc (ltI ↑i ↑W) (bc (ltI ↑i ↑W) (bc (Nat.ble (0 + Int.toNat ↑i * 1 + 1) (lenL vs)) (bc (S.an (S.isB (S.r0 vs i)) (eqI (S.len (S.r0 vs i)) 2)) (bc (ltI ↑i ↑W) (bc (Nat.ble (0 + Int.toNat ↑i * 1 + 1) (lenL (S.row f W))) (bc (boolOf (K.atV (S.row f W) (0 + Int.toNat ↑i * 1))) (bc (notB (ltI (wrapK IntKind.i64 (↑i + 1)) 0)) (p2_T (wrapK IntKind.i64 (↑i + 1)) a et e2 W N cp cq w w2 vs es (S.row f W) (S.row g W) mo ∧ (pc_E a W N cp cq (S.PM vs W a es N (W - i) i (S.row f W) mo) (S.PM vs W a es N (W - Int.toNat (wrapK IntKind.i64 (↑i + 1))) (Int.toNat (wrapK IntKind.i64 (↑i + 1))) (S.row f W) mo) (S.PB vs W a es N (W - i) i (S.row f W)) (S.PB vs W a es N (W - Int.toNat (wrapK IntKind.i64 (↑i + 1))) (Int.toNat (wrapK IntKind.i64 (↑i + 1))) (S.row f W)) (S.PO vs W a es N (W - i) i (S.row f W) (S.row g W)) (S.PO vs W a es N (W - Int.toNat (wrapK IntKind.i64 (↑i + 1))) (Int.toNat (wrapK IntKind.i64 (↑i + 1))) (S.row f W) (S.row g W)))) False) (bc (ltI (wrapK IntKind.i64 (↑W - ↑i)) 2) (bc (notB (ltI (wrapK IntKind.i64 (↑i + 1)) 0)) (p2_T (wrapK IntKind.i64 (↑i + 1)) a et e2 W N cp cq w w2 vs es (S.row f W) (S.row g W) mo ∧ (pc_E a W N cp cq (S.PM vs W a es N (W - i) i (S.row f W) mo) (S.PM vs W a es N (W - Int.toNat (wrapK IntKind.i64 (↑i + 1))) (Int.toNat (wrapK IntKind.i64 (↑i + 1))) (S.row f W) mo) (S.PB vs W a es N (W - i) i (S.row f W)) (S.PB vs W a es N (W - Int.toNat (wrapK IntKind.i64 (↑i + 1))) (Int.toNat (wrapK IntKind.i64 (↑i + 1))) (S.row f W)) (S.PO vs W a es N (W - i) i (S.row f W) (S.row g W)) (S.PO vs W a es N (W - Int.toNat (wrapK IntKind.i64 (↑i + 1))) (Int.toNat (wrapK IntKind.i64 (↑i + 1))) (S.row f W) (S.row g W)))) False) (bc (ltI 65536 (wrapK IntKind.i64 (wrapK IntKind.i64 (a + ↑i) + 2))) (bc (notB (ltI (wrapK IntKind.i64 (↑i + 1)) 0)) (p2_T (wrapK IntKind.i64 (↑i + 1)) a et e2 W N cp cq w w2 vs es (S.row f W) (S.row g W) mo ∧ (pc_E a W N cp cq (S.PM vs W a es N (W - i) i (S.row f W) mo) (S.PM vs W a es N (W - Int.toNat (wrapK IntKind.i64 (↑i + 1))) (Int.toNat (wrapK IntKind.i64 (↑i + 1))) (S.row f W) mo) (S.PB vs W a es N (W - i) i (S.row f W)) (S.PB vs W a es N (W - Int.toNat (wrapK IntKind.i64 (↑i + 1))) (Int.toNat (wrapK IntKind.i64 (↑i + 1))) (S.row f W)) (S.PO vs W a es N (W - i) i (S.row f W) (S.row g W)) (S.PO vs W a es N (W - Int.toNat (wrapK IntKind.i64 (↑i + 1))) (Int.toNat (wrapK IntKind.i64 (↑i + 1))) (S.row f W) (S.row g W)))) False) (s4_K i 2 a false et e2 W N cp cq w w2 vs es (S.row f W) (S.row g W) mo ∧ (s6_K i 2 a (S.oE es N (wrapK IntKind.i64 (a + ↑i)) 0 false) et e2 W N cp cq w w2 vs es (S.row f W) (S.row g W) mo ∧ bc (S.oL vs W a (S.row f W) (wrapK IntKind.i64 (a + ↑i)) 0 (S.oE es N (wrapK IntKind.i64 (a + ↑i)) 0 false)) (bc (ltI ↑i ↑W) (bc (Nat.ble (0 + Int.toNat ↑i * 1 + 1) (lenL (S.row f W))) (bc (ltI (wrapK IntKind.i64 (↑i + 0)) 0) False (bc (ltI (wrapK IntKind.i64 (↑i + 0)) ↑W) (bc (Nat.ble (0 + Int.toNat (wrapK IntKind.i64 (↑i + 0)) * 1 + 1) (lenL (S.row g W))) (bc (ltI (wrapK IntKind.i64 (↑i + 1)) 0) False (bc (ltI (wrapK IntKind.i64 (↑i + 1)) ↑W) (bc (Nat.ble (0 + Int.toNat (wrapK IntKind.i64 (↑i + 1)) * 1 + 1) (lenL (setMany (S.row g W) (0 + Int.toNat (wrapK IntKind.i64 (↑i + 0)) * 1) [LV.bool true]))) (bc (notB (ltI (wrapK IntKind.i64 (↑i + 1)) 0)) (p2_T (wrapK IntKind.i64 (↑i + 1)) a et e2 W N cp cq w w2 vs es (setMany (S.row f W) (0 + Int.toNat ↑i * 1) [LV.bool true]) (setMany (setMany (S.row g W) (0 + Int.toNat (wrapK IntKind.i64 (↑i + 0)) * 1) [LV.bool true]) (0 + Int.toNat (wrapK IntKind.i64 (↑i + 1)) * 1) [LV.bool true]) true ∧ (pc_E a W N cp cq (S.PM vs W a es N (W - i) i (S.row f W) mo) (S.PM vs W a es N (W - Int.toNat (wrapK IntKind.i64 (↑i + 1))) (Int.toNat (wrapK IntKind.i64 (↑i + 1))) (setMany (S.row f W) (0 + Int.toNat ↑i * 1) [LV.bool true]) true) (S.PB vs W a es N (W - i) i (S.row f W)) (S.PB vs W a es N (W - Int.toNat (wrapK IntKind.i64 (↑i + 1))) (Int.toNat (wrapK IntKind.i64 (↑i + 1))) (setMany (S.row f W) (0 + Int.toNat ↑i * 1) [LV.bool true])) (S.PO vs W a es N (W - i) i (S.row f W) (S.row g W)) (S.PO vs W a es N (W - Int.toNat (wrapK IntKind.i64 (↑i + 1))) (Int.toNat (wrapK IntKind.i64 (↑i + 1))) (setMany (S.row f W) (0 + Int.toNat ↑i * 1) [LV.bool true]) (setMany (setMany (S.row g W) (0 + Int.toNat (wrapK IntKind.i64 (↑i + 0)) * 1) [LV.bool true]) (0 + Int.toNat (wrapK IntKind.i64 (↑i + 1)) * 1) [LV.bool true])))) False) False) False)) False) False)) False) False) (bc (notB (ltI (wrapK IntKind.i64 (↑i + 1)) 0)) (p2_T (wrapK IntKind.i64 (↑i + 1)) a et e2 W N cp cq w w2 vs es (S.row f W) (S.row g W) mo ∧ (pc_E a W N cp cq (S.PM vs W a es N (W - i) i (S.row f W) mo) (S.PM vs W a es N (W - Int.toNat (wrapK IntKind.i64 (↑i + 1))) (Int.toNat (wrapK IntKind.i64 (↑i + 1))) (S.row f W) mo) (S.PB vs W a es N (W - i) i (S.row f W)) (S.PB vs W a es N (W - Int.toNat (wrapK IntKind.i64 (↑i + 1))) (Int.toNat (wrapK IntKind.i64 (↑i + 1))) (S.row f W)) (S.PO vs W a es N (W - i) i (S.row f W) (S.row g W)) (S.PO vs W a es N (W - Int.toNat (wrapK IntKind.i64 (↑i + 1))) (Int.toNat (wrapK IntKind.i64 (↑i + 1))) (S.row f W) (S.row g W)))) False)))))) False) False) False) False) False) (pc_E a W N cp cq (S.PM vs W a es N (W - i) i (S.row f W) mo) (mo) (S.PB vs W a es N (W - i) i (S.row f W)) (S.row f W) (S.PO vs W a es N (W - i) i (S.row f W) (S.row g W)) (S.row g W))) := by kernel_rfl
theorem p22_con (i : Nat) (a : Int) (et e2 W N : Nat) (cp cq : Cap) (w w2 : Own) (vs es : List LV) (f g : Nat → Bool) (mo : Bool) (hb : S.okB vs = true) (hl : lenL vs = W) (hW : W ≤ 1000) (hA : 0 ≤ a ∧ a < 65536) (hN : N ≤ lenL es) (hM : N ≤ 1000) (hf : ∀ q, q < W → f q = true → S.fits vs W a q = true) (hi : i ≤ W) (hn : i < W → S.len (S.by1 vs i) = 2) (IH : ∀ (f2 g2 : Nat → Bool) (mo2 : Bool), i < W → (∀ q, q < W → f2 q = true → S.fits vs W a q = true) → p2_T ((i + 1 : Nat) : Int) a et e2 W N cp cq w w2 vs es (S.row f2 W) (S.row g2 W) mo2) : GT Tryd.prog (fun k => .code (inner (inner (blkOf 23 2))) :: .inLoop (inner (inner (blkOf 23 2))) :: k) (Fr.ofL 23 111 [(0, .int .i64 a), (1, .slice 0 0 W cp), (2, .slice 1 0 N cq), (7, .slice 2 0 W (.known W)), (8, .slice 3 0 W (.known W)), (9, .bool mo), (10, .int .i64 i)] [] none) (Heap.of [.flat [.i .u8] et w vs, .flat [.i .u16] e2 w2 es, .flat [.bo] 4 .exact (S.row f W), .flat [.bo] 4 .exact (S.row g W)]) (⟨.exit 2, [(0, .int .i64 a), (1, .slice 0 0 W cp), (2, .slice 1 0 N cq), (7, .slice 2 0 W (.known W)), (8, .slice 3 0 W (.known W)), (9, .bool (S.PM vs W a es N (W - i) i (S.row f W) mo))], [(2, .flat [.bo] 4 .exact (S.PB vs W a es N (W - i) i (S.row f W))), (3, .flat [.bo] 4 .exact (S.PO vs W a es N (W - i) i (S.row f W) (S.row g W)))], []⟩ : K.BRes).x (Fr.ofL 23 111 (⟨.exit 2, [(0, .int .i64 a), (1, .slice 0 0 W cp), (2, .slice 1 0 N cq), (7, .slice 2 0 W (.known W)), (8, .slice 3 0 W (.known W)), (9, .bool (S.PM vs W a es N (W - i) i (S.row f W) mo))], [(2, .flat [.bo] 4 .exact (S.PB vs W a es N (W - i) i (S.row f W))), (3, .flat [.bo] 4 .exact (S.PO vs W a es N (W - i) i (S.row f W) (S.row g W)))], []⟩ : K.BRes).L [] none) (Heap.of (K.chg [.flat [.i .u8] et w vs, .flat [.i .u16] e2 w2 es, .flat [.bo] 4 .exact (S.row f W), .flat [.bo] 4 .exact (S.row g W)] (⟨.exit 2, [(0, .int .i64 a), (1, .slice 0 0 W cp), (2, .slice 1 0 N cq), (7, .slice 2 0 W (.known W)), (8, .slice 3 0 W (.known W)), (9, .bool (S.PM vs W a es N (W - i) i (S.row f W) mo))], [(2, .flat [.bo] 4 .exact (S.PB vs W a es N (W - i) i (S.row f W))), (3, .flat [.bo] 4 .exact (S.PO vs W a es N (W - i) i (S.row f W) (S.row g W)))], []⟩ : K.BRes).ch ++ (⟨.exit 2, [(0, .int .i64 a), (1, .slice 0 0 W cp), (2, .slice 1 0 N cq), (7, .slice 2 0 W (.known W)), (8, .slice 3 0 W (.known W)), (9, .bool (S.PM vs W a es N (W - i) i (S.row f W) mo))], [(2, .flat [.bo] 4 .exact (S.PB vs W a es N (W - i) i (S.row f W))), (3, .flat [.bo] 4 .exact (S.PO vs W a es N (W - i) i (S.row f W) (S.row g W)))], []⟩ : K.BRes).new)) := by
 refine K.loop_of_run good (A := envB [(28, lq2E)] (fun g id => bc (Nat.beq g 23) (bc (Nat.beq id 4) (some s4BB) (bc (Nat.beq g 23) (bc (Nat.beq id 6) (some s6BB) (none)) (none))) (bc (Nat.beq g 23) (bc (Nat.beq id 6) (some s6BB) (none)) (none)))) (envB_ok ?_) K.openE_ok (k := 30) (ent := p2EB) (cast (p22_run i a et e2 W N cp cq w w2 vs es f g mo).symm ?_)
 ·intro p hp; simp only [List.mem_cons, List.not_mem_nil, or_false] at hp; rcases hp with rfl <;> first | exact lq2_ok
 ·have T : ∀ z : Nat, Int.toNat (z : Int) = z := Int.toNat_natCast
  have w1 : wrapK .i64 ((i : Int) + 1) = ((i + 1 : Nat) : Int) := by rw [wrapK_i64]; omega
  have n0 : ltI ((i + 1 : Nat) : Int) 0 = false := ltI_false.2 (by omega)
  by_cases h : i < W
  rotate_left
  ·have e1 : ltI (i : Int) W = false := ltI_false.2 (by omega)
   have z : W - i = 0 := by omega
   simp only [e1, z, bc_false]
   exact pc_i rfl rfl rfl
  have hn := hn h
  have e1 : ltI (i : Int) W = true := ltI_true.2 (by omega)
  have b1 : Nat.ble (i + 1) (lenL vs) = true := S.bleN.2 (by omega)
  have g0 := S.okB_at hb (i := i) (by omega)
  have r0 : S.r0 vs i = S.by1 vs i := by
   unfold S.r0
   rw [Int.toNat_natCast, Nat.mul_one, Nat.zero_add]
   show wrapK .i64 (S.by1 vs i) = _
   rw [wrapK_i64]; omega
  have iB : S.isB (S.by1 vs i) = true := S.isB_iff.2 g0
  have at2 : S.an true true = true := rfl
  have hkE : eqI (S.len (S.by1 vs i)) 2 = true := eqI_true.2 hn
  have rl : ∀ g, lenL (S.row g W) = W := fun g => S.row_len g W
  have br : Nat.ble (i + 1) W = true := S.bleN.2 (by omega)
  have rb : boolOf (K.atV (S.row f W) i) = f i := S.row_b h
  have wai : wrapK .i64 (a + i) = a + i := by rw [wrapK_i64]; omega
  have wan : wrapK .i64 (a + i + 2) = a + i + 2 := by rw [wrapK_i64]; omega
  have ww : wrapK .i64 ((W : Int) - i) = (W : Int) - i := by rw [wrapK_i64]; omega
  have hs : W - i = (W - (i + 1)) + 1 := by omega
  have sM : S.PM vs W a es N (W - i) i (S.row f W) mo = S.PM vs W a es N (W - (i + 1)) (i + 1) (S.nb vs W a es N (S.row f W) i) (bc (S.hit vs W a es N (S.row f W) i) true mo) := by rw [hs]; rfl
  have sB : S.PB vs W a es N (W - i) i (S.row f W) = S.PB vs W a es N (W - (i + 1)) (i + 1) (S.nb vs W a es N (S.row f W) i) := by rw [hs]; rfl
  have sO : S.PO vs W a es N (W - i) i (S.row f W) (S.row g W) = S.PO vs W a es N (W - (i + 1)) (i + 1) (S.nb vs W a es N (S.row f W) i) (bc (S.hit vs W a es N (S.row f W) i) (S.mk1 vs (S.row g W) i) (S.row g W)) := by rw [hs]; rfl
  have NH : S.hit vs W a es N (S.row f W) i = false → p2_T ((i + 1 : Nat) : Int) a et e2 W N cp cq w w2 vs es (S.row f W) (S.row g W) mo ∧ pc_E a W N cp cq (S.PM vs W a es N (W - i) i (S.row f W) mo) (S.PM vs W a es N (W - (i + 1)) (i + 1) (S.row f W) mo) (S.PB vs W a es N (W - i) i (S.row f W)) (S.PB vs W a es N (W - (i + 1)) (i + 1) (S.row f W)) (S.PO vs W a es N (W - i) i (S.row f W) (S.row g W)) (S.PO vs W a es N (W - (i + 1)) (i + 1) (S.row f W) (S.row g W)) := fun hh => by
   have hnb : S.nb vs W a es N (S.row f W) i = S.row f W := by unfold S.nb; rw [hh]; rfl
   rw [hnb] at sB
   rw [hnb, hh] at sM sO
   exact ⟨IH f g mo h hf, pc_i sM sB sO⟩
  have fit : S.fits vs W a i = true ↔ ¬ ((W : Int) - i < 2) ∧ ¬ (65536 < a + i + 2) := by unfold S.fits; rw [S.an_iff, notB_true, notB_true, ltI_false, ltI_false, hn]; omega
  have nf : ¬ S.fits vs W a i = true → S.hit vs W a es N (S.row f W) i = false := fun hq => by
   cases hh : S.hit vs W a es N (S.row f W) i with
   | false => rfl
   | true => exact absurd (S.hit_iff.1 hh).1.2 hq
  cases hfi : f i with
  | true =>
   simp only [e1, b1, r0, iB, at2, hkE, rl, br, rb, wai, wan, ww, w1, n0, T, Nat.zero_add, Nat.mul_one, notB_t, notB_f, bc_true, bc_false, true_and, hfi]
   exact NH (by
    cases hh : S.hit vs W a es N (S.row f W) i with
    | false => rfl
    | true =>
     have := (S.hit_iff.1 hh).1.1
     rw [S.row_bg.2 ⟨h, hfi⟩] at this; cases this)
  | false =>
   have hbg : S.bgAt (S.row f W) i = false := by
    cases hq : S.bgAt (S.row f W) i with
    | false => rfl
    | true => have := (S.row_bg.1 hq).2; rw [hfi] at this; cases this
   by_cases h2 : (W : Int) - i < 2
   ·simp only [e1, b1, r0, iB, at2, hkE, rl, br, rb, wai, wan, ww, w1, n0, T, Nat.zero_add, Nat.mul_one, notB_t, notB_f, bc_true, bc_false, true_and, hfi, ltI_true.2 h2]
    exact NH (nf fun hq => (fit.1 hq).1 h2)
   by_cases h3 : 65536 < a + i + 2
   ·simp only [e1, b1, r0, iB, at2, hkE, rl, br, rb, wai, wan, ww, w1, n0, T, Nat.zero_add, Nat.mul_one, notB_t, notB_f, bc_true, bc_false, true_and, hfi, ltI_false.2 (Int.not_lt.1 h2), ltI_true.2 h3]
    exact NH (nf fun hq => (fit.1 hq).2 h3)
   have hfit := fit.2 ⟨h2, h3⟩
   have k2 := ltI_false.2 (Int.not_lt.1 h2)
   have k3 := ltI_false.2 (Int.not_lt.1 h3)
   have B4 : s4_K i 2 a false et e2 W N cp cq w w2 vs es (S.row f W) (S.row g W) mo := s4_blk i 2 a false et e2 W N cp cq w w2 vs es (S.row f W) (S.row g W) mo hN hM
   have B6 : s6_K i 2 a (S.oE es N (a + i) 0 false) et e2 W N cp cq w w2 vs es (S.row f W) (S.row g W) mo := s6_blk i 2 a (S.oE es N (a + i) 0 false) et e2 W N cp cq w w2 vs es (S.row f W) (S.row g W) mo hb hl hW hA (S.row_len f W) (fun q hq h => hf q hq (S.row_bg.1 h).2)
   cases ho : S.oL vs W a (S.row f W) (a + i) 0 (S.oE es N (a + i) 0 false) with
   | false =>
    simp only [e1, b1, r0, iB, at2, hkE, rl, br, rb, wai, wan, ww, w1, n0, T, Nat.zero_add, Nat.mul_one, notB_t, notB_f, bc_true, bc_false, true_and, hfi, k2, k3, ho]
    refine ⟨B4, B6, NH ?_⟩
    cases hh : S.hit vs W a es N (S.row f W) i with
    | false => rfl
    | true => have := (S.hit_iff.1 hh).2; rw [ho] at this; cases this
   | true =>
    have hh : S.hit vs W a es N (S.row f W) i = true := S.hit_iff.2 ⟨⟨hbg, hfit⟩, ho⟩
    have u0 : ∀ g, setMany (S.row g W) i [.bool true] = S.row (S.updB g i) W := fun g => S.row_upd h
    have hnb : S.nb vs W a es N (S.row f W) i = S.row (S.updB f i) W := by unfold S.nb; rw [hh, bc_true, u0]
    have w0 : wrapK .i64 ((i : Int) + 0) = (i : Int) := by rw [wrapK_i64]; omega
    have x1 : ltI ((i + 1 : Nat) : Int) W = true := ltI_true.2 (by omega)
    have y1 : Nat.ble (i + 1 + 1) W = true := S.bleN.2 (by omega)
    have u1 : ∀ g, setMany (S.row g W) (i + 1) [.bool true] = S.row (S.updB g (i + 1)) W := fun g => S.row_upd (by omega)
    have hmk : S.mk1 vs (S.row g W) i = S.row (S.updB (S.updB g i) (i + 1)) W := by unfold S.mk1; rw [hn]; show setMany (setMany (S.row g W) i [.bool true]) (i + 1) [.bool true] = _; rw [u0, u1]
    rw [hnb] at sB
    rw [hnb, hh, bc_true] at sM
    rw [hnb, hh, bc_true, hmk] at sO
    simp only [e1, b1, r0, iB, at2, hkE, rl, br, rb, wai, wan, ww, w1, n0, T, Nat.zero_add, Nat.mul_one, notB_t, notB_f, bc_true, bc_false, true_and, hfi, k2, k3, ho, w0, u0, x1, y1, u1]
    refine ⟨B4, B6, IH (S.updB f i) _ true h (fun q hq hx => ?_), pc_i sM sB sO⟩
    rcases S.updB_iff.1 hx with e | hx
    ·subst e; exact hfit
    ·exact hf q hq hx
theorem p23_run (i : Nat) (a : Int) (et e2 W N : Nat) (cp cq : Cap) (w w2 : Own) (vs es : List LV) (f g : Nat → Bool) (mo : Bool) : K.RunL (envB [(28, lq3E)] (fun g id => bc (Nat.beq g 23) (bc (Nat.beq id 4) (some s4BB) (bc (Nat.beq g 23) (bc (Nat.beq id 6) (some s6BB) (none)) (none))) (bc (Nat.beq g 23) (bc (Nat.beq id 6) (some s6BB) (none)) (none)))) K.openE 30 23 111 (inner (inner (blkOf 23 2))) p2EB [(0, .int .i64 a), (1, .slice 0 0 W cp), (2, .slice 1 0 N cq), (7, .slice 2 0 W (.known W)), (8, .slice 3 0 W (.known W)), (9, .bool mo), (10, .int .i64 i)] [.flat [.i .u8] et w vs, .flat [.i .u16] e2 w2 es, .flat [.bo] 4 .exact (S.row f W), .flat [.bo] 4 .exact (S.row g W)] Hint.auto ⟨.exit 2, [(0, .int .i64 a), (1, .slice 0 0 W cp), (2, .slice 1 0 N cq), (7, .slice 2 0 W (.known W)), (8, .slice 3 0 W (.known W)), (9, .bool (S.PM vs W a es N (W - i) i (S.row f W) mo))], [(2, .flat [.bo] 4 .exact (S.PB vs W a es N (W - i) i (S.row f W))), (3, .flat [.bo] 4 .exact (S.PO vs W a es N (W - i) i (S.row f W) (S.row g W)))], []⟩ =
  (bc (ltI ↑i ↑W) (bc (ltI ↑i ↑W) (bc (Nat.ble (0 + Int.toNat ↑i * 1 + 1) (lenL vs)) (bc (S.an (S.isB (S.r0 vs i)) (eqI (S.len (S.r0 vs i)) 3)) (bc (ltI ↑i ↑W) (bc (Nat.ble (0 + Int.toNat ↑i * 1 + 1) (lenL (S.row f W))) (bc (boolOf (K.atV (S.row f W) (0 + Int.toNat ↑i * 1))) (bc (notB (ltI (wrapK IntKind.i64 (↑i + 1)) 0)) (p2_T (wrapK IntKind.i64 (↑i + 1)) a et e2 W N cp cq w w2 vs es (S.row f W) (S.row g W) mo ∧ (pc_E a W N cp cq (S.PM vs W a es N (W - i) i (S.row f W) mo) (S.PM vs W a es N (W - Int.toNat (wrapK IntKind.i64 (↑i + 1))) (Int.toNat (wrapK IntKind.i64 (↑i + 1))) (S.row f W) mo) (S.PB vs W a es N (W - i) i (S.row f W)) (S.PB vs W a es N (W - Int.toNat (wrapK IntKind.i64 (↑i + 1))) (Int.toNat (wrapK IntKind.i64 (↑i + 1))) (S.row f W)) (S.PO vs W a es N (W - i) i (S.row f W) (S.row g W)) (S.PO vs W a es N (W - Int.toNat (wrapK IntKind.i64 (↑i + 1))) (Int.toNat (wrapK IntKind.i64 (↑i + 1))) (S.row f W) (S.row g W)))) False) (bc (ltI (wrapK IntKind.i64 (↑W - ↑i)) 3) (bc (notB (ltI (wrapK IntKind.i64 (↑i + 1)) 0)) (p2_T (wrapK IntKind.i64 (↑i + 1)) a et e2 W N cp cq w w2 vs es (S.row f W) (S.row g W) mo ∧ (pc_E a W N cp cq (S.PM vs W a es N (W - i) i (S.row f W) mo) (S.PM vs W a es N (W - Int.toNat (wrapK IntKind.i64 (↑i + 1))) (Int.toNat (wrapK IntKind.i64 (↑i + 1))) (S.row f W) mo) (S.PB vs W a es N (W - i) i (S.row f W)) (S.PB vs W a es N (W - Int.toNat (wrapK IntKind.i64 (↑i + 1))) (Int.toNat (wrapK IntKind.i64 (↑i + 1))) (S.row f W)) (S.PO vs W a es N (W - i) i (S.row f W) (S.row g W)) (S.PO vs W a es N (W - Int.toNat (wrapK IntKind.i64 (↑i + 1))) (Int.toNat (wrapK IntKind.i64 (↑i + 1))) (S.row f W) (S.row g W)))) False) (bc (ltI 65536 (wrapK IntKind.i64 (wrapK IntKind.i64 (a + ↑i) + 3))) (bc (notB (ltI (wrapK IntKind.i64 (↑i + 1)) 0)) (p2_T (wrapK IntKind.i64 (↑i + 1)) a et e2 W N cp cq w w2 vs es (S.row f W) (S.row g W) mo ∧ (pc_E a W N cp cq (S.PM vs W a es N (W - i) i (S.row f W) mo) (S.PM vs W a es N (W - Int.toNat (wrapK IntKind.i64 (↑i + 1))) (Int.toNat (wrapK IntKind.i64 (↑i + 1))) (S.row f W) mo) (S.PB vs W a es N (W - i) i (S.row f W)) (S.PB vs W a es N (W - Int.toNat (wrapK IntKind.i64 (↑i + 1))) (Int.toNat (wrapK IntKind.i64 (↑i + 1))) (S.row f W)) (S.PO vs W a es N (W - i) i (S.row f W) (S.row g W)) (S.PO vs W a es N (W - Int.toNat (wrapK IntKind.i64 (↑i + 1))) (Int.toNat (wrapK IntKind.i64 (↑i + 1))) (S.row f W) (S.row g W)))) False) (s4_K i 3 a false et e2 W N cp cq w w2 vs es (S.row f W) (S.row g W) mo ∧ (s6_K i 3 a (S.oE es N (wrapK IntKind.i64 (a + ↑i)) 0 false) et e2 W N cp cq w w2 vs es (S.row f W) (S.row g W) mo ∧ bc (S.oL vs W a (S.row f W) (wrapK IntKind.i64 (a + ↑i)) 0 (S.oE es N (wrapK IntKind.i64 (a + ↑i)) 0 false)) (bc (ltI ↑i ↑W) (bc (Nat.ble (0 + Int.toNat ↑i * 1 + 1) (lenL (S.row f W))) (bc (ltI (wrapK IntKind.i64 (↑i + 0)) 0) False (bc (ltI (wrapK IntKind.i64 (↑i + 0)) ↑W) (bc (Nat.ble (0 + Int.toNat (wrapK IntKind.i64 (↑i + 0)) * 1 + 1) (lenL (S.row g W))) (bc (ltI (wrapK IntKind.i64 (↑i + 1)) 0) False (bc (ltI (wrapK IntKind.i64 (↑i + 1)) ↑W) (bc (Nat.ble (0 + Int.toNat (wrapK IntKind.i64 (↑i + 1)) * 1 + 1) (lenL (setMany (S.row g W) (0 + Int.toNat (wrapK IntKind.i64 (↑i + 0)) * 1) [LV.bool true]))) (bc (ltI (wrapK IntKind.i64 (↑i + 2)) 0) False (bc (ltI (wrapK IntKind.i64 (↑i + 2)) ↑W) (bc (Nat.ble (0 + Int.toNat (wrapK IntKind.i64 (↑i + 2)) * 1 + 1) (lenL (setMany (setMany (S.row g W) (0 + Int.toNat (wrapK IntKind.i64 (↑i + 0)) * 1) [LV.bool true]) (0 + Int.toNat (wrapK IntKind.i64 (↑i + 1)) * 1) [LV.bool true]))) (bc (notB (ltI (wrapK IntKind.i64 (↑i + 1)) 0)) (p2_T (wrapK IntKind.i64 (↑i + 1)) a et e2 W N cp cq w w2 vs es (setMany (S.row f W) (0 + Int.toNat ↑i * 1) [LV.bool true]) (setMany (setMany (setMany (S.row g W) (0 + Int.toNat (wrapK IntKind.i64 (↑i + 0)) * 1) [LV.bool true]) (0 + Int.toNat (wrapK IntKind.i64 (↑i + 1)) * 1) [LV.bool true]) (0 + Int.toNat (wrapK IntKind.i64 (↑i + 2)) * 1) [LV.bool true]) true ∧ (pc_E a W N cp cq (S.PM vs W a es N (W - i) i (S.row f W) mo) (S.PM vs W a es N (W - Int.toNat (wrapK IntKind.i64 (↑i + 1))) (Int.toNat (wrapK IntKind.i64 (↑i + 1))) (setMany (S.row f W) (0 + Int.toNat ↑i * 1) [LV.bool true]) true) (S.PB vs W a es N (W - i) i (S.row f W)) (S.PB vs W a es N (W - Int.toNat (wrapK IntKind.i64 (↑i + 1))) (Int.toNat (wrapK IntKind.i64 (↑i + 1))) (setMany (S.row f W) (0 + Int.toNat ↑i * 1) [LV.bool true])) (S.PO vs W a es N (W - i) i (S.row f W) (S.row g W)) (S.PO vs W a es N (W - Int.toNat (wrapK IntKind.i64 (↑i + 1))) (Int.toNat (wrapK IntKind.i64 (↑i + 1))) (setMany (S.row f W) (0 + Int.toNat ↑i * 1) [LV.bool true]) (setMany (setMany (setMany (S.row g W) (0 + Int.toNat (wrapK IntKind.i64 (↑i + 0)) * 1) [LV.bool true]) (0 + Int.toNat (wrapK IntKind.i64 (↑i + 1)) * 1) [LV.bool true]) (0 + Int.toNat (wrapK IntKind.i64 (↑i + 2)) * 1) [LV.bool true])))) False) False) False)) False) False)) False) False)) False) False) (bc (notB (ltI (wrapK IntKind.i64 (↑i + 1)) 0)) (p2_T (wrapK IntKind.i64 (↑i + 1)) a et e2 W N cp cq w w2 vs es (S.row f W) (S.row g W) mo ∧ (pc_E a W N cp cq (S.PM vs W a es N (W - i) i (S.row f W) mo) (S.PM vs W a es N (W - Int.toNat (wrapK IntKind.i64 (↑i + 1))) (Int.toNat (wrapK IntKind.i64 (↑i + 1))) (S.row f W) mo) (S.PB vs W a es N (W - i) i (S.row f W)) (S.PB vs W a es N (W - Int.toNat (wrapK IntKind.i64 (↑i + 1))) (Int.toNat (wrapK IntKind.i64 (↑i + 1))) (S.row f W)) (S.PO vs W a es N (W - i) i (S.row f W) (S.row g W)) (S.PO vs W a es N (W - Int.toNat (wrapK IntKind.i64 (↑i + 1))) (Int.toNat (wrapK IntKind.i64 (↑i + 1))) (S.row f W) (S.row g W)))) False)))))) False) False) False) False) False) (pc_E a W N cp cq (S.PM vs W a es N (W - i) i (S.row f W) mo) (mo) (S.PB vs W a es N (W - i) i (S.row f W)) (S.row f W) (S.PO vs W a es N (W - i) i (S.row f W) (S.row g W)) (S.row g W))) := by kernel_rfl
theorem p23_con (i : Nat) (a : Int) (et e2 W N : Nat) (cp cq : Cap) (w w2 : Own) (vs es : List LV) (f g : Nat → Bool) (mo : Bool) (hb : S.okB vs = true) (hl : lenL vs = W) (hW : W ≤ 1000) (hA : 0 ≤ a ∧ a < 65536) (hN : N ≤ lenL es) (hM : N ≤ 1000) (hf : ∀ q, q < W → f q = true → S.fits vs W a q = true) (hi : i ≤ W) (hn : i < W → S.len (S.by1 vs i) = 3) (IH : ∀ (f2 g2 : Nat → Bool) (mo2 : Bool), i < W → (∀ q, q < W → f2 q = true → S.fits vs W a q = true) → p2_T ((i + 1 : Nat) : Int) a et e2 W N cp cq w w2 vs es (S.row f2 W) (S.row g2 W) mo2) : GT Tryd.prog (fun k => .code (inner (inner (blkOf 23 2))) :: .inLoop (inner (inner (blkOf 23 2))) :: k) (Fr.ofL 23 111 [(0, .int .i64 a), (1, .slice 0 0 W cp), (2, .slice 1 0 N cq), (7, .slice 2 0 W (.known W)), (8, .slice 3 0 W (.known W)), (9, .bool mo), (10, .int .i64 i)] [] none) (Heap.of [.flat [.i .u8] et w vs, .flat [.i .u16] e2 w2 es, .flat [.bo] 4 .exact (S.row f W), .flat [.bo] 4 .exact (S.row g W)]) (⟨.exit 2, [(0, .int .i64 a), (1, .slice 0 0 W cp), (2, .slice 1 0 N cq), (7, .slice 2 0 W (.known W)), (8, .slice 3 0 W (.known W)), (9, .bool (S.PM vs W a es N (W - i) i (S.row f W) mo))], [(2, .flat [.bo] 4 .exact (S.PB vs W a es N (W - i) i (S.row f W))), (3, .flat [.bo] 4 .exact (S.PO vs W a es N (W - i) i (S.row f W) (S.row g W)))], []⟩ : K.BRes).x (Fr.ofL 23 111 (⟨.exit 2, [(0, .int .i64 a), (1, .slice 0 0 W cp), (2, .slice 1 0 N cq), (7, .slice 2 0 W (.known W)), (8, .slice 3 0 W (.known W)), (9, .bool (S.PM vs W a es N (W - i) i (S.row f W) mo))], [(2, .flat [.bo] 4 .exact (S.PB vs W a es N (W - i) i (S.row f W))), (3, .flat [.bo] 4 .exact (S.PO vs W a es N (W - i) i (S.row f W) (S.row g W)))], []⟩ : K.BRes).L [] none) (Heap.of (K.chg [.flat [.i .u8] et w vs, .flat [.i .u16] e2 w2 es, .flat [.bo] 4 .exact (S.row f W), .flat [.bo] 4 .exact (S.row g W)] (⟨.exit 2, [(0, .int .i64 a), (1, .slice 0 0 W cp), (2, .slice 1 0 N cq), (7, .slice 2 0 W (.known W)), (8, .slice 3 0 W (.known W)), (9, .bool (S.PM vs W a es N (W - i) i (S.row f W) mo))], [(2, .flat [.bo] 4 .exact (S.PB vs W a es N (W - i) i (S.row f W))), (3, .flat [.bo] 4 .exact (S.PO vs W a es N (W - i) i (S.row f W) (S.row g W)))], []⟩ : K.BRes).ch ++ (⟨.exit 2, [(0, .int .i64 a), (1, .slice 0 0 W cp), (2, .slice 1 0 N cq), (7, .slice 2 0 W (.known W)), (8, .slice 3 0 W (.known W)), (9, .bool (S.PM vs W a es N (W - i) i (S.row f W) mo))], [(2, .flat [.bo] 4 .exact (S.PB vs W a es N (W - i) i (S.row f W))), (3, .flat [.bo] 4 .exact (S.PO vs W a es N (W - i) i (S.row f W) (S.row g W)))], []⟩ : K.BRes).new)) := by
 refine K.loop_of_run good (A := envB [(28, lq3E)] (fun g id => bc (Nat.beq g 23) (bc (Nat.beq id 4) (some s4BB) (bc (Nat.beq g 23) (bc (Nat.beq id 6) (some s6BB) (none)) (none))) (bc (Nat.beq g 23) (bc (Nat.beq id 6) (some s6BB) (none)) (none)))) (envB_ok ?_) K.openE_ok (k := 30) (ent := p2EB) (cast (p23_run i a et e2 W N cp cq w w2 vs es f g mo).symm ?_)
 ·intro p hp; simp only [List.mem_cons, List.not_mem_nil, or_false] at hp; rcases hp with rfl <;> first | exact lq3_ok
 ·have T : ∀ z : Nat, Int.toNat (z : Int) = z := Int.toNat_natCast
  have w1 : wrapK .i64 ((i : Int) + 1) = ((i + 1 : Nat) : Int) := by rw [wrapK_i64]; omega
  have n0 : ltI ((i + 1 : Nat) : Int) 0 = false := ltI_false.2 (by omega)
  by_cases h : i < W
  rotate_left
  ·have e1 : ltI (i : Int) W = false := ltI_false.2 (by omega)
   have z : W - i = 0 := by omega
   simp only [e1, z, bc_false]
   exact pc_i rfl rfl rfl
  have hn := hn h
  have e1 : ltI (i : Int) W = true := ltI_true.2 (by omega)
  have b1 : Nat.ble (i + 1) (lenL vs) = true := S.bleN.2 (by omega)
  have g0 := S.okB_at hb (i := i) (by omega)
  have r0 : S.r0 vs i = S.by1 vs i := by
   unfold S.r0
   rw [Int.toNat_natCast, Nat.mul_one, Nat.zero_add]
   show wrapK .i64 (S.by1 vs i) = _
   rw [wrapK_i64]; omega
  have iB : S.isB (S.by1 vs i) = true := S.isB_iff.2 g0
  have at2 : S.an true true = true := rfl
  have hkE : eqI (S.len (S.by1 vs i)) 3 = true := eqI_true.2 hn
  have rl : ∀ g, lenL (S.row g W) = W := fun g => S.row_len g W
  have br : Nat.ble (i + 1) W = true := S.bleN.2 (by omega)
  have rb : boolOf (K.atV (S.row f W) i) = f i := S.row_b h
  have wai : wrapK .i64 (a + i) = a + i := by rw [wrapK_i64]; omega
  have wan : wrapK .i64 (a + i + 3) = a + i + 3 := by rw [wrapK_i64]; omega
  have ww : wrapK .i64 ((W : Int) - i) = (W : Int) - i := by rw [wrapK_i64]; omega
  have hs : W - i = (W - (i + 1)) + 1 := by omega
  have sM : S.PM vs W a es N (W - i) i (S.row f W) mo = S.PM vs W a es N (W - (i + 1)) (i + 1) (S.nb vs W a es N (S.row f W) i) (bc (S.hit vs W a es N (S.row f W) i) true mo) := by rw [hs]; rfl
  have sB : S.PB vs W a es N (W - i) i (S.row f W) = S.PB vs W a es N (W - (i + 1)) (i + 1) (S.nb vs W a es N (S.row f W) i) := by rw [hs]; rfl
  have sO : S.PO vs W a es N (W - i) i (S.row f W) (S.row g W) = S.PO vs W a es N (W - (i + 1)) (i + 1) (S.nb vs W a es N (S.row f W) i) (bc (S.hit vs W a es N (S.row f W) i) (S.mk1 vs (S.row g W) i) (S.row g W)) := by rw [hs]; rfl
  have NH : S.hit vs W a es N (S.row f W) i = false → p2_T ((i + 1 : Nat) : Int) a et e2 W N cp cq w w2 vs es (S.row f W) (S.row g W) mo ∧ pc_E a W N cp cq (S.PM vs W a es N (W - i) i (S.row f W) mo) (S.PM vs W a es N (W - (i + 1)) (i + 1) (S.row f W) mo) (S.PB vs W a es N (W - i) i (S.row f W)) (S.PB vs W a es N (W - (i + 1)) (i + 1) (S.row f W)) (S.PO vs W a es N (W - i) i (S.row f W) (S.row g W)) (S.PO vs W a es N (W - (i + 1)) (i + 1) (S.row f W) (S.row g W)) := fun hh => by
   have hnb : S.nb vs W a es N (S.row f W) i = S.row f W := by unfold S.nb; rw [hh]; rfl
   rw [hnb] at sB
   rw [hnb, hh] at sM sO
   exact ⟨IH f g mo h hf, pc_i sM sB sO⟩
  have fit : S.fits vs W a i = true ↔ ¬ ((W : Int) - i < 3) ∧ ¬ (65536 < a + i + 3) := by unfold S.fits; rw [S.an_iff, notB_true, notB_true, ltI_false, ltI_false, hn]; omega
  have nf : ¬ S.fits vs W a i = true → S.hit vs W a es N (S.row f W) i = false := fun hq => by
   cases hh : S.hit vs W a es N (S.row f W) i with
   | false => rfl
   | true => exact absurd (S.hit_iff.1 hh).1.2 hq
  cases hfi : f i with
  | true =>
   simp only [e1, b1, r0, iB, at2, hkE, rl, br, rb, wai, wan, ww, w1, n0, T, Nat.zero_add, Nat.mul_one, notB_t, notB_f, bc_true, bc_false, true_and, hfi]
   exact NH (by
    cases hh : S.hit vs W a es N (S.row f W) i with
    | false => rfl
    | true =>
     have := (S.hit_iff.1 hh).1.1
     rw [S.row_bg.2 ⟨h, hfi⟩] at this; cases this)
  | false =>
   have hbg : S.bgAt (S.row f W) i = false := by
    cases hq : S.bgAt (S.row f W) i with
    | false => rfl
    | true => have := (S.row_bg.1 hq).2; rw [hfi] at this; cases this
   by_cases h2 : (W : Int) - i < 3
   ·simp only [e1, b1, r0, iB, at2, hkE, rl, br, rb, wai, wan, ww, w1, n0, T, Nat.zero_add, Nat.mul_one, notB_t, notB_f, bc_true, bc_false, true_and, hfi, ltI_true.2 h2]
    exact NH (nf fun hq => (fit.1 hq).1 h2)
   by_cases h3 : 65536 < a + i + 3
   ·simp only [e1, b1, r0, iB, at2, hkE, rl, br, rb, wai, wan, ww, w1, n0, T, Nat.zero_add, Nat.mul_one, notB_t, notB_f, bc_true, bc_false, true_and, hfi, ltI_false.2 (Int.not_lt.1 h2), ltI_true.2 h3]
    exact NH (nf fun hq => (fit.1 hq).2 h3)
   have hfit := fit.2 ⟨h2, h3⟩
   have k2 := ltI_false.2 (Int.not_lt.1 h2)
   have k3 := ltI_false.2 (Int.not_lt.1 h3)
   have B4 : s4_K i 3 a false et e2 W N cp cq w w2 vs es (S.row f W) (S.row g W) mo := s4_blk i 3 a false et e2 W N cp cq w w2 vs es (S.row f W) (S.row g W) mo hN hM
   have B6 : s6_K i 3 a (S.oE es N (a + i) 0 false) et e2 W N cp cq w w2 vs es (S.row f W) (S.row g W) mo := s6_blk i 3 a (S.oE es N (a + i) 0 false) et e2 W N cp cq w w2 vs es (S.row f W) (S.row g W) mo hb hl hW hA (S.row_len f W) (fun q hq h => hf q hq (S.row_bg.1 h).2)
   cases ho : S.oL vs W a (S.row f W) (a + i) 0 (S.oE es N (a + i) 0 false) with
   | false =>
    simp only [e1, b1, r0, iB, at2, hkE, rl, br, rb, wai, wan, ww, w1, n0, T, Nat.zero_add, Nat.mul_one, notB_t, notB_f, bc_true, bc_false, true_and, hfi, k2, k3, ho]
    refine ⟨B4, B6, NH ?_⟩
    cases hh : S.hit vs W a es N (S.row f W) i with
    | false => rfl
    | true => have := (S.hit_iff.1 hh).2; rw [ho] at this; cases this
   | true =>
    have hh : S.hit vs W a es N (S.row f W) i = true := S.hit_iff.2 ⟨⟨hbg, hfit⟩, ho⟩
    have u0 : ∀ g, setMany (S.row g W) i [.bool true] = S.row (S.updB g i) W := fun g => S.row_upd h
    have hnb : S.nb vs W a es N (S.row f W) i = S.row (S.updB f i) W := by unfold S.nb; rw [hh, bc_true, u0]
    have w0 : wrapK .i64 ((i : Int) + 0) = (i : Int) := by rw [wrapK_i64]; omega
    have x1 : ltI ((i + 1 : Nat) : Int) W = true := ltI_true.2 (by omega)
    have y1 : Nat.ble (i + 1 + 1) W = true := S.bleN.2 (by omega)
    have u1 : ∀ g, setMany (S.row g W) (i + 1) [.bool true] = S.row (S.updB g (i + 1)) W := fun g => S.row_upd (by omega)
    have w2 : wrapK .i64 ((i : Int) + 2) = ((i + 2 : Nat) : Int) := by rw [wrapK_i64]; omega
    have n2 : ltI ((i + 2 : Nat) : Int) 0 = false := ltI_false.2 (by omega)
    have x2 : ltI ((i + 2 : Nat) : Int) W = true := ltI_true.2 (by omega)
    have y2 : Nat.ble (i + 2 + 1) W = true := S.bleN.2 (by omega)
    have u2 : ∀ g, setMany (S.row g W) (i + 2) [.bool true] = S.row (S.updB g (i + 2)) W := fun g => S.row_upd (by omega)
    have hmk : S.mk1 vs (S.row g W) i = S.row (S.updB (S.updB (S.updB g i) (i + 1)) (i + 2)) W := by unfold S.mk1; rw [hn]; show setMany (setMany (setMany (S.row g W) i [.bool true]) (i + 1) [.bool true]) (i + 2) [.bool true] = _; rw [u0, u1, u2]
    rw [hnb] at sB
    rw [hnb, hh, bc_true] at sM
    rw [hnb, hh, bc_true, hmk] at sO
    simp only [e1, b1, r0, iB, at2, hkE, rl, br, rb, wai, wan, ww, w1, n0, T, Nat.zero_add, Nat.mul_one, notB_t, notB_f, bc_true, bc_false, true_and, hfi, k2, k3, ho, w0, u0, x1, y1, u1, w2, n2, x2, y2, u2]
    refine ⟨B4, B6, IH (S.updB f i) _ true h (fun q hq hx => ?_), pc_i sM sB sO⟩
    rcases S.updB_iff.1 hx with e | hx
    ·subst e; exact hfit
    ·exact hf q hq hx
theorem p2_lok (a : Int) (et e2 W N : Nat) (cp cq : Cap) (w w2 : Own) (vs es : List LV) (hb : S.okB vs = true) (hl : lenL vs = W) (hW : W ≤ 1000) (hA : 0 ≤ a ∧ a < 65536) (hN : N ≤ lenL es) (hM : N ≤ 1000) : ∀ (j i : Nat) (f g : Nat → Bool) (mo : Bool), i ≤ W → W - i = j → (∀ q, q < W → f q = true → S.fits vs W a q = true) → p2_T (i : Int) a et e2 W N cp cq w w2 vs es (S.row f W) (S.row g W) mo := by
 intro j
 induction j with
 | zero =>
  intro i f g mo hi hm hf
  exact p21_con i a et e2 W N cp cq w w2 vs es f g mo hb hl hW hA hN hM hf hi (fun h => by omega) fun f2 g2 mo2 h _ => by omega
 | succ j ih =>
  intro i f g mo hi hm hf
  have IH := fun (f2 g2 : Nat → Bool) (mo2 : Bool) (h : i < W) (hf2 : ∀ q, q < W → f2 q = true → S.fits vs W a q = true) => ih (i + 1) f2 g2 mo2 (by omega) (by omega) hf2
  rcases S.len_cases (S.by1 vs i) with hk | hk | hk
  ·exact p21_con i a et e2 W N cp cq w w2 vs es f g mo hb hl hW hA hN hM hf hi (fun _ => hk) IH
  ·exact p22_con i a et e2 W N cp cq w w2 vs es f g mo hb hl hW hA hN hM hf hi (fun _ => hk) IH
  ·exact p23_con i a et e2 W N cp cq w w2 vs es f g mo hb hl hW hA hN hM hf hi (fun _ => hk) IH
theorem p2_blk (a : Int) (et e2 W N : Nat) (cp cq : Cap) (w w2 : Own) (vs es : List LV) (hb : S.okB vs = true) (hl : lenL vs = W) (hW : W ≤ 1000) (hA : 0 ≤ a ∧ a < 65536) (hN : N ≤ lenL es) (hM : N ≤ 1000) (f g : Nat → Bool) (mo : Bool) (hf : ∀ q, q < W → f q = true → S.fits vs W a q = true) : K.BOk Tryd.prog 23 111 (blkOf 23 2) [0, 1, 2, 7, 8, 9, 10] [.int .i64 a, .slice 0 0 W cp, .slice 1 0 N cq, .slice 2 0 W (.known W), .slice 3 0 W (.known W), .bool mo, .int .i64 0] [.flat [.i .u8] et w vs, .flat [.i .u16] e2 w2 es, .flat [.bo] 4 .exact (S.row f W), .flat [.bo] 4 .exact (S.row g W)] ⟨.normal, [(0, .int .i64 a), (1, .slice 0 0 W cp), (2, .slice 1 0 N cq), (7, .slice 2 0 W (.known W)), (8, .slice 3 0 W (.known W)), (9, .bool (S.PM vs W a es N (W - 0) 0 (S.row f W) mo))], [(2, .flat [.bo] 4 .exact (S.PB vs W a es N (W - 0) 0 (S.row f W))), (3, .flat [.bo] 4 .exact (S.PO vs W a es N (W - 0) 0 (S.row f W) (S.row g W)))], []⟩ := by
 have hb2 : blkOf 23 2 = .block 2 (.loop (inner (inner (blkOf 23 2)))) := by kernel_rfl
 unfold K.BOk
 rw [hb2]
 exact K.CT.block (K.GT.loop (p2_lok a et e2 W N cp cq w w2 vs es hb hl hW hA hN hM _ 0 f g mo (Nat.zero_le _) rfl hf))
end Go.Proofs.YtlgfojaalmelhaaDoor.Ev
