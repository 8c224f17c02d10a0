/- Contracts, proved: Tby. -/
import Derived.Test.YtlgfojaalmelhaaDoorTbyD
import Derived.Test.YtlgfojaalmelhaaDoorThxP
namespace Go.Proofs.YtlgfojaalmelhaaDoor.Ev
open Go
set_option linter.unusedVariables false
set_option linter.unusedSimpArgs false
set_option maxRecDepth 100000
set_option maxHeartbeats 1000000
theorem Moved.below {ρ : Nat → RB} {H : Heap} {w w' : World} (h : Sat ρ H w) (hb : RowKit.Below w.heap.size w w') : Moved ρ H w ρ H w' where
  os := hb.os
  tape := hb.tape
  output := hb.output
  size := hb.size
  block := fun b hlt _ => hb.block b hlt
  owned := fun i hi ho => .inr ⟨i, hi, ho, rfl⟩
  sits := fun i hi ho => .inr ⟨i, hi, ho, rfl⟩
  more := Nat.le_refl _
  ext := Ext.refl _ _
  sat := ⟨h.wf, fun i hi => (h.obj i hi).world fun hs => hb.block _ (h.inside i hi hs), h.apart, fun i hi hs => Nat.lt_of_lt_of_le (h.inside i hi hs) hb.size⟩
namespace S
theorem an_iff {a b : Bool} : an a b = true ↔ a = true ∧ b = true := by cases a <;> cases b <;> decide
theorem bleN {a b : Nat} : Nat.ble a b = true ↔ a ≤ b := ⟨Nat.le_of_ble_eq_true, Nat.ble_eq_true_of_le⟩
theorem beqN {a b : Nat} : Nat.beq a b = true ↔ a = b := ⟨Nat.eq_of_beq_eq_true, fun h => by rw [h]; exact Nat.beq_refl _⟩
theorem okR_iff {vs : List LV} {o W : Nat} : okR vs o W = true ↔ okB vs = true ∧ o + W ≤ lenL vs ∧ W ≤ 1000 := by unfold okR; rw [an_iff, an_iff, bleN, bleN]
theorem okQ_iff {vs : List LV} {o W : Nat} {i : Int} : okQ vs o W i = true ↔ okR vs o W = true ∧ 0 ≤ i ∧ i ≤ W := by unfold okQ; rw [an_iff, an_iff, notB_true, notB_true, ltI_false, ltI_false]
theorem okA_iff {vs : List LV} {o W : Nat} {i : Int} {ss : List LV} {M : Nat} : okA vs o W i ss M = true ↔ okQ vs o W i = true ∧ lenL ss = M ∧ M ≤ 1000 := by unfold okA; rw [an_iff, an_iff, beqN, bleN]
theorem okB_go {vs : List LV} : ∀ (n : Nat), (@Nat.rec (fun _ => Bool) true (fun i r => an (byOk (by1 vs i)) r) n) = true → ∀ i, i < n → 0 ≤ by1 vs i ∧ by1 vs i < 256
  | n + 1, h, i, hi => by
    obtain ⟨h1, h2⟩ := an_iff.1 (show an (byOk (by1 vs n)) _ = true from h)
    by_cases e : i = n
    · subst e
      obtain ⟨h3, h4⟩ := an_iff.1 h1
      exact ⟨ltI_false.1 (notB_true.1 h3), ltI_true.1 h4⟩
    · exact okB_go n h2 i (by omega)
theorem okB_at {vs : List LV} (h : okB vs = true) {i : Nat} (hi : i < lenL vs) : 0 ≤ by1 vs i ∧ by1 vs i < 256 := okB_go _ h i hi
theorem rem_succ {W : Nat} {i : Int} (h : i < W) : rem W i = rem W (i + 1) + 1 := by unfold rem; omega
theorem lenL_app {α : Type} (a b : List α) : lenL (app a b) = lenL a + lenL b := by rw [K.app_eq, K.lenL_eq, K.lenL_eq, K.lenL_eq, List.length_append]
theorem app_app {α : Type} (a b c : List α) : app (app a b) c = app a (app b c) := by rw [K.app_eq, K.app_eq, K.app_eq, K.app_eq, List.append_assoc]
theorem bys_len (vs : List LV) (o : Nat) : ∀ (j : Nat) (i : Int), lenL (bys vs o j i) = j
  | 0, _ => rfl
  | j + 1, i => by show lenL (bys vs o j (i + 1)) + 1 = _; rw [bys_len vs o j]
theorem sub_all {l : List LV} {n : Nat} (h : lenL l = n) : sub l 0 n = l := by
  unfold sub; rw [← h, K.lenL_eq]
  simp [takeN_eq, dropN_eq]
theorem eqI_self (a : Int) : eqI a a = true := eqI_true.2 rfl
section
variable {vs : List LV} {o W : Nat} {i : Int}
theorem tb_lt (h : okR vs o W = true) (h1 : 0 ≤ i) (h2 : i < W) : o + i.toNat * 1 < lenL vs := by
  obtain ⟨_, hl, _⟩ := okR_iff.1 h
  omega
theorem tb_rng (h : okR vs o W = true) (h1 : 0 ≤ i) (h2 : i < W) : 0 ≤ by1 vs (o + i.toNat * 1) ∧ by1 vs (o + i.toNat * 1) < 256 := okB_at (okR_iff.1 h).1 (tb_lt h h1 h2)
theorem tb_w (h : okR vs o W = true) (h1 : 0 ≤ i) (h2 : i < W) : wrapK .i64 (intOf (K.atV vs (o + i.toNat * 1))) = by1 vs (o + i.toNat * 1) := by
  obtain ⟨a, b⟩ := tb_rng h h1 h2
  rw [wrapK_i64]; unfold by1 at *; omega
theorem tb_v (h : okR vs o W = true) (h1 : 0 ≤ i) (h2 : i < W) : okV (by1 vs (o + i.toNat * 1)) = true := by
  obtain ⟨a, b⟩ := tb_rng h h1 h2
  exact notB_true.2 (ltI_false.2 (by omega))
theorem tb_b (h : okR vs o W = true) (h1 : 0 ≤ i) (h2 : i < W) : Nat.ble (o + i.toNat * 1 + 1) (lenL vs) = true := bleN.2 (tb_lt h h1 h2)
theorem tb_q (h : okR vs o W = true) (h1 : 0 ≤ i) (h2 : i < W) : okQ vs o W (i + 1) = true := okQ_iff.2 ⟨h, by omega, by omega⟩
theorem bys_at (h2 : i < W) : bys vs o (rem W i) i = .str (bst (by1 vs (o + i.toNat * 1))) :: bys vs o (rem W (i + 1)) (i + 1) := by rw [rem_succ h2]; rfl
theorem byr_at (h2 : i < W) : byr vs o (rem W i) i = 44 :: app (bst (by1 vs (o + i.toNat * 1))) (byr vs o (rem W (i + 1)) (i + 1)) := by rw [rem_succ h2]; rfl
theorem bytes_0 : bytes vs o 0 = [] := rfl
theorem bytes_n (h : 0 < W) : bytes vs o W = app byT (app (bst (by1 vs (o + 0 * 1))) (byr vs o (rem W 1) 1)) := by
  unfold bytes
  rw [show Nat.beq W 0 = false from by cases W with | zero => exact absurd h (Nat.lt_irrefl 0) | succ n => rfl, bc_false, show rem W 1 = W - 1 from by unfold rem; omega]
theorem bst_len (b : Int) : lenL (bst b) = 3 := by show lenL (hex b 2) + 1 = 3; rw [K.lenL_eq]; exact congrArg (· + 1) (hexN_len 2 (mx b))
end
end S
theorem tbR_run (M o W et : Nat) (cp : Cap) (w : Own) (vs ss : List LV) (i : Int) : K.RunL (envL [(13, hexE)]) K.openE 30 15 26 (inner (inner (blkOf 15 0))) tbLB [(3, .slice 0 0 M (.rest 0)), (6, .slice 1 o W cp), (7, .int .i64 W), (8, .int .i64 i)] [.flat [.sr] 9 (.grow 1) ss, .flat [.i .u8] et w vs] (.take true .auto) ⟨.exit 0, [(3, .slice 2 0 (M + S.rem W i) (.rest 0))], [(0, .dead)], [.flat [.sr] 9 (.grow 1) (app ss (S.bys vs o (S.rem W i) i))]⟩ =
    ((ltI i ↑W = true ∧ bc (ltI i (0 : Int)) False (bc (ltI i ↑W) (bc (Nat.ble (o + Int.toNat i * (1 : Nat) + (1 : Nat)) (lenL vs)) (bc (S.okV (wrapK IntKind.i64 (intOf (K.atV vs (o + Int.toNat i * (1 : Nat)))))) (bc (Nat.ble ((0 : Nat) + M) (lenL ss)) (bc (Nat.ble ((M + (1 : Nat)) * (16 : Nat)) (1099511627776 : Nat)) (bc (S.an (eqI ↑W ↑W) (S.okA vs o W (wrapK IntKind.i64 (i + (1 : Int))) (app (sub ss (0 : Nat) M) (sub (setMany [LV.str []] (0 : Nat) [LV.str (app [(36 : UInt8)] (S.hex (wrapK IntKind.i64 (intOf (K.atV vs (o + Int.toNat i * (1 : Nat))))) (2 : Int)))]) (0 : Nat) (1 : Nat))) (M + (1 : Nat)))) (K.LOk Tryd.prog 15 26 (inner (inner (blkOf 15 0))) [(3 : Nat), (6 : Nat), (7 : Nat), (8 : Nat)] [LV.slice (0 : Nat) (0 : Nat) (M + (1 : Nat)) (Cap.rest (0 : Nat)), LV.slice (1 : Nat) o W cp, LV.int IntKind.i64 ↑W, LV.int IntKind.i64 (wrapK IntKind.i64 (i + (1 : Int)))] [LObj.flat [CK.sr] (9 : Nat) (Own.grow (1 : Nat)) (app (sub ss (0 : Nat) M) (sub (setMany [LV.str []] (0 : Nat) [LV.str (app [(36 : UInt8)] (S.hex (wrapK IntKind.i64 (intOf (K.atV vs (o + Int.toNat i * (1 : Nat))))) (2 : Int)))]) (0 : Nat) (1 : Nat))), LObj.flat [CK.i IntKind.u8] et w vs] { x := LX.exit (0 : Nat), L := [((3 : Nat), LV.slice (2 : Nat) (0 : Nat) (M + (1 : Nat) + S.rem W (wrapK IntKind.i64 (i + (1 : Int)))) (Cap.rest (0 : Nat)))], ch := [((0 : Nat), LObj.dead)], new := [LObj.flat [CK.sr] (9 : TypeId) (Own.grow (1 : Nat)) (app (app (sub ss (0 : Nat) M) (sub (setMany [LV.str []] (0 : Nat) [LV.str (app [(36 : UInt8)] (S.hex (wrapK IntKind.i64 (intOf (K.atV vs (o + Int.toNat i * (1 : Nat))))) (2 : Int)))]) (0 : Nat) (1 : Nat))) (S.bys vs o (S.rem W (wrapK IntKind.i64 (i + (1 : Int)))) (wrapK IntKind.i64 (i + (1 : Int)))))] } ∧ ((0 : Nat) = (0 : Nat) ∧ (M + S.rem W i = M + (1 : Nat) + S.rem W (wrapK IntKind.i64 (i + (1 : Int))) ∧ (Cap.rest (0 : Nat) = Cap.rest (0 : Nat) ∧ (app ss (S.bys vs o (S.rem W i) i) = app (app (sub ss (0 : Nat) M) (sub (setMany [LV.str []] (0 : Nat) [LV.str (app [(36 : UInt8)] (S.hex (wrapK IntKind.i64 (intOf (K.atV vs (o + Int.toNat i * (1 : Nat))))) (2 : Int)))]) (0 : Nat) (1 : Nat))) (S.bys vs o (S.rem W (wrapK IntKind.i64 (i + (1 : Int)))) (wrapK IntKind.i64 (i + (1 : Int)))) ∧ True))))) False) False) False) False) False) False))) := by kernel_rfl
theorem tbR_con (M o W et : Nat) (cp : Cap) (w : Own) (vs ss : List LV) (i : Int) (h0 : S.okR vs o W = true) (h1 : 0 ≤ i) (h2 : i < W) (h3 : lenL ss = M) (h4 : (M : Int) = i) (h5 : ∀ ss2 : List LV, lenL ss2 = M + 1 → K.LOk Tryd.prog 15 26 (inner (inner (blkOf 15 0))) [3, 6, 7, 8] [.slice 0 0 (M + 1) (.rest 0), .slice 1 o W cp, .int .i64 W, .int .i64 (i + 1)] [.flat [.sr] 9 (.grow 1) ss2, .flat [.i .u8] et w vs] ⟨.exit 0, [(3, .slice 2 0 ((M + 1) + S.rem W (i + 1)) (.rest 0))], [(0, .dead)], [.flat [.sr] 9 (.grow 1) (app ss2 (S.bys vs o (S.rem W (i + 1)) (i + 1)))]⟩)  : GT Tryd.prog (fun k => .code (inner (inner (blkOf 15 0))) :: .inLoop (inner (inner (blkOf 15 0))) :: k) (Fr.ofL 15 26 [(3, .slice 0 0 M (.rest 0)), (6, .slice 1 o W cp), (7, .int .i64 W), (8, .int .i64 i)] [] none) (Heap.of [.flat [.sr] 9 (.grow 1) ss, .flat [.i .u8] et w vs]) (⟨.exit 0, [(3, .slice 2 0 (M + S.rem W i) (.rest 0))], [(0, .dead)], [.flat [.sr] 9 (.grow 1) (app ss (S.bys vs o (S.rem W i) i))]⟩ : K.BRes).x (Fr.ofL 15 26 (⟨.exit 0, [(3, .slice 2 0 (M + S.rem W i) (.rest 0))], [(0, .dead)], [.flat [.sr] 9 (.grow 1) (app ss (S.bys vs o (S.rem W i) i))]⟩ : K.BRes).L [] none) (Heap.of (K.chg [.flat [.sr] 9 (.grow 1) ss, .flat [.i .u8] et w vs] (⟨.exit 0, [(3, .slice 2 0 (M + S.rem W i) (.rest 0))], [(0, .dead)], [.flat [.sr] 9 (.grow 1) (app ss (S.bys vs o (S.rem W i) i))]⟩ : K.BRes).ch ++ (⟨.exit 0, [(3, .slice 2 0 (M + S.rem W i) (.rest 0))], [(0, .dead)], [.flat [.sr] 9 (.grow 1) (app ss (S.bys vs o (S.rem W i) i))]⟩ : K.BRes).new)) := by
  refine K.loop_of_run good (A := envL [(13, hexE)]) (envL_ok ?_) K.openE_ok (k := 30) (ent := tbLB) (cast (tbR_run M o W et cp w vs ss i).symm ?_)
  · intro p hp; simp only [List.mem_cons, List.not_mem_nil, or_false] at hp; rcases hp with rfl <;> first | exact hex_ok
  · obtain ⟨hb, hl, hW⟩ := S.okR_iff.1 h0
    have w2 : wrapK .i64 (i + 1) = i + 1 := by rw [wrapK_i64]; omega
    have e0 : ltI i 0 = false := ltI_false.2 h1
    have e1 : ltI i W = true := ltI_true.2 h2
    have bM : Nat.ble (0 + M) (lenL ss) = true := S.bleN.2 (by omega)
    have b4 : Nat.ble ((M + 1) * 16) 1099511627776 = true := S.bleN.2 (by omega)
    have st : ∀ x : List UInt8, sub (setMany [LV.str []] 0 [LV.str x]) 0 1 = [LV.str x] := fun x => rfl
    have bb : app [(36 : UInt8)] (S.hex (S.by1 vs (o + i.toNat * 1)) 2) = S.bst (S.by1 vs (o + i.toNat * 1)) := rfl
    have hl2 : lenL (app ss [LV.str (S.bst (S.by1 vs (o + i.toNat * 1)))]) = M + 1 := by rw [S.lenL_app, h3]; rfl
    have okA : S.okA vs o W (i + 1) (app ss [LV.str (S.bst (S.by1 vs (o + i.toNat * 1)))]) (M + 1) = true := S.okA_iff.2 ⟨S.tb_q h0 h1 h2, hl2, by omega⟩
    have at2 : S.an true true = true := rfl
    have jj := S.rem_succ h2
    simp only [e0, e1, S.tb_b h0 h1 h2, S.tb_w h0 h1 h2, S.tb_v h0 h1 h2, bM, b4, w2, S.sub_all h3, st, bb, okA, at2, S.eqI_self, bc_true, bc_false, true_and, S.bys_at h2]
    refine ⟨h5 _ hl2, by omega, ?_⟩
    rw [S.app_app]
    first
      | trivial
      | exact ⟨rfl, trivial⟩
      | simp only [true_and]; rfl
theorem tb0_run (M o W et : Nat) (cp : Cap) (w : Own) (vs ss : List LV) (i : Int) : K.RunL (envL [(13, hexE)]) K.openE 30 15 26 (inner (inner (blkOf 15 0))) tbLB [(3, .slice 0 0 M (.rest 0)), (6, .slice 1 o W cp), (7, .int .i64 W), (8, .int .i64 i)] [.flat [.sr] 9 (.grow 1) ss, .flat [.i .u8] et w vs] (.take false .auto) ⟨.exit 0, [(3, .slice 0 0 M (.rest 0))], [], []⟩ =
    ((ltI i ↑W = false ∧ ((0 : Nat) = (0 : Nat) ∧ (M = M ∧ (Cap.rest (0 : Nat) = Cap.rest (0 : Nat) ∧ True))))) := by kernel_rfl
theorem tb0_con (M o W et : Nat) (cp : Cap) (w : Own) (vs ss : List LV) (i : Int) (h0 : i = W)  : GT Tryd.prog (fun k => .code (inner (inner (blkOf 15 0))) :: .inLoop (inner (inner (blkOf 15 0))) :: k) (Fr.ofL 15 26 [(3, .slice 0 0 M (.rest 0)), (6, .slice 1 o W cp), (7, .int .i64 W), (8, .int .i64 i)] [] none) (Heap.of [.flat [.sr] 9 (.grow 1) ss, .flat [.i .u8] et w vs]) (⟨.exit 0, [(3, .slice 0 0 M (.rest 0))], [], []⟩ : K.BRes).x (Fr.ofL 15 26 (⟨.exit 0, [(3, .slice 0 0 M (.rest 0))], [], []⟩ : K.BRes).L [] none) (Heap.of (K.chg [.flat [.sr] 9 (.grow 1) ss, .flat [.i .u8] et w vs] (⟨.exit 0, [(3, .slice 0 0 M (.rest 0))], [], []⟩ : K.BRes).ch ++ (⟨.exit 0, [(3, .slice 0 0 M (.rest 0))], [], []⟩ : K.BRes).new)) := by
  refine K.loop_of_run good (A := envL [(13, hexE)]) (envL_ok ?_) K.openE_ok (k := 30) (ent := tbLB) (cast (tb0_run M o W et cp w vs ss i).symm ?_)
  · intro p hp; simp only [List.mem_cons, List.not_mem_nil, or_false] at hp; rcases hp with rfl <;> first | exact hex_ok
  · have e1 : ltI i W = false := ltI_false.2 (by omega)
    rw [e1]
    exact ⟨rfl, rfl, rfl, rfl, trivial⟩
theorem tbA_run (o W et : Nat) (cp : Cap) (w : Own) (vs : List LV) : K.RunL (envL [(13, hexE)]) K.openE 30 15 26 (inner (inner (blkOf 15 0))) tbLB [(3, .nils), (6, .slice 0 o W cp), (7, .int .i64 W), (8, .int .i64 0)] [.flat [.i .u8] et w vs] (.take true .auto) ⟨.exit 0, [(3, .slice 1 0 W (.rest 0))], [], [.flat [.sr] 9 (.grow 1) (S.bys vs o W 0)]⟩ =
    ((ltI (0 : Int) ↑W = true ∧ bc (ltI (0 : Int) ↑W) (bc (Nat.ble (o + (0 : Nat) + (1 : Nat)) (lenL vs)) (bc (S.okV (wrapK IntKind.i64 (intOf (K.atV vs (o + (0 : Nat)))))) (bc (S.an (eqI ↑W ↑W) (S.okA vs o W (wrapK IntKind.i64 ((0 : Int) + (1 : Int))) [LV.str (app [(36 : UInt8)] (S.hex (wrapK IntKind.i64 (intOf (K.atV vs (o + (0 : Nat))))) (2 : Int)))] (1 : Nat))) (K.LOk Tryd.prog 15 26 (inner (inner (blkOf 15 0))) [(3 : Nat), (6 : Nat), (7 : Nat), (8 : Nat)] [LV.slice (0 : Nat) (0 : Nat) (1 : Nat) (Cap.rest (0 : Nat)), LV.slice (1 : Nat) o W cp, LV.int IntKind.i64 ↑W, LV.int IntKind.i64 (wrapK IntKind.i64 ((0 : Int) + (1 : Int)))] [LObj.flat [CK.sr] (9 : Nat) (Own.grow (1 : Nat)) [LV.str (app [(36 : UInt8)] (S.hex (wrapK IntKind.i64 (intOf (K.atV vs (o + (0 : Nat))))) (2 : Int)))], LObj.flat [CK.i IntKind.u8] et w vs] { x := LX.exit (0 : Nat), L := [((3 : Nat), LV.slice (2 : Nat) (0 : Nat) ((1 : Nat) + S.rem W (wrapK IntKind.i64 ((0 : Int) + (1 : Int)))) (Cap.rest (0 : Nat)))], ch := [((0 : Nat), LObj.dead)], new := [LObj.flat [CK.sr] (9 : TypeId) (Own.grow (1 : Nat)) (app [LV.str (app [(36 : UInt8)] (S.hex (wrapK IntKind.i64 (intOf (K.atV vs (o + (0 : Nat))))) (2 : Int)))] (S.bys vs o (S.rem W (wrapK IntKind.i64 ((0 : Int) + (1 : Int)))) (wrapK IntKind.i64 ((0 : Int) + (1 : Int)))))] } ∧ ((0 : Nat) = (0 : Nat) ∧ (W = (1 : Nat) + S.rem W (wrapK IntKind.i64 ((0 : Int) + (1 : Int))) ∧ (Cap.rest (0 : Nat) = Cap.rest (0 : Nat) ∧ (S.bys vs o W (0 : Int) = app [LV.str (app [(36 : UInt8)] (S.hex (wrapK IntKind.i64 (intOf (K.atV vs (o + (0 : Nat))))) (2 : Int)))] (S.bys vs o (S.rem W (wrapK IntKind.i64 ((0 : Int) + (1 : Int)))) (wrapK IntKind.i64 ((0 : Int) + (1 : Int)))) ∧ True))))) False) False) False) False)) := by kernel_rfl
theorem tbA_con (o W et : Nat) (cp : Cap) (w : Own) (vs : List LV) (h0 : S.okR vs o W = true) (h1 : 0 < W) (h2 : ∀ ss2 : List LV, lenL ss2 = 1 → K.LOk Tryd.prog 15 26 (inner (inner (blkOf 15 0))) [3, 6, 7, 8] [.slice 0 0 1 (.rest 0), .slice 1 o W cp, .int .i64 W, .int .i64 1] [.flat [.sr] 9 (.grow 1) ss2, .flat [.i .u8] et w vs] ⟨.exit 0, [(3, .slice 2 0 (1 + S.rem W 1) (.rest 0))], [(0, .dead)], [.flat [.sr] 9 (.grow 1) (app ss2 (S.bys vs o (S.rem W 1) 1))]⟩)  : GT Tryd.prog (fun k => .code (inner (inner (blkOf 15 0))) :: .inLoop (inner (inner (blkOf 15 0))) :: k) (Fr.ofL 15 26 [(3, .nils), (6, .slice 0 o W cp), (7, .int .i64 W), (8, .int .i64 0)] [] none) (Heap.of [.flat [.i .u8] et w vs]) (⟨.exit 0, [(3, .slice 1 0 W (.rest 0))], [], [.flat [.sr] 9 (.grow 1) (S.bys vs o W 0)]⟩ : K.BRes).x (Fr.ofL 15 26 (⟨.exit 0, [(3, .slice 1 0 W (.rest 0))], [], [.flat [.sr] 9 (.grow 1) (S.bys vs o W 0)]⟩ : K.BRes).L [] none) (Heap.of (K.chg [.flat [.i .u8] et w vs] (⟨.exit 0, [(3, .slice 1 0 W (.rest 0))], [], [.flat [.sr] 9 (.grow 1) (S.bys vs o W 0)]⟩ : K.BRes).ch ++ (⟨.exit 0, [(3, .slice 1 0 W (.rest 0))], [], [.flat [.sr] 9 (.grow 1) (S.bys vs o W 0)]⟩ : K.BRes).new)) := by
  refine K.loop_of_run good (A := envL [(13, hexE)]) (envL_ok ?_) K.openE_ok (k := 30) (ent := tbLB) (cast (tbA_run o W et cp w vs).symm ?_)
  · intro p hp; simp only [List.mem_cons, List.not_mem_nil, or_false] at hp; rcases hp with rfl <;> first | exact hex_ok
  · have hIH := h2
    clear h2
    have h2 : (0 : Int) < W := by omega
    have h1 : (0 : Int) ≤ 0 := Int.le_refl 0
    have e1 : ltI 0 (W : Int) = true := ltI_true.2 h2
    have w2 : wrapK .i64 ((0 : Int) + 1) = 1 := by rw [wrapK_i64]; rfl
    have hz : o + (0 : Int).toNat * 1 = o + 0 := rfl
    have B := S.tb_b h0 h1 h2; have Wk := S.tb_w h0 h1 h2; have Vk := S.tb_v h0 h1 h2
    rw [hz] at B Wk Vk
    have bb : app [(36 : UInt8)] (S.hex (S.by1 vs (o + 0)) 2) = S.bst (S.by1 vs (o + 0)) := rfl
    have okA : S.okA vs o W 1 [LV.str (S.bst (S.by1 vs (o + 0)))] 1 = true := S.okA_iff.2 ⟨S.okQ_iff.2 ⟨h0, by omega, by omega⟩, rfl, by omega⟩
    have at2 : S.an true true = true := rfl
    have jj : S.rem W 0 = S.rem W (0 + 1) + 1 := S.rem_succ h2
    have r0 : S.rem W 0 = W := by unfold S.rem; omega
    have hs : S.bys vs o W 0 = .str (S.bst (S.by1 vs (o + 0))) :: S.bys vs o (S.rem W 1) 1 := by
      have := S.bys_at (vs := vs) (o := o) h2
      rw [r0] at this; exact this
    have jw : W = 1 + S.rem W 1 := by rw [r0] at jj; show W = 1 + S.rem W (0 + 1); omega
    simp only [e1, B, Wk, Vk, w2, bb, okA, at2, S.eqI_self, bc_true, bc_false, true_and, hs]
    exact ⟨hIH _ rfl, jw, rfl, trivial⟩
theorem rbR_run (o W et : Nat) (cp : Cap) (w : Own) (vs : List LV) (a : List UInt8) (i : Int) : K.RunL (envL [(14, hxrE)]) K.openE 30 16 25 (inner (inner (blkOf 16 0))) rbLB [(0, .slice 0 o W cp), (3, .str a), (4, .int .i64 i)] [.flat [.i .u8] et w vs] Hint.auto ⟨.exit 0, [(3, .str (app a (S.byr vs o (S.rem W i) i)))], [], []⟩ =
    (bc (ltI i ↑W) (bc (eqI i (0 : Int)) (bc (ltI i (0 : Int)) False (bc (ltI i ↑W) (bc (Nat.ble (o + Int.toNat i * (1 : Nat) + (1 : Nat)) (lenL vs)) (bc (S.okV (wrapK IntKind.i64 (intOf (K.atV vs (o + Int.toNat i * (1 : Nat)))))) (bc (S.okQ vs o W (wrapK IntKind.i64 (i + (1 : Int)))) (K.LOk Tryd.prog 16 25 (inner (inner (blkOf 16 0))) [(0 : Nat), (3 : Nat), (4 : Nat)] [LV.slice (0 : Nat) o W cp, LV.str (app [(46 : UInt8), (98 : UInt8), (121 : UInt8), (116 : UInt8), (101 : UInt8), (32 : UInt8)] (app [(36 : UInt8)] (S.hex (wrapK IntKind.i64 (intOf (K.atV vs (o + Int.toNat i * (1 : Nat))))) (2 : Int)))), LV.int IntKind.i64 (wrapK IntKind.i64 (i + (1 : Int)))] [LObj.flat [CK.i IntKind.u8] et w vs] { x := LX.exit (0 : Nat), L := [((3 : Nat), LV.str (app (app [(46 : UInt8), (98 : UInt8), (121 : UInt8), (116 : UInt8), (101 : UInt8), (32 : UInt8)] (app [(36 : UInt8)] (S.hex (wrapK IntKind.i64 (intOf (K.atV vs (o + Int.toNat i * (1 : Nat))))) (2 : Int)))) (S.byr vs o (S.rem W (wrapK IntKind.i64 (i + (1 : Int)))) (wrapK IntKind.i64 (i + (1 : Int))))))], ch := [], new := [] } ∧ (app a (S.byr vs o (S.rem W i) i) = app (app [(46 : UInt8), (98 : UInt8), (121 : UInt8), (116 : UInt8), (101 : UInt8), (32 : UInt8)] (app [(36 : UInt8)] (S.hex (wrapK IntKind.i64 (intOf (K.atV vs (o + Int.toNat i * (1 : Nat))))) (2 : Int)))) (S.byr vs o (S.rem W (wrapK IntKind.i64 (i + (1 : Int)))) (wrapK IntKind.i64 (i + (1 : Int)))) ∧ True)) False) False) False) False)) (bc (Nat.ble (lenL a + (1 : Nat)) (4611686018427387904 : Nat)) (bc (ltI i (0 : Int)) False (bc (ltI i ↑W) (bc (Nat.ble (o + Int.toNat i * (1 : Nat) + (1 : Nat)) (lenL vs)) (bc (S.okV (wrapK IntKind.i64 (intOf (K.atV vs (o + Int.toNat i * (1 : Nat)))))) (bc (Nat.ble (lenL (app a [(44 : UInt8)]) + lenL (app [(36 : UInt8)] (S.hex (wrapK IntKind.i64 (intOf (K.atV vs (o + Int.toNat i * (1 : Nat))))) (2 : Int)))) (4611686018427387904 : Nat)) (bc (S.okQ vs o W (wrapK IntKind.i64 (i + (1 : Int)))) (K.LOk Tryd.prog 16 25 (inner (inner (blkOf 16 0))) [(0 : Nat), (3 : Nat), (4 : Nat)] [LV.slice (0 : Nat) o W cp, LV.str (app (app a [(44 : UInt8)]) (app [(36 : UInt8)] (S.hex (wrapK IntKind.i64 (intOf (K.atV vs (o + Int.toNat i * (1 : Nat))))) (2 : Int)))), LV.int IntKind.i64 (wrapK IntKind.i64 (i + (1 : Int)))] [LObj.flat [CK.i IntKind.u8] et w vs] { x := LX.exit (0 : Nat), L := [((3 : Nat), LV.str (app (app (app a [(44 : UInt8)]) (app [(36 : UInt8)] (S.hex (wrapK IntKind.i64 (intOf (K.atV vs (o + Int.toNat i * (1 : Nat))))) (2 : Int)))) (S.byr vs o (S.rem W (wrapK IntKind.i64 (i + (1 : Int)))) (wrapK IntKind.i64 (i + (1 : Int))))))], ch := [], new := [] } ∧ (app a (S.byr vs o (S.rem W i) i) = app (app (app a [(44 : UInt8)]) (app [(36 : UInt8)] (S.hex (wrapK IntKind.i64 (intOf (K.atV vs (o + Int.toNat i * (1 : Nat))))) (2 : Int)))) (S.byr vs o (S.rem W (wrapK IntKind.i64 (i + (1 : Int)))) (wrapK IntKind.i64 (i + (1 : Int)))) ∧ True)) False) False) False) False) False)) False)) (app a (S.byr vs o (S.rem W i) i) = a ∧ True)) := by kernel_rfl
theorem rbR_con (o W et : Nat) (cp : Cap) (w : Own) (vs : List LV) (a : List UInt8) (i : Int) (h0 : S.okR vs o W = true) (h1 : 1 ≤ i) (h2 : i ≤ W) (h3 : (lenL a : Int) ≤ 5 + 4 * i) (h4 : ∀ a2 : List UInt8, i < W → (lenL a2 : Int) ≤ 5 + 4 * (i + 1) → K.LOk Tryd.prog 16 25 (inner (inner (blkOf 16 0))) [0, 3, 4] [.slice 0 o W cp, .str a2, .int .i64 (i + 1)] [.flat [.i .u8] et w vs] ⟨.exit 0, [(3, .str (app a2 (S.byr vs o (S.rem W (i + 1)) (i + 1))))], [], []⟩)  : GT Tryd.prog (fun k => .code (inner (inner (blkOf 16 0))) :: .inLoop (inner (inner (blkOf 16 0))) :: k) (Fr.ofL 16 25 [(0, .slice 0 o W cp), (3, .str a), (4, .int .i64 i)] [] none) (Heap.of [.flat [.i .u8] et w vs]) (⟨.exit 0, [(3, .str (app a (S.byr vs o (S.rem W i) i)))], [], []⟩ : K.BRes).x (Fr.ofL 16 25 (⟨.exit 0, [(3, .str (app a (S.byr vs o (S.rem W i) i)))], [], []⟩ : K.BRes).L [] none) (Heap.of (K.chg [.flat [.i .u8] et w vs] (⟨.exit 0, [(3, .str (app a (S.byr vs o (S.rem W i) i)))], [], []⟩ : K.BRes).ch ++ (⟨.exit 0, [(3, .str (app a (S.byr vs o (S.rem W i) i)))], [], []⟩ : K.BRes).new)) := by
  refine K.loop_of_run good (A := envL [(14, hxrE)]) (envL_ok ?_) K.openE_ok (k := 30) (ent := rbLB) (cast (rbR_run o W et cp w vs a i).symm ?_)
  · intro p hp; simp only [List.mem_cons, List.not_mem_nil, or_false] at hp; rcases hp with rfl <;> first | exact hxr_ok
  · obtain ⟨hb, hl, hW⟩ := S.okR_iff.1 h0
    by_cases hi : i < W
    · have w2 : wrapK .i64 (i + 1) = i + 1 := by rw [wrapK_i64]; omega
      have z0 : 0 ≤ i := by omega
      have e0 : ltI i 0 = false := ltI_false.2 z0
      have e1 : ltI i W = true := ltI_true.2 hi
      have e2 : eqI i 0 = false := eqI_false.2 (by omega)
      have bb : app [(36 : UInt8)] (S.hex (S.by1 vs (o + i.toNat * 1)) 2) = S.bst (S.by1 vs (o + i.toNat * 1)) := rfl
      have c1 : Nat.ble (lenL a + 1) 4611686018427387904 = true := S.bleN.2 (by omega)
      have l1 : lenL (app a [(44 : UInt8)]) = lenL a + 1 := by rw [S.lenL_app]; rfl
      have c2 : Nat.ble (lenL a + 1 + 3) 4611686018427387904 = true := S.bleN.2 (by omega)
      have l2 : lenL (app (app a [(44 : UInt8)]) (S.bst (S.by1 vs (o + i.toNat * 1)))) = lenL a + 4 := by rw [S.lenL_app, l1, S.bst_len]
      simp only [e0, e1, e2, S.tb_b h0 z0 hi, S.tb_w h0 z0 hi, S.tb_v h0 z0 hi, S.tb_q h0 z0 hi, w2, bb, c1, l1, S.bst_len, c2, bc_true, bc_false, S.byr_at hi]
      refine ⟨h4 _ hi (by rw [l2]; omega), ?_, trivial⟩
      rw [S.app_app, S.app_app]; rfl
    · have e1 : ltI i W = false := ltI_false.2 (by omega)
      have r0 : S.rem W i = 0 := by unfold S.rem; omega
      simp only [e1, r0, bc_false]
      exact ⟨by rw [K.app_eq]; exact List.append_nil a, trivial⟩
theorem rb0_run (o W et : Nat) (cp : Cap) (w : Own) (vs : List LV) : K.RunL (envL [(14, hxrE)]) K.openE 30 16 25 (inner (inner (blkOf 16 0))) rbLB [(0, .slice 0 o W cp), (3, .str []), (4, .int .i64 0)] [.flat [.i .u8] et w vs] Hint.auto ⟨.exit 0, [(3, .str (S.bytes vs o W))], [], []⟩ =
    (bc (ltI (0 : Int) ↑W) (bc (ltI (0 : Int) ↑W) (bc (Nat.ble (o + (0 : Nat) + (1 : Nat)) (lenL vs)) (bc (S.okV (wrapK IntKind.i64 (intOf (K.atV vs (o + (0 : Nat)))))) (bc (S.okQ vs o W (wrapK IntKind.i64 ((0 : Int) + (1 : Int)))) (K.LOk Tryd.prog 16 25 (inner (inner (blkOf 16 0))) [(0 : Nat), (3 : Nat), (4 : Nat)] [LV.slice (0 : Nat) o W cp, LV.str (app [(46 : UInt8), (98 : UInt8), (121 : UInt8), (116 : UInt8), (101 : UInt8), (32 : UInt8)] (app [(36 : UInt8)] (S.hex (wrapK IntKind.i64 (intOf (K.atV vs (o + (0 : Nat))))) (2 : Int)))), LV.int IntKind.i64 (wrapK IntKind.i64 ((0 : Int) + (1 : Int)))] [LObj.flat [CK.i IntKind.u8] et w vs] { x := LX.exit (0 : Nat), L := [((3 : Nat), LV.str (app (app [(46 : UInt8), (98 : UInt8), (121 : UInt8), (116 : UInt8), (101 : UInt8), (32 : UInt8)] (app [(36 : UInt8)] (S.hex (wrapK IntKind.i64 (intOf (K.atV vs (o + (0 : Nat))))) (2 : Int)))) (S.byr vs o (S.rem W (wrapK IntKind.i64 ((0 : Int) + (1 : Int)))) (wrapK IntKind.i64 ((0 : Int) + (1 : Int))))))], ch := [], new := [] } ∧ (S.bytes vs o W = app (app [(46 : UInt8), (98 : UInt8), (121 : UInt8), (116 : UInt8), (101 : UInt8), (32 : UInt8)] (app [(36 : UInt8)] (S.hex (wrapK IntKind.i64 (intOf (K.atV vs (o + (0 : Nat))))) (2 : Int)))) (S.byr vs o (S.rem W (wrapK IntKind.i64 ((0 : Int) + (1 : Int)))) (wrapK IntKind.i64 ((0 : Int) + (1 : Int)))) ∧ True)) False) False) False) False) (S.bytes vs o W = [] ∧ True)) := by kernel_rfl
theorem rb0_con (o W et : Nat) (cp : Cap) (w : Own) (vs : List LV) (h0 : S.okR vs o W = true) (h1 : ∀ a2 : List UInt8, 0 < W → (lenL a2 : Int) ≤ 9 → K.LOk Tryd.prog 16 25 (inner (inner (blkOf 16 0))) [0, 3, 4] [.slice 0 o W cp, .str a2, .int .i64 1] [.flat [.i .u8] et w vs] ⟨.exit 0, [(3, .str (app a2 (S.byr vs o (S.rem W 1) 1)))], [], []⟩)  : GT Tryd.prog (fun k => .code (inner (inner (blkOf 16 0))) :: .inLoop (inner (inner (blkOf 16 0))) :: k) (Fr.ofL 16 25 [(0, .slice 0 o W cp), (3, .str []), (4, .int .i64 0)] [] none) (Heap.of [.flat [.i .u8] et w vs]) (⟨.exit 0, [(3, .str (S.bytes vs o W))], [], []⟩ : K.BRes).x (Fr.ofL 16 25 (⟨.exit 0, [(3, .str (S.bytes vs o W))], [], []⟩ : K.BRes).L [] none) (Heap.of (K.chg [.flat [.i .u8] et w vs] (⟨.exit 0, [(3, .str (S.bytes vs o W))], [], []⟩ : K.BRes).ch ++ (⟨.exit 0, [(3, .str (S.bytes vs o W))], [], []⟩ : K.BRes).new)) := by
  refine K.loop_of_run good (A := envL [(14, hxrE)]) (envL_ok ?_) K.openE_ok (k := 30) (ent := rbLB) (cast (rb0_run o W et cp w vs).symm ?_)
  · intro p hp; simp only [List.mem_cons, List.not_mem_nil, or_false] at hp; rcases hp with rfl <;> first | exact hxr_ok
  · obtain ⟨hb, hl, hW⟩ := S.okR_iff.1 h0
    by_cases hi : 0 < W
    · have h2 : (0 : Int) < W := by omega
      have z0 : (0 : Int) ≤ 0 := Int.le_refl 0
      have e1 : ltI 0 (W : Int) = true := ltI_true.2 h2
      have w2 : wrapK .i64 ((0 : Int) + 1) = 1 := by rw [wrapK_i64]; rfl
      have hz : o + (0 : Int).toNat * 1 = o + 0 := rfl
      have B := S.tb_b h0 z0 h2; have Wk := S.tb_w h0 z0 h2; have Vk := S.tb_v h0 z0 h2; have Qk := S.tb_q h0 z0 h2
      rw [hz] at B Wk Vk
      have q1 : ((0 : Int) + 1) = 1 := rfl
      rw [q1] at Qk
      have bb : app [(36 : UInt8)] (S.hex (S.by1 vs (o + 0)) 2) = S.bst (S.by1 vs (o + 0)) := rfl
      have l2 : lenL (app [(46 : UInt8), (98 : UInt8), (121 : UInt8), (116 : UInt8), (101 : UInt8), (32 : UInt8)] (S.bst (S.by1 vs (o + 0)))) = 9 := by rw [S.lenL_app, S.bst_len]; rfl
      simp only [e1, B, Wk, Vk, Qk, w2, bb, bc_true, S.bytes_n hi]
      refine ⟨h1 _ hi (by rw [l2]; decide), ?_, trivial⟩
      rw [S.app_app]; rfl
    · have e1 : ltI 0 (W : Int) = false := ltI_false.2 (by omega)
      have w0 : W = 0 := by omega
      subst w0
      simp only [e1, bc_false]
      exact ⟨rfl, trivial⟩
theorem rb_lok (o W et : Nat) (cp : Cap) (w : Own) (vs : List LV) (h0 : S.okR vs o W = true) : ∀ (j : Nat) (a : List UInt8) (i : Int), 1 ≤ i → i ≤ W → (lenL a : Int) ≤ 5 + 4 * i → S.rem W i = j → K.LOk Tryd.prog 16 25 (inner (inner (blkOf 16 0))) [0, 3, 4] [.slice 0 o W cp, .str a, .int .i64 i] [.flat [.i .u8] et w vs] ⟨.exit 0, [(3, .str (app a (S.byr vs o (S.rem W i) i)))], [], []⟩ := by
  intro j
  induction j with
  | zero =>
    intro a i h1 h2 h3 hm
    exact rbR_con o W et cp w vs a i h0 h1 h2 h3 fun a2 hk => by unfold S.rem at hm; omega
  | succ j ih =>
    intro a i h1 h2 h3 hm
    exact rbR_con o W et cp w vs a i h0 h1 h2 h3 fun a2 hk k => ih a2 (i + 1) (by omega) (by omega) k (by unfold S.rem at hm ⊢; omega)
theorem rb_blk (o W et : Nat) (cp : Cap) (w : Own) (vs : List LV) (h0 : S.okR vs o W = true) : K.BOk Tryd.prog 16 25 (blkOf 16 0) [0, 3, 4] [.slice 0 o W cp, .str [], .int .i64 0] [.flat [.i .u8] et w vs] ⟨.normal, [(3, .str (S.bytes vs o W))], [], []⟩ := by
  have hb : blkOf 16 0 = .block 0 (.loop (inner (inner (blkOf 16 0)))) := by kernel_rfl
  unfold K.BOk
  rw [hb]
  exact K.CT.block (K.GT.loop (rb0_con o W et cp w vs h0 fun a2 hk k => rb_lok o W et cp w vs h0 _ a2 1 (by omega) (by omega) (by omega) rfl))
theorem rby_run (o W et : Nat) (cp : Cap) (w : Own) (vs : List LV) : K.bodyF (envB [] (fun g id => bc (Nat.beq g 16) (bc (Nat.beq id 0) (some rbBB) (none)) (none))) (K.runF (envB [] (fun g id => bc (Nat.beq g 16) (bc (Nat.beq id 0) (some rbBB) (none)) (none))) 30) 16 [.slice 0 o W cp] (Heap.of [.flat [.i .u8] et w vs]) Hint.auto (K.endC K.openE 1 ⟨.ret (.str (S.bytes vs o W)), [], []⟩) =
    (bc (S.okR vs o W) (K.BOk Tryd.prog 16 25 (blkOf 16 0) [(0 : Nat), (3 : Nat), (4 : Nat)] [LV.slice (0 : Nat) o W cp, LV.str [], LV.int IntKind.i64 (0 : Int)] [LObj.flat [CK.i IntKind.u8] et w vs] { x := LX.normal, L := [((3 : Nat), LV.str (S.bytes vs o W))], ch := [], new := [] } ∧ (S.bytes vs o W = S.bytes vs o W ∧ True)) False) := by kernel_rfl
theorem rby_con (o W et : Nat) (cp : Cap) (w : Own) (vs : List LV) (h0 : S.okR vs o W = true)  : HT Tryd.prog 16 [.slice 0 o W cp] (Heap.of [.flat [.i .u8] et w vs]) (⟨.ret (.str (S.bytes vs o W)), [], []⟩ : K.CRes).e (Heap.of (K.chg [.flat [.i .u8] et w vs] (⟨.ret (.str (S.bytes vs o W)), [], []⟩ : K.CRes).ch ++ (⟨.ret (.str (S.bytes vs o W)), [], []⟩ : K.CRes).new)) := by
  refine K.con_of_run good (A := envB [] (fun g id => bc (Nat.beq g 16) (bc (Nat.beq id 0) (some rbBB) (none)) (none))) (envB_ok ?_) K.openE_ok (k := 30) (cast (rby_run o W et cp w vs).symm ?_)
  · intro p hp; cases hp
  · simp only [h0, bc_true]
    exact ⟨rb_blk o W et cp w vs h0, by simp⟩
theorem rby_ok : rbyE.ok Tryd.prog 16 := by
  intro xs os b r h h3
  unfold rbyE at h
  simp only at h
  split at h
  · injection h with h; injection h with h1 h2; subst h1; subst h2
    exact rby_con _ _ _ _ _ _ h3
  · cases h
shelf_lay Lays.n157 Nm 157 at Tryd as Tryd.Ev_lays157b
shelf_lay Lays.n156 Nm 156 at Tryd as Tryd.Ev_lays156
theorem Tryd.Ev_extra156 : Builder.Extra Tryd.prog Tryd.Ev_lays156_ren where
  sizeBuilder := by kernel_rfl
  liesBuilder := by kernel_rfl
  t5 := Tryd.underlying5
  a5 := run_isAgg_plain Tryd.underlying5 rfl
  z5 := Tryd.Ev_lays157b.z5
  v5 := Tryd.Ev_lays157b.v5
  infoByte := by kernel_rfl
  cellsByte := by kernel_rfl
  sizeByte := by kernel_rfl
  neB5 := by decide
namespace S
theorem flat_sr (ss : List LV) : flatF [.sr] ss = ss.map fun v => .str (strOf v) := by
  apply List.ext_getElem?
  intro j
  rw [K.flat_get, K.kindAt_one, List.getElem?_map]
  rfl
theorem okJ_iff {ss : List LV} {M : Nat} {sep : List UInt8} : okJ ss M sep = true ↔ okT ss = true ∧ lenL ss = M ∧ M ≤ 1000 ∧ lenL sep ≤ 10 := by unfold okJ; rw [an_iff, an_iff, an_iff, beqN, bleN, bleN]
theorem join_len : ∀ (l : List (List UInt8)) (sep : List UInt8), (∀ x, x ∈ l → x.length ≤ 1000) → sep.length ≤ 10 → (Lib.join l sep).length ≤ 1010 * l.length
  | [], _, _, _ => by simp [Lib.join_nil]
  | [x], sep, h, _ => by rw [Lib.join_one]; have := h x (by simp); show x.length ≤ 1010 * 1; omega
  | x :: y :: r, sep, h, hs => by
    have ih := join_len (y :: r) sep (fun z hz => h z (by simp at hz ⊢; right; exact hz)) hs
    have h1 := h x (by simp)
    have e : Lib.join (x :: y :: r) sep = x ++ sep ++ Lib.join (y :: r) sep := by
      unfold Lib.join
      rw [List.intercalate_cons_cons]
    rw [e, List.length_append, List.length_append]
    simp only [List.length_cons] at ih ⊢
    omega
end S
theorem jn_k (e : Nat) (ss : List LV) (M : Nat) (sep : List UInt8) (h : S.okJ ss M sep = true) : HT Tryd.prog 26 [.slice 0 0 M (.rest 0), .str sep] (Heap.of [.flat [.sr] e (.grow 1) ss]) (.ret (.str (S.joinS ss sep))) (Heap.of [.flat [.sr] e (.grow 1) ss]) := by
  obtain ⟨h1, h2, h3, h4⟩ := S.okJ_iff.1 h
  rw [K.lenL_eq] at h2 h4
  intro ρ w hs _
  have ho := hs.obj 0 (by show 0 < 1; decide)
  have ho : (ρ 0).off = 0 ∧ ∃ lo hi spare, (∀ j, j < (flatF [.sr] ss).length + spare.length → ¬ (lo ≤ j ∧ j < hi)) ∧ (flatF [.sr] ss).length ≤ (ρ 0).cap * 1 ∧ (ρ 0).cap * 1 ≤ (flatF [.sr] ss).length + spare.length ∧ w.heap[(ρ 0).blk]? = some (.cells (decs ρ (flatF [.sr] ss) ++ spare).toArray e (lo, hi)) := ho
  obtain ⟨hz, lo, hi, spare, _, hc1, _, hheap⟩ := ho
  rw [S.flat_sr] at hc1 hheap
  rw [List.length_map, Nat.mul_one] at hc1
  have hcells : ∀ (j : Nat) x, (ss.map fun v => (⟨(strOf v).toArray⟩ : ByteArray))[j]? = some x → w.cell? ⟨(ρ 0).blk, 0 + j, none⟩ = some (.string x) := by
    intro j x hx
    rw [List.getElem?_map] at hx
    cases hv : ss[j]? with
    | none => rw [hv] at hx; cases hx
    | some v =>
      rw [hv] at hx; injection hx with hx; subst hx
      have hj : j < ss.length := (List.getElem?_eq_some_iff.1 hv).1
      unfold World.cell?
      simp only [hheap]
      rw [Nat.zero_add, List.getElem?_toArray, List.getElem?_append_left (by rw [decs_eq, List.length_map, List.length_map]; exact hj), decs_eq, List.getElem?_map, List.getElem?_map, hv]
      rfl
  have hmap : (ss.map fun v => (⟨(strOf v).toArray⟩ : ByteArray)).map (·.data.toList) = ss.map strOf := by
    rw [List.map_map]
    exact List.map_congr_left fun v _ => rfl
  have hbk : (ρ 0).blk < w.heap.size := (Array.getElem?_eq_some_iff.1 hheap).1
  have hlen := S.join_len (ss.map strOf) sep (fun x hx => by
    obtain ⟨v, hv, rfl⟩ := List.mem_map.1 hx
    have := Nat.le_of_ble_eq_true (List.all_eq_true.1 h1 v hv)
    rw [K.lenL_eq] at this; exact this) h4
  rw [List.length_map] at hlen
  have hk := Any.strings_Join Tryd.Ev_lays156 Tryd.Ev_extra156 (ρ 0).blk 0 (ρ 0).cap (ss.map fun v => (⟨(strOf v).toArray⟩ : ByteArray)) ⟨sep.toArray⟩ w hcells hbk (by rw [List.length_map]; omega) (by rw [List.length_map]; exact hc1) (by rw [hmap]; show (Lib.join _ sep).length ≤ _; omega)
  rw [hmap, List.length_map, h2] at hk
  have e1 : (decs ρ [.slice 0 0 M (.rest 0), .str sep]).toArray = #[.slice (some ⟨(ρ 0).blk, 0, none⟩) M (ρ 0).cap, .string ⟨sep.toArray⟩] := by
    simp [decs, dec, capOf, hz]
  have hk : Calls Tryd.prog 26 #[.slice (some ⟨(ρ 0).blk, 0, none⟩) M (ρ 0).cap, .string ⟨sep.toArray⟩] w _ := hk
  rw [e1]
  refine hk.mono ?_
  rintro e' w' ⟨he, hb⟩
  exact ⟨ρ, he, Moved.below hs hb, trivial⟩
theorem jn_ok : jnE.ok Tryd.prog 26 := by
  intro xs os b r h h3
  unfold jnE at h
  simp only at h
  split at h
  · injection h with h; injection h with h1 h2; subst h1; subst h2
    exact jn_k _ _ _ _ h3
  · cases h
theorem tb_z (M o W et : Nat) (cp : Cap) (w : Own) (vs ss : List LV) (i : Int) (hi : i = W) : K.LOk Tryd.prog 15 26 (inner (inner (blkOf 15 0))) [3, 6, 7, 8] [.slice 0 0 M (.rest 0), .slice 1 o W cp, .int .i64 W, .int .i64 i] [.flat [.sr] 9 (.grow 1) ss, .flat [.i .u8] et w vs] ⟨.exit 0, [(3, .slice 2 0 (M + S.rem W i) (.rest 0))], [(0, .dead)], [.flat [.sr] 9 (.grow 1) (app ss (S.bys vs o (S.rem W i) i))]⟩ := by
  have z : S.rem W i = 0 := by unfold S.rem; omega
  have z2 : app ss (S.bys vs o 0 i) = ss := by show app ss [] = ss; rw [K.app_eq, List.append_nil]
  rw [z, z2, Nat.add_zero]
  have h : K.LOk Tryd.prog 15 26 (inner (inner (blkOf 15 0))) [3, 6, 7, 8] [.slice 0 0 M (.rest 0), .slice 1 o W cp, .int .i64 W, .int .i64 i] [.flat [.sr] 9 (.grow 1) ss, .flat [.i .u8] et w vs] ⟨.exit 0, [(3, .slice 0 0 M (.rest 0))], [], []⟩ := tb0_con M o W et cp w vs ss i hi
  exact K.LOk.mv (L1 := [(3, .slice 2 0 M (.rest 0))]) (j := 0) (o := .flat [.sr] 9 (.grow 1) ss) h rfl (fun v hv => by cases hv) ⟨by (have hg : (Fr.ofL 15 26 [(3, .slice 0 0 M (.rest 0))] [] none).get 3 = .slice 0 0 M (.rest 0) := by kernel_rfl); (show sameV (at_ (K.mvl 2 0)) (.slice 2 0 M (.rest 0)) ((Fr.ofL 15 26 [(3, .slice 0 0 M (.rest 0))] [] none).get 3)); (rw [hg]; simp only [sameV]; repeat' (first | exact rfl | exact trivial | constructor)), trivial⟩ ⟨by (show lt 3 (.slice 2 0 M (.rest 0))); simp [lt], trivial⟩
theorem tb_lok (o W et : Nat) (cp : Cap) (w : Own) (vs : List LV) (h0 : S.okR vs o W = true) : ∀ (j : Nat) (M : Nat) (ss : List LV) (i : Int), lenL ss = M → (M : Int) = i → i ≤ W → S.rem W i = j → K.LOk Tryd.prog 15 26 (inner (inner (blkOf 15 0))) [3, 6, 7, 8] [.slice 0 0 M (.rest 0), .slice 1 o W cp, .int .i64 W, .int .i64 i] [.flat [.sr] 9 (.grow 1) ss, .flat [.i .u8] et w vs] ⟨.exit 0, [(3, .slice 2 0 (M + S.rem W i) (.rest 0))], [(0, .dead)], [.flat [.sr] 9 (.grow 1) (app ss (S.bys vs o (S.rem W i) i))]⟩ := by
  intro j
  induction j with
  | zero =>
    intro M ss i h1 h2 h3 hm
    exact tb_z M o W et cp w vs ss i (by unfold S.rem at hm; omega)
  | succ j ih =>
    intro M ss i h1 h2 h3 hm
    exact tbR_con M o W et cp w vs ss i h0 (by omega) (by unfold S.rem at hm; omega) h1 h2 fun ss2 k => ih (M + 1) ss2 (i + 1) k (by omega) (by unfold S.rem at hm; omega) (by unfold S.rem at hm ⊢; omega)
theorem tb_blk (o W et : Nat) (cp : Cap) (w : Own) (vs : List LV) (h0 : S.okR vs o W = true) (h1 : 0 < W) : K.BOk Tryd.prog 15 26 (blkOf 15 0) [3, 6, 7, 8] [.nils, .slice 0 o W cp, .int .i64 W, .int .i64 0] [.flat [.i .u8] et w vs] ⟨.normal, [(3, .slice 1 0 W (.rest 0))], [], [.flat [.sr] 9 (.grow 1) (S.bys vs o W 0)]⟩ := by
  have hb : blkOf 15 0 = .block 0 (.loop (inner (inner (blkOf 15 0)))) := by kernel_rfl
  unfold K.BOk
  rw [hb]
  exact K.CT.block (K.GT.loop (tbA_con o W et cp w vs h0 h1 fun ss2 k => tb_lok o W et cp w vs h0 _ 1 ss2 1 k (by omega) (by omega) rfl))
namespace S
theorem bys_T {vs : List LV} {o W : Nat} : ∀ (j : Nat) (i : Int), okT (bys vs o j i) = true
  | 0, _ => rfl
  | j + 1, i => by
    show (Nat.ble (lenL (bst (by1 vs (o + i.toNat * 1)))) 1000 && okT (bys vs o j (i + 1))) = true
    rw [bys_T (W := W) j (i + 1), bst_len]; rfl
theorem join_bys (vs : List LV) (o : Nat) : ∀ (j : Nat) (x : List UInt8) (i : Int), joinS (.str x :: bys vs o j i) [44] = app x (byr vs o j i)
  | 0, x, i => by
    show Lib.join [x] [44] = app x []
    rw [Lib.join_one, K.app_eq, List.append_nil]
  | j + 1, x, i => by
    show Lib.join (x :: bst (by1 vs (o + i.toNat * 1)) :: (bys vs o j (i + 1)).map strOf) [44] = _
    have e : Lib.join (x :: bst (by1 vs (o + i.toNat * 1)) :: (bys vs o j (i + 1)).map strOf) [44] = x ++ [44] ++ joinS (.str (bst (by1 vs (o + i.toNat * 1))) :: bys vs o j (i + 1)) [44] := by
      unfold Lib.join joinS Lib.join
      rw [List.intercalate_cons_cons]
      rfl
    rw [e, join_bys vs o j]
    show _ = app x (44 :: app (bst (by1 vs (o + i.toNat * 1))) (byr vs o j (i + 1)))
    rw [K.app_eq x, List.append_assoc]; rfl
theorem bytes_join {vs : List LV} {o W : Nat} (h : 0 < W) : app byT (joinS (bys vs o W 0) [44]) = bytes vs o W := by
  rw [bytes_n h]
  have r0 : rem W 0 = W := by unfold rem; omega
  have hb := bys_at (vs := vs) (o := o) (W := W) (i := 0) (by omega)
  rw [r0] at hb
  rw [hb, join_bys]; rfl
theorem byr_len (vs : List LV) (o : Nat) : ∀ (j : Nat) (i : Int), lenL (byr vs o j i) = 4 * j
  | 0, _ => rfl
  | j + 1, i => by
    show lenL (app (bst (by1 vs (o + i.toNat * 1))) (byr vs o j (i + 1))) + 1 = _
    rw [lenL_app, bst_len, byr_len vs o j]; omega
theorem join_len2 {vs : List LV} {o W : Nat} (h : 0 < W) (hW : W ≤ 1000) : lenL (joinS (bys vs o W 0) [44]) ≤ 4000 := by
  have r0 : rem W 0 = W := by unfold rem; omega
  have hb := bys_at (vs := vs) (o := o) (W := W) (i := 0) (by omega)
  rw [r0] at hb
  rw [hb, join_bys, lenL_app, bst_len, byr_len]
  have : rem W (0 + 1) = W - 1 := by unfold rem; omega
  rw [this]; omega
end S
theorem byN_run (o W et : Nat) (cp : Cap) (w : Own) (vs : List LV) : K.bodyF (envB [(26, jnE)] (fun g id => bc (Nat.beq g 15) (bc (Nat.beq id 0) (some tbNB) (none)) (none))) (K.runF (envB [(26, jnE)] (fun g id => bc (Nat.beq g 15) (bc (Nat.beq id 0) (some tbNB) (none)) (none))) 30) 15 [.slice 0 o W cp] (Heap.of [.flat [.i .u8] et w vs]) Hint.auto (K.endC K.openE 1 ⟨.ret (.str (S.bytes vs o W)), [], []⟩) =
    (bc (S.an (eqI (0 : Int) (0 : Int)) (S.an (eqI ↑W ↑W) (S.okR vs o W))) (K.BOk Tryd.prog 15 26 (blkOf 15 0) [(3 : Nat), (6 : Nat), (7 : Nat), (8 : Nat)] [LV.nils, LV.slice (0 : Nat) o W cp, LV.int IntKind.i64 ↑W, LV.int IntKind.i64 (0 : Int)] [LObj.flat [CK.i IntKind.u8] et w vs] { x := LX.normal, L := [((3 : Nat), LV.slice (1 : Nat) (0 : Nat) W (Cap.rest (0 : Nat)))], ch := [], new := [LObj.flat [CK.sr] (9 : TypeId) (Own.grow (1 : Nat)) (S.bys vs o W (0 : Int))] } ∧ bc (eqI ↑W (0 : Int)) (S.bytes vs o W = [] ∧ True) (bc (S.okJ (S.bys vs o W (0 : Int)) W [(44 : UInt8)]) (bc (Nat.ble ((6 : Nat) + lenL (S.joinS (S.bys vs o W (0 : Int)) [(44 : UInt8)])) (4611686018427387904 : Nat)) (S.bytes vs o W = app [(46 : UInt8), (98 : UInt8), (121 : UInt8), (116 : UInt8), (101 : UInt8), (32 : UInt8)] (S.joinS (S.bys vs o W (0 : Int)) [(44 : UInt8)]) ∧ True) False) False)) False) := by kernel_rfl
theorem byN_con (o W et : Nat) (cp : Cap) (w : Own) (vs : List LV) (h0 : S.an (S.okR vs o W) (Nat.blt 0 W) = true)  : HT Tryd.prog 15 [.slice 0 o W cp] (Heap.of [.flat [.i .u8] et w vs]) (⟨.ret (.str (S.bytes vs o W)), [], []⟩ : K.CRes).e (Heap.of (K.chg [.flat [.i .u8] et w vs] (⟨.ret (.str (S.bytes vs o W)), [], []⟩ : K.CRes).ch ++ (⟨.ret (.str (S.bytes vs o W)), [], []⟩ : K.CRes).new)) := by
  refine K.con_of_run good (A := envB [(26, jnE)] (fun g id => bc (Nat.beq g 15) (bc (Nat.beq id 0) (some tbNB) (none)) (none))) (envB_ok ?_) K.openE_ok (k := 30) (cast (byN_run o W et cp w vs).symm ?_)
  · intro p hp; simp only [List.mem_cons, List.not_mem_nil, or_false] at hp; rcases hp with rfl <;> first | exact jn_ok
  · obtain ⟨h1, h2⟩ := S.an_iff.1 h0
    have h2 : 0 < W := Nat.le_of_ble_eq_true h2
    obtain ⟨_, _, hW⟩ := S.okR_iff.1 h1
    have e0 : eqI (W : Int) 0 = false := eqI_false.2 (by omega)
    have at2 : S.an true true = true := rfl
    have bl : lenL (S.bys vs o W 0) = W := S.bys_len vs o W 0
    have oj : S.okJ (S.bys vs o W 0) W [44] = true := S.okJ_iff.2 ⟨S.bys_T (W := W) W 0, bl, hW, by decide⟩
    have l1 := S.join_len2 (vs := vs) (o := o) h2 hW
    have b1 : Nat.ble (6 + lenL (S.joinS (S.bys vs o W 0) [44])) 4611686018427387904 = true := S.bleN.2 (by omega)
    simp only [h1, e0, at2, oj, b1, S.eqI_self, bc_true, bc_false]
    exact ⟨tb_blk o W et cp w vs h1 h2, (S.bytes_join h2).symm, trivial⟩
theorem byZ_run (o et : Nat) (cp : Cap) (w : Own) (vs : List LV) : K.bodyF (envL []) (K.runF (envL []) 30) 15 [.slice 0 o 0 cp] (Heap.of [.flat [.i .u8] et w vs]) Hint.auto (K.endC K.openE 1 ⟨.ret (.str S.nilB), [], []⟩) =
    ((S.nilB = [] ∧ True)) := by kernel_rfl
theorem byZ_con (o et : Nat) (cp : Cap) (w : Own) (vs : List LV)  : HT Tryd.prog 15 [.slice 0 o 0 cp] (Heap.of [.flat [.i .u8] et w vs]) (⟨.ret (.str S.nilB), [], []⟩ : K.CRes).e (Heap.of (K.chg [.flat [.i .u8] et w vs] (⟨.ret (.str S.nilB), [], []⟩ : K.CRes).ch ++ (⟨.ret (.str S.nilB), [], []⟩ : K.CRes).new)) := by
  refine K.con_of_run good (A := envL []) (envL_ok ?_) K.openE_ok (k := 30) (cast (byZ_run o et cp w vs).symm ?_)
  · intro p hp; cases hp
  · simp [S.nilB]
theorem by_k (o W et : Nat) (cp : Cap) (w : Own) (vs : List LV) (h : S.okR vs o W = true) : HT Tryd.prog 15 [.slice 0 o W cp] (Heap.of [.flat [.i .u8] et w vs]) (.ret (.str (S.bytes vs o W))) (Heap.of [.flat [.i .u8] et w vs]) := by
  cases W with
  | zero => exact byZ_con o et cp w vs
  | succ n => exact byN_con o (n + 1) et cp w vs (S.an_iff.2 ⟨h, rfl⟩)
theorem by_ok : byE.ok Tryd.prog 15 := by
  intro xs os b r h h3
  unfold byE at h
  simp only at h
  split at h
  · injection h with h; injection h with h1 h2; subst h1; subst h2
    exact by_k _ _ _ _ _ _ h3
  · cases h
end Go.Proofs.YtlgfojaalmelhaaDoor.Ev
