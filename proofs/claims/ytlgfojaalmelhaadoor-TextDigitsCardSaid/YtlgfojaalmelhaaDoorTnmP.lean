/- Contracts, proved: Tnm. -/
import Derived.Test.YtlgfojaalmelhaaDoorTnmD
import Derived.Test.YtlgfojaalmelhaaDoorTakP
namespace Go.Proofs.YtlgfojaalmelhaaDoor.Ev
open Go
set_option linter.unusedVariables false
set_option linter.unusedSimpArgs false
set_option maxRecDepth 100000
set_option maxHeartbeats 1000000
namespace S
theorem eqB_refl (s : List UInt8) : eqB s s = true := by rw [eqB_eq]; simp
theorem eqB_ex {s t : List UInt8} (h : eqB s t = true) : s = t := by rw [eqB_eq] at h; simpa using h
theorem okS_of {o a b p : Int} (h1 : 0 ≤ o ∧ o ≤ 255) (h2 : 0 ≤ a ∧ a ≤ 255) (h3 : 0 ≤ b ∧ b ≤ 255) (h4 : 0 ≤ p ∧ p ≤ 65535) : okS o a b p = true := okS_iff.2 (by omega)
theorem isB_of {o : Int} (h1 : 0 ≤ o ∧ o ≤ 255) : isB o = true := isB_iff.2 (by omega)
theorem shw_take {o a b p : Int} (h : 0 ≤ o ∧ o ≤ 255) : takeB (dropB (shw o a b p) 0) 3 = nm o := by
  obtain ⟨hl, _⟩ := tab_at (o := o) (by omega)
  rw [K.lenL_eq] at hl
  rw [takeB_eq, dropB_eq, List.drop_zero]
  unfold shw
  rw [← hl, List.take_left]
theorem shw_len {o a b p : Int} (h : 0 ≤ o ∧ o ≤ 255) : 3 ≤ lenL (shw o a b p) := by
  obtain ⟨hl, _⟩ := tab_at (o := o) (by omega)
  rw [K.lenL_eq] at hl ⊢
  unfold shw
  rw [List.length_append]; omega
end S
theorem tn_run (o q b m : Int) : K.bodyF (envL [(21, cofE), (10, shE), (12, awk13E)]) (K.runF (envL [(21, cofE), (10, shE), (12, awk13E)]) 30) 7 [.int .u8 o, .int .u8 q, .int .u8 b] (Heap.of [.glob 0 S.tabV, .glob 1 [.int .i64 m]]) Hint.auto (K.endC K.openE 2 ⟨.ret (.bool true), [], []⟩) =
    (bc (bc (S.okG (0 : Nat) S.tabV (1 : Nat)) (S.okS o b b (0 : Int)) false) (bc (bc (S.okG (0 : Nat) S.tabV (1 : Nat)) (S.okS q b b (0 : Int)) false) (bc (bc (S.okG (0 : Nat) S.tabV (1 : Nat)) (S.isB o) false) (bc (notB (ltI ↑(lenL (S.shw o b b (0 : Int))) (3 : Int))) (bc (Nat.ble (3 : Nat) (lenL (S.shw o b b (0 : Int)))) (bc (eqB (takeB (dropB (S.shw o b b (0 : Int)) (0 : Nat)) (3 : Nat)) (S.nm o)) (bc (notB (eqB (S.shw o b b (0 : Int)) (S.shw q b b (0 : Int)))) (true = true ∧ True) (bc (bc (S.okG (0 : Nat) S.tabV (1 : Nat)) (S.isB q) false) (bc (eqB (S.nm q) (S.nm o)) (true = true ∧ True) (true = false ∧ True)) False)) (true = false ∧ True)) False) (true = false ∧ True)) False) False) False) := by kernel_rfl
theorem tn_con (o q b m : Int) (h0 : 0 ≤ o ∧ o ≤ 255) (h1 : 0 ≤ q ∧ q ≤ 255) (h2 : 0 ≤ b ∧ b ≤ 255) : HT Tryd.prog 7 [.int .u8 o, .int .u8 q, .int .u8 b] (Heap.of [.glob 0 S.tabV, .glob 1 [.int .i64 m]]) (⟨.ret (.bool true), [], []⟩ : K.CRes).e (Heap.of (K.chg [.glob 0 S.tabV, .glob 1 [.int .i64 m]] (⟨.ret (.bool true), [], []⟩ : K.CRes).ch ++ (⟨.ret (.bool true), [], []⟩ : K.CRes).new)) := by
  refine K.con_of_run good (A := envL [(21, cofE), (10, shE), (12, awk13E)]) (envL_ok ?_) K.openE_ok (k := 30) (cast (tn_run o q b m).symm ?_)
  · intro p hp; simp only [List.mem_cons, List.not_mem_nil, or_false] at hp; rcases hp with rfl | rfl | rfl <;> first | exact cof_ok | exact sh_ok | exact awk13_ok
  · have hl := S.shw_len (a := b) (b := b) (p := 0) h0
    have c1 : ltI ((lenL (S.shw o b b 0) : Nat) : Int) 3 = false := ltI_false.2 (by omega)
    have c2 : Nat.ble 3 (lenL (S.shw o b b 0)) = true := Nat.ble_eq_true_of_le hl
    simp only [S.okG_0, S.okS_of h0 h2 h2 ⟨Int.le_refl 0, by decide⟩, S.okS_of h1 h2 h2 ⟨Int.le_refl 0, by decide⟩, S.isB_of h0, S.isB_of h1, c1, c2, S.shw_take h0, S.eqB_refl, notB_f, bc_true]
    refine bcI (fun _ => by simp) (fun h => ?_)
    have he := S.eqB_ex (notB_false.1 h)
    have hn : S.nm q = S.nm o := by rw [← S.shw_take (a := b) (b := b) (p := 0) h0, ← S.shw_take (a := b) (b := b) (p := 0) h1, he]
    rw [hn, S.eqB_refl]
    simp only [bc_true]
    trivial
theorem ts_run (o a p m : Int) : K.bodyF (envL [(10, shE), (11, shrE), (12, awk13E)]) (K.runF (envL [(10, shE), (11, shrE), (12, awk13E)]) 30) 3 [.int .u8 o, .int .u8 a, .int .u16 p] (Heap.of [.glob 0 S.tabV, .glob 1 [.int .i64 m]]) Hint.auto (K.endC K.openE 2 ⟨.ret (.bool true), [], []⟩) =
    (bc (bc (S.okG (0 : Nat) S.tabV (1 : Nat)) (S.okS o a (wrapK IntKind.u8 (0 : Int)) p) false) (bc (S.okS (wrapK IntKind.i64 o) (wrapK IntKind.i64 a) (0 : Int) (wrapK IntKind.i64 p)) (bc (notB (eqB (S.shw o a (wrapK IntKind.u8 (0 : Int)) p) (S.shw (wrapK IntKind.i64 o) (wrapK IntKind.i64 a) (0 : Int) (wrapK IntKind.i64 p)))) (true = false ∧ True) (bc (bc (S.okG (0 : Nat) S.tabV (1 : Nat)) (S.okS o a (wrapK IntKind.u8 (wrapK IntKind.i64 ((0 : Int) + (51 : Int)))) p) false) (bc (S.okS (wrapK IntKind.i64 o) (wrapK IntKind.i64 a) (wrapK IntKind.i64 ((0 : Int) + (51 : Int))) (wrapK IntKind.i64 p)) (bc (notB (eqB (S.shw o a (wrapK IntKind.u8 (wrapK IntKind.i64 ((0 : Int) + (51 : Int)))) p) (S.shw (wrapK IntKind.i64 o) (wrapK IntKind.i64 a) (wrapK IntKind.i64 ((0 : Int) + (51 : Int))) (wrapK IntKind.i64 p)))) (true = false ∧ True) (bc (bc (S.okG (0 : Nat) S.tabV (1 : Nat)) (S.okS o a (wrapK IntKind.u8 (wrapK IntKind.i64 (wrapK IntKind.i64 ((0 : Int) + (51 : Int)) + (51 : Int)))) p) false) (bc (S.okS (wrapK IntKind.i64 o) (wrapK IntKind.i64 a) (wrapK IntKind.i64 (wrapK IntKind.i64 ((0 : Int) + (51 : Int)) + (51 : Int))) (wrapK IntKind.i64 p)) (bc (notB (eqB (S.shw o a (wrapK IntKind.u8 (wrapK IntKind.i64 (wrapK IntKind.i64 ((0 : Int) + (51 : Int)) + (51 : Int)))) p) (S.shw (wrapK IntKind.i64 o) (wrapK IntKind.i64 a) (wrapK IntKind.i64 (wrapK IntKind.i64 ((0 : Int) + (51 : Int)) + (51 : Int))) (wrapK IntKind.i64 p)))) (true = false ∧ True) (bc (bc (S.okG (0 : Nat) S.tabV (1 : Nat)) (S.okS o a (wrapK IntKind.u8 (wrapK IntKind.i64 (wrapK IntKind.i64 (wrapK IntKind.i64 ((0 : Int) + (51 : Int)) + (51 : Int)) + (51 : Int)))) p) false) (bc (S.okS (wrapK IntKind.i64 o) (wrapK IntKind.i64 a) (wrapK IntKind.i64 (wrapK IntKind.i64 (wrapK IntKind.i64 ((0 : Int) + (51 : Int)) + (51 : Int)) + (51 : Int))) (wrapK IntKind.i64 p)) (bc (notB (eqB (S.shw o a (wrapK IntKind.u8 (wrapK IntKind.i64 (wrapK IntKind.i64 (wrapK IntKind.i64 ((0 : Int) + (51 : Int)) + (51 : Int)) + (51 : Int)))) p) (S.shw (wrapK IntKind.i64 o) (wrapK IntKind.i64 a) (wrapK IntKind.i64 (wrapK IntKind.i64 (wrapK IntKind.i64 ((0 : Int) + (51 : Int)) + (51 : Int)) + (51 : Int))) (wrapK IntKind.i64 p)))) (true = false ∧ True) (bc (bc (S.okG (0 : Nat) S.tabV (1 : Nat)) (S.okS o a (wrapK IntKind.u8 (wrapK IntKind.i64 (wrapK IntKind.i64 (wrapK IntKind.i64 (wrapK IntKind.i64 ((0 : Int) + (51 : Int)) + (51 : Int)) + (51 : Int)) + (51 : Int)))) p) false) (bc (S.okS (wrapK IntKind.i64 o) (wrapK IntKind.i64 a) (wrapK IntKind.i64 (wrapK IntKind.i64 (wrapK IntKind.i64 (wrapK IntKind.i64 ((0 : Int) + (51 : Int)) + (51 : Int)) + (51 : Int)) + (51 : Int))) (wrapK IntKind.i64 p)) (bc (notB (eqB (S.shw o a (wrapK IntKind.u8 (wrapK IntKind.i64 (wrapK IntKind.i64 (wrapK IntKind.i64 (wrapK IntKind.i64 ((0 : Int) + (51 : Int)) + (51 : Int)) + (51 : Int)) + (51 : Int)))) p) (S.shw (wrapK IntKind.i64 o) (wrapK IntKind.i64 a) (wrapK IntKind.i64 (wrapK IntKind.i64 (wrapK IntKind.i64 (wrapK IntKind.i64 ((0 : Int) + (51 : Int)) + (51 : Int)) + (51 : Int)) + (51 : Int))) (wrapK IntKind.i64 p)))) (true = false ∧ True) (bc (bc (S.okG (0 : Nat) S.tabV (1 : Nat)) (S.okS o a (wrapK IntKind.u8 (wrapK IntKind.i64 (wrapK IntKind.i64 (wrapK IntKind.i64 (wrapK IntKind.i64 (wrapK IntKind.i64 ((0 : Int) + (51 : Int)) + (51 : Int)) + (51 : Int)) + (51 : Int)) + (51 : Int)))) p) false) (bc (S.okS (wrapK IntKind.i64 o) (wrapK IntKind.i64 a) (wrapK IntKind.i64 (wrapK IntKind.i64 (wrapK IntKind.i64 (wrapK IntKind.i64 (wrapK IntKind.i64 ((0 : Int) + (51 : Int)) + (51 : Int)) + (51 : Int)) + (51 : Int)) + (51 : Int))) (wrapK IntKind.i64 p)) (bc (notB (eqB (S.shw o a (wrapK IntKind.u8 (wrapK IntKind.i64 (wrapK IntKind.i64 (wrapK IntKind.i64 (wrapK IntKind.i64 (wrapK IntKind.i64 ((0 : Int) + (51 : Int)) + (51 : Int)) + (51 : Int)) + (51 : Int)) + (51 : Int)))) p) (S.shw (wrapK IntKind.i64 o) (wrapK IntKind.i64 a) (wrapK IntKind.i64 (wrapK IntKind.i64 (wrapK IntKind.i64 (wrapK IntKind.i64 (wrapK IntKind.i64 ((0 : Int) + (51 : Int)) + (51 : Int)) + (51 : Int)) + (51 : Int)) + (51 : Int))) (wrapK IntKind.i64 p)))) (true = false ∧ True) (true = true ∧ True)) False) False)) False) False)) False) False)) False) False)) False) False)) False) False) := by kernel_rfl
theorem ts_con (o a p m : Int) (h0 : 0 ≤ o ∧ o ≤ 255) (h1 : 0 ≤ a ∧ a ≤ 255) (h2 : 0 ≤ p ∧ p ≤ 65535) : HT Tryd.prog 3 [.int .u8 o, .int .u8 a, .int .u16 p] (Heap.of [.glob 0 S.tabV, .glob 1 [.int .i64 m]]) (⟨.ret (.bool true), [], []⟩ : K.CRes).e (Heap.of (K.chg [.glob 0 S.tabV, .glob 1 [.int .i64 m]] (⟨.ret (.bool true), [], []⟩ : K.CRes).ch ++ (⟨.ret (.bool true), [], []⟩ : K.CRes).new)) := by
  refine K.con_of_run good (A := envL [(10, shE), (11, shrE), (12, awk13E)]) (envL_ok ?_) K.openE_ok (k := 30) (cast (ts_run o a p m).symm ?_)
  · intro p hp; simp only [List.mem_cons, List.not_mem_nil, or_false] at hp; rcases hp with rfl | rfl | rfl <;> first | exact sh_ok | exact shr_ok | exact awk13_ok
  · have wo : wrapK .i64 o = o := by rw [wrapK_i64]; omega
    have wa : wrapK .i64 a = a := by rw [wrapK_i64]; omega
    have wp : wrapK .i64 p = p := by rw [wrapK_i64]; omega
    have key : ∀ k, 0 ≤ k ∧ k ≤ 255 → S.okS o a k p = true := fun k hk => S.okS_of h0 h1 hk h2
    have v1 : wrapK .i64 ((0 : Int) + 51) = 51 := by rw [wrapK_i64]; rfl
    have v2 : wrapK .i64 ((51 : Int) + 51) = 102 := by rw [wrapK_i64]; rfl
    have v3 : wrapK .i64 ((102 : Int) + 51) = 153 := by rw [wrapK_i64]; rfl
    have v4 : wrapK .i64 ((153 : Int) + 51) = 204 := by rw [wrapK_i64]; rfl
    have v5 : wrapK .i64 ((204 : Int) + 51) = 255 := by rw [wrapK_i64]; rfl
    have u : ∀ k : Int, 0 ≤ k ∧ k ≤ 255 → wrapK .u8 k = k := fun k hk => by rw [wrapK_u8]; omega
    simp only [wo, wa, wp, v1, v2, v3, v4, v5, u 0 ⟨by decide, by decide⟩, u 51 ⟨by decide, by decide⟩, u 102 ⟨by decide, by decide⟩, u 153 ⟨by decide, by decide⟩, u 204 ⟨by decide, by decide⟩, u 255 ⟨by decide, by decide⟩, key 0 ⟨by decide, by decide⟩, key 51 ⟨by decide, by decide⟩, key 102 ⟨by decide, by decide⟩, key 153 ⟨by decide, by decide⟩, key 204 ⟨by decide, by decide⟩, key 255 ⟨by decide, by decide⟩, S.okG_0, S.eqB_refl, notB_t, bc_true, bc_false]
    trivial
theorem tn_F (x0 : Int) (hl0 : 0 ≤ x0) (hu0 : x0 ≤ 255) (x1 : Int) (hl1 : 0 ≤ x1) (hu1 : x1 ≤ 255) (x2 : Int) (hl2 : 0 ≤ x2) (hu2 : x2 ≤ 255) (m : Int) : HT Tryd.prog 7 [.int .u8 x0, .int .u8 x1, .int .u8 x2] (Heap.of [.glob 0 S.tabV, .glob 1 [.int .i64 m]]) (.ret (.bool true)) (Heap.of [.glob 0 S.tabV, .glob 1 [.int .i64 m]]) :=
  tn_con x0 x1 x2 m ⟨hl0, hu0⟩ ⟨hl1, hu1⟩ ⟨hl2, hu2⟩
theorem ts_F (x0 : Int) (hl0 : 0 ≤ x0) (hu0 : x0 ≤ 255) (x1 : Int) (hl1 : 0 ≤ x1) (hu1 : x1 ≤ 255) (x2 : Int) (hl2 : 0 ≤ x2) (hu2 : x2 ≤ 65535) (m : Int) : HT Tryd.prog 3 [.int .u8 x0, .int .u8 x1, .int .u16 x2] (Heap.of [.glob 0 S.tabV, .glob 1 [.int .i64 m]]) (.ret (.bool true)) (Heap.of [.glob 0 S.tabV, .glob 1 [.int .i64 m]]) :=
  ts_con x0 x1 x2 m ⟨hl0, hu0⟩ ⟨hl1, hu1⟩ ⟨hl2, hu2⟩
end Go.Proofs.YtlgfojaalmelhaaDoor.Ev
