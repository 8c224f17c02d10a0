/- Contracts, proved: Tdg. -/
import Derived.Test.YtlgfojaalmelhaaDoorTdgD
import Derived.Test.YtlgfojaalmelhaaDoorTakP
import Derived.Test.YtlgfojaalmelhaaDoorTbyP
import Derived.Test.YtlgfojaalmelhaaDoorTnmP
namespace Go.Proofs.YtlgfojaalmelhaaDoor.Ev
open Go
set_option linter.unusedVariables false
set_option linter.unusedSimpArgs false
set_option maxRecDepth 100000
set_option maxHeartbeats 1000000
namespace S
theorem okB_intro {vs : List LV} : ∀ (n : Nat), (∀ i, i < n → 0 ≤ by1 vs i ∧ by1 vs i < 256) → (@Nat.rec (fun _ => Bool) true (fun i r => an (byOk (by1 vs i)) r) n) = true
  | 0, _ => rfl
  | n + 1, h => by
    obtain ⟨a, b⟩ := h n (by omega)
    exact an_iff.2 ⟨an_iff.2 ⟨notB_true.2 (ltI_false.2 a), ltI_true.2 b⟩, okB_intro n fun i hi => h i (by omega)⟩
theorem row_len (l : List Int) : lenL (l.flatMap byV) = l.length := by
  rw [K.lenL_eq, flatMap_length byV 1 (fun _ => rfl), Nat.mul_one]
theorem row_at (l : List Int) {i : Nat} (hi : i < l.length) : by1 (l.flatMap byV) i = l[i] := by
  have := atV_rows byV 1 (fun _ => rfl) l hi (c := 0) (by decide)
  rw [Nat.mul_one, Nat.add_zero] at this
  unfold by1; rw [this]; rfl
theorem row_ok (l : List Int) (h : ∀ a, a ∈ l → 0 ≤ a ∧ a ≤ 255) : okB (l.flatMap byV) = true := by
  unfold okB
  rw [row_len]
  refine okB_intro _ fun i hi => ?_
  rw [row_at l hi]
  have := h l[i] (List.getElem_mem hi)
  omega
end S
theorem tdN_run (v n m : Int) : K.bodyF (envL [(13, hexE), (14, hxrE), (15, byE), (16, rbyE), (12, awk13E)]) (K.runF (envL [(13, hexE), (14, hxrE), (15, byE), (16, rbyE), (12, awk13E)]) 30) 4 [.int .i64 v, .int .i64 n, .nils] (Heap.of [.glob 0 S.tabV, .glob 1 [.int .i64 m]]) Hint.auto (K.endC K.openE 2 ⟨.ret (.bool true), [], []⟩) =
    (bc (S.okV v) (bc (S.okV v) (bc (eqB (S.hex v n) (S.hex v n)) (true = true ∧ True) (true = false ∧ True)) False) False) := by kernel_rfl
theorem tdN_con (v n m : Int) (h0 : S.okV v = true) : HT Tryd.prog 4 [.int .i64 v, .int .i64 n, .nils] (Heap.of [.glob 0 S.tabV, .glob 1 [.int .i64 m]]) (⟨.ret (.bool true), [], []⟩ : K.CRes).e (Heap.of (K.chg [.glob 0 S.tabV, .glob 1 [.int .i64 m]] (⟨.ret (.bool true), [], []⟩ : K.CRes).ch ++ (⟨.ret (.bool true), [], []⟩ : K.CRes).new)) := by
  refine K.con_of_run good (A := envL [(13, hexE), (14, hxrE), (15, byE), (16, rbyE), (12, awk13E)]) (envL_ok ?_) K.openE_ok (k := 30) (cast (tdN_run v n m).symm ?_)
  · intro p hp; simp only [List.mem_cons, List.not_mem_nil, or_false] at hp; rcases hp with rfl | rfl | rfl | rfl | rfl <;> first | exact hex_ok | exact hxr_ok | exact by_ok | exact rby_ok | exact awk13_ok
  · simp only [h0, S.eqB_refl, bc_true, and_self]
theorem tdE_run (v n m : Int) : K.bodyF (envL [(13, hexE), (14, hxrE), (15, byE), (16, rbyE), (12, awk13E)]) (K.runF (envL [(13, hexE), (14, hxrE), (15, byE), (16, rbyE), (12, awk13E)]) 30) 4 [.int .i64 v, .int .i64 n, .emp 0] (Heap.of [.empty, .glob 0 S.tabV, .glob 1 [.int .i64 m]]) Hint.auto (K.endC K.openE 3 ⟨.ret (.bool true), [], []⟩) =
    (bc (S.okV v) (bc (S.okV v) (bc (eqB (S.hex v n) (S.hex v n)) (true = true ∧ True) (true = false ∧ True)) False) False) := by kernel_rfl
theorem tdE_con (v n m : Int) (h0 : S.okV v = true) : HT Tryd.prog 4 [.int .i64 v, .int .i64 n, .emp 0] (Heap.of [.empty, .glob 0 S.tabV, .glob 1 [.int .i64 m]]) (⟨.ret (.bool true), [], []⟩ : K.CRes).e (Heap.of (K.chg [.empty, .glob 0 S.tabV, .glob 1 [.int .i64 m]] (⟨.ret (.bool true), [], []⟩ : K.CRes).ch ++ (⟨.ret (.bool true), [], []⟩ : K.CRes).new)) := by
  refine K.con_of_run good (A := envL [(13, hexE), (14, hxrE), (15, byE), (16, rbyE), (12, awk13E)]) (envL_ok ?_) K.openE_ok (k := 30) (cast (tdE_run v n m).symm ?_)
  · intro p hp; simp only [List.mem_cons, List.not_mem_nil, or_false] at hp; rcases hp with rfl | rfl | rfl | rfl | rfl <;> first | exact hex_ok | exact hxr_ok | exact by_ok | exact rby_ok | exact awk13_ok
  · simp only [h0, S.eqB_refl, bc_true, and_self]
theorem tdS_run (v n m : Int) (L cap et : Nat) (vs : List LV) : K.bodyF (envL [(13, hexE), (14, hxrE), (15, byE), (16, rbyE), (12, awk13E)]) (K.runF (envL [(13, hexE), (14, hxrE), (15, byE), (16, rbyE), (12, awk13E)]) 30) 4 [.int .i64 v, .int .i64 n, .slice 0 0 L (.known cap)] (Heap.of [.flat [.i .u8] et .ro vs, .glob 0 S.tabV, .glob 1 [.int .i64 m]]) Hint.auto (K.endC K.openE 3 ⟨.ret (.bool true), [], []⟩) =
    (bc (ltI (200 : Int) ↑L) (true = true ∧ True) (bc (S.okV v) (bc (S.okV v) (bc (eqB (S.hex v n) (S.hex v n)) (bc (Nat.ble ((0 : Nat) + L) (lenL vs)) (bc (Nat.ble ((0 : Nat) + L) (0 : Nat)) (bc (Nat.beq L (0 : Nat)) (bc (S.okR vs (0 : Nat) L) (bc (eqB (S.bytes [] (0 : Nat) (0 : Nat)) (S.bytes vs (0 : Nat) L)) (true = true ∧ True) (true = false ∧ True)) False) False) (bc (Nat.ble (((0 : Nat) + L) * (1 : Nat)) (1099511627776 : Nat)) (bc (S.okR (app (sub [] (0 : Nat) (0 : Nat)) (sub vs (0 : Nat) L)) (0 : Nat) ((0 : Nat) + L)) (bc (S.okR vs (0 : Nat) L) (bc (eqB (S.bytes (app (sub [] (0 : Nat) (0 : Nat)) (sub vs (0 : Nat) L)) (0 : Nat) ((0 : Nat) + L)) (S.bytes vs (0 : Nat) L)) (true = true ∧ True) (true = false ∧ True)) False) False) False)) False) (true = false ∧ True)) False) False)) := by kernel_rfl
theorem tdS_con (v n m : Int) (L cap et : Nat) (vs : List LV) (h0 : S.okV v = true) (h1 : S.okB vs = true) (h2 : lenL vs = L) (h3 : 0 < L) : HT Tryd.prog 4 [.int .i64 v, .int .i64 n, .slice 0 0 L (.known cap)] (Heap.of [.flat [.i .u8] et .ro vs, .glob 0 S.tabV, .glob 1 [.int .i64 m]]) (⟨.ret (.bool true), [], []⟩ : K.CRes).e (Heap.of (K.chg [.flat [.i .u8] et .ro vs, .glob 0 S.tabV, .glob 1 [.int .i64 m]] (⟨.ret (.bool true), [], []⟩ : K.CRes).ch ++ (⟨.ret (.bool true), [], []⟩ : K.CRes).new)) := by
  refine K.con_of_run good (A := envL [(13, hexE), (14, hxrE), (15, byE), (16, rbyE), (12, awk13E)]) (envL_ok ?_) K.openE_ok (k := 30) (cast (tdS_run v n m L cap et vs).symm ?_)
  · intro p hp; simp only [List.mem_cons, List.not_mem_nil, or_false] at hp; rcases hp with rfl | rfl | rfl | rfl | rfl <;> first | exact hex_ok | exact hxr_ok | exact by_ok | exact rby_ok | exact awk13_ok
  · refine bcI (fun _ => ⟨rfl, trivial⟩) (fun hL => ?_)
    have hL := ltI_false.1 hL
    have e1 : app (sub [] 0 0) (sub vs 0 L) = vs := by rw [S.sub_all h2]; rfl
    have o1 : S.okR vs 0 L = true := S.okR_iff.2 ⟨h1, by omega, by omega⟩
    have b1 : Nat.ble (0 + L) (lenL vs) = true := S.bleN.2 (by omega)
    have b2 : Nat.ble (0 + L) 0 = false := by
      cases h : Nat.ble (0 + L) 0 with
      | false => rfl
      | true => have := S.bleN.1 h; omega
    have b3 : Nat.ble ((0 + L) * 1) 1099511627776 = true := S.bleN.2 (by omega)
    have o2 : S.okR vs 0 (0 + L) = true := by rw [Nat.zero_add]; exact o1
    simp only [h0, e1, o1, o2, b1, b2, b3, S.eqB_refl, bc_true, bc_false]
    rw [Nat.zero_add, S.eqB_refl]
    first
      | trivial
      | exact ⟨rfl, trivial⟩
      | simp only [bc_true]; exact ⟨rfl, trivial⟩
theorem td_FN (x0 : Int) (h0 : x0 ≤ 9223372036854775807) (x1 : Int) (m : Int) : HT Tryd.prog 4 [.int .i64 x0, .int .i64 x1, .nils] (Heap.of [.glob 0 S.tabV, .glob 1 [.int .i64 m]]) (.ret (.bool true)) (Heap.of [.glob 0 S.tabV, .glob 1 [.int .i64 m]]) :=
  tdN_con x0 x1 m (notB_true.2 (ltI_false.2 h0))
theorem td_FE (x0 : Int) (h0 : x0 ≤ 9223372036854775807) (x1 : Int) (m : Int) : HT Tryd.prog 4 [.int .i64 x0, .int .i64 x1, .emp 0] (Heap.of [.empty, .glob 0 S.tabV, .glob 1 [.int .i64 m]]) (.ret (.bool true)) (Heap.of [.empty, .glob 0 S.tabV, .glob 1 [.int .i64 m]]) :=
  tdE_con x0 x1 m (notB_true.2 (ltI_false.2 h0))
theorem td_FS (x0 : Int) (h0 : x0 ≤ 9223372036854775807) (x1 : Int) (l : List Int) (cap et : Nat) (hz : 0 < l.length) (hq : l.length ≤ cap) (hl : ∀ a, a ∈ l → 0 ≤ a ∧ a ≤ 255) (m : Int) : HT Tryd.prog 4 [.int .i64 x0, .int .i64 x1, .slice 0 0 l.length (.known cap)] (Heap.of [.flat S.byK et .ro (l.flatMap S.byV), .glob 0 S.tabV, .glob 1 [.int .i64 m]]) (.ret (.bool true)) (Heap.of [.flat S.byK et .ro (l.flatMap S.byV), .glob 0 S.tabV, .glob 1 [.int .i64 m]]) :=
  tdS_con x0 x1 m l.length cap et (l.flatMap S.byV) (notB_true.2 (ltI_false.2 h0)) (S.row_ok l hl) (S.row_len l) hz
end Go.Proofs.YtlgfojaalmelhaaDoor.Ev
