/- Contracts, proved: Tll. -/
import Derived.Test.YtlgfojaalmelhaaDoorTllD
import Derived.Test.YtlgfojaalmelhaaDoorTakP
import Derived.Test.YtlgfojaalmelhaaDoorTlrP
namespace Go.Proofs.YtlgfojaalmelhaaDoor.Ev
open Go
set_option linter.unusedVariables false
set_option linter.unusedSimpArgs false
set_option maxRecDepth 100000
set_option maxHeartbeats 1000000
namespace S
theorem okB_intro {vs : List LV} : ∀ (n : Nat), (∀ i, i < n → 0 ≤ by1 vs i ∧ by1 vs i < 256) → (@Nat.rec (fun _ => Bool) true (fun i r => an (byOk (by1 vs i)) r) n) = true
  | 0, _ => rfl
  | n + 1, h => by
    obtain ⟨a, b⟩ := h n (by omega)
    exact an_iff.2 ⟨an_iff.2 ⟨notB_true.2 (ltI_false.2 a), ltI_true.2 b⟩, okB_intro n fun i hi => h i (by omega)⟩
theorem row_len (l : List Int) : lenL (l.flatMap byV) = l.length := by
  rw [K.lenL_eq, flatMap_length byV 1 (fun _ => rfl), Nat.mul_one]
theorem row_at (l : List Int) {i : Nat} (hi : i < l.length) : by1 (l.flatMap byV) i = l[i] := by
  have := atV_rows byV 1 (fun _ => rfl) l hi (c := 0) (by decide)
  rw [Nat.mul_one, Nat.add_zero] at this
  unfold by1; rw [this]; rfl
theorem row_ok (l : List Int) (h : ∀ a, a ∈ l → 0 ≤ a ∧ a ≤ 255) : okB (l.flatMap byV) = true := by
  unfold okB
  rw [row_len]
  refine okB_intro _ fun i hi => ?_
  rw [row_at l hi]
  have := h l[i] (List.getElem_mem hi)
  omega
end S

namespace S
theorem ls_le (vs : List LV) : ∀ (j o n : Nat) (a : Int), j ≤ 1000 → lsl vs j o n a ≤ 1000
  | j, o, n, a, h => by
    have : ∀ (j o n : Nat) (a : Int), lenL (ls vs j o n a) ≤ j := by
      intro j
      induction j with
      | zero => intro o n a; exact Nat.le_refl 0
      | succ j ih =>
        intro o n a
        rw [ls_succ]
        cases Nat.beq n 0 with
        | true => exact Nat.zero_le _
        | false => rw [bc_false, lenL_cons]; have := ih (o + stp vs o n) (n - stp vs o n) (nxt a (stp vs o n)); omega
    exact Nat.le_trans (this j o n a) h
end S
theorem tlN_run (a m : Int) : K.bodyF (envK [(18, lizE), (19, rlE), (17, smE), (12, awk13E)] (fun g id => none) (fun g i => bc (Nat.beq g 18) (hasN [5] i) (true))) (K.runF (envK [(18, lizE), (19, rlE), (17, smE), (12, awk13E)] (fun g id => none) (fun g i => bc (Nat.beq g 18) (hasN [5] i) (true))) 30) 5 [.int .u16 a, .nils] (Heap.of [.glob 0 S.tabV, .glob 1 [.int .i64 m]]) Hint.auto (K.endC K.openE 2 ⟨.ret (.bool true), [], []⟩) =
    ((true = true ∧ True)) := by kernel_rfl
theorem tlN_con (a m : Int)  : HT Tryd.prog 5 [.int .u16 a, .nils] (Heap.of [.glob 0 S.tabV, .glob 1 [.int .i64 m]]) (⟨.ret (.bool true), [], []⟩ : K.CRes).e (Heap.of (K.chg [.glob 0 S.tabV, .glob 1 [.int .i64 m]] (⟨.ret (.bool true), [], []⟩ : K.CRes).ch ++ (⟨.ret (.bool true), [], []⟩ : K.CRes).new)) := by
  refine K.con_of_run good (A := envK [(18, lizE), (19, rlE), (17, smE), (12, awk13E)] (fun g id => none) (fun g i => bc (Nat.beq g 18) (hasN [5] i) (true))) (envK_ok ?_) K.openE_ok (k := 30) (cast (tlN_run a m).symm ?_)
  · intro p hp; simp only [List.mem_cons, List.not_mem_nil, or_false] at hp; rcases hp with rfl | rfl | rfl | rfl <;> first | exact liz_ok | exact rl_ok | exact sm_ok | exact awk13_ok
  · have hG := S.okG_0
    simp only [hG, bc_true, and_self]
theorem tlE_run (a m : Int) : K.bodyF (envK [(18, lizE), (19, rlE), (17, smE), (12, awk13E)] (fun g id => none) (fun g i => bc (Nat.beq g 18) (hasN [5] i) (true))) (K.runF (envK [(18, lizE), (19, rlE), (17, smE), (12, awk13E)] (fun g id => none) (fun g i => bc (Nat.beq g 18) (hasN [5] i) (true))) 30) 5 [.int .u16 a, .emp 0] (Heap.of [.empty, .glob 0 S.tabV, .glob 1 [.int .i64 m]]) Hint.auto (K.endC K.openE 3 ⟨.ret (.bool true), [], []⟩) =
    ((true = true ∧ True)) := by kernel_rfl
theorem tlE_con (a m : Int)  : HT Tryd.prog 5 [.int .u16 a, .emp 0] (Heap.of [.empty, .glob 0 S.tabV, .glob 1 [.int .i64 m]]) (⟨.ret (.bool true), [], []⟩ : K.CRes).e (Heap.of (K.chg [.empty, .glob 0 S.tabV, .glob 1 [.int .i64 m]] (⟨.ret (.bool true), [], []⟩ : K.CRes).ch ++ (⟨.ret (.bool true), [], []⟩ : K.CRes).new)) := by
  refine K.con_of_run good (A := envK [(18, lizE), (19, rlE), (17, smE), (12, awk13E)] (fun g id => none) (fun g i => bc (Nat.beq g 18) (hasN [5] i) (true))) (envK_ok ?_) K.openE_ok (k := 30) (cast (tlE_run a m).symm ?_)
  · intro p hp; simp only [List.mem_cons, List.not_mem_nil, or_false] at hp; rcases hp with rfl | rfl | rfl | rfl <;> first | exact liz_ok | exact rl_ok | exact sm_ok | exact awk13_ok
  · have hG := S.okG_0
    simp only [hG, bc_true, and_self]
theorem tlS_run (a m : Int) (L cap et : Nat) (vs : List LV) : K.bodyF (envK [(18, liE), (19, rlE), (17, smE), (12, awk13E)] (fun g id => none) (fun g i => bc (Nat.beq g 18) (hasN [5] i) (true))) (K.runF (envK [(18, liE), (19, rlE), (17, smE), (12, awk13E)] (fun g id => none) (fun g i => bc (Nat.beq g 18) (hasN [5] i) (true))) 30) 5 [.int .u16 a, .slice 0 0 L (.known cap)] (Heap.of [.flat [.i .u8] et .ro vs, .glob 0 S.tabV, .glob 1 [.int .i64 m]]) Hint.auto (K.endC K.openE 3 ⟨.ret (.bool true), [], []⟩) =
    (bc (ltI 400 ↑L) (true = true ∧ True) (bc (Nat.ble (0 + L) (lenL vs)) (bc (Nat.ble (0 + L) 0) (bc (Nat.beq L 0) (bc (S.an (S.okG 0 S.tabV 1) (S.an (S.lok [] 0 0 0 0 [] a) (Nat.blt 0 0))) (bc (S.an (S.okL vs 0 L 0 [] (wrapK IntKind.i64 a) 0) (Nat.blt 0 L)) (bc (S.an (Nat.beq (S.lrl vs 0 L (wrapK IntKind.i64 a) 0) (S.lsl [] 0 0 0 a)) (S.sam (S.ls [] 0 0 0 a) (S.lr vs 0 L (wrapK IntKind.i64 a) 0) (S.lsl [] 0 0 0 a))) (true = true ∧ True) False) False) False) False) (bc (Nat.ble ((0 + L) * 1) 1099511627776) (bc (S.an (S.okG 0 S.tabV 1) (S.an (S.an (S.lok (app (sub [] 0 0) (sub vs 0 L)) 0 (0 + L) (0 + L) 0 [] a) (Nat.beq (lenL (app (sub [] 0 0) (sub vs 0 L))) (0 + L))) (Nat.blt 0 (0 + L)))) (bc (S.an (S.okL vs 0 L 0 [] (wrapK IntKind.i64 a) 0) (Nat.blt 0 L)) (bc (S.an (Nat.beq (S.lrl vs 0 L (wrapK IntKind.i64 a) 0) (S.lsl (app (sub [] 0 0) (sub vs 0 L)) (0 + L) 0 (0 + L) a)) (S.sam (S.ls (app (sub [] 0 0) (sub vs 0 L)) (0 + L) 0 (0 + L) a) (S.lr vs 0 L (wrapK IntKind.i64 a) 0) (S.lsl (app (sub [] 0 0) (sub vs 0 L)) (0 + L) 0 (0 + L) a))) (true = true ∧ True) False) False) False) False)) False)) := by kernel_rfl
theorem tlS_con (a m : Int) (L cap et : Nat) (vs : List LV) (h0 : 0 ≤ a ∧ a < 65536) (h1 : S.okB vs = true) (h2 : lenL vs = L) (h3 : 0 < L) : HT Tryd.prog 5 [.int .u16 a, .slice 0 0 L (.known cap)] (Heap.of [.flat [.i .u8] et .ro vs, .glob 0 S.tabV, .glob 1 [.int .i64 m]]) (⟨.ret (.bool true), [], []⟩ : K.CRes).e (Heap.of (K.chg [.flat [.i .u8] et .ro vs, .glob 0 S.tabV, .glob 1 [.int .i64 m]] (⟨.ret (.bool true), [], []⟩ : K.CRes).ch ++ (⟨.ret (.bool true), [], []⟩ : K.CRes).new)) := by
  refine K.con_of_run good (A := envK [(18, liE), (19, rlE), (17, smE), (12, awk13E)] (fun g id => none) (fun g i => bc (Nat.beq g 18) (hasN [5] i) (true))) (envK_ok ?_) K.openE_ok (k := 30) (cast (tlS_run a m L cap et vs).symm ?_)
  · intro p hp; simp only [List.mem_cons, List.not_mem_nil, or_false] at hp; rcases hp with rfl | rfl | rfl | rfl <;> first | exact li_ok | exact rl_ok | exact sm_ok | exact awk13_ok
  · refine bcI (fun _ => ⟨rfl, trivial⟩) (fun hL => ?_)
    have hL := ltI_false.1 hL
    have e1 : app (sub [] 0 0) (sub vs 0 L) = vs := by rw [S.sub_all h2]; rfl
    have o1 : S.okR vs 0 L = true := S.okR_iff.2 ⟨h1, by omega, by omega⟩
    have b1 : Nat.ble L (lenL vs) = true := S.bleN.2 (by omega)
    have b2 : Nat.ble L 0 = false := by
      cases h : Nat.ble L 0 with
      | false => rfl
      | true => have := S.bleN.1 h; omega
    have b3 : Nat.ble (L * 1) 1099511627776 = true := S.bleN.2 (by omega)
    have b4 : Nat.blt 0 L = true := S.bleN.2 h3
    have b5 : Nat.beq (lenL vs) L = true := S.beqN.2 h2
    have wa : wrapK .i64 a = a := by rw [wrapK_i64]; omega
    have hG := S.okG_0
    have hlk : S.lok vs 0 L L 0 [] a = true := S.lok_iff.2 ⟨⟨o1, Nat.le_refl L⟩, ⟨rfl, by omega⟩, h0⟩
    have hq : S.okQ vs 0 L 0 = true := S.okQ_iff.2 ⟨o1, by omega, by omega⟩
    have r0 : S.rem L 0 = L := by unfold S.rem; omega
    have hlr : S.okL vs 0 L 0 [] a 0 = true := S.okL_iff.2 ⟨⟨hq, rfl⟩, by rw [r0]; omega, h0⟩
    have hls : S.lr vs 0 L a 0 = S.ls vs L 0 L a := by
      unfold S.lr
      rw [r0]
      have ea : (a + 0) % 65536 = a := by omega
      rw [ea]; rfl
    have hll : S.lrl vs 0 L a 0 = S.lsl vs L 0 L a := by unfold S.lrl S.lsl; rw [hls]
    have hsm : S.sam (S.ls vs L 0 L a) (S.ls vs L 0 L a) (S.lsl vs L 0 L a) = true := S.sam_iff.2 ⟨⟨rfl, rfl⟩, S.eqT_self _ _, S.ls_le vs L 0 L a (by omega)⟩
    have bb : Nat.beq (S.lsl vs L 0 L a) (S.lsl vs L 0 L a) = true := S.beqN.2 rfl
    have at2 : S.an true true = true := rfl
    simp only [Nat.zero_add, e1, b1, b2, b3, b4, b5, wa, hG, hlk, hlr, hls, hll, hsm, bb, at2, bc_true, bc_false, and_self]
theorem tl_FN (x0 : Int) (hl0 : 0 ≤ x0) (hu0 : x0 ≤ 65535) (m : Int) : HT Tryd.prog 5 [.int .u16 x0, .nils] (Heap.of [.glob 0 S.tabV, .glob 1 [.int .i64 m]]) (.ret (.bool true)) (Heap.of [.glob 0 S.tabV, .glob 1 [.int .i64 m]]) :=
  tlN_con x0 m
theorem tl_FE (x0 : Int) (hl0 : 0 ≤ x0) (hu0 : x0 ≤ 65535) (m : Int) : HT Tryd.prog 5 [.int .u16 x0, .emp 0] (Heap.of [.empty, .glob 0 S.tabV, .glob 1 [.int .i64 m]]) (.ret (.bool true)) (Heap.of [.empty, .glob 0 S.tabV, .glob 1 [.int .i64 m]]) :=
  tlE_con x0 m
theorem tl_FS (x0 : Int) (hl0 : 0 ≤ x0) (hu0 : x0 ≤ 65535) (l : List Int) (cap et : Nat) (hz : 0 < l.length) (hq : l.length ≤ cap) (hl : ∀ a, a ∈ l → 0 ≤ a ∧ a ≤ 255) (m : Int) : HT Tryd.prog 5 [.int .u16 x0, .slice 0 0 l.length (.known cap)] (Heap.of [.flat S.byK et .ro (l.flatMap S.byV), .glob 0 S.tabV, .glob 1 [.int .i64 m]]) (.ret (.bool true)) (Heap.of [.flat S.byK et .ro (l.flatMap S.byV), .glob 0 S.tabV, .glob 1 [.int .i64 m]]) :=
  tlS_con x0 m l.length cap et (l.flatMap S.byV) ⟨hl0, by omega⟩ (S.row_ok l hl) (S.row_len l) hz
end Go.Proofs.YtlgfojaalmelhaaDoor.Ev
