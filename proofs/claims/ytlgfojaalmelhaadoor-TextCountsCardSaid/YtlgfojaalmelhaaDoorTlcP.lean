/- Contracts, proved: Tlc. -/
import Derived.Test.YtlgfojaalmelhaaDoorTlcD
import Derived.Test.YtlgfojaalmelhaaDoorTakP
import Derived.Test.YtlgfojaalmelhaaDoorTlsP
namespace Go.Proofs.YtlgfojaalmelhaaDoor.Ev
open Go
set_option linter.unusedVariables false
set_option linter.unusedSimpArgs false
set_option maxRecDepth 100000
set_option maxHeartbeats 1000000
namespace S
theorem okB_intro {vs : List LV} : ∀ (n : Nat), (∀ i, i < n → 0 ≤ by1 vs i ∧ by1 vs i < 256) → (@Nat.rec (fun _ => Bool) true (fun i r => an (byOk (by1 vs i)) r) n) = true
  | 0, _ => rfl
  | n + 1, h => by
    obtain ⟨a, b⟩ := h n (by omega)
    exact an_iff.2 ⟨an_iff.2 ⟨notB_true.2 (ltI_false.2 a), ltI_true.2 b⟩, okB_intro n fun i hi => h i (by omega)⟩
theorem row_len (l : List Int) : lenL (l.flatMap byV) = l.length := by
  rw [K.lenL_eq, flatMap_length byV 1 (fun _ => rfl), Nat.mul_one]
theorem row_at (l : List Int) {i : Nat} (hi : i < l.length) : by1 (l.flatMap byV) i = l[i] := by
  have := atV_rows byV 1 (fun _ => rfl) l hi (c := 0) (by decide)
  rw [Nat.mul_one, Nat.add_zero] at this
  unfold by1; rw [this]; rfl
theorem row_ok (l : List Int) (h : ∀ a, a ∈ l → 0 ≤ a ∧ a ≤ 255) : okB (l.flatMap byV) = true := by
  unfold okB
  rw [row_len]
  refine okB_intro _ fun i hi => ?_
  rw [row_at l hi]
  have := h l[i] (List.getElem_mem hi)
  omega
end S

namespace S
theorem eqB_rf (s : List UInt8) : eqB s s = true := by rw [eqB_eq]; simp
theorem hd_all : ((List.range 256).all fun i => hd46 (nm (Int.ofNat i))) = true := by kernel_rfl
theorem shw_bytes {vs : List LV} {op x y p : Int} {o : Nat} (h : 0 ≤ op ∧ op < 256) : eqB (shw op x y p) (bytes vs o 1) = false := by
  cases hq : eqB (shw op x y p) (bytes vs o 1) with
  | false => rfl
  | true =>
    exfalso
    rw [eqB_eq] at hq
    have e : shw op x y p = bytes vs o 1 := eq_of_beq hq
    obtain ⟨i, rfl⟩ := Int.eq_ofNat_of_zero_le h.1
    have h4 := List.all_eq_true.1 hd_all i (List.mem_range.2 (by omega))
    have h5 : bytes vs o 1 = 46 :: app [98, 121, 116, 101, 32] (app (bst (by1 vs o)) []) := rfl
    unfold shw at e
    rw [h5] at e
    have h4 : hd46 (nm (i : Int)) = true := h4
    cases hn : nm (i : Int) with
    | nil => rw [hn] at h4; cases h4
    | cons z l =>
      rw [hn] at h4 e
      injection e with e1 e2
      subst e1
      cases h4
theorem la_end {vs : List LV} {W i : Nat} {a : Int} (h : W ≤ i) : la vs W a i = [] := by
  unfold la
  rw [show W - i = 0 by omega]; rfl
theorem la_go {vs : List LV} {W i k : Nat} {a : Int} (h : i < W) (hk : stp vs i (W - i) = k) : la vs W a i = .str (lin vs i (W - i) ((a + i) % 65536)) :: la vs W a (i + k) := by
  have e3 : (a + ((i + k : Nat) : Int)) % 65536 = nxt ((a + i) % 65536) k := by unfold nxt; omega
  unfold la
  rw [e3, show W - (i + k) = W - i - k by omega]
  exact ls_go (by omega) hk (.inr rfl)
theorem drop_cons {ss r : List LV} {x : LV} {k : Nat} (h : ss.drop k = x :: r) : K.atV ss k = x ∧ ss.drop (k + 1) = r := by
  have h0 : (ss.drop k)[0]? = some x := by rw [h]; rfl
  rw [List.getElem?_drop, Nat.add_zero] at h0
  constructor
  · unfold K.atV
    rw [List.getD_eq_getElem?_getD, h0]; rfl
  · rw [← List.tail_drop, h]; rfl
end S

namespace S
theorem ls_le (vs : List LV) : ∀ (j o n : Nat) (a : Int), lenL (ls vs j o n a) ≤ j := by
  intro j
  induction j with
  | zero => intro o n a; exact Nat.le_refl 0
  | succ j ih =>
    intro o n a
    rw [ls_succ]
    cases Nat.beq n 0 with
    | true => exact Nat.zero_le _
    | false => rw [bc_false, lenL_cons]; have := ih (o + stp vs o n) (n - stp vs o n) (nxt a (stp vs o n)); omega
end S
theorem lcR_run (m a : Int) (i k et e2 W c M : Nat) (w w2 : Own) (vs ss : List LV) : K.RunL (envL [(15, byE), (20, lnE), (10, shE)]) K.openE 30 6 95 (inner (inner (blkOf 6 0))) lcEB [(0, .int .u16 a), (1, .slice 0 0 W (.known c)), (5, .slice 1 0 M (.rest 0)), (6, .int .i64 i), (7, .int .i64 k)] [.flat [.i .u8] et w vs, .flat [.sr] e2 w2 ss, .glob 0 S.tabV, .glob 1 [.int .i64 m]] Hint.auto ⟨.exit 0, [(1, .slice 0 0 W (.known c)), (6, .int .i64 W)], [], []⟩ =
    (bc (ltI ↑k ↑M) (bc (notB (ltI ↑i ↑W)) False (bc (ltI ↑k ↑M) (bc (Nat.ble (0 + Int.toNat ↑k * 1 + 1) (lenL ss)) (bc (notB (ltI (wrapK IntKind.i64 (↑i + 1)) 0)) (bc (Nat.ble (Int.toNat (wrapK IntKind.i64 (↑i + 1))) W) (bc (Nat.ble (Int.toNat ↑i) (Int.toNat (wrapK IntKind.i64 (↑i + 1)))) (bc (Nat.ble (Int.toNat (wrapK IntKind.i64 (↑i + 1))) c) (bc (S.okR vs (@bc Nat (Nat.beq (Int.toNat ↑i) 0) 0 (bc (Nat.beq c (Int.toNat ↑i)) 0 (0 + Int.toNat ↑i * 1))) (Int.toNat (wrapK IntKind.i64 (↑i + 1)) - Int.toNat ↑i)) (bc (eqB (strOf (K.atV ss (0 + Int.toNat ↑k * 1))) (S.bytes vs (@bc Nat (Nat.beq (Int.toNat ↑i) 0) 0 (bc (Nat.beq c (Int.toNat ↑i)) 0 (0 + Int.toNat ↑i * 1))) (Int.toNat (wrapK IntKind.i64 (↑i + 1)) - Int.toNat ↑i))) (K.LOk Tryd.prog 6 95 (inner (inner (blkOf 6 0))) [0, 1, 5, 6, 7] [LV.int IntKind.u16 a, LV.slice 0 0 W (Cap.known c), LV.slice 1 0 M (Cap.rest 0), LV.int IntKind.i64 (wrapK IntKind.i64 (↑i + 1)), LV.int IntKind.i64 (wrapK IntKind.i64 (↑k + 1))] [LObj.flat [CK.i IntKind.u8] et w vs, LObj.flat [CK.sr] e2 w2 ss, LObj.glob 0 S.tabV, LObj.glob 1 [LV.int IntKind.i64 m]] { x := LX.exit 0, L := [(1, LV.slice 0 0 W (Cap.known c)), (6, LV.int IntKind.i64 ↑W)], ch := [], new := [] } ∧ ((0 : Nat) = (0 : Nat) ∧ (W = W ∧ (Cap.known c = Cap.known c ∧ ((↑W : Int) = ↑W ∧ True))))) (bc (ltI ↑i ↑W) (bc (Nat.ble (0 + Int.toNat ↑i * 1 + 1) (lenL vs)) (bc (bc (S.okG 0 S.tabV 1) (S.isB (intOf (K.atV vs (0 + Int.toNat ↑i * 1)))) false) (bc (ltI (wrapK IntKind.i64 (↑W - ↑i)) (S.len (intOf (K.atV vs (0 + Int.toNat ↑i * 1))))) False (bc (ltI (S.len (intOf (K.atV vs (0 + Int.toNat ↑i * 1)))) 1) False (bc (ltI 1 (S.len (intOf (K.atV vs (0 + Int.toNat ↑i * 1))))) (bc (ltI (wrapK IntKind.i64 (↑i + 1)) 0) False (bc (ltI (wrapK IntKind.i64 (↑i + 1)) ↑W) (bc (Nat.ble (0 + Int.toNat (wrapK IntKind.i64 (↑i + 1)) * 1 + 1) (lenL vs)) (bc (ltI 2 (S.len (intOf (K.atV vs (0 + Int.toNat ↑i * 1))))) (bc (ltI (wrapK IntKind.i64 (↑i + 2)) 0) False (bc (ltI (wrapK IntKind.i64 (↑i + 2)) ↑W) (bc (Nat.ble (0 + Int.toNat (wrapK IntKind.i64 (↑i + 2)) * 1 + 1) (lenL vs)) (bc (ltI ↑k ↑M) (bc (Nat.ble (0 + Int.toNat ↑k * 1 + 1) (lenL ss)) (bc (ltI ↑i ↑W) (bc (Nat.ble (0 + Int.toNat ↑i * 1 + 1) (lenL vs)) (bc (bc (S.okG 0 S.tabV 1) (S.okS (intOf (K.atV vs (0 + Int.toNat ↑i * 1))) (intOf (K.atV vs (0 + Int.toNat (wrapK IntKind.i64 (↑i + 1)) * 1))) (intOf (K.atV vs (0 + Int.toNat (wrapK IntKind.i64 (↑i + 2)) * 1))) (wrapK IntKind.u16 (a + wrapK IntKind.u16 ↑i))) false) (bc (notB (eqB (strOf (K.atV ss (0 + Int.toNat ↑k * 1))) (S.shw (intOf (K.atV vs (0 + Int.toNat ↑i * 1))) (intOf (K.atV vs (0 + Int.toNat (wrapK IntKind.i64 (↑i + 1)) * 1))) (intOf (K.atV vs (0 + Int.toNat (wrapK IntKind.i64 (↑i + 2)) * 1))) (wrapK IntKind.u16 (a + wrapK IntKind.u16 ↑i))))) False (K.LOk Tryd.prog 6 95 (inner (inner (blkOf 6 0))) [0, 1, 5, 6, 7] [LV.int IntKind.u16 a, LV.slice 0 0 W (Cap.known c), LV.slice 1 0 M (Cap.rest 0), LV.int IntKind.i64 (wrapK IntKind.i64 (↑i + S.len (intOf (K.atV vs (0 + Int.toNat ↑i * 1))))), LV.int IntKind.i64 (wrapK IntKind.i64 (↑k + 1))] [LObj.flat [CK.i IntKind.u8] et w vs, LObj.flat [CK.sr] e2 w2 ss, LObj.glob 0 S.tabV, LObj.glob 1 [LV.int IntKind.i64 m]] { x := LX.exit 0, L := [(1, LV.slice 0 0 W (Cap.known c)), (6, LV.int IntKind.i64 ↑W)], ch := [], new := [] } ∧ ((0 : Nat) = (0 : Nat) ∧ (W = W ∧ (Cap.known c = Cap.known c ∧ ((↑W : Int) = ↑W ∧ True)))))) False) False) False) False) False) False) False)) (bc (ltI ↑k ↑M) (bc (Nat.ble (0 + Int.toNat ↑k * 1 + 1) (lenL ss)) (bc (ltI ↑i ↑W) (bc (Nat.ble (0 + Int.toNat ↑i * 1 + 1) (lenL vs)) (bc (bc (S.okG 0 S.tabV 1) (S.okS (intOf (K.atV vs (0 + Int.toNat ↑i * 1))) (intOf (K.atV vs (0 + Int.toNat (wrapK IntKind.i64 (↑i + 1)) * 1))) 0 (wrapK IntKind.u16 (a + wrapK IntKind.u16 ↑i))) false) (bc (notB (eqB (strOf (K.atV ss (0 + Int.toNat ↑k * 1))) (S.shw (intOf (K.atV vs (0 + Int.toNat ↑i * 1))) (intOf (K.atV vs (0 + Int.toNat (wrapK IntKind.i64 (↑i + 1)) * 1))) 0 (wrapK IntKind.u16 (a + wrapK IntKind.u16 ↑i))))) False (K.LOk Tryd.prog 6 95 (inner (inner (blkOf 6 0))) [0, 1, 5, 6, 7] [LV.int IntKind.u16 a, LV.slice 0 0 W (Cap.known c), LV.slice 1 0 M (Cap.rest 0), LV.int IntKind.i64 (wrapK IntKind.i64 (↑i + S.len (intOf (K.atV vs (0 + Int.toNat ↑i * 1))))), LV.int IntKind.i64 (wrapK IntKind.i64 (↑k + 1))] [LObj.flat [CK.i IntKind.u8] et w vs, LObj.flat [CK.sr] e2 w2 ss, LObj.glob 0 S.tabV, LObj.glob 1 [LV.int IntKind.i64 m]] { x := LX.exit 0, L := [(1, LV.slice 0 0 W (Cap.known c)), (6, LV.int IntKind.i64 ↑W)], ch := [], new := [] } ∧ ((0 : Nat) = (0 : Nat) ∧ (W = W ∧ (Cap.known c = Cap.known c ∧ ((↑W : Int) = ↑W ∧ True)))))) False) False) False) False) False)) False) False)) (bc (ltI 2 (S.len (intOf (K.atV vs (0 + Int.toNat ↑i * 1))))) (bc (ltI (wrapK IntKind.i64 (↑i + 2)) 0) False (bc (ltI (wrapK IntKind.i64 (↑i + 2)) ↑W) (bc (Nat.ble (0 + Int.toNat (wrapK IntKind.i64 (↑i + 2)) * 1 + 1) (lenL vs)) (bc (ltI ↑k ↑M) (bc (Nat.ble (0 + Int.toNat ↑k * 1 + 1) (lenL ss)) (bc (ltI ↑i ↑W) (bc (Nat.ble (0 + Int.toNat ↑i * 1 + 1) (lenL vs)) (bc (bc (S.okG 0 S.tabV 1) (S.okS (intOf (K.atV vs (0 + Int.toNat ↑i * 1))) 0 (intOf (K.atV vs (0 + Int.toNat (wrapK IntKind.i64 (↑i + 2)) * 1))) (wrapK IntKind.u16 (a + wrapK IntKind.u16 ↑i))) false) (bc (notB (eqB (strOf (K.atV ss (0 + Int.toNat ↑k * 1))) (S.shw (intOf (K.atV vs (0 + Int.toNat ↑i * 1))) 0 (intOf (K.atV vs (0 + Int.toNat (wrapK IntKind.i64 (↑i + 2)) * 1))) (wrapK IntKind.u16 (a + wrapK IntKind.u16 ↑i))))) False (K.LOk Tryd.prog 6 95 (inner (inner (blkOf 6 0))) [0, 1, 5, 6, 7] [LV.int IntKind.u16 a, LV.slice 0 0 W (Cap.known c), LV.slice 1 0 M (Cap.rest 0), LV.int IntKind.i64 (wrapK IntKind.i64 (↑i + S.len (intOf (K.atV vs (0 + Int.toNat ↑i * 1))))), LV.int IntKind.i64 (wrapK IntKind.i64 (↑k + 1))] [LObj.flat [CK.i IntKind.u8] et w vs, LObj.flat [CK.sr] e2 w2 ss, LObj.glob 0 S.tabV, LObj.glob 1 [LV.int IntKind.i64 m]] { x := LX.exit 0, L := [(1, LV.slice 0 0 W (Cap.known c)), (6, LV.int IntKind.i64 ↑W)], ch := [], new := [] } ∧ ((0 : Nat) = (0 : Nat) ∧ (W = W ∧ (Cap.known c = Cap.known c ∧ ((↑W : Int) = ↑W ∧ True)))))) False) False) False) False) False) False) False)) (bc (ltI ↑k ↑M) (bc (Nat.ble (0 + Int.toNat ↑k * 1 + 1) (lenL ss)) (bc (ltI ↑i ↑W) (bc (Nat.ble (0 + Int.toNat ↑i * 1 + 1) (lenL vs)) (bc (bc (S.okG 0 S.tabV 1) (S.okS (intOf (K.atV vs (0 + Int.toNat ↑i * 1))) 0 0 (wrapK IntKind.u16 (a + wrapK IntKind.u16 ↑i))) false) (bc (notB (eqB (strOf (K.atV ss (0 + Int.toNat ↑k * 1))) (S.shw (intOf (K.atV vs (0 + Int.toNat ↑i * 1))) 0 0 (wrapK IntKind.u16 (a + wrapK IntKind.u16 ↑i))))) False (K.LOk Tryd.prog 6 95 (inner (inner (blkOf 6 0))) [0, 1, 5, 6, 7] [LV.int IntKind.u16 a, LV.slice 0 0 W (Cap.known c), LV.slice 1 0 M (Cap.rest 0), LV.int IntKind.i64 (wrapK IntKind.i64 (↑i + S.len (intOf (K.atV vs (0 + Int.toNat ↑i * 1))))), LV.int IntKind.i64 (wrapK IntKind.i64 (↑k + 1))] [LObj.flat [CK.i IntKind.u8] et w vs, LObj.flat [CK.sr] e2 w2 ss, LObj.glob 0 S.tabV, LObj.glob 1 [LV.int IntKind.i64 m]] { x := LX.exit 0, L := [(1, LV.slice 0 0 W (Cap.known c)), (6, LV.int IntKind.i64 ↑W)], ch := [], new := [] } ∧ ((0 : Nat) = (0 : Nat) ∧ (W = W ∧ (Cap.known c = Cap.known c ∧ ((↑W : Int) = ↑W ∧ True)))))) False) False) False) False) False))))) False) False) False)) False) False) False) False) False) False) False)) ((0 : Nat) = (0 : Nat) ∧ (W = W ∧ (Cap.known c = Cap.known c ∧ ((↑W : Int) = ↑i ∧ True))))) := by kernel_rfl
theorem lcR_con (m a : Int) (i k et e2 W c M : Nat) (w w2 : Own) (vs ss : List LV) (hR : S.okR vs 0 W = true) (hc : W ≤ c) (hs : lenL ss = M) (hM : M ≤ 1000) (hW : 0 ≤ a ∧ a < 65536) (hi : i ≤ W) (hk : k ≤ M) (hd : ss.drop k = S.la vs W a i) (IH : ∀ i2 : Nat, i < i2 → i2 ≤ W → k < M → ss.drop (k + 1) = S.la vs W a i2 → lc_T m a i2 (k + 1) et e2 W c M w w2 vs ss) : GT Tryd.prog (fun k => .code (inner (inner (blkOf 6 0))) :: .inLoop (inner (inner (blkOf 6 0))) :: k) (Fr.ofL 6 95 [(0, .int .u16 a), (1, .slice 0 0 W (.known c)), (5, .slice 1 0 M (.rest 0)), (6, .int .i64 i), (7, .int .i64 k)] [] none) (Heap.of [.flat [.i .u8] et w vs, .flat [.sr] e2 w2 ss, .glob 0 S.tabV, .glob 1 [.int .i64 m]]) (⟨.exit 0, [(1, .slice 0 0 W (.known c)), (6, .int .i64 W)], [], []⟩ : K.BRes).x (Fr.ofL 6 95 (⟨.exit 0, [(1, .slice 0 0 W (.known c)), (6, .int .i64 W)], [], []⟩ : K.BRes).L [] none) (Heap.of (K.chg [.flat [.i .u8] et w vs, .flat [.sr] e2 w2 ss, .glob 0 S.tabV, .glob 1 [.int .i64 m]] (⟨.exit 0, [(1, .slice 0 0 W (.known c)), (6, .int .i64 W)], [], []⟩ : K.BRes).ch ++ (⟨.exit 0, [(1, .slice 0 0 W (.known c)), (6, .int .i64 W)], [], []⟩ : K.BRes).new)) := by
  refine K.loop_of_run good (A := envL [(15, byE), (20, lnE), (10, shE)]) (envL_ok ?_) K.openE_ok (k := 30) (ent := lcEB) (cast (lcR_run m a i k et e2 W c M w w2 vs ss).symm ?_)
  · intro p hp; simp only [List.mem_cons, List.not_mem_nil, or_false] at hp; rcases hp with rfl | rfl | rfl <;> first | exact by_ok | exact ln_ok | exact sh_ok
  · obtain ⟨hb, hl, hq⟩ := S.okR_iff.1 hR
    by_cases hkM : k < M
    rotate_left
    · have e : ltI (k : Int) M = false := ltI_false.2 (by omega)
      have hz : ss.drop k = [] := List.drop_eq_nil_of_le (by rw [← K.lenL_eq]; omega)
      have hiW : i = W := by
        by_cases h : i < W
        · rw [hz, S.la_go h rfl] at hd; cases hd
        · omega
      subst hiW
      simp only [e, bc_false, and_self]
    have hiW : i < W := by
      by_cases h : i < W
      · exact h
      · exfalso
        rw [S.la_end (by omega)] at hd
        have := congrArg List.length hd
        rw [List.length_drop, ← K.lenL_eq, hs] at this
        simp at this
        omega
    have T : ∀ x : Nat, Int.toNat (x : Int) = x := Int.toNat_natCast
    have so : ∀ x : List UInt8, strOf (.str x) = x := fun _ => rfl
    have v1 : wrapK .i64 ((i : Int) + 1) = ((i + 1 : Nat) : Int) := by rw [wrapK_i64]; omega
    have v2 : wrapK .i64 ((i : Int) + 2) = ((i + 2 : Nat) : Int) := by rw [wrapK_i64]; omega
    have v3 : wrapK .i64 ((i : Int) + 3) = ((i + 3 : Nat) : Int) := by rw [wrapK_i64]; omega
    have wk : wrapK .i64 ((k : Int) + 1) = ((k + 1 : Nat) : Int) := by rw [wrapK_i64]; omega
    have ww : wrapK .i64 ((W : Int) - i) = ((W - i : Nat) : Int) := by rw [wrapK_i64]; omega
    have wa : wrapK .u16 (a + wrapK .u16 (i : Int)) = (a + i) % 65536 := by rw [wrapK_u16, wrapK_u16]; omega
    have e1 : ltI (k : Int) M = true := ltI_true.2 (by omega)
    have e2' : ltI (i : Int) W = true := ltI_true.2 (by omega)
    have b1 : Nat.ble (k + 1) (lenL ss) = true := S.bleN.2 (by omega)
    have n1 : ltI ((i + 1 : Nat) : Int) 0 = false := ltI_false.2 (by omega)
    have n2 : ltI ((i + 2 : Nat) : Int) 0 = false := ltI_false.2 (by omega)
    have b2 : Nat.ble (i + 1) W = true := S.bleN.2 (by omega)
    have b3 : Nat.ble i (i + 1) = true := S.bleN.2 (by omega)
    have b4 : Nat.ble (i + 1) c = true := S.bleN.2 (by omega)
    have b5 : Nat.ble (i + 1) (lenL vs) = true := S.bleN.2 (by omega)
    have ho : (bc (Nat.beq i 0) 0 (bc (Nat.beq c i) 0 i) : Nat) = i := by
      cases h : Nat.beq i 0 with
      | true => exact (S.beqN.1 h).symm
      | false =>
        cases h2 : Nat.beq c i with
        | true => have := S.beqN.1 h2; omega
        | false => rfl
    have h1 : i + 1 - i = 1 := by omega
    have r1 : S.okR vs i 1 = true := S.okR_iff.2 ⟨hb, by omega, by decide⟩
    have g0 := S.okB_at hb (i := i) (by omega)
    have iB : S.isB (intOf (K.atV vs i)) = true := S.isB_iff.2 g0
    have hG := S.okG_0
    have hgo := S.la_go (vs := vs) (a := a) hiW rfl
    obtain ⟨hat, hdr⟩ := S.drop_cons (hd.trans hgo)
    have ih := IH (i + S.stp vs i (W - i)) (by have := S.stp_pos vs i (W - i); omega) (by have := S.stp_le (vs := vs) (o := i) (n := W - i) (by omega); omega) hkM hdr
    cases hC : S.isC vs i (W - i) with
    | false =>
      rw [S.stp_f hC] at ih
      rw [S.lin_f hC] at hat
      simp only [T, so, v1, v2, v3, wk, ww, wa, e1, e2', b1, n1, n2, b2, b3, b4, b5, ho, h1, r1, iB, hG, hat, Nat.zero_add, Nat.mul_one, notB_t, notB_f, bc_true, bc_false, S.eqB_rf]
      exact ⟨ih, by simp⟩
    | true =>
      have hle := S.isC_le hC
      have sB : ∀ x y, eqB (S.shw (intOf (K.atV vs i)) x y ((a + i) % 65536)) (S.bytes vs i 1) = false := fun x y => S.shw_bytes g0
      rcases S.len_cases (S.by1 vs i) with hk1 | hk1 | hk1
      · rw [hk1] at hle
        rw [S.stp_t hC hk1] at ih
        rw [S.lin_1 hC hk1] at hat
        have hk2 : S.len (intOf (K.atV vs i)) = 1 := hk1
        have q1 : ltI ((W - i : Nat) : Int) 1 = false := ltI_false.2 hle
        have q2 : ltI 1 1 = false := rfl
        have q3 : ltI 1 1 = false := rfl
        have q4 : ltI 2 1 = false := rfl
        have oS : S.okS (intOf (K.atV vs i)) 0 0 ((a + i) % 65536) = true := S.okS_iff.2 ⟨g0, by decide, by decide, by omega⟩
        have hat : K.atV ss k = .str (S.shw (intOf (K.atV vs i)) 0 0 ((a + i) % 65536)) := hat
        have ih : lc_T m a (i + 1) (k + 1) et e2 W c M w w2 vs ss := ih
        simp only [T, so, v1, v2, v3, wk, ww, wa, e1, e2', b1, n1, n2, b2, b3, b4, b5, ho, h1, r1, iB, hG, hat, Nat.zero_add, Nat.mul_one, notB_t, notB_f, bc_true, bc_false, hk2, q1, q2, q3, q4, oS, sB, S.eqB_rf]
        exact ⟨ih, by simp⟩
      · rw [hk1] at hle
        rw [S.stp_t hC hk1] at ih
        rw [S.lin_2 hC hk1] at hat
        have hk2 : S.len (intOf (K.atV vs i)) = 2 := hk1
        have q1 : ltI ((W - i : Nat) : Int) 2 = false := ltI_false.2 hle
        have q2 : ltI 2 1 = false := rfl
        have q3 : ltI 1 2 = true := rfl
        have q4 : ltI 2 2 = false := rfl
        have g1 := S.okB_at hb (i := i + 1) (by omega)
        have m1 : ltI ((i + 1 : Nat) : Int) W = true := ltI_true.2 (by omega)
        have d1 : Nat.ble (i + 1 + 1) (lenL vs) = true := S.bleN.2 (by omega)
        have oS : S.okS (intOf (K.atV vs i)) (intOf (K.atV vs (i + 1))) 0 ((a + i) % 65536) = true := S.okS_iff.2 ⟨g0, g1, by decide, by omega⟩
        have hat : K.atV ss k = .str (S.shw (intOf (K.atV vs i)) (intOf (K.atV vs (i + 1))) 0 ((a + i) % 65536)) := hat
        have ih : lc_T m a (i + 2) (k + 1) et e2 W c M w w2 vs ss := ih
        simp only [T, so, v1, v2, v3, wk, ww, wa, e1, e2', b1, n1, n2, b2, b3, b4, b5, ho, h1, r1, iB, hG, hat, Nat.zero_add, Nat.mul_one, notB_t, notB_f, bc_true, bc_false, hk2, q1, q2, q3, q4, oS, m1, d1, sB, S.eqB_rf]
        exact ⟨ih, by simp⟩
      · rw [hk1] at hle
        rw [S.stp_t hC hk1] at ih
        rw [S.lin_3 hC hk1] at hat
        have hk2 : S.len (intOf (K.atV vs i)) = 3 := hk1
        have q1 : ltI ((W - i : Nat) : Int) 3 = false := ltI_false.2 hle
        have q2 : ltI 3 1 = false := rfl
        have q3 : ltI 1 3 = true := rfl
        have q4 : ltI 2 3 = true := rfl
        have g1 := S.okB_at hb (i := i + 1) (by omega)
        have m1 : ltI ((i + 1 : Nat) : Int) W = true := ltI_true.2 (by omega)
        have d1 : Nat.ble (i + 1 + 1) (lenL vs) = true := S.bleN.2 (by omega)
        have g2 := S.okB_at hb (i := i + 2) (by omega)
        have m2 : ltI ((i + 2 : Nat) : Int) W = true := ltI_true.2 (by omega)
        have d2 : Nat.ble (i + 2 + 1) (lenL vs) = true := S.bleN.2 (by omega)
        have oS : S.okS (intOf (K.atV vs i)) (intOf (K.atV vs (i + 1))) (intOf (K.atV vs (i + 2))) ((a + i) % 65536) = true := S.okS_iff.2 ⟨g0, g1, g2, by omega⟩
        have hat : K.atV ss k = .str (S.shw (intOf (K.atV vs i)) (intOf (K.atV vs (i + 1))) (intOf (K.atV vs (i + 2))) ((a + i) % 65536)) := hat
        have ih : lc_T m a (i + 3) (k + 1) et e2 W c M w w2 vs ss := ih
        simp only [T, so, v1, v2, v3, wk, ww, wa, e1, e2', b1, n1, n2, b2, b3, b4, b5, ho, h1, r1, iB, hG, hat, Nat.zero_add, Nat.mul_one, notB_t, notB_f, bc_true, bc_false, hk2, q1, q2, q3, q4, oS, m1, d1, m2, d2, sB, S.eqB_rf]
        exact ⟨ih, by simp⟩
theorem tcN_run (a m : Int) : K.bodyF (envK [(18, liE), (12, awk13E)] (fun g id => none) (fun g i => bc (Nat.beq g 18) (hasN [5] i) (true))) (K.runF (envK [(18, liE), (12, awk13E)] (fun g id => none) (fun g i => bc (Nat.beq g 18) (hasN [5] i) (true))) 30) 6 [.int .u16 a, .nils] (Heap.of [.glob 0 S.tabV, .glob 1 [.int .i64 m]]) Hint.auto (K.endC K.openE 2 ⟨.ret (.bool true), [], []⟩) =
    ((true = true ∧ True)) := by kernel_rfl
theorem tcN_con (a m : Int)  : HT Tryd.prog 6 [.int .u16 a, .nils] (Heap.of [.glob 0 S.tabV, .glob 1 [.int .i64 m]]) (⟨.ret (.bool true), [], []⟩ : K.CRes).e (Heap.of (K.chg [.glob 0 S.tabV, .glob 1 [.int .i64 m]] (⟨.ret (.bool true), [], []⟩ : K.CRes).ch ++ (⟨.ret (.bool true), [], []⟩ : K.CRes).new)) := by
  refine K.con_of_run good (A := envK [(18, liE), (12, awk13E)] (fun g id => none) (fun g i => bc (Nat.beq g 18) (hasN [5] i) (true))) (envK_ok ?_) K.openE_ok (k := 30) (cast (tcN_run a m).symm ?_)
  · intro p hp; simp only [List.mem_cons, List.not_mem_nil, or_false] at hp; rcases hp with rfl | rfl <;> first | exact li_ok | exact awk13_ok
  · exact ⟨rfl, trivial⟩
theorem tcE_run (a m : Int) : K.bodyF (envK [(18, liE), (12, awk13E)] (fun g id => none) (fun g i => bc (Nat.beq g 18) (hasN [5] i) (true))) (K.runF (envK [(18, liE), (12, awk13E)] (fun g id => none) (fun g i => bc (Nat.beq g 18) (hasN [5] i) (true))) 30) 6 [.int .u16 a, .emp 0] (Heap.of [.empty, .glob 0 S.tabV, .glob 1 [.int .i64 m]]) Hint.auto (K.endC K.openE 3 ⟨.ret (.bool true), [], []⟩) =
    ((true = true ∧ True)) := by kernel_rfl
theorem tcE_con (a m : Int)  : HT Tryd.prog 6 [.int .u16 a, .emp 0] (Heap.of [.empty, .glob 0 S.tabV, .glob 1 [.int .i64 m]]) (⟨.ret (.bool true), [], []⟩ : K.CRes).e (Heap.of (K.chg [.empty, .glob 0 S.tabV, .glob 1 [.int .i64 m]] (⟨.ret (.bool true), [], []⟩ : K.CRes).ch ++ (⟨.ret (.bool true), [], []⟩ : K.CRes).new)) := by
  refine K.con_of_run good (A := envK [(18, liE), (12, awk13E)] (fun g id => none) (fun g i => bc (Nat.beq g 18) (hasN [5] i) (true))) (envK_ok ?_) K.openE_ok (k := 30) (cast (tcE_run a m).symm ?_)
  · intro p hp; simp only [List.mem_cons, List.not_mem_nil, or_false] at hp; rcases hp with rfl | rfl <;> first | exact li_ok | exact awk13_ok
  · exact ⟨rfl, trivial⟩
theorem lc_lok (m a : Int) (et e2 W c M : Nat) (w w2 : Own) (vs ss : List LV) (hR : S.okR vs 0 W = true) (hc : W ≤ c) (hs : lenL ss = M) (hM : M ≤ 1000) (hW : 0 ≤ a ∧ a < 65536) : ∀ (j i k : Nat), i ≤ W → k ≤ M → ss.drop k = S.la vs W a i → M - k = j → lc_T m a i k et e2 W c M w w2 vs ss := by
  intro j
  induction j with
  | zero =>
    intro i k hi hk hd hm
    exact lcR_con m a i k et e2 W c M w w2 vs ss hR hc hs hM hW hi hk hd fun i2 _ _ h _ => by omega
  | succ j ih =>
    intro i k hi hk hd hm
    exact lcR_con m a i k et e2 W c M w w2 vs ss hR hc hs hM hW hi hk hd fun i2 _ h2 h h3 => ih i2 (k + 1) h2 (by omega) h3 (by omega)
theorem lc_blk (m a : Int) (et e2 W c M : Nat) (w w2 : Own) (vs ss : List LV) (hR : S.okR vs 0 W = true) (hc : W ≤ c) (hs : lenL ss = M) (hM : M ≤ 1000) (hW : 0 ≤ a ∧ a < 65536) (hd : ss = S.la vs W a 0) : K.BOk Tryd.prog 6 95 (blkOf 6 0) [0, 1, 5, 6, 7] [.int .u16 a, .slice 0 0 W (.known c), .slice 1 0 M (.rest 0), .int .i64 0, .int .i64 0] [.flat [.i .u8] et w vs, .flat [.sr] e2 w2 ss, .glob 0 S.tabV, .glob 1 [.int .i64 m]] ⟨.normal, [(1, .slice 0 0 W (.known c)), (6, .int .i64 W)], [], []⟩ := by
  have hb : blkOf 6 0 = .block 0 (.loop (inner (inner (blkOf 6 0)))) := by kernel_rfl
  unfold K.BOk
  rw [hb]
  exact K.CT.block (K.GT.loop (lc_lok m a et e2 W c M w w2 vs ss hR hc hs hM hW _ 0 0 (Nat.zero_le _) (Nat.zero_le _) hd rfl))
theorem tcS_run (a m : Int) (L cap et : Nat) (vs : List LV) : K.bodyF (envK [(18, liE), (12, awk13E)] (fun g id => bc (Nat.beq g 6) (bc (Nat.beq id 0) (some lcBB) (none)) (none)) (fun g i => bc (Nat.beq g 18) (hasN [5] i) (true))) (K.runF (envK [(18, liE), (12, awk13E)] (fun g id => bc (Nat.beq g 6) (bc (Nat.beq id 0) (some lcBB) (none)) (none)) (fun g i => bc (Nat.beq g 18) (hasN [5] i) (true))) 30) 6 [.int .u16 a, .slice 0 0 L (.known cap)] (Heap.of [.flat [.i .u8] et .ro vs, .glob 0 S.tabV, .glob 1 [.int .i64 m]]) Hint.auto (K.endC K.openE 3 ⟨.ret (.bool true), [], []⟩) =
    (bc (ltI 400 ↑L) (true = true ∧ True) (bc (S.an (S.okG 0 S.tabV 1) (S.an (S.lok vs 0 L cap 0 [] a) (Nat.blt 0 L))) (K.BOk Tryd.prog 6 95 (blkOf 6 0) [0, 1, 5, 6, 7] [LV.int IntKind.u16 a, LV.slice 0 0 L (Cap.known cap), LV.slice 1 0 (S.lsl vs L 0 L a) (Cap.rest 0), LV.int IntKind.i64 0, LV.int IntKind.i64 0] [LObj.flat [CK.i IntKind.u8] et Own.ro vs, LObj.flat [CK.sr] 9 (Own.grow 1) (S.ls vs L 0 L a), LObj.glob 0 S.tabV, LObj.glob 1 [LV.int IntKind.i64 m]] { x := LX.normal, L := [(1, LV.slice 0 0 L (Cap.known cap)), (6, LV.int IntKind.i64 ↑L)], ch := [], new := [] } ∧ bc (eqI ↑L ↑L) (true = true ∧ True) (true = false ∧ True)) False)) := by kernel_rfl
theorem tcS_con (a m : Int) (L cap et : Nat) (vs : List LV) (h0 : 0 ≤ a ∧ a < 65536) (h1 : S.okB vs = true) (h2 : lenL vs = L) (h3 : 0 < L) (h4 : L ≤ cap) : HT Tryd.prog 6 [.int .u16 a, .slice 0 0 L (.known cap)] (Heap.of [.flat [.i .u8] et .ro vs, .glob 0 S.tabV, .glob 1 [.int .i64 m]]) (⟨.ret (.bool true), [], []⟩ : K.CRes).e (Heap.of (K.chg [.flat [.i .u8] et .ro vs, .glob 0 S.tabV, .glob 1 [.int .i64 m]] (⟨.ret (.bool true), [], []⟩ : K.CRes).ch ++ (⟨.ret (.bool true), [], []⟩ : K.CRes).new)) := by
  refine K.con_of_run good (A := envK [(18, liE), (12, awk13E)] (fun g id => bc (Nat.beq g 6) (bc (Nat.beq id 0) (some lcBB) (none)) (none)) (fun g i => bc (Nat.beq g 18) (hasN [5] i) (true))) (envK_ok ?_) K.openE_ok (k := 30) (cast (tcS_run a m L cap et vs).symm ?_)
  · intro p hp; simp only [List.mem_cons, List.not_mem_nil, or_false] at hp; rcases hp with rfl | rfl <;> first | exact li_ok | exact awk13_ok
  · refine bcI (fun _ => ⟨rfl, trivial⟩) (fun hL => ?_)
    have hL := ltI_false.1 hL
    have o1 : S.okR vs 0 L = true := S.okR_iff.2 ⟨h1, by omega, by omega⟩
    have b4 : Nat.blt 0 L = true := S.bleN.2 h3
    have hG := S.okG_0
    have hlk : S.lok vs 0 L cap 0 [] a = true := S.lok_iff.2 ⟨⟨o1, h4⟩, ⟨rfl, by omega⟩, h0⟩
    have at2 : S.an true true = true := rfl
    have le : lenL (S.ls vs L 0 L a) ≤ 1000 := Nat.le_trans (S.ls_le vs L 0 L a) (by omega)
    have hd : S.ls vs L 0 L a = S.la vs L a 0 := by
      unfold S.la
      rw [Nat.sub_zero, show (a + ((0 : Nat) : Int)) % 65536 = a by omega]
    simp only [hG, hlk, b4, at2, S.eqI_self, bc_true]
    exact ⟨lc_blk m a et _ L cap _ .ro (.grow 1) vs _ o1 h4 rfl le h0 hd, by simp⟩
theorem tc_FN (x0 : Int) (hl0 : 0 ≤ x0) (hu0 : x0 ≤ 65535) (m : Int) : HT Tryd.prog 6 [.int .u16 x0, .nils] (Heap.of [.glob 0 S.tabV, .glob 1 [.int .i64 m]]) (.ret (.bool true)) (Heap.of [.glob 0 S.tabV, .glob 1 [.int .i64 m]]) :=
  tcN_con x0 m
theorem tc_FE (x0 : Int) (hl0 : 0 ≤ x0) (hu0 : x0 ≤ 65535) (m : Int) : HT Tryd.prog 6 [.int .u16 x0, .emp 0] (Heap.of [.empty, .glob 0 S.tabV, .glob 1 [.int .i64 m]]) (.ret (.bool true)) (Heap.of [.empty, .glob 0 S.tabV, .glob 1 [.int .i64 m]]) :=
  tcE_con x0 m
theorem tc_FS (x0 : Int) (hl0 : 0 ≤ x0) (hu0 : x0 ≤ 65535) (l : List Int) (cap et : Nat) (hz : 0 < l.length) (hq : l.length ≤ cap) (hl : ∀ a, a ∈ l → 0 ≤ a ∧ a ≤ 255) (m : Int) : HT Tryd.prog 6 [.int .u16 x0, .slice 0 0 l.length (.known cap)] (Heap.of [.flat S.byK et .ro (l.flatMap S.byV), .glob 0 S.tabV, .glob 1 [.int .i64 m]]) (.ret (.bool true)) (Heap.of [.flat S.byK et .ro (l.flatMap S.byV), .glob 0 S.tabV, .glob 1 [.int .i64 m]]) :=
  tcS_con x0 m l.length cap et (l.flatMap S.byV) ⟨hl0, by omega⟩ (S.row_ok l hl) (S.row_len l) hz hq
end Go.Proofs.YtlgfojaalmelhaaDoor.Ev
