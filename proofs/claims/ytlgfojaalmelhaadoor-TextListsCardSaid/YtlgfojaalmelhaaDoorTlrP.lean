/- Contracts, proved: Tlr. -/
import Derived.Test.YtlgfojaalmelhaaDoorTlrD
import Derived.Test.YtlgfojaalmelhaaDoorTrfP
import Derived.Test.YtlgfojaalmelhaaDoorTlsP
namespace Go.Proofs.YtlgfojaalmelhaaDoor.Ev
open Go
set_option linter.unusedVariables false
set_option linter.unusedSimpArgs false
set_option maxRecDepth 100000
set_option maxHeartbeats 1000000
namespace S
theorem okL_iff {vs ss : List LV} {o W M : Nat} {a i : Int} : okL vs o W M ss a i = true ↔ (okQ vs o W i = true ∧ lenL ss = M) ∧ M + rem W i ≤ 1000 ∧ 0 ≤ a ∧ a < 65536 := by
  unfold okL; rw [an_iff, an_iff, an_iff, beqN, bleN, isW_iff]
theorem rem_at {W p : Nat} : rem W (p : Int) = W - p := by unfold rem; omega
theorem lr_at {vs : List LV} {o W p : Nat} {a : Int} : lr vs o W a (p : Int) = ls vs (W - p) (o + p) (W - p) ((a + p) % 65536) := by unfold lr; rw [rem_at, Int.toNat_natCast]
theorem lr_go {vs : List LV} {o W p k : Nat} {a : Int} (h : p < W) (hk : stp vs (o + p) (W - p) = k) : lr vs o W a (p : Int) = .str (lin vs (o + p) (W - p) ((a + p) % 65536)) :: lr vs o W a ((p + k : Nat) : Int) := by
  have e : W - (p + k) = W - p - k := by omega
  have e2 : o + (p + k) = o + p + k := by omega
  have e3 : (a + ((p + k : Nat) : Int)) % 65536 = nxt ((a + p) % 65536) k := by unfold nxt; omega
  rw [lr_at, lr_at, e, e2, e3]
  exact ls_go (by omega) hk (.inr rfl)
theorem lr_tail {vs ss2 : List LV} {o W M2 k p : Nat} {a : Int} {X : List UInt8} (hk : 1 ≤ k) (hR : okR vs o W = true) (hp : p + k ≤ W) (hM : M2 + W ≤ 1001 + p) (hW : 0 ≤ a ∧ a < 65536) (hs : stp vs (o + p) (W - p) = k) (hX : lin vs (o + p) (W - p) ((a + (p : Int)) % 65536) = X) (hs2 : lenL ss2 = M2) :
    lr vs o W a (p : Int) = .str X :: lr vs o W a ((p + k : Nat) : Int) ∧ okL vs o W M2 ss2 a ((p + k : Nat) : Int) = true := by
  refine ⟨?_, okL_iff.2 ⟨⟨okQ_iff.2 ⟨hR, by omega, by omega⟩, hs2⟩, by rw [rem_at]; omega, hW⟩⟩
  rw [← hX]
  exact lr_go (by omega) hs
theorem bytes_1 (vs : List LV) (o : Nat) : app byL (hex (by1 vs o) 2) = bytes vs o 1 := by
  show _ = app byT (app (bst (by1 vs o)) [])
  rw [K.app_eq (bst (by1 vs o)), List.append_nil]; rfl
end S

namespace S
theorem eqT_at {ss tt : List LV} : ∀ {n i : Nat}, eqT ss tt n = true → i < n → eqB (strOf (K.atV ss i)) (strOf (K.atV tt i)) = true
  | n + 1, i, h, hi => by
    obtain ⟨h1, h2⟩ := an_iff.1 (show an (eqB (strOf (K.atV ss n)) (strOf (K.atV tt n))) (eqT ss tt n) = true from h)
    by_cases e : i = n
    · subst e; exact h1
    · exact eqT_at h2 (by omega)
theorem eqB_self (s : List UInt8) : eqB s s = true := by rw [eqB_eq]; exact beq_self_eq_true s
theorem eqT_self (ss : List LV) : ∀ n, eqT ss ss n = true
  | 0 => rfl
  | n + 1 => an_iff.2 ⟨eqB_self _, eqT_self ss n⟩
theorem sam_iff {ss tt : List LV} {M : Nat} : sam ss tt M = true ↔ (lenL ss = M ∧ lenL tt = M) ∧ eqT ss tt M = true ∧ M ≤ 1000 := by unfold sam; rw [an_iff, an_iff, an_iff, beqN, beqN, bleN]
end S
theorem lrB_run (a i : Int) (et o W M : Nat) (cp : Cap) (w : Own) (vs ss : List LV) : K.RunL (envL [(25, corE), (28, rlnE), (29, rfE), (11, shrE), (14, hxrE)]) K.openE 30 19 79 (inner (inner (blkOf 19 0))) lrEB [(0, .int .i64 a), (1, .slice 0 o W cp), (5, .slice 1 0 M (.rest 0)), (6, .int .i64 i)] [.flat [.i .u8] et w vs, .flat [.sr] 9 (.grow 1) ss] Hint.auto ⟨.exit 0, [(5, .slice 2 0 (M + S.lrl vs o W a i) (.rest 0))], [(1, .dead)], [.flat [.sr] 9 (.grow 1) (app ss (S.lr vs o W a i))]⟩ =
    (bc (ltI i ↑W) (bc (ltI i 0) False (bc (ltI i ↑W) (bc (Nat.ble (o + Int.toNat i * 1 + 1) (lenL vs)) (bc (S.isB (S.q0 vs o i)) (bc (S.isB (S.q0 vs o i)) (bc (notB (eqI (S.rfnd (S.nm (S.q0 vs o i)) (S.md (S.q0 vs o i))) (S.q0 vs o i))) (bc (S.okV (S.q0 vs o i)) (bc (Nat.ble (0 + M) (lenL ss)) (bc (Nat.ble ((M + 1) * 16) 1099511627776) (bc (S.okL vs o W (M + 1) (app (sub ss 0 M) (sub (setMany [LV.str []] 0 [LV.str (app S.byL (S.hex (S.q0 vs o i) 2))]) 0 1)) a (wrapK IntKind.i64 (i + 1))) (lr_T a (wrapK IntKind.i64 (i + 1)) et o W (M + 1) cp w vs (app (sub ss 0 M) (sub (setMany [LV.str []] 0 [LV.str (app S.byL (S.hex (S.q0 vs o i) 2))]) 0 1)) ∧ ((0 : Nat) = (0 : Nat) ∧ (M + S.lrl vs o W a i = M + 1 + S.lrl vs o W a (wrapK IntKind.i64 (i + 1)) ∧ (Cap.rest (0 : Nat) = Cap.rest 0 ∧ (app ss (S.lr vs o W a i) = app (app (sub ss 0 M) (sub (setMany [LV.str []] 0 [LV.str (app S.byL (S.hex (S.q0 vs o i) 2))]) 0 1)) (S.lr vs o W a (wrapK IntKind.i64 (i + 1))) ∧ True))))) False) False) False) False) (bc (ltI (wrapK IntKind.i64 (↑W - i)) (S.len (S.q0 vs o i))) (bc (S.okV (S.q0 vs o i)) (bc (Nat.ble (0 + M) (lenL ss)) (bc (Nat.ble ((M + 1) * 16) 1099511627776) (bc (S.okL vs o W (M + 1) (app (sub ss 0 M) (sub (setMany [LV.str []] 0 [LV.str (app S.byL (S.hex (S.q0 vs o i) 2))]) 0 1)) a (wrapK IntKind.i64 (i + 1))) (lr_T a (wrapK IntKind.i64 (i + 1)) et o W (M + 1) cp w vs (app (sub ss 0 M) (sub (setMany [LV.str []] 0 [LV.str (app S.byL (S.hex (S.q0 vs o i) 2))]) 0 1)) ∧ ((0 : Nat) = (0 : Nat) ∧ (M + S.lrl vs o W a i = M + 1 + S.lrl vs o W a (wrapK IntKind.i64 (i + 1)) ∧ (Cap.rest (0 : Nat) = Cap.rest 0 ∧ (app ss (S.lr vs o W a i) = app (app (sub ss 0 M) (sub (setMany [LV.str []] 0 [LV.str (app S.byL (S.hex (S.q0 vs o i) 2))]) 0 1)) (S.lr vs o W a (wrapK IntKind.i64 (i + 1))) ∧ True))))) False) False) False) False) (bc (notB (ltI (S.len (S.q0 vs o i)) 2)) (bc (ltI (wrapK IntKind.i64 (i + 1)) 0) False (bc (ltI (wrapK IntKind.i64 (i + 1)) ↑W) (bc (Nat.ble (o + Int.toNat (wrapK IntKind.i64 (i + 1)) * 1 + 1) (lenL vs)) (bc (eqI (S.len (S.q0 vs o i)) 3) (bc (ltI (wrapK IntKind.i64 (i + 2)) 0) False (bc (ltI (wrapK IntKind.i64 (i + 2)) ↑W) (bc (Nat.ble (o + Int.toNat (wrapK IntKind.i64 (i + 2)) * 1 + 1) (lenL vs)) (bc (S.okS (S.q0 vs o i) (wrapK IntKind.i64 (intOf (K.atV vs (o + Int.toNat (wrapK IntKind.i64 (i + 1)) * 1)))) (wrapK IntKind.i64 (intOf (K.atV vs (o + Int.toNat (wrapK IntKind.i64 (i + 2)) * 1)))) (Int.tmod (wrapK IntKind.i64 (a + i)) 65536)) (bc (Nat.ble (0 + M) (lenL ss)) (bc (Nat.ble ((M + 1) * 16) 1099511627776) (bc (S.okL vs o W (M + 1) (app (sub ss 0 M) (sub (setMany [LV.str []] 0 [LV.str (S.shw (S.q0 vs o i) (wrapK IntKind.i64 (intOf (K.atV vs (o + Int.toNat (wrapK IntKind.i64 (i + 1)) * 1)))) (wrapK IntKind.i64 (intOf (K.atV vs (o + Int.toNat (wrapK IntKind.i64 (i + 2)) * 1)))) (Int.tmod (wrapK IntKind.i64 (a + i)) 65536))]) 0 1)) a (wrapK IntKind.i64 (i + S.len (S.q0 vs o i)))) (lr_T a (wrapK IntKind.i64 (i + S.len (S.q0 vs o i))) et o W (M + 1) cp w vs (app (sub ss 0 M) (sub (setMany [LV.str []] 0 [LV.str (S.shw (S.q0 vs o i) (wrapK IntKind.i64 (intOf (K.atV vs (o + Int.toNat (wrapK IntKind.i64 (i + 1)) * 1)))) (wrapK IntKind.i64 (intOf (K.atV vs (o + Int.toNat (wrapK IntKind.i64 (i + 2)) * 1)))) (Int.tmod (wrapK IntKind.i64 (a + i)) 65536))]) 0 1)) ∧ ((0 : Nat) = (0 : Nat) ∧ (M + S.lrl vs o W a i = M + 1 + S.lrl vs o W a (wrapK IntKind.i64 (i + S.len (S.q0 vs o i))) ∧ (Cap.rest (0 : Nat) = Cap.rest 0 ∧ (app ss (S.lr vs o W a i) = app (app (sub ss 0 M) (sub (setMany [LV.str []] 0 [LV.str (S.shw (S.q0 vs o i) (wrapK IntKind.i64 (intOf (K.atV vs (o + Int.toNat (wrapK IntKind.i64 (i + 1)) * 1)))) (wrapK IntKind.i64 (intOf (K.atV vs (o + Int.toNat (wrapK IntKind.i64 (i + 2)) * 1)))) (Int.tmod (wrapK IntKind.i64 (a + i)) 65536))]) 0 1)) (S.lr vs o W a (wrapK IntKind.i64 (i + S.len (S.q0 vs o i)))) ∧ True))))) False) False) False) False) False) False)) (bc (S.okS (S.q0 vs o i) (wrapK IntKind.i64 (intOf (K.atV vs (o + Int.toNat (wrapK IntKind.i64 (i + 1)) * 1)))) 0 (Int.tmod (wrapK IntKind.i64 (a + i)) 65536)) (bc (Nat.ble (0 + M) (lenL ss)) (bc (Nat.ble ((M + 1) * 16) 1099511627776) (bc (S.okL vs o W (M + 1) (app (sub ss 0 M) (sub (setMany [LV.str []] 0 [LV.str (S.shw (S.q0 vs o i) (wrapK IntKind.i64 (intOf (K.atV vs (o + Int.toNat (wrapK IntKind.i64 (i + 1)) * 1)))) 0 (Int.tmod (wrapK IntKind.i64 (a + i)) 65536))]) 0 1)) a (wrapK IntKind.i64 (i + S.len (S.q0 vs o i)))) (lr_T a (wrapK IntKind.i64 (i + S.len (S.q0 vs o i))) et o W (M + 1) cp w vs (app (sub ss 0 M) (sub (setMany [LV.str []] 0 [LV.str (S.shw (S.q0 vs o i) (wrapK IntKind.i64 (intOf (K.atV vs (o + Int.toNat (wrapK IntKind.i64 (i + 1)) * 1)))) 0 (Int.tmod (wrapK IntKind.i64 (a + i)) 65536))]) 0 1)) ∧ ((0 : Nat) = (0 : Nat) ∧ (M + S.lrl vs o W a i = M + 1 + S.lrl vs o W a (wrapK IntKind.i64 (i + S.len (S.q0 vs o i))) ∧ (Cap.rest (0 : Nat) = Cap.rest 0 ∧ (app ss (S.lr vs o W a i) = app (app (sub ss 0 M) (sub (setMany [LV.str []] 0 [LV.str (S.shw (S.q0 vs o i) (wrapK IntKind.i64 (intOf (K.atV vs (o + Int.toNat (wrapK IntKind.i64 (i + 1)) * 1)))) 0 (Int.tmod (wrapK IntKind.i64 (a + i)) 65536))]) 0 1)) (S.lr vs o W a (wrapK IntKind.i64 (i + S.len (S.q0 vs o i)))) ∧ True))))) False) False) False) False)) False) False)) (bc (eqI (S.len (S.q0 vs o i)) 3) (bc (ltI (wrapK IntKind.i64 (i + 2)) 0) False (bc (ltI (wrapK IntKind.i64 (i + 2)) ↑W) (bc (Nat.ble (o + Int.toNat (wrapK IntKind.i64 (i + 2)) * 1 + 1) (lenL vs)) (bc (S.okS (S.q0 vs o i) 0 (wrapK IntKind.i64 (intOf (K.atV vs (o + Int.toNat (wrapK IntKind.i64 (i + 2)) * 1)))) (Int.tmod (wrapK IntKind.i64 (a + i)) 65536)) (bc (Nat.ble (0 + M) (lenL ss)) (bc (Nat.ble ((M + 1) * 16) 1099511627776) (bc (S.okL vs o W (M + 1) (app (sub ss 0 M) (sub (setMany [LV.str []] 0 [LV.str (S.shw (S.q0 vs o i) 0 (wrapK IntKind.i64 (intOf (K.atV vs (o + Int.toNat (wrapK IntKind.i64 (i + 2)) * 1)))) (Int.tmod (wrapK IntKind.i64 (a + i)) 65536))]) 0 1)) a (wrapK IntKind.i64 (i + S.len (S.q0 vs o i)))) (lr_T a (wrapK IntKind.i64 (i + S.len (S.q0 vs o i))) et o W (M + 1) cp w vs (app (sub ss 0 M) (sub (setMany [LV.str []] 0 [LV.str (S.shw (S.q0 vs o i) 0 (wrapK IntKind.i64 (intOf (K.atV vs (o + Int.toNat (wrapK IntKind.i64 (i + 2)) * 1)))) (Int.tmod (wrapK IntKind.i64 (a + i)) 65536))]) 0 1)) ∧ ((0 : Nat) = (0 : Nat) ∧ (M + S.lrl vs o W a i = M + 1 + S.lrl vs o W a (wrapK IntKind.i64 (i + S.len (S.q0 vs o i))) ∧ (Cap.rest (0 : Nat) = Cap.rest 0 ∧ (app ss (S.lr vs o W a i) = app (app (sub ss 0 M) (sub (setMany [LV.str []] 0 [LV.str (S.shw (S.q0 vs o i) 0 (wrapK IntKind.i64 (intOf (K.atV vs (o + Int.toNat (wrapK IntKind.i64 (i + 2)) * 1)))) (Int.tmod (wrapK IntKind.i64 (a + i)) 65536))]) 0 1)) (S.lr vs o W a (wrapK IntKind.i64 (i + S.len (S.q0 vs o i)))) ∧ True))))) False) False) False) False) False) False)) (bc (S.okS (S.q0 vs o i) 0 0 (Int.tmod (wrapK IntKind.i64 (a + i)) 65536)) (bc (Nat.ble (0 + M) (lenL ss)) (bc (Nat.ble ((M + 1) * 16) 1099511627776) (bc (S.okL vs o W (M + 1) (app (sub ss 0 M) (sub (setMany [LV.str []] 0 [LV.str (S.shw (S.q0 vs o i) 0 0 (Int.tmod (wrapK IntKind.i64 (a + i)) 65536))]) 0 1)) a (wrapK IntKind.i64 (i + S.len (S.q0 vs o i)))) (lr_T a (wrapK IntKind.i64 (i + S.len (S.q0 vs o i))) et o W (M + 1) cp w vs (app (sub ss 0 M) (sub (setMany [LV.str []] 0 [LV.str (S.shw (S.q0 vs o i) 0 0 (Int.tmod (wrapK IntKind.i64 (a + i)) 65536))]) 0 1)) ∧ ((0 : Nat) = (0 : Nat) ∧ (M + S.lrl vs o W a i = M + 1 + S.lrl vs o W a (wrapK IntKind.i64 (i + S.len (S.q0 vs o i))) ∧ (Cap.rest (0 : Nat) = Cap.rest 0 ∧ (app ss (S.lr vs o W a i) = app (app (sub ss 0 M) (sub (setMany [LV.str []] 0 [LV.str (S.shw (S.q0 vs o i) 0 0 (Int.tmod (wrapK IntKind.i64 (a + i)) 65536))]) 0 1)) (S.lr vs o W a (wrapK IntKind.i64 (i + S.len (S.q0 vs o i)))) ∧ True))))) False) False) False) False))))) False) False) False) False)) False) := by kernel_rfl
theorem lrB_con (a i : Int) (et o W M : Nat) (cp : Cap) (w : Own) (vs ss : List LV) (h0 : S.okL vs o W M ss a i = true) (h1 : i < W) (IH : ∀ (M2 : Nat) (ss2 : List LV) (i2 : Int), i < i2 → S.okL vs o W M2 ss2 a i2 = true → lr_T a i2 et o W M2 cp w vs ss2) : GT Tryd.prog (fun k => .code (inner (inner (blkOf 19 0))) :: .inLoop (inner (inner (blkOf 19 0))) :: k) (Fr.ofL 19 79 [(0, .int .i64 a), (1, .slice 0 o W cp), (5, .slice 1 0 M (.rest 0)), (6, .int .i64 i)] [] none) (Heap.of [.flat [.i .u8] et w vs, .flat [.sr] 9 (.grow 1) ss]) (⟨.exit 0, [(5, .slice 2 0 (M + S.lrl vs o W a i) (.rest 0))], [(1, .dead)], [.flat [.sr] 9 (.grow 1) (app ss (S.lr vs o W a i))]⟩ : K.BRes).x (Fr.ofL 19 79 (⟨.exit 0, [(5, .slice 2 0 (M + S.lrl vs o W a i) (.rest 0))], [(1, .dead)], [.flat [.sr] 9 (.grow 1) (app ss (S.lr vs o W a i))]⟩ : K.BRes).L [] none) (Heap.of (K.chg [.flat [.i .u8] et w vs, .flat [.sr] 9 (.grow 1) ss] (⟨.exit 0, [(5, .slice 2 0 (M + S.lrl vs o W a i) (.rest 0))], [(1, .dead)], [.flat [.sr] 9 (.grow 1) (app ss (S.lr vs o W a i))]⟩ : K.BRes).ch ++ (⟨.exit 0, [(5, .slice 2 0 (M + S.lrl vs o W a i) (.rest 0))], [(1, .dead)], [.flat [.sr] 9 (.grow 1) (app ss (S.lr vs o W a i))]⟩ : K.BRes).new)) := by
  refine K.loop_of_run good (A := envL [(25, corE), (28, rlnE), (29, rfE), (11, shrE), (14, hxrE)]) (envL_ok ?_) K.openE_ok (k := 30) (ent := lrEB) (cast (lrB_run a i et o W M cp w vs ss).symm ?_)
  · intro p hp; simp only [List.mem_cons, List.not_mem_nil, or_false] at hp; rcases hp with rfl | rfl | rfl | rfl | rfl <;> first | exact cor_ok | exact rln_ok | exact rf_ok | exact shr_ok | exact hxr_ok
  · obtain ⟨⟨hQ, hM⟩, hN, hW⟩ := S.okL_iff.1 h0
    have hi := (S.okQ_iff.1 hQ).2.1
    obtain ⟨p, rfl⟩ : ∃ p : Nat, i = p := Int.eq_ofNat_of_zero_le hi
    rw [S.rem_at] at hN
    have hp : p < W := by omega
    obtain ⟨hR, _, _⟩ := S.okQ_iff.1 hQ
    obtain ⟨hb, hl, hq⟩ := S.okR_iff.1 hR
    have e1 : ltI ((p : Int) : Int) W = true := ltI_true.2 (by omega)
    have bl : Nat.ble ((o + p) + 1) (lenL vs) = true := S.bleN.2 (by omega)
    have g0 := S.okB_at hb (i := (o + p)) (by omega)
    have v0 : wrapK .i64 (intOf (K.atV vs (o + p))) = S.by1 vs (o + p) := by
      show wrapK .i64 (S.by1 vs (o + p)) = _
      rw [wrapK_i64]; omega
    have iB : S.isB (S.by1 vs (o + p)) = true := S.isB_iff.2 g0
    have oV : S.okV (S.by1 vs (o + p)) = true := notB_true.2 (ltI_false.2 (by omega))
    have hrf : eqI (S.rfnd (S.nm (S.by1 vs (o + p))) (S.md (S.by1 vs (o + p)))) (S.by1 vs (o + p)) = S.pl (S.by1 vs (o + p)) := S.pl_eq g0.1
    have ww : wrapK .i64 ((W : Int) - (p : Int)) = (((W - p) : Nat) : Int) := by rw [wrapK_i64]; omega
    have wa : Int.tmod (wrapK .i64 (a + (p : Int))) 65536 = ((a + (p : Int)) % 65536) := by rw [wrapK_i64, Int.tmod_eq_emod_of_nonneg (by omega)]; omega
    have bt := S.bytes_1 vs (o + p)
    have l12 : ltI 1 2 = true := rfl
    have l22 : ltI 2 2 = false := rfl
    have l32 : ltI 3 2 = false := rfl
    have q13 : eqI 1 3 = false := rfl
    have q23 : eqI 2 3 = false := rfl
    have q33 : eqI 3 3 = true := rfl
    have tn : ∀ x : Nat, Int.toNat (x : Int) = x := Int.toNat_natCast
    have e0 : ltI (p : Int) 0 = false := ltI_false.2 hi
    have bM : Nat.ble M (lenL ss) = true := S.bleN.2 (by omega)
    have b4 : Nat.ble ((M + 1) * 16) 1099511627776 = true := S.bleN.2 (by omega)
    have sa := S.sub_all hM
    have st : ∀ x : List UInt8, sub (setMany [LV.str []] 0 [LV.str x]) 0 1 = [LV.str x] := fun x => rfl
    have w1 : wrapK .i64 ((p : Int) + 1) = ((p + 1 : Nat) : Int) := by rw [wrapK_i64]; omega
    have w2 : wrapK .i64 ((p : Int) + 2) = ((p + 2 : Nat) : Int) := by rw [wrapK_i64]; omega
    have w3 : wrapK .i64 ((p : Int) + 3) = ((p + 3 : Nat) : Int) := by rw [wrapK_i64]; omega
    rcases S.len_cases (S.by1 vs (o + p)) with hk | hk | hk
    · have hC0 : ∀ {x : Nat}, S.len (S.by1 vs (o + p)) ≤ x ↔ (1 : Int) ≤ x := by intro x; rw [hk]
      cases hpl : S.pl (S.by1 vs (o + p)) with
      | false =>
        have hC : S.isC vs (o + p) (W - p) = false := S.isC_p hpl
        obtain ⟨hgo, hlk⟩ := S.lr_tail (k := 1) (M2 := (M + 1)) (ss2 := (app ss [LV.str (S.bytes vs (o + p) 1)] : List LV)) (X := S.bytes vs (o + p) 1) (p := p) (a := a) (by decide) hR (by omega) (by omega) hW (S.stp_f hC) (S.lin_f hC) (by rw [S.lenL_app, hM]; rfl)
        have ih := IH (M + 1) (app ss [LV.str (S.bytes vs (o + p) 1)] : List LV) ((p + 1 : Nat) : Int) (by omega) hlk
        simp only [e1, e0, bM, b4, sa, st, bl, v0, S.q0, show Int.toNat 0 = 0 from rfl, iB, oV, hrf, hk, ww, wa, bt, l12, l22, l32, q13, q23, q33, tn, w1, w2, w3, Nat.add_zero, Nat.zero_add, Nat.mul_one, bc_true, bc_false, notB_t, notB_f, true_and, and_true, hlk, hpl]
        refine ⟨ih, ?_, ?_⟩
        · unfold S.lrl
          rw [hgo, S.lenL_cons]; omega
        · rw [hgo, S.app_app]; rfl
      | true =>
        by_cases hkn : 1 ≤ (W - p)
        rotate_left
        · have hC : S.isC vs (o + p) (W - p) = false := S.isC_n (by rw [hk]; omega)
          have ek : ltI (((W - p) : Nat) : Int) 1 = true := ltI_true.2 (by omega)
          obtain ⟨hgo, hlk⟩ := S.lr_tail (k := 1) (M2 := (M + 1)) (ss2 := (app ss [LV.str (S.bytes vs (o + p) 1)] : List LV)) (X := S.bytes vs (o + p) 1) (p := p) (a := a) (by decide) hR (by omega) (by omega) hW (S.stp_f hC) (S.lin_f hC) (by rw [S.lenL_app, hM]; rfl)
          have ih := IH (M + 1) (app ss [LV.str (S.bytes vs (o + p) 1)] : List LV) ((p + 1 : Nat) : Int) (by omega) hlk
          simp only [e1, e0, bM, b4, sa, st, bl, v0, S.q0, show Int.toNat 0 = 0 from rfl, iB, oV, hrf, hk, ww, wa, bt, l12, l22, l32, q13, q23, q33, tn, w1, w2, w3, Nat.add_zero, Nat.zero_add, Nat.mul_one, bc_true, bc_false, notB_t, notB_f, true_and, and_true, hlk, hpl, ek]
          refine ⟨ih, ?_, ?_⟩
          · unfold S.lrl
            rw [hgo, S.lenL_cons]; omega
          · rw [hgo, S.app_app]; rfl
        have hC : S.isC vs (o + p) (W - p) = true := S.isC_t hpl (by rw [hk]; omega)
        have ek : ltI (((W - p) : Nat) : Int) 1 = false := ltI_false.2 (by omega)
        have oS : S.okS (S.by1 vs (o + p)) 0 0 ((a + (p : Int)) % 65536) = true := S.okS_iff.2 ⟨g0, by decide, by decide, by omega⟩
        obtain ⟨hgo, hlk⟩ := S.lr_tail (k := 1) (M2 := (M + 1)) (ss2 := (app ss [LV.str (S.shw (S.by1 vs (o + p)) 0 0 ((a + (p : Int)) % 65536))] : List LV)) (X := S.shw (S.by1 vs (o + p)) 0 0 ((a + (p : Int)) % 65536)) (p := p) (a := a) (by decide) hR (by omega) (by omega) hW (S.stp_t hC hk) (S.lin_1 hC hk) (by rw [S.lenL_app, hM]; rfl)
        have ih := IH (M + 1) (app ss [LV.str (S.shw (S.by1 vs (o + p)) 0 0 ((a + (p : Int)) % 65536))] : List LV) ((p + 1 : Nat) : Int) (by omega) hlk
        simp only [e1, e0, bM, b4, sa, st, bl, v0, S.q0, show Int.toNat 0 = 0 from rfl, iB, oV, hrf, hk, ww, wa, bt, l12, l22, l32, q13, q23, q33, tn, w1, w2, w3, Nat.add_zero, Nat.zero_add, Nat.mul_one, bc_true, bc_false, notB_t, notB_f, true_and, and_true, hlk, ek, oS, hpl]
        refine ⟨ih, ?_, ?_⟩
        · unfold S.lrl
          rw [hgo, S.lenL_cons]; omega
        · rw [hgo, S.app_app]; rfl
    · have hC0 : ∀ {x : Nat}, S.len (S.by1 vs (o + p)) ≤ x ↔ (2 : Int) ≤ x := by intro x; rw [hk]
      cases hpl : S.pl (S.by1 vs (o + p)) with
      | false =>
        have hC : S.isC vs (o + p) (W - p) = false := S.isC_p hpl
        obtain ⟨hgo, hlk⟩ := S.lr_tail (k := 1) (M2 := (M + 1)) (ss2 := (app ss [LV.str (S.bytes vs (o + p) 1)] : List LV)) (X := S.bytes vs (o + p) 1) (p := p) (a := a) (by decide) hR (by omega) (by omega) hW (S.stp_f hC) (S.lin_f hC) (by rw [S.lenL_app, hM]; rfl)
        have ih := IH (M + 1) (app ss [LV.str (S.bytes vs (o + p) 1)] : List LV) ((p + 1 : Nat) : Int) (by omega) hlk
        simp only [e1, e0, bM, b4, sa, st, bl, v0, S.q0, show Int.toNat 0 = 0 from rfl, iB, oV, hrf, hk, ww, wa, bt, l12, l22, l32, q13, q23, q33, tn, w1, w2, w3, Nat.add_zero, Nat.zero_add, Nat.mul_one, bc_true, bc_false, notB_t, notB_f, true_and, and_true, hlk, hpl]
        refine ⟨ih, ?_, ?_⟩
        · unfold S.lrl
          rw [hgo, S.lenL_cons]; omega
        · rw [hgo, S.app_app]; rfl
      | true =>
        by_cases hkn : 2 ≤ (W - p)
        rotate_left
        · have hC : S.isC vs (o + p) (W - p) = false := S.isC_n (by rw [hk]; omega)
          have ek : ltI (((W - p) : Nat) : Int) 2 = true := ltI_true.2 (by omega)
          obtain ⟨hgo, hlk⟩ := S.lr_tail (k := 1) (M2 := (M + 1)) (ss2 := (app ss [LV.str (S.bytes vs (o + p) 1)] : List LV)) (X := S.bytes vs (o + p) 1) (p := p) (a := a) (by decide) hR (by omega) (by omega) hW (S.stp_f hC) (S.lin_f hC) (by rw [S.lenL_app, hM]; rfl)
          have ih := IH (M + 1) (app ss [LV.str (S.bytes vs (o + p) 1)] : List LV) ((p + 1 : Nat) : Int) (by omega) hlk
          simp only [e1, e0, bM, b4, sa, st, bl, v0, S.q0, show Int.toNat 0 = 0 from rfl, iB, oV, hrf, hk, ww, wa, bt, l12, l22, l32, q13, q23, q33, tn, w1, w2, w3, Nat.add_zero, Nat.zero_add, Nat.mul_one, bc_true, bc_false, notB_t, notB_f, true_and, and_true, hlk, hpl, ek]
          refine ⟨ih, ?_, ?_⟩
          · unfold S.lrl
            rw [hgo, S.lenL_cons]; omega
          · rw [hgo, S.app_app]; rfl
        have hC : S.isC vs (o + p) (W - p) = true := S.isC_t hpl (by rw [hk]; omega)
        have ek : ltI (((W - p) : Nat) : Int) 2 = false := ltI_false.2 (by omega)
        have bl1 : Nat.ble ((o + (p + 1)) + 1) (lenL vs) = true := S.bleN.2 (by omega)
        have g1 := S.okB_at hb (i := (o + (p + 1))) (by omega)
        have v1 : wrapK .i64 (intOf (K.atV vs (o + (p + 1)))) = S.by1 vs (o + (p + 1)) := by
          show wrapK .i64 (S.by1 vs (o + (p + 1))) = _
          rw [wrapK_i64]; omega
        have n1 : ltI ((p + 1 : Nat) : Int) 0 = false := ltI_false.2 (by omega)
        have m1 : ltI ((p + 1 : Nat) : Int) W = true := ltI_true.2 (by omega)
        have oS : S.okS (S.by1 vs (o + p)) (S.by1 vs (o + (p + 1))) 0 ((a + (p : Int)) % 65536) = true := S.okS_iff.2 ⟨g0, g1, by decide, by omega⟩
        obtain ⟨hgo, hlk⟩ := S.lr_tail (k := 2) (M2 := (M + 1)) (ss2 := (app ss [LV.str (S.shw (S.by1 vs (o + p)) (S.by1 vs (o + (p + 1))) 0 ((a + (p : Int)) % 65536))] : List LV)) (X := S.shw (S.by1 vs (o + p)) (S.by1 vs (o + (p + 1))) 0 ((a + (p : Int)) % 65536)) (p := p) (a := a) (by decide) hR (by omega) (by omega) hW (S.stp_t hC hk) (S.lin_2 hC hk) (by rw [S.lenL_app, hM]; rfl)
        have ih := IH (M + 1) (app ss [LV.str (S.shw (S.by1 vs (o + p)) (S.by1 vs (o + (p + 1))) 0 ((a + (p : Int)) % 65536))] : List LV) ((p + 2 : Nat) : Int) (by omega) hlk
        simp only [e1, e0, bM, b4, sa, st, bl, v0, S.q0, show Int.toNat 0 = 0 from rfl, iB, oV, hrf, hk, ww, wa, bt, l12, l22, l32, q13, q23, q33, tn, w1, w2, w3, Nat.add_zero, Nat.zero_add, Nat.mul_one, bc_true, bc_false, notB_t, notB_f, true_and, and_true, hlk, ek, oS, hpl, bl1, v1, n1, m1]
        refine ⟨ih, ?_, ?_⟩
        · unfold S.lrl
          rw [hgo, S.lenL_cons]; omega
        · rw [hgo, S.app_app]; rfl
    · have hC0 : ∀ {x : Nat}, S.len (S.by1 vs (o + p)) ≤ x ↔ (3 : Int) ≤ x := by intro x; rw [hk]
      cases hpl : S.pl (S.by1 vs (o + p)) with
      | false =>
        have hC : S.isC vs (o + p) (W - p) = false := S.isC_p hpl
        obtain ⟨hgo, hlk⟩ := S.lr_tail (k := 1) (M2 := (M + 1)) (ss2 := (app ss [LV.str (S.bytes vs (o + p) 1)] : List LV)) (X := S.bytes vs (o + p) 1) (p := p) (a := a) (by decide) hR (by omega) (by omega) hW (S.stp_f hC) (S.lin_f hC) (by rw [S.lenL_app, hM]; rfl)
        have ih := IH (M + 1) (app ss [LV.str (S.bytes vs (o + p) 1)] : List LV) ((p + 1 : Nat) : Int) (by omega) hlk
        simp only [e1, e0, bM, b4, sa, st, bl, v0, S.q0, show Int.toNat 0 = 0 from rfl, iB, oV, hrf, hk, ww, wa, bt, l12, l22, l32, q13, q23, q33, tn, w1, w2, w3, Nat.add_zero, Nat.zero_add, Nat.mul_one, bc_true, bc_false, notB_t, notB_f, true_and, and_true, hlk, hpl]
        refine ⟨ih, ?_, ?_⟩
        · unfold S.lrl
          rw [hgo, S.lenL_cons]; omega
        · rw [hgo, S.app_app]; rfl
      | true =>
        by_cases hkn : 3 ≤ (W - p)
        rotate_left
        · have hC : S.isC vs (o + p) (W - p) = false := S.isC_n (by rw [hk]; omega)
          have ek : ltI (((W - p) : Nat) : Int) 3 = true := ltI_true.2 (by omega)
          obtain ⟨hgo, hlk⟩ := S.lr_tail (k := 1) (M2 := (M + 1)) (ss2 := (app ss [LV.str (S.bytes vs (o + p) 1)] : List LV)) (X := S.bytes vs (o + p) 1) (p := p) (a := a) (by decide) hR (by omega) (by omega) hW (S.stp_f hC) (S.lin_f hC) (by rw [S.lenL_app, hM]; rfl)
          have ih := IH (M + 1) (app ss [LV.str (S.bytes vs (o + p) 1)] : List LV) ((p + 1 : Nat) : Int) (by omega) hlk
          simp only [e1, e0, bM, b4, sa, st, bl, v0, S.q0, show Int.toNat 0 = 0 from rfl, iB, oV, hrf, hk, ww, wa, bt, l12, l22, l32, q13, q23, q33, tn, w1, w2, w3, Nat.add_zero, Nat.zero_add, Nat.mul_one, bc_true, bc_false, notB_t, notB_f, true_and, and_true, hlk, hpl, ek]
          refine ⟨ih, ?_, ?_⟩
          · unfold S.lrl
            rw [hgo, S.lenL_cons]; omega
          · rw [hgo, S.app_app]; rfl
        have hC : S.isC vs (o + p) (W - p) = true := S.isC_t hpl (by rw [hk]; omega)
        have ek : ltI (((W - p) : Nat) : Int) 3 = false := ltI_false.2 (by omega)
        have bl1 : Nat.ble ((o + (p + 1)) + 1) (lenL vs) = true := S.bleN.2 (by omega)
        have g1 := S.okB_at hb (i := (o + (p + 1))) (by omega)
        have v1 : wrapK .i64 (intOf (K.atV vs (o + (p + 1)))) = S.by1 vs (o + (p + 1)) := by
          show wrapK .i64 (S.by1 vs (o + (p + 1))) = _
          rw [wrapK_i64]; omega
        have n1 : ltI ((p + 1 : Nat) : Int) 0 = false := ltI_false.2 (by omega)
        have m1 : ltI ((p + 1 : Nat) : Int) W = true := ltI_true.2 (by omega)
        have bl2 : Nat.ble ((o + (p + 2)) + 1) (lenL vs) = true := S.bleN.2 (by omega)
        have g2 := S.okB_at hb (i := (o + (p + 2))) (by omega)
        have v2 : wrapK .i64 (intOf (K.atV vs (o + (p + 2)))) = S.by1 vs (o + (p + 2)) := by
          show wrapK .i64 (S.by1 vs (o + (p + 2))) = _
          rw [wrapK_i64]; omega
        have n2 : ltI ((p + 2 : Nat) : Int) 0 = false := ltI_false.2 (by omega)
        have m2 : ltI ((p + 2 : Nat) : Int) W = true := ltI_true.2 (by omega)
        have oS : S.okS (S.by1 vs (o + p)) (S.by1 vs (o + (p + 1))) (S.by1 vs (o + (p + 2))) ((a + (p : Int)) % 65536) = true := S.okS_iff.2 ⟨g0, g1, g2, by omega⟩
        obtain ⟨hgo, hlk⟩ := S.lr_tail (k := 3) (M2 := (M + 1)) (ss2 := (app ss [LV.str (S.shw (S.by1 vs (o + p)) (S.by1 vs (o + (p + 1))) (S.by1 vs (o + (p + 2))) ((a + (p : Int)) % 65536))] : List LV)) (X := S.shw (S.by1 vs (o + p)) (S.by1 vs (o + (p + 1))) (S.by1 vs (o + (p + 2))) ((a + (p : Int)) % 65536)) (p := p) (a := a) (by decide) hR (by omega) (by omega) hW (S.stp_t hC hk) (S.lin_3 hC hk) (by rw [S.lenL_app, hM]; rfl)
        have ih := IH (M + 1) (app ss [LV.str (S.shw (S.by1 vs (o + p)) (S.by1 vs (o + (p + 1))) (S.by1 vs (o + (p + 2))) ((a + (p : Int)) % 65536))] : List LV) ((p + 3 : Nat) : Int) (by omega) hlk
        simp only [e1, e0, bM, b4, sa, st, bl, v0, S.q0, show Int.toNat 0 = 0 from rfl, iB, oV, hrf, hk, ww, wa, bt, l12, l22, l32, q13, q23, q33, tn, w1, w2, w3, Nat.add_zero, Nat.zero_add, Nat.mul_one, bc_true, bc_false, notB_t, notB_f, true_and, and_true, hlk, ek, oS, hpl, bl1, v1, n1, m1, bl2, v2, n2, m2]
        refine ⟨ih, ?_, ?_⟩
        · unfold S.lrl
          rw [hgo, S.lenL_cons]; omega
        · rw [hgo, S.app_app]; rfl
theorem lrA_run (a : Int) (et o W : Nat) (cp : Cap) (w : Own) (vs : List LV) : K.RunL (envL [(25, corE), (28, rlnE), (29, rfE), (11, shrE), (14, hxrE)]) K.openE 30 19 79 (inner (inner (blkOf 19 0))) lrEB [(0, .int .i64 a), (1, .slice 0 o W cp), (5, .nils), (6, .int .i64 0)] [.flat [.i .u8] et w vs] Hint.auto ⟨.exit 0, [(5, .slice 1 0 (S.lrl vs o W a 0) (.rest 0))], [], [.flat [.sr] 9 (.grow 1) (S.lr vs o W a 0)]⟩ =
    (bc (ltI 0 ↑W) (bc (ltI 0 ↑W) (bc (Nat.ble (o + 0 + 1) (lenL vs)) (bc (S.isB (S.q0 vs o 0)) (bc (S.isB (S.q0 vs o 0)) (bc (notB (eqI (S.rfnd (S.nm (S.q0 vs o 0)) (S.md (S.q0 vs o 0))) (S.q0 vs o 0))) (bc (S.okV (S.q0 vs o 0)) (bc (S.okL vs o W 1 [LV.str (app S.byL (S.hex (S.q0 vs o 0) 2))] a 1) (lr_T a 1 et o W 1 cp w vs [LV.str (app S.byL (S.hex (S.q0 vs o 0) 2))] ∧ ((0 : Nat) = (0 : Nat) ∧ (S.lrl vs o W a (0 : Int) = (1 : Nat) + S.lrl vs o W a 1 ∧ (Cap.rest (0 : Nat) = Cap.rest 0 ∧ (S.lr vs o W a (0 : Int) = app [LV.str (app S.byL (S.hex (S.q0 vs o 0) 2))] (S.lr vs o W a 1) ∧ True))))) False) False) (bc (ltI (wrapK IntKind.i64 (↑W - 0)) (S.len (S.q0 vs o 0))) (bc (S.okV (S.q0 vs o 0)) (bc (S.okL vs o W 1 [LV.str (app S.byL (S.hex (S.q0 vs o 0) 2))] a 1) (lr_T a 1 et o W 1 cp w vs [LV.str (app S.byL (S.hex (S.q0 vs o 0) 2))] ∧ ((0 : Nat) = (0 : Nat) ∧ (S.lrl vs o W a (0 : Int) = (1 : Nat) + S.lrl vs o W a 1 ∧ (Cap.rest (0 : Nat) = Cap.rest 0 ∧ (S.lr vs o W a (0 : Int) = app [LV.str (app S.byL (S.hex (S.q0 vs o 0) 2))] (S.lr vs o W a 1) ∧ True))))) False) False) (bc (notB (ltI (S.len (S.q0 vs o 0)) 2)) (bc (ltI 1 ↑W) (bc (Nat.ble (o + 1 + 1) (lenL vs)) (bc (eqI (S.len (S.q0 vs o 0)) 3) (bc (ltI 2 ↑W) (bc (Nat.ble (o + 2 + 1) (lenL vs)) (bc (S.okS (S.q0 vs o 0) (wrapK IntKind.i64 (intOf (K.atV vs (o + 1)))) (wrapK IntKind.i64 (intOf (K.atV vs (o + 2)))) (Int.tmod (wrapK IntKind.i64 (a + 0)) 65536)) (bc (S.okL vs o W 1 [LV.str (S.shw (S.q0 vs o 0) (wrapK IntKind.i64 (intOf (K.atV vs (o + 1)))) (wrapK IntKind.i64 (intOf (K.atV vs (o + 2)))) (Int.tmod (wrapK IntKind.i64 (a + 0)) 65536))] a (wrapK IntKind.i64 (0 + S.len (S.q0 vs o 0)))) (lr_T a (wrapK IntKind.i64 (0 + S.len (S.q0 vs o 0))) et o W 1 cp w vs [LV.str (S.shw (S.q0 vs o 0) (wrapK IntKind.i64 (intOf (K.atV vs (o + 1)))) (wrapK IntKind.i64 (intOf (K.atV vs (o + 2)))) (Int.tmod (wrapK IntKind.i64 (a + 0)) 65536))] ∧ ((0 : Nat) = (0 : Nat) ∧ (S.lrl vs o W a (0 : Int) = (1 : Nat) + S.lrl vs o W a (wrapK IntKind.i64 (0 + S.len (S.q0 vs o 0))) ∧ (Cap.rest (0 : Nat) = Cap.rest 0 ∧ (S.lr vs o W a (0 : Int) = app [LV.str (S.shw (S.q0 vs o 0) (wrapK IntKind.i64 (intOf (K.atV vs (o + 1)))) (wrapK IntKind.i64 (intOf (K.atV vs (o + 2)))) (Int.tmod (wrapK IntKind.i64 (a + 0)) 65536))] (S.lr vs o W a (wrapK IntKind.i64 (0 + S.len (S.q0 vs o 0)))) ∧ True))))) False) False) False) False) (bc (S.okS (S.q0 vs o 0) (wrapK IntKind.i64 (intOf (K.atV vs (o + 1)))) 0 (Int.tmod (wrapK IntKind.i64 (a + 0)) 65536)) (bc (S.okL vs o W 1 [LV.str (S.shw (S.q0 vs o 0) (wrapK IntKind.i64 (intOf (K.atV vs (o + 1)))) 0 (Int.tmod (wrapK IntKind.i64 (a + 0)) 65536))] a (wrapK IntKind.i64 (0 + S.len (S.q0 vs o 0)))) (lr_T a (wrapK IntKind.i64 (0 + S.len (S.q0 vs o 0))) et o W 1 cp w vs [LV.str (S.shw (S.q0 vs o 0) (wrapK IntKind.i64 (intOf (K.atV vs (o + 1)))) 0 (Int.tmod (wrapK IntKind.i64 (a + 0)) 65536))] ∧ ((0 : Nat) = (0 : Nat) ∧ (S.lrl vs o W a (0 : Int) = (1 : Nat) + S.lrl vs o W a (wrapK IntKind.i64 (0 + S.len (S.q0 vs o 0))) ∧ (Cap.rest (0 : Nat) = Cap.rest 0 ∧ (S.lr vs o W a (0 : Int) = app [LV.str (S.shw (S.q0 vs o 0) (wrapK IntKind.i64 (intOf (K.atV vs (o + 1)))) 0 (Int.tmod (wrapK IntKind.i64 (a + 0)) 65536))] (S.lr vs o W a (wrapK IntKind.i64 (0 + S.len (S.q0 vs o 0)))) ∧ True))))) False) False)) False) False) (bc (eqI (S.len (S.q0 vs o 0)) 3) (bc (ltI 2 ↑W) (bc (Nat.ble (o + 2 + 1) (lenL vs)) (bc (S.okS (S.q0 vs o 0) 0 (wrapK IntKind.i64 (intOf (K.atV vs (o + 2)))) (Int.tmod (wrapK IntKind.i64 (a + 0)) 65536)) (bc (S.okL vs o W 1 [LV.str (S.shw (S.q0 vs o 0) 0 (wrapK IntKind.i64 (intOf (K.atV vs (o + 2)))) (Int.tmod (wrapK IntKind.i64 (a + 0)) 65536))] a (wrapK IntKind.i64 (0 + S.len (S.q0 vs o 0)))) (lr_T a (wrapK IntKind.i64 (0 + S.len (S.q0 vs o 0))) et o W 1 cp w vs [LV.str (S.shw (S.q0 vs o 0) 0 (wrapK IntKind.i64 (intOf (K.atV vs (o + 2)))) (Int.tmod (wrapK IntKind.i64 (a + 0)) 65536))] ∧ ((0 : Nat) = (0 : Nat) ∧ (S.lrl vs o W a (0 : Int) = (1 : Nat) + S.lrl vs o W a (wrapK IntKind.i64 (0 + S.len (S.q0 vs o 0))) ∧ (Cap.rest (0 : Nat) = Cap.rest 0 ∧ (S.lr vs o W a (0 : Int) = app [LV.str (S.shw (S.q0 vs o 0) 0 (wrapK IntKind.i64 (intOf (K.atV vs (o + 2)))) (Int.tmod (wrapK IntKind.i64 (a + 0)) 65536))] (S.lr vs o W a (wrapK IntKind.i64 (0 + S.len (S.q0 vs o 0)))) ∧ True))))) False) False) False) False) (bc (S.okS (S.q0 vs o 0) 0 0 (Int.tmod (wrapK IntKind.i64 (a + 0)) 65536)) (bc (S.okL vs o W 1 [LV.str (S.shw (S.q0 vs o 0) 0 0 (Int.tmod (wrapK IntKind.i64 (a + 0)) 65536))] a (wrapK IntKind.i64 (0 + S.len (S.q0 vs o 0)))) (lr_T a (wrapK IntKind.i64 (0 + S.len (S.q0 vs o 0))) et o W 1 cp w vs [LV.str (S.shw (S.q0 vs o 0) 0 0 (Int.tmod (wrapK IntKind.i64 (a + 0)) 65536))] ∧ ((0 : Nat) = (0 : Nat) ∧ (S.lrl vs o W a (0 : Int) = (1 : Nat) + S.lrl vs o W a (wrapK IntKind.i64 (0 + S.len (S.q0 vs o 0))) ∧ (Cap.rest (0 : Nat) = Cap.rest 0 ∧ (S.lr vs o W a (0 : Int) = app [LV.str (S.shw (S.q0 vs o 0) 0 0 (Int.tmod (wrapK IntKind.i64 (a + 0)) 65536))] (S.lr vs o W a (wrapK IntKind.i64 (0 + S.len (S.q0 vs o 0)))) ∧ True))))) False) False))))) False) False) False) False) False) := by kernel_rfl
theorem lrA_con (a : Int) (et o W : Nat) (cp : Cap) (w : Own) (vs : List LV) (h0 : S.okL vs o W 0 [] a 0 = true) (h1 : 0 < W) (IH : ∀ (M2 : Nat) (ss2 : List LV) (i2 : Int), 0 < i2 → S.okL vs o W M2 ss2 a i2 = true → lr_T a i2 et o W M2 cp w vs ss2) : GT Tryd.prog (fun k => .code (inner (inner (blkOf 19 0))) :: .inLoop (inner (inner (blkOf 19 0))) :: k) (Fr.ofL 19 79 [(0, .int .i64 a), (1, .slice 0 o W cp), (5, .nils), (6, .int .i64 0)] [] none) (Heap.of [.flat [.i .u8] et w vs]) (⟨.exit 0, [(5, .slice 1 0 (S.lrl vs o W a 0) (.rest 0))], [], [.flat [.sr] 9 (.grow 1) (S.lr vs o W a 0)]⟩ : K.BRes).x (Fr.ofL 19 79 (⟨.exit 0, [(5, .slice 1 0 (S.lrl vs o W a 0) (.rest 0))], [], [.flat [.sr] 9 (.grow 1) (S.lr vs o W a 0)]⟩ : K.BRes).L [] none) (Heap.of (K.chg [.flat [.i .u8] et w vs] (⟨.exit 0, [(5, .slice 1 0 (S.lrl vs o W a 0) (.rest 0))], [], [.flat [.sr] 9 (.grow 1) (S.lr vs o W a 0)]⟩ : K.BRes).ch ++ (⟨.exit 0, [(5, .slice 1 0 (S.lrl vs o W a 0) (.rest 0))], [], [.flat [.sr] 9 (.grow 1) (S.lr vs o W a 0)]⟩ : K.BRes).new)) := by
  refine K.loop_of_run good (A := envL [(25, corE), (28, rlnE), (29, rfE), (11, shrE), (14, hxrE)]) (envL_ok ?_) K.openE_ok (k := 30) (ent := lrEB) (cast (lrA_run a et o W cp w vs).symm ?_)
  · intro p hp; simp only [List.mem_cons, List.not_mem_nil, or_false] at hp; rcases hp with rfl | rfl | rfl | rfl | rfl <;> first | exact cor_ok | exact rln_ok | exact rf_ok | exact shr_ok | exact hxr_ok
  · obtain ⟨⟨hQ, hM⟩, hN, hW⟩ := S.okL_iff.1 h0
    have hp : 0 < W := h1
    have hN2 : S.rem W 0 = W := by unfold S.rem; omega
    rw [hN2] at hN
    obtain ⟨hR, _, _⟩ := S.okQ_iff.1 hQ
    obtain ⟨hb, hl, hq⟩ := S.okR_iff.1 hR
    have e1 : ltI (0 : Int) W = true := ltI_true.2 (by omega)
    have bl : Nat.ble (o + 1) (lenL vs) = true := S.bleN.2 (by omega)
    have g0 := S.okB_at hb (i := o) (by omega)
    have v0 : wrapK .i64 (intOf (K.atV vs o)) = S.by1 vs o := by
      show wrapK .i64 (S.by1 vs o) = _
      rw [wrapK_i64]; omega
    have iB : S.isB (S.by1 vs o) = true := S.isB_iff.2 g0
    have oV : S.okV (S.by1 vs o) = true := notB_true.2 (ltI_false.2 (by omega))
    have hrf : eqI (S.rfnd (S.nm (S.by1 vs o)) (S.md (S.by1 vs o))) (S.by1 vs o) = S.pl (S.by1 vs o) := S.pl_eq g0.1
    have ww : wrapK .i64 ((W : Int) - 0) = ((W : Nat) : Int) := by rw [wrapK_i64]; omega
    have wa : Int.tmod (wrapK .i64 (a + 0)) 65536 = ((a + ((0 : Nat) : Int)) % 65536) := by rw [wrapK_i64, Int.tmod_eq_emod_of_nonneg (by omega)]; omega
    have bt := S.bytes_1 vs o
    have l12 : ltI 1 2 = true := rfl
    have l22 : ltI 2 2 = false := rfl
    have l32 : ltI 3 2 = false := rfl
    have q13 : eqI 1 3 = false := rfl
    have q23 : eqI 2 3 = false := rfl
    have q33 : eqI 3 3 = true := rfl
    have tn : ∀ x : Nat, Int.toNat (x : Int) = x := Int.toNat_natCast
    have w1 : wrapK .i64 (0 + 1) = 1 := by rw [wrapK_i64]; omega
    have w2 : wrapK .i64 (0 + 2) = 2 := by rw [wrapK_i64]; omega
    have w3 : wrapK .i64 (0 + 3) = 3 := by rw [wrapK_i64]; omega
    rcases S.len_cases (S.by1 vs o) with hk | hk | hk
    · have hC0 : ∀ {x : Nat}, S.len (S.by1 vs o) ≤ x ↔ (1 : Int) ≤ x := by intro x; rw [hk]
      cases hpl : S.pl (S.by1 vs o) with
      | false =>
        have hC : S.isC vs o W = false := S.isC_p hpl
        have hz := S.lr_tail (k := 1) (M2 := 1) (ss2 := ([LV.str (S.bytes vs o 1)] : List LV)) (X := S.bytes vs o 1) (p := 0) (a := a) (by decide) hR (by omega) (by omega) hW (S.stp_f hC) (S.lin_f hC) rfl
        rw [Nat.zero_add] at hz
        obtain ⟨hgo, hlk⟩ := hz
        have hgo : S.lr vs o W a 0 = .str (S.bytes vs o 1) :: S.lr vs o W a 1 := hgo
        have hlk : S.okL vs o W 1 ([LV.str (S.bytes vs o 1)] : List LV) a 1 = true := hlk
        have ih := IH 1 ([LV.str (S.bytes vs o 1)] : List LV) 1 (by omega) hlk
        simp only [e1, bl, v0, S.q0, show Int.toNat 0 = 0 from rfl, iB, oV, hrf, hk, ww, wa, bt, l12, l22, l32, q13, q23, q33, tn, w1, w2, w3, Nat.add_zero, Nat.zero_add, Nat.mul_one, bc_true, bc_false, notB_t, notB_f, true_and, and_true, hlk, hpl]
        refine ⟨ih, ?_, ?_⟩
        · unfold S.lrl
          rw [hgo, S.lenL_cons]; omega
        · rw [hgo]; rfl
      | true =>
        by_cases hkn : 1 ≤ W
        rotate_left
        · have hC : S.isC vs o W = false := S.isC_n (by rw [hk]; omega)
          have ek : ltI ((W : Nat) : Int) 1 = true := ltI_true.2 (by omega)
          have hz := S.lr_tail (k := 1) (M2 := 1) (ss2 := ([LV.str (S.bytes vs o 1)] : List LV)) (X := S.bytes vs o 1) (p := 0) (a := a) (by decide) hR (by omega) (by omega) hW (S.stp_f hC) (S.lin_f hC) rfl
          rw [Nat.zero_add] at hz
          obtain ⟨hgo, hlk⟩ := hz
          have hgo : S.lr vs o W a 0 = .str (S.bytes vs o 1) :: S.lr vs o W a 1 := hgo
          have hlk : S.okL vs o W 1 ([LV.str (S.bytes vs o 1)] : List LV) a 1 = true := hlk
          have ih := IH 1 ([LV.str (S.bytes vs o 1)] : List LV) 1 (by omega) hlk
          simp only [e1, bl, v0, S.q0, show Int.toNat 0 = 0 from rfl, iB, oV, hrf, hk, ww, wa, bt, l12, l22, l32, q13, q23, q33, tn, w1, w2, w3, Nat.add_zero, Nat.zero_add, Nat.mul_one, bc_true, bc_false, notB_t, notB_f, true_and, and_true, hlk, hpl, ek]
          refine ⟨ih, ?_, ?_⟩
          · unfold S.lrl
            rw [hgo, S.lenL_cons]; omega
          · rw [hgo]; rfl
        have hC : S.isC vs o W = true := S.isC_t hpl (by rw [hk]; omega)
        have ek : ltI ((W : Nat) : Int) 1 = false := ltI_false.2 (by omega)
        have oS : S.okS (S.by1 vs o) 0 0 ((a + ((0 : Nat) : Int)) % 65536) = true := S.okS_iff.2 ⟨g0, by decide, by decide, by omega⟩
        have hz := S.lr_tail (k := 1) (M2 := 1) (ss2 := ([LV.str (S.shw (S.by1 vs o) 0 0 ((a + ((0 : Nat) : Int)) % 65536))] : List LV)) (X := S.shw (S.by1 vs o) 0 0 ((a + ((0 : Nat) : Int)) % 65536)) (p := 0) (a := a) (by decide) hR (by omega) (by omega) hW (S.stp_t hC hk) (S.lin_1 hC hk) rfl
        rw [Nat.zero_add] at hz
        obtain ⟨hgo, hlk⟩ := hz
        have hgo : S.lr vs o W a 0 = .str (S.shw (S.by1 vs o) 0 0 ((a + ((0 : Nat) : Int)) % 65536)) :: S.lr vs o W a 1 := hgo
        have hlk : S.okL vs o W 1 ([LV.str (S.shw (S.by1 vs o) 0 0 ((a + ((0 : Nat) : Int)) % 65536))] : List LV) a 1 = true := hlk
        have ih := IH 1 ([LV.str (S.shw (S.by1 vs o) 0 0 ((a + ((0 : Nat) : Int)) % 65536))] : List LV) 1 (by omega) hlk
        simp only [e1, bl, v0, S.q0, show Int.toNat 0 = 0 from rfl, iB, oV, hrf, hk, ww, wa, bt, l12, l22, l32, q13, q23, q33, tn, w1, w2, w3, Nat.add_zero, Nat.zero_add, Nat.mul_one, bc_true, bc_false, notB_t, notB_f, true_and, and_true, hlk, ek, oS, hpl]
        refine ⟨ih, ?_, ?_⟩
        · unfold S.lrl
          rw [hgo, S.lenL_cons]; omega
        · rw [hgo]; rfl
    · have hC0 : ∀ {x : Nat}, S.len (S.by1 vs o) ≤ x ↔ (2 : Int) ≤ x := by intro x; rw [hk]
      cases hpl : S.pl (S.by1 vs o) with
      | false =>
        have hC : S.isC vs o W = false := S.isC_p hpl
        have hz := S.lr_tail (k := 1) (M2 := 1) (ss2 := ([LV.str (S.bytes vs o 1)] : List LV)) (X := S.bytes vs o 1) (p := 0) (a := a) (by decide) hR (by omega) (by omega) hW (S.stp_f hC) (S.lin_f hC) rfl
        rw [Nat.zero_add] at hz
        obtain ⟨hgo, hlk⟩ := hz
        have hgo : S.lr vs o W a 0 = .str (S.bytes vs o 1) :: S.lr vs o W a 1 := hgo
        have hlk : S.okL vs o W 1 ([LV.str (S.bytes vs o 1)] : List LV) a 1 = true := hlk
        have ih := IH 1 ([LV.str (S.bytes vs o 1)] : List LV) 1 (by omega) hlk
        simp only [e1, bl, v0, S.q0, show Int.toNat 0 = 0 from rfl, iB, oV, hrf, hk, ww, wa, bt, l12, l22, l32, q13, q23, q33, tn, w1, w2, w3, Nat.add_zero, Nat.zero_add, Nat.mul_one, bc_true, bc_false, notB_t, notB_f, true_and, and_true, hlk, hpl]
        refine ⟨ih, ?_, ?_⟩
        · unfold S.lrl
          rw [hgo, S.lenL_cons]; omega
        · rw [hgo]; rfl
      | true =>
        by_cases hkn : 2 ≤ W
        rotate_left
        · have hC : S.isC vs o W = false := S.isC_n (by rw [hk]; omega)
          have ek : ltI ((W : Nat) : Int) 2 = true := ltI_true.2 (by omega)
          have hz := S.lr_tail (k := 1) (M2 := 1) (ss2 := ([LV.str (S.bytes vs o 1)] : List LV)) (X := S.bytes vs o 1) (p := 0) (a := a) (by decide) hR (by omega) (by omega) hW (S.stp_f hC) (S.lin_f hC) rfl
          rw [Nat.zero_add] at hz
          obtain ⟨hgo, hlk⟩ := hz
          have hgo : S.lr vs o W a 0 = .str (S.bytes vs o 1) :: S.lr vs o W a 1 := hgo
          have hlk : S.okL vs o W 1 ([LV.str (S.bytes vs o 1)] : List LV) a 1 = true := hlk
          have ih := IH 1 ([LV.str (S.bytes vs o 1)] : List LV) 1 (by omega) hlk
          simp only [e1, bl, v0, S.q0, show Int.toNat 0 = 0 from rfl, iB, oV, hrf, hk, ww, wa, bt, l12, l22, l32, q13, q23, q33, tn, w1, w2, w3, Nat.add_zero, Nat.zero_add, Nat.mul_one, bc_true, bc_false, notB_t, notB_f, true_and, and_true, hlk, hpl, ek]
          refine ⟨ih, ?_, ?_⟩
          · unfold S.lrl
            rw [hgo, S.lenL_cons]; omega
          · rw [hgo]; rfl
        have hC : S.isC vs o W = true := S.isC_t hpl (by rw [hk]; omega)
        have ek : ltI ((W : Nat) : Int) 2 = false := ltI_false.2 (by omega)
        have bl1 : Nat.ble ((o + 1) + 1) (lenL vs) = true := S.bleN.2 (by omega)
        have g1 := S.okB_at hb (i := (o + 1)) (by omega)
        have v1 : wrapK .i64 (intOf (K.atV vs (o + 1))) = S.by1 vs (o + 1) := by
          show wrapK .i64 (S.by1 vs (o + 1)) = _
          rw [wrapK_i64]; omega
        have n1 : ltI 1 0 = false := ltI_false.2 (by omega)
        have m1 : ltI 1 W = true := ltI_true.2 (by omega)
        have oS : S.okS (S.by1 vs o) (S.by1 vs (o + 1)) 0 ((a + ((0 : Nat) : Int)) % 65536) = true := S.okS_iff.2 ⟨g0, g1, by decide, by omega⟩
        have hz := S.lr_tail (k := 2) (M2 := 1) (ss2 := ([LV.str (S.shw (S.by1 vs o) (S.by1 vs (o + 1)) 0 ((a + ((0 : Nat) : Int)) % 65536))] : List LV)) (X := S.shw (S.by1 vs o) (S.by1 vs (o + 1)) 0 ((a + ((0 : Nat) : Int)) % 65536)) (p := 0) (a := a) (by decide) hR (by omega) (by omega) hW (S.stp_t hC hk) (S.lin_2 hC hk) rfl
        rw [Nat.zero_add] at hz
        obtain ⟨hgo, hlk⟩ := hz
        have hgo : S.lr vs o W a 0 = .str (S.shw (S.by1 vs o) (S.by1 vs (o + 1)) 0 ((a + ((0 : Nat) : Int)) % 65536)) :: S.lr vs o W a 2 := hgo
        have hlk : S.okL vs o W 1 ([LV.str (S.shw (S.by1 vs o) (S.by1 vs (o + 1)) 0 ((a + ((0 : Nat) : Int)) % 65536))] : List LV) a 2 = true := hlk
        have ih := IH 1 ([LV.str (S.shw (S.by1 vs o) (S.by1 vs (o + 1)) 0 ((a + ((0 : Nat) : Int)) % 65536))] : List LV) 2 (by omega) hlk
        simp only [e1, bl, v0, S.q0, show Int.toNat 0 = 0 from rfl, iB, oV, hrf, hk, ww, wa, bt, l12, l22, l32, q13, q23, q33, tn, w1, w2, w3, Nat.add_zero, Nat.zero_add, Nat.mul_one, bc_true, bc_false, notB_t, notB_f, true_and, and_true, hlk, ek, oS, hpl, bl1, v1, n1, m1]
        refine ⟨ih, ?_, ?_⟩
        · unfold S.lrl
          rw [hgo, S.lenL_cons]; omega
        · rw [hgo]; rfl
    · have hC0 : ∀ {x : Nat}, S.len (S.by1 vs o) ≤ x ↔ (3 : Int) ≤ x := by intro x; rw [hk]
      cases hpl : S.pl (S.by1 vs o) with
      | false =>
        have hC : S.isC vs o W = false := S.isC_p hpl
        have hz := S.lr_tail (k := 1) (M2 := 1) (ss2 := ([LV.str (S.bytes vs o 1)] : List LV)) (X := S.bytes vs o 1) (p := 0) (a := a) (by decide) hR (by omega) (by omega) hW (S.stp_f hC) (S.lin_f hC) rfl
        rw [Nat.zero_add] at hz
        obtain ⟨hgo, hlk⟩ := hz
        have hgo : S.lr vs o W a 0 = .str (S.bytes vs o 1) :: S.lr vs o W a 1 := hgo
        have hlk : S.okL vs o W 1 ([LV.str (S.bytes vs o 1)] : List LV) a 1 = true := hlk
        have ih := IH 1 ([LV.str (S.bytes vs o 1)] : List LV) 1 (by omega) hlk
        simp only [e1, bl, v0, S.q0, show Int.toNat 0 = 0 from rfl, iB, oV, hrf, hk, ww, wa, bt, l12, l22, l32, q13, q23, q33, tn, w1, w2, w3, Nat.add_zero, Nat.zero_add, Nat.mul_one, bc_true, bc_false, notB_t, notB_f, true_and, and_true, hlk, hpl]
        refine ⟨ih, ?_, ?_⟩
        · unfold S.lrl
          rw [hgo, S.lenL_cons]; omega
        · rw [hgo]; rfl
      | true =>
        by_cases hkn : 3 ≤ W
        rotate_left
        · have hC : S.isC vs o W = false := S.isC_n (by rw [hk]; omega)
          have ek : ltI ((W : Nat) : Int) 3 = true := ltI_true.2 (by omega)
          have hz := S.lr_tail (k := 1) (M2 := 1) (ss2 := ([LV.str (S.bytes vs o 1)] : List LV)) (X := S.bytes vs o 1) (p := 0) (a := a) (by decide) hR (by omega) (by omega) hW (S.stp_f hC) (S.lin_f hC) rfl
          rw [Nat.zero_add] at hz
          obtain ⟨hgo, hlk⟩ := hz
          have hgo : S.lr vs o W a 0 = .str (S.bytes vs o 1) :: S.lr vs o W a 1 := hgo
          have hlk : S.okL vs o W 1 ([LV.str (S.bytes vs o 1)] : List LV) a 1 = true := hlk
          have ih := IH 1 ([LV.str (S.bytes vs o 1)] : List LV) 1 (by omega) hlk
          simp only [e1, bl, v0, S.q0, show Int.toNat 0 = 0 from rfl, iB, oV, hrf, hk, ww, wa, bt, l12, l22, l32, q13, q23, q33, tn, w1, w2, w3, Nat.add_zero, Nat.zero_add, Nat.mul_one, bc_true, bc_false, notB_t, notB_f, true_and, and_true, hlk, hpl, ek]
          refine ⟨ih, ?_, ?_⟩
          · unfold S.lrl
            rw [hgo, S.lenL_cons]; omega
          · rw [hgo]; rfl
        have hC : S.isC vs o W = true := S.isC_t hpl (by rw [hk]; omega)
        have ek : ltI ((W : Nat) : Int) 3 = false := ltI_false.2 (by omega)
        have bl1 : Nat.ble ((o + 1) + 1) (lenL vs) = true := S.bleN.2 (by omega)
        have g1 := S.okB_at hb (i := (o + 1)) (by omega)
        have v1 : wrapK .i64 (intOf (K.atV vs (o + 1))) = S.by1 vs (o + 1) := by
          show wrapK .i64 (S.by1 vs (o + 1)) = _
          rw [wrapK_i64]; omega
        have n1 : ltI 1 0 = false := ltI_false.2 (by omega)
        have m1 : ltI 1 W = true := ltI_true.2 (by omega)
        have bl2 : Nat.ble ((o + 2) + 1) (lenL vs) = true := S.bleN.2 (by omega)
        have g2 := S.okB_at hb (i := (o + 2)) (by omega)
        have v2 : wrapK .i64 (intOf (K.atV vs (o + 2))) = S.by1 vs (o + 2) := by
          show wrapK .i64 (S.by1 vs (o + 2)) = _
          rw [wrapK_i64]; omega
        have n2 : ltI 2 0 = false := ltI_false.2 (by omega)
        have m2 : ltI 2 W = true := ltI_true.2 (by omega)
        have oS : S.okS (S.by1 vs o) (S.by1 vs (o + 1)) (S.by1 vs (o + 2)) ((a + ((0 : Nat) : Int)) % 65536) = true := S.okS_iff.2 ⟨g0, g1, g2, by omega⟩
        have hz := S.lr_tail (k := 3) (M2 := 1) (ss2 := ([LV.str (S.shw (S.by1 vs o) (S.by1 vs (o + 1)) (S.by1 vs (o + 2)) ((a + ((0 : Nat) : Int)) % 65536))] : List LV)) (X := S.shw (S.by1 vs o) (S.by1 vs (o + 1)) (S.by1 vs (o + 2)) ((a + ((0 : Nat) : Int)) % 65536)) (p := 0) (a := a) (by decide) hR (by omega) (by omega) hW (S.stp_t hC hk) (S.lin_3 hC hk) rfl
        rw [Nat.zero_add] at hz
        obtain ⟨hgo, hlk⟩ := hz
        have hgo : S.lr vs o W a 0 = .str (S.shw (S.by1 vs o) (S.by1 vs (o + 1)) (S.by1 vs (o + 2)) ((a + ((0 : Nat) : Int)) % 65536)) :: S.lr vs o W a 3 := hgo
        have hlk : S.okL vs o W 1 ([LV.str (S.shw (S.by1 vs o) (S.by1 vs (o + 1)) (S.by1 vs (o + 2)) ((a + ((0 : Nat) : Int)) % 65536))] : List LV) a 3 = true := hlk
        have ih := IH 1 ([LV.str (S.shw (S.by1 vs o) (S.by1 vs (o + 1)) (S.by1 vs (o + 2)) ((a + ((0 : Nat) : Int)) % 65536))] : List LV) 3 (by omega) hlk
        simp only [e1, bl, v0, S.q0, show Int.toNat 0 = 0 from rfl, iB, oV, hrf, hk, ww, wa, bt, l12, l22, l32, q13, q23, q33, tn, w1, w2, w3, Nat.add_zero, Nat.zero_add, Nat.mul_one, bc_true, bc_false, notB_t, notB_f, true_and, and_true, hlk, ek, oS, hpl, bl1, v1, n1, m1, bl2, v2, n2, m2]
        refine ⟨ih, ?_, ?_⟩
        · unfold S.lrl
          rw [hgo, S.lenL_cons]; omega
        · rw [hgo]; rfl
theorem lr0_run (a i : Int) (et o W M : Nat) (cp : Cap) (w : Own) (vs ss : List LV) : K.RunL (envL [(25, corE), (28, rlnE), (29, rfE), (11, shrE), (14, hxrE)]) K.openE 30 19 79 (inner (inner (blkOf 19 0))) lrEB [(0, .int .i64 a), (1, .slice 0 o W cp), (5, .slice 1 0 M (.rest 0)), (6, .int .i64 i)] [.flat [.i .u8] et w vs, .flat [.sr] 9 (.grow 1) ss] (.take false .auto) ⟨.exit 0, [(5, .slice 1 0 M (.rest 0))], [], []⟩ =
    ((ltI i ↑W = false ∧ ((0 : Nat) = (0 : Nat) ∧ (M = M ∧ (Cap.rest (0 : Nat) = Cap.rest 0 ∧ True))))) := by kernel_rfl
theorem lr0_con (a i : Int) (et o W M : Nat) (cp : Cap) (w : Own) (vs ss : List LV) (h0 : i = W)  : GT Tryd.prog (fun k => .code (inner (inner (blkOf 19 0))) :: .inLoop (inner (inner (blkOf 19 0))) :: k) (Fr.ofL 19 79 [(0, .int .i64 a), (1, .slice 0 o W cp), (5, .slice 1 0 M (.rest 0)), (6, .int .i64 i)] [] none) (Heap.of [.flat [.i .u8] et w vs, .flat [.sr] 9 (.grow 1) ss]) (⟨.exit 0, [(5, .slice 1 0 M (.rest 0))], [], []⟩ : K.BRes).x (Fr.ofL 19 79 (⟨.exit 0, [(5, .slice 1 0 M (.rest 0))], [], []⟩ : K.BRes).L [] none) (Heap.of (K.chg [.flat [.i .u8] et w vs, .flat [.sr] 9 (.grow 1) ss] (⟨.exit 0, [(5, .slice 1 0 M (.rest 0))], [], []⟩ : K.BRes).ch ++ (⟨.exit 0, [(5, .slice 1 0 M (.rest 0))], [], []⟩ : K.BRes).new)) := by
  refine K.loop_of_run good (A := envL [(25, corE), (28, rlnE), (29, rfE), (11, shrE), (14, hxrE)]) (envL_ok ?_) K.openE_ok (k := 30) (ent := lrEB) (cast (lr0_run a i et o W M cp w vs ss).symm ?_)
  · intro p hp; simp only [List.mem_cons, List.not_mem_nil, or_false] at hp; rcases hp with rfl | rfl | rfl | rfl | rfl <;> first | exact cor_ok | exact rln_ok | exact rf_ok | exact shr_ok | exact hxr_ok
  · have e1 : ltI i W = false := ltI_false.2 (by omega)
    rw [e1]
    exact ⟨rfl, rfl, rfl, rfl, trivial⟩
theorem lr_z (a : Int) (M o W et : Nat) (cp : Cap) (w : Own) (vs ss : List LV) (i : Int) (hi : i = W) : K.LOk Tryd.prog 19 79 (inner (inner (blkOf 19 0))) [0, 1, 5, 6] [.int .i64 a, .slice 0 o W cp, .slice 1 0 M (.rest 0), .int .i64 i] [.flat [.i .u8] et w vs, .flat [.sr] 9 (.grow 1) ss] ⟨.exit 0, [(5, .slice 2 0 (M + S.lrl vs o W a i) (.rest 0))], [(1, .dead)], [.flat [.sr] 9 (.grow 1) (app ss (S.lr vs o W a i))]⟩ := by
  have z0 : S.rem W i = 0 := by unfold S.rem; omega
  have zr : S.lr vs o W a i = [] := by unfold S.lr; rw [z0]; rfl
  have z : S.lrl vs o W a i = 0 := by unfold S.lrl; rw [zr]; rfl
  have z2 : app ss (S.lr vs o W a i) = ss := by rw [zr, K.app_eq, List.append_nil]
  rw [z, z2, Nat.add_zero]
  have h : K.LOk Tryd.prog 19 79 (inner (inner (blkOf 19 0))) [0, 1, 5, 6] [.int .i64 a, .slice 0 o W cp, .slice 1 0 M (.rest 0), .int .i64 i] [.flat [.i .u8] et w vs, .flat [.sr] 9 (.grow 1) ss] ⟨.exit 0, [(5, .slice 1 0 M (.rest 0))], [], []⟩ := lr0_con a i et o W M cp w vs ss hi
  exact K.LOk.mv (L1 := [(5, .slice 2 0 M (.rest 0))]) (j := 1) (o := .flat [.sr] 9 (.grow 1) ss) h rfl (fun v hv => by cases hv) ⟨by (have hg : (Fr.ofL 19 79 [(5, .slice 1 0 M (.rest 0))] [] none).get 5 = .slice 1 0 M (.rest 0) := by kernel_rfl); (show sameV (at_ (K.mvl 2 1)) (.slice 2 0 M (.rest 0)) ((Fr.ofL 19 79 [(5, .slice 1 0 M (.rest 0))] [] none).get 5)); (rw [hg]; simp only [sameV]; repeat' (first | exact rfl | exact trivial | constructor)), trivial⟩ ⟨by (show lt 3 (.slice 2 0 M (.rest 0))); simp [lt], trivial⟩
theorem lr_lok (a : Int) (o W et : Nat) (cp : Cap) (w : Own) (vs : List LV) : ∀ (j : Nat) (M : Nat) (ss : List LV) (i : Int), S.okL vs o W M ss a i = true → S.rem W i = j → K.LOk Tryd.prog 19 79 (inner (inner (blkOf 19 0))) [0, 1, 5, 6] [.int .i64 a, .slice 0 o W cp, .slice 1 0 M (.rest 0), .int .i64 i] [.flat [.i .u8] et w vs, .flat [.sr] 9 (.grow 1) ss] ⟨.exit 0, [(5, .slice 2 0 (M + S.lrl vs o W a i) (.rest 0))], [(1, .dead)], [.flat [.sr] 9 (.grow 1) (app ss (S.lr vs o W a i))]⟩ := by
  intro j
  induction j using Nat.strongRecOn with
  | _ j ih =>
    intro M ss i h0 hm
    have hQ := S.okQ_iff.1 (S.okL_iff.1 h0).1.1
    by_cases h : i < W
    · exact lrB_con a i et o W M cp w vs ss h0 h fun M2 ss2 i2 h2 h3 => by
        have hQ2 := S.okQ_iff.1 (S.okL_iff.1 h3).1.1
        exact ih (S.rem W i2) (by unfold S.rem at hm ⊢; omega) M2 ss2 i2 h3 rfl
    · exact lr_z a M o W et cp w vs ss i (by omega)
theorem lr_blk (a : Int) (o W et : Nat) (cp : Cap) (w : Own) (vs : List LV) (h0 : S.okL vs o W 0 [] a 0 = true) (h1 : 0 < W) : K.BOk Tryd.prog 19 79 (blkOf 19 0) [0, 1, 5, 6] [.int .i64 a, .slice 0 o W cp, .nils, .int .i64 0] [.flat [.i .u8] et w vs] ⟨.normal, [(5, .slice 1 0 (S.lrl vs o W a 0) (.rest 0))], [], [.flat [.sr] 9 (.grow 1) (S.lr vs o W a 0)]⟩ := by
  have hb : blkOf 19 0 = .block 0 (.loop (inner (inner (blkOf 19 0)))) := by kernel_rfl
  unfold K.BOk
  rw [hb]
  exact K.CT.block (K.GT.loop (lrA_con a et o W cp w vs h0 h1 fun M2 ss2 i2 _ h3 => lr_lok a o W et cp w vs _ M2 ss2 i2 h3 rfl))
theorem rlN_run (a : Int) (et o W : Nat) (cp : Cap) (w : Own) (vs : List LV) : K.bodyF (envB [] (fun g id => bc (Nat.beq g 19) (bc (Nat.beq id 0) (some lrFB) (none)) (none))) (K.runF (envB [] (fun g id => bc (Nat.beq g 19) (bc (Nat.beq id 0) (some lrFB) (none)) (none))) 30) 19 [.int .i64 a, .slice 0 o W cp] (Heap.of [.flat [.i .u8] et w vs]) Hint.auto (K.endC K.openE 1 ⟨.ret (.slice 1 0 (S.lrl vs o W a 0) (.rest 0)), [], [.flat [.sr] 9 (.grow 1) (S.lr vs o W a 0)]⟩) =
    (bc (S.an (eqI 0 0) (S.an (S.okL vs o W 0 [] a 0) (Nat.blt 0 W))) (K.BOk Tryd.prog 19 79 (blkOf 19 0) [0, 1, 5, 6] [LV.int IntKind.i64 a, LV.slice 0 o W cp, LV.nils, LV.int IntKind.i64 0] [LObj.flat [CK.i IntKind.u8] et w vs] { x := LX.normal, L := [(5, LV.slice 1 0 (S.lrl vs o W a 0) (Cap.rest 0))], ch := [], new := [LObj.flat [CK.sr] 9 (Own.grow 1) (S.lr vs o W a 0)] } ∧ ((0 : Nat) = (0 : Nat) ∧ (S.lrl vs o W a (0 : Int) = S.lrl vs o W a 0 ∧ (Cap.rest (0 : Nat) = Cap.rest 0 ∧ (S.lr vs o W a (0 : Int) = S.lr vs o W a 0 ∧ True))))) False) := by kernel_rfl
theorem rlN_con (a : Int) (et o W : Nat) (cp : Cap) (w : Own) (vs : List LV) (h0 : S.an (S.okL vs o W 0 [] a 0) (Nat.blt 0 W) = true)  : HT Tryd.prog 19 [.int .i64 a, .slice 0 o W cp] (Heap.of [.flat [.i .u8] et w vs]) (⟨.ret (.slice 1 0 (S.lrl vs o W a 0) (.rest 0)), [], [.flat [.sr] 9 (.grow 1) (S.lr vs o W a 0)]⟩ : K.CRes).e (Heap.of (K.chg [.flat [.i .u8] et w vs] (⟨.ret (.slice 1 0 (S.lrl vs o W a 0) (.rest 0)), [], [.flat [.sr] 9 (.grow 1) (S.lr vs o W a 0)]⟩ : K.CRes).ch ++ (⟨.ret (.slice 1 0 (S.lrl vs o W a 0) (.rest 0)), [], [.flat [.sr] 9 (.grow 1) (S.lr vs o W a 0)]⟩ : K.CRes).new)) := by
  refine K.con_of_run good (A := envB [] (fun g id => bc (Nat.beq g 19) (bc (Nat.beq id 0) (some lrFB) (none)) (none))) (envB_ok ?_) K.openE_ok (k := 30) (cast (rlN_run a et o W cp w vs).symm ?_)
  · intro p hp; cases hp
  · obtain ⟨h1, h2⟩ := S.an_iff.1 h0
    have h2 : 0 < W := Nat.le_of_ble_eq_true h2
    have e0 : eqI 0 0 = true := rfl
    have at2 : S.an true (S.an (S.okL vs o W 0 [] a 0) (Nat.blt 0 W)) = true := h0
    simp only [h0, at2, e0, S.eqI_self, bc_true]
    exact ⟨lr_blk a o W et cp w vs h1 h2, by simp⟩
theorem rl_ok : rlE.ok Tryd.prog 19 := by
  intro xs os b r h h3
  unfold rlE at h
  simp only at h
  split at h
  · injection h with h; injection h with h1 h2; subst h1; subst h2
    exact rlN_con _ _ _ _ _ _ _ h3
  · cases h
theorem smR_run (i : Int) (e1 e2 M : Nat) (w1 w2 : Own) (ss tt : List LV) : K.RunL (envL []) K.openE 30 17 26 (inner (inner (blkOf 17 0))) smEB [(0, .slice 0 0 M (.rest 0)), (1, .slice 1 0 M (.rest 0)), (5, .int .i64 i)] [.flat [.sr] e1 w1 ss, .flat [.sr] e2 w2 tt] (.skip 0 (.fork (.skip 0 (.fork .auto (.skip 1 (.take false .auto)))) .auto)) ⟨.exit 0, [], [], []⟩ =
    (bc (ltI i ↑M) (bc (ltI i 0) False (bc (ltI i ↑M) (bc (Nat.ble (0 + Int.toNat i * 1 + 1) (lenL ss)) (ltI i (0 : Int) = false ∧ bc (ltI i ↑M) (bc (Nat.ble (0 + Int.toNat i * 1 + 1) (lenL tt)) (bc (notB (eqB (strOf (K.atV ss (0 + Int.toNat i * 1))) (strOf (K.atV tt (0 + Int.toNat i * 1))))) False (bc (Nat.beq M M) (K.LOk Tryd.prog 17 26 (inner (inner (blkOf 17 0))) [0, 1, 5] [LV.slice 0 0 M (Cap.rest 0), LV.slice 1 0 M (Cap.rest 0), LV.int IntKind.i64 (wrapK IntKind.i64 (i + 1))] [LObj.flat [CK.sr] e1 w1 ss, LObj.flat [CK.sr] e2 w2 tt] { x := LX.exit 0, L := [], ch := [], new := [] } ∧ True) False)) False) False) False) False)) True) := by kernel_rfl
theorem smR_con (i : Int) (e1 e2 M : Nat) (w1 w2 : Own) (ss tt : List LV) (h0 : S.sam ss tt M = true) (h1 : 0 ≤ i) (h2 : i ≤ M) (h3 : i < M → K.LOk Tryd.prog 17 26 (inner (inner (blkOf 17 0))) [0, 1, 5] [.slice 0 0 M (.rest 0), .slice 1 0 M (.rest 0), .int .i64 (i + 1)] [.flat [.sr] e1 w1 ss, .flat [.sr] e2 w2 tt] ⟨.exit 0, [], [], []⟩)  : GT Tryd.prog (fun k => .code (inner (inner (blkOf 17 0))) :: .inLoop (inner (inner (blkOf 17 0))) :: k) (Fr.ofL 17 26 [(0, .slice 0 0 M (.rest 0)), (1, .slice 1 0 M (.rest 0)), (5, .int .i64 i)] [] none) (Heap.of [.flat [.sr] e1 w1 ss, .flat [.sr] e2 w2 tt]) (⟨.exit 0, [], [], []⟩ : K.BRes).x (Fr.ofL 17 26 (⟨.exit 0, [], [], []⟩ : K.BRes).L [] none) (Heap.of (K.chg [.flat [.sr] e1 w1 ss, .flat [.sr] e2 w2 tt] (⟨.exit 0, [], [], []⟩ : K.BRes).ch ++ (⟨.exit 0, [], [], []⟩ : K.BRes).new)) := by
  refine K.loop_of_run good (A := envL []) (envL_ok ?_) K.openE_ok (k := 30) (ent := smEB) (cast (smR_run i e1 e2 M w1 w2 ss tt).symm ?_)
  · intro p hp; cases hp
  · obtain ⟨⟨hs, ht⟩, hE, hM⟩ := S.sam_iff.1 h0
    have w : wrapK .i64 (i + 1) = i + 1 := by rw [wrapK_i64]; omega
    have e0 : ltI i 0 = false := ltI_false.2 h1
    by_cases hi : i < M
    · have e1 : ltI i M = true := ltI_true.2 hi
      have b1 : Nat.ble (i.toNat + 1) (lenL ss) = true := S.bleN.2 (by omega)
      have b2 : Nat.ble (i.toNat + 1) (lenL tt) = true := S.bleN.2 (by omega)
      have q := S.eqT_at (i := i.toNat) hE (by omega)
      have m : Nat.beq M M = true := S.beqN.2 rfl
      simp only [w, e0, e1, b1, b2, q, m, Nat.zero_add, Nat.mul_one, bc_true, bc_false, notB_t, true_and]
      exact ⟨h3 hi, trivial⟩
    · have e1 : ltI i M = false := ltI_false.2 (by omega)
      simp only [e1, bc_false]
theorem sm_lok (e1 e2 M : Nat) (w1 w2 : Own) (ss tt : List LV) (h0 : S.sam ss tt M = true) : ∀ (j : Nat) (i : Int), 0 ≤ i → i ≤ M → S.rem M i = j → K.LOk Tryd.prog 17 26 (inner (inner (blkOf 17 0))) [0, 1, 5] [.slice 0 0 M (.rest 0), .slice 1 0 M (.rest 0), .int .i64 i] [.flat [.sr] e1 w1 ss, .flat [.sr] e2 w2 tt] ⟨.exit 0, [], [], []⟩ := by
  intro j
  induction j with
  | zero =>
    intro i h1 h2 hm
    exact smR_con i e1 e2 M w1 w2 ss tt h0 h1 h2 fun hk => by unfold S.rem at hm; omega
  | succ j ih =>
    intro i h1 h2 hm
    exact smR_con i e1 e2 M w1 w2 ss tt h0 h1 h2 fun hk => ih (i + 1) (by omega) (by omega) (by unfold S.rem at hm ⊢; omega)
theorem sm_blk (e1 e2 M : Nat) (w1 w2 : Own) (ss tt : List LV) (h0 : S.sam ss tt M = true) : K.BOk Tryd.prog 17 26 (blkOf 17 0) [0, 1, 5] [.slice 0 0 M (.rest 0), .slice 1 0 M (.rest 0), .int .i64 0] [.flat [.sr] e1 w1 ss, .flat [.sr] e2 w2 tt] ⟨.normal, [], [], []⟩ := by
  have hb : blkOf 17 0 = .block 0 (.loop (inner (inner (blkOf 17 0)))) := by kernel_rfl
  unfold K.BOk
  rw [hb]
  exact K.CT.block (K.GT.loop (sm_lok e1 e2 M w1 w2 ss tt h0 _ 0 (by omega) (by omega) rfl))
theorem smF_run (e1 e2 M : Nat) (w1 w2 : Own) (ss tt : List LV) : K.bodyF (envB [] (fun g id => bc (Nat.beq g 17) (bc (Nat.beq id 0) (some smBB) (none)) (none))) (K.runF (envB [] (fun g id => bc (Nat.beq g 17) (bc (Nat.beq id 0) (some smBB) (none)) (none))) 30) 17 [.slice 0 0 M (.rest 0), .slice 1 0 M (.rest 0)] (Heap.of [.flat [.sr] e1 w1 ss, .flat [.sr] e2 w2 tt]) Hint.auto (K.endC K.openE 2 ⟨.ret (.bool true), [], []⟩) =
    (bc (notB (eqI ↑M ↑M)) (true = false ∧ True) (bc (Nat.beq M M) (K.BOk Tryd.prog 17 26 (blkOf 17 0) [0, 1, 5] [LV.slice 0 0 M (Cap.rest 0), LV.slice 1 0 M (Cap.rest 0), LV.int IntKind.i64 0] [LObj.flat [CK.sr] e1 w1 ss, LObj.flat [CK.sr] e2 w2 tt] { x := LX.normal, L := [], ch := [], new := [] } ∧ (true = true ∧ True)) False)) := by kernel_rfl
theorem smF_con (e1 e2 M : Nat) (w1 w2 : Own) (ss tt : List LV) (h0 : S.sam ss tt M = true)  : HT Tryd.prog 17 [.slice 0 0 M (.rest 0), .slice 1 0 M (.rest 0)] (Heap.of [.flat [.sr] e1 w1 ss, .flat [.sr] e2 w2 tt]) (⟨.ret (.bool true), [], []⟩ : K.CRes).e (Heap.of (K.chg [.flat [.sr] e1 w1 ss, .flat [.sr] e2 w2 tt] (⟨.ret (.bool true), [], []⟩ : K.CRes).ch ++ (⟨.ret (.bool true), [], []⟩ : K.CRes).new)) := by
  refine K.con_of_run good (A := envB [] (fun g id => bc (Nat.beq g 17) (bc (Nat.beq id 0) (some smBB) (none)) (none))) (envB_ok ?_) K.openE_ok (k := 30) (cast (smF_run e1 e2 M w1 w2 ss tt).symm ?_)
  · intro p hp; cases hp
  · have m : Nat.beq M M = true := S.beqN.2 rfl
    simp only [m, S.eqI_self, notB_t, bc_true, bc_false]
    exact ⟨sm_blk e1 e2 M w1 w2 ss tt h0, by simp⟩
theorem sm_k (e1 e2 M N : Nat) (w1 w2 : Own) (ss tt : List LV) (h : S.an (Nat.beq N M) (S.sam ss tt M) = true) : HT Tryd.prog 17 [.slice 0 0 M (.rest 0), .slice 1 0 N (.rest 0)] (Heap.of [.flat [.sr] e1 w1 ss, .flat [.sr] e2 w2 tt]) (.ret (.bool true)) (Heap.of [.flat [.sr] e1 w1 ss, .flat [.sr] e2 w2 tt]) := by
  obtain ⟨h1, h2⟩ := S.an_iff.1 h
  have h1 := S.beqN.1 h1
  subst h1
  exact smF_con e1 e2 _ w1 w2 ss tt h2
theorem sm_ok : smE.ok Tryd.prog 17 := by
  intro xs os b r h h3
  unfold smE at h
  simp only at h
  split at h
  · injection h with h; injection h with h1 h2; subst h1; subst h2
    exact sm_k _ _ _ _ _ _ _ _ h3
  · cases h
end Go.Proofs.YtlgfojaalmelhaaDoor.Ev
