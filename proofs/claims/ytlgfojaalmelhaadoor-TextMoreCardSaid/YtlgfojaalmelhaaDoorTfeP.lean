/- Contracts, proved: Tfe. -/
import Derived.Test.YtlgfojaalmelhaaDoorTfeD
import Derived.Test.YtlgfojaalmelhaaDoorTfwP
namespace Go.Proofs.YtlgfojaalmelhaaDoor.Ev
open Go
set_option linter.unusedVariables false
set_option linter.unusedSimpArgs false
set_option maxRecDepth 100000
set_option maxHeartbeats 1000000
namespace S
theorem isW_iff {p : Int} : isW p = true ↔ 0 ≤ p ∧ p < 65536 := by
 unfold isW
 cases h : ltI p 0 with
 | true => rw [bc_true]; have := ltI_true.1 h; exact ⟨fun h => (by cases h), fun h => by omega⟩
 | false => rw [bc_false, ltI_true]; have := ltI_false.1 h; omega
theorem okF_iff {vs : List LV} {W : Nat} {a : Int} : okF vs W a = true ↔ (okB vs = true ∧ lenL vs = W) ∧ W ≤ 1000 ∧ 0 ≤ a ∧ a < 65536 := by unfold okF; rw [an_iff, an_iff, an_iff, beqN, bleN, isW_iff]
theorem okN_iff {es : List LV} {N : Nat} : okN es N = true ↔ N ≤ lenL es ∧ 0 < N ∧ N ≤ 30 := by unfold okN; rw [an_iff, an_iff, bleN, bleN, show Nat.blt 0 N = Nat.ble 1 N from rfl, bleN]; rfl
theorem zr_get (n p : Nat) : (@Nat.rec (fun _ => List LV) [] (fun _ r => app [LV.bool false] r) n)[p]? = if p < n then some (.bool false) else none := by
 induction n generalizing p with
 | zero =>
  show ([] : List LV)[p]? = _
  simp
 | succ n ih =>
  show (app [LV.bool false] (@Nat.rec (fun _ => List LV) [] (fun _ r => app [LV.bool false] r) n))[p]? = _
  rw [K.app_eq, List.singleton_append]
  cases p with
  | zero => simp
  | succ p =>
   rw [List.getElem?_cons_succ, ih]
   by_cases h : p < n
   ·rw [if_pos h, if_pos (by omega)]
   ·rw [if_neg h, if_neg (by omega)]
theorem zr_row (W : Nat) : zr W = row (fun _ => false) W := by
 apply List.ext_getElem?
 intro p
 rw [row_get]
 exact zr_get W p
theorem cnt_le (f : Nat → Bool) : ∀ W, cnt f W ≤ W
 | 0 => Nat.le_refl 0
 | W + 1 => by
  show cnt f W + bc (f W) 0 1 ≤ W + 1
  have := cnt_le f W
  cases f W with
  | true => rw [bc_true]; omega
  | false => rw [bc_false]; omega
theorem ens_len (es : List LV) (a : Int) : ∀ (j i : Nat), lenL (ens es a j i) = j
 | 0, _ => rfl
 | j + 1, i => by show lenL (ens es a j (i + 1)) + 1 = j + 1; rw [ens_len es a j]
theorem ens_at (es : List LV) (a : Int) : ∀ (j i k : Nat), k < j → K.atV (ens es a j i) k = .int .i64 (en es a (i + k))
 | j + 1, i, 0, _ => rfl
 | j + 1, i, k + 1, h => by
  have := ens_at es a j (i + 1) k (by omega)
  rw [show i + (k + 1) = i + 1 + k by omega, ← this]; rfl
theorem inv_start {vs es : List LV} {W N : Nat} {a : Int} (hW : W ≤ 1000) (hN : N ≤ 30) : Inv vs W a (fun _ => false) (zr W) (zr W) (ens es a N 0) N where
 bg := zr_row W
 rc := by
  rw [zr_row]
  refine row_ext fun p _ => eqb ?_
  unfold cvf
  rw [dcd_iff]
  exact ⟨fun h => (by cases h), fun ⟨i, ⟨_, _, h⟩, _⟩ => (by cases h)⟩
 le := by rw [ens_len]; exact Nat.le_refl _
 ms := by have := cnt_le (fun _ => false) W; omega
 ok := fun i _ h => by cases h
 cl := fun i _ h => by cases h
theorem fin_start {vs es : List LV} {W N : Nat} {a : Int} : fin vs W a (zr W) (ens es a N 0) N = flw vs W a es N := by
 unfold fin flw
 refine cvR_congr fun x => ⟨rch_le fun y hv hy => ?_, rch_le fun y hv hy => ?_⟩
 ·rw [zr_row] at hy
  rcases (ini_iff (by rw [ens_len]; exact Nat.le_refl _)).1 hy with ⟨_, _, h⟩ | ⟨k, hk, he⟩
  ·cases h
  ·rw [ens_at es a N 0 k hk, Nat.zero_add] at he
   exact .start ⟨k, hk, he⟩ hv
 ·obtain ⟨k, hk, he⟩ := hy
  rw [zr_row]
  refine .start ((ini_iff (by rw [ens_len]; exact Nat.le_refl _)).2 (.inr ⟨k, hk, ?_⟩)) hv
  rw [ens_at es a N 0 k hk, Nat.zero_add]; exact he
theorem flw_zero {vs es : List LV} {W : Nat} {a : Int} : flw vs W a es 0 = zr W := by
 rw [zr_row]
 unfold flw cvR
 refine row_ext fun p _ => eqb ?_
 rw [dcd_iff]
 constructor
 ·rintro ⟨i, h, _⟩
  exfalso
  have : ∀ x, rch vs W a (fun x => ∃ k, k < 0 ∧ en es a k = x) x → False := by
   intro x hx
   induction hx with
   | start h _ => obtain ⟨k, hk, _⟩ := h; omega
   | step _ _ _ ih => exact ih
  exact this _ h
 ·exact fun h => by cases h
end S
theorem feSR_run (a : Int) (k M : Nat) (ws : List LV) (et c W N q e2 : Nat) (w w2 : Own) (vs rc bg es : List LV) : K.RunL (envL []) K.openE 30 22 81 (inner (inner (blkOf 22 0))) feSEB [(7, .ptr 0 0), (23, .slice 5 0 N (.known q)), (24, .int .i64 N), (25, .int .i64 k)] [.cells 73 .exact [.int .i64 a, .slice 1 0 W (.known c), .slice 2 0 W (.known W), .slice 3 0 W (.known W), .slice 4 0 M (.rest 0)], .flat [.i .u8] et w vs, .flat [.bo] 4 .exact rc, .flat [.bo] 4 .exact bg, .flat [.i .i64] 3 (.grow 1) ws, .flat [.i .u16] e2 w2 es] (.take true .auto) ⟨.exit 0, [(7, .ptr 0 0)], [(0, .cells 73 .exact [.int .i64 a, .slice 1 0 W (.known c), .slice 2 0 W (.known W), .slice 3 0 W (.known W), .slice 6 0 N (.rest 0)]), (4, .dead)], [.flat [.i .i64] 3 (.grow 1) (app ws (S.ens es a (N - k) k))]⟩ =
  ((ltI ↑k ↑N = true ∧ bc (ltI ↑k ↑N) (bc (Nat.ble (0 + Int.toNat ↑k * 1 + 1) (lenL es)) (bc (Nat.ble (0 + M) (lenL ws)) (bc (Nat.ble ((M + 1) * 8) 1099511627776) (bc (S.an (eqI ↑N ↑N) (eqI (wrapK IntKind.i64 (↑k + 1)) ↑(M + 1))) (K.LOk Tryd.prog 22 81 (inner (inner (blkOf 22 0))) [7, 23, 24, 25] [LV.ptr 0 0, LV.slice 5 0 N (Cap.known q), LV.int IntKind.i64 ↑N, LV.int IntKind.i64 (wrapK IntKind.i64 (↑k + 1))] [LObj.cells 73 Own.exact [LV.int IntKind.i64 a, LV.slice 1 0 W (Cap.known c), LV.slice 2 0 W (Cap.known W), LV.slice 3 0 W (Cap.known W), LV.slice 4 0 (M + 1) (Cap.rest 0)], LObj.flat [CK.i IntKind.u8] et w vs, LObj.flat [CK.bo] 4 Own.exact rc, LObj.flat [CK.bo] 4 Own.exact bg, LObj.flat [CK.i IntKind.i64] 3 (Own.grow 1) (app (sub ws 0 M) (sub (setMany [LV.int IntKind.i64 0] 0 [LV.int IntKind.i64 (wrapK IntKind.i64 (wrapK IntKind.i64 (intOf (K.atV es (0 + Int.toNat ↑k * 1))) - a))]) 0 1)), LObj.flat [CK.i IntKind.u16] e2 w2 es] { x := LX.exit 0, L := [(7, LV.ptr 0 0)], ch := [(0, LObj.cells 73 Own.exact [LV.int IntKind.i64 a, LV.slice 1 0 W (Cap.known c), LV.slice 2 0 W (Cap.known W), LV.slice 3 0 W (Cap.known W), LV.slice 6 0 N (Cap.rest 0)]), (4, LObj.dead)], new := [LObj.flat [CK.i IntKind.i64] 3 (Own.grow 1) (app (app (sub ws 0 M) (sub (setMany [LV.int IntKind.i64 0] 0 [LV.int IntKind.i64 (wrapK IntKind.i64 (wrapK IntKind.i64 (intOf (K.atV es (0 + Int.toNat ↑k * 1))) - a))]) 0 1)) (S.ens es a (N - (M + 1)) (M + 1)))] } ∧ ((0 : Nat) = (0 : Nat) ∧ (a = a ∧ ((0 : Nat) = (0 : Nat) ∧ (W = W ∧ (Cap.known c = Cap.known c ∧ ((0 : Nat) = (0 : Nat) ∧ (W = W ∧ (Cap.known W = Cap.known W ∧ ((0 : Nat) = (0 : Nat) ∧ (W = W ∧ (Cap.known W = Cap.known W ∧ ((0 : Nat) = (0 : Nat) ∧ (N = N ∧ (Cap.rest (0 : Nat) = Cap.rest 0 ∧ (app ws (S.ens es a (N - k) k) = app (app (sub ws 0 M) (sub (setMany [LV.int IntKind.i64 0] 0 [LV.int IntKind.i64 (wrapK IntKind.i64 (wrapK IntKind.i64 (intOf (K.atV es (0 + Int.toNat ↑k * 1))) - a))]) 0 1)) (S.ens es a (N - (M + 1)) (M + 1)) ∧ True)))))))))))))))) False) False) False) False) False)) := by kernel_rfl
theorem feSR_con (a : Int) (k M : Nat) (ws : List LV) (et c W N q e2 : Nat) (w w2 : Own) (vs rc bg es : List LV) (hl : lenL ws = M) (hk : k = M) (hN : N ≤ lenL es) (hM : N ≤ 30) (IH : ∀ ws2 : List LV, lenL ws2 = M + 1 → k < N → feS_T a (k + 1) (M + 1) ws2 et c W N q e2 w w2 vs rc bg es) (h : k < N) : GT Tryd.prog (fun k => .code (inner (inner (blkOf 22 0))) :: .inLoop (inner (inner (blkOf 22 0))) :: k) (Fr.ofL 22 81 [(7, .ptr 0 0), (23, .slice 5 0 N (.known q)), (24, .int .i64 N), (25, .int .i64 k)] [] none) (Heap.of [.cells 73 .exact [.int .i64 a, .slice 1 0 W (.known c), .slice 2 0 W (.known W), .slice 3 0 W (.known W), .slice 4 0 M (.rest 0)], .flat [.i .u8] et w vs, .flat [.bo] 4 .exact rc, .flat [.bo] 4 .exact bg, .flat [.i .i64] 3 (.grow 1) ws, .flat [.i .u16] e2 w2 es]) (⟨.exit 0, [(7, .ptr 0 0)], [(0, .cells 73 .exact [.int .i64 a, .slice 1 0 W (.known c), .slice 2 0 W (.known W), .slice 3 0 W (.known W), .slice 6 0 N (.rest 0)]), (4, .dead)], [.flat [.i .i64] 3 (.grow 1) (app ws (S.ens es a (N - k) k))]⟩ : K.BRes).x (Fr.ofL 22 81 (⟨.exit 0, [(7, .ptr 0 0)], [(0, .cells 73 .exact [.int .i64 a, .slice 1 0 W (.known c), .slice 2 0 W (.known W), .slice 3 0 W (.known W), .slice 6 0 N (.rest 0)]), (4, .dead)], [.flat [.i .i64] 3 (.grow 1) (app ws (S.ens es a (N - k) k))]⟩ : K.BRes).L [] none) (Heap.of (K.chg [.cells 73 .exact [.int .i64 a, .slice 1 0 W (.known c), .slice 2 0 W (.known W), .slice 3 0 W (.known W), .slice 4 0 M (.rest 0)], .flat [.i .u8] et w vs, .flat [.bo] 4 .exact rc, .flat [.bo] 4 .exact bg, .flat [.i .i64] 3 (.grow 1) ws, .flat [.i .u16] e2 w2 es] (⟨.exit 0, [(7, .ptr 0 0)], [(0, .cells 73 .exact [.int .i64 a, .slice 1 0 W (.known c), .slice 2 0 W (.known W), .slice 3 0 W (.known W), .slice 6 0 N (.rest 0)]), (4, .dead)], [.flat [.i .i64] 3 (.grow 1) (app ws (S.ens es a (N - k) k))]⟩ : K.BRes).ch ++ (⟨.exit 0, [(7, .ptr 0 0)], [(0, .cells 73 .exact [.int .i64 a, .slice 1 0 W (.known c), .slice 2 0 W (.known W), .slice 3 0 W (.known W), .slice 6 0 N (.rest 0)]), (4, .dead)], [.flat [.i .i64] 3 (.grow 1) (app ws (S.ens es a (N - k) k))]⟩ : K.BRes).new)) := by
 refine K.loop_of_run good (A := envL []) (envL_ok ?_) K.openE_ok (k := 30) (ent := feSEB) (cast (feSR_run a k M ws et c W N q e2 w w2 vs rc bg es).symm ?_)
 ·intro p hp; cases hp
 ·subst hk
  have w0 : wrapK .i64 ((k : Int) + 1) = ((k + 1 : Nat) : Int) := by rw [wrapK_i64]; omega
  have T : ∀ z : Nat, Int.toNat (z : Int) = z := Int.toNat_natCast
  have e1 : ltI (k : Int) N = true := ltI_true.2 (by omega)
  have b1 : Nat.ble (k + 1) (lenL es) = true := S.bleN.2 (by omega)
  have b2 : Nat.ble k (lenL ws) = true := S.bleN.2 (by omega)
  have b3 : Nat.ble ((k + 1) * 8) 1099511627776 = true := S.bleN.2 (by omega)
  have sa := S.sub_all hl
  have st1 : ∀ y : Int, sub (setMany [LV.int .i64 0] 0 [LV.int .i64 y]) 0 1 = [LV.int .i64 y] := fun y => rfl
  have at2 : S.an true true = true := rfl
  have hen : wrapK .i64 (wrapK .i64 (intOf (K.atV es k)) - a) = S.en es a k := by unfold S.en; rw [Int.toNat_natCast, Nat.mul_one, Nat.zero_add]
  have hs : S.ens es a (N - k) k = .int .i64 (S.en es a k) :: S.ens es a (N - (k + 1)) (k + 1) := by
   rw [show N - k = (N - (k + 1)) + 1 by omega]; rfl
  simp only [e1, b1, b2, b3, w0, T, sa, st1, hen, S.eqI_sm, at2, Nat.zero_add, Nat.mul_one, bc_true, true_and, and_true]
  refine ⟨IH (app ws [.int .i64 (S.en es a k)]) (by rw [S.lenL_app, hl]; rfl) h, ?_⟩
  rw [hs, K.app_eq, K.app_eq, K.app_eq, List.append_assoc]; rfl
theorem feSA_run (a : Int) (et c W N q e2 : Nat) (w w2 : Own) (vs rc bg es : List LV) : K.RunL (envL []) K.openE 30 22 81 (inner (inner (blkOf 22 0))) feSEB [(7, .ptr 0 0), (23, .slice 4 0 N (.known q)), (24, .int .i64 N), (25, .int .i64 0)] [.cells 73 .exact [.int .i64 a, .slice 1 0 W (.known c), .slice 2 0 W (.known W), .slice 3 0 W (.known W), .nils], .flat [.i .u8] et w vs, .flat [.bo] 4 .exact rc, .flat [.bo] 4 .exact bg, .flat [.i .u16] e2 w2 es] (.take true .auto) ⟨.exit 0, [(7, .ptr 0 0)], [(0, .cells 73 .exact [.int .i64 a, .slice 1 0 W (.known c), .slice 2 0 W (.known W), .slice 3 0 W (.known W), .slice 5 0 N (.rest 0)])], [.flat [.i .i64] 3 (.grow 1) (S.ens es a N 0)]⟩ =
  ((ltI 0 ↑N = true ∧ bc (ltI 0 ↑N) (bc (Nat.ble 1 (lenL es)) (bc (S.an (eqI ↑N ↑N) (eqI (wrapK IntKind.i64 (0 + 1)) ↑1)) (K.LOk Tryd.prog 22 81 (inner (inner (blkOf 22 0))) [7, 23, 24, 25] [LV.ptr 0 0, LV.slice 5 0 N (Cap.known q), LV.int IntKind.i64 ↑N, LV.int IntKind.i64 (wrapK IntKind.i64 (0 + 1))] [LObj.cells 73 Own.exact [LV.int IntKind.i64 a, LV.slice 1 0 W (Cap.known c), LV.slice 2 0 W (Cap.known W), LV.slice 3 0 W (Cap.known W), LV.slice 4 0 1 (Cap.rest 0)], LObj.flat [CK.i IntKind.u8] et w vs, LObj.flat [CK.bo] 4 Own.exact rc, LObj.flat [CK.bo] 4 Own.exact bg, LObj.flat [CK.i IntKind.i64] 3 (Own.grow 1) [LV.int IntKind.i64 (wrapK IntKind.i64 (wrapK IntKind.i64 (intOf (K.atV es 0)) - a))], LObj.flat [CK.i IntKind.u16] e2 w2 es] { x := LX.exit 0, L := [(7, LV.ptr 0 0)], ch := [(0, LObj.cells 73 Own.exact [LV.int IntKind.i64 a, LV.slice 1 0 W (Cap.known c), LV.slice 2 0 W (Cap.known W), LV.slice 3 0 W (Cap.known W), LV.slice 6 0 N (Cap.rest 0)]), (4, LObj.dead)], new := [LObj.flat [CK.i IntKind.i64] 3 (Own.grow 1) (app [LV.int IntKind.i64 (wrapK IntKind.i64 (wrapK IntKind.i64 (intOf (K.atV es 0)) - a))] (S.ens es a (N - 1) 1))] } ∧ ((0 : Nat) = (0 : Nat) ∧ (a = a ∧ ((0 : Nat) = (0 : Nat) ∧ (W = W ∧ (Cap.known c = Cap.known c ∧ ((0 : Nat) = (0 : Nat) ∧ (W = W ∧ (Cap.known W = Cap.known W ∧ ((0 : Nat) = (0 : Nat) ∧ (W = W ∧ (Cap.known W = Cap.known W ∧ ((0 : Nat) = (0 : Nat) ∧ (N = N ∧ (Cap.rest (0 : Nat) = Cap.rest 0 ∧ (S.ens es a N (0 : Nat) = app [LV.int IntKind.i64 (wrapK IntKind.i64 (wrapK IntKind.i64 (intOf (K.atV es 0)) - a))] (S.ens es a (N - 1) 1) ∧ True)))))))))))))))) False) False) False)) := by kernel_rfl
theorem feSA_con (a : Int) (et c W N q e2 : Nat) (w w2 : Own) (vs rc bg es : List LV) (h : 0 < N) (hN : N ≤ lenL es) (hM : N ≤ 30) (IH : ∀ ws2 : List LV, lenL ws2 = 1 → feS_T a 1 1 ws2 et c W N q e2 w w2 vs rc bg es) : GT Tryd.prog (fun k => .code (inner (inner (blkOf 22 0))) :: .inLoop (inner (inner (blkOf 22 0))) :: k) (Fr.ofL 22 81 [(7, .ptr 0 0), (23, .slice 4 0 N (.known q)), (24, .int .i64 N), (25, .int .i64 0)] [] none) (Heap.of [.cells 73 .exact [.int .i64 a, .slice 1 0 W (.known c), .slice 2 0 W (.known W), .slice 3 0 W (.known W), .nils], .flat [.i .u8] et w vs, .flat [.bo] 4 .exact rc, .flat [.bo] 4 .exact bg, .flat [.i .u16] e2 w2 es]) (⟨.exit 0, [(7, .ptr 0 0)], [(0, .cells 73 .exact [.int .i64 a, .slice 1 0 W (.known c), .slice 2 0 W (.known W), .slice 3 0 W (.known W), .slice 5 0 N (.rest 0)])], [.flat [.i .i64] 3 (.grow 1) (S.ens es a N 0)]⟩ : K.BRes).x (Fr.ofL 22 81 (⟨.exit 0, [(7, .ptr 0 0)], [(0, .cells 73 .exact [.int .i64 a, .slice 1 0 W (.known c), .slice 2 0 W (.known W), .slice 3 0 W (.known W), .slice 5 0 N (.rest 0)])], [.flat [.i .i64] 3 (.grow 1) (S.ens es a N 0)]⟩ : K.BRes).L [] none) (Heap.of (K.chg [.cells 73 .exact [.int .i64 a, .slice 1 0 W (.known c), .slice 2 0 W (.known W), .slice 3 0 W (.known W), .nils], .flat [.i .u8] et w vs, .flat [.bo] 4 .exact rc, .flat [.bo] 4 .exact bg, .flat [.i .u16] e2 w2 es] (⟨.exit 0, [(7, .ptr 0 0)], [(0, .cells 73 .exact [.int .i64 a, .slice 1 0 W (.known c), .slice 2 0 W (.known W), .slice 3 0 W (.known W), .slice 5 0 N (.rest 0)])], [.flat [.i .i64] 3 (.grow 1) (S.ens es a N 0)]⟩ : K.BRes).ch ++ (⟨.exit 0, [(7, .ptr 0 0)], [(0, .cells 73 .exact [.int .i64 a, .slice 1 0 W (.known c), .slice 2 0 W (.known W), .slice 3 0 W (.known W), .slice 5 0 N (.rest 0)])], [.flat [.i .i64] 3 (.grow 1) (S.ens es a N 0)]⟩ : K.BRes).new)) := by
 refine K.loop_of_run good (A := envL []) (envL_ok ?_) K.openE_ok (k := 30) (ent := feSEB) (cast (feSA_run a et c W N q e2 w w2 vs rc bg es).symm ?_)
 ·intro p hp; cases hp
 ·have w0 : wrapK .i64 ((0 : Int) + 1) = ((1 : Nat) : Int) := by rw [wrapK_i64]; rfl
  have e1 : ltI (0 : Int) N = true := ltI_true.2 (by omega)
  have b1 : Nat.ble 1 (lenL es) = true := S.bleN.2 (by omega)
  have at2 : S.an true true = true := rfl
  have hen : wrapK .i64 (wrapK .i64 (intOf (K.atV es 0)) - a) = S.en es a 0 := rfl
  have hs : S.ens es a N 0 = .int .i64 (S.en es a 0) :: S.ens es a (N - 1) 1 := by
   obtain ⟨n, rfl⟩ : ∃ n, N = n + 1 := ⟨N - 1, by omega⟩
   rfl
  simp only [e1, b1, w0, hen, S.eqI_sm, at2, bc_true, true_and, and_true]
  exact ⟨IH [.int .i64 (S.en es a 0)] rfl, hs⟩
theorem feS0_run (a : Int) (k M : Nat) (ws : List LV) (et c W N q e2 : Nat) (w w2 : Own) (vs rc bg es : List LV) : K.RunL (envL []) K.openE 30 22 81 (inner (inner (blkOf 22 0))) feSEB [(7, .ptr 0 0), (23, .slice 5 0 N (.known q)), (24, .int .i64 N), (25, .int .i64 k)] [.cells 73 .exact [.int .i64 a, .slice 1 0 W (.known c), .slice 2 0 W (.known W), .slice 3 0 W (.known W), .slice 4 0 M (.rest 0)], .flat [.i .u8] et w vs, .flat [.bo] 4 .exact rc, .flat [.bo] 4 .exact bg, .flat [.i .i64] 3 (.grow 1) ws, .flat [.i .u16] e2 w2 es] (.take false .auto) ⟨.exit 0, [(7, .ptr 0 0)], [], []⟩ =
  ((ltI ↑k ↑N = false ∧ ((0 : Nat) = (0 : Nat) ∧ True))) := by kernel_rfl
theorem feS0_con (a : Int) (k M : Nat) (ws : List LV) (et c W N q e2 : Nat) (w w2 : Own) (vs rc bg es : List LV) (h0 : k = N)  : GT Tryd.prog (fun k => .code (inner (inner (blkOf 22 0))) :: .inLoop (inner (inner (blkOf 22 0))) :: k) (Fr.ofL 22 81 [(7, .ptr 0 0), (23, .slice 5 0 N (.known q)), (24, .int .i64 N), (25, .int .i64 k)] [] none) (Heap.of [.cells 73 .exact [.int .i64 a, .slice 1 0 W (.known c), .slice 2 0 W (.known W), .slice 3 0 W (.known W), .slice 4 0 M (.rest 0)], .flat [.i .u8] et w vs, .flat [.bo] 4 .exact rc, .flat [.bo] 4 .exact bg, .flat [.i .i64] 3 (.grow 1) ws, .flat [.i .u16] e2 w2 es]) (⟨.exit 0, [(7, .ptr 0 0)], [], []⟩ : K.BRes).x (Fr.ofL 22 81 (⟨.exit 0, [(7, .ptr 0 0)], [], []⟩ : K.BRes).L [] none) (Heap.of (K.chg [.cells 73 .exact [.int .i64 a, .slice 1 0 W (.known c), .slice 2 0 W (.known W), .slice 3 0 W (.known W), .slice 4 0 M (.rest 0)], .flat [.i .u8] et w vs, .flat [.bo] 4 .exact rc, .flat [.bo] 4 .exact bg, .flat [.i .i64] 3 (.grow 1) ws, .flat [.i .u16] e2 w2 es] (⟨.exit 0, [(7, .ptr 0 0)], [], []⟩ : K.BRes).ch ++ (⟨.exit 0, [(7, .ptr 0 0)], [], []⟩ : K.BRes).new)) := by
 refine K.loop_of_run good (A := envL []) (envL_ok ?_) K.openE_ok (k := 30) (ent := feSEB) (cast (feS0_run a k M ws et c W N q e2 w w2 vs rc bg es).symm ?_)
 ·intro p hp; cases hp
 ·have e1 : ltI (k : Int) N = false := ltI_false.2 (by omega)
  rw [e1]
  exact ⟨rfl, rfl, trivial⟩
theorem feS_mv {pre : List Item → List Item} {f1 : Fr} {H : Heap} {x : LX} (a : Int) (ws : List LV) (et c W N q e2 : Nat) (w w2 : Own) (vs rc bg es : List LV) (h : GT Tryd.prog pre f1 H x (Fr.ofL 22 81 [(7, .ptr 0 0)] [] none) (Heap.of [.cells 73 .exact [.int .i64 a, .slice 1 0 W (.known c), .slice 2 0 W (.known W), .slice 3 0 W (.known W), .slice 4 0 N (.rest 0)], .flat [.i .u8] et w vs, .flat [.bo] 4 .exact rc, .flat [.bo] 4 .exact bg, .flat [.i .i64] 3 (.grow 1) ws, .flat [.i .u16] e2 w2 es])) (hn : H.n ≤ 6) (hx : ∀ v, x ≠ .pan v) :
  GT Tryd.prog pre f1 H x (Fr.ofL 22 81 [(7, .ptr 0 0)] [] none) (Heap.of [.cells 73 .exact [.int .i64 a, .slice 1 0 W (.known c), .slice 2 0 W (.known W), .slice 3 0 W (.known W), .slice 6 0 N (.rest 0)], .flat [.i .u8] et w vs, .flat [.bo] 4 .exact rc, .flat [.bo] 4 .exact bg, .dead, .flat [.i .u16] e2 w2 es, .flat [.i .i64] 3 (.grow 1) ws]) := by
 have h7 : at_ (K.mvl 6 4) 6 = 4 := rfl
 refine K.GT_mv2 (os := [.cells 73 .exact [.int .i64 a, .slice 1 0 W (.known c), .slice 2 0 W (.known W), .slice 3 0 W (.known W), .slice 4 0 N (.rest 0)], .flat [.i .u8] et w vs, .flat [.bo] 4 .exact rc, .flat [.bo] 4 .exact bg, .flat [.i .i64] 3 (.grow 1) ws, .flat [.i .u16] e2 w2 es]) (j := 4) h hn (by show 4 < 6; decide) rfl (fun _ => rfl) ?_ hx ⟨by (have hg : (Fr.ofL 22 81 [(7, .ptr 0 0)] [] none).get 7 = .ptr 0 0 := by kernel_rfl); (show sameV (at_ (K.mvl 6 4)) (.ptr 0 0) ((Fr.ofL 22 81 [(7, .ptr 0 0)] [] none).get 7)); (rw [hg]; simp only [sameV]; repeat' (first | exact rfl | exact trivial | constructor)), trivial⟩ ⟨by (show lt 7 (.ptr 0 0)); simp [lt], trivial⟩
 intro i h1 h2
 have hcase : i = 0 ∨ i = 1 ∨ i = 2 ∨ i = 3 ∨ i = 5 ∨ i = 6 := by
  have : i < 7 := h1
  omega
 rcases hcase with rfl | rfl | rfl | rfl | rfl | rfl
 ·exact ⟨(by show 0 < 6; decide), (by show sameObj (at_ (K.mvl 6 4)) (.cells 73 .exact [.int .i64 a, .slice 1 0 W (.known c), .slice 2 0 W (.known W), .slice 3 0 W (.known W), .slice 6 0 N (.rest 0)]) (.cells 73 .exact [.int .i64 a, .slice 1 0 W (.known c), .slice 2 0 W (.known W), .slice 3 0 W (.known W), .slice 4 0 N (.rest 0)]); simp [sameObj, sameVs, sameV]; repeat' (first | exact h7 | exact rfl | exact trivial | constructor)), (by simp [ltObj, lts, lt])⟩
 ·exact ⟨(by show 1 < 6; decide), (by show sameObj (at_ (K.mvl 6 4)) (.flat [.i .u8] et w vs) (.flat [.i .u8] et w vs); simp [sameObj, sameVs, sameV]), (by simp [ltObj])⟩
 ·exact ⟨(by show 2 < 6; decide), (by show sameObj (at_ (K.mvl 6 4)) (.flat [.bo] 4 .exact rc) (.flat [.bo] 4 .exact rc); simp [sameObj, sameVs, sameV]), (by simp [ltObj])⟩
 ·exact ⟨(by show 3 < 6; decide), (by show sameObj (at_ (K.mvl 6 4)) (.flat [.bo] 4 .exact bg) (.flat [.bo] 4 .exact bg); simp [sameObj, sameVs, sameV]), (by simp [ltObj])⟩
 ·exact ⟨(by show 5 < 6; decide), (by show sameObj (at_ (K.mvl 6 4)) (.flat [.i .u16] e2 w2 es) (.flat [.i .u16] e2 w2 es); simp [sameObj, sameVs, sameV]), (by simp [ltObj])⟩
 ·exact ⟨(by show 4 < 6; decide), (by show sameObj (at_ (K.mvl 6 4)) (.flat [.i .i64] 3 (.grow 1) ws) (.flat [.i .i64] 3 (.grow 1) ws); simp [sameObj, sameVs, sameV]), (by simp [ltObj])⟩
theorem feS_lok (a : Int) (et c W N q e2 : Nat) (w w2 : Own) (vs rc bg es : List LV) (hN : N ≤ lenL es) (hM : N ≤ 30) : ∀ (j k : Nat) (ws : List LV), lenL ws = k → k ≤ N → N - k = j → feS_T a k k ws et c W N q e2 w w2 vs rc bg es := by
 intro j
 induction j with
 | zero =>
  intro k ws hl h1 h2
  have hk : k = N := by omega
  subst hk
  have z : S.ens es a (k - k) k = [] := by rw [Nat.sub_self]; rfl
  have z2 : app ws (S.ens es a (k - k) k) = ws := by rw [z, K.app_eq, List.append_nil]
  unfold feS_T
  rw [z2]
  exact feS_mv a ws et c W k q e2 w w2 vs rc bg es (feS0_con a k k ws et c W k q e2 w w2 vs rc bg es rfl) (Nat.le_refl _) (fun v e => by cases e)
 | succ j ih =>
  intro k ws hl h1 h2
  exact feSR_con a k k ws et c W N q e2 w w2 vs rc bg es hl rfl hN hM (fun ws2 h3 h4 => ih (k + 1) ws2 h3 (by omega) (by omega)) (by omega)
theorem feS_blk (a : Int) (et c W N q e2 : Nat) (w w2 : Own) (vs rc bg es : List LV) (h : 0 < N) (hN : N ≤ lenL es) (hM : N ≤ 30) : K.BOk Tryd.prog 22 81 (blkOf 22 0) [7, 23, 24, 25] [.ptr 0 0, .slice 4 0 N (.known q), .int .i64 N, .int .i64 0] [.cells 73 .exact [.int .i64 a, .slice 1 0 W (.known c), .slice 2 0 W (.known W), .slice 3 0 W (.known W), .nils], .flat [.i .u8] et w vs, .flat [.bo] 4 .exact rc, .flat [.bo] 4 .exact bg, .flat [.i .u16] e2 w2 es] ⟨.normal, [(7, .ptr 0 0)], [(0, .cells 73 .exact [.int .i64 a, .slice 1 0 W (.known c), .slice 2 0 W (.known W), .slice 3 0 W (.known W), .slice 5 0 N (.rest 0)])], [.flat [.i .i64] 3 (.grow 1) (S.ens es a N 0)]⟩ := by
 have hb2 : blkOf 22 0 = .block 0 (.loop (inner (inner (blkOf 22 0)))) := by kernel_rfl
 unfold K.BOk
 rw [hb2]
 exact K.CT.block (K.GT.loop (feSA_con a et c W N q e2 w w2 vs rc bg es h hN hM fun ws2 h3 => feS_lok a et c W N q e2 w w2 vs rc bg es hN hM _ 1 ws2 h3 (by omega) rfl))
theorem fwS_run (m a : Int) (et c W N q e2 : Nat) (w w2 : Own) (vs es : List LV) : K.bodyF (envB [] (fun g id => bc (Nat.beq g 22) (bc (Nat.beq id 0) (some feSBB) (bc (Nat.beq g 22) (bc (Nat.beq id 2) (some wlBB) (none)) (none))) (bc (Nat.beq g 22) (bc (Nat.beq id 2) (some wlBB) (none)) (none)))) (K.runF (envB [] (fun g id => bc (Nat.beq g 22) (bc (Nat.beq id 0) (some feSBB) (bc (Nat.beq g 22) (bc (Nat.beq id 2) (some wlBB) (none)) (none))) (bc (Nat.beq g 22) (bc (Nat.beq id 2) (some wlBB) (none)) (none)))) 30) 22 [.int .u16 a, .slice 0 0 W (.known c), .slice 1 0 N (.known q)] (Heap.of [.flat [.i .u8] et w vs, .flat [.i .u16] e2 w2 es, .glob 0 S.tabV, .glob 1 [.int .i64 m]]) Hint.auto (K.endC K.openE 4 ⟨.ret (.slice 4 0 W (.known W)), [], [.flat [.bo] 4 .exact (S.flw vs W a es N)]⟩) =
  (bc (notB (ltI ↑W ↑W)) (bc (notB (ltI 1073741824 (↑W * ↑1))) (bc (notB (ltI 1073741824 ↑W)) (bc (notB (ltI ↑W ↑W)) (bc (notB (ltI 1073741824 (↑W * ↑1))) (bc (notB (ltI 1073741824 ↑W)) (bc (S.an (eqI ↑N ↑N) (S.an (eqI 0 0) (S.okN es N))) (K.BOk Tryd.prog 22 81 (blkOf 22 0) [7, 23, 24, 25] [LV.ptr 0 0, LV.slice 4 0 N (Cap.known q), LV.int IntKind.i64 ↑N, LV.int IntKind.i64 0] [LObj.cells 73 Own.exact [LV.int IntKind.i64 (wrapK IntKind.i64 a), LV.slice 1 0 W (Cap.known c), LV.slice 2 0 (Int.toNat ↑W) (Cap.known (Int.toNat ↑W)), LV.slice 3 0 (Int.toNat ↑W) (Cap.known (Int.toNat ↑W)), LV.nils], LObj.flat [CK.i IntKind.u8] et w vs, LObj.flat [CK.bo] 4 Own.exact (S.zr W), LObj.flat [CK.bo] 4 Own.exact (S.zr W), LObj.flat [CK.i IntKind.u16] e2 w2 es] { x := LX.normal, L := [(7, LV.ptr 0 0)], ch := [(0, LObj.cells 73 Own.exact [LV.int IntKind.i64 (wrapK IntKind.i64 a), LV.slice 1 0 W (Cap.known c), LV.slice 2 0 (Int.toNat ↑W) (Cap.known (Int.toNat ↑W)), LV.slice 3 0 (Int.toNat ↑W) (Cap.known (Int.toNat ↑W)), LV.slice 5 0 N (Cap.rest 0)])], new := [LObj.flat [CK.i IntKind.i64] 3 (Own.grow 1) (S.ens es (wrapK IntKind.i64 a) N 0)] } ∧ (K.BOk Tryd.prog 22 81 (blkOf 22 2) [7] [LV.ptr 0 0] [LObj.cells 73 Own.exact [LV.int IntKind.i64 (wrapK IntKind.i64 a), LV.slice 1 0 W (Cap.known c), LV.slice 2 0 (Int.toNat ↑W) (Cap.known (Int.toNat ↑W)), LV.slice 3 0 (Int.toNat ↑W) (Cap.known (Int.toNat ↑W)), LV.slice 4 0 N (Cap.rest 0)], LObj.flat [CK.i IntKind.u8] et w vs, LObj.flat [CK.bo] 4 Own.exact (S.zr W), LObj.flat [CK.bo] 4 Own.exact (S.zr W), LObj.flat [CK.i IntKind.i64] 3 (Own.grow 1) (S.ens es (wrapK IntKind.i64 a) N 0), LObj.glob 0 S.tabV, LObj.glob 1 [LV.int IntKind.i64 m]] { x := LX.normal, L := [(7, LV.ptr 0 0)], ch := [(0, LObj.cells 73 Own.exact [LV.int IntKind.i64 (wrapK IntKind.i64 a), LV.slice 1 0 W (Cap.known c), LV.slice 2 0 (Int.toNat ↑W) (Cap.known (Int.toNat ↑W)), LV.slice 3 0 (Int.toNat ↑W) (Cap.known (Int.toNat ↑W)), LV.slice 7 0 0 (Cap.rest 0)]), (2, LObj.flat [CK.bo] 4 Own.exact (S.fin vs W (wrapK IntKind.i64 a) (S.zr W) (S.ens es (wrapK IntKind.i64 a) N 0) N)), (3, LObj.dead), (4, LObj.dead)], new := [LObj.dead] } ∧ ((0 : Nat) = (0 : Nat) ∧ (W = Int.toNat ↑W ∧ (Cap.known W = Cap.known (Int.toNat ↑W) ∧ (S.flw vs W a es N = S.fin vs W (wrapK IntKind.i64 a) (S.zr W) (S.ens es (wrapK IntKind.i64 a) N 0) N ∧ True)))))) False) False) False) False) False) False) False) := by kernel_rfl
theorem fwS_con (m a : Int) (et c W N q e2 : Nat) (w w2 : Own) (vs es : List LV) (h0 : S.an (S.okF vs W a) (S.okN es N) = true)  : HT Tryd.prog 22 [.int .u16 a, .slice 0 0 W (.known c), .slice 1 0 N (.known q)] (Heap.of [.flat [.i .u8] et w vs, .flat [.i .u16] e2 w2 es, .glob 0 S.tabV, .glob 1 [.int .i64 m]]) (⟨.ret (.slice 4 0 W (.known W)), [], [.flat [.bo] 4 .exact (S.flw vs W a es N)]⟩ : K.CRes).e (Heap.of (K.chg [.flat [.i .u8] et w vs, .flat [.i .u16] e2 w2 es, .glob 0 S.tabV, .glob 1 [.int .i64 m]] (⟨.ret (.slice 4 0 W (.known W)), [], [.flat [.bo] 4 .exact (S.flw vs W a es N)]⟩ : K.CRes).ch ++ (⟨.ret (.slice 4 0 W (.known W)), [], [.flat [.bo] 4 .exact (S.flw vs W a es N)]⟩ : K.CRes).new)) := by
 refine K.con_of_run good (A := envB [] (fun g id => bc (Nat.beq g 22) (bc (Nat.beq id 0) (some feSBB) (bc (Nat.beq g 22) (bc (Nat.beq id 2) (some wlBB) (none)) (none))) (bc (Nat.beq g 22) (bc (Nat.beq id 2) (some wlBB) (none)) (none)))) (envB_ok ?_) K.openE_ok (k := 30) (cast (fwS_run m a et c W N q e2 w w2 vs es).symm ?_)
 ·intro p hp; cases hp
 ·obtain ⟨hF, hO⟩ := S.an_iff.1 h0
  obtain ⟨⟨hb, hl⟩, hW, hA⟩ := S.okF_iff.1 hF
  have wa : wrapK .i64 a = a := by rw [wrapK_i64]; omega
  have c1 : ltI (W : Int) W = false := ltI_false.2 (Int.le_refl _)
  have c2 : ltI 1073741824 ((W : Int) * 1) = false := ltI_false.2 (by omega)
  have c3 : ltI 1073741824 (W : Int) = false := ltI_false.2 (by omega)
  have tn : Int.toNat (W : Int) = W := Int.toNat_natCast W
  obtain ⟨hN, h1, hM⟩ := S.okN_iff.1 hO
  have at2 : S.an true true = true := rfl
  have e0 : eqI 0 0 = true := rfl
  have hI := S.inv_start (vs := vs) (es := es) (a := a) (N := N) hW hM
  simp only [wa, c1, c2, c3, tn, hO, at2, e0, S.eqI_sm, notB_f, bc_true, S.fin_start, and_true]
  exact ⟨feS_blk a et c W N q e2 w w2 vs (S.zr W) (S.zr W) es h1 hN hM, by
   have h := wl_blk m a et c W N w vs (S.zr W) (S.zr W) (S.ens es a N 0) _ hb hl hW hA hI
   rw [S.fin_start] at h
   exact h⟩
theorem fwZ_run (m a : Int) (et c W q e2 : Nat) (w w2 : Own) (vs es : List LV) : K.bodyF (envL []) (K.runF (envL []) 30) 22 [.int .u16 a, .slice 0 0 W (.known c), .slice 1 0 0 (.known q)] (Heap.of [.flat [.i .u8] et w vs, .flat [.i .u16] e2 w2 es, .glob 0 S.tabV, .glob 1 [.int .i64 m]]) Hint.auto (K.endC K.openE 4 ⟨.ret (.slice 4 0 W (.known W)), [], [.flat [.bo] 4 .exact (S.flw vs W a es 0)]⟩) =
  (bc (notB (ltI ↑W ↑W)) (bc (notB (ltI 1073741824 (↑W * ↑1))) (bc (notB (ltI 1073741824 ↑W)) (bc (notB (ltI ↑W ↑W)) (bc (notB (ltI 1073741824 (↑W * ↑1))) (bc (notB (ltI 1073741824 ↑W)) ((0 : Nat) = (0 : Nat) ∧ (W = Int.toNat ↑W ∧ (Cap.known W = Cap.known (Int.toNat ↑W) ∧ (S.flw vs W a es (0 : Nat) = S.zr W ∧ True)))) False) False) False) False) False) False) := by kernel_rfl
theorem fwZ_con (m a : Int) (et c W q e2 : Nat) (w w2 : Own) (vs es : List LV) (h0 : S.okF vs W a = true)  : HT Tryd.prog 22 [.int .u16 a, .slice 0 0 W (.known c), .slice 1 0 0 (.known q)] (Heap.of [.flat [.i .u8] et w vs, .flat [.i .u16] e2 w2 es, .glob 0 S.tabV, .glob 1 [.int .i64 m]]) (⟨.ret (.slice 4 0 W (.known W)), [], [.flat [.bo] 4 .exact (S.flw vs W a es 0)]⟩ : K.CRes).e (Heap.of (K.chg [.flat [.i .u8] et w vs, .flat [.i .u16] e2 w2 es, .glob 0 S.tabV, .glob 1 [.int .i64 m]] (⟨.ret (.slice 4 0 W (.known W)), [], [.flat [.bo] 4 .exact (S.flw vs W a es 0)]⟩ : K.CRes).ch ++ (⟨.ret (.slice 4 0 W (.known W)), [], [.flat [.bo] 4 .exact (S.flw vs W a es 0)]⟩ : K.CRes).new)) := by
 refine K.con_of_run good (A := envL []) (envL_ok ?_) K.openE_ok (k := 30) (cast (fwZ_run m a et c W q e2 w w2 vs es).symm ?_)
 ·intro p hp; cases hp
 ·obtain ⟨⟨hb, hl⟩, hW, hA⟩ := S.okF_iff.1 h0
  have wa : wrapK .i64 a = a := by rw [wrapK_i64]; omega
  have c1 : ltI (W : Int) W = false := ltI_false.2 (Int.le_refl _)
  have c2 : ltI 1073741824 ((W : Int) * 1) = false := ltI_false.2 (by omega)
  have c3 : ltI 1073741824 (W : Int) = false := ltI_false.2 (by omega)
  have tn : Int.toNat (W : Int) = W := Int.toNat_natCast W
  simp only [c1, c2, c3, tn, S.flw_zero, notB_f, bc_true, and_self]
end Go.Proofs.YtlgfojaalmelhaaDoor.Ev
