/- Contracts, proved: Twd. -/
import Derived.Test.YtlgfojaalmelhaaDoorTwdD
import Derived.Test.YtlgfojaalmelhaaDoorArg
namespace Go.Proofs.YtlgfojaalmelhaaDoor.Ev
open Go
set_option linter.unusedVariables false
set_option linter.unusedSimpArgs false
set_option maxRecDepth 100000
set_option maxHeartbeats 1000000
namespace S
theorem okW_iff {s : List UInt8} {n : Int} : okW s n = true ↔ s.length ≤ 1000000 ∧ -1 ≤ n ∧ n < 1000000 := by
 unfold okW
 rw [K.lenL_eq]
 cases h1 : Nat.ble s.length 1000000 with
 | false => rw [bc_false]; exact ⟨fun h => (by cases h), fun h => by have := Nat.ble_eq_true_of_le h.1; rw [h1] at this; cases this⟩
 | true =>
  have h1 := Nat.le_of_ble_eq_true h1
  rw [bc_true]
  cases h2 : ltI n (-1) with
  | true => rw [bc_true]; have := ltI_true.1 h2; exact ⟨fun h => (by cases h), fun h => by omega⟩
  | false => rw [bc_false]; have := ltI_false.1 h2; rw [ltI_true]; omega
theorem wordA_step {s : List UInt8} {n c i : Int} {a : List UInt8} (h0 : 0 ≤ i) (h1 : i < s.length) : wordA s n c a i = bc (eqI (K.byteAt s i.toNat) c) (wordA s (n - 1) c a (i + 1)) (bc (eqI n 0) (wordA s n c (a ++ [s.getD i.toNat 0]) (i + 1)) (wordA s n c a (i + 1))) := by
 have hl : i.toNat < s.length := by omega
 have e1 : (i + 1).toNat = i.toNat + 1 := by omega
 have ed : s.drop i.toNat = s[i.toNat] :: s.drop (i.toNat + 1) := List.drop_eq_getElem_cons hl
 have eg : s.getD i.toNat 0 = s[i.toNat] := by rw [List.getD_eq_getElem?_getD, List.getElem?_eq_getElem hl]; rfl
 unfold wordA
 rw [e1, ed, eg, show K.byteAt s i.toNat = Int.ofNat (s[i.toNat]).toNat from by unfold K.byteAt; rw [eg]]
 show a ++ bc (eqI (Int.ofNat (s[i.toNat]).toNat) c) (wordF c (s.drop (i.toNat + 1)) (n - 1)) (bc (eqI n 0) (s[i.toNat] :: wordF c (s.drop (i.toNat + 1)) n) (wordF c (s.drop (i.toNat + 1)) n)) = _
 cases eqI (Int.ofNat (s[i.toNat]).toNat) c with
 | true => rfl
 | false =>
  rw [bc_false, bc_false]
  cases eqI n 0 with
  | true => rw [bc_true, bc_true, List.append_assoc]; rfl
  | false => rfl
theorem wordA_end {s : List UInt8} {n c i : Int} {a : List UInt8} (h1 : (s.length : Int) ≤ i) : wordA s n c a i = a := by
 unfold wordA
 rw [List.drop_eq_nil_of_le (by omega)]
 exact List.append_nil a
theorem tk1 {s : List UInt8} {i : Int} (h0 : 0 ≤ i) (h1 : i < s.length) : takeB (dropB s i.toNat) ((i + 1).toNat - i.toNat) = [s.getD i.toNat 0] := by
 have hl : i.toNat < s.length := by omega
 have e1 : (i + 1).toNat - i.toNat = 1 := by omega
 rw [e1, takeB_eq, dropB_eq, List.drop_eq_getElem_cons hl, List.getD_eq_getElem?_getD, List.getElem?_eq_getElem hl]
 rfl
end S
theorem wdR_run (s : List UInt8) (n c i : Int) (a : List UInt8) : K.RunL (envL []) K.openE 30 37 32 (inner (inner (blkOf 37 0))) wdLB [(0, .str s), (1, .int .i64 n), (2, .int .u8 c), (7, .str a), (8, .int .i64 i)] [] Hint.auto ⟨.exit 0, [(7, .str (S.wordA s n c a i))], [], []⟩ =
  (bc (ltI i ↑(lenL s)) (bc (notB (ltI i (0 : Int))) (bc (ltI i ↑(lenL s)) (bc (eqI (K.byteAt s (Int.toNat i)) c) (K.LOk Tryd.prog 37 32 (inner (inner (blkOf 37 0))) [(0 : Nat), (1 : Nat), (2 : Nat), (7 : Nat), (8 : Nat)] [LV.str s, LV.int IntKind.i64 (wrapK IntKind.i64 (n - (1 : Int))), LV.int IntKind.u8 c, LV.str a, LV.int IntKind.i64 (wrapK IntKind.i64 (i + (1 : Int)))] [] { x := LX.exit (0 : Nat), L := [((7 : Nat), LV.str (S.wordA s (wrapK IntKind.i64 (n - (1 : Int))) c a (wrapK IntKind.i64 (i + (1 : Int)))))], ch := [], new := [] } ∧ (S.wordA s n c a i = S.wordA s (wrapK IntKind.i64 (n - (1 : Int))) c a (wrapK IntKind.i64 (i + (1 : Int))) ∧ True)) (bc (eqI n (0 : Int)) (bc (notB (ltI (wrapK IntKind.i64 (i + (1 : Int))) (0 : Int))) (bc (notB (ltI i (0 : Int))) (bc (Nat.ble (Int.toNat (wrapK IntKind.i64 (i + (1 : Int)))) (lenL s)) (bc (Nat.ble (Int.toNat i) (Int.toNat (wrapK IntKind.i64 (i + (1 : Int))))) (bc (Nat.ble (lenL a + lenL (takeB (dropB s (Int.toNat i)) (Int.toNat (wrapK IntKind.i64 (i + (1 : Int))) - Int.toNat i))) (4611686018427387904 : Nat)) (K.LOk Tryd.prog 37 32 (inner (inner (blkOf 37 0))) [(0 : Nat), (1 : Nat), (2 : Nat), (7 : Nat), (8 : Nat)] [LV.str s, LV.int IntKind.i64 n, LV.int IntKind.u8 c, LV.str (app a (takeB (dropB s (Int.toNat i)) (Int.toNat (wrapK IntKind.i64 (i + (1 : Int))) - Int.toNat i))), LV.int IntKind.i64 (wrapK IntKind.i64 (i + (1 : Int)))] [] { x := LX.exit (0 : Nat), L := [((7 : Nat), LV.str (S.wordA s n c (app a (takeB (dropB s (Int.toNat i)) (Int.toNat (wrapK IntKind.i64 (i + (1 : Int))) - Int.toNat i))) (wrapK IntKind.i64 (i + (1 : Int)))))], ch := [], new := [] } ∧ (S.wordA s n c a i = S.wordA s n c (app a (takeB (dropB s (Int.toNat i)) (Int.toNat (wrapK IntKind.i64 (i + (1 : Int))) - Int.toNat i))) (wrapK IntKind.i64 (i + (1 : Int))) ∧ True)) False) False) False) False) False) (K.LOk Tryd.prog 37 32 (inner (inner (blkOf 37 0))) [(0 : Nat), (1 : Nat), (2 : Nat), (7 : Nat), (8 : Nat)] [LV.str s, LV.int IntKind.i64 n, LV.int IntKind.u8 c, LV.str a, LV.int IntKind.i64 (wrapK IntKind.i64 (i + (1 : Int)))] [] { x := LX.exit (0 : Nat), L := [((7 : Nat), LV.str (S.wordA s n c a (wrapK IntKind.i64 (i + (1 : Int)))))], ch := [], new := [] } ∧ (S.wordA s n c a i = S.wordA s n c a (wrapK IntKind.i64 (i + (1 : Int))) ∧ True)))) False) False) (S.wordA s n c a i = a ∧ True)) := by kernel_rfl
theorem wdR_con (s : List UInt8) (n c i : Int) (a : List UInt8) (h0 : s.length ≤ 1000000) (h1 : 0 ≤ i) (h2 : i ≤ s.length) (h3 : a.length ≤ i) (h4 : -3000000 ≤ n) (h5 : n ≤ 2000000) (h6 : ∀ (n2 : Int) (a2 : List UInt8), i < s.length → n - 1 ≤ n2 → n2 ≤ n → a2.length ≤ a.length + 1 → K.LOk Tryd.prog 37 32 (inner (inner (blkOf 37 0))) [0, 1, 2, 7, 8] [.str s, .int .i64 n2, .int .u8 c, .str a2, .int .i64 (i + 1)] [] ⟨.exit 0, [(7, .str (S.wordA s n2 c a2 (i + 1)))], [], []⟩)  : GT Tryd.prog (fun k => .code (inner (inner (blkOf 37 0))) :: .inLoop (inner (inner (blkOf 37 0))) :: k) (Fr.ofL 37 32 [(0, .str s), (1, .int .i64 n), (2, .int .u8 c), (7, .str a), (8, .int .i64 i)] [] none) (Heap.of []) (⟨.exit 0, [(7, .str (S.wordA s n c a i))], [], []⟩ : K.BRes).x (Fr.ofL 37 32 (⟨.exit 0, [(7, .str (S.wordA s n c a i))], [], []⟩ : K.BRes).L [] none) (Heap.of (K.chg [] (⟨.exit 0, [(7, .str (S.wordA s n c a i))], [], []⟩ : K.BRes).ch ++ (⟨.exit 0, [(7, .str (S.wordA s n c a i))], [], []⟩ : K.BRes).new)) := by
 refine K.loop_of_run good (A := envL []) (envL_ok ?_) K.openE_ok (k := 30) (ent := wdLB) (cast (wdR_run s n c i a).symm ?_)
 ·intro p hp; cases hp
 ·by_cases hi : i < s.length
  ·have w1 : wrapK .i64 (i + 1) = i + 1 := by rw [wrapK_i64]; omega
   have w2 : wrapK .i64 (n - 1) = n - 1 := by rw [wrapK_i64]; omega
   have e0 : ltI i ((lenL s : Nat) : Int) = true := ltI_true.2 (by rw [K.lenL_eq]; exact hi)
   have e1 : ltI i 0 = false := ltI_false.2 h1
   have e2 : ltI (i + 1) 0 = false := ltI_false.2 (by omega)
   have b1 : Nat.ble (i + 1).toNat (lenL s) = true := Nat.ble_eq_true_of_le (by rw [K.lenL_eq]; omega)
   have b2 : Nat.ble i.toNat (i + 1).toNat = true := Nat.ble_eq_true_of_le (by omega)
   have b3 : Nat.ble (lenL a + lenL [s.getD i.toNat 0]) 4611686018427387904 = true := Nat.ble_eq_true_of_le (by rw [K.lenL_eq, K.lenL_eq, List.length_singleton]; omega)
   simp only [e0, e1, e2, w1, w2, b1, b2, S.tk1 h1 hi, b3, notB_f, bc_true]
   rw [S.wordA_step h1 hi, app_eq]
   refine bcI (fun c1 => ?_) (fun c1 => bcI (fun c2 => ?_) (fun c2 => ?_))
   ·rw [c1, bc_true]; exact ⟨h6 _ _ hi (by omega) (by omega) (by omega), rfl, trivial⟩
   ·rw [c1, c2, bc_false, bc_true]; exact ⟨h6 _ _ hi (by omega) (by omega) (by rw [List.length_append, List.length_singleton]; exact Nat.le_refl _), rfl, trivial⟩
   ·rw [c1, c2, bc_false, bc_false]; exact ⟨h6 _ _ hi (by omega) (by omega) (by omega), rfl, trivial⟩
  ·have e0 : ltI i ((lenL s : Nat) : Int) = false := ltI_false.2 (by rw [K.lenL_eq]; omega)
   simp only [e0, bc_false]
   exact ⟨S.wordA_end (by omega), trivial⟩
theorem wd_lok (s : List UInt8) (c : Int) (h0 : s.length ≤ 1000000) : ∀ (j : Nat) (n i : Int) (a : List UInt8), 0 ≤ i → i ≤ s.length → a.length ≤ i → i - 1000001 ≤ 0 → -1000001 - i ≤ n → n ≤ 1000000 → (s.length - i).toNat = j →
  K.LOk Tryd.prog 37 32 (inner (inner (blkOf 37 0))) [0, 1, 2, 7, 8] [.str s, .int .i64 n, .int .u8 c, .str a, .int .i64 i] [] ⟨.exit 0, [(7, .str (S.wordA s n c a i))], [], []⟩ := by
 intro j
 induction j with
 | zero =>
  intro n i a h1 h2 h3 h7 h4 h5 hm
  exact wdR_con s n c i a h0 h1 h2 h3 (by omega) (by omega) fun n2 a2 hk => by omega
 | succ j ih =>
  intro n i a h1 h2 h3 h7 h4 h5 hm
  exact wdR_con s n c i a h0 h1 h2 h3 (by omega) (by omega) fun n2 a2 hk k1 k2 k3 => ih n2 (i + 1) a2 (by omega) (by omega) (by omega) (by omega) (by omega) (by omega) (by omega)
theorem wd_blk (s : List UInt8) (n c : Int) (h0 : s.length ≤ 1000000) (h4 : -1 ≤ n) (h5 : n ≤ 1000000) :
  K.BOk Tryd.prog 37 32 (blkOf 37 0) [0, 1, 2, 7, 8] [.str s, .int .i64 n, .int .u8 c, .str [], .int .i64 0] [] ⟨.normal, [(7, .str (S.wordA s n c [] 0))], [], []⟩ := by
 have hb : blkOf 37 0 = .block 0 (.loop (inner (inner (blkOf 37 0)))) := by kernel_rfl
 unfold K.BOk
 rw [hb]
 exact K.CT.block (K.GT.loop (wd_lok s c h0 _ n 0 [] (by omega) (by omega) (by simp) (by omega) (by omega) h5 rfl))
theorem wd_run (s : List UInt8) (n c : Int) : K.bodyF (envB [] (fun g id => bc (Nat.beq g 37) (bc (Nat.beq id 0) (some wdBB) (none)) (none))) (K.runF (envB [] (fun g id => bc (Nat.beq g 37) (bc (Nat.beq id 0) (some wdBB) (none)) (none))) 30) 37 [.str s, .int .i64 n, .int .u8 c] (Heap.of []) Hint.auto (K.endC K.openE 0 ⟨.ret (.str (S.wordF c s n)), [], []⟩) =
  ((K.BOk Tryd.prog 37 32 (blkOf 37 0) [(0 : Nat), (1 : Nat), (2 : Nat), (7 : Nat), (8 : Nat)] [LV.str s, LV.int IntKind.i64 n, LV.int IntKind.u8 c, LV.str [], LV.int IntKind.i64 (0 : Int)] [] { x := LX.normal, L := [((7 : Nat), LV.str (S.wordA s n c [] (0 : Int)))], ch := [], new := [] } ∧ (S.wordF c s n = S.wordA s n c [] (0 : Int) ∧ True))) := by kernel_rfl
theorem wd_con (s : List UInt8) (n c : Int) (h0 : S.okW s n = true)  : HT Tryd.prog 37 [.str s, .int .i64 n, .int .u8 c] (Heap.of []) (⟨.ret (.str (S.wordF c s n)), [], []⟩ : K.CRes).e (Heap.of (K.chg [] (⟨.ret (.str (S.wordF c s n)), [], []⟩ : K.CRes).ch ++ (⟨.ret (.str (S.wordF c s n)), [], []⟩ : K.CRes).new)) := by
 refine K.con_of_run good (A := envB [] (fun g id => bc (Nat.beq g 37) (bc (Nat.beq id 0) (some wdBB) (none)) (none))) (envB_ok ?_) K.openE_ok (k := 30) (cast (wd_run s n c).symm ?_)
 ·intro p hp; cases hp
 ·obtain ⟨q0, q1, q2⟩ := S.okW_iff.1 h0
  exact ⟨wd_blk s n c q0 q1 (by omega), rfl, trivial⟩
theorem wd_ok : wdE.ok Tryd.prog 37 := by
 intro xs os b r h h3
 unfold wdE at h
 simp only at h
 split at h
 ·injection h with h; injection h with h1 h2; subst h1; subst h2
  exact wd_con _ _ _ h3
 ·cases h
end Go.Proofs.YtlgfojaalmelhaaDoor.Ev
