/- Contracts, proved: Tsh. -/
import Derived.Test.YtlgfojaalmelhaaDoorTshD
import Derived.Test.YtlgfojaalmelhaaDoorTofP
import Derived.Test.YtlgfojaalmelhaaDoorThxP
import Derived.Test.YtlgfojaalmelhaaDoorTorP
namespace Go.Proofs.YtlgfojaalmelhaaDoor.Ev
open Go
set_option linter.unusedVariables false
set_option linter.unusedSimpArgs false
set_option maxRecDepth 100000
set_option maxHeartbeats 1000000
namespace S
theorem okS_iff {o a b p : Int} : okS o a b p = true ↔ (0 ≤ o ∧ o < 256) ∧ (0 ≤ a ∧ a < 256) ∧ (0 ≤ b ∧ b < 256) ∧ 0 ≤ p ∧ p < 65536 := by
 unfold okS
 cases h1 : isB o with
 | false => rw [bc_false]; exact ⟨fun h => (by cases h), fun h => by rw [isB_iff.2 h.1] at h1; cases h1⟩
 | true =>
  rw [bc_true]
  cases h2 : isB a with
  | false => rw [bc_false]; exact ⟨fun h => (by cases h), fun h => by rw [isB_iff.2 h.2.1] at h2; cases h2⟩
  | true =>
   rw [bc_true]
   cases h3 : isB b with
   | false => rw [bc_false]; exact ⟨fun h => (by cases h), fun h => by rw [isB_iff.2 h.2.2.1] at h3; cases h3⟩
   | true =>
    have g1 := isB_iff.1 h1; have g2 := isB_iff.1 h2; have g3 := isB_iff.1 h3
    rw [bc_true]; unfold isW
    cases h4 : ltI p 0 with
    | true => rw [bc_true]; have := ltI_true.1 h4; exact ⟨fun h => (by cases h), fun h => by omega⟩
    | false => rw [bc_false, ltI_true]; have := ltI_false.1 h4; omega
theorem tab_all : ((List.range 256).all fun i => Nat.blt (lenL (nm (Int.ofNat i))) 4 && Nat.ble 3 (lenL (nm (Int.ofNat i))) && notB (ltI (md (Int.ofNat i)) 0) && ltI (md (Int.ofNat i)) 13) = true := by kernel_rfl
theorem tab_at {o : Int} (h : 0 ≤ o ∧ o < 256) : lenL (nm o) = 3 ∧ 0 ≤ md o ∧ md o < 13 := by
 obtain ⟨i, rfl⟩ := Int.eq_ofNat_of_zero_le h.1
 have := List.all_eq_true.1 tab_all i (List.mem_range.2 (by omega))
 simp only [Bool.and_eq_true] at this
 obtain ⟨⟨⟨h1, h2⟩, h3⟩, h4⟩ := this
 have h1 := Nat.le_of_ble_eq_true h1
 have h2 := Nat.le_of_ble_eq_true h2
 have h3 := ltI_false.1 (notB_true.1 h3)
 have h4 := ltI_true.1 h4
 exact ⟨Nat.le_antisymm (Nat.le_of_lt_succ h1) h2, h3, h4⟩
theorem lenL_cons {α : Type} (a : α) (l : List α) : lenL (a :: l) = lenL l + 1 := rfl
theorem lenL_nil {α : Type} : lenL ([] : List α) = 0 := rfl
theorem lenL_app {α : Type} (a b : List α) : lenL (app a b) = lenL a + lenL b := by rw [K.app_eq, K.lenL_eq, K.lenL_eq, K.lenL_eq, List.length_append]
theorem hex2 (v : Int) : lenL (hex v 2) = 2 := by rw [K.lenL_eq]; exact hexN_len 2 (mx v)
theorem hex4 (v : Int) : lenL (hex v 4) = 4 := by rw [K.lenL_eq]; exact hexN_len 4 (mx v)
theorem bl {x : Nat} (h : x ≤ 1000) : Nat.ble x 4611686018427387904 = true := Nat.ble_eq_true_of_le (by omega)
theorem md_cases {o : Int} (h : 0 ≤ md o ∧ md o < 13) : md o = 0 ∨ md o = 1 ∨ md o = 2 ∨ md o = 3 ∨ md o = 4 ∨ md o = 5 ∨ md o = 6 ∨ md o = 7 ∨ md o = 8 ∨ md o = 9 ∨ md o = 10 ∨ md o = 11 ∨ md o = 12 := by omega
theorem shw_at {o a b p k : Int} (h : md o = k) {x : List UInt8} (hx : opn k a b p = x) : shw o a b p = nm o ++ x := by unfold shw; rw [h, hx]
theorem okG_0 : okG 0 tabV 1 = true := by kernel_rfl
theorem eqI_sm (a : Int) : eqI a a = true := eqI_true.2 rfl
theorem eqI_ne {a b : Int} (h : a ≠ b) : eqI a b = false := eqI_false.2 h
theorem tgtW {a p : Int} (ha : 0 ≤ a ∧ a < 256) (hp : 0 ≤ p ∧ p < 65536) : wrapK IntKind.i64 (wrapK IntKind.u16 (wrapK IntKind.u16 (p + (2 : Int)) + wrapK IntKind.u16 (wrapK IntKind.i16 (wrapK IntKind.i8 a)))) = tgt a p := by
 unfold tgt
 rw [wrapK_i64, wrapK_u16, wrapK_u16, wrapK_u16, wrapK_i16, wrapK_i8]
 split <;> omega
end S
theorem cln_run (o m : Int) : K.bodyF (envL [(21, cofE)]) (K.runF (envL [(21, cofE)]) 30) 20 [.int .u8 o] (Heap.of [.glob 0 S.tabV, .glob 1 [.int .i64 m]]) (.skip 1 (.fork (.skip 0 (.take true .auto)) (.skip 0 (.fork .auto (.skip 0 (.fork (.skip 0 (.take true .auto)) (.skip 0 (.fork (.skip 0 (.take true .auto)) (.skip 0 (.fork (.skip 0 (.take true .auto)) .auto)))))))))) (K.endC K.openE 2 ⟨.ret (.int .i64 (S.len o)), [], []⟩) =
  (bc (bc (S.okG 0 S.tabV 1) (S.isB o) false) (bc (eqI (S.md o) 0) (eqI (S.md o) (0 : Int) = true ∧ (S.len o = (1 : Int) ∧ True)) (bc (eqI (S.md o) 1) (S.len o = (1 : Int) ∧ True) (bc (eqI (S.md o) 6) (eqI (S.md o) (6 : Int) = true ∧ (S.len o = (3 : Int) ∧ True)) (bc (eqI (S.md o) 7) (eqI (S.md o) (7 : Int) = true ∧ (S.len o = (3 : Int) ∧ True)) (bc (eqI (S.md o) 8) (eqI (S.md o) (8 : Int) = true ∧ (S.len o = (3 : Int) ∧ True)) (bc (eqI (S.md o) 12) (S.len o = (3 : Int) ∧ True) (S.len o = (2 : Int) ∧ True))))))) False) := by kernel_rfl
theorem cln_con (o m : Int) (h0 : S.isB o = true)  : HT Tryd.prog 20 [.int .u8 o] (Heap.of [.glob 0 S.tabV, .glob 1 [.int .i64 m]]) (⟨.ret (.int .i64 (S.len o)), [], []⟩ : K.CRes).e (Heap.of (K.chg [.glob 0 S.tabV, .glob 1 [.int .i64 m]] (⟨.ret (.int .i64 (S.len o)), [], []⟩ : K.CRes).ch ++ (⟨.ret (.int .i64 (S.len o)), [], []⟩ : K.CRes).new)) := by
 refine K.con_of_run good (A := envL [(21, cofE)]) (envL_ok ?_) K.openE_ok (k := 30) (cast (cln_run o m).symm ?_)
 ·intro p hp; simp only [List.mem_cons, List.not_mem_nil, or_false] at hp; rcases hp with rfl <;> first | exact cof_ok
 ·have hG := S.okG_0
  have r1 := S.isB_iff.1 h0
  obtain ⟨hl, hm⟩ := S.tab_at r1
  rcases S.md_cases hm with h | h | h | h | h | h | h | h | h | h | h | h | h
  ·simp (disch := omega) only [hG, h0, h, S.eqI_sm, S.eqI_ne, S.len, S.is3, bc_true, bc_false, true_and, and_true, and_self]
  ·simp (disch := omega) only [hG, h0, h, S.eqI_sm, S.eqI_ne, S.len, S.is3, bc_true, bc_false, true_and, and_true, and_self]
  ·simp (disch := omega) only [hG, h0, h, S.eqI_sm, S.eqI_ne, S.len, S.is3, bc_true, bc_false, true_and, and_true, and_self]
  ·simp (disch := omega) only [hG, h0, h, S.eqI_sm, S.eqI_ne, S.len, S.is3, bc_true, bc_false, true_and, and_true, and_self]
  ·simp (disch := omega) only [hG, h0, h, S.eqI_sm, S.eqI_ne, S.len, S.is3, bc_true, bc_false, true_and, and_true, and_self]
  ·simp (disch := omega) only [hG, h0, h, S.eqI_sm, S.eqI_ne, S.len, S.is3, bc_true, bc_false, true_and, and_true, and_self]
  ·simp (disch := omega) only [hG, h0, h, S.eqI_sm, S.eqI_ne, S.len, S.is3, bc_true, bc_false, true_and, and_true, and_self]
  ·simp (disch := omega) only [hG, h0, h, S.eqI_sm, S.eqI_ne, S.len, S.is3, bc_true, bc_false, true_and, and_true, and_self]
  ·simp (disch := omega) only [hG, h0, h, S.eqI_sm, S.eqI_ne, S.len, S.is3, bc_true, bc_false, true_and, and_true, and_self]
  ·simp (disch := omega) only [hG, h0, h, S.eqI_sm, S.eqI_ne, S.len, S.is3, bc_true, bc_false, true_and, and_true, and_self]
  ·simp (disch := omega) only [hG, h0, h, S.eqI_sm, S.eqI_ne, S.len, S.is3, bc_true, bc_false, true_and, and_true, and_self]
  ·simp (disch := omega) only [hG, h0, h, S.eqI_sm, S.eqI_ne, S.len, S.is3, bc_true, bc_false, true_and, and_true, and_self]
  ·simp (disch := omega) only [hG, h0, h, S.eqI_sm, S.eqI_ne, S.len, S.is3, bc_true, bc_false, true_and, and_true, and_self]
theorem csh_run (o a b p m : Int) : K.bodyF (envL [(21, cofE), (13, hexE)]) (K.runF (envL [(21, cofE), (13, hexE)]) 30) 10 [.int .u8 o, .int .u8 a, .int .u8 b, .int .u16 p] (Heap.of [.glob 0 S.tabV, .glob 1 [.int .i64 m]]) (.skip 3 (.fork .auto (.skip 0 (.fork .auto (.skip 0 (.fork .auto (.skip 2 (.take false (.skip 0 (.take false (.skip 0 (.fork (.skip 0 (.take true (.skip 13 (.fork .auto (.skip 0 (.fork .auto (.skip 0 (.fork .auto (.skip 0 (.fork .auto (.skip 0 (.take true .auto)))))))))))) (.skip 0 (.fork (.skip 0 (.take true (.skip 13 (.fork .auto (.skip 0 (.fork .auto (.skip 0 (.fork .auto (.skip 0 (.fork .auto (.skip 0 (.take false (.skip 0 (.take true .auto)))))))))))))) (.skip 0 (.fork (.skip 0 (.take true (.skip 13 (.fork .auto (.skip 0 (.fork .auto (.skip 0 (.fork .auto (.skip 0 (.fork .auto (.skip 0 (.take false (.skip 0 (.take false (.skip 0 (.take true .auto)))))))))))))))) (.skip 0 (.fork (.skip 13 (.fork .auto (.skip 0 (.fork .auto (.skip 0 (.fork .auto (.skip 0 (.fork .auto (.skip 0 (.take false (.skip 0 (.take false (.skip 0 (.take false (.skip 0 (.fork .auto (.skip 0 (.fork .auto (.skip 0 (.take true .auto)))))))))))))))))))) (.skip 12 (.fork .auto (.skip 0 (.fork .auto (.skip 0 (.fork .auto (.skip 0 (.fork .auto (.skip 0 (.take false (.skip 0 (.take false (.skip 0 (.take false (.skip 0 (.fork .auto (.skip 0 (.fork .auto (.skip 0 (.take false .auto)))))))))))))))))))))))))))))))))))))) (K.endC K.openE 2 ⟨.ret (.str (S.shw o a b p)), [], []⟩) =
  (bc (bc (S.okG 0 S.tabV 1) (S.isB o) false) (bc (eqI (S.md o) 0) (S.shw o a b p = S.nm o ∧ True) (bc (eqI (S.md o) 1) (bc (Nat.ble (lenL (S.nm o) + 2) 4611686018427387904) (S.shw o a b p = app (S.nm o) [(32 : UInt8), (65 : UInt8)] ∧ True) False) (bc (eqI (S.md o) 11) (bc (Nat.ble (lenL (S.nm o) + 2) 4611686018427387904) (bc (S.okV (wrapK IntKind.i64 (wrapK IntKind.u16 (wrapK IntKind.u16 (p + 2) + wrapK IntKind.u16 (wrapK IntKind.i16 (wrapK IntKind.i8 a)))))) (bc (Nat.ble (lenL (app (S.nm o) [(32 : UInt8), (36 : UInt8)]) + lenL (S.hex (wrapK IntKind.i64 (wrapK IntKind.u16 (wrapK IntKind.u16 (p + 2) + wrapK IntKind.u16 (wrapK IntKind.i16 (wrapK IntKind.i8 a))))) 4)) 4611686018427387904) (S.shw o a b p = app (app (S.nm o) [(32 : UInt8), (36 : UInt8)]) (S.hex (wrapK IntKind.i64 (wrapK IntKind.u16 (wrapK IntKind.u16 (p + 2) + wrapK IntKind.u16 (wrapK IntKind.i16 (wrapK IntKind.i8 a))))) 4) ∧ True) False) False) False) (bc (S.okV (wrapK IntKind.i64 a)) (bc (bc (S.okG 0 S.tabV 1) (S.isB o) false) (eqI (S.md o) (0 : Int) = false ∧ (eqI (S.md o) (1 : Int) = false ∧ bc (eqI (S.md o) 6) (eqI (S.md o) (6 : Int) = true ∧ bc (S.okV (wrapK IntKind.i64 b)) (bc (eqI (S.md o) 2) (bc (Nat.ble (lenL (S.nm o) + 1) 4611686018427387904) (bc (Nat.ble (lenL (app (S.nm o) [(32 : UInt8)]) + 2) 4611686018427387904) (bc (Nat.ble (lenL (app (app (S.nm o) [(32 : UInt8)]) [(35 : UInt8), (36 : UInt8)]) + lenL (app (S.hex (wrapK IntKind.i64 b) 2) (S.hex (wrapK IntKind.i64 a) 2))) 4611686018427387904) (bc (Nat.ble (lenL (app (app (app (S.nm o) [(32 : UInt8)]) [(35 : UInt8), (36 : UInt8)]) (app (S.hex (wrapK IntKind.i64 b) 2) (S.hex (wrapK IntKind.i64 a) 2))) + 0) 4611686018427387904) (S.shw o a b p = app (app (app (app (S.nm o) [(32 : UInt8)]) [(35 : UInt8), (36 : UInt8)]) (app (S.hex (wrapK IntKind.i64 b) 2) (S.hex (wrapK IntKind.i64 a) 2))) [] ∧ True) False) False) False) False) (bc (eqI (S.md o) 3) (bc (Nat.ble (lenL (S.nm o) + 1) 4611686018427387904) (bc (Nat.ble (lenL (app (S.nm o) [(32 : UInt8)]) + 1) 4611686018427387904) (bc (Nat.ble (lenL (app (app (S.nm o) [(32 : UInt8)]) [(36 : UInt8)]) + lenL (app (S.hex (wrapK IntKind.i64 b) 2) (S.hex (wrapK IntKind.i64 a) 2))) 4611686018427387904) (bc (Nat.ble (lenL (app (app (app (S.nm o) [(32 : UInt8)]) [(36 : UInt8)]) (app (S.hex (wrapK IntKind.i64 b) 2) (S.hex (wrapK IntKind.i64 a) 2))) + 0) 4611686018427387904) (S.shw o a b p = app (app (app (app (S.nm o) [(32 : UInt8)]) [(36 : UInt8)]) (app (S.hex (wrapK IntKind.i64 b) 2) (S.hex (wrapK IntKind.i64 a) 2))) [] ∧ True) False) False) False) False) (bc (eqI (S.md o) 4) (bc (Nat.ble (lenL (S.nm o) + 1) 4611686018427387904) (bc (Nat.ble (lenL (app (S.nm o) [(32 : UInt8)]) + 1) 4611686018427387904) (bc (Nat.ble (lenL (app (app (S.nm o) [(32 : UInt8)]) [(36 : UInt8)]) + lenL (app (S.hex (wrapK IntKind.i64 b) 2) (S.hex (wrapK IntKind.i64 a) 2))) 4611686018427387904) (bc (Nat.ble (lenL (app (app (app (S.nm o) [(32 : UInt8)]) [(36 : UInt8)]) (app (S.hex (wrapK IntKind.i64 b) 2) (S.hex (wrapK IntKind.i64 a) 2))) + 2) 4611686018427387904) (S.shw o a b p = app (app (app (app (S.nm o) [(32 : UInt8)]) [(36 : UInt8)]) (app (S.hex (wrapK IntKind.i64 b) 2) (S.hex (wrapK IntKind.i64 a) 2))) [(44 : UInt8), (88 : UInt8)] ∧ True) False) False) False) False) (bc (eqI (S.md o) 5) (bc (Nat.ble (lenL (S.nm o) + 1) 4611686018427387904) (bc (Nat.ble (lenL (app (S.nm o) [(32 : UInt8)]) + 1) 4611686018427387904) (bc (Nat.ble (lenL (app (app (S.nm o) [(32 : UInt8)]) [(36 : UInt8)]) + lenL (app (S.hex (wrapK IntKind.i64 b) 2) (S.hex (wrapK IntKind.i64 a) 2))) 4611686018427387904) (bc (Nat.ble (lenL (app (app (app (S.nm o) [(32 : UInt8)]) [(36 : UInt8)]) (app (S.hex (wrapK IntKind.i64 b) 2) (S.hex (wrapK IntKind.i64 a) 2))) + 2) 4611686018427387904) (S.shw o a b p = app (app (app (app (S.nm o) [(32 : UInt8)]) [(36 : UInt8)]) (app (S.hex (wrapK IntKind.i64 b) 2) (S.hex (wrapK IntKind.i64 a) 2))) [(44 : UInt8), (89 : UInt8)] ∧ True) False) False) False) False) (eqI (S.md o) (6 : Int) = true ∧ bc (Nat.ble (lenL (S.nm o) + 1) 4611686018427387904) (bc (Nat.ble (lenL (app (S.nm o) [(32 : UInt8)]) + 1) 4611686018427387904) (bc (Nat.ble (lenL (app (app (S.nm o) [(32 : UInt8)]) [(36 : UInt8)]) + lenL (app (S.hex (wrapK IntKind.i64 b) 2) (S.hex (wrapK IntKind.i64 a) 2))) 4611686018427387904) (bc (Nat.ble (lenL (app (app (app (S.nm o) [(32 : UInt8)]) [(36 : UInt8)]) (app (S.hex (wrapK IntKind.i64 b) 2) (S.hex (wrapK IntKind.i64 a) 2))) + 0) 4611686018427387904) (S.shw o a b p = app (app (app (app (S.nm o) [(32 : UInt8)]) [(36 : UInt8)]) (app (S.hex (wrapK IntKind.i64 b) 2) (S.hex (wrapK IntKind.i64 a) 2))) [] ∧ True) False) False) False) False))))) False) (bc (eqI (S.md o) 7) (eqI (S.md o) (7 : Int) = true ∧ bc (S.okV (wrapK IntKind.i64 b)) (bc (eqI (S.md o) 2) (bc (Nat.ble (lenL (S.nm o) + 1) 4611686018427387904) (bc (Nat.ble (lenL (app (S.nm o) [(32 : UInt8)]) + 2) 4611686018427387904) (bc (Nat.ble (lenL (app (app (S.nm o) [(32 : UInt8)]) [(35 : UInt8), (36 : UInt8)]) + lenL (app (S.hex (wrapK IntKind.i64 b) 2) (S.hex (wrapK IntKind.i64 a) 2))) 4611686018427387904) (bc (Nat.ble (lenL (app (app (app (S.nm o) [(32 : UInt8)]) [(35 : UInt8), (36 : UInt8)]) (app (S.hex (wrapK IntKind.i64 b) 2) (S.hex (wrapK IntKind.i64 a) 2))) + 0) 4611686018427387904) (S.shw o a b p = app (app (app (app (S.nm o) [(32 : UInt8)]) [(35 : UInt8), (36 : UInt8)]) (app (S.hex (wrapK IntKind.i64 b) 2) (S.hex (wrapK IntKind.i64 a) 2))) [] ∧ True) False) False) False) False) (bc (eqI (S.md o) 3) (bc (Nat.ble (lenL (S.nm o) + 1) 4611686018427387904) (bc (Nat.ble (lenL (app (S.nm o) [(32 : UInt8)]) + 1) 4611686018427387904) (bc (Nat.ble (lenL (app (app (S.nm o) [(32 : UInt8)]) [(36 : UInt8)]) + lenL (app (S.hex (wrapK IntKind.i64 b) 2) (S.hex (wrapK IntKind.i64 a) 2))) 4611686018427387904) (bc (Nat.ble (lenL (app (app (app (S.nm o) [(32 : UInt8)]) [(36 : UInt8)]) (app (S.hex (wrapK IntKind.i64 b) 2) (S.hex (wrapK IntKind.i64 a) 2))) + 0) 4611686018427387904) (S.shw o a b p = app (app (app (app (S.nm o) [(32 : UInt8)]) [(36 : UInt8)]) (app (S.hex (wrapK IntKind.i64 b) 2) (S.hex (wrapK IntKind.i64 a) 2))) [] ∧ True) False) False) False) False) (bc (eqI (S.md o) 4) (bc (Nat.ble (lenL (S.nm o) + 1) 4611686018427387904) (bc (Nat.ble (lenL (app (S.nm o) [(32 : UInt8)]) + 1) 4611686018427387904) (bc (Nat.ble (lenL (app (app (S.nm o) [(32 : UInt8)]) [(36 : UInt8)]) + lenL (app (S.hex (wrapK IntKind.i64 b) 2) (S.hex (wrapK IntKind.i64 a) 2))) 4611686018427387904) (bc (Nat.ble (lenL (app (app (app (S.nm o) [(32 : UInt8)]) [(36 : UInt8)]) (app (S.hex (wrapK IntKind.i64 b) 2) (S.hex (wrapK IntKind.i64 a) 2))) + 2) 4611686018427387904) (S.shw o a b p = app (app (app (app (S.nm o) [(32 : UInt8)]) [(36 : UInt8)]) (app (S.hex (wrapK IntKind.i64 b) 2) (S.hex (wrapK IntKind.i64 a) 2))) [(44 : UInt8), (88 : UInt8)] ∧ True) False) False) False) False) (bc (eqI (S.md o) 5) (bc (Nat.ble (lenL (S.nm o) + 1) 4611686018427387904) (bc (Nat.ble (lenL (app (S.nm o) [(32 : UInt8)]) + 1) 4611686018427387904) (bc (Nat.ble (lenL (app (app (S.nm o) [(32 : UInt8)]) [(36 : UInt8)]) + lenL (app (S.hex (wrapK IntKind.i64 b) 2) (S.hex (wrapK IntKind.i64 a) 2))) 4611686018427387904) (bc (Nat.ble (lenL (app (app (app (S.nm o) [(32 : UInt8)]) [(36 : UInt8)]) (app (S.hex (wrapK IntKind.i64 b) 2) (S.hex (wrapK IntKind.i64 a) 2))) + 2) 4611686018427387904) (S.shw o a b p = app (app (app (app (S.nm o) [(32 : UInt8)]) [(36 : UInt8)]) (app (S.hex (wrapK IntKind.i64 b) 2) (S.hex (wrapK IntKind.i64 a) 2))) [(44 : UInt8), (89 : UInt8)] ∧ True) False) False) False) False) (eqI (S.md o) (6 : Int) = false ∧ (eqI (S.md o) (7 : Int) = true ∧ bc (Nat.ble (lenL (S.nm o) + 1) 4611686018427387904) (bc (Nat.ble (lenL (app (S.nm o) [(32 : UInt8)]) + 1) 4611686018427387904) (bc (Nat.ble (lenL (app (app (S.nm o) [(32 : UInt8)]) [(36 : UInt8)]) + lenL (app (S.hex (wrapK IntKind.i64 b) 2) (S.hex (wrapK IntKind.i64 a) 2))) 4611686018427387904) (bc (Nat.ble (lenL (app (app (app (S.nm o) [(32 : UInt8)]) [(36 : UInt8)]) (app (S.hex (wrapK IntKind.i64 b) 2) (S.hex (wrapK IntKind.i64 a) 2))) + 2) 4611686018427387904) (S.shw o a b p = app (app (app (app (S.nm o) [(32 : UInt8)]) [(36 : UInt8)]) (app (S.hex (wrapK IntKind.i64 b) 2) (S.hex (wrapK IntKind.i64 a) 2))) [(44 : UInt8), (88 : UInt8)] ∧ True) False) False) False) False)))))) False) (bc (eqI (S.md o) 8) (eqI (S.md o) (8 : Int) = true ∧ bc (S.okV (wrapK IntKind.i64 b)) (bc (eqI (S.md o) 2) (bc (Nat.ble (lenL (S.nm o) + 1) 4611686018427387904) (bc (Nat.ble (lenL (app (S.nm o) [(32 : UInt8)]) + 2) 4611686018427387904) (bc (Nat.ble (lenL (app (app (S.nm o) [(32 : UInt8)]) [(35 : UInt8), (36 : UInt8)]) + lenL (app (S.hex (wrapK IntKind.i64 b) 2) (S.hex (wrapK IntKind.i64 a) 2))) 4611686018427387904) (bc (Nat.ble (lenL (app (app (app (S.nm o) [(32 : UInt8)]) [(35 : UInt8), (36 : UInt8)]) (app (S.hex (wrapK IntKind.i64 b) 2) (S.hex (wrapK IntKind.i64 a) 2))) + 0) 4611686018427387904) (S.shw o a b p = app (app (app (app (S.nm o) [(32 : UInt8)]) [(35 : UInt8), (36 : UInt8)]) (app (S.hex (wrapK IntKind.i64 b) 2) (S.hex (wrapK IntKind.i64 a) 2))) [] ∧ True) False) False) False) False) (bc (eqI (S.md o) 3) (bc (Nat.ble (lenL (S.nm o) + 1) 4611686018427387904) (bc (Nat.ble (lenL (app (S.nm o) [(32 : UInt8)]) + 1) 4611686018427387904) (bc (Nat.ble (lenL (app (app (S.nm o) [(32 : UInt8)]) [(36 : UInt8)]) + lenL (app (S.hex (wrapK IntKind.i64 b) 2) (S.hex (wrapK IntKind.i64 a) 2))) 4611686018427387904) (bc (Nat.ble (lenL (app (app (app (S.nm o) [(32 : UInt8)]) [(36 : UInt8)]) (app (S.hex (wrapK IntKind.i64 b) 2) (S.hex (wrapK IntKind.i64 a) 2))) + 0) 4611686018427387904) (S.shw o a b p = app (app (app (app (S.nm o) [(32 : UInt8)]) [(36 : UInt8)]) (app (S.hex (wrapK IntKind.i64 b) 2) (S.hex (wrapK IntKind.i64 a) 2))) [] ∧ True) False) False) False) False) (bc (eqI (S.md o) 4) (bc (Nat.ble (lenL (S.nm o) + 1) 4611686018427387904) (bc (Nat.ble (lenL (app (S.nm o) [(32 : UInt8)]) + 1) 4611686018427387904) (bc (Nat.ble (lenL (app (app (S.nm o) [(32 : UInt8)]) [(36 : UInt8)]) + lenL (app (S.hex (wrapK IntKind.i64 b) 2) (S.hex (wrapK IntKind.i64 a) 2))) 4611686018427387904) (bc (Nat.ble (lenL (app (app (app (S.nm o) [(32 : UInt8)]) [(36 : UInt8)]) (app (S.hex (wrapK IntKind.i64 b) 2) (S.hex (wrapK IntKind.i64 a) 2))) + 2) 4611686018427387904) (S.shw o a b p = app (app (app (app (S.nm o) [(32 : UInt8)]) [(36 : UInt8)]) (app (S.hex (wrapK IntKind.i64 b) 2) (S.hex (wrapK IntKind.i64 a) 2))) [(44 : UInt8), (88 : UInt8)] ∧ True) False) False) False) False) (bc (eqI (S.md o) 5) (bc (Nat.ble (lenL (S.nm o) + 1) 4611686018427387904) (bc (Nat.ble (lenL (app (S.nm o) [(32 : UInt8)]) + 1) 4611686018427387904) (bc (Nat.ble (lenL (app (app (S.nm o) [(32 : UInt8)]) [(36 : UInt8)]) + lenL (app (S.hex (wrapK IntKind.i64 b) 2) (S.hex (wrapK IntKind.i64 a) 2))) 4611686018427387904) (bc (Nat.ble (lenL (app (app (app (S.nm o) [(32 : UInt8)]) [(36 : UInt8)]) (app (S.hex (wrapK IntKind.i64 b) 2) (S.hex (wrapK IntKind.i64 a) 2))) + 2) 4611686018427387904) (S.shw o a b p = app (app (app (app (S.nm o) [(32 : UInt8)]) [(36 : UInt8)]) (app (S.hex (wrapK IntKind.i64 b) 2) (S.hex (wrapK IntKind.i64 a) 2))) [(44 : UInt8), (89 : UInt8)] ∧ True) False) False) False) False) (eqI (S.md o) (6 : Int) = false ∧ (eqI (S.md o) (7 : Int) = false ∧ (eqI (S.md o) (8 : Int) = true ∧ bc (Nat.ble (lenL (S.nm o) + 1) 4611686018427387904) (bc (Nat.ble (lenL (app (S.nm o) [(32 : UInt8)]) + 1) 4611686018427387904) (bc (Nat.ble (lenL (app (app (S.nm o) [(32 : UInt8)]) [(36 : UInt8)]) + lenL (app (S.hex (wrapK IntKind.i64 b) 2) (S.hex (wrapK IntKind.i64 a) 2))) 4611686018427387904) (bc (Nat.ble (lenL (app (app (app (S.nm o) [(32 : UInt8)]) [(36 : UInt8)]) (app (S.hex (wrapK IntKind.i64 b) 2) (S.hex (wrapK IntKind.i64 a) 2))) + 2) 4611686018427387904) (S.shw o a b p = app (app (app (app (S.nm o) [(32 : UInt8)]) [(36 : UInt8)]) (app (S.hex (wrapK IntKind.i64 b) 2) (S.hex (wrapK IntKind.i64 a) 2))) [(44 : UInt8), (89 : UInt8)] ∧ True) False) False) False) False))))))) False) (bc (eqI (S.md o) 12) (bc (S.okV (wrapK IntKind.i64 b)) (bc (eqI (S.md o) 2) (bc (Nat.ble (lenL (S.nm o) + 1) 4611686018427387904) (bc (Nat.ble (lenL (app (S.nm o) [(32 : UInt8)]) + 2) 4611686018427387904) (bc (Nat.ble (lenL (app (app (S.nm o) [(32 : UInt8)]) [(35 : UInt8), (36 : UInt8)]) + lenL (app (S.hex (wrapK IntKind.i64 b) 2) (S.hex (wrapK IntKind.i64 a) 2))) 4611686018427387904) (bc (Nat.ble (lenL (app (app (app (S.nm o) [(32 : UInt8)]) [(35 : UInt8), (36 : UInt8)]) (app (S.hex (wrapK IntKind.i64 b) 2) (S.hex (wrapK IntKind.i64 a) 2))) + 0) 4611686018427387904) (S.shw o a b p = app (app (app (app (S.nm o) [(32 : UInt8)]) [(35 : UInt8), (36 : UInt8)]) (app (S.hex (wrapK IntKind.i64 b) 2) (S.hex (wrapK IntKind.i64 a) 2))) [] ∧ True) False) False) False) False) (bc (eqI (S.md o) 3) (bc (Nat.ble (lenL (S.nm o) + 1) 4611686018427387904) (bc (Nat.ble (lenL (app (S.nm o) [(32 : UInt8)]) + 1) 4611686018427387904) (bc (Nat.ble (lenL (app (app (S.nm o) [(32 : UInt8)]) [(36 : UInt8)]) + lenL (app (S.hex (wrapK IntKind.i64 b) 2) (S.hex (wrapK IntKind.i64 a) 2))) 4611686018427387904) (bc (Nat.ble (lenL (app (app (app (S.nm o) [(32 : UInt8)]) [(36 : UInt8)]) (app (S.hex (wrapK IntKind.i64 b) 2) (S.hex (wrapK IntKind.i64 a) 2))) + 0) 4611686018427387904) (S.shw o a b p = app (app (app (app (S.nm o) [(32 : UInt8)]) [(36 : UInt8)]) (app (S.hex (wrapK IntKind.i64 b) 2) (S.hex (wrapK IntKind.i64 a) 2))) [] ∧ True) False) False) False) False) (bc (eqI (S.md o) 4) (bc (Nat.ble (lenL (S.nm o) + 1) 4611686018427387904) (bc (Nat.ble (lenL (app (S.nm o) [(32 : UInt8)]) + 1) 4611686018427387904) (bc (Nat.ble (lenL (app (app (S.nm o) [(32 : UInt8)]) [(36 : UInt8)]) + lenL (app (S.hex (wrapK IntKind.i64 b) 2) (S.hex (wrapK IntKind.i64 a) 2))) 4611686018427387904) (bc (Nat.ble (lenL (app (app (app (S.nm o) [(32 : UInt8)]) [(36 : UInt8)]) (app (S.hex (wrapK IntKind.i64 b) 2) (S.hex (wrapK IntKind.i64 a) 2))) + 2) 4611686018427387904) (S.shw o a b p = app (app (app (app (S.nm o) [(32 : UInt8)]) [(36 : UInt8)]) (app (S.hex (wrapK IntKind.i64 b) 2) (S.hex (wrapK IntKind.i64 a) 2))) [(44 : UInt8), (88 : UInt8)] ∧ True) False) False) False) False) (bc (eqI (S.md o) 5) (bc (Nat.ble (lenL (S.nm o) + 1) 4611686018427387904) (bc (Nat.ble (lenL (app (S.nm o) [(32 : UInt8)]) + 1) 4611686018427387904) (bc (Nat.ble (lenL (app (app (S.nm o) [(32 : UInt8)]) [(36 : UInt8)]) + lenL (app (S.hex (wrapK IntKind.i64 b) 2) (S.hex (wrapK IntKind.i64 a) 2))) 4611686018427387904) (bc (Nat.ble (lenL (app (app (app (S.nm o) [(32 : UInt8)]) [(36 : UInt8)]) (app (S.hex (wrapK IntKind.i64 b) 2) (S.hex (wrapK IntKind.i64 a) 2))) + 2) 4611686018427387904) (S.shw o a b p = app (app (app (app (S.nm o) [(32 : UInt8)]) [(36 : UInt8)]) (app (S.hex (wrapK IntKind.i64 b) 2) (S.hex (wrapK IntKind.i64 a) 2))) [(44 : UInt8), (89 : UInt8)] ∧ True) False) False) False) False) (eqI (S.md o) (6 : Int) = false ∧ (eqI (S.md o) (7 : Int) = false ∧ (eqI (S.md o) (8 : Int) = false ∧ bc (eqI (S.md o) 9) (bc (Nat.ble (lenL (S.nm o) + 1) 4611686018427387904) (bc (Nat.ble (lenL (app (S.nm o) [(32 : UInt8)]) + 2) 4611686018427387904) (bc (Nat.ble (lenL (app (app (S.nm o) [(32 : UInt8)]) [(40 : UInt8), (36 : UInt8)]) + lenL (app (S.hex (wrapK IntKind.i64 b) 2) (S.hex (wrapK IntKind.i64 a) 2))) 4611686018427387904) (bc (Nat.ble (lenL (app (app (app (S.nm o) [(32 : UInt8)]) [(40 : UInt8), (36 : UInt8)]) (app (S.hex (wrapK IntKind.i64 b) 2) (S.hex (wrapK IntKind.i64 a) 2))) + 3) 4611686018427387904) (S.shw o a b p = app (app (app (app (S.nm o) [(32 : UInt8)]) [(40 : UInt8), (36 : UInt8)]) (app (S.hex (wrapK IntKind.i64 b) 2) (S.hex (wrapK IntKind.i64 a) 2))) [(44 : UInt8), (88 : UInt8), (41 : UInt8)] ∧ True) False) False) False) False) (bc (eqI (S.md o) 10) (bc (Nat.ble (lenL (S.nm o) + 1) 4611686018427387904) (bc (Nat.ble (lenL (app (S.nm o) [(32 : UInt8)]) + 2) 4611686018427387904) (bc (Nat.ble (lenL (app (app (S.nm o) [(32 : UInt8)]) [(40 : UInt8), (36 : UInt8)]) + lenL (app (S.hex (wrapK IntKind.i64 b) 2) (S.hex (wrapK IntKind.i64 a) 2))) 4611686018427387904) (bc (Nat.ble (lenL (app (app (app (S.nm o) [(32 : UInt8)]) [(40 : UInt8), (36 : UInt8)]) (app (S.hex (wrapK IntKind.i64 b) 2) (S.hex (wrapK IntKind.i64 a) 2))) + 3) 4611686018427387904) (S.shw o a b p = app (app (app (app (S.nm o) [(32 : UInt8)]) [(40 : UInt8), (36 : UInt8)]) (app (S.hex (wrapK IntKind.i64 b) 2) (S.hex (wrapK IntKind.i64 a) 2))) [(41 : UInt8), (44 : UInt8), (89 : UInt8)] ∧ True) False) False) False) False) (eqI (S.md o) (12 : Int) = true ∧ bc (Nat.ble (lenL (S.nm o) + 1) 4611686018427387904) (bc (Nat.ble (lenL (app (S.nm o) [(32 : UInt8)]) + 2) 4611686018427387904) (bc (Nat.ble (lenL (app (app (S.nm o) [(32 : UInt8)]) [(40 : UInt8), (36 : UInt8)]) + lenL (app (S.hex (wrapK IntKind.i64 b) 2) (S.hex (wrapK IntKind.i64 a) 2))) 4611686018427387904) (bc (Nat.ble (lenL (app (app (app (S.nm o) [(32 : UInt8)]) [(40 : UInt8), (36 : UInt8)]) (app (S.hex (wrapK IntKind.i64 b) 2) (S.hex (wrapK IntKind.i64 a) 2))) + 1) 4611686018427387904) (S.shw o a b p = app (app (app (app (S.nm o) [(32 : UInt8)]) [(40 : UInt8), (36 : UInt8)]) (app (S.hex (wrapK IntKind.i64 b) 2) (S.hex (wrapK IntKind.i64 a) 2))) [(41 : UInt8)] ∧ True) False) False) False) False))))))))) False) (bc (eqI (S.md o) 2) (bc (Nat.ble (lenL (S.nm o) + 1) 4611686018427387904) (bc (Nat.ble (lenL (app (S.nm o) [(32 : UInt8)]) + 2) 4611686018427387904) (bc (Nat.ble (lenL (app (app (S.nm o) [(32 : UInt8)]) [(35 : UInt8), (36 : UInt8)]) + lenL (S.hex (wrapK IntKind.i64 a) 2)) 4611686018427387904) (bc (Nat.ble (lenL (app (app (app (S.nm o) [(32 : UInt8)]) [(35 : UInt8), (36 : UInt8)]) (S.hex (wrapK IntKind.i64 a) 2)) + 0) 4611686018427387904) (S.shw o a b p = app (app (app (app (S.nm o) [(32 : UInt8)]) [(35 : UInt8), (36 : UInt8)]) (S.hex (wrapK IntKind.i64 a) 2)) [] ∧ True) False) False) False) False) (bc (eqI (S.md o) 3) (bc (Nat.ble (lenL (S.nm o) + 1) 4611686018427387904) (bc (Nat.ble (lenL (app (S.nm o) [(32 : UInt8)]) + 1) 4611686018427387904) (bc (Nat.ble (lenL (app (app (S.nm o) [(32 : UInt8)]) [(36 : UInt8)]) + lenL (S.hex (wrapK IntKind.i64 a) 2)) 4611686018427387904) (bc (Nat.ble (lenL (app (app (app (S.nm o) [(32 : UInt8)]) [(36 : UInt8)]) (S.hex (wrapK IntKind.i64 a) 2)) + 0) 4611686018427387904) (S.shw o a b p = app (app (app (app (S.nm o) [(32 : UInt8)]) [(36 : UInt8)]) (S.hex (wrapK IntKind.i64 a) 2)) [] ∧ True) False) False) False) False) (bc (eqI (S.md o) 4) (bc (Nat.ble (lenL (S.nm o) + 1) 4611686018427387904) (bc (Nat.ble (lenL (app (S.nm o) [(32 : UInt8)]) + 1) 4611686018427387904) (bc (Nat.ble (lenL (app (app (S.nm o) [(32 : UInt8)]) [(36 : UInt8)]) + lenL (S.hex (wrapK IntKind.i64 a) 2)) 4611686018427387904) (bc (Nat.ble (lenL (app (app (app (S.nm o) [(32 : UInt8)]) [(36 : UInt8)]) (S.hex (wrapK IntKind.i64 a) 2)) + 2) 4611686018427387904) (S.shw o a b p = app (app (app (app (S.nm o) [(32 : UInt8)]) [(36 : UInt8)]) (S.hex (wrapK IntKind.i64 a) 2)) [(44 : UInt8), (88 : UInt8)] ∧ True) False) False) False) False) (bc (eqI (S.md o) 5) (bc (Nat.ble (lenL (S.nm o) + 1) 4611686018427387904) (bc (Nat.ble (lenL (app (S.nm o) [(32 : UInt8)]) + 1) 4611686018427387904) (bc (Nat.ble (lenL (app (app (S.nm o) [(32 : UInt8)]) [(36 : UInt8)]) + lenL (S.hex (wrapK IntKind.i64 a) 2)) 4611686018427387904) (bc (Nat.ble (lenL (app (app (app (S.nm o) [(32 : UInt8)]) [(36 : UInt8)]) (S.hex (wrapK IntKind.i64 a) 2)) + 2) 4611686018427387904) (S.shw o a b p = app (app (app (app (S.nm o) [(32 : UInt8)]) [(36 : UInt8)]) (S.hex (wrapK IntKind.i64 a) 2)) [(44 : UInt8), (89 : UInt8)] ∧ True) False) False) False) False) (eqI (S.md o) (6 : Int) = false ∧ (eqI (S.md o) (7 : Int) = false ∧ (eqI (S.md o) (8 : Int) = false ∧ bc (eqI (S.md o) 9) (bc (Nat.ble (lenL (S.nm o) + 1) 4611686018427387904) (bc (Nat.ble (lenL (app (S.nm o) [(32 : UInt8)]) + 2) 4611686018427387904) (bc (Nat.ble (lenL (app (app (S.nm o) [(32 : UInt8)]) [(40 : UInt8), (36 : UInt8)]) + lenL (S.hex (wrapK IntKind.i64 a) 2)) 4611686018427387904) (bc (Nat.ble (lenL (app (app (app (S.nm o) [(32 : UInt8)]) [(40 : UInt8), (36 : UInt8)]) (S.hex (wrapK IntKind.i64 a) 2)) + 3) 4611686018427387904) (S.shw o a b p = app (app (app (app (S.nm o) [(32 : UInt8)]) [(40 : UInt8), (36 : UInt8)]) (S.hex (wrapK IntKind.i64 a) 2)) [(44 : UInt8), (88 : UInt8), (41 : UInt8)] ∧ True) False) False) False) False) (bc (eqI (S.md o) 10) (bc (Nat.ble (lenL (S.nm o) + 1) 4611686018427387904) (bc (Nat.ble (lenL (app (S.nm o) [(32 : UInt8)]) + 2) 4611686018427387904) (bc (Nat.ble (lenL (app (app (S.nm o) [(32 : UInt8)]) [(40 : UInt8), (36 : UInt8)]) + lenL (S.hex (wrapK IntKind.i64 a) 2)) 4611686018427387904) (bc (Nat.ble (lenL (app (app (app (S.nm o) [(32 : UInt8)]) [(40 : UInt8), (36 : UInt8)]) (S.hex (wrapK IntKind.i64 a) 2)) + 3) 4611686018427387904) (S.shw o a b p = app (app (app (app (S.nm o) [(32 : UInt8)]) [(40 : UInt8), (36 : UInt8)]) (S.hex (wrapK IntKind.i64 a) 2)) [(41 : UInt8), (44 : UInt8), (89 : UInt8)] ∧ True) False) False) False) False) (eqI (S.md o) (12 : Int) = false ∧ bc (Nat.ble (lenL (S.nm o) + 1) 4611686018427387904) (bc (Nat.ble (lenL (app (S.nm o) [(32 : UInt8)]) + 0) 4611686018427387904) (bc (Nat.ble (lenL (app (app (S.nm o) [(32 : UInt8)]) []) + lenL (S.hex (wrapK IntKind.i64 a) 2)) 4611686018427387904) (bc (Nat.ble (lenL (app (app (app (S.nm o) [(32 : UInt8)]) []) (S.hex (wrapK IntKind.i64 a) 2)) + 0) 4611686018427387904) (S.shw o a b p = app (app (app (app (S.nm o) [(32 : UInt8)]) []) (S.hex (wrapK IntKind.i64 a) 2)) [] ∧ True) False) False) False) False)))))))))))))) False) False)))) False) := by kernel_rfl
theorem csh_con (o a b p m : Int) (h0 : S.okS o a b p = true)  : HT Tryd.prog 10 [.int .u8 o, .int .u8 a, .int .u8 b, .int .u16 p] (Heap.of [.glob 0 S.tabV, .glob 1 [.int .i64 m]]) (⟨.ret (.str (S.shw o a b p)), [], []⟩ : K.CRes).e (Heap.of (K.chg [.glob 0 S.tabV, .glob 1 [.int .i64 m]] (⟨.ret (.str (S.shw o a b p)), [], []⟩ : K.CRes).ch ++ (⟨.ret (.str (S.shw o a b p)), [], []⟩ : K.CRes).new)) := by
 refine K.con_of_run good (A := envL [(21, cofE), (13, hexE)]) (envL_ok ?_) K.openE_ok (k := 30) (cast (csh_run o a b p m).symm ?_)
 ·intro p hp; simp only [List.mem_cons, List.not_mem_nil, or_false] at hp; rcases hp with rfl | rfl <;> first | exact cof_ok | exact hex_ok
 ·have hG := S.okG_0
  obtain ⟨r1, r2, r3, r4⟩ := S.okS_iff.1 h0
  have hB : S.isB o = true := S.isB_iff.2 r1
  obtain ⟨hl, hm⟩ := S.tab_at r1
  have wa : wrapK .i64 a = a := by rw [wrapK_i64]; omega
  have wb : wrapK .i64 b = b := by rw [wrapK_i64]; omega
  have oa : S.okV a = true := notB_true.2 (ltI_false.2 (by omega))
  have ob : S.okV b = true := notB_true.2 (ltI_false.2 (by omega))
  have ot : S.okV (S.tgt a p) = true := notB_true.2 (ltI_false.2 (by unfold S.tgt; omega))
  rcases S.md_cases hm with h | h | h | h | h | h | h | h | h | h | h | h | h
  ·simp (disch := omega) only [hG, hB, h, S.eqI_sm, S.eqI_ne, S.tgtW r2 r4, wa, wb, oa, ob, ot, hl, S.lenL_app, S.hex2, S.hex4, S.bl, S.lenL_cons, S.lenL_nil, bc_true, bc_false, true_and, and_true]
   try simp only [K.app_eq, List.append_assoc]
   rw [show S.shw o a b p = S.nm o ++ S.opn 0 a b p from S.shw_at h rfl]
   first
    | exact List.append_nil _
    | exact congrArg (fun x => S.nm o ++ x) (by kernel_rfl)
  ·simp (disch := omega) only [hG, hB, h, S.eqI_sm, S.eqI_ne, S.tgtW r2 r4, wa, wb, oa, ob, ot, hl, S.lenL_app, S.hex2, S.hex4, S.bl, S.lenL_cons, S.lenL_nil, bc_true, bc_false, true_and, and_true]
   try simp only [K.app_eq, List.append_assoc]
   rw [show S.shw o a b p = S.nm o ++ S.opn 1 a b p from S.shw_at h rfl]
   first
    | exact List.append_nil _
    | exact congrArg (fun x => S.nm o ++ x) (by kernel_rfl)
  ·simp (disch := omega) only [hG, hB, h, S.eqI_sm, S.eqI_ne, S.tgtW r2 r4, wa, wb, oa, ob, ot, hl, S.lenL_app, S.hex2, S.hex4, S.bl, S.lenL_cons, S.lenL_nil, bc_true, bc_false, true_and, and_true]
   try simp only [K.app_eq, List.append_assoc]
   rw [show S.shw o a b p = S.nm o ++ S.opn 2 a b p from S.shw_at h rfl]
   first
    | exact List.append_nil _
    | exact congrArg (fun x => S.nm o ++ x) (by kernel_rfl)
  ·simp (disch := omega) only [hG, hB, h, S.eqI_sm, S.eqI_ne, S.tgtW r2 r4, wa, wb, oa, ob, ot, hl, S.lenL_app, S.hex2, S.hex4, S.bl, S.lenL_cons, S.lenL_nil, bc_true, bc_false, true_and, and_true]
   try simp only [K.app_eq, List.append_assoc]
   rw [show S.shw o a b p = S.nm o ++ S.opn 3 a b p from S.shw_at h rfl]
   first
    | exact List.append_nil _
    | exact congrArg (fun x => S.nm o ++ x) (by kernel_rfl)
  ·simp (disch := omega) only [hG, hB, h, S.eqI_sm, S.eqI_ne, S.tgtW r2 r4, wa, wb, oa, ob, ot, hl, S.lenL_app, S.hex2, S.hex4, S.bl, S.lenL_cons, S.lenL_nil, bc_true, bc_false, true_and, and_true]
   try simp only [K.app_eq, List.append_assoc]
   rw [show S.shw o a b p = S.nm o ++ S.opn 4 a b p from S.shw_at h rfl]
   first
    | exact List.append_nil _
    | exact congrArg (fun x => S.nm o ++ x) (by kernel_rfl)
  ·simp (disch := omega) only [hG, hB, h, S.eqI_sm, S.eqI_ne, S.tgtW r2 r4, wa, wb, oa, ob, ot, hl, S.lenL_app, S.hex2, S.hex4, S.bl, S.lenL_cons, S.lenL_nil, bc_true, bc_false, true_and, and_true]
   try simp only [K.app_eq, List.append_assoc]
   rw [show S.shw o a b p = S.nm o ++ S.opn 5 a b p from S.shw_at h rfl]
   first
    | exact List.append_nil _
    | exact congrArg (fun x => S.nm o ++ x) (by kernel_rfl)
  ·simp (disch := omega) only [hG, hB, h, S.eqI_sm, S.eqI_ne, S.tgtW r2 r4, wa, wb, oa, ob, ot, hl, S.lenL_app, S.hex2, S.hex4, S.bl, S.lenL_cons, S.lenL_nil, bc_true, bc_false, true_and, and_true]
   try simp only [K.app_eq, List.append_assoc]
   rw [show S.shw o a b p = S.nm o ++ S.opn 6 a b p from S.shw_at h rfl]
   first
    | exact List.append_nil _
    | exact congrArg (fun x => S.nm o ++ x) (by kernel_rfl)
  ·simp (disch := omega) only [hG, hB, h, S.eqI_sm, S.eqI_ne, S.tgtW r2 r4, wa, wb, oa, ob, ot, hl, S.lenL_app, S.hex2, S.hex4, S.bl, S.lenL_cons, S.lenL_nil, bc_true, bc_false, true_and, and_true]
   try simp only [K.app_eq, List.append_assoc]
   rw [show S.shw o a b p = S.nm o ++ S.opn 7 a b p from S.shw_at h rfl]
   first
    | exact List.append_nil _
    | exact congrArg (fun x => S.nm o ++ x) (by kernel_rfl)
  ·simp (disch := omega) only [hG, hB, h, S.eqI_sm, S.eqI_ne, S.tgtW r2 r4, wa, wb, oa, ob, ot, hl, S.lenL_app, S.hex2, S.hex4, S.bl, S.lenL_cons, S.lenL_nil, bc_true, bc_false, true_and, and_true]
   try simp only [K.app_eq, List.append_assoc]
   rw [show S.shw o a b p = S.nm o ++ S.opn 8 a b p from S.shw_at h rfl]
   first
    | exact List.append_nil _
    | exact congrArg (fun x => S.nm o ++ x) (by kernel_rfl)
  ·simp (disch := omega) only [hG, hB, h, S.eqI_sm, S.eqI_ne, S.tgtW r2 r4, wa, wb, oa, ob, ot, hl, S.lenL_app, S.hex2, S.hex4, S.bl, S.lenL_cons, S.lenL_nil, bc_true, bc_false, true_and, and_true]
   try simp only [K.app_eq, List.append_assoc]
   rw [show S.shw o a b p = S.nm o ++ S.opn 9 a b p from S.shw_at h rfl]
   first
    | exact List.append_nil _
    | exact congrArg (fun x => S.nm o ++ x) (by kernel_rfl)
  ·simp (disch := omega) only [hG, hB, h, S.eqI_sm, S.eqI_ne, S.tgtW r2 r4, wa, wb, oa, ob, ot, hl, S.lenL_app, S.hex2, S.hex4, S.bl, S.lenL_cons, S.lenL_nil, bc_true, bc_false, true_and, and_true]
   try simp only [K.app_eq, List.append_assoc]
   rw [show S.shw o a b p = S.nm o ++ S.opn 10 a b p from S.shw_at h rfl]
   first
    | exact List.append_nil _
    | exact congrArg (fun x => S.nm o ++ x) (by kernel_rfl)
  ·simp (disch := omega) only [hG, hB, h, S.eqI_sm, S.eqI_ne, S.tgtW r2 r4, wa, wb, oa, ob, ot, hl, S.lenL_app, S.hex2, S.hex4, S.bl, S.lenL_cons, S.lenL_nil, bc_true, bc_false, true_and, and_true]
   try simp only [K.app_eq, List.append_assoc]
   rw [show S.shw o a b p = S.nm o ++ S.opn 11 a b p from S.shw_at h rfl]
   first
    | exact List.append_nil _
    | exact congrArg (fun x => S.nm o ++ x) (by kernel_rfl)
  ·simp (disch := omega) only [hG, hB, h, S.eqI_sm, S.eqI_ne, S.tgtW r2 r4, wa, wb, oa, ob, ot, hl, S.lenL_app, S.hex2, S.hex4, S.bl, S.lenL_cons, S.lenL_nil, bc_true, bc_false, true_and, and_true]
   try simp only [K.app_eq, List.append_assoc]
   rw [show S.shw o a b p = S.nm o ++ S.opn 12 a b p from S.shw_at h rfl]
   first
    | exact List.append_nil _
    | exact congrArg (fun x => S.nm o ++ x) (by kernel_rfl)
theorem cln_k (o : Int) (g : Nat) (cs : List LV) (g1 : Nat) (m : Int) (h : bc (S.okG g cs g1) (S.isB o) false = true) : HT Tryd.prog 20 [.int .u8 o] (Heap.of [.glob g cs, .glob g1 [.int .i64 m]]) (.ret (.int .i64 (S.len o))) (Heap.of [.glob g cs, .glob g1 [.int .i64 m]]) := by
 cases h1 : S.okG g cs g1 with
 | false => rw [h1] at h; cases h
 | true =>
  rw [h1, bc_true] at h
  obtain ⟨e1, e2, e3⟩ := S.okG_ok h1
  subst e1; subst e2; subst e3
  exact cln_con o m h
theorem csh_k (o a b p : Int) (g : Nat) (cs : List LV) (g1 : Nat) (m : Int) (h : bc (S.okG g cs g1) (S.okS o a b p) false = true) : HT Tryd.prog 10 [.int .u8 o, .int .u8 a, .int .u8 b, .int .u16 p] (Heap.of [.glob g cs, .glob g1 [.int .i64 m]]) (.ret (.str (S.shw o a b p))) (Heap.of [.glob g cs, .glob g1 [.int .i64 m]]) := by
 cases h1 : S.okG g cs g1 with
 | false => rw [h1] at h; cases h
 | true =>
  rw [h1, bc_true] at h
  obtain ⟨e1, e2, e3⟩ := S.okG_ok h1
  subst e1; subst e2; subst e3
  exact csh_con o a b p m h
theorem ln_ok : lnE.ok Tryd.prog 20 := by
 intro xs os b r h h3
 unfold lnE at h
 simp only at h
 split at h
 ·injection h with h; injection h with h1 h2; subst h1; subst h2
  exact cln_k _ _ _ _ _ h3
 ·cases h
theorem sh_ok : shE.ok Tryd.prog 10 := by
 intro xs os b r h h3
 unfold shE at h
 simp only at h
 split at h
 ·injection h with h; injection h with h1 h2; subst h1; subst h2
  exact csh_k _ _ _ _ _ _ _ _ h3
 ·cases h
end Go.Proofs.YtlgfojaalmelhaaDoor.Ev
