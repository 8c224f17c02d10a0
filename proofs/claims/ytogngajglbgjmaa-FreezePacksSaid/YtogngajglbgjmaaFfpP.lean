/- Contracts, proved: Ffp. -/
import Derived.Test.YtogngajglbgjmaaFfpD
import Derived.Test.YtogngajglbgjmaaFpkP
namespace Go.Proofs.Ytogngajglbgjmaa.Ev
open Go
set_option linter.unusedVariables false
set_option linter.unusedSimpArgs false
set_option maxRecDepth 100000
namespace S
theorem eqB_self (a : List UInt8) : eqB a a = true := by rw [eqB_eq]; simp
end S
theorem awk25_run : K.bodyF (envL []) (K.runF (envL []) 30) 9 [] (Heap.of []) .auto (K.endC K.shutE 0 ⟨.ret (.bool true), [], []⟩) = True := by kernel_rfl
theorem awk25_con : HT Try.prog 9 [] (Heap.of []) (⟨.ret (.bool true), [], []⟩ : K.CRes).e (Heap.of (K.chg [] (⟨.ret (.bool true), [], []⟩ : K.CRes).ch ++ (⟨.ret (.bool true), [], []⟩ : K.CRes).new)) := by
  refine K.con_of_eq (A := envL []) (E := K.shutE) (k := 30) (g := 9) (xs := []) (os := []) (r := ⟨.ret (.bool true), [], []⟩) (h := .auto) good (envL_ok ?_) K.shutE_ok (awk25_run)
  intro p hp; cases hp
theorem awk25_ok : awk25E.ok Try.prog 9 := by
  intro xs os b r h h3
  unfold awk25E at h
  simp only at h
  split at h
  · injection h with h; injection h with h1 h2; subst h1; subst h2
    exact awk25_con
  · cases h
theorem fpN_run : K.bodyF (envL []) (K.runF (envL []) 30) 3 [.nils] (Heap.of []) .auto (K.endC K.shutE 0 ⟨.ret (.bool true), [], []⟩) = True := by kernel_rfl
theorem fpN_con : HT Try.prog 3 [.nils] (Heap.of []) (⟨.ret (.bool true), [], []⟩ : K.CRes).e (Heap.of (K.chg [] (⟨.ret (.bool true), [], []⟩ : K.CRes).ch ++ (⟨.ret (.bool true), [], []⟩ : K.CRes).new)) := by
  refine K.con_of_eq (A := envL []) (E := K.shutE) (k := 30) (g := 3) (xs := [.nils]) (os := []) (r := ⟨.ret (.bool true), [], []⟩) (h := .auto) good (envL_ok ?_) K.shutE_ok (fpN_run)
  intro p hp; cases hp
theorem fpE_run : K.bodyF (envL []) (K.runF (envL []) 30) 3 [.emp 0] (Heap.of [.empty]) .auto (K.endC K.shutE 1 ⟨.ret (.bool true), [], []⟩) = True := by kernel_rfl
theorem fpE_con : HT Try.prog 3 [.emp 0] (Heap.of [.empty]) (⟨.ret (.bool true), [], []⟩ : K.CRes).e (Heap.of (K.chg [.empty] (⟨.ret (.bool true), [], []⟩ : K.CRes).ch ++ (⟨.ret (.bool true), [], []⟩ : K.CRes).new)) := by
  refine K.con_of_eq (A := envL []) (E := K.shutE) (k := 30) (g := 3) (xs := [.emp 0]) (os := [.empty]) (r := ⟨.ret (.bool true), [], []⟩) (h := .auto) good (envL_ok ?_) K.shutE_ok (fpE_run)
  intro p hp; cases hp
theorem fpG_run (W et q : Nat) (ws : List LV) : K.bodyF (envL [(7, pakGE), (8, rpakGE), (9, awk25E)]) (K.runF (envL [(7, pakGE), (8, rpakGE), (9, awk25E)]) 30) 3 [.slice 0 0 W (.known q)] (Heap.of [.flat [.i .i64] et .ro ws]) Hint.auto (K.endC K.openE 1 ⟨.ret (.bool true), [], []⟩) =
    (bc (ltI (400 : Int) ↑W) (true = true ∧ True) (bc (Nat.ble ((0 : Nat) + W) (lenL ws)) (bc (Nat.ble ((0 : Nat) + W) (0 : Nat)) (bc (Nat.beq W (0 : Nat)) (bc (S.okWG ws W) (bc (Nat.ble ((0 : Nat) + S.packL ws W) (lenL (S.packed ws W))) (bc (eqB (K.bytesV (sub (S.packed [] (0 : Nat)) (0 : Nat) (4 : Nat))) (K.bytesV (sub (S.packed ws W) (0 : Nat) (S.packL ws W)))) (true = true ∧ True) (true = false ∧ True)) False) False) False) (bc (Nat.ble (((0 : Nat) + W) * (8 : Nat)) (1099511627776 : Nat)) (bc (S.okWG (app (sub [] (0 : Nat) (0 : Nat)) (sub ws (0 : Nat) W)) ((0 : Nat) + W)) (bc (S.okWG ws W) (bc (Nat.ble ((0 : Nat) + S.packL (app (sub [] (0 : Nat) (0 : Nat)) (sub ws (0 : Nat) W)) ((0 : Nat) + W)) (lenL (S.packed (app (sub [] (0 : Nat) (0 : Nat)) (sub ws (0 : Nat) W)) ((0 : Nat) + W)))) (bc (Nat.ble ((0 : Nat) + S.packL ws W) (lenL (S.packed ws W))) (bc (eqB (K.bytesV (sub (S.packed (app (sub [] (0 : Nat) (0 : Nat)) (sub ws (0 : Nat) W)) ((0 : Nat) + W)) (0 : Nat) (S.packL (app (sub [] (0 : Nat) (0 : Nat)) (sub ws (0 : Nat) W)) ((0 : Nat) + W)))) (K.bytesV (sub (S.packed ws W) (0 : Nat) (S.packL ws W)))) (true = true ∧ True) (true = false ∧ True)) False) False) False) False) False)) False)) := by kernel_rfl
theorem fpG_con (W et q : Nat) (ws : List LV) (h0 : S.an (Nat.beq (lenL ws) W) (S.okF ws (S.rem W 0) 0) = true) : HT Try.prog 3 [.slice 0 0 W (.known q)] (Heap.of [.flat [.i .i64] et .ro ws]) (⟨.ret (.bool true), [], []⟩ : K.CRes).e (Heap.of (K.chg [.flat [.i .i64] et .ro ws] (⟨.ret (.bool true), [], []⟩ : K.CRes).ch ++ (⟨.ret (.bool true), [], []⟩ : K.CRes).new)) := by
  refine K.con_of_run good (A := envL [(7, pakGE), (8, rpakGE), (9, awk25E)]) (envL_ok ?_) K.openE_ok (k := 30) (cast (fpG_run W et q ws).symm ?_)
  · intro p hp; simp only [List.mem_cons, List.not_mem_nil, or_false] at hp; rcases hp with rfl | rfl | rfl <;> first | exact pakG_ok | exact rpakG_ok | exact awk25_ok
  · obtain ⟨h1, hF⟩ := S.an_iff.1 h0
    have h1 : lenL ws = W := Nat.eq_of_beq_eq_true h1
    by_cases hW : 400 < (W : Int)
    · rw [ltI_true.2 hW]; simp
    · have okw : S.okWG ws W = true := S.an_iff.2 ⟨S.okW_iff.2 ⟨h1, by omega⟩, hF⟩
      have hp : lenL (S.packed ws W) = S.packL ws W := rfl
      have hb : ((0 + W) * 8).ble 1099511627776 = true := Nat.ble_eq_true_of_le (by omega)
      rw [ltI_false.2 (by omega)]
      have e0 : app (sub [] 0 0) (sub ws 0 W) = ws := by rw [S.sub_all h1]; rfl
      rcases Nat.eq_zero_or_pos W with hz | hz
      · subst hz
        have hws : ws = [] := by
          rw [K.lenL_eq] at h1
          exact List.eq_nil_of_length_eq_zero h1
        subst hws
        have hq : S.packL [] 0 = 4 := by kernel_rfl
        have b1 : (0 + 0).ble (lenL ([] : List LV)) = true := rfl
        have b2 : (0 + 0).ble 0 = true := rfl
        have b3 : Nat.beq 0 0 = true := rfl
        have b4 : (0 + 4).ble 4 = true := rfl
        simp only [bc_false, bc_true, b1, b2, b3, okw, hp, hq, b4, S.eqB_self]
        simp
      · have hn : W.ble 0 = false := by
          cases h : W.ble 0
          · rfl
          · have := Nat.le_of_ble_eq_true h; omega
        simp only [bc_false, bc_true, Nat.zero_add, h1, S.ble_self, hn, e0, okw, hp, S.sub_all hp, S.eqB_self] at hb ⊢
        rw [hb]
        simp
theorem fpB_run (W et q : Nat) (ws : List LV) : K.bodyF (envL [(7, pakBE), (8, rpakBE), (9, awk25E)]) (K.runF (envL [(7, pakBE), (8, rpakBE), (9, awk25E)]) 30) 3 [.slice 0 0 W (.known q)] (Heap.of [.flat [.i .i64] et .ro ws]) Hint.auto (K.endC K.openE 1 ⟨.ret (.bool true), [], []⟩) =
    (bc (ltI (400 : Int) ↑W) (true = true ∧ True) (bc (Nat.ble ((0 : Nat) + W) (lenL ws)) (bc (Nat.ble ((0 : Nat) + W) (0 : Nat)) (bc (Nat.beq W (0 : Nat)) False False) (bc (Nat.ble (((0 : Nat) + W) * (8 : Nat)) (1099511627776 : Nat)) (bc (S.okWB (app (sub [] (0 : Nat) (0 : Nat)) (sub ws (0 : Nat) W)) ((0 : Nat) + W)) (bc (S.okWB ws W) (true = true ∧ True) False) False) False)) False)) := by kernel_rfl
theorem fpB_con (W et q : Nat) (ws : List LV) (h0 : S.an (Nat.beq (lenL ws) W) (notB (S.okF ws (S.rem W 0) 0)) = true) : HT Try.prog 3 [.slice 0 0 W (.known q)] (Heap.of [.flat [.i .i64] et .ro ws]) (⟨.ret (.bool true), [], []⟩ : K.CRes).e (Heap.of (K.chg [.flat [.i .i64] et .ro ws] (⟨.ret (.bool true), [], []⟩ : K.CRes).ch ++ (⟨.ret (.bool true), [], []⟩ : K.CRes).new)) := by
  refine K.con_of_run good (A := envL [(7, pakBE), (8, rpakBE), (9, awk25E)]) (envL_ok ?_) K.openE_ok (k := 30) (cast (fpB_run W et q ws).symm ?_)
  · intro p hp; simp only [List.mem_cons, List.not_mem_nil, or_false] at hp; rcases hp with rfl | rfl | rfl <;> first | exact pakB_ok | exact rpakB_ok | exact awk25_ok
  · obtain ⟨h1, hF⟩ := S.an_iff.1 h0
    have h1 : lenL ws = W := Nat.eq_of_beq_eq_true h1
    by_cases hW : 400 < (W : Int)
    · rw [ltI_true.2 hW]; simp
    · have okw : S.okWB ws W = true := S.an_iff.2 ⟨S.okW_iff.2 ⟨h1, by omega⟩, hF⟩
      have hb : ((0 + W) * 8).ble 1099511627776 = true := Nat.ble_eq_true_of_le (by omega)
      rw [ltI_false.2 (by omega)]
      have e0 : app (sub [] 0 0) (sub ws 0 W) = ws := by rw [S.sub_all h1]; rfl
      rcases Nat.eq_zero_or_pos W with hz | hz
      · subst hz
        cases hF
      · have hn : W.ble 0 = false := by
          cases h : W.ble 0
          · rfl
          · have := Nat.le_of_ble_eq_true h; omega
        simp only [bc_false, bc_true, Nat.zero_add, h1, S.ble_self, hn, e0, okw] at hb ⊢
        rw [hb]
        simp
theorem fp_N : HT Try.prog 3 [.nils] (Heap.of []) (.ret (.bool true)) (Heap.of []) := fpN_con
theorem fp_E : HT Try.prog 3 [.emp 0] (Heap.of [.empty]) (.ret (.bool true)) (Heap.of [.empty]) := fpE_con
theorem fp_S (l : List Int) (q et : Nat) (hl : ∀ a, a ∈ l → -9223372036854775808 ≤ a ∧ a ≤ 9223372036854775807) : HT Try.prog 3 [.slice 0 0 l.length (.known q)] (Heap.of [.flat S.intK et .ro (l.flatMap S.intV)]) (.ret (.bool true)) (Heap.of [.flat S.intK et .ro (l.flatMap S.intV)]) := by
  have hlen : lenL (l.flatMap S.intV) = l.length := by rw [K.lenL_eq, flatMap_length _ 1 (fun _ => rfl) l, Nat.mul_one]
  have hb : Nat.beq (lenL (l.flatMap S.intV)) l.length = true := by rw [hlen]; exact Nat.beq_refl _
  cases h : S.okF (l.flatMap S.intV) (S.rem l.length 0) 0
  · exact fpB_con l.length et q (l.flatMap S.intV) (S.an_iff.2 ⟨hb, by rw [h]; rfl⟩)
  · exact fpG_con l.length et q (l.flatMap S.intV) (S.an_iff.2 ⟨hb, h⟩)
end Go.Proofs.Ytogngajglbgjmaa.Ev
