/- Contracts, proved: Ffb. -/
import Derived.Test.YtogngajglbgjmaaFfbD
import Derived.Test.YtogngajglbgjmaaFbk
import Derived.Test.YtogngajglbgjmaaFsmP
import Derived.Test.YtogngajglbgjmaaFakP
import Derived.Test.YtogngajglbgjmaaFunP
import Derived.Test.YtogngajglbgjmaaFpkP
namespace Go.Proofs.Ytogngajglbgjmaa.Ev
open Go
set_option linter.unusedVariables false
set_option linter.unusedSimpArgs false
set_option maxRecDepth 100000
set_option maxHeartbeats 1000000
namespace S
theorem eqB_same (a : List UInt8) : eqB a a = true := by rw [eqB_eq]; simp
/-- What is told of words that may be written. -/
def WG (ws : List LV) (W : Nat) : Prop := Nums ws ∧ lenL ws = W ∧ 1 ≤ W
/-- What is told of bytes. -/
def BY (vs : List LV) (L q : Nat) : Prop := Byts vs ∧ lenL vs = L ∧ L ≤ q
theorem BY.okU {vs : List LV} {L q : Nat} (h : BY vs L q) (hM : L ≤ 1000000) : okU vs L q = true := okU_iff.2 ⟨⟨h.1.okY, h.2.1⟩, hM, h.2.2⟩
theorem wg_facts {ws : List LV} {W : Nat} (h : WG ws W) (hW : W ≤ 100000) : okWG ws W = true ∧ okU1 (packed ws W) (packL ws W) (packL ws W) = true ∧ an (Nat.beq (ul (packed ws W) (packL ws W) - 1) W) (smG (uw (packed ws W) (packL ws W)) ws (ul (packed ws W) (packL ws W) - 1) 0) = true := by
  obtain ⟨hN, hw, h1⟩ := h
  obtain ⟨p1, ⟨p2, p3⟩, p4, p5⟩ := read_packed hw hN hW
  have hul : ul (packed ws W) (packL ws W) = W + 1 := by
    have : ul (packed ws W) (packL ws W) = lenL (un (packed ws W) (packL ws W)) := rfl
    rw [this, p5, lenL_cons, hw]; omega
  have huw : uw (packed ws W) (packL ws W) = ws := by
    unfold uw
    rw [hul, p5, Nat.add_sub_cancel]
    exact sub_all hw
  refine ⟨nums_okWG hN hw hW, an_iff.2 ⟨okU_iff.2 ⟨⟨p1.okY, rfl⟩, p3, Nat.le_refl _⟩, an_iff.2 ⟨p4, bleN_iff.2 (by omega)⟩⟩, ?_⟩
  rw [hul, huw, Nat.add_sub_cancel]
  exact an_iff.2 ⟨Nat.beq_refl _, an_iff.2 ⟨smI_iff.2 ⟨⟨hw, hw⟩, by omega, Int.le_refl 0, by omega⟩, smR_self _ _ _⟩⟩
theorem bg_facts {vs : List LV} {L q : Nat} (h : BY vs L q) (hM : L ≤ 100000) (hO : uo vs L = true) (h2 : 2 ≤ ul vs L) : okU1 vs L q = true ∧ okWG (uw vs L) (ul vs L - 1) = true ∧ Nat.ble (0 + packL (uw vs L) (ul vs L - 1)) (lenL (packed (uw vs L) (ul vs L - 1))) = true ∧ Nat.ble (0 + L) (lenL vs) = true ∧
    eqB (K.bytesV (sub (packed (uw vs L) (ul vs L - 1)) 0 (packL (uw vs L) (ul vs L - 1)))) (K.bytesV (sub vs 0 L)) = true := by
  obtain ⟨r1, r2, r3, r4, r5⟩ := pack_read h.1 h.2.1 (by omega) hO
  refine ⟨an_iff.2 ⟨h.okU (by omega), an_iff.2 ⟨hO, bleN_iff.2 h2⟩⟩, nums_okWG r2 r3 (by omega), by rw [Nat.zero_add]; exact ble_self _, by rw [Nat.zero_add, h.2.1]; exact ble_self _, ?_⟩
  rw [sub_all (show lenL (packed (uw vs L) (ul vs L - 1)) = packL (uw vs L) (ul vs L - 1) from rfl), r1, sub_all h.2.1]
  exact eqB_same _
theorem bz_facts {vs : List LV} {L q : Nat} (h : BY vs L q) (hM : L ≤ 100000) (hO : uo vs L = true) (h1 : ul vs L = 1) : okU0 vs L q = true ∧ Nat.ble (0 + L) (lenL vs) = true ∧ eqB (K.bytesV (sub (packed [] 0) 0 4)) (K.bytesV (sub vs 0 L)) = true ∧ eqB [UInt8.ofNat 87, UInt8.ofNat 0, UInt8.ofNat 87, UInt8.ofNat 174] (K.bytesV (sub vs 0 L)) = true := by
  obtain ⟨r1, r2, r3, r4, r5⟩ := pack_read h.1 h.2.1 (by omega) hO
  rw [h1] at r1 r3
  have e : uw vs L = [] := by rw [K.lenL_eq] at r3; exact List.eq_nil_of_length_eq_zero r3
  rw [e] at r1
  have r1 : packed [] 0 = vs := r1
  have h4 : lenL (packed [] 0) = 4 := by kernel_rfl
  have hb : K.bytesV (sub (packed [] 0) 0 4) = [UInt8.ofNat 87, UInt8.ofNat 0, UInt8.ofNat 87, UInt8.ofNat 174] := by kernel_rfl
  have hL : L = 4 := by rw [← h.2.1, ← r1, h4]
  subst hL
  refine ⟨an_iff.2 ⟨h.okU (by omega), an_iff.2 ⟨hO, beqN_iff.2 h1⟩⟩, by rw [Nat.zero_add, h.2.1]; exact ble_self _, ?_, ?_⟩
  · rw [r1]; exact eqB_same _
  · rw [← hb, r1]; exact eqB_same _
theorem ul_one2 {vs : List LV} {L : Nat} (h : uo vs L = true) (hC : ¬ 2 ≤ ul vs L) : ul vs L = 1 := by
  obtain ⟨_, _, h1⟩ := uo_iff.1 h
  have h3 : ul vs L ≠ 0 := fun h => by
    have e : un vs L = [] := by
      have : lenL (un vs L) = 0 := h
      rw [K.lenL_eq] at this
      exact List.eq_nil_of_length_eq_zero this
    rw [e, h] at h1
    exact absurd h1 (by decide)
  omega
theorem byV_BY {l : List Int} {q : Nat} (hl : ∀ a, a ∈ l → 0 ≤ a ∧ a ≤ 255) (hq : l.length ≤ q) : BY (l.flatMap byV) l.length q := by
  have len : lenL (l.flatMap byV) = l.length := by rw [K.lenL_eq, flatMap_length _ 1 (fun _ => rfl) l, Nat.mul_one]
  refine ⟨?_, len, hq⟩
  clear hq len
  induction l with
  | nil => exact Byts.nil
  | cons a l ih => exact Byts.cons (hl a (by simp)).1 (by have := (hl a (by simp)).2; omega) (ih fun b hb => hl b (by simp [hb]))
theorem inV_len (l : List Int) : lenL (l.flatMap inV) = l.length := by rw [K.lenL_eq, flatMap_length _ 1 (fun _ => rfl) l, Nat.mul_one]
theorem inV_WG {l : List Int} (hz : 0 < l.length) (hF : okF (l.flatMap inV) (rem l.length 0) 0 = true) : WG (l.flatMap inV) l.length := by
  refine ⟨?_, inV_len l, hz⟩
  have hr : rem l.length 0 = l.length := by unfold rem; omega
  rw [hr] at hF
  have h := okF_to l.length 0 (Int.le_refl 0) hF
  intro u hu
  obtain ⟨i, hi, e⟩ := List.getElem_of_mem hu
  have hi2 : i < l.length := by rw [← inV_len l, K.lenL_eq]; exact hi
  have := okN_iff.1 (h i (Nat.zero_le _) (by show i < 0 + l.length; omega))
  rw [atV_get hi] at this
  obtain ⟨a, ha, hb⟩ := List.mem_flatMap.1 hu
  have hb : u = .int .i64 a := by simpa [inV] using hb
  rw [e, hb] at this
  exact ⟨a, hb, this.1, this.2⟩
end S
theorem fuGZ_ok : fuGZE.ok Try.prog 10 := by
  intro xs os b r h h3
  unfold fuGZE at h
  simp only at h
  split at h
  · injection h with h; injection h with h1 h2; subst h1; subst h2
    exact uG_con _ _ _ _ h3
  · injection h with h; injection h with h1 h2; subst h1; subst h2
    exact unZ_k _ _ _ h3
  · cases h
theorem fuBZ_ok : fuBZE.ok Try.prog 10 := by
  intro xs os b r h h3
  unfold fuBZE at h
  simp only at h
  split at h
  · injection h with h; injection h with h1 h2; subst h1; subst h2
    exact uB_con _ _ _ _ h3
  · injection h with h; injection h with h1 h2; subst h1; subst h2
    exact unZ_k _ _ _ h3
  · cases h
theorem fuZG_ok : fuZGE.ok Try.prog 10 := by
  intro xs os b r h h3
  unfold fuZGE at h
  simp only at h
  split at h
  · injection h with h; injection h with h1 h2; subst h1; subst h2
    exact uZ_con _ _ _ _ h3
  · injection h with h; injection h with h1 h2; subst h1; subst h2
    exact unG_k _ _ _ h3
  · cases h
theorem fuBG_ok : fuBGE.ok Try.prog 10 := by
  intro xs os b r h h3
  unfold fuBGE at h
  simp only at h
  split at h
  · injection h with h; injection h with h1 h2; subst h1; subst h2
    exact uB_con _ _ _ _ h3
  · injection h with h; injection h with h1 h2; subst h1; subst h2
    exact unG_k _ _ _ h3
  · cases h
theorem pkBG_ok : pkBGE.ok Try.prog 7 := by
  intro xs os b r h h3
  unfold pkBGE at h
  simp only at h
  split at h
  · injection h with h; injection h with h1 h2; subst h1; subst h2
    exact pakB_con _ _ _ _ _ h3
  · injection h with h; injection h with h1 h2; subst h1; subst h2
    exact pakG_con _ _ _ _ _ h3
  · cases h
theorem fbNN_run : K.bodyF (envL []) (K.runF (envL []) 30) 5 [.nils, .nils] (Heap.of []) .auto (K.endC K.shutE 0 ⟨.ret (.bool true), [], []⟩) = True := by kernel_rfl
theorem fbNN_con : HT Try.prog 5 [.nils, .nils] (Heap.of []) (⟨.ret (.bool true), [], []⟩ : K.CRes).e (Heap.of (K.chg [] (⟨.ret (.bool true), [], []⟩ : K.CRes).ch ++ (⟨.ret (.bool true), [], []⟩ : K.CRes).new)) := by
  refine K.con_of_eq (A := envL []) (E := K.shutE) (k := 30) (g := 5) (xs := [.nils, .nils]) (os := []) (r := ⟨.ret (.bool true), [], []⟩) (h := .auto) good (envL_ok ?_) K.shutE_ok (fbNN_run)
  intro p hp; cases hp
theorem fbNE_run : K.bodyF (envL []) (K.runF (envL []) 30) 5 [.nils, .emp 0] (Heap.of [.empty]) .auto (K.endC K.shutE 1 ⟨.ret (.bool true), [], []⟩) = True := by kernel_rfl
theorem fbNE_con : HT Try.prog 5 [.nils, .emp 0] (Heap.of [.empty]) (⟨.ret (.bool true), [], []⟩ : K.CRes).e (Heap.of (K.chg [.empty] (⟨.ret (.bool true), [], []⟩ : K.CRes).ch ++ (⟨.ret (.bool true), [], []⟩ : K.CRes).new)) := by
  refine K.con_of_eq (A := envL []) (E := K.shutE) (k := 30) (g := 5) (xs := [.nils, .emp 0]) (os := [.empty]) (r := ⟨.ret (.bool true), [], []⟩) (h := .auto) good (envL_ok ?_) K.shutE_ok (fbNE_run)
  intro p hp; cases hp
theorem fbNG_run (L q eb : Nat) (vs : List LV) : K.bodyF (envL [(10, fuGZE), (7, pakGE), (12, sameXE), (9, awk25E)]) (K.runF (envL [(10, fuGZE), (7, pakGE), (12, sameXE), (9, awk25E)]) 30) 5 [.nils, .slice 0 0 L (.known q)] (Heap.of [.flat [.i .u8] eb .ro vs]) Hint.auto (K.endC K.openE 1 ⟨.ret (.bool true), [], []⟩) =
    (bc (ltI (2000 : Int) ↑L) (true = true ∧ True) (bc (S.okU1 vs L q) (bc (S.okWG (S.uw vs L) (S.ul vs L - (1 : Nat))) (bc (Nat.ble ((0 : Nat) + S.packL (S.uw vs L) (S.ul vs L - (1 : Nat))) (lenL (S.packed (S.uw vs L) (S.ul vs L - (1 : Nat))))) (bc (Nat.ble ((0 : Nat) + L) (lenL vs)) (bc (eqB (K.bytesV (sub (S.packed (S.uw vs L) (S.ul vs L - (1 : Nat))) (0 : Nat) (S.packL (S.uw vs L) (S.ul vs L - (1 : Nat))))) (K.bytesV (sub vs (0 : Nat) L))) (true = true ∧ True) (true = false ∧ True)) False) False) False) False)) := by kernel_rfl
theorem fbNG_con (L q eb : Nat) (vs : List LV)  (hb : S.BY vs L q) (hO : S.uo vs L = true) (hC : 2 ≤ S.ul vs L) : HT Try.prog 5 [.nils, .slice 0 0 L (.known q)] (Heap.of [.flat [.i .u8] eb .ro vs]) (⟨.ret (.bool true), [], []⟩ : K.CRes).e (Heap.of (K.chg [.flat [.i .u8] eb .ro vs] (⟨.ret (.bool true), [], []⟩ : K.CRes).ch ++ (⟨.ret (.bool true), [], []⟩ : K.CRes).new)) := by
  refine K.con_of_run good (A := envL [(10, fuGZE), (7, pakGE), (12, sameXE), (9, awk25E)]) (envL_ok ?_) K.openE_ok (k := 30) (cast (fbNG_run L q eb vs).symm ?_)
  · intro p hp; simp only [List.mem_cons, List.not_mem_nil, or_false] at hp; rcases hp with rfl | rfl | rfl | rfl <;> first | exact fuGZ_ok | exact pakG_ok | exact sameX_ok | exact awk25_ok
  · by_cases h2 : 2000 < (L : Int)
    · rw [ltI_true.2 h2]; simp
    rw [ltI_false.2 (by omega), bc_false]
    obtain ⟨b1, b2, b3, b4, b5⟩ := S.bg_facts hb (by omega) hO hC
    simp only [b1, b2, b3, b4, b5, bc_true, bc_false]
    simp
theorem fbNZ_run (L q eb : Nat) (vs : List LV) : K.bodyF (envL [(10, unZE), (7, pakGE), (12, sameXE), (9, awk25E)]) (K.runF (envL [(10, unZE), (7, pakGE), (12, sameXE), (9, awk25E)]) 30) 5 [.nils, .slice 0 0 L (.known q)] (Heap.of [.flat [.i .u8] eb .ro vs]) Hint.auto (K.endC K.openE 1 ⟨.ret (.bool true), [], []⟩) =
    (bc (ltI (2000 : Int) ↑L) (true = true ∧ True) (bc (S.okU0 vs L q) (bc (Nat.ble ((0 : Nat) + L) (lenL vs)) (bc (eqB (K.bytesV (sub (S.packed [] (0 : Nat)) (0 : Nat) (4 : Nat))) (K.bytesV (sub vs (0 : Nat) L))) (true = true ∧ True) (true = false ∧ True)) False) False)) := by kernel_rfl
theorem fbNZ_con (L q eb : Nat) (vs : List LV)  (hb : S.BY vs L q) (hO : S.uo vs L = true) (hC : S.ul vs L = 1) : HT Try.prog 5 [.nils, .slice 0 0 L (.known q)] (Heap.of [.flat [.i .u8] eb .ro vs]) (⟨.ret (.bool true), [], []⟩ : K.CRes).e (Heap.of (K.chg [.flat [.i .u8] eb .ro vs] (⟨.ret (.bool true), [], []⟩ : K.CRes).ch ++ (⟨.ret (.bool true), [], []⟩ : K.CRes).new)) := by
  refine K.con_of_run good (A := envL [(10, unZE), (7, pakGE), (12, sameXE), (9, awk25E)]) (envL_ok ?_) K.openE_ok (k := 30) (cast (fbNZ_run L q eb vs).symm ?_)
  · intro p hp; simp only [List.mem_cons, List.not_mem_nil, or_false] at hp; rcases hp with rfl | rfl | rfl | rfl <;> first | exact unZ_ok | exact pakG_ok | exact sameX_ok | exact awk25_ok
  · by_cases h2 : 2000 < (L : Int)
    · rw [ltI_true.2 h2]; simp
    rw [ltI_false.2 (by omega), bc_false]
    obtain ⟨b1, b2, b3, b4⟩ := S.bz_facts hb (by omega) hO hC
    simp only [b1, b2, b3, b4, bc_true, bc_false]
    simp
theorem fbNB_run (L q eb : Nat) (vs : List LV) : K.bodyF (envL [(10, fuBZE), (7, pakGE), (12, sameXE), (9, awk25E)]) (K.runF (envL [(10, fuBZE), (7, pakGE), (12, sameXE), (9, awk25E)]) 30) 5 [.nils, .slice 0 0 L (.known q)] (Heap.of [.flat [.i .u8] eb .ro vs]) Hint.auto (K.endC K.openE 1 ⟨.ret (.bool true), [], []⟩) =
    (bc (ltI (2000 : Int) ↑L) (true = true ∧ True) (bc (S.okUB vs L q) (true = true ∧ True) False)) := by kernel_rfl
theorem fbNB_con (L q eb : Nat) (vs : List LV)  (hb : L ≤ 2000 → S.okUB vs L q = true) : HT Try.prog 5 [.nils, .slice 0 0 L (.known q)] (Heap.of [.flat [.i .u8] eb .ro vs]) (⟨.ret (.bool true), [], []⟩ : K.CRes).e (Heap.of (K.chg [.flat [.i .u8] eb .ro vs] (⟨.ret (.bool true), [], []⟩ : K.CRes).ch ++ (⟨.ret (.bool true), [], []⟩ : K.CRes).new)) := by
  refine K.con_of_run good (A := envL [(10, fuBZE), (7, pakGE), (12, sameXE), (9, awk25E)]) (envL_ok ?_) K.openE_ok (k := 30) (cast (fbNB_run L q eb vs).symm ?_)
  · intro p hp; simp only [List.mem_cons, List.not_mem_nil, or_false] at hp; rcases hp with rfl | rfl | rfl | rfl <;> first | exact fuBZ_ok | exact pakG_ok | exact sameX_ok | exact awk25_ok
  · by_cases h2 : 2000 < (L : Int)
    · rw [ltI_true.2 h2]; simp
    rw [ltI_false.2 (by omega), bc_false]
    have b1 := hb (by omega)
    simp only [b1, bc_true, bc_false]
    simp
theorem fbEN_run : K.bodyF (envL []) (K.runF (envL []) 30) 5 [.emp 0, .nils] (Heap.of [.empty]) .auto (K.endC K.shutE 1 ⟨.ret (.bool true), [], []⟩) = True := by kernel_rfl
theorem fbEN_con : HT Try.prog 5 [.emp 0, .nils] (Heap.of [.empty]) (⟨.ret (.bool true), [], []⟩ : K.CRes).e (Heap.of (K.chg [.empty] (⟨.ret (.bool true), [], []⟩ : K.CRes).ch ++ (⟨.ret (.bool true), [], []⟩ : K.CRes).new)) := by
  refine K.con_of_eq (A := envL []) (E := K.shutE) (k := 30) (g := 5) (xs := [.emp 0, .nils]) (os := [.empty]) (r := ⟨.ret (.bool true), [], []⟩) (h := .auto) good (envL_ok ?_) K.shutE_ok (fbEN_run)
  intro p hp; cases hp
theorem fbEE_run : K.bodyF (envL []) (K.runF (envL []) 30) 5 [.emp 0, .emp 1] (Heap.of [.empty, .empty]) .auto (K.endC K.shutE 2 ⟨.ret (.bool true), [], []⟩) = True := by kernel_rfl
theorem fbEE_con : HT Try.prog 5 [.emp 0, .emp 1] (Heap.of [.empty, .empty]) (⟨.ret (.bool true), [], []⟩ : K.CRes).e (Heap.of (K.chg [.empty, .empty] (⟨.ret (.bool true), [], []⟩ : K.CRes).ch ++ (⟨.ret (.bool true), [], []⟩ : K.CRes).new)) := by
  refine K.con_of_eq (A := envL []) (E := K.shutE) (k := 30) (g := 5) (xs := [.emp 0, .emp 1]) (os := [.empty, .empty]) (r := ⟨.ret (.bool true), [], []⟩) (h := .auto) good (envL_ok ?_) K.shutE_ok (fbEE_run)
  intro p hp; cases hp
theorem fbEG_run (L q eb : Nat) (vs : List LV) : K.bodyF (envL [(10, fuGZE), (7, pakGE), (12, sameXE), (9, awk25E)]) (K.runF (envL [(10, fuGZE), (7, pakGE), (12, sameXE), (9, awk25E)]) 30) 5 [.emp 0, .slice 1 0 L (.known q)] (Heap.of [.empty, .flat [.i .u8] eb .ro vs]) Hint.auto (K.endC K.openE 2 ⟨.ret (.bool true), [], []⟩) =
    (bc (ltI (2000 : Int) ↑L) (true = true ∧ True) (bc (S.okU1 vs L q) (bc (S.okWG (S.uw vs L) (S.ul vs L - (1 : Nat))) (bc (Nat.ble ((0 : Nat) + S.packL (S.uw vs L) (S.ul vs L - (1 : Nat))) (lenL (S.packed (S.uw vs L) (S.ul vs L - (1 : Nat))))) (bc (Nat.ble ((0 : Nat) + L) (lenL vs)) (bc (eqB (K.bytesV (sub (S.packed (S.uw vs L) (S.ul vs L - (1 : Nat))) (0 : Nat) (S.packL (S.uw vs L) (S.ul vs L - (1 : Nat))))) (K.bytesV (sub vs (0 : Nat) L))) (true = true ∧ True) (true = false ∧ True)) False) False) False) False)) := by kernel_rfl
theorem fbEG_con (L q eb : Nat) (vs : List LV)  (hb : S.BY vs L q) (hO : S.uo vs L = true) (hC : 2 ≤ S.ul vs L) : HT Try.prog 5 [.emp 0, .slice 1 0 L (.known q)] (Heap.of [.empty, .flat [.i .u8] eb .ro vs]) (⟨.ret (.bool true), [], []⟩ : K.CRes).e (Heap.of (K.chg [.empty, .flat [.i .u8] eb .ro vs] (⟨.ret (.bool true), [], []⟩ : K.CRes).ch ++ (⟨.ret (.bool true), [], []⟩ : K.CRes).new)) := by
  refine K.con_of_run good (A := envL [(10, fuGZE), (7, pakGE), (12, sameXE), (9, awk25E)]) (envL_ok ?_) K.openE_ok (k := 30) (cast (fbEG_run L q eb vs).symm ?_)
  · intro p hp; simp only [List.mem_cons, List.not_mem_nil, or_false] at hp; rcases hp with rfl | rfl | rfl | rfl <;> first | exact fuGZ_ok | exact pakG_ok | exact sameX_ok | exact awk25_ok
  · by_cases h2 : 2000 < (L : Int)
    · rw [ltI_true.2 h2]; simp
    rw [ltI_false.2 (by omega), bc_false]
    obtain ⟨b1, b2, b3, b4, b5⟩ := S.bg_facts hb (by omega) hO hC
    simp only [b1, b2, b3, b4, b5, bc_true, bc_false]
    simp
theorem fbEZ_run (L q eb : Nat) (vs : List LV) : K.bodyF (envL [(10, unZE), (7, pakGE), (12, sameXE), (9, awk25E)]) (K.runF (envL [(10, unZE), (7, pakGE), (12, sameXE), (9, awk25E)]) 30) 5 [.emp 0, .slice 1 0 L (.known q)] (Heap.of [.empty, .flat [.i .u8] eb .ro vs]) Hint.auto (K.endC K.openE 2 ⟨.ret (.bool true), [], []⟩) =
    (bc (ltI (2000 : Int) ↑L) (true = true ∧ True) (bc (S.okU0 vs L q) (bc (Nat.ble ((0 : Nat) + L) (lenL vs)) (bc (eqB (K.bytesV (sub (S.packed [] (0 : Nat)) (0 : Nat) (4 : Nat))) (K.bytesV (sub vs (0 : Nat) L))) (true = true ∧ True) (true = false ∧ True)) False) False)) := by kernel_rfl
theorem fbEZ_con (L q eb : Nat) (vs : List LV)  (hb : S.BY vs L q) (hO : S.uo vs L = true) (hC : S.ul vs L = 1) : HT Try.prog 5 [.emp 0, .slice 1 0 L (.known q)] (Heap.of [.empty, .flat [.i .u8] eb .ro vs]) (⟨.ret (.bool true), [], []⟩ : K.CRes).e (Heap.of (K.chg [.empty, .flat [.i .u8] eb .ro vs] (⟨.ret (.bool true), [], []⟩ : K.CRes).ch ++ (⟨.ret (.bool true), [], []⟩ : K.CRes).new)) := by
  refine K.con_of_run good (A := envL [(10, unZE), (7, pakGE), (12, sameXE), (9, awk25E)]) (envL_ok ?_) K.openE_ok (k := 30) (cast (fbEZ_run L q eb vs).symm ?_)
  · intro p hp; simp only [List.mem_cons, List.not_mem_nil, or_false] at hp; rcases hp with rfl | rfl | rfl | rfl <;> first | exact unZ_ok | exact pakG_ok | exact sameX_ok | exact awk25_ok
  · by_cases h2 : 2000 < (L : Int)
    · rw [ltI_true.2 h2]; simp
    rw [ltI_false.2 (by omega), bc_false]
    obtain ⟨b1, b2, b3, b4⟩ := S.bz_facts hb (by omega) hO hC
    simp only [b1, b2, b3, b4, bc_true, bc_false]
    simp
theorem fbEB_run (L q eb : Nat) (vs : List LV) : K.bodyF (envL [(10, fuBZE), (7, pakGE), (12, sameXE), (9, awk25E)]) (K.runF (envL [(10, fuBZE), (7, pakGE), (12, sameXE), (9, awk25E)]) 30) 5 [.emp 0, .slice 1 0 L (.known q)] (Heap.of [.empty, .flat [.i .u8] eb .ro vs]) Hint.auto (K.endC K.openE 2 ⟨.ret (.bool true), [], []⟩) =
    (bc (ltI (2000 : Int) ↑L) (true = true ∧ True) (bc (S.okUB vs L q) (true = true ∧ True) False)) := by kernel_rfl
theorem fbEB_con (L q eb : Nat) (vs : List LV)  (hb : L ≤ 2000 → S.okUB vs L q = true) : HT Try.prog 5 [.emp 0, .slice 1 0 L (.known q)] (Heap.of [.empty, .flat [.i .u8] eb .ro vs]) (⟨.ret (.bool true), [], []⟩ : K.CRes).e (Heap.of (K.chg [.empty, .flat [.i .u8] eb .ro vs] (⟨.ret (.bool true), [], []⟩ : K.CRes).ch ++ (⟨.ret (.bool true), [], []⟩ : K.CRes).new)) := by
  refine K.con_of_run good (A := envL [(10, fuBZE), (7, pakGE), (12, sameXE), (9, awk25E)]) (envL_ok ?_) K.openE_ok (k := 30) (cast (fbEB_run L q eb vs).symm ?_)
  · intro p hp; simp only [List.mem_cons, List.not_mem_nil, or_false] at hp; rcases hp with rfl | rfl | rfl | rfl <;> first | exact fuBZ_ok | exact pakG_ok | exact sameX_ok | exact awk25_ok
  · by_cases h2 : 2000 < (L : Int)
    · rw [ltI_true.2 h2]; simp
    rw [ltI_false.2 (by omega), bc_false]
    have b1 := hb (by omega)
    simp only [b1, bc_true, bc_false]
    simp
theorem fbgN_run (W p ew : Nat) (ws : List LV) : K.bodyF (envL [(10, unGE), (7, pakGE), (12, sameXE), (9, awk25E)]) (K.runF (envL [(10, unGE), (7, pakGE), (12, sameXE), (9, awk25E)]) 30) 5 [.slice 0 0 W (.known p), .nils] (Heap.of [.flat [.i .i64] ew .ro ws]) Hint.auto (K.endC K.openE 1 ⟨.ret (.bool true), [], []⟩) =
    (bc (ltI (400 : Int) ↑W) (true = true ∧ True) (bc (S.okWG ws W) (bc (S.okU1 (S.packed ws W) (S.packL ws W) (S.packL ws W)) (bc (S.an (Nat.beq (S.ul (S.packed ws W) (S.packL ws W) - (1 : Nat)) W) (S.smG (S.uw (S.packed ws W) (S.packL ws W)) ws (S.ul (S.packed ws W) (S.packL ws W) - (1 : Nat)) (0 : Int))) (true = true ∧ True) False) False) False)) := by kernel_rfl
theorem fbgN_con (W p ew : Nat) (ws : List LV) (hw : W ≤ 400 → S.WG ws W)  : HT Try.prog 5 [.slice 0 0 W (.known p), .nils] (Heap.of [.flat [.i .i64] ew .ro ws]) (⟨.ret (.bool true), [], []⟩ : K.CRes).e (Heap.of (K.chg [.flat [.i .i64] ew .ro ws] (⟨.ret (.bool true), [], []⟩ : K.CRes).ch ++ (⟨.ret (.bool true), [], []⟩ : K.CRes).new)) := by
  refine K.con_of_run good (A := envL [(10, unGE), (7, pakGE), (12, sameXE), (9, awk25E)]) (envL_ok ?_) K.openE_ok (k := 30) (cast (fbgN_run W p ew ws).symm ?_)
  · intro p hp; simp only [List.mem_cons, List.not_mem_nil, or_false] at hp; rcases hp with rfl | rfl | rfl | rfl <;> first | exact unG_ok | exact pakG_ok | exact sameX_ok | exact awk25_ok
  · by_cases h4 : 400 < (W : Int)
    · rw [ltI_true.2 h4]; simp
    rw [ltI_false.2 (by omega), bc_false]
    obtain ⟨w1, w2, w3⟩ := S.wg_facts (hw (by omega)) (by omega)
    simp only [w1, w2, w3, bc_true, bc_false]
    simp
theorem fbxN_run (W p ew : Nat) (ws : List LV) : K.bodyF (envL [(10, unGE), (7, pkBGE), (12, sameXE), (9, awk25E)]) (K.runF (envL [(10, unGE), (7, pkBGE), (12, sameXE), (9, awk25E)]) 30) 5 [.slice 0 0 W (.known p), .nils] (Heap.of [.flat [.i .i64] ew .ro ws]) Hint.auto (K.endC K.openE 1 ⟨.ret (.bool true), [], []⟩) =
    (bc (ltI (400 : Int) ↑W) (true = true ∧ True) (bc (S.okWB ws W) (true = true ∧ True) False)) := by kernel_rfl
theorem fbxN_con (W p ew : Nat) (ws : List LV) (hw : W ≤ 400 → S.okWB ws W = true)  : HT Try.prog 5 [.slice 0 0 W (.known p), .nils] (Heap.of [.flat [.i .i64] ew .ro ws]) (⟨.ret (.bool true), [], []⟩ : K.CRes).e (Heap.of (K.chg [.flat [.i .i64] ew .ro ws] (⟨.ret (.bool true), [], []⟩ : K.CRes).ch ++ (⟨.ret (.bool true), [], []⟩ : K.CRes).new)) := by
  refine K.con_of_run good (A := envL [(10, unGE), (7, pkBGE), (12, sameXE), (9, awk25E)]) (envL_ok ?_) K.openE_ok (k := 30) (cast (fbxN_run W p ew ws).symm ?_)
  · intro p hp; simp only [List.mem_cons, List.not_mem_nil, or_false] at hp; rcases hp with rfl | rfl | rfl | rfl <;> first | exact unG_ok | exact pkBG_ok | exact sameX_ok | exact awk25_ok
  · by_cases h4 : 400 < (W : Int)
    · rw [ltI_true.2 h4]; simp
    rw [ltI_false.2 (by omega), bc_false]
    have w1 := hw (by omega)
    simp only [w1, bc_true, bc_false]
    simp
theorem fbgE_run (W p ew : Nat) (ws : List LV) : K.bodyF (envL [(10, unGE), (7, pakGE), (12, sameXE), (9, awk25E)]) (K.runF (envL [(10, unGE), (7, pakGE), (12, sameXE), (9, awk25E)]) 30) 5 [.slice 0 0 W (.known p), .emp 1] (Heap.of [.flat [.i .i64] ew .ro ws, .empty]) Hint.auto (K.endC K.openE 2 ⟨.ret (.bool true), [], []⟩) =
    (bc (ltI (400 : Int) ↑W) (true = true ∧ True) (bc (S.okWG ws W) (bc (S.okU1 (S.packed ws W) (S.packL ws W) (S.packL ws W)) (bc (S.an (Nat.beq (S.ul (S.packed ws W) (S.packL ws W) - (1 : Nat)) W) (S.smG (S.uw (S.packed ws W) (S.packL ws W)) ws (S.ul (S.packed ws W) (S.packL ws W) - (1 : Nat)) (0 : Int))) (true = true ∧ True) False) False) False)) := by kernel_rfl
theorem fbgE_con (W p ew : Nat) (ws : List LV) (hw : W ≤ 400 → S.WG ws W)  : HT Try.prog 5 [.slice 0 0 W (.known p), .emp 1] (Heap.of [.flat [.i .i64] ew .ro ws, .empty]) (⟨.ret (.bool true), [], []⟩ : K.CRes).e (Heap.of (K.chg [.flat [.i .i64] ew .ro ws, .empty] (⟨.ret (.bool true), [], []⟩ : K.CRes).ch ++ (⟨.ret (.bool true), [], []⟩ : K.CRes).new)) := by
  refine K.con_of_run good (A := envL [(10, unGE), (7, pakGE), (12, sameXE), (9, awk25E)]) (envL_ok ?_) K.openE_ok (k := 30) (cast (fbgE_run W p ew ws).symm ?_)
  · intro p hp; simp only [List.mem_cons, List.not_mem_nil, or_false] at hp; rcases hp with rfl | rfl | rfl | rfl <;> first | exact unG_ok | exact pakG_ok | exact sameX_ok | exact awk25_ok
  · by_cases h4 : 400 < (W : Int)
    · rw [ltI_true.2 h4]; simp
    rw [ltI_false.2 (by omega), bc_false]
    obtain ⟨w1, w2, w3⟩ := S.wg_facts (hw (by omega)) (by omega)
    simp only [w1, w2, w3, bc_true, bc_false]
    simp
theorem fbxE_run (W p ew : Nat) (ws : List LV) : K.bodyF (envL [(10, unGE), (7, pkBGE), (12, sameXE), (9, awk25E)]) (K.runF (envL [(10, unGE), (7, pkBGE), (12, sameXE), (9, awk25E)]) 30) 5 [.slice 0 0 W (.known p), .emp 1] (Heap.of [.flat [.i .i64] ew .ro ws, .empty]) Hint.auto (K.endC K.openE 2 ⟨.ret (.bool true), [], []⟩) =
    (bc (ltI (400 : Int) ↑W) (true = true ∧ True) (bc (S.okWB ws W) (true = true ∧ True) False)) := by kernel_rfl
theorem fbxE_con (W p ew : Nat) (ws : List LV) (hw : W ≤ 400 → S.okWB ws W = true)  : HT Try.prog 5 [.slice 0 0 W (.known p), .emp 1] (Heap.of [.flat [.i .i64] ew .ro ws, .empty]) (⟨.ret (.bool true), [], []⟩ : K.CRes).e (Heap.of (K.chg [.flat [.i .i64] ew .ro ws, .empty] (⟨.ret (.bool true), [], []⟩ : K.CRes).ch ++ (⟨.ret (.bool true), [], []⟩ : K.CRes).new)) := by
  refine K.con_of_run good (A := envL [(10, unGE), (7, pkBGE), (12, sameXE), (9, awk25E)]) (envL_ok ?_) K.openE_ok (k := 30) (cast (fbxE_run W p ew ws).symm ?_)
  · intro p hp; simp only [List.mem_cons, List.not_mem_nil, or_false] at hp; rcases hp with rfl | rfl | rfl | rfl <;> first | exact unG_ok | exact pkBG_ok | exact sameX_ok | exact awk25_ok
  · by_cases h4 : 400 < (W : Int)
    · rw [ltI_true.2 h4]; simp
    rw [ltI_false.2 (by omega), bc_false]
    have w1 := hw (by omega)
    simp only [w1, bc_true, bc_false]
    simp
theorem fbgG_run (W p ew : Nat) (ws : List LV) (L q eb : Nat) (vs : List LV) : K.bodyF (envL [(10, unGE), (7, pakGE), (12, sameXE), (9, awk25E)]) (K.runF (envL [(10, unGE), (7, pakGE), (12, sameXE), (9, awk25E)]) 30) 5 [.slice 0 0 W (.known p), .slice 1 0 L (.known q)] (Heap.of [.flat [.i .i64] ew .ro ws, .flat [.i .u8] eb .ro vs]) Hint.auto (K.endC K.openE 2 ⟨.ret (.bool true), [], []⟩) =
    (bc (ltI (400 : Int) ↑W) (true = true ∧ True) (bc (ltI (2000 : Int) ↑L) (true = true ∧ True) (bc (S.okWG ws W) (bc (S.okU1 (S.packed ws W) (S.packL ws W) (S.packL ws W)) (bc (S.an (Nat.beq (S.ul (S.packed ws W) (S.packL ws W) - (1 : Nat)) W) (S.smG (S.uw (S.packed ws W) (S.packL ws W)) ws (S.ul (S.packed ws W) (S.packL ws W) - (1 : Nat)) (0 : Int))) (bc (S.okU1 vs L q) (bc (S.okWG (S.uw vs L) (S.ul vs L - (1 : Nat))) (bc (Nat.ble ((0 : Nat) + S.packL (S.uw vs L) (S.ul vs L - (1 : Nat))) (lenL (S.packed (S.uw vs L) (S.ul vs L - (1 : Nat))))) (bc (Nat.ble ((0 : Nat) + L) (lenL vs)) (bc (eqB (K.bytesV (sub (S.packed (S.uw vs L) (S.ul vs L - (1 : Nat))) (0 : Nat) (S.packL (S.uw vs L) (S.ul vs L - (1 : Nat))))) (K.bytesV (sub vs (0 : Nat) L))) (true = true ∧ True) (true = false ∧ True)) False) False) False) False) False) False) False))) := by kernel_rfl
theorem fbgG_con (W p ew : Nat) (ws : List LV) (L q eb : Nat) (vs : List LV) (hw : W ≤ 400 → S.WG ws W) (hb : S.BY vs L q) (hO : S.uo vs L = true) (hC : 2 ≤ S.ul vs L) : HT Try.prog 5 [.slice 0 0 W (.known p), .slice 1 0 L (.known q)] (Heap.of [.flat [.i .i64] ew .ro ws, .flat [.i .u8] eb .ro vs]) (⟨.ret (.bool true), [], []⟩ : K.CRes).e (Heap.of (K.chg [.flat [.i .i64] ew .ro ws, .flat [.i .u8] eb .ro vs] (⟨.ret (.bool true), [], []⟩ : K.CRes).ch ++ (⟨.ret (.bool true), [], []⟩ : K.CRes).new)) := by
  refine K.con_of_run good (A := envL [(10, unGE), (7, pakGE), (12, sameXE), (9, awk25E)]) (envL_ok ?_) K.openE_ok (k := 30) (cast (fbgG_run W p ew ws L q eb vs).symm ?_)
  · intro p hp; simp only [List.mem_cons, List.not_mem_nil, or_false] at hp; rcases hp with rfl | rfl | rfl | rfl <;> first | exact unG_ok | exact pakG_ok | exact sameX_ok | exact awk25_ok
  · by_cases h4 : 400 < (W : Int)
    · rw [ltI_true.2 h4]; simp
    rw [ltI_false.2 (by omega), bc_false]
    by_cases h2 : 2000 < (L : Int)
    · rw [ltI_true.2 h2]; simp
    rw [ltI_false.2 (by omega), bc_false]
    obtain ⟨w1, w2, w3⟩ := S.wg_facts (hw (by omega)) (by omega)
    obtain ⟨b1, b2, b3, b4, b5⟩ := S.bg_facts hb (by omega) hO hC
    simp only [w1, w2, w3, b1, b2, b3, b4, b5, bc_true, bc_false]
    simp
theorem fbxG_run (W p ew : Nat) (ws : List LV) (L q eb : Nat) (vs : List LV) : K.bodyF (envL [(10, unGE), (7, pkBGE), (12, sameXE), (9, awk25E)]) (K.runF (envL [(10, unGE), (7, pkBGE), (12, sameXE), (9, awk25E)]) 30) 5 [.slice 0 0 W (.known p), .slice 1 0 L (.known q)] (Heap.of [.flat [.i .i64] ew .ro ws, .flat [.i .u8] eb .ro vs]) Hint.auto (K.endC K.openE 2 ⟨.ret (.bool true), [], []⟩) =
    (bc (ltI (400 : Int) ↑W) (true = true ∧ True) (bc (ltI (2000 : Int) ↑L) (true = true ∧ True) (bc (S.okWB ws W) (bc (S.okU1 vs L q) (bc (S.okWG (S.uw vs L) (S.ul vs L - (1 : Nat))) (bc (Nat.ble ((0 : Nat) + S.packL (S.uw vs L) (S.ul vs L - (1 : Nat))) (lenL (S.packed (S.uw vs L) (S.ul vs L - (1 : Nat))))) (bc (Nat.ble ((0 : Nat) + L) (lenL vs)) (bc (eqB (K.bytesV (sub (S.packed (S.uw vs L) (S.ul vs L - (1 : Nat))) (0 : Nat) (S.packL (S.uw vs L) (S.ul vs L - (1 : Nat))))) (K.bytesV (sub vs (0 : Nat) L))) (true = true ∧ True) (true = false ∧ True)) False) False) False) False) False))) := by kernel_rfl
theorem fbxG_con (W p ew : Nat) (ws : List LV) (L q eb : Nat) (vs : List LV) (hw : W ≤ 400 → S.okWB ws W = true) (hb : S.BY vs L q) (hO : S.uo vs L = true) (hC : 2 ≤ S.ul vs L) : HT Try.prog 5 [.slice 0 0 W (.known p), .slice 1 0 L (.known q)] (Heap.of [.flat [.i .i64] ew .ro ws, .flat [.i .u8] eb .ro vs]) (⟨.ret (.bool true), [], []⟩ : K.CRes).e (Heap.of (K.chg [.flat [.i .i64] ew .ro ws, .flat [.i .u8] eb .ro vs] (⟨.ret (.bool true), [], []⟩ : K.CRes).ch ++ (⟨.ret (.bool true), [], []⟩ : K.CRes).new)) := by
  refine K.con_of_run good (A := envL [(10, unGE), (7, pkBGE), (12, sameXE), (9, awk25E)]) (envL_ok ?_) K.openE_ok (k := 30) (cast (fbxG_run W p ew ws L q eb vs).symm ?_)
  · intro p hp; simp only [List.mem_cons, List.not_mem_nil, or_false] at hp; rcases hp with rfl | rfl | rfl | rfl <;> first | exact unG_ok | exact pkBG_ok | exact sameX_ok | exact awk25_ok
  · by_cases h4 : 400 < (W : Int)
    · rw [ltI_true.2 h4]; simp
    rw [ltI_false.2 (by omega), bc_false]
    by_cases h2 : 2000 < (L : Int)
    · rw [ltI_true.2 h2]; simp
    rw [ltI_false.2 (by omega), bc_false]
    have w1 := hw (by omega)
    obtain ⟨b1, b2, b3, b4, b5⟩ := S.bg_facts hb (by omega) hO hC
    simp only [w1, b1, b2, b3, b4, b5, bc_true, bc_false]
    simp
theorem fbgZ_run (W p ew : Nat) (ws : List LV) (L q eb : Nat) (vs : List LV) : K.bodyF (envL [(10, fuZGE), (7, pakGE), (12, sameXE), (9, awk25E)]) (K.runF (envL [(10, fuZGE), (7, pakGE), (12, sameXE), (9, awk25E)]) 30) 5 [.slice 0 0 W (.known p), .slice 1 0 L (.known q)] (Heap.of [.flat [.i .i64] ew .ro ws, .flat [.i .u8] eb .ro vs]) Hint.auto (K.endC K.openE 2 ⟨.ret (.bool true), [], []⟩) =
    (bc (ltI (400 : Int) ↑W) (true = true ∧ True) (bc (ltI (2000 : Int) ↑L) (true = true ∧ True) (bc (S.okWG ws W) (bc (S.okU1 (S.packed ws W) (S.packL ws W) (S.packL ws W)) (bc (S.an (Nat.beq (S.ul (S.packed ws W) (S.packL ws W) - (1 : Nat)) W) (S.smG (S.uw (S.packed ws W) (S.packL ws W)) ws (S.ul (S.packed ws W) (S.packL ws W) - (1 : Nat)) (0 : Int))) (bc (S.okU0 vs L q) (bc (Nat.ble ((0 : Nat) + L) (lenL vs)) (bc (eqB (K.bytesV (sub (S.packed [] (0 : Nat)) (0 : Nat) (4 : Nat))) (K.bytesV (sub vs (0 : Nat) L))) (true = true ∧ True) (true = false ∧ True)) False) False) False) False) False))) := by kernel_rfl
theorem fbgZ_con (W p ew : Nat) (ws : List LV) (L q eb : Nat) (vs : List LV) (hw : W ≤ 400 → S.WG ws W) (hb : S.BY vs L q) (hO : S.uo vs L = true) (hC : S.ul vs L = 1) : HT Try.prog 5 [.slice 0 0 W (.known p), .slice 1 0 L (.known q)] (Heap.of [.flat [.i .i64] ew .ro ws, .flat [.i .u8] eb .ro vs]) (⟨.ret (.bool true), [], []⟩ : K.CRes).e (Heap.of (K.chg [.flat [.i .i64] ew .ro ws, .flat [.i .u8] eb .ro vs] (⟨.ret (.bool true), [], []⟩ : K.CRes).ch ++ (⟨.ret (.bool true), [], []⟩ : K.CRes).new)) := by
  refine K.con_of_run good (A := envL [(10, fuZGE), (7, pakGE), (12, sameXE), (9, awk25E)]) (envL_ok ?_) K.openE_ok (k := 30) (cast (fbgZ_run W p ew ws L q eb vs).symm ?_)
  · intro p hp; simp only [List.mem_cons, List.not_mem_nil, or_false] at hp; rcases hp with rfl | rfl | rfl | rfl <;> first | exact fuZG_ok | exact pakG_ok | exact sameX_ok | exact awk25_ok
  · by_cases h4 : 400 < (W : Int)
    · rw [ltI_true.2 h4]; simp
    rw [ltI_false.2 (by omega), bc_false]
    by_cases h2 : 2000 < (L : Int)
    · rw [ltI_true.2 h2]; simp
    rw [ltI_false.2 (by omega), bc_false]
    obtain ⟨w1, w2, w3⟩ := S.wg_facts (hw (by omega)) (by omega)
    obtain ⟨b1, b2, b3, b4⟩ := S.bz_facts hb (by omega) hO hC
    simp only [w1, w2, w3, b1, b2, b3, b4, bc_true, bc_false]
    simp
theorem fbxZ_run (W p ew : Nat) (ws : List LV) (L q eb : Nat) (vs : List LV) : K.bodyF (envL [(10, unZE), (7, pkBGE), (12, sameXE), (9, awk25E)]) (K.runF (envL [(10, unZE), (7, pkBGE), (12, sameXE), (9, awk25E)]) 30) 5 [.slice 0 0 W (.known p), .slice 1 0 L (.known q)] (Heap.of [.flat [.i .i64] ew .ro ws, .flat [.i .u8] eb .ro vs]) Hint.auto (K.endC K.openE 2 ⟨.ret (.bool true), [], []⟩) =
    (bc (ltI (400 : Int) ↑W) (true = true ∧ True) (bc (ltI (2000 : Int) ↑L) (true = true ∧ True) (bc (S.okWB ws W) (bc (S.okU0 vs L q) (bc (Nat.ble ((0 : Nat) + L) (lenL vs)) (bc (eqB [UInt8.ofNat (87 : Nat), UInt8.ofNat (0 : Nat), UInt8.ofNat (87 : Nat), UInt8.ofNat (174 : Nat)] (K.bytesV (sub vs (0 : Nat) L))) (true = true ∧ True) (true = false ∧ True)) False) False) False))) := by kernel_rfl
theorem fbxZ_con (W p ew : Nat) (ws : List LV) (L q eb : Nat) (vs : List LV) (hw : W ≤ 400 → S.okWB ws W = true) (hb : S.BY vs L q) (hO : S.uo vs L = true) (hC : S.ul vs L = 1) : HT Try.prog 5 [.slice 0 0 W (.known p), .slice 1 0 L (.known q)] (Heap.of [.flat [.i .i64] ew .ro ws, .flat [.i .u8] eb .ro vs]) (⟨.ret (.bool true), [], []⟩ : K.CRes).e (Heap.of (K.chg [.flat [.i .i64] ew .ro ws, .flat [.i .u8] eb .ro vs] (⟨.ret (.bool true), [], []⟩ : K.CRes).ch ++ (⟨.ret (.bool true), [], []⟩ : K.CRes).new)) := by
  refine K.con_of_run good (A := envL [(10, unZE), (7, pkBGE), (12, sameXE), (9, awk25E)]) (envL_ok ?_) K.openE_ok (k := 30) (cast (fbxZ_run W p ew ws L q eb vs).symm ?_)
  · intro p hp; simp only [List.mem_cons, List.not_mem_nil, or_false] at hp; rcases hp with rfl | rfl | rfl | rfl <;> first | exact unZ_ok | exact pkBG_ok | exact sameX_ok | exact awk25_ok
  · by_cases h4 : 400 < (W : Int)
    · rw [ltI_true.2 h4]; simp
    rw [ltI_false.2 (by omega), bc_false]
    by_cases h2 : 2000 < (L : Int)
    · rw [ltI_true.2 h2]; simp
    rw [ltI_false.2 (by omega), bc_false]
    have w1 := hw (by omega)
    obtain ⟨b1, b2, b3, b4⟩ := S.bz_facts hb (by omega) hO hC
    simp only [w1, b1, b2, b3, b4, bc_true, bc_false]
    simp
theorem fbgB_run (W p ew : Nat) (ws : List LV) (L q eb : Nat) (vs : List LV) : K.bodyF (envL [(10, fuBGE), (7, pakGE), (12, sameXE), (9, awk25E)]) (K.runF (envL [(10, fuBGE), (7, pakGE), (12, sameXE), (9, awk25E)]) 30) 5 [.slice 0 0 W (.known p), .slice 1 0 L (.known q)] (Heap.of [.flat [.i .i64] ew .ro ws, .flat [.i .u8] eb .ro vs]) Hint.auto (K.endC K.openE 2 ⟨.ret (.bool true), [], []⟩) =
    (bc (ltI (400 : Int) ↑W) (true = true ∧ True) (bc (ltI (2000 : Int) ↑L) (true = true ∧ True) (bc (S.okWG ws W) (bc (S.okU1 (S.packed ws W) (S.packL ws W) (S.packL ws W)) (bc (S.an (Nat.beq (S.ul (S.packed ws W) (S.packL ws W) - (1 : Nat)) W) (S.smG (S.uw (S.packed ws W) (S.packL ws W)) ws (S.ul (S.packed ws W) (S.packL ws W) - (1 : Nat)) (0 : Int))) (bc (S.okUB vs L q) (true = true ∧ True) False) False) False) False))) := by kernel_rfl
theorem fbgB_con (W p ew : Nat) (ws : List LV) (L q eb : Nat) (vs : List LV) (hw : W ≤ 400 → S.WG ws W) (hb : L ≤ 2000 → S.okUB vs L q = true) : HT Try.prog 5 [.slice 0 0 W (.known p), .slice 1 0 L (.known q)] (Heap.of [.flat [.i .i64] ew .ro ws, .flat [.i .u8] eb .ro vs]) (⟨.ret (.bool true), [], []⟩ : K.CRes).e (Heap.of (K.chg [.flat [.i .i64] ew .ro ws, .flat [.i .u8] eb .ro vs] (⟨.ret (.bool true), [], []⟩ : K.CRes).ch ++ (⟨.ret (.bool true), [], []⟩ : K.CRes).new)) := by
  refine K.con_of_run good (A := envL [(10, fuBGE), (7, pakGE), (12, sameXE), (9, awk25E)]) (envL_ok ?_) K.openE_ok (k := 30) (cast (fbgB_run W p ew ws L q eb vs).symm ?_)
  · intro p hp; simp only [List.mem_cons, List.not_mem_nil, or_false] at hp; rcases hp with rfl | rfl | rfl | rfl <;> first | exact fuBG_ok | exact pakG_ok | exact sameX_ok | exact awk25_ok
  · by_cases h4 : 400 < (W : Int)
    · rw [ltI_true.2 h4]; simp
    rw [ltI_false.2 (by omega), bc_false]
    by_cases h2 : 2000 < (L : Int)
    · rw [ltI_true.2 h2]; simp
    rw [ltI_false.2 (by omega), bc_false]
    obtain ⟨w1, w2, w3⟩ := S.wg_facts (hw (by omega)) (by omega)
    have b1 := hb (by omega)
    simp only [w1, w2, w3, b1, bc_true, bc_false]
    simp
theorem fbxB_run (W p ew : Nat) (ws : List LV) (L q eb : Nat) (vs : List LV) : K.bodyF (envL [(10, unBE), (7, pkBGE), (12, sameXE), (9, awk25E)]) (K.runF (envL [(10, unBE), (7, pkBGE), (12, sameXE), (9, awk25E)]) 30) 5 [.slice 0 0 W (.known p), .slice 1 0 L (.known q)] (Heap.of [.flat [.i .i64] ew .ro ws, .flat [.i .u8] eb .ro vs]) Hint.auto (K.endC K.openE 2 ⟨.ret (.bool true), [], []⟩) =
    (bc (ltI (400 : Int) ↑W) (true = true ∧ True) (bc (ltI (2000 : Int) ↑L) (true = true ∧ True) (bc (S.okWB ws W) (bc (S.okUB vs L q) (true = true ∧ True) False) False))) := by kernel_rfl
theorem fbxB_con (W p ew : Nat) (ws : List LV) (L q eb : Nat) (vs : List LV) (hw : W ≤ 400 → S.okWB ws W = true) (hb : L ≤ 2000 → S.okUB vs L q = true) : HT Try.prog 5 [.slice 0 0 W (.known p), .slice 1 0 L (.known q)] (Heap.of [.flat [.i .i64] ew .ro ws, .flat [.i .u8] eb .ro vs]) (⟨.ret (.bool true), [], []⟩ : K.CRes).e (Heap.of (K.chg [.flat [.i .i64] ew .ro ws, .flat [.i .u8] eb .ro vs] (⟨.ret (.bool true), [], []⟩ : K.CRes).ch ++ (⟨.ret (.bool true), [], []⟩ : K.CRes).new)) := by
  refine K.con_of_run good (A := envL [(10, unBE), (7, pkBGE), (12, sameXE), (9, awk25E)]) (envL_ok ?_) K.openE_ok (k := 30) (cast (fbxB_run W p ew ws L q eb vs).symm ?_)
  · intro p hp; simp only [List.mem_cons, List.not_mem_nil, or_false] at hp; rcases hp with rfl | rfl | rfl | rfl <;> first | exact unB_ok | exact pkBG_ok | exact sameX_ok | exact awk25_ok
  · by_cases h4 : 400 < (W : Int)
    · rw [ltI_true.2 h4]; simp
    rw [ltI_false.2 (by omega), bc_false]
    by_cases h2 : 2000 < (L : Int)
    · rw [ltI_true.2 h2]; simp
    rw [ltI_false.2 (by omega), bc_false]
    have w1 := hw (by omega)
    have b1 := hb (by omega)
    simp only [w1, b1, bc_true, bc_false]
    simp
theorem fb_NN  : HT Try.prog 5 [.nils, .nils] (Heap.of []) (.ret (.bool true)) (Heap.of []) := by
  exact fbNN_con
theorem fb_NE  : HT Try.prog 5 [.nils, .emp 0] (Heap.of [.empty]) (.ret (.bool true)) (Heap.of [.empty]) := by
  exact fbNE_con
theorem fb_NS (l1 : List Int) (q1 eb : Nat) (hz1 : 0 < l1.length) (hq1 : l1.length ≤ q1) (hl1 : ∀ a, a ∈ l1 → 0 ≤ a ∧ a ≤ 255) : HT Try.prog 5 [.nils, .slice 0 0 l1.length (.known q1)] (Heap.of [.flat S.byK eb .ro (l1.flatMap S.byV)]) (.ret (.bool true)) (Heap.of [.flat S.byK eb .ro (l1.flatMap S.byV)]) := by
  have hb := S.byV_BY hl1 hq1
  cases hO : S.uo (l1.flatMap S.byV) l1.length with
  | false =>
    exact fbNB_con l1.length q1 eb _ (fun h => S.an_iff.2 ⟨hb.okU (by omega), by rw [hO]; rfl⟩)
  | true =>
    by_cases hC : 2 ≤ S.ul (l1.flatMap S.byV) l1.length
    · exact fbNG_con l1.length q1 eb _ hb hO hC
    · exact fbNZ_con l1.length q1 eb _ hb hO (S.ul_one2 hO hC)
theorem fb_EN  : HT Try.prog 5 [.emp 0, .nils] (Heap.of [.empty]) (.ret (.bool true)) (Heap.of [.empty]) := by
  exact fbEN_con
theorem fb_EE  : HT Try.prog 5 [.emp 0, .emp 1] (Heap.of [.empty, .empty]) (.ret (.bool true)) (Heap.of [.empty, .empty]) := by
  exact fbEE_con
theorem fb_ES (l1 : List Int) (q1 eb : Nat) (hz1 : 0 < l1.length) (hq1 : l1.length ≤ q1) (hl1 : ∀ a, a ∈ l1 → 0 ≤ a ∧ a ≤ 255) : HT Try.prog 5 [.emp 0, .slice 1 0 l1.length (.known q1)] (Heap.of [.empty, .flat S.byK eb .ro (l1.flatMap S.byV)]) (.ret (.bool true)) (Heap.of [.empty, .flat S.byK eb .ro (l1.flatMap S.byV)]) := by
  have hb := S.byV_BY hl1 hq1
  cases hO : S.uo (l1.flatMap S.byV) l1.length with
  | false =>
    exact fbEB_con l1.length q1 eb _ (fun h => S.an_iff.2 ⟨hb.okU (by omega), by rw [hO]; rfl⟩)
  | true =>
    by_cases hC : 2 ≤ S.ul (l1.flatMap S.byV) l1.length
    · exact fbEG_con l1.length q1 eb _ hb hO hC
    · exact fbEZ_con l1.length q1 eb _ hb hO (S.ul_one2 hO hC)
theorem fb_SN (l0 : List Int) (p0 ew : Nat) (hz0 : 0 < l0.length) (hq0 : l0.length ≤ p0) (hl0 : ∀ a, a ∈ l0 → -9223372036854775808 ≤ a ∧ a ≤ 9223372036854775807)  : HT Try.prog 5 [.slice 0 0 l0.length (.known p0), .nils] (Heap.of [.flat S.inK ew .ro (l0.flatMap S.inV)]) (.ret (.bool true)) (Heap.of [.flat S.inK ew .ro (l0.flatMap S.inV)]) := by
  cases hF : S.okF (l0.flatMap S.inV) (S.rem l0.length 0) 0 with
  | true =>
    exact fbgN_con l0.length p0 ew _ (fun _ => S.inV_WG hz0 hF)
  | false =>
    exact fbxN_con l0.length p0 ew _ (fun h => S.an_iff.2 ⟨S.okW_iff.2 ⟨S.inV_len l0, by omega⟩, by rw [hF]; rfl⟩)
theorem fb_SE (l0 : List Int) (p0 ew : Nat) (hz0 : 0 < l0.length) (hq0 : l0.length ≤ p0) (hl0 : ∀ a, a ∈ l0 → -9223372036854775808 ≤ a ∧ a ≤ 9223372036854775807)  : HT Try.prog 5 [.slice 0 0 l0.length (.known p0), .emp 1] (Heap.of [.flat S.inK ew .ro (l0.flatMap S.inV), .empty]) (.ret (.bool true)) (Heap.of [.flat S.inK ew .ro (l0.flatMap S.inV), .empty]) := by
  cases hF : S.okF (l0.flatMap S.inV) (S.rem l0.length 0) 0 with
  | true =>
    exact fbgE_con l0.length p0 ew _ (fun _ => S.inV_WG hz0 hF)
  | false =>
    exact fbxE_con l0.length p0 ew _ (fun h => S.an_iff.2 ⟨S.okW_iff.2 ⟨S.inV_len l0, by omega⟩, by rw [hF]; rfl⟩)
theorem fb_SS (l0 : List Int) (p0 ew : Nat) (hz0 : 0 < l0.length) (hq0 : l0.length ≤ p0) (hl0 : ∀ a, a ∈ l0 → -9223372036854775808 ≤ a ∧ a ≤ 9223372036854775807) (l1 : List Int) (q1 eb : Nat) (hz1 : 0 < l1.length) (hq1 : l1.length ≤ q1) (hl1 : ∀ a, a ∈ l1 → 0 ≤ a ∧ a ≤ 255) : HT Try.prog 5 [.slice 0 0 l0.length (.known p0), .slice 1 0 l1.length (.known q1)] (Heap.of [.flat S.inK ew .ro (l0.flatMap S.inV), .flat S.byK eb .ro (l1.flatMap S.byV)]) (.ret (.bool true)) (Heap.of [.flat S.inK ew .ro (l0.flatMap S.inV), .flat S.byK eb .ro (l1.flatMap S.byV)]) := by
  cases hF : S.okF (l0.flatMap S.inV) (S.rem l0.length 0) 0 with
  | true =>
    have hb := S.byV_BY hl1 hq1
    cases hO : S.uo (l1.flatMap S.byV) l1.length with
    | false =>
      exact fbgB_con l0.length p0 ew _ l1.length q1 eb _ (fun _ => S.inV_WG hz0 hF) (fun h => S.an_iff.2 ⟨hb.okU (by omega), by rw [hO]; rfl⟩)
    | true =>
      by_cases hC : 2 ≤ S.ul (l1.flatMap S.byV) l1.length
      · exact fbgG_con l0.length p0 ew _ l1.length q1 eb _ (fun _ => S.inV_WG hz0 hF) hb hO hC
      · exact fbgZ_con l0.length p0 ew _ l1.length q1 eb _ (fun _ => S.inV_WG hz0 hF) hb hO (S.ul_one2 hO hC)
  | false =>
    have hb := S.byV_BY hl1 hq1
    cases hO : S.uo (l1.flatMap S.byV) l1.length with
    | false =>
      exact fbxB_con l0.length p0 ew _ l1.length q1 eb _ (fun h => S.an_iff.2 ⟨S.okW_iff.2 ⟨S.inV_len l0, by omega⟩, by rw [hF]; rfl⟩) (fun h => S.an_iff.2 ⟨hb.okU (by omega), by rw [hO]; rfl⟩)
    | true =>
      by_cases hC : 2 ≤ S.ul (l1.flatMap S.byV) l1.length
      · exact fbxG_con l0.length p0 ew _ l1.length q1 eb _ (fun h => S.an_iff.2 ⟨S.okW_iff.2 ⟨S.inV_len l0, by omega⟩, by rw [hF]; rfl⟩) hb hO hC
      · exact fbxZ_con l0.length p0 ew _ l1.length q1 eb _ (fun h => S.an_iff.2 ⟨S.okW_iff.2 ⟨S.inV_len l0, by omega⟩, by rw [hF]; rfl⟩) hb hO (S.ul_one2 hO hC)
end Go.Proofs.Ytogngajglbgjmaa.Ev
