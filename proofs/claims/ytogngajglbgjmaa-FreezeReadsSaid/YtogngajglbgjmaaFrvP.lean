/- Contracts, proved: Frv. -/
import Derived.Test.YtogngajglbgjmaaFrvD
import Derived.Test.YtogngajglbgjmaaFruP
namespace Go.Proofs.Ytogngajglbgjmaa.Ev
open Go
set_option linter.unusedVariables false
set_option linter.unusedSimpArgs false
set_option maxRecDepth 100000
set_option maxHeartbeats 1000000
namespace S
theorem e0_eq {L : Nat} (h : 4 ≤ L) (h2 : L ≤ 1000000) : e0 L = L - 2 := by unfold e0; rw [w2_eq h h2]; omega
theorem w1_eq {L : Nat} (h : 4 ≤ L) (h2 : L ≤ 1000000) : w1 L = ((L - 1 : Nat) : Int) := by unfold w1; rw [wrapK_i64]; omega
theorem gt_rng {vs : List LV} (hY : okY vs = true) {o n : Nat} (hl : o + n ≤ lenL vs) : ∀ (j i : Nat) (acc : Int), 0 ≤ acc → 0 ≤ (gt vs o n j i acc).2 ∧ (gt vs o n j i acc).2 ≤ 4611686018427387904
  | 0, i, acc, _ => ⟨Int.le_refl 0, (by decide : (0 : Int) ≤ 4611686018427387904)⟩
  | j + 1, i, acc, h => by
    rw [gt_succ]
    cases hi : Nat.blt i n
    · exact ⟨Int.le_refl 0, (by decide : (0 : Int) ≤ 4611686018427387904)⟩
    · rw [bc_true]
      have hi := bltN_iff.1 hi
      obtain ⟨r0, r1⟩ := okY_rng hY (i := o + i) (by omega)
      have hp : (0 : Int) ≤ 128 ^ i := Int.le_of_lt (Int.pow_pos (by decide))
      cases hx : ltI (by1 vs (o + i)) 128
      · rw [bc_false]
        have hx : 128 ≤ by1 vs (o + i) := ltI_false.1 hx
        exact gt_rng hY hl j _ _ (Int.add_nonneg h (Int.mul_nonneg (by omega) hp))
      · rw [bc_true]
        cases (bc (eqI (by1 vs (o + i)) 0) (Nat.blt 0 i) false : Bool)
        · rw [bc_false]
          cases hw : ltI 4611686018427387904 (acc + by1 vs (o + i) * 128 ^ i)
          · rw [bc_false]
            exact ⟨Int.add_nonneg h (Int.mul_nonneg r0 hp), ltI_false.1 hw⟩
          · exact ⟨Int.le_refl 0, (by decide : (0 : Int) ≤ 4611686018427387904)⟩
        · exact ⟨Int.le_refl 0, (by decide : (0 : Int) ≤ 4611686018427387904)⟩
theorem gv_rng {vs : List LV} (hY : okY vs = true) {o n : Nat} (hl : o + n ≤ lenL vs) : 0 ≤ gv vs o n ∧ gv vs o n ≤ 4611686018427387904 := gt_rng hY hl 9 0 0 (Int.le_refl 0)
theorem rd_all {vs : List LV} : ∀ (j o n : Nat), rok vs j o n = true → ra vs j o n = 0 → nl vs n o n = rl vs j o n ∧ lf vs n o n = 0 ∧ lenL (rl vs j o n) = j
  | 0, o, n, _, h => by
    have h : n = 0 := h
    subst h; exact ⟨rfl, rfl, rfl⟩
  | j + 1, o, n, h1, h2 => by
    rw [rok_succ, an_iff] at h1
    rw [ra_succ] at h2
    have hk := beqN_no.1 (notB_true.1 h1.1)
    obtain ⟨a, b, c⟩ := rd_all j _ _ h1.2 h2
    obtain ⟨e1, e2⟩ := go (vs := vs) (o := o) (n := n) rfl (by omega)
    rw [e1, e2, rl_succ, a, b]
    exact ⟨rfl, rfl, by rw [lenL_cons, c]; omega⟩
theorem rd_nl {vs : List LV} : ∀ (n o : Nat), lf vs n o n = 0 → rok vs (nll vs n o n) o n = true ∧ ra vs (nll vs n o n) o n = 0 ∧ rl vs (nll vs n o n) o n = nl vs n o n := by
  intro n
  induction n using Nat.strongRecOn with
  | _ n ih =>
    intro o h
    by_cases hk : gk vs o n = 0
    · obtain ⟨a, b⟩ := stop hk
      rw [a] at h
      have z : nll vs n o n = 0 := by unfold nll; rw [b]; rfl
      rw [z, b]; exact ⟨rfl, h, rfl⟩
    · have hle := gk_le vs o n
      obtain ⟨e1, e2⟩ := go (vs := vs) (o := o) (n := n) rfl (by omega)
      rw [e1] at h
      obtain ⟨a, b, c⟩ := ih (n - gk vs o n) (by omega) _ h
      have z : nll vs n o n = nll vs (n - gk vs o n) (o + gk vs o n) (n - gk vs o n) + 1 := by unfold nll; rw [e2, lenL_cons]; omega
      rw [z, rok_succ, ra_succ, rl_succ, e2, a, b, c, beqN_no.2 hk]
      exact ⟨rfl, rfl, rfl⟩
/-- The reference finds the words where the code does. -/
theorem rv_good {vs : List LV} {L : Nat} (hY : okY vs = true) (hL : lenL vs = L) (h4 : 4 ≤ L) (hM : L ≤ 1000000) :
    (uf vs L = 0 ∧ intOf (K.atV (un vs L) 0) = (ul vs L : Int) - 1 → (0 ≤ rP vs L ∧ rN vs L ≤ L ∧ rG vs (L - 2) (rN vs L) (rP vs L) 0 = true ∧ rA vs (L - 2) (rN vs L) (rP vs L) 0 = ((L - 2 : Nat) : Int)) ∧ rj (rN vs L) 0 = ul vs L - 1 ∧ rL vs (L - 2) (rN vs L) (rP vs L) 0 = uw vs L ∧ rN vs L = ((ul vs L - 1 : Nat) : Int)) ∧
    ((0 ≤ rP vs L ∧ rN vs L ≤ L ∧ rG vs (L - 2) (rN vs L) (rP vs L) 0 = true ∧ rA vs (L - 2) (rN vs L) (rP vs L) 0 = ((L - 2 : Nat) : Int)) → uf vs L = 0 ∧ intOf (K.atV (un vs L) 0) = (ul vs L : Int) - 1) := by
  have hE := e0_eq h4 hM
  have hrv := gv_rng hY (o := 1) (n := L - 3) (by omega)
  have hle := gk_le vs 1 (L - 3)
  have h21 : L - 2 - 1 = L - 3 := by omega
  by_cases hk : gk vs 1 (L - 3) = 0
  · obtain ⟨g0, g1⟩ := eqR0 (vs := vs) (o := 1) (L := L - 2) h21 hk
    obtain ⟨a, b⟩ := stop hk
    constructor
    · rintro ⟨_, h⟩
      exfalso
      have e : ul vs L = 0 := by unfold ul nll; rw [b]; rfl
      have e2 : intOf (K.atV (un vs L) 0) = 0 := by unfold un; rw [b]; rfl
      rw [e, e2] at h
      exact absurd h (by decide)
    · rintro ⟨h, _⟩
      exfalso
      have e : rP vs L = -1 := by unfold rP; rw [hE]; exact g1
      omega
  · obtain ⟨g0, g1⟩ := eqR (vs := vs) (o := 1) (L := L - 2) h21 rfl (beqN_no.2 hk)
    have eN : rN vs L = gv vs 1 (L - 3) := by unfold rN; rw [hE]; exact g0
    have eP : rP vs L = ((1 + gk vs 1 (L - 3) : Nat) : Int) := by unfold rP; rw [hE]; exact g1
    obtain ⟨e1, e2⟩ := go (vs := vs) (o := 1) (n := L - 3) rfl (by omega)
    have eu : un vs L = .int .i64 (gv vs 1 (L - 3)) :: nl vs (L - 3 - gk vs 1 (L - 3)) (1 + gk vs 1 (L - 3)) (L - 3 - gk vs 1 (L - 3)) := e2
    have ef : uf vs L = lf vs (L - 3 - gk vs 1 (L - 3)) (1 + gk vs 1 (L - 3)) (L - 3 - gk vs 1 (L - 3)) := e1
    have el : ul vs L = nll vs (L - 3 - gk vs 1 (L - 3)) (1 + gk vs 1 (L - 3)) (L - 3 - gk vs 1 (L - 3)) + 1 := by unfold ul nll; rw [e2, lenL_cons]; omega
    have e3 : intOf (K.atV (un vs L) 0) = gv vs 1 (L - 3) := by rw [eu]; rfl
    have ew : uw vs L = nl vs (L - 3 - gk vs 1 (L - 3)) (1 + gk vs 1 (L - 3)) (L - 3 - gk vs 1 (L - 3)) := by
      unfold uw
      rw [eu, el, Nat.add_sub_cancel]
      exact sub_all rfl
    have hEn : L - 2 - (1 + gk vs 1 (L - 3)) = L - 3 - gk vs 1 (L - 3) := by omega
    have hnl := nl_len vs (L - 3 - gk vs 1 (L - 3)) (1 + gk vs 1 (L - 3)) (L - 3 - gk vs 1 (L - 3))
    unfold rG rA rL
    rw [e3, eN, eP, Int.toNat_natCast, hEn, ef, el, ew]
    generalize gv vs 1 (L - 3) = N at hrv
    unfold nll
    constructor
    · rintro ⟨h1, h2⟩
      obtain ⟨a, b, c⟩ := rd_nl _ _ h1
      unfold nll at a b c
      have hj : rj N 0 = lenL (nl vs (L - 3 - gk vs 1 (L - 3)) (1 + gk vs 1 (L - 3)) (L - 3 - gk vs 1 (L - 3))) := by unfold rj; omega
      rw [hj, a, b, c]
      refine ⟨⟨by omega, by omega, rfl, by omega⟩, by omega, rfl, by omega⟩
    · rintro ⟨_, _, h3, h5⟩
      have hz : ra vs (rj N 0) (1 + gk vs 1 (L - 3)) (L - 3 - gk vs 1 (L - 3)) = 0 := by omega
      obtain ⟨a, b, c⟩ := rd_all _ _ _ h3 hz
      rw [a, b, c]
      exact ⟨rfl, by unfold rj; omega⟩
theorem rP_rng {vs : List LV} {L : Nat} (hY : okY vs = true) (hL : lenL vs = L) (h4 : 4 ≤ L) (hM : L ≤ 1000000) (hP : 0 ≤ rP vs L) : rP vs L ≤ ((L - 2 : Nat) : Int) ∧ 0 ≤ rN vs L := by
  have hE := e0_eq h4 hM
  have hrv := gv_rng hY (o := 1) (n := L - 3) (by omega)
  have hle := gk_le vs 1 (L - 3)
  have h21 : L - 2 - 1 = L - 3 := by omega
  by_cases hk : gk vs 1 (L - 3) = 0
  · obtain ⟨g0, g1⟩ := eqR0 (vs := vs) (o := 1) (L := L - 2) h21 hk
    have e : rP vs L = -1 := by unfold rP; rw [hE]; exact g1
    omega
  · obtain ⟨g0, g1⟩ := eqR (vs := vs) (o := 1) (L := L - 2) h21 rfl (beqN_no.2 hk)
    have eN : rN vs L = gv vs 1 (L - 3) := by unfold rN; rw [hE]; exact g0
    have eP : rP vs L = ((1 + gk vs 1 (L - 3) : Nat) : Int) := by unfold rP; rw [hE]; exact g1
    omega
end S
theorem rvG_run (L et q : Nat) (vs : List LV) : K.bodyF (envB [(16, rchkE), (19, rgetE)] (fun g id => bc (Nat.beq g 11) (bc (Nat.beq id 0) (some ruXB) (none)) (none))) (K.runF (envB [(16, rchkE), (19, rgetE)] (fun g id => bc (Nat.beq g 11) (bc (Nat.beq id 0) (some ruXB) (none)) (none))) 30) 11 [.slice 0 0 L (.known q)] (Heap.of [.flat [.i .u8] et .ro vs]) Hint.auto (K.endC K.openE 1 ⟨.ret (.tup [.slice 1 0 (S.ul vs L - 1) (.rest 0), .int .i64 0]), [], [.flat [.i .i64] 3 (.grow 1) (S.uw vs L)]⟩) =
    (bc (ltI ↑L (4 : Int)) False (bc (ltI (0 : Int) ↑L) (bc (Nat.ble (1 : Nat) (lenL vs)) (bc (notB (eqI (intOf (K.atV vs (0 : Nat))) (87 : Int))) False (bc (notB (ltI (S.w2 L) (0 : Int))) (bc (Nat.ble (Int.toNat (S.w2 L)) L) (bc (Nat.ble (Int.toNat (S.w2 L)) q) (bc (S.okL vs (S.e0 L)) (bc (ltI (S.w2 L) (0 : Int)) False (bc (ltI (S.w2 L) ↑L) (bc (Nat.ble ((0 : Nat) + Int.toNat (S.w2 L) * (1 : Nat) + (1 : Nat)) (lenL vs)) (bc (notB (eqI (intOf (K.atV vs ((0 : Nat) + Int.toNat (S.w2 L) * (1 : Nat)))) (S.cA vs (S.e0 L)))) False (bc (ltI (S.w1 L) (0 : Int)) False (bc (ltI (S.w1 L) ↑L) (bc (Nat.ble ((0 : Nat) + Int.toNat (S.w1 L) * (1 : Nat) + (1 : Nat)) (lenL vs)) (bc (notB (eqI (intOf (K.atV vs ((0 : Nat) + Int.toNat (S.w1 L) * (1 : Nat)))) (S.cB vs (S.e0 L)))) False (bc (notB (ltI (S.w2 L) (0 : Int))) (bc (Nat.ble (Int.toNat (S.w2 L)) L) (bc (Nat.ble (Int.toNat (S.w2 L)) q) (bc (S.okR vs (S.e0 L) (1 : Int)) (bc (ltI (S.rP vs L) (0 : Int)) False (bc (ltI (↑L) (S.rN vs L)) False (bc (S.an (S.okE vs (S.e0 L) (S.rN vs L) (S.rP vs L) (0 : Int)) (S.an (ltI (0 : Int) (S.rN vs L)) (S.rG vs (S.e0 L) (S.rN vs L) (S.rP vs L) (0 : Int)))) (K.BOk Try.prog 11 90 (blkOf 11 0) [(6 : Nat), (7 : Nat), (8 : Nat), (9 : Nat), (10 : Nat)] [LV.slice (0 : Nat) (0 : Nat) (S.e0 L) (Cap.known (q - (0 : Nat))), LV.int IntKind.i64 (S.rN vs L), LV.int IntKind.i64 (S.rP vs L), LV.nils, LV.int IntKind.i64 (0 : Int)] [LObj.flat [CK.i IntKind.u8] et Own.ro vs] { x := LX.normal, L := [((6 : Nat), LV.slice (0 : Nat) (0 : Nat) (S.e0 L) (Cap.known (q - (0 : Nat)))), ((8 : Nat), LV.int IntKind.i64 (S.rA vs (S.e0 L) (S.rN vs L) (S.rP vs L) (0 : Int))), ((9 : Nat), LV.slice (1 : Nat) (0 : Nat) (S.rj (S.rN vs L) (0 : Int)) (Cap.rest (0 : Nat)))], ch := [], new := [LObj.flat [CK.i IntKind.i64] (3 : TypeId) (Own.grow (1 : Nat)) (S.rL vs (S.e0 L) (S.rN vs L) (S.rP vs L) (0 : Int))] } ∧ bc (notB (eqI (S.rA vs (S.e0 L) (S.rN vs L) (S.rP vs L) (0 : Int)) ↑(S.e0 L))) False ((0 : Nat) = (0 : Nat) ∧ (S.ul vs L - (1 : Nat) = S.rj (S.rN vs L) (0 : Int) ∧ (Cap.rest (0 : Nat) = Cap.rest (0 : Nat) ∧ ((0 : Int) = (0 : Int) ∧ (S.uw vs L = S.rL vs (S.e0 L) (S.rN vs L) (S.rP vs L) (0 : Int) ∧ True)))))) False))) False) False) False) False)) False) False))) False) False)) False) False) False) False)) False) False)) := by kernel_rfl
theorem rvG_con (L et q : Nat) (vs : List LV) (h0 : S.okU1 vs L q = true) : HT Try.prog 11 [.slice 0 0 L (.known q)] (Heap.of [.flat [.i .u8] et .ro vs]) (⟨.ret (.tup [.slice 1 0 (S.ul vs L - 1) (.rest 0), .int .i64 0]), [], [.flat [.i .i64] 3 (.grow 1) (S.uw vs L)]⟩ : K.CRes).e (Heap.of (K.chg [.flat [.i .u8] et .ro vs] (⟨.ret (.tup [.slice 1 0 (S.ul vs L - 1) (.rest 0), .int .i64 0]), [], [.flat [.i .i64] 3 (.grow 1) (S.uw vs L)]⟩ : K.CRes).ch ++ (⟨.ret (.tup [.slice 1 0 (S.ul vs L - 1) (.rest 0), .int .i64 0]), [], [.flat [.i .i64] 3 (.grow 1) (S.uw vs L)]⟩ : K.CRes).new)) := by
  refine K.con_of_run good (A := envB [(16, rchkE), (19, rgetE)] (fun g id => bc (Nat.beq g 11) (bc (Nat.beq id 0) (some ruXB) (none)) (none))) (envB_ok ?_) K.openE_ok (k := 30) (cast (rvG_run L et q vs).symm ?_)
  · intro p hp; simp only [List.mem_cons, List.not_mem_nil, or_false] at hp; rcases hp with rfl | rfl <;> first | exact rchk_ok | exact rget_ok
  · obtain ⟨hU, h0⟩ := S.an_iff.1 h0
    obtain ⟨⟨hY, hL⟩, hM, hq⟩ := S.okU_iff.1 hU
    obtain ⟨hO, hC⟩ := S.an_iff.1 h0
    obtain ⟨hH, hF, h1⟩ := S.uo_iff.1 hO
    obtain ⟨h4, x0, x1, x2⟩ := S.uh_iff.1 hH
    have e1 : ltI (L : Int) 4 = false := ltI_false.2 (by omega)
    have e2 : ltI 0 (L : Int) = true := ltI_true.2 (by omega)
    have b1 : Nat.ble 1 (lenL vs) = true := S.bleN_iff.2 (by omega)
    have W2 := S.w2_eq (L := L) (by omega) hM
    have W1 := S.w1_eq (L := L) (by omega) hM
    have E0 := S.e0_eq (L := L) (by omega) hM
    have t2 : ((L - 2 : Nat) : Int).toNat = L - 2 := Int.toNat_natCast _
    have t3 : ((L - 1 : Nat) : Int).toNat = L - 1 := Int.toNat_natCast _
    have n2 : ltI ((L - 2 : Nat) : Int) 0 = false := ltI_false.2 (by omega)
    have n3 : ltI ((L - 1 : Nat) : Int) 0 = false := ltI_false.2 (by omega)
    have e3 : ltI ((L - 2 : Nat) : Int) L = true := ltI_true.2 (by omega)
    have e4 : ltI ((L - 1 : Nat) : Int) L = true := ltI_true.2 (by omega)
    have b2 : Nat.ble (L - 2) L = true := S.bleN_iff.2 (by omega)
    have b3 : Nat.ble (L - 2) q = true := S.bleN_iff.2 (by omega)
    have b5 : Nat.ble (L - 2 + 1) (lenL vs) = true := S.bleN_iff.2 (by omega)
    have b6 : Nat.ble (L - 1 + 1) (lenL vs) = true := S.bleN_iff.2 (by omega)
    have okl : S.okL vs (L - 2) = true := S.okL_iff.2 ⟨by omega, by omega⟩
    have okr : S.okR vs (L - 2) 1 = true := S.okR_iff.2 ⟨⟨hY, by omega⟩, by omega, by omega, by omega⟩
    have at2 : S.an true true = true := rfl
    obtain ⟨RG1, RG2⟩ := S.rv_good hY hL (by omega) hM
    obtain ⟨⟨hP, hN, hG, hA⟩, hj, hw, hn⟩ := RG1 ⟨hF, h1⟩
    have pr := S.rP_rng hY hL (by omega) hM hP
    have okE : S.okE vs (L - 2) (S.rN vs L) (S.rP vs L) 0 = true := S.okE_iff.2 ⟨⟨hY, by omega, by omega⟩, ⟨hP, pr.1⟩, Int.le_refl 0, pr.2, by omega⟩
    have e5 : ltI (S.rP vs L) 0 = false := ltI_false.2 hP
    have e6 : ltI (L : Int) (S.rN vs L) = false := ltI_false.2 hN
    have hC := S.bleN_iff.1 hC
    have hlt : 0 < S.rN vs L := by omega
    have B := ruX_blk (L - 2) et (.known q) .ro vs (S.rN vs L) (S.rP vs L) 0 okE hlt hG
    simp only [e1, e2, b1, W2, W1, E0, t2, t3, n2, n3, e3, e4, b2, b3, b5, b6, okl, okr, at2, Nat.zero_add, Nat.mul_one, Nat.sub_zero, notB_t, notB_f, S.eqI_self, bc_true, bc_false, x0, x1, x2, e5, e6, okE, ltI_true.2 hlt, hG, hA, hj, hw] at B ⊢
    exact ⟨B, by simp⟩
theorem rvZ_run (L et q : Nat) (vs : List LV) : K.bodyF (envB [(16, rchkE), (19, rgetE)] (fun g id => bc (Nat.beq g 11) (bc (Nat.beq id 0) (some ruZB) (none)) (none))) (K.runF (envB [(16, rchkE), (19, rgetE)] (fun g id => bc (Nat.beq g 11) (bc (Nat.beq id 0) (some ruZB) (none)) (none))) 30) 11 [.slice 0 0 L (.known q)] (Heap.of [.flat [.i .u8] et .ro vs]) Hint.auto (K.endC K.openE 1 ⟨.ret (.tup [.nils, .int .i64 0]), [], []⟩) =
    (bc (ltI ↑L (4 : Int)) ((0 : Int) = (9 : Int) ∧ True) (bc (ltI (0 : Int) ↑L) (bc (Nat.ble (1 : Nat) (lenL vs)) (bc (notB (eqI (intOf (K.atV vs (0 : Nat))) (87 : Int))) ((0 : Int) = (9 : Int) ∧ True) (bc (notB (ltI (S.w2 L) (0 : Int))) (bc (Nat.ble (Int.toNat (S.w2 L)) L) (bc (Nat.ble (Int.toNat (S.w2 L)) q) (bc (S.okL vs (S.e0 L)) (bc (ltI (S.w2 L) (0 : Int)) False (bc (ltI (S.w2 L) ↑L) (bc (Nat.ble ((0 : Nat) + Int.toNat (S.w2 L) * (1 : Nat) + (1 : Nat)) (lenL vs)) (bc (notB (eqI (intOf (K.atV vs ((0 : Nat) + Int.toNat (S.w2 L) * (1 : Nat)))) (S.cA vs (S.e0 L)))) ((0 : Int) = (9 : Int) ∧ True) (bc (ltI (S.w1 L) (0 : Int)) False (bc (ltI (S.w1 L) ↑L) (bc (Nat.ble ((0 : Nat) + Int.toNat (S.w1 L) * (1 : Nat) + (1 : Nat)) (lenL vs)) (bc (notB (eqI (intOf (K.atV vs ((0 : Nat) + Int.toNat (S.w1 L) * (1 : Nat)))) (S.cB vs (S.e0 L)))) ((0 : Int) = (9 : Int) ∧ True) (bc (notB (ltI (S.w2 L) (0 : Int))) (bc (Nat.ble (Int.toNat (S.w2 L)) L) (bc (Nat.ble (Int.toNat (S.w2 L)) q) (bc (S.okR vs (S.e0 L) (1 : Int)) (bc (ltI (S.rP vs L) (0 : Int)) ((0 : Int) = (9 : Int) ∧ True) (bc (ltI (↑L) (S.rN vs L)) ((0 : Int) = (9 : Int) ∧ True) (bc (notB (ltI (0 : Int) (S.rN vs L))) (K.BOk Try.prog 11 90 (blkOf 11 0) [(6 : Nat), (7 : Nat), (8 : Nat), (9 : Nat), (10 : Nat)] [LV.slice (0 : Nat) (0 : Nat) (S.e0 L) (Cap.known (q - (0 : Nat))), LV.int IntKind.i64 (S.rN vs L), LV.int IntKind.i64 (S.rP vs L), LV.nils, LV.int IntKind.i64 (0 : Int)] [LObj.flat [CK.i IntKind.u8] et Own.ro vs] { x := LX.normal, L := [((6 : Nat), LV.slice (0 : Nat) (0 : Nat) (S.e0 L) (Cap.known (q - (0 : Nat)))), ((8 : Nat), LV.int IntKind.i64 (S.rP vs L)), ((9 : Nat), LV.nils)], ch := [], new := [] } ∧ bc (notB (eqI (S.rP vs L) ↑(S.e0 L))) ((0 : Int) = (9 : Int) ∧ True) ((0 : Int) = (0 : Int) ∧ True)) False))) False) False) False) False)) False) False))) False) False)) False) False) False) False)) False) False)) := by kernel_rfl
theorem rvZ_con (L et q : Nat) (vs : List LV) (h0 : S.okU0 vs L q = true) : HT Try.prog 11 [.slice 0 0 L (.known q)] (Heap.of [.flat [.i .u8] et .ro vs]) (⟨.ret (.tup [.nils, .int .i64 0]), [], []⟩ : K.CRes).e (Heap.of (K.chg [.flat [.i .u8] et .ro vs] (⟨.ret (.tup [.nils, .int .i64 0]), [], []⟩ : K.CRes).ch ++ (⟨.ret (.tup [.nils, .int .i64 0]), [], []⟩ : K.CRes).new)) := by
  refine K.con_of_run good (A := envB [(16, rchkE), (19, rgetE)] (fun g id => bc (Nat.beq g 11) (bc (Nat.beq id 0) (some ruZB) (none)) (none))) (envB_ok ?_) K.openE_ok (k := 30) (cast (rvZ_run L et q vs).symm ?_)
  · intro p hp; simp only [List.mem_cons, List.not_mem_nil, or_false] at hp; rcases hp with rfl | rfl <;> first | exact rchk_ok | exact rget_ok
  · obtain ⟨hU, h0⟩ := S.an_iff.1 h0
    obtain ⟨⟨hY, hL⟩, hM, hq⟩ := S.okU_iff.1 hU
    obtain ⟨hO, hC⟩ := S.an_iff.1 h0
    obtain ⟨hH, hF, h1⟩ := S.uo_iff.1 hO
    obtain ⟨h4, x0, x1, x2⟩ := S.uh_iff.1 hH
    have e1 : ltI (L : Int) 4 = false := ltI_false.2 (by omega)
    have e2 : ltI 0 (L : Int) = true := ltI_true.2 (by omega)
    have b1 : Nat.ble 1 (lenL vs) = true := S.bleN_iff.2 (by omega)
    have W2 := S.w2_eq (L := L) (by omega) hM
    have W1 := S.w1_eq (L := L) (by omega) hM
    have E0 := S.e0_eq (L := L) (by omega) hM
    have t2 : ((L - 2 : Nat) : Int).toNat = L - 2 := Int.toNat_natCast _
    have t3 : ((L - 1 : Nat) : Int).toNat = L - 1 := Int.toNat_natCast _
    have n2 : ltI ((L - 2 : Nat) : Int) 0 = false := ltI_false.2 (by omega)
    have n3 : ltI ((L - 1 : Nat) : Int) 0 = false := ltI_false.2 (by omega)
    have e3 : ltI ((L - 2 : Nat) : Int) L = true := ltI_true.2 (by omega)
    have e4 : ltI ((L - 1 : Nat) : Int) L = true := ltI_true.2 (by omega)
    have b2 : Nat.ble (L - 2) L = true := S.bleN_iff.2 (by omega)
    have b3 : Nat.ble (L - 2) q = true := S.bleN_iff.2 (by omega)
    have b5 : Nat.ble (L - 2 + 1) (lenL vs) = true := S.bleN_iff.2 (by omega)
    have b6 : Nat.ble (L - 1 + 1) (lenL vs) = true := S.bleN_iff.2 (by omega)
    have okl : S.okL vs (L - 2) = true := S.okL_iff.2 ⟨by omega, by omega⟩
    have okr : S.okR vs (L - 2) 1 = true := S.okR_iff.2 ⟨⟨hY, by omega⟩, by omega, by omega, by omega⟩
    have at2 : S.an true true = true := rfl
    obtain ⟨RG1, RG2⟩ := S.rv_good hY hL (by omega) hM
    obtain ⟨⟨hP, hN, hG, hA⟩, hj, hw, hn⟩ := RG1 ⟨hF, h1⟩
    have pr := S.rP_rng hY hL (by omega) hM hP
    have okE : S.okE vs (L - 2) (S.rN vs L) (S.rP vs L) 0 = true := S.okE_iff.2 ⟨⟨hY, by omega, by omega⟩, ⟨hP, pr.1⟩, Int.le_refl 0, pr.2, by omega⟩
    have e5 : ltI (S.rP vs L) 0 = false := ltI_false.2 hP
    have e6 : ltI (L : Int) (S.rN vs L) = false := ltI_false.2 hN
    have hC := S.beqN_iff.1 hC
    have hz : S.rN vs L = 0 := by omega
    have B := ruZ_blk (L - 2) et (.known q) .ro vs (S.rN vs L) (S.rP vs L) 0 (by omega)
    have e7 : ltI 0 (S.rN vs L) = false := ltI_false.2 (by omega)
    have hA2 : S.rP vs L = ((L - 2 : Nat) : Int) := by rw [← hA]; exact (S.ru_end okE hz.symm).2.2.1.symm
    simp only [e1, e2, b1, W2, W1, E0, t2, t3, n2, n3, e3, e4, b2, b3, b5, b6, okl, okr, at2, Nat.zero_add, Nat.mul_one, Nat.sub_zero, notB_t, notB_f, S.eqI_self, bc_true, bc_false, x0, x1, x2, e5, e6, e7] at B ⊢
    rw [hA2] at B ⊢
    simp only [S.eqI_self, notB_t, bc_false]
    exact ⟨B, by simp⟩
theorem rvX_run (L et q : Nat) (vs : List LV) : K.bodyF (envB [(16, rchkE), (19, rgetE)] (fun g id => bc (Nat.beq g 11) (bc (Nat.beq id 0) (some ruXB) (none)) (none))) (K.runF (envB [(16, rchkE), (19, rgetE)] (fun g id => bc (Nat.beq g 11) (bc (Nat.beq id 0) (some ruXB) (none)) (none))) 30) 11 [.slice 0 0 L (.known q)] (Heap.of [.flat [.i .u8] et .ro vs]) Hint.auto (K.endC K.openE 1 ⟨.ret (.tup [.nils, .int .i64 9]), [], []⟩) =
    (bc (ltI ↑L (4 : Int)) ((9 : Int) = (9 : Int) ∧ True) (bc (ltI (0 : Int) ↑L) (bc (Nat.ble (1 : Nat) (lenL vs)) (bc (notB (eqI (intOf (K.atV vs (0 : Nat))) (87 : Int))) ((9 : Int) = (9 : Int) ∧ True) (bc (notB (ltI (S.w2 L) (0 : Int))) (bc (Nat.ble (Int.toNat (S.w2 L)) L) (bc (Nat.ble (Int.toNat (S.w2 L)) q) (bc (S.okL vs (S.e0 L)) (bc (ltI (S.w2 L) (0 : Int)) False (bc (ltI (S.w2 L) ↑L) (bc (Nat.ble ((0 : Nat) + Int.toNat (S.w2 L) * (1 : Nat) + (1 : Nat)) (lenL vs)) (bc (notB (eqI (intOf (K.atV vs ((0 : Nat) + Int.toNat (S.w2 L) * (1 : Nat)))) (S.cA vs (S.e0 L)))) ((9 : Int) = (9 : Int) ∧ True) (bc (ltI (S.w1 L) (0 : Int)) False (bc (ltI (S.w1 L) ↑L) (bc (Nat.ble ((0 : Nat) + Int.toNat (S.w1 L) * (1 : Nat) + (1 : Nat)) (lenL vs)) (bc (notB (eqI (intOf (K.atV vs ((0 : Nat) + Int.toNat (S.w1 L) * (1 : Nat)))) (S.cB vs (S.e0 L)))) ((9 : Int) = (9 : Int) ∧ True) (bc (notB (ltI (S.w2 L) (0 : Int))) (bc (Nat.ble (Int.toNat (S.w2 L)) L) (bc (Nat.ble (Int.toNat (S.w2 L)) q) (bc (S.okR vs (S.e0 L) (1 : Int)) (bc (ltI (S.rP vs L) (0 : Int)) ((9 : Int) = (9 : Int) ∧ True) (bc (ltI (↑L) (S.rN vs L)) ((9 : Int) = (9 : Int) ∧ True) (bc (S.an (S.okE vs (S.e0 L) (S.rN vs L) (S.rP vs L) (0 : Int)) (S.an (ltI (0 : Int) (S.rN vs L)) (S.rG vs (S.e0 L) (S.rN vs L) (S.rP vs L) (0 : Int)))) (K.BOk Try.prog 11 90 (blkOf 11 0) [(6 : Nat), (7 : Nat), (8 : Nat), (9 : Nat), (10 : Nat)] [LV.slice (0 : Nat) (0 : Nat) (S.e0 L) (Cap.known (q - (0 : Nat))), LV.int IntKind.i64 (S.rN vs L), LV.int IntKind.i64 (S.rP vs L), LV.nils, LV.int IntKind.i64 (0 : Int)] [LObj.flat [CK.i IntKind.u8] et Own.ro vs] { x := LX.normal, L := [((6 : Nat), LV.slice (0 : Nat) (0 : Nat) (S.e0 L) (Cap.known (q - (0 : Nat)))), ((8 : Nat), LV.int IntKind.i64 (S.rA vs (S.e0 L) (S.rN vs L) (S.rP vs L) (0 : Int))), ((9 : Nat), LV.slice (1 : Nat) (0 : Nat) (S.rj (S.rN vs L) (0 : Int)) (Cap.rest (0 : Nat)))], ch := [], new := [LObj.flat [CK.i IntKind.i64] (3 : TypeId) (Own.grow (1 : Nat)) (S.rL vs (S.e0 L) (S.rN vs L) (S.rP vs L) (0 : Int))] } ∧ bc (notB (eqI (S.rA vs (S.e0 L) (S.rN vs L) (S.rP vs L) (0 : Int)) ↑(S.e0 L))) ((9 : Int) = (9 : Int) ∧ True) False) False))) False) False) False) False)) False) False))) False) False)) False) False) False) False)) False) False)) := by kernel_rfl
theorem rvX_con (L et q : Nat) (vs : List LV) (h0 : S.okX vs L q = true) : HT Try.prog 11 [.slice 0 0 L (.known q)] (Heap.of [.flat [.i .u8] et .ro vs]) (⟨.ret (.tup [.nils, .int .i64 9]), [], []⟩ : K.CRes).e (Heap.of (K.chg [.flat [.i .u8] et .ro vs] (⟨.ret (.tup [.nils, .int .i64 9]), [], []⟩ : K.CRes).ch ++ (⟨.ret (.tup [.nils, .int .i64 9]), [], []⟩ : K.CRes).new)) := by
  refine K.con_of_run good (A := envB [(16, rchkE), (19, rgetE)] (fun g id => bc (Nat.beq g 11) (bc (Nat.beq id 0) (some ruXB) (none)) (none))) (envB_ok ?_) K.openE_ok (k := 30) (cast (rvX_run L et q vs).symm ?_)
  · intro p hp; simp only [List.mem_cons, List.not_mem_nil, or_false] at hp; rcases hp with rfl | rfl <;> first | exact rchk_ok | exact rget_ok
  · obtain ⟨hB, hX⟩ := S.an_iff.1 h0
    obtain ⟨hU, hO⟩ := S.an_iff.1 hB
    obtain ⟨⟨hY, hL⟩, hM, hq⟩ := S.okU_iff.1 hU
    have hO : S.uo vs L = false := notB_true.1 hO
    by_cases h4 : L < 4
    · have e1 : ltI (L : Int) 4 = true := ltI_true.2 (by omega)
      simp only [e1, bc_true]
      simp
    have e1 : ltI (L : Int) 4 = false := ltI_false.2 (by omega)
    have e2 : ltI 0 (L : Int) = true := ltI_true.2 (by omega)
    have b1 : Nat.ble 1 (lenL vs) = true := S.bleN_iff.2 (by omega)
    have W2 := S.w2_eq (L := L) (by omega) hM
    have W1 := S.w1_eq (L := L) (by omega) hM
    have E0 := S.e0_eq (L := L) (by omega) hM
    have t2 : ((L - 2 : Nat) : Int).toNat = L - 2 := Int.toNat_natCast _
    have t3 : ((L - 1 : Nat) : Int).toNat = L - 1 := Int.toNat_natCast _
    have n2 : ltI ((L - 2 : Nat) : Int) 0 = false := ltI_false.2 (by omega)
    have n3 : ltI ((L - 1 : Nat) : Int) 0 = false := ltI_false.2 (by omega)
    have e3 : ltI ((L - 2 : Nat) : Int) L = true := ltI_true.2 (by omega)
    have e4 : ltI ((L - 1 : Nat) : Int) L = true := ltI_true.2 (by omega)
    have b2 : Nat.ble (L - 2) L = true := S.bleN_iff.2 (by omega)
    have b3 : Nat.ble (L - 2) q = true := S.bleN_iff.2 (by omega)
    have b5 : Nat.ble (L - 2 + 1) (lenL vs) = true := S.bleN_iff.2 (by omega)
    have b6 : Nat.ble (L - 1 + 1) (lenL vs) = true := S.bleN_iff.2 (by omega)
    have okl : S.okL vs (L - 2) = true := S.okL_iff.2 ⟨by omega, by omega⟩
    have okr : S.okR vs (L - 2) 1 = true := S.okR_iff.2 ⟨⟨hY, by omega⟩, by omega, by omega, by omega⟩
    have at2 : S.an true true = true := rfl
    obtain ⟨RG1, RG2⟩ := S.rv_good hY hL (by omega) hM
    by_cases x0 : intOf (K.atV vs 0) = 87
    rotate_left
    · simp only [e1, e2, b1, W2, W1, E0, t2, t3, n2, n3, e3, e4, b2, b3, b5, b6, okl, okr, at2, Nat.zero_add, Nat.mul_one, Nat.sub_zero, notB_t, notB_f, S.eqI_self, bc_true, bc_false, eqI_false.2 x0]
      simp
    by_cases x1 : intOf (K.atV vs (L - 2)) = S.cA vs (L - 2)
    rotate_left
    · simp only [e1, e2, b1, W2, W1, E0, t2, t3, n2, n3, e3, e4, b2, b3, b5, b6, okl, okr, at2, Nat.zero_add, Nat.mul_one, Nat.sub_zero, notB_t, notB_f, S.eqI_self, bc_true, bc_false, x0, eqI_false.2 x1]
      simp
    by_cases x2 : intOf (K.atV vs (L - 1)) = S.cB vs (L - 2)
    rotate_left
    · simp only [e1, e2, b1, W2, W1, E0, t2, t3, n2, n3, e3, e4, b2, b3, b5, b6, okl, okr, at2, Nat.zero_add, Nat.mul_one, Nat.sub_zero, notB_t, notB_f, S.eqI_self, bc_true, bc_false, x0, x1, eqI_false.2 x2]
      simp
    have hH : S.uh vs L = true := S.uh_iff.2 ⟨by omega, x0, x1, x2⟩
    have hN0 : ¬ (S.uf vs L = 0 ∧ intOf (K.atV (S.un vs L) 0) = (S.ul vs L : Int) - 1) := fun h => by
      rw [S.uo_iff.2 ⟨hH, h.1, h.2⟩] at hO; cases hO
    by_cases hP : 0 ≤ S.rP vs L
    rotate_left
    · simp only [e1, e2, b1, W2, W1, E0, t2, t3, n2, n3, e3, e4, b2, b3, b5, b6, okl, okr, at2, Nat.zero_add, Nat.mul_one, Nat.sub_zero, notB_t, notB_f, S.eqI_self, bc_true, bc_false, x0, x1, x2, ltI_true.2 (Int.not_le.1 hP)]
      simp
    by_cases hN : S.rN vs L ≤ L
    rotate_left
    · simp only [e1, e2, b1, W2, W1, E0, t2, t3, n2, n3, e3, e4, b2, b3, b5, b6, okl, okr, at2, Nat.zero_add, Nat.mul_one, Nat.sub_zero, notB_t, notB_f, S.eqI_self, bc_true, bc_false, x0, x1, x2, ltI_false.2 hP, ltI_true.2 (Int.not_le.1 hN)]
      simp
    have pr := S.rP_rng hY hL (by omega) hM hP
    have okE : S.okE vs (L - 2) (S.rN vs L) (S.rP vs L) 0 = true := S.okE_iff.2 ⟨⟨hY, by omega, by omega⟩, ⟨hP, pr.1⟩, Int.le_refl 0, pr.2, by omega⟩
    have e5 : ltI (S.rP vs L) 0 = false := ltI_false.2 hP
    have e6 : ltI (L : Int) (S.rN vs L) = false := ltI_false.2 hN
    obtain ⟨hl, hG⟩ := S.an_iff.1 hX
    have B := ruX_blk (L - 2) et (.known q) .ro vs (S.rN vs L) (S.rP vs L) 0 okE (ltI_true.1 hl) hG
    have hA : S.rA vs (L - 2) (S.rN vs L) (S.rP vs L) 0 ≠ ((L - 2 : Nat) : Int) := fun h => hN0 (RG2 ⟨hP, hN, hG, h⟩)
    simp only [e1, e2, b1, W2, W1, E0, t2, t3, n2, n3, e3, e4, b2, b3, b5, b6, okl, okr, at2, Nat.zero_add, Nat.mul_one, Nat.sub_zero, notB_t, notB_f, S.eqI_self, bc_true, bc_false, x0, x1, x2, e5, e6, okE, hl, hG, eqI_false.2 hA] at B ⊢
    exact ⟨B, by simp⟩
theorem rvY_run (L et q : Nat) (vs : List LV) : K.bodyF (envB [(16, rchkE), (19, rgetE)] (fun g id => bc (Nat.beq g 11) (bc (Nat.beq id 0) (some ruYB) (none)) (none))) (K.runF (envB [(16, rchkE), (19, rgetE)] (fun g id => bc (Nat.beq g 11) (bc (Nat.beq id 0) (some ruYB) (none)) (none))) 30) 11 [.slice 0 0 L (.known q)] (Heap.of [.flat [.i .u8] et .ro vs]) Hint.auto (K.endC K.openE 1 ⟨.ret (.tup [.nils, .int .i64 9]), [], []⟩) =
    (bc (ltI ↑L (4 : Int)) ((9 : Int) = (9 : Int) ∧ True) (bc (ltI (0 : Int) ↑L) (bc (Nat.ble (1 : Nat) (lenL vs)) (bc (notB (eqI (intOf (K.atV vs (0 : Nat))) (87 : Int))) ((9 : Int) = (9 : Int) ∧ True) (bc (notB (ltI (S.w2 L) (0 : Int))) (bc (Nat.ble (Int.toNat (S.w2 L)) L) (bc (Nat.ble (Int.toNat (S.w2 L)) q) (bc (S.okL vs (S.e0 L)) (bc (ltI (S.w2 L) (0 : Int)) False (bc (ltI (S.w2 L) ↑L) (bc (Nat.ble ((0 : Nat) + Int.toNat (S.w2 L) * (1 : Nat) + (1 : Nat)) (lenL vs)) (bc (notB (eqI (intOf (K.atV vs ((0 : Nat) + Int.toNat (S.w2 L) * (1 : Nat)))) (S.cA vs (S.e0 L)))) ((9 : Int) = (9 : Int) ∧ True) (bc (ltI (S.w1 L) (0 : Int)) False (bc (ltI (S.w1 L) ↑L) (bc (Nat.ble ((0 : Nat) + Int.toNat (S.w1 L) * (1 : Nat) + (1 : Nat)) (lenL vs)) (bc (notB (eqI (intOf (K.atV vs ((0 : Nat) + Int.toNat (S.w1 L) * (1 : Nat)))) (S.cB vs (S.e0 L)))) ((9 : Int) = (9 : Int) ∧ True) (bc (notB (ltI (S.w2 L) (0 : Int))) (bc (Nat.ble (Int.toNat (S.w2 L)) L) (bc (Nat.ble (Int.toNat (S.w2 L)) q) (bc (S.okR vs (S.e0 L) (1 : Int)) (bc (ltI (S.rP vs L) (0 : Int)) ((9 : Int) = (9 : Int) ∧ True) (bc (ltI (↑L) (S.rN vs L)) ((9 : Int) = (9 : Int) ∧ True) (bc (S.an (S.okE vs (S.e0 L) (S.rN vs L) (S.rP vs L) (0 : Int)) (notB (S.rG vs (S.e0 L) (S.rN vs L) (S.rP vs L) (0 : Int)))) (K.BOk Try.prog 11 90 (blkOf 11 0) [(6 : Nat), (7 : Nat), (8 : Nat), (9 : Nat), (10 : Nat)] [LV.slice (0 : Nat) (0 : Nat) (S.e0 L) (Cap.known (q - (0 : Nat))), LV.int IntKind.i64 (S.rN vs L), LV.int IntKind.i64 (S.rP vs L), LV.nils, LV.int IntKind.i64 (0 : Int)] [LObj.flat [CK.i IntKind.u8] et Own.ro vs] { x := LX.ret, L := [((2 : Nat), LV.nils), ((3 : Nat), LV.int IntKind.i64 (9 : Int))], ch := [], new := [] } ∧ ((9 : Int) = (9 : Int) ∧ True)) False))) False) False) False) False)) False) False))) False) False)) False) False) False) False)) False) False)) := by kernel_rfl
theorem rvY_con (L et q : Nat) (vs : List LV) (h0 : S.okV vs L q = true) : HT Try.prog 11 [.slice 0 0 L (.known q)] (Heap.of [.flat [.i .u8] et .ro vs]) (⟨.ret (.tup [.nils, .int .i64 9]), [], []⟩ : K.CRes).e (Heap.of (K.chg [.flat [.i .u8] et .ro vs] (⟨.ret (.tup [.nils, .int .i64 9]), [], []⟩ : K.CRes).ch ++ (⟨.ret (.tup [.nils, .int .i64 9]), [], []⟩ : K.CRes).new)) := by
  refine K.con_of_run good (A := envB [(16, rchkE), (19, rgetE)] (fun g id => bc (Nat.beq g 11) (bc (Nat.beq id 0) (some ruYB) (none)) (none))) (envB_ok ?_) K.openE_ok (k := 30) (cast (rvY_run L et q vs).symm ?_)
  · intro p hp; simp only [List.mem_cons, List.not_mem_nil, or_false] at hp; rcases hp with rfl | rfl <;> first | exact rchk_ok | exact rget_ok
  · obtain ⟨hB, hX⟩ := S.an_iff.1 h0
    obtain ⟨hU, hO⟩ := S.an_iff.1 hB
    obtain ⟨⟨hY, hL⟩, hM, hq⟩ := S.okU_iff.1 hU
    have hO : S.uo vs L = false := notB_true.1 hO
    by_cases h4 : L < 4
    · have e1 : ltI (L : Int) 4 = true := ltI_true.2 (by omega)
      simp only [e1, bc_true]
      simp
    have e1 : ltI (L : Int) 4 = false := ltI_false.2 (by omega)
    have e2 : ltI 0 (L : Int) = true := ltI_true.2 (by omega)
    have b1 : Nat.ble 1 (lenL vs) = true := S.bleN_iff.2 (by omega)
    have W2 := S.w2_eq (L := L) (by omega) hM
    have W1 := S.w1_eq (L := L) (by omega) hM
    have E0 := S.e0_eq (L := L) (by omega) hM
    have t2 : ((L - 2 : Nat) : Int).toNat = L - 2 := Int.toNat_natCast _
    have t3 : ((L - 1 : Nat) : Int).toNat = L - 1 := Int.toNat_natCast _
    have n2 : ltI ((L - 2 : Nat) : Int) 0 = false := ltI_false.2 (by omega)
    have n3 : ltI ((L - 1 : Nat) : Int) 0 = false := ltI_false.2 (by omega)
    have e3 : ltI ((L - 2 : Nat) : Int) L = true := ltI_true.2 (by omega)
    have e4 : ltI ((L - 1 : Nat) : Int) L = true := ltI_true.2 (by omega)
    have b2 : Nat.ble (L - 2) L = true := S.bleN_iff.2 (by omega)
    have b3 : Nat.ble (L - 2) q = true := S.bleN_iff.2 (by omega)
    have b5 : Nat.ble (L - 2 + 1) (lenL vs) = true := S.bleN_iff.2 (by omega)
    have b6 : Nat.ble (L - 1 + 1) (lenL vs) = true := S.bleN_iff.2 (by omega)
    have okl : S.okL vs (L - 2) = true := S.okL_iff.2 ⟨by omega, by omega⟩
    have okr : S.okR vs (L - 2) 1 = true := S.okR_iff.2 ⟨⟨hY, by omega⟩, by omega, by omega, by omega⟩
    have at2 : S.an true true = true := rfl
    obtain ⟨RG1, RG2⟩ := S.rv_good hY hL (by omega) hM
    by_cases x0 : intOf (K.atV vs 0) = 87
    rotate_left
    · simp only [e1, e2, b1, W2, W1, E0, t2, t3, n2, n3, e3, e4, b2, b3, b5, b6, okl, okr, at2, Nat.zero_add, Nat.mul_one, Nat.sub_zero, notB_t, notB_f, S.eqI_self, bc_true, bc_false, eqI_false.2 x0]
      simp
    by_cases x1 : intOf (K.atV vs (L - 2)) = S.cA vs (L - 2)
    rotate_left
    · simp only [e1, e2, b1, W2, W1, E0, t2, t3, n2, n3, e3, e4, b2, b3, b5, b6, okl, okr, at2, Nat.zero_add, Nat.mul_one, Nat.sub_zero, notB_t, notB_f, S.eqI_self, bc_true, bc_false, x0, eqI_false.2 x1]
      simp
    by_cases x2 : intOf (K.atV vs (L - 1)) = S.cB vs (L - 2)
    rotate_left
    · simp only [e1, e2, b1, W2, W1, E0, t2, t3, n2, n3, e3, e4, b2, b3, b5, b6, okl, okr, at2, Nat.zero_add, Nat.mul_one, Nat.sub_zero, notB_t, notB_f, S.eqI_self, bc_true, bc_false, x0, x1, eqI_false.2 x2]
      simp
    have hH : S.uh vs L = true := S.uh_iff.2 ⟨by omega, x0, x1, x2⟩
    have hN0 : ¬ (S.uf vs L = 0 ∧ intOf (K.atV (S.un vs L) 0) = (S.ul vs L : Int) - 1) := fun h => by
      rw [S.uo_iff.2 ⟨hH, h.1, h.2⟩] at hO; cases hO
    by_cases hP : 0 ≤ S.rP vs L
    rotate_left
    · simp only [e1, e2, b1, W2, W1, E0, t2, t3, n2, n3, e3, e4, b2, b3, b5, b6, okl, okr, at2, Nat.zero_add, Nat.mul_one, Nat.sub_zero, notB_t, notB_f, S.eqI_self, bc_true, bc_false, x0, x1, x2, ltI_true.2 (Int.not_le.1 hP)]
      simp
    by_cases hN : S.rN vs L ≤ L
    rotate_left
    · simp only [e1, e2, b1, W2, W1, E0, t2, t3, n2, n3, e3, e4, b2, b3, b5, b6, okl, okr, at2, Nat.zero_add, Nat.mul_one, Nat.sub_zero, notB_t, notB_f, S.eqI_self, bc_true, bc_false, x0, x1, x2, ltI_false.2 hP, ltI_true.2 (Int.not_le.1 hN)]
      simp
    have pr := S.rP_rng hY hL (by omega) hM hP
    have okE : S.okE vs (L - 2) (S.rN vs L) (S.rP vs L) 0 = true := S.okE_iff.2 ⟨⟨hY, by omega, by omega⟩, ⟨hP, pr.1⟩, Int.le_refl 0, pr.2, by omega⟩
    have e5 : ltI (S.rP vs L) 0 = false := ltI_false.2 hP
    have e6 : ltI (L : Int) (S.rN vs L) = false := ltI_false.2 hN
    obtain ⟨hl, hG⟩ := S.an_iff.1 hX
    have hG := notB_true.1 hG
    have B := ruY_blk (L - 2) et (.known q) .ro vs (S.rN vs L) (S.rP vs L) 0 okE hG
    simp only [e1, e2, b1, W2, W1, E0, t2, t3, n2, n3, e3, e4, b2, b3, b5, b6, okl, okr, at2, Nat.zero_add, Nat.mul_one, Nat.sub_zero, notB_t, notB_f, S.eqI_self, bc_true, bc_false, x0, x1, x2, e5, e6, okE, hG] at B ⊢
    exact ⟨B, by simp⟩
theorem rvO_run (L et q : Nat) (vs : List LV) : K.bodyF (envB [(16, rchkE), (19, rgetE)] (fun g id => bc (Nat.beq g 11) (bc (Nat.beq id 0) (some ruZB) (none)) (none))) (K.runF (envB [(16, rchkE), (19, rgetE)] (fun g id => bc (Nat.beq g 11) (bc (Nat.beq id 0) (some ruZB) (none)) (none))) 30) 11 [.slice 0 0 L (.known q)] (Heap.of [.flat [.i .u8] et .ro vs]) Hint.auto (K.endC K.openE 1 ⟨.ret (.tup [.nils, .int .i64 9]), [], []⟩) =
    (bc (ltI ↑L (4 : Int)) ((9 : Int) = (9 : Int) ∧ True) (bc (ltI (0 : Int) ↑L) (bc (Nat.ble (1 : Nat) (lenL vs)) (bc (notB (eqI (intOf (K.atV vs (0 : Nat))) (87 : Int))) ((9 : Int) = (9 : Int) ∧ True) (bc (notB (ltI (S.w2 L) (0 : Int))) (bc (Nat.ble (Int.toNat (S.w2 L)) L) (bc (Nat.ble (Int.toNat (S.w2 L)) q) (bc (S.okL vs (S.e0 L)) (bc (ltI (S.w2 L) (0 : Int)) False (bc (ltI (S.w2 L) ↑L) (bc (Nat.ble ((0 : Nat) + Int.toNat (S.w2 L) * (1 : Nat) + (1 : Nat)) (lenL vs)) (bc (notB (eqI (intOf (K.atV vs ((0 : Nat) + Int.toNat (S.w2 L) * (1 : Nat)))) (S.cA vs (S.e0 L)))) ((9 : Int) = (9 : Int) ∧ True) (bc (ltI (S.w1 L) (0 : Int)) False (bc (ltI (S.w1 L) ↑L) (bc (Nat.ble ((0 : Nat) + Int.toNat (S.w1 L) * (1 : Nat) + (1 : Nat)) (lenL vs)) (bc (notB (eqI (intOf (K.atV vs ((0 : Nat) + Int.toNat (S.w1 L) * (1 : Nat)))) (S.cB vs (S.e0 L)))) ((9 : Int) = (9 : Int) ∧ True) (bc (notB (ltI (S.w2 L) (0 : Int))) (bc (Nat.ble (Int.toNat (S.w2 L)) L) (bc (Nat.ble (Int.toNat (S.w2 L)) q) (bc (S.okR vs (S.e0 L) (1 : Int)) (bc (ltI (S.rP vs L) (0 : Int)) ((9 : Int) = (9 : Int) ∧ True) (bc (ltI (↑L) (S.rN vs L)) ((9 : Int) = (9 : Int) ∧ True) (bc (notB (ltI (0 : Int) (S.rN vs L))) (K.BOk Try.prog 11 90 (blkOf 11 0) [(6 : Nat), (7 : Nat), (8 : Nat), (9 : Nat), (10 : Nat)] [LV.slice (0 : Nat) (0 : Nat) (S.e0 L) (Cap.known (q - (0 : Nat))), LV.int IntKind.i64 (S.rN vs L), LV.int IntKind.i64 (S.rP vs L), LV.nils, LV.int IntKind.i64 (0 : Int)] [LObj.flat [CK.i IntKind.u8] et Own.ro vs] { x := LX.normal, L := [((6 : Nat), LV.slice (0 : Nat) (0 : Nat) (S.e0 L) (Cap.known (q - (0 : Nat)))), ((8 : Nat), LV.int IntKind.i64 (S.rP vs L)), ((9 : Nat), LV.nils)], ch := [], new := [] } ∧ bc (notB (eqI (S.rP vs L) ↑(S.e0 L))) ((9 : Int) = (9 : Int) ∧ True) ((9 : Int) = (0 : Int) ∧ True)) False))) False) False) False) False)) False) False))) False) False)) False) False) False) False)) False) False)) := by kernel_rfl
theorem rvO_con (L et q : Nat) (vs : List LV) (h0 : S.okO vs L q = true) : HT Try.prog 11 [.slice 0 0 L (.known q)] (Heap.of [.flat [.i .u8] et .ro vs]) (⟨.ret (.tup [.nils, .int .i64 9]), [], []⟩ : K.CRes).e (Heap.of (K.chg [.flat [.i .u8] et .ro vs] (⟨.ret (.tup [.nils, .int .i64 9]), [], []⟩ : K.CRes).ch ++ (⟨.ret (.tup [.nils, .int .i64 9]), [], []⟩ : K.CRes).new)) := by
  refine K.con_of_run good (A := envB [(16, rchkE), (19, rgetE)] (fun g id => bc (Nat.beq g 11) (bc (Nat.beq id 0) (some ruZB) (none)) (none))) (envB_ok ?_) K.openE_ok (k := 30) (cast (rvO_run L et q vs).symm ?_)
  · intro p hp; simp only [List.mem_cons, List.not_mem_nil, or_false] at hp; rcases hp with rfl | rfl <;> first | exact rchk_ok | exact rget_ok
  · obtain ⟨hB, hX⟩ := S.an_iff.1 h0
    obtain ⟨hU, hO⟩ := S.an_iff.1 hB
    obtain ⟨⟨hY, hL⟩, hM, hq⟩ := S.okU_iff.1 hU
    have hO : S.uo vs L = false := notB_true.1 hO
    by_cases h4 : L < 4
    · have e1 : ltI (L : Int) 4 = true := ltI_true.2 (by omega)
      simp only [e1, bc_true]
      simp
    have e1 : ltI (L : Int) 4 = false := ltI_false.2 (by omega)
    have e2 : ltI 0 (L : Int) = true := ltI_true.2 (by omega)
    have b1 : Nat.ble 1 (lenL vs) = true := S.bleN_iff.2 (by omega)
    have W2 := S.w2_eq (L := L) (by omega) hM
    have W1 := S.w1_eq (L := L) (by omega) hM
    have E0 := S.e0_eq (L := L) (by omega) hM
    have t2 : ((L - 2 : Nat) : Int).toNat = L - 2 := Int.toNat_natCast _
    have t3 : ((L - 1 : Nat) : Int).toNat = L - 1 := Int.toNat_natCast _
    have n2 : ltI ((L - 2 : Nat) : Int) 0 = false := ltI_false.2 (by omega)
    have n3 : ltI ((L - 1 : Nat) : Int) 0 = false := ltI_false.2 (by omega)
    have e3 : ltI ((L - 2 : Nat) : Int) L = true := ltI_true.2 (by omega)
    have e4 : ltI ((L - 1 : Nat) : Int) L = true := ltI_true.2 (by omega)
    have b2 : Nat.ble (L - 2) L = true := S.bleN_iff.2 (by omega)
    have b3 : Nat.ble (L - 2) q = true := S.bleN_iff.2 (by omega)
    have b5 : Nat.ble (L - 2 + 1) (lenL vs) = true := S.bleN_iff.2 (by omega)
    have b6 : Nat.ble (L - 1 + 1) (lenL vs) = true := S.bleN_iff.2 (by omega)
    have okl : S.okL vs (L - 2) = true := S.okL_iff.2 ⟨by omega, by omega⟩
    have okr : S.okR vs (L - 2) 1 = true := S.okR_iff.2 ⟨⟨hY, by omega⟩, by omega, by omega, by omega⟩
    have at2 : S.an true true = true := rfl
    obtain ⟨RG1, RG2⟩ := S.rv_good hY hL (by omega) hM
    by_cases x0 : intOf (K.atV vs 0) = 87
    rotate_left
    · simp only [e1, e2, b1, W2, W1, E0, t2, t3, n2, n3, e3, e4, b2, b3, b5, b6, okl, okr, at2, Nat.zero_add, Nat.mul_one, Nat.sub_zero, notB_t, notB_f, S.eqI_self, bc_true, bc_false, eqI_false.2 x0]
      simp
    by_cases x1 : intOf (K.atV vs (L - 2)) = S.cA vs (L - 2)
    rotate_left
    · simp only [e1, e2, b1, W2, W1, E0, t2, t3, n2, n3, e3, e4, b2, b3, b5, b6, okl, okr, at2, Nat.zero_add, Nat.mul_one, Nat.sub_zero, notB_t, notB_f, S.eqI_self, bc_true, bc_false, x0, eqI_false.2 x1]
      simp
    by_cases x2 : intOf (K.atV vs (L - 1)) = S.cB vs (L - 2)
    rotate_left
    · simp only [e1, e2, b1, W2, W1, E0, t2, t3, n2, n3, e3, e4, b2, b3, b5, b6, okl, okr, at2, Nat.zero_add, Nat.mul_one, Nat.sub_zero, notB_t, notB_f, S.eqI_self, bc_true, bc_false, x0, x1, eqI_false.2 x2]
      simp
    have hH : S.uh vs L = true := S.uh_iff.2 ⟨by omega, x0, x1, x2⟩
    have hN0 : ¬ (S.uf vs L = 0 ∧ intOf (K.atV (S.un vs L) 0) = (S.ul vs L : Int) - 1) := fun h => by
      rw [S.uo_iff.2 ⟨hH, h.1, h.2⟩] at hO; cases hO
    by_cases hP : 0 ≤ S.rP vs L
    rotate_left
    · simp only [e1, e2, b1, W2, W1, E0, t2, t3, n2, n3, e3, e4, b2, b3, b5, b6, okl, okr, at2, Nat.zero_add, Nat.mul_one, Nat.sub_zero, notB_t, notB_f, S.eqI_self, bc_true, bc_false, x0, x1, x2, ltI_true.2 (Int.not_le.1 hP)]
      simp
    by_cases hN : S.rN vs L ≤ L
    rotate_left
    · simp only [e1, e2, b1, W2, W1, E0, t2, t3, n2, n3, e3, e4, b2, b3, b5, b6, okl, okr, at2, Nat.zero_add, Nat.mul_one, Nat.sub_zero, notB_t, notB_f, S.eqI_self, bc_true, bc_false, x0, x1, x2, ltI_false.2 hP, ltI_true.2 (Int.not_le.1 hN)]
      simp
    have pr := S.rP_rng hY hL (by omega) hM hP
    have okE : S.okE vs (L - 2) (S.rN vs L) (S.rP vs L) 0 = true := S.okE_iff.2 ⟨⟨hY, by omega, by omega⟩, ⟨hP, pr.1⟩, Int.le_refl 0, pr.2, by omega⟩
    have e5 : ltI (S.rP vs L) 0 = false := ltI_false.2 hP
    have e6 : ltI (L : Int) (S.rN vs L) = false := ltI_false.2 hN
    have hl := notB_true.1 hX
    have hz : S.rN vs L = 0 := by have := ltI_false.1 hl; omega
    have B := ruZ_blk (L - 2) et (.known q) .ro vs (S.rN vs L) (S.rP vs L) 0 (by omega)
    obtain ⟨z1, _, z3, _⟩ := S.ru_end okE hz.symm
    have hA : S.rP vs L ≠ ((L - 2 : Nat) : Int) := fun h => hN0 (RG2 ⟨hP, hN, z1, z3.trans h⟩)
    simp only [e1, e2, b1, W2, W1, E0, t2, t3, n2, n3, e3, e4, b2, b3, b5, b6, okl, okr, at2, Nat.zero_add, Nat.mul_one, Nat.sub_zero, notB_t, notB_f, S.eqI_self, bc_true, bc_false, x0, x1, x2, e5, e6, hl, eqI_false.2 hA] at B ⊢
    exact ⟨B, by simp⟩
theorem rvB_con (L et q : Nat) (vs : List LV) (h : S.okUB vs L q = true) : HT Try.prog 11 [.slice 0 0 L (.known q)] (Heap.of [.flat [.i .u8] et .ro vs]) (.ret (.tup [.nils, .int .i64 9])) (Heap.of [.flat [.i .u8] et .ro vs]) := by
  cases h1 : ltI 0 (S.rN vs L)
  · exact rvO_con L et q vs (S.an_iff.2 ⟨h, by rw [h1]; rfl⟩)
  · cases h2 : S.rG vs (L - 2) (S.rN vs L) (S.rP vs L) 0
    · exact rvY_con L et q vs (S.an_iff.2 ⟨h, by rw [h1, h2]; rfl⟩)
    · exact rvX_con L et q vs (S.an_iff.2 ⟨h, by rw [h1, h2]; rfl⟩)
theorem runG_ok : runGE.ok Try.prog 11 := by
  intro xs os b r h h3
  unfold runGE at h
  simp only at h
  split at h
  · injection h with h; injection h with h1 h2; subst h1; subst h2
    exact rvG_con _ _ _ _ h3
  · cases h
theorem runZ_ok : runZE.ok Try.prog 11 := by
  intro xs os b r h h3
  unfold runZE at h
  simp only at h
  split at h
  · injection h with h; injection h with h1 h2; subst h1; subst h2
    exact rvZ_con _ _ _ _ h3
  · cases h
theorem runB_ok : runBE.ok Try.prog 11 := by
  intro xs os b r h h3
  unfold runBE at h
  simp only at h
  split at h
  · injection h with h; injection h with h1 h2; subst h1; subst h2
    exact rvB_con _ _ _ _ h3
  · cases h
end Go.Proofs.Ytogngajglbgjmaa.Ev
