/- Contracts, proved: Fpk. -/
import Derived.Test.YtogngajglbgjmaaFpkD
import Derived.Test.YtogngajglbgjmaaFchP
namespace Go.Proofs.Ytogngajglbgjmaa.Ev
open Go
set_option linter.unusedVariables false
set_option linter.unusedSimpArgs false
set_option maxRecDepth 100000
set_option maxHeartbeats 1000000
namespace S
theorem nb_len : ∀ (j : Nat) (n : Int), 1 ≤ lenL (nb j n) ∧ lenL (nb j n) ≤ j + 1
  | 0, n => ⟨Nat.le_refl 1, Nat.le_refl 1⟩
  | j + 1, n => by
    have h : nb (j + 1) n = bc (ltI n 128) [.int .u8 n] (.int .u8 (n % 128 + 128) :: nb j (n / 128)) := rfl
    rw [h]
    obtain ⟨h0, h1⟩ := nb_len j (n / 128)
    cases ltI n 128
    · rw [bc_false, K.lenL_eq, List.length_cons, ← K.lenL_eq]; omega
    · rw [bc_true, K.lenL_eq]; simp
theorem numl_rng (n : Int) : 1 ≤ numl n ∧ numl n ≤ 9 := nb_len 8 n
theorem pwl_le (ws : List LV) : ∀ (j : Nat) (i : Int), pwl ws j i ≤ 9 * j
  | 0, i => Nat.le_refl 0
  | j + 1, i => by
    have h : pwl ws (j + 1) i = lenL (app (num (wd ws i)) (pw ws j (i + 1))) := rfl
    rw [h, lenL_app]
    have := pwl_le ws j (i + 1)
    have h2 := (numl_rng (wd ws i)).2
    unfold pwl at this; unfold numl at h2
    omega
theorem okQ_iff {ws : List LV} {W : Nat} {vs : List LV} {L : Nat} {i : Int} : okQ ws W vs L i = true ↔ ((lenL ws = W ∧ W ≤ 100000) ∧ 0 ≤ i ∧ i ≤ W) ∧ lenL vs = L ∧ (L : Int) ≤ 20 + 9 * i := by
  unfold okQ
  rw [an_iff, an_iff, an_iff, an_iff, an_iff, notB_true, notB_true, notB_true, ltI_false, ltI_false, ltI_false]
  have e : ∀ a b : Nat, Nat.beq a b = true ↔ a = b := fun a b => ⟨Nat.eq_of_beq_eq_true, fun h => by rw [h]; exact Nat.beq_refl _⟩
  have l : ∀ a b : Nat, Nat.ble a b = true ↔ a ≤ b := fun a b => ⟨Nat.le_of_ble_eq_true, Nat.ble_eq_true_of_le⟩
  rw [e, e, l]
theorem okW_iff {ws : List LV} {W : Nat} : okW ws W = true ↔ lenL ws = W ∧ W ≤ 100000 := by
  unfold okW; rw [an_iff]
  exact and_congr ⟨Nat.eq_of_beq_eq_true, fun h => by rw [h]; exact Nat.beq_refl _⟩ ⟨Nat.le_of_ble_eq_true, Nat.ble_eq_true_of_le⟩
end S
theorem pkR0_run (L W et : Nat) (cp : Cap) (w : Own) (ws vs : List LV) (i : Int) : K.RunL (envL [(13, nuGE)]) K.openE 30 7 38 (inner (inner (blkOf 7 0))) pkGLB [(4, .slice 0 0 L (.rest 0)), (12, .slice 1 0 W cp), (13, .int .i64 W), (14, .int .i64 i)] [.flat [.i .u8] 5 (.grow 1) vs, .flat [.i .i64] et w ws] (.take false .auto) ⟨.exit 0, [(4, .slice 0 0 L (.rest 0))], [], []⟩ =
    ((ltI i ↑W = false ∧ ((0 : Nat) = (0 : Nat) ∧ (L = L ∧ (Cap.rest (0 : Nat) = Cap.rest (0 : Nat) ∧ True))))) := by kernel_rfl
theorem pkR0_con (L W et : Nat) (cp : Cap) (w : Own) (ws vs : List LV) (i : Int) (h0 : i = W)  : GT Try.prog (fun k => .code (inner (inner (blkOf 7 0))) :: .inLoop (inner (inner (blkOf 7 0))) :: k) (Fr.ofL 7 38 [(4, .slice 0 0 L (.rest 0)), (12, .slice 1 0 W cp), (13, .int .i64 W), (14, .int .i64 i)] [] none) (Heap.of [.flat [.i .u8] 5 (.grow 1) vs, .flat [.i .i64] et w ws]) (⟨.exit 0, [(4, .slice 0 0 L (.rest 0))], [], []⟩ : K.BRes).x (Fr.ofL 7 38 (⟨.exit 0, [(4, .slice 0 0 L (.rest 0))], [], []⟩ : K.BRes).L [] none) (Heap.of (K.chg [.flat [.i .u8] 5 (.grow 1) vs, .flat [.i .i64] et w ws] (⟨.exit 0, [(4, .slice 0 0 L (.rest 0))], [], []⟩ : K.BRes).ch ++ (⟨.exit 0, [(4, .slice 0 0 L (.rest 0))], [], []⟩ : K.BRes).new)) := by
  refine K.loop_of_run good (A := envL [(13, nuGE)]) (envL_ok ?_) K.openE_ok (k := 30) (ent := pkGLB) (cast (pkR0_run L W et cp w ws vs i).symm ?_)
  · intro p hp; simp only [List.mem_cons, List.not_mem_nil, or_false] at hp; rcases hp with rfl <;> first | exact nuG_ok
  · have e1 : ltI i W = false := ltI_false.2 (by omega)
    rw [e1]
    exact ⟨rfl, rfl, rfl, rfl, trivial⟩
theorem pkR1_run (L W et : Nat) (cp : Cap) (w : Own) (ws vs : List LV) (i : Int) : K.RunL (envL [(13, nuGE)]) K.openE 30 7 38 (inner (inner (blkOf 7 0))) pkGLB [(4, .slice 0 0 L (.rest 0)), (12, .slice 1 0 W cp), (13, .int .i64 W), (14, .int .i64 i)] [.flat [.i .u8] 5 (.grow 1) vs, .flat [.i .i64] et w ws] (.take true .auto) ⟨.exit 0, [(4, .slice 2 0 (L + S.pwl ws (S.rem W i) i) (.rest 0))], [(0, .dead)], [.flat [.i .u8] 5 (.grow 1) (app vs (S.pw ws (S.rem W i) i))]⟩ =
    ((ltI i ↑W = true ∧ bc (ltI i (0 : Int)) False (bc (ltI i ↑W) (bc (Nat.ble ((0 : Nat) + Int.toNat i * (1 : Nat) + (1 : Nat)) (lenL ws)) (bc (ltI (intOf (K.atV ws ((0 : Nat) + Int.toNat i * (1 : Nat)))) (0 : Int)) False (bc (ltI (4611686018427387904 : Int) (intOf (K.atV ws ((0 : Nat) + Int.toNat i * (1 : Nat))))) False (bc (S.okG (intOf (K.atV ws ((0 : Nat) + Int.toNat i * (1 : Nat)))) vs L) (bc (S.an (eqI ↑W ↑W) (S.okPG ws W (app vs (S.num (intOf (K.atV ws ((0 : Nat) + Int.toNat i * (1 : Nat)))))) (L + S.numl (intOf (K.atV ws ((0 : Nat) + Int.toNat i * (1 : Nat))))) (wrapK IntKind.i64 (i + (1 : Int))))) (K.LOk Try.prog 7 38 (inner (inner (blkOf 7 0))) [(4 : Nat), (12 : Nat), (13 : Nat), (14 : Nat)] [LV.slice (0 : Nat) (0 : Nat) (L + S.numl (intOf (K.atV ws ((0 : Nat) + Int.toNat i * (1 : Nat))))) (Cap.rest (0 : Nat)), LV.slice (1 : Nat) (0 : Nat) W cp, LV.int IntKind.i64 ↑W, LV.int IntKind.i64 (wrapK IntKind.i64 (i + (1 : Int)))] [LObj.flat [CK.i IntKind.u8] (5 : TypeId) (Own.grow (1 : Nat)) (app vs (S.num (intOf (K.atV ws ((0 : Nat) + Int.toNat i * (1 : Nat)))))), LObj.flat [CK.i IntKind.i64] et w ws] { x := LX.exit (0 : Nat), L := [((4 : Nat), LV.slice (2 : Nat) (0 : Nat) (L + S.numl (intOf (K.atV ws ((0 : Nat) + Int.toNat i * (1 : Nat)))) + S.pwl ws (S.rem W (wrapK IntKind.i64 (i + (1 : Int)))) (wrapK IntKind.i64 (i + (1 : Int)))) (Cap.rest (0 : Nat)))], ch := [((0 : Nat), LObj.dead)], new := [LObj.flat [CK.i IntKind.u8] (5 : TypeId) (Own.grow (1 : Nat)) (app (app vs (S.num (intOf (K.atV ws ((0 : Nat) + Int.toNat i * (1 : Nat)))))) (S.pw ws (S.rem W (wrapK IntKind.i64 (i + (1 : Int)))) (wrapK IntKind.i64 (i + (1 : Int)))))] } ∧ ((0 : Nat) = (0 : Nat) ∧ (L + S.pwl ws (S.rem W i) i = L + S.numl (intOf (K.atV ws ((0 : Nat) + Int.toNat i * (1 : Nat)))) + S.pwl ws (S.rem W (wrapK IntKind.i64 (i + (1 : Int)))) (wrapK IntKind.i64 (i + (1 : Int))) ∧ (Cap.rest (0 : Nat) = Cap.rest (0 : Nat) ∧ (app vs (S.pw ws (S.rem W i) i) = app (app vs (S.num (intOf (K.atV ws ((0 : Nat) + Int.toNat i * (1 : Nat)))))) (S.pw ws (S.rem W (wrapK IntKind.i64 (i + (1 : Int)))) (wrapK IntKind.i64 (i + (1 : Int)))) ∧ True))))) False) False))) False) False))) := by kernel_rfl
theorem pkR1_con (L W et : Nat) (cp : Cap) (w : Own) (ws vs : List LV) (i : Int) (h0 : lenL ws = W) (h1 : W ≤ 100000) (h2 : lenL vs = L) (h3 : (L : Int) ≤ 20 + 9 * i) (h4 : 0 ≤ i) (h5 : i < W) (h6 : S.okF ws (S.rem W i) i = true) (h7 : ∀ (L2 : Nat) (vs2 : List LV), lenL vs2 = L2 → (L2 : Int) ≤ 20 + 9 * (i + 1) → S.okF ws (S.rem W (i + 1)) (i + 1) = true → K.LOk Try.prog 7 38 (inner (inner (blkOf 7 0))) [4, 12, 13, 14] [.slice 0 0 L2 (.rest 0), .slice 1 0 W cp, .int .i64 W, .int .i64 (i + 1)] [.flat [.i .u8] 5 (.grow 1) vs2, .flat [.i .i64] et w ws] ⟨.exit 0, [(4, .slice 2 0 (L2 + S.pwl ws (S.rem W (i + 1)) (i + 1)) (.rest 0))], [(0, .dead)], [.flat [.i .u8] 5 (.grow 1) (app vs2 (S.pw ws (S.rem W (i + 1)) (i + 1)))]⟩)  : GT Try.prog (fun k => .code (inner (inner (blkOf 7 0))) :: .inLoop (inner (inner (blkOf 7 0))) :: k) (Fr.ofL 7 38 [(4, .slice 0 0 L (.rest 0)), (12, .slice 1 0 W cp), (13, .int .i64 W), (14, .int .i64 i)] [] none) (Heap.of [.flat [.i .u8] 5 (.grow 1) vs, .flat [.i .i64] et w ws]) (⟨.exit 0, [(4, .slice 2 0 (L + S.pwl ws (S.rem W i) i) (.rest 0))], [(0, .dead)], [.flat [.i .u8] 5 (.grow 1) (app vs (S.pw ws (S.rem W i) i))]⟩ : K.BRes).x (Fr.ofL 7 38 (⟨.exit 0, [(4, .slice 2 0 (L + S.pwl ws (S.rem W i) i) (.rest 0))], [(0, .dead)], [.flat [.i .u8] 5 (.grow 1) (app vs (S.pw ws (S.rem W i) i))]⟩ : K.BRes).L [] none) (Heap.of (K.chg [.flat [.i .u8] 5 (.grow 1) vs, .flat [.i .i64] et w ws] (⟨.exit 0, [(4, .slice 2 0 (L + S.pwl ws (S.rem W i) i) (.rest 0))], [(0, .dead)], [.flat [.i .u8] 5 (.grow 1) (app vs (S.pw ws (S.rem W i) i))]⟩ : K.BRes).ch ++ (⟨.exit 0, [(4, .slice 2 0 (L + S.pwl ws (S.rem W i) i) (.rest 0))], [(0, .dead)], [.flat [.i .u8] 5 (.grow 1) (app vs (S.pw ws (S.rem W i) i))]⟩ : K.BRes).new)) := by
  refine K.loop_of_run good (A := envL [(13, nuGE)]) (envL_ok ?_) K.openE_ok (k := 30) (ent := pkGLB) (cast (pkR1_run L W et cp w ws vs i).symm ?_)
  · intro p hp; simp only [List.mem_cons, List.not_mem_nil, or_false] at hp; rcases hp with rfl <;> first | exact nuG_ok
  · have at2 : S.an true true = true := rfl
    have e0 : ltI i 0 = false := ltI_false.2 h4
    have e1 : ltI i W = true := ltI_true.2 h5
    have b0 : (0 + i.toNat * 1 + 1).ble (lenL ws) = true := Nat.ble_eq_true_of_le (by rw [h0]; omega)
    have w2 : wrapK .i64 (i + 1) = i + 1 := by rw [wrapK_i64]; omega
    have jj : S.rem W i = S.rem W (i + 1) + 1 := by unfold S.rem; omega
    have hx : intOf (K.atV ws (0 + i.toNat * 1)) = S.wd ws i := rfl
    obtain ⟨n0, n1⟩ := S.numl_rng (S.wd ws i)
    have hl2 : lenL (app vs (S.num (S.wd ws i))) = L + S.numl (S.wd ws i) := by rw [S.lenL_app, h2]; rfl
    have hnl : lenL (S.num (S.wd ws i)) = S.numl (S.wd ws i) := rfl
    have bz : (S.numl (S.wd ws i)).beq 0 = false := S.beq_no n0
    have b4 : ((L + S.numl (S.wd ws i)) * 1).ble 1099511627776 = true := Nat.ble_eq_true_of_le (by omega)
    have hF : S.an (S.okN (S.wd ws i)) (S.okF ws (S.rem W (i + 1)) (i + 1)) = true := by have := h6; rw [jj] at this; exact this
    obtain ⟨f0, f1⟩ := S.an_iff.1 hF
    obtain ⟨x0, x1⟩ := S.okN_iff.1 f0
    have hp : S.pw ws (S.rem W i) i = app (S.num (S.wd ws i)) (S.pw ws (S.rem W (i + 1)) (i + 1)) := by rw [jj]; rfl
    have hpl : S.pwl ws (S.rem W i) i = S.numl (S.wd ws i) + S.pwl ws (S.rem W (i + 1)) (i + 1) := by unfold S.pwl; rw [hp, S.lenL_app]; rfl
    have g1 : S.okG (S.wd ws i) vs L = true := S.okG_iff.2 ⟨⟨x0, x1⟩, h2, by omega⟩
    have okn : S.okPG ws W (app vs (S.num (S.wd ws i))) (L + S.numl (S.wd ws i)) (i + 1) = true := S.an_iff.2 ⟨S.okQ_iff.2 ⟨⟨⟨h0, h1⟩, by omega, by omega⟩, hl2, by omega⟩, f1⟩
    have ih := h7 (L + S.numl (S.wd ws i)) (app vs (S.num (S.wd ws i))) hl2 (by omega) f1
    have m0 : ltI (S.wd ws i) 0 = false := ltI_false.2 x0
    have m1 : ltI 4611686018427387904 (S.wd ws i) = false := ltI_false.2 x1
    simp only [hx, e0, e1, b0, m0, m1, g1, f0, w2, at2, S.eqI_self, hnl, h2, S.ble0, bz, b4, S.sub_all h2, S.sub_all hnl, okn, hp, hpl, bc_true, bc_false, true_and]
    refine ⟨ih, ?_⟩
    simp only [S.app_app, Nat.add_assoc, true_and, and_true]
theorem pkRB_run (L W et : Nat) (cp : Cap) (w : Own) (ws vs : List LV) (i : Int) : K.RunL (envL [(13, nuGE)]) K.openE 30 7 38 (inner (inner (blkOf 7 0))) pkBLB [(4, .slice 0 0 L (.rest 0)), (12, .slice 1 0 W cp), (13, .int .i64 W), (14, .int .i64 i)] [.flat [.i .u8] 5 (.grow 1) vs, .flat [.i .i64] et w ws] (.take true .auto) ⟨.ret, [(2, .nils), (3, .int .i64 6)], [(0, .dead)], []⟩ =
    ((ltI i ↑W = true ∧ bc (ltI i (0 : Int)) False (bc (ltI i ↑W) (bc (Nat.ble ((0 : Nat) + Int.toNat i * (1 : Nat) + (1 : Nat)) (lenL ws)) (bc (ltI (intOf (K.atV ws ((0 : Nat) + Int.toNat i * (1 : Nat)))) (0 : Int)) ((6 : Int) = (6 : Int) ∧ True) (bc (ltI (4611686018427387904 : Int) (intOf (K.atV ws ((0 : Nat) + Int.toNat i * (1 : Nat))))) ((6 : Int) = (6 : Int) ∧ True) (bc (S.okG (intOf (K.atV ws ((0 : Nat) + Int.toNat i * (1 : Nat)))) vs L) (bc (S.an (eqI ↑W ↑W) (S.okPB ws W (app vs (S.num (intOf (K.atV ws ((0 : Nat) + Int.toNat i * (1 : Nat)))))) (L + S.numl (intOf (K.atV ws ((0 : Nat) + Int.toNat i * (1 : Nat))))) (wrapK IntKind.i64 (i + (1 : Int))))) (K.LOk Try.prog 7 38 (inner (inner (blkOf 7 0))) [(4 : Nat), (12 : Nat), (13 : Nat), (14 : Nat)] [LV.slice (0 : Nat) (0 : Nat) (L + S.numl (intOf (K.atV ws ((0 : Nat) + Int.toNat i * (1 : Nat))))) (Cap.rest (0 : Nat)), LV.slice (1 : Nat) (0 : Nat) W cp, LV.int IntKind.i64 ↑W, LV.int IntKind.i64 (wrapK IntKind.i64 (i + (1 : Int)))] [LObj.flat [CK.i IntKind.u8] (5 : TypeId) (Own.grow (1 : Nat)) (app vs (S.num (intOf (K.atV ws ((0 : Nat) + Int.toNat i * (1 : Nat)))))), LObj.flat [CK.i IntKind.i64] et w ws] { x := LX.ret, L := [((2 : Nat), LV.nils), ((3 : Nat), LV.int IntKind.i64 (6 : Int))], ch := [((0 : Nat), LObj.dead)], new := [] } ∧ ((6 : Int) = (6 : Int) ∧ True)) False) False))) False) False))) := by kernel_rfl
theorem pkRB_con (L W et : Nat) (cp : Cap) (w : Own) (ws vs : List LV) (i : Int) (h0 : lenL ws = W) (h1 : W ≤ 100000) (h2 : lenL vs = L) (h3 : (L : Int) ≤ 20 + 9 * i) (h4 : 0 ≤ i) (h5 : i < W) (h6 : S.okF ws (S.rem W i) i = false) (h7 : ∀ (L2 : Nat) (vs2 : List LV), lenL vs2 = L2 → (L2 : Int) ≤ 20 + 9 * (i + 1) → S.okF ws (S.rem W (i + 1)) (i + 1) = false → K.LOk Try.prog 7 38 (inner (inner (blkOf 7 0))) [4, 12, 13, 14] [.slice 0 0 L2 (.rest 0), .slice 1 0 W cp, .int .i64 W, .int .i64 (i + 1)] [.flat [.i .u8] 5 (.grow 1) vs2, .flat [.i .i64] et w ws] ⟨.ret, [(2, .nils), (3, .int .i64 6)], [(0, .dead)], []⟩)  : GT Try.prog (fun k => .code (inner (inner (blkOf 7 0))) :: .inLoop (inner (inner (blkOf 7 0))) :: k) (Fr.ofL 7 38 [(4, .slice 0 0 L (.rest 0)), (12, .slice 1 0 W cp), (13, .int .i64 W), (14, .int .i64 i)] [] none) (Heap.of [.flat [.i .u8] 5 (.grow 1) vs, .flat [.i .i64] et w ws]) (⟨.ret, [(2, .nils), (3, .int .i64 6)], [(0, .dead)], []⟩ : K.BRes).x (Fr.ofL 7 38 (⟨.ret, [(2, .nils), (3, .int .i64 6)], [(0, .dead)], []⟩ : K.BRes).L [] none) (Heap.of (K.chg [.flat [.i .u8] 5 (.grow 1) vs, .flat [.i .i64] et w ws] (⟨.ret, [(2, .nils), (3, .int .i64 6)], [(0, .dead)], []⟩ : K.BRes).ch ++ (⟨.ret, [(2, .nils), (3, .int .i64 6)], [(0, .dead)], []⟩ : K.BRes).new)) := by
  refine K.loop_of_run good (A := envL [(13, nuGE)]) (envL_ok ?_) K.openE_ok (k := 30) (ent := pkBLB) (cast (pkRB_run L W et cp w ws vs i).symm ?_)
  · intro p hp; simp only [List.mem_cons, List.not_mem_nil, or_false] at hp; rcases hp with rfl <;> first | exact nuG_ok
  · have at2 : S.an true true = true := rfl
    have e0 : ltI i 0 = false := ltI_false.2 h4
    have e1 : ltI i W = true := ltI_true.2 h5
    have b0 : (0 + i.toNat * 1 + 1).ble (lenL ws) = true := Nat.ble_eq_true_of_le (by rw [h0]; omega)
    have w2 : wrapK .i64 (i + 1) = i + 1 := by rw [wrapK_i64]; omega
    have jj : S.rem W i = S.rem W (i + 1) + 1 := by unfold S.rem; omega
    have hx : intOf (K.atV ws (0 + i.toNat * 1)) = S.wd ws i := rfl
    obtain ⟨n0, n1⟩ := S.numl_rng (S.wd ws i)
    have hl2 : lenL (app vs (S.num (S.wd ws i))) = L + S.numl (S.wd ws i) := by rw [S.lenL_app, h2]; rfl
    have hnl : lenL (S.num (S.wd ws i)) = S.numl (S.wd ws i) := rfl
    have bz : (S.numl (S.wd ws i)).beq 0 = false := S.beq_no n0
    have b4 : ((L + S.numl (S.wd ws i)) * 1).ble 1099511627776 = true := Nat.ble_eq_true_of_le (by omega)
    cases f0 : S.okN (S.wd ws i)
    · simp only [hx, e0, e1, b0, bc_true, bc_false, true_and]
      cases m0 : ltI (S.wd ws i) 0
      · cases m1 : ltI 4611686018427387904 (S.wd ws i)
        · exfalso
          unfold S.okN at f0
          rw [m0, m1] at f0; cases f0
        · simp
      · simp
    · have f1 : S.okF ws (S.rem W (i + 1)) (i + 1) = false := by
        have hF : S.an (S.okN (S.wd ws i)) (S.okF ws (S.rem W (i + 1)) (i + 1)) = false := by have := h6; rw [jj] at this; exact this
        rw [f0] at hF; exact hF
      obtain ⟨x0, x1⟩ := S.okN_iff.1 f0
      have g1 : S.okG (S.wd ws i) vs L = true := S.okG_iff.2 ⟨⟨x0, x1⟩, h2, by omega⟩
      have okn : S.okPB ws W (app vs (S.num (S.wd ws i))) (L + S.numl (S.wd ws i)) (i + 1) = true := S.an_iff.2 ⟨S.okQ_iff.2 ⟨⟨⟨h0, h1⟩, by omega, by omega⟩, hl2, by omega⟩, by rw [f1]; rfl⟩
      have ih := h7 (L + S.numl (S.wd ws i)) (app vs (S.num (S.wd ws i))) hl2 (by omega) f1
      have m0 : ltI (S.wd ws i) 0 = false := ltI_false.2 x0
      have m1 : ltI 4611686018427387904 (S.wd ws i) = false := ltI_false.2 x1
      simp only [hx, e0, e1, b0, m0, m1, g1, f0, w2, at2, S.eqI_self, hnl, h2, S.ble0, bz, b4, S.sub_all h2, S.sub_all hnl, okn, bc_true, bc_false, true_and]
      exact ⟨ih, trivial⟩
theorem pk_z (L W et : Nat) (cp : Cap) (w : Own) (ws vs : List LV) (i : Int) (hi : i = W) : K.LOk Try.prog 7 38 (inner (inner (blkOf 7 0))) [4, 12, 13, 14] [.slice 0 0 L (.rest 0), .slice 1 0 W cp, .int .i64 W, .int .i64 i] [.flat [.i .u8] 5 (.grow 1) vs, .flat [.i .i64] et w ws] ⟨.exit 0, [(4, .slice 2 0 (L + S.pwl ws (S.rem W i) i) (.rest 0))], [(0, .dead)], [.flat [.i .u8] 5 (.grow 1) (app vs (S.pw ws (S.rem W i) i))]⟩ := by
  have z : S.rem W i = 0 := by unfold S.rem; omega
  have z1 : S.pwl ws 0 i = 0 := rfl
  have z2 : app vs (S.pw ws 0 i) = vs := by show app vs [] = vs; rw [K.app_eq, List.append_nil]
  rw [z, z1, z2]
  have h : K.LOk Try.prog 7 38 (inner (inner (blkOf 7 0))) [4, 12, 13, 14] [.slice 0 0 L (.rest 0), .slice 1 0 W cp, .int .i64 W, .int .i64 i] [.flat [.i .u8] 5 (.grow 1) vs, .flat [.i .i64] et w ws] ⟨.exit 0, [(4, .slice 0 0 L (.rest 0))], [], []⟩ := pkR0_con L W et cp w ws vs i hi
  exact K.LOk.mv (L1 := [(4, .slice 2 0 L (.rest 0))]) (j := 0) (o := .flat [.i .u8] 5 (.grow 1) vs) h rfl (fun v hv => by cases hv) ⟨by (have hg : (Fr.ofL 7 38 [(4, .slice 0 0 L (.rest 0))] [] none).get 4 = .slice 0 0 L (.rest 0) := by kernel_rfl); (show sameV (at_ (K.mvl 2 0)) (.slice 2 0 L (.rest 0)) ((Fr.ofL 7 38 [(4, .slice 0 0 L (.rest 0))] [] none).get 4)); (rw [hg]; simp only [sameV]; repeat' (first | exact rfl | exact trivial | constructor)), trivial⟩ ⟨by (show lt 3 (.slice 2 0 L (.rest 0))); simp [lt], trivial⟩
theorem pk_lok (W et : Nat) (cp : Cap) (w : Own) (ws : List LV) (hw : lenL ws = W) (hW : W ≤ 100000) : ∀ (j : Nat) (L : Nat) (vs : List LV) (i : Int), lenL vs = L → (L : Int) ≤ 20 + 9 * i → 0 ≤ i → i ≤ W → S.okF ws (S.rem W i) i = true → S.rem W i = j →
    K.LOk Try.prog 7 38 (inner (inner (blkOf 7 0))) [4, 12, 13, 14] [.slice 0 0 L (.rest 0), .slice 1 0 W cp, .int .i64 W, .int .i64 i] [.flat [.i .u8] 5 (.grow 1) vs, .flat [.i .i64] et w ws] ⟨.exit 0, [(4, .slice 2 0 (L + S.pwl ws (S.rem W i) i) (.rest 0))], [(0, .dead)], [.flat [.i .u8] 5 (.grow 1) (app vs (S.pw ws (S.rem W i) i))]⟩ := by
  intro j
  induction j with
  | zero =>
    intro L vs i h1 h2 h3 h4 h5 hm
    exact pk_z L W et cp w ws vs i (by unfold S.rem at hm; omega)
  | succ j ih =>
    intro L vs i h1 h2 h3 h4 h5 hm
    exact pkR1_con L W et cp w ws vs i hw hW h1 h2 h3 (by unfold S.rem at hm; omega) h5 fun L2 vs2 a b c => ih L2 vs2 (i + 1) a b (by omega) (by unfold S.rem at hm; omega) c (by unfold S.rem at hm ⊢; omega)
theorem pk_lokB (W et : Nat) (cp : Cap) (w : Own) (ws : List LV) (hw : lenL ws = W) (hW : W ≤ 100000) : ∀ (j : Nat) (L : Nat) (vs : List LV) (i : Int), lenL vs = L → (L : Int) ≤ 20 + 9 * i → 0 ≤ i → i ≤ W → S.okF ws (S.rem W i) i = false → S.rem W i = j →
    K.LOk Try.prog 7 38 (inner (inner (blkOf 7 0))) [4, 12, 13, 14] [.slice 0 0 L (.rest 0), .slice 1 0 W cp, .int .i64 W, .int .i64 i] [.flat [.i .u8] 5 (.grow 1) vs, .flat [.i .i64] et w ws] ⟨.ret, [(2, .nils), (3, .int .i64 6)], [(0, .dead)], []⟩ := by
  intro j
  induction j with
  | zero =>
    intro L vs i h1 h2 h3 h4 h5 hm
    rw [hm] at h5; cases h5
  | succ j ih =>
    intro L vs i h1 h2 h3 h4 h5 hm
    exact pkRB_con L W et cp w ws vs i hw hW h1 h2 h3 (by unfold S.rem at hm; omega) h5 fun L2 vs2 a b c => ih L2 vs2 (i + 1) a b (by omega) (by unfold S.rem at hm; omega) c (by unfold S.rem at hm ⊢; omega)
theorem pk_hb : blkOf 7 0 = .block 0 (.loop (inner (inner (blkOf 7 0)))) := by kernel_rfl
theorem pk_blk (L W et : Nat) (cp : Cap) (w : Own) (ws vs : List LV) (i : Int) (hw : lenL ws = W) (hW : W ≤ 100000) (h1 : lenL vs = L) (h2 : (L : Int) ≤ 20 + 9 * i) (h3 : 0 ≤ i) (h4 : i ≤ W) (h5 : S.okF ws (S.rem W i) i = true) : K.BOk Try.prog 7 38 (blkOf 7 0) [4, 12, 13, 14] [.slice 0 0 L (.rest 0), .slice 1 0 W cp, .int .i64 W, .int .i64 i] [.flat [.i .u8] 5 (.grow 1) vs, .flat [.i .i64] et w ws] ⟨.normal, [(4, .slice 2 0 (L + S.pwl ws (S.rem W i) i) (.rest 0))], [(0, .dead)], [.flat [.i .u8] 5 (.grow 1) (app vs (S.pw ws (S.rem W i) i))]⟩ := by
  unfold K.BOk
  rw [pk_hb]
  exact K.CT.block (K.GT.loop (pk_lok W et cp w ws hw hW _ L vs i h1 h2 h3 h4 h5 rfl))
theorem pk_blkB (L W et : Nat) (cp : Cap) (w : Own) (ws vs : List LV) (i : Int) (hw : lenL ws = W) (hW : W ≤ 100000) (h1 : lenL vs = L) (h2 : (L : Int) ≤ 20 + 9 * i) (h3 : 0 ≤ i) (h4 : i ≤ W) (h5 : S.okF ws (S.rem W i) i = false) : K.BOk Try.prog 7 38 (blkOf 7 0) [4, 12, 13, 14] [.slice 0 0 L (.rest 0), .slice 1 0 W cp, .int .i64 W, .int .i64 i] [.flat [.i .u8] 5 (.grow 1) vs, .flat [.i .i64] et w ws] ⟨.ret, [(2, .nils), (3, .int .i64 6)], [(0, .dead)], []⟩ := by
  unfold K.BOk
  rw [pk_hb]
  exact K.CT.blockRet (K.GT.loop (pk_lokB W et cp w ws hw hW _ L vs i h1 h2 h3 h4 h5 rfl))
theorem rpR0_run (L W et : Nat) (cp : Cap) (w : Own) (ws vs : List LV) (i : Int) : K.RunL (envL [(15, rnuE)]) K.openE 30 8 48 (inner (inner (blkOf 8 0))) rpGLB [(0, .slice 0 0 W cp), (4, .slice 1 0 L (.rest 0)), (5, .int .i64 i)] [.flat [.i .i64] et w ws, .flat [.i .u8] 5 (.grow 1) vs] (.take false .auto) ⟨.exit 0, [(4, .slice 1 0 L (.rest 0))], [], []⟩ =
    ((ltI i ↑W = false ∧ ((0 : Nat) = (0 : Nat) ∧ (L = L ∧ (Cap.rest (0 : Nat) = Cap.rest (0 : Nat) ∧ True))))) := by kernel_rfl
theorem rpR0_con (L W et : Nat) (cp : Cap) (w : Own) (ws vs : List LV) (i : Int) (h0 : i = W)  : GT Try.prog (fun k => .code (inner (inner (blkOf 8 0))) :: .inLoop (inner (inner (blkOf 8 0))) :: k) (Fr.ofL 8 48 [(0, .slice 0 0 W cp), (4, .slice 1 0 L (.rest 0)), (5, .int .i64 i)] [] none) (Heap.of [.flat [.i .i64] et w ws, .flat [.i .u8] 5 (.grow 1) vs]) (⟨.exit 0, [(4, .slice 1 0 L (.rest 0))], [], []⟩ : K.BRes).x (Fr.ofL 8 48 (⟨.exit 0, [(4, .slice 1 0 L (.rest 0))], [], []⟩ : K.BRes).L [] none) (Heap.of (K.chg [.flat [.i .i64] et w ws, .flat [.i .u8] 5 (.grow 1) vs] (⟨.exit 0, [(4, .slice 1 0 L (.rest 0))], [], []⟩ : K.BRes).ch ++ (⟨.exit 0, [(4, .slice 1 0 L (.rest 0))], [], []⟩ : K.BRes).new)) := by
  refine K.loop_of_run good (A := envL [(15, rnuE)]) (envL_ok ?_) K.openE_ok (k := 30) (ent := rpGLB) (cast (rpR0_run L W et cp w ws vs i).symm ?_)
  · intro p hp; simp only [List.mem_cons, List.not_mem_nil, or_false] at hp; rcases hp with rfl <;> first | exact rnu_ok
  · have e1 : ltI i W = false := ltI_false.2 (by omega)
    rw [e1]
    exact ⟨rfl, rfl, rfl, rfl, trivial⟩
theorem rpR1_run (L W et : Nat) (cp : Cap) (w : Own) (ws vs : List LV) (i : Int) : K.RunL (envL [(15, rnuE)]) K.openE 30 8 48 (inner (inner (blkOf 8 0))) rpGLB [(0, .slice 0 0 W cp), (4, .slice 1 0 L (.rest 0)), (5, .int .i64 i)] [.flat [.i .i64] et w ws, .flat [.i .u8] 5 (.grow 1) vs] (.take true .auto) ⟨.exit 0, [(4, .slice 2 0 (L + S.pwl ws (S.rem W i) i) (.rest 0))], [(1, .dead)], [.flat [.i .u8] 5 (.grow 1) (app vs (S.pw ws (S.rem W i) i))]⟩ =
    ((ltI i ↑W = true ∧ bc (ltI i (0 : Int)) False (bc (ltI i ↑W) (bc (Nat.ble ((0 : Nat) + Int.toNat i * (1 : Nat) + (1 : Nat)) (lenL ws)) (bc (ltI (intOf (K.atV ws ((0 : Nat) + Int.toNat i * (1 : Nat)))) (0 : Int)) False (bc (ltI i (0 : Int)) False (bc (ltI i ↑W) (bc (Nat.ble ((0 : Nat) + Int.toNat i * (1 : Nat) + (1 : Nat)) (lenL ws)) (bc (ltI (4611686018427387904 : Int) (intOf (K.atV ws ((0 : Nat) + Int.toNat i * (1 : Nat))))) False (bc (ltI i (0 : Int)) False (bc (ltI i ↑W) (bc (Nat.ble ((0 : Nat) + Int.toNat i * (1 : Nat) + (1 : Nat)) (lenL ws)) (bc (S.okN (intOf (K.atV ws ((0 : Nat) + Int.toNat i * (1 : Nat))))) (bc (Nat.ble ((0 : Nat) + S.numl (intOf (K.atV ws ((0 : Nat) + Int.toNat i * (1 : Nat))))) (lenL (S.num (intOf (K.atV ws ((0 : Nat) + Int.toNat i * (1 : Nat))))))) (bc (Nat.ble ((0 : Nat) + L) (lenL vs)) (bc (Nat.beq (S.numl (intOf (K.atV ws ((0 : Nat) + Int.toNat i * (1 : Nat))))) (0 : Nat)) (bc (S.okPG ws W vs L (wrapK IntKind.i64 (i + (1 : Int)))) (K.LOk Try.prog 8 48 (inner (inner (blkOf 8 0))) [(0 : Nat), (4 : Nat), (5 : Nat)] [LV.slice (0 : Nat) (0 : Nat) W cp, LV.slice (1 : Nat) (0 : Nat) L (Cap.rest (0 : Nat)), LV.int IntKind.i64 (wrapK IntKind.i64 (i + (1 : Int)))] [LObj.flat [CK.i IntKind.i64] et w ws, LObj.flat [CK.i IntKind.u8] (5 : TypeId) (Own.grow (1 : Nat)) vs] { x := LX.exit (0 : Nat), L := [((4 : Nat), LV.slice (2 : Nat) (0 : Nat) (L + S.pwl ws (S.rem W (wrapK IntKind.i64 (i + (1 : Int)))) (wrapK IntKind.i64 (i + (1 : Int)))) (Cap.rest (0 : Nat)))], ch := [((1 : Nat), LObj.dead)], new := [LObj.flat [CK.i IntKind.u8] (5 : TypeId) (Own.grow (1 : Nat)) (app vs (S.pw ws (S.rem W (wrapK IntKind.i64 (i + (1 : Int)))) (wrapK IntKind.i64 (i + (1 : Int)))))] } ∧ ((0 : Nat) = (0 : Nat) ∧ (L + S.pwl ws (S.rem W i) i = L + S.pwl ws (S.rem W (wrapK IntKind.i64 (i + (1 : Int)))) (wrapK IntKind.i64 (i + (1 : Int))) ∧ (Cap.rest (0 : Nat) = Cap.rest (0 : Nat) ∧ (app vs (S.pw ws (S.rem W i) i) = app vs (S.pw ws (S.rem W (wrapK IntKind.i64 (i + (1 : Int)))) (wrapK IntKind.i64 (i + (1 : Int)))) ∧ True))))) False) (bc (Nat.ble ((L + S.numl (intOf (K.atV ws ((0 : Nat) + Int.toNat i * (1 : Nat))))) * (1 : Nat)) (1099511627776 : Nat)) (bc (S.okPG ws W (app (sub vs (0 : Nat) L) (sub (S.num (intOf (K.atV ws ((0 : Nat) + Int.toNat i * (1 : Nat))))) (0 : Nat) (S.numl (intOf (K.atV ws ((0 : Nat) + Int.toNat i * (1 : Nat))))))) (L + S.numl (intOf (K.atV ws ((0 : Nat) + Int.toNat i * (1 : Nat))))) (wrapK IntKind.i64 (i + (1 : Int)))) (K.LOk Try.prog 8 48 (inner (inner (blkOf 8 0))) [(0 : Nat), (4 : Nat), (5 : Nat)] [LV.slice (0 : Nat) (0 : Nat) W cp, LV.slice (1 : Nat) (0 : Nat) (L + S.numl (intOf (K.atV ws ((0 : Nat) + Int.toNat i * (1 : Nat))))) (Cap.rest (0 : Nat)), LV.int IntKind.i64 (wrapK IntKind.i64 (i + (1 : Int)))] [LObj.flat [CK.i IntKind.i64] et w ws, LObj.flat [CK.i IntKind.u8] (5 : Nat) (Own.grow (1 : Nat)) (app (sub vs (0 : Nat) L) (sub (S.num (intOf (K.atV ws ((0 : Nat) + Int.toNat i * (1 : Nat))))) (0 : Nat) (S.numl (intOf (K.atV ws ((0 : Nat) + Int.toNat i * (1 : Nat)))))))] { x := LX.exit (0 : Nat), L := [((4 : Nat), LV.slice (2 : Nat) (0 : Nat) (L + S.numl (intOf (K.atV ws ((0 : Nat) + Int.toNat i * (1 : Nat)))) + S.pwl ws (S.rem W (wrapK IntKind.i64 (i + (1 : Int)))) (wrapK IntKind.i64 (i + (1 : Int)))) (Cap.rest (0 : Nat)))], ch := [((1 : Nat), LObj.dead)], new := [LObj.flat [CK.i IntKind.u8] (5 : TypeId) (Own.grow (1 : Nat)) (app (app (sub vs (0 : Nat) L) (sub (S.num (intOf (K.atV ws ((0 : Nat) + Int.toNat i * (1 : Nat))))) (0 : Nat) (S.numl (intOf (K.atV ws ((0 : Nat) + Int.toNat i * (1 : Nat))))))) (S.pw ws (S.rem W (wrapK IntKind.i64 (i + (1 : Int)))) (wrapK IntKind.i64 (i + (1 : Int)))))] } ∧ ((0 : Nat) = (0 : Nat) ∧ (L + S.pwl ws (S.rem W i) i = L + S.numl (intOf (K.atV ws ((0 : Nat) + Int.toNat i * (1 : Nat)))) + S.pwl ws (S.rem W (wrapK IntKind.i64 (i + (1 : Int)))) (wrapK IntKind.i64 (i + (1 : Int))) ∧ (Cap.rest (0 : Nat) = Cap.rest (0 : Nat) ∧ (app vs (S.pw ws (S.rem W i) i) = app (app (sub vs (0 : Nat) L) (sub (S.num (intOf (K.atV ws ((0 : Nat) + Int.toNat i * (1 : Nat))))) (0 : Nat) (S.numl (intOf (K.atV ws ((0 : Nat) + Int.toNat i * (1 : Nat))))))) (S.pw ws (S.rem W (wrapK IntKind.i64 (i + (1 : Int)))) (wrapK IntKind.i64 (i + (1 : Int)))) ∧ True))))) False) False)) False) False) False) False) False))) False) False))) False) False))) := by kernel_rfl
theorem rpR1_con (L W et : Nat) (cp : Cap) (w : Own) (ws vs : List LV) (i : Int) (h0 : lenL ws = W) (h1 : W ≤ 100000) (h2 : lenL vs = L) (h3 : (L : Int) ≤ 20 + 9 * i) (h4 : 0 ≤ i) (h5 : i < W) (h6 : S.okF ws (S.rem W i) i = true) (h7 : ∀ (L2 : Nat) (vs2 : List LV), lenL vs2 = L2 → (L2 : Int) ≤ 20 + 9 * (i + 1) → S.okF ws (S.rem W (i + 1)) (i + 1) = true → K.LOk Try.prog 8 48 (inner (inner (blkOf 8 0))) [0, 4, 5] [.slice 0 0 W cp, .slice 1 0 L2 (.rest 0), .int .i64 (i + 1)] [.flat [.i .i64] et w ws, .flat [.i .u8] 5 (.grow 1) vs2] ⟨.exit 0, [(4, .slice 2 0 (L2 + S.pwl ws (S.rem W (i + 1)) (i + 1)) (.rest 0))], [(1, .dead)], [.flat [.i .u8] 5 (.grow 1) (app vs2 (S.pw ws (S.rem W (i + 1)) (i + 1)))]⟩)  : GT Try.prog (fun k => .code (inner (inner (blkOf 8 0))) :: .inLoop (inner (inner (blkOf 8 0))) :: k) (Fr.ofL 8 48 [(0, .slice 0 0 W cp), (4, .slice 1 0 L (.rest 0)), (5, .int .i64 i)] [] none) (Heap.of [.flat [.i .i64] et w ws, .flat [.i .u8] 5 (.grow 1) vs]) (⟨.exit 0, [(4, .slice 2 0 (L + S.pwl ws (S.rem W i) i) (.rest 0))], [(1, .dead)], [.flat [.i .u8] 5 (.grow 1) (app vs (S.pw ws (S.rem W i) i))]⟩ : K.BRes).x (Fr.ofL 8 48 (⟨.exit 0, [(4, .slice 2 0 (L + S.pwl ws (S.rem W i) i) (.rest 0))], [(1, .dead)], [.flat [.i .u8] 5 (.grow 1) (app vs (S.pw ws (S.rem W i) i))]⟩ : K.BRes).L [] none) (Heap.of (K.chg [.flat [.i .i64] et w ws, .flat [.i .u8] 5 (.grow 1) vs] (⟨.exit 0, [(4, .slice 2 0 (L + S.pwl ws (S.rem W i) i) (.rest 0))], [(1, .dead)], [.flat [.i .u8] 5 (.grow 1) (app vs (S.pw ws (S.rem W i) i))]⟩ : K.BRes).ch ++ (⟨.exit 0, [(4, .slice 2 0 (L + S.pwl ws (S.rem W i) i) (.rest 0))], [(1, .dead)], [.flat [.i .u8] 5 (.grow 1) (app vs (S.pw ws (S.rem W i) i))]⟩ : K.BRes).new)) := by
  refine K.loop_of_run good (A := envL [(15, rnuE)]) (envL_ok ?_) K.openE_ok (k := 30) (ent := rpGLB) (cast (rpR1_run L W et cp w ws vs i).symm ?_)
  · intro p hp; simp only [List.mem_cons, List.not_mem_nil, or_false] at hp; rcases hp with rfl <;> first | exact rnu_ok
  · have at2 : S.an true true = true := rfl
    have e0 : ltI i 0 = false := ltI_false.2 h4
    have e1 : ltI i W = true := ltI_true.2 h5
    have b0 : (0 + i.toNat * 1 + 1).ble (lenL ws) = true := Nat.ble_eq_true_of_le (by rw [h0]; omega)
    have w2 : wrapK .i64 (i + 1) = i + 1 := by rw [wrapK_i64]; omega
    have jj : S.rem W i = S.rem W (i + 1) + 1 := by unfold S.rem; omega
    have hx : intOf (K.atV ws (0 + i.toNat * 1)) = S.wd ws i := rfl
    obtain ⟨n0, n1⟩ := S.numl_rng (S.wd ws i)
    have hl2 : lenL (app vs (S.num (S.wd ws i))) = L + S.numl (S.wd ws i) := by rw [S.lenL_app, h2]; rfl
    have hnl : lenL (S.num (S.wd ws i)) = S.numl (S.wd ws i) := rfl
    have bz : (S.numl (S.wd ws i)).beq 0 = false := S.beq_no n0
    have b4 : ((L + S.numl (S.wd ws i)) * 1).ble 1099511627776 = true := Nat.ble_eq_true_of_le (by omega)
    have hF : S.an (S.okN (S.wd ws i)) (S.okF ws (S.rem W (i + 1)) (i + 1)) = true := by have := h6; rw [jj] at this; exact this
    obtain ⟨f0, f1⟩ := S.an_iff.1 hF
    obtain ⟨x0, x1⟩ := S.okN_iff.1 f0
    have hp : S.pw ws (S.rem W i) i = app (S.num (S.wd ws i)) (S.pw ws (S.rem W (i + 1)) (i + 1)) := by rw [jj]; rfl
    have hpl : S.pwl ws (S.rem W i) i = S.numl (S.wd ws i) + S.pwl ws (S.rem W (i + 1)) (i + 1) := by unfold S.pwl; rw [hp, S.lenL_app]; rfl
    have g1 : S.okG (S.wd ws i) vs L = true := S.okG_iff.2 ⟨⟨x0, x1⟩, h2, by omega⟩
    have okn : S.okPG ws W (app vs (S.num (S.wd ws i))) (L + S.numl (S.wd ws i)) (i + 1) = true := S.an_iff.2 ⟨S.okQ_iff.2 ⟨⟨⟨h0, h1⟩, by omega, by omega⟩, hl2, by omega⟩, f1⟩
    have ih := h7 (L + S.numl (S.wd ws i)) (app vs (S.num (S.wd ws i))) hl2 (by omega) f1
    have m0 : ltI (S.wd ws i) 0 = false := ltI_false.2 x0
    have m1 : ltI 4611686018427387904 (S.wd ws i) = false := ltI_false.2 x1
    simp only [hx, e0, e1, b0, m0, m1, g1, f0, w2, at2, S.eqI_self, hnl, h2, S.ble0, bz, b4, S.sub_all h2, S.sub_all hnl, okn, hp, hpl, bc_true, bc_false, true_and]
    refine ⟨ih, ?_⟩
    simp only [S.app_app, Nat.add_assoc, true_and, and_true]
theorem rpRB_run (L W et : Nat) (cp : Cap) (w : Own) (ws vs : List LV) (i : Int) : K.RunL (envL [(15, rnuE)]) K.openE 30 8 48 (inner (inner (blkOf 8 0))) rpBLB [(0, .slice 0 0 W cp), (4, .slice 1 0 L (.rest 0)), (5, .int .i64 i)] [.flat [.i .i64] et w ws, .flat [.i .u8] 5 (.grow 1) vs] (.take true .auto) ⟨.ret, [(2, .nils), (3, .int .i64 6)], [(1, .dead)], []⟩ =
    ((ltI i ↑W = true ∧ bc (ltI i (0 : Int)) False (bc (ltI i ↑W) (bc (Nat.ble ((0 : Nat) + Int.toNat i * (1 : Nat) + (1 : Nat)) (lenL ws)) (bc (ltI (intOf (K.atV ws ((0 : Nat) + Int.toNat i * (1 : Nat)))) (0 : Int)) ((6 : Int) = (6 : Int) ∧ True) (bc (ltI i (0 : Int)) False (bc (ltI i ↑W) (bc (Nat.ble ((0 : Nat) + Int.toNat i * (1 : Nat) + (1 : Nat)) (lenL ws)) (bc (ltI (4611686018427387904 : Int) (intOf (K.atV ws ((0 : Nat) + Int.toNat i * (1 : Nat))))) ((6 : Int) = (6 : Int) ∧ True) (bc (ltI i (0 : Int)) False (bc (ltI i ↑W) (bc (Nat.ble ((0 : Nat) + Int.toNat i * (1 : Nat) + (1 : Nat)) (lenL ws)) (bc (S.okN (intOf (K.atV ws ((0 : Nat) + Int.toNat i * (1 : Nat))))) (bc (Nat.ble ((0 : Nat) + S.numl (intOf (K.atV ws ((0 : Nat) + Int.toNat i * (1 : Nat))))) (lenL (S.num (intOf (K.atV ws ((0 : Nat) + Int.toNat i * (1 : Nat))))))) (bc (Nat.ble ((0 : Nat) + L) (lenL vs)) (bc (Nat.beq (S.numl (intOf (K.atV ws ((0 : Nat) + Int.toNat i * (1 : Nat))))) (0 : Nat)) (bc (S.okPB ws W vs L (wrapK IntKind.i64 (i + (1 : Int)))) (K.LOk Try.prog 8 48 (inner (inner (blkOf 8 0))) [(0 : Nat), (4 : Nat), (5 : Nat)] [LV.slice (0 : Nat) (0 : Nat) W cp, LV.slice (1 : Nat) (0 : Nat) L (Cap.rest (0 : Nat)), LV.int IntKind.i64 (wrapK IntKind.i64 (i + (1 : Int)))] [LObj.flat [CK.i IntKind.i64] et w ws, LObj.flat [CK.i IntKind.u8] (5 : TypeId) (Own.grow (1 : Nat)) vs] { x := LX.ret, L := [((2 : Nat), LV.nils), ((3 : Nat), LV.int IntKind.i64 (6 : Int))], ch := [((1 : Nat), LObj.dead)], new := [] } ∧ ((6 : Int) = (6 : Int) ∧ True)) False) (bc (Nat.ble ((L + S.numl (intOf (K.atV ws ((0 : Nat) + Int.toNat i * (1 : Nat))))) * (1 : Nat)) (1099511627776 : Nat)) (bc (S.okPB ws W (app (sub vs (0 : Nat) L) (sub (S.num (intOf (K.atV ws ((0 : Nat) + Int.toNat i * (1 : Nat))))) (0 : Nat) (S.numl (intOf (K.atV ws ((0 : Nat) + Int.toNat i * (1 : Nat))))))) (L + S.numl (intOf (K.atV ws ((0 : Nat) + Int.toNat i * (1 : Nat))))) (wrapK IntKind.i64 (i + (1 : Int)))) (K.LOk Try.prog 8 48 (inner (inner (blkOf 8 0))) [(0 : Nat), (4 : Nat), (5 : Nat)] [LV.slice (0 : Nat) (0 : Nat) W cp, LV.slice (1 : Nat) (0 : Nat) (L + S.numl (intOf (K.atV ws ((0 : Nat) + Int.toNat i * (1 : Nat))))) (Cap.rest (0 : Nat)), LV.int IntKind.i64 (wrapK IntKind.i64 (i + (1 : Int)))] [LObj.flat [CK.i IntKind.i64] et w ws, LObj.flat [CK.i IntKind.u8] (5 : Nat) (Own.grow (1 : Nat)) (app (sub vs (0 : Nat) L) (sub (S.num (intOf (K.atV ws ((0 : Nat) + Int.toNat i * (1 : Nat))))) (0 : Nat) (S.numl (intOf (K.atV ws ((0 : Nat) + Int.toNat i * (1 : Nat)))))))] { x := LX.ret, L := [((2 : Nat), LV.nils), ((3 : Nat), LV.int IntKind.i64 (6 : Int))], ch := [((1 : Nat), LObj.dead)], new := [] } ∧ ((6 : Int) = (6 : Int) ∧ True)) False) False)) False) False) False) False) False))) False) False))) False) False))) := by kernel_rfl
theorem rpRB_con (L W et : Nat) (cp : Cap) (w : Own) (ws vs : List LV) (i : Int) (h0 : lenL ws = W) (h1 : W ≤ 100000) (h2 : lenL vs = L) (h3 : (L : Int) ≤ 20 + 9 * i) (h4 : 0 ≤ i) (h5 : i < W) (h6 : S.okF ws (S.rem W i) i = false) (h7 : ∀ (L2 : Nat) (vs2 : List LV), lenL vs2 = L2 → (L2 : Int) ≤ 20 + 9 * (i + 1) → S.okF ws (S.rem W (i + 1)) (i + 1) = false → K.LOk Try.prog 8 48 (inner (inner (blkOf 8 0))) [0, 4, 5] [.slice 0 0 W cp, .slice 1 0 L2 (.rest 0), .int .i64 (i + 1)] [.flat [.i .i64] et w ws, .flat [.i .u8] 5 (.grow 1) vs2] ⟨.ret, [(2, .nils), (3, .int .i64 6)], [(1, .dead)], []⟩)  : GT Try.prog (fun k => .code (inner (inner (blkOf 8 0))) :: .inLoop (inner (inner (blkOf 8 0))) :: k) (Fr.ofL 8 48 [(0, .slice 0 0 W cp), (4, .slice 1 0 L (.rest 0)), (5, .int .i64 i)] [] none) (Heap.of [.flat [.i .i64] et w ws, .flat [.i .u8] 5 (.grow 1) vs]) (⟨.ret, [(2, .nils), (3, .int .i64 6)], [(1, .dead)], []⟩ : K.BRes).x (Fr.ofL 8 48 (⟨.ret, [(2, .nils), (3, .int .i64 6)], [(1, .dead)], []⟩ : K.BRes).L [] none) (Heap.of (K.chg [.flat [.i .i64] et w ws, .flat [.i .u8] 5 (.grow 1) vs] (⟨.ret, [(2, .nils), (3, .int .i64 6)], [(1, .dead)], []⟩ : K.BRes).ch ++ (⟨.ret, [(2, .nils), (3, .int .i64 6)], [(1, .dead)], []⟩ : K.BRes).new)) := by
  refine K.loop_of_run good (A := envL [(15, rnuE)]) (envL_ok ?_) K.openE_ok (k := 30) (ent := rpBLB) (cast (rpRB_run L W et cp w ws vs i).symm ?_)
  · intro p hp; simp only [List.mem_cons, List.not_mem_nil, or_false] at hp; rcases hp with rfl <;> first | exact rnu_ok
  · have at2 : S.an true true = true := rfl
    have e0 : ltI i 0 = false := ltI_false.2 h4
    have e1 : ltI i W = true := ltI_true.2 h5
    have b0 : (0 + i.toNat * 1 + 1).ble (lenL ws) = true := Nat.ble_eq_true_of_le (by rw [h0]; omega)
    have w2 : wrapK .i64 (i + 1) = i + 1 := by rw [wrapK_i64]; omega
    have jj : S.rem W i = S.rem W (i + 1) + 1 := by unfold S.rem; omega
    have hx : intOf (K.atV ws (0 + i.toNat * 1)) = S.wd ws i := rfl
    obtain ⟨n0, n1⟩ := S.numl_rng (S.wd ws i)
    have hl2 : lenL (app vs (S.num (S.wd ws i))) = L + S.numl (S.wd ws i) := by rw [S.lenL_app, h2]; rfl
    have hnl : lenL (S.num (S.wd ws i)) = S.numl (S.wd ws i) := rfl
    have bz : (S.numl (S.wd ws i)).beq 0 = false := S.beq_no n0
    have b4 : ((L + S.numl (S.wd ws i)) * 1).ble 1099511627776 = true := Nat.ble_eq_true_of_le (by omega)
    cases f0 : S.okN (S.wd ws i)
    · simp only [hx, e0, e1, b0, bc_true, bc_false, true_and]
      cases m0 : ltI (S.wd ws i) 0
      · cases m1 : ltI 4611686018427387904 (S.wd ws i)
        · exfalso
          unfold S.okN at f0
          rw [m0, m1] at f0; cases f0
        · simp
      · simp
    · have f1 : S.okF ws (S.rem W (i + 1)) (i + 1) = false := by
        have hF : S.an (S.okN (S.wd ws i)) (S.okF ws (S.rem W (i + 1)) (i + 1)) = false := by have := h6; rw [jj] at this; exact this
        rw [f0] at hF; exact hF
      obtain ⟨x0, x1⟩ := S.okN_iff.1 f0
      have g1 : S.okG (S.wd ws i) vs L = true := S.okG_iff.2 ⟨⟨x0, x1⟩, h2, by omega⟩
      have okn : S.okPB ws W (app vs (S.num (S.wd ws i))) (L + S.numl (S.wd ws i)) (i + 1) = true := S.an_iff.2 ⟨S.okQ_iff.2 ⟨⟨⟨h0, h1⟩, by omega, by omega⟩, hl2, by omega⟩, by rw [f1]; rfl⟩
      have ih := h7 (L + S.numl (S.wd ws i)) (app vs (S.num (S.wd ws i))) hl2 (by omega) f1
      have m0 : ltI (S.wd ws i) 0 = false := ltI_false.2 x0
      have m1 : ltI 4611686018427387904 (S.wd ws i) = false := ltI_false.2 x1
      simp only [hx, e0, e1, b0, m0, m1, g1, f0, w2, at2, S.eqI_self, hnl, h2, S.ble0, bz, b4, S.sub_all h2, S.sub_all hnl, okn, bc_true, bc_false, true_and]
      exact ⟨ih, trivial⟩
theorem rp_z (L W et : Nat) (cp : Cap) (w : Own) (ws vs : List LV) (i : Int) (hi : i = W) : K.LOk Try.prog 8 48 (inner (inner (blkOf 8 0))) [0, 4, 5] [.slice 0 0 W cp, .slice 1 0 L (.rest 0), .int .i64 i] [.flat [.i .i64] et w ws, .flat [.i .u8] 5 (.grow 1) vs] ⟨.exit 0, [(4, .slice 2 0 (L + S.pwl ws (S.rem W i) i) (.rest 0))], [(1, .dead)], [.flat [.i .u8] 5 (.grow 1) (app vs (S.pw ws (S.rem W i) i))]⟩ := by
  have z : S.rem W i = 0 := by unfold S.rem; omega
  have z1 : S.pwl ws 0 i = 0 := rfl
  have z2 : app vs (S.pw ws 0 i) = vs := by show app vs [] = vs; rw [K.app_eq, List.append_nil]
  rw [z, z1, z2]
  have h : K.LOk Try.prog 8 48 (inner (inner (blkOf 8 0))) [0, 4, 5] [.slice 0 0 W cp, .slice 1 0 L (.rest 0), .int .i64 i] [.flat [.i .i64] et w ws, .flat [.i .u8] 5 (.grow 1) vs] ⟨.exit 0, [(4, .slice 1 0 L (.rest 0))], [], []⟩ := rpR0_con L W et cp w ws vs i hi
  exact K.LOk.mv (L1 := [(4, .slice 2 0 L (.rest 0))]) (j := 1) (o := .flat [.i .u8] 5 (.grow 1) vs) h rfl (fun v hv => by cases hv) ⟨by (have hg : (Fr.ofL 8 48 [(4, .slice 1 0 L (.rest 0))] [] none).get 4 = .slice 1 0 L (.rest 0) := by kernel_rfl); (show sameV (at_ (K.mvl 2 1)) (.slice 2 0 L (.rest 0)) ((Fr.ofL 8 48 [(4, .slice 1 0 L (.rest 0))] [] none).get 4)); (rw [hg]; simp only [sameV]; repeat' (first | exact rfl | exact trivial | constructor)), trivial⟩ ⟨by (show lt 3 (.slice 2 0 L (.rest 0))); simp [lt], trivial⟩
theorem rp_lok (W et : Nat) (cp : Cap) (w : Own) (ws : List LV) (hw : lenL ws = W) (hW : W ≤ 100000) : ∀ (j : Nat) (L : Nat) (vs : List LV) (i : Int), lenL vs = L → (L : Int) ≤ 20 + 9 * i → 0 ≤ i → i ≤ W → S.okF ws (S.rem W i) i = true → S.rem W i = j →
    K.LOk Try.prog 8 48 (inner (inner (blkOf 8 0))) [0, 4, 5] [.slice 0 0 W cp, .slice 1 0 L (.rest 0), .int .i64 i] [.flat [.i .i64] et w ws, .flat [.i .u8] 5 (.grow 1) vs] ⟨.exit 0, [(4, .slice 2 0 (L + S.pwl ws (S.rem W i) i) (.rest 0))], [(1, .dead)], [.flat [.i .u8] 5 (.grow 1) (app vs (S.pw ws (S.rem W i) i))]⟩ := by
  intro j
  induction j with
  | zero =>
    intro L vs i h1 h2 h3 h4 h5 hm
    exact rp_z L W et cp w ws vs i (by unfold S.rem at hm; omega)
  | succ j ih =>
    intro L vs i h1 h2 h3 h4 h5 hm
    exact rpR1_con L W et cp w ws vs i hw hW h1 h2 h3 (by unfold S.rem at hm; omega) h5 fun L2 vs2 a b c => ih L2 vs2 (i + 1) a b (by omega) (by unfold S.rem at hm; omega) c (by unfold S.rem at hm ⊢; omega)
theorem rp_lokB (W et : Nat) (cp : Cap) (w : Own) (ws : List LV) (hw : lenL ws = W) (hW : W ≤ 100000) : ∀ (j : Nat) (L : Nat) (vs : List LV) (i : Int), lenL vs = L → (L : Int) ≤ 20 + 9 * i → 0 ≤ i → i ≤ W → S.okF ws (S.rem W i) i = false → S.rem W i = j →
    K.LOk Try.prog 8 48 (inner (inner (blkOf 8 0))) [0, 4, 5] [.slice 0 0 W cp, .slice 1 0 L (.rest 0), .int .i64 i] [.flat [.i .i64] et w ws, .flat [.i .u8] 5 (.grow 1) vs] ⟨.ret, [(2, .nils), (3, .int .i64 6)], [(1, .dead)], []⟩ := by
  intro j
  induction j with
  | zero =>
    intro L vs i h1 h2 h3 h4 h5 hm
    rw [hm] at h5; cases h5
  | succ j ih =>
    intro L vs i h1 h2 h3 h4 h5 hm
    exact rpRB_con L W et cp w ws vs i hw hW h1 h2 h3 (by unfold S.rem at hm; omega) h5 fun L2 vs2 a b c => ih L2 vs2 (i + 1) a b (by omega) (by unfold S.rem at hm; omega) c (by unfold S.rem at hm ⊢; omega)
theorem rp_hb : blkOf 8 0 = .block 0 (.loop (inner (inner (blkOf 8 0)))) := by kernel_rfl
theorem rp_blk (L W et : Nat) (cp : Cap) (w : Own) (ws vs : List LV) (i : Int) (hw : lenL ws = W) (hW : W ≤ 100000) (h1 : lenL vs = L) (h2 : (L : Int) ≤ 20 + 9 * i) (h3 : 0 ≤ i) (h4 : i ≤ W) (h5 : S.okF ws (S.rem W i) i = true) : K.BOk Try.prog 8 48 (blkOf 8 0) [0, 4, 5] [.slice 0 0 W cp, .slice 1 0 L (.rest 0), .int .i64 i] [.flat [.i .i64] et w ws, .flat [.i .u8] 5 (.grow 1) vs] ⟨.normal, [(4, .slice 2 0 (L + S.pwl ws (S.rem W i) i) (.rest 0))], [(1, .dead)], [.flat [.i .u8] 5 (.grow 1) (app vs (S.pw ws (S.rem W i) i))]⟩ := by
  unfold K.BOk
  rw [rp_hb]
  exact K.CT.block (K.GT.loop (rp_lok W et cp w ws hw hW _ L vs i h1 h2 h3 h4 h5 rfl))
theorem rp_blkB (L W et : Nat) (cp : Cap) (w : Own) (ws vs : List LV) (i : Int) (hw : lenL ws = W) (hW : W ≤ 100000) (h1 : lenL vs = L) (h2 : (L : Int) ≤ 20 + 9 * i) (h3 : 0 ≤ i) (h4 : i ≤ W) (h5 : S.okF ws (S.rem W i) i = false) : K.BOk Try.prog 8 48 (blkOf 8 0) [0, 4, 5] [.slice 0 0 W cp, .slice 1 0 L (.rest 0), .int .i64 i] [.flat [.i .i64] et w ws, .flat [.i .u8] 5 (.grow 1) vs] ⟨.ret, [(2, .nils), (3, .int .i64 6)], [(1, .dead)], []⟩ := by
  unfold K.BOk
  rw [rp_hb]
  exact K.CT.blockRet (K.GT.loop (rp_lokB W et cp w ws hw hW _ L vs i h1 h2 h3 h4 h5 rfl))
theorem pakG_run (W et : Nat) (cp : Cap) (w : Own) (ws : List LV) : K.bodyF (envB [(13, nuXE), (14, chkE)] (fun g id => bc (Nat.beq g 7) (bc (Nat.beq id 0) (some pkGB) (none)) (none))) (K.runF (envB [(13, nuXE), (14, chkE)] (fun g id => bc (Nat.beq g 7) (bc (Nat.beq id 0) (some pkGB) (none)) (none))) 30) 7 [.slice 0 0 W cp] (Heap.of [.flat [.i .i64] et w ws]) Hint.auto (K.endC K.openE 1 ⟨.ret (.tup [.slice 1 0 (S.packL ws W) (.rest 0), .int .i64 0]), [], [.flat [.i .u8] 5 (.grow 1) (S.packed ws W)]⟩) =
    (bc (S.okN ↑W) (bc (S.an (eqI ↑W ↑W) (S.okPG ws W (LV.int IntKind.u8 (87 : Int) :: S.num ↑W) ((1 : Nat) + S.numl ↑W) (0 : Int))) (K.BOk Try.prog 7 38 (blkOf 7 0) [(4 : Nat), (12 : Nat), (13 : Nat), (14 : Nat)] [LV.slice (0 : Nat) (0 : Nat) ((1 : Nat) + S.numl ↑W) (Cap.rest (0 : Nat)), LV.slice (1 : Nat) (0 : Nat) W cp, LV.int IntKind.i64 ↑W, LV.int IntKind.i64 (0 : Int)] [LObj.flat [CK.i IntKind.u8] (5 : TypeId) (Own.grow (1 : Nat)) (LV.int IntKind.u8 (87 : Int) :: S.num ↑W), LObj.flat [CK.i IntKind.i64] et w ws] { x := LX.normal, L := [((4 : Nat), LV.slice (2 : Nat) (0 : Nat) ((1 : Nat) + S.numl ↑W + S.pwl ws (S.rem W (0 : Int)) (0 : Int)) (Cap.rest (0 : Nat)))], ch := [((0 : Nat), LObj.dead)], new := [LObj.flat [CK.i IntKind.u8] (5 : TypeId) (Own.grow (1 : Nat)) (app (LV.int IntKind.u8 (87 : Int) :: S.num ↑W) (S.pw ws (S.rem W (0 : Int)) (0 : Int)))] } ∧ bc (S.okL (app (LV.int IntKind.u8 (87 : Int) :: S.num ↑W) (S.pw ws (S.rem W (0 : Int)) (0 : Int))) ((1 : Nat) + S.numl ↑W + S.pwl ws (S.rem W (0 : Int)) (0 : Int))) (bc (Nat.ble (Int.toNat ↑((1 : Nat) + S.numl ↑W + S.pwl ws (S.rem W (0 : Int)) (0 : Int))) ((1 : Nat) + S.numl ↑W + S.pwl ws (S.rem W (0 : Int)) (0 : Int))) (bc (Nat.ble (Int.toNat ↑((1 : Nat) + S.numl ↑W + S.pwl ws (S.rem W (0 : Int)) (0 : Int))) (Int.toNat ↑((1 : Nat) + S.numl ↑W + S.pwl ws (S.rem W (0 : Int)) (0 : Int)))) (bc (Nat.ble (Int.toNat ↑((1 : Nat) + S.numl ↑W + S.pwl ws (S.rem W (0 : Int)) (0 : Int))) ((1 : Nat) + S.numl ↑W + S.pwl ws (S.rem W (0 : Int)) (0 : Int))) (bc (Nat.ble ((0 : Nat) + ((1 : Nat) + S.numl ↑W + S.pwl ws (S.rem W (0 : Int)) (0 : Int)) * (1 : Nat)) (lenL (flatF [CK.i IntKind.u8] (app (LV.int IntKind.u8 (87 : Int) :: S.num ↑W) (S.pw ws (S.rem W (0 : Int)) (0 : Int)))))) (bc (Nat.ble (nat_lit 0 + (Int.toNat ↑((1 : Nat) + S.numl ↑W + S.pwl ws (S.rem W (0 : Int)) (0 : Int)) - (0 : Nat))) (lenL (app (LV.int IntKind.u8 (87 : Int) :: S.num ↑W) (S.pw ws (S.rem W (0 : Int)) (0 : Int))))) (bc (Nat.ble (Int.toNat ↑((1 : Nat) + S.numl ↑W + S.pwl ws (S.rem W (0 : Int)) (0 : Int)) - (0 : Nat) + (2 : Nat)) (Int.toNat ↑((1 : Nat) + S.numl ↑W + S.pwl ws (S.rem W (0 : Int)) (0 : Int)) - (0 : Nat))) False (bc (Nat.ble ((Int.toNat ↑((1 : Nat) + S.numl ↑W + S.pwl ws (S.rem W (0 : Int)) (0 : Int)) - (0 : Nat) + (2 : Nat)) * (1 : Nat)) (1099511627776 : Nat)) ((0 : Nat) = (0 : Nat) ∧ (S.packL ws W = Int.toNat ↑((1 : Nat) + S.numl ↑W + S.pwl ws (S.rem W (0 : Int)) (0 : Int)) - (0 : Nat) + (2 : Nat) ∧ (Cap.rest (0 : Nat) = Cap.rest (0 : Nat) ∧ ((0 : Int) = (0 : Int) ∧ (S.packed ws W = app (sub (app (LV.int IntKind.u8 (87 : Int) :: S.num ↑W) (S.pw ws (S.rem W (0 : Int)) (0 : Int))) (nat_lit 0) (Int.toNat ↑((1 : Nat) + S.numl ↑W + S.pwl ws (S.rem W (0 : Int)) (0 : Int)) - (0 : Nat))) (sub (setMany [LV.int IntKind.u8 (0 : Int), LV.int IntKind.u8 (0 : Int)] (0 : Nat) [LV.int IntKind.u8 (S.cA (app (LV.int IntKind.u8 (87 : Int) :: S.num ↑W) (S.pw ws (S.rem W (0 : Int)) (0 : Int))) ((1 : Nat) + S.numl ↑W + S.pwl ws (S.rem W (0 : Int)) (0 : Int))), LV.int IntKind.u8 (S.cB (app (LV.int IntKind.u8 (87 : Int) :: S.num ↑W) (S.pw ws (S.rem W (0 : Int)) (0 : Int))) ((1 : Nat) + S.numl ↑W + S.pwl ws (S.rem W (0 : Int)) (0 : Int)))]) (0 : Nat) (2 : Nat)) ∧ True))))) False)) False) False) False) False) False) False) False) False) := by kernel_rfl
theorem pakG_con (W et : Nat) (cp : Cap) (w : Own) (ws : List LV) (h0 : S.okWG ws W = true)  : HT Try.prog 7 [.slice 0 0 W cp] (Heap.of [.flat [.i .i64] et w ws]) (⟨.ret (.tup [.slice 1 0 (S.packL ws W) (.rest 0), .int .i64 0]), [], [.flat [.i .u8] 5 (.grow 1) (S.packed ws W)]⟩ : K.CRes).e (Heap.of (K.chg [.flat [.i .i64] et w ws] (⟨.ret (.tup [.slice 1 0 (S.packL ws W) (.rest 0), .int .i64 0]), [], [.flat [.i .u8] 5 (.grow 1) (S.packed ws W)]⟩ : K.CRes).ch ++ (⟨.ret (.tup [.slice 1 0 (S.packL ws W) (.rest 0), .int .i64 0]), [], [.flat [.i .u8] 5 (.grow 1) (S.packed ws W)]⟩ : K.CRes).new)) := by
  refine K.con_of_run good (A := envB [(13, nuXE), (14, chkE)] (fun g id => bc (Nat.beq g 7) (bc (Nat.beq id 0) (some pkGB) (none)) (none))) (envB_ok ?_) K.openE_ok (k := 30) (cast (pakG_run W et cp w ws).symm ?_)
  · intro p hp; simp only [List.mem_cons, List.not_mem_nil, or_false] at hp; rcases hp with rfl | rfl <;> first | exact nuX_ok | exact chk_ok
  · obtain ⟨hw, hF⟩ := S.an_iff.1 h0
    obtain ⟨q0, q1⟩ := S.okW_iff.1 hw
    have at2 : S.an true true = true := rfl
    have on : S.okN (W : Int) = true := S.okN_iff.2 (by omega)
    obtain ⟨n0, n1⟩ := S.numl_rng (W : Int)
    have hl : lenL (.int .u8 87 :: S.num W) = 1 + S.numl W := S.lenL_cons _ _
    have hnl : lenL (S.num (W : Int)) = S.numl W := rfl
    have bz : (S.numl (W : Int)).beq 0 = false := S.beq_no n0
    have b1 : (1 + S.numl (W : Int)).ble 1 = false := by
      cases h : (1 + S.numl (W : Int)).ble 1
      · rfl
      · have := Nat.le_of_ble_eq_true h; omega
    have b4 : ((1 + S.numl (W : Int)) * 1).ble 1099511627776 = true := Nat.ble_eq_true_of_le (by omega)
    have hi : app (sub (setMany [.int .u8 0] 0 [.int .u8 87]) 0 1) (S.num W) = .int .u8 87 :: S.num W := rfl
    have pl := S.pwl_le ws (S.rem W 0) 0
    have hr : S.rem W 0 = W := by unfold S.rem; omega
    have okp : S.okPG ws W (.int .u8 87 :: S.num W) (1 + S.numl W) 0 = true := S.an_iff.2 ⟨S.okQ_iff.2 ⟨⟨⟨q0, q1⟩, by omega, by omega⟩, hl, by omega⟩, hF⟩
    have B := pk_blk (1 + S.numl W) W et cp w ws (.int .u8 87 :: S.num W) 0 q0 q1 hl (by omega) (by omega) (by omega) hF
    have hT : lenL (app (.int .u8 87 :: S.num W) (S.pw ws (S.rem W 0) 0)) = 1 + S.numl W + S.pwl ws (S.rem W 0) 0 := by rw [S.lenL_app, hl]; rfl
    simp only [on, at2, S.eqI_self, hnl, S.ble0, bz, b1, b4, S.sub_all hnl, hi, okp, bc_true, bc_false]
    refine ⟨B, ?_⟩
    clear B
    have hb : S.body ws W = app (.int .u8 87 :: S.num W) (S.pw ws (S.rem W 0) 0) := rfl
    have hq : S.packL ws W = 1 + S.numl W + S.pwl ws (S.rem W 0) 0 + 2 := by unfold S.packL S.packed; rw [S.lenL_app, hb, hT]; rfl
    unfold S.packed
    rw [hq, hb]
    generalize app (.int .u8 87 :: S.num W) (S.pw ws (S.rem W 0) 0) = bd at hT
    have hbd : 1 + S.numl W + S.pwl ws (S.rem W 0) 0 ≤ 999000 := by omega
    generalize 1 + S.numl W + S.pwl ws (S.rem W 0) 0 = T at hT hbd
    have okl : S.okL bd T = true := S.okL_iff.2 ⟨by rw [hT]; exact Nat.le_refl _, by omega⟩
    have b5 : ((T + 2) * 1).ble 1099511627776 = true := Nat.ble_eq_true_of_le (by omega)
    have hfl : lenL (flatF [.i .u8] bd) = lenL bd := by rw [K.lenL_eq, K.lenL_eq, flat_length]
    simp only [okl, Int.toNat_natCast, Nat.sub_zero, Nat.zero_add, Nat.mul_one, hfl, hT, S.ble_self, S.ble_no, bc_true, bc_false]
    have b6 : (T + 2).ble 1099511627776 = true := Nat.ble_eq_true_of_le (by omega)
    simp only [b6, bc_true, S.sub_all hT]
    repeat' (first | exact rfl | exact trivial | constructor)
theorem pakG_ok : pakGE.ok Try.prog 7 := by
  intro xs os b r h h3
  unfold pakGE at h
  simp only at h
  split at h
  · injection h with h; injection h with h1 h2; subst h1; subst h2
    exact pakG_con _ _ _ _ _ h3
  · cases h
theorem pakB_run (W et : Nat) (cp : Cap) (w : Own) (ws : List LV) : K.bodyF (envB [(13, nuXE), (14, chkE)] (fun g id => bc (Nat.beq g 7) (bc (Nat.beq id 0) (some pkBB) (none)) (none))) (K.runF (envB [(13, nuXE), (14, chkE)] (fun g id => bc (Nat.beq g 7) (bc (Nat.beq id 0) (some pkBB) (none)) (none))) 30) 7 [.slice 0 0 W cp] (Heap.of [.flat [.i .i64] et w ws]) Hint.auto (K.endC K.openE 1 ⟨.ret (.tup [.nils, .int .i64 6]), [], []⟩) =
    (bc (S.okN ↑W) (bc (S.an (eqI ↑W ↑W) (S.okPB ws W (LV.int IntKind.u8 (87 : Int) :: S.num ↑W) ((1 : Nat) + S.numl ↑W) (0 : Int))) (K.BOk Try.prog 7 38 (blkOf 7 0) [(4 : Nat), (12 : Nat), (13 : Nat), (14 : Nat)] [LV.slice (0 : Nat) (0 : Nat) ((1 : Nat) + S.numl ↑W) (Cap.rest (0 : Nat)), LV.slice (1 : Nat) (0 : Nat) W cp, LV.int IntKind.i64 ↑W, LV.int IntKind.i64 (0 : Int)] [LObj.flat [CK.i IntKind.u8] (5 : TypeId) (Own.grow (1 : Nat)) (LV.int IntKind.u8 (87 : Int) :: S.num ↑W), LObj.flat [CK.i IntKind.i64] et w ws] { x := LX.ret, L := [((2 : Nat), LV.nils), ((3 : Nat), LV.int IntKind.i64 (6 : Int))], ch := [((0 : Nat), LObj.dead)], new := [] } ∧ ((6 : Int) = (6 : Int) ∧ True)) False) False) := by kernel_rfl
theorem pakB_con (W et : Nat) (cp : Cap) (w : Own) (ws : List LV) (h0 : S.okWB ws W = true)  : HT Try.prog 7 [.slice 0 0 W cp] (Heap.of [.flat [.i .i64] et w ws]) (⟨.ret (.tup [.nils, .int .i64 6]), [], []⟩ : K.CRes).e (Heap.of (K.chg [.flat [.i .i64] et w ws] (⟨.ret (.tup [.nils, .int .i64 6]), [], []⟩ : K.CRes).ch ++ (⟨.ret (.tup [.nils, .int .i64 6]), [], []⟩ : K.CRes).new)) := by
  refine K.con_of_run good (A := envB [(13, nuXE), (14, chkE)] (fun g id => bc (Nat.beq g 7) (bc (Nat.beq id 0) (some pkBB) (none)) (none))) (envB_ok ?_) K.openE_ok (k := 30) (cast (pakB_run W et cp w ws).symm ?_)
  · intro p hp; simp only [List.mem_cons, List.not_mem_nil, or_false] at hp; rcases hp with rfl | rfl <;> first | exact nuX_ok | exact chk_ok
  · obtain ⟨hw, hF⟩ := S.an_iff.1 h0
    obtain ⟨q0, q1⟩ := S.okW_iff.1 hw
    have at2 : S.an true true = true := rfl
    have on : S.okN (W : Int) = true := S.okN_iff.2 (by omega)
    obtain ⟨n0, n1⟩ := S.numl_rng (W : Int)
    have hl : lenL (.int .u8 87 :: S.num W) = 1 + S.numl W := S.lenL_cons _ _
    have hnl : lenL (S.num (W : Int)) = S.numl W := rfl
    have bz : (S.numl (W : Int)).beq 0 = false := S.beq_no n0
    have b1 : (1 + S.numl (W : Int)).ble 1 = false := by
      cases h : (1 + S.numl (W : Int)).ble 1
      · rfl
      · have := Nat.le_of_ble_eq_true h; omega
    have b4 : ((1 + S.numl (W : Int)) * 1).ble 1099511627776 = true := Nat.ble_eq_true_of_le (by omega)
    have hi : app (sub (setMany [.int .u8 0] 0 [.int .u8 87]) 0 1) (S.num W) = .int .u8 87 :: S.num W := rfl
    have hF : S.okF ws (S.rem W 0) 0 = false := notB_true.1 hF
    have okp : S.okPB ws W (.int .u8 87 :: S.num W) (1 + S.numl W) 0 = true := S.an_iff.2 ⟨S.okQ_iff.2 ⟨⟨⟨q0, q1⟩, by omega, by omega⟩, hl, by omega⟩, by rw [hF]; rfl⟩
    have B := pk_blkB (1 + S.numl W) W et cp w ws (.int .u8 87 :: S.num W) 0 q0 q1 hl (by omega) (by omega) (by omega) hF
    simp only [on, at2, S.eqI_self, hnl, S.ble0, bz, b1, b4, S.sub_all hnl, hi, okp, bc_true, bc_false]
    exact ⟨B, by simp⟩
theorem pakB_ok : pakBE.ok Try.prog 7 := by
  intro xs os b r h h3
  unfold pakBE at h
  simp only at h
  split at h
  · injection h with h; injection h with h1 h2; subst h1; subst h2
    exact pakB_con _ _ _ _ _ h3
  · cases h
theorem rpakG_run (W et : Nat) (cp : Cap) (w : Own) (ws : List LV) : K.bodyF (envB [(15, rnuE), (16, rchkE)] (fun g id => bc (Nat.beq g 8) (bc (Nat.beq id 0) (some rpGB) (none)) (none))) (K.runF (envB [(15, rnuE), (16, rchkE)] (fun g id => bc (Nat.beq g 8) (bc (Nat.beq id 0) (some rpGB) (none)) (none))) 30) 8 [.slice 0 0 W cp] (Heap.of [.flat [.i .i64] et w ws]) Hint.auto (K.endC K.openE 1 ⟨.ret (.tup [.slice 1 0 (S.packL ws W) (.rest 0), .int .i64 0]), [], [.flat [.i .u8] 5 (.grow 1) (S.packed ws W)]⟩) =
    (bc (S.okN ↑W) (bc (Nat.ble ((0 : Nat) + S.numl ↑W) (lenL (S.num ↑W))) (bc (Nat.ble ((1 : Nat) + S.numl ↑W) (1 : Nat)) (bc (Nat.beq (S.numl ↑W) (0 : Nat)) False False) (bc (Nat.ble (((1 : Nat) + S.numl ↑W) * (1 : Nat)) (1099511627776 : Nat)) (bc (S.okPG ws W (app (sub (setMany [LV.int IntKind.u8 (0 : Int)] (0 : Nat) [LV.int IntKind.u8 (87 : Int)]) (0 : Nat) (1 : Nat)) (sub (S.num ↑W) (0 : Nat) (S.numl ↑W))) ((1 : Nat) + S.numl ↑W) (0 : Int)) (K.BOk Try.prog 8 48 (blkOf 8 0) [(0 : Nat), (4 : Nat), (5 : Nat)] [LV.slice (0 : Nat) (0 : Nat) W cp, LV.slice (1 : Nat) (0 : Nat) ((1 : Nat) + S.numl ↑W) (Cap.rest (0 : Nat)), LV.int IntKind.i64 (0 : Int)] [LObj.flat [CK.i IntKind.i64] et w ws, LObj.flat [CK.i IntKind.u8] (5 : Nat) (Own.grow (1 : Nat)) (app (sub (setMany [LV.int IntKind.u8 (0 : Int)] (0 : Nat) [LV.int IntKind.u8 (87 : Int)]) (0 : Nat) (1 : Nat)) (sub (S.num ↑W) (0 : Nat) (S.numl ↑W)))] { x := LX.normal, L := [((4 : Nat), LV.slice (2 : Nat) (0 : Nat) ((1 : Nat) + S.numl ↑W + S.pwl ws (S.rem W (0 : Int)) (0 : Int)) (Cap.rest (0 : Nat)))], ch := [((1 : Nat), LObj.dead)], new := [LObj.flat [CK.i IntKind.u8] (5 : TypeId) (Own.grow (1 : Nat)) (app (app (sub (setMany [LV.int IntKind.u8 (0 : Int)] (0 : Nat) [LV.int IntKind.u8 (87 : Int)]) (0 : Nat) (1 : Nat)) (sub (S.num ↑W) (0 : Nat) (S.numl ↑W))) (S.pw ws (S.rem W (0 : Int)) (0 : Int)))] } ∧ bc (S.okL (app (app (sub (setMany [LV.int IntKind.u8 (0 : Int)] (0 : Nat) [LV.int IntKind.u8 (87 : Int)]) (0 : Nat) (1 : Nat)) (sub (S.num ↑W) (0 : Nat) (S.numl ↑W))) (S.pw ws (S.rem W (0 : Int)) (0 : Int))) ((1 : Nat) + S.numl ↑W + S.pwl ws (S.rem W (0 : Int)) (0 : Int))) (bc (Nat.ble ((0 : Nat) + ((1 : Nat) + S.numl ↑W + S.pwl ws (S.rem W (0 : Int)) (0 : Int))) (lenL (app (app (sub (setMany [LV.int IntKind.u8 (0 : Int)] (0 : Nat) [LV.int IntKind.u8 (87 : Int)]) (0 : Nat) (1 : Nat)) (sub (S.num ↑W) (0 : Nat) (S.numl ↑W))) (S.pw ws (S.rem W (0 : Int)) (0 : Int))))) (bc (Nat.ble (((1 : Nat) + S.numl ↑W + S.pwl ws (S.rem W (0 : Int)) (0 : Int) + (2 : Nat)) * (1 : Nat)) (1099511627776 : Nat)) ((0 : Nat) = (0 : Nat) ∧ (S.packL ws W = (1 : Nat) + S.numl ↑W + S.pwl ws (S.rem W (0 : Int)) (0 : Int) + (2 : Nat) ∧ (Cap.rest (0 : Nat) = Cap.rest (0 : Nat) ∧ ((0 : Int) = (0 : Int) ∧ (S.packed ws W = app (sub (app (app (sub (setMany [LV.int IntKind.u8 (0 : Int)] (0 : Nat) [LV.int IntKind.u8 (87 : Int)]) (0 : Nat) (1 : Nat)) (sub (S.num ↑W) (0 : Nat) (S.numl ↑W))) (S.pw ws (S.rem W (0 : Int)) (0 : Int))) (0 : Nat) ((1 : Nat) + S.numl ↑W + S.pwl ws (S.rem W (0 : Int)) (0 : Int))) (sub (setMany (setMany [LV.int IntKind.u8 (0 : Int), LV.int IntKind.u8 (0 : Int)] (0 : Nat) [LV.int IntKind.u8 (S.cA (app (app (sub (setMany [LV.int IntKind.u8 (0 : Int)] (0 : Nat) [LV.int IntKind.u8 (87 : Int)]) (0 : Nat) (1 : Nat)) (sub (S.num ↑W) (0 : Nat) (S.numl ↑W))) (S.pw ws (S.rem W (0 : Int)) (0 : Int))) ((1 : Nat) + S.numl ↑W + S.pwl ws (S.rem W (0 : Int)) (0 : Int)))]) (1 : Nat) [LV.int IntKind.u8 (S.cB (app (app (sub (setMany [LV.int IntKind.u8 (0 : Int)] (0 : Nat) [LV.int IntKind.u8 (87 : Int)]) (0 : Nat) (1 : Nat)) (sub (S.num ↑W) (0 : Nat) (S.numl ↑W))) (S.pw ws (S.rem W (0 : Int)) (0 : Int))) ((1 : Nat) + S.numl ↑W + S.pwl ws (S.rem W (0 : Int)) (0 : Int)))]) (0 : Nat) (2 : Nat)) ∧ True))))) False) False) False) False) False)) False) False) := by kernel_rfl
theorem rpakG_con (W et : Nat) (cp : Cap) (w : Own) (ws : List LV) (h0 : S.okWG ws W = true)  : HT Try.prog 8 [.slice 0 0 W cp] (Heap.of [.flat [.i .i64] et w ws]) (⟨.ret (.tup [.slice 1 0 (S.packL ws W) (.rest 0), .int .i64 0]), [], [.flat [.i .u8] 5 (.grow 1) (S.packed ws W)]⟩ : K.CRes).e (Heap.of (K.chg [.flat [.i .i64] et w ws] (⟨.ret (.tup [.slice 1 0 (S.packL ws W) (.rest 0), .int .i64 0]), [], [.flat [.i .u8] 5 (.grow 1) (S.packed ws W)]⟩ : K.CRes).ch ++ (⟨.ret (.tup [.slice 1 0 (S.packL ws W) (.rest 0), .int .i64 0]), [], [.flat [.i .u8] 5 (.grow 1) (S.packed ws W)]⟩ : K.CRes).new)) := by
  refine K.con_of_run good (A := envB [(15, rnuE), (16, rchkE)] (fun g id => bc (Nat.beq g 8) (bc (Nat.beq id 0) (some rpGB) (none)) (none))) (envB_ok ?_) K.openE_ok (k := 30) (cast (rpakG_run W et cp w ws).symm ?_)
  · intro p hp; simp only [List.mem_cons, List.not_mem_nil, or_false] at hp; rcases hp with rfl | rfl <;> first | exact rnu_ok | exact rchk_ok
  · obtain ⟨hw, hF⟩ := S.an_iff.1 h0
    obtain ⟨q0, q1⟩ := S.okW_iff.1 hw
    have at2 : S.an true true = true := rfl
    have on : S.okN (W : Int) = true := S.okN_iff.2 (by omega)
    obtain ⟨n0, n1⟩ := S.numl_rng (W : Int)
    have hl : lenL (.int .u8 87 :: S.num W) = 1 + S.numl W := S.lenL_cons _ _
    have hnl : lenL (S.num (W : Int)) = S.numl W := rfl
    have bz : (S.numl (W : Int)).beq 0 = false := S.beq_no n0
    have b1 : (1 + S.numl (W : Int)).ble 1 = false := by
      cases h : (1 + S.numl (W : Int)).ble 1
      · rfl
      · have := Nat.le_of_ble_eq_true h; omega
    have b4 : ((1 + S.numl (W : Int)) * 1).ble 1099511627776 = true := Nat.ble_eq_true_of_le (by omega)
    have hi : app (sub (setMany [.int .u8 0] 0 [.int .u8 87]) 0 1) (S.num W) = .int .u8 87 :: S.num W := rfl
    have pl := S.pwl_le ws (S.rem W 0) 0
    have hr : S.rem W 0 = W := by unfold S.rem; omega
    have okp : S.okPG ws W (.int .u8 87 :: S.num W) (1 + S.numl W) 0 = true := S.an_iff.2 ⟨S.okQ_iff.2 ⟨⟨⟨q0, q1⟩, by omega, by omega⟩, hl, by omega⟩, hF⟩
    have B := rp_blk (1 + S.numl W) W et cp w ws (.int .u8 87 :: S.num W) 0 q0 q1 hl (by omega) (by omega) (by omega) hF
    have hT : lenL (app (.int .u8 87 :: S.num W) (S.pw ws (S.rem W 0) 0)) = 1 + S.numl W + S.pwl ws (S.rem W 0) 0 := by rw [S.lenL_app, hl]; rfl
    simp only [on, at2, S.eqI_self, hnl, S.ble0, bz, b1, b4, S.sub_all hnl, hi, okp, bc_true, bc_false]
    refine ⟨B, ?_⟩
    clear B
    have hb : S.body ws W = app (.int .u8 87 :: S.num W) (S.pw ws (S.rem W 0) 0) := rfl
    have hq : S.packL ws W = 1 + S.numl W + S.pwl ws (S.rem W 0) 0 + 2 := by unfold S.packL S.packed; rw [S.lenL_app, hb, hT]; rfl
    unfold S.packed
    rw [hq, hb]
    generalize app (.int .u8 87 :: S.num W) (S.pw ws (S.rem W 0) 0) = bd at hT
    have hbd : 1 + S.numl W + S.pwl ws (S.rem W 0) 0 ≤ 999000 := by omega
    generalize 1 + S.numl W + S.pwl ws (S.rem W 0) 0 = T at hT hbd
    have okl : S.okL bd T = true := S.okL_iff.2 ⟨by rw [hT]; exact Nat.le_refl _, by omega⟩
    have b5 : ((T + 2) * 1).ble 1099511627776 = true := Nat.ble_eq_true_of_le (by omega)
    have hfl : lenL (flatF [.i .u8] bd) = lenL bd := by rw [K.lenL_eq, K.lenL_eq, flat_length]
    simp only [okl, Int.toNat_natCast, Nat.sub_zero, Nat.zero_add, Nat.mul_one, hfl, hT, S.ble_self, S.ble_no, bc_true, bc_false]
    have b6 : (T + 2).ble 1099511627776 = true := Nat.ble_eq_true_of_le (by omega)
    simp only [b6, bc_true, S.sub_all hT]
    repeat' (first | exact rfl | exact trivial | constructor)
theorem rpakG_ok : rpakGE.ok Try.prog 8 := by
  intro xs os b r h h3
  unfold rpakGE at h
  simp only at h
  split at h
  · injection h with h; injection h with h1 h2; subst h1; subst h2
    exact rpakG_con _ _ _ _ _ h3
  · cases h
theorem rpakB_run (W et : Nat) (cp : Cap) (w : Own) (ws : List LV) : K.bodyF (envB [(15, rnuE), (16, rchkE)] (fun g id => bc (Nat.beq g 8) (bc (Nat.beq id 0) (some rpBB) (none)) (none))) (K.runF (envB [(15, rnuE), (16, rchkE)] (fun g id => bc (Nat.beq g 8) (bc (Nat.beq id 0) (some rpBB) (none)) (none))) 30) 8 [.slice 0 0 W cp] (Heap.of [.flat [.i .i64] et w ws]) Hint.auto (K.endC K.openE 1 ⟨.ret (.tup [.nils, .int .i64 6]), [], []⟩) =
    (bc (S.okN ↑W) (bc (Nat.ble ((0 : Nat) + S.numl ↑W) (lenL (S.num ↑W))) (bc (Nat.ble ((1 : Nat) + S.numl ↑W) (1 : Nat)) (bc (Nat.beq (S.numl ↑W) (0 : Nat)) False False) (bc (Nat.ble (((1 : Nat) + S.numl ↑W) * (1 : Nat)) (1099511627776 : Nat)) (bc (S.okPB ws W (app (sub (setMany [LV.int IntKind.u8 (0 : Int)] (0 : Nat) [LV.int IntKind.u8 (87 : Int)]) (0 : Nat) (1 : Nat)) (sub (S.num ↑W) (0 : Nat) (S.numl ↑W))) ((1 : Nat) + S.numl ↑W) (0 : Int)) (K.BOk Try.prog 8 48 (blkOf 8 0) [(0 : Nat), (4 : Nat), (5 : Nat)] [LV.slice (0 : Nat) (0 : Nat) W cp, LV.slice (1 : Nat) (0 : Nat) ((1 : Nat) + S.numl ↑W) (Cap.rest (0 : Nat)), LV.int IntKind.i64 (0 : Int)] [LObj.flat [CK.i IntKind.i64] et w ws, LObj.flat [CK.i IntKind.u8] (5 : Nat) (Own.grow (1 : Nat)) (app (sub (setMany [LV.int IntKind.u8 (0 : Int)] (0 : Nat) [LV.int IntKind.u8 (87 : Int)]) (0 : Nat) (1 : Nat)) (sub (S.num ↑W) (0 : Nat) (S.numl ↑W)))] { x := LX.ret, L := [((2 : Nat), LV.nils), ((3 : Nat), LV.int IntKind.i64 (6 : Int))], ch := [((1 : Nat), LObj.dead)], new := [] } ∧ ((6 : Int) = (6 : Int) ∧ True)) False) False)) False) False) := by kernel_rfl
theorem rpakB_con (W et : Nat) (cp : Cap) (w : Own) (ws : List LV) (h0 : S.okWB ws W = true)  : HT Try.prog 8 [.slice 0 0 W cp] (Heap.of [.flat [.i .i64] et w ws]) (⟨.ret (.tup [.nils, .int .i64 6]), [], []⟩ : K.CRes).e (Heap.of (K.chg [.flat [.i .i64] et w ws] (⟨.ret (.tup [.nils, .int .i64 6]), [], []⟩ : K.CRes).ch ++ (⟨.ret (.tup [.nils, .int .i64 6]), [], []⟩ : K.CRes).new)) := by
  refine K.con_of_run good (A := envB [(15, rnuE), (16, rchkE)] (fun g id => bc (Nat.beq g 8) (bc (Nat.beq id 0) (some rpBB) (none)) (none))) (envB_ok ?_) K.openE_ok (k := 30) (cast (rpakB_run W et cp w ws).symm ?_)
  · intro p hp; simp only [List.mem_cons, List.not_mem_nil, or_false] at hp; rcases hp with rfl | rfl <;> first | exact rnu_ok | exact rchk_ok
  · obtain ⟨hw, hF⟩ := S.an_iff.1 h0
    obtain ⟨q0, q1⟩ := S.okW_iff.1 hw
    have at2 : S.an true true = true := rfl
    have on : S.okN (W : Int) = true := S.okN_iff.2 (by omega)
    obtain ⟨n0, n1⟩ := S.numl_rng (W : Int)
    have hl : lenL (.int .u8 87 :: S.num W) = 1 + S.numl W := S.lenL_cons _ _
    have hnl : lenL (S.num (W : Int)) = S.numl W := rfl
    have bz : (S.numl (W : Int)).beq 0 = false := S.beq_no n0
    have b1 : (1 + S.numl (W : Int)).ble 1 = false := by
      cases h : (1 + S.numl (W : Int)).ble 1
      · rfl
      · have := Nat.le_of_ble_eq_true h; omega
    have b4 : ((1 + S.numl (W : Int)) * 1).ble 1099511627776 = true := Nat.ble_eq_true_of_le (by omega)
    have hi : app (sub (setMany [.int .u8 0] 0 [.int .u8 87]) 0 1) (S.num W) = .int .u8 87 :: S.num W := rfl
    have hF : S.okF ws (S.rem W 0) 0 = false := notB_true.1 hF
    have okp : S.okPB ws W (.int .u8 87 :: S.num W) (1 + S.numl W) 0 = true := S.an_iff.2 ⟨S.okQ_iff.2 ⟨⟨⟨q0, q1⟩, by omega, by omega⟩, hl, by omega⟩, by rw [hF]; rfl⟩
    have B := rp_blkB (1 + S.numl W) W et cp w ws (.int .u8 87 :: S.num W) 0 q0 q1 hl (by omega) (by omega) (by omega) hF
    simp only [on, at2, S.eqI_self, hnl, S.ble0, bz, b1, b4, S.sub_all hnl, hi, okp, bc_true, bc_false]
    exact ⟨B, by simp⟩
theorem rpakB_ok : rpakBE.ok Try.prog 8 := by
  intro xs os b r h h3
  unfold rpakBE at h
  simp only at h
  split at h
  · injection h with h; injection h with h1 h2; subst h1; subst h2
    exact rpakB_con _ _ _ _ _ h3
  · cases h
end Go.Proofs.Ytogngajglbgjmaa.Ev
