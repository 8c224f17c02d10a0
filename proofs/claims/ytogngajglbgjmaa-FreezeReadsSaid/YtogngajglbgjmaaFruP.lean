/- Contracts, proved: Fru. -/
import Derived.Test.YtogngajglbgjmaaFruD
import Derived.Test.YtogngajglbgjmaaFrgP
import Derived.Test.YtogngajglbgjmaaFunP
import Derived.Test.YtogngajglbgjmaaFchP
namespace Go.Proofs.Ytogngajglbgjmaa.Ev
open Go
set_option linter.unusedVariables false
set_option linter.unusedSimpArgs false
set_option maxRecDepth 100000
set_option maxHeartbeats 1000000
namespace S
theorem okE_iff {vs : List LV} {E : Nat} {N a i : Int} : okE vs E N a i = true ↔ (okY vs = true ∧ E ≤ lenL vs ∧ E ≤ 1000000) ∧ (0 ≤ a ∧ a ≤ E) ∧ 0 ≤ i ∧ i ≤ N ∧ N ≤ 1000000 := by
  unfold okE; rw [an_iff, an_iff, an_iff, an_iff, an_iff, an_iff, an_iff, bleN_iff, bleN_iff, notB_true, notB_true, notB_true, notB_true, notB_true, ltI_false, ltI_false, ltI_false, ltI_false, ltI_false]
theorem okM_iff {m : Nat} {ns : List LV} {N i : Int} : okM m ns N i = true ↔ lenL ns = m ∧ m + rj N i ≤ 1000000 := by unfold okM; rw [an_iff, beqN_iff, bleN_iff]
theorem rok_succ (vs : List LV) (j o n : Nat) : rok vs (j + 1) o n = an (notB (Nat.beq (gk vs o n) 0)) (rok vs j (o + gk vs o n) (n - gk vs o n)) := rfl
theorem rl_succ (vs : List LV) (j o n : Nat) : rl vs (j + 1) o n = .int .i64 (gv vs o n) :: rl vs j (o + gk vs o n) (n - gk vs o n) := rfl
theorem ra_succ (vs : List LV) (j o n : Nat) : ra vs (j + 1) o n = ra vs j (o + gk vs o n) (n - gk vs o n) := rfl
theorem okE_R {vs : List LV} {E : Nat} {N a i : Int} (h : okE vs E N a i = true) : okR vs E a = true := by
  obtain ⟨⟨a1, a2, a3⟩, ⟨b1, b2⟩, _⟩ := okE_iff.1 h
  exact okR_iff.2 ⟨⟨a1, a2⟩, a3, b1, b2⟩
/-- One number more. -/
theorem ru_step {vs : List LV} {E : Nat} {N a i : Int} (h : okE vs E N a i = true) (hi : i < N) :
    (rx vs E a = -1 ∧ rG vs E N a i = false) ∨ (0 ≤ rx vs E a ∧ okE vs E N (rx vs E a) (i + 1) = true ∧ rG vs E N a i = rG vs E N (rx vs E a) (i + 1) ∧ rL vs E N a i = .int .i64 (rv vs E a) :: rL vs E N (rx vs E a) (i + 1) ∧ rA vs E N a i = rA vs E N (rx vs E a) (i + 1) ∧ rj N i = rj N (i + 1) + 1) := by
  obtain ⟨⟨a1, a2, a3⟩, ⟨b1, b2⟩, c1, c2, c3⟩ := okE_iff.1 h
  obtain ⟨o, rfl⟩ := Int.eq_ofNat_of_zero_le b1
  have jj : rj N i = rj N (i + 1) + 1 := by unfold rj; omega
  have T : (o : Int).toNat = o := Int.toNat_natCast o
  by_cases hk : gk vs o (E - o) = 0
  · obtain ⟨g0, g1⟩ := eqR0 rfl hk
    refine .inl ⟨g1, ?_⟩
    unfold rG
    rw [jj, T, rok_succ, hk]; rfl
  · obtain ⟨g0, g1⟩ := eqR rfl rfl (beqN_no.2 hk)
    have hle := gk_le vs o (E - o)
    rw [g1, g0]
    refine .inr ⟨by omega, okE_iff.2 ⟨⟨a1, a2, a3⟩, ⟨by omega, by omega⟩, by omega, by omega, c3⟩, ?_, ?_, ?_, jj⟩ <;> (first | unfold rG | unfold rL | unfold rA) <;> rw [jj, T, Int.toNat_natCast]
    · rw [rok_succ, beqN_no.2 hk, notB_f, show E - (o + gk vs o (E - o)) = E - o - gk vs o (E - o) by omega]; rfl
    · rw [rl_succ, show E - (o + gk vs o (E - o)) = E - o - gk vs o (E - o) by omega]
    · rw [ra_succ, show E - (o + gk vs o (E - o)) = E - o - gk vs o (E - o) by omega]
theorem ru_end {vs : List LV} {E : Nat} {N a i : Int} (h : okE vs E N a i = true) (hi : i = N) : rG vs E N a i = true ∧ rL vs E N a i = [] ∧ rA vs E N a i = a ∧ rj N i = 0 := by
  obtain ⟨⟨a1, a2, a3⟩, ⟨b1, b2⟩, _⟩ := okE_iff.1 h
  have jj : rj N i = 0 := by unfold rj; omega
  unfold rG rL rA
  rw [jj]
  refine ⟨rfl, rfl, ?_, rfl⟩
  show (E : Int) - ((E - a.toNat : Nat) : Int) = a
  omega
end S
theorem ruG_run (E m et : Nat) (cp : Cap) (w : Own) (vs ns : List LV) (N a i : Int) : K.RunL2 (envL [(19, rgetE)]) K.openE 30 11 90 (inner (inner (blkOf 11 0))) ruGLB [(6, .slice 0 0 E cp), (7, .int .i64 N), (8, .int .i64 a), (9, .slice 1 0 m (.rest 0)), (10, .int .i64 i)] [.flat [.i .u8] et w vs, .flat [.i .i64] 3 (.grow 1) ns] Hint.auto (notB (ltI i N)) ⟨.exit 0, [(6, .slice 0 0 E cp), (8, .int .i64 a), (9, .slice 1 0 m (.rest 0))], [], []⟩ ⟨.exit 0, [(6, .slice 0 0 E cp), (8, .int .i64 (S.rA vs E N a i)), (9, .slice 2 0 (m + S.rj N i) (.rest 0))], [(1, .dead)], [.flat [.i .i64] 3 (.grow 1) (app ns (S.rL vs E N a i))]⟩ =
    (bc (ltI i N) (bc (S.okR vs E a) (bc (ltI (S.rx vs E a) (0 : Int)) (bc (notB (ltI i N)) False False) (bc (Nat.ble ((0 : Nat) + m) (lenL ns)) (bc (Nat.ble ((m + (1 : Nat)) * (8 : Nat)) (1099511627776 : Nat)) (bc (S.an (Nat.beq (3 : Nat) (3 : Nat)) (S.okBG vs E (m + (1 : Nat)) (app (sub ns (0 : Nat) m) (sub (setMany [LV.int IntKind.i64 (0 : Int)] (0 : Nat) [LV.int IntKind.i64 (S.rv vs E a)]) (0 : Nat) (1 : Nat))) N (S.rx vs E a) (wrapK IntKind.i64 (i + (1 : Int))))) (K.LOk Try.prog 11 90 (inner (inner (blkOf 11 0))) [(6 : Nat), (7 : Nat), (8 : Nat), (9 : Nat), (10 : Nat)] [LV.slice (0 : Nat) (0 : Nat) E cp, LV.int IntKind.i64 N, LV.int IntKind.i64 (S.rx vs E a), LV.slice (1 : Nat) (0 : Nat) (m + (1 : Nat)) (Cap.rest (0 : Nat)), LV.int IntKind.i64 (wrapK IntKind.i64 (i + (1 : Int)))] [LObj.flat [CK.i IntKind.u8] et w vs, LObj.flat [CK.i IntKind.i64] (3 : Nat) (Own.grow (1 : Nat)) (app (sub ns (0 : Nat) m) (sub (setMany [LV.int IntKind.i64 (0 : Int)] (0 : Nat) [LV.int IntKind.i64 (S.rv vs E a)]) (0 : Nat) (1 : Nat)))] { x := LX.exit (0 : Nat), L := [((6 : Nat), LV.slice (0 : Nat) (0 : Nat) E cp), ((8 : Nat), LV.int IntKind.i64 (S.rA vs E N (S.rx vs E a) (wrapK IntKind.i64 (i + (1 : Int))))), ((9 : Nat), LV.slice (2 : Nat) (0 : Nat) (m + (1 : Nat) + S.rj N (wrapK IntKind.i64 (i + (1 : Int)))) (Cap.rest (0 : Nat)))], ch := [((1 : Nat), LObj.dead)], new := [LObj.flat [CK.i IntKind.i64] (3 : TypeId) (Own.grow (1 : Nat)) (app (app (sub ns (0 : Nat) m) (sub (setMany [LV.int IntKind.i64 (0 : Int)] (0 : Nat) [LV.int IntKind.i64 (S.rv vs E a)]) (0 : Nat) (1 : Nat))) (S.rL vs E N (S.rx vs E a) (wrapK IntKind.i64 (i + (1 : Int)))))] } ∧ bc (notB (ltI i N)) False ((0 : Nat) = (0 : Nat) ∧ (E = E ∧ (cp = cp ∧ (S.rA vs E N a i = S.rA vs E N (S.rx vs E a) (wrapK IntKind.i64 (i + (1 : Int))) ∧ ((0 : Nat) = (0 : Nat) ∧ (m + S.rj N i = m + (1 : Nat) + S.rj N (wrapK IntKind.i64 (i + (1 : Int))) ∧ (Cap.rest (0 : Nat) = Cap.rest (0 : Nat) ∧ (app ns (S.rL vs E N a i) = app (app (sub ns (0 : Nat) m) (sub (setMany [LV.int IntKind.i64 (0 : Int)] (0 : Nat) [LV.int IntKind.i64 (S.rv vs E a)]) (0 : Nat) (1 : Nat))) (S.rL vs E N (S.rx vs E a) (wrapK IntKind.i64 (i + (1 : Int)))) ∧ True))))))))) False) False) False)) False) (bc (notB (ltI i N)) ((0 : Nat) = (0 : Nat) ∧ (E = E ∧ (cp = cp ∧ (a = a ∧ ((0 : Nat) = (0 : Nat) ∧ (m = m ∧ (Cap.rest (0 : Nat) = Cap.rest (0 : Nat) ∧ True))))))) False)) := by kernel_rfl
theorem ruG_con (E m et : Nat) (cp : Cap) (w : Own) (vs ns : List LV) (N a i : Int) (hE : S.okE vs E N a i = true) (hM : S.okM m ns N i = true) (hG : S.rG vs E N a i = true) (IH : ∀ (a2 : Int) (m2 : Nat) (ns2 : List LV), i < N → S.okE vs E N a2 (i + 1) = true → S.okM m2 ns2 N (i + 1) = true → S.rG vs E N a2 (i + 1) = true → ruG_T E m2 et cp w vs ns2 N a2 (i + 1)) : GT Try.prog (fun k => .code (inner (inner (blkOf 11 0))) :: .inLoop (inner (inner (blkOf 11 0))) :: k) (Fr.ofL 11 90 [(6, .slice 0 0 E cp), (7, .int .i64 N), (8, .int .i64 a), (9, .slice 1 0 m (.rest 0)), (10, .int .i64 i)] [] none) (Heap.of [.flat [.i .u8] et w vs, .flat [.i .i64] 3 (.grow 1) ns]) ((bc (notB (ltI i N)) ⟨.exit 0, [(6, .slice 0 0 E cp), (8, .int .i64 a), (9, .slice 1 0 m (.rest 0))], [], []⟩ ⟨.exit 0, [(6, .slice 0 0 E cp), (8, .int .i64 (S.rA vs E N a i)), (9, .slice 2 0 (m + S.rj N i) (.rest 0))], [(1, .dead)], [.flat [.i .i64] 3 (.grow 1) (app ns (S.rL vs E N a i))]⟩) : K.BRes).x (Fr.ofL 11 90 ((bc (notB (ltI i N)) ⟨.exit 0, [(6, .slice 0 0 E cp), (8, .int .i64 a), (9, .slice 1 0 m (.rest 0))], [], []⟩ ⟨.exit 0, [(6, .slice 0 0 E cp), (8, .int .i64 (S.rA vs E N a i)), (9, .slice 2 0 (m + S.rj N i) (.rest 0))], [(1, .dead)], [.flat [.i .i64] 3 (.grow 1) (app ns (S.rL vs E N a i))]⟩) : K.BRes).L [] none) (Heap.of (K.chg [.flat [.i .u8] et w vs, .flat [.i .i64] 3 (.grow 1) ns] ((bc (notB (ltI i N)) ⟨.exit 0, [(6, .slice 0 0 E cp), (8, .int .i64 a), (9, .slice 1 0 m (.rest 0))], [], []⟩ ⟨.exit 0, [(6, .slice 0 0 E cp), (8, .int .i64 (S.rA vs E N a i)), (9, .slice 2 0 (m + S.rj N i) (.rest 0))], [(1, .dead)], [.flat [.i .i64] 3 (.grow 1) (app ns (S.rL vs E N a i))]⟩) : K.BRes).ch ++ ((bc (notB (ltI i N)) ⟨.exit 0, [(6, .slice 0 0 E cp), (8, .int .i64 a), (9, .slice 1 0 m (.rest 0))], [], []⟩ ⟨.exit 0, [(6, .slice 0 0 E cp), (8, .int .i64 (S.rA vs E N a i)), (9, .slice 2 0 (m + S.rj N i) (.rest 0))], [(1, .dead)], [.flat [.i .i64] 3 (.grow 1) (app ns (S.rL vs E N a i))]⟩) : K.BRes).new)) := by
  have hr := cast (ruG_run E m et cp w vs ns N a i).symm (by
    have hR := S.okE_R hE
    obtain ⟨⟨a1, a2, a3⟩, ⟨b1, b2⟩, c1, c2, c3⟩ := S.okE_iff.1 hE
    have w1 : wrapK .i64 (i + 1) = i + 1 := by rw [wrapK_i64]; omega
    have e3 : Nat.beq 3 3 = true := rfl
    have at2 : S.an true true = true := rfl
    obtain ⟨hM1, hM2⟩ := S.okM_iff.1 hM
    by_cases hi : i < N
    · have e1 : ltI i N = true := ltI_true.2 hi
      rcases S.ru_step hE hi with ⟨g0, g1⟩ | ⟨g0, g1, g2, g3, g4, g5⟩
      · rw [g1] at hG; cases hG
      · have e2 : ltI (S.rx vs E a) 0 = false := ltI_false.2 g0
        rw [g2] at hG
        have b4 : ((0 : Nat) + m).ble (lenL ns) = true := S.bleN_iff.2 (by rw [hM1]; omega)
        have b5 : ((m + 1) * 8).ble 1099511627776 = true := S.bleN_iff.2 (by omega)
        have so : ∀ x : LV, sub (setMany [.int .i64 0] 0 [x]) 0 1 = [x] := fun _ => rfl
        have sa := S.sub_all hM1
        have hM2 : S.okM (m + 1) (app ns [.int .i64 (S.rv vs E a)]) N (i + 1) = true := S.okM_iff.2 ⟨by rw [S.lenL_app, hM1]; rfl, by omega⟩
        have ih := IH (S.rx vs E a) (m + 1) (app ns [.int .i64 (S.rv vs E a)]) hi g1 hM2 hG
        have ok : S.okBG vs E (m + 1) (app ns [.int .i64 (S.rv vs E a)]) N (S.rx vs E a) (i + 1) = true := S.an_iff.2 ⟨g1, S.an_iff.2 ⟨hM2, hG⟩⟩
        simp only [e1, hR, e2, b4, b5, so, sa, w1, e3, at2, ok, notB_t, notB_f, bc_true, bc_false]
        refine ⟨ih, ?_⟩
        clear ih
        rw [g3, g4, g5]
        simp only [S.app_app, S.app_cons, S.app_nil, and_true, true_and]
        omega
    · have e1 : ltI i N = false := ltI_false.2 (by omega)
      simp only [e1, notB_f, bc_true, bc_false]
      simp)
  obtain ⟨q1, q2⟩ := K.RunL2.one hr
  cases hb : notB (ltI i N)
  · exact K.loop_of_run good (envL_ok (fun p hp => by simp only [List.mem_cons, List.not_mem_nil, or_false] at hp; rcases hp with rfl <;> first | exact rget_ok)) K.openE_ok (q2 hb)
  · exact K.loop_of_run good (envL_ok (fun p hp => by simp only [List.mem_cons, List.not_mem_nil, or_false] at hp; rcases hp with rfl <;> first | exact rget_ok)) K.openE_ok (q1 hb)
theorem ruB_run (E m et : Nat) (cp : Cap) (w : Own) (vs ns : List LV) (N a i : Int) : K.RunL (envL [(19, rgetE)]) K.openE 30 11 90 (inner (inner (blkOf 11 0))) ruBLB [(6, .slice 0 0 E cp), (7, .int .i64 N), (8, .int .i64 a), (9, .slice 1 0 m (.rest 0)), (10, .int .i64 i)] [.flat [.i .u8] et w vs, .flat [.i .i64] 3 (.grow 1) ns] Hint.auto ⟨.ret, [(2, .nils), (3, .int .i64 9)], [(1, .dead)], []⟩ =
    (bc (ltI i N) (bc (S.okR vs E a) (bc (ltI (S.rx vs E a) (0 : Int)) ((9 : Int) = (9 : Int) ∧ True) (bc (Nat.ble ((0 : Nat) + m) (lenL ns)) (bc (Nat.ble ((m + (1 : Nat)) * (8 : Nat)) (1099511627776 : Nat)) (bc (S.an (Nat.beq (3 : Nat) (3 : Nat)) (S.okBB vs E (m + (1 : Nat)) (app (sub ns (0 : Nat) m) (sub (setMany [LV.int IntKind.i64 (0 : Int)] (0 : Nat) [LV.int IntKind.i64 (S.rv vs E a)]) (0 : Nat) (1 : Nat))) N (S.rx vs E a) (wrapK IntKind.i64 (i + (1 : Int))))) (K.LOk Try.prog 11 90 (inner (inner (blkOf 11 0))) [(6 : Nat), (7 : Nat), (8 : Nat), (9 : Nat), (10 : Nat)] [LV.slice (0 : Nat) (0 : Nat) E cp, LV.int IntKind.i64 N, LV.int IntKind.i64 (S.rx vs E a), LV.slice (1 : Nat) (0 : Nat) (m + (1 : Nat)) (Cap.rest (0 : Nat)), LV.int IntKind.i64 (wrapK IntKind.i64 (i + (1 : Int)))] [LObj.flat [CK.i IntKind.u8] et w vs, LObj.flat [CK.i IntKind.i64] (3 : Nat) (Own.grow (1 : Nat)) (app (sub ns (0 : Nat) m) (sub (setMany [LV.int IntKind.i64 (0 : Int)] (0 : Nat) [LV.int IntKind.i64 (S.rv vs E a)]) (0 : Nat) (1 : Nat)))] { x := LX.ret, L := [((2 : Nat), LV.nils), ((3 : Nat), LV.int IntKind.i64 (9 : Int))], ch := [((1 : Nat), LObj.dead)], new := [] } ∧ ((9 : Int) = (9 : Int) ∧ True)) False) False) False)) False) False) := by kernel_rfl
theorem ruB_con (E m et : Nat) (cp : Cap) (w : Own) (vs ns : List LV) (N a i : Int) (hE : S.okE vs E N a i = true) (hM : S.okM m ns N i = true) (hG : S.rG vs E N a i = false) (IH : ∀ (a2 : Int) (m2 : Nat) (ns2 : List LV), i < N → S.okE vs E N a2 (i + 1) = true → S.okM m2 ns2 N (i + 1) = true → S.rG vs E N a2 (i + 1) = false → ruB_T E m2 et cp w vs ns2 N a2 (i + 1)) : GT Try.prog (fun k => .code (inner (inner (blkOf 11 0))) :: .inLoop (inner (inner (blkOf 11 0))) :: k) (Fr.ofL 11 90 [(6, .slice 0 0 E cp), (7, .int .i64 N), (8, .int .i64 a), (9, .slice 1 0 m (.rest 0)), (10, .int .i64 i)] [] none) (Heap.of [.flat [.i .u8] et w vs, .flat [.i .i64] 3 (.grow 1) ns]) (⟨.ret, [(2, .nils), (3, .int .i64 9)], [(1, .dead)], []⟩ : K.BRes).x (Fr.ofL 11 90 (⟨.ret, [(2, .nils), (3, .int .i64 9)], [(1, .dead)], []⟩ : K.BRes).L [] none) (Heap.of (K.chg [.flat [.i .u8] et w vs, .flat [.i .i64] 3 (.grow 1) ns] (⟨.ret, [(2, .nils), (3, .int .i64 9)], [(1, .dead)], []⟩ : K.BRes).ch ++ (⟨.ret, [(2, .nils), (3, .int .i64 9)], [(1, .dead)], []⟩ : K.BRes).new)) := by
  refine K.loop_of_run good (A := envL [(19, rgetE)]) (envL_ok ?_) K.openE_ok (k := 30) (ent := ruBLB) (cast (ruB_run E m et cp w vs ns N a i).symm ?_)
  · intro p hp; simp only [List.mem_cons, List.not_mem_nil, or_false] at hp; rcases hp with rfl <;> first | exact rget_ok
  · have hR := S.okE_R hE
    obtain ⟨⟨a1, a2, a3⟩, ⟨b1, b2⟩, c1, c2, c3⟩ := S.okE_iff.1 hE
    have w1 : wrapK .i64 (i + 1) = i + 1 := by rw [wrapK_i64]; omega
    have e3 : Nat.beq 3 3 = true := rfl
    have at2 : S.an true true = true := rfl
    obtain ⟨hM1, hM2⟩ := S.okM_iff.1 hM
    by_cases hi : i < N
    · have e1 : ltI i N = true := ltI_true.2 hi
      rcases S.ru_step hE hi with ⟨g0, g1⟩ | ⟨g0, g1, g2, g3, g4, g5⟩
      · have e2 : ltI (-1 : Int) 0 = true := rfl
        simp only [e1, hR, g0, e2, bc_true, bc_false]
        simp
      · have e2 : ltI (S.rx vs E a) 0 = false := ltI_false.2 g0
        rw [g2] at hG
        have b4 : ((0 : Nat) + m).ble (lenL ns) = true := S.bleN_iff.2 (by rw [hM1]; omega)
        have b5 : ((m + 1) * 8).ble 1099511627776 = true := S.bleN_iff.2 (by omega)
        have so : ∀ x : LV, sub (setMany [.int .i64 0] 0 [x]) 0 1 = [x] := fun _ => rfl
        have sa := S.sub_all hM1
        have hM2 : S.okM (m + 1) (app ns [.int .i64 (S.rv vs E a)]) N (i + 1) = true := S.okM_iff.2 ⟨by rw [S.lenL_app, hM1]; rfl, by omega⟩
        have ih := IH (S.rx vs E a) (m + 1) (app ns [.int .i64 (S.rv vs E a)]) hi g1 hM2 hG
        have ok : S.okBB vs E (m + 1) (app ns [.int .i64 (S.rv vs E a)]) N (S.rx vs E a) (i + 1) = true := S.an_iff.2 ⟨g1, S.an_iff.2 ⟨hM2, by rw [hG]; rfl⟩⟩
        simp only [e1, hR, e2, b4, b5, so, sa, w1, e3, at2, ok, notB_t, notB_f, bc_true, bc_false]
        refine ⟨ih, ?_⟩
        clear ih
        simp
    · have e1 : ltI i N = false := ltI_false.2 (by omega)
      rw [(S.ru_end hE (by omega)).1] at hG; cases hG
theorem ruGA_run (E et : Nat) (cp : Cap) (w : Own) (vs : List LV) (N a : Int) (i : Int) : K.RunL (envL [(19, rgetE)]) K.openE 30 11 90 (inner (inner (blkOf 11 0))) ruGLB [(6, .slice 0 0 E cp), (7, .int .i64 N), (8, .int .i64 a), (9, .nils), (10, .int .i64 i)] [.flat [.i .u8] et w vs] Hint.auto ⟨.exit 0, [(6, .slice 0 0 E cp), (8, .int .i64 (S.rA vs E N a i)), (9, .slice 1 0 (S.rj N i) (.rest 0))], [], [.flat [.i .i64] 3 (.grow 1) (S.rL vs E N a i)]⟩ =
    (bc (ltI i N) (bc (S.okR vs E a) (bc (ltI (S.rx vs E a) (0 : Int)) False (bc (S.an (Nat.beq (3 : Nat) (3 : Nat)) (S.okBG vs E (1 : Nat) [LV.int IntKind.i64 (S.rv vs E a)] N (S.rx vs E a) (wrapK IntKind.i64 (i + (1 : Int))))) (K.LOk Try.prog 11 90 (inner (inner (blkOf 11 0))) [(6 : Nat), (7 : Nat), (8 : Nat), (9 : Nat), (10 : Nat)] [LV.slice (0 : Nat) (0 : Nat) E cp, LV.int IntKind.i64 N, LV.int IntKind.i64 (S.rx vs E a), LV.slice (1 : Nat) (0 : Nat) (1 : Nat) (Cap.rest (0 : Nat)), LV.int IntKind.i64 (wrapK IntKind.i64 (i + (1 : Int)))] [LObj.flat [CK.i IntKind.u8] et w vs, LObj.flat [CK.i IntKind.i64] (3 : Nat) (Own.grow (1 : Nat)) [LV.int IntKind.i64 (S.rv vs E a)]] { x := LX.exit (0 : Nat), L := [((6 : Nat), LV.slice (0 : Nat) (0 : Nat) E cp), ((8 : Nat), LV.int IntKind.i64 (S.rA vs E N (S.rx vs E a) (wrapK IntKind.i64 (i + (1 : Int))))), ((9 : Nat), LV.slice (2 : Nat) (0 : Nat) ((1 : Nat) + S.rj N (wrapK IntKind.i64 (i + (1 : Int)))) (Cap.rest (0 : Nat)))], ch := [((1 : Nat), LObj.dead)], new := [LObj.flat [CK.i IntKind.i64] (3 : TypeId) (Own.grow (1 : Nat)) (app [LV.int IntKind.i64 (S.rv vs E a)] (S.rL vs E N (S.rx vs E a) (wrapK IntKind.i64 (i + (1 : Int)))))] } ∧ ((0 : Nat) = (0 : Nat) ∧ (E = E ∧ (cp = cp ∧ (S.rA vs E N a i = S.rA vs E N (S.rx vs E a) (wrapK IntKind.i64 (i + (1 : Int))) ∧ ((0 : Nat) = (0 : Nat) ∧ (S.rj N i = (1 : Nat) + S.rj N (wrapK IntKind.i64 (i + (1 : Int))) ∧ (Cap.rest (0 : Nat) = Cap.rest (0 : Nat) ∧ (S.rL vs E N a i = app [LV.int IntKind.i64 (S.rv vs E a)] (S.rL vs E N (S.rx vs E a) (wrapK IntKind.i64 (i + (1 : Int)))) ∧ True))))))))) False)) False) False) := by kernel_rfl
theorem ruGA_con (E et : Nat) (cp : Cap) (w : Own) (vs : List LV) (N a : Int) (i : Int) (hE : S.okE vs E N a i = true) (hlt : i < N) (hG : S.rG vs E N a i = true) (IH : ∀ (a2 : Int) (m2 : Nat) (ns2 : List LV), i < N → S.okE vs E N a2 (i + 1) = true → S.okM m2 ns2 N (i + 1) = true → S.rG vs E N a2 (i + 1) = true → ruG_T E m2 et cp w vs ns2 N a2 (i + 1)) : GT Try.prog (fun k => .code (inner (inner (blkOf 11 0))) :: .inLoop (inner (inner (blkOf 11 0))) :: k) (Fr.ofL 11 90 [(6, .slice 0 0 E cp), (7, .int .i64 N), (8, .int .i64 a), (9, .nils), (10, .int .i64 i)] [] none) (Heap.of [.flat [.i .u8] et w vs]) (⟨.exit 0, [(6, .slice 0 0 E cp), (8, .int .i64 (S.rA vs E N a i)), (9, .slice 1 0 (S.rj N i) (.rest 0))], [], [.flat [.i .i64] 3 (.grow 1) (S.rL vs E N a i)]⟩ : K.BRes).x (Fr.ofL 11 90 (⟨.exit 0, [(6, .slice 0 0 E cp), (8, .int .i64 (S.rA vs E N a i)), (9, .slice 1 0 (S.rj N i) (.rest 0))], [], [.flat [.i .i64] 3 (.grow 1) (S.rL vs E N a i)]⟩ : K.BRes).L [] none) (Heap.of (K.chg [.flat [.i .u8] et w vs] (⟨.exit 0, [(6, .slice 0 0 E cp), (8, .int .i64 (S.rA vs E N a i)), (9, .slice 1 0 (S.rj N i) (.rest 0))], [], [.flat [.i .i64] 3 (.grow 1) (S.rL vs E N a i)]⟩ : K.BRes).ch ++ (⟨.exit 0, [(6, .slice 0 0 E cp), (8, .int .i64 (S.rA vs E N a i)), (9, .slice 1 0 (S.rj N i) (.rest 0))], [], [.flat [.i .i64] 3 (.grow 1) (S.rL vs E N a i)]⟩ : K.BRes).new)) := by
  refine K.loop_of_run good (A := envL [(19, rgetE)]) (envL_ok ?_) K.openE_ok (k := 30) (ent := ruGLB) (cast (ruGA_run E et cp w vs N a i).symm ?_)
  · intro p hp; simp only [List.mem_cons, List.not_mem_nil, or_false] at hp; rcases hp with rfl <;> first | exact rget_ok
  · have hR := S.okE_R hE
    obtain ⟨⟨a1, a2, a3⟩, ⟨b1, b2⟩, c1, c2, c3⟩ := S.okE_iff.1 hE
    have w1 : wrapK .i64 (i + 1) = i + 1 := by rw [wrapK_i64]; omega
    have e3 : Nat.beq 3 3 = true := rfl
    have at2 : S.an true true = true := rfl
    by_cases hi : i < N
    · have e1 : ltI i N = true := ltI_true.2 hi
      rcases S.ru_step hE hi with ⟨g0, g1⟩ | ⟨g0, g1, g2, g3, g4, g5⟩
      · rw [g1] at hG; cases hG
      · have e2 : ltI (S.rx vs E a) 0 = false := ltI_false.2 g0
        rw [g2] at hG
        have hM2 : S.okM 1 ([.int .i64 (S.rv vs E a)] : List LV) N (i + 1) = true := S.okM_iff.2 ⟨by rfl, by unfold S.rj; omega⟩
        have ih := IH (S.rx vs E a) 1 ([.int .i64 (S.rv vs E a)] : List LV) hi g1 hM2 hG
        have ok : S.okBG vs E 1 ([.int .i64 (S.rv vs E a)] : List LV) N (S.rx vs E a) (i + 1) = true := S.an_iff.2 ⟨g1, S.an_iff.2 ⟨hM2, hG⟩⟩
        simp only [e1, hR, e2, w1, e3, at2, ok, notB_t, notB_f, bc_true, bc_false]
        refine ⟨ih, ?_⟩
        clear ih
        rw [g3, g4, g5]
        simp only [S.app_app, S.app_cons, S.app_nil, and_true, true_and]
        omega
    · have e1 : ltI i N = false := ltI_false.2 (by omega)
      exact absurd hlt hi
theorem ruBA_run (E et : Nat) (cp : Cap) (w : Own) (vs : List LV) (N a : Int) (i : Int) : K.RunL (envL [(19, rgetE)]) K.openE 30 11 90 (inner (inner (blkOf 11 0))) ruBLB [(6, .slice 0 0 E cp), (7, .int .i64 N), (8, .int .i64 a), (9, .nils), (10, .int .i64 i)] [.flat [.i .u8] et w vs] Hint.auto ⟨.ret, [(2, .nils), (3, .int .i64 9)], [], []⟩ =
    (bc (ltI i N) (bc (S.okR vs E a) (bc (ltI (S.rx vs E a) (0 : Int)) ((9 : Int) = (9 : Int) ∧ True) (bc (S.an (Nat.beq (3 : Nat) (3 : Nat)) (S.okBB vs E (1 : Nat) [LV.int IntKind.i64 (S.rv vs E a)] N (S.rx vs E a) (wrapK IntKind.i64 (i + (1 : Int))))) (K.LOk Try.prog 11 90 (inner (inner (blkOf 11 0))) [(6 : Nat), (7 : Nat), (8 : Nat), (9 : Nat), (10 : Nat)] [LV.slice (0 : Nat) (0 : Nat) E cp, LV.int IntKind.i64 N, LV.int IntKind.i64 (S.rx vs E a), LV.slice (1 : Nat) (0 : Nat) (1 : Nat) (Cap.rest (0 : Nat)), LV.int IntKind.i64 (wrapK IntKind.i64 (i + (1 : Int)))] [LObj.flat [CK.i IntKind.u8] et w vs, LObj.flat [CK.i IntKind.i64] (3 : Nat) (Own.grow (1 : Nat)) [LV.int IntKind.i64 (S.rv vs E a)]] { x := LX.ret, L := [((2 : Nat), LV.nils), ((3 : Nat), LV.int IntKind.i64 (9 : Int))], ch := [((1 : Nat), LObj.dead)], new := [] } ∧ ((9 : Int) = (9 : Int) ∧ True)) False)) False) False) := by kernel_rfl
theorem ruBA_con (E et : Nat) (cp : Cap) (w : Own) (vs : List LV) (N a : Int) (i : Int) (hE : S.okE vs E N a i = true) (hG : S.rG vs E N a i = false) (IH : ∀ (a2 : Int) (m2 : Nat) (ns2 : List LV), i < N → S.okE vs E N a2 (i + 1) = true → S.okM m2 ns2 N (i + 1) = true → S.rG vs E N a2 (i + 1) = false → ruB_T E m2 et cp w vs ns2 N a2 (i + 1)) : GT Try.prog (fun k => .code (inner (inner (blkOf 11 0))) :: .inLoop (inner (inner (blkOf 11 0))) :: k) (Fr.ofL 11 90 [(6, .slice 0 0 E cp), (7, .int .i64 N), (8, .int .i64 a), (9, .nils), (10, .int .i64 i)] [] none) (Heap.of [.flat [.i .u8] et w vs]) (⟨.ret, [(2, .nils), (3, .int .i64 9)], [], []⟩ : K.BRes).x (Fr.ofL 11 90 (⟨.ret, [(2, .nils), (3, .int .i64 9)], [], []⟩ : K.BRes).L [] none) (Heap.of (K.chg [.flat [.i .u8] et w vs] (⟨.ret, [(2, .nils), (3, .int .i64 9)], [], []⟩ : K.BRes).ch ++ (⟨.ret, [(2, .nils), (3, .int .i64 9)], [], []⟩ : K.BRes).new)) := by
  refine K.loop_of_run good (A := envL [(19, rgetE)]) (envL_ok ?_) K.openE_ok (k := 30) (ent := ruBLB) (cast (ruBA_run E et cp w vs N a i).symm ?_)
  · intro p hp; simp only [List.mem_cons, List.not_mem_nil, or_false] at hp; rcases hp with rfl <;> first | exact rget_ok
  · have hR := S.okE_R hE
    obtain ⟨⟨a1, a2, a3⟩, ⟨b1, b2⟩, c1, c2, c3⟩ := S.okE_iff.1 hE
    have w1 : wrapK .i64 (i + 1) = i + 1 := by rw [wrapK_i64]; omega
    have e3 : Nat.beq 3 3 = true := rfl
    have at2 : S.an true true = true := rfl
    by_cases hi : i < N
    · have e1 : ltI i N = true := ltI_true.2 hi
      rcases S.ru_step hE hi with ⟨g0, g1⟩ | ⟨g0, g1, g2, g3, g4, g5⟩
      · have e2 : ltI (-1 : Int) 0 = true := rfl
        simp only [e1, hR, g0, e2, bc_true, bc_false]
        simp
      · have e2 : ltI (S.rx vs E a) 0 = false := ltI_false.2 g0
        rw [g2] at hG
        have hM2 : S.okM 1 ([.int .i64 (S.rv vs E a)] : List LV) N (i + 1) = true := S.okM_iff.2 ⟨by rfl, by unfold S.rj; omega⟩
        have ih := IH (S.rx vs E a) 1 ([.int .i64 (S.rv vs E a)] : List LV) hi g1 hM2 hG
        have ok : S.okBB vs E 1 ([.int .i64 (S.rv vs E a)] : List LV) N (S.rx vs E a) (i + 1) = true := S.an_iff.2 ⟨g1, S.an_iff.2 ⟨hM2, by rw [hG]; rfl⟩⟩
        simp only [e1, hR, e2, w1, e3, at2, ok, notB_t, notB_f, bc_true, bc_false]
        refine ⟨ih, ?_⟩
        clear ih
        simp
    · have e1 : ltI i N = false := ltI_false.2 (by omega)
      rw [(S.ru_end hE (by omega)).1] at hG; cases hG
theorem ruZA_run (E et : Nat) (cp : Cap) (w : Own) (vs : List LV) (N a : Int) (i : Int) : K.RunL (envL [(19, rgetE)]) K.openE 30 11 90 (inner (inner (blkOf 11 0))) ruGLB [(6, .slice 0 0 E cp), (7, .int .i64 N), (8, .int .i64 a), (9, .nils), (10, .int .i64 i)] [.flat [.i .u8] et w vs] (.take false .auto) ⟨.exit 0, [(6, .slice 0 0 E cp), (8, .int .i64 a), (9, .nils)], [], []⟩ =
    ((ltI i N = false ∧ ((0 : Nat) = (0 : Nat) ∧ (E = E ∧ (cp = cp ∧ (a = a ∧ True)))))) := by kernel_rfl
theorem ruZA_con (E et : Nat) (cp : Cap) (w : Own) (vs : List LV) (N a : Int) (i : Int) (hi : N ≤ i) : GT Try.prog (fun k => .code (inner (inner (blkOf 11 0))) :: .inLoop (inner (inner (blkOf 11 0))) :: k) (Fr.ofL 11 90 [(6, .slice 0 0 E cp), (7, .int .i64 N), (8, .int .i64 a), (9, .nils), (10, .int .i64 i)] [] none) (Heap.of [.flat [.i .u8] et w vs]) (⟨.exit 0, [(6, .slice 0 0 E cp), (8, .int .i64 a), (9, .nils)], [], []⟩ : K.BRes).x (Fr.ofL 11 90 (⟨.exit 0, [(6, .slice 0 0 E cp), (8, .int .i64 a), (9, .nils)], [], []⟩ : K.BRes).L [] none) (Heap.of (K.chg [.flat [.i .u8] et w vs] (⟨.exit 0, [(6, .slice 0 0 E cp), (8, .int .i64 a), (9, .nils)], [], []⟩ : K.BRes).ch ++ (⟨.exit 0, [(6, .slice 0 0 E cp), (8, .int .i64 a), (9, .nils)], [], []⟩ : K.BRes).new)) := by
  refine K.loop_of_run good (A := envL [(19, rgetE)]) (envL_ok ?_) K.openE_ok (k := 30) (ent := ruGLB) (cast (ruZA_run E et cp w vs N a i).symm ?_)
  · intro p hp; simp only [List.mem_cons, List.not_mem_nil, or_false] at hp; rcases hp with rfl <;> first | exact rget_ok
  · have e1 : ltI i N = false := ltI_false.2 hi
    simp only [e1, bc_false]
    simp
theorem ruG_lok (E et : Nat) (cp : Cap) (w : Own) (vs : List LV) (N : Int) : ∀ (j : Nat) (m : Nat) (ns : List LV) (a i : Int), S.okE vs E N a i = true → S.okM m ns N i = true → S.rG vs E N a i = true → S.rj N i = j → ruG_T E m et cp w vs ns N a i := by
  intro j
  induction j with
  | zero =>
    intro m ns a i hE hM hG hj
    obtain ⟨_, _, c1, c2, c3⟩ := S.okE_iff.1 hE
    have hi : i = N := by unfold S.rj at hj; omega
    obtain ⟨_, e1, e2, e3⟩ := S.ru_end hE hi
    have h := ruG_con E m et cp w vs ns N a i hE hM hG fun a2 m2 ns2 hlt _ _ _ => by omega
    have hb : notB (ltI i N) = true := by rw [ltI_false.2 (by omega)]; rfl
    rw [hb] at h
    unfold ruG_T
    rw [e1, e2, e3, K.app_eq, List.append_nil, Nat.add_zero]
    have h : K.LOk Try.prog 11 90 (inner (inner (blkOf 11 0))) [6, 7, 8, 9, 10] [.slice 0 0 E cp, .int .i64 N, .int .i64 a, .slice 1 0 m (.rest 0), .int .i64 i] [.flat [.i .u8] et w vs, .flat [.i .i64] 3 (.grow 1) ns] ⟨.exit 0, [(6, .slice 0 0 E cp), (8, .int .i64 a), (9, .slice 1 0 m (.rest 0))], [], []⟩ := h
    have hg : ∀ k v, (Fr.ofL 11 90 [(6, .slice 0 0 E cp), (8, .int .i64 a), (9, .slice 1 0 m (.rest 0))] [] none).get k = v → (Fr.ofL 11 90 [(6, .slice 0 0 E cp), (8, .int .i64 a), (9, .slice 1 0 m (.rest 0))] [] none).get k = v := fun _ _ h => h
    have g6 := hg 6 (.slice 0 0 E cp) (by kernel_rfl)
    have g8 := hg 8 (.int .i64 a) (by kernel_rfl)
    have g9 := hg 9 (.slice 1 0 m (.rest 0)) (by kernel_rfl)
    refine K.LOk.mv (L1 := [(6, .slice 0 0 E cp), (8, .int .i64 a), (9, .slice 2 0 m (.rest 0))]) (j := 1) (o := .flat [.i .i64] 3 (.grow 1) ns) h rfl (fun v hv => by cases hv) ⟨?_, ?_, ?_, trivial⟩ ⟨?_, ?_, ?_, trivial⟩
    · show sameV (at_ (K.mvl 2 1)) (.slice 0 0 E cp) _
      rw [g6]; simp only [sameV]; repeat' (first | exact rfl | exact trivial | constructor)
    · show sameV (at_ (K.mvl 2 1)) (.int .i64 a) _
      rw [g8]; simp only [sameV]; repeat' (first | exact rfl | exact trivial | constructor)
    · show sameV (at_ (K.mvl 2 1)) (.slice 2 0 m (.rest 0)) _
      rw [g9]; simp only [sameV]; repeat' (first | exact rfl | exact trivial | constructor)
    · show lt 3 (.slice 0 0 E cp); simp [lt]
    · show lt 3 (.int .i64 a); simp [lt]
    · show lt 3 (.slice 2 0 m (.rest 0)); simp [lt]
  | succ j ih =>
    intro m ns a i hE hM hG hj
    have hi : i < N := by unfold S.rj at hj; omega
    have h := ruG_con E m et cp w vs ns N a i hE hM hG fun a2 m2 ns2 _ p q r => ih m2 ns2 a2 (i + 1) p q r (by unfold S.rj at hj ⊢; omega)
    rw [show notB (ltI i N) = false by rw [ltI_true.2 hi]; rfl] at h
    exact h
theorem ruB_lok (E et : Nat) (cp : Cap) (w : Own) (vs : List LV) (N : Int) : ∀ (j : Nat) (m : Nat) (ns : List LV) (a i : Int), S.okE vs E N a i = true → S.okM m ns N i = true → S.rG vs E N a i = false → S.rj N i = j → ruB_T E m et cp w vs ns N a i := by
  intro j
  induction j with
  | zero =>
    intro m ns a i hE hM hG hj
    obtain ⟨_, _, c1, c2, c3⟩ := S.okE_iff.1 hE
    have hi : i = N := by unfold S.rj at hj; omega
    rw [(S.ru_end hE hi).1] at hG; cases hG
  | succ j ih =>
    intro m ns a i hE hM hG hj
    have hi : i < N := by unfold S.rj at hj; omega
    have h := ruB_con E m et cp w vs ns N a i hE hM hG fun a2 m2 ns2 _ p q r => ih m2 ns2 a2 (i + 1) p q r (by unfold S.rj at hj ⊢; omega)
    exact h
theorem ru_hb : blkOf 11 0 = .block 0 (.loop (inner (inner (blkOf 11 0)))) := by kernel_rfl
theorem ruX_blk (E et : Nat) (cp : Cap) (w : Own) (vs : List LV) (N a : Int) (i : Int) (hE : S.okE vs E N a i = true) (hlt : i < N) (hG : S.rG vs E N a i = true) : K.BOk Try.prog 11 90 (blkOf 11 0) [6, 7, 8, 9, 10] [.slice 0 0 E cp, .int .i64 N, .int .i64 a, .nils, .int .i64 i] [.flat [.i .u8] et w vs] ⟨.normal, [(6, .slice 0 0 E cp), (8, .int .i64 (S.rA vs E N a i)), (9, .slice 1 0 (S.rj N i) (.rest 0))], [], [.flat [.i .i64] 3 (.grow 1) (S.rL vs E N a i)]⟩ := by
  unfold K.BOk
  rw [ru_hb]
  exact K.CT.block (K.GT.loop (ruGA_con E et cp w vs N a i hE hlt hG fun a2 m2 ns2 _ p q r => ruG_lok E et cp w vs N _ m2 ns2 a2 (i + 1) p q r rfl))
theorem ruY_blk (E et : Nat) (cp : Cap) (w : Own) (vs : List LV) (N a : Int) (i : Int) (hE : S.okE vs E N a i = true) (hG : S.rG vs E N a i = false) : K.BOk Try.prog 11 90 (blkOf 11 0) [6, 7, 8, 9, 10] [.slice 0 0 E cp, .int .i64 N, .int .i64 a, .nils, .int .i64 i] [.flat [.i .u8] et w vs] ⟨.ret, [(2, .nils), (3, .int .i64 9)], [], []⟩ := by
  unfold K.BOk
  rw [ru_hb]
  exact K.CT.blockRet (K.GT.loop (ruBA_con E et cp w vs N a i hE hG fun a2 m2 ns2 _ p q r => ruB_lok E et cp w vs N _ m2 ns2 a2 (i + 1) p q r rfl))
theorem ruZ_blk (E et : Nat) (cp : Cap) (w : Own) (vs : List LV) (N a : Int) (i : Int) (hi : N ≤ i) : K.BOk Try.prog 11 90 (blkOf 11 0) [6, 7, 8, 9, 10] [.slice 0 0 E cp, .int .i64 N, .int .i64 a, .nils, .int .i64 i] [.flat [.i .u8] et w vs] ⟨.normal, [(6, .slice 0 0 E cp), (8, .int .i64 a), (9, .nils)], [], []⟩ := by
  unfold K.BOk
  rw [ru_hb]
  exact K.CT.block (K.GT.loop (ruZA_con E et cp w vs N a i hi))
end Go.Proofs.Ytogngajglbgjmaa.Ev
