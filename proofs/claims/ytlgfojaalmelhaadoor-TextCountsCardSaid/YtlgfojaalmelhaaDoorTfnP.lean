/- Contracts, proved: Tfn. -/
import Derived.Test.YtlgfojaalmelhaaDoorTfnD
import Derived.Test.YtlgfojaalmelhaaDoorTofP
namespace Go.Proofs.YtlgfojaalmelhaaDoor.Ev
open Go
set_option linter.unusedVariables false
set_option linter.unusedSimpArgs false
set_option maxRecDepth 100000
set_option maxHeartbeats 1000000
namespace S
theorem rem6_succ {i : Int} (h : i < 256) : rem6 i = rem6 (i + 1) + 1 := by unfold rem6; omega
theorem rem6_end {i : Int} (h : 256 ≤ i) : rem6 i = 0 := by unfold rem6; omega
theorem hit_at {s : List UInt8} {k i : Int} (h : i < 256) : hit s k (rem6 i) i = bc (and2 (mt s k i) (kn i)) true (hit s k (rem6 (i + 1)) (i + 1)) := by rw [rem6_succ h]; rfl
theorem hitI_at {s : List UInt8} {k i : Int} (h : i < 256) : hitI s k (rem6 i) i = bc (and2 (mt s k i) (kn i)) i (hitI s k (rem6 (i + 1)) (i + 1)) := by rw [rem6_succ h]; rfl
theorem scH_at {s : List UInt8} {k i : Int} {b : Bool} (h : i < 256) : scH s k (rem6 i) i b = scH s k (rem6 (i + 1)) (i + 1) (bc (mt s k i) true b) := by rw [rem6_succ h]; rfl
theorem scF_at {s : List UInt8} {k i f : Int} {b : Bool} (h : i < 256) : scF s k (rem6 i) i b f = scF s k (rem6 (i + 1)) (i + 1) (bc (mt s k i) true b) (bc (mt s k i) (bc b f i) f) := by rw [rem6_succ h]; rfl
theorem okG_0x : okG 0 tabV 1 = true := by kernel_rfl
end S
theorem fmR_run (m k i x : Int) (b : Bool) (s : List UInt8) : K.RunL (envK [(21, cofE)] (fun g id => none) (fun g i => bc (Nat.beq g 54) (hasN [2, 3, 4, 5, 6, 7] i) (true))) K.openE 30 65 15 (inner (inner (blkOf 65 0))) fnMB [(0, .func (.yield 0) [] []), (3, .int .i64 i)] [.loop .ready none 54 31 S.T0 [11, 12] S.code0 S.code1 7, .cells 37 .exact [.int .u8 k], .cells 4 .exact [.bool b], .cells 4 .exact [.bool false], .cells 9 .exact [.str s], .cells 5 .exact [.int .u8 0], .cells 5 .exact [.int .u8 x], .defers false, .glob 0 S.tabV, .glob 1 [.int .i64 m]] Hint.auto ⟨.exit 0, [], [(0, .loop .ready none 54 31 S.T0 [11, 12] S.code0 S.code1 7), (2, .cells 4 .exact [.bool (S.scH s k (S.rem6 i) i b)]), (6, .cells 5 .exact [.int .u8 (S.scF s k (S.rem6 i) i b x)])], []⟩ =
    (bc (ltI i (256 : Int)) (bc (bc (S.okG (0 : Nat) S.tabV (1 : Nat)) (S.isB (wrapK IntKind.u8 i)) false) (bc (notB (eqB (S.nm (wrapK IntKind.u8 i)) s)) (K.LOk Tryd.prog 65 15 (inner (inner (blkOf 65 0))) [(0 : Nat), (3 : Nat)] [LV.func (Fn.yield (0 : Nat)) [] [], LV.int IntKind.i64 (wrapK IntKind.i64 (i + (1 : Int)))] [LObj.loop LoopState.ready none (54 : FuncId) (31 : Nat) S.T0 [(11 : Tmp), (12 : Tmp)] S.code0 S.code1 (7 : Nat), LObj.cells (37 : TypeId) Own.exact [LV.int IntKind.u8 k], LObj.cells (4 : TypeId) Own.exact [LV.bool b], LObj.cells (4 : TypeId) Own.exact [LV.bool false], LObj.cells (9 : TypeId) Own.exact [LV.str s], LObj.cells (5 : TypeId) Own.exact [LV.int IntKind.u8 (0 : Int)], LObj.cells (5 : TypeId) Own.exact [LV.int IntKind.u8 x], LObj.defers false, LObj.glob (0 : Nat) S.tabV, LObj.glob (1 : Nat) [LV.int IntKind.i64 m]] { x := LX.exit (0 : Nat), L := [], ch := [((0 : Nat), LObj.loop LoopState.ready none (54 : FuncId) (31 : Nat) S.T0 [(11 : Tmp), (12 : Tmp)] S.code0 S.code1 (7 : Nat)), ((2 : Nat), LObj.cells (4 : TypeId) Own.exact [LV.bool (S.scH s k (S.rem6 (wrapK IntKind.i64 (i + (1 : Int)))) (wrapK IntKind.i64 (i + (1 : Int))) b)]), ((6 : Nat), LObj.cells (5 : TypeId) Own.exact [LV.int IntKind.u8 (S.scF s k (S.rem6 (wrapK IntKind.i64 (i + (1 : Int)))) (wrapK IntKind.i64 (i + (1 : Int))) b x)])], new := [] } ∧ (LoopState.ready = LoopState.ready ∧ ((none : Option Code) = none ∧ ([(11 : Tmp), (12 : Tmp)] = [(11 : Tmp), (12 : Tmp)] ∧ (S.code0 = S.code0 ∧ (S.code1 = S.code1 ∧ ((0 : Nat) = (0 : Nat) ∧ ((0 : Nat) = (0 : Nat) ∧ ((0 : Nat) = (0 : Nat) ∧ ((0 : Nat) = (0 : Nat) ∧ ((0 : Nat) = (0 : Nat) ∧ ((0 : Nat) = (0 : Nat) ∧ (S.scH s k (S.rem6 i) i b = S.scH s k (S.rem6 (wrapK IntKind.i64 (i + (1 : Int)))) (wrapK IntKind.i64 (i + (1 : Int))) b ∧ (S.scF s k (S.rem6 i) i b x = S.scF s k (S.rem6 (wrapK IntKind.i64 (i + (1 : Int)))) (wrapK IntKind.i64 (i + (1 : Int))) b x ∧ True)))))))))))))) (bc (notB (eqI (S.md (wrapK IntKind.u8 i)) k)) (K.LOk Tryd.prog 65 15 (inner (inner (blkOf 65 0))) [(0 : Nat), (3 : Nat)] [LV.func (Fn.yield (0 : Nat)) [] [], LV.int IntKind.i64 (wrapK IntKind.i64 (i + (1 : Int)))] [LObj.loop LoopState.ready none (54 : FuncId) (31 : Nat) S.T0 [(11 : Tmp), (12 : Tmp)] S.code0 S.code1 (7 : Nat), LObj.cells (37 : TypeId) Own.exact [LV.int IntKind.u8 k], LObj.cells (4 : TypeId) Own.exact [LV.bool b], LObj.cells (4 : TypeId) Own.exact [LV.bool false], LObj.cells (9 : TypeId) Own.exact [LV.str s], LObj.cells (5 : TypeId) Own.exact [LV.int IntKind.u8 (0 : Int)], LObj.cells (5 : TypeId) Own.exact [LV.int IntKind.u8 x], LObj.defers false, LObj.glob (0 : Nat) S.tabV, LObj.glob (1 : Nat) [LV.int IntKind.i64 m]] { x := LX.exit (0 : Nat), L := [], ch := [((0 : Nat), LObj.loop LoopState.ready none (54 : FuncId) (31 : Nat) S.T0 [(11 : Tmp), (12 : Tmp)] S.code0 S.code1 (7 : Nat)), ((2 : Nat), LObj.cells (4 : TypeId) Own.exact [LV.bool (S.scH s k (S.rem6 (wrapK IntKind.i64 (i + (1 : Int)))) (wrapK IntKind.i64 (i + (1 : Int))) b)]), ((6 : Nat), LObj.cells (5 : TypeId) Own.exact [LV.int IntKind.u8 (S.scF s k (S.rem6 (wrapK IntKind.i64 (i + (1 : Int)))) (wrapK IntKind.i64 (i + (1 : Int))) b x)])], new := [] } ∧ (LoopState.ready = LoopState.ready ∧ ((none : Option Code) = none ∧ ([(11 : Tmp), (12 : Tmp)] = [(11 : Tmp), (12 : Tmp)] ∧ (S.code0 = S.code0 ∧ (S.code1 = S.code1 ∧ ((0 : Nat) = (0 : Nat) ∧ ((0 : Nat) = (0 : Nat) ∧ ((0 : Nat) = (0 : Nat) ∧ ((0 : Nat) = (0 : Nat) ∧ ((0 : Nat) = (0 : Nat) ∧ ((0 : Nat) = (0 : Nat) ∧ (S.scH s k (S.rem6 i) i b = S.scH s k (S.rem6 (wrapK IntKind.i64 (i + (1 : Int)))) (wrapK IntKind.i64 (i + (1 : Int))) b ∧ (S.scF s k (S.rem6 i) i b x = S.scF s k (S.rem6 (wrapK IntKind.i64 (i + (1 : Int)))) (wrapK IntKind.i64 (i + (1 : Int))) b x ∧ True)))))))))))))) (bc (S.kn (wrapK IntKind.u8 i)) False (bc (notB b) (K.LOk Tryd.prog 65 15 (inner (inner (blkOf 65 0))) [(0 : Nat), (3 : Nat)] [LV.func (Fn.yield (0 : Nat)) [] [], LV.int IntKind.i64 (wrapK IntKind.i64 (i + (1 : Int)))] [LObj.loop LoopState.ready none (54 : FuncId) (31 : Nat) S.T0 [(11 : Tmp), (12 : Tmp)] S.code0 S.code1 (7 : Nat), LObj.cells (37 : TypeId) Own.exact [LV.int IntKind.u8 k], LObj.cells (4 : TypeId) Own.exact [LV.bool true], LObj.cells (4 : TypeId) Own.exact [LV.bool false], LObj.cells (9 : TypeId) Own.exact [LV.str s], LObj.cells (5 : TypeId) Own.exact [LV.int IntKind.u8 (0 : Int)], LObj.cells (5 : TypeId) Own.exact [LV.int IntKind.u8 (wrapK IntKind.u8 i)], LObj.defers false, LObj.glob (0 : Nat) S.tabV, LObj.glob (1 : Nat) [LV.int IntKind.i64 m]] { x := LX.exit (0 : Nat), L := [], ch := [((0 : Nat), LObj.loop LoopState.ready none (54 : FuncId) (31 : Nat) S.T0 [(11 : Tmp), (12 : Tmp)] S.code0 S.code1 (7 : Nat)), ((2 : Nat), LObj.cells (4 : TypeId) Own.exact [LV.bool (S.scH s k (S.rem6 (wrapK IntKind.i64 (i + (1 : Int)))) (wrapK IntKind.i64 (i + (1 : Int))) true)]), ((6 : Nat), LObj.cells (5 : TypeId) Own.exact [LV.int IntKind.u8 (S.scF s k (S.rem6 (wrapK IntKind.i64 (i + (1 : Int)))) (wrapK IntKind.i64 (i + (1 : Int))) true (wrapK IntKind.u8 i))])], new := [] } ∧ (LoopState.ready = LoopState.ready ∧ ((none : Option Code) = none ∧ ([(11 : Tmp), (12 : Tmp)] = [(11 : Tmp), (12 : Tmp)] ∧ (S.code0 = S.code0 ∧ (S.code1 = S.code1 ∧ ((0 : Nat) = (0 : Nat) ∧ ((0 : Nat) = (0 : Nat) ∧ ((0 : Nat) = (0 : Nat) ∧ ((0 : Nat) = (0 : Nat) ∧ ((0 : Nat) = (0 : Nat) ∧ ((0 : Nat) = (0 : Nat) ∧ (S.scH s k (S.rem6 i) i b = S.scH s k (S.rem6 (wrapK IntKind.i64 (i + (1 : Int)))) (wrapK IntKind.i64 (i + (1 : Int))) true ∧ (S.scF s k (S.rem6 i) i b x = S.scF s k (S.rem6 (wrapK IntKind.i64 (i + (1 : Int)))) (wrapK IntKind.i64 (i + (1 : Int))) true (wrapK IntKind.u8 i) ∧ True)))))))))))))) (K.LOk Tryd.prog 65 15 (inner (inner (blkOf 65 0))) [(0 : Nat), (3 : Nat)] [LV.func (Fn.yield (0 : Nat)) [] [], LV.int IntKind.i64 (wrapK IntKind.i64 (i + (1 : Int)))] [LObj.loop LoopState.ready none (54 : FuncId) (31 : Nat) S.T0 [(11 : Tmp), (12 : Tmp)] S.code0 S.code1 (7 : Nat), LObj.cells (37 : TypeId) Own.exact [LV.int IntKind.u8 k], LObj.cells (4 : TypeId) Own.exact [LV.bool b], LObj.cells (4 : TypeId) Own.exact [LV.bool false], LObj.cells (9 : TypeId) Own.exact [LV.str s], LObj.cells (5 : TypeId) Own.exact [LV.int IntKind.u8 (0 : Int)], LObj.cells (5 : TypeId) Own.exact [LV.int IntKind.u8 x], LObj.defers false, LObj.glob (0 : Nat) S.tabV, LObj.glob (1 : Nat) [LV.int IntKind.i64 m]] { x := LX.exit (0 : Nat), L := [], ch := [((0 : Nat), LObj.loop LoopState.ready none (54 : FuncId) (31 : Nat) S.T0 [(11 : Tmp), (12 : Tmp)] S.code0 S.code1 (7 : Nat)), ((2 : Nat), LObj.cells (4 : TypeId) Own.exact [LV.bool (S.scH s k (S.rem6 (wrapK IntKind.i64 (i + (1 : Int)))) (wrapK IntKind.i64 (i + (1 : Int))) b)]), ((6 : Nat), LObj.cells (5 : TypeId) Own.exact [LV.int IntKind.u8 (S.scF s k (S.rem6 (wrapK IntKind.i64 (i + (1 : Int)))) (wrapK IntKind.i64 (i + (1 : Int))) b x)])], new := [] } ∧ (LoopState.ready = LoopState.ready ∧ ((none : Option Code) = none ∧ ([(11 : Tmp), (12 : Tmp)] = [(11 : Tmp), (12 : Tmp)] ∧ (S.code0 = S.code0 ∧ (S.code1 = S.code1 ∧ ((0 : Nat) = (0 : Nat) ∧ ((0 : Nat) = (0 : Nat) ∧ ((0 : Nat) = (0 : Nat) ∧ ((0 : Nat) = (0 : Nat) ∧ ((0 : Nat) = (0 : Nat) ∧ ((0 : Nat) = (0 : Nat) ∧ (S.scH s k (S.rem6 i) i b = S.scH s k (S.rem6 (wrapK IntKind.i64 (i + (1 : Int)))) (wrapK IntKind.i64 (i + (1 : Int))) b ∧ (S.scF s k (S.rem6 i) i b x = S.scF s k (S.rem6 (wrapK IntKind.i64 (i + (1 : Int)))) (wrapK IntKind.i64 (i + (1 : Int))) b x ∧ True)))))))))))))))))) False) (LoopState.ready = LoopState.ready ∧ ((none : Option Code) = none ∧ ([(11 : Tmp), (12 : Tmp)] = [(11 : Tmp), (12 : Tmp)] ∧ (S.code0 = S.code0 ∧ (S.code1 = S.code1 ∧ ((0 : Nat) = (0 : Nat) ∧ ((0 : Nat) = (0 : Nat) ∧ ((0 : Nat) = (0 : Nat) ∧ ((0 : Nat) = (0 : Nat) ∧ ((0 : Nat) = (0 : Nat) ∧ ((0 : Nat) = (0 : Nat) ∧ (S.scH s k (S.rem6 i) i b = b ∧ (S.scF s k (S.rem6 i) i b x = x ∧ True)))))))))))))) := by kernel_rfl
theorem fmR_con (m k i x : Int) (b : Bool) (s : List UInt8) (h0 : 0 ≤ i) (h1 : i ≤ 256) (h2 : S.hit s k (S.rem6 i) i = false) (h3 : ∀ (b2 : Bool) (x2 : Int), i < 256 → S.hit s k (S.rem6 (i + 1)) (i + 1) = false → K.LOk Tryd.prog 65 15 (inner (inner (blkOf 65 0))) [0, 3] [.func (.yield 0) [] [], .int .i64 (i + 1)] [.loop .ready none 54 31 S.T0 [11, 12] S.code0 S.code1 7, .cells 37 .exact [.int .u8 k], .cells 4 .exact [.bool b2], .cells 4 .exact [.bool false], .cells 9 .exact [.str s], .cells 5 .exact [.int .u8 0], .cells 5 .exact [.int .u8 x2], .defers false, .glob 0 S.tabV, .glob 1 [.int .i64 m]] ⟨.exit 0, [], [(0, .loop .ready none 54 31 S.T0 [11, 12] S.code0 S.code1 7), (2, .cells 4 .exact [.bool (S.scH s k (S.rem6 (i + 1)) (i + 1) b2)]), (6, .cells 5 .exact [.int .u8 (S.scF s k (S.rem6 (i + 1)) (i + 1) b2 x2)])], []⟩)  : GT Tryd.prog (fun k => .code (inner (inner (blkOf 65 0))) :: .inLoop (inner (inner (blkOf 65 0))) :: k) (Fr.ofL 65 15 [(0, .func (.yield 0) [] []), (3, .int .i64 i)] [] none) (Heap.of [.loop .ready none 54 31 S.T0 [11, 12] S.code0 S.code1 7, .cells 37 .exact [.int .u8 k], .cells 4 .exact [.bool b], .cells 4 .exact [.bool false], .cells 9 .exact [.str s], .cells 5 .exact [.int .u8 0], .cells 5 .exact [.int .u8 x], .defers false, .glob 0 S.tabV, .glob 1 [.int .i64 m]]) (⟨.exit 0, [], [(0, .loop .ready none 54 31 S.T0 [11, 12] S.code0 S.code1 7), (2, .cells 4 .exact [.bool (S.scH s k (S.rem6 i) i b)]), (6, .cells 5 .exact [.int .u8 (S.scF s k (S.rem6 i) i b x)])], []⟩ : K.BRes).x (Fr.ofL 65 15 (⟨.exit 0, [], [(0, .loop .ready none 54 31 S.T0 [11, 12] S.code0 S.code1 7), (2, .cells 4 .exact [.bool (S.scH s k (S.rem6 i) i b)]), (6, .cells 5 .exact [.int .u8 (S.scF s k (S.rem6 i) i b x)])], []⟩ : K.BRes).L [] none) (Heap.of (K.chg [.loop .ready none 54 31 S.T0 [11, 12] S.code0 S.code1 7, .cells 37 .exact [.int .u8 k], .cells 4 .exact [.bool b], .cells 4 .exact [.bool false], .cells 9 .exact [.str s], .cells 5 .exact [.int .u8 0], .cells 5 .exact [.int .u8 x], .defers false, .glob 0 S.tabV, .glob 1 [.int .i64 m]] (⟨.exit 0, [], [(0, .loop .ready none 54 31 S.T0 [11, 12] S.code0 S.code1 7), (2, .cells 4 .exact [.bool (S.scH s k (S.rem6 i) i b)]), (6, .cells 5 .exact [.int .u8 (S.scF s k (S.rem6 i) i b x)])], []⟩ : K.BRes).ch ++ (⟨.exit 0, [], [(0, .loop .ready none 54 31 S.T0 [11, 12] S.code0 S.code1 7), (2, .cells 4 .exact [.bool (S.scH s k (S.rem6 i) i b)]), (6, .cells 5 .exact [.int .u8 (S.scF s k (S.rem6 i) i b x)])], []⟩ : K.BRes).new)) := by
  refine K.loop_of_run good (A := envK [(21, cofE)] (fun g id => none) (fun g i => bc (Nat.beq g 54) (hasN [2, 3, 4, 5, 6, 7] i) (true))) (envK_ok ?_) K.openE_ok (k := 30) (ent := fnMB) (cast (fmR_run m k i x b s).symm ?_)
  · intro p hp; simp only [List.mem_cons, List.not_mem_nil, or_false] at hp; rcases hp with rfl <;> first | exact cof_ok
  · have w2 : wrapK .i64 (i + 1) = i + 1 := by rw [wrapK_i64]; omega
    have w1 : i < 256 → wrapK .u8 i = i := fun h => by rw [wrapK_u8]; omega
    by_cases hi : i < 256
    · have e0 : ltI i 256 = true := ltI_true.2 hi
      have hB : S.isB i = true := S.isB_iff.2 ⟨h0, hi⟩
      have hG := S.okG_0x
      rw [S.hit_at hi] at h2
      simp only [e0, w1 hi, w2, hG, hB, bc_true, S.scH_at hi, S.scF_at hi]
      cases c1 : eqB (S.nm i) s with
      | false =>
        have c : S.mt s k i = false := by unfold S.mt; rw [c1]; rfl
        rw [c] at h2
        simp only [c, notB_f, bc_true, bc_false]
        refine ⟨h3 b x hi h2, ?_⟩
        simp
      | true =>
        cases c2 : eqI (S.md i) k with
        | false =>
          have c : S.mt s k i = false := by unfold S.mt; rw [c1, c2]; rfl
          rw [c] at h2
          simp only [c, notB_f, notB_t, bc_true, bc_false]
          refine ⟨h3 b x hi h2, ?_⟩
          simp
        | true =>
          have c : S.mt s k i = true := by unfold S.mt; rw [c1, c2]; rfl
          cases c3 : S.kn i with
          | true => rw [c, c3] at h2; cases h2
          | false =>
            rw [c, c3] at h2
            have h2 : S.hit s k (S.rem6 (i + 1)) (i + 1) = false := h2
            simp only [c, notB_f, notB_t, bc_true, bc_false]
            cases b with
            | false =>
              simp only [notB_f, notB_t, bc_true, bc_false]
              refine ⟨h3 true i hi h2, ?_⟩
              simp
            | true =>
              simp only [notB_f, notB_t, bc_true, bc_false]
              refine ⟨h3 true x hi h2, ?_⟩
              simp
    · have e0 : ltI i 256 = false := ltI_false.2 (by omega)
      have z := S.rem6_end (i := i) (by omega)
      simp only [e0, z, bc_false]
      have z1 : S.scH s k 0 i b = b := rfl
      have z2 : S.scF s k 0 i b x = x := rfl
      simp [z1, z2]
theorem fhR_run (m k i x : Int) (b : Bool) (s : List UInt8) : K.RunL (envK [(21, cofE)] (fun g id => none) (fun g i => bc (Nat.beq g 54) (hasN [2, 3, 4, 5, 6, 7] i) (true))) K.openE 30 65 15 (inner (inner (blkOf 65 0))) fnHB [(0, .func (.yield 0) [] []), (3, .int .i64 i)] [.loop .ready none 54 31 S.T0 [11, 12] S.code0 S.code1 7, .cells 37 .exact [.int .u8 k], .cells 4 .exact [.bool b], .cells 4 .exact [.bool false], .cells 9 .exact [.str s], .cells 5 .exact [.int .u8 0], .cells 5 .exact [.int .u8 x], .defers false, .glob 0 S.tabV, .glob 1 [.int .i64 m]] Hint.auto ⟨.ret, [], [(0, .loop .done (some .ret) 54 31 S.T0 [11, 12] S.code0 S.code1 7), (2, .dead), (3, .cells 4 .exact [.bool true]), (5, .cells 5 .exact [.int .u8 (S.hitI s k (S.rem6 i) i)]), (6, .dead)], []⟩ =
    (bc (ltI i (256 : Int)) (bc (bc (S.okG (0 : Nat) S.tabV (1 : Nat)) (S.isB (wrapK IntKind.u8 i)) false) (bc (notB (eqB (S.nm (wrapK IntKind.u8 i)) s)) (K.LOk Tryd.prog 65 15 (inner (inner (blkOf 65 0))) [(0 : Nat), (3 : Nat)] [LV.func (Fn.yield (0 : Nat)) [] [], LV.int IntKind.i64 (wrapK IntKind.i64 (i + (1 : Int)))] [LObj.loop LoopState.ready none (54 : FuncId) (31 : Nat) S.T0 [(11 : Tmp), (12 : Tmp)] S.code0 S.code1 (7 : Nat), LObj.cells (37 : TypeId) Own.exact [LV.int IntKind.u8 k], LObj.cells (4 : TypeId) Own.exact [LV.bool b], LObj.cells (4 : TypeId) Own.exact [LV.bool false], LObj.cells (9 : TypeId) Own.exact [LV.str s], LObj.cells (5 : TypeId) Own.exact [LV.int IntKind.u8 (0 : Int)], LObj.cells (5 : TypeId) Own.exact [LV.int IntKind.u8 x], LObj.defers false, LObj.glob (0 : Nat) S.tabV, LObj.glob (1 : Nat) [LV.int IntKind.i64 m]] { x := LX.ret, L := [], ch := [((0 : Nat), LObj.loop LoopState.done (some Code.ret) (54 : FuncId) (31 : Nat) S.T0 [(11 : Tmp), (12 : Tmp)] S.code0 S.code1 (7 : Nat)), ((2 : Nat), LObj.dead), ((3 : Nat), LObj.cells (4 : TypeId) Own.exact [LV.bool true]), ((5 : Nat), LObj.cells (5 : TypeId) Own.exact [LV.int IntKind.u8 (S.hitI s k (S.rem6 (wrapK IntKind.i64 (i + (1 : Int)))) (wrapK IntKind.i64 (i + (1 : Int))))]), ((6 : Nat), LObj.dead)], new := [] } ∧ (LoopState.done = LoopState.done ∧ ((some Code.ret : Option Code) = some Code.ret ∧ ([(11 : Tmp), (12 : Tmp)] = [(11 : Tmp), (12 : Tmp)] ∧ (S.code0 = S.code0 ∧ (S.code1 = S.code1 ∧ ((0 : Nat) = (0 : Nat) ∧ ((0 : Nat) = (0 : Nat) ∧ ((0 : Nat) = (0 : Nat) ∧ ((0 : Nat) = (0 : Nat) ∧ ((0 : Nat) = (0 : Nat) ∧ ((0 : Nat) = (0 : Nat) ∧ (true = true ∧ (S.hitI s k (S.rem6 i) i = S.hitI s k (S.rem6 (wrapK IntKind.i64 (i + (1 : Int)))) (wrapK IntKind.i64 (i + (1 : Int))) ∧ True)))))))))))))) (bc (notB (eqI (S.md (wrapK IntKind.u8 i)) k)) (K.LOk Tryd.prog 65 15 (inner (inner (blkOf 65 0))) [(0 : Nat), (3 : Nat)] [LV.func (Fn.yield (0 : Nat)) [] [], LV.int IntKind.i64 (wrapK IntKind.i64 (i + (1 : Int)))] [LObj.loop LoopState.ready none (54 : FuncId) (31 : Nat) S.T0 [(11 : Tmp), (12 : Tmp)] S.code0 S.code1 (7 : Nat), LObj.cells (37 : TypeId) Own.exact [LV.int IntKind.u8 k], LObj.cells (4 : TypeId) Own.exact [LV.bool b], LObj.cells (4 : TypeId) Own.exact [LV.bool false], LObj.cells (9 : TypeId) Own.exact [LV.str s], LObj.cells (5 : TypeId) Own.exact [LV.int IntKind.u8 (0 : Int)], LObj.cells (5 : TypeId) Own.exact [LV.int IntKind.u8 x], LObj.defers false, LObj.glob (0 : Nat) S.tabV, LObj.glob (1 : Nat) [LV.int IntKind.i64 m]] { x := LX.ret, L := [], ch := [((0 : Nat), LObj.loop LoopState.done (some Code.ret) (54 : FuncId) (31 : Nat) S.T0 [(11 : Tmp), (12 : Tmp)] S.code0 S.code1 (7 : Nat)), ((2 : Nat), LObj.dead), ((3 : Nat), LObj.cells (4 : TypeId) Own.exact [LV.bool true]), ((5 : Nat), LObj.cells (5 : TypeId) Own.exact [LV.int IntKind.u8 (S.hitI s k (S.rem6 (wrapK IntKind.i64 (i + (1 : Int)))) (wrapK IntKind.i64 (i + (1 : Int))))]), ((6 : Nat), LObj.dead)], new := [] } ∧ (LoopState.done = LoopState.done ∧ ((some Code.ret : Option Code) = some Code.ret ∧ ([(11 : Tmp), (12 : Tmp)] = [(11 : Tmp), (12 : Tmp)] ∧ (S.code0 = S.code0 ∧ (S.code1 = S.code1 ∧ ((0 : Nat) = (0 : Nat) ∧ ((0 : Nat) = (0 : Nat) ∧ ((0 : Nat) = (0 : Nat) ∧ ((0 : Nat) = (0 : Nat) ∧ ((0 : Nat) = (0 : Nat) ∧ ((0 : Nat) = (0 : Nat) ∧ (true = true ∧ (S.hitI s k (S.rem6 i) i = S.hitI s k (S.rem6 (wrapK IntKind.i64 (i + (1 : Int)))) (wrapK IntKind.i64 (i + (1 : Int))) ∧ True)))))))))))))) (bc (S.kn (wrapK IntKind.u8 i)) (LoopState.done = LoopState.done ∧ ((some Code.ret : Option Code) = some Code.ret ∧ ([(11 : Tmp), (12 : Tmp)] = [(11 : Tmp), (12 : Tmp)] ∧ (S.code0 = S.code0 ∧ (S.code1 = S.code1 ∧ ((0 : Nat) = (0 : Nat) ∧ ((0 : Nat) = (0 : Nat) ∧ ((0 : Nat) = (0 : Nat) ∧ ((0 : Nat) = (0 : Nat) ∧ ((0 : Nat) = (0 : Nat) ∧ ((0 : Nat) = (0 : Nat) ∧ (true = true ∧ (S.hitI s k (S.rem6 i) i = wrapK IntKind.u8 i ∧ True))))))))))))) (bc (notB b) (K.LOk Tryd.prog 65 15 (inner (inner (blkOf 65 0))) [(0 : Nat), (3 : Nat)] [LV.func (Fn.yield (0 : Nat)) [] [], LV.int IntKind.i64 (wrapK IntKind.i64 (i + (1 : Int)))] [LObj.loop LoopState.ready none (54 : FuncId) (31 : Nat) S.T0 [(11 : Tmp), (12 : Tmp)] S.code0 S.code1 (7 : Nat), LObj.cells (37 : TypeId) Own.exact [LV.int IntKind.u8 k], LObj.cells (4 : TypeId) Own.exact [LV.bool true], LObj.cells (4 : TypeId) Own.exact [LV.bool false], LObj.cells (9 : TypeId) Own.exact [LV.str s], LObj.cells (5 : TypeId) Own.exact [LV.int IntKind.u8 (0 : Int)], LObj.cells (5 : TypeId) Own.exact [LV.int IntKind.u8 (wrapK IntKind.u8 i)], LObj.defers false, LObj.glob (0 : Nat) S.tabV, LObj.glob (1 : Nat) [LV.int IntKind.i64 m]] { x := LX.ret, L := [], ch := [((0 : Nat), LObj.loop LoopState.done (some Code.ret) (54 : FuncId) (31 : Nat) S.T0 [(11 : Tmp), (12 : Tmp)] S.code0 S.code1 (7 : Nat)), ((2 : Nat), LObj.dead), ((3 : Nat), LObj.cells (4 : TypeId) Own.exact [LV.bool true]), ((5 : Nat), LObj.cells (5 : TypeId) Own.exact [LV.int IntKind.u8 (S.hitI s k (S.rem6 (wrapK IntKind.i64 (i + (1 : Int)))) (wrapK IntKind.i64 (i + (1 : Int))))]), ((6 : Nat), LObj.dead)], new := [] } ∧ (LoopState.done = LoopState.done ∧ ((some Code.ret : Option Code) = some Code.ret ∧ ([(11 : Tmp), (12 : Tmp)] = [(11 : Tmp), (12 : Tmp)] ∧ (S.code0 = S.code0 ∧ (S.code1 = S.code1 ∧ ((0 : Nat) = (0 : Nat) ∧ ((0 : Nat) = (0 : Nat) ∧ ((0 : Nat) = (0 : Nat) ∧ ((0 : Nat) = (0 : Nat) ∧ ((0 : Nat) = (0 : Nat) ∧ ((0 : Nat) = (0 : Nat) ∧ (true = true ∧ (S.hitI s k (S.rem6 i) i = S.hitI s k (S.rem6 (wrapK IntKind.i64 (i + (1 : Int)))) (wrapK IntKind.i64 (i + (1 : Int))) ∧ True)))))))))))))) (K.LOk Tryd.prog 65 15 (inner (inner (blkOf 65 0))) [(0 : Nat), (3 : Nat)] [LV.func (Fn.yield (0 : Nat)) [] [], LV.int IntKind.i64 (wrapK IntKind.i64 (i + (1 : Int)))] [LObj.loop LoopState.ready none (54 : FuncId) (31 : Nat) S.T0 [(11 : Tmp), (12 : Tmp)] S.code0 S.code1 (7 : Nat), LObj.cells (37 : TypeId) Own.exact [LV.int IntKind.u8 k], LObj.cells (4 : TypeId) Own.exact [LV.bool b], LObj.cells (4 : TypeId) Own.exact [LV.bool false], LObj.cells (9 : TypeId) Own.exact [LV.str s], LObj.cells (5 : TypeId) Own.exact [LV.int IntKind.u8 (0 : Int)], LObj.cells (5 : TypeId) Own.exact [LV.int IntKind.u8 x], LObj.defers false, LObj.glob (0 : Nat) S.tabV, LObj.glob (1 : Nat) [LV.int IntKind.i64 m]] { x := LX.ret, L := [], ch := [((0 : Nat), LObj.loop LoopState.done (some Code.ret) (54 : FuncId) (31 : Nat) S.T0 [(11 : Tmp), (12 : Tmp)] S.code0 S.code1 (7 : Nat)), ((2 : Nat), LObj.dead), ((3 : Nat), LObj.cells (4 : TypeId) Own.exact [LV.bool true]), ((5 : Nat), LObj.cells (5 : TypeId) Own.exact [LV.int IntKind.u8 (S.hitI s k (S.rem6 (wrapK IntKind.i64 (i + (1 : Int)))) (wrapK IntKind.i64 (i + (1 : Int))))]), ((6 : Nat), LObj.dead)], new := [] } ∧ (LoopState.done = LoopState.done ∧ ((some Code.ret : Option Code) = some Code.ret ∧ ([(11 : Tmp), (12 : Tmp)] = [(11 : Tmp), (12 : Tmp)] ∧ (S.code0 = S.code0 ∧ (S.code1 = S.code1 ∧ ((0 : Nat) = (0 : Nat) ∧ ((0 : Nat) = (0 : Nat) ∧ ((0 : Nat) = (0 : Nat) ∧ ((0 : Nat) = (0 : Nat) ∧ ((0 : Nat) = (0 : Nat) ∧ ((0 : Nat) = (0 : Nat) ∧ (true = true ∧ (S.hitI s k (S.rem6 i) i = S.hitI s k (S.rem6 (wrapK IntKind.i64 (i + (1 : Int)))) (wrapK IntKind.i64 (i + (1 : Int))) ∧ True)))))))))))))))))) False) False) := by kernel_rfl
theorem fhR_con (m k i x : Int) (b : Bool) (s : List UInt8) (h0 : 0 ≤ i) (h1 : i ≤ 256) (h2 : S.hit s k (S.rem6 i) i = true) (h3 : ∀ (b2 : Bool) (x2 : Int), i < 256 → S.hit s k (S.rem6 (i + 1)) (i + 1) = true → K.LOk Tryd.prog 65 15 (inner (inner (blkOf 65 0))) [0, 3] [.func (.yield 0) [] [], .int .i64 (i + 1)] [.loop .ready none 54 31 S.T0 [11, 12] S.code0 S.code1 7, .cells 37 .exact [.int .u8 k], .cells 4 .exact [.bool b2], .cells 4 .exact [.bool false], .cells 9 .exact [.str s], .cells 5 .exact [.int .u8 0], .cells 5 .exact [.int .u8 x2], .defers false, .glob 0 S.tabV, .glob 1 [.int .i64 m]] ⟨.ret, [], [(0, .loop .done (some .ret) 54 31 S.T0 [11, 12] S.code0 S.code1 7), (2, .dead), (3, .cells 4 .exact [.bool true]), (5, .cells 5 .exact [.int .u8 (S.hitI s k (S.rem6 (i + 1)) (i + 1))]), (6, .dead)], []⟩)  : GT Tryd.prog (fun k => .code (inner (inner (blkOf 65 0))) :: .inLoop (inner (inner (blkOf 65 0))) :: k) (Fr.ofL 65 15 [(0, .func (.yield 0) [] []), (3, .int .i64 i)] [] none) (Heap.of [.loop .ready none 54 31 S.T0 [11, 12] S.code0 S.code1 7, .cells 37 .exact [.int .u8 k], .cells 4 .exact [.bool b], .cells 4 .exact [.bool false], .cells 9 .exact [.str s], .cells 5 .exact [.int .u8 0], .cells 5 .exact [.int .u8 x], .defers false, .glob 0 S.tabV, .glob 1 [.int .i64 m]]) (⟨.ret, [], [(0, .loop .done (some .ret) 54 31 S.T0 [11, 12] S.code0 S.code1 7), (2, .dead), (3, .cells 4 .exact [.bool true]), (5, .cells 5 .exact [.int .u8 (S.hitI s k (S.rem6 i) i)]), (6, .dead)], []⟩ : K.BRes).x (Fr.ofL 65 15 (⟨.ret, [], [(0, .loop .done (some .ret) 54 31 S.T0 [11, 12] S.code0 S.code1 7), (2, .dead), (3, .cells 4 .exact [.bool true]), (5, .cells 5 .exact [.int .u8 (S.hitI s k (S.rem6 i) i)]), (6, .dead)], []⟩ : K.BRes).L [] none) (Heap.of (K.chg [.loop .ready none 54 31 S.T0 [11, 12] S.code0 S.code1 7, .cells 37 .exact [.int .u8 k], .cells 4 .exact [.bool b], .cells 4 .exact [.bool false], .cells 9 .exact [.str s], .cells 5 .exact [.int .u8 0], .cells 5 .exact [.int .u8 x], .defers false, .glob 0 S.tabV, .glob 1 [.int .i64 m]] (⟨.ret, [], [(0, .loop .done (some .ret) 54 31 S.T0 [11, 12] S.code0 S.code1 7), (2, .dead), (3, .cells 4 .exact [.bool true]), (5, .cells 5 .exact [.int .u8 (S.hitI s k (S.rem6 i) i)]), (6, .dead)], []⟩ : K.BRes).ch ++ (⟨.ret, [], [(0, .loop .done (some .ret) 54 31 S.T0 [11, 12] S.code0 S.code1 7), (2, .dead), (3, .cells 4 .exact [.bool true]), (5, .cells 5 .exact [.int .u8 (S.hitI s k (S.rem6 i) i)]), (6, .dead)], []⟩ : K.BRes).new)) := by
  refine K.loop_of_run good (A := envK [(21, cofE)] (fun g id => none) (fun g i => bc (Nat.beq g 54) (hasN [2, 3, 4, 5, 6, 7] i) (true))) (envK_ok ?_) K.openE_ok (k := 30) (ent := fnHB) (cast (fhR_run m k i x b s).symm ?_)
  · intro p hp; simp only [List.mem_cons, List.not_mem_nil, or_false] at hp; rcases hp with rfl <;> first | exact cof_ok
  · have w2 : wrapK .i64 (i + 1) = i + 1 := by rw [wrapK_i64]; omega
    have w1 : i < 256 → wrapK .u8 i = i := fun h => by rw [wrapK_u8]; omega
    by_cases hi : i < 256
    · have e0 : ltI i 256 = true := ltI_true.2 hi
      have hB : S.isB i = true := S.isB_iff.2 ⟨h0, hi⟩
      have hG := S.okG_0x
      rw [S.hit_at hi] at h2
      simp only [e0, w1 hi, w2, hG, hB, bc_true, S.hitI_at hi]
      cases c1 : eqB (S.nm i) s with
      | false =>
        have c : S.and2 (S.mt s k i) (S.kn i) = false := by unfold S.mt; rw [c1]; rfl
        rw [c] at h2
        simp only [c, notB_f, bc_true, bc_false]
        refine ⟨h3 b x hi h2, ?_⟩
        simp
      | true =>
        cases c2 : eqI (S.md i) k with
        | false =>
          have c : S.and2 (S.mt s k i) (S.kn i) = false := by unfold S.mt; rw [c1, c2]; rfl
          rw [c] at h2
          simp only [c, notB_f, notB_t, bc_true, bc_false]
          refine ⟨h3 b x hi h2, ?_⟩
          simp
        | true =>
          cases c3 : S.kn i with
          | true =>
            have c : S.and2 (S.mt s k i) true = true := by unfold S.mt; rw [c1, c2]; rfl
            simp only [c, notB_f, notB_t, bc_true, bc_false]
            simp
          | false =>
            have c : S.and2 (S.mt s k i) false = false := by unfold S.mt; rw [c1, c2]; rfl
            rw [c3, c] at h2
            simp only [c, notB_f, notB_t, bc_true, bc_false]
            cases b with
            | false =>
              simp only [notB_f, notB_t, bc_true, bc_false]
              refine ⟨h3 true i hi h2, ?_⟩
              simp
            | true =>
              simp only [notB_f, notB_t, bc_true, bc_false]
              refine ⟨h3 true x hi h2, ?_⟩
              simp
    · rw [S.rem6_end (i := i) (by omega)] at h2
      cases h2
theorem fm_lok (m k : Int) (s : List UInt8) : ∀ (j : Nat) (i x : Int) (b : Bool), 0 ≤ i → i ≤ 256 → S.hit s k (S.rem6 i) i = false → S.rem6 i = j → K.LOk Tryd.prog 65 15 (inner (inner (blkOf 65 0))) [0, 3] [.func (.yield 0) [] [], .int .i64 i] [.loop .ready none 54 31 S.T0 [11, 12] S.code0 S.code1 7, .cells 37 .exact [.int .u8 k], .cells 4 .exact [.bool b], .cells 4 .exact [.bool false], .cells 9 .exact [.str s], .cells 5 .exact [.int .u8 0], .cells 5 .exact [.int .u8 x], .defers false, .glob 0 S.tabV, .glob 1 [.int .i64 m]] ⟨.exit 0, [], [(0, .loop .ready none 54 31 S.T0 [11, 12] S.code0 S.code1 7), (2, .cells 4 .exact [.bool (S.scH s k (S.rem6 i) i b)]), (6, .cells 5 .exact [.int .u8 (S.scF s k (S.rem6 i) i b x)])], []⟩ := by
  intro j
  induction j with
  | zero =>
    intro i x b h0 h1 h2 hm
    exact fmR_con m k i x b s h0 h1 h2 fun b2 x2 hk => by unfold S.rem6 at hm; omega
  | succ j ih =>
    intro i x b h0 h1 h2 hm
    exact fmR_con m k i x b s h0 h1 h2 fun b2 x2 hk hh => ih (i + 1) x2 b2 (by omega) (by omega) hh (by unfold S.rem6 at hm ⊢; omega)
theorem fh_lok (m k : Int) (s : List UInt8) : ∀ (j : Nat) (i x : Int) (b : Bool), 0 ≤ i → i ≤ 256 → S.hit s k (S.rem6 i) i = true → S.rem6 i = j → K.LOk Tryd.prog 65 15 (inner (inner (blkOf 65 0))) [0, 3] [.func (.yield 0) [] [], .int .i64 i] [.loop .ready none 54 31 S.T0 [11, 12] S.code0 S.code1 7, .cells 37 .exact [.int .u8 k], .cells 4 .exact [.bool b], .cells 4 .exact [.bool false], .cells 9 .exact [.str s], .cells 5 .exact [.int .u8 0], .cells 5 .exact [.int .u8 x], .defers false, .glob 0 S.tabV, .glob 1 [.int .i64 m]] ⟨.ret, [], [(0, .loop .done (some .ret) 54 31 S.T0 [11, 12] S.code0 S.code1 7), (2, .dead), (3, .cells 4 .exact [.bool true]), (5, .cells 5 .exact [.int .u8 (S.hitI s k (S.rem6 i) i)]), (6, .dead)], []⟩ := by
  intro j
  induction j with
  | zero =>
    intro i x b h0 h1 h2 hm
    exact fhR_con m k i x b s h0 h1 h2 fun b2 x2 hk => by unfold S.rem6 at hm; omega
  | succ j ih =>
    intro i x b h0 h1 h2 hm
    exact fhR_con m k i x b s h0 h1 h2 fun b2 x2 hk hh => ih (i + 1) x2 b2 (by omega) (by omega) hh (by unfold S.rem6 at hm ⊢; omega)
theorem fn_hb : blkOf 65 0 = .block 0 (.loop (inner (inner (blkOf 65 0)))) := by kernel_rfl
theorem fm_blk (m k : Int) (s : List UInt8) (h : S.hit s k (S.rem6 0) 0 = false) : K.BOk Tryd.prog 65 15 (blkOf 65 0) [0, 3] [.func (.yield 0) [] [], .int .i64 0] [.loop .ready none 54 31 S.T0 [11, 12] S.code0 S.code1 7, .cells 37 .exact [.int .u8 k], .cells 4 .exact [.bool false], .cells 4 .exact [.bool false], .cells 9 .exact [.str s], .cells 5 .exact [.int .u8 0], .cells 5 .exact [.int .u8 0], .defers false, .glob 0 S.tabV, .glob 1 [.int .i64 m]] ⟨.normal, [], [(0, .loop .ready none 54 31 S.T0 [11, 12] S.code0 S.code1 7), (2, .cells 4 .exact [.bool (S.scH s k (S.rem6 0) 0 false)]), (6, .cells 5 .exact [.int .u8 (S.scF s k (S.rem6 0) 0 false 0)])], []⟩ := by
  unfold K.BOk
  rw [fn_hb]
  exact K.CT.block (K.GT.loop (fm_lok m k s _ 0 0 false (by omega) (by omega) h rfl))
theorem fh_blk (m k : Int) (s : List UInt8) (h : S.hit s k (S.rem6 0) 0 = true) : K.BOk Tryd.prog 65 15 (blkOf 65 0) [0, 3] [.func (.yield 0) [] [], .int .i64 0] [.loop .ready none 54 31 S.T0 [11, 12] S.code0 S.code1 7, .cells 37 .exact [.int .u8 k], .cells 4 .exact [.bool false], .cells 4 .exact [.bool false], .cells 9 .exact [.str s], .cells 5 .exact [.int .u8 0], .cells 5 .exact [.int .u8 0], .defers false, .glob 0 S.tabV, .glob 1 [.int .i64 m]] ⟨.ret, [], [(0, .loop .done (some .ret) 54 31 S.T0 [11, 12] S.code0 S.code1 7), (2, .dead), (3, .cells 4 .exact [.bool true]), (5, .cells 5 .exact [.int .u8 (S.hitI s k (S.rem6 0) 0)]), (6, .dead)], []⟩ := by
  unfold K.BOk
  rw [fn_hb]
  exact K.CT.blockRet (K.GT.loop (fh_lok m k s _ 0 0 false (by omega) (by omega) h rfl))
theorem fdM_run (m k : Int) (s : List UInt8) : K.bodyF (envK [(21, cofE)] (fun g id => bc (Nat.beq g 65) (bc (Nat.beq id 0) (some fnMBB) (none)) (none)) (fun g i => bc (Nat.beq g 54) (hasN [2, 3, 4, 5, 6, 7] i) (true))) (K.runF (envK [(21, cofE)] (fun g id => bc (Nat.beq g 65) (bc (Nat.beq id 0) (some fnMBB) (none)) (none)) (fun g i => bc (Nat.beq g 54) (hasN [2, 3, 4, 5, 6, 7] i) (true))) 30) 54 [.str s, .int .u8 k] (Heap.of [.glob 0 S.tabV, .glob 1 [.int .i64 m]]) Hint.auto (K.endC K.openE 2 ⟨.ret (.tup [.int .u8 (S.fop s k), .bool (S.fok s k)]), [], []⟩) =
    ((K.BOk Tryd.prog 65 15 (blkOf 65 0) [(0 : Nat), (3 : Nat)] [LV.func (Fn.yield (0 : Nat)) [] [], LV.int IntKind.i64 (0 : Int)] [LObj.loop LoopState.ready none (54 : FuncId) (nat_lit 31) S.T0 [(11 : Nat), (12 : Nat)] S.code0 S.code1 (7 : Nat), LObj.cells (37 : Nat) Own.exact [LV.int IntKind.u8 k], LObj.cells (4 : Nat) Own.exact [LV.bool false], LObj.cells (4 : Nat) Own.exact [LV.bool false], LObj.cells (9 : Nat) Own.exact [LV.str s], LObj.cells (5 : Nat) Own.exact [LV.int IntKind.u8 (0 : Int)], LObj.cells (5 : Nat) Own.exact [LV.int IntKind.u8 (0 : Int)], LObj.defers false, LObj.glob (0 : Nat) S.tabV, LObj.glob (1 : Nat) [LV.int IntKind.i64 m]] { x := LX.normal, L := [], ch := [((0 : Nat), LObj.loop LoopState.ready none (54 : FuncId) (31 : Nat) S.T0 [(11 : Tmp), (12 : Tmp)] S.code0 S.code1 (7 : Nat)), ((2 : Nat), LObj.cells (4 : TypeId) Own.exact [LV.bool (S.scH s k (256 : Nat) (0 : Int) false)]), ((6 : Nat), LObj.cells (5 : TypeId) Own.exact [LV.int IntKind.u8 (S.scF s k (256 : Nat) (0 : Int) false (0 : Int))])], new := [] } ∧ (S.fop s k = S.scF s k (256 : Nat) (0 : Int) false (0 : Int) ∧ (S.fok s k = S.scH s k (256 : Nat) (0 : Int) false ∧ True)))) := by kernel_rfl
theorem fdM_con (m k : Int) (s : List UInt8) (h0 : S.hit s k 256 0 = false) : HT Tryd.prog 54 [.str s, .int .u8 k] (Heap.of [.glob 0 S.tabV, .glob 1 [.int .i64 m]]) (⟨.ret (.tup [.int .u8 (S.fop s k), .bool (S.fok s k)]), [], []⟩ : K.CRes).e (Heap.of (K.chg [.glob 0 S.tabV, .glob 1 [.int .i64 m]] (⟨.ret (.tup [.int .u8 (S.fop s k), .bool (S.fok s k)]), [], []⟩ : K.CRes).ch ++ (⟨.ret (.tup [.int .u8 (S.fop s k), .bool (S.fok s k)]), [], []⟩ : K.CRes).new)) := by
  refine K.con_of_run good (A := envK [(21, cofE)] (fun g id => bc (Nat.beq g 65) (bc (Nat.beq id 0) (some fnMBB) (none)) (none)) (fun g i => bc (Nat.beq g 54) (hasN [2, 3, 4, 5, 6, 7] i) (true))) (envK_ok ?_) K.openE_ok (k := 30) (cast (fdM_run m k s).symm ?_)
  · intro p hp; simp only [List.mem_cons, List.not_mem_nil, or_false] at hp; rcases hp with rfl <;> first | exact cof_ok
  · have o1 : S.fop s k = S.scF s k (S.rem6 0) 0 false 0 := by unfold S.fop; rw [h0]; rfl
    have o2 : S.fok s k = S.scH s k (S.rem6 0) 0 false := by unfold S.fok; rw [h0]; rfl
    refine ⟨fm_blk m k s h0, ?_⟩
    have r6 : S.rem6 0 = 256 := rfl
    simp [o1, o2, r6]
theorem fdH_run (m k : Int) (s : List UInt8) : K.bodyF (envK [(21, cofE)] (fun g id => bc (Nat.beq g 65) (bc (Nat.beq id 0) (some fnHB) (none)) (none)) (fun g i => bc (Nat.beq g 54) (hasN [2, 3, 4, 5, 6, 7] i) (true))) (K.runF (envK [(21, cofE)] (fun g id => bc (Nat.beq g 65) (bc (Nat.beq id 0) (some fnHB) (none)) (none)) (fun g i => bc (Nat.beq g 54) (hasN [2, 3, 4, 5, 6, 7] i) (true))) 30) 54 [.str s, .int .u8 k] (Heap.of [.glob 0 S.tabV, .glob 1 [.int .i64 m]]) Hint.auto (K.endC K.openE 2 ⟨.ret (.tup [.int .u8 (S.fop s k), .bool (S.fok s k)]), [], []⟩) =
    ((K.BOk Tryd.prog 65 15 (blkOf 65 0) [(0 : Nat), (3 : Nat)] [LV.func (Fn.yield (0 : Nat)) [] [], LV.int IntKind.i64 (0 : Int)] [LObj.loop LoopState.ready none (54 : FuncId) (nat_lit 31) S.T0 [(11 : Nat), (12 : Nat)] S.code0 S.code1 (7 : Nat), LObj.cells (37 : Nat) Own.exact [LV.int IntKind.u8 k], LObj.cells (4 : Nat) Own.exact [LV.bool false], LObj.cells (4 : Nat) Own.exact [LV.bool false], LObj.cells (9 : Nat) Own.exact [LV.str s], LObj.cells (5 : Nat) Own.exact [LV.int IntKind.u8 (0 : Int)], LObj.cells (5 : Nat) Own.exact [LV.int IntKind.u8 (0 : Int)], LObj.defers false, LObj.glob (0 : Nat) S.tabV, LObj.glob (1 : Nat) [LV.int IntKind.i64 m]] { x := LX.ret, L := [], ch := [((0 : Nat), LObj.loop LoopState.done (some Code.ret) (54 : FuncId) (31 : Nat) S.T0 [(11 : Tmp), (12 : Tmp)] S.code0 S.code1 (7 : Nat)), ((2 : Nat), LObj.dead), ((3 : Nat), LObj.cells (4 : TypeId) Own.exact [LV.bool true]), ((5 : Nat), LObj.cells (5 : TypeId) Own.exact [LV.int IntKind.u8 (S.hitI s k (256 : Nat) (0 : Int))]), ((6 : Nat), LObj.dead)], new := [] } ∧ (S.fop s k = S.hitI s k (256 : Nat) (0 : Int) ∧ (S.fok s k = true ∧ True)))) := by kernel_rfl
theorem fdH_con (m k : Int) (s : List UInt8) (h0 : S.hit s k 256 0 = true) : HT Tryd.prog 54 [.str s, .int .u8 k] (Heap.of [.glob 0 S.tabV, .glob 1 [.int .i64 m]]) (⟨.ret (.tup [.int .u8 (S.fop s k), .bool (S.fok s k)]), [], []⟩ : K.CRes).e (Heap.of (K.chg [.glob 0 S.tabV, .glob 1 [.int .i64 m]] (⟨.ret (.tup [.int .u8 (S.fop s k), .bool (S.fok s k)]), [], []⟩ : K.CRes).ch ++ (⟨.ret (.tup [.int .u8 (S.fop s k), .bool (S.fok s k)]), [], []⟩ : K.CRes).new)) := by
  refine K.con_of_run good (A := envK [(21, cofE)] (fun g id => bc (Nat.beq g 65) (bc (Nat.beq id 0) (some fnHB) (none)) (none)) (fun g i => bc (Nat.beq g 54) (hasN [2, 3, 4, 5, 6, 7] i) (true))) (envK_ok ?_) K.openE_ok (k := 30) (cast (fdH_run m k s).symm ?_)
  · intro p hp; simp only [List.mem_cons, List.not_mem_nil, or_false] at hp; rcases hp with rfl <;> first | exact cof_ok
  · have o1 : S.fop s k = S.hitI s k (S.rem6 0) 0 := by unfold S.fop; rw [h0]; rfl
    have o2 : S.fok s k = true := by unfold S.fok; rw [h0]; rfl
    refine ⟨fh_blk m k s h0, ?_⟩
    have r6 : S.rem6 0 = 256 := rfl
    simp [o1, o2, r6]
theorem fd_k (k : Int) (s : List UInt8) (g : Nat) (cs : List LV) (g1 : Nat) (m : Int) (h : S.okG g cs g1 = true) : HT Tryd.prog 54 [.str s, .int .u8 k] (Heap.of [.glob g cs, .glob g1 [.int .i64 m]]) (.ret (.tup [.int .u8 (S.fop s k), .bool (S.fok s k)])) (Heap.of [.glob g cs, .glob g1 [.int .i64 m]]) := by
  obtain ⟨e1, e2, e3⟩ := S.okG_ok h
  subst e1; subst e2; subst e3
  cases hh : S.hit s k 256 0 with
  | false => exact fdM_con m k s hh
  | true => exact fdH_con m k s hh
theorem fd_ok : fdE.ok Tryd.prog 54 := by
  intro xs os b r h h3
  unfold fdE at h
  simp only at h
  split at h
  · injection h with h; injection h with h1 h2; subst h1; subst h2
    exact fd_k _ _ _ _ _ _ h3
  · cases h
theorem ppl_run (o m : Int) : K.bodyF (envL [(21, cofE), (54, fdE)]) (K.runF (envL [(21, cofE), (54, fdE)]) 30) 45 [.int .u8 o] (Heap.of [.glob 0 S.tabV, .glob 1 [.int .i64 m]]) Hint.auto (K.endC K.openE 2 ⟨.ret (.bool (S.pl o)), [], []⟩) =
    (bc (bc (S.okG (0 : Nat) S.tabV (1 : Nat)) (S.isB o) false) (bc (S.fok (S.nm o) (S.md o)) (S.pl o = eqI (S.fop (S.nm o) (S.md o)) o ∧ True) (S.pl o = false ∧ True)) False) := by kernel_rfl
theorem ppl_con (o m : Int) (h0 : S.isB o = true)  : HT Tryd.prog 45 [.int .u8 o] (Heap.of [.glob 0 S.tabV, .glob 1 [.int .i64 m]]) (⟨.ret (.bool (S.pl o)), [], []⟩ : K.CRes).e (Heap.of (K.chg [.glob 0 S.tabV, .glob 1 [.int .i64 m]] (⟨.ret (.bool (S.pl o)), [], []⟩ : K.CRes).ch ++ (⟨.ret (.bool (S.pl o)), [], []⟩ : K.CRes).new)) := by
  refine K.con_of_run good (A := envL [(21, cofE), (54, fdE)]) (envL_ok ?_) K.openE_ok (k := 30) (cast (ppl_run o m).symm ?_)
  · intro p hp; simp only [List.mem_cons, List.not_mem_nil, or_false] at hp; rcases hp with rfl | rfl <;> first | exact cof_ok | exact fd_ok
  · have hG := S.okG_0x
    simp only [hG, h0, bc_true]
    unfold S.pl
    cases S.fok (S.nm o) (S.md o) with
    | true => cases eqI (S.fop (S.nm o) (S.md o)) o <;> simp [S.and2]
    | false => simp [S.and2]
theorem pl_k (o : Int) (g : Nat) (cs : List LV) (g1 : Nat) (m : Int) (h : bc (S.okG g cs g1) (S.isB o) false = true) : HT Tryd.prog 45 [.int .u8 o] (Heap.of [.glob g cs, .glob g1 [.int .i64 m]]) (.ret (.bool (S.pl o))) (Heap.of [.glob g cs, .glob g1 [.int .i64 m]]) := by
  cases h1 : S.okG g cs g1 with
  | false => rw [h1] at h; cases h
  | true =>
    rw [h1, bc_true] at h
    obtain ⟨e1, e2, e3⟩ := S.okG_ok h1
    subst e1; subst e2; subst e3
    exact ppl_con o m h
theorem pl_ok : plE.ok Tryd.prog 45 := by
  intro xs os b r h h3
  unfold plE at h
  simp only at h
  split at h
  · injection h with h; injection h with h1 h2; subst h1; subst h2
    exact pl_k _ _ _ _ _ h3
  · cases h
end Go.Proofs.YtlgfojaalmelhaaDoor.Ev
