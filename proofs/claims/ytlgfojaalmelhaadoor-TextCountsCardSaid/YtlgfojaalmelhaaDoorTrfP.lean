/- Contracts, proved: Trf. -/
import Derived.Test.YtlgfojaalmelhaaDoorTrfD
import Derived.Test.YtlgfojaalmelhaaDoorTfnP
import Derived.Test.YtlgfojaalmelhaaDoorTorP
import Derived.Test.YtlgfojaalmelhaaDoorTshP
namespace Go.Proofs.YtlgfojaalmelhaaDoor.Ev
open Go
set_option linter.unusedVariables false
set_option linter.unusedSimpArgs false
set_option maxRecDepth 100000
set_option maxHeartbeats 1000000
namespace S
theorem rfS_at {s : List UInt8} {k i b : Int} (h : 0 ≤ i) : rfS s k (i + 1).toNat i b = rfS s k (i - 1 + 1).toNat (i - 1) (upd s k i b) := by
  have e : (i + 1).toNat = (i - 1 + 1).toNat + 1 := by omega
  rw [e]; rfl
theorem rfS_end {s : List UInt8} {k i b : Int} (h : i < 0) : rfS s k (i + 1).toNat i b = b := by
  have e : (i + 1).toNat = 0 := by omega
  rw [e]; rfl
end S

namespace S
theorem scF_t {s : List UInt8} {k f : Int} : ∀ (n : Nat) (i : Int), scF s k n i true f = f
  | 0, _ => rfl
  | n + 1, i => by
    show scF s k n (i + 1) (bc (mt s k i) true true) (bc (mt s k i) (bc true f i) f) = f
    have e1 : (bc (mt s k i) true true : Bool) = true := by cases mt s k i <;> rfl
    have e2 : (bc (mt s k i) (bc true f i) f : Int) = f := by cases mt s k i <;> rfl
    rw [e1, e2, scF_t n]
theorem scH_t {s : List UInt8} {k : Int} : ∀ (n : Nat) (i : Int), scH s k n i true = true
  | 0, _ => rfl
  | n + 1, i => by
    show scH s k n (i + 1) (bc (mt s k i) true true) = true
    have e1 : (bc (mt s k i) true true : Bool) = true := by cases mt s k i <;> rfl
    rw [e1, scH_t n]
theorem hit_kn {s : List UInt8} {k : Int} : ∀ (n : Nat) (i : Int), 0 ≤ i → hit s k n i = true → kn (hitI s k n i) = true ∧ 0 ≤ hitI s k n i
  | 0, i, _, h => by cases h
  | n + 1, i, h0, h => by
    have h : bc (and2 (mt s k i) (kn i)) true (hit s k n (i + 1)) = true := h
    show kn (bc (and2 (mt s k i) (kn i)) i (hitI s k n (i + 1))) = true ∧ 0 ≤ bc (and2 (mt s k i) (kn i)) i (hitI s k n (i + 1))
    cases c : and2 (mt s k i) (kn i) with
    | true =>
      rw [bc_true]
      refine ⟨?_, h0⟩
      unfold and2 at c
      cases c1 : mt s k i with
      | false => rw [c1] at c; cases c
      | true => rw [c1] at c; exact c
    | false =>
      rw [c, bc_false] at h
      rw [bc_false]
      exact hit_kn n (i + 1) (by omega) h
theorem sc_kn {s : List UInt8} {k : Int} : ∀ (n : Nat) (i : Int), 0 ≤ i → hit s k n i = false → scH s k n i false = true → kn (scF s k n i false 0) = false ∧ 0 ≤ scF s k n i false 0
  | 0, i, _, _, h => by cases h
  | n + 1, i, h0, h1, h2 => by
    have h1 : bc (and2 (mt s k i) (kn i)) true (hit s k n (i + 1)) = false := h1
    have h2 : scH s k n (i + 1) (bc (mt s k i) true false) = true := h2
    show kn (scF s k n (i + 1) (bc (mt s k i) true false) (bc (mt s k i) (bc false 0 i) 0)) = false ∧ 0 ≤ scF s k n (i + 1) (bc (mt s k i) true false) (bc (mt s k i) (bc false 0 i) 0)
    cases c1 : mt s k i with
    | true =>
      rw [c1] at h1
      rw [bc_true, bc_true, bc_false, scF_t]
      cases c2 : kn i with
      | true => rw [c2] at h1; cases h1
      | false => exact ⟨rfl, h0⟩
    | false =>
      rw [c1] at h1 h2
      exact sc_kn n (i + 1) (by omega) h1 h2
theorem rR_step {s : List UInt8} {k : Int} (n : Nat) (i : Int) (h0 : 0 ≤ i) : rR s k (n + 1) i = upd s k i (rR s k n (i + 1)) := by
  have a1 : hit s k (n + 1) i = bc (and2 (mt s k i) (kn i)) true (hit s k n (i + 1)) := rfl
  have a2 : hitI s k (n + 1) i = bc (and2 (mt s k i) (kn i)) i (hitI s k n (i + 1)) := rfl
  have a3 : scH s k (n + 1) i false = scH s k n (i + 1) (bc (mt s k i) true false) := rfl
  have a4 : scF s k (n + 1) i false 0 = scF s k n (i + 1) (bc (mt s k i) true false) (bc (mt s k i) (bc false 0 i) 0) := rfl
  unfold rR
  rw [a1, a2, a3, a4]
  unfold upd
  cases c1 : mt s k i with
  | false => rfl
  | true =>
    have e1 : and2 true (kn i) = kn i := rfl
    rw [e1, bc_true, bc_true, bc_true, bc_false]
    cases c2 : kn i with
    | true =>
      rw [bc_true, bc_true, bc_true, bc_true]
      cases ltI (bc (hit s k n (i + 1)) (hitI s k n (i + 1)) (bc (scH s k n (i + 1) false) (scF s k n (i + 1) false 0) (-1))) 0 <;> rfl
    | false =>
      rw [bc_false, bc_false, bc_false, scH_t, scF_t, bc_true]
      cases c3 : hit s k n (i + 1) with
      | true =>
        obtain ⟨k1, k2⟩ := hit_kn n (i + 1) (by omega) c3
        rw [bc_true, bc_true, k1, bc_true, ltI_false.2 k2]; rfl
      | false =>
        rw [bc_false, bc_false]
        cases c4 : scH s k n (i + 1) false with
        | true =>
          obtain ⟨k1, k2⟩ := sc_kn n (i + 1) (by omega) c3 c4
          rw [bc_true, k1, ltI_false.2 k2]; rfl
        | false => rfl
theorem rR_all {s : List UInt8} {k : Int} : ∀ (j n : Nat), n + j = 256 → rfS s k j ((j : Int) - 1) (rR s k n j) = rR s k 256 0
  | 0, n, h => by
    have : n = 256 := by omega
    subst this; rfl
  | j + 1, n, h => by
    have e : (((j + 1 : Nat) : Int) - 1) = (j : Int) := by omega
    rw [e]
    show rfS s k j ((j : Int) - 1) (upd s k j (rR s k n ((j + 1 : Nat) : Int))) = _
    have e2 : (((j + 1 : Nat) : Int)) = (j : Int) + 1 := by omega
    rw [e2, ← rR_step n (j : Int) (by omega)]
    exact rR_all j (n + 1) (by omega)
theorem rfnd_eq {s : List UInt8} {k : Int} : rfnd s k = bc (fok s k) (fop s k) (-1) := by
  have h := rR_all (s := s) (k := k) 256 0 rfl
  have e : rR s k 0 ((256 : Nat) : Int) = -1 := rfl
  rw [e] at h
  have h : rfnd s k = rR s k 256 0 := h
  rw [h]
  unfold rR fok fop
  cases hit s k 256 0 <;> rfl
theorem pl_eq {o : Int} (h : 0 ≤ o) : eqI (rfnd (nm o) (md o)) o = pl o := by
  rw [rfnd_eq]
  unfold pl and2
  cases fok (nm o) (md o) with
  | true => rfl
  | false => rw [bc_false, bc_false]; exact eqI_false.2 (by omega)
end S
theorem rfR_run (k i b : Int) (s : List UInt8) : K.RunL (envL [(25, corE)]) K.openE 30 29 40 (inner (inner (blkOf 29 0))) rfLB [(0, .str s), (1, .int .i64 k), (5, .int .i64 b), (6, .int .i64 i)] [] Hint.auto ⟨.exit 0, [(5, .int .i64 (S.rfS s k (i + 1).toNat i b))], [], []⟩ =
    (bc (notB (ltI i (0 : Int))) (bc (S.isB i) (bc (eqB (S.nm i) s) (bc (eqI (S.md i) k) (bc (ltI b (0 : Int)) (K.LOk Tryd.prog 29 40 (inner (inner (blkOf 29 0))) [(0 : Nat), (1 : Nat), (5 : Nat), (6 : Nat)] [LV.str s, LV.int IntKind.i64 k, LV.int IntKind.i64 i, LV.int IntKind.i64 (wrapK IntKind.i64 (i - (1 : Int)))] [] { x := LX.exit (0 : Nat), L := [((5 : Nat), LV.int IntKind.i64 (S.rfS s k (Int.toNat (wrapK IntKind.i64 (i - (1 : Int)) + (1 : Int))) (wrapK IntKind.i64 (i - (1 : Int))) i))], ch := [], new := [] } ∧ (S.rfS s k (Int.toNat (i + (1 : Int))) i b = S.rfS s k (Int.toNat (wrapK IntKind.i64 (i - (1 : Int)) + (1 : Int))) (wrapK IntKind.i64 (i - (1 : Int))) i ∧ True)) (bc (S.kn i) (K.LOk Tryd.prog 29 40 (inner (inner (blkOf 29 0))) [(0 : Nat), (1 : Nat), (5 : Nat), (6 : Nat)] [LV.str s, LV.int IntKind.i64 k, LV.int IntKind.i64 i, LV.int IntKind.i64 (wrapK IntKind.i64 (i - (1 : Int)))] [] { x := LX.exit (0 : Nat), L := [((5 : Nat), LV.int IntKind.i64 (S.rfS s k (Int.toNat (wrapK IntKind.i64 (i - (1 : Int)) + (1 : Int))) (wrapK IntKind.i64 (i - (1 : Int))) i))], ch := [], new := [] } ∧ (S.rfS s k (Int.toNat (i + (1 : Int))) i b = S.rfS s k (Int.toNat (wrapK IntKind.i64 (i - (1 : Int)) + (1 : Int))) (wrapK IntKind.i64 (i - (1 : Int))) i ∧ True)) (bc (S.isB b) (bc (notB (S.kn b)) (K.LOk Tryd.prog 29 40 (inner (inner (blkOf 29 0))) [(0 : Nat), (1 : Nat), (5 : Nat), (6 : Nat)] [LV.str s, LV.int IntKind.i64 k, LV.int IntKind.i64 i, LV.int IntKind.i64 (wrapK IntKind.i64 (i - (1 : Int)))] [] { x := LX.exit (0 : Nat), L := [((5 : Nat), LV.int IntKind.i64 (S.rfS s k (Int.toNat (wrapK IntKind.i64 (i - (1 : Int)) + (1 : Int))) (wrapK IntKind.i64 (i - (1 : Int))) i))], ch := [], new := [] } ∧ (S.rfS s k (Int.toNat (i + (1 : Int))) i b = S.rfS s k (Int.toNat (wrapK IntKind.i64 (i - (1 : Int)) + (1 : Int))) (wrapK IntKind.i64 (i - (1 : Int))) i ∧ True)) (K.LOk Tryd.prog 29 40 (inner (inner (blkOf 29 0))) [(0 : Nat), (1 : Nat), (5 : Nat), (6 : Nat)] [LV.str s, LV.int IntKind.i64 k, LV.int IntKind.i64 b, LV.int IntKind.i64 (wrapK IntKind.i64 (i - (1 : Int)))] [] { x := LX.exit (0 : Nat), L := [((5 : Nat), LV.int IntKind.i64 (S.rfS s k (Int.toNat (wrapK IntKind.i64 (i - (1 : Int)) + (1 : Int))) (wrapK IntKind.i64 (i - (1 : Int))) b))], ch := [], new := [] } ∧ (S.rfS s k (Int.toNat (i + (1 : Int))) i b = S.rfS s k (Int.toNat (wrapK IntKind.i64 (i - (1 : Int)) + (1 : Int))) (wrapK IntKind.i64 (i - (1 : Int))) b ∧ True))) False))) (K.LOk Tryd.prog 29 40 (inner (inner (blkOf 29 0))) [(0 : Nat), (1 : Nat), (5 : Nat), (6 : Nat)] [LV.str s, LV.int IntKind.i64 k, LV.int IntKind.i64 b, LV.int IntKind.i64 (wrapK IntKind.i64 (i - (1 : Int)))] [] { x := LX.exit (0 : Nat), L := [((5 : Nat), LV.int IntKind.i64 (S.rfS s k (Int.toNat (wrapK IntKind.i64 (i - (1 : Int)) + (1 : Int))) (wrapK IntKind.i64 (i - (1 : Int))) b))], ch := [], new := [] } ∧ (S.rfS s k (Int.toNat (i + (1 : Int))) i b = S.rfS s k (Int.toNat (wrapK IntKind.i64 (i - (1 : Int)) + (1 : Int))) (wrapK IntKind.i64 (i - (1 : Int))) b ∧ True))) (K.LOk Tryd.prog 29 40 (inner (inner (blkOf 29 0))) [(0 : Nat), (1 : Nat), (5 : Nat), (6 : Nat)] [LV.str s, LV.int IntKind.i64 k, LV.int IntKind.i64 b, LV.int IntKind.i64 (wrapK IntKind.i64 (i - (1 : Int)))] [] { x := LX.exit (0 : Nat), L := [((5 : Nat), LV.int IntKind.i64 (S.rfS s k (Int.toNat (wrapK IntKind.i64 (i - (1 : Int)) + (1 : Int))) (wrapK IntKind.i64 (i - (1 : Int))) b))], ch := [], new := [] } ∧ (S.rfS s k (Int.toNat (i + (1 : Int))) i b = S.rfS s k (Int.toNat (wrapK IntKind.i64 (i - (1 : Int)) + (1 : Int))) (wrapK IntKind.i64 (i - (1 : Int))) b ∧ True))) False) (S.rfS s k (Int.toNat (i + (1 : Int))) i b = b ∧ True)) := by kernel_rfl
theorem rfR_con (k i b : Int) (s : List UInt8) (h0 : -1 ≤ i) (h1 : i < 256) (h2 : -1 ≤ b) (h3 : b < 256) (h4 : ∀ (b2 : Int), 0 ≤ i → -1 ≤ b2 → b2 < 256 → K.LOk Tryd.prog 29 40 (inner (inner (blkOf 29 0))) [0, 1, 5, 6] [.str s, .int .i64 k, .int .i64 b2, .int .i64 (i - 1)] [] ⟨.exit 0, [(5, .int .i64 (S.rfS s k ((i - 1) + 1).toNat (i - 1) b2))], [], []⟩)  : GT Tryd.prog (fun k => .code (inner (inner (blkOf 29 0))) :: .inLoop (inner (inner (blkOf 29 0))) :: k) (Fr.ofL 29 40 [(0, .str s), (1, .int .i64 k), (5, .int .i64 b), (6, .int .i64 i)] [] none) (Heap.of []) (⟨.exit 0, [(5, .int .i64 (S.rfS s k (i + 1).toNat i b))], [], []⟩ : K.BRes).x (Fr.ofL 29 40 (⟨.exit 0, [(5, .int .i64 (S.rfS s k (i + 1).toNat i b))], [], []⟩ : K.BRes).L [] none) (Heap.of (K.chg [] (⟨.exit 0, [(5, .int .i64 (S.rfS s k (i + 1).toNat i b))], [], []⟩ : K.BRes).ch ++ (⟨.exit 0, [(5, .int .i64 (S.rfS s k (i + 1).toNat i b))], [], []⟩ : K.BRes).new)) := by
  refine K.loop_of_run good (A := envL [(25, corE)]) (envL_ok ?_) K.openE_ok (k := 30) (ent := rfLB) (cast (rfR_run k i b s).symm ?_)
  · intro p hp; simp only [List.mem_cons, List.not_mem_nil, or_false] at hp; rcases hp with rfl <;> first | exact cor_ok
  · have w1 : wrapK .i64 (i - 1) = i - 1 := by rw [wrapK_i64]; omega
    by_cases hi : 0 ≤ i
    · have e0 : notB (ltI i 0) = true := notB_true.2 (ltI_false.2 hi)
      have hB : S.isB i = true := S.isB_iff.2 ⟨hi, h1⟩
      simp only [w1, e0, hB, bc_true]
      rw [S.rfS_at hi]
      cases c1 : eqB (S.nm i) s with
      | false =>
        have c : S.upd s k i b = b := by unfold S.upd S.mt; rw [c1]; rfl
        rw [c]
        exact ⟨h4 b hi h2 h3, rfl, trivial⟩
      | true =>
        cases c2 : eqI (S.md i) k with
        | false =>
          have c : S.upd s k i b = b := by unfold S.upd S.mt; rw [c1, c2]; rfl
          rw [c]
          exact ⟨h4 b hi h2 h3, rfl, trivial⟩
        | true =>
          cases c3 : ltI b 0 with
          | true =>
            have c : S.upd s k i b = i := by unfold S.upd S.mt; rw [c1, c2, c3]; rfl
            rw [c]
            exact ⟨h4 i hi (by omega) h1, rfl, trivial⟩
          | false =>
            have hb : S.isB b = true := S.isB_iff.2 ⟨ltI_false.1 c3, h3⟩
            simp only [hb, bc_true, bc_false]
            cases c4 : S.kn i with
            | true =>
              have c : S.upd s k i b = i := by unfold S.upd S.mt; rw [c1, c2, c3, c4]; rfl
              rw [c]
              exact ⟨h4 i hi (by omega) h1, rfl, trivial⟩
            | false =>
              cases c5 : S.kn b with
              | true =>
                have c : S.upd s k i b = b := by unfold S.upd S.mt; rw [c1, c2, c3, c4, c5]; rfl
                rw [c]
                exact ⟨h4 b hi h2 h3, rfl, trivial⟩
              | false =>
                have c : S.upd s k i b = i := by unfold S.upd S.mt; rw [c1, c2, c3, c4, c5]; rfl
                rw [c]
                exact ⟨h4 i hi (by omega) h1, rfl, trivial⟩
    · have e0 : notB (ltI i 0) = false := notB_false.2 (ltI_true.2 (by omega))
      simp only [e0, bc_false]
      exact ⟨S.rfS_end (by omega), trivial⟩
theorem rf_lok (k : Int) (s : List UInt8) : ∀ (j : Nat) (i b : Int), -1 ≤ i → i < 256 → -1 ≤ b → b < 256 → (i + 1).toNat = j → K.LOk Tryd.prog 29 40 (inner (inner (blkOf 29 0))) [0, 1, 5, 6] [.str s, .int .i64 k, .int .i64 b, .int .i64 i] [] ⟨.exit 0, [(5, .int .i64 (S.rfS s k (i + 1).toNat i b))], [], []⟩ := by
  intro j
  induction j with
  | zero =>
    intro i b h0 h1 h2 h3 hm
    exact rfR_con k i b s h0 h1 h2 h3 fun b2 hk => by omega
  | succ j ih =>
    intro i b h0 h1 h2 h3 hm
    exact rfR_con k i b s h0 h1 h2 h3 fun b2 hk g1 g2 => ih (i - 1) b2 (by omega) (by omega) g1 g2 (by omega)
theorem rf_blk (k : Int) (s : List UInt8) : K.BOk Tryd.prog 29 40 (blkOf 29 0) [0, 1, 5, 6] [.str s, .int .i64 k, .int .i64 (-1), .int .i64 255] [] ⟨.normal, [(5, .int .i64 (S.rfS s k 256 255 (-1)))], [], []⟩ := by
  have hb : blkOf 29 0 = .block 0 (.loop (inner (inner (blkOf 29 0)))) := by kernel_rfl
  unfold K.BOk
  rw [hb]
  exact K.CT.block (K.GT.loop (rf_lok k s _ 255 (-1) (by decide) (by decide) (by decide) (by decide) rfl))
theorem rfd_run (k : Int) (s : List UInt8) : K.bodyF (envB [] (fun g id => bc (Nat.beq g 29) (bc (Nat.beq id 0) (some rfBB) (none)) (none))) (K.runF (envB [] (fun g id => bc (Nat.beq g 29) (bc (Nat.beq id 0) (some rfBB) (none)) (none))) 30) 29 [.str s, .int .i64 k] (Heap.of []) Hint.auto (K.endC K.openE 0 ⟨.ret (.int .i64 (S.rfnd s k)), [], []⟩) =
    ((K.BOk Tryd.prog 29 40 (blkOf 29 0) [(0 : Nat), (1 : Nat), (5 : Nat), (6 : Nat)] [LV.str s, LV.int IntKind.i64 k, LV.int IntKind.i64 (-1 : Int), LV.int IntKind.i64 (255 : Int)] [] { x := LX.normal, L := [((5 : Nat), LV.int IntKind.i64 (S.rfS s k (256 : Nat) (255 : Int) (-1 : Int)))], ch := [], new := [] } ∧ (S.rfnd s k = S.rfS s k (256 : Nat) (255 : Int) (-1 : Int) ∧ True))) := by kernel_rfl
theorem rfd_con (k : Int) (s : List UInt8)  : HT Tryd.prog 29 [.str s, .int .i64 k] (Heap.of []) (⟨.ret (.int .i64 (S.rfnd s k)), [], []⟩ : K.CRes).e (Heap.of (K.chg [] (⟨.ret (.int .i64 (S.rfnd s k)), [], []⟩ : K.CRes).ch ++ (⟨.ret (.int .i64 (S.rfnd s k)), [], []⟩ : K.CRes).new)) := by
  refine K.con_of_run good (A := envB [] (fun g id => bc (Nat.beq g 29) (bc (Nat.beq id 0) (some rfBB) (none)) (none))) (envB_ok ?_) K.openE_ok (k := 30) (cast (rfd_run k s).symm ?_)
  · intro p hp; cases hp
  · exact ⟨rf_blk k s, rfl, trivial⟩
theorem rlnR_run (o : Int) : K.bodyF (envL [(25, corE)]) (K.runF (envL [(25, corE)]) 30) 28 [.int .i64 o] (Heap.of []) Hint.auto (K.endC K.openE 0 ⟨.ret (.int .i64 (S.len o)), [], []⟩) =
    (bc (S.isB o) (bc (notB (ltI (1 : Int) (S.md o))) (S.len o = (1 : Int) ∧ True) (bc (notB (ltI (S.md o) (6 : Int))) (bc (notB (ltI (8 : Int) (S.md o))) (S.len o = (3 : Int) ∧ True) (bc (eqI (S.md o) (12 : Int)) (S.len o = (3 : Int) ∧ True) (S.len o = (2 : Int) ∧ True))) (bc (eqI (S.md o) (12 : Int)) (S.len o = (3 : Int) ∧ True) (S.len o = (2 : Int) ∧ True)))) False) := by kernel_rfl
theorem rlnR_con (o : Int) (h0 : S.isB o = true)  : HT Tryd.prog 28 [.int .i64 o] (Heap.of []) (⟨.ret (.int .i64 (S.len o)), [], []⟩ : K.CRes).e (Heap.of (K.chg [] (⟨.ret (.int .i64 (S.len o)), [], []⟩ : K.CRes).ch ++ (⟨.ret (.int .i64 (S.len o)), [], []⟩ : K.CRes).new)) := by
  refine K.con_of_run good (A := envL [(25, corE)]) (envL_ok ?_) K.openE_ok (k := 30) (cast (rlnR_run o).symm ?_)
  · intro p hp; simp only [List.mem_cons, List.not_mem_nil, or_false] at hp; rcases hp with rfl <;> first | exact cor_ok
  · have r1 := S.isB_iff.1 h0
    obtain ⟨hl, hm⟩ := S.tab_at r1
    have a1 : notB (ltI 1 (S.md o)) = notB (ltI 1 (S.md o)) := rfl
    simp only [h0, bc_true]
    rcases S.md_cases hm with h | h | h | h | h | h | h | h | h | h | h | h | h <;> (unfold S.len S.is3; rw [h]; exact ⟨rfl, trivial⟩)
theorem rf_ok : rfE.ok Tryd.prog 29 := by
  intro xs os b r h h3
  unfold rfE at h
  simp only at h
  split at h
  · injection h with h; injection h with h1 h2; subst h1; subst h2
    exact rfd_con _ _
  · cases h
theorem rln_ok : rlnE.ok Tryd.prog 28 := by
  intro xs os b r h h3
  unfold rlnE at h
  simp only at h
  split at h
  · injection h with h; injection h with h1 h2; subst h1; subst h2
    exact rlnR_con _ h3
  · cases h
end Go.Proofs.YtlgfojaalmelhaaDoor.Ev
