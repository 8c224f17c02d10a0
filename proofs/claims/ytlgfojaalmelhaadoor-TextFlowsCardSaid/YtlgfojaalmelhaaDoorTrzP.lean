/- Contracts, proved: Trz. -/
import Derived.Test.YtlgfojaalmelhaaDoorTrzD
import Derived.Test.YtlgfojaalmelhaaDoorTrpP
namespace Go.Proofs.YtlgfojaalmelhaaDoor.Ev
open Go
set_option linter.unusedVariables false
set_option linter.unusedSimpArgs false
set_option maxRecDepth 100000
set_option maxHeartbeats 1000000
namespace S
theorem okE_at {es : List LV} : ∀ {N q : Nat}, okE es N = true → q < N → 0 ≤ intOf (K.atV es q) ∧ intOf (K.atV es q) < 65536
 | N + 1, q, h, hq => by
  obtain ⟨h1, h2⟩ := an_iff.1 (show an (isW (intOf (K.atV es N))) (okE es N) = true from h)
  by_cases e : q = N
  ·subst e; exact isW_iff.1 h1
  ·exact okE_at h2 (by omega)
theorem okG2_iff {vs es : List LV} {W N : Nat} {a : Int} : okG2 vs es W a N = true ↔ okF vs W a = true ∧ (N ≤ lenL es ∧ N ≤ 1000) ∧ okE es N = true := by unfold okG2; rw [an_iff, an_iff, an_iff, bleN, bleN]
theorem en_eq {es : List LV} {N q : Nat} {a : Int} (h : okE es N = true) (hq : q < N) (hA : 0 ≤ a ∧ a < 65536) : eq0 es q = a + en es a q ∧ en es a q = intOf (K.atV es q) - a := by
 have hr := okE_at h hq
 have e1 : eq0 es q = intOf (K.atV es q) := by unfold eq0; rw [Int.toNat_natCast, Nat.mul_one, Nat.zero_add, wrapK_i64]; omega
 have e2 : en es a q = intOf (K.atV es q) - a := by unfold en; rw [Int.toNat_natCast, Nat.mul_one, Nat.zero_add, wrapK_i64, wrapK_i64]; omega
 exact ⟨by rw [e1, e2]; omega, e2⟩
theorem led_iff {vs : List LV} {a y : Int} {q : Nat} : led vs a q (a + y) = true ↔ y ∈ suc vs a q := by
 unfold led
 rw [List.any_eq_true]
 constructor
 ·rintro ⟨z, h1, h2⟩
  have := eqI_true.1 h2
  rwa [show y = z by omega]
 ·exact fun h => ⟨y, h, eqI_true.2 rfl⟩
theorem hit_rch {vs es : List LV} {W N i : Nat} {a : Int} {f : Nat → Bool} (hA : 0 ≤ a ∧ a < 65536) (hE0 : okE es N = true) (hi : i < W) (hf : ∀ q : Nat, q < W → f q = true → rch vs W a (fun x => ∃ k, k < N ∧ en es a k = x) q) (h : hit vs W a es N (row f W) i = true) :
  f i = false ∧ fits vs W a i = true ∧ rch vs W a (fun x => ∃ k, k < N ∧ en es a k = x) i := by
 obtain ⟨⟨h1, h2⟩, h3⟩ := hit_iff.1 h
 have hv : valid vs W a (i : Int) := ⟨by omega, by omega, h2⟩
 refine ⟨?_, h2, ?_⟩
 ·cases hfi : f i with
  | false => rfl
  | true => rw [row_bg.2 ⟨hi, hfi⟩] at h1; cases h1
 ·unfold oL at h3
  cases ho : oE es N (a + i) 0 false with
  | true =>
   unfold oE at ho
   obtain ⟨q, _, hq, he⟩ := dcd_iff.1 ho
   have := (en_eq hE0 hq hA).1
   exact .start ⟨q, hq, by omega⟩ hv
  | false =>
   rw [ho] at h3
   obtain ⟨q, _, hq, hb, hl⟩ := dcd_iff.1 h3
   refine .step (hf q hq (row_bg.1 hb).2) ?_ hv
   rw [Int.toNat_natCast]
   exact led_iff.1 hl
theorem mk1_cvf {vs : List LV} {W i : Nat} {a : Int} {f : Nat → Bool} (hi : i < W) (hfit : fits vs W a i = true) : mk1 vs (row (cvf vs W f) W) i = row (cvf vs W (updB f i)) W := by
 unfold fits at hfit
 rw [an_iff, notB_true, notB_true, ltI_false, ltI_false] at hfit
 unfold mk1
 rcases len_cases (by1 vs i) with h | h | h
 ·rw [h]; exact rc_1 hi h
 ·rw [h] at hfit; rw [h]; exact rc_2 (by omega) h
 ·rw [h] at hfit; rw [h]; exact rc_3 (by omega) h
theorem pass {vs es : List LV} {W N : Nat} {a : Int} (hA : 0 ≤ a ∧ a < 65536) (hE0 : okE es N = true) : ∀ (j i : Nat) (f : Nat → Bool) (mo : Bool), i + j = W → (∀ q : Nat, q < W → f q = true → rch vs W a (fun x => ∃ k, k < N ∧ en es a k = x) q) →
  ∃ f2 : Nat → Bool, PB vs W a es N j i (row f W) = row f2 W ∧ PO vs W a es N j i (row f W) (row (cvf vs W f) W) = row (cvf vs W f2) W ∧ (∀ q : Nat, q < W → f2 q = true → rch vs W a (fun x => ∃ k, k < N ∧ en es a k = x) q) ∧ cnt f2 W ≤ cnt f W ∧
   (PM vs W a es N j i (row f W) mo = false → mo = false ∧ row f2 W = row f W ∧ ∀ q, i ≤ q → q < W → hit vs W a es N (row f W) q = false) ∧ (PM vs W a es N j i (row f W) mo = true → mo = true ∨ cnt f2 W < cnt f W) := by
 intro j
 induction j with
 | zero =>
  intro i f mo hij hf
  exact ⟨f, rfl, rfl, hf, Nat.le_refl _, fun h => ⟨h, rfl, fun q h1 h2 => by omega⟩, fun h => .inl h⟩
 | succ j ih =>
  intro i f mo hij hf
  have sB : PB vs W a es N (j + 1) i (row f W) = PB vs W a es N j (i + 1) (nb vs W a es N (row f W) i) := rfl
  have sO : PO vs W a es N (j + 1) i (row f W) (row (cvf vs W f) W) = PO vs W a es N j (i + 1) (nb vs W a es N (row f W) i) (bc (hit vs W a es N (row f W) i) (mk1 vs (row (cvf vs W f) W) i) (row (cvf vs W f) W)) := rfl
  have sM : PM vs W a es N (j + 1) i (row f W) mo = PM vs W a es N j (i + 1) (nb vs W a es N (row f W) i) (bc (hit vs W a es N (row f W) i) true mo) := rfl
  rw [sB, sO, sM]
  cases hh : hit vs W a es N (row f W) i with
  | false =>
   have hnb : nb vs W a es N (row f W) i = row f W := by unfold nb; rw [hh]; rfl
   rw [hnb, bc_false, bc_false]
   obtain ⟨f2, h1, h2, h3, h4, h5, h6⟩ := ih (i + 1) f mo (by omega) hf
   refine ⟨f2, h1, h2, h3, h4, fun h => ?_, h6⟩
   obtain ⟨k1, k2, k3⟩ := h5 h
   refine ⟨k1, k2, fun q hq1 hq2 => ?_⟩
   by_cases e : q = i
   ·subst e; exact hh
   ·exact k3 q (by omega) hq2
  | true =>
   have hi : i < W := by omega
   obtain ⟨r1, r2, r3⟩ := hit_rch hA hE0 hi hf hh
   have hnb : nb vs W a es N (row f W) i = row (updB f i) W := by unfold nb; rw [hh, bc_true, row_upd hi]
   rw [hnb, bc_true, bc_true, mk1_cvf hi r2]
   have hf2 : ∀ q : Nat, q < W → updB f i q = true → rch vs W a (fun x => ∃ k, k < N ∧ en es a k = x) q := fun q hq h => by
    rcases updB_iff.1 h with e | h
    ·subst e; exact r3
    ·exact hf q hq h
   obtain ⟨f2, h1, h2, h3, h4, h5, h6⟩ := ih (i + 1) (updB f i) true (by omega) hf2
   have hc := cnt_upd r1 hi
   refine ⟨f2, h1, h2, h3, by omega, fun h => ?_, fun _ => .inr (by omega)⟩
   have := (h5 h).1
   cases this
theorem closed {vs es : List LV} {W N : Nat} {a : Int} {f : Nat → Bool} (hA : 0 ≤ a ∧ a < 65536) (hE0 : okE es N = true) (hf : ∀ q : Nat, q < W → f q = true → rch vs W a (fun x => ∃ k, k < N ∧ en es a k = x) q) (hc : ∀ i, i < W → hit vs W a es N (row f W) i = false) :
  flw vs W a es N = row (cvf vs W f) W := by
 have up : ∀ x, rch vs W a (fun x => ∃ k, k < N ∧ en es a k = x) x → 0 ≤ x ∧ x < W ∧ f x.toNat = true := by
  have key : ∀ y : Int, valid vs W a y → (oL vs W a (row f W) (a + y) 0 (oE es N (a + y) 0 false) = true) → 0 ≤ y ∧ y < W ∧ f y.toNat = true := by
   intro y hv ho
   refine ⟨hv.1, hv.2.1, ?_⟩
   obtain ⟨i, rfl⟩ := Int.eq_ofNat_of_zero_le hv.1
   have hfit := hv.2.2
   rw [Int.toNat_natCast] at hfit ⊢
   have hi : i < W := by have := hv.2.1; omega
   cases hfi : f i with
   | true => rfl
   | false =>
    exfalso
    have hbg : bgAt (row f W) i = false := by
     cases hq : bgAt (row f W) i with
     | false => rfl
     | true => have := (row_bg.1 hq).2; rw [hfi] at this; cases this
    have := hit_iff.2 ⟨⟨hbg, hfit⟩, ho⟩
    rw [hc i hi] at this; cases this
  intro x hx
  induction hx with
  | start h hv =>
   refine key _ hv ?_
   obtain ⟨k, hk, he⟩ := h
   have := (en_eq hE0 hk hA).1
   have ho : oE es N (a + _) 0 false = true := dcd_iff.2 ⟨k, Nat.zero_le k, hk, by rw [this, he]⟩
   rw [ho]; rfl
  | step h hy hv ih =>
   refine key _ hv ?_
   have hl : dcd (hL vs W a (row f W) (a + _) 0) = true := dcd_iff.2 ⟨_, Nat.zero_le _, by omega, row_bg.2 ⟨by omega, ih.2.2⟩, led_iff.2 hy⟩
   unfold oL
   cases oE es N (a + _) 0 false with
   | true => rfl
   | false => exact hl
 unfold flw cvR
 refine row_ext fun p _ => ?_
 unfold cvf
 refine dcd_congr ⟨?_, ?_⟩
 ·rintro ⟨i, h1, h2⟩; exact ⟨i, up i h1, h2⟩
 ·rintro ⟨i, ⟨h1, h2, h3⟩, h4⟩
  exact ⟨i, hf i (by omega) h3, h4⟩
end S
theorem q0T_run (a : Int) (et e2 W N : Nat) (cp cq : Cap) (w w2 : Own) (vs es : List LV) (f : Nat → Bool) : K.RunL (envB [] (fun g id => bc (Nat.beq g 23) (bc (Nat.beq id 2) (some p2BB) (none)) (none))) K.openE 30 23 111 (inner (inner (blkOf 23 0))) q0EB [(0, .int .i64 a), (1, .slice 0 0 W cp), (2, .slice 1 0 N cq), (7, .slice 2 0 W (.known W)), (8, .slice 3 0 W (.known W)), (9, .bool true)] [.flat [.i .u8] et w vs, .flat [.i .u16] e2 w2 es, .flat [.bo] 4 .exact (S.row f W), .flat [.bo] 4 .exact (S.row (S.cvf vs W f) W)] Hint.auto ⟨.exit 0, [(8, .slice 3 0 W (.known W))], [(2, .dead), (3, .flat [.bo] 4 .exact (S.flw vs W a es N))], []⟩ =
  ((K.BOk Tryd.prog 23 111 (blkOf 23 2) [0, 1, 2, 7, 8, 9, 10] [LV.int IntKind.i64 a, LV.slice 0 0 W cp, LV.slice 1 0 N cq, LV.slice 2 0 W (Cap.known W), LV.slice 3 0 W (Cap.known W), LV.bool false, LV.int IntKind.i64 0] [LObj.flat [CK.i IntKind.u8] et w vs, LObj.flat [CK.i IntKind.u16] e2 w2 es, LObj.flat [CK.bo] 4 Own.exact (S.row f W), LObj.flat [CK.bo] 4 Own.exact (S.row (S.cvf vs W f) W)] { x := LX.normal, L := [(0, LV.int IntKind.i64 a), (1, LV.slice 0 0 W cp), (2, LV.slice 1 0 N cq), (7, LV.slice 2 0 W (Cap.known W)), (8, LV.slice 3 0 W (Cap.known W)), (9, LV.bool (S.PM vs W a es N (W - 0) 0 (S.row f W) false))], ch := [(2, LObj.flat [CK.bo] 4 Own.exact (S.PB vs W a es N (W - 0) 0 (S.row f W))), (3, LObj.flat [CK.bo] 4 Own.exact (S.PO vs W a es N (W - 0) 0 (S.row f W) (S.row (S.cvf vs W f) W)))], new := [] } ∧ (q0_T a et e2 W N cp cq w w2 vs es (S.PB vs W a es N (W - 0) 0 (S.row f W)) (S.PO vs W a es N (W - 0) 0 (S.row f W) (S.row (S.cvf vs W f) W)) (S.PM vs W a es N (W - 0) 0 (S.row f W) false) ∧ ((0 : Nat) = (0 : Nat) ∧ (W = W ∧ (Cap.known W = Cap.known W ∧ (S.flw vs W a es N = S.flw vs W a es N ∧ True))))))) := by kernel_rfl
theorem q0T_con (a : Int) (et e2 W N : Nat) (cp cq : Cap) (w w2 : Own) (vs es : List LV) (f : Nat → Bool) (hb : S.okB vs = true) (hl : lenL vs = W) (hW : W ≤ 1000) (hA : 0 ≤ a ∧ a < 65536) (hN : N ≤ lenL es) (hM : N ≤ 1000) (hE0 : S.okE es N = true) (hf : ∀ q : Nat, q < W → f q = true → S.rch vs W a (fun x => ∃ k, k < N ∧ S.en es a k = x) q) (IH : ∀ (f2 : Nat → Bool) (mo2 : Bool), (∀ q : Nat, q < W → f2 q = true → S.rch vs W a (fun x => ∃ k, k < N ∧ S.en es a k = x) q) → (mo2 = true → S.cnt f2 W < S.cnt f W) → (mo2 = false → ∀ i, i < W → S.hit vs W a es N (S.row f2 W) i = false) → q0_T a et e2 W N cp cq w w2 vs es (S.row f2 W) (S.row (S.cvf vs W f2) W) mo2) : GT Tryd.prog (fun k => .code (inner (inner (blkOf 23 0))) :: .inLoop (inner (inner (blkOf 23 0))) :: k) (Fr.ofL 23 111 [(0, .int .i64 a), (1, .slice 0 0 W cp), (2, .slice 1 0 N cq), (7, .slice 2 0 W (.known W)), (8, .slice 3 0 W (.known W)), (9, .bool true)] [] none) (Heap.of [.flat [.i .u8] et w vs, .flat [.i .u16] e2 w2 es, .flat [.bo] 4 .exact (S.row f W), .flat [.bo] 4 .exact (S.row (S.cvf vs W f) W)]) (⟨.exit 0, [(8, .slice 3 0 W (.known W))], [(2, .dead), (3, .flat [.bo] 4 .exact (S.flw vs W a es N))], []⟩ : K.BRes).x (Fr.ofL 23 111 (⟨.exit 0, [(8, .slice 3 0 W (.known W))], [(2, .dead), (3, .flat [.bo] 4 .exact (S.flw vs W a es N))], []⟩ : K.BRes).L [] none) (Heap.of (K.chg [.flat [.i .u8] et w vs, .flat [.i .u16] e2 w2 es, .flat [.bo] 4 .exact (S.row f W), .flat [.bo] 4 .exact (S.row (S.cvf vs W f) W)] (⟨.exit 0, [(8, .slice 3 0 W (.known W))], [(2, .dead), (3, .flat [.bo] 4 .exact (S.flw vs W a es N))], []⟩ : K.BRes).ch ++ (⟨.exit 0, [(8, .slice 3 0 W (.known W))], [(2, .dead), (3, .flat [.bo] 4 .exact (S.flw vs W a es N))], []⟩ : K.BRes).new)) := by
 refine K.loop_of_run good (A := envB [] (fun g id => bc (Nat.beq g 23) (bc (Nat.beq id 2) (some p2BB) (none)) (none))) (envB_ok ?_) K.openE_ok (k := 30) (ent := q0EB) (cast (q0T_run a et e2 W N cp cq w w2 vs es f).symm ?_)
 ·intro p hp; cases hp
 ·obtain ⟨f2, h1, h2, h3, h4, h5, h6⟩ := S.pass hA hE0 W 0 f false (Nat.zero_add W) hf
  have B := p2_blk a et e2 W N cp cq w w2 vs es hb hl hW hA hN hM f (S.cvf vs W f) false (fun q hq h => (S.rch_valid (hf q hq h)).2.2)
  rw [Nat.sub_zero] at B ⊢
  rw [h1, h2] at B ⊢
  refine ⟨B, IH f2 _ h3 (fun h => (h6 h).resolve_left (by decide)) (fun h i hi => ?_), rfl, rfl, rfl, rfl, trivial⟩
  obtain ⟨_, k2, k3⟩ := h5 h
  rw [k2]; exact k3 i (Nat.zero_le i) hi
theorem q0F_run (a : Int) (et e2 W N : Nat) (cp cq : Cap) (w w2 : Own) (vs es : List LV) (f : Nat → Bool) : K.RunL (envL []) K.openE 30 23 111 (inner (inner (blkOf 23 0))) q0EB [(0, .int .i64 a), (1, .slice 0 0 W cp), (2, .slice 1 0 N cq), (7, .slice 2 0 W (.known W)), (8, .slice 3 0 W (.known W)), (9, .bool false)] [.flat [.i .u8] et w vs, .flat [.i .u16] e2 w2 es, .flat [.bo] 4 .exact (S.row f W), .flat [.bo] 4 .exact (S.row (S.cvf vs W f) W)] Hint.auto ⟨.exit 0, [(8, .slice 3 0 W (.known W))], [(2, .dead), (3, .flat [.bo] 4 .exact (S.flw vs W a es N))], []⟩ =
  (((0 : Nat) = (0 : Nat) ∧ (W = W ∧ (Cap.known W = Cap.known W ∧ (S.flw vs W a es N = S.row (S.cvf vs W f) W ∧ True))))) := by kernel_rfl
theorem q0F_con (a : Int) (et e2 W N : Nat) (cp cq : Cap) (w w2 : Own) (vs es : List LV) (f : Nat → Bool) (hb : S.okB vs = true) (hl : lenL vs = W) (hW : W ≤ 1000) (hA : 0 ≤ a ∧ a < 65536) (hN : N ≤ lenL es) (hM : N ≤ 1000) (hE0 : S.okE es N = true) (hf : ∀ q : Nat, q < W → f q = true → S.rch vs W a (fun x => ∃ k, k < N ∧ S.en es a k = x) q) (hc : ∀ i, i < W → S.hit vs W a es N (S.row f W) i = false) : GT Tryd.prog (fun k => .code (inner (inner (blkOf 23 0))) :: .inLoop (inner (inner (blkOf 23 0))) :: k) (Fr.ofL 23 111 [(0, .int .i64 a), (1, .slice 0 0 W cp), (2, .slice 1 0 N cq), (7, .slice 2 0 W (.known W)), (8, .slice 3 0 W (.known W)), (9, .bool false)] [] none) (Heap.of [.flat [.i .u8] et w vs, .flat [.i .u16] e2 w2 es, .flat [.bo] 4 .exact (S.row f W), .flat [.bo] 4 .exact (S.row (S.cvf vs W f) W)]) (⟨.exit 0, [(8, .slice 3 0 W (.known W))], [(2, .dead), (3, .flat [.bo] 4 .exact (S.flw vs W a es N))], []⟩ : K.BRes).x (Fr.ofL 23 111 (⟨.exit 0, [(8, .slice 3 0 W (.known W))], [(2, .dead), (3, .flat [.bo] 4 .exact (S.flw vs W a es N))], []⟩ : K.BRes).L [] none) (Heap.of (K.chg [.flat [.i .u8] et w vs, .flat [.i .u16] e2 w2 es, .flat [.bo] 4 .exact (S.row f W), .flat [.bo] 4 .exact (S.row (S.cvf vs W f) W)] (⟨.exit 0, [(8, .slice 3 0 W (.known W))], [(2, .dead), (3, .flat [.bo] 4 .exact (S.flw vs W a es N))], []⟩ : K.BRes).ch ++ (⟨.exit 0, [(8, .slice 3 0 W (.known W))], [(2, .dead), (3, .flat [.bo] 4 .exact (S.flw vs W a es N))], []⟩ : K.BRes).new)) := by
 refine K.loop_of_run good (A := envL []) (envL_ok ?_) K.openE_ok (k := 30) (ent := q0EB) (cast (q0F_run a et e2 W N cp cq w w2 vs es f).symm ?_)
 ·intro p hp; cases hp
 ·exact ⟨rfl, rfl, rfl, S.closed hA hE0 hf hc, trivial⟩
theorem q0_lok (a : Int) (et e2 W N : Nat) (cp cq : Cap) (w w2 : Own) (vs es : List LV) (hb : S.okB vs = true) (hl : lenL vs = W) (hW : W ≤ 1000) (hA : 0 ≤ a ∧ a < 65536) (hN : N ≤ lenL es) (hM : N ≤ 1000) (hE0 : S.okE es N = true) : ∀ (j : Nat) (f : Nat → Bool) (mo : Bool), S.cnt f W = j → (∀ q : Nat, q < W → f q = true → S.rch vs W a (fun x => ∃ k, k < N ∧ S.en es a k = x) q) → (mo = false → ∀ i, i < W → S.hit vs W a es N (S.row f W) i = false) → q0_T a et e2 W N cp cq w w2 vs es (S.row f W) (S.row (S.cvf vs W f) W) mo := by
 intro j
 induction j using Nat.strongRecOn with
 | _ j ih =>
  intro f mo hm hf hc
  have F := fun (f2 : Nat → Bool) (h2 : ∀ q : Nat, q < W → f2 q = true → S.rch vs W a (fun x => ∃ k, k < N ∧ S.en es a k = x) q) (h3 : ∀ i, i < W → S.hit vs W a es N (S.row f2 W) i = false) => q0F_con a et e2 W N cp cq w w2 vs es f2 hb hl hW hA hN hM hE0 h2 h3
  cases mo with
  | false => exact F f hf (hc rfl)
  | true =>
   refine q0T_con a et e2 W N cp cq w w2 vs es f hb hl hW hA hN hM hE0 hf fun f2 mo2 k1 k2 k3 => ?_
   cases mo2 with
   | false => exact F f2 k1 (k3 rfl)
   | true => exact ih (S.cnt f2 W) (by have := k2 rfl; omega) f2 true rfl k1 (fun h => by cases h)
theorem q0_blk (a : Int) (et e2 W N : Nat) (cp cq : Cap) (w w2 : Own) (vs es : List LV) (hb : S.okB vs = true) (hl : lenL vs = W) (hW : W ≤ 1000) (hA : 0 ≤ a ∧ a < 65536) (hN : N ≤ lenL es) (hM : N ≤ 1000) (hE0 : S.okE es N = true) : K.BOk Tryd.prog 23 111 (blkOf 23 0) [0, 1, 2, 7, 8, 9] [.int .i64 a, .slice 0 0 W cp, .slice 1 0 N cq, .slice 2 0 W (.known W), .slice 3 0 W (.known W), .bool true] [.flat [.i .u8] et w vs, .flat [.i .u16] e2 w2 es, .flat [.bo] 4 .exact (S.zr W), .flat [.bo] 4 .exact (S.zr W)] ⟨.normal, [(8, .slice 3 0 W (.known W))], [(2, .dead), (3, .flat [.bo] 4 .exact (S.flw vs W a es N))], []⟩ := by
 have hb2 : blkOf 23 0 = .block 0 (.loop (inner (inner (blkOf 23 0)))) := by kernel_rfl
 have h := q0_lok a et e2 W N cp cq w w2 vs es hb hl hW hA hN hM hE0 _ (fun _ => false) true rfl (fun q _ h => by cases h) (fun h => by cases h)
 have z : S.row (S.cvf vs W fun _ => false) W = S.zr W := by
  have hI := S.inv_start (vs := vs) (es := []) (W := W) (N := 0) (a := a) hW (by omega)
  exact hI.rc.symm
 rw [z, ← S.zr_row] at h
 unfold K.BOk
 rw [hb2]
 exact K.CT.block (K.GT.loop h)
theorem rwS_run (a : Int) (et e2 W N : Nat) (cp cq : Cap) (w w2 : Own) (vs es : List LV) : K.bodyF (envB [] (fun g id => bc (Nat.beq g 23) (bc (Nat.beq id 0) (some q0BB) (none)) (none))) (K.runF (envB [] (fun g id => bc (Nat.beq g 23) (bc (Nat.beq id 0) (some q0BB) (none)) (none))) 30) 23 [.int .i64 a, .slice 0 0 W cp, .slice 1 0 N cq] (Heap.of [.flat [.i .u8] et w vs, .flat [.i .u16] e2 w2 es]) Hint.auto (K.endC K.openE 2 ⟨.ret (.slice 2 0 W (.known W)), [], [.flat [.bo] 4 .exact (S.flw vs W a es N)]⟩) =
  (bc (notB (ltI ↑W ↑W)) (bc (notB (ltI 1073741824 (↑W * ↑1))) (bc (notB (ltI 1073741824 ↑W)) (bc (notB (ltI ↑W ↑W)) (bc (notB (ltI 1073741824 (↑W * ↑1))) (bc (notB (ltI 1073741824 ↑W)) (K.BOk Tryd.prog 23 111 (blkOf 23 0) [0, 1, 2, 7, 8, 9] [LV.int IntKind.i64 a, LV.slice 0 0 W cp, LV.slice 1 0 N cq, LV.slice 2 0 (Int.toNat ↑W) (Cap.known (Int.toNat ↑W)), LV.slice 3 0 (Int.toNat ↑W) (Cap.known (Int.toNat ↑W)), LV.bool true] [LObj.flat [CK.i IntKind.u8] et w vs, LObj.flat [CK.i IntKind.u16] e2 w2 es, LObj.flat [CK.bo] 4 Own.exact (S.zr W), LObj.flat [CK.bo] 4 Own.exact (S.zr W)] { x := LX.normal, L := [(8, LV.slice 3 0 (Int.toNat ↑W) (Cap.known (Int.toNat ↑W)))], ch := [(2, LObj.dead), (3, LObj.flat [CK.bo] 4 Own.exact (S.flw vs W a es N))], new := [] } ∧ ((0 : Nat) = (0 : Nat) ∧ (W = Int.toNat ↑W ∧ (Cap.known W = Cap.known (Int.toNat ↑W) ∧ (S.flw vs W a es N = S.flw vs W a es N ∧ True))))) False) False) False) False) False) False) := by kernel_rfl
theorem rwS_con (a : Int) (et e2 W N : Nat) (cp cq : Cap) (w w2 : Own) (vs es : List LV) (h0 : S.okG2 vs es W a N = true)  : HT Tryd.prog 23 [.int .i64 a, .slice 0 0 W cp, .slice 1 0 N cq] (Heap.of [.flat [.i .u8] et w vs, .flat [.i .u16] e2 w2 es]) (⟨.ret (.slice 2 0 W (.known W)), [], [.flat [.bo] 4 .exact (S.flw vs W a es N)]⟩ : K.CRes).e (Heap.of (K.chg [.flat [.i .u8] et w vs, .flat [.i .u16] e2 w2 es] (⟨.ret (.slice 2 0 W (.known W)), [], [.flat [.bo] 4 .exact (S.flw vs W a es N)]⟩ : K.CRes).ch ++ (⟨.ret (.slice 2 0 W (.known W)), [], [.flat [.bo] 4 .exact (S.flw vs W a es N)]⟩ : K.CRes).new)) := by
 refine K.con_of_run good (A := envB [] (fun g id => bc (Nat.beq g 23) (bc (Nat.beq id 0) (some q0BB) (none)) (none))) (envB_ok ?_) K.openE_ok (k := 30) (cast (rwS_run a et e2 W N cp cq w w2 vs es).symm ?_)
 ·intro p hp; cases hp
 ·obtain ⟨hF, ⟨hN, hM⟩, hE0⟩ := S.okG2_iff.1 h0
  obtain ⟨⟨hb, hl⟩, hW, hA⟩ := S.okF_iff.1 hF
  have wa : wrapK .i64 a = a := by rw [wrapK_i64]; omega
  have c1 : ltI (W : Int) W = false := ltI_false.2 (Int.le_refl _)
  have c2 : ltI 1073741824 ((W : Int) * 1) = false := ltI_false.2 (by omega)
  have c3 : ltI 1073741824 (W : Int) = false := ltI_false.2 (by omega)
  have tn : Int.toNat (W : Int) = W := Int.toNat_natCast W
  simp only [c1, c2, c3, tn, notB_f, bc_true, and_true, true_and]
  have h := q0_blk a et e2 W N cp cq w w2 vs es hb hl hW hA hN hM hE0
  exact h
end Go.Proofs.YtlgfojaalmelhaaDoor.Ev
