/- The law BeamPlays returns true: a beam, whatever is done, is where a number modulo 228 is; its conditions: none. -/
import Derived.Test.YtmnpnomllcghmaaRows
import Derived.Test.YtmnpnomllcghmaaBplP
import Derived.Test.YtmnpnomllcghmaaArg
import Derived.Lib.SmallJoins
namespace Go.Proofs.Ytmnpnomllcghmaa
open Go.ChangeShapes Go.ChangeAt Go.RowKit Go.Joins Go.WideShapes Go.Deep
theorem Try.own : ownKnob Try.prog.godebug = none := by kernel_rfl
theorem Try.laidOut : laidOutB Try.prog = true := by kernel_rfl
theorem cells_1 : Try.prog.cellsOf 3 = 1 := by kernel_rfl
theorem cells_2 : Try.prog.cellsOf 52 = 1 := by kernel_rfl
theorem cells_3 : Try.prog.cellsOf 49 = 2 := by kernel_rfl
theorem cells_4 : Try.prog.cellsOf 54 = 4 := by kernel_rfl
theorem len_4 {α : Type} {l : List α} (h : l.length = 4) : ∃ c0 c1 c2 c3, l = [c0, c1, c2, c3] := by
  match l, h with
  | [c0, c1, c2, c3], _ => exact ⟨_, _, _, _, rfl⟩
theorem open_0 {H : Type} {enc : TypeId × Value → H} {w : World} {spare : Nat → Bool} {held : Bool} (n : Nat) (cs : List Value) (x : DataW H × List MemPlace) (h : DataW.trod enc Try.prog w 0 spare held n 54 cs = some x) : ∃ a : Ev.S.Act, (0 ≤ a.n ∧ a.n ≤ 65535) ∧ cs = Ev.decs (fun _ => Ev.rb0) (Ev.flatF Ev.S.actK (Ev.S.actV a)) := by
  obtain ⟨xs, m, rfl, _, hl, hxs, hf⟩ := DataW.trod_struct Try.underlying54 h
  rw [cells_4] at hl
  obtain ⟨c0, c1, c2, c3, rfl⟩ := len_4 hl
  simp only [List.size_toArray, List.length_cons, List.length_nil] at hxs
  have f0 : DataW.trod enc Try.prog w 0 spare held m 3 (([c0, c1, c2, c3].drop 0).take (Try.prog.cellsOf 3)) = xs[0]? := hf 0 _ rfl
  rw [List.getElem?_eq_getElem (by omega)] at f0
  simp only [cells_1, List.drop, List.take] at f0
  obtain ⟨k0, e0, _, wk0⟩ := DataW.trod_int Try.underlying3 f0
  have f1 : DataW.trod enc Try.prog w 0 spare held m 52 (([c0, c1, c2, c3].drop 1).take (Try.prog.cellsOf 52)) = xs[1]? := hf 1 _ rfl
  rw [List.getElem?_eq_getElem (by omega)] at f1
  simp only [cells_2, List.drop, List.take] at f1
  obtain ⟨k1, e1, _, wk1⟩ := DataW.trod_int Try.underlying52 f1
  have f2 : DataW.trod enc Try.prog w 0 spare held m 49 (([c0, c1, c2, c3].drop 2).take (Try.prog.cellsOf 49)) = xs[2]? := hf 2 _ rfl
  rw [List.getElem?_eq_getElem (by omega)] at f2
  simp only [cells_3, List.drop, List.take] at f2
  obtain ⟨ys2, m2, _, _, hyl2, hyn2, hy2⟩ := DataW.trod_array Try.underlying49 f2
  have g2_0 := hy2 0 (by omega)
  rw [List.getElem?_eq_getElem (by omega)] at g2_0
  simp only [cells_1, List.drop, List.take, Nat.zero_mul, Nat.one_mul, Nat.mul_one] at g2_0
  obtain ⟨k2, e2, _, wk2⟩ := DataW.trod_int Try.underlying3 g2_0
  have g2_1 := hy2 1 (by omega)
  rw [List.getElem?_eq_getElem (by omega)] at g2_1
  simp only [cells_1, List.drop, List.take, Nat.zero_mul, Nat.one_mul, Nat.mul_one] at g2_1
  obtain ⟨k3, e3, _, wk3⟩ := DataW.trod_int Try.underlying3 g2_1
  injection e0 with e0
  subst e0
  injection e1 with e1
  subst e1
  injection e2 with e2
  subst e2
  injection e3 with e3
  subst e3
  simp [Lit.wf, IntKind.min, IntKind.max, IntKind.signed, IntKind.bits] at wk1
  exact ⟨⟨k0, k1, k2, k3⟩, by simp only; omega, rfl⟩

theorem beamPlays_callsN (W : World) (x0 : Int) : Calls Try.prog 10 #[.int .i64 x0, .slice none 0 0] W fun e W' => e = .returned (.bool true) ∧ Below W.heap.size W W' :=
  Ev.calls_true (ρ := fun _ => Ev.rb0) (Ev.bp_N x0) (Ev.Sat.nil _ _) ⟨trivial, trivial, trivial⟩ (fun _ hi => absurd hi (Nat.not_lt_zero _))

theorem beamPlays_callsE (W : World) (x0 : Int) (a1 : Addr) (cap1 : Nat) : Calls Try.prog 10 #[.int .i64 x0, .slice (some a1) 0 cap1] W fun e W' => e = .returned (.bool true) ∧ Below W.heap.size W W' :=
  Ev.calls_true (ρ := Ev.rhoOf [⟨⟨0, 0, 0, a1, cap1⟩, .empty⟩]) (Ev.bp_E x0) (Ev.Sat.args (w := W) (rs := [⟨⟨0, 0, 0, a1, cap1⟩, .empty⟩]) (fun r hr => by
    simp only [List.mem_cons, List.not_mem_nil, or_false] at hr
    rcases hr with rfl
    · exact .inl rfl
    )).1 ⟨trivial, (by show 0 < 1; decide), trivial⟩ (Ev.Sat.args (w := W) (rs := [⟨⟨0, 0, 0, a1, cap1⟩, .empty⟩]) (fun r hr => by
    simp only [List.mem_cons, List.not_mem_nil, or_false] at hr
    rcases hr with rfl
    · exact .inl rfl
    )).2

theorem beamPlays_callsS (W : World) (x0 : Int) (blk1 off1 cap1 : Nat) (l1 : List Ev.S.Act) (hg1 : ∀ a, a ∈ l1 → 0 ≤ a.n ∧ a.n ≤ 65535) (hb1 : blk1 < W.heap.size) (hc1 : ∀ j x, (Ev.flatF Ev.S.actK (l1.flatMap Ev.S.actV))[j]? = some x → W.cell? ⟨blk1, off1 + j, none⟩ = some (Ev.dec (fun _ => Ev.rb0) x)) : Calls Try.prog 10 #[.int .i64 x0, .slice (some ⟨blk1, off1, none⟩) l1.length cap1] W fun e W' => e = .returned (.bool true) ∧ Below W.heap.size W W' :=
  Ev.calls_true (ρ := Ev.rhoOf [⟨⟨blk1, off1, cap1, default, 0⟩, .flat Ev.S.actK 54 .ro (l1.flatMap Ev.S.actV)⟩]) (Ev.bp_S x0 l1 cap1 54 hg1) (Ev.Sat.args (w := W) (rs := [⟨⟨blk1, off1, cap1, default, 0⟩, .flat Ev.S.actK 54 .ro (l1.flatMap Ev.S.actV)⟩]) (fun r hr => by
    simp only [List.mem_cons, List.not_mem_nil, or_false] at hr
    rcases hr with rfl
    · exact .inr ⟨_, _, _, rfl, hb1, hc1⟩
    )).1 ⟨trivial, (by show 0 < 1; decide), trivial⟩ (Ev.Sat.args (w := W) (rs := [⟨⟨blk1, off1, cap1, default, 0⟩, .flat Ev.S.actK 54 .ro (l1.flatMap Ev.S.actV)⟩]) (fun r hr => by
    simp only [List.mem_cons, List.not_mem_nil, or_false] at hr
    rcases hr with rfl
    · exact .inr ⟨_, _, _, rfl, hb1, hc1⟩
    )).2

set_option maxRecDepth 100000 in
theorem beamPlays_lifted (os : Os) (started : os.Started) (H : Type) (enc : TypeId × Value → H) :
    ReturnsInHanded {} Try.checked os 10 .any (Rows.beamPlaysSpec.pre6 enc Try.prog Try.f10 Rows.beamPlaysRow.domain false) (Rows.beamPlaysSpec.post enc Try.prog Try.f10 false true false false) := by
  refine returnsInHanded_of_change (C := Try.checked) Try.own started (by kernel_rfl) Try.func10
    (ChangeSpec.witness6 (enc := enc) (C := Try.checked) false ⟨#[], #[.int .i64 0, .slice none 0 0], []⟩ 8 (by kernel_rfl) (by kernel_rfl) (by kernel_rfl) (by kernel_rfl)) ?_
  intro W base args ds gs before hval0 hW hcnd _
  have hval : ∀ (j : Nat) t v, Try.f10.params[j]? = some t → args[j]? = some v → Value.okWide Try.prog W .any base t v := hval0
  have hW' := hW
  obtain ⟨p, q, hA0, hV, rfl, hfz, hnd⟩ := hW
  have hA : DataW.TrodAll enc Try.prog W 0 (fun _ => true) true Try.f10.params.toList args.toList ds p := hA0
  rw [Try.params10] at hA hval
  obtain ⟨v0, v1, d0, d1, p0, p1, rfl, rfl, rfl, h0, h1⟩ := trodAll_two hA
  obtain ⟨rfl, rfl⟩ := trodVars_none hV
  obtain ⟨x0, rfl, rfl, rfl, w0⟩ := open_int Try.underlying3 (hval 0 3 v0 rfl rfl) h0
  have s1 := Ev.open_rows (ks := Ev.S.actK) Ev.S.actV (fun a => 0 ≤ a.n ∧ a.n ≤ 65535) Try.underlying46 cells_4 (fun _ => rfl) (by decide) open_0 (hval 1 46 v1 rfl rfl) h1
  rcases s1 with rfl | ⟨a1, cap1, rfl⟩ | ⟨blk1, off1, cap1, l1, _, hg1, hb1, _, _, rfl, hc1⟩
  · refine (beamPlays_callsN W x0).mono fun e W' ⟨he, hb⟩ => ⟨_, he, ?_⟩
    exact Ev.post_true Try.laidOut (tb := 4) (by kernel_rfl) (by kernel_rfl) (of_decide_eq_true (by kernel_rfl)) hW' rfl rfl hb
  · refine (beamPlays_callsE W x0 a1 cap1).mono fun e W' ⟨he, hb⟩ => ⟨_, he, ?_⟩
    exact Ev.post_true Try.laidOut (tb := 4) (by kernel_rfl) (by kernel_rfl) (of_decide_eq_true (by kernel_rfl)) hW' rfl rfl hb
  · refine (beamPlays_callsS W x0 blk1 off1 cap1 l1 hg1 hb1 hc1).mono fun e W' ⟨he, hb⟩ => ⟨_, he, ?_⟩
    exact Ev.post_true Try.laidOut (tb := 4) (by kernel_rfl) (by kernel_rfl) (of_decide_eq_true (by kernel_rfl)) hW' rfl rfl hb

set_option maxRecDepth 100000 in
theorem beamPlays_holds : Rows.BeamPlaysSaid :=
  OpenClaim.holds_of_wide 10 Try.f10 rfl rfl rfl rfl rfl rfl rfl ⟨rfl, rfl, rfl, rfl, rfl⟩ rfl rfl rfl rfl rfl (by kernel_rfl) Try.func10 (by kernel_rfl)
    (of_decide_eq_true (by kernel_rfl)) (by unfold Func.isWrapper; first | (rw [if_pos (by decide +kernel)]; kernel_rfl) | (rw [if_neg (by decide +kernel)]; exact ⟨rfl, rfl⟩))
    (fun os started H enc _ => beamPlays_lifted os started H enc)
end Go.Proofs.Ytmnpnomllcghmaa
