/- The law SpriteWords returns true: a thing set to the words of another goes on as that one; its conditions: none. -/
import Derived.Test.YtmnpnomllcghmaaRows
import Derived.Test.YtmnpnomllcghmaaSwdP
import Derived.Test.YtmnpnomllcghmaaArg
import Derived.Lib.SmallJoins
namespace Go.Proofs.Ytmnpnomllcghmaa
open Go.ChangeShapes Go.ChangeAt Go.RowKit Go.Joins Go.WideShapes Go.Deep
theorem Try.own : ownKnob Try.prog.godebug = none := by kernel_rfl
theorem Try.laidOut : laidOutB Try.prog = true := by kernel_rfl
theorem cells_1 : Try.prog.cellsOf 3 = 1 := by kernel_rfl
theorem cells_2 : Try.prog.cellsOf 52 = 1 := by kernel_rfl
theorem cells_3 : Try.prog.cellsOf 5 = 1 := by kernel_rfl
theorem cells_4 : Try.prog.cellsOf 76 = 3 := by kernel_rfl
theorem cells_5 : Try.prog.cellsOf 78 = 7 := by kernel_rfl
theorem len_7 {α : Type} {l : List α} (h : l.length = 7) : ∃ c0 c1 c2 c3 c4 c5 c6, l = [c0, c1, c2, c3, c4, c5, c6] := by
  match l, h with
  | [c0, c1, c2, c3, c4, c5, c6], _ => exact ⟨_, _, _, _, _, _, _, rfl⟩
theorem open_0 {H : Type} {enc : TypeId × Value → H} {w : World} {spare : Nat → Bool} {held : Bool} (n : Nat) (cs : List Value) (x : DataW H × List MemPlace) (h : DataW.trod enc Try.prog w 0 spare held n 78 cs = some x) : ∃ a : Ev.S.Act16, ((0 ≤ a.ticks ∧ a.ticks ≤ 65535) ∧ 0 ≤ a.copies ∧ a.copies ≤ 255) ∧ cs = Ev.decs (fun _ => Ev.rb0) (Ev.flatF Ev.S.act16K (Ev.S.act16V a)) := by
  obtain ⟨xs, m, rfl, _, hl, hxs, hf⟩ := DataW.trod_struct Try.underlying78 h
  rw [cells_5] at hl
  obtain ⟨c0, c1, c2, c3, c4, c5, c6, rfl⟩ := len_7 hl
  simp only [List.size_toArray, List.length_cons, List.length_nil] at hxs
  have f0 : DataW.trod enc Try.prog w 0 spare held m 3 (([c0, c1, c2, c3, c4, c5, c6].drop 0).take (Try.prog.cellsOf 3)) = xs[0]? := hf 0 _ rfl
  rw [List.getElem?_eq_getElem (by omega)] at f0
  simp only [cells_1, List.drop, List.take] at f0
  obtain ⟨k0, e0, _, wk0⟩ := DataW.trod_int Try.underlying3 f0
  have f1 : DataW.trod enc Try.prog w 0 spare held m 52 (([c0, c1, c2, c3, c4, c5, c6].drop 1).take (Try.prog.cellsOf 52)) = xs[1]? := hf 1 _ rfl
  rw [List.getElem?_eq_getElem (by omega)] at f1
  simp only [cells_2, List.drop, List.take] at f1
  obtain ⟨k1, e1, _, wk1⟩ := DataW.trod_int Try.underlying52 f1
  have f2 : DataW.trod enc Try.prog w 0 spare held m 5 (([c0, c1, c2, c3, c4, c5, c6].drop 2).take (Try.prog.cellsOf 5)) = xs[2]? := hf 2 _ rfl
  rw [List.getElem?_eq_getElem (by omega)] at f2
  simp only [cells_3, List.drop, List.take] at f2
  obtain ⟨k2, e2, _, wk2⟩ := DataW.trod_int Try.underlying5 f2
  have f3 : DataW.trod enc Try.prog w 0 spare held m 3 (([c0, c1, c2, c3, c4, c5, c6].drop 3).take (Try.prog.cellsOf 3)) = xs[3]? := hf 3 _ rfl
  rw [List.getElem?_eq_getElem (by omega)] at f3
  simp only [cells_1, List.drop, List.take] at f3
  obtain ⟨k3, e3, _, wk3⟩ := DataW.trod_int Try.underlying3 f3
  have f4 : DataW.trod enc Try.prog w 0 spare held m 76 (([c0, c1, c2, c3, c4, c5, c6].drop 4).take (Try.prog.cellsOf 76)) = xs[4]? := hf 4 _ rfl
  rw [List.getElem?_eq_getElem (by omega)] at f4
  simp only [cells_4, List.drop, List.take] at f4
  obtain ⟨ys4, m4, _, _, hyl4, hyn4, hy4⟩ := DataW.trod_array Try.underlying76 f4
  have g4_0 := hy4 0 (by omega)
  rw [List.getElem?_eq_getElem (by omega)] at g4_0
  simp only [cells_1, List.drop, List.take, Nat.zero_mul, Nat.one_mul, Nat.mul_one] at g4_0
  obtain ⟨k4, e4, _, wk4⟩ := DataW.trod_int Try.underlying3 g4_0
  have g4_1 := hy4 1 (by omega)
  rw [List.getElem?_eq_getElem (by omega)] at g4_1
  simp only [cells_1, List.drop, List.take, Nat.zero_mul, Nat.one_mul, Nat.mul_one] at g4_1
  obtain ⟨k5, e5, _, wk5⟩ := DataW.trod_int Try.underlying3 g4_1
  have g4_2 := hy4 2 (by omega)
  rw [List.getElem?_eq_getElem (by omega)] at g4_2
  simp only [cells_1, List.drop, List.take, Nat.zero_mul, Nat.one_mul, Nat.mul_one] at g4_2
  obtain ⟨k6, e6, _, wk6⟩ := DataW.trod_int Try.underlying3 g4_2
  injection e0 with e0
  subst e0
  injection e1 with e1
  subst e1
  injection e2 with e2
  subst e2
  injection e3 with e3
  subst e3
  injection e4 with e4
  subst e4
  injection e5 with e5
  subst e5
  injection e6 with e6
  subst e6
  simp [Lit.wf, IntKind.min, IntKind.max, IntKind.signed, IntKind.bits] at wk1
  simp [Lit.wf, IntKind.min, IntKind.max, IntKind.signed, IntKind.bits] at wk2
  exact ⟨⟨k0, k1, k2, k3, k4, k5, k6⟩, by simp only; omega, rfl⟩

theorem spriteWords_callsN (W : World) (x1 : Int) (hl1 : 0 ≤ x1) (hu1 : x1 ≤ 255) : Calls Try.prog 14 #[.slice none 0 0, .int .u8 x1] W fun e W' => e = .returned (.bool true) ∧ Below W.heap.size W W' :=
  Ev.calls_true (ρ := fun _ => Ev.rb0) (Ev.sw_N x1 hl1 hu1) (Ev.Sat.nil _ _) ⟨trivial, trivial, trivial⟩ (fun _ hi => absurd hi (Nat.not_lt_zero _))

theorem spriteWords_callsE (W : World) (a0 : Addr) (cap0 : Nat) (x1 : Int) (hl1 : 0 ≤ x1) (hu1 : x1 ≤ 255) : Calls Try.prog 14 #[.slice (some a0) 0 cap0, .int .u8 x1] W fun e W' => e = .returned (.bool true) ∧ Below W.heap.size W W' :=
  Ev.calls_true (ρ := Ev.rhoOf [⟨⟨0, 0, 0, a0, cap0⟩, .empty⟩]) (Ev.sw_E x1 hl1 hu1) (Ev.Sat.args (w := W) (rs := [⟨⟨0, 0, 0, a0, cap0⟩, .empty⟩]) (fun r hr => by
    simp only [List.mem_cons, List.not_mem_nil, or_false] at hr
    rcases hr with rfl
    · exact .inl rfl
    )).1 ⟨(by show 0 < 1; decide), trivial, trivial⟩ (Ev.Sat.args (w := W) (rs := [⟨⟨0, 0, 0, a0, cap0⟩, .empty⟩]) (fun r hr => by
    simp only [List.mem_cons, List.not_mem_nil, or_false] at hr
    rcases hr with rfl
    · exact .inl rfl
    )).2

theorem spriteWords_callsS (W : World) (blk0 off0 cap0 : Nat) (l0 : List Ev.S.Act16) (hg0 : ∀ a, a ∈ l0 → (0 ≤ a.ticks ∧ a.ticks ≤ 65535) ∧ 0 ≤ a.copies ∧ a.copies ≤ 255) (hb0 : blk0 < W.heap.size) (hc0 : ∀ j x, (Ev.flatF Ev.S.act16K (l0.flatMap Ev.S.act16V))[j]? = some x → W.cell? ⟨blk0, off0 + j, none⟩ = some (Ev.dec (fun _ => Ev.rb0) x)) (x1 : Int) (hl1 : 0 ≤ x1) (hu1 : x1 ≤ 255) : Calls Try.prog 14 #[.slice (some ⟨blk0, off0, none⟩) l0.length cap0, .int .u8 x1] W fun e W' => e = .returned (.bool true) ∧ Below W.heap.size W W' :=
  Ev.calls_true (ρ := Ev.rhoOf [⟨⟨blk0, off0, cap0, default, 0⟩, .flat Ev.S.act16K 78 .ro (l0.flatMap Ev.S.act16V)⟩]) (Ev.sw_S l0 cap0 78 hg0 x1 hl1 hu1) (Ev.Sat.args (w := W) (rs := [⟨⟨blk0, off0, cap0, default, 0⟩, .flat Ev.S.act16K 78 .ro (l0.flatMap Ev.S.act16V)⟩]) (fun r hr => by
    simp only [List.mem_cons, List.not_mem_nil, or_false] at hr
    rcases hr with rfl
    · exact .inr ⟨_, _, _, rfl, hb0, hc0⟩
    )).1 ⟨(by show 0 < 1; decide), trivial, trivial⟩ (Ev.Sat.args (w := W) (rs := [⟨⟨blk0, off0, cap0, default, 0⟩, .flat Ev.S.act16K 78 .ro (l0.flatMap Ev.S.act16V)⟩]) (fun r hr => by
    simp only [List.mem_cons, List.not_mem_nil, or_false] at hr
    rcases hr with rfl
    · exact .inr ⟨_, _, _, rfl, hb0, hc0⟩
    )).2

set_option maxRecDepth 100000 in
theorem spriteWords_lifted (os : Os) (started : os.Started) (H : Type) (enc : TypeId × Value → H) :
    ReturnsInHanded {} Try.checked os 14 .any (Rows.spriteWordsSpec.pre6 enc Try.prog Try.f14 Rows.spriteWordsRow.domain false) (Rows.spriteWordsSpec.post enc Try.prog Try.f14 false true false false) := by
  refine returnsInHanded_of_change (C := Try.checked) Try.own started (by kernel_rfl) Try.func14
    (ChangeSpec.witness6 (enc := enc) (C := Try.checked) false ⟨#[], #[.slice none 0 0, .int .u8 0], []⟩ 8 (by kernel_rfl) (by kernel_rfl) (by kernel_rfl) (by kernel_rfl)) ?_
  intro W base args ds gs before hval0 hW hcnd _
  have hval : ∀ (j : Nat) t v, Try.f14.params[j]? = some t → args[j]? = some v → Value.okWide Try.prog W .any base t v := hval0
  have hW' := hW
  obtain ⟨p, q, hA0, hV, rfl, hfz, hnd⟩ := hW
  have hA : DataW.TrodAll enc Try.prog W 0 (fun _ => true) true Try.f14.params.toList args.toList ds p := hA0
  rw [Try.params14] at hA hval
  obtain ⟨v0, v1, d0, d1, p0, p1, rfl, rfl, rfl, h0, h1⟩ := trodAll_two hA
  obtain ⟨rfl, rfl⟩ := trodVars_none hV
  have s0 := Ev.open_rows (ks := Ev.S.act16K) Ev.S.act16V (fun a => (0 ≤ a.ticks ∧ a.ticks ≤ 65535) ∧ 0 ≤ a.copies ∧ a.copies ≤ 255) Try.underlying72 cells_5 (fun _ => rfl) (by decide) open_0 (hval 0 72 v0 rfl rfl) h0
  obtain ⟨x1, rfl, rfl, rfl, w1⟩ := open_int Try.underlying5 (hval 1 5 v1 rfl rfl) h1
  simp [Lit.wf, IntKind.min, IntKind.max, IntKind.signed, IntKind.bits] at w1
  rcases s0 with rfl | ⟨a0, cap0, rfl⟩ | ⟨blk0, off0, cap0, l0, _, hg0, hb0, _, _, rfl, hc0⟩
  · refine (spriteWords_callsN W x1 (by omega) (by omega)).mono fun e W' ⟨he, hb⟩ => ⟨_, he, ?_⟩
    exact Ev.post_true Try.laidOut (tb := 4) (by kernel_rfl) (by kernel_rfl) (of_decide_eq_true (by kernel_rfl)) hW' rfl rfl hb
  · refine (spriteWords_callsE W a0 cap0 x1 (by omega) (by omega)).mono fun e W' ⟨he, hb⟩ => ⟨_, he, ?_⟩
    exact Ev.post_true Try.laidOut (tb := 4) (by kernel_rfl) (by kernel_rfl) (of_decide_eq_true (by kernel_rfl)) hW' rfl rfl hb
  · refine (spriteWords_callsS W blk0 off0 cap0 l0 hg0 hb0 hc0 x1 (by omega) (by omega)).mono fun e W' ⟨he, hb⟩ => ⟨_, he, ?_⟩
    exact Ev.post_true Try.laidOut (tb := 4) (by kernel_rfl) (by kernel_rfl) (of_decide_eq_true (by kernel_rfl)) hW' rfl rfl hb

set_option maxRecDepth 100000 in
theorem spriteWords_holds : Rows.SpriteWordsSaid :=
  OpenClaim.holds_of_wide 14 Try.f14 rfl rfl rfl rfl rfl rfl rfl ⟨rfl, rfl, rfl, rfl, rfl⟩ rfl rfl rfl rfl rfl (by kernel_rfl) Try.func14 (by kernel_rfl)
    (of_decide_eq_true (by kernel_rfl)) (by unfold Func.isWrapper; first | (rw [if_pos (by decide +kernel)]; kernel_rfl) | (rw [if_neg (by decide +kernel)]; exact ⟨rfl, rfl⟩))
    (fun os started H enc _ => spriteWords_lifted os started H enc)
end Go.Proofs.Ytmnpnomllcghmaa
