/- The law FreezeFinds returns true: one byte that is another one is found; its conditions: none. -/
import Derived.Test.YtogngajglbgjmaaRows
import Derived.Test.YtogngajglbgjmaaFffP
import Derived.Test.YtogngajglbgjmaaArg
import Derived.Lib.SmallJoins
namespace Go.Proofs.Ytogngajglbgjmaa
open Go.ChangeShapes Go.ChangeAt Go.RowKit Go.Joins Go.WideShapes Go.Deep
theorem Try.own : ownKnob Try.prog.godebug = none := by kernel_rfl
theorem Try.laidOut : laidOutB Try.prog = true := by kernel_rfl
theorem cells_1 : Try.prog.cellsOf 3 = 1 := by kernel_rfl
theorem open_0 {H : Type} {enc : TypeId × Value → H} {w : World} {spare : Nat → Bool} {held : Bool} (n : Nat) (cs : List Value) (x : DataW H × List MemPlace) (h : DataW.trod enc Try.prog w 0 spare held n 3 cs = some x) : ∃ a : Int, (-9223372036854775808 ≤ a ∧ a ≤ 9223372036854775807) ∧ cs = Ev.decs (fun _ => Ev.rb0) (Ev.flatF Ev.S.inK (Ev.S.inV a)) := by
  obtain ⟨k, rfl, _, wk⟩ := DataW.trod_int Try.underlying3 h
  simp [Lit.wf, IntKind.min, IntKind.max, IntKind.signed, IntKind.bits] at wk
  exact ⟨k, by omega, rfl⟩

theorem freezeFinds_callsN (W : World) (x1 : Int) (x2 : Int) (hl2 : 0 ≤ x2) (hu2 : x2 ≤ 255) : Calls Try.prog 6 #[.slice none 0 0, .int .i64 x1, .int .u8 x2] W fun e W' => e = .returned (.bool true) ∧ Below W.heap.size W W' :=
  Ev.calls_true (ρ := fun _ => Ev.rb0) (Ev.ff_N x1 x2 hl2 hu2) (Ev.Sat.nil _ _) ⟨trivial, trivial, trivial, trivial⟩ (fun _ hi => absurd hi (Nat.not_lt_zero _))

theorem freezeFinds_callsE (W : World) (a0 : Addr) (cap0 : Nat) (x1 : Int) (x2 : Int) (hl2 : 0 ≤ x2) (hu2 : x2 ≤ 255) : Calls Try.prog 6 #[.slice (some a0) 0 cap0, .int .i64 x1, .int .u8 x2] W fun e W' => e = .returned (.bool true) ∧ Below W.heap.size W W' :=
  Ev.calls_true (ρ := Ev.rhoOf [⟨⟨0, 0, 0, a0, cap0⟩, .empty⟩]) (Ev.ff_E x1 x2 hl2 hu2) (Ev.Sat.args (w := W) (rs := [⟨⟨0, 0, 0, a0, cap0⟩, .empty⟩]) (fun r hr => by
    simp only [List.mem_cons, List.not_mem_nil, or_false] at hr
    rcases hr with rfl
    · exact .inl rfl
    )).1 ⟨(by show 0 < 1; decide), trivial, trivial, trivial⟩ (Ev.Sat.args (w := W) (rs := [⟨⟨0, 0, 0, a0, cap0⟩, .empty⟩]) (fun r hr => by
    simp only [List.mem_cons, List.not_mem_nil, or_false] at hr
    rcases hr with rfl
    · exact .inl rfl
    )).2

theorem freezeFinds_callsS (W : World) (blk0 off0 cap0 : Nat) (l0 : List Int) (hz0 : 0 < l0.length) (hq0 : l0.length ≤ cap0) (hg0 : ∀ a, a ∈ l0 → -9223372036854775808 ≤ a ∧ a ≤ 9223372036854775807) (hb0 : blk0 < W.heap.size) (hc0 : ∀ j x, (Ev.flatF Ev.S.inK (l0.flatMap Ev.S.inV))[j]? = some x → W.cell? ⟨blk0, off0 + j, none⟩ = some (Ev.dec (fun _ => Ev.rb0) x)) (x1 : Int) (x2 : Int) (hl2 : 0 ≤ x2) (hu2 : x2 ≤ 255) : Calls Try.prog 6 #[.slice (some ⟨blk0, off0, none⟩) l0.length cap0, .int .i64 x1, .int .u8 x2] W fun e W' => e = .returned (.bool true) ∧ Below W.heap.size W W' :=
  Ev.calls_true (ρ := Ev.rhoOf [⟨⟨blk0, off0, cap0, default, 0⟩, .flat Ev.S.inK 3 .ro (l0.flatMap Ev.S.inV)⟩]) (Ev.ff_S l0 cap0 3 hz0 hq0 hg0 x1 x2 hl2 hu2) (Ev.Sat.args (w := W) (rs := [⟨⟨blk0, off0, cap0, default, 0⟩, .flat Ev.S.inK 3 .ro (l0.flatMap Ev.S.inV)⟩]) (fun r hr => by
    simp only [List.mem_cons, List.not_mem_nil, or_false] at hr
    rcases hr with rfl
    · exact .inr ⟨_, _, _, rfl, hb0, hc0⟩
    )).1 ⟨(by show 0 < 1; decide), trivial, trivial, trivial⟩ (Ev.Sat.args (w := W) (rs := [⟨⟨blk0, off0, cap0, default, 0⟩, .flat Ev.S.inK 3 .ro (l0.flatMap Ev.S.inV)⟩]) (fun r hr => by
    simp only [List.mem_cons, List.not_mem_nil, or_false] at hr
    rcases hr with rfl
    · exact .inr ⟨_, _, _, rfl, hb0, hc0⟩
    )).2

set_option maxRecDepth 100000 in
theorem freezeFinds_lifted (os : Os) (started : os.Started) (H : Type) (enc : TypeId × Value → H) :
    ReturnsInHanded {} Try.checked os 6 .any (Rows.freezeFindsSpec.pre6 enc Try.prog Try.f6 Rows.freezeFindsRow.domain false) (Rows.freezeFindsSpec.post enc Try.prog Try.f6 false true false false) := by
  refine returnsInHanded_of_change (C := Try.checked) Try.own started (by kernel_rfl) Try.func6
    (ChangeSpec.witness6 (enc := enc) (C := Try.checked) false ⟨#[], #[.slice none 0 0, .int .i64 0, .int .u8 0], []⟩ 8 (by kernel_rfl) (by kernel_rfl) (by kernel_rfl) (by kernel_rfl)) ?_
  intro W base args ds gs before hval0 hW hcnd _
  have hval : ∀ (j : Nat) t v, Try.f6.params[j]? = some t → args[j]? = some v → Value.okWide Try.prog W .any base t v := hval0
  have hW' := hW
  obtain ⟨p, q, hA0, hV, rfl, hfz, hnd⟩ := hW
  have hA : DataW.TrodAll enc Try.prog W 0 (fun _ => true) true Try.f6.params.toList args.toList ds p := hA0
  rw [Try.params6] at hA hval
  obtain ⟨v0, v1, v2, d0, d1, d2, p0, p1, p2, rfl, rfl, rfl, h0, h1, h2⟩ := trodAll_three hA
  obtain ⟨rfl, rfl⟩ := trodVars_none hV
  have s0 := Ev.open_rows (ks := Ev.S.inK) Ev.S.inV (fun a => -9223372036854775808 ≤ a ∧ a ≤ 9223372036854775807) Try.underlying22 cells_1 (fun _ => rfl) (by decide) open_0 (hval 0 22 v0 rfl rfl) h0
  obtain ⟨x1, rfl, rfl, rfl, w1⟩ := open_int Try.underlying3 (hval 1 3 v1 rfl rfl) h1
  obtain ⟨x2, rfl, rfl, rfl, w2⟩ := open_int Try.underlying5 (hval 2 5 v2 rfl rfl) h2
  simp [Lit.wf, IntKind.min, IntKind.max, IntKind.signed, IntKind.bits] at w2
  rcases s0 with rfl | ⟨a0, cap0, rfl⟩ | ⟨blk0, off0, cap0, l0, hz0, hg0, hb0, hq0, _, rfl, hc0⟩
  · refine (freezeFinds_callsN W x1 x2 (by omega) (by omega)).mono fun e W' ⟨he, hb⟩ => ⟨_, he, ?_⟩
    exact Ev.post_true Try.laidOut (tb := 4) (by kernel_rfl) (by kernel_rfl) (of_decide_eq_true (by kernel_rfl)) hW' rfl rfl hb
  · refine (freezeFinds_callsE W a0 cap0 x1 x2 (by omega) (by omega)).mono fun e W' ⟨he, hb⟩ => ⟨_, he, ?_⟩
    exact Ev.post_true Try.laidOut (tb := 4) (by kernel_rfl) (by kernel_rfl) (of_decide_eq_true (by kernel_rfl)) hW' rfl rfl hb
  · refine (freezeFinds_callsS W blk0 off0 cap0 l0 hz0 hq0 hg0 hb0 hc0 x1 x2 (by omega) (by omega)).mono fun e W' ⟨he, hb⟩ => ⟨_, he, ?_⟩
    exact Ev.post_true Try.laidOut (tb := 4) (by kernel_rfl) (by kernel_rfl) (of_decide_eq_true (by kernel_rfl)) hW' rfl rfl hb

set_option maxRecDepth 100000 in
theorem freezeFinds_holds : Rows.FreezeFindsSaid :=
  OpenClaim.holds_of_wide 6 Try.f6 rfl rfl rfl rfl rfl rfl rfl ⟨rfl, rfl, rfl, rfl, rfl⟩ rfl rfl rfl rfl rfl (by kernel_rfl) Try.func6 (by kernel_rfl)
    (of_decide_eq_true (by kernel_rfl)) (by unfold Func.isWrapper; first | (rw [if_pos (by decide +kernel)]; kernel_rfl) | (rw [if_neg (by decide +kernel)]; exact ⟨rfl, rfl⟩))
    (fun os started H enc _ => freezeFinds_lifted os started H enc)
end Go.Proofs.Ytogngajglbgjmaa
