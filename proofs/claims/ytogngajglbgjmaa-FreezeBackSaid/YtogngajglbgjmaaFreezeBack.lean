/- The law FreezeBack returns true: there and back; no words have two forms; its conditions: none. -/
import Derived.Test.YtogngajglbgjmaaRows
import Derived.Test.YtogngajglbgjmaaFfbP
import Derived.Test.YtogngajglbgjmaaArg
import Derived.Lib.SmallJoins
namespace Go.Proofs.Ytogngajglbgjmaa
open Go.ChangeShapes Go.ChangeAt Go.RowKit Go.Joins Go.WideShapes Go.Deep
theorem Try.own : ownKnob Try.prog.godebug = none := by kernel_rfl
theorem Try.laidOut : laidOutB Try.prog = true := by kernel_rfl
theorem cells_1 : Try.prog.cellsOf 3 = 1 := by kernel_rfl
theorem open_0 {H : Type} {enc : TypeId × Value → H} {w : World} {spare : Nat → Bool} {held : Bool} (n : Nat) (cs : List Value) (x : DataW H × List MemPlace) (h : DataW.trod enc Try.prog w 0 spare held n 3 cs = some x) : ∃ a : Int, (-9223372036854775808 ≤ a ∧ a ≤ 9223372036854775807) ∧ cs = Ev.decs (fun _ => Ev.rb0) (Ev.flatF Ev.S.inK (Ev.S.inV a)) := by
  obtain ⟨k, rfl, _, wk⟩ := DataW.trod_int Try.underlying3 h
  simp [Lit.wf, IntKind.min, IntKind.max, IntKind.signed, IntKind.bits] at wk
  exact ⟨k, by omega, rfl⟩
theorem cells_2 : Try.prog.cellsOf 5 = 1 := by kernel_rfl
theorem open_1 {H : Type} {enc : TypeId × Value → H} {w : World} {spare : Nat → Bool} {held : Bool} (n : Nat) (cs : List Value) (x : DataW H × List MemPlace) (h : DataW.trod enc Try.prog w 0 spare held n 5 cs = some x) : ∃ a : Int, (0 ≤ a ∧ a ≤ 255) ∧ cs = Ev.decs (fun _ => Ev.rb0) (Ev.flatF Ev.S.byK (Ev.S.byV a)) := by
  obtain ⟨k, rfl, _, wk⟩ := DataW.trod_int Try.underlying5 h
  simp [Lit.wf, IntKind.min, IntKind.max, IntKind.signed, IntKind.bits] at wk
  exact ⟨k, by omega, rfl⟩

theorem freezeBack_callsNN (W : World) : Calls Try.prog 5 #[.slice none 0 0, .slice none 0 0] W fun e W' => e = .returned (.bool true) ∧ Below W.heap.size W W' :=
  Ev.calls_true (ρ := fun _ => Ev.rb0) (Ev.fb_NN) (Ev.Sat.nil _ _) ⟨trivial, trivial, trivial⟩ (fun _ hi => absurd hi (Nat.not_lt_zero _))

theorem freezeBack_callsNE (W : World) (a1 : Addr) (cap1 : Nat) : Calls Try.prog 5 #[.slice none 0 0, .slice (some a1) 0 cap1] W fun e W' => e = .returned (.bool true) ∧ Below W.heap.size W W' :=
  Ev.calls_true (ρ := Ev.rhoOf [⟨⟨0, 0, 0, a1, cap1⟩, .empty⟩]) (Ev.fb_NE) (Ev.Sat.args (w := W) (rs := [⟨⟨0, 0, 0, a1, cap1⟩, .empty⟩]) (fun r hr => by
    simp only [List.mem_cons, List.not_mem_nil, or_false] at hr
    rcases hr with rfl
    · exact .inl rfl
    )).1 ⟨trivial, (by show 0 < 1; decide), trivial⟩ (Ev.Sat.args (w := W) (rs := [⟨⟨0, 0, 0, a1, cap1⟩, .empty⟩]) (fun r hr => by
    simp only [List.mem_cons, List.not_mem_nil, or_false] at hr
    rcases hr with rfl
    · exact .inl rfl
    )).2

theorem freezeBack_callsNS (W : World) (blk1 off1 cap1 : Nat) (l1 : List Int) (hz1 : 0 < l1.length) (hq1 : l1.length ≤ cap1) (hg1 : ∀ a, a ∈ l1 → 0 ≤ a ∧ a ≤ 255) (hb1 : blk1 < W.heap.size) (hc1 : ∀ j x, (Ev.flatF Ev.S.byK (l1.flatMap Ev.S.byV))[j]? = some x → W.cell? ⟨blk1, off1 + j, none⟩ = some (Ev.dec (fun _ => Ev.rb0) x)) : Calls Try.prog 5 #[.slice none 0 0, .slice (some ⟨blk1, off1, none⟩) l1.length cap1] W fun e W' => e = .returned (.bool true) ∧ Below W.heap.size W W' :=
  Ev.calls_true (ρ := Ev.rhoOf [⟨⟨blk1, off1, cap1, default, 0⟩, .flat Ev.S.byK 5 .ro (l1.flatMap Ev.S.byV)⟩]) (Ev.fb_NS l1 cap1 5 hz1 hq1 hg1) (Ev.Sat.args (w := W) (rs := [⟨⟨blk1, off1, cap1, default, 0⟩, .flat Ev.S.byK 5 .ro (l1.flatMap Ev.S.byV)⟩]) (fun r hr => by
    simp only [List.mem_cons, List.not_mem_nil, or_false] at hr
    rcases hr with rfl
    · exact .inr ⟨_, _, _, rfl, hb1, hc1⟩
    )).1 ⟨trivial, (by show 0 < 1; decide), trivial⟩ (Ev.Sat.args (w := W) (rs := [⟨⟨blk1, off1, cap1, default, 0⟩, .flat Ev.S.byK 5 .ro (l1.flatMap Ev.S.byV)⟩]) (fun r hr => by
    simp only [List.mem_cons, List.not_mem_nil, or_false] at hr
    rcases hr with rfl
    · exact .inr ⟨_, _, _, rfl, hb1, hc1⟩
    )).2

theorem freezeBack_callsEN (W : World) (a0 : Addr) (cap0 : Nat) : Calls Try.prog 5 #[.slice (some a0) 0 cap0, .slice none 0 0] W fun e W' => e = .returned (.bool true) ∧ Below W.heap.size W W' :=
  Ev.calls_true (ρ := Ev.rhoOf [⟨⟨0, 0, 0, a0, cap0⟩, .empty⟩]) (Ev.fb_EN) (Ev.Sat.args (w := W) (rs := [⟨⟨0, 0, 0, a0, cap0⟩, .empty⟩]) (fun r hr => by
    simp only [List.mem_cons, List.not_mem_nil, or_false] at hr
    rcases hr with rfl
    · exact .inl rfl
    )).1 ⟨(by show 0 < 1; decide), trivial, trivial⟩ (Ev.Sat.args (w := W) (rs := [⟨⟨0, 0, 0, a0, cap0⟩, .empty⟩]) (fun r hr => by
    simp only [List.mem_cons, List.not_mem_nil, or_false] at hr
    rcases hr with rfl
    · exact .inl rfl
    )).2

theorem freezeBack_callsEE (W : World) (a0 : Addr) (cap0 : Nat) (a1 : Addr) (cap1 : Nat) : Calls Try.prog 5 #[.slice (some a0) 0 cap0, .slice (some a1) 0 cap1] W fun e W' => e = .returned (.bool true) ∧ Below W.heap.size W W' :=
  Ev.calls_true (ρ := Ev.rhoOf [⟨⟨0, 0, 0, a0, cap0⟩, .empty⟩, ⟨⟨0, 0, 0, a1, cap1⟩, .empty⟩]) (Ev.fb_EE) (Ev.Sat.args (w := W) (rs := [⟨⟨0, 0, 0, a0, cap0⟩, .empty⟩, ⟨⟨0, 0, 0, a1, cap1⟩, .empty⟩]) (fun r hr => by
    simp only [List.mem_cons, List.not_mem_nil, or_false] at hr
    rcases hr with rfl | rfl
    · exact .inl rfl
    · exact .inl rfl
    )).1 ⟨(by show 0 < 2; decide), (by show 1 < 2; decide), trivial⟩ (Ev.Sat.args (w := W) (rs := [⟨⟨0, 0, 0, a0, cap0⟩, .empty⟩, ⟨⟨0, 0, 0, a1, cap1⟩, .empty⟩]) (fun r hr => by
    simp only [List.mem_cons, List.not_mem_nil, or_false] at hr
    rcases hr with rfl | rfl
    · exact .inl rfl
    · exact .inl rfl
    )).2

theorem freezeBack_callsES (W : World) (a0 : Addr) (cap0 : Nat) (blk1 off1 cap1 : Nat) (l1 : List Int) (hz1 : 0 < l1.length) (hq1 : l1.length ≤ cap1) (hg1 : ∀ a, a ∈ l1 → 0 ≤ a ∧ a ≤ 255) (hb1 : blk1 < W.heap.size) (hc1 : ∀ j x, (Ev.flatF Ev.S.byK (l1.flatMap Ev.S.byV))[j]? = some x → W.cell? ⟨blk1, off1 + j, none⟩ = some (Ev.dec (fun _ => Ev.rb0) x)) : Calls Try.prog 5 #[.slice (some a0) 0 cap0, .slice (some ⟨blk1, off1, none⟩) l1.length cap1] W fun e W' => e = .returned (.bool true) ∧ Below W.heap.size W W' :=
  Ev.calls_true (ρ := Ev.rhoOf [⟨⟨0, 0, 0, a0, cap0⟩, .empty⟩, ⟨⟨blk1, off1, cap1, default, 0⟩, .flat Ev.S.byK 5 .ro (l1.flatMap Ev.S.byV)⟩]) (Ev.fb_ES l1 cap1 5 hz1 hq1 hg1) (Ev.Sat.args (w := W) (rs := [⟨⟨0, 0, 0, a0, cap0⟩, .empty⟩, ⟨⟨blk1, off1, cap1, default, 0⟩, .flat Ev.S.byK 5 .ro (l1.flatMap Ev.S.byV)⟩]) (fun r hr => by
    simp only [List.mem_cons, List.not_mem_nil, or_false] at hr
    rcases hr with rfl | rfl
    · exact .inl rfl
    · exact .inr ⟨_, _, _, rfl, hb1, hc1⟩
    )).1 ⟨(by show 0 < 2; decide), (by show 1 < 2; decide), trivial⟩ (Ev.Sat.args (w := W) (rs := [⟨⟨0, 0, 0, a0, cap0⟩, .empty⟩, ⟨⟨blk1, off1, cap1, default, 0⟩, .flat Ev.S.byK 5 .ro (l1.flatMap Ev.S.byV)⟩]) (fun r hr => by
    simp only [List.mem_cons, List.not_mem_nil, or_false] at hr
    rcases hr with rfl | rfl
    · exact .inl rfl
    · exact .inr ⟨_, _, _, rfl, hb1, hc1⟩
    )).2

theorem freezeBack_callsSN (W : World) (blk0 off0 cap0 : Nat) (l0 : List Int) (hz0 : 0 < l0.length) (hq0 : l0.length ≤ cap0) (hg0 : ∀ a, a ∈ l0 → -9223372036854775808 ≤ a ∧ a ≤ 9223372036854775807) (hb0 : blk0 < W.heap.size) (hc0 : ∀ j x, (Ev.flatF Ev.S.inK (l0.flatMap Ev.S.inV))[j]? = some x → W.cell? ⟨blk0, off0 + j, none⟩ = some (Ev.dec (fun _ => Ev.rb0) x)) : Calls Try.prog 5 #[.slice (some ⟨blk0, off0, none⟩) l0.length cap0, .slice none 0 0] W fun e W' => e = .returned (.bool true) ∧ Below W.heap.size W W' :=
  Ev.calls_true (ρ := Ev.rhoOf [⟨⟨blk0, off0, cap0, default, 0⟩, .flat Ev.S.inK 3 .ro (l0.flatMap Ev.S.inV)⟩]) (Ev.fb_SN l0 cap0 3 hz0 hq0 hg0) (Ev.Sat.args (w := W) (rs := [⟨⟨blk0, off0, cap0, default, 0⟩, .flat Ev.S.inK 3 .ro (l0.flatMap Ev.S.inV)⟩]) (fun r hr => by
    simp only [List.mem_cons, List.not_mem_nil, or_false] at hr
    rcases hr with rfl
    · exact .inr ⟨_, _, _, rfl, hb0, hc0⟩
    )).1 ⟨(by show 0 < 1; decide), trivial, trivial⟩ (Ev.Sat.args (w := W) (rs := [⟨⟨blk0, off0, cap0, default, 0⟩, .flat Ev.S.inK 3 .ro (l0.flatMap Ev.S.inV)⟩]) (fun r hr => by
    simp only [List.mem_cons, List.not_mem_nil, or_false] at hr
    rcases hr with rfl
    · exact .inr ⟨_, _, _, rfl, hb0, hc0⟩
    )).2

theorem freezeBack_callsSE (W : World) (blk0 off0 cap0 : Nat) (l0 : List Int) (hz0 : 0 < l0.length) (hq0 : l0.length ≤ cap0) (hg0 : ∀ a, a ∈ l0 → -9223372036854775808 ≤ a ∧ a ≤ 9223372036854775807) (hb0 : blk0 < W.heap.size) (hc0 : ∀ j x, (Ev.flatF Ev.S.inK (l0.flatMap Ev.S.inV))[j]? = some x → W.cell? ⟨blk0, off0 + j, none⟩ = some (Ev.dec (fun _ => Ev.rb0) x)) (a1 : Addr) (cap1 : Nat) : Calls Try.prog 5 #[.slice (some ⟨blk0, off0, none⟩) l0.length cap0, .slice (some a1) 0 cap1] W fun e W' => e = .returned (.bool true) ∧ Below W.heap.size W W' :=
  Ev.calls_true (ρ := Ev.rhoOf [⟨⟨blk0, off0, cap0, default, 0⟩, .flat Ev.S.inK 3 .ro (l0.flatMap Ev.S.inV)⟩, ⟨⟨0, 0, 0, a1, cap1⟩, .empty⟩]) (Ev.fb_SE l0 cap0 3 hz0 hq0 hg0) (Ev.Sat.args (w := W) (rs := [⟨⟨blk0, off0, cap0, default, 0⟩, .flat Ev.S.inK 3 .ro (l0.flatMap Ev.S.inV)⟩, ⟨⟨0, 0, 0, a1, cap1⟩, .empty⟩]) (fun r hr => by
    simp only [List.mem_cons, List.not_mem_nil, or_false] at hr
    rcases hr with rfl | rfl
    · exact .inr ⟨_, _, _, rfl, hb0, hc0⟩
    · exact .inl rfl
    )).1 ⟨(by show 0 < 2; decide), (by show 1 < 2; decide), trivial⟩ (Ev.Sat.args (w := W) (rs := [⟨⟨blk0, off0, cap0, default, 0⟩, .flat Ev.S.inK 3 .ro (l0.flatMap Ev.S.inV)⟩, ⟨⟨0, 0, 0, a1, cap1⟩, .empty⟩]) (fun r hr => by
    simp only [List.mem_cons, List.not_mem_nil, or_false] at hr
    rcases hr with rfl | rfl
    · exact .inr ⟨_, _, _, rfl, hb0, hc0⟩
    · exact .inl rfl
    )).2

theorem freezeBack_callsSS (W : World) (blk0 off0 cap0 : Nat) (l0 : List Int) (hz0 : 0 < l0.length) (hq0 : l0.length ≤ cap0) (hg0 : ∀ a, a ∈ l0 → -9223372036854775808 ≤ a ∧ a ≤ 9223372036854775807) (hb0 : blk0 < W.heap.size) (hc0 : ∀ j x, (Ev.flatF Ev.S.inK (l0.flatMap Ev.S.inV))[j]? = some x → W.cell? ⟨blk0, off0 + j, none⟩ = some (Ev.dec (fun _ => Ev.rb0) x)) (blk1 off1 cap1 : Nat) (l1 : List Int) (hz1 : 0 < l1.length) (hq1 : l1.length ≤ cap1) (hg1 : ∀ a, a ∈ l1 → 0 ≤ a ∧ a ≤ 255) (hb1 : blk1 < W.heap.size) (hc1 : ∀ j x, (Ev.flatF Ev.S.byK (l1.flatMap Ev.S.byV))[j]? = some x → W.cell? ⟨blk1, off1 + j, none⟩ = some (Ev.dec (fun _ => Ev.rb0) x)) : Calls Try.prog 5 #[.slice (some ⟨blk0, off0, none⟩) l0.length cap0, .slice (some ⟨blk1, off1, none⟩) l1.length cap1] W fun e W' => e = .returned (.bool true) ∧ Below W.heap.size W W' :=
  Ev.calls_true (ρ := Ev.rhoOf [⟨⟨blk0, off0, cap0, default, 0⟩, .flat Ev.S.inK 3 .ro (l0.flatMap Ev.S.inV)⟩, ⟨⟨blk1, off1, cap1, default, 0⟩, .flat Ev.S.byK 5 .ro (l1.flatMap Ev.S.byV)⟩]) (Ev.fb_SS l0 cap0 3 hz0 hq0 hg0 l1 cap1 5 hz1 hq1 hg1) (Ev.Sat.args (w := W) (rs := [⟨⟨blk0, off0, cap0, default, 0⟩, .flat Ev.S.inK 3 .ro (l0.flatMap Ev.S.inV)⟩, ⟨⟨blk1, off1, cap1, default, 0⟩, .flat Ev.S.byK 5 .ro (l1.flatMap Ev.S.byV)⟩]) (fun r hr => by
    simp only [List.mem_cons, List.not_mem_nil, or_false] at hr
    rcases hr with rfl | rfl
    · exact .inr ⟨_, _, _, rfl, hb0, hc0⟩
    · exact .inr ⟨_, _, _, rfl, hb1, hc1⟩
    )).1 ⟨(by show 0 < 2; decide), (by show 1 < 2; decide), trivial⟩ (Ev.Sat.args (w := W) (rs := [⟨⟨blk0, off0, cap0, default, 0⟩, .flat Ev.S.inK 3 .ro (l0.flatMap Ev.S.inV)⟩, ⟨⟨blk1, off1, cap1, default, 0⟩, .flat Ev.S.byK 5 .ro (l1.flatMap Ev.S.byV)⟩]) (fun r hr => by
    simp only [List.mem_cons, List.not_mem_nil, or_false] at hr
    rcases hr with rfl | rfl
    · exact .inr ⟨_, _, _, rfl, hb0, hc0⟩
    · exact .inr ⟨_, _, _, rfl, hb1, hc1⟩
    )).2

set_option maxRecDepth 100000 in
theorem freezeBack_lifted (os : Os) (started : os.Started) (H : Type) (enc : TypeId × Value → H) :
    ReturnsInHanded {} Try.checked os 5 .any (Rows.freezeBackSpec.pre6 enc Try.prog Try.f5 Rows.freezeBackRow.domain false) (Rows.freezeBackSpec.post enc Try.prog Try.f5 false true false false) := by
  refine returnsInHanded_of_change (C := Try.checked) Try.own started (by kernel_rfl) Try.func5
    (ChangeSpec.witness6 (enc := enc) (C := Try.checked) false ⟨#[], #[.slice none 0 0, .slice none 0 0], []⟩ 8 (by kernel_rfl) (by kernel_rfl) (by kernel_rfl) (by kernel_rfl)) ?_
  intro W base args ds gs before hval0 hW hcnd _
  have hval : ∀ (j : Nat) t v, Try.f5.params[j]? = some t → args[j]? = some v → Value.okWide Try.prog W .any base t v := hval0
  have hW' := hW
  obtain ⟨p, q, hA0, hV, rfl, hfz, hnd⟩ := hW
  have hA : DataW.TrodAll enc Try.prog W 0 (fun _ => true) true Try.f5.params.toList args.toList ds p := hA0
  rw [Try.params5] at hA hval
  obtain ⟨v0, v1, d0, d1, p0, p1, rfl, rfl, rfl, h0, h1⟩ := trodAll_two hA
  obtain ⟨rfl, rfl⟩ := trodVars_none hV
  have s0 := Ev.open_rows (ks := Ev.S.inK) Ev.S.inV (fun a => -9223372036854775808 ≤ a ∧ a ≤ 9223372036854775807) Try.underlying22 cells_1 (fun _ => rfl) (by decide) open_0 (hval 0 22 v0 rfl rfl) h0
  have s1 := Ev.open_rows (ks := Ev.S.byK) Ev.S.byV (fun a => 0 ≤ a ∧ a ≤ 255) Try.underlying23 cells_2 (fun _ => rfl) (by decide) open_1 (hval 1 23 v1 rfl rfl) h1
  rcases s0 with rfl | ⟨a0, cap0, rfl⟩ | ⟨blk0, off0, cap0, l0, hz0, hg0, hb0, hq0, _, rfl, hc0⟩
  · rcases s1 with rfl | ⟨a1, cap1, rfl⟩ | ⟨blk1, off1, cap1, l1, hz1, hg1, hb1, hq1, _, rfl, hc1⟩
    · refine (freezeBack_callsNN W).mono fun e W' ⟨he, hb⟩ => ⟨_, he, ?_⟩
      exact Ev.post_true Try.laidOut (tb := 4) (by kernel_rfl) (by kernel_rfl) (of_decide_eq_true (by kernel_rfl)) hW' rfl rfl hb
    · refine (freezeBack_callsNE W a1 cap1).mono fun e W' ⟨he, hb⟩ => ⟨_, he, ?_⟩
      exact Ev.post_true Try.laidOut (tb := 4) (by kernel_rfl) (by kernel_rfl) (of_decide_eq_true (by kernel_rfl)) hW' rfl rfl hb
    · refine (freezeBack_callsNS W blk1 off1 cap1 l1 hz1 hq1 hg1 hb1 hc1).mono fun e W' ⟨he, hb⟩ => ⟨_, he, ?_⟩
      exact Ev.post_true Try.laidOut (tb := 4) (by kernel_rfl) (by kernel_rfl) (of_decide_eq_true (by kernel_rfl)) hW' rfl rfl hb
  · rcases s1 with rfl | ⟨a1, cap1, rfl⟩ | ⟨blk1, off1, cap1, l1, hz1, hg1, hb1, hq1, _, rfl, hc1⟩
    · refine (freezeBack_callsEN W a0 cap0).mono fun e W' ⟨he, hb⟩ => ⟨_, he, ?_⟩
      exact Ev.post_true Try.laidOut (tb := 4) (by kernel_rfl) (by kernel_rfl) (of_decide_eq_true (by kernel_rfl)) hW' rfl rfl hb
    · refine (freezeBack_callsEE W a0 cap0 a1 cap1).mono fun e W' ⟨he, hb⟩ => ⟨_, he, ?_⟩
      exact Ev.post_true Try.laidOut (tb := 4) (by kernel_rfl) (by kernel_rfl) (of_decide_eq_true (by kernel_rfl)) hW' rfl rfl hb
    · refine (freezeBack_callsES W a0 cap0 blk1 off1 cap1 l1 hz1 hq1 hg1 hb1 hc1).mono fun e W' ⟨he, hb⟩ => ⟨_, he, ?_⟩
      exact Ev.post_true Try.laidOut (tb := 4) (by kernel_rfl) (by kernel_rfl) (of_decide_eq_true (by kernel_rfl)) hW' rfl rfl hb
  · rcases s1 with rfl | ⟨a1, cap1, rfl⟩ | ⟨blk1, off1, cap1, l1, hz1, hg1, hb1, hq1, _, rfl, hc1⟩
    · refine (freezeBack_callsSN W blk0 off0 cap0 l0 hz0 hq0 hg0 hb0 hc0).mono fun e W' ⟨he, hb⟩ => ⟨_, he, ?_⟩
      exact Ev.post_true Try.laidOut (tb := 4) (by kernel_rfl) (by kernel_rfl) (of_decide_eq_true (by kernel_rfl)) hW' rfl rfl hb
    · refine (freezeBack_callsSE W blk0 off0 cap0 l0 hz0 hq0 hg0 hb0 hc0 a1 cap1).mono fun e W' ⟨he, hb⟩ => ⟨_, he, ?_⟩
      exact Ev.post_true Try.laidOut (tb := 4) (by kernel_rfl) (by kernel_rfl) (of_decide_eq_true (by kernel_rfl)) hW' rfl rfl hb
    · refine (freezeBack_callsSS W blk0 off0 cap0 l0 hz0 hq0 hg0 hb0 hc0 blk1 off1 cap1 l1 hz1 hq1 hg1 hb1 hc1).mono fun e W' ⟨he, hb⟩ => ⟨_, he, ?_⟩
      exact Ev.post_true Try.laidOut (tb := 4) (by kernel_rfl) (by kernel_rfl) (of_decide_eq_true (by kernel_rfl)) hW' rfl rfl hb

set_option maxRecDepth 100000 in
theorem freezeBack_holds : Rows.FreezeBackSaid :=
  OpenClaim.holds_of_wide 5 Try.f5 rfl rfl rfl rfl rfl rfl rfl ⟨rfl, rfl, rfl, rfl, rfl⟩ rfl rfl rfl rfl rfl (by kernel_rfl) Try.func5 (by kernel_rfl)
    (of_decide_eq_true (by kernel_rfl)) (by unfold Func.isWrapper; first | (rw [if_pos (by decide +kernel)]; kernel_rfl) | (rw [if_neg (by decide +kernel)]; exact ⟨rfl, rfl⟩))
    (fun os started H enc _ => freezeBack_lifted os started H enc)
end Go.Proofs.Ytogngajglbgjmaa
