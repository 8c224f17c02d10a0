/- The law FreezeReads returns true: which words any bytes are; its conditions: none. -/
import Derived.Test.YtogngajglbgjmaaRows
import Derived.Test.YtogngajglbgjmaaFfrP
import Derived.Test.YtogngajglbgjmaaArg
import Derived.Lib.SmallJoins
namespace Go.Proofs.Ytogngajglbgjmaa
open Go.ChangeShapes Go.ChangeAt Go.RowKit Go.Joins Go.WideShapes Go.Deep
theorem Try.own : ownKnob Try.prog.godebug = none := by kernel_rfl
theorem Try.laidOut : laidOutB Try.prog = true := by kernel_rfl
theorem cells_1 : Try.prog.cellsOf 5 = 1 := by kernel_rfl
theorem open_0 {H : Type} {enc : TypeId × Value → H} {w : World} {spare : Nat → Bool} {held : Bool} (n : Nat) (cs : List Value) (x : DataW H × List MemPlace) (h : DataW.trod enc Try.prog w 0 spare held n 5 cs = some x) : ∃ a : Int, (0 ≤ a ∧ a ≤ 255) ∧ cs = Ev.decs (fun _ => Ev.rb0) (Ev.flatF Ev.S.byK (Ev.S.byV a)) := by
  obtain ⟨k, rfl, _, wk⟩ := DataW.trod_int Try.underlying5 h
  simp [Lit.wf, IntKind.min, IntKind.max, IntKind.signed, IntKind.bits] at wk
  exact ⟨k, by omega, rfl⟩

theorem freezeReads_callsN (W : World) : Calls Try.prog 4 #[.slice none 0 0] W fun e W' => e = .returned (.bool true) ∧ Below W.heap.size W W' :=
  Ev.calls_true (ρ := fun _ => Ev.rb0) (Ev.fq_N) (Ev.Sat.nil _ _) ⟨trivial, trivial⟩ (fun _ hi => absurd hi (Nat.not_lt_zero _))

theorem freezeReads_callsE (W : World) (a0 : Addr) (cap0 : Nat) : Calls Try.prog 4 #[.slice (some a0) 0 cap0] W fun e W' => e = .returned (.bool true) ∧ Below W.heap.size W W' :=
  Ev.calls_true (ρ := Ev.rhoOf [⟨⟨0, 0, 0, a0, cap0⟩, .empty⟩]) (Ev.fq_E) (Ev.Sat.args (w := W) (rs := [⟨⟨0, 0, 0, a0, cap0⟩, .empty⟩]) (fun r hr => by
    simp only [List.mem_cons, List.not_mem_nil, or_false] at hr
    rcases hr with rfl
    · exact .inl rfl
    )).1 ⟨(by show 0 < 1; decide), trivial⟩ (Ev.Sat.args (w := W) (rs := [⟨⟨0, 0, 0, a0, cap0⟩, .empty⟩]) (fun r hr => by
    simp only [List.mem_cons, List.not_mem_nil, or_false] at hr
    rcases hr with rfl
    · exact .inl rfl
    )).2

theorem freezeReads_callsS (W : World) (blk0 off0 cap0 : Nat) (l0 : List Int) (hz0 : 0 < l0.length) (hq0 : l0.length ≤ cap0) (hg0 : ∀ a, a ∈ l0 → 0 ≤ a ∧ a ≤ 255) (hb0 : blk0 < W.heap.size) (hc0 : ∀ j x, (Ev.flatF Ev.S.byK (l0.flatMap Ev.S.byV))[j]? = some x → W.cell? ⟨blk0, off0 + j, none⟩ = some (Ev.dec (fun _ => Ev.rb0) x)) : Calls Try.prog 4 #[.slice (some ⟨blk0, off0, none⟩) l0.length cap0] W fun e W' => e = .returned (.bool true) ∧ Below W.heap.size W W' :=
  Ev.calls_true (ρ := Ev.rhoOf [⟨⟨blk0, off0, cap0, default, 0⟩, .flat Ev.S.byK 5 .ro (l0.flatMap Ev.S.byV)⟩]) (Ev.fq_S l0 cap0 5 hz0 hq0 hg0) (Ev.Sat.args (w := W) (rs := [⟨⟨blk0, off0, cap0, default, 0⟩, .flat Ev.S.byK 5 .ro (l0.flatMap Ev.S.byV)⟩]) (fun r hr => by
    simp only [List.mem_cons, List.not_mem_nil, or_false] at hr
    rcases hr with rfl
    · exact .inr ⟨_, _, _, rfl, hb0, hc0⟩
    )).1 ⟨(by show 0 < 1; decide), trivial⟩ (Ev.Sat.args (w := W) (rs := [⟨⟨blk0, off0, cap0, default, 0⟩, .flat Ev.S.byK 5 .ro (l0.flatMap Ev.S.byV)⟩]) (fun r hr => by
    simp only [List.mem_cons, List.not_mem_nil, or_false] at hr
    rcases hr with rfl
    · exact .inr ⟨_, _, _, rfl, hb0, hc0⟩
    )).2

set_option maxRecDepth 100000 in
theorem freezeReads_lifted (os : Os) (started : os.Started) (H : Type) (enc : TypeId × Value → H) :
    ReturnsInHanded {} Try.checked os 4 .any (Rows.freezeReadsSpec.pre6 enc Try.prog Try.f4 Rows.freezeReadsRow.domain false) (Rows.freezeReadsSpec.post enc Try.prog Try.f4 false true false false) := by
  refine returnsInHanded_of_change (C := Try.checked) Try.own started (by kernel_rfl) Try.func4
    (ChangeSpec.witness6 (enc := enc) (C := Try.checked) false ⟨#[], #[.slice none 0 0], []⟩ 8 (by kernel_rfl) (by kernel_rfl) (by kernel_rfl) (by kernel_rfl)) ?_
  intro W base args ds gs before hval0 hW hcnd _
  have hval : ∀ (j : Nat) t v, Try.f4.params[j]? = some t → args[j]? = some v → Value.okWide Try.prog W .any base t v := hval0
  have hW' := hW
  obtain ⟨p, q, hA0, hV, rfl, hfz, hnd⟩ := hW
  have hA : DataW.TrodAll enc Try.prog W 0 (fun _ => true) true Try.f4.params.toList args.toList ds p := hA0
  rw [Try.params4] at hA hval
  obtain ⟨v0, d0, rfl, rfl, h0⟩ := trodAll_one hA
  obtain ⟨rfl, rfl⟩ := trodVars_none hV
  have s0 := Ev.open_rows (ks := Ev.S.byK) Ev.S.byV (fun a => 0 ≤ a ∧ a ≤ 255) Try.underlying23 cells_1 (fun _ => rfl) (by decide) open_0 (hval 0 23 v0 rfl rfl) h0
  rcases s0 with rfl | ⟨a0, cap0, rfl⟩ | ⟨blk0, off0, cap0, l0, hz0, hg0, hb0, hq0, _, rfl, hc0⟩
  · refine (freezeReads_callsN W).mono fun e W' ⟨he, hb⟩ => ⟨_, he, ?_⟩
    exact Ev.post_true Try.laidOut (tb := 4) (by kernel_rfl) (by kernel_rfl) (of_decide_eq_true (by kernel_rfl)) hW' rfl rfl hb
  · refine (freezeReads_callsE W a0 cap0).mono fun e W' ⟨he, hb⟩ => ⟨_, he, ?_⟩
    exact Ev.post_true Try.laidOut (tb := 4) (by kernel_rfl) (by kernel_rfl) (of_decide_eq_true (by kernel_rfl)) hW' rfl rfl hb
  · refine (freezeReads_callsS W blk0 off0 cap0 l0 hz0 hq0 hg0 hb0 hc0).mono fun e W' ⟨he, hb⟩ => ⟨_, he, ?_⟩
    exact Ev.post_true Try.laidOut (tb := 4) (by kernel_rfl) (by kernel_rfl) (of_decide_eq_true (by kernel_rfl)) hW' rfl rfl hb

set_option maxRecDepth 100000 in
theorem freezeReads_holds : Rows.FreezeReadsSaid :=
  OpenClaim.holds_of_wide 4 Try.f4 rfl rfl rfl rfl rfl rfl rfl ⟨rfl, rfl, rfl, rfl, rfl⟩ rfl rfl rfl rfl rfl (by kernel_rfl) Try.func4 (by kernel_rfl)
    (of_decide_eq_true (by kernel_rfl)) (by unfold Func.isWrapper; first | (rw [if_pos (by decide +kernel)]; kernel_rfl) | (rw [if_neg (by decide +kernel)]; exact ⟨rfl, rfl⟩))
    (fun os started H enc _ => freezeReads_lifted os started H enc)
end Go.Proofs.Ytogngajglbgjmaa
