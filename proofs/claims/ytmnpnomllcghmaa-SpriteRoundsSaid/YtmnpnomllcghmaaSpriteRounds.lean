/- The law SpriteRounds returns true: a thing that ticks 160 times is where it was, and started once for each of its starts; its conditions: none. -/
import Derived.Test.YtmnpnomllcghmaaRows
import Derived.Test.YtmnpnomllcghmaaLsrP
import Derived.Lib.SmallJoins
namespace Go.Proofs.Ytmnpnomllcghmaa
open Go.ChangeShapes Go.ChangeAt Go.RowKit Go.Joins Go.WideShapes Go.Deep
theorem Try.own : ownKnob Try.prog.godebug = none := by kernel_rfl
theorem Try.laidOut : laidOutB Try.prog = true := by kernel_rfl

theorem spriteRounds_calls (x0 : Int) (hl0 : 0 ≤ x0) (hu0 : x0 ≤ 255) (x1 : Int) (hl1 : 0 ≤ x1) (hu1 : x1 ≤ 255) (W : World) : Calls Try.prog 12 #[.int .u8 x0, .int .u8 x1] W fun e W' => e = .returned (.bool true) ∧ Below W.heap.size W W' :=
  Ev.calls_true (ρ := fun _ => Ev.rb0) (Ev.sr_top x0 hl0 hu0 x1 hl1 hu1) (Ev.Sat.nil _ _) ⟨trivial, trivial, trivial⟩ (fun _ hi => absurd hi (Nat.not_lt_zero _))

set_option maxRecDepth 100000 in
theorem spriteRounds_lifted (os : Os) (started : os.Started) (H : Type) (enc : TypeId × Value → H) :
    ReturnsInHanded {} Try.checked os 12 .any (Rows.spriteRoundsSpec.pre6 enc Try.prog Try.f12 Rows.spriteRoundsRow.domain false) (Rows.spriteRoundsSpec.post enc Try.prog Try.f12 false true false false) := by
  refine returnsInHanded_of_change (C := Try.checked) Try.own started (by kernel_rfl) Try.func12
    (ChangeSpec.witness6 (enc := enc) (C := Try.checked) false ⟨#[], #[.int .u8 0, .int .u8 0], []⟩ 8 (by kernel_rfl) (by kernel_rfl) (by kernel_rfl) (by kernel_rfl)) ?_
  intro W base args ds gs before hval0 hW hcnd _
  have hval : ∀ (j : Nat) t v, Try.f12.params[j]? = some t → args[j]? = some v → Value.okWide Try.prog W .any base t v := hval0
  have hW' := hW
  obtain ⟨p, q, hA0, hV, rfl, hfz, hnd⟩ := hW
  have hA : DataW.TrodAll enc Try.prog W 0 (fun _ => true) true Try.f12.params.toList args.toList ds p := hA0
  rw [Try.params12] at hA hval
  obtain ⟨v0, v1, d0, d1, p0, p1, rfl, rfl, rfl, h0, h1⟩ := trodAll_two hA
  obtain ⟨rfl, rfl⟩ := trodVars_none hV
  obtain ⟨x0, rfl, rfl, rfl, w0⟩ := open_int Try.underlying5 (hval 0 5 v0 rfl rfl) h0
  simp [Lit.wf, IntKind.min, IntKind.max, IntKind.signed, IntKind.bits] at w0
  obtain ⟨x1, rfl, rfl, rfl, w1⟩ := open_int Try.underlying5 (hval 1 5 v1 rfl rfl) h1
  simp [Lit.wf, IntKind.min, IntKind.max, IntKind.signed, IntKind.bits] at w1
  refine (spriteRounds_calls x0 (by omega) (by omega) x1 (by omega) (by omega) W).mono fun e W' ⟨he, hb⟩ => ⟨_, he, ?_⟩
  exact Ev.post_true Try.laidOut (tb := 4) (by kernel_rfl) (by kernel_rfl) (of_decide_eq_true (by kernel_rfl)) hW' rfl rfl hb

set_option maxRecDepth 100000 in
theorem spriteRounds_holds : Rows.SpriteRoundsSaid :=
  OpenClaim.holds_of_wide 12 Try.f12 rfl rfl rfl rfl rfl rfl rfl ⟨rfl, rfl, rfl, rfl, rfl⟩ rfl rfl rfl rfl rfl (by kernel_rfl) Try.func12 (by kernel_rfl)
    (of_decide_eq_true (by kernel_rfl)) (by unfold Func.isWrapper; first | (rw [if_pos (by decide +kernel)]; kernel_rfl) | (rw [if_neg (by decide +kernel)]; exact ⟨rfl, rfl⟩))
    (fun os started H enc _ => spriteRounds_lifted os started H enc)
end Go.Proofs.Ytmnpnomllcghmaa
