/- The law CountPlaces returns true: a place, set anywhere, goes round in 160 ticks; its conditions: none. -/
import Derived.Test.YtmnpnomllcghmaaRows
import Derived.Test.YtmnpnomllcghmaaLcpP
import Derived.Lib.SmallJoins
namespace Go.Proofs.Ytmnpnomllcghmaa
open Go.ChangeShapes Go.ChangeAt Go.RowKit Go.Joins
theorem Try.own : ownKnob Try.prog.godebug = none := by kernel_rfl
theorem Try.laidOut : laidOutB Try.prog = true := by kernel_rfl

theorem countPlaces_calls (x0 : Int) (x1 : Int) (hl1 : 0 ≤ x1) (hu1 : x1 ≤ 255) (x2 : Int) (W : World) : Calls Try.prog 7 #[.int .i64 x0, .int .u8 x1, .int .i64 x2] W fun e W' => e = .returned (.bool true) ∧ Below W.heap.size W W' :=
  Ev.calls_true (ρ := fun _ => Ev.rb0) ((Ev.cpTop_con x0 x1 x2 (Ev.S.inR_iff.2 (by omega)))) (Ev.Sat.nil _ _) ⟨trivial, trivial, trivial, trivial⟩ (fun _ hi => absurd hi (Nat.not_lt_zero _))

set_option maxRecDepth 100000 in
theorem countPlaces_lifted (os : Os) (started : os.Started) (H : Type) (enc : TypeId × Value → H) :
    ReturnsInHanded {} Try.checked os 7 .any (Rows.countPlacesSpec.pre6 enc Try.prog Try.f7 Rows.countPlacesRow.domain false) (Rows.countPlacesSpec.post enc Try.prog Try.f7 false true false false) := by
  refine returnsInHanded_of_change (C := Try.checked) Try.own started (by kernel_rfl) Try.func7
    (ChangeSpec.witness6 (enc := enc) (C := Try.checked) false ⟨#[], #[.int .i64 0, .int .u8 0, .int .i64 0], []⟩ 8 (by kernel_rfl) (by kernel_rfl) (by kernel_rfl) (by kernel_rfl)) ?_
  intro W base args ds gs before hval0 hW hcnd _
  have hval : ∀ (j : Nat) t v, Try.f7.params[j]? = some t → args[j]? = some v → Value.okWide Try.prog W .any base t v := hval0
  have hW' := hW
  obtain ⟨p, q, hA0, hV, rfl, hfz, hnd⟩ := hW
  have hA : DataW.TrodAll enc Try.prog W 0 (fun _ => true) true Try.f7.params.toList args.toList ds p := hA0
  rw [Try.params7] at hA hval
  obtain ⟨v0, v1, v2, d0, d1, d2, p0, p1, p2, rfl, rfl, rfl, h0, h1, h2⟩ := trodAll_three hA
  obtain ⟨rfl, rfl⟩ := trodVars_none hV
  obtain ⟨x0, rfl, rfl, rfl, w0⟩ := open_int Try.underlying3 (hval 0 3 v0 rfl rfl) h0
  obtain ⟨x1, rfl, rfl, rfl, w1⟩ := open_int Try.underlying5 (hval 1 5 v1 rfl rfl) h1
  simp [Lit.wf, IntKind.min, IntKind.max, IntKind.signed, IntKind.bits] at w1
  obtain ⟨x2, rfl, rfl, rfl, w2⟩ := open_int Try.underlying3 (hval 2 3 v2 rfl rfl) h2
  refine (countPlaces_calls x0 x1 (by omega) (by omega) x2 W).mono fun e W' ⟨he, hb⟩ => ⟨_, he, ?_⟩
  exact Ev.post_true Try.laidOut (tb := 4) (by kernel_rfl) (by kernel_rfl) (of_decide_eq_true (by kernel_rfl)) hW' rfl rfl hb

set_option maxRecDepth 100000 in
theorem countPlaces_holds : Rows.CountPlacesSaid :=
  OpenClaim.holds_of_wide 7 Try.f7 rfl rfl rfl rfl rfl rfl rfl ⟨rfl, rfl, rfl, rfl, rfl⟩ rfl rfl rfl rfl rfl (by kernel_rfl) Try.func7 (by kernel_rfl)
    (of_decide_eq_true (by kernel_rfl)) (by unfold Func.isWrapper; first | (rw [if_pos (by decide +kernel)]; kernel_rfl) | (rw [if_neg (by decide +kernel)]; exact ⟨rfl, rfl⟩))
    (fun os started H enc _ => countPlaces_lifted os started H enc)
end Go.Proofs.Ytmnpnomllcghmaa
