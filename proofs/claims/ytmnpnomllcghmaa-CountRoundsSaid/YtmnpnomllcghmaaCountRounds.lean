/- The law CountRounds returns true for every two numbers: a divider by n, ticked n times, comes round once, and is where it was; its conditions: none. -/
import Derived.Test.YtmnpnomllcghmaaRows
import Derived.Test.YtmnpnomllcghmaaCrounds
namespace Go.Proofs.Ytmnpnomllcghmaa
open Go.ChangeShapes Go.ChangeAt Go.RowKit
theorem Try.own : ownKnob Try.prog.godebug = none := by kernel_rfl
theorem Try.laidOut : laidOutB Try.prog = true := by kernel_rfl

namespace Ev
theorem crC2_run (n a : Int) : Proves Try.prog pol02 1000 20 (crK n a) [.auto 3, .take false, .auto 6, .take false, .auto 4, .take false, .auto 22, .take true, .auto 19, .take true] [] =
    ((Con.holds Try.prog (awakeC 18) ∧ True ∧ True ∧ (false == decide (n < 1)) = true ∧ decide (a < 0) = true ∧ decide (n > 65536) = false ∧ decide (n < 1) = false ∧ decide (n > 2000) = false ∧ True) ∧ true = true ∧ True) := by kernel_rfl

theorem cr_holds (n a : Int) : (crK n a).holds Try.prog := by
  by_cases h1 : n > 2000
  · exact con_of good (pol := pol02) (lf := 1000) (k := 20) (ds := [.auto 3, .take true]) (l := []) (by rw [crA_run]; simp; omega)
  by_cases h2 : n < 1
  · exact con_of good (pol := pol02) (lf := 1000) (k := 20) (ds := [.auto 3, .take false, .auto 6, .take true, .auto 20, .take true]) (l := []) (by
      rw [crB_run]; refine ⟨⟨awake02, trivial, trivial, ?_⟩, rfl, trivial⟩; simp; omega)
  by_cases h3 : a < 0
  · exact con_of good (pol := pol02) (lf := 1000) (k := 20) (ds := [.auto 3, .take false, .auto 6, .take false, .auto 4, .take false, .auto 22, .take true, .auto 19, .take true]) (l := []) (by
      rw [crC2_run]; refine ⟨⟨awake02, trivial, trivial, ?_⟩, rfl, trivial⟩; simp; omega)
  by_cases h4 : a ≥ n
  · exact con_of good (pol := pol02) (lf := 1000) (k := 20) (ds := [.auto 3, .take false, .auto 6, .take false, .auto 4, .take false, .auto 22, .take false, .auto 13, .take true, .auto 11, .take true]) (l := []) (by
      rw [crC1_run]; refine ⟨⟨awake02, trivial, trivial, ?_⟩, rfl, trivial⟩; simp; omega)
  · exact con_of good (pol := pol02) (lf := 1000) (k := 20) (ds := [.auto 3, .take false, .auto 6, .take false, .auto 4, .take false, .auto 22, .take false, .auto 13, .take false, .auto 12, .loop (crLoop n a), .auto 22, .take true]) (l := []) (by
      rw [crD_run]
      refine ⟨⟨awake02, trivial, trivial, ?_, cr_loop (by omega) (by omega) (by omega) (by omega), ?_⟩, rfl, trivial⟩
      · simp
      · simp; omega)
end Ev

theorem countRounds_calls (n a : Int) (W : World) : Calls Try.prog 3 #[.int .i64 n, .int .i64 a] W fun e W' => e = .returned (.bool true) ∧ Below W.heap.size W W' :=
  Ev.calls_true (ρ := fun _ => Ev.rb0) (Ev.cr_holds n a) (Ev.Sat.nil _ _) ⟨trivial, trivial, trivial⟩ (fun i hi => absurd hi (Nat.not_lt_zero _))

set_option maxRecDepth 100000 in
theorem countRounds_lifted (os : Os) (started : os.Started) (H : Type) (enc : TypeId × Value → H) :
    ReturnsInHanded {} Try.checked os 3 .any (Rows.countRoundsSpec.pre6 enc Try.prog Try.f3 Rows.countRoundsRow.domain false) (Rows.countRoundsSpec.post enc Try.prog Try.f3 false true false false) := by
  refine returnsInHanded_of_change (C := Try.checked) Try.own started (by kernel_rfl) Try.func3
    (ChangeSpec.witness6 (enc := enc) (C := Try.checked) false ⟨#[], #[.int .i64 0, .int .i64 0], []⟩ 8 (by kernel_rfl) (by kernel_rfl) (by kernel_rfl) (by kernel_rfl)) ?_
  intro W base args ds gs before hval0 hW hcnd _
  have hval : ∀ (j : Nat) t v, Try.f3.params[j]? = some t → args[j]? = some v → Value.okWide Try.prog W .any base t v := hval0
  have hW' := hW
  obtain ⟨p, q, hA0, hV, rfl, hfz, hnd⟩ := hW
  have hA : DataW.TrodAll enc Try.prog W 0 (fun _ => true) true Try.f3.params.toList args.toList ds p := hA0
  rw [Try.params3] at hA hval
  obtain ⟨v0, v1, d0, d1, p0, p1, rfl, rfl, rfl, h0, h1⟩ := trodAll_two hA
  obtain ⟨rfl, rfl⟩ := trodVars_none hV
  obtain ⟨a, rfl, rfl, rfl, wa⟩ := open_int Try.underlying3 (hval 0 3 v0 rfl rfl) h0
  obtain ⟨b, rfl, rfl, rfl, wb⟩ := open_int Try.underlying3 (hval 1 3 v1 rfl rfl) h1
  refine (countRounds_calls a b W).mono fun e W' ⟨he, hb⟩ => ⟨_, he, ?_⟩
  exact Ev.post_true Try.laidOut (tb := 4) (by kernel_rfl) (by kernel_rfl) (of_decide_eq_true (by kernel_rfl)) hW' rfl rfl hb

set_option maxRecDepth 100000 in
theorem countRounds_holds : Rows.CountRoundsSaid :=
  OpenClaim.holds_of_wide 3 Try.f3 rfl rfl rfl rfl rfl rfl rfl ⟨rfl, rfl, rfl, rfl, rfl⟩ rfl rfl rfl rfl rfl (by kernel_rfl) Try.func3 (by kernel_rfl)
    (of_decide_eq_true (by kernel_rfl)) (by unfold Func.isWrapper; first | (rw [if_pos (by decide +kernel)]; kernel_rfl) | (rw [if_neg (by decide +kernel)]; exact ⟨rfl, rfl⟩))
    (fun os started H enc _ => countRounds_lifted os started H enc)
end Go.Proofs.Ytmnpnomllcghmaa
