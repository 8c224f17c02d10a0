/- The law TiaNil returns true: a chip that is not there tells nothing; its conditions: none. -/
import Derived.Test.YtnpbgnjiihecgaaGreatRows
import Derived.Test.YtnpbgnjiihecgaaGreatTinP
import Derived.Lib.SmallJoins
namespace Go.Proofs.YtnpbgnjiihecgaaGreat
open Go.ChangeShapes Go.ChangeAt Go.RowKit Go.Joins Go.WideShapes Go.Deep
theorem Tryz.own : ownKnob Tryz.prog.godebug = none := by kernel_rfl
theorem Tryz.laidOut : laidOutB Tryz.prog = true := by kernel_rfl

theorem array5 {α : Type} {cs : Array α} (h : cs.size = 5) : ∃ c0 c1 c2 c3 c4, cs = #[c0, c1, c2, c3, c4] := by
  obtain ⟨l⟩ := cs
  match l, h with
  | [c0, c1, c2, c3, c4], _ => exact ⟨c0, c1, c2, c3, c4, rfl⟩
theorem open_agg5 {H : Type} {enc : TypeId × Value → H} {P : Program} {w : World} {base : Nat} {spare : Nat → Bool} {held : Bool} {r : Reach} {b0 : Nat} {t : TypeId} {f0 f1 f2 f3 f4 : Field} {v : Value} {d : DataW H} {p : List MemPlace} (hs : P.underlying t = some (.struct #[f0, f1, f2, f3, f4])) (hone : oneCellFields P #[f0, f1, f2, f3, f4] = true) (hC : P.cellsOf t = 5)
    (hv : Value.okWide P w r b0 t v) (h : DataW.Trod enc P w base spare held t v d p) :
    ∃ (v0 v1 v2 v3 v4 : Value) (y0 y1 y2 y3 y4 : DataW H × List MemPlace) (n : Nat), v = .agg #[v0, v1, v2, v3, v4] ∧
      DataW.trod enc P w base spare held n f0.type [v0] = some y0 ∧ DataW.trod enc P w base spare held n f1.type [v1] = some y1 ∧ DataW.trod enc P w base spare held n f2.type [v2] = some y2 ∧ DataW.trod enc P w base spare held n f3.type [v3] = some y3 ∧ DataW.trod enc P w base spare held n f4.type [v4] = some y4 := by
  obtain ⟨cs, rfl, hsz⟩ := okWide_struct hs hv
  obtain ⟨c0, c1, c2, c3, c4, rfl⟩ := array5 (hsz.trans hC)
  obtain ⟨fuel, hf⟩ := h
  obtain ⟨xs, n, _, _, _, hlen, hx⟩ := DataW.trod_struct hs hf
  obtain ⟨o0, k0⟩ := hone_of hone 0 f0 rfl
  obtain ⟨o1, k1⟩ := hone_of hone 1 f1 rfl
  obtain ⟨o2, k2⟩ := hone_of hone 2 f2 rfl
  obtain ⟨o3, k3⟩ := hone_of hone 3 f3 rfl
  obtain ⟨o4, k4⟩ := hone_of hone 4 f4 rfl
  match xs, hlen with
  | [y0, y1, y2, y3, y4], _ =>
    have h0 := hx 0 f0 rfl
    have h1 := hx 1 f1 rfl
    have h2 := hx 2 f2 rfl
    have h3 := hx 3 f3 rfl
    have h4 := hx 4 f4 rfl
    exact ⟨c0, c1, c2, c3, c4, y0, y1, y2, y3, y4, n, rfl, by simpa [Value.cells, o0, k0] using h0, by simpa [Value.cells, o1, k1] using h1, by simpa [Value.cells, o2, k2] using h2, by simpa [Value.cells, o3, k3] using h3, by simpa [Value.cells, o4, k4] using h4⟩
theorem cells_Act : Tryz.prog.cellsOf 64 = 5 := by kernel_rfl

theorem tiaNil_calls (x0f0 x0f1 x0f2 x0f3 x0f4 : Int) (hl0_1 : 0 ≤ x0f1) (hu0_1 : x0f1 ≤ 65535) (hl0_2 : 0 ≤ x0f2) (hu0_2 : x0f2 ≤ 65535) (hl0_3 : 0 ≤ x0f3) (hu0_3 : x0f3 ≤ 255) (W : World) : Calls Tryz.prog 8 #[.agg #[.int .i64 x0f0, .int .u16 x0f1, .int .u16 x0f2, .int .u8 x0f3, .int .i64 x0f4]] W fun e W' => e = .returned (.bool true) ∧ Below W.heap.size W W' :=
  Ev.calls_true (ρ := fun _ => Ev.rb0) (Ev.tin_con x0f0 x0f1 x0f2 x0f3 x0f4) (Ev.Sat.nil _ _) ⟨⟨trivial, trivial, trivial, trivial, trivial, trivial⟩, trivial⟩ (fun _ hi => absurd hi (Nat.not_lt_zero _))

set_option maxRecDepth 100000 in
theorem tiaNil_lifted (os : Os) (started : os.Started) (H : Type) (enc : TypeId × Value → H) :
    ReturnsInHanded {} Tryz.checked os 8 .any (Rows.tiaNilSpec.pre6 enc Tryz.prog Tryz.f8 Rows.tiaNilRow.domain false) (Rows.tiaNilSpec.post enc Tryz.prog Tryz.f8 false true false false) := by
  refine returnsInHanded_of_change (C := Tryz.checked) Tryz.own started (by kernel_rfl) Tryz.func8
    (ChangeSpec.witness6 (enc := enc) (C := Tryz.checked) false ⟨#[], #[.agg #[.int .i64 0, .int .u16 0, .int .u16 0, .int .u8 0, .int .i64 0]], []⟩ 8 (by kernel_rfl) (by kernel_rfl) (by kernel_rfl) (by kernel_rfl)) ?_
  intro W base args ds gs before hval0 hW hcnd _
  have hval : ∀ (j : Nat) t v, Tryz.f8.params[j]? = some t → args[j]? = some v → Value.okWide Tryz.prog W .any base t v := hval0
  have hW' := hW
  obtain ⟨p, q, hA0, hV, rfl, hfz, hnd⟩ := hW
  have hA : DataW.TrodAll enc Tryz.prog W 0 (fun _ => true) true Tryz.f8.params.toList args.toList ds p := hA0
  rw [Tryz.params8] at hA hval
  obtain ⟨v0, d0, rfl, rfl, h0⟩ := trodAll_one hA
  obtain ⟨rfl, rfl⟩ := trodVars_none hV
  obtain ⟨x0c0, x0c1, x0c2, x0c3, x0c4, x0y0, x0y1, x0y2, x0y3, x0y4, x0m, rfl, x0h0, x0h1, x0h2, x0h3, x0h4⟩ := open_agg5 Tryz.underlying64 (by kernel_rfl) cells_Act (hval 0 64 v0 rfl rfl) h0
  obtain ⟨x0f0, x0e0, _, x0w0⟩ := DataW.trod_int Tryz.underlying3 x0h0
  obtain ⟨x0f1, x0e1, _, x0w1⟩ := DataW.trod_int Tryz.underlying62 x0h1
  obtain ⟨x0f2, x0e2, _, x0w2⟩ := DataW.trod_int Tryz.underlying62 x0h2
  obtain ⟨x0f3, x0e3, _, x0w3⟩ := DataW.trod_int Tryz.underlying5 x0h3
  obtain ⟨x0f4, x0e4, _, x0w4⟩ := DataW.trod_int Tryz.underlying3 x0h4
  simp at x0e0 x0e1 x0e2 x0e3 x0e4
  subst x0e0 x0e1 x0e2 x0e3 x0e4
  simp [Lit.wf, IntKind.min, IntKind.max, IntKind.signed, IntKind.bits] at x0w1
  simp [Lit.wf, IntKind.min, IntKind.max, IntKind.signed, IntKind.bits] at x0w2
  simp [Lit.wf, IntKind.min, IntKind.max, IntKind.signed, IntKind.bits] at x0w3
  refine (tiaNil_calls x0f0 x0f1 x0f2 x0f3 x0f4 (by omega) (by omega) (by omega) (by omega) (by omega) (by omega) W).mono fun e W' ⟨he, hb⟩ => ⟨_, he, ?_⟩
  exact Ev.post_true Tryz.laidOut (tb := 4) (by kernel_rfl) (by kernel_rfl) (of_decide_eq_true (by kernel_rfl)) hW' rfl rfl hb

set_option maxRecDepth 100000 in
theorem tiaNil_holds : Rows.TiaNilSaid :=
  OpenClaim.holds_of_wide 8 Tryz.f8 rfl rfl rfl rfl rfl rfl rfl ⟨rfl, rfl, rfl, rfl, rfl⟩ rfl rfl rfl rfl rfl (by kernel_rfl) Tryz.func8 (by kernel_rfl)
    (of_decide_eq_true (by kernel_rfl)) (by unfold Func.isWrapper; first | (rw [if_pos (by decide +kernel)]; kernel_rfl) | (rw [if_neg (by decide +kernel)]; exact ⟨rfl, rfl⟩))
    (fun os started H enc _ => tiaNil_lifted os started H enc)
end Go.Proofs.YtnpbgnjiihecgaaGreat
