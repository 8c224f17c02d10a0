/- From a contract to what a row asks: the law returns true, and what its arguments name is as it was. -/
import Derived.Test.YtmnpnomllcghmaaFun2
import Derived.ProofKit
namespace Go.Proofs.Ytmnpnomllcghmaa.Ev
open Go Go.ChangeShapes Go.ChangeAt Go.RowKit

section
variable {H : Type} {enc : TypeId × Value → H} {P : Program}

theorem below_trodAll (hl : laidOutB P = true) {W W' : World} (hb : Below W.heap.size W W') : ∀ (ts : List TypeId) (vs : List Value) (ds : List (DataW H)) (ps : List MemPlace), (∀ t, t ∈ ts → P.readableRec t = true ∧ t < P.types.size) →
    DataW.TrodAll enc P W 0 (fun _ => true) true ts vs ds ps → (∀ x, x ∈ ps → x.block < W.heap.size) → DataW.TrodAll enc P W' 0 (fun b => decide (b < W.heap.size)) true ts vs ds ps
  | [], _, _, _, _, h, _ => by
    obtain ⟨rfl, rfl, rfl⟩ := trodAll_nil h
    simp [DataW.TrodAll]
  | t :: ts, _, _, _, ht, h, hp => by
    obtain ⟨v, vs1, d, ds1, a, b, rfl, rfl, rfl, h1, h2⟩ := trodAll_cons h
    have h3 := Below.trod hl (ht t (by simp)).1 (ht t (by simp)).2 h1 hb (fun x hx => hp x (by simp [hx]))
    have h4 := below_trodAll hl hb ts vs1 ds1 b (fun t' h' => ht t' (by simp [h'])) h2 (fun x hx => hp x (by simp [hx]))
    exact ⟨a, b, h3, h4, rfl⟩

theorem post_true (hl : laidOutB P = true) {f : Func} {s : ChangeSpec} {apart : Bool} {W W' : World} {args : Array Value} {ds gs : List (DataW H)} {before : List MemPlace} {tb : TypeId}
    (hres : f.resultTypes = #[tb]) (hb : P.underlying tb = some .bool) (hts : ∀ t, t ∈ f.params.toList → P.readableRec t = true ∧ t < P.types.size)
    (hW : DataW.Whole enc P f.params.toList s.vars apart W args.toList ds gs before) (hv : s.vars = []) (hfn : s.fn H (ds ++ gs) = { results := [.lit (.bool true)], args := ds }) (hbel : Below W.heap.size W W') :
    s.post enc P f apart true false false W args (.bool true) W' := by
  have hlt := hW.lt
  obtain ⟨p, q, hA, hV, hps, hnf, hnd⟩ := id hW
  rw [hv] at hV
  obtain ⟨rfl, rfl⟩ := trodVars_none hV
  refine ⟨ds, [], before, [], before, [], hW, ?_, ?_, ?_, World.keptBut_mono (fun x hx => ⟨hx, .inr (.inl hx)⟩) (hbel.frame (· ∈ before)), fun h => by cases h⟩
  · rw [hfn, hres]
    exact trodAll_mk1 (shut_bool hb true)
  · rw [hfn]
    have : before = p := by simpa using hps
    rw [this]
    exact below_trodAll hl hbel _ _ _ _ hts hA (fun x hx => hlt x (by rw [this]; exact hx))
  · rw [hfn, hv]
    simp [DataW.TrodVars]
end

theorem calls_true {P : Program} {g : FuncId} {xs : List LV} {H H' : Heap} (h : HT P g xs H (.ret (.bool true)) H') {ρ : Nat → RB} {W : World} (hs : Sat ρ H W) (hl : lts H.n xs) (hown : ∀ i, i < H.n → (H.get i).owns = false) :
    Calls P g (decs ρ xs).toArray W fun e W' => e = .returned (.bool true) ∧ Below W.heap.size W W' := by
  intro cs
  obtain ⟨e, w', fr, ⟨ρ', he, hm, _⟩, h2, h3, h4⟩ := h ρ W hs hl cs
  refine ⟨e, w', fr, ⟨he, hm.os, hm.tape, hm.output, hm.size, fun b hb => hm.block b hb fun i hi ho => ?_⟩, h2, h3, h4⟩
  rw [hown i hi] at ho; cases ho

def rb0 : RB := ⟨0, 0, 0, default, 0⟩
theorem Sat.nil (ρ : Nat → RB) (W : World) : Sat ρ Heap.nil W := ⟨fun _ h => absurd h (Nat.not_lt_zero _), fun _ h => absurd h (Nat.not_lt_zero _), fun _ _ h => absurd h (Nat.not_lt_zero _), fun _ h => absurd h (Nat.not_lt_zero _)⟩

/-- The evaluation ends with 'true'; what its decisions assume. -/
def Truly (r : R (LEnd × Heap)) : Prop :=
  @R.rec (LEnd × Heap) (fun _ => Prop) (fun a s => match a.1 with | .ret (.bool true) => s.ob | _ => False) (fun _ => False) (fun _ => False) r
theorem truly_ht {P : Program} (hg : Good P) {k lf : Nat} {g : FuncId} {args : List LV} {H : Heap} {ds : List Dir} (h : Truly (evF P lf k (.func g) args H ⟨ds, True⟩)) : ∃ H', HT P g args H (.ret (.bool true)) H' := by
  generalize hr : evF P lf k (.func g) args H ⟨ds, True⟩ = r at h
  cases r with
  | ok a s =>
    obtain ⟨e, H'⟩ := a
    obtain ⟨ds', ob⟩ := s
    simp only [Truly] at h
    split at h
    · exact ⟨H', evF_sound hg hr h⟩
    · cases h
  | bad w => cases h
  | pause s => cases h
end Go.Proofs.Ytmnpnomllcghmaa.Ev
