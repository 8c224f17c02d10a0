/- The evaluator with contracts: a call whose contract is known is not walked. -/
import Derived.Test.YtmnpnomllcghmaaLop
namespace Go.Proofs.Ytmnpnomllcghmaa.Ev
open Go

/-- Which contract serves a call, and on which blocks. -/
abbrev Pol := FuncId → List LV → Heap → Option (Con × List Nat)

noncomputable def useCon (P : Program) (g : FuncId) (args : List LV) (H : Heap) (s : S) (C : Con) (l : List Nat) : R (LEnd × Heap) :=
  bc (hasBody P g && Nat.beq g C.g && C.fit l H.n) (.ok (mapEnd (C.map l H.n) C.e, H.upd (C.us l H.n) (C.ns l H.n)) ⟨s.ds, C.holds P ∧ sameVs (at_ l) C.xs args ∧ objL (at_ l) H C.os 0 ∧ s.ob⟩) (.bad 52)
noncomputable def evPF (P : Program) (pol : Pol) (lf : Nat) (call : CallF) : CallF := fun fn args H s =>
  match fn with
  | .func g => match pol g args H with
    | some p => useCon P g args H s p.1 p.2
    | none => evFn P (evC P call lf) fn args H s
  | fn => evFn P (evC P call lf) fn args H s
noncomputable def evP (P : Program) (pol : Pol) (lf : Nat) (k : Nat) : CallF :=
  @Nat.rec (fun _ => CallF) (fun _ _ _ _ => .bad 30) (fun _ call => evPF P pol lf call) k

variable {P : Program}

theorem sound_con {g : FuncId} {args : List LV} {H : Heap} {s s' : S} {C : Con} {l : List Nat} {e : LEnd} {H' : Heap} (h : useCon P g args H s C l = .ok (e, H') s') (hob : s'.ob) :
    s.ob ∧ H.Le H' ∧ HT P g args H e H' ∧ hasBody P g = true := by
  unfold useCon at h
  rcases bcR h with ⟨hb, h⟩ | ⟨_, h⟩
  · injection h with h1 h2; injection h1 with h1 h3; subst h1; subst h2; subst h3
    simp only [Bool.and_eq_true] at hb
    have he := beqN hb.1.2
    obtain ⟨hC, hx, ho, hs⟩ := hob
    refine ⟨hs, Heap.le_upd _ _ _, ?_, hb.1.1⟩
    rw [he]
    exact con_ht hC hb.2 hx ho
  · cases h

theorem sound_ht (hg : Good P) {g : FuncId} {args : List LV} {H : Heap} {e : LEnd} {H' : Heap} (h : HT P g args H e H') (hb : hasBody P g = true) (ρ : Nat → RB) (w : World) (c : Frame) (cs : List Frame) (hs : Sat ρ H w) (hl : lts H.n args) :
    ∃ nx fr0 ρ' w', (invoke (.fn (decFn ρ (.func g)) #[]) (decs ρ args).toArray).run P w = .ok nx w ∧ frameOf P nx = some fr0 ∧ Moved ρ H w ρ' H' w' ∧ ltEnd H'.n e ∧ Steps P (lone fr0 (c :: cs) w) (lone (afterEnd ρ' c e) cs w') := by
  obtain ⟨e', w', fr, ⟨ρ', he, hm, hle⟩, hst, hfn, hlv⟩ := h ρ w hs hl (c :: cs)
  subst he
  refine ⟨.enter g (decs ρ args).toArray, _, ρ', w', ?_, rfl, hm, hle, ?_⟩
  · simp only [invoke, decFn, Array.append_empty]
    exact run_callFunc hg hb _ w
  · cases e with
    | ret v => exact Steps.trans hst (.one (step_leave_returned hlv))
    | pan v => exact Steps.trans hst (.one (step_leave_panicked hlv))

theorem sound_PF (hg : Good P) (pol : Pol) (lf : Nat) {call : CallF} (hc : SoundCall P call) : SoundCall P (evPF P pol lf call) := by
  intro fn xs H s e H' s' h hob
  have other : evFn P (evC P call lf) fn xs H s = .ok (e, H') s' → _ := fun h => sound_fn hg (fun c => sound_code hg hc lf c) fn xs H s e H' s' h hob
  unfold evPF at h
  split at h
  · rename_i g
    split at h
    · obtain ⟨h1, h2, h3, h4⟩ := sound_con h hob
      exact ⟨h1, h2, fun ρ w c cs hs hl _ => sound_ht hg h3 h4 ρ w c cs hs hl⟩
    · exact other h
  · exact other h
theorem sound_P (hg : Good P) (pol : Pol) (lf : Nat) : ∀ k, SoundCall P (evP P pol lf k)
  | 0 => by intro fn xs H s e H' s' h; cases h
  | k + 1 => sound_PF hg pol lf (sound_P hg pol lf k)

/-- A function's contract, from its evaluation with contracts. -/
theorem evP_sound (hg : Good P) {pol : Pol} {k lf : Nat} {g : FuncId} {args : List LV} {H : Heap} {ds ds' : List Dir} {ob : Prop} {e : LEnd} {H' : Heap} (h : evFn P (evC P (evP P pol lf k) lf) (.func g) args H ⟨ds, True⟩ = .ok (e, H') ⟨ds', ob⟩) (hob : ob) :
    HT P g args H e H' := by
  unfold evFn at h
  simp only at h
  split at h
  · cases h
  · rename_i fu hf
    obtain ⟨_, _, h3⟩ := sound_bodyC hg (fun c => sound_code hg (sound_P hg pol lf k) lf c) hf h hob
    intro ρ w hs hl cs
    obtain ⟨ρ', w', fr, hm, hle, hst, hfn, hlv⟩ := h3 ρ w cs hs hl
    refine ⟨_, w', fr, ⟨ρ', rfl, hm, hle⟩, ?_, hfn, hlv⟩
    cases e <;> exact hst
/-- A code's contract, from its evaluation with contracts. -/
theorem evPC_sound (hg : Good P) {pol : Pol} {k lf : Nat} {c : Code} {f : Fr} {H : Heap} {ds ds' : List Dir} {ob : Prop} {x : LX} {f' : Fr} {H' : Heap} (h : evC P (evP P pol lf k) lf c f H ⟨ds, True⟩ = .ok (x, f', H') ⟨ds', ob⟩) (hob : ob) : CT P c f H x f' H' :=
  (sound_code hg (sound_P hg pol lf k) lf c _ _ _ _ _ _ _ h hob).2.2

/-- A function's run. -/
noncomputable def runF (P : Program) (pol : Pol) (lf k : Nat) (g : FuncId) (args : List LV) (H : Heap) (ds : List Dir) : R (LEnd × Heap) := evFn P (evC P (evP P pol lf k) lf) (.func g) args H ⟨ds, True⟩
/-- A code's run. -/
noncomputable def runC (P : Program) (pol : Pol) (lf k : Nat) (c : Code) (f : Fr) (H : Heap) (ds : List Dir) : R (LX × Fr × Heap) := evC P (evP P pol lf k) lf c f H ⟨ds, True⟩

/-- What is asked of a function's run, that a contract be had. -/
def asksF (σ : Nat → Nat) (C : Con) (a : LEnd × Heap) (s : S) : Prop :=
  s.ob ∧ sameEnd σ C.e a.1 ∧ objL σ a.2 C.os' 0
/-- Do the first ones keep their numbers? -/
def upToFrom : Nat → Nat → List Nat → Bool
  | 0, _, _ => true
  | _ + 1, _, [] => false
  | k + 1, i, x :: xs => Nat.beq x i && upToFrom k (i + 1) xs
def upTo (k : Nat) (l : List Nat) : Bool := upToFrom k 0 l
def fitsF (σ : List Nat) (C : Con) (n : Nat) : Bool :=
  Nat.beq σ.length C.os'.length && distinct σ && allBelow n σ && wfObjsB C.os'.length C.os' && Nat.ble C.os.length C.os'.length && upTo C.os.length σ && (match C.e with | .ret v => wfB C.os'.length v | .pan v => wfB C.os'.length v)
/-- The contract's proof: the run, and what is asked of it. -/
def Proves (P : Program) (pol : Pol) (lf k : Nat) (C : Con) (ds : List Dir) (l : List Nat) : Prop :=
  @R.rec (LEnd × Heap) (fun _ => Prop) (fun a s => bc (fitsF l C a.2.n) (asksF (at_ l) C a s) False) (fun _ => False) (fun _ => False) (runF P pol lf k C.g C.xs (Heap.of C.os) ds)

theorem upToFrom_at : ∀ {k i : Nat} {l : List Nat}, upToFrom k i l = true → ∀ j, j < k → at_ l j = i + j
  | 0, _, _, _, j, hj => by omega
  | k + 1, _, [], h, _, _ => by cases h
  | k + 1, i, x :: xs, h, j, hj => by
    simp only [upToFrom, Bool.and_eq_true] at h
    have hx := beqN h.1
    cases j with
    | zero => show x = i + 0; omega
    | succ j =>
      have := upToFrom_at h.2 j (by omega)
      show at_ xs j = _
      omega

/-- A contract, by a run. -/
theorem con_of (hg : Good P) {pol : Pol} {lf k : Nat} {C : Con} {ds : List Dir} {l : List Nat} (h : Proves P pol lf k C ds l) : C.holds P := by
  unfold Proves at h
  generalize hr : runF P pol lf k C.g C.xs (Heap.of C.os) ds = r at h
  cases r with
  | bad w => cases h
  | pause s => cases h
  | ok a s =>
    obtain ⟨e, H'⟩ := a
    obtain ⟨ds', ob⟩ := s
    simp only at h
    cases hf : fitsF l C H'.n with
    | false => rw [hf] at h; cases h
    | true =>
      rw [hf] at h
      simp only [bc_true, asksF] at h
      obtain ⟨hob, he, ho⟩ := h
      have hht := evP_sound hg hr hob
      simp only [fitsF, Bool.and_eq_true] at hf
      obtain ⟨⟨⟨⟨⟨⟨h1, h2⟩, h3⟩, h4⟩, h5⟩, h6⟩, h7⟩ := hf
      have h1 := beqN h1
      have h5 : C.os.length ≤ C.os'.length := Nat.le_of_ble_eq_true h5
      refine HT.keep hht (σ := at_ l) (within_of (fun i j hi hj e => distinct_at h2 i j (by omega) (by omega) e) (fun i hi => below_at h3 i (by omega)) (wfObjsB_L h4) ho) (by rw [of_n, of_n]; exact h5)
        (fun i hi => by rw [of_n] at hi; have := upToFrom_at h6 i hi; omega) he ?_
      rw [of_n]
      cases hce : C.e with
      | ret v => rw [hce] at h7; exact wfB_lt h7
      | pan v => rw [hce] at h7; exact wfB_lt h7
end Go.Proofs.Ytmnpnomllcghmaa.Ev
