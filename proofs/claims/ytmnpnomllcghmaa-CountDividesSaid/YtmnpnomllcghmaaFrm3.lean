/- Contracts of code: what is not looked at any more is left; loops. -/
import Derived.Test.YtmnpnomllcghmaaFrm2
namespace Go.Proofs.Ytmnpnomllcghmaa.Ev
open Go

/-- A frame that knows less. -/
structure sameFr (σ : Nat → Nat) (f1 f : Fr) : Prop where
  n : f1.n = f.n
  fn : f1.fn = f.fn
  marks : f.marks = f1.marks.map σ
  round : f.round = f1.round.map σ
  get : ∀ i, f1.get i = .junk ∨ sameV σ (f1.get i) (f.get i)

structure wfFr (n : Nat) (f : Fr) : Prop where
  t : ∀ i, lt n (f.get i)
  marks : ∀ d, d ∈ f.marks → d < n
  round : ∀ l, f.round = some l → l < n

theorem marksOf_map (ρ : Nat → RB) (σ : Nat → Nat) : ∀ l : List Nat, marksOf ρ (l.map σ) = marksOf (ρ ∘ σ) l
  | [] => rfl
  | d :: l => by simp only [List.map_cons, marksOf, marksOf_map ρ σ l]; rfl

theorem FRel.same {σ : Nat → Nat} {ρ : Nat → RB} {n n1 : Nat} {f f1 : Fr} {b : Frame} {tmps : Array Value} {ds : List Deferred} (h : FRel ρ n f b tmps ds) (hs : sameFr σ f1 f) (hw : wfFr n1 f1) : FRel (ρ ∘ σ) n1 f1 b tmps ds where
  wf := hw.t
  marks := hw.marks
  inRound := hw.round
  fn := by rw [hs.fn]; exact h.fn
  size := by rw [hs.n]; exact h.size
  t := fun i => by
    rcases hs.get i with hj | hv
    · exact .inl hj
    · rcases h.t i with ht | ht
      · left
        rw [show f.t.get .junk i = f.get i from rfl] at ht
        rw [ht] at hv
        show f1.get i = _
        cases hx : f1.get i <;> rw [hx] at hv <;> first | rfl | (simp [sameV] at hv)
      · right
        rw [ht]
        exact congrArg some (sameV_dec ρ hv)
  ds := by rw [h.ds, hs.marks, marksOf_map]
  round := by
    rw [h.round, hs.round]
    cases f1.round <;> rfl

theorem Ends.same {P : Program} {m : Machine} {b : Frame} {k : List Item} {cs : List Frame} {ρ : Nat → RB} {σ : Nat → Nat} {tmps : Array Value} {ds : List Deferred} {w : World} {x x1 : LX} (hx : sameX σ x1 x) (h : Ends P m b k cs ρ tmps ds w x) : Ends P m b k cs (ρ ∘ σ) tmps ds w x1 := by
  cases x1 <;> cases x <;> simp only [sameX] at hx <;> first
    | exact hx.elim
    | exact h
    | (subst hx; exact h)
    | (obtain ⟨k', hs⟩ := h; exact ⟨k', by rw [← sameV_dec ρ hx]; exact hs⟩)

/-- A CODE's CONTRACT, from another one: fewer things are looked at behind it. -/
theorem CT.keep {P : Program} {c : Code} {f f' f1' : Fr} {H H' H1' : Heap} {x x1 : LX} (h : CT P c f H x f' H') {σ : Nat → Nat} (hw : Within σ H1' H') (hn : H.n ≤ H1'.n) (hold : ∀ i, i < H.n → σ i = i)
    (hf : sameFr σ f1' f') (hwf : wfFr H1'.n f1') (hx : sameX σ x1 x) (hlx : ltX H1'.n x1) : CT P c f H x1 f1' H1' := by
  intro ρ w b tmps ds k cs hs hfr
  obtain ⟨ρ', w', tmps', ds', h1, h2, h3, h4⟩ := h ρ w b tmps ds k cs hs hfr
  exact ⟨ρ' ∘ σ, w', tmps', ds', h1.keep hw hn hold, h2.same hf hwf, hlx, h4.same hx⟩

/-- A CODE's CONTRACT holds ahead of more, too. -/
theorem CT.more {P : Program} {c : Code} {f f1 f' : Fr} {H H1 H' : Heap} {x : LX} (h : CT P c f1 H1 x f' H') (hw : Within id H1 H) (hn : H1.n = H.n) (hf : sameFr id f1 f) (hwf : wfFr H1.n f1) : CT P c f H x f' H' := by
  intro ρ w b tmps ds k cs hs hfr
  obtain ⟨ρ', w', tmps', ds', h1, h2, h3, h4⟩ := h ρ w b tmps ds k cs (hw.sat hs) (hfr.same hf hwf)
  refine ⟨ρ', w', tmps', ds', ⟨h1.os, h1.tape, h1.output, h1.size, ?_, ?_, ?_, by rw [← hn]; exact h1.more, by rw [← hn]; exact h1.ext, h1.sat⟩, h2, h3, h4⟩
  · intro b hb hno
    exact h1.block b hb fun i hi hio => hno i (by rw [← hn]; exact hi) ((sameObj_sits (hw.obj i hi)).1 hio)
  · intro i hi hio
    rcases h1.owned i hi hio with h | ⟨j, hj, hjo, he⟩
    · exact .inl h
    · exact .inr ⟨j, by rw [← hn]; exact hj, (sameObj_sits (hw.obj j hj)).1 hjo, he⟩
  · intro i hi hio
    rcases h1.sits i hi hio with h | ⟨j, hj, hjo, he⟩
    · exact .inl h
    · exact .inr ⟨j, by rw [← hn]; exact hj, (sameObj_sits (hw.obj j hj)).2 hjo, he⟩

/-! frames and heaps that are written out -/
theorem setL_get : ∀ (L : List (Nat × LV)) (j : Nat), (setL .nil L).get .junk j = .junk ∨ ∃ p, p ∈ L ∧ p.1 = j ∧ (setL .nil L).get .junk j = p.2
  | [], j => .inl rfl
  | p :: ps, j => by
    simp only [setL, Tr.get_set]
    by_cases h : p.1 = j
    · exact .inr ⟨p, by simp, h, by rw [if_pos h]⟩
    · rw [if_neg h]
      rcases setL_get ps j with h1 | ⟨q, hq, h2, h3⟩
      · exact .inl h1
      · exact .inr ⟨q, by simp [hq], h2, h3⟩

theorem frL_get {σ : Nat → Nat} {f : Fr} : ∀ {L : List (Nat × LV)}, frL σ f L → ∀ p, p ∈ L → sameV σ p.2 (f.get p.1)
  | [], _, p, hp => by cases hp
  | q :: qs, h, p, hp => by
    rcases List.mem_cons.1 hp with rfl | hp
    · exact h.1
    · exact frL_get h.2 p hp
def ltL (n : Nat) : List (Nat × LV) → Prop
  | [] => True
  | p :: ps => lt n p.2 ∧ ltL n ps
theorem ltL_get {n : Nat} : ∀ {L : List (Nat × LV)}, ltL n L → ∀ p, p ∈ L → lt n p.2
  | [], _, p, hp => by cases hp
  | q :: qs, h, p, hp => by
    rcases List.mem_cons.1 hp with rfl | hp
    · exact h.1
    · exact ltL_get h.2 p hp
theorem wf_ofL {g n m : Nat} {L : List (Nat × LV)} (h : ltL m L) : wfFr m (Fr.ofL g n L [] none) where
  t := fun i => by
    rcases setL_get L i with h1 | ⟨p, hp, _, h2⟩
    · show lt m ((setL .nil L).get .junk i); rw [h1]; trivial
    · show lt m ((setL .nil L).get .junk i); rw [h2]; exact ltL_get h p hp
  marks := by intro d hd; cases hd
  round := by intro l hl; cases hl
theorem same_ofL {σ : Nat → Nat} {g n : Nat} {L : List (Nat × LV)} {f : Fr} (hn : f.n = n) (hfn : f.fn = g) (hm : f.marks = []) (hr : f.round = none) (h : frL σ f L) : sameFr σ (Fr.ofL g n L [] none) f where
  n := hn.symm
  fn := hfn.symm
  marks := hm
  round := hr
  get := fun i => by
    rcases setL_get L i with h1 | ⟨p, hp, hi, h2⟩
    · exact .inl h1
    · right
      show sameV σ ((setL .nil L).get .junk i) (f.get i)
      rw [h2, ← hi]
      exact frL_get h p hp

theorem pushes_n : ∀ (os : List LObj) (H : Heap), (H.pushes os).n = H.n + os.length
  | [], H => rfl
  | o :: os, H => by show ((H.push o).pushes os).n = _; rw [pushes_n os, Heap.n_push]; simp; omega
theorem pushes_get : ∀ (os : List LObj) (H : Heap) (i : Nat), (H.pushes os).get i = if H.n ≤ i then (if h : i - H.n < os.length then os[i - H.n] else H.get i) else H.get i
  | [], H, i => by simp [Heap.pushes]
  | o :: os, H, i => by
    show ((H.push o).pushes os).get i = _
    rw [pushes_get os, Heap.n_push, Heap.get_push]
    by_cases h1 : H.n ≤ i
    · by_cases h2 : H.n = i
      · subst h2; rw [if_neg (by omega), if_pos rfl, if_pos (Nat.le_refl _), dif_pos (by simp)]; simp
      · have h3 : H.n + 1 ≤ i := by omega
        rw [if_pos h3, if_pos h1]
        by_cases h4 : i - (H.n + 1) < os.length
        · rw [dif_pos h4, dif_pos (by simp; omega)]
          rw [List.getElem_cons]
          rw [dif_neg (by omega)]
          congr 1
        · rw [dif_neg h4, dif_neg (by simp; omega)]
          rw [if_neg (by omega)]
    · rw [if_neg (by omega), if_neg h1, if_neg (by omega)]
theorem of_n (os : List LObj) : (Heap.of os).n = os.length := by
  have := pushes_n os Heap.nil
  simpa [Heap.of, Heap.nil] using this
theorem of_get (os : List LObj) (i : Nat) (h : i < os.length) : (Heap.of os).get i = os[i] := by
  have := pushes_get os Heap.nil i
  simp only [Heap.of]
  rw [this]
  have h0 : Heap.nil.n = 0 := rfl
  simp [h0, h]
theorem objL_get {σ : Nat → Nat} {H : Heap} : ∀ (os : List LObj) (i : Nat), objL σ H os i → ∀ (j : Nat) (h : j < os.length), sameObj σ os[j] (H.get (σ (i + j)))
  | [], _, _, j, h => by simp at h
  | o :: os, i, ho, j, h => by
    cases j with
    | zero => exact ho.1
    | succ j =>
      have := objL_get os (i + 1) ho.2 j (by simpa using h)
      rw [show i + (j + 1) = i + 1 + j by omega]
      simpa using this
def ltObjL (n : Nat) : List LObj → Prop
  | [] => True
  | o :: os => ltObj n o ∧ ltObjL n os
theorem ltObjL_get {n : Nat} : ∀ (os : List LObj), ltObjL n os → ∀ (j : Nat) (h : j < os.length), ltObj n os[j]
  | [], _, j, h => by simp at h
  | o :: os, ho, j, h => by
    cases j with
    | zero => exact ho.1
    | succ j => simpa using ltObjL_get os ho.2 j (by simpa using h)
theorem within_of {σ : Nat → Nat} {os : List LObj} {H : Heap} (hinj : ∀ i j, i < os.length → j < os.length → σ i = σ j → i = j) (hlt : ∀ i, i < os.length → σ i < H.n) (hwf : ltObjL os.length os) (hobj : objL σ H os 0) : Within σ (Heap.of os) H where
  inj := by rw [of_n]; exact hinj
  lt := by rw [of_n]; exact hlt
  wf := fun i hi => by rw [of_n] at hi ⊢; rw [of_get os i hi]; exact ltObjL_get os hwf i hi
  obj := fun i hi => by
    rw [of_n] at hi
    rw [of_get os i hi]
    have := objL_get os 0 hobj i hi
    simpa using this
end Go.Proofs.Ytmnpnomllcghmaa.Ev
