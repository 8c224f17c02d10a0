/- Contracts over other heaps: a small heap within a great one; what is not looked at any more is left. -/
import Derived.Test.YtmnpnomllcghmaaLem
import Derived.Test.YtmnpnomllcghmaaDef
namespace Go.Proofs.Ytmnpnomllcghmaa.Ev
open Go

theorem sameFn_dec {σ : Nat → Nat} (ρ : Nat → RB) {f g : Fn} (h : sameFn σ f g) : decFn ρ g = decFn (ρ ∘ σ) f := by
  cases f <;> cases g <;> simp only [sameFn] at h <;> first
    | (exact h.elim)
    | (rw [h]; rfl)
    | (subst h; rfl)
theorem sameFn_lt {σ : Nat → Nat} {n m : Nat} (hσ : ∀ i, i < n → σ i < m) {f g : Fn} (h : sameFn σ f g) (hl : ltFn n f) : ltFn m g := by
  cases f <;> cases g <;> simp only [sameFn] at h <;> first
    | exact h.elim
    | (cases h; done)
    | (cases h; trivial)
    | (subst h; exact hσ _ hl)

mutual
theorem sameV_dec {σ : Nat → Nat} (ρ : Nat → RB) : ∀ {a b : LV}, sameV σ a b → dec ρ b = dec (ρ ∘ σ) a := by
  intro a b h
  cases a <;> cases b <;> simp only [sameV] at h <;> first
    | exact h.elim
    | rfl
    | (subst h; rfl)
    | (obtain ⟨rfl, rfl⟩ := h; rfl)
    | (obtain ⟨rfl, rfl, rfl, rfl⟩ := h; rename_i c; cases c <;> rfl)
    | (obtain ⟨h1, h2, h3⟩ := h; simp only [dec]; rw [sameFn_dec ρ h1, sameVs_dec ρ h2, sameVs_dec ρ h3])
    | (obtain ⟨h1, h2⟩ := h; subst h1; simp only [dec]; rw [sameV_dec ρ h2])
    | (simp only [dec]; rw [sameVs_dec ρ h])
theorem sameVs_dec {σ : Nat → Nat} (ρ : Nat → RB) : ∀ {a b : List LV}, sameVs σ a b → decs ρ b = decs (ρ ∘ σ) a := by
  intro a b h
  cases a <;> cases b <;> simp only [sameVs] at h
  · rfl
  · simp only [decs]; rw [sameV_dec ρ h.1, sameVs_dec ρ h.2]
end

mutual
theorem sameV_lt {σ : Nat → Nat} {n m : Nat} (hσ : ∀ i, i < n → σ i < m) : ∀ {a b : LV}, sameV σ a b → lt n a → lt m b := by
  intro a b h hl
  cases a <;> cases b <;> simp only [sameV] at h <;> simp only [lt] at hl ⊢ <;> first
    | exact h.elim
    | (obtain ⟨rfl, _⟩ := h; exact hσ _ hl)
    | (subst h; exact hσ _ hl)
    | (obtain ⟨h1, h2, h3⟩ := h; exact ⟨sameFn_lt hσ h1 hl.1, sameVs_lt hσ h2 hl.2.1, sameVs_lt hσ h3 hl.2.2⟩)
    | exact sameV_lt hσ h.2 hl
    | exact sameVs_lt hσ h hl
theorem sameVs_lt {σ : Nat → Nat} {n m : Nat} (hσ : ∀ i, i < n → σ i < m) : ∀ {a b : List LV}, sameVs σ a b → lts n a → lts m b := by
  intro a b h hl
  cases a <;> cases b <;> simp only [sameVs] at h
  · trivial
  · exact ⟨sameV_lt hσ h.1 hl.1, sameVs_lt hσ h.2 hl.2⟩
end
theorem sameVs_get {σ : Nat → Nat} : ∀ {a b : List LV}, sameVs σ a b → a.length = b.length ∧ ∀ (j : Nat) (x y : LV), a[j]? = some x → b[j]? = some y → sameV σ x y
  | [], [], _ => ⟨rfl, fun j x y h => by simp at h⟩
  | a :: as, b :: bs, h => by
    simp only [sameVs] at h
    obtain ⟨h1, h2⟩ := sameVs_get h.2
    refine ⟨by simp [h1], fun j x y hx hy => ?_⟩
    cases j with
    | zero =>
      simp only [List.getElem?_cons_zero, Option.some.injEq] at hx hy
      subst hx; subst hy; exact h.1
    | succ j =>
      simp only [List.getElem?_cons_succ] at hx hy
      exact h2 j x y hx hy
  | [], _ :: _, h => by simp [sameVs] at h
  | _ :: _, [], h => by simp [sameVs] at h

theorem sameEnts_dec {σ : Nat → Nat} (ρ : Nat → RB) : ∀ {a b : List Ent}, sameEnts σ a b → b.map (decEnt ρ) = a.map (decEnt (ρ ∘ σ)) := by
  intro a
  induction a with
  | nil => intro b h; cases b <;> simp_all [sameEnts]
  | cons x xs ih =>
    intro b h
    cases b with
    | nil => simp [sameEnts] at h
    | cons y ys =>
      simp only [sameEnts] at h
      simp only [List.map_cons, ih h.2.2.2]
      congr 1
      simp only [decEnt, sameV_dec ρ h.1, sameV_dec ρ h.2.1, h.2.2.1]
theorem sameEnts_lt {σ : Nat → Nat} {n m : Nat} (hσ : ∀ i, i < n → σ i < m) : ∀ {a b : List Ent}, sameEnts σ a b → (∀ e, e ∈ a → lt n e.key ∧ lt n e.val) → ∀ e, e ∈ b → lt m e.key ∧ lt m e.val := by
  intro a
  induction a with
  | nil => intro b h; cases b <;> simp_all [sameEnts]
  | cons x xs ih =>
    intro b h hl e he
    cases b with
    | nil => simp [sameEnts] at h
    | cons y ys =>
      simp only [sameEnts] at h
      simp only [List.mem_cons] at he
      rcases he with he | he
      · subst he; exact ⟨sameV_lt hσ h.1 (hl x (by simp)).1, sameV_lt hσ h.2.1 (hl x (by simp)).2⟩
      · exact ih h.2.2.2 (fun e' h' => hl e' (by simp [h'])) e he

theorem sameObj_sits {σ : Nat → Nat} {a b : LObj} (h : sameObj σ a b) : (a.owns = true → b.owns = true) ∧ (a.sits = true → b.sits = true) := by
  cases a with
  | dead => exact ⟨fun h => by simp [LObj.owns] at h, fun h => by simp [LObj.sits] at h⟩
  | empty => exact ⟨fun h => by simp [LObj.owns] at h, fun h => by simp [LObj.sits] at h⟩
  | cells e o cs =>
    cases b <;> simp only [sameObj] at h
    obtain ⟨rfl, rfl, _⟩ := h
    cases o <;> exact ⟨fun h => h, fun h => h⟩
  | _ =>
    cases b <;> simp only [sameObj] at h <;> exact ⟨fun _ => rfl, fun _ => rfl⟩
theorem sameObj_sat {σ : Nat → Nat} {ρ : Nat → RB} {r : RB} {w : World} {a b : LObj} (h : sameObj σ a b) (hb : SatObj ρ r w b) : SatObj (ρ ∘ σ) r w a := by
  cases a with
  | dead => trivial
  | cells e o cs =>
    cases b <;> simp only [sameObj] at h
    obtain ⟨rfl, rfl, h⟩ := h
    cases o <;> simp only [SatObj] at hb ⊢
    · intro j v hv
      obtain ⟨hlen, hget⟩ := sameVs_get h
      rename_i cs'
      obtain ⟨y, hy⟩ : ∃ y, cs'[j]? = some y := by
        have : j < cs.length := (List.getElem?_eq_some_iff.1 hv).1
        exact ⟨cs'[j]'(by omega), by simp⟩
      rw [hb j y hy, sameV_dec ρ (hget j v y hv hy)]
    · rw [sameVs_dec ρ h, ← (sameVs_get h).1] at hb; exact hb
    · rw [sameVs_dec ρ h, ← (sameVs_get h).1] at hb; exact hb
  | map es c =>
    cases b <;> simp only [sameObj] at h
    obtain ⟨rfl, h⟩ := h
    simp only [SatObj] at hb ⊢
    rw [sameEnts_dec ρ h] at hb
    exact hb
  | empty => trivial
  | strIter s p =>
    cases b <;> simp only [sameObj] at h
    obtain ⟨rfl, rfl⟩ := h
    exact hb
  | loop st pe fn n t ps as bo d =>
    cases b <;> simp only [sameObj] at h
    obtain ⟨rfl, rfl, rfl, rfl, rfl, rfl, rfl, rfl, h⟩ := h
    simp only [SatObj] at hb ⊢
    obtain ⟨tm, h1, h2, h3⟩ := hb
    refine ⟨tm, h1, fun i => ?_, h3⟩
    rw [← sameV_dec ρ (h i)]
    rcases h2 i with h2 | h2
    · left
      have := h i
      rw [h2] at this
      cases hx : t.get .junk i <;> rw [hx] at this <;> first | rfl | (simp [sameV] at this)
    · exact .inr h2
  | defers x =>
    cases b <;> simp only [sameObj] at h
    subst h
    exact hb
theorem sameObj_lt {σ : Nat → Nat} {n m : Nat} (hσ : ∀ i, i < n → σ i < m) {a b : LObj} (h : sameObj σ a b) (ha : a.sits = true ∨ a = .empty) (hl : ltObj n a) : ltObj m b := by
  cases a <;> cases b <;> simp only [sameObj] at h <;> first
    | exact h.elim
    | trivial
    | (rcases ha with ha | ha <;> cases ha; done)
    | exact sameVs_lt hσ h.2.2 hl
    | exact sameEnts_lt hσ h.2 hl
    | (obtain ⟨_, _, _, _, _, _, _, rfl, h⟩ := h; exact ⟨fun i => sameV_lt hσ (h i) (hl.1 i), hσ _ hl.2⟩)
end Go.Proofs.Ytmnpnomllcghmaa.Ev
