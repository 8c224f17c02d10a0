/- Contracts over other heaps, proved. -/
import Derived.Test.YtmnpnomllcghmaaFrm
namespace Go.Proofs.Ytmnpnomllcghmaa.Ev
open Go

theorem eqObj_same {σ : Nat → Nat} {a b : LObj} (h : eqObj σ a b) : sameObj σ a b := by
  cases a <;> first | trivial | exact h
theorem eqObj_dead {σ : Nat → Nat} {b : LObj} (h : eqObj σ .dead b) : b = .dead := by
  cases b <;> first | rfl | exact h.elim
theorem eqObj_sits {σ : Nat → Nat} {a b : LObj} (h : eqObj σ a b) : a.owns = b.owns ∧ a.sits = b.sits := by
  cases a with
  | dead => rw [eqObj_dead h]; exact ⟨rfl, rfl⟩
  | cells e o cs =>
    cases b <;> simp only [eqObj, sameObj] at h
    obtain ⟨rfl, rfl, _⟩ := h
    cases o <;> exact ⟨rfl, rfl⟩
  | _ => cases b <;> simp only [eqObj, sameObj] at h <;> exact ⟨rfl, rfl⟩
theorem eqObj_sat {σ : Nat → Nat} {ρ : Nat → RB} {r : RB} {w : World} {a b : LObj} (h : eqObj σ a b) (ha : SatObj (ρ ∘ σ) r w a) : SatObj ρ r w b := by
  cases a with
  | dead => rw [eqObj_dead h]; trivial
  | cells e o cs =>
    cases b <;> simp only [eqObj, sameObj] at h
    obtain ⟨rfl, rfl, h⟩ := h
    cases o <;> simp only [SatObj] at ha ⊢
    · intro j v hv
      obtain ⟨hlen, hget⟩ := sameVs_get h
      obtain ⟨y, hy⟩ : ∃ y, cs[j]? = some y := by
        have := (List.getElem?_eq_some_iff.1 hv).1
        exact ⟨cs[j]'(by omega), by simp⟩
      rw [ha j y hy, sameV_dec ρ (hget j y v hy hv)]
    · rw [← sameVs_dec ρ h, (sameVs_get h).1] at ha; exact ha
    · rw [← sameVs_dec ρ h, (sameVs_get h).1] at ha; exact ha
  | map es c =>
    cases b <;> simp only [eqObj, sameObj] at h
    obtain ⟨rfl, h⟩ := h
    simp only [SatObj] at ha ⊢
    rw [← sameEnts_dec ρ h] at ha
    exact ha
  | empty => cases b <;> simp only [eqObj, sameObj] at h; trivial
  | strIter s p =>
    cases b <;> simp only [eqObj, sameObj] at h
    obtain ⟨rfl, rfl⟩ := h
    exact ha
  | loop st pe fn n t ps as bo d =>
    cases b <;> simp only [eqObj, sameObj] at h
    obtain ⟨rfl, rfl, rfl, rfl, rfl, rfl, rfl, rfl, h⟩ := h
    simp only [SatObj] at ha ⊢
    obtain ⟨tm, h1, h2, h3⟩ := ha
    refine ⟨tm, h1, fun i => ?_, h3⟩
    rw [sameV_dec ρ (h i)]
    rcases h2 i with h2 | h2
    · left
      have := h i
      rw [h2] at this
      rename_i t' _
      cases hx : t'.get .junk i <;> rw [hx] at this <;> first | rfl | (simp [sameV] at this)
    · exact .inr h2
  | defers x =>
    cases b <;> simp only [eqObj, sameObj] at h
    subst h
    exact ha
theorem eqObj_lt {σ : Nat → Nat} {n m : Nat} (hσ : ∀ i, i < n → σ i < m) {a b : LObj} (h : eqObj σ a b) (hl : ltObj n a) : ltObj m b := by
  cases a with
  | dead => rw [eqObj_dead h]; trivial
  | _ => exact sameObj_lt hσ (eqObj_same h) (by first | exact .inl rfl | exact .inr rfl) hl

/-- A small heap within a great one. -/
structure Within (σ : Nat → Nat) (H1 H : Heap) : Prop where
  inj : ∀ i j, i < H1.n → j < H1.n → σ i = σ j → i = j
  lt : ∀ i, i < H1.n → σ i < H.n
  wf : ∀ i, i < H1.n → ltObj H1.n (H1.get i)
  obj : ∀ i, i < H1.n → sameObj σ (H1.get i) (H.get (σ i))

theorem Within.sat {σ : Nat → Nat} {H1 H : Heap} (h : Within σ H1 H) {ρ : Nat → RB} {w : World} (hs : Sat ρ H w) : Sat (ρ ∘ σ) H1 w where
  wf := h.wf
  obj := fun i hi => sameObj_sat (h.obj i hi) (hs.obj _ (h.lt i hi))
  apart := fun i j hi hj hne hio hjs => hs.apart _ _ (h.lt i hi) (h.lt j hj) (fun e => hne (h.inj i j hi hj e)) ((sameObj_sits (h.obj i hi)).1 hio) ((sameObj_sits (h.obj j hj)).2 hjs)
  inside := fun i hi hsi => hs.inside _ (h.lt i hi) ((sameObj_sits (h.obj i hi)).2 hsi)

/-- What is left when things are not looked at any more: the old blocks keep their numbers. -/
theorem Moved.keep {ρ ρ' : Nat → RB} {H H' H1' : Heap} {w w' : World} (h : Moved ρ H w ρ' H' w') {σ : Nat → Nat} (hw : Within σ H1' H') (hn : H.n ≤ H1'.n) (hold : ∀ i, i < H.n → σ i = i) : Moved ρ H w (ρ' ∘ σ) H1' w' where
  os := h.os
  tape := h.tape
  output := h.output
  size := h.size
  block := h.block
  owned := fun i hi ho => h.owned (σ i) (hw.lt i hi) ((sameObj_sits (hw.obj i hi)).1 ho)
  sits := fun i hi ho => h.sits (σ i) (hw.lt i hi) ((sameObj_sits (hw.obj i hi)).2 ho)
  more := hn
  ext := fun i hi => by
    show ρ' (σ i) = ρ i
    rw [hold i hi]; exact h.ext i hi
  sat := hw.sat h.sat

theorem sameEnd_dec {σ : Nat → Nat} (ρ : Nat → RB) {a b : LEnd} (h : sameEnd σ a b) : decEnd ρ b = decEnd (ρ ∘ σ) a := by
  cases a <;> cases b <;> simp only [sameEnd] at h <;> simp only [decEnd, sameV_dec ρ h]
theorem sameEnd_lt {σ : Nat → Nat} {n m : Nat} (hσ : ∀ i, i < n → σ i < m) {a b : LEnd} (h : sameEnd σ a b) (hl : ltEnd n a) : ltEnd m b := by
  cases a <;> cases b <;> simp only [sameEnd] at h <;> exact sameV_lt hσ h hl

/-- A CALL's CONTRACT, from another one: fewer things are looked at behind the call. -/
theorem HT.keep {P : Program} {g : FuncId} {xs : List LV} {H H' H1' : Heap} {e e1 : LEnd} (h : HT P g xs H e H') {σ : Nat → Nat} (hw : Within σ H1' H') (hn : H.n ≤ H1'.n) (hold : ∀ i, i < H.n → σ i = i) (he : sameEnd σ e1 e) (hl : ltEnd H1'.n e1) :
    HT P g xs H e1 H1' := by
  intro ρ w hs hlx cs
  obtain ⟨e', w', fr, ⟨ρ', he', hm, hle⟩, h2, h3, h4⟩ := h ρ w hs hlx cs
  exact ⟨e', w', fr, ⟨ρ' ∘ σ, by rw [he', sameEnd_dec ρ' he], hm.keep hw hn hold, hl⟩, h2, h3, h4⟩

/-- A great heap behind a call that knows a small one alone. -/
structure Behind (σ : Nat → Nat) (H1 H1' H H' : Heap) : Prop where
  n : H'.n = H.n + (H1'.n - H1.n)
  obj : ∀ i, i < H1'.n → eqObj (over σ H1.n H.n) (H1'.get i) (H'.get (over σ H1.n H.n i))
  rest : ∀ j, j < H.n → (∀ i, i < H1.n → σ i ≠ j) → H'.get j = H.get j

/-- A CALL's CONTRACT, within a greater heap. -/
theorem HT.frame {P : Program} {g : FuncId} {xs xs1 : List LV} {H H' H1 H1' : Heap} {e e1 : LEnd} (h : HT P g xs1 H1 e1 H1') {σ : Nat → Nat} (hw : Within σ H1 H) (hx : sameVs σ xs1 xs) (hlx1 : lts H1.n xs1) (hb : Behind σ H1 H1' H H')
    (he : sameEnd (over σ H1.n H.n) e1 e) : HT P g xs H e H' := by
  intro ρ w hs hlx cs
  obtain ⟨e', w', fr, ⟨ρ1', he', hm, hle⟩, h2, h3, h4⟩ := h (ρ ∘ σ) w (hw.sat hs) hlx1 cs
  rw [← sameVs_dec ρ hx] at h2
  have hmore := hm.more
  -- the real blocks
  let ρ' : Nat → RB := fun j => if j < H.n then ρ j else ρ1' (H1.n + (j - H.n))
  have hlt : ∀ i, i < H1'.n → over σ H1.n H.n i < H'.n := fun i hi => by
    rw [hb.n]; unfold over; split
    · have := hw.lt i ‹_›; omega
    · omega
  have hρ : ∀ i, i < H1'.n → (ρ' ∘ over σ H1.n H.n) i = ρ1' i := fun i hi => by
    show ρ' (over σ H1.n H.n i) = ρ1' i
    unfold over
    split
    · rename_i h1
      have := hw.lt i h1
      simp only [ρ', this, if_true]
      exact (hm.ext i h1).symm
    · rename_i h1
      simp only [ρ']
      rw [if_neg (by omega)]
      congr 1; omega
  have hinj : ∀ i j, i < H1'.n → j < H1'.n → over σ H1.n H.n i = over σ H1.n H.n j → i = j := fun i j hi hj e => by
    unfold over at e
    split at e <;> split at e
    · exact hw.inj i j ‹_› ‹_› e
    · have := hw.lt i ‹_›; omega
    · have := hw.lt j ‹_›; omega
    · omega
  have hext : Ext H1'.n ρ1' (ρ' ∘ over σ H1.n H.n) := fun i hi => hρ i hi
  -- whose block is it?
  have cases_ : ∀ j, j < H'.n → (∃ i, i < H1'.n ∧ j = over σ H1.n H.n i) ∨ (j < H.n ∧ (∀ i, i < H1.n → σ i ≠ j)) := fun j hj => by
    by_cases hjn : j < H.n
    · by_cases hex : ∃ i, i < H1.n ∧ σ i = j
      · obtain ⟨i, hi, hij⟩ := hex
        exact .inl ⟨i, by omega, by unfold over; rw [if_pos hi, hij]⟩
      · exact .inr ⟨hjn, fun i hi e => hex ⟨i, hi, e⟩⟩
    · refine .inl ⟨H1.n + (j - H.n), by rw [hb.n] at hj; omega, ?_⟩
      unfold over
      rw [if_neg (by omega)]; omega
  have hold : ∀ j, j < H.n → ρ' j = ρ j := fun j hj => by simp only [ρ', hj, if_true]
  have hblk : ∀ i, i < H1'.n → (ρ' (over σ H1.n H.n i)).blk = (ρ1' i).blk := fun i hi => by rw [show ρ' (over σ H1.n H.n i) = ρ1' i from hρ i hi]
  have restSame : ∀ j, j < H.n → (∀ i, i < H1.n → σ i ≠ j) → (H.get j).sits = true → w'.heap[(ρ j).blk]? = w.heap[(ρ j).blk]? := fun j hj hn hsj =>
    hm.block _ (hs.inside j hj hsj) fun i hi hio e => hs.apart (σ i) j (hw.lt i hi) hj (hn i hi) ((sameObj_sits (hw.obj i hi)).1 hio) hsj e
  have hS : Sat ρ' H' w' := by
    refine ⟨?_, ?_, ?_, ?_⟩
    · intro j hj
      rcases cases_ j hj with ⟨i, hi, rfl⟩ | ⟨hjn, hno⟩
      · exact eqObj_lt hlt (hb.obj i hi) (hm.sat.wf i hi)
      · rw [hb.rest j hjn hno]; exact ltObj_mono (by rw [hb.n]; omega) (hs.wf j hjn)
    · intro j hj
      rcases cases_ j hj with ⟨i, hi, rfl⟩ | ⟨hjn, hno⟩
      · have := hm.sat.obj i hi
        rw [← show ρ' (over σ H1.n H.n i) = ρ1' i from hρ i hi] at this
        exact eqObj_sat (hb.obj i hi) (this.ext hext (hm.sat.wf i hi))
      · rw [hb.rest j hjn hno, hold j hjn]
        exact ((hs.obj j hjn).world fun hsj => restSame j hjn hno hsj).ext (fun k hk => hold k hk) (hs.wf j hjn)
    · intro a b ha hb' hne hao hbs
      rcases cases_ a ha with ⟨i, hi, rfl⟩ | ⟨han, hano⟩
      · rw [← (eqObj_sits (hb.obj i hi)).1] at hao
        rcases cases_ b hb' with ⟨j, hj, rfl⟩ | ⟨hbn, hbno⟩
        · rw [← (eqObj_sits (hb.obj j hj)).2] at hbs
          rw [hblk i hi, hblk j hj]
          exact hm.sat.apart i j hi hj (fun e => hne (by rw [e])) hao hbs
        · rw [hb.rest b hbn hbno] at hbs
          rw [hblk i hi, hold b hbn]
          rcases hm.owned i hi hao with h | ⟨i2, hi2, hio, he2⟩
          · have := hs.inside b hbn hbs; omega
          · rw [he2]
            exact hs.apart (σ i2) b (hw.lt i2 hi2) hbn (hbno i2 hi2) ((sameObj_sits (hw.obj i2 hi2)).1 hio) hbs
      · rw [hb.rest a han hano] at hao
        rcases cases_ b hb' with ⟨j, hj, rfl⟩ | ⟨hbn, hbno⟩
        · rw [← (eqObj_sits (hb.obj j hj)).2] at hbs
          rw [hblk j hj, hold a han]
          rcases hm.sits j hj hbs with h | ⟨j2, hj2, hjs, he2⟩
          · have := hs.inside a han (LObj.sits_of_owns hao); omega
          · rw [he2]
            exact hs.apart a (σ j2) han (hw.lt j2 hj2) (fun e => hano j2 hj2 e.symm) hao ((sameObj_sits (hw.obj j2 hj2)).2 hjs)
        · rw [hb.rest b hbn hbno] at hbs
          rw [hold a han, hold b hbn]
          exact hs.apart a b han hbn hne hao hbs
    · intro j hj hsj
      rcases cases_ j hj with ⟨i, hi, rfl⟩ | ⟨hjn, hno⟩
      · rw [← (eqObj_sits (hb.obj i hi)).2] at hsj
        rw [hblk i hi]
        exact hm.sat.inside i hi hsj
      · rw [hb.rest j hjn hno] at hsj
        rw [hold j hjn]
        have := hs.inside j hjn hsj
        have := hm.size
        omega
  refine ⟨e', w', fr, ⟨ρ', ?_, ⟨hm.os, hm.tape, hm.output, hm.size, ?_, ?_, ?_, by rw [hb.n]; omega, fun i hi => hold i hi, hS⟩, sameEnd_lt hlt he hle⟩, h2, h3, h4⟩
  · rw [he', sameEnd_dec ρ' he]
    cases e1 with
    | ret v => simp only [decEnd]; rw [dec_ext hext v hle]
    | pan v => simp only [decEnd]; rw [dec_ext hext v hle]
  · intro b hbs hno
    exact hm.block b hbs fun i hi hio e => hno (σ i) (hw.lt i hi) ((sameObj_sits (hw.obj i hi)).1 hio) e
  · intro j hj hjo
    rcases cases_ j hj with ⟨i, hi, rfl⟩ | ⟨hjn, hno⟩
    · rw [← (eqObj_sits (hb.obj i hi)).1] at hjo
      rw [hblk i hi]
      rcases hm.owned i hi hjo with h | ⟨i2, hi2, hio, he2⟩
      · exact .inl h
      · exact .inr ⟨σ i2, hw.lt i2 hi2, (sameObj_sits (hw.obj i2 hi2)).1 hio, he2⟩
    · rw [hb.rest j hjn hno] at hjo
      exact .inr ⟨j, hjn, hjo, by rw [hold j hjn]⟩
  · intro j hj hjo
    rcases cases_ j hj with ⟨i, hi, rfl⟩ | ⟨hjn, hno⟩
    · rw [← (eqObj_sits (hb.obj i hi)).2] at hjo
      rw [hblk i hi]
      rcases hm.sits i hi hjo with h | ⟨i2, hi2, hio, he2⟩
      · exact .inl h
      · exact .inr ⟨σ i2, hw.lt i2 hi2, (sameObj_sits (hw.obj i2 hi2)).2 hio, he2⟩
    · rw [hb.rest j hjn hno] at hjo
      exact .inr ⟨j, hjn, hjo, by rw [hold j hjn]⟩
end Go.Proofs.Ytmnpnomllcghmaa.Ev
