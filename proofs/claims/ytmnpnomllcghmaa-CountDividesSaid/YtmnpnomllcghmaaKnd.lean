/- What an operation may look at, and turn: by its kind. -/
import Derived.Test.YtmnpnomllcghmaaCod
namespace Go.Proofs.Ytmnpnomllcghmaa.Ev
open Go

variable {P : Program} {H : Heap}

theorem boxL_le {t : TypeId} {v p : LV} {H' : Heap} (h : boxL t H v = some (p, H')) : H.Le H' := by
  unfold boxL at h
  replace h := (cond_some' h).2
  injection h with h; injection h with _ h; subst h; exact Heap.le_push _ _
theorem grownL_le {e : TypeId} {n : Nat} {cs : List LV} {v : LV} {H' : Heap} (h : grownL P e H n cs = some (v, H')) : H.Le H' := by
  obtain ⟨_, _, _, _, _, _, _, _, _, rfl⟩ := grownL_some h
  exact Heap.le_push _ _
theorem appendTo_le {e : TypeId} {size n : Nat} {s v : LV} {new : List LV} {H' : Heap} (h : appendTo P e size s n new H = some (v, H')) : H.Le H' := by
  unfold appendTo at h
  split at h
  · cases hn : Nat.beq n 0 with
    | true => rw [hn] at h; injection h with h; injection h with _ h; subst h; exact Heap.Le.refl _
    | false => rw [hn] at h; exact grownL_le h
  · split at h
    · replace h := (cond_some h).2
      replace h := (cond_some h).2
      split at h
      · rename_i cap
        rename_i l _ _ _ _ _ _ _
        revert h
        cases Nat.ble _ cap with
        | false => intro h; exact grownL_le h
        | true =>
          simp only [cond_true]
          cases Nat.beq n 0 with
          | true => intro h; injection h with h; injection h with _ h; subst h; exact Heap.Le.refl _
          | false =>
            simp only [cond_false]
            intro h
            split at h
            · replace h := (cond_some h).2
              replace h := (cond_some h).2
              injection h with h; injection h with _ h; subst h; exact Heap.le_put _ _ _
            · cases h
      · split at h
        · replace h := (cond_some h).2
          replace h := (cond_some h).2
          replace h := (cond_some h).2
          replace h := (cond_some h).2
          replace h := (cond_some h).2
          revert h
          cases Nat.beq n 0 with
          | true => intro h; injection h with h; injection h with _ h; subst h; exact Heap.Le.refl _
          | false => intro h; exact (Heap.le_put _ _ _).trans (grownL_le h)
        · cases h
    · cases h
  · cases h
theorem slice_le {t : TypeId} {x v : LV} {lo hi mx : Option LV} {H' : Heap} (h : sliceL P t x lo hi mx H = some (v, H')) : H.Le H' := by
  have wh : ∀ {o : Option LV}, withH H o = some (v, H') → H.Le H' := fun h => by rw [(withH_some h).2]; exact Heap.Le.refl _
  unfold sliceL at h
  split at h
  · split at h
    · split at h
      · cases h
      · exact wh h
    · cases h
  · split at h
    · cases h
    · split at h
      · unfold sliceOf at h
        split at h
        · cases h
        · split at h
          · cases h
          · replace h := (cond_some h).2
            replace h := (cond_some h).2
            split at h
            · split at h
              · exact wh h
              · unfold sliceRest at h
                replace h := (cond_some h).2
                revert h
                cases Nat.beq _ 0 with
                | true => intro h; injection h with h; injection h with _ h; subst h; exact Heap.Le.refl _
                | false =>
                  simp only [cond_false]
                  cases Nat.beq _ _ with
                  | true => intro h; injection h with h; injection h with _ h; subst h; exact Heap.le_push _ _
                  | false => intro h; injection h with h; injection h with _ h; subst h; exact Heap.Le.refl _
            · split at h
              · cases h
              · replace h := (cond_some h).2
                replace h := (cond_some h).2
                split at h
                · replace h := (cond_some h).2
                  exact wh h
                · replace h := (cond_some h).2
                  exact wh h
      · split at h
        · split at h
          · split at h
            · injection h with h; injection h with _ h; subst h; exact Heap.Le.refl _
            · split at h
              · injection h with h; injection h with _ h; subst h; exact Heap.Le.refl _
              · cases h
          · cases h
        · cases h
      · split at h
        · split at h
          · split at h
            · injection h with h; injection h with _ h; subst h; exact Heap.Le.refl _
            · cases h
          · cases h
        · cases h
      · cases h
  · split at h
    · split at h
      · cases h
      · split at h
        · cases h
        · split at h
          · cases h
          · split at h
            · cases h
            · replace h := (cond_some h).2
              exact wh h
    · cases h
  · cases h

theorem update_le {t : TypeId} {m k v : LV} {H' : Heap} (h : updateL P t m k v H = some H') : H.Le H' := by
  unfold updateL at h
  replace h := (cond_some' h).2
  replace h := (cond_some' h).2
  split at h
  · split at h
    · replace h := (cond_some h).2
      split at h
      · split at h
        · replace h := (cond_some h).2
          split at h
          · injection h with h; subst h; exact Heap.le_put _ _ _
          · injection h with h; subst h; exact Heap.le_put _ _ _
          · cases h
        · cases h
      · cases h
    · cases h
  · cases h

theorem lop_le {op : Op} {xs : List LV} {r : OpR} (h : lop P op xs H = some r) : H.Le r.H := by
  have pr : ∀ {o : Option LV}, pureR H o = some r → H.Le r.H := fun h => by obtain ⟨_, _, rfl⟩ := pureR_some h; exact Heap.Le.refl _
  have lr : ∀ {x : LV} {o : Option LV}, loadR H x o = some r → H.Le r.H := fun h => by obtain ⟨_, _, _, rfl⟩ := loadR_some h; exact Heap.Le.refl _
  have cr : ∀ {o : Option (LV × Heap)}, changeR o = some r → (∀ v H', o = some (v, H') → H.Le H') → H.Le r.H := fun h k => by obtain ⟨_, _, he, rfl⟩ := changeR_some h; exact k _ _ he
  unfold lop at h
  split at h
  · unfold opMove at h; split at h
    · injection h with h; subst h; exact Heap.Le.refl _
    · cases h
  · unfold opMove at h; split at h
    · injection h with h; subst h; exact Heap.Le.refl _
    · cases h
  · unfold opPick at h; split at h
    · injection h with h; subst h; exact Heap.Le.refl _
    · cases h
  · unfold opAlloc at h; split at h
    · split at h
      · exact cr h fun v H' e => boxL_le e
      · cases h
    · cases h
  · unfold opBox at h; split at h
    · exact cr h fun v H' e => boxL_le e
    · cases h
  · exact pr h
  · unfold opBuildSlice at h
    refine cr h fun v H' e => ?_
    unfold buildSliceL at e
    split at e
    · split at e
      · replace e := (cond_some' e).2
        replace e := (cond_some e).2
        replace e := (cond_some e).2
        split at e
        · injection e with e; injection e with _ e; subst e; exact Heap.le_push _ _
        · cases e
      · cases e
    · cases e
  · unfold opLoad at h; split at h
    · exact lr h
    · cases h
  · unfold opStore at h; split at h
    · split at h
      · rename_i H' hst
        injection h with h; subst h
        unfold storeL at hst
        replace hst := (cond_some' hst).2
        split at hst
        · split at hst
          · cases hst
          · split at hst
            · replace hst := (cond_some hst).2
              replace hst := (cond_some hst).2
              replace hst := (cond_some hst).2
              replace hst := (cond_some hst).2
              injection hst with hst; subst hst; exact Heap.le_put _ _ _
            · cases hst
          · cases hst
        · cases hst
      · cases h
    · cases h
  · unfold opNilCheck at h; split at h <;> first
      | (injection h with h; subst h; exact Heap.Le.refl _)
      | cases h
  · unfold opBin at h; split at h
    · exact pr h
    · cases h
  · unfold opUn at h; split at h
    · exact pr h
    · cases h
  · unfold opConvert at h; split at h
    · split at h
      · rename_i v H' hc
        injection h with h; subst h
        unfold convL at hc
        split at hc
        · split at hc
          · split at hc
            · injection hc with hc; injection hc with _ hc; subst hc; exact Heap.Le.refl _
            · cases hc
          · cases hc
        · split at hc
          · split at hc
            · injection hc with hc; injection hc with _ hc; subst hc; exact Heap.Le.refl _
            · cases hc
          · split at hc
            · split at hc
              · injection hc with hc; injection hc with _ hc; subst hc; exact Heap.le_push _ _
              · cases hc
            · cases hc
          · cases hc
        · split at hc
          · split at hc
            · rw [(withH_some hc).2]; exact Heap.Le.refl _
            · cases hc
          · cases hc
        · cases hc
      · cases h
    · cases h
  · unfold opMakeInterface at h; split at h
    · replace h := (bc_some' h).2
      split at h
      · cases h
      · injection h with h; subst h; exact Heap.Le.refl _
      · cases h
    · cases h
  · split at h
    · unfold opMakeFunc at h
      replace h := (bc_some h).2
      injection h with h; subst h; exact Heap.Le.refl _
    · cases h
  · unfold opMakeMap at h; split at h
    · injection h with h; subst h; exact Heap.le_push _ _
    · cases h
  · unfold opMakeSlice at h; split at h
    · refine cr h fun v H' e => ?_
      unfold makeSliceL at e
      split at e
      · split at e
        · split at e
          · replace e := (cond_some e).2
            replace e := (cond_some e).2
            replace e := (cond_some e).2
            replace e := (cond_some e).2
            replace e := (cond_some' e).2
            replace e := (cond_some e).2
            injection e with e; injection e with _ e; subst e; exact Heap.le_push _ _
          · cases e
        · cases e
      · cases e
    · cases h
  · unfold opSlice at h; split at h
    · split at h
      · split at h
        · rename_i v H' hs
          injection h with h; subst h; exact slice_le hs
        · cases h
      · cases h
    · cases h
  · unfold opFieldAddr at h; split at h
    · exact pr h
    · cases h
  · unfold opField at h; split at h
    · exact pr h
    · cases h
  · unfold opIndexAddr at h; split at h
    · exact pr h
    · cases h
  · unfold opIndex at h; split at h
    · exact pr h
    · cases h
  · unfold opLookup at h; split at h
    · exact lr h
    · cases h
  · unfold opUpdate at h; split at h
    · split at h
      · rename_i H' hu
        injection h with h; subst h
        exact update_le hu
      · cases h
    · cases h
  · unfold opUpdate at h; split at h
    · split at h
      · rename_i H' hu
        injection h with h; subst h
        exact update_le hu
      · cases h
    · cases h
  · unfold opExtract at h; split at h
    · exact pr h
    · cases h
  · rename_i c
    cases hb : c.callee with
    | value f => simp only [hb] at h; cases h
    | invoke a b => simp only [hb] at h; cases h
    | builtin b =>
      simp only [hb] at h
      unfold opBuiltin at h
      split at h
      · cases h0 : c.argTypes[0]? with
        | none => simp only [h0] at h; cases h
        | some t =>
          simp only [h0] at h
          unfold opLen at h
          split at h
          · split at h
            · split at h
              · injection h with h; subst h; exact Heap.Le.refl _
              · cases h
            · split at h
              · split at h
                · cases h
                · injection h with h; subst h; exact Heap.Le.refl _
              · cases h
            · injection h with h; subst h; exact Heap.Le.refl _
            · split at h
              · injection h with h; subst h; exact Heap.Le.refl _
              · split at h
                · injection h with h; subst h; exact Heap.Le.refl _
                · cases h
              · cases h
            · cases h
          · cases h
      · cases h0 : c.argTypes[0]? with
        | none => simp only [h0] at h; cases h
        | some t =>
          cases h1 : c.argTypes[1]? with
          | none => simp only [h0, h1] at h; cases h
          | some xt =>
            simp only [h0, h1] at h
            unfold opAppend at h
            split at h
            · refine cr h fun v H' e => ?_
              unfold appendL at e
              replace e := (cond_some e).2
              split at e
              · split at e
                · cases e
                · split at e
                  · cases e
                  · replace e := (cond_some' e).2
                    replace e := (cond_some' e).2
                    split at e
                    · cases e
                    · exact appendTo_le e
              · cases e
            · cases h
      · cases h0 : c.argTypes[0]? with
        | none => simp only [h0] at h; cases h
        | some t =>
          simp only [h0] at h
          unfold opCopy at h
          split at h
          · refine cr h fun v H' e => ?_
            unfold copyL at e
            split at e
            · split at e
              · cases e
              · split at e
                · cases e
                · split at e
                  · replace e := (cond_some' e).2
                    split at e
                    · cases e
                    · split at e
                      · cases e
                      · replace e := (cond_some e).2
                        replace e := (cond_some e).2
                        replace e := (cond_some e).2
                        injection e with e; injection e with _ e; subst e; exact Heap.le_put _ _ _
                      · cases e
                  · cases e
            · cases e
          · cases h
      · unfold opMin at h
        split at h
        · split at h
          · injection h with h; subst h; exact Heap.Le.refl _
          · cases h
        · cases h
      · unfold opMax at h
        split at h
        · split at h
          · injection h with h; subst h; exact Heap.Le.refl _
          · cases h
        · cases h
      · cases h
  · cases h
end Go.Proofs.Ytmnpnomllcghmaa.Ev
