/- What the evaluator of code says, the machine does: rounds; every call. -/
import Derived.Test.YtmnpnomllcghmaaFun
namespace Go.Proofs.Ytmnpnomllcghmaa.Ev
open Go

variable {P : Program}

theorem setArgs_ok {n : Nat} : ∀ (ps : List Nat) (vs : List LV) (t t' : Tr LV), setArgs n t ps vs = some t' → ps.length = vs.length ∧
    (∀ m, ltT m t → lts m vs → ltT m t') ∧ ∀ (ρ : Nat → RB) (tm : Array Value), tm.size = n → TRel ρ t tm → ((ps.zip (decs ρ vs)).foldl (fun tmps (x : Nat × Value) => tmps.setIfInBounds x.1 x.2) tm).size = n ∧
      TRel ρ t' ((ps.zip (decs ρ vs)).foldl (fun tmps (x : Nat × Value) => tmps.setIfInBounds x.1 x.2) tm)
  | [], [], t, t', h => by
    injection h with h; subst h
    exact ⟨rfl, fun _ h _ => h, fun _ _ hs h => ⟨hs, h⟩⟩
  | p :: ps, v :: vs, t, t', h => by
    simp only [setArgs] at h
    obtain ⟨hp, h⟩ := bc_some h
    have hp := bltN.1 hp
    obtain ⟨h1, h2, h3⟩ := setArgs_ok ps vs _ _ h
    refine ⟨by simp [h1], fun m ht hv => h2 m (fun j => ?_) hv.2, fun ρ tm hs ht => ?_⟩
    · rw [Tr.get_set]; split
      · exact hv.1
      · exact ht j
    · simp only [decs, List.zip_cons_cons, List.foldl_cons]
      refine h3 ρ _ (by simp [hs]) fun j => ?_
      rw [Tr.get_set]
      by_cases hj : p = j
      · subst hj
        right
        simp only [if_true]
        rw [Array.getElem?_setIfInBounds_self_of_lt (by omega)]
      · simp only [hj, if_false]
        rw [Array.getElem?_setIfInBounds_ne hj]
        exact ht j
  | [], _ :: _, _, _, h => by cases h
  | _ :: _, [], _, _, h => by cases h

theorem sound_round {ev : Code → EvF} (hev : ∀ c, SoundC P c (ev c)) {l : Nat} {args : List LV} {H : Heap} {s s' : S} {e : LEnd} {H' : Heap} (h : evRound P ev l args H s (H.get l) = .ok (e, H') s') (hob : s'.ob) :
    s.ob ∧ H.Le H' ∧ ∀ ρ w (c : Frame) (cs : List Frame), Sat ρ H w → lts H.n args → l < H.n →
      ∃ nx fr0 ρ' w', (invoke (.fn (decFn ρ (.yield l)) #[]) (decs ρ args).toArray).run P w = .ok nx w ∧ frameOf P nx = some fr0 ∧ Moved ρ H w ρ' H' w' ∧ ltEnd H'.n e ∧
        Steps P (lone fr0 (c :: cs) w) (lone (afterEnd ρ' c e) cs w') := by
  generalize hget : H.get l = o at h
  unfold evRound at h
  split at h
  · rename_i pe fn n t ps as bo d
    split at h
    · cases h
    · rename_i t' hset
      obtain ⟨⟨x1, f1, H1⟩, s1, h1, h⟩ := bnd_ok h
      simp only at h
      split at h
      · rename_i pe1 fn1 n1 t1 ps1 as1 bo1 d1 hget1
        obtain ⟨⟨x2, f2, H2⟩, s2, h2, h⟩ := bnd_ok h
        simp only at h
        split at h
        · rename_i hmarks
          obtain ⟨hlen, hlt, htr⟩ := setArgs_ok ps args t t' hset
          -- up to the body's end
          have main : s2.ob → s.ob ∧ H.Le H2 ∧ ∀ ρ w (c : Frame) (cs : List Frame), Sat ρ H w → lts H.n args → l < H.n → ∃ nx fr0 b ρ2 w2 tmps, (invoke (.fn (decFn ρ (.yield l)) #[]) (decs ρ args).toArray).run P w = .ok nx w ∧ frameOf P nx = some fr0 ∧
              Moved ρ H w ρ2 H2 w2 ∧ FRel ρ2 H2.n f2 b tmps [] ∧ ltX H2.n x2 ∧ b.kind = .normal ∧ b.roundOf = some (ρ2 l).blk ∧ l < H2.n ∧ Ends P (lone fr0 (c :: cs) w) b [] (c :: cs) ρ2 tmps [] w2 x2 := by
            intro hs2
            obtain ⟨hs1, hle2, hct2⟩ := hev bo _ _ _ _ _ _ _ h2 hs2
            obtain ⟨hs0, hle1, hct1⟩ := hev as _ _ _ _ _ _ _ h1 hs1
            refine ⟨hs0, (hle1.trans (Heap.le_put _ _ _)).trans hle2, fun ρ w c cs hs hl hll => ?_⟩
            have hobj := hs.obj l hll
            have hwf := hs.wf l hll
            rw [hget] at hobj hwf
            obtain ⟨tm, htm, htrel, hheap⟩ := hobj
            have hy := run_yield (P := P) (args := (decs ρ args).toArray) hheap (by simp [decs_length, hlen])
            obtain ⟨hsz, htr'⟩ := htr ρ tm htm htrel
            have hfold : ((ps.toArray.zip (decs ρ args).toArray).foldl (fun tmps (x : Nat × Value) => tmps.setIfInBounds x.1 x.2) tm) = ((ps.zip (decs ρ args)).foldl (fun tmps (x : Nat × Value) => tmps.setIfInBounds x.1 x.2) tm) := by
              simp
            revert hsz htr'
            rw [← hfold]
            generalize htm0 : ((ps.toArray.zip (decs ρ args).toArray).foldl (fun tmps (x : Nat × Value) => tmps.setIfInBounds x.1 x.2) tm) = tm0
            intro hsz htr'
            obtain ⟨ρ1, w1, tmps1, ds1, m1, r1, _, e1⟩ := hct1 ρ w (Frame.round (ρ l).blk fn tm0 as bo .normal) tm0 [] [.beginRound, .code bo] (c :: cs) hs
              ⟨hlt _ hwf.1 hl, by simp, by intro j hj; injection hj with hj; subst hj; exact hll, rfl, hsz, htr', rfl, rfl⟩
            have hl1 : l < H1.n := Nat.lt_of_lt_of_le hll m1.more
            have hobj1 := m1.sat.obj l hl1
            have hwf1 := m1.sat.wf l hl1
            rw [hget1] at hobj1 hwf1
            obtain ⟨tm1, htm1, htrel1, hheap1⟩ := hobj1
            have hput := Moved.putLoop m1.sat hl1 (by rw [hget1]; rfl) (.loop .busy pe1 fn1 n1 t1 ps1 as1 bo1 d1) (.loop { state := .busy, pending := pe1, fn := fn1, tmps := tm1, params := ps1.toArray, assign := as1, body := bo1, defers := (ρ1 d1).blk }) hwf1
              (fun w' hw' => ⟨tm1, htm1, htrel1, hw'⟩)
            have hro : (Frame.round (ρ l).blk fn tm0 as bo .normal).roundOf = some (ρ1 l).blk := by rw [m1.ext l hll]; rfl
            have hbeg := st_begin (P := P) (tmps := tmps1) (ds := ds1) (k := [.code bo]) (cs := c :: cs) hro hheap1 rfl
            obtain ⟨ρ2, w2, tmps2, ds2, m2, r2, l2, e2⟩ := hct2 ρ1 _ (Frame.round (ρ l).blk fn tm0 as bo .normal) tmps1 ds1 [] (c :: cs) hput.sat r1
            have hds : ds2 = [] := by rw [r2.ds, hmarks]; rfl
            subst hds
            have hl2 : l < H2.n := Nat.lt_of_lt_of_le hl1 m2.more
            refine ⟨.round (ρ l).blk fn tm0 as bo, _, Frame.round (ρ l).blk fn tm0 as bo .normal, ρ2, w2, tmps2, ?_, ?_, (m1.trans hput).trans m2, r2, l2, rfl, ?_, hl2, e2.of_steps (Steps.trans e1 (.one hbeg))⟩
            · simp only [invoke, decFn]
              rw [← htm0]
              exact hy
            · rfl
            · rw [m2.ext l (by rw [Heap.n_put]; exact hl1), m1.ext l hll]; rfl
          -- how the round is left
          have fin : ∀ {st pe' fn' n' t' ps' as' bo' d'} {st2 : LoopState} {pe2 : Option Code} {v : Bool}, H2.get l = .loop st pe' fn' n' t' ps' as' bo' d' →
              (∀ (b : Frame) (tmps : Array Value) (c : Frame) (cs : List Frame) (fr0 : Frame) (ρ2 : Nat → RB) (w w2 : World) (r : Loop), b.roundOf = some (ρ2 l).blk → b.kind = .normal → w2.heap[(ρ2 l).blk]? = some (.loop r) → Ends P (lone fr0 (c :: cs) w) b [] (c :: cs) ρ2 tmps [] w2 x2 →
                Steps P (lone fr0 (c :: cs) w) (lone (c.finish (.bool v)) cs (putO w2 (ρ2 l).blk (.loop { r with state := st2, pending := pe2 })))) →
              R.ok (LEnd.ret (.bool v), H2.put l (.loop st2 pe2 fn' n' t' ps' as' bo' d')) s2 = .ok (e, H') s' → s.ob ∧ H.Le H' ∧ ∀ ρ w (c : Frame) (cs : List Frame), Sat ρ H w → lts H.n args → l < H.n →
              ∃ nx fr0 ρ' w', (invoke (.fn (decFn ρ (.yield l)) #[]) (decs ρ args).toArray).run P w = .ok nx w ∧ frameOf P nx = some fr0 ∧ Moved ρ H w ρ' H' w' ∧ ltEnd H'.n e ∧
                Steps P (lone fr0 (c :: cs) w) (lone (afterEnd ρ' c e) cs w') := by
            intro st pe' fn' n' t' ps' as' bo' d' st2 pe2 v hget2 hstep h
            injection h with e1 e2; injection e1 with e1 e3; subst e1; subst e2; subst e3
            obtain ⟨hs0, hle, hm⟩ := main hob
            refine ⟨hs0, hle.trans (Heap.le_put _ _ _), fun ρ w c cs hs hl hll => ?_⟩
            obtain ⟨nx, fr0, b, ρ2, w2, tmps, a1, a2, a3, a4, a5, a6, a7, a8, a9⟩ := hm ρ w c cs hs hl hll
            have hobj2 := a3.sat.obj l a8
            have hwf2 := a3.sat.wf l a8
            rw [hget2] at hobj2 hwf2
            obtain ⟨tm2, htm2, htrel2, hheap2⟩ := hobj2
            have hput := Moved.putLoop a3.sat a8 (by rw [hget2]; rfl) (.loop st2 pe2 fn' n' t' ps' as' bo' d') (.loop { state := st2, pending := pe2, fn := fn', tmps := tm2, params := ps'.toArray, assign := as', body := bo', defers := (ρ2 d').blk }) hwf2
              (fun w' hw' => ⟨tm2, htm2, htrel2, hw'⟩)
            exact ⟨nx, fr0, ρ2, _, a1, a2, a3.trans hput, trivial, hstep b tmps c cs fr0 ρ2 w w2 _ a7 a6 hheap2 a9⟩
          unfold roundEnd at h
          split at h
          · rename_i pe' fn' n' t' ps' as' bo' d' hget2
            split at h
            · exact fin hget2 (fun b tmps c cs fr0 ρ2 w w2 r hro hk hh he => Steps.trans he (.one (st_leave_end hro hk hh c))) h
            · exact fin hget2 (fun b tmps c cs fr0 ρ2 w w2 r hro hk hh he => by
                obtain ⟨k', he⟩ := he
                exact he.trans (.one (st_leave_ret hro hk hh c))) h
            · exact fin hget2 (fun b tmps c cs fr0 ρ2 w w2 r hro hk hh he => by
                obtain ⟨k', hk', he⟩ := he
                exact he.trans (.one (st_leave_exit hro hk hh hk' c))) h
            · rename_i v
              rcases bcR h with ⟨hfn, h⟩ | ⟨_, h⟩
              · injection h with e1 e2; injection e1 with e1 e3; subst e1; subst e2; subst e3
                obtain ⟨hs0, hle, hm⟩ := main hob
                refine ⟨hs0, hle, fun ρ w c cs hs hl hll => ?_⟩
                obtain ⟨nx, fr0, b, ρ2, w2, tmps, a1, a2, a3, a4, a5, a6, a7, a8, k', a9⟩ := hm ρ w c cs hs hl hll
                unfold hasFn at hfn
                split at hfn
                · rename_i fu hfu
                  exact ⟨nx, fr0, ρ2, w2, a1, a2, a3, a5, a9.trans (.one (st_raise hfu a4.fn c))⟩
                · cases hfn
              · cases h
          · cases h
        · cases h
      · cases h
  · cases h

/-- Every call. -/
theorem sound_fn (hg : Good P) {ev : Code → EvF} (hev : ∀ c, SoundC P c (ev c)) : SoundCall P (evFn P ev) := by
  intro fn xs H s e H' s' h hob
  unfold evFn at h
  split at h
  · rename_i g
    split at h
    · cases h
    · rename_i fu hf
      obtain ⟨h1, h2, h3⟩ := sound_body hg hev hf h hob
      exact ⟨h1, h2, fun ρ w c cs hs hl _ => h3 ρ w c cs hs hl⟩
  · rename_i l
    obtain ⟨h1, h2, h3⟩ := sound_round hev h hob
    exact ⟨h1, h2, fun ρ w c cs hs hl hll => h3 ρ w c cs hs hl hll⟩
  · cases h

theorem sound_call (hg : Good P) (lf : Nat) : ∀ k, SoundCall P (evF P lf k)
  | 0 => by intro fn xs H s e H' s' h; cases h
  | k + 1 => sound_fn hg fun c => sound_code hg (sound_call hg lf k) lf c

/-- A function's contract, from its evaluation: the decisions' obligations are left. -/
theorem evF_sound (hg : Good P) {k lf : Nat} {g : FuncId} {args : List LV} {H : Heap} {ds ds' : List Dir} {ob : Prop} {e : LEnd} {H' : Heap} (h : evF P lf k (.func g) args H ⟨ds, True⟩ = .ok (e, H') ⟨ds', ob⟩) (hob : ob) : HT P g args H e H' := by
  cases k with
  | zero => cases h
  | succ k =>
    change evFn P (evC P (evF P lf k) lf) (.func g) args H ⟨ds, True⟩ = _ at h
    unfold evFn at h
    simp only at h
    split at h
    · cases h
    · rename_i fu hf
      obtain ⟨_, _, h3⟩ := sound_bodyC hg (fun c => sound_code hg (sound_call hg lf k) lf c) hf h hob
      intro ρ w hs hl cs
      obtain ⟨ρ', w', fr, hm, hle, hst, hfn, hlv⟩ := h3 ρ w cs hs hl
      refine ⟨_, w', fr, ⟨ρ', rfl, hm, hle⟩, ?_, hfn, hlv⟩
      cases e <;> exact hst

/-- A code's contract, from its evaluation. -/
theorem evC_sound (hg : Good P) {k lf : Nat} {c : Code} {f : Fr} {H : Heap} {ds ds' : List Dir} {ob : Prop} {x : LX} {f' : Fr} {H' : Heap} (h : evC P (evF P lf k) lf c f H ⟨ds, True⟩ = .ok (x, f', H') ⟨ds', ob⟩) (hob : ob) : CT P c f H x f' H' :=
  (sound_code hg (sound_call hg lf k) lf c _ _ _ _ _ _ _ h hob).2.2
end Go.Proofs.Ytmnpnomllcghmaa.Ev
