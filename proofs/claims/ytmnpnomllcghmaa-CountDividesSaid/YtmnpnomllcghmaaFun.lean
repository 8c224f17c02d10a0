/- What the evaluator of code says, the machine does: functions, rounds, calls. -/
import Derived.Test.YtmnpnomllcghmaaRng
namespace Go.Proofs.Ytmnpnomllcghmaa.Ev
open Go

variable {P : Program}

theorem sound_bad {c : Code} {ev : EvF} (h : ∀ f H s, ∃ w, ev f H s = .bad w) : SoundC P c ev := by
  intro f H s x f' H' s' he _
  obtain ⟨w, hw⟩ := h f H s
  rw [hw] at he
  cases he

/-- Code. -/
theorem sound_code (hg : Good P) {call : CallF} (hcall : SoundCall P call) (lf : Nat) (c : Code) : SoundC P c (evC P call lf c) := by
  induction c with
  | skip => exact sound_end fun _ _ _ _ _ _ => st_skip
  | region id ops draw => exact sound_region hg hcall id ops draw
  | seq a b ha hb => exact sound_seq ha hb
  | cond c a b ha hb => exact sound_cond ha hb
  | block id b hb => exact sound_block hb
  | loop b hb => exact sound_loop lf hb
  | rangeFunc g ps as bo _ _ => exact sound_range hcall g ps as bo
  | exit id => exact sound_exit id
  | scope b hb => exact sound_scope hb
  | label l => exact sound_end fun _ _ _ _ _ _ => st_label
  | goto l => exact sound_bad fun _ _ _ => ⟨_, rfl⟩
  | ret => exact sound_ret
  | refuse w => exact sound_bad fun _ _ _ => ⟨_, rfl⟩

section
variable {b : Frame} {tmps : Array Value} {ds : List Deferred} {k : List Item} {cs : List Frame} {w : World}

/-! how frames are left -/
theorem st_takeMark {md : FrameMode} (hmd : md = .returning ∨ ∃ c, md = .panicking c) {d : Nat} {rest : List Deferred} (h : w.heap[d]? = some (.deferred (some []))) :
    step P (lone { frameAt b tmps ({ target := .collected d, args := #[] } :: rest) k with mode := md } cs w) = .next (lone { frameAt b tmps rest k with mode := md } cs (putO w d (.deferred none))) := by
  refine step_lone_go ?_
  have := run_takeDeferred (P := P) h
  rcases hmd with hmd | ⟨c, hmd⟩ <;> subst hmd <;> simp only [stepG, unwind, frameAt, Sem.runT_eq, this] <;> rfl

theorem st_return {g : FuncId} {fu : Func} (hf : P.funcs[g]? = some fu) (hfn : b.fn = g) (hk : b.kind = .normal) {v : Value} (hr : (results fu tmps).run P w = .ok v w) (c : Frame) :
    step P (lone { frameAt b tmps [] k with mode := .returning } (c :: cs) w) = .next (lone (c.finish v) cs w) := by
  refine step_lone_go ?_
  subst hfn
  simp [stepG, unwind, frameAt, hf, hr, doReturn, hk]
theorem st_raise {g : FuncId} {fu : Func} (hf : P.funcs[g]? = some fu) (hfn : b.fn = g) {ch : List PanicEntry} (c : Frame) :
    step P (lone { frameAt b tmps [] k with mode := .panicking ch } (c :: cs) w) = .next (lone (c.raise ch) cs w) := by
  refine step_lone_go ?_
  subst hfn
  simp [stepG, unwind, frameAt, Frame.catches, hf]

theorem st_begin {l : Nat} {r : Loop} (hro : b.roundOf = some l) (h : w.heap[l]? = some (.loop r)) (hr : r.state = .ready) :
    step P (lone (frameAt b tmps ds (.beginRound :: k)) cs w) = .next (lone (frameAt b tmps ds k) cs (putO w l (.loop { r with state := .busy }))) := by
  refine step_lone_go ?_
  have := run_beginRound (P := P) h hr
  simp [stepG, stepG.exec, frameAt, stepG.apply, hro, this, Frame.finish]
  rfl

theorem st_leave_end {l : Nat} {r : Loop} (hro : b.roundOf = some l) (hk : b.kind = .normal) (h : w.heap[l]? = some (.loop r)) (c : Frame) :
    step P (lone (frameAt b tmps ds []) (c :: cs) w) = .next (lone (c.finish (.bool true)) cs (putO w l (.loop { r with state := .ready, pending := none }))) := by
  refine step_lone_go ?_
  have := run_endRound (P := P) none h
  simp [stepG, stepG.exec, frameAt, hro, this, doReturn, hk]
  rfl
theorem st_leave_ret {l : Nat} {r : Loop} (hro : b.roundOf = some l) (hk : b.kind = .normal) (h : w.heap[l]? = some (.loop r)) (c : Frame) :
    step P (lone (frameAt b tmps ds (.code .ret :: k)) (c :: cs) w) = .next (lone (c.finish (.bool false)) cs (putO w l (.loop { r with state := .done, pending := some .ret }))) := by
  refine step_lone_go ?_
  have := run_endRound (P := P) (some .ret) h
  simp [stepG, stepG.exec, frameAt, hro, this, doReturn, hk]
  rfl
theorem st_leave_exit {l id : Nat} {r : Loop} (hro : b.roundOf = some l) (hk : b.kind = .normal) (h : w.heap[l]? = some (.loop r)) (he : exitTo id k = none) (c : Frame) :
    step P (lone (frameAt b tmps ds (.code (.exit id) :: k)) (c :: cs) w) = .next (lone (c.finish (.bool false)) cs (putO w l (.loop { r with state := .done, pending := some (.exit id) }))) := by
  refine step_lone_go ?_
  have := run_endRound (P := P) (some (.exit id)) h
  simp [stepG, stepG.exec, frameAt, hro, this, doReturn, hk, he]
  rfl
end

/-! marks -/
theorem take_marks {md : FrameMode} (hmd : md = .returning ∨ ∃ c, md = .panicking c) : ∀ (l : List Nat) (H H2 : Heap), takeMarks H l = some H2 → (∀ d, d ∈ l → d < H.n) → H.Le H2 ∧ ∀ (ρ : Nat → RB) (w : World) (b : Frame) (tmps : Array Value) (k : List Item) (cs : List Frame), Sat ρ H w →
    ∃ w', Moved ρ H w ρ H2 w' ∧ Steps P (lone { frameAt b tmps (marksOf ρ l) k with mode := md } cs w) (lone { frameAt b tmps [] k with mode := md } cs w')
  | [], H, H2, h, _ => by
    injection h with h; subst h
    exact ⟨Heap.Le.refl _, fun ρ w b tmps k cs hs => ⟨w, Moved.refl hs, Steps.refl _ _⟩⟩
  | d :: l, H, H2, h, hl => by
    simp only [takeMarks] at h
    split at h
    · rename_i hget
      have hd := hl d (by simp)
      obtain ⟨hle, ih⟩ := take_marks hmd l _ _ h (fun x hx => by rw [Heap.n_put]; exact hl x (by simp [hx]))
      refine ⟨(Heap.le_put _ _ _).trans hle, fun ρ w b tmps k cs hs => ?_⟩
      have hob := hs.obj d hd
      rw [hget] at hob
      have hob : w.heap[(ρ d).blk]? = some (.deferred (some [])) := hob
      have hput := Moved.putLoop hs hd (by rw [hget]; rfl) (.defers true) (.deferred none) trivial (fun w' hw' => hw')
      obtain ⟨w', hm, hst⟩ := ih ρ _ b tmps k cs hput.sat
      exact ⟨w', hput.trans hm, .head (st_takeMark hmd hob) hst⟩
    · cases h

theorem take_marks_le : ∀ (l : List Nat) (H H2 : Heap), takeMarks H l = some H2 → H.Le H2
  | [], H, H2, h => by injection h with h; subst h; exact Heap.Le.refl _
  | d :: l, H, H2, h => by
    simp only [takeMarks] at h
    split at h
    · exact (Heap.le_put _ _ _).trans (take_marks_le l _ _ h)
    · cases h

/-! the results -/
def resV (tmps : Array Value) : ResultVar → Sem Value
  | .tmp t => pure (tmps.getD t undef)
  | .cell a t => do loadVar t (← asAddr (tmps.getD a undef))

theorem result_ok {ρ : Nat → RB} {H : Heap} {w : World} {f : Fr} {b : Frame} {tmps : Array Value} {ds : List Deferred} (hs : Sat ρ H w) (hf : FRel ρ H.n f b tmps ds) {r : ResultVar} {v : LV} (h : resultL P f H r = some v) :
    (resV tmps r).run P w = .ok (dec ρ v) w ∧ lt H.n v := by
  cases r with
  | tmp t =>
    simp only [resultL] at h
    obtain ⟨hj, h⟩ := bc_some' h
    injection h with h; subst h
    have := (hf.ev (.tmp t)).1.eq hj
    exact ⟨by simp only [resV, Sem.run_pure]; rw [show tmps.getD t undef = rev tmps (.tmp t) from rfl, this]; rfl, hf.wf t⟩
  | cell a t =>
    simp only [resultL] at h
    have hj := load_junk h
    have hev := (hf.ev (.tmp a)).1.eq hj
    have := load_ok hs h (hf.wf a)
    refine ⟨?_, this.2⟩
    simp only [resV]
    rw [show tmps.getD a undef = rev tmps (.tmp a) from rfl, hev, show f.ev (.tmp a) = f.get a from rfl]
    replace this := this.1
    unfold loadL at h
    split at h
    · rename_i i o hx
      rw [hx] at this ⊢
      simp only [Instr.loadAt, dec, Instr.sureAddr, pure_bind] at this
      simp only [dec, asAddr, pure_bind]
      exact this
    · cases h

theorem results_ok {ρ : Nat → RB} {H : Heap} {w : World} {f : Fr} {b : Frame} {tmps : Array Value} {ds : List Deferred} (hs : Sat ρ H w) (hf : FRel ρ H.n f b tmps ds) : ∀ (l : List ResultVar) (vs : List LV), resultsL P f H l = some vs →
    (l.mapM (resV tmps)).run P w = .ok (decs ρ vs) w ∧ lts H.n vs
  | [], vs, h => by injection h with h; subst h; exact ⟨by simp [decs], trivial⟩
  | r :: l, vs, h => by
    simp only [resultsL] at h
    split at h
    · cases h
    · rename_i v hv
      split at h
      · cases h
      · rename_i vs' hvs
        injection h with h; subst h
        obtain ⟨h1, h2⟩ := result_ok hs hf hv
        obtain ⟨h3, h4⟩ := results_ok hs hf l vs' hvs
        refine ⟨?_, h2, h4⟩
        simp only [List.mapM_cons, Sem.run_bind, h1, Result.andThen_ok, h3, Sem.run_pure, decs]

theorem dec_oneOf (ρ : Nat → RB) (vs : List LV) : dec ρ (oneOf vs) = (if h : (decs ρ vs).toArray.size = 1 then (decs ρ vs).toArray[0] else .tuple (decs ρ vs).toArray) := by
  match vs with
  | [] => simp [oneOf, dec, decs]
  | [v] => simp [oneOf, decs]
  | a :: b :: l => simp [oneOf, dec, decs]
theorem lt_oneOf {n : Nat} {vs : List LV} (h : lts n vs) : lt n (oneOf vs) := by
  match vs with
  | [] => exact h
  | [v] => exact h.1
  | a :: b :: l => exact h

theorem run_results {ρ : Nat → RB} {H : Heap} {w : World} {f : Fr} {b : Frame} {tmps : Array Value} {ds : List Deferred} (hs : Sat ρ H w) (hf : FRel ρ H.n f b tmps ds) {fu : Func} {vs : List LV} (h : resultsL P f H fu.results.toList = some vs) :
    (results fu tmps).run P w = .ok (dec ρ (oneOf vs)) w ∧ lt H.n (oneOf vs) := by
  obtain ⟨h1, h2⟩ := results_ok hs hf _ _ h
  refine ⟨?_, lt_oneOf h2⟩
  unfold results
  have hm : (fu.results.mapM fun
    | .tmp t => pure (tmps.getD t undef)
    | .cell a t => do loadVar t (← asAddr (tmps.getD a undef)) : Sem (Array Value)) = fu.results.mapM (resV tmps) := by
    congr 1
  simp only [Sem.run_bind]
  have hm2 : (fu.results.mapM (resV tmps)).run P w = .ok (decs ρ vs).toArray w := by
    rw [Array.mapM_eq_mapM_toList]
    simp only [map_eq_pure_bind, Sem.run_bind, h1, Result.andThen_ok, Sem.run_pure]
  have := dec_oneOf ρ vs
  rw [this]
  refine (congrArg (fun r : Result (Array Value) => r.andThen _) (?_ : _ = Result.ok (decs ρ vs).toArray w)).trans ?_
  · exact (congrArg (fun s : Sem (Array Value) => s.run P w) hm).trans hm2
  · simp only [Result.andThen_ok, Sem.run_pure]

/-! calls of functions -/
theorem argsFrom_get : ∀ (vs : List LV) (t : Tr LV) (i j : Nat), (argsFrom t i vs).get .junk j = if i ≤ j ∧ j < i + vs.length then vs.getD (j - i) .junk else t.get .junk j
  | [], t, i, j => by simp [argsFrom]; omega
  | v :: vs, t, i, j => by
    simp only [argsFrom]
    rw [argsFrom_get vs _ (i + 1) j, Tr.get_set]
    by_cases h : i = j
    · subst h
      rw [if_neg (by omega), if_pos rfl, if_pos ⟨by omega, by simp⟩]
      simp
    · by_cases h2 : i + 1 ≤ j ∧ j < i + 1 + vs.length
      · rw [if_pos h2, if_pos ⟨by omega, by simp; omega⟩]
        rw [show j - i = (j - (i + 1)) + 1 by omega]
        simp
      · rw [if_neg h2, if_neg h, if_neg]
        simp; omega

theorem enter_rel {ρ : Nat → RB} {H : Heap} {g : FuncId} {fu : Func} {c : Code} (hf : P.funcs[g]? = some fu) (hb : fu.body = some c) (args : List LV) (hl : lts H.n args) :
    ∃ tmps, Frame.enter P g (decs ρ args).toArray .normal = frameAt (Frame.enter P g (decs ρ args).toArray .normal) tmps [] [.code c] ∧
      FRel ρ H.n ⟨g, max fu.ntmps (lenL args), argsFrom .nil 0 args, [], none⟩ (Frame.enter P g (decs ρ args).toArray .normal) tmps [] := by
  refine ⟨(decs ρ args).toArray ++ Array.replicate (fu.ntmps - args.length) undef, ?_, ?_⟩
  · simp [Frame.enter, frameAt, hf, hb, decs_length]
  · refine ⟨?_, by simp, by simp, rfl, ?_, ?_, rfl, rfl⟩
    · intro j
      rw [argsFrom_get]
      split
      · rename_i h
        have h' : j < args.length := by omega
        simp only [Nat.sub_zero, List.getD_eq_getElem?_getD, List.getElem?_eq_getElem h', Option.getD_some]
        exact (lts_iff _ _).1 hl _ (List.getElem_mem _)
      · exact ⟨⟩
    · simp [decs_length, lenL_eq]; omega
    · intro j
      show (argsFrom .nil 0 args).get .junk j = _ ∨ _
      rw [argsFrom_get]
      split
      · rename_i h
        right
        have h' : j < args.length := by omega
        rw [Array.getElem?_append_left (by simp [decs_length]; omega)]
        simp only [Nat.sub_zero, List.getD_eq_getElem?_getD, List.getElem?_eq_getElem h', Option.getD_some]
        simp [decs_eq, h']
      · left; rfl

theorem hasBody_of {g : FuncId} {fu : Func} {c : Code} (hf : P.funcs[g]? = some fu) (hb : fu.body = some c) : hasBody P g = true := by simp [hasBody, hf, hb]

/-- A function's contract, up to where its frame is left. -/
theorem sound_bodyC (_hg : Good P) {ev : Code → EvF} (hev : ∀ c, SoundC P c (ev c)) {g : FuncId} {fu : Func} (hf : P.funcs[g]? = some fu) {args : List LV} {H : Heap} {s s' : S} {e : LEnd} {H' : Heap} (h : evBody P ev g fu args H s = .ok (e, H') s') (hob : s'.ob) :
    s.ob ∧ H.Le H' ∧ ∀ ρ w (cs : List Frame), Sat ρ H w → lts H.n args →
      ∃ ρ' w' fr, Moved ρ H w ρ' H' w' ∧ ltEnd H'.n e ∧ Steps P (lone (Frame.enter P g (decs ρ args).toArray .normal) cs w) (lone fr cs w') ∧ fr.fn = g ∧ fr.leaving P w' (decEnd ρ' e) := by
  unfold evBody at h
  split at h
  · cases h
  · rename_i c hb
    obtain ⟨⟨x, f1, H1⟩, s1, hc, h⟩ := bnd_ok h
    simp only at h
    split at h
    · cases h
    · rename_i H2 hm
      have main : s1.ob → s.ob ∧ H.Le H1 ∧ ∀ ρ w (cs : List Frame), Sat ρ H w → lts H.n args → ∃ b ρ1 w1 tmps ds,
          Moved ρ H w ρ1 H1 w1 ∧ FRel ρ1 H1.n f1 b tmps ds ∧ ltX H1.n x ∧ b.fn = g ∧ b.kind = .normal ∧ b.roundOf = none ∧ Ends P (lone (Frame.enter P g (decs ρ args).toArray .normal) cs w) b [] cs ρ1 tmps ds w1 x := by
        intro hs1
        obtain ⟨hs0, hle, hct⟩ := hev c _ _ _ _ _ _ _ hc hs1
        refine ⟨hs0, hle, fun ρ w cs hs hl => ?_⟩
        obtain ⟨tmps0, hfr, hrel⟩ := enter_rel (ρ := ρ) hf hb args hl
        obtain ⟨ρ1, w1, tmps1, ds1, h1, h2, h3, h4⟩ := hct ρ w _ tmps0 [] [] cs hs hrel
        rw [← hfr] at h4
        exact ⟨_, ρ1, w1, tmps1, ds1, h1, h2, h3, rfl, rfl, rfl, h4⟩
      -- behind the body: the marks, then the frame is left
      have out : ∀ {md : FrameMode}, (md = .returning ∨ ∃ c, md = .panicking c) → ∀ {ρ1 : Nat → RB} {w1 : World} {b : Frame} {tmps : Array Value} {ds : List Deferred} (k : List Item) (cs : List Frame), Sat ρ1 H1 w1 → FRel ρ1 H1.n f1 b tmps ds →
          ∃ w2, Moved ρ1 H1 w1 ρ1 H2 w2 ∧ FRel ρ1 H2.n { f1 with marks := [] } b tmps [] ∧ Steps P (lone { frameAt b tmps ds k with mode := md } cs w1) (lone { frameAt b tmps [] k with mode := md } cs w2) := by
        intro md hmd ρ1 w1 b tmps ds k cs hs hfr
        obtain ⟨hle, hmk⟩ := take_marks (P := P) hmd _ _ _ hm hfr.marks
        obtain ⟨w2, hmv, hst⟩ := hmk ρ1 w1 b tmps k cs hs
        rw [← hfr.ds] at hst
        have := hfr.ext hmv.ext hmv.more
        exact ⟨w2, hmv, ⟨this.wf, by simp, this.inRound, this.fn, this.size, this.t, rfl, this.round⟩, hst⟩
      have leM : H1.Le H2 := take_marks_le _ _ _ hm
      unfold leave at h
      have returned : x = .normal ∨ x = .ret → (match resultsL P f1 H2 fu.results.toList with
          | some vs => R.ok (LEnd.ret (oneOf vs), H2) s1
          | none => .bad 35) = .ok (e, H') s' → s.ob ∧ H.Le H' ∧ ∀ ρ w (cs : List Frame), Sat ρ H w → lts H.n args →
      ∃ ρ' w' fr, Moved ρ H w ρ' H' w' ∧ ltEnd H'.n e ∧ Steps P (lone (Frame.enter P g (decs ρ args).toArray .normal) cs w) (lone fr cs w') ∧ fr.fn = g ∧ fr.leaving P w' (decEnd ρ' e) := by
        intro hx h
        split at h
        · rename_i vs hres
          injection h with e1 e2; injection e1 with e1 e3; subst e1; subst e2; subst e3
          obtain ⟨hs0, hle, hmain⟩ := main hob
          refine ⟨hs0, hle.trans leM, fun ρ w cs hs hl => ?_⟩
          obtain ⟨b, ρ1, w1, tmps, ds, h3, h4, h5, h6, h7, h8, h9⟩ := hmain ρ w cs hs hl
          have toRet : ∃ k, Steps P (lone (Frame.enter P g (decs ρ args).toArray .normal) cs w) (lone { frameAt b tmps ds k with mode := .returning } cs w1) := by
            rcases hx with hx | hx <;> subst hx
            · exact ⟨_, Steps.trans h9 (.one (st_end_frame h8))⟩
            · obtain ⟨k', hk⟩ := h9
              exact ⟨_, hk.trans (.one (st_ret_frame h8))⟩
          obtain ⟨k, hk⟩ := toRet
          obtain ⟨w2, hm2, hf2, hst2⟩ := out (.inl rfl) k cs h3.sat h4
          have hf2' : FRel ρ1 H2.n { f1 with marks := [] } b tmps [] := hf2
          obtain ⟨hr1, hr2⟩ := run_results (P := P) hm2.sat hf2' (fu := fu) (vs := vs) (by
            rw [← hres]
            clear hres
            generalize fu.results.toList = l
            induction l with
            | nil => rfl
            | cons r l ih => simp only [resultsL]; rw [ih]; cases r <;> rfl)
          exact ⟨ρ1, w2, _, h3.trans hm2, hr2, hk.trans hst2, h6, rfl, rfl, h7, fu, by show P.funcs[b.fn]? = _; rw [h6]; exact hf, hr1⟩
        · cases h
      cases x with
      | exit id => cases h
      | normal => exact returned (.inl rfl) h
      | ret => exact returned (.inr rfl) h
      | pan v =>
        simp only at h
        injection h with e1 e2; injection e1 with e1 e3; subst e1; subst e2; subst e3
        obtain ⟨hs0, hle, hmain⟩ := main hob
        refine ⟨hs0, hle.trans leM, fun ρ w cs hs hl => ?_⟩
        obtain ⟨b, ρ1, w1, tmps, ds, h3, h4, h5, h6, h7, h8, k, h9⟩ := hmain ρ w cs hs hl
        obtain ⟨w2, hm2, hf2, hst2⟩ := out (.inr ⟨_, rfl⟩) k cs h3.sat h4
        exact ⟨ρ1, w2, _, h3.trans hm2, lt_mono hm2.more _ h5, h9.trans hst2, h6, rfl, rfl, fu, by show P.funcs[b.fn]? = _; rw [h6]; exact hf⟩

/-- A function's contract, with what stands behind it. -/
theorem sound_body (hg : Good P) {ev : Code → EvF} (hev : ∀ c, SoundC P c (ev c)) {g : FuncId} {fu : Func} (hf : P.funcs[g]? = some fu) {args : List LV} {H : Heap} {s s' : S} {e : LEnd} {H' : Heap} (h : evBody P ev g fu args H s = .ok (e, H') s') (hob : s'.ob) :
    s.ob ∧ H.Le H' ∧ ∀ ρ w (c : Frame) (cs : List Frame), Sat ρ H w → lts H.n args →
      ∃ nx fr0 ρ' w', (invoke (.fn (decFn ρ (.func g)) #[]) (decs ρ args).toArray).run P w = .ok nx w ∧ frameOf P nx = some fr0 ∧ Moved ρ H w ρ' H' w' ∧ ltEnd H'.n e ∧
        Steps P (lone fr0 (c :: cs) w) (lone (afterEnd ρ' c e) cs w') := by
  obtain ⟨h1, h2, h3⟩ := sound_bodyC hg hev hf h hob
  have hb : hasBody P g = true := by
    unfold evBody at h
    split at h
    · cases h
    · rename_i c hb; exact hasBody_of hf hb
  refine ⟨h1, h2, fun ρ w c cs hs hl => ?_⟩
  obtain ⟨ρ', w', fr, hm, hle, hst, hfn, hlv⟩ := h3 ρ w (c :: cs) hs hl
  refine ⟨.enter g (decs ρ args).toArray, _, ρ', w', ?_, rfl, hm, hle, ?_⟩
  · simp only [invoke, decFn, Array.append_empty]
    exact run_callFunc hg hb _ w
  · cases e with
    | ret v => exact hst.trans (.one (step_leave_returned hlv))
    | pan v => exact hst.trans (.one (step_leave_panicked hlv))
end Go.Proofs.Ytmnpnomllcghmaa.Ev
