/- What the evaluator of code says, the machine does: loops over functions. -/
import Derived.Test.YtmnpnomllcghmaaCde
import Derived.RangeFuncRecord
namespace Go.Proofs.Ytmnpnomllcghmaa.Ev
open Go

section
variable {P : Program} {b : Frame} {tmps : Array Value} {ds : List Deferred} {k : List Item} {cs : List Frame} {w : World}

def yieldCall (f : Operand) (l : Nat) : Call := { callee := .value f, args := #[.const (.func (.yield l) #[] #[])], argTypes := #[] }
theorem st_range {f : Operand} {params : Array Tmp} {assign body : Code} {l : Nat} {mark : List Deferred} {w1 : World} {nx : Next} {fr0 : Frame} (h1 : (Instr.enterLoop b.fn tmps params assign body b.roundOf).run P w = .ok (l, mark) w1)
    (h2 : (do let d ← resolve (rev tmps) (yieldCall f l) 0; invoke d.target d.args : Sem Next).run P w1 = .ok nx w1) (hf : frameOf P nx = some fr0) :
    step P (lone (frameAt b tmps ds (.code (.rangeFunc f params assign body) :: k)) cs w) = .next (lone fr0 (frameAt b tmps (mark ++ ds) (.inRangeFunc l :: k) :: cs) w1) := by
  have he := frameAt_rev b tmps (mark ++ ds) (.inRangeFunc l :: k)
  simp only [frameAt] at he
  refine step_lone_go ?_
  simp only [stepG, stepG.exec, frameAt, Sem.runT_eq, h1, stepG.apply, he]
  simp only [yieldCall] at h2
  cases nx <;> simp only [frameOf] at hf <;> first
    | (cases hf; done)
    | (injection hf with hf; subst hf; simp [h2])

theorem st_rangeEnd {l : Nat} {r : Loop} (h : w.heap[l]? = some (.loop r)) (hb : r.state ≠ .busy) :
    step P (lone (frameAt b tmps ds (.endRangeFunc l :: k)) cs w) = .next (lone (frameAt b tmps ds ((r.pending.map Item.code).toList ++ k)) cs (putO w l (.loop { r with state := .exhausted }))) := by
  refine step_lone_go ?_
  have := run_endLoop (P := P) h hb
  simp only [stepG, stepG.exec, frameAt, Sem.runT_eq, this]
  rfl

theorem finish_range {l : Nat} (v : Value) : (frameAt b tmps ds (.inRangeFunc l :: k)).finish v = frameAt b tmps ds (.endRangeFunc l :: k) := rfl
end

variable {P : Program}

theorem Moved.putLoop {ρ : Nat → RB} {H : Heap} {w : World} (h : Sat ρ H w) {i : Nat} (hi : i < H.n) (hown : (H.get i).owns = true) (o : LObj) (O : Obj) (hl : ltObj H.n o) (ho : ∀ w' : World, w'.heap[(ρ i).blk]? = some O → SatObj ρ (ρ i) w' o) :
    Moved ρ H w ρ (H.put i o) (putO w (ρ i).blk O) := by
  have hin := h.inside i hi (LObj.sits_of_owns hown)
  exact Moved.put h hi hown o (fun b hb => putO_heap_other hb) (by simp [putO]) rfl rfl rfl hl (ho _ (putO_heap_same hin))

theorem run_mark {ρ : Nat → RB} {n : Nat} {f : Fr} {b : Frame} {tmps : Array Value} {ds : List Deferred} (hf : FRel ρ n f b tmps ds) {g : Operand} {fn : FuncId} {first captured : List LV} (hg : f.ev g = .func (.func fn) first captured)
    {ρ' : Nat → RB} (hext : Ext n ρ ρ') (l : Nat) (w : World) :
    (do let d ← resolve (rev tmps) (yieldCall g (ρ' l).blk) 0; invoke d.target d.args : Sem Next).run P w =
      (invoke (.fn (decFn ρ' (.func fn)) #[]) (decs ρ' (first ++ ([.func (.yield l) [] []] ++ captured))).toArray).run P w := by
  have hfv := hf.ev g
  rw [hg] at hfv
  have hfv1 := hfv.1.eq rfl
  have hl := hfv.2
  simp only [lt] at hl
  have e1 : decs ρ' first = decs ρ first := decs_ext hext _ hl.2.1
  have e2 : decs ρ' captured = decs ρ captured := decs_ext hext _ hl.2.2
  simp only [resolve, yieldCall, hfv1, dec, Deferred.ofValue, pure_bind, invoke, decFn]
  congr 2
  apply Array.ext'
  simp only [List.map_toArray, List.map_cons, List.map_nil, rev]
  rw [decs_eq ρ' (first ++ _), List.map_append, List.map_append, ← decs_eq, ← decs_eq ρ' captured, e1, e2]
  simp [dec, decFn, decs]

theorem loop_own {st pe fn n t ps as bo d} : (LObj.loop st pe fn n t ps as bo d).owns = true := rfl

theorem pend_ends {m : Machine} {b : Frame} {k : List Item} {cs : List Frame} {ρ : Nat → RB} {tmps : Array Value} {ds : List Deferred} {w : World} {pe : Option Code} {x : LX} (hp : pend pe = some x)
    (h : Steps P m (lone (frameAt b tmps ds ((pe.map Item.code).toList ++ k)) cs w)) : Ends P m b k cs ρ tmps ds w x ∧ ∀ n, ltX n x := by
  unfold pend at hp
  split at hp
  · injection hp with hp; subst hp; exact ⟨h, fun _ => trivial⟩
  · injection hp with hp; subst hp; exact ⟨⟨k, h⟩, fun _ => trivial⟩
  · injection hp with hp; subst hp; exact ⟨⟨k, rfl, h⟩, fun _ => trivial⟩
  · cases hp

theorem sound_range {call : CallF} (hcall : SoundCall P call) (g : Operand) (ps : Array Tmp) (assign body : Code) : SoundC P (.rangeFunc g ps assign body) (evRange call g ps.toList assign body) := by
  intro f H s x f' H' s' h hob
  unfold evRange at h
  split at h
  · rename_i fn first captured hfg
    split at h
    · rename_i H1 d marks hrb
      obtain ⟨⟨e, H2⟩, s1, hc, h⟩ := bnd_ok h
      simp only at h
      rw [app_eq, app_eq] at hc
      -- what the beginning does
      have hbegin : H.Le H1 ∧ ∀ (ρ : Nat → RB) (w : World) (b : Frame) (tmps : Array Value) (ds : List Deferred), Sat ρ H w → FRel ρ H.n f b tmps ds →
          ∃ ρ1 w1 mark, Moved ρ H w ρ1 (H1.push (.loop .ready none f.fn f.n f.t ps.toList assign body d)) w1 ∧ FRel ρ1 (H1.push (.loop .ready none f.fn f.n f.t ps.toList assign body d)).n { f with marks := marks } b tmps (mark ++ ds) ∧
            (Instr.enterLoop b.fn tmps ps assign body b.roundOf).run P w = .ok ((ρ1 H1.n).blk, mark) w1 := by
        unfold roundBegin at hrb
        split at hrb
        · rename_i hr
          injection hrb with hrb; injection hrb with e1 e2; injection e2 with e2 e3; subst e1; subst e2; subst e3
          refine ⟨Heap.le_push _ _, fun ρ w b tmps ds hs hf => ?_⟩
          have m1 := Moved.push (w' := w.alloc (.deferred (some []))) hs (.defers false) (.deferred (some [])) ⟨w.heap.size, 0, 0, default, 0⟩ rfl rfl rfl rfl rfl trivial (World.alloc_heap_new w _)
          have hn1 : (H.push (.defers false)).n = H.n + 1 := Heap.n_push ..
          have hf1 := hf.ext m1.ext m1.more
          have m2 := Moved.push (w' := (w.alloc (.deferred (some []))).alloc (.loop { state := .ready, pending := none, fn := b.fn, tmps, params := ps, assign, body, defers := w.heap.size })) m1.sat
            (.loop .ready none f.fn f.n f.t ps.toList assign body H.n) (.loop { state := .ready, pending := none, fn := b.fn, tmps, params := ps, assign, body, defers := w.heap.size }) ⟨w.heap.size + 1, 0, 0, default, 0⟩
            (World.size_alloc ..).symm rfl rfl rfl rfl ⟨ltT_mono (by rw [hn1]; omega) hf.wf, by rw [hn1]; omega⟩ (by
              refine ⟨tmps, hf.size, (hf1.t.ext (upRho_ext _ _ _) (ltT_mono (by rw [hn1]; omega) hf.wf)), ?_⟩
              have : (upRho (upRho ρ H.n ⟨w.heap.size, 0, 0, default, 0⟩) (H.push (.defers false)).n ⟨w.heap.size + 1, 0, 0, default, 0⟩ H.n).blk = w.heap.size := by
                rw [upRho_ext _ _ _ H.n (by rw [hn1]; omega), upRho_new]
              rw [this, ← hf.fn]
              have h2 := World.alloc_heap_new (w.alloc (.deferred (some []))) (.loop { state := .ready, pending := none, fn := b.fn, tmps, params := ps, assign, body, defers := w.heap.size })
              rw [World.size_alloc] at h2
              exact h2)
          refine ⟨_, _, [{ target := .collected w.heap.size, args := #[] }], m1.trans m2, ?_, ?_⟩
          · have hf2 := hf1.ext m2.ext m2.more
            refine ⟨hf2.wf, ?_, hf2.inRound, hf2.fn, hf2.size, hf2.t, ?_, hf2.round⟩
            · intro j hj
              simp only [List.mem_cons] at hj
              rcases hj with hj | hj
              · subst hj; rw [Heap.n_push, hn1]; omega
              · exact hf2.marks j hj
            · simp only [marksOf, List.cons_append, List.nil_append]
              rw [← hf2.ds, upRho_ext _ _ _ H.n (by rw [hn1]; omega), upRho_new]
          · have hro : b.roundOf = none := by rw [hf.round, hr]; rfl
            rw [hro, run_enterLoop_outer, upRho_new]
        · rename_i l hr
          split at hrb
          · rename_i st pe fn' n' t' ps' as' bo' d' hget
            injection hrb with hrb; injection hrb with e1 e2; injection e2 with e2 e3; subst e1; subst e2; subst e3
            refine ⟨Heap.Le.refl _, fun ρ w b tmps ds hs hf => ?_⟩
            have hl := hf.inRound l hr
            have hwf := hs.wf l hl
            rw [hget] at hwf
            have hob := hs.obj l hl
            rw [hget] at hob
            obtain ⟨tm, htm, htr, hheap⟩ := hob
            have m2 := Moved.push (w' := w.alloc (.loop { state := .ready, pending := none, fn := b.fn, tmps, params := ps, assign, body, defers := (ρ d').blk })) hs
              (.loop .ready none f.fn f.n f.t ps.toList assign body d') (.loop { state := .ready, pending := none, fn := b.fn, tmps, params := ps, assign, body, defers := (ρ d').blk }) ⟨w.heap.size, 0, 0, default, 0⟩
              rfl rfl rfl rfl rfl ⟨ltT_mono (by omega) hf.wf, by have := hwf.2; omega⟩ (by
                refine ⟨tmps, hf.size, hf.t.ext (upRho_ext _ _ _) hf.wf, ?_⟩
                rw [upRho_ext _ _ _ d' hwf.2, ← hf.fn]
                exact World.alloc_heap_new w _)
            refine ⟨_, _, [], m2, ?_, ?_⟩
            · have hf2 := hf.ext m2.ext m2.more
              exact hf2
            · have hro : b.roundOf = some (ρ l).blk := by rw [hf.round, hr]; rfl
              rw [hro, upRho_new]
              unfold Instr.enterLoop
              simp only [Sem.run_bind, run_getLoop hheap, run_newObj_alloc, Result.andThen, Sem.run_pure]
          · cases hrb
      have hpush : (H1.push (.loop .ready none f.fn f.n f.t ps.toList assign body d)).n = H1.n + 1 := Heap.n_push ..
      have hle1 : H.Le (H1.push (.loop .ready none f.fn f.n f.t ps.toList assign body d)) := hbegin.1.trans (Heap.le_push _ _)
      -- what the call does
      have hmid : s1.ob → s.ob ∧ H.Le H2 ∧ ∀ (ρ : Nat → RB) (w : World) (b : Frame) (tmps : Array Value) (ds : List Deferred) (k : List Item) (cs : List Frame), Sat ρ H w → FRel ρ H.n f b tmps ds →
          ∃ ρ2 w2 ds2 l2, Moved ρ H w ρ2 H2 w2 ∧ FRel ρ2 H2.n { f with marks := marks } b tmps ds2 ∧ ltEnd H2.n e ∧ l2 = (ρ2 H1.n).blk ∧ H1.n < H2.n ∧
            Steps P (lone (frameAt b tmps ds (.code (.rangeFunc g ps assign body) :: k)) cs w) (lone (afterEnd ρ2 (frameAt b tmps ds2 (.inRangeFunc l2 :: k)) e) cs w2) := by
        intro hob1
        obtain ⟨hs0, hle2, hcal⟩ := hcall _ _ _ _ _ _ _ hc hob1
        refine ⟨hs0, hle1.trans hle2, fun ρ w b tmps ds k cs hs hf => ?_⟩
        obtain ⟨ρ1, w1, mark, m1, hf1, hen⟩ := hbegin.2 ρ w b tmps ds hs hf
        have hfv := hf.ev g
        rw [hfg] at hfv
        have hlv := hfv.2
        simp only [lt] at hlv
        have hlts : lts (H1.push (.loop .ready none f.fn f.n f.t ps.toList assign body d)).n (first ++ ([.func (.yield H1.n) [] []] ++ captured)) := by
          rw [lts_iff]
          intro v hv
          rcases List.mem_append.1 hv with hv | hv
          · exact lt_mono hle1.n _ ((lts_iff _ _).1 hlv.2.1 v hv)
          · rcases List.mem_append.1 hv with hv | hv
            · simp only [List.mem_singleton] at hv
              subst hv
              exact ⟨by rw [hpush]; exact Nat.lt_succ_self _, trivial, trivial⟩
            · exact lt_mono hle1.n _ ((lts_iff _ _).1 hlv.2.2 v hv)
        obtain ⟨nx, fr0, ρ2, w2, hi, hfo, hm, hlE, hst⟩ := hcal ρ1 w1 (frameAt b tmps (mark ++ ds) (.inRangeFunc (ρ1 H1.n).blk :: k)) cs m1.sat hlts trivial
        rw [← run_mark (P := P) hf hfg m1.ext] at hi
        have hst0 := st_range (b := b) (ds := ds) (k := k) (cs := cs) hen hi hfo
        have hlt : H1.n < (H1.push (.loop .ready none f.fn f.n f.t ps.toList assign body d)).n := by rw [hpush]; exact Nat.lt_succ_self _
        exact ⟨ρ2, w2, mark ++ ds, (ρ1 H1.n).blk, m1.trans hm, hf1.ext hm.ext hm.more, hlE, by rw [hm.ext _ hlt], Nat.lt_of_lt_of_le hlt hm.more, .head hst0 hst⟩
      unfold rangeEnd at h
      cases e with
      | pan v =>
        simp only at h
        injection h with e1 e2; injection e1 with e1 e3; injection e3 with e3 e4; subst e1; subst e2; subst e3; subst e4
        obtain ⟨hs0, hle, hm⟩ := hmid hob
        refine ⟨hs0, hle, fun ρ w b tmps ds k cs hs hf => ?_⟩
        obtain ⟨ρ2, w2, ds2, l2, h1, h2, h3, h4, h5, h6⟩ := hm ρ w b tmps ds k cs hs hf
        exact ⟨ρ2, w2, tmps, ds2, h1, h2, h3, _, h6⟩
      | ret v =>
        simp only at h
        have key : ∀ {st pe fn n t ps' as bo d'}, H2.get H1.n = .loop st pe fn n t ps' as bo d' → st ≠ .busy → (match pend pe with
            | some x => R.ok (x, { f with marks := marks }, H2.put H1.n (.loop .exhausted pe fn n t ps' as bo d')) s1
            | none => .bad 23) = .ok (x, f', H') s' → s.ob ∧ H.Le H' ∧ CT P (.rangeFunc g ps assign body) f H x f' H' := by
          intro st pe fn n t ps' as bo d' hget hst h
          split at h
          · rename_i x' hp
            injection h with e1 e2; injection e1 with e1 e3; injection e3 with e3 e4; subst e1; subst e2; subst e3; subst e4
            obtain ⟨hs0, hle, hm⟩ := hmid hob
            refine ⟨hs0, hle.trans (Heap.le_put _ _ _), fun ρ w b tmps ds k cs hs hf => ?_⟩
            obtain ⟨ρ2, w2, ds2, l2, h1, h2, h3, h4, h5, h6⟩ := hm ρ w b tmps ds k cs hs hf
            have hob2 := h1.sat.obj H1.n h5
            have hwf2 := h1.sat.wf H1.n h5
            rw [hget] at hob2 hwf2
            obtain ⟨tm, htm, htr, hheap⟩ := hob2
            have hput := Moved.putLoop h1.sat h5 (by rw [hget]; rfl) (.loop .exhausted pe fn n t ps' as bo d') (.loop { state := .exhausted, pending := pe, fn, tmps := tm, params := ps'.toArray, assign := as, body := bo, defers := (ρ2 d').blk }) hwf2
              (fun w' hw' => ⟨tm, htm, htr, hw'⟩)
            simp only [afterEnd, finish_range, h4] at h6
            have hend := st_rangeEnd (P := P) (b := b) (tmps := tmps) (ds := ds2) (k := k) (cs := cs) hheap hst
            obtain ⟨he, hlx⟩ := pend_ends (ρ := ρ2) hp (h6.trans (.one hend))
            exact ⟨ρ2, _, tmps, ds2, h1.trans hput, h2, hlx _, he⟩
          · cases h
        split at h
        · cases h
        · rename_i st pe fn n t ps' as bo d' hnb hget
          exact key hget hnb h
        · cases h
    · cases h
  · cases h
end Go.Proofs.Ytmnpnomllcghmaa.Ev
