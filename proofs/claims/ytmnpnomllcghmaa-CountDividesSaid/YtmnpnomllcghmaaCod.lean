/- What the evaluator of code says, the machine does: operations. -/
import Derived.Test.YtmnpnomllcghmaaStp
import Derived.Test.YtmnpnomllcghmaaFrm4
namespace Go.Proofs.Ytmnpnomllcghmaa.Ev
open Go

variable {P : Program}

theorem putK_ok {α : Type} {o : Option Fr} {k : Fr → R α} {a : α} {s : S} (h : putK o k = .ok a s) : ∃ f, o = some f ∧ k f = .ok a s := by
  cases o with
  | none => cases h
  | some f => exact ⟨f, rfl, h⟩
theorem bnd_ok {α β : Type} {r : R α} {f : α → S → R β} {b : β} {s : S} (h : r.bnd f = .ok b s) : ∃ a s1, r = .ok a s1 ∧ f a s1 = .ok b s := by
  cases r with
  | ok a s1 => exact ⟨a, s1, rfl, h⟩
  | bad w => cases h
  | pause s => cases h
theorem bcR {α : Type} {c : Bool} {x y : R α} {a : α} {s : S} (h : bc c x y = .ok a s) : (c = true ∧ x = .ok a s) ∨ (c = false ∧ y = .ok a s) := by
  cases c
  · exact .inr ⟨rfl, h⟩
  · exact .inl ⟨rfl, h⟩

/-- What is asked of a program. -/
structure Good (P : Program) : Prop where
  mixed : P.follows .mixedOrders = true
  names : ∀ (g : Nat) (fu : Func), P.funcs[g]? = some fu → fu.body.isSome = true → (fu.name == "runtime.NumGoroutine") = false

/-- The caller behind a call. -/
def afterEnd (ρ : Nat → RB) (c : Frame) : LEnd → Frame
  | .ret v => c.finish (dec ρ v)
  | .pan v => c.raise [{ v := dec ρ v, recovered := false }]

/-- What a call does, the evaluator says. -/
def SoundCall (P : Program) (call : CallF) : Prop :=
  ∀ fn xs H s e H' s', call fn xs H s = .ok (e, H') s' → s'.ob → s.ob ∧ H.Le H' ∧
    ∀ ρ w (c : Frame) (cs : List Frame), Sat ρ H w → lts H.n xs → ltFn H.n fn →
      ∃ nx fr0 ρ' w', (invoke (.fn (decFn ρ fn) #[]) (decs ρ xs).toArray).run P w = .ok nx w ∧ frameOf P nx = some fr0 ∧ Moved ρ H w ρ' H' w' ∧ ltEnd H'.n e ∧
        Steps P (lone fr0 (c :: cs) w) (lone (afterEnd ρ' c e) cs w')

theorem decideB_sound {b d : Bool} {s s' : S} (h : decideB b s = .ok d s') (hob : s'.ob) : b = d ∧ s.ob := by
  unfold decideB at h
  split at h
  · cases b
    · simp only [bc_false] at h; injection h with h1 h2; subst h2; exact ⟨h1, hob⟩
    · simp only [bc_true] at h; injection h with h1 h2; subst h2; exact ⟨h1, hob⟩
  · injection h with h1 h2; subst h2; subst h1; exact hob
  · cases h
  · cases h

theorem marksOf_ext {n : Nat} {ρ ρ' : Nat → RB} (h : Ext n ρ ρ') : ∀ (l : List Nat), (∀ d, d ∈ l → d < n) → marksOf ρ' l = marksOf ρ l
  | [], _ => rfl
  | d :: l, hl => by simp only [marksOf]; rw [h d (hl d (by simp)), marksOf_ext h l (fun x hx => hl x (by simp [hx]))]
theorem FRel.ext {n n' : Nat} {ρ ρ' : Nat → RB} {f : Fr} {b : Frame} {tmps : Array Value} {ds : List Deferred} (hf : FRel ρ n f b tmps ds) (h : Ext n ρ ρ') (hn : n ≤ n') : FRel ρ' n' f b tmps ds where
  wf := ltT_mono hn hf.wf
  marks := fun d hd => Nat.lt_of_lt_of_le (hf.marks d hd) hn
  inRound := fun l hl => Nat.lt_of_lt_of_le (hf.inRound l hl) hn
  fn := hf.fn
  size := hf.size
  t := hf.t.ext h hf.wf
  ds := hf.ds.trans (marksOf_ext h _ hf.marks).symm
  round := by
    rw [hf.round]
    cases hr : f.round with
    | none => rfl
    | some l => simp only [Option.map_some, h l (hf.inRound l hr)]
theorem Fr.get_set (f : Fr) (i j : Nat) (v : LV) : (f.set i v).get j = if i = j then v else f.get j := Tr.get_set LV.junk v f.t i j
theorem FRel.put {n : Nat} {ρ : Nat → RB} {f f' : Fr} {b : Frame} {tmps : Array Value} {ds : List Deferred} {d : Option Tmp} {v : LV} {v' : Value} (hf : FRel ρ n f b tmps ds) (h : f.put d v = some f')
    (hv : v = .junk ∨ v' = dec ρ v) (hl : lt n v) : FRel ρ n f' b (putT tmps d v') ds := by
  unfold Fr.put at h
  cases d with
  | none => injection h with h; subst h; exact hf
  | some i =>
    simp only at h
    replace h := cond_some h; obtain ⟨hi, h⟩ := h
    have hi := bltN.1 hi
    injection h with h; subst h
    refine ⟨?_, hf.marks, hf.inRound, hf.fn, ?_, ?_, hf.ds, hf.round⟩
    · intro j
      rw [show (f.set i v).t.get .junk j = (f.set i v).get j from rfl, Fr.get_set]
      split
      · exact hl
      · exact hf.wf j
    · simp only [putT, Array.size_setIfInBounds]; exact hf.size
    · intro j
      rw [show (f.set i v).t.get .junk j = (f.set i v).get j from rfl, Fr.get_set]
      simp only [putT]
      by_cases hij : i = j
      · subst hij
        simp only [if_true]
        rcases hv with hv | hv
        · exact .inl hv
        · right
          have : i < tmps.size := by rw [hf.size]; exact hi
          rw [Array.getElem?_setIfInBounds_self_of_lt this, hv]
      · simp only [hij, if_false]
        rw [Array.getElem?_setIfInBounds_ne hij]
        exact hf.t j

theorem FRel.ev {n : Nat} {ρ : Nat → RB} {f : Fr} {b : Frame} {tmps : Array Value} {ds : List Deferred} (hf : FRel ρ n f b tmps ds) (x : Operand) : Is ρ (f.ev x) (rev tmps x) ∧ lt n (f.ev x) := by
  cases x with
  | tmp t =>
    refine ⟨?_, hf.wf t⟩
    rcases hf.t t with h | h
    · exact .inl h
    · right
      show tmps.getD t undef = _
      rw [Array.getD_eq_getD_getElem?, h]
      rfl
  | const v =>
    refine ⟨?_, lt_ofVal n v⟩
    cases h : isJunk (ofVal v) with
    | true => left; cases hv : ofVal v <;> rw [hv] at h <;> first | exact hv | cases h
    | false => right; exact (ofVal_dec ρ v h).symm
  | global g => exact ⟨.inl rfl, trivial⟩
  | func g => exact ⟨.inr rfl, trivial, trivial, trivial⟩

theorem dstOf_eq : ∀ (l : List Oper) (i : Nat), dstOf l i = (l[i]?).bind (·.dst)
  | [], _ => rfl
  | _ :: _, 0 => rfl
  | _ :: l, i + 1 => by show dstOf l i = _; rw [dstOf_eq l i]; simp

theorem wanted_sound {ops : Array Oper} {o : Oper} {f f1 : Fr} {s s1 : S} {t : Bool} (h : wanted ops.toList o f s = .ok (t, f1) s1) (hob : s1.ob) :
    s.ob ∧ ∀ {n : Nat} {ρ : Nat → RB} {b : Frame} {tmps : Array Value} {ds : List Deferred}, FRel ρ n f b tmps ds → Region.wanted o (yielded ops tmps) = t ∧ FRel ρ n f1 b tmps ds := by
  unfold wanted at h
  cases hg : o.guard with
  | none =>
    simp only [hg] at h
    injection h with h1 h2; injection h1 with h1 h3; subst h1; subst h2; subst h3
    exact ⟨hob, fun hf => ⟨by simp [Region.wanted, hg], hf⟩⟩
  | some p =>
    obtain ⟨j, want⟩ := p
    simp only [hg] at h
    rw [dstOf_eq] at h
    cases hd : (ops.toList[j]?).bind (·.dst) with
    | none => rw [hd] at h; cases h
    | some d =>
      rw [hd] at h
      simp only at h
      have hd' : (ops[j]?).bind (·.dst) = some d := by rw [← hd]; simp
      unfold wantB at h
      split at h
      · rename_i bb hget
        cases hdb : decideB bb s with
        | bad w => rw [hdb] at h; cases h
        | pause s => rw [hdb] at h; cases h
        | ok c s2 =>
          rw [hdb] at h
          simp only [R.bnd_ok] at h
          injection h with h1 h2; injection h1 with h1 h3; subst h1; subst h2; subst h3
          obtain ⟨hbc, hs⟩ := decideB_sound hdb hob
          subst hbc
          refine ⟨hs, fun {n ρ b tmps ds} hf => ⟨?_, ?_⟩⟩
          · have := hf.t d
            rw [show f.t.get .junk d = f.get d from rfl, hget] at this
            rcases this with this | this
            · cases this
            · simp only [Region.wanted, hg, yielded, hd', Option.bind_some, this, dec]
              cases bb <;> cases want <;> rfl
          · refine ⟨?_, hf.marks, hf.inRound, hf.fn, hf.size, ?_, hf.ds, hf.round⟩
            · intro i
              rw [show (f.set d (.bool bb)).t.get .junk i = (f.set d (.bool bb)).get i from rfl, Fr.get_set]
              split
              · trivial
              · exact hf.wf i
            · intro i
              rw [show (f.set d (.bool bb)).t.get .junk i = (f.set d (.bool bb)).get i from rfl, Fr.get_set]
              split
              · rename_i e; subst e
                have := hf.t d
                rw [show f.t.get .junk d = f.get d from rfl, hget] at this
                exact this
              · exact hf.t i
      · rename_i hget
        injection h with h1 h2; injection h1 with h1 h3; subst h1; subst h2; subst h3
        refine ⟨hob, fun {n ρ b tmps ds} hf => ⟨?_, hf⟩⟩
        have := hf.t d
        rw [show f.t.get .junk d = f.get d from rfl, hget] at this
        rcases this with this | this
        · cases this
        · simp only [Region.wanted, hg, yielded, hd', Option.bind_some, this, dec]
          rfl
      · cases h

theorem evs_is {n : Nat} {ρ : Nat → RB} {f : Fr} {b : Frame} {tmps : Array Value} {ds : List Deferred} (hf : FRel ρ n f b tmps ds) (l : List Operand) : ∀ x ∈ l, Is ρ (f.ev x) (rev tmps x) ∧ lt n (f.ev x) :=
  fun x _ => hf.ev x

/-- What an operation does to a frame, and how it is told. -/
def OpDoes (P : Program) (o : Oper) (f : Fr) (H : Heap) (e : OpEnd) (H' : Heap) : Prop :=
  ∀ (ρ : Nat → RB) (w : World) (b : Frame) (tmps : Array Value) (ds : List Deferred) (ops : Array Oper) (i : Nat) (rest : List Nat) (k : List Item) (cs : List Frame), Sat ρ H w → FRel ρ H.n f b tmps ds → ops[i]? = some o →
    Region.wanted o (yielded ops tmps) = true → ∃ ρ' w', Moved ρ H w ρ' H' w' ∧ match e with
      | .val v _ => lt H'.n v ∧ ∃ v', (v = .junk ∨ v' = dec ρ' v) ∧ Steps P (lone (frameAt b tmps ds (.inRegion ops (i :: rest) :: k)) cs w) (lone (frameAt b (putT tmps o.dst v') ds (.inRegion ops rest :: k)) cs w')
      | .pan v => lt H'.n v ∧ Steps P (lone (frameAt b tmps ds (.inRegion ops (i :: rest) :: k)) cs w) (lone { frameAt b tmps ds (.inRegion ops (i :: rest) :: k) with mode := .panicking [{ v := dec ρ' v, recovered := false }] } cs w')

theorem lop_defer {op : Op} {xs : List LV} {H : Heap} {r : OpR} (h : lop P op xs H = some r) (c : Call) : op ≠ .defer c := by
  intro e; subst e; cases h

theorem opDoes_lop {o : Oper} {f : Fr} {H : Heap} {r : OpR} (h : lop P o.op (f.evs (opds o.op)) H = some r) : OpDoes P o f H (.val r.v r.k) r.H := by
  intro ρ w b tmps ds ops i rest k cs hs hf ho hw
  rw [evs_eq] at h
  obtain ⟨ρ', w', nx, hr, hn, hm, hl⟩ := lop_sound hs o (evs_is hf _) h
  refine ⟨ρ', w', hm, hl, ?_⟩
  cases nx <;> simp only [NextIs] at hn <;> first
    | exact hn.elim
    | exact ⟨_, hn, .one (st_opValue ho hw (lop_defer h) hr)⟩
    | exact ⟨undef, .inr (by rw [hn]; rfl), .one (st_opUnit ho hw (lop_defer h) hr)⟩

theorem calleeOf_some {xs : List LV} {fn : Fn} {args : List LV} (h : calleeOf xs = some (fn, args)) :
    ∃ first captured rest, xs = .func fn first captured :: rest ∧ noJunk rest = true ∧ ((∃ g, fn = .func g ∧ args = first ++ (rest ++ captured)) ∨ (∃ l, fn = .yield l ∧ captured = [] ∧ args = first ++ rest)) := by
  unfold calleeOf at h
  split at h
  · rename_i fn' first captured rest
    replace h := bc_some h; obtain ⟨hn, h⟩ := h
    split at h
    · injection h with h; injection h with h1 h2; subst h1; subst h2
      exact ⟨first, captured, rest, rfl, hn, .inl ⟨_, rfl, by rw [app_eq, app_eq]⟩⟩
    · split at h
      · injection h with h; injection h with h1 h2; subst h1; subst h2
        exact ⟨first, [], rest, rfl, hn, .inr ⟨_, rfl, rfl, by rw [app_eq]⟩⟩
      · cases h
    · cases h
  · cases h

theorem isCall_some {op : Op} (h : isCall op = true) : ∃ c fv, op = .call c ∧ c.callee = .value fv := by
  unfold isCall at h
  split at h
  · rename_i c
    split at h
    · rename_i fv hc; exact ⟨c, fv, rfl, hc⟩
    · cases h
  · cases h

/-- A call's operation gives the callee what the evaluator hands it. -/
theorem run_call {ρ : Nat → RB} {n : Nat} {f : Fr} {b : Frame} {tmps : Array Value} {ds : List Deferred} (hf : FRel ρ n f b tmps ds) {o : Oper} (hc : isCall o.op = true) {fn : Fn} {args : List LV}
    (h : calleeOf (f.evs (opds o.op)) = some (fn, args)) (w : World) :
    (execOp (rev tmps) o).run P w = (invoke (.fn (decFn ρ fn) #[]) (decs ρ args).toArray).run P w ∧ lts n args ∧ ltFn n fn ∧ ∀ c, o.op ≠ .defer c := by
  obtain ⟨c, fv, hop, hcv⟩ := isCall_some hc
  obtain ⟨first, captured, rest, hxs, hn, hcase⟩ := calleeOf_some h
  have hopds : opds o.op = fv :: c.args.toList := by rw [hop]; simp [opds, hcv]
  rw [evs_eq, hopds, List.map_cons] at hxs
  injection hxs with hx1 hx2
  have hfv := hf.ev fv
  rw [hx1] at hfv
  have hfv1 := hfv.1.eq rfl
  have hl := hfv.2
  simp only [lt] at hl
  have hrest : c.args.toList.map (rev tmps) = decs ρ rest := by
    have := reals (H := ⟨n, .nil⟩) (evs_is hf c.args.toList) (by rw [hx2]; exact hn)
    rw [this, hx2]
  have hlr : lts n rest := by rw [← hx2]; exact lts_map fun x _ => (hf.ev x).2
  have hargs : c.args.map (rev tmps) = (decs ρ rest).toArray := by rw [← hrest]; apply Array.ext'; simp
  have hrun : execOp (rev tmps) o = invoke (.fn (decFn ρ fn) (decs ρ captured).toArray) ((decs ρ first).toArray ++ (decs ρ rest).toArray) := by
    simp only [execOp, hop, resolve, hcv, hfv1, dec, Deferred.ofValue, hargs, pure_bind]
  have hd : ∀ c, o.op ≠ .defer c := by intro c' e; rw [hop] at e; cases e
  rcases hcase with ⟨g, rfl, rfl⟩ | ⟨l, rfl, rfl, rfl⟩
  · refine ⟨?_, ?_, trivial, hd⟩
    · rw [hrun]
      simp only [invoke, decFn]
      congr 2
      apply Array.ext'
      simp [decs_eq]
    · rw [lts_iff] at hlr ⊢
      have h1 := (lts_iff _ _).1 hl.2.1
      have h2 := (lts_iff _ _).1 hl.2.2
      intro v hv
      rcases List.mem_append.1 hv with hv | hv
      · exact h1 v hv
      · rcases List.mem_append.1 hv with hv | hv
        · exact hlr v hv
        · exact h2 v hv
  · refine ⟨?_, ?_, hl.1, hd⟩
    · rw [hrun]
      simp only [invoke, decFn]
      congr 2
      apply Array.ext'
      simp [decs_eq]
    · rw [lts_iff] at hlr ⊢
      have h1 := (lts_iff _ _).1 hl.2.1
      intro v hv
      rcases List.mem_append.1 hv with hv | hv
      · exact h1 v hv
      · exact hlr v hv

theorem opDoes_call {call : CallF} (hcall : SoundCall P call) {o : Oper} {f : Fr} {H : Heap} (hc : isCall o.op = true) {fn : Fn} {args : List LV} (h : calleeOf (f.evs (opds o.op)) = some (fn, args))
    {s s' : S} {e : LEnd} {H' : Heap} (hr : call fn args H s = .ok (e, H') s') (hob : s'.ob) : s.ob ∧ H.Le H' ∧ OpDoes P o f H (endOf e) H' := by
  obtain ⟨h1, h2, h3⟩ := hcall _ _ _ _ _ _ _ hr hob
  refine ⟨h1, h2, ?_⟩
  intro ρ w b tmps ds ops i rest k cs hs hf ho hw
  obtain ⟨hrun, hl, hlf, hd⟩ := run_call (P := P) hf hc h w
  obtain ⟨nx, fr0, ρ', w', hi, hfr, hm, hle, hst⟩ := h3 ρ w (frameAt b tmps ds (.inRegion ops (i :: rest) :: k)) cs hs hl hlf
  rw [← hrun] at hi
  have h0 := st_opCall (k := k) (rest := rest) (ds := ds) (b := b) (cs := cs) ho hw hd hi hfr
  refine ⟨ρ', w', hm, ?_⟩
  cases e with
  | ret v =>
    refine ⟨hle, dec ρ' v, .inr rfl, .head h0 ?_⟩
    simp only [afterEnd] at hst
    rwa [finish_at ho] at hst
  | pan v =>
    exact ⟨hle, .head h0 hst⟩

theorem run_callFunc (hg : Good P) {g : FuncId} (hb : hasBody P g = true) (args : Array Value) (w : World) : (callFunc g args).run P w = .ok (.enter g args) w := by
  unfold hasBody at hb
  cases hf : P.funcs[g]? with
  | none => rw [hf] at hb; cases hb
  | some fu =>
    rw [hf] at hb
    have hn := hg.names g fu hf hb
    have hb' : fu.body.isNone = false := by
      simp only at hb
      cases hbb : fu.body <;> rw [hbb] at hb <;> first | rfl | cases hb
    unfold callFunc
    simp only [Sem.run_bind, run_program, Result.andThen_ok, hf, hn, hb', Bool.false_eq_true, if_false, Sem.run_pure]

theorem steps_of_comes {m m' : Machine} {e : Ending} (h : Comes P m m' e) (hne : e ≠ .outgrown) : Steps P m m' := by
  cases e with
  | returned v => exact h
  | panicked c => exact h
  | outgrown => exact absurd rfl hne

theorem opDoes_ht (hg : Good P) {o : Oper} {f : Fr} {H : Heap} (hc : isCall o.op = true) {g : FuncId} {args : List LV} (h : calleeOf (f.evs (opds o.op)) = some (.func g, args)) (hb : hasBody P g = true)
    {e : LEnd} {H' : Heap} (hht : HT P g args H e H') : OpDoes P o f H (endOf e) H' := by
  intro ρ w b tmps ds ops i rest k cs hs hf ho hw
  obtain ⟨hrun, hl, hlf, hd⟩ := run_call (P := P) hf hc h w
  obtain ⟨e', w', fr, ⟨ρ', he, hm, hle⟩, hcomes, hfn, hleave⟩ := hht ρ w hs hl (frameAt b tmps ds (.inRegion ops (i :: rest) :: k) :: cs)
  have hinv : (invoke (.fn (decFn ρ (.func g)) #[]) (decs ρ args).toArray).run P w = .ok (.enter g (decs ρ args).toArray) w := by
    simp only [invoke, decFn, Array.append_empty]
    exact run_callFunc hg hb _ w
  rw [hinv] at hrun
  have h0 := st_opCall (k := k) (rest := rest) (ds := ds) (b := b) (cs := cs) ho hw hd hrun rfl
  refine ⟨ρ', w', hm, ?_⟩
  subst he
  cases e with
  | ret v =>
    refine ⟨hle, dec ρ' v, .inr rfl, .head h0 ?_⟩
    have h1 := steps_of_comes hcomes (by simp [decEnd])
    have h2 := step_leave_returned (c := frameAt b tmps ds (.inRegion ops (i :: rest) :: k)) (cs := cs) hleave
    rw [finish_at ho] at h2
    exact h1.trans (.one h2)
  | pan v =>
    refine ⟨hle, .head h0 ?_⟩
    have h1 := steps_of_comes hcomes (by simp [decEnd])
    have h2 := step_leave_panicked (c := frameAt b tmps ds (.inRegion ops (i :: rest) :: k)) (cs := cs) hleave
    exact h1.trans (.one h2)

/-- One operation. -/
theorem doOp_sound (hg : Good P) {call : CallF} (hcall : SoundCall P call) {o : Oper} {f : Fr} {H : Heap} {s s' : S} {e : OpEnd} {H' : Heap} (h : doOp P call o.op (f.evs (opds o.op)) H s = .ok (e, H') s') (hob : s'.ob)
    (hle : ∀ r, lop P o.op (f.evs (opds o.op)) H = some r → H.Le r.H) : s.ob ∧ H.Le H' ∧ OpDoes P o f H e H' := by
  unfold doOp at h
  split at h
  · rename_i n ds hp
    cases hc : isCall o.op with
    | true =>
      rw [hc] at h
      simp only [bc_true] at h
      unfold doCall at h
      split at h
      · rename_i fn args hcal
        cases hr : call fn args H ⟨ds, s.ob⟩ with
        | bad w => rw [hr] at h; cases h
        | pause s => rw [hr] at h; cases h
        | ok r s2 =>
          rw [hr] at h
          simp only [R.bnd_ok] at h
          obtain ⟨e', H2⟩ := r
          injection h with h1 h2; injection h1 with h1 h3; subst h1; subst h2; subst h3
          have := opDoes_call hcall hc hcal hr hob
          exact this
      · cases h
    | false =>
      rw [hc] at h
      simp only [bc_false] at h
      unfold doLop at h
      split at h
      · rename_i r hr
        injection h with h1 h2; injection h1 with h1 h3; subst h1; subst h2; subst h3
        exact ⟨hob, hle r hr, opDoes_lop hr⟩
      · cases h
  · rename_i v us ns k ds hp
    cases hc : isCall o.op with
    | true => rw [hc] at h; cases h
    | false =>
      rw [hc] at h
      simp only [bc_false] at h
      injection h with h1 h2; injection h1 with h1 h3; subst h1; subst h2; subst h3
      obtain ⟨ho, hs⟩ := hob
      have := opDoes_lop (P := P) (o := o) (f := f) ho
      exact ⟨hs, Heap.le_upd _ _ _, this⟩
  · rename_i e' us ns ds hp
    cases hc : isCall o.op with
    | false => rw [hc] at h; cases h
    | true =>
      rw [hc] at h
      simp only [bc_true] at h
      split at h
      · rename_i g args hcal
        cases hb : hasBody P g with
        | false => rw [hb] at h; cases h
        | true =>
          rw [hb] at h
          simp only [bc_true] at h
          injection h with h1 h2; injection h1 with h1 h3; subst h1; subst h2; subst h3
          obtain ⟨ho, hs⟩ := hob
          exact ⟨hs, Heap.le_upd _ _ _, opDoes_ht hg hc hcal hb ho⟩
      · cases h
  · rename_i C l ds hp
    cases hc : isCall o.op with
    | false => rw [hc] at h; cases h
    | true =>
      rw [hc] at h
      simp only [bc_true] at h
      split at h
      · rename_i g args hcal
        cases hb : (hasBody P g && Nat.beq g C.g && C.fit l H.n) with
        | false => rw [hb] at h; cases h
        | true =>
          rw [hb] at h
          simp only [bc_true] at h
          injection h with h1 h2; injection h1 with h1 h3; subst h1; subst h2; subst h3
          simp only [Bool.and_eq_true] at hb
          have he := beqN hb.1.2
          obtain ⟨hC, hx, ho, hs⟩ := hob
          refine ⟨hs, Heap.le_upd _ _ _, opDoes_ht hg hc hcal hb.1.1 ?_⟩
          rw [he]
          exact con_ht hC hb.2 hx ho
      · cases h
  · rename_i e' ds hp
    cases hc : isCall o.op with
    | false => rw [hc] at h; cases h
    | true =>
      rw [hc] at h
      simp only [bc_true] at h
      split at h
      · rename_i g args hcal
        cases hb : hasBody P g with
        | false => rw [hb] at h; cases h
        | true =>
          rw [hb] at h
          simp only [bc_true] at h
          injection h with h1 h2; injection h1 with h1 h3; subst h1; subst h2; subst h3
          exact ⟨hob.2, Heap.Le.refl _, opDoes_ht hg hc hcal hb (hob.1 _)⟩
      · cases h
  · rename_i v ds hp
    rcases bcR h with ⟨hc, h⟩ | ⟨hc, h⟩
    · cases h
    · injection h with h1 h2; injection h1 with h1 h3; subst h1; subst h2; subst h3
      exact ⟨hob.2, Heap.Le.refl _, opDoes_lop (P := P) (o := o) (f := f) (hob.1 H)⟩
  · rename_i v i ds hp
    rcases bcR h with ⟨hc, h⟩ | ⟨hc, h⟩
    · cases h
    · injection h with h1 h2; injection h1 with h1 h3; subst h1; subst h2; subst h3
      exact ⟨hob.2, Heap.Le.refl _, opDoes_lop (P := P) (o := o) (f := f) (hob.1 H rfl)⟩
  · rename_i v i oo ds hp
    rcases bcR h with ⟨hc, h⟩ | ⟨hc, h⟩
    · cases h
    · injection h with h1 h2; injection h1 with h1 h3; subst h1; subst h2; subst h3
      exact ⟨hob.2, Heap.le_upd _ _ _, opDoes_lop (P := P) (o := o) (f := f) (hob.1 H rfl)⟩
  · cases h
  · cases h
end Go.Proofs.Ytmnpnomllcghmaa.Ev
