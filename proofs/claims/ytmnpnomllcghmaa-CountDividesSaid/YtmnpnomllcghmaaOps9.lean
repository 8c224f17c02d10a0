/- Every operation that the evaluator takes, the model does so. -/
import Derived.Test.YtmnpnomllcghmaaOps8
namespace Go.Proofs.Ytmnpnomllcghmaa.Ev
open Go

variable {P : Program} {ρ : Nat → RB} {H : Heap} {w : World}

theorem noJunk_mem : ∀ {l : List LV}, noJunk l = true → ∀ v ∈ l, isJunk v = false
  | [], _, _, h => by cases h
  | x :: xs, h, v, hv => by
    obtain ⟨a, b⟩ := (noJunk_cons _ _).1 h
    cases hv with
    | head => exact a
    | tail _ hv => exact noJunk_mem b v hv
theorem evs_eq (f : Fr) : ∀ l, f.evs l = l.map f.ev
  | [] => rfl
  | x :: xs => by show f.ev x :: f.evs xs = _; rw [evs_eq f xs]; rfl

/-- Real values of operands that are no junk. -/
theorem reals {ev : Operand → LV} {rv : Operand → Value} : ∀ {l : List Operand}, (∀ x ∈ l, Is ρ (ev x) (rv x) ∧ lt H.n (ev x)) → noJunk (l.map ev) = true → l.map rv = decs ρ (l.map ev)
  | [], _, _ => rfl
  | x :: xs, hx, hn => by
    simp only [List.map_cons] at hn ⊢
    obtain ⟨a, b⟩ := (noJunk_cons _ _).1 hn
    simp only [decs]
    rw [(hx x (by simp)).1.eq a, reals (fun y hy => hx y (by simp [hy])) b]
theorem lts_map {ev : Operand → LV} {l : List Operand} {n : Nat} (h : ∀ x ∈ l, lt n (ev x)) : lts n (l.map ev) := by
  rw [lts_iff]; intro v hv
  obtain ⟨x, hx, rfl⟩ := List.mem_map.1 hv
  exact h x hx

theorem len_ok (hs : Sat ρ H w) {t ty : TypeId} {ats : Array TypeId} {x : LV} {a : Value} {r : OpR} (h0 : ats[0]? = some t) (h : opLen P t [x] H = some r) (hx : Is ρ x a) (hl : lt H.n x) :
    (Builtin.len_ ats ty #[a]).run P w = .ok (dec ρ r.v) w ∧ r.H = H ∧ lt H.n r.v := by
  unfold opLen at h
  unfold Builtin.len_
  simp only at h
  split at h
  · rename_i hu
    simp only [h0, List.getElem?_toArray, List.getElem?_cons_zero, Sem.run_bind, run_underlying hu, Result.andThen_ok]
    split at h
    · injection h with h; subst h
      rw [hx.eq rfl]
      refine ⟨?_, rfl, trivial⟩
      simp only [dec, size_mk, lenL_eq]; rfl
    · cases h
  · rename_i e hu
    simp only [h0, List.getElem?_toArray, List.getElem?_cons_zero, Sem.run_bind, run_underlying hu, Result.andThen_ok]
    split at h
    · rename_i n hn
      split at h
      · cases h
      · rename_i hns
        injection h with h; subst h
        refine ⟨?_, rfl, trivial⟩
        unfold lenV at hn
        split at hn <;> first
          | (cases hn; done)
          | (exact absurd rfl (hns _))
          | (injection hn with hn; subst hn; rw [hx.eq rfl]; rfl)
    · cases h
  · rename_i n e hu
    simp only [h0, List.getElem?_toArray, List.getElem?_cons_zero, Sem.run_bind, run_underlying hu, Result.andThen_ok]
    injection h with h; subst h
    exact ⟨rfl, rfl, trivial⟩
  · rename_i k e hu
    simp only [h0, List.getElem?_toArray, List.getElem?_cons_zero, Sem.run_bind, run_underlying hu, Result.andThen_ok]
    split at h
    · injection h with h; subst h
      rw [hx.eq rfl]
      exact ⟨rfl, rfl, trivial⟩
    · rename_i i
      split at h
      · rename_i es clock hg
        injection h with h; subst h
        rw [hx.eq rfl]
        have ho := hs.obj i hl
        rw [hg] at ho
        have hho : w.heap[(ρ i).blk]? = some (.map (es.map (decEnt ρ)).toArray clock) := ho
        refine ⟨?_, rfl, trivial⟩
        simp only [dec, Sem.run_bind, run_getObj hho (by simp), Result.andThen_ok]
        simp [goInt, lenL_eq]
      · cases h
    · cases h
  · cases h

theorem three_ok {ev : Operand → LV} {rv : Operand → Value} {lo hi mx : Option Operand} {l h m : Option LV} (hx : ∀ x ∈ optOf lo ++ optOf hi ++ optOf mx, Is ρ (ev x) (rv x))
    (he : three lo hi mx ((optOf lo ++ optOf hi ++ optOf mx).map ev) = some (l, h, m)) : IsO ρ l (lo.map rv) ∧ IsO ρ h (hi.map rv) ∧ IsO ρ m (mx.map rv) ∧ (m ≠ none → h ≠ none) := by
  cases lo <;> cases hi <;> cases mx <;> simp only [optOf, List.nil_append, List.append_nil, List.cons_append, List.map_cons, List.map_nil, three] at he <;> first
    | (cases he; done)
    | (injection he with he; injection he with h1 h2; injection h2 with h2 h3; subst h1; subst h2; subst h3
       simp only [optOf, List.nil_append, List.append_nil, List.cons_append, List.mem_cons, List.not_mem_nil, or_false, forall_eq_or_imp, forall_eq] at hx
       simp_all [IsO])

theorem notJunk {v : LV} (h : v ≠ .junk) : isJunk v = false := by cases v <;> first | rfl | exact absurd rfl h
theorem load_junk {t : TypeId} {x v : LV} (h : loadL P t H x = some v) : isJunk x = false := notJunk fun e => by rw [e] at h; exact absurd h (by simp [loadL])
theorem store_junk {t : TypeId} {a v : LV} {H' : Heap} (h : storeL P t H a v = some H') : isJunk a = false ∧ isJunk v = false := by
  unfold storeL at h
  have h1 := cond_some' h
  exact ⟨notJunk fun e => by rw [e] at h1; exact absurd h1.2 (by simp), h1.1⟩
theorem text_junk {x v : LV} (h : textOf H x = some v) : isJunk x = false := notJunk fun e => by rw [e] at h; exact absurd h (by simp [textOf])
theorem conv_junk {s d : TypeId} {x : LV} {r : LV × Heap} (h : convL P s d x H = some r) : isJunk x = false := by
  unfold convL at h
  split at h
  · split at h
    · split at h
      · rfl
      · cases h
    · cases h
  · split at h
    · split at h
      · rfl
      · cases h
    · split at h
      · split at h
        · rfl
        · cases h
      · cases h
    · cases h
  · split at h
    · split at h
      · obtain ⟨v, H'⟩ := r
        exact text_junk (withH_some h).1
      · cases h
    · cases h
  · cases h
theorem makeSlice_junk {t : TypeId} {l c : LV} {r : LV × Heap} (h : makeSliceL P t H l c = some r) : isJunk l = false ∧ isJunk c = false := by
  unfold makeSliceL at h
  split at h
  · exact ⟨rfl, rfl⟩
  · cases h
theorem slice_junk {t : TypeId} {x : LV} {lo hi mx : Option LV} {r : LV × Heap} (h : sliceL P t x lo hi mx H = some r) : isJunk x = false := notJunk fun e => by
  rw [e] at h
  unfold sliceL at h
  split at h
  · cases h
  · split at h <;> cases h
  · cases h
  · cases h
theorem fieldAddr_junk {s : TypeId} {f : Nat} {x v : LV} (h : fieldAddrL P s f x = some v) : isJunk x = false := notJunk fun e => by rw [e] at h; exact absurd h (by simp [fieldAddrL])
theorem field_junk {s : TypeId} {f : Nat} {x v : LV} (h : fieldL P s f x = some v) : isJunk x = false := notJunk fun e => by rw [e] at h; exact absurd h (by simp [fieldL])
theorem indexAddr_junk {t : TypeId} {x i v : LV} (h : indexAddrL P t x i = some v) : isJunk x = false ∧ isJunk i = false := by
  unfold indexAddrL at h
  split at h
  · refine ⟨notJunk fun e => ?_, rfl⟩
    subst e
    split at h
    · cases h
    · cases h
    · cases h
  · cases h
theorem index_junk {t : TypeId} {x i v : LV} (h : indexL P t x i = some v) : isJunk x = false ∧ isJunk i = false := by
  unfold indexL at h
  split at h
  · refine ⟨notJunk fun e => ?_, rfl⟩
    subst e
    split at h
    · cases h
    · cases h
    · cases h
  · cases h
theorem eqCells_junk {kd : TypeDesc} {x y : LV} {b : Bool} (h : eqCells kd x y = some b) : isJunk x = false := by
  unfold eqCells at h
  split at h <;> first
    | (split at h <;> first | rfl | cases h)
    | cases h
theorem lookup_junk {t : TypeId} {m k v : LV} {ok : Bool} (h : lookupL P t m k ok H = some v) : isJunk m = false := notJunk fun e => by
  subst e
  unfold lookupL at h
  replace h := (cond_some' h).2
  split at h
  · split at h
    · replace h := cond_some h; obtain ⟨_, h⟩ := h
      cases h
    · cases h
  · cases h

theorem update_junk {t : TypeId} {m k v : LV} {H' : Heap} (h : updateL P t m k v H = some H') : isJunk m = false ∧ isJunk k = false ∧ isJunk v = false := by
  unfold updateL at h
  replace h := cond_some' h; obtain ⟨h1, h⟩ := h
  replace h := cond_some' h; obtain ⟨h2, h⟩ := h
  refine ⟨notJunk fun e => ?_, h2, h1⟩
  subst e
  split at h
  · split at h
    · replace h := cond_some h; obtain ⟨_, h⟩ := h
      cases h
    · cases h
  · cases h

theorem cellsAt_junk {n : Nat} {x : LV} {cs : List LV} (h : cellsAt H n x = some cs) : isJunk x = false := notJunk fun e => by subst e; exact absurd h (by simp [cellsAt])
theorem append_junk {t xt : TypeId} {s x : LV} {r : LV × Heap} (h : appendL P t xt s x H = some r) : isJunk s = false ∧ isJunk x = false := by
  unfold appendL at h
  replace h := cond_some h; obtain ⟨_, h⟩ := h
  split at h
  · split at h
    · cases h
    · split at h
      · cases h
      · replace h := cond_some' h; obtain ⟨_, h⟩ := h
        replace h := cond_some' h; obtain ⟨_, h⟩ := h
        split at h
        · cases h
        · rename_i hc
          refine ⟨notJunk fun e => ?_, cellsAt_junk hc⟩
          subst e
          cases h
  · cases h
theorem copy_junk {t : TypeId} {d x : LV} {r : LV × Heap} (h : copyL P t d x H = some r) : isJunk d = false ∧ isJunk x = false := by
  unfold copyL at h
  split at h
  · split at h
    · cases h
    · split at h
      · cases h
      · split at h
        · replace h := cond_some' h; obtain ⟨_, h⟩ := h
          split at h
          · cases h
          · rename_i hc
            exact ⟨rfl, cellsAt_junk hc⟩
        · cases h
  · cases h

theorem builtin_sound (hs : Sat ρ H w) {c : Call} {b : Builtin} (ty : TypeId) (pos : String) (after : Array Edge) (guard : Option (Nat × Bool)) (dst : Option Tmp) (hb : c.callee = .builtin b)
    {ev : Operand → LV} {rv : Operand → Value} (hx : ∀ x ∈ opds (.call c), Is ρ (ev x) (rv x) ∧ lt H.n (ev x)) {r : OpR} (h : opBuiltin P c b ((opds (.call c)).map ev) H = some r) :
    RunsTo P ρ H w (execOp rv ⟨dst, .call c, ty, pos, after, guard⟩) r := by
  have hopds : opds (.call c) = c.args.toList := by simp [opds, hb]
  rw [hopds] at hx h
  have hres : execOp rv ⟨dst, .call c, ty, pos, after, guard⟩ = builtin b c.argTypes ty (c.args.map fun | .const _ => true | _ => false) (c.args.map rv) := by
    simp only [execOp, resolve, hb]
    rfl
  rw [hres]
  have two : ∀ {x y : LV}, c.args.toList.map ev = [x, y] → ∃ X Y, c.args.map rv = #[rv X, rv Y] ∧ x = ev X ∧ y = ev Y ∧ X ∈ c.args.toList ∧ Y ∈ c.args.toList := by
    intro x y hxy
    match hl : c.args.toList with
    | [] => rw [hl] at hxy; cases hxy
    | [_] => rw [hl] at hxy; cases hxy
    | [X, Y] =>
      rw [hl] at hxy
      injection hxy with h1 h2; injection h2 with h2 _
      exact ⟨X, Y, by apply Array.ext'; simp [hl], h1.symm, h2.symm, by simp, by simp⟩
    | _ :: _ :: _ :: _ => rw [hl] at hxy; cases hxy
  have one : ∀ {x : LV}, c.args.toList.map ev = [x] → ∃ X, c.args.map rv = #[rv X] ∧ x = ev X ∧ X ∈ c.args.toList := by
    intro x hxy
    match hl : c.args.toList with
    | [] => rw [hl] at hxy; cases hxy
    | [X] =>
      rw [hl] at hxy
      injection hxy with h1 _
      exact ⟨X, by apply Array.ext'; simp [hl], h1.symm, by simp⟩
    | _ :: _ :: _ => rw [hl] at hxy; cases hxy
  unfold opBuiltin at h
  split at h
  · -- len
    cases h0 : c.argTypes[0]? with
    | none => simp only [h0] at h; cases h
    | some t =>
      simp only [h0] at h
      have hsh : ∃ x, c.args.toList.map ev = [x] := by
        unfold opLen at h
        split at h
        · exact ⟨_, by assumption⟩
        · cases h
      obtain ⟨x, hxx⟩ := hsh
      obtain ⟨X, hr, rfl, hX⟩ := one hxx
      rw [hxx] at h
      obtain ⟨hrun, hH, hl⟩ := len_ok (ty := ty) hs h0 h (hx X hX).1 (hx X hX).2
      rw [hr]
      refine ⟨ρ, w, .value (dec ρ r.v), ?_, .inr rfl, by rw [hH]; exact Moved.refl hs, by rw [hH]; exact hl⟩
      exact run_val (s := Builtin.len_ c.argTypes ty #[rv X]) hrun
  · -- append
    cases h0 : c.argTypes[0]? with
    | none => simp only [h0] at h; cases h
    | some t =>
      cases h1 : c.argTypes[1]? with
      | none => simp only [h0, h1] at h; cases h
      | some xt =>
        simp only [h0, h1] at h
        unfold opAppend at h
        split at h
        · rename_i x y hxy
          obtain ⟨X, Y, hr, rfl, rfl, hX, hY⟩ := two hxy
          obtain ⟨v, H', hv, rfl⟩ := changeR_some h
          obtain ⟨hj1, hj2⟩ := append_junk hv
          obtain ⟨ρ', w', hrun, hm, hl⟩ := append_ok (P := P) (ty := ty) hs h0 h1 hv (hx X hX).2 (hx Y hY).2
          rw [hr, (hx X hX).1.eq hj1, (hx Y hY).1.eq hj2]
          exact ⟨ρ', w', _, run_val (s := Builtin.append_ c.argTypes ty #[dec ρ (ev X), dec ρ (ev Y)]) hrun, .inr rfl, hm, hl⟩
        · cases h
  · -- copy
    cases h0 : c.argTypes[0]? with
    | none => simp only [h0] at h; cases h
    | some t =>
      simp only [h0] at h
      unfold opCopy at h
      split at h
      · rename_i x y hxy
        obtain ⟨X, Y, hr, rfl, rfl, hX, hY⟩ := two hxy
        obtain ⟨v, H', hv, rfl⟩ := changeR_some h
        obtain ⟨hj1, hj2⟩ := copy_junk hv
        obtain ⟨w', hrun, hm, hl⟩ := copy_ok (P := P) (ty := ty) hs h0 hv (hx X hX).2 (hx Y hY).2
        rw [hr, (hx X hX).1.eq hj1, (hx Y hY).1.eq hj2]
        exact ⟨ρ, w', _, run_val (s := Builtin.copy_ c.argTypes ty #[dec ρ (ev X), dec ρ (ev Y)]) hrun, .inr rfl, hm, hl⟩
      · cases h
  · -- min
    unfold opMin at h
    split at h
    · rename_i k a k' b hxy
      split at h
      · rename_i hk; subst hk
        obtain ⟨X, Y, hr, hX', hY', hX, hY⟩ := two hxy
        have h1 := (hx X hX).1; rw [← hX'] at h1
        have h2 := (hx Y hY).1; rw [← hY'] at h2
        injection h with h; subst h
        rw [hr, h1.eq rfl, h2.eq rfl]
        refine ⟨ρ, w, .value (dec ρ (.int k (if b < a then b else a))), ?_, .inr rfl, Moved.refl hs, trivial⟩
        exact run_val (s := Builtin.min_ c.argTypes ty #[.int k a, .int k b]) (by
          show (List.foldlM Builtin.min2 (.int k a) [.int k b] : Sem Value).run P w = _
          simp [Builtin.min2, dec])
      · cases h
    · cases h
  · -- max
    unfold opMax at h
    split at h
    · rename_i k a k' b hxy
      split at h
      · rename_i hk; subst hk
        obtain ⟨X, Y, hr, hX', hY', hX, hY⟩ := two hxy
        have h1 := (hx X hX).1; rw [← hX'] at h1
        have h2 := (hx Y hY).1; rw [← hY'] at h2
        injection h with h; subst h
        rw [hr, h1.eq rfl, h2.eq rfl]
        refine ⟨ρ, w, .value (dec ρ (.int k (if b > a then b else a))), ?_, .inr rfl, Moved.refl hs, trivial⟩
        exact run_val (s := Builtin.max_ c.argTypes ty #[.int k a, .int k b]) (by
          show (List.foldlM Builtin.max2 (.int k a) [.int k b] : Sem Value).run P w = _
          simp [Builtin.max2, dec])
      · cases h
    · cases h
  · cases h

theorem lop_sound (hs : Sat ρ H w) (o : Oper) {ev : Operand → LV} {rv : Operand → Value} (hx : ∀ x ∈ opds o.op, Is ρ (ev x) (rv x) ∧ lt H.n (ev x)) {r : OpR} (h : lop P o.op ((opds o.op).map ev) H = some r) :
    RunsTo P ρ H w (execOp rv o) r := by
  obtain ⟨dst, op, ty, pos, after, guard⟩ := o
  simp only at hx h
  unfold lop at h
  cases op with
  | move x =>
    simp only [opds, List.map_cons, List.map_nil, List.mem_singleton, forall_eq] at hx h
    injection h with h; subst h
    exact ⟨ρ, w, .value (rv x), rfl, hx.1, Moved.refl hs, hx.2⟩
  | assign x =>
    simp only [opds, List.map_cons, List.map_nil, List.mem_singleton, forall_eq] at hx h
    injection h with h; subst h
    exact ⟨ρ, w, .value (rv x), rfl, hx.1, Moved.refl hs, hx.2⟩
  | pick c a b =>
    simp only [opds, List.map_cons, List.map_nil, List.mem_cons, List.not_mem_nil, or_false, forall_eq_or_imp, forall_eq] at hx h
    unfold opPick at h
    split at h
    · rename_i t x y heq
      injection heq with h1 h2; injection h2 with h2 h3; injection h3 with h3
      subst h2; subst h3
      injection h with h; subst h
      have hc := hx.1.1
      rw [h1] at hc
      have := hc.eq rfl
      refine ⟨ρ, w, .value (if t then rv a else rv b), ?_, ?_, Moved.refl hs, ?_⟩
      · simp only [execOp, this, dec, asBool]; rfl
      · cases t
        · exact hx.2.2.1
        · exact hx.2.1.1
      · cases t
        · exact hx.2.2.2
        · exact hx.2.1.2
    · cases h
  | alloc t =>
    simp only [opds, List.map_nil] at h
    unfold opAlloc at h
    simp only at h
    split at h
    · rename_i z hz
      obtain ⟨v, H', hb, rfl⟩ := changeR_some h
      obtain ⟨hrz, _, hlz⟩ := run_zeroOf hz ρ w
      obtain ⟨ρ', w', hr, hm, hl⟩ := box_ok (P := P) hs hb (hlz _)
      refine ⟨ρ', w', _, run_val (s := Instr.alloc t true (.tuple #[])) ?_, .inr rfl, hm, hl⟩
      unfold Instr.alloc
      simp only [Sem.run_bind, hrz, Result.andThen_ok]
      simpa using hr
    · cases h
  | box t x =>
    simp only [opds, List.map_cons, List.map_nil, List.mem_singleton, forall_eq] at hx h
    obtain ⟨v, H', hb, rfl⟩ := changeR_some h
    have hj : isJunk (ev x) = false := by unfold boxL at hb; exact (cond_some' hb).1
    obtain ⟨ρ', w', hr, hm, hl⟩ := box_ok (P := P) hs hb hx.2
    refine ⟨ρ', w', _, run_val (s := Instr.box t (rv x)) ?_, .inr rfl, hm, hl⟩
    rw [hx.1.eq hj]; exact hr
  | build t ps =>
    simp only [opds] at hx h
    obtain ⟨v, hv, rfl⟩ := pureR_some h
    rw [zip_parts] at hv
    obtain ⟨hr, hl⟩ := build_ok (w := w) (ρ := ρ) (n := H.n) (rv := rv) hx hv
    exact runsTo_pure hs hr hl
  | buildSlice t n ps =>
    simp only [opds] at hx h
    obtain ⟨v, H', hv, rfl⟩ := changeR_some h
    rw [zip_parts] at hv
    obtain ⟨ρ', w', hr, hm, hl⟩ := buildSlice_ok hs (rv := rv) hx hv
    exact ⟨ρ', w', _, run_val hr, .inr rfl, hm, hl⟩
  | load t x =>
    simp only [opds, List.map_cons, List.map_nil, List.mem_singleton, forall_eq] at hx h
    obtain ⟨v, k, hv, rfl⟩ := loadR_some h
    have hj := load_junk hv
    obtain ⟨hr, hl⟩ := load_ok (P := P) hs hv hx.2
    refine runsTo_pure (s := Instr.loadAt t (rv x)) hs ?_ hl
    rw [hx.1.eq hj]; exact hr
  | store t a v =>
    simp only [opds, List.map_cons, List.map_nil, List.mem_cons, List.not_mem_nil, or_false, forall_eq_or_imp, forall_eq] at hx h
    unfold opStore at h
    simp only at h
    split at h
    · rename_i H' hst
      injection h with h; subst h
      obtain ⟨hja, hjv⟩ := store_junk hst
      obtain ⟨w', hr, hm⟩ := store_ok (P := P) hs hst hx.1.2 hx.2.2
      refine ⟨ρ, w', .skip, run_unit (s := Instr.storeAt t (rv a) (rv v)) ?_, rfl, hm, trivial⟩
      rw [hx.1.1.eq hja, hx.2.1.eq hjv]; exact hr
    · cases h
  | nilCheck x =>
    simp only [opds, List.map_cons, List.map_nil, List.mem_singleton, forall_eq] at hx h
    unfold opNilCheck at h
    split at h
    · rename_i i o heq
      injection heq with heq _
      injection h with h; subst h
      rw [heq] at hx
      have := hx.1.eq rfl
      refine ⟨ρ, w, .value (rv x), ?_, .inr this, Moved.refl hs, hx.2⟩
      simp only [execOp, this, dec]; rfl
    · rename_i g a b heq
      injection heq with heq _
      injection h with h; subst h
      rw [heq] at hx
      have := hx.1.eq rfl
      refine ⟨ρ, w, .value (rv x), ?_, .inr this, Moved.refl hs, hx.2⟩
      simp only [execOp, this, dec]; rfl
    · rename_i g a b heq
      injection heq with heq _
      injection h with h; subst h
      rw [heq] at hx
      have := hx.1.eq rfl
      refine ⟨ρ, w, .value (rv x), ?_, .inr this, Moved.refl hs, hx.2⟩
      simp only [execOp, this, dec]; rfl
    · cases h
  | binOp op t a b yt =>
    simp only [opds, List.map_cons, List.map_nil, List.mem_cons, List.not_mem_nil, or_false, forall_eq_or_imp, forall_eq] at hx h
    obtain ⟨v, hv, rfl⟩ := pureR_some h
    obtain ⟨hr, hl⟩ := bin_ok (P := P) (H := H) (w := w) (X := a) (Y := b) hx.1.1 hx.2.1 hv
    exact runsTo_pure hs hr hl
  | unOp op t x =>
    simp only [opds, List.map_cons, List.map_nil, List.mem_singleton, forall_eq] at hx h
    obtain ⟨v, hv, rfl⟩ := pureR_some h
    obtain ⟨hr, hl⟩ := un_ok (P := P) (ρ := ρ) (H := H) (w := w) hv
    refine runsTo_pure (s := Op.unary op (rv x)) hs ?_ hl
    rw [hx.1.eq (un_junk hv)]; exact hr
  | convert s d x =>
    simp only [opds, List.map_cons, List.map_nil, List.mem_singleton, forall_eq] at hx h
    unfold opConvert at h
    simp only at h
    split at h
    · rename_i v H' hc
      injection h with h; subst h
      have hj := conv_junk hc
      obtain ⟨ρ', w', hr, hm, hl⟩ := conv_ok (P := P) hs hc hx.2
      refine ⟨ρ', w', _, run_val (s := convert s d (rv x)) ?_, .inr rfl, hm, hl⟩
      rw [hx.1.eq hj]; exact hr
    · cases h
  | makeInterface t x =>
    simp only [opds, List.map_cons, List.map_nil, List.mem_singleton, forall_eq] at hx h
    unfold opMakeInterface at h
    simp only at h
    replace h := bc_some' h; obtain ⟨hj, h⟩ := h
    split at h
    · cases h
    · rename_i d hni hu
      injection h with h; subst h
      refine runsTo_pure (s := Instr.makeInterface t (rv x)) hs ?_ hx.2
      unfold Instr.makeInterface
      simp only [Sem.run_bind, run_underlying hu, Result.andThen_ok]
      rw [hx.1.eq hj]
      cases d <;> first
        | exact absurd rfl (hni _)
        | rfl
    · cases h
  | makeFunc f first captured =>
    simp only [opds] at hx h
    split at h
    · rename_i g
      unfold opMakeFunc at h
      replace h := bc_some h; obtain ⟨hn, h⟩ := h
      injection h with h; subst h
      have hr := reals (ρ := ρ) (H := H) hx hn
      have hl := lts_map (fun x hxx => (hx x hxx).2)
      rw [lts_iff] at hl
      refine runsTo_pure (s := Instr.makeFunc (.func g) (first.map rv) (captured.map rv)) hs ?_ ?_
      · unfold Instr.makeFunc
        simp only [Sem.run_pure, dec, decFn, takeN_eq, dropN_eq]
        have h1 : decs ρ (((first.toList ++ captured.toList).map ev).take first.size) = first.toList.map rv := by
          rw [decs_eq, List.map_take, ← decs_eq, ← hr]; simp
        have h2 : decs ρ (((first.toList ++ captured.toList).map ev).drop first.size) = captured.toList.map rv := by
          rw [decs_eq, List.map_drop, ← decs_eq, ← hr]; simp
        rw [h1, h2]
        congr 2 <;> (apply Array.ext'; simp)
      · simp only [lt, takeN_eq, dropN_eq]
        refine ⟨trivial, ?_, ?_⟩
        · rw [lts_iff]; intro v hv; exact hl v (List.mem_of_mem_take hv)
        · rw [lts_iff]; intro v hv; exact hl v (List.mem_of_mem_drop hv)
    · cases h
  | makeMap t rr =>
    cases rr with
    | some x => cases h
    | none =>
      simp only [opds, Option.toList, List.map_nil] at h
      injection h with h; subst h
      refine ⟨upRho ρ H.n ⟨w.heap.size, 0, 0, default, 0⟩, { w with heap := w.heap.push (.map #[] 0) }, _, run_val (s := Instr.makeMap t (Option.map rv none)) (v := .map (some w.heap.size)) ?_, .inr ?_, Moved.push hs (.map [] 0) (.map #[] 0) _ rfl rfl rfl rfl rfl ?_ ?_, ?_⟩
      · rfl
      · simp [dec, upRho_new]
      · intro e he; cases he
      · simp [SatObj]
      · simp only [lt, Heap.n_push]; omega
  | makeSlice t l c =>
    simp only [opds, List.map_cons, List.map_nil, List.mem_cons, List.not_mem_nil, or_false, forall_eq_or_imp, forall_eq] at hx h
    obtain ⟨v, H', hv, rfl⟩ := changeR_some h
    obtain ⟨ρ', w', hr, hm, hl⟩ := makeSlice_ok (P := P) hs hv
    obtain ⟨hjl, hjc⟩ := makeSlice_junk hv
    refine ⟨ρ', w', _, run_val (s := Instr.makeSlice t (rv l) (rv c)) ?_, .inr rfl, hm, hl⟩
    rw [hx.1.1.eq hjl, hx.2.1.eq hjc]; exact hr
  | slice t x lo hi mx =>
    simp only [opds, List.map_cons, List.mem_cons, forall_eq_or_imp] at hx h
    unfold opSlice at h
    simp only at h
    split at h
    · rename_i l hh m h3
      split at h
      · rename_i v H' hv
        injection h with h; subst h
        obtain ⟨a, b, c, d⟩ := three_ok (ρ := ρ) (rv := rv) (fun x hxx => (hx.2 x hxx).1) h3
        obtain ⟨ρ', hr, hm, hl⟩ := slice_ok (P := P) hs a b c d hv hx.1.2
        have hj := slice_junk hv
        refine ⟨ρ', w, _, run_val (s := Instr.sliceAt t (rv x) (lo.map rv) (hi.map rv) (mx.map rv)) ?_, .inr rfl, hm, hl⟩
        rw [hx.1.1.eq hj]; exact hr
      · cases h
    · cases h
  | fieldAddr s x f =>
    simp only [opds, List.map_cons, List.map_nil, List.mem_singleton, forall_eq] at hx h
    obtain ⟨v, hv, rfl⟩ := pureR_some h
    obtain ⟨hr, hl⟩ := fieldAddr_ok (P := P) (ρ := ρ) (w := w) hv hx.2
    have hj := fieldAddr_junk hv
    refine runsTo_pure (s := Instr.fieldAt s (rv x) f) hs ?_ hl
    rw [hx.1.eq hj]; exact hr
  | field s x f =>
    simp only [opds, List.map_cons, List.map_nil, List.mem_singleton, forall_eq] at hx h
    obtain ⟨v, hv, rfl⟩ := pureR_some h
    obtain ⟨hr, hl⟩ := field_ok (P := P) (ρ := ρ) (w := w) hv hx.2
    have hj := field_junk hv
    refine runsTo_pure (s := Instr.field s (rv x) f) hs ?_ hl
    rw [hx.1.eq hj]; exact hr
  | indexAddr t x i =>
    simp only [opds, List.map_cons, List.map_nil, List.mem_cons, List.not_mem_nil, or_false, forall_eq_or_imp, forall_eq] at hx h
    obtain ⟨v, hv, rfl⟩ := pureR_some h
    obtain ⟨hr, hl⟩ := indexAddr_ok (P := P) (ρ := ρ) (w := w) hv hx.1.2
    obtain ⟨hj1, hj2⟩ := indexAddr_junk hv
    refine runsTo_pure (s := Instr.indexAt t (rv x) (rv i)) hs ?_ hl
    rw [hx.1.1.eq hj1, hx.2.1.eq hj2]; exact hr
  | index t x i =>
    simp only [opds, List.map_cons, List.map_nil, List.mem_cons, List.not_mem_nil, or_false, forall_eq_or_imp, forall_eq] at hx h
    obtain ⟨v, hv, rfl⟩ := pureR_some h
    obtain ⟨hr, hl⟩ := index_ok (P := P) (ρ := ρ) (w := w) hv hx.1.2
    obtain ⟨hj1, hj2⟩ := index_junk hv
    refine runsTo_pure (s := Instr.index t (rv x) (rv i)) hs ?_ hl
    rw [hx.1.1.eq hj1, hx.2.1.eq hj2]; exact hr
  | lookup t m k ok =>
    simp only [opds, List.map_cons, List.map_nil, List.mem_cons, List.not_mem_nil, or_false, forall_eq_or_imp, forall_eq] at hx h
    obtain ⟨v, kd, hv, rfl⟩ := loadR_some h
    obtain ⟨hr, hl⟩ := lookup_ok (P := P) hs hv hx.1.2
    have hj1 := lookup_junk hv
    have hj2 : isJunk (ev k) = false := by unfold lookupL at hv; exact (cond_some' hv).1
    refine runsTo_pure (s := Instr.lookup t (rv m) (rv k) ok) hs ?_ hl
    rw [hx.1.1.eq hj1, hx.2.1.eq hj2]; exact hr
  | mapUpdate t m k v =>
    simp only [opds, List.map_cons, List.map_nil, List.mem_cons, List.not_mem_nil, or_false, forall_eq_or_imp, forall_eq] at hx h
    unfold opUpdate at h
    simp only at h
    split at h
    · rename_i H' hu
      injection h with h; subst h
      obtain ⟨hjm, hjk, hjv⟩ := update_junk hu
      obtain ⟨w', hr, hm⟩ := update_ok (P := P) hs hu hx.1.2 hx.2.1.2 hx.2.2.2
      refine ⟨ρ, w', .skip, run_unit (s := Instr.mapUpdate t (rv m) (rv k) (rv v)) ?_, rfl, hm, trivial⟩
      rw [hx.1.1.eq hjm, hx.2.1.1.eq hjk, hx.2.2.1.eq hjv]; exact hr
    · cases h
  | insert t m k v =>
    simp only [opds, List.map_cons, List.map_nil, List.mem_cons, List.not_mem_nil, or_false, forall_eq_or_imp, forall_eq] at hx h
    unfold opUpdate at h
    simp only at h
    split at h
    · rename_i H' hu
      injection h with h; subst h
      obtain ⟨hjm, hjk, hjv⟩ := update_junk hu
      obtain ⟨w', hr, hm⟩ := update_ok (P := P) hs hu hx.1.2 hx.2.1.2 hx.2.2.2
      refine ⟨ρ, w', .skip, run_unit (s := Instr.mapUpdate t (rv m) (rv k) (rv v)) ?_, rfl, hm, trivial⟩
      rw [hx.1.1.eq hjm, hx.2.1.1.eq hjk, hx.2.2.1.eq hjv]; exact hr
    · cases h
  | extract x i =>
    simp only [opds, List.map_cons, List.map_nil, List.mem_singleton, forall_eq] at hx h
    unfold opExtract at h
    split at h
    · rename_i vs heq
      injection heq with heq _
      obtain ⟨v, hv, rfl⟩ := pureR_some h
      rw [nth_eq] at hv
      rw [heq] at hx
      have := hx.1.eq rfl
      refine runsTo_pure (s := Instr.extract (rv x) i) hs ?_ ?_
      · rw [this]
        simp only [dec, Instr.extract, List.getElem?_toArray, decs_eq, List.getElem?_map, hv]
        rfl
      · have hl := hx.2
        simp only [lt] at hl
        rw [lts_iff] at hl
        exact hl v (List.mem_of_getElem? hv)
    · cases h
  | call c =>
    cases hb : c.callee with
    | builtin b => simp only [hb] at h; exact builtin_sound hs ty pos after guard dst hb hx h
    | value f => simp only [hb] at h; cases h
    | invoke a b => simp only [hb] at h; cases h
  | _ => cases h
end Go.Proofs.Ytmnpnomllcghmaa.Ev
