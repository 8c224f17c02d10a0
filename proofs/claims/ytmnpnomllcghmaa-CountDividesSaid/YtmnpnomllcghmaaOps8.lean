/- Maps. -/
import Derived.Test.YtmnpnomllcghmaaOps7
namespace Go.Proofs.Ytmnpnomllcghmaa.Ev
open Go

variable {P : Program} {ρ : Nat → RB} {H : Heap} {w : World}

theorem eqCells_same {kd : TypeDesc} {x y : LV} {b : Bool} (h : eqCells kd x y = some b) : Instr.sameNow kd (dec ρ x) (dec ρ y) = some b := by
  unfold eqCells at h
  split at h
  · split at h
    · injection h with h; subst h; rfl
    · cases h
  · split at h
    · obtain ⟨rfl, rfl⟩ := eq0_int h
      simp [Instr.sameNow, dec]
    · cases h
  · split at h
    · injection h with h; subst h
      simp only [Instr.sameNow, dec, eqB_eq, ← beq_mk]
    · cases h
  · cases h

theorem find_ok {kd : TypeDesc} {k : LV} : ∀ (es : List Ent) (i : Nat) (r : Option (Nat × LV)), findL kd k es i = some r →
    Instr.findNow kd (dec ρ k) (es.map (decEnt ρ)) i = some (r.map fun p => (p.1, dec ρ p.2))
  | [], i, r, h => by injection h with h; subst h; rfl
  | e :: es, i, r, h => by
    unfold findL at h
    split at h
    · rename_i b hb
      simp only [List.map_cons, Instr.findNow, decEnt, eqCells_same hb]
      cases b with
      | true => simp only [cond_true] at h; injection h with h; subst h; rfl
      | false => simp only [cond_false] at h; exact find_ok es (i + 1) r h
    · cases h
theorem find_mem {kd : TypeDesc} {k : LV} : ∀ (es : List Ent) (i j : Nat) (v : LV), findL kd k es i = some (some (j, v)) →
    i ≤ j ∧ ∃ e, es[j - i]? = some e ∧ e.val = v ∧ eqCells kd k e.key = some true
  | [], i, j, v, h => by injection h with h; cases h
  | e :: es, i, j, v, h => by
    unfold findL at h
    split at h
    · rename_i b hb
      cases b with
      | true =>
        simp only [cond_true] at h; injection h with h; injection h with h; injection h with h1 h2
        subst h1; exact ⟨Nat.le_refl _, e, by simp, h2, hb⟩
      | false =>
        simp only [cond_false] at h
        obtain ⟨h1, e', h2, h3, h4⟩ := find_mem es (i + 1) j v h
        exact ⟨by omega, e', by rw [show j - i = (j - (i + 1)) + 1 by omega]; simpa using h2, h3, h4⟩
    · cases h

theorem run_checkKey {kt : TypeId} {kd : TypeDesc} (hu : P.underlying kt = some kd) (hk : keyKind kd = true) (e : Bool) (n : Nat) (v : Value) : (Instr.checkKey e (n + 1) kt v).run P w = .ok () w := by
  rw [Instr.checkKey]
  simp only [Sem.run_bind, run_underlying hu, Result.andThen_ok]
  cases kd <;> first | (cases hk; done) | rfl
theorem run_findKey {kt : TypeId} {kd : TypeDesc} (hu : P.underlying kt = some kd) {k : LV} {es : List Ent} {r : Option (Nat × LV)} (h : findL kd k es 0 = some r) :
    (Instr.findKey kt (dec ρ k) (es.map (decEnt ρ))).run P w = .ok (r.map fun p => (p.1, dec ρ p.2)) w := by
  unfold Instr.findKey
  simp only [Sem.run_bind, run_underlying hu, Result.andThen_ok, find_ok (ρ := ρ) es 0 r h]
  rfl
theorem run_getObj {r : Nat} {o : Obj} (h : w.heap[r]? = some o) (hc : ∀ c e f, o ≠ .cells c e f) : (getObj r).run P w = .ok o w := by
  unfold getObj
  cases o <;> first
    | exact absurd rfl (hc _ _ _)
    | simp only [Sem.run, h]
theorem run_setObj {r : Nat} {o o' : Obj} (h : w.heap[r]? = some o) (hc : ∀ c e f, o ≠ .cells c e f) : (setObj r o').run P w = .ok () (putO w r o') := by
  unfold setObj
  cases o <;> first
    | exact absurd rfl (hc _ _ _)
    | (simp only [Sem.run, h]; rfl)

theorem ents_some {m : LV} {es : List Ent} (h : entsOf H m = some es) : (m = .nilm ∧ es = []) ∨ ∃ i clock, m = .map i ∧ H.get i = .map es clock := by
  unfold entsOf at h
  split at h
  · injection h with h; exact .inl ⟨rfl, h.symm⟩
  · rename_i i
    split at h
    · rename_i es' clock hg
      injection h with h; subst h
      exact .inr ⟨i, clock, rfl, hg⟩
    · cases h
  · cases h

theorem lookup_ok (hs : Sat ρ H w) {t : TypeId} {m k v : LV} {ok : Bool} (h : lookupL P t m k ok H = some v) (hm : lt H.n m) : (Instr.lookup t (dec ρ m) (dec ρ k) ok).run P w = .ok (dec ρ v) w ∧ lt H.n v := by
  unfold lookupL at h
  replace h := (cond_some' h).2
  split at h
  · rename_i kt et hu
    split at h
    · rename_i kd hk
      replace h := cond_some h; obtain ⟨hkk, h⟩ := h
      split at h
      · rename_i es hes
        split at h
        · rename_i r hr
          split at h
          · rename_i z hz
            injection h with h
            obtain ⟨hrz, _, hlz⟩ := run_zeroOf hz ρ w
            rcases ents_some hes with ⟨rfl, rfl⟩ | ⟨i, clock, rfl, hg⟩
            · injection hr with hr
              subst hr
              subst h
              unfold Instr.lookup
              simp only [Sem.run_bind, run_underlying hu, Result.andThen_ok, dec, Sem.run_pure, run_checkKey hk hkk]
              have hf := run_findKey (ρ := ρ) (w := w) (k := k) hk (es := []) (r := none) rfl
              simp only [List.map_nil] at hf
              rw [hf]
              simp only [Option.map_none, Sem.run_bind, hrz, Result.andThen_ok, Sem.run_pure]
              cases ok <;> simp [foundL, dec, decs, lt, lts, hlz]
            · have ho := hs.obj i hm
              rw [hg] at ho
              have hwf := hs.wf i hm
              rw [hg] at hwf
              have hho : w.heap[(ρ i).blk]? = some (.map (es.map (decEnt ρ)).toArray clock) := ho
              unfold Instr.lookup
              simp only [Sem.run_bind, run_underlying hu, Result.andThen_ok, dec, Sem.run_pure, run_getObj hho (by simp), run_checkKey hk hkk, run_findKey hk hr]
              cases r with
              | none =>
                simp only [Option.map_none, Sem.run_bind, hrz, Result.andThen_ok, Sem.run_pure]
                subst h
                cases ok <;> simp [foundL, dec, decs, lt, lts, hlz]
              | some p =>
                obtain ⟨j, u⟩ := p
                simp only [Option.map_some, Sem.run_pure, Result.andThen_ok]
                subst h
                obtain ⟨_, e, h2, h3, _⟩ := find_mem es 0 j u hr
                have hl := (hwf e (List.mem_of_getElem? h2)).2
                rw [h3] at hl
                cases ok <;> simp [foundL, dec, decs, lt, lts, hl]
          · cases h
        · cases h
      · cases h
    · cases h
  · cases h

theorem sameBits_of_eq {kd : TypeDesc} {x y : LV} (h : eqCells kd x y = some true) : Instr.sameBits 10000 (dec ρ y) (dec ρ x) = true := by
  unfold eqCells at h
  split at h
  · split at h
    · injection h with h
      simp only [beq_iff_eq] at h; subst h
      simp [dec, Instr.sameBits]
    · cases h
  · split at h
    · obtain ⟨rfl, h'⟩ := eq0_int h
      have h' := eq_of_beq h'.symm
      subst h'
      simp [dec, Instr.sameBits]
    · cases h
  · split at h
    · injection h with h
      rw [eqB_eq] at h
      simp only [beq_iff_eq] at h; subst h
      simp only [dec, Instr.sameBits, beq_mk]
      simp
    · cases h
  · cases h

theorem setEnt_map (ρ : Nat → RB) : ∀ (es : List Ent) (j : Nat) (k v : LV), ((es.map (decEnt ρ)).toArray.modify j fun e => { e with key := dec ρ k, val := dec ρ v }) = ((setEnt es j k v).map (decEnt ρ)).toArray := by
  intro es j k v
  apply Array.ext_getElem?
  intro i
  rw [Array.getElem?_modify]
  simp only [List.getElem?_toArray, List.getElem?_map]
  induction es generalizing i j with
  | nil => simp [setEnt]
  | cons e es ih =>
    cases j with
    | zero =>
      cases i with
      | zero => simp [setEnt, decEnt]
      | succ i => simp [setEnt]
    | succ j =>
      cases i with
      | zero => simp [setEnt]
      | succ i =>
        have := ih j i
        simp only [setEnt, List.getElem?_cons_succ, Nat.add_right_cancel_iff] at this ⊢
        exact this
theorem setEnt_mem {e : Ent} : ∀ (es : List Ent) (j : Nat) (k v : LV), e ∈ setEnt es j k v → e ∈ es ∨ (e.key = k ∧ e.val = v)
  | [], _, _, _, h => by cases h
  | x :: es, 0, k, v, h => by
    rcases List.mem_cons.1 h with rfl | h
    · exact .inr ⟨rfl, rfl⟩
    · exact .inl (List.mem_cons_of_mem _ h)
  | x :: es, j + 1, k, v, h => by
    rcases List.mem_cons.1 h with rfl | h
    · exact .inl (List.mem_cons_self ..)
    · rcases setEnt_mem es j k v h with h | h
      · exact .inl (List.mem_cons_of_mem _ h)
      · exact .inr h

theorem update_ok (hs : Sat ρ H w) {t : TypeId} {m k v : LV} {H' : Heap} (h : updateL P t m k v H = some H') (hm : lt H.n m) (hk : lt H.n k) (hv : lt H.n v) :
    ∃ w', (Instr.mapUpdate t (dec ρ m) (dec ρ k) (dec ρ v)).run P w = .ok () w' ∧ Moved ρ H w ρ H' w' := by
  unfold updateL at h
  replace h := cond_some' h; obtain ⟨_, h⟩ := h
  replace h := cond_some' h; obtain ⟨_, h⟩ := h
  split at h
  · rename_i kt et hu
    split at h
    · rename_i kd hkd
      replace h := cond_some h; obtain ⟨hkk, h⟩ := h
      split at h
      · rename_i i
        split at h
        · rename_i es clock hg
          replace h := cond_some h; obtain ⟨hi, h⟩ := h
          have hi : i < H.n := bltN.1 hi
          have ho := hs.obj i hi
          rw [hg] at ho
          have hwf := hs.wf i hi
          rw [hg] at hwf
          have hown : (H.get i).owns = true := by rw [hg]; rfl
          have hblk := hs.inside i hi (LObj.sits_of_owns hown)
          have hho : w.heap[(ρ i).blk]? = some (.map (es.map (decEnt ρ)).toArray clock) := ho
          split at h
          · rename_i j u hf
            injection h with h; subst h
            obtain ⟨_, e, h2, h3, h4⟩ := find_mem es 0 j u hf
            refine ⟨putO w (ρ i).blk (.map ((setEnt es j k v).map (decEnt ρ)).toArray clock), ?_, Moved.put hs hi hown _ (fun b hb => putO_heap_other hb) (by simp [putO]) rfl rfl rfl ?_ ?_⟩
            · unfold Instr.mapUpdate
              simp only [Sem.run_bind, run_underlying hu, Result.andThen_ok, dec, run_getObj hho (by simp), run_checkKey hkd hkk, run_findKey hkd hf, Option.map_some]
              have hkey : (((es.map (decEnt ρ)).toArray[j]?).map (·.key)).getD (dec ρ k) = dec ρ e.key := by
                simp only [Nat.sub_zero] at h2
                simp [h2, decEnt]
              rw [hkey]
              unfold Instr.keyThatStays
              rw [if_pos (sameBits_of_eq h4)]
              simp only [Sem.run_pure, Result.andThen_ok, setEnt_map]
              rw [run_setObj hho (by simp)]
            · intro e he
              rcases setEnt_mem es j k v he with he | ⟨a, b⟩
              · exact hwf e he
              · exact ⟨by rw [a]; exact hk, by rw [b]; exact hv⟩
            · exact putO_heap_same hblk
          · rename_i hf
            injection h with h; subst h
            refine ⟨putO w (ρ i).blk (.map ((app es [⟨k, v, clock⟩]).map (decEnt ρ)).toArray (clock + 1)), ?_, Moved.put hs hi hown _ (fun b hb => putO_heap_other hb) (by simp [putO]) rfl rfl rfl ?_ ?_⟩
            · unfold Instr.mapUpdate
              simp only [Sem.run_bind, run_underlying hu, Result.andThen_ok, dec, run_getObj hho (by simp), run_checkKey hkd hkk, run_findKey hkd hf, Option.map_none]
              rw [run_setObj hho (by simp)]
              congr 3
              rw [app_eq]
              apply Array.ext'
              simp [decEnt]
            · intro e he
              rw [app_eq] at he
              rcases List.mem_append.1 he with he | he
              · exact hwf e he
              · simp only [List.mem_singleton] at he; subst he; exact ⟨hk, hv⟩
            · exact putO_heap_same hblk
          · cases h
        · cases h
      · cases h
    · cases h
  · cases h
end Go.Proofs.Ytmnpnomllcghmaa.Ev
