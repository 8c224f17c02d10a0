/- Regions whose order is drawn: every order. -/
import Derived.Test.YtmnpnomllcghmaaDrw2
namespace Go.Proofs.Ytmnpnomllcghmaa.Ev
open Go

variable {P : Program}

theorem FRel.congr {ρ : Nat → RB} {n : Nat} {f g : Fr} {b : Frame} {tmps : Array Value} {ds : List Deferred} (h : FRel ρ n f b tmps ds) (hg : ∀ x, g.get x = f.get x) (hn : g.n = f.n) (hfn : g.fn = f.fn) (hm : g.marks = f.marks) (hr : g.round = f.round) : FRel ρ n g b tmps ds where
  wf := fun i => by have := h.wf i; rw [show g.t.get .junk i = f.t.get .junk i from hg i]; exact this
  marks := by rw [hm]; exact h.marks
  inRound := by rw [hr]; exact h.inRound
  fn := by rw [hfn]; exact h.fn
  size := by rw [hn]; exact h.size
  t := fun i => by have := h.t i; rw [show g.t.get .junk i = f.t.get .junk i from hg i]; exact this
  ds := by rw [hm]; exact h.ds
  round := by rw [hr]; exact h.round

theorem VS_congr (os : List Oper) (rs : List Rec) (f0 : Nat → LV) (t : Nat) {S T : Nat → Bool} : ∀ k, (∀ j o, j < k → os[j]? = some o → o.dst = some t → S j = T j) → VS os rs S f0 k t = VS os rs T f0 k t
  | 0, _ => rfl
  | k + 1, h => by
    have ih := VS_congr os rs f0 t k fun j o hj => h j o (by omega)
    simp only [VS]
    cases ho : os[k]? with
    | none => exact ih
    | some o =>
      cases hr : rs[k]? with
      | none => exact ih
      | some r =>
        simp only
        by_cases hd : o.dst = some t
        · rw [h k o (by omega) ho hd, ih]
        · simp only [hd, and_false, if_false]; exact ih
/-- Nobody of these writes there any more. -/
theorem VS_upto (os : List Oper) (rs : List Rec) (f0 : Nat → LV) (t : Nat) {S : Nat → Bool} {i : Nat} : ∀ k, i ≤ k → (∀ j o, i ≤ j → j < k → os[j]? = some o → o.dst = some t → S j = false) → VS os rs S f0 k t = VS os rs S f0 i t
  | 0, hi, _ => by have : i = 0 := by omega
                   subst this; rfl
  | k + 1, hi, h => by
    by_cases hik : i = k + 1
    · subst hik; rfl
    · have ih := VS_upto os rs f0 t (S := S) (i := i) k (by omega) fun j o h1 h2 => h j o h1 (by omega)
      simp only [VS]
      cases ho : os[k]? with
      | none => exact ih
      | some o =>
        cases hr : rs[k]? with
        | none => exact ih
        | some r =>
          simp only
          by_cases hd : o.dst = some t
          · rw [h k o (by omega) (by omega) ho hd]; simp only [Bool.false_eq_true, false_and, if_false]; exact ih
          · simp only [hd, and_false, if_false]; exact ih

theorem HS_congr (rs : List Rec) (H0 : Heap) {S T : Nat → Bool} : ∀ k, (∀ j r, j < k → rs[j]? = some r → r.d.k = .change → S j = T j) → HS rs S H0 k = HS rs T H0 k
  | 0, _ => rfl
  | k + 1, h => by
    have ih := HS_congr rs H0 k fun j r hj => h j r (by omega)
    simp only [HS]
    cases hr : rs[k]? with
    | none => exact ih
    | some r =>
      simp only
      split
      · rename_i hk
        rw [h k r (by omega) hr hk, ih]
      · exact ih
theorem HS_upto (rs : List Rec) (H0 : Heap) {S : Nat → Bool} {i : Nat} : ∀ k, i ≤ k → (∀ j r, i ≤ j → j < k → rs[j]? = some r → r.d.k = .change → S j = false) → HS rs S H0 k = HS rs S H0 i
  | 0, hi, _ => by have : i = 0 := by omega
                   subst this; rfl
  | k + 1, hi, h => by
    by_cases hik : i = k + 1
    · subst hik; rfl
    · have ih := HS_upto rs H0 (S := S) (i := i) k (by omega) fun j r h1 h2 => h j r h1 (by omega)
      simp only [HS]
      cases hr : rs[k]? with
      | none => exact ih
      | some r =>
        simp only
        split
        · rename_i hk
          rw [h k r (by omega) (by omega) hr hk]; simp only [Bool.false_eq_true, if_false]; exact ih
        · exact ih

/-- What the checks give. -/
structure Checks (ops : Array Oper) (rs : List Rec) : Prop where
  region : regionOk ops.toList = true
  dids : didsOk [] (rs.map Rec.d) (aheadOf ops.toList) = true

section
variable {ops : Array Oper} {n : Nat} {rs : List Rec} {f0 : Fr} {H0 : Heap} {f' : Fr} {H' : Heap} {S : Nat → Bool}

/-- Where an operation looks, the temporaries are the text's. -/
theorem look_same (hc : Checks ops rs) (hS : Down ops.toList fun i => S i = true) {i : Nat} {o : Oper} (ho : ops.toList[i]? = some o) (hi : S i = false) (hr : ∀ j, Ahead ops.toList j i → S j = true) (hin : i ≤ ops.size)
    {t : Nat} (ht : hasN (looks ops.toList o) t = true) : VS ops.toList rs S f0.get ops.size t = VS ops.toList rs (fun _ => true) f0.get i t := by
  rw [VS_upto ops.toList rs f0.get t ops.size hin, VS_congr]
  · intro j o' hj ho' hd
    refine hr j (tied_ahead hc.region ho' ho hj ?_)
    simp [tied, hd, ht]
  · intro j o' hij hj ho' hd
    by_cases hji : j = i
    · subst hji; exact hi
    · cases hSj : S j with
      | false => rfl
      | true =>
        have := hS j hSj i (tied_ahead hc.region ho ho' (by omega) (by simp [tied, hd, ht]))
        exact absurd (show S i = true from this) (by simp [hi])

theorem dids_get {i : Nat} {r : Rec} (h : rs[i]? = some r) : (rs.map Rec.d)[i]? = some r.d := by simp [h]

/-- Ahead of who changes the heap, the heap is the text's. -/
theorem heap_same (hc : Checks ops rs) (hS : Down ops.toList fun i => S i = true) {i : Nat} {r : Rec} (hri : rs[i]? = some r) (hk : r.d.k = .change) (hi : S i = false) (hr : ∀ j, Ahead ops.toList j i → S j = true) (hin : i ≤ ops.size) :
    HS rs S H0 ops.size = HS rs (fun _ => true) H0 i := by
  rw [HS_upto rs H0 ops.size hin, HS_congr]
  · intro j r' hj hrj hkj
    refine hr j ((did_ahead hc.dids (dids_get hrj) (dids_get hri) hj).resolve_right ?_)
    simp [crossOk, hkj, hk]
  · intro j r' hij hj hrj hkj
    by_cases hji : j = i
    · subst hji; exact hi
    · cases hSj : S j with
      | false => rfl
      | true =>
        have := hS j hSj i ((did_ahead hc.dids (dids_get hri) (dids_get hrj) (by omega)).resolve_right (by simp [crossOk, hkj, hk]))
        exact absurd (show S i = true from this) (by simp [hi])

theorem step1_le {o : Oper} {r : Rec} (h : Step1 P ops o r n) (hk : r.d.k = .change) : r.d.a.Le r.d.b := by
  cases ht : r.t with
  | false => have := (h.skip ht).2.1; rw [hk] at this; cases this
  | true =>
    have := h.does ht
    unfold Does at this
    rw [hk] at this
    exact this.1

/-- Where a value is read, the heap is the text's. -/
theorem load_same (hc : Checks ops rs) (hrun : Run P ops n rs f0 H0 f' H') (hS : Down ops.toList fun i => S i = true) {i : Nat} {r : Rec} {x : Nat} (hri : rs[i]? = some r) (hk : r.d.k = .load x) (hi : S i = false)
    (hr : ∀ j, Ahead ops.toList j i → S j = true) (hin : i < ops.size) : (HS rs S H0 ops.size).get x = (HS rs (fun _ => true) H0 i).get x := by
  have low : ∀ k, k ≤ i → (HS rs S H0 k).get x = (HS rs (fun _ => true) H0 k).get x := by
    intro k
    induction k with
    | zero => intro _; rfl
    | succ k ih =>
      intro hki
      have ih := ih (by omega)
      obtain ⟨o, ho⟩ : ∃ o, ops[k]? = some o := ⟨ops[k]'(by omega), by simp⟩
      obtain ⟨r', hr', _, ha, hb, h1⟩ := hrun.at_ k o ho
      simp only [HS, hr', if_true]
      split
      · rename_i hkk
        cases hSk : S k with
        | true => rfl
        | false =>
          simp only [Bool.false_eq_true, if_false]
          rw [ih, ← ha]
          have hcr := (did_ahead hc.dids (dids_get hr') (dids_get hri) hki).resolve_left fun h => by have := hr k h; rw [hSk] at this; cases this
          simp only [crossOk, hkk, hk, Bool.and_eq_true] at hcr
          exact ((step1_le h1 hkk).same x (bltN.1 hcr.1) (beqN hcr.2).symm).symm
      · exact ih
  have high : ∀ k, i ≤ k → k ≤ ops.size → (HS rs S H0 k).get x = (HS rs S H0 i).get x := by
    intro k
    induction k with
    | zero => intro h _; have : i = 0 := by omega
              subst this; rfl
    | succ k ih =>
      intro hik hks
      by_cases he : i = k + 1
      · subst he; rfl
      · have ih := ih (by omega) (by omega)
        obtain ⟨o, ho⟩ : ∃ o, ops[k]? = some o := ⟨ops[k]'(by omega), by simp⟩
        obtain ⟨r', hr', _, ha, hb, h1⟩ := hrun.at_ k o ho
        simp only [HS, hr']
        split
        · rename_i hkk
          cases hSk : S k with
          | false => simp only [Bool.false_eq_true, if_false]; exact ih
          | true =>
            simp only [if_true]
            have hki : k ≠ i := by intro e; subst e; rw [hi] at hSk; cases hSk
            have hnot : ¬ Ahead ops.toList i k := fun h => by have : S i = true := hS k hSk i h; rw [hi] at this; cases this
            have hcr := (did_ahead hc.dids (dids_get hri) (dids_get hr') (by omega)).resolve_left hnot
            simp only [crossOk, hkk, hk, Bool.and_eq_true] at hcr
            have hS' : HS rs S H0 k = r'.d.a := by
              rw [ha]
              refine HS_congr rs H0 k fun j r2 hj hr2 hk2 => ?_
              exact hS k hSk j ((did_ahead hc.dids (dids_get hr2) (dids_get hr') hj).resolve_right (by simp [crossOk, hk2, hkk]))
            rw [← ih, hS']
            exact (step1_le h1 hkk).same x (bltN.1 hcr.1) (beqN hcr.2).symm
        · exact ih
  rw [high _ (by omega) (Nat.le_refl _), low i (Nat.le_refl _)]

/-- One more. -/
def Also (S : Nat → Bool) (i : Nat) : Nat → Bool := fun j => if j = i then true else S j

theorem VS_also (hc : Checks ops rs) (hS : Down ops.toList fun i => S i = true) {i : Nat} {o : Oper} {r : Rec} (ho : ops.toList[i]? = some o) (hri : rs[i]? = some r) (hi : S i = false) (hin : i < ops.size) (t : Nat) :
    VS ops.toList rs (Also S i) f0.get ops.size t = if o.dst = some t then r.v else VS ops.toList rs S f0.get ops.size t := by
  split
  · rename_i hd
    rw [VS_upto ops.toList rs f0.get t ops.size (i := i + 1) (by omega)]
    · simp [VS, ho, hri, Also, hd]
    · intro j o' hij hj ho' hd'
      have hne : j ≠ i := by omega
      simp only [Also, hne, if_false]
      cases hSj : S j with
      | false => rfl
      | true =>
        have := hS j hSj i (tied_ahead hc.region ho ho' (by omega) (by simp [tied, hd, hd']))
        exact absurd (show S i = true from this) (by simp [hi])
  · rename_i hd
    refine VS_congr _ _ _ _ _ fun j o' hj ho' hd' => ?_
    have hne : j ≠ i := by
      intro e; subst e; rw [ho] at ho'; injection ho' with ho'; subst ho'; exact hd hd'
    simp [Also, hne]

theorem HS_also (hc : Checks ops rs) (hS : Down ops.toList fun i => S i = true) {i : Nat} {r : Rec} (hri : rs[i]? = some r) (hi : S i = false) (hin : i < ops.size) :
    HS rs (Also S i) H0 ops.size = match r.d.k with | .change => r.d.b | _ => HS rs S H0 ops.size := by
  cases hk : r.d.k with
  | change =>
    rw [HS_upto rs H0 ops.size (i := i + 1) (by omega)]
    · simp [HS, hri, Also, hk]
    · intro j r' hij hj hrj hkj
      have hne : j ≠ i := by omega
      simp only [Also, hne, if_false]
      cases hSj : S j with
      | false => rfl
      | true =>
        have := hS j hSj i ((did_ahead hc.dids (dids_get hri) (dids_get hrj) (by omega)).resolve_right (by simp [crossOk, hkj, hk]))
        exact absurd (show S i = true from this) (by simp [hi])
  | _ =>
    refine HS_congr _ _ _ fun j r' hj hrj hkj => ?_
    have hne : j ≠ i := by
      intro e; subst e; rw [hri] at hrj; injection hrj with hrj; subst hrj; rw [hk] at hkj; cases hkj
    simp [Also, hne]

theorem down_also (hS : Down ops.toList fun i => S i = true) {i : Nat} (hr : ∀ j, Ahead ops.toList j i → S j = true) : Down ops.toList fun j => Also S i j = true := by
  intro j hj k hk
  simp only [Also] at hj ⊢
  by_cases hji : j = i
  · subst hji
    have := hr k hk
    split
    · rfl
    · exact this
  · simp only [hji, if_false] at hj
    have := hS j hj k hk
    split
    · rfl
    · exact this

theorem tmp_looks {o : Oper} {t : Nat} (h : Operand.tmp t ∈ opds o.op) : hasN (looks ops.toList o) t = true := by
  rw [hasN_iff, looks, app_eq]
  refine List.mem_append_left _ (List.mem_filterMap.2 ⟨_, h, rfl⟩)
theorem guard_looks {o : Oper} {j : Nat} {want : Bool} {d : Tmp} (hg : o.guard = some (j, want)) (hd : (ops[j]?).bind (·.dst) = some d) : hasN (looks ops.toList o) d = true := by
  rw [hasN_iff, looks, app_eq, hg]
  refine List.mem_append_right _ ?_
  have : dstOf ops.toList j = some d := by rw [dstOf_eq]; simpa using hd
  simp [this, optOf]

/-- One operation, in any order. -/
theorem draw_step (hc : Checks ops rs) (hrun : Run P ops f0.n rs f0 H0 f' H') (hS : Down ops.toList fun i => S i = true) {i : Nat} {o : Oper} (ho : ops[i]? = some o) (hi : S i = false) (hr : ∀ j, Ahead ops.toList j i → S j = true)
    {g : Fr} (hgn : g.n = f0.n) (hget : ∀ x, g.get x = VS ops.toList rs S f0.get ops.size x)
    {ρ : Nat → RB} {w : World} {b : Frame} {tmps : Array Value} {ds : List Deferred} (k : List Item) (cs : List Frame) (rest : List Nat) (hs : Sat ρ (HS rs S H0 ops.size) w) (hf : FRel ρ (HS rs S H0 ops.size).n g b tmps ds) :
    ∃ ρ' w' tmps' g', g'.n = g.n ∧ g'.fn = g.fn ∧ g'.marks = g.marks ∧ g'.round = g.round ∧ (∀ x, g'.get x = VS ops.toList rs (Also S i) f0.get ops.size x) ∧
      Moved ρ (HS rs S H0 ops.size) w ρ' (HS rs (Also S i) H0 ops.size) w' ∧ FRel ρ' (HS rs (Also S i) H0 ops.size).n g' b tmps' ds ∧
      Steps P (lone (frameAt b tmps ds (.inRegion ops (i :: rest) :: k)) cs w) (lone (frameAt b tmps' ds (.inRegion ops rest :: k)) cs w') := by
  have hol : ops.toList[i]? = some o := by simpa using ho
  have hin : i < ops.size := (Array.getElem?_eq_some_iff.1 ho).1
  obtain ⟨r, hri, hrf, hra, hrb, h1⟩ := hrun.at_ i o ho
  have hsame : ∀ t, hasN (looks ops.toList o) t = true → g.get t = r.f.get t := fun t ht => by
    rw [hget, hrf, look_same hc hS hol hi hr (by omega) ht]
  have hevs : g.evs (opds o.op) = r.f.evs (opds o.op) := by
    rw [evs_eq, evs_eq]
    apply List.map_congr_left
    intro x hx
    cases x with
    | tmp t => exact hsame t (tmp_looks hx)
    | _ => rfl
  have hwant := h1.want _ _ _ _ _ g (fun j want d hg hd => hsame d (guard_looks hg hd)) hf
  have hput : ∃ g', g.put o.dst r.v = some g' := by
    unfold Fr.put
    cases hd : o.dst with
    | none => exact ⟨_, rfl⟩
    | some d =>
      have := h1.dst d hd
      rw [← hgn] at this
      simp [bltN.2 this]
  obtain ⟨g', hput⟩ := hput
  have hp := put_n hput
  have hget' : ∀ x, g'.get x = VS ops.toList rs (Also S i) f0.get ops.size x := fun x => by
    rw [hp.2.2.2.2.1 x, VS_also hc hS hol hri hi hin, hget]
  have hHS := HS_also (H0 := H0) hc hS hri hi hin
  cases ht : r.t with
  | false =>
    rw [ht] at hwant
    obtain ⟨hv, hk, _⟩ := h1.skip ht
    rw [hk] at hHS
    simp only at hHS
    rw [hHS]
    refine ⟨ρ, w, _, g', hp.1, hp.2.1, hp.2.2.1, hp.2.2.2.1, hget', Moved.refl hs, hf.put (v' := undef) hput (.inr (by rw [hv]; rfl)) (by rw [hv]; exact ⟨⟩), .one (st_opSkip ho hwant)⟩
  | true =>
    rw [ht] at hwant
    have hdoes := h1.does ht
    by_cases hk : r.d.k = .change
    · rw [hk] at hHS
      simp only at hHS
      unfold Does at hdoes
      rw [hk] at hdoes
      have hHa := heap_same (H0 := H0) hc hS hri hk hi hr (by omega)
      rw [← hra] at hHa
      rw [hHa] at hs hf ⊢
      rw [hHS]
      obtain ⟨ρ', w', hm, hl, v', hv, hst⟩ := hdoes.2 g hevs ρ w b tmps ds ops i rest k cs hs hf ho hwant
      exact ⟨ρ', w', _, g', hp.1, hp.2.1, hp.2.2.1, hp.2.2.2.1, hget', hm, (hf.ext hm.ext hm.more).put hput hv hl, hst⟩
    · have hHS' : HS rs (Also S i) H0 ops.size = HS rs S H0 ops.size := by
        rw [hHS]; split
        · rename_i e; exact absurd e hk
        · rfl
      have hd2 : ∀ H2 : Heap, (∀ x, r.d.k = .load x → H2.get x = r.d.a.get x) → OpDoes P o g H2 (.val r.v r.d.k) H2 := by
        intro H2 ha
        unfold Does at hdoes
        split at hdoes
        · rename_i e; exact absurd e hk
        · exact hdoes.2 g H2 hevs ha
      have := hd2 (HS rs S H0 ops.size) fun x hx => by rw [hra]; exact load_same hc hrun hS hri hx hi hr hin
      obtain ⟨ρ', w', hm, hl, v', hv, hst⟩ := this ρ w b tmps ds ops i rest k cs hs hf ho hwant
      rw [hHS']
      exact ⟨ρ', w', _, g', hp.1, hp.2.1, hp.2.2.1, hp.2.2.2.1, hget', hm, (hf.ext hm.ext hm.more).put hput hv hl, hst⟩

def Listed (l : Array Bool) : Nat → Bool := fun i => l.getD i false
def left (l : Array Bool) : Nat := l.toList.countP (! ·)

theorem left_set {l : Array Bool} {i : Nat} (h : i < l.size) (hf : l.getD i true = false) : left (l.setIfInBounds i true) + 1 = left l := by
  have hi : l.toList[i]'(by simpa using h) = false := by
    rw [Array.getD_eq_getD_getElem?] at hf
    have : l[i]? = some l[i] := by simp [h]
    rw [this] at hf
    simpa using hf
  have hsplit : l.toList = l.toList.take i ++ false :: l.toList.drop (i + 1) := by
    rw [← hi, ← List.drop_eq_getElem_cons, List.take_append_drop]
  have hset : (l.setIfInBounds i true).toList = l.toList.take i ++ true :: l.toList.drop (i + 1) := by
    rw [Array.toList_setIfInBounds, List.set_eq_take_append_cons_drop]
    simp [h]
  unfold left
  rw [hset]
  conv => rhs; rw [hsplit]
  simp only [List.countP_append, List.countP_cons]
  simp
  omega

theorem listed_all {l : Array Bool} (he : edgesBack ops.toList 0 = true) (hl : l.size = ops.size) (h : Region.ready .any ops l = []) : ∀ i, i < ops.size → Listed l i = true := by
  intro i
  induction i using Nat.strongRecOn with
  | _ i ih =>
    intro hi
    cases hli : Listed l i with
    | true => rfl
    | false =>
      exfalso
      have : i ∈ Region.ready .any ops l := by
        rw [mem_ready]
        refine ⟨?_, ops[i], by simp [hi], fun e he' hb => ?_⟩
        · unfold Listed at hli
          rw [Array.getD_eq_getD_getElem?] at hli ⊢
          have hx : l[i]? = some l[i] := by simp [hl, hi]
          rw [hx] at hli ⊢
          exact hli
        · have := edgesBack_spec ops.toList 0 he i ops[i] (by simp [hi]) e (by simpa using he') hb
          exact ih e.on (by omega) (by omega)
      rw [h] at this
      cases this
theorem listed_none {l : Array Bool} (hl : l.size = ops.size) (h : left l = 0) : ∀ i, i < ops.size → Listed l i = true := by
  intro i hi
  unfold left at h
  rw [List.countP_eq_zero] at h
  have := h l[i] (by simp)
  unfold Listed
  simp [hl, hi] at this ⊢
  exact this

theorem listed_set {l : Array Bool} {i : Nat} (h : i < l.size) : Listed (l.setIfInBounds i true) = Also (Listed l) i := by
  funext j
  unfold Listed Also
  by_cases hj : j = i
  · subst hj; simp [h]
  · simp only [hj, if_false]
    exact getD_set_ne false (Ne.symm hj)

/-- Every order comes to the same. -/
theorem draw_go (hc : Checks ops rs) (hrun : Run P ops f0.n rs f0 H0 f' H') : ∀ (fuel t : Nat) (l : Array Bool), l.size = ops.size → left l ≤ fuel → Down ops.toList (fun i => Listed l i = true) →
    ∀ (ρ : Nat → RB) (w : World) (b : Frame) (tmps : Array Value) (ds : List Deferred) (k : List Item) (cs : List Frame) (g : Fr), g.n = f0.n → g.fn = f0.fn → g.marks = f0.marks → g.round = f0.round →
      (∀ x, g.get x = VS ops.toList rs (Listed l) f0.get ops.size x) → Sat ρ (HS rs (Listed l) H0 ops.size) w → FRel ρ (HS rs (Listed l) H0 ops.size).n g b tmps ds →
      ∃ ρ' w' tmps', Moved ρ (HS rs (Listed l) H0 ops.size) w ρ' H' w' ∧ FRel ρ' H'.n f' b tmps' ds ∧
        Steps P (lone (frameAt b tmps ds (.inRegion ops (Region.linearise.go .any ops fuel t l []) :: k)) cs w) (lone (frameAt b tmps' ds k) cs w') := by
  have fin : ∀ (l : Array Bool), (∀ i, i < ops.size → Listed l i = true) →
    ∀ (ρ : Nat → RB) (w : World) (b : Frame) (tmps : Array Value) (ds : List Deferred) (k : List Item) (cs : List Frame) (g : Fr), g.n = f0.n → g.fn = f0.fn → g.marks = f0.marks → g.round = f0.round →
      (∀ x, g.get x = VS ops.toList rs (Listed l) f0.get ops.size x) → Sat ρ (HS rs (Listed l) H0 ops.size) w → FRel ρ (HS rs (Listed l) H0 ops.size).n g b tmps ds →
      ∃ ρ' w' tmps', Moved ρ (HS rs (Listed l) H0 ops.size) w ρ' H' w' ∧ FRel ρ' H'.n f' b tmps' ds ∧
        Steps P (lone (frameAt b tmps ds (.inRegion ops [] :: k)) cs w) (lone (frameAt b tmps' ds k) cs w') := by
    intro l hl ρ w b tmps ds k cs g hn hfn hm hr hget hs hf
    have hH : HS rs (Listed l) H0 ops.size = H' := by
      rw [hrun.heap]
      exact HS_congr _ _ _ fun j _ hj _ _ => hl j hj
    rw [hH] at hs hf ⊢
    refine ⟨ρ, w, tmps, Moved.refl hs, hf.congr (fun x => ?_) (hrun.n.trans hn.symm) (hrun.fn.trans hfn.symm) (hrun.marks.trans hm.symm) (hrun.round.trans hr.symm), .one st_regionEnd⟩
    rw [hrun.get, hget]
    exact VS_congr _ _ _ _ _ fun j _ hj _ _ => (hl j hj).symm
  have hedges : edgesBack ops.toList 0 = true := by
    have := hc.region
    simp only [regionOk, Bool.and_eq_true] at this
    exact this.1
  intro fuel
  induction fuel with
  | zero =>
    intro t l hl hle hS ρ w b tmps ds k cs g hn hfn hm hr hget hs hf
    exact fin l (listed_none hl (by omega)) ρ w b tmps ds k cs g hn hfn hm hr hget hs hf
  | succ fuel ih =>
    intro t l hl hle hS ρ w b tmps ds k cs g hn hfn hm hr hget hs hf
    simp only [Region.linearise.go]
    change ∃ ρ' w' tmps', _ ∧ _ ∧ Steps P (lone (frameAt b tmps ds (.inRegion ops (match (Region.ready .any ops l)[t % (Region.ready .any ops l).length]? with
      | some i => Region.linearise.go .any ops fuel (t / (Region.ready .any ops l).length) (l.setIfInBounds i true) [i]
      | none => [].reverse) :: k)) cs w) _
    cases hi : (Region.ready .any ops l)[t % (Region.ready .any ops l).length]? with
    | none =>
      have hnil : Region.ready .any ops l = [] := by
        cases hr : Region.ready .any ops l with
        | nil => rfl
        | cons x xs =>
          rw [hr] at hi
          have hlt : t % (x :: xs).length < (x :: xs).length := Nat.mod_lt _ (by simp)
          simp at hi
          simp at hlt
          omega
      exact fin l (listed_all hedges hl hnil) ρ w b tmps ds k cs g hn hfn hm hr hget hs hf
    | some i =>
      simp only
      rw [linearise_go_acc, List.reverse_singleton, List.singleton_append]
      obtain ⟨hi0, o, ho, hall⟩ := mem_ready.1 (List.mem_of_getElem? hi)
      have hin : i < ops.size := (Array.getElem?_eq_some_iff.1 ho).1
      have hSi : Listed l i = false := by
        unfold Listed
        rw [Array.getD_eq_getD_getElem?] at hi0 ⊢
        have hx : l[i]? = some l[i] := by simp [hl, hin]
        rw [hx] at hi0 ⊢
        exact hi0
      have hready : ∀ j, Ahead ops.toList j i → Listed l j = true := fun j hj =>
        ahead_ready (S := fun i => Listed l i = true) hS (by simpa using ho) (fun e he hb => hall e (by simpa using he) hb) hj
      obtain ⟨ρ1, w1, tmps1, g1, h1, h2, h3, h4, h5, h6, h7, h8⟩ := draw_step hc hrun hS ho hSi hready hn hget k cs (Region.linearise.go .any ops fuel (t / (Region.ready .any ops l).length) (l.setIfInBounds i true) []) hs hf
      have hset := listed_set (l := l) (i := i) (by omega)
      rw [← hset] at h5 h6 h7
      have hdown := down_also hS hready
      rw [← hset] at hdown
      obtain ⟨ρ2, w2, tmps2, h9, h10, h11⟩ := ih (t / (Region.ready .any ops l).length) (l.setIfInBounds i true) (by simp [hl]) (by have := left_set (l := l) (i := i) (by omega) hi0; omega) hdown ρ1 w1 b tmps1 ds k cs g1
        (h1.trans hn) (h2.trans hfn) (h3.trans hm) (h4.trans hr) h5 h6.sat h7
      exact ⟨ρ2, w2, tmps2, h6.trans h9, h10, h8.trans h11⟩
end

theorem Moved.ofDrawn {ρ ρ' : Nat → RB} {H H' : Heap} {w w' : World} {n : Nat} (h : Moved ρ H { w with drawn := n } ρ' H' w') : Moved ρ H w ρ' H' w' where
  os := h.os
  tape := h.tape
  output := h.output
  size := h.size
  block := h.block
  owned := h.owned
  sits := h.sits
  more := h.more
  ext := h.ext
  sat := h.sat

/-- A drawn region. -/
theorem draw_sound (hg : Good P) {call : CallF} (hcall : SoundCall P call) {id : Nat} {ops : Array Oper} {f : Fr} {H : Heap} {s : S} {f' : Fr} {H' : Heap} {dl : List Did} {s' : S}
    (h : evDraw P call ops.toList ops.toList f H s = .ok (f', H', dl) s') (hob : s'.ob) (hreg : regionOk ops.toList = true) (hdid : didsOk [] dl (aheadOf ops.toList) = true) :
    s.ob ∧ CT P (.region id ops true) f H .normal f' H' := by
  obtain ⟨hs0, rs, hrs, hrun⟩ := draw_run hg hcall h hob
  subst hrs
  refine ⟨hs0, fun ρ w b tmps ds k cs hs hf => ?_⟩
  have hnone : Listed (Array.replicate ops.size false) = fun _ => false := by
    funext j; unfold Listed; rw [Array.getD_eq_getD_getElem?, Array.getElem?_replicate]; split <;> rfl
  have hH : ∀ k, HS rs (Listed (Array.replicate ops.size false)) H k = H := by
    intro k
    have := HS_upto rs H (S := Listed (Array.replicate ops.size false)) (i := 0) k (by omega) (fun j r _ _ _ _ => by rw [hnone])
    rw [this]; rfl
  have hV : ∀ k x, VS ops.toList rs (Listed (Array.replicate ops.size false)) f.get k x = f.get x := by
    intro k x
    have := VS_upto ops.toList rs f.get x (S := Listed (Array.replicate ops.size false)) (i := 0) k (by omega) (fun j r _ _ _ _ => by rw [hnone])
    rw [this]; rfl
  obtain ⟨ρ', w', tmps', h1, h2, h3⟩ := draw_go ⟨hreg, hdid⟩ hrun ops.size (w.tape w.drawn (.order b.fn id)) (Array.replicate ops.size false) (by simp) (by have := List.countP_le_length (p := (! ·)) (l := (Array.replicate ops.size false).toList); simpa [left] using this)
    (fun i hi => by rw [hnone] at hi; cases hi) ρ { w with drawn := w.drawn + 1 } b tmps ds k cs f rfl rfl rfl rfl (fun x => by rw [hV]) (by rw [hH]; exact hs.drawn rfl) (by rw [hH]; exact hf)
  rw [hH] at h1
  exact ⟨ρ', w', tmps', ds, h1.ofDrawn, h2, trivial, .head (st_draw hg.mixed) h3⟩
end Go.Proofs.Ytmnpnomllcghmaa.Ev
