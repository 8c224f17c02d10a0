/- Regions whose order is drawn: the law of the order. -/
import Derived.Test.YtmnpnomllcghmaaDrw
namespace Go.Proofs.Ytmnpnomllcghmaa.Ev
open Go

variable {P : Program}

/-! which operations are ahead of each -/
theorem bitsOf_spec (acc : List Nat) (Q : Nat → Prop) : ∀ (es : List Edge) (b : Nat), (∀ e, e ∈ es → Region.binds .any e = true → Q e.on ∧ ∀ j, (acc.getD e.on 0).testBit j = true → Q j) → (∀ j, b.testBit j = true → Q j) →
    ∀ j, (bitsOf acc es b).testBit j = true → Q j
  | [], b, _, hb, j, h => hb j h
  | e :: es, b, hes, hb, j, h => by
    refine bitsOf_spec acc Q es _ (fun e' h' => hes e' (by simp [h'])) ?_ j h
    intro j' hj'
    cases hbd : Region.binds .any e with
    | false => rw [hbd] at hj'; exact hb j' hj'
    | true =>
      rw [hbd] at hj'
      obtain ⟨h1, h2⟩ := hes e (by simp) hbd
      simp only [bc_true, Nat.testBit_or, Bool.or_eq_true] at hj'
      rcases hj' with (hj' | hj') | hj'
      · exact hb j' hj'
      · rw [Nat.testBit_two_pow] at hj'
        have : e.on = j' := by simpa using hj'
        rw [← this]; exact h1
      · exact h2 j' hj'

theorem aheadFrom_spec : ∀ (os : List Oper) (acc : List Nat), ∃ l2, aheadFrom os acc = acc ++ l2 ∧ l2.length = os.length ∧
    ∀ k o, os[k]? = some o → (acc ++ l2)[acc.length + k]? = some (bitsOf ((acc ++ l2).take (acc.length + k)) o.after.toList 0)
  | [], acc => ⟨[], by simp [aheadFrom], rfl, fun k o h => by simp at h⟩
  | o :: os, acc => by
    obtain ⟨l2, he, hl, hs⟩ := aheadFrom_spec os (acc ++ [bitsOf acc o.after.toList 0])
    refine ⟨bitsOf acc o.after.toList 0 :: l2, ?_, by simp [hl], ?_⟩
    · rw [aheadFrom, app_eq, he]; simp
    · intro k o' h
      cases k with
      | zero =>
        simp only [List.getElem?_cons_zero, Option.some.injEq] at h
        subst h
        simp
      | succ k =>
        simp only [List.getElem?_cons_succ] at h
        have := hs k o' h
        simp only [List.append_assoc, List.cons_append, List.nil_append, List.length_append, List.length_cons, List.length_nil] at this
        rw [show acc.length + (k + 1) = acc.length + (0 + 1) + k by omega]
        exact this

theorem aheadOf_spec (os : List Oper) : (aheadOf os).length = os.length ∧ ∀ k o, os[k]? = some o → (aheadOf os)[k]? = some (bitsOf ((aheadOf os).take k) o.after.toList 0) := by
  obtain ⟨l2, he, hl, hs⟩ := aheadFrom_spec os []
  have : aheadOf os = l2 := by rw [aheadOf, he]; simp
  rw [this]
  refine ⟨hl, fun k o h => ?_⟩
  have := hs k o h
  simpa using this

/-- Is an operation ahead of another? -/
def Ahead (os : List Oper) (j i : Nat) : Prop := ∃ m, (aheadOf os)[i]? = some m ∧ m.testBit j = true
/-- All that is ahead of one of these is one of these. -/
def Down (os : List Oper) (S : Nat → Prop) : Prop := ∀ i, S i → ∀ j, Ahead os j i → S j

theorem ahead_ready {os : List Oper} {S : Nat → Prop} (hS : Down os S) {i : Nat} {o : Oper} (ho : os[i]? = some o) (hr : ∀ e, e ∈ o.after.toList → Region.binds .any e = true → S e.on) {j : Nat} (h : Ahead os j i) : S j := by
  obtain ⟨m, hm, hj⟩ := h
  rw [(aheadOf_spec os).2 i o ho] at hm
  injection hm with hm
  subst hm
  refine bitsOf_spec _ S _ 0 ?_ (by simp) j hj
  intro e he hb
  refine ⟨hr e he hb, fun j' hj' => ?_⟩
  have hSe := hr e he hb
  refine hS _ hSe j' ?_
  rw [List.getD_eq_getElem?_getD, List.getElem?_take] at hj'
  split at hj'
  · cases hg : (aheadOf os)[e.on]? with
    | none => rw [hg] at hj'; simp at hj'
    | some m' => rw [hg] at hj'; exact ⟨m', hg, by simpa using hj'⟩
  · simp at hj'

/-! what the checks say -/
theorem edgesBack_spec : ∀ (os : List Oper) (i : Nat), edgesBack os i = true → ∀ k o, os[k]? = some o → ∀ e, e ∈ o.after.toList → Region.binds .any e = true → e.on < i + k
  | [], _, _, k, o, ho => by simp at ho
  | o' :: os, i, h, k, o, ho => by
    simp only [edgesBack, Bool.and_eq_true, List.all_eq_true] at h
    cases k with
    | zero =>
      simp only [List.getElem?_cons_zero, Option.some.injEq] at ho
      subst ho
      intro e he hb
      have := h.1 e he
      rw [hb] at this
      simp only [Bool.not_true, Bool.false_or] at this
      exact bltN.1 this
    | succ k =>
      simp only [List.getElem?_cons_succ] at ho
      intro e he hb
      have := edgesBack_spec os (i + 1) h.2 k o ho e he hb
      omega

theorem tiedOk_spec (ops : List Oper) (y : Oper) (m : Nat) : ∀ (l : List Oper) (i : Nat), tiedOk ops y m l i = true → ∀ k x, l[k]? = some x → tied ops x y = true → m.testBit (i + k) = true
  | [], _, _, k, x, hx => by simp at hx
  | x' :: l, i, h, k, x, hx => by
    simp only [tiedOk, Bool.and_eq_true, Bool.or_eq_true, Bool.not_eq_true'] at h
    intro ht
    cases k with
    | zero =>
      simp only [List.getElem?_cons_zero, Option.some.injEq] at hx
      subst hx
      rcases h.1 with h | h
      · rw [ht] at h; cases h
      · exact h
    | succ k =>
      simp only [List.getElem?_cons_succ] at hx
      have := tiedOk_spec ops y m l (i + 1) h.2 k x hx ht
      rwa [show i + (k + 1) = i + 1 + k by omega]
theorem tmpsOk_spec (ops : List Oper) : ∀ (ys : List Oper) (ms : List Nat) (done : List Oper), tmpsOk ops done ys ms = true → ∀ k y, ys[k]? = some y → ∃ m, ms[k]? = some m ∧ tiedOk ops y m (done ++ ys.take k) 0 = true
  | [], _, _, _, k, y, hy => by simp at hy
  | y' :: ys, [], _, h, _, _, _ => by simp [tmpsOk] at h
  | y' :: ys, m :: ms, done, h, k, y, hy => by
    simp only [tmpsOk, Bool.and_eq_true] at h
    cases k with
    | zero =>
      simp only [List.getElem?_cons_zero, Option.some.injEq] at hy
      subst hy
      exact ⟨m, rfl, by simpa using h.1⟩
    | succ k =>
      simp only [List.getElem?_cons_succ] at hy ⊢
      rw [app_eq] at h
      obtain ⟨m', h1, h2⟩ := tmpsOk_spec ops ys ms _ h.2 k y hy
      exact ⟨m', h1, by simpa using h2⟩

theorem didOk_spec (y : Did) (m : Nat) : ∀ (l : List Did) (i : Nat), didOk y m l i = true → ∀ k x, l[k]? = some x → m.testBit (i + k) = true ∨ crossOk x y = true
  | [], _, _, k, x, hx => by simp at hx
  | x' :: l, i, h, k, x, hx => by
    simp only [didOk, Bool.and_eq_true, Bool.or_eq_true] at h
    cases k with
    | zero =>
      simp only [List.getElem?_cons_zero, Option.some.injEq] at hx
      subst hx
      exact h.1
    | succ k =>
      simp only [List.getElem?_cons_succ] at hx
      have := didOk_spec y m l (i + 1) h.2 k x hx
      rwa [show i + (k + 1) = i + 1 + k by omega]
theorem didsOk_spec : ∀ (ys : List Did) (ms : List Nat) (done : List Did), didsOk done ys ms = true → ∀ k y, ys[k]? = some y → ∃ m, ms[k]? = some m ∧ didOk y m (done ++ ys.take k) 0 = true
  | [], _, _, _, k, y, hy => by simp at hy
  | y' :: ys, [], _, h, _, _, _ => by simp [didsOk] at h
  | y' :: ys, m :: ms, done, h, k, y, hy => by
    simp only [didsOk, Bool.and_eq_true] at h
    cases k with
    | zero =>
      simp only [List.getElem?_cons_zero, Option.some.injEq] at hy
      subst hy
      exact ⟨m, rfl, by simpa using h.1⟩
    | succ k =>
      simp only [List.getElem?_cons_succ] at hy ⊢
      rw [app_eq] at h
      obtain ⟨m', h1, h2⟩ := didsOk_spec ys ms _ h.2 k y hy
      exact ⟨m', h1, by simpa using h2⟩

theorem hasN_iff : ∀ (l : List Nat) (t : Nat), hasN l t = true ↔ t ∈ l
  | [], t => by simp [hasN]
  | x :: l, t => by
    have ih := hasN_iff l t
    simp only [hasN, List.mem_cons]
    cases h : Nat.beq x t with
    | true => have := beqN h; subst this; simp
    | false =>
      have := beqN_false h
      simp only [bc_false, ih]
      constructor
      · exact .inr
      · rintro (h | h)
        · exact absurd h.symm this
        · exact h

/-- Two operations (the first one ahead) that are not ahead of each other. -/
theorem tied_ahead {os : List Oper} (h : regionOk os = true) {i j : Nat} {x y : Oper} (hx : os[i]? = some x) (hy : os[j]? = some y) (hij : i < j) (ht : tied os x y = true) : Ahead os i j := by
  simp only [regionOk, Bool.and_eq_true] at h
  obtain ⟨m, hm, hk⟩ := tmpsOk_spec os os _ [] h.2 j y hy
  refine ⟨m, hm, ?_⟩
  have := tiedOk_spec os y m _ 0 hk i x (by simp [hij, hx]) ht
  simpa using this
theorem did_ahead {os : List Oper} {ds : List Did} (h : didsOk [] ds (aheadOf os) = true) {i j : Nat} {x y : Did} (hx : ds[i]? = some x) (hy : ds[j]? = some y) (hij : i < j) : Ahead os i j ∨ crossOk x y = true := by
  obtain ⟨m, hm, hk⟩ := didsOk_spec ds _ [] h j y hy
  rcases didOk_spec y m _ 0 hk i x (by simp [hij, hx]) with h | h
  · exact .inl ⟨m, hm, by simpa using h⟩
  · exact .inr h

/-! the text's run, by number -/
structure Run (P : Program) (ops : Array Oper) (n : Nat) (rs : List Rec) (f0 : Fr) (H0 : Heap) (f' : Fr) (H' : Heap) : Prop where
  at_ : ∀ i o, ops[i]? = some o → ∃ r, rs[i]? = some r ∧ (∀ x, r.f.get x = VS ops.toList rs (fun _ => true) f0.get i x) ∧ r.d.a = HS rs (fun _ => true) H0 i ∧ r.d.b = HS rs (fun _ => true) H0 (i + 1) ∧ Step1 P ops o r n
  get : ∀ x, f'.get x = VS ops.toList rs (fun _ => true) f0.get ops.size x
  heap : H' = HS rs (fun _ => true) H0 ops.size
  n : f'.n = f0.n
  fn : f'.fn = f0.fn
  marks : f'.marks = f0.marks
  round : f'.round = f0.round

theorem step1_b {ops : Array Oper} {o : Oper} {r : Rec} {n : Nat} (h : Step1 P ops o r n) (hk : r.d.k ≠ .change) : r.d.b = r.d.a := by
  cases ht : r.t with
  | false => exact (h.skip ht).2.2
  | true =>
    have := h.does ht
    unfold Does at this
    split at this
    · rename_i e; exact absurd e hk
    · exact this.1

theorem run_of_facts {ops : Array Oper} {n : Nat} {rs0 : List Rec} {f0 : Fr} {H0 : Heap} {f' : Fr} {H' : Heap} : ∀ (l : List Oper) (i : Nat) (rs : List Rec) (f : Fr) (H : Heap), ops.toList.drop i = l → rs0.drop i = rs →
    i + l.length = ops.size →
    (∀ x, f.get x = VS ops.toList rs0 (fun _ => true) f0.get i x) → H = HS rs0 (fun _ => true) H0 i → f.n = f0.n → f.fn = f0.fn → f.marks = f0.marks → f.round = f0.round → Facts P ops n l rs f H f' H' →
    (∀ j o, i ≤ j → ops[j]? = some o → ∃ r, rs0[j]? = some r ∧ (∀ x, r.f.get x = VS ops.toList rs0 (fun _ => true) f0.get j x) ∧ r.d.a = HS rs0 (fun _ => true) H0 j ∧ r.d.b = HS rs0 (fun _ => true) H0 (j + 1) ∧ Step1 P ops o r n) ∧
    (∀ x, f'.get x = VS ops.toList rs0 (fun _ => true) f0.get ops.size x) ∧ H' = HS rs0 (fun _ => true) H0 ops.size ∧ f'.n = f0.n ∧ f'.fn = f0.fn ∧ f'.marks = f0.marks ∧ f'.round = f0.round
  | [], i, rs, f, H, hd, hr, hl, hg, hH, hn, hfn, hm, hrd, hfacts => by
    cases rs with
    | cons _ _ => exact hfacts.elim
    | nil =>
      obtain ⟨h1, h2, h3, h4, h5, h6⟩ := hfacts
      have hi : i = ops.size := by simpa using hl
      refine ⟨?_, ?_, ?_, ?_, ?_, ?_, ?_⟩
      · intro j o hj ho
        have := (Array.getElem?_eq_some_iff.1 ho).1
        omega
      · intro x; rw [h1, hg, hi]
      · rw [h6, hH, hi]
      · rw [h2, hn]
      · rw [h3, hfn]
      · rw [h4, hm]
      · rw [h5, hrd]
  | o :: l, i, rs, f, H, hd, hr, hl, hg, hH, hn, hfn, hm, hrd, hfacts => by
    cases rs with
    | nil => exact hfacts.elim
    | cons r rs =>
      obtain ⟨h1, h2, h3, h4, h5, h6, h7, f1, hput, hnext⟩ := hfacts
      have ho : ops.toList[i]? = some o := by
        have : (ops.toList.drop i)[0]? = some o := by rw [hd]; rfl
        rw [List.getElem?_drop] at this
        simpa using this
      have hri : rs0[i]? = some r := by
        have : (rs0.drop i)[0]? = some r := by rw [hr]; rfl
        rw [List.getElem?_drop] at this
        simpa using this
      have hp := put_n hput
      have hb : r.d.b = HS rs0 (fun _ => true) H0 (i + 1) := by
        simp only [HS, hri, if_true]
        split
        · rfl
        · rename_i hk
          rw [step1_b h7 hk, h6, hH]
      have hrest := run_of_facts l (i + 1) rs f1 r.d.b (by rw [← List.tail_drop, hd]; rfl) (by rw [← List.tail_drop, hr]; rfl) (by simp at hl; omega) (fun x => by
        rw [hp.2.2.2.2.1 x]
        simp only [VS, ho, hri, true_and]
        split
        · rfl
        · rw [h1, hg]) hb (by rw [hp.1, h2, hn]) (by rw [hp.2.1, h3, hfn]) (by rw [hp.2.2.1, h4, hm]) (by rw [hp.2.2.2.1, h5, hrd]) hnext
      refine ⟨?_, hrest.2⟩
      intro j o' hj ho'
      by_cases hij : j = i
      · subst hij
        have : o' = o := by
          rw [← Array.getElem?_toList] at ho'
          rw [ho'] at ho
          injection ho
        subst this
        exact ⟨r, hri, fun x => by rw [h1, hg], by rw [h6, hH], hb, h7⟩
      · exact hrest.1 j o' (by omega) ho'

theorem draw_run (hg : Good P) {call : CallF} (hcall : SoundCall P call) {ops : Array Oper} {f : Fr} {H : Heap} {s : S} {f' : Fr} {H' : Heap} {dl : List Did} {s' : S}
    (h : evDraw P call ops.toList ops.toList f H s = .ok (f', H', dl) s') (hob : s'.ob) : s.ob ∧ ∃ rs, rs.map Rec.d = dl ∧ Run P ops f.n rs f H f' H' := by
  obtain ⟨h1, rs, h2, h3⟩ := draw_facts hg hcall ops f.n ops.toList f H s f' H' dl s' rfl h hob
  refine ⟨h1, rs, h2, ?_⟩
  have := run_of_facts (P := P) (rs0 := rs) (f0 := f) (H0 := H) ops.toList 0 rs f H rfl rfl (by simp) (fun _ => rfl) rfl rfl rfl rfl rfl h3
  exact ⟨fun i o ho => this.1 i o (Nat.zero_le _) ho, this.2.1, this.2.2.1, this.2.2.2.1, this.2.2.2.2.1, this.2.2.2.2.2.1, this.2.2.2.2.2.2⟩
end Go.Proofs.Ytmnpnomllcghmaa.Ev
