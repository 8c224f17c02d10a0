/- Regions whose order is drawn: each order comes to what the text's order comes to. -/
import Derived.Test.YtmnpnomllcghmaaReg
namespace Go.Proofs.Ytmnpnomllcghmaa.Ev
open Go

variable {P : Program}

/-- What is known of one operation of the text's run. -/
structure Rec where
  f : Fr
  t : Bool
  v : LV
  d : Did

/-- The guard of an operation, in every frame that is alike where it looks. -/
def Wants (ops : Array Oper) (o : Oper) (f : Fr) (t : Bool) : Prop :=
  ∀ (n : Nat) (ρ : Nat → RB) (b : Frame) (tmps : Array Value) (ds : List Deferred) (g : Fr), (∀ j want d, o.guard = some (j, want) → (ops[j]?).bind (·.dst) = some d → g.get d = f.get d) → FRel ρ n g b tmps ds →
    Region.wanted o (yielded ops tmps) = t

theorem wants_of {ops : Array Oper} {o : Oper} {f f1 : Fr} {s s1 : S} {t : Bool} (h : wanted ops.toList o f s = .ok (t, f1) s1) (hob : s1.ob) : s.ob ∧ Wants ops o f t ∧ (∀ x, f1.get x = f.get x) ∧ f1.n = f.n ∧ f1.fn = f.fn ∧ f1.marks = f.marks ∧ f1.round = f.round := by
  refine ⟨(wanted_sound h hob).1, ?_, ?_⟩
  · intro n ρ b tmps ds g hg hf
    have : ∃ g1, wanted ops.toList o g s = .ok (t, g1) s1 := by
      unfold wanted at h ⊢
      cases hgd : o.guard with
      | none => simp only [hgd] at h ⊢; injection h with h1 h2; injection h1 with h1 _; subst h1; subst h2; exact ⟨g, rfl⟩
      | some p =>
        obtain ⟨j, want⟩ := p
        simp only [hgd] at h ⊢
        rw [dstOf_eq] at h ⊢
        cases hd : (ops.toList[j]?).bind (·.dst) with
        | none => rw [hd] at h; cases h
        | some d =>
          rw [hd] at h
          simp only at h ⊢
          rw [hg j want d hgd (by rw [← hd]; simp)]
          unfold wantB at h ⊢
          split at h
          · rename_i bb hget
            obtain ⟨c, s2, hdb, h⟩ := bnd_ok h
            injection h with h1 h2; injection h1 with h1 _; subst h1; subst h2
            rw [hdb]
            exact ⟨_, rfl⟩
          · injection h with h1 h2; injection h1 with h1 _; subst h1; subst h2; exact ⟨g, rfl⟩
          · cases h
    obtain ⟨g1, hg1⟩ := this
    exact ((wanted_sound hg1 hob).2 hf).1
  · unfold wanted at h
    cases hgd : o.guard with
    | none => simp only [hgd] at h; injection h with h1 h2; injection h1 with _ h1; subst h1; exact ⟨fun _ => rfl, rfl, rfl, rfl, rfl⟩
    | some p =>
      obtain ⟨j, want⟩ := p
      simp only [hgd] at h
      cases hd : dstOf ops.toList j with
      | none => rw [hd] at h; cases h
      | some d =>
        rw [hd] at h
        simp only at h
        unfold wantB at h
        split at h
        · rename_i bb hget
          obtain ⟨c, s2, hdb, h⟩ := bnd_ok h
          injection h with h1 h2; injection h1 with _ h1; subst h1; subst h2
          obtain ⟨hbc, _⟩ := decideB_sound hdb hob
          subst hbc
          refine ⟨fun x => ?_, rfl, rfl, rfl, rfl⟩
          rw [Fr.get_set]
          split
          · rename_i e; subst e; exact hget.symm
          · rfl
        · injection h with h1 h2; injection h1 with _ h1; subst h1; exact ⟨fun _ => rfl, rfl, rfl, rfl, rfl⟩
        · cases h

/-- What an operation does, in every frame in which its operands are these: it changes the heap, or it answers so in every heap that is alike where it looks. -/
def Does (P : Program) (o : Oper) (xs : List LV) (v : LV) (d : Did) : Prop :=
  match d.k with
  | .change => d.a.Le d.b ∧ ∀ f, f.evs (opds o.op) = xs → OpDoes P o f d.a (.val v .change) d.b
  | k => d.b = d.a ∧ ∀ f H2, f.evs (opds o.op) = xs → (∀ i, k = .load i → H2.get i = d.a.get i) → OpDoes P o f H2 (.val v k) H2

theorem does_of (hg : Good P) {call : CallF} (hcall : SoundCall P call) {o : Oper} {f : Fr} {H : Heap} {s s' : S} {v : LV} {k : Kd} {H' : Heap} (h : doOp P call o.op (f.evs (opds o.op)) H s = .ok (.val v k, H') s') (hob : s'.ob) :
    s.ob ∧ Does P o (f.evs (opds o.op)) v ⟨k, H, H'⟩ := by
  have hs := doOp_sound' hg hcall h hob
  refine ⟨hs.1, ?_⟩
  have all : ∀ g : Fr, g.evs (opds o.op) = f.evs (opds o.op) → OpDoes P o g H (.val v k) H' := fun g hgg => by
    have h' := h
    rw [← hgg] at h'
    exact (doOp_sound' hg hcall h' hob).2.2
  by_cases hk : k = .change
  · subst hk
    exact ⟨hs.2.1, all⟩
  · -- a value alone: the evaluator's own operation said so
    have hlop : lop P o.op (f.evs (opds o.op)) H = some ⟨v, H', k⟩ := by
      unfold doOp at h
      split at h
      · cases hc : isCall o.op with
        | true =>
          rw [hc] at h
          simp only [bc_true] at h
          unfold doCall at h
          split at h
          · obtain ⟨e, s2, _, h⟩ := bnd_ok h
            injection h with h1 h2; injection h1 with h1 _
            obtain ⟨e1, e2⟩ := e
            cases e1 <;> simp only [endOf] at h1 <;> first
              | (injection h1 with _ h1; exact absurd h1.symm hk)
              | cases h1
          · cases h
        | false =>
          rw [hc] at h
          simp only [bc_false] at h
          unfold doLop at h
          split at h
          · rename_i r hr
            injection h with h1 h2; injection h1 with h1 h3; injection h1 with h1 h4
            rw [hr, ← h1, ← h3, ← h4]
          · cases h
      · cases hc : isCall o.op with
        | true => rw [hc] at h; cases h
        | false =>
          rw [hc] at h
          simp only [bc_false] at h
          injection h with h1 h2; injection h1 with h1 h3; injection h1 with h1 h4; subst h1; subst h3; subst h4; subst h2
          exact hob.1
      · rename_i e us ns ds hp
        cases hc : isCall o.op with
        | false => rw [hc] at h; cases h
        | true =>
          rw [hc] at h
          simp only [bc_true] at h
          split at h
          · rcases bcR h with ⟨_, h⟩ | ⟨_, h⟩
            · injection h with h1 h2; injection h1 with h1 _
              cases e <;> simp only [endOf] at h1 <;> first
                | (injection h1 with _ h1; exact absurd h1.symm hk)
                | cases h1
            · cases h
          · cases h
      · rename_i C l ds hp
        cases hc : isCall o.op with
        | false => rw [hc] at h; cases h
        | true =>
          rw [hc] at h
          simp only [bc_true] at h
          split at h
          · rcases bcR h with ⟨_, h⟩ | ⟨_, h⟩
            · injection h with h1 h2; injection h1 with h1 _
              revert h1
              generalize mapEnd (C.map l H.n) C.e = e0
              intro h1
              cases e0 <;> simp only [endOf] at h1 <;> first
                | (injection h1 with _ h1; exact absurd h1.symm hk)
                | cases h1
            · cases h
          · cases h
      · rename_i e ds hp
        cases hc : isCall o.op with
        | false => rw [hc] at h; cases h
        | true =>
          rw [hc] at h
          simp only [bc_true] at h
          split at h
          · rcases bcR h with ⟨_, h⟩ | ⟨_, h⟩
            · injection h with h1 h2; injection h1 with h1 _
              revert h1
              generalize e = e0
              intro h1
              cases e0 <;> simp only [endOf] at h1 <;> first
                | (injection h1 with _ h1; exact absurd h1.symm hk)
                | cases h1
            · cases h
          · cases h
      · rename_i v' ds hp
        rcases bcR h with ⟨hc, h⟩ | ⟨hc, h⟩
        · cases h
        · injection h with h1 h2; injection h1 with h1 h3; injection h1 with h1 h4; subst h1; subst h3; subst h4; subst h2
          exact hob.1 H
      · rename_i v' i ds hp
        rcases bcR h with ⟨hc, h⟩ | ⟨hc, h⟩
        · cases h
        · injection h with h1 h2; injection h1 with h1 h3; injection h1 with h1 h4; subst h1; subst h3; subst h4; subst h2
          exact hob.1 H rfl
      · rename_i v' i oo ds hp
        rcases bcR h with ⟨hc, h⟩ | ⟨hc, h⟩
        · cases h
        · injection h with h1 h2; injection h1 with h1 h3; injection h1 with h1 h4; subst h1; subst h3; subst h4; subst h2
          exact absurd rfl hk
      · cases h
      · cases h
    obtain ⟨he, hind⟩ := lop_indep hlop hk
    have fin : H' = H ∧ ∀ g H2, g.evs (opds o.op) = f.evs (opds o.op) → (∀ i, k = .load i → H2.get i = H.get i) → OpDoes P o g H2 (.val v k) H2 := by
      refine ⟨he, fun g H2 hgg ha => ?_⟩
      have := hind H2 ha
      rw [← hgg] at this
      exact opDoes_lop this
    unfold Does
    cases k <;> first
      | exact absurd rfl hk
      | exact fin

/-- One operation of the text's run. -/
structure Step1 (P : Program) (ops : Array Oper) (o : Oper) (r : Rec) (n : Nat) : Prop where
  want : Wants ops o r.f r.t
  skip : r.t = false → r.v = undefL ∧ r.d.k = .pure ∧ r.d.b = r.d.a
  does : r.t = true → Does P o (r.f.evs (opds o.op)) r.v r.d
  dst : ∀ i, o.dst = some i → i < n

/-- The text's run. -/
def Facts (P : Program) (ops : Array Oper) (n : Nat) : List Oper → List Rec → Fr → Heap → Fr → Heap → Prop
  | [], [], f, H, f', H' => (∀ x, f'.get x = f.get x) ∧ f'.n = f.n ∧ f'.fn = f.fn ∧ f'.marks = f.marks ∧ f'.round = f.round ∧ H' = H
  | o :: os, r :: rs, f, H, f', H' => (∀ x, r.f.get x = f.get x) ∧ r.f.n = f.n ∧ r.f.fn = f.fn ∧ r.f.marks = f.marks ∧ r.f.round = f.round ∧ r.d.a = H ∧ Step1 P ops o r n ∧
      ∃ f1, r.f.put o.dst r.v = some f1 ∧ Facts P ops n os rs f1 r.d.b f' H'
  | _, _, _, _, _, _ => False

theorem put_n {f f1 : Fr} {d : Option Tmp} {v : LV} (h : f.put d v = some f1) : f1.n = f.n ∧ f1.fn = f.fn ∧ f1.marks = f.marks ∧ f1.round = f.round ∧ (∀ x, f1.get x = if d = some x then v else f.get x) ∧ ∀ i, d = some i → i < f.n := by
  unfold Fr.put at h
  cases d with
  | none => injection h with h; subst h; exact ⟨rfl, rfl, rfl, rfl, fun x => by simp, fun i hi => by cases hi⟩
  | some i =>
    simp only at h
    replace h := cond_some h; obtain ⟨hi, h⟩ := h
    injection h with h; subst h
    refine ⟨rfl, rfl, rfl, rfl, fun x => ?_, fun j hj => by injection hj with hj; subst hj; exact bltN.1 hi⟩
    rw [Fr.get_set]
    simp only [Option.some.injEq]
theorem ev_get {f g : Fr} (h : ∀ x, f.get x = g.get x) (l : List Operand) : f.evs l = g.evs l := by
  rw [evs_eq, evs_eq]
  apply List.map_congr_left
  intro x _
  cases x <;> first | exact h _ | rfl

theorem draw_facts (hg : Good P) {call : CallF} (hcall : SoundCall P call) (ops : Array Oper) (n : Nat) : ∀ (l : List Oper) (f : Fr) (H : Heap) (s : S) (f' : Fr) (H' : Heap) (dl : List Did) (s' : S), f.n = n →
    evDraw P call ops.toList l f H s = .ok (f', H', dl) s' → s'.ob → s.ob ∧ ∃ rs, rs.map Rec.d = dl ∧ Facts P ops n l rs f H f' H'
  | [], f, H, s, f', H', dl, s', hn, h, hob => by
    injection h with h1 h2; injection h1 with h1 h3; injection h3 with h3 h4; subst h1; subst h2; subst h3; subst h4
    exact ⟨hob, [], rfl, fun _ => rfl, rfl, rfl, rfl, rfl, rfl⟩
  | o :: l, f, H, s, f', H', dl, s', hn, h, hob => by
    change (wanted ops.toList o f s).bnd _ = _ at h
    obtain ⟨⟨t, f1⟩, s1, hw, h⟩ := bnd_ok h
    simp only at h
    rcases bcR h with ⟨ht, h⟩ | ⟨ht, h⟩
    · obtain ⟨⟨e, H1⟩, s2, hop, h⟩ := bnd_ok h
      simp only at h
      cases e with
      | pan v => cases h
      | val v kd =>
        simp only [behindD] at h
        obtain ⟨f2, hput, h⟩ := putK_ok h
        obtain ⟨⟨f3, H3, dl3⟩, s3, hnext, h⟩ := bnd_ok h
        simp only at h
        injection h with h1 h2; injection h1 with h1 h3; injection h3 with h3 h4; subst h1; subst h2; subst h3; subst h4
        have hp := put_n hput
        have hs2 : s2.ob := by
          have := draw_facts hg hcall ops f2.n l f2 H1 s2 f3 H3 dl3 s3 rfl hnext hob
          exact this.1
        obtain ⟨hs1, hdoes⟩ := does_of hg hcall hop hs2
        obtain ⟨hs0, hwant, hget, hn1, hfn1, hm1, hr1⟩ := wants_of hw hs1
        obtain ⟨_, rs, hrs, hfacts⟩ := draw_facts hg hcall ops n l f2 H1 s2 f3 H3 dl3 s3 (by rw [hp.1, hn1, hn]) hnext hob
        refine ⟨hs0, ⟨f1, t, v, ⟨kd, H, H1⟩⟩ :: rs, by simp [hrs], hget, hn1, hfn1, hm1, hr1, rfl, ⟨?_, ?_, fun _ => hdoes, ?_⟩, f2, hput, hfacts⟩
        · intro n' ρ b tmps ds g hgg hf
          exact hwant n' ρ b tmps ds g (fun j want d h1 h2 => (hgg j want d h1 h2).trans (hget d)) hf
        · intro hf; rw [ht] at hf; cases hf
        · intro i hi; exact Nat.lt_of_lt_of_eq (hp.2.2.2.2.2 i hi) (hn1.trans hn)
    · obtain ⟨f2, hput, h⟩ := putK_ok h
      obtain ⟨⟨f3, H3, dl3⟩, s3, hnext, h⟩ := bnd_ok h
      simp only at h
      injection h with h1 h2; injection h1 with h1 h3; injection h3 with h3 h4; subst h1; subst h2; subst h3; subst h4
      have hp := put_n hput
      have hs1 : s1.ob := (draw_facts hg hcall ops f2.n l f2 H s1 f3 H3 dl3 s3 rfl hnext hob).1
      obtain ⟨hs0, hwant, hget, hn1, hfn1, hm1, hr1⟩ := wants_of hw hs1
      obtain ⟨_, rs, hrs, hfacts⟩ := draw_facts hg hcall ops n l f2 H s1 f3 H3 dl3 s3 (by rw [hp.1, hn1, hn]) hnext hob
      refine ⟨hs0, ⟨f1, t, undefL, ⟨.pure, H, H⟩⟩ :: rs, by simp [hrs], hget, hn1, hfn1, hm1, hr1, rfl, ⟨?_, ?_, ?_, ?_⟩, f2, hput, hfacts⟩
      · intro n' ρ b tmps ds g hgg hf
        exact hwant n' ρ b tmps ds g (fun j want d h1 h2 => (hgg j want d h1 h2).trans (hget d)) hf
      · intro _; exact ⟨rfl, rfl, rfl⟩
      · intro hf; rw [ht] at hf; cases hf
      · intro i hi; exact Nat.lt_of_lt_of_eq (hp.2.2.2.2.2 i hi) (hn1.trans hn)

/-- The temporaries behind some of the operations: each one's value is the last one's that wrote it. -/
def VS (os : List Oper) (rs : List Rec) (S : Nat → Bool) (f0 : Nat → LV) : Nat → Nat → LV
  | 0, t => f0 t
  | k + 1, t => match os[k]?, rs[k]? with
    | some o, some r => if S k = true ∧ o.dst = some t then r.v else VS os rs S f0 k t
    | _, _ => VS os rs S f0 k t
/-- The heap behind some of them. -/
def HS (rs : List Rec) (S : Nat → Bool) (H0 : Heap) : Nat → Heap
  | 0 => H0
  | k + 1 => match rs[k]? with
    | some r => match r.d.k with
      | .change => if S k = true then r.d.b else HS rs S H0 k
      | _ => HS rs S H0 k
    | none => HS rs S H0 k

end Go.Proofs.Ytmnpnomllcghmaa.Ev
