/- What the evaluator of code says, the machine does: code. -/
import Derived.Test.YtmnpnomllcghmaaDrw3
namespace Go.Proofs.Ytmnpnomllcghmaa.Ev
open Go

variable {P : Program}

theorem step1_le' {ops : Array Oper} {n : Nat} {o : Oper} {r : Rec} (h : Step1 P ops o r n) : r.d.a.Le r.d.b := by
  by_cases hk : r.d.k = .change
  · exact step1_le h hk
  · rw [step1_b h hk]; exact Heap.Le.refl _
theorem facts_le {ops : Array Oper} {n : Nat} : ∀ (l : List Oper) (rs : List Rec) (f : Fr) (H : Heap) (f' : Fr) (H' : Heap), Facts P ops n l rs f H f' H' → H.Le H'
  | [], [], _, _, _, _, h => by obtain ⟨_, _, _, _, _, rfl⟩ := h; exact Heap.Le.refl _
  | [], _ :: _, _, _, _, _, h => h.elim
  | _ :: _, [], _, _, _, _, h => h.elim
  | o :: l, r :: rs, f, H, f', H', h => by
    obtain ⟨_, _, _, _, _, rfl, h1, f1, _, hn⟩ := h
    exact (step1_le' h1).trans (facts_le l rs _ _ _ _ hn)

/-- What the evaluator says of a code, the code does. -/
def SoundC (P : Program) (c : Code) (ev : EvF) : Prop :=
  ∀ f H s x f' H' s', ev f H s = .ok (x, f', H') s' → s'.ob → s.ob ∧ H.Le H' ∧ CT P c f H x f' H'

theorem ct_of_step {c : Code} {f : Fr} {H : Heap} (h : ∀ (b : Frame) (tmps : Array Value) (ds : List Deferred) (k : List Item) (cs : List Frame) (w : World), step P (lone (frameAt b tmps ds (.code c :: k)) cs w) = .next (lone (frameAt b tmps ds k) cs w)) :
    CT P c f H .normal f H := fun ρ w b tmps ds k cs hs hf => ⟨ρ, w, tmps, ds, Moved.refl hs, hf, trivial, .one (h b tmps ds k cs w)⟩

theorem sound_end {c : Code} (h : ∀ (b : Frame) (tmps : Array Value) (ds : List Deferred) (k : List Item) (cs : List Frame) (w : World), step P (lone (frameAt b tmps ds (.code c :: k)) cs w) = .next (lone (frameAt b tmps ds k) cs w)) :
    SoundC P c evEnd := by
  intro f H s x f' H' s' he hob
  injection he with h1 h2; injection h1 with h1 h3; injection h3 with h3 h4; subst h1; subst h2; subst h3; subst h4
  exact ⟨hob, Heap.Le.refl _, ct_of_step h⟩

theorem sound_region (hg : Good P) {call : CallF} (hcall : SoundCall P call) (id : Nat) (ops : Array Oper) (draw : Bool) : SoundC P (.region id ops draw) (evRegion P call ops.toList draw) := by
  intro f H s x f' H' s' h hob
  unfold evRegion at h
  cases draw with
  | true =>
    simp only [bc_true] at h
    obtain ⟨⟨f1, H1, dl⟩, s1, hd, h⟩ := bnd_ok h
    rcases bcR h with ⟨hr, h⟩ | ⟨_, h⟩
    · rcases bcR h with ⟨hdd, h⟩ | ⟨_, h⟩
      · injection h with h1 h2; injection h1 with h1 h3; injection h3 with h3 h4; subst h1; subst h2; subst h3; subst h4
        obtain ⟨h1, h2⟩ := draw_sound hg hcall (id := id) hd hob hr hdd
        obtain ⟨_, rs, _, hfacts⟩ := draw_facts hg hcall ops f.n ops.toList f H s f1 H1 dl s1 rfl hd hob
        exact ⟨h1, facts_le _ _ _ _ _ _ hfacts, h2⟩
      · cases h
    · cases h
  | false =>
    simp only [bc_false] at h
    obtain ⟨h1, h2, h3⟩ := evOps_sound hg hcall ops ops.toList 0 rfl f H s x f' H' s' h hob
    refine ⟨h1, h2, fun ρ w b tmps ds k cs hs hf => ?_⟩
    obtain ⟨ρ', w', tmps', ds', h4, h5, h6, h7⟩ := h3 ρ w b tmps ds k cs hs hf
    refine ⟨ρ', w', tmps', ds', h4, h5, h6, h7.of_steps (.one ?_)⟩
    rw [st_region, List.range_eq_range']
    simp

theorem Ends.under {m : Machine} {b : Frame} {k k2 : List Item} {cs : List Frame} {ρ : Nat → RB} {tmps : Array Value} {ds : List Deferred} {w : World} {x : LX} (hx : x ≠ .normal) (hk : ∀ id, x = .exit id → exitTo id k2 = exitTo id k)
    (h : Ends P m b k2 cs ρ tmps ds w x) : Ends P m b k cs ρ tmps ds w x := by
  cases x with
  | normal => exact absurd rfl hx
  | exit id => obtain ⟨k', e, hs⟩ := h; exact ⟨k', e.trans (hk id rfl), hs⟩
  | ret => exact h
  | pan v => exact h

theorem sound_seq {a b : Code} {ea eb : EvF} (ha : SoundC P a ea) (hb : SoundC P b eb) : SoundC P (.seq a b) (evSeq ea eb) := by
  intro f H s x f' H' s' h hob
  obtain ⟨⟨x1, f1, H1⟩, s1, h1, h⟩ := bnd_ok h
  have other : x1 ≠ .normal → R.ok (x1, f1, H1) s1 = R.ok (x, f', H') s' → s.ob ∧ H.Le H' ∧ CT P (.seq a b) f H x f' H' := by
    intro hx he
    injection he with e1 e2; injection e1 with e1 e3; injection e3 with e3 e4; subst e1; subst e2; subst e3; subst e4
    obtain ⟨hs0, hle, hct⟩ := ha _ _ _ _ _ _ _ h1 hob
    refine ⟨hs0, hle, fun ρ w bf tmps ds k cs hs hf => ?_⟩
    obtain ⟨ρ', w', tmps', ds', h4, h5, h6, h7⟩ := hct ρ w bf tmps ds (.code b :: k) cs hs hf
    exact ⟨ρ', w', tmps', ds', h4, h5, h6, (h7.of_steps (.one st_seq)).under hx fun _ _ => by rfl⟩
  cases x1 with
  | normal =>
    simp only at h
    obtain ⟨hs1, hle2, hct2⟩ := hb _ _ _ _ _ _ _ h hob
    obtain ⟨hs0, hle, hct⟩ := ha _ _ _ _ _ _ _ h1 hs1
    refine ⟨hs0, hle.trans hle2, fun ρ w bf tmps ds k cs hs hf => ?_⟩
    obtain ⟨ρ1, w1, tmps1, ds1, h4, h5, h6, h7⟩ := hct ρ w bf tmps ds (.code b :: k) cs hs hf
    obtain ⟨ρ2, w2, tmps2, ds2, h8, h9, h10, h11⟩ := hct2 ρ1 w1 bf tmps1 ds1 k cs h4.sat h5
    exact ⟨ρ2, w2, tmps2, ds2, h4.trans h8, h9, h10, h11.of_steps (.head st_seq h7)⟩
  | exit id => exact other (by simp) h
  | ret => exact other (by simp) h
  | pan v => exact other (by simp) h

theorem sound_cond {c : Operand} {a b : Code} {ea eb : EvF} (ha : SoundC P a ea) (hb : SoundC P b eb) : SoundC P (.cond c a b) (evCond c ea eb) := by
  intro f H s x f' H' s' h hob
  unfold evCond at h
  split at h
  · rename_i v hv
    obtain ⟨t, s1, hd, h⟩ := bnd_ok h
    have key : s1.ob → s.ob ∧ v = t := fun hs1 => by
      obtain ⟨h1, h2⟩ := decideB_sound hd hs1
      exact ⟨h2, h1⟩
    have hev : ∀ {n : Nat} {ρ : Nat → RB} {bf : Frame} {tmps : Array Value} {ds : List Deferred}, FRel ρ n f bf tmps ds → rev tmps c = .bool v := fun hf => by
      have := (hf.ev c).1
      rw [hv] at this
      exact this.eq rfl
    rcases bcR h with ⟨ht, h⟩ | ⟨ht, h⟩
    · obtain ⟨hs1, hle, hct⟩ := ha _ _ _ _ _ _ _ h hob
      obtain ⟨hs0, hvt⟩ := key hs1
      refine ⟨hs0, hle, fun ρ w bf tmps ds k cs hs hf => ?_⟩
      obtain ⟨ρ', w', tmps', ds', h4, h5, h6, h7⟩ := hct ρ w bf tmps ds k cs hs hf
      have hst := st_cond (P := P) (b := bf) (ds := ds) (k := k) (cs := cs) (w := w) (x := a) (y := b) (hev hf)
      rw [hvt, ht] at hst
      exact ⟨ρ', w', tmps', ds', h4, h5, h6, h7.of_steps (.one hst)⟩
    · obtain ⟨hs1, hle, hct⟩ := hb _ _ _ _ _ _ _ h hob
      obtain ⟨hs0, hvt⟩ := key hs1
      refine ⟨hs0, hle, fun ρ w bf tmps ds k cs hs hf => ?_⟩
      obtain ⟨ρ', w', tmps', ds', h4, h5, h6, h7⟩ := hct ρ w bf tmps ds k cs hs hf
      have hst := st_cond (P := P) (b := bf) (ds := ds) (k := k) (cs := cs) (w := w) (x := a) (y := b) (hev hf)
      rw [hvt, ht] at hst
      exact ⟨ρ', w', tmps', ds', h4, h5, h6, h7.of_steps (.one hst)⟩
  · cases h

theorem sound_block {id : Nat} {c : Code} {ec : EvF} (hc : SoundC P c ec) : SoundC P (.block id c) (evBlock id ec) := by
  intro f H s x f' H' s' h hob
  obtain ⟨⟨x1, f1, H1⟩, s1, h1, h⟩ := bnd_ok h
  have other : x1 ≠ .normal → (∀ id', x1 = .exit id' → id' ≠ id) → R.ok (x1, f1, H1) s1 = R.ok (x, f', H') s' → s.ob ∧ H.Le H' ∧ CT P (.block id c) f H x f' H' := by
    intro hx hid he
    injection he with e1 e2; injection e1 with e1 e3; injection e3 with e3 e4; subst e1; subst e2; subst e3; subst e4
    obtain ⟨hs0, hle, hct⟩ := hc _ _ _ _ _ _ _ h1 hob
    refine ⟨hs0, hle, fun ρ w bf tmps ds k cs hs hf => ?_⟩
    obtain ⟨ρ', w', tmps', ds', h4, h5, h6, h7⟩ := hct ρ w bf tmps ds (.inBlock id :: k) cs hs hf
    refine ⟨ρ', w', tmps', ds', h4, h5, h6, (h7.of_steps (.one st_block)).under hx fun id' e => ?_⟩
    have hne := hid id' e
    simp only [exitTo]
    rw [if_neg]
    intro h; exact hne (by simpa using (beq_iff_eq.1 h).symm)
  cases x1 with
  | normal =>
    simp only at h
    injection h with e1 e2; injection e1 with e1 e3; injection e3 with e3 e4; subst e1; subst e2; subst e3; subst e4
    obtain ⟨hs0, hle, hct⟩ := hc _ _ _ _ _ _ _ h1 hob
    refine ⟨hs0, hle, fun ρ w bf tmps ds k cs hs hf => ?_⟩
    obtain ⟨ρ', w', tmps', ds', h4, h5, h6, h7⟩ := hct ρ w bf tmps ds (.inBlock id :: k) cs hs hf
    exact ⟨ρ', w', tmps', ds', h4, h5, h6, (Steps.head st_block h7).trans (.one st_inBlock)⟩
  | exit id' =>
    simp only at h
    rcases bcR h with ⟨ht, h2⟩ | ⟨ht, h2⟩
    · have := beqN ht; subst this
      injection h2 with e1 e2; injection e1 with e1 e3; injection e3 with e3 e4; subst e1; subst e2; subst e3; subst e4
      obtain ⟨hs0, hle, hct⟩ := hc _ _ _ _ _ _ _ h1 hob
      refine ⟨hs0, hle, fun ρ w bf tmps ds k cs hs hf => ?_⟩
      obtain ⟨ρ', w', tmps', ds', h4, h5, h6, k', hk', h7⟩ := hct ρ w bf tmps ds (.inBlock id' :: k) cs hs hf
      refine ⟨ρ', w', tmps', ds', h4, h5, trivial, (Steps.head st_block h7).trans (.one (st_exit ?_))⟩
      rw [hk']; simp [exitTo]
    · exact other (by simp) (fun i e => by injection e with e; subst e; exact beqN_false ht) h2
  | ret => exact other (by simp) (fun i e => by cases e) h
  | pan v => exact other (by simp) (fun i e => by cases e) h

theorem sound_scope {c : Code} {ec : EvF} (hc : SoundC P c ec) : SoundC P (.scope c) ec := by
  intro f H s x f' H' s' h hob
  obtain ⟨hs0, hle, hct⟩ := hc _ _ _ _ _ _ _ h hob
  refine ⟨hs0, hle, fun ρ w bf tmps ds k cs hs hf => ?_⟩
  obtain ⟨ρ', w', tmps', ds', h4, h5, h6, h7⟩ := hct ρ w bf tmps ds (.inScope c :: k) cs hs hf
  refine ⟨ρ', w', tmps', ds', h4, h5, h6, ?_⟩
  by_cases hx : x = .normal
  · subst hx
    exact (Steps.head st_scope h7).trans (.one st_inScope)
  · exact (h7.of_steps (.one st_scope)).under hx fun _ _ => by rfl

theorem sound_exit (id : Nat) : SoundC P (.exit id) (fun f H s => .ok (.exit id, f, H) s) := by
  intro f H s x f' H' s' h hob
  injection h with e1 e2; injection e1 with e1 e3; injection e3 with e3 e4; subst e1; subst e2; subst e3; subst e4
  exact ⟨hob, Heap.Le.refl _, fun ρ w bf tmps ds k cs hs hf => ⟨ρ, w, tmps, ds, Moved.refl hs, hf, trivial, k, rfl, Steps.refl _ _⟩⟩
theorem sound_ret : SoundC P .ret (fun f H s => .ok (.ret, f, H) s) := by
  intro f H s x f' H' s' h hob
  injection h with e1 e2; injection e1 with e1 e3; injection e3 with e3 e4; subst e1; subst e2; subst e3; subst e4
  exact ⟨hob, Heap.Le.refl _, fun ρ w bf tmps ds k cs hs hf => ⟨ρ, w, tmps, ds, Moved.refl hs, hf, trivial, k, Steps.refl _ _⟩⟩

/-- A loop's contract, from its body's start on. -/
theorem sound_loopN {c : Code} {ec : EvF} (hc : SoundC P c ec) : ∀ (n : Nat) (f : Fr) (H : Heap) (s : S) (x : LX) (f' : Fr) (H' : Heap) (s' : S), loopN ec n f H s = .ok (x, f', H') s' → s'.ob → s.ob ∧ H.Le H' ∧
    ∀ (ρ : Nat → RB) (w : World) (b : Frame) (tmps : Array Value) (ds : List Deferred) (k : List Item) (cs : List Frame), Sat ρ H w → FRel ρ H.n f b tmps ds →
    ∃ ρ' w' tmps' ds', Moved ρ H w ρ' H' w' ∧ FRel ρ' H'.n f' b tmps' ds' ∧ ltX H'.n x ∧ Ends P (lone (frameAt b tmps ds (.code c :: .inLoop c :: k)) cs w) b k cs ρ' tmps' ds' w' x
  | 0, f, H, s, x, f', H', s', h, _ => by cases h
  | n + 1, f, H, s, x, f', H', s', h, hob => by
    change (ec f H s).bnd _ = _ at h
    obtain ⟨⟨x1, f1, H1⟩, s1, h1, h⟩ := bnd_ok h
    have other : x1 ≠ .normal → R.ok (x1, f1, H1) s1 = R.ok (x, f', H') s' → s.ob ∧ H.Le H' ∧ ∀ (ρ : Nat → RB) (w : World) (b : Frame) (tmps : Array Value) (ds : List Deferred) (k : List Item) (cs : List Frame), Sat ρ H w → FRel ρ H.n f b tmps ds →
        ∃ ρ' w' tmps' ds', Moved ρ H w ρ' H' w' ∧ FRel ρ' H'.n f' b tmps' ds' ∧ ltX H'.n x ∧ Ends P (lone (frameAt b tmps ds (.code c :: .inLoop c :: k)) cs w) b k cs ρ' tmps' ds' w' x := by
      intro hx he
      injection he with e1 e2; injection e1 with e1 e3; injection e3 with e3 e4; subst e1; subst e2; subst e3; subst e4
      obtain ⟨hs0, hle, hct⟩ := hc _ _ _ _ _ _ _ h1 hob
      refine ⟨hs0, hle, fun ρ w bf tmps ds k cs hs hf => ?_⟩
      obtain ⟨ρ', w', tmps', ds', h4, h5, h6, h7⟩ := hct ρ w bf tmps ds (.inLoop c :: k) cs hs hf
      exact ⟨ρ', w', tmps', ds', h4, h5, h6, h7.under hx fun _ _ => by rfl⟩
    cases x1 with
    | normal =>
      simp only at h
      obtain ⟨hs1, hle2, hct2⟩ := sound_loopN hc n _ _ _ _ _ _ _ h hob
      obtain ⟨hs0, hle, hct⟩ := hc _ _ _ _ _ _ _ h1 hs1
      refine ⟨hs0, hle.trans hle2, fun ρ w bf tmps ds k cs hs hf => ?_⟩
      obtain ⟨ρ1, w1, tmps1, ds1, h4, h5, h6, h7⟩ := hct ρ w bf tmps ds (.inLoop c :: k) cs hs hf
      obtain ⟨ρ2, w2, tmps2, ds2, h8, h9, h10, h11⟩ := hct2 ρ1 w1 bf tmps1 ds1 k cs h4.sat h5
      exact ⟨ρ2, w2, tmps2, ds2, h4.trans h8, h9, h10, h11.of_steps (Steps.trans h7 (.one st_inLoop))⟩
    | exit id => exact other (by simp) h
    | ret => exact other (by simp) h
    | pan v => exact other (by simp) h

theorem sound_loop (lf : Nat) {c : Code} {ec : EvF} (hc : SoundC P c ec) : SoundC P (.loop c) (evLoop P lf c ec) := by
  intro f H s x f' H' s' h hob
  unfold evLoop at h
  split at h
  · rename_i n ds hp
    obtain ⟨h1, h2, h3⟩ := sound_loopN hc lf _ _ _ _ _ _ _ h hob
    refine ⟨h1, h2, fun ρ w bf tmps ds k cs hs hf => ?_⟩
    obtain ⟨ρ', w', tmps', ds', h4, h5, h6, h7⟩ := h3 ρ w bf tmps ds k cs hs hf
    exact ⟨ρ', w', tmps', ds', h4, h5, h6, h7.of_steps (.one st_loop)⟩
  · injection h with e1 e2; injection e1 with e1 e3; injection e3 with e3 e4; subst e1; subst e2; subst e3; subst e4
    exact ⟨hob.2, Heap.le_upd _ _ _, hob.1⟩
  · rename_i C ds hp
    rcases bcR h with ⟨hfit, h⟩ | ⟨_, h⟩
    · injection h with e1 e2; injection e1 with e1 e3; injection e3 with e3 e4; subst e1; subst e2; subst e3; subst e4
      obtain ⟨h1, h2, h3, h4⟩ := hob
      exact ⟨h4, Heap.le_upd _ _ _, lcon_ct h1 hfit h2 h3⟩
    · cases h
  · cases h
  · cases h
end Go.Proofs.Ytmnpnomllcghmaa.Ev
