/- Regions whose order is the text's. -/
import Derived.Test.YtmnpnomllcghmaaKnd2
namespace Go.Proofs.Ytmnpnomllcghmaa.Ev
open Go

variable {P : Program}

theorem doOp_sound' (hg : Good P) {call : CallF} (hcall : SoundCall P call) {o : Oper} {f : Fr} {H : Heap} {s s' : S} {e : OpEnd} {H' : Heap} (h : doOp P call o.op (f.evs (opds o.op)) H s = .ok (e, H') s') (hob : s'.ob) :
    s.ob ∧ H.Le H' ∧ OpDoes P o f H e H' := doOp_sound hg hcall h hob fun _ hr => lop_le hr

/-- Code's contract, from a machine's state on. -/
def RegT (P : Program) (ops : Array Oper) (l : List Nat) (f : Fr) (H : Heap) (x : LX) (f' : Fr) (H' : Heap) : Prop :=
  ∀ (ρ : Nat → RB) (w : World) (b : Frame) (tmps : Array Value) (ds : List Deferred) (k : List Item) (cs : List Frame), Sat ρ H w → FRel ρ H.n f b tmps ds →
    ∃ ρ' w' tmps' ds', Moved ρ H w ρ' H' w' ∧ FRel ρ' H'.n f' b tmps' ds' ∧ ltX H'.n x ∧ Ends P (lone (frameAt b tmps ds (.inRegion ops l :: k)) cs w) b k cs ρ' tmps' ds' w' x

theorem Ends.of_steps {m m1 : Machine} {b : Frame} {k : List Item} {cs : List Frame} {ρ : Nat → RB} {tmps : Array Value} {ds : List Deferred} {w : World} {x : LX} (h : Steps P m m1) (h' : Ends P m1 b k cs ρ tmps ds w x) : Ends P m b k cs ρ tmps ds w x := by
  cases x with
  | normal => exact h.trans h'
  | exit id => obtain ⟨k', e, hs⟩ := h'; exact ⟨k', e, h.trans hs⟩
  | ret => obtain ⟨k', hs⟩ := h'; exact ⟨k', h.trans hs⟩
  | pan v => obtain ⟨k', hs⟩ := h'; exact ⟨k', h.trans hs⟩

theorem evOps_sound (hg : Good P) {call : CallF} (hcall : SoundCall P call) (ops : Array Oper) : ∀ (l : List Oper) (i : Nat), ops.toList.drop i = l → ∀ (f : Fr) (H : Heap) (s : S) (x : LX) (f' : Fr) (H' : Heap) (s' : S),
    evOps P call ops.toList l f H s = .ok (x, f', H') s' → s'.ob → s.ob ∧ H.Le H' ∧ RegT P ops (List.range' i l.length) f H x f' H'
  | [], i, _, f, H, s, x, f', H', s', h, hob => by
    injection h with h1 h2; injection h1 with h1 h3; injection h3 with h3 h4; subst h1; subst h2; subst h3; subst h4
    refine ⟨hob, Heap.Le.refl _, fun ρ w b tmps ds k cs hs hf => ⟨ρ, w, tmps, ds, Moved.refl hs, hf, trivial, ?_⟩⟩
    exact .one st_regionEnd
  | o :: l, i, hd, f, H, s, x, f', H', s', h, hob => by
    have ho : ops[i]? = some o := by
      have : (ops.toList.drop i)[0]? = some o := by rw [hd]; rfl
      rw [List.getElem?_drop] at this
      simpa using this
    have hd' : ops.toList.drop (i + 1) = l := by
      rw [← List.tail_drop, hd]; rfl
    change (wanted ops.toList o f s).bnd _ = _ at h
    obtain ⟨⟨t, f1⟩, s1, hw, h⟩ := bnd_ok h
    simp only at h
    rw [List.length_cons, List.range'_succ]
    rcases bcR h with ⟨ht, h⟩ | ⟨ht, h⟩
    · obtain ⟨⟨e, H1⟩, s2, hop, h⟩ := bnd_ok h
      simp only at h
      cases e with
      | pan v =>
        simp only [behind] at h
        injection h with h1 h2; injection h1 with h1 h3; injection h3 with h3 h4; subst h1; subst h2; subst h3; subst h4
        obtain ⟨hs1, hle, hdoes⟩ := doOp_sound' hg hcall hop hob
        obtain ⟨hs0, hwant⟩ := wanted_sound hw hs1
        refine ⟨hs0, hle, fun ρ w b tmps ds k cs hs hf => ?_⟩
        obtain ⟨hwt, hf1⟩ := hwant hf
        obtain ⟨ρ', w', hm, hl, hst⟩ := hdoes ρ w b tmps ds ops i (List.range' (i + 1) l.length) k cs hs hf1 ho (hwt.trans ht)
        exact ⟨ρ', w', tmps, ds, hm, hf1.ext hm.ext hm.more, hl, _, hst⟩
      | val v kd =>
        simp only [behind] at h
        obtain ⟨f2, hput, h⟩ := putK_ok h
        obtain ⟨hs2, hle2, hrest⟩ := evOps_sound hg hcall ops l (i + 1) hd' f2 H1 s2 x f' H' s' h hob
        obtain ⟨hs1, hle, hdoes⟩ := doOp_sound' hg hcall hop hs2
        obtain ⟨hs0, hwant⟩ := wanted_sound hw hs1
        refine ⟨hs0, hle.trans hle2, fun ρ w b tmps ds k cs hs hf => ?_⟩
        obtain ⟨hwt, hf1⟩ := hwant hf
        obtain ⟨ρ1, w1, hm, hl, v', hv, hst⟩ := hdoes ρ w b tmps ds ops i (List.range' (i + 1) l.length) k cs hs hf1 ho (hwt.trans ht)
        have hf2 := (hf1.ext hm.ext hm.more).put hput hv hl
        obtain ⟨ρ', w', tmps', ds', hm', hf', hlx, he⟩ := hrest ρ1 w1 b _ ds k cs hm.sat hf2
        exact ⟨ρ', w', tmps', ds', hm.trans hm', hf', hlx, he.of_steps hst⟩
    · obtain ⟨f2, hput, h⟩ := putK_ok h
      obtain ⟨hs2, hle2, hrest⟩ := evOps_sound hg hcall ops l (i + 1) hd' f2 H s1 x f' H' s' h hob
      obtain ⟨hs0, hwant⟩ := wanted_sound hw hs2
      refine ⟨hs0, hle2, fun ρ w b tmps ds k cs hs hf => ?_⟩
      obtain ⟨hwt, hf1⟩ := hwant hf
      have hf2 := hf1.put (v' := undef) hput (.inr rfl) ⟨⟩
      obtain ⟨ρ', w', tmps', ds', hm', hf', hlx, he⟩ := hrest ρ w b _ ds k cs hs hf2
      exact ⟨ρ', w', tmps', ds', hm', hf', hlx, he.of_steps (.one (st_opSkip ho (hwt.trans ht)))⟩
end Go.Proofs.Ytmnpnomllcghmaa.Ev
