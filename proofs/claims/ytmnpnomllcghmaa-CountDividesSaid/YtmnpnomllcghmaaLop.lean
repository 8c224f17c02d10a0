/- Contracts of loops. -/
import Derived.Test.YtmnpnomllcghmaaLaw
namespace Go.Proofs.Ytmnpnomllcghmaa.Ev
open Go

/-- A LOOP: so many rounds that end as they should, and one that leaves it. -/
theorem ct_loop {P : Program} {c : Code} (F : Nat → Fr) (G : Nat → Heap) {x : LX} {f' : Fr} {H' : Heap} (hx : x ≠ .normal) : ∀ (m i : Nat), (∀ j, i ≤ j → j < i + m → CT P c (F j) (G j) .normal (F (j + 1)) (G (j + 1))) → CT P c (F (i + m)) (G (i + m)) x f' H' →
    ∀ (ρ : Nat → RB) (w : World) (b : Frame) (tmps : Array Value) (ds : List Deferred) (k : List Item) (cs : List Frame), Sat ρ (G i) w → FRel ρ (G i).n (F i) b tmps ds →
    ∃ ρ' w' tmps' ds', Moved ρ (G i) w ρ' H' w' ∧ FRel ρ' H'.n f' b tmps' ds' ∧ ltX H'.n x ∧ Ends P (lone (frameAt b tmps ds (.code c :: .inLoop c :: k)) cs w) b k cs ρ' tmps' ds' w' x
  | 0, i, _, hl => fun ρ w b tmps ds k cs hs hf => by
    obtain ⟨ρ', w', tmps', ds', h1, h2, h3, h4⟩ := hl ρ w b tmps ds (.inLoop c :: k) cs hs hf
    exact ⟨ρ', w', tmps', ds', h1, h2, h3, h4.under hx fun _ _ => by rfl⟩
  | m + 1, i, hr, hl => fun ρ w b tmps ds k cs hs hf => by
    obtain ⟨ρ1, w1, tmps1, ds1, h1, h2, _, h4⟩ := hr i (Nat.le_refl _) (by omega) ρ w b tmps ds (.inLoop c :: k) cs hs hf
    obtain ⟨ρ2, w2, tmps2, ds2, h5, h6, h7, h8⟩ := ct_loop F G hx m (i + 1) (fun j h1 h2 => hr j (by omega) (by omega)) (by rw [show i + 1 + m = i + (m + 1) by omega]; exact hl) ρ1 w1 b tmps1 ds1 k cs h1.sat h2
    exact ⟨ρ2, w2, tmps2, ds2, h1.trans h5, h6, h7, h8.of_steps (Steps.trans h4 (.one st_inLoop))⟩

theorem CT.loop {P : Program} {c : Code} (F : Nat → Fr) (G : Nat → Heap) {x : LX} {f' : Fr} {H' : Heap} (hx : x ≠ .normal) (m : Nat) (hr : ∀ j, j < m → CT P c (F j) (G j) .normal (F (j + 1)) (G (j + 1))) (hl : CT P c (F m) (G m) x f' H') :
    CT P (.loop c) (F 0) (G 0) x f' H' := by
  intro ρ w b tmps ds k cs hs hf
  obtain ⟨ρ', w', tmps', ds', h1, h2, h3, h4⟩ := ct_loop F G hx m 0 (fun j _ h => hr j (by omega)) (by rw [Nat.zero_add]; exact hl) ρ w b tmps ds k cs hs hf
  exact ⟨ρ', w', tmps', ds', h1, h2, h3, h4.of_steps (.one st_loop)⟩

end Go.Proofs.Ytmnpnomllcghmaa.Ev
