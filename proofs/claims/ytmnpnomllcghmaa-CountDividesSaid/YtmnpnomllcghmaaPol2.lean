/- The evaluator with contracts: code; loops. -/
import Derived.Test.YtmnpnomllcghmaaPol
namespace Go.Proofs.Ytmnpnomllcghmaa.Ev
open Go
variable {P : Program}

def asksC (σ : Nat → Nat) (C : LCon) (a : LX × Fr × Heap) (s : S) : Prop :=
  s.ob ∧ sameX σ C.x a.1 ∧ frL σ a.2.1 C.L' ∧ objL σ a.2.2 C.os' 0
def fitsC (l : List Nat) (C : LCon) (g m : Nat) (f : Fr) (n : Nat) : Bool :=
  Nat.beq l.length C.os'.length && distinct l && allBelow n l && wfObjsB C.os'.length C.os' && Nat.ble C.os.length C.os'.length && upTo C.os.length l && wfPairsB C.os'.length C.L' && wfXB C.os'.length C.x && isNil f.marks && f.round.isNone && Nat.beq f.fn g && Nat.beq f.n m
/-- The contract's proof: the run, and what is asked of it. -/
def ProvesC (P : Program) (pol : Pol) (lf k : Nat) (c : Code) (g m : Nat) (C : LCon) (ds : List Dir) (l : List Nat) : Prop :=
  @R.rec (LX × Fr × Heap) (fun _ => Prop) (fun a s => bc (fitsC l C g m a.2.1 a.2.2.n) (asksC (at_ l) C a s) False) (fun _ => False) (fun _ => False) (runC P pol lf k c (Fr.ofL g m C.L [] none) (Heap.of C.os) ds)

theorem wfXB_lt {n : Nat} {x : LX} (h : wfXB n x = true) : ltX n x := by
  cases x <;> first | trivial | exact wfB_lt h

theorem lcon_of (hg : Good P) {pol : Pol} {lf k : Nat} {c : Code} {g m : Nat} {C : LCon} {ds : List Dir} {l : List Nat} (h : ProvesC P pol lf k c g m C ds l) : C.holds P c g m := by
  unfold ProvesC at h
  generalize hr : runC P pol lf k c (Fr.ofL g m C.L [] none) (Heap.of C.os) ds = r at h
  cases r with
  | bad w => cases h
  | pause s => cases h
  | ok a s =>
    obtain ⟨x, f', H'⟩ := a
    obtain ⟨ds', ob⟩ := s
    simp only at h
    cases hf : fitsC l C g m f' H'.n with
    | false => rw [hf] at h; cases h
    | true =>
      rw [hf] at h
      simp only [bc_true, asksC] at h
      obtain ⟨hob, hx, hL, ho⟩ := h
      have hct := evPC_sound hg hr hob
      simp only [fitsC, Bool.and_eq_true] at hf
      obtain ⟨⟨⟨⟨⟨⟨⟨⟨⟨⟨⟨h1, h2⟩, h3⟩, h4⟩, h5⟩, h6⟩, h7⟩, h8⟩, h9⟩, h10⟩, h11⟩, h12⟩ := hf
      have h1 := beqN h1
      have h5 : C.os.length ≤ C.os'.length := Nat.le_of_ble_eq_true h5
      have hm : f'.marks = [] := by cases hh : f'.marks with | nil => rfl | cons _ _ => rw [hh] at h9; cases h9
      have hr : f'.round = none := by cases hh : f'.round with | none => rfl | some _ => rw [hh] at h10; cases h10
      exact CT.keep hct (σ := at_ l) (within_of (fun i j hi hj e => distinct_at h2 i j (by omega) (by omega) e) (fun i hi => below_at h3 i (by omega)) (wfObjsB_L h4) ho) (by rw [of_n, of_n]; exact h5)
        (fun i hi => by rw [of_n] at hi; have := upToFrom_at h6 i hi; omega) (same_ofL (beqN h12) (beqN h11) hm hr hL) (wf_ofL (by rw [of_n]; exact wfPairsB_L h7)) hx (by rw [of_n]; exact wfXB_lt h8)

/-- A loop, by its rounds. -/
theorem loop_of {c : Code} {g m : Nat} (C : Nat → LCon) (n : Nat) (D : LCon) (hr : ∀ j, j < n → (C j).holds P c g m) (hx : ∀ j, j < n → (C j).x = .normal) (hL : ∀ j, j < n → (C j).L' = (C (j + 1)).L ∧ (C j).os' = (C (j + 1)).os)
    (hD : D.holds P c g m) (hDL : D.L = (C n).L ∧ D.os = (C n).os) (hDx : D.x ≠ .normal) : LCon.holds P (.loop c) g m ⟨(C 0).L, (C 0).os, D.x, D.L', D.os'⟩ := by
  refine CT.loop (fun j => Fr.ofL g m (C j).L [] none) (fun j => Heap.of (C j).os) hDx n (fun j hj => ?_) ?_
  · have := hr j hj
    unfold LCon.holds at this
    rw [hx j hj, (hL j hj).1, (hL j hj).2] at this
    exact this
  · have := hD
    unfold LCon.holds at this
    rw [hDL.1, hDL.2] at this
    exact this
end Go.Proofs.Ytmnpnomllcghmaa.Ev
