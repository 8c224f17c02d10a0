/- Walks over maps: a round's entry, whichever it is. -/
import Derived.Test.YtlgfojaalmelhaaDoorLo
import Derived.Maps.RangeRun
namespace Go.Proofs.YtlgfojaalmelhaaDoor.Ev
open Go
open Go.ChangeMaps (setBlock)

variable {P : Program}

theorem Moved.weak {ρ ρ' : Nat → RB} {H H' H1 : Heap} {w w' : World} (h : Moved ρ H w ρ' H' w') (hn : H1.n = H'.n) (hl : ∀ i, i < H1.n → ltObj H1.n (H1.get i)) (ho : ∀ i, i < H1.n → SatObj ρ' (ρ' i) w' (H1.get i))
  (hw : ∀ i, i < H1.n → (H1.get i).owns = true → (H'.get i).owns = true) (hs : ∀ i, i < H1.n → (H1.get i).sits = true → (H'.get i).sits = true) : Moved ρ H w ρ' H1 w' where
 os := h.os
 tape := h.tape
 output := h.output
 size := h.size
 block := h.block
 owned := fun i hi ho => h.owned i (hn ▸ hi) (hw i hi ho)
 sits := fun i hi ho => h.sits i (hn ▸ hi) (hs i hi ho)
 more := by rw [hn]; exact h.more
 ext := h.ext
 sat := ⟨hl, ho, fun i j hi hj hij h1 h2 => h.sat.apart i j (hn ▸ hi) (hn ▸ hj) hij (hw i hi h1) (hs j hj h2), fun i hi h1 => h.sat.inside i (hn ▸ hi) (hs i hi h1)⟩

theorem Moved.drew {ρ ρ' : Nat → RB} {H H' : Heap} {w w1 w' : World} (hw : w1 = w ∨ w1 = w.drew) (h : Moved ρ H w1 ρ' H' w') : Moved ρ H w ρ' H' w' := by
 rcases hw with rfl | rfl
 ·exact h
 ·exact { os := h.os, tape := h.tape, output := h.output, size := h.size, block := h.block, owned := h.owned, sits := h.sits, more := h.more, ext := h.ext, sat := h.sat }
theorem Sat.drew {ρ : Nat → RB} {H : Heap} {w w1 : World} (hw : w1 = w ∨ w1 = w.drew) (h : Sat ρ H w) : Sat ρ H w1 := by
 rcases hw with rfl | rfl
 ·exact h
 ·have key : ∀ o r, SatObj ρ r w o → SatObj ρ r w.drew o := fun o r h => by
   unfold SatObj at h ⊢
   exact h
  exact ⟨h.wf, fun i hi => key _ _ (h.obj i hi), h.apart, h.inside⟩

theorem next_region {id : Nat} {ops : Array Oper} {o0 o1 : Oper} (hops : ops = #[o0, o1]) {a t u : Nat} (hp0 : o0.op = .next (.tmp a) false) (hd0 : o0.dst = some t) (hg0 : o0.guard = none) (hp1 : o1.op = .extract (.tmp t) 0) (hd1 : o1.dst = some u) (hg1 : o1.guard = none)
  {f : Fr} {H : Heap} {i m : Nat} {since c0 clock : Nat} {seen : List Nat} {es : List Ent} (ha : f.get a = .ptr i 0) (hi : i < H.n) (hgi : H.get i = .miter m (since, seen, c0)) (hm : m < H.n) (hgm : H.get m = .map es clock) (hold : ∀ e, e ∈ es → e.born < since) (hsc : since ≤ c0)
  (ht : t < f.n) (hu : u < f.n) {ρ : Nat → RB} {w : World} {b : Frame} {tmps : Array Value} {ds : List Deferred} (k : List Item) (cs : List Frame) (hs : Sat ρ H w) (hf : FRel ρ H.n f b tmps ds) :
  ((∀ e, e ∈ es → e.born ∈ seen) ∧ ∃ tmps', FRel ρ H.n ((f.set t .junk).set u (.bool false)) b tmps' ds ∧ Steps P (lone (frameAt b tmps ds (.code (.region id ops false) :: k)) cs w) (lone (frameAt b tmps' ds k) cs w)) ∨
  ∃ e, e ∈ es ∧ e.born ∉ seen ∧ ∃ w' tmps', Moved ρ H w ρ (H.put i (.miter m (since, seen ++ [e.born], clock))) w' ∧ FRel ρ H.n ((f.set t .junk).set u (.bool true)) b tmps' ds ∧
   Steps P (lone (frameAt b tmps ds (.code (.region id ops false) :: k)) cs w) (lone (frameAt b tmps' ds k) cs w') := by
 subst hops
 have hsz := hf.size
 have hea : f.ev (.tmp a) = .ptr i 0 := ha
 have hv := (hf.ev (.tmp a)).1.eq (by rw [hea]; rfl)
 rw [hea] at hv
 have hso := hs.obj i hi
 rw [hgi] at hso
 have hmo := hs.obj m hm
 rw [hgm] at hmo
 have hz : (ρ i).off = 0 := hso.1
 have hit : w.heap[(ρ i).blk]? = some (.mapIter (some (ρ m).blk) since seen.toArray c0) := hso.2
 have hmp : w.heap[(ρ m).blk]? = some (.map (es.map (decEnt ρ)).toArray clock) := hmo
 have hv2 : rev tmps (.tmp a) = .pointer (some ⟨(ρ i).blk, 0, none⟩) := by rw [hv]; simp [dec, hz]
 have w0 : ∀ T, Region.wanted o0 (yielded #[o0, o1] T) = true := fun T => by unfold Region.wanted; rw [hg0]
 have w1 : ∀ T, Region.wanted o1 (yielded #[o0, o1] T) = true := fun T => by unfold Region.wanted; rw [hg1]
 have s0 : ∀ (T : Array Value) (w : World), step P (lone (frameAt b T ds (.code (.region id #[o0, o1] false) :: k)) cs w) = .next (lone (frameAt b T ds (.inRegion #[o0, o1] [0, 1] :: k)) cs w) := fun T w => st_region
 have nd0 : ∀ c, o0.op ≠ .defer c := by rw [hp0]; intro c h; cases h
 have nd1 : ∀ c, o1.op ≠ .defer c := by rw [hp1]; intro c h; cases h
 have steps : ∀ {v x : Value} {w' : World}, (execOp (rev tmps) o0).run P w = .ok (.value v) w' → (execOp (rev (putT tmps o0.dst v)) o1).run P w' = .ok (.value x) w' →
   Steps P (lone (frameAt b tmps ds (.code (.region id #[o0, o1] false) :: k)) cs w) (lone (frameAt b (putT (putT tmps o0.dst v) o1.dst x) ds k) cs w') := fun h1 h2 =>
  .head (s0 tmps w) (.head (st_opValue (i := 0) rfl (w0 _) nd0 h1) (.head (st_opValue (i := 1) rfl (w1 _) nd1 h2) (.one st_regionEnd)))
 have put1 : ∀ v, FRel ρ H.n (f.set t .junk) b (putT tmps o0.dst v) ds := fun v => by
  refine hf.put (v := .junk) (v' := v) ?_ (.inl rfl) trivial
  rw [hd0]; show cond (Nat.blt t f.n) (some (f.set t .junk)) none = _
  rw [bltN.2 ht]; rfl
 have put2 : ∀ v x, FRel ρ H.n ((f.set t .junk).set u (.bool x)) b (putT (putT tmps o0.dst v) o1.dst (.bool x)) ds := fun v x => by
  refine (put1 v).put (v := .bool x) (v' := .bool x) ?_ (.inr rfl) trivial
  rw [hd1]; show cond (Nat.blt u f.n) (some ((f.set t .junk).set u (.bool x))) none = _
  rw [bltN.2 hu]; rfl
 have hext : ∀ {l : List Value} {x : Value} {w' : World}, l[0]? = some x → (execOp (rev (putT tmps o0.dst (.tuple l.toArray))) o1).run P w' = .ok (.value x) w' := fun {l x w'} hl => by
  have e : execOp (rev (putT tmps o0.dst (.tuple l.toArray))) o1 = val (Instr.extract (rev (putT tmps o0.dst (.tuple l.toArray)) (.tmp t)) 0) := by
   cases o1; cases hp1; rfl
  rw [e]
  refine run_val ?_
  have : rev (putT tmps o0.dst (.tuple l.toArray)) (.tmp t) = .tuple l.toArray := by
   rw [hd0]
   have : t < tmps.size := by rw [hsz]; exact ht
   simp [rev, putT, this]
  rw [this]
  simp only [Instr.extract, List.getElem?_toArray, hl]
  rfl
 have e0 : execOp (rev tmps) o0 = val (Instr.next (rev tmps (.tmp a)) false o0.type) := by
  cases o0; cases hp0; rfl
 rcases run_next_at (P := P) w o0.type (ρ i).blk (ρ m).blk since c0 seen.toArray (es.map (decEnt ρ)).toArray clock hit hmp (fun x hx => by
   simp only [List.mem_map] at hx
   obtain ⟨e, he, rfl⟩ := hx; exact hold e he) hsc with ⟨h0, hr⟩ | ⟨x, hx, w2, hw2, hr⟩
 ·left
  refine ⟨fun e he => ?_, _, put2 _ false, steps (v := .tuple #[.bool false]) (x := .bool false) ?_ ?_⟩
  ·have : decEnt ρ e ∉ (leftOf (es.map (decEnt ρ)).toArray seen.toArray) := by
    rw [Array.eq_empty_of_size_eq_zero h0]; simp
   have h2 : ¬ (decEnt ρ e).born ∉ seen := fun hb => this (by
    unfold leftOf
    simp only [Array.mem_filter]
    exact ⟨by simpa using ⟨e, he, rfl⟩, by simpa using hb⟩)
   exact Classical.not_not.1 h2
  ·rw [e0, hv2]; exact run_val hr
  ·exact hext (l := [.bool false]) rfl
 ·right
  unfold leftOf at hx
  have hx2 : x ∈ (es.map (decEnt ρ)).toArray ∧ x.born ∉ seen := by
   have := Array.mem_filter.1 (Array.mem_toList_iff.1 hx)
   exact ⟨this.1, by simpa using this.2⟩
  obtain ⟨hx3, hx4⟩ := hx2
  have hx3 : ∃ e, e ∈ es ∧ decEnt ρ e = x := by simpa using hx3
  obtain ⟨e, he, rfl⟩ := hx3
  refine ⟨e, he, hx4, setBlock w2 (ρ i).blk (.mapIter (some (ρ m).blk) since (seen.toArray.push (decEnt ρ e).born) clock), _, ?_, put2 _ true, steps (v := .tuple #[.bool true, (decEnt ρ e).key, (decEnt ρ e).val]) (x := .bool true) ?_ ?_⟩
  rotate_left
  ·rw [e0, hv2]; exact run_val hr
  ·exact hext (l := [.bool true, (decEnt ρ e).key, (decEnt ρ e).val]) rfl
  ·have hs2 : Sat ρ H w2 := hs.drew hw2
   have hin : (ρ i).blk < w2.heap.size := hs2.inside i hi (by rw [hgi]; rfl)
   have hso2 := hs2.obj i hi
   rw [hgi] at hso2
   refine Moved.drew hw2 (Moved.put hs2 hi (by rw [hgi]; rfl) (.miter m (since, seen ++ [e.born], clock)) (fun b hb => ?_) ?_ rfl rfl rfl hm ⟨hz, ?_⟩)
   ·simp [setBlock, Array.getElem?_setIfInBounds, Ne.symm hb]
   ·simp [setBlock]
   ·show (setBlock w2 (ρ i).blk _).heap[(ρ i).blk]? = _
    simp [setBlock, hin, decEnt]

theorem eqL_find {s t : List UInt8} : eqCells .string (.str s) (.str t) = some (eqB s t) := rfl
theorem find_out {s : List UInt8} : ∀ {l : List Ent} (i : Nat), (∀ e, e ∈ l → ∃ t, e.key = .str t) → (∀ e, e ∈ l → e.key ≠ .str s) → findL .string (.str s) l i = some none
 | [], _, _, _ => rfl
 | e :: l, i, h1, h2 => by
  obtain ⟨t, ht⟩ := h1 e (by simp)
  have hne : eqB s t = false := by
   cases hb : eqB s t with
   | false => rfl
   | true =>
    exfalso
    rw [eqB_eq] at hb
    exact h2 e (by simp) (by rw [ht, show s = t from by simpa using hb])
  unfold findL
  rw [ht, eqL_find, hne]
  exact find_out (i + 1) (fun e he => h1 e (by simp [he])) fun e he => h2 e (by simp [he])
theorem find_same {l l2 : List Ent} (k1 : ∀ e, e ∈ l → ∃ t, e.key = .str t) (k2 : ∀ e, e ∈ l2 → ∃ t, e.key = .str t)
  (h1 : ∀ e, e ∈ l → vOf (findL .string e.key l 0) = vOf (findL .string e.key l2 0)) (h2 : ∀ e, e ∈ l2 → vOf (findL .string e.key l 0) = vOf (findL .string e.key l2 0)) (s : List UInt8) :
  vOf (findL .string (.str s) l 0) = vOf (findL .string (.str s) l2 0) := by
 by_cases c1 : ∃ e, e ∈ l ∧ e.key = .str s
 ·obtain ⟨e, he, hk⟩ := c1
  rw [← hk]; exact h1 e he
 ·by_cases c2 : ∃ e, e ∈ l2 ∧ e.key = .str s
  ·obtain ⟨e, he, hk⟩ := c2
   rw [← hk]; exact h2 e he
  ·rw [find_out 0 k1 fun e he hk => c1 ⟨e, he, hk⟩, find_out 0 k2 fun e he hk => c2 ⟨e, he, hk⟩]
def sameO (a b : Option (Option LV)) : Bool := match a, b with
 | some (some (.int k n)), some (some (.int k' m)) => decide (k = k') && n == m
 | _, _ => false
theorem sameO_eq {a b : Option (Option LV)} (h : sameO a b = true) : a = b := by
 unfold sameO at h
 split at h
 ·simp only [Bool.and_eq_true, decide_eq_true_eq, beq_iff_eq] at h
  rw [h.1, h.2]
 ·cases h
def strB : LV → Bool
 | .str _ => true
 | _ => false
def sameMap (l l2 : List Ent) : Bool := l.all (fun e => strB e.key && scalV e.val && sameO (vOf (findL .string e.key l 0)) (vOf (findL .string e.key l2 0))) && l2.all fun e => strB e.key && scalV e.val && sameO (vOf (findL .string e.key l 0)) (vOf (findL .string e.key l2 0))
theorem strB_ex {v : LV} (h : strB v = true) : ∃ t, v = .str t := by cases v <;> first | exact ⟨_, rfl⟩ | cases h
theorem fmap_of {ρ : Nat → RB} {r : RB} {w : World} {l l2 : List Ent} {clock : Nat} (h : sameMap l l2 = true) (hs : SatObj ρ r w (.map l clock)) : SatObj ρ r w (.fmap l2) := by
 unfold sameMap at h
 simp only [Bool.and_eq_true, List.all_eq_true] at h
 obtain ⟨h1, h2⟩ := h
 refine ⟨fun e he => (h2 e he).1.2, l, clock, find_same (fun e he => strB_ex (h1 e he).1.1) (fun e he => strB_ex (h2 e he).1.1) (fun e he => sameO_eq (h1 e he).2) (fun e he => sameO_eq (h2 e he).2), ?_⟩
 have hs : w.heap[r.blk]? = some (.map (l.map (decEnt ρ)).toArray clock) := hs
 rw [hs]
 have : l.map (decEnt ρ) = l.map (decEnt fun _ => rbz) := List.map_congr_left fun e he => by
  obtain ⟨t, ht⟩ := strB_ex (h1 e he).1.1
  unfold decEnt
  rw [scal_dec (ρ' := fun _ => rbz) (h1 e he).1.2, scal_dec (ρ' := fun _ => rbz) (v := e.key) (by rw [ht]; rfl)]
 rw [this]
end Go.Proofs.YtlgfojaalmelhaaDoor.Ev
