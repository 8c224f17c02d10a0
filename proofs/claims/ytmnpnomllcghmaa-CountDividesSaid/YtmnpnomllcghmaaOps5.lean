/- Converting and slicing. -/
import Derived.Test.YtmnpnomllcghmaaOps4
namespace Go.Proofs.Ytmnpnomllcghmaa.Ev
open Go

variable {P : Program} {ρ : Nat → RB} {H : Heap} {w : World}

theorem bytesOf_ok (f : Value → ByteArray → Sem (ForInStep ByteArray)) (hf : ∀ n s, f (.int .u8 n) s = pure (.yield (s.push (UInt8.ofNat n.toNat)))) :
    ∀ (cs : List LV) (l : List UInt8) (acc : ByteArray) (w : World), bytesOf cs = some l → (forIn (decs ρ cs) acc f : Sem ByteArray).run P w = .ok ⟨acc.data ++ l.toArray⟩ w
  | [], l, acc, w, h => by
    injection h with h; subst h; simp [decs]
  | c :: cs, l, acc, w, h => by
    unfold bytesOf at h
    split at h
    · rename_i heq; cases heq
    · rename_i n vs heq
      injection heq with h1 h2
      subst h1; subst h2
      split at h
      · rename_i l' hl
        injection h with h; subst h
        have ih := bytesOf_ok f hf cs l' (acc.push (UInt8.ofNat n.toNat)) w hl
        simp only [decs, dec, List.forIn_cons, Sem.run_bind, Sem.run_pure, Result.andThen_ok, hf, ih]
        congr 2
        simp
      · cases h
    · cases h

theorem text_ok (hs : Sat ρ H w) {x v : LV} (h : textOf H x = some v) (hx : lt H.n x) : (Conv.bytesToString (dec ρ x)).run P w = .ok (dec ρ v) w ∧ lt H.n v := by
  unfold textOf at h
  split at h
  · injection h with h; subst h; exact ⟨rfl, trivial⟩
  · injection h with h; subst h
    refine ⟨?_, trivial⟩
    simp only [dec, Conv.bytesToString, loadCells, loadCellsFrom, pure_bind]
    simp
    rfl
  · rename_i i o n c
    split at h
    · rename_i cs hc
      split at h
      · rename_i l hl
        injection h with h; subst h
        refine ⟨?_, trivial⟩
        have hlen := cellsAt_length hc
        have := firstCells_ok (P := P) hs (size := 1) (n := n) (x := .slice i o n c) (cs := cs) (by rw [Nat.mul_one]; exact hc) hx (fun h => by cases h) (.inr (by simp))
        simp only [dec, Builtin.firstCells, Nat.mul_one] at this
        simp only [dec, Conv.bytesToString, Sem.run_bind, this, Result.andThen_ok]
        rw [← Array.forIn_toList]
        rw [bytesOf_ok (P := P) (ρ := ρ) _ (fun n s => rfl) cs l ByteArray.empty w hl]
        simp [show ByteArray.empty.data = #[] from rfl]
      · cases h
    · cases h
  · cases h

theorem withH_some {o : Option LV} {v : LV} {H' : Heap} (h : withH H o = some (v, H')) : o = some v ∧ H' = H := by
  cases o with
  | none => cases h
  | some x => injection h with h; injection h with a b; exact ⟨by rw [a], b.symm⟩

theorem stringToBytes_ok (hs : Sat ρ H w) (e : TypeId) (s : List UInt8) :
    ∃ ρ' w', (Conv.stringToBytes e ⟨s.toArray⟩).run P w = .ok (dec ρ' (.slice H.n 0 (lenL s) (.rest 0))) w' ∧ Moved ρ H w ρ' (H.push (.cells e (.grow 1) (ofBytes s))) w' := by
  obtain ⟨cap, hcap⟩ : ∃ cap, cap = (Question.appendCap s.length 0 e).cut (w.tape w.drawn (Question.appendCap s.length 0 e)) := ⟨_, rfl⟩
  have hle : s.length ≤ cap := by rw [hcap]; simp only [Question.cut]; omega
  have hmap : (Array.map (fun b => Value.int IntKind.u8 (b.toNat : Int)) s.toArray) = (decs ρ (ofBytes s)).toArray := by
    rw [ofBytes_eq, decs_eq, List.map_map]; simp [dec]
  have hlen : (decs ρ (ofBytes s)).length = s.length := by rw [decs_length, ofBytes_eq]; simp
  have hlt : ∀ n, lts n (ofBytes s) := fun n => by
    rw [ofBytes_eq, lts_iff]; intro v hv
    obtain ⟨b, _, rfl⟩ := List.mem_map.1 hv
    trivial
  let spare : List Value := List.replicate (cap - s.length) (.int .u8 0)
  let O : Obj := .cells ((decs ρ (ofBytes s)) ++ spare).toArray e (cap, cap + 1)
  let w' : World := { w with heap := w.heap.push O, drawn := w.drawn + 1 }
  have hsz : ((decs ρ (ofBytes s)) ++ spare).length = cap := by simp [spare, hlen]; omega
  refine ⟨upRho ρ H.n ⟨w.heap.size, 0, cap, default, 0⟩, w', ?_, Moved.push hs _ O _ rfl rfl rfl rfl rfl (hlt _) ?_⟩
  · unfold Conv.stringToBytes
    have harr : Array.map (fun b => Value.int IntKind.u8 (b.toNat : Int)) s.toArray ++ Array.replicate (cap - s.length) (Value.int .u8 0) = ((decs ρ (ofBytes s)) ++ spare).toArray := by
      rw [hmap]; apply Array.ext'; simp [spare]
    simp only [Sem.run_bind, run_choose, Question.forced, Bool.false_eq_true, if_false, Result.andThen_ok, size_mk, ← hcap, newRow, Sem.run_pure]
    rw [harr]
    simp only [run_newObj, Result.andThen_ok, markStringish, Sem.run_bind, run_shape]
    have hsh : (World.shape? { w with heap := w.heap.push (.cells ((decs ρ (ofBytes s)) ++ spare).toArray e), drawn := w.drawn + 1 } w.heap.size) = some (e, cap) := by
      simp only [World.shape?, Array.getElem?_push_size, List.size_toArray, hsz]
    rw [hsh]
    simp only [run_freeze, Result.andThen_ok, dec, upRho_new, capOf, Nat.zero_add, Nat.sub_zero, lenL_eq]
    congr 1
    simp only [World.freeze, w']
    rw [if_neg (by omega)]
    congr 1
    apply Array.ext_getElem?
    intro i
    rw [Array.getElem?_modify]
    by_cases hi : w.heap.size = i
    · subst hi; simp [O]
    · simp only [hi, if_false, Array.getElem?_push]
      by_cases hi' : i = w.heap.size
      · exact absurd hi'.symm hi
      · simp [hi']
  · have hd : decs (upRho ρ H.n ⟨w.heap.size, 0, cap, default, 0⟩) (ofBytes s) = decs ρ (ofBytes s) := decs_ext (upRho_ext ρ H.n _) _ (hlt _)
    refine ⟨rfl, cap, cap + 1, spare, ?_, ?_, ?_, ?_⟩
    · intro j hj
      have : (ofBytes s).length = s.length := by rw [ofBytes_eq]; simp
      simp only [spare, List.length_replicate, this] at hj
      omega
    · have : (ofBytes s).length = s.length := by rw [ofBytes_eq]; simp
      rw [this]; simp; omega
    · have : (ofBytes s).length = s.length := by rw [ofBytes_eq]; simp
      simp [spare, this]; omega
    · rw [hd]; simp [w', O]

theorem conv_ok (hs : Sat ρ H w) {src dst : TypeId} {x v : LV} {H' : Heap} (h : convL P src dst x H = some (v, H')) (hx : lt H.n x) :
    ∃ ρ' w', (convert src dst (dec ρ x)).run P w = .ok (dec ρ' v) w' ∧ Moved ρ H w ρ' H' w' ∧ lt H'.n v := by
  unfold convL at h
  unfold convert
  split at h
  · rename_i k0 hu
    split at h
    · rename_i k hu'
      split at h
      · rename_i k1 n
        injection h with h; injection h with h1 h2; subst h1; subst h2
        refine ⟨ρ, w, ?_, Moved.refl hs, trivial⟩
        simp only [Sem.run_bind, run_underlying hu, run_underlying hu', Result.andThen_ok, dec]
        rfl
      · cases h
    · cases h
  · rename_i hu
    split at h
    · rename_i hu'
      split at h
      · injection h with h; injection h with h1 h2; subst h1; subst h2
        refine ⟨ρ, w, ?_, Moved.refl hs, trivial⟩
        simp only [Sem.run_bind, run_underlying hu, run_underlying hu', Result.andThen_ok, dec]
        rfl
      · cases h
    · rename_i e hu'
      split at h
      · rename_i he
        split at h
        · rename_i s
          injection h with h; injection h with h1 h2; subst h1; subst h2
          obtain ⟨ρ', w', hr, hm⟩ := stringToBytes_ok (P := P) hs e s
          refine ⟨ρ', w', ?_, hm, by simp only [lt, Heap.n_push]; omega⟩
          simp only [Sem.run_bind, run_underlying hu, run_underlying hu', Result.andThen_ok, dec, run_underlying he]
          exact hr
        · cases h
      · cases h
    · cases h
  · rename_i e hu
    split at h
    · rename_i hu'
      split at h
      · rename_i he
        obtain ⟨ht, rfl⟩ := withH_some h
        obtain ⟨hr, hl⟩ := text_ok (P := P) hs ht hx
        refine ⟨ρ, w, ?_, Moved.refl hs, hl⟩
        simp only [Sem.run_bind, run_underlying hu, run_underlying hu', Result.andThen_ok]
        cases x <;> first
          | (cases ht; done)
          | (simp only [dec, Sem.run_bind, run_underlying he, Result.andThen_ok] at hr ⊢; exact hr)
      · cases h
    · cases h
  · cases h
end Go.Proofs.Ytmnpnomllcghmaa.Ev
