/- Operations that make values of parts, and rows. -/
import Derived.Test.YtmnpnomllcghmaaOps
namespace Go.Proofs.Ytmnpnomllcghmaa.Ev
open Go

variable {P : Program}

/-! build -/
theorem fold_set (off : Nat) : ∀ (vs : List Value) (k : Nat) (cur : Array Value), off + k + vs.length ≤ cur.size →
    (vs.zipIdx k).foldl (fun cs (x : Value × Nat) => cs.setIfInBounds (off + x.2) x.1) cur = (cur.toList.take (off + k) ++ vs ++ cur.toList.drop (off + k + vs.length)).toArray
  | [], k, cur, _ => by simp
  | v :: vs, k, cur, h => by
    simp only [List.length_cons] at h
    simp only [List.zipIdx_cons, List.foldl_cons]
    rw [fold_set off vs (k + 1) (cur.setIfInBounds (off + k) v) (by simp; omega)]
    congr 1
    simp only [Array.toList_setIfInBounds]
    have ho : off + k < cur.toList.length := by simp; omega
    rw [show off + (k + 1) = off + k + 1 by omega, List.take_succ_eq_append_getElem (by simpa using ho), List.take_set_of_le (Nat.le_refl _), List.getElem_set_self]
    rw [show off + k + 1 + vs.length = off + k + (v :: vs).length by simp; omega, List.drop_set_of_lt (by simp)]
    simp

def partsOf {α : Type} (f : Operand → α) (l : List (Nat × Operand)) : List (Nat × α) := l.map fun x => (x.1, f x.2)
theorem zip_parts (ev : Operand → LV) : ∀ (l : List (Nat × Operand)), zipL (l.map (·.1)) ((l.map (·.2)).map ev) = partsOf ev l
  | [] => rfl
  | x :: l => by simp only [List.map_cons, zipL, partsOf]; rw [zip_parts ev l]; rfl

theorem fill_ok {ρ : Nat → RB} {n : Nat} {ev : Operand → LV} {rv : Operand → Value} {pl pr : Nat → Option (Nat × Nat)} (hp : ∀ i p, pl i = some p → pr i = some p) :
    ∀ (l : List (Nat × Operand)) (cs cs' : List LV), (∀ x ∈ l.map (·.2), Is ρ (ev x) (rv x) ∧ lt n (ev x)) → lts n cs → fillL pl cs (partsOf ev l) = some cs' →
      Instr.fill pr (decs ρ cs).toArray (partsOf rv l) = some (decs ρ cs').toArray ∧ lts n cs' ∧ cs'.length = cs.length
  | [], cs, cs', _, hl, h => by
    simp only [partsOf, List.map_nil, fillL, Option.some.injEq] at h
    subst h
    exact ⟨rfl, hl, rfl⟩
  | (i, x) :: l, cs, cs', hx, hl, h => by
    simp only [partsOf, List.map_cons, fillL] at h
    split at h
    · cases h
    · rename_i off size hpl
      replace h := cond_some' h; obtain ⟨hj, h⟩ := h
      replace h := cond_some h; obtain ⟨h1, h⟩ := h
      replace h := cond_some h; obtain ⟨h2, h⟩ := h
      have h1 := beqN h1
      have h2 := Nat.le_of_ble_eq_true h2
      rw [lenL_eq] at h1 h2
      obtain ⟨hi, hlx⟩ := hx x (by simp)
      have hd := hi.eq hj
      have hlen : (setMany cs off (cellsOf (ev x))).length = cs.length := setMany_length _ _ _ (by omega)
      have hlt : lts n (setMany cs off (cellsOf (ev x))) := by
        rw [setMany_eq _ _ _ (by omega), lts_iff]
        rw [lts_iff] at hl
        have hc := (lts_iff _ _).1 (lts_cellsOf hlx)
        intro y hy
        simp only [List.append_assoc, List.mem_append] at hy
        rcases hy with hy | hy | hy
        · exact hl y (List.mem_of_mem_take hy)
        · exact hc y hy
        · exact hl y (List.mem_of_mem_drop hy)
      obtain ⟨r1, r2, r3⟩ := fill_ok hp l _ cs' (fun y hy => hx y (by simp only [List.map_cons, List.mem_cons]; exact .inr hy)) hlt h
      refine ⟨?_, r2, by rw [r3, hlen]⟩
      simp only [partsOf, List.map_cons, Instr.fill, hp i _ hpl]
      have hcs : (rv x).cells.size = size := by rw [hd, dec_cells]; simp [decs_length, h1]
      have hno : ((rv x).cells.size != size || decide (off + (rv x).cells.size > (decs ρ cs).toArray.size)) = false := by
        simp [hcs, decs_length]; omega
      have hfold : (rv x).cells.zipIdx.foldl (fun cs (x : Value × Nat) => cs.setIfInBounds (off + x.2) x.1) (decs ρ cs).toArray = (decs ρ (setMany cs off (cellsOf (ev x)))).toArray := by
        rw [← Array.foldl_toList, Array.toList_zipIdx, hd, dec_cells]
        have := fold_set off (decs ρ (cellsOf (ev x))) 0 (decs ρ cs).toArray (by simp [decs_length]; omega)
        simp only [Nat.add_zero] at this
        rw [this, setMany_eq _ _ _ (by omega)]
        simp [decs_eq]
      simp only [partsOf] at r1
      rw [if_neg]
      · rw [← r1]; congr 1
      · intro hc
        simp only [hcs, ne_eq, not_true_eq_false, decide_false, Bool.false_or, decide_eq_true_eq, List.size_toArray, decs_length] at hc
        omega

theorem mapM_places : ∀ (fs : List Field) (w : World), allSized P fs = true →
    ∃ l, (fs.mapM fun f => do pure (f.offset, ← sizeOf f.type) : Sem (List (Nat × Nat))).run P w = .ok l w ∧ ∀ i p, fieldPlaces P fs i = some p → l[i]? = some p
  | [], w, _ => ⟨[], by simp, fun i p h => by cases h⟩
  | f :: fs, w, h => by
    unfold allSized at h
    split at h
    · rename_i s hs
      obtain ⟨l, hl, hp⟩ := mapM_places fs w h
      refine ⟨(f.offset, s) :: l, ?_, ?_⟩
      · simp only [List.mapM_cons, Sem.run_bind, run_sizeOf' hs, Result.andThen_ok, Sem.run_pure, hl]
      · intro i p hi
        unfold fieldPlaces at hi
        cases i with
        | zero =>
          simp only [Nat.beq, cond_true, hs, Option.map_some, Option.some.injEq] at hi
          simp [hi]
        | succ i =>
          have : Nat.beq (i + 1) 0 = false := rfl
          rw [this] at hi
          simp only [cond_false, Nat.add_sub_cancel] at hi
          simpa using hp i p hi
    · cases h

theorem build_ok {ρ : Nat → RB} {n : Nat} {w : World} {ev : Operand → LV} {rv : Operand → Value} {t : TypeId} {ps : Array (Nat × Operand)} {v : LV}
    (hx : ∀ x ∈ ps.toList.map (·.2), Is ρ (ev x) (rv x) ∧ lt n (ev x)) (h : buildL P t (partsOf ev ps.toList) = some v) :
    (Instr.build t (ps.map fun (i, x) => (i, rv x))).run P w = .ok (dec ρ v) w ∧ lt n v := by
  unfold buildL at h
  split at h
  · cases h
  · rename_i z hz
    obtain ⟨hrz, hjz, hlz⟩ := run_zeroOf hz ρ w
    have hpl : (ps.map fun (i, x) => (i, rv x)).toList = partsOf rv ps.toList := by simp [partsOf]
    have hlc := lts_cellsOf (hlz n)
    split at h
    · rename_i fields hu
      replace h := cond_some h; obtain ⟨hsz, h⟩ := h
      cases hf : fillL (fieldPlaces P fields.toList) (cellsOf z) (partsOf ev ps.toList) with
      | none => rw [hf] at h; cases h
      | some cs =>
        rw [hf] at h
        simp only [Option.map_some, Option.some.injEq] at h
        subst h
        obtain ⟨l, hl, hp⟩ := mapM_places (P := P) fields.toList w hsz
        obtain ⟨r1, r2, _⟩ := fill_ok (ρ := ρ) (rv := rv) hp ps.toList (cellsOf z) cs hx hlc hf
        refine ⟨?_, r2⟩
        have hm : (fields.mapM fun f => do pure (f.offset, ← sizeOf f.type) : Sem (Array (Nat × Nat))).run P w = .ok l.toArray w := by
          rw [Array.mapM_eq_mapM_toList]
          simp only [Sem.run_map, hl, Result.andThen_ok]
        unfold Instr.build
        simp only [Sem.run_bind, hrz, Result.andThen_ok, run_underlying hu, hm, hpl, dec_cells, List.getElem?_toArray, r1]
        rfl
    · rename_i k elem hu
      split at h
      · rename_i size hs
        cases hf : fillL (fun i => some (i * size, size)) (cellsOf z) (partsOf ev ps.toList) with
        | none => rw [hf] at h; cases h
        | some cs =>
          rw [hf] at h
          simp only [Option.map_some, Option.some.injEq] at h
          subst h
          obtain ⟨r1, r2, _⟩ := fill_ok (ρ := ρ) (rv := rv) (fun i p h => h) ps.toList (cellsOf z) cs hx hlc hf
          refine ⟨?_, r2⟩
          unfold Instr.build
          simp only [Sem.run_bind, hrz, Result.andThen_ok, run_underlying hu, run_sizeOf' hs, hpl, dec_cells, r1]
          rfl
      · cases h
    · cases h

/-! rows of zeros -/
theorem repeatL_get (z : List LV) : ∀ (n i : Nat), i < n * z.length → (repeatL z n)[i]? = z[i % z.length]?
  | 0, i, h => by simp at h
  | n + 1, i, h => by
    rw [repeatL_succ]
    by_cases hi : i < z.length
    · rw [List.getElem?_append_left hi, Nat.mod_eq_of_lt hi]
    · have hz : z.length ≤ i := by omega
      rw [List.getElem?_append_right hz, repeatL_get z n (i - z.length) (by rw [Nat.succ_mul] at h; omega)]
      rw [← Nat.mod_eq_sub_mod hz]
theorem zeros_eq (ρ : Nat → RB) (z : List LV) (m : Nat) (hz : z.length ≠ 0) : ((Array.range (m * z.length)).map ((decs ρ z).toArray[· % (decs ρ z).toArray.size]!)) = (decs ρ (repeatL z m)).toArray := by
  apply Array.ext'
  simp only [Array.toList_map, Array.toList_range, List.size_toArray, decs_length]
  apply List.ext_getElem?
  intro i
  rw [List.getElem?_map, decs_eq ρ (repeatL z m), List.getElem?_map]
  by_cases hi : i < m * z.length
  · rw [List.getElem?_range hi, repeatL_get z m i hi]
    have hlt : i % z.length < z.length := Nat.mod_lt _ (by omega)
    simp [decs_eq, List.getElem?_eq_getElem hlt]
  · rw [List.getElem?_eq_none (by simpa using hi), List.getElem?_eq_none (by rw [repeatL_length]; omega)]
    rfl
theorem lts_repeat {n : Nat} {z : List LV} (h : lts n z) : ∀ m, lts n (repeatL z m)
  | 0 => trivial
  | m + 1 => by
    rw [repeatL_succ, lts_iff]
    rw [lts_iff] at h
    intro v hv
    rcases List.mem_append.1 hv with hv | hv
    · exact h v hv
    · exact (lts_iff _ _).1 (lts_repeat ((lts_iff _ _).2 h) m) v hv

theorem buildSlice_ok {ρ : Nat → RB} {H : Heap} {w : World} (hs : Sat ρ H w) {ev : Operand → LV} {rv : Operand → Value} {t : TypeId} {len : Nat} {ps : Array (Nat × Operand)} {v : LV} {H' : Heap}
    (hx : ∀ x ∈ ps.toList.map (·.2), Is ρ (ev x) (rv x) ∧ lt H.n (ev x)) (h : buildSliceL P t len (partsOf ev ps.toList) H = some (v, H')) :
    ∃ ρ' w', (Instr.buildSlice t len (ps.map fun (i, x) => (i, rv x))).run P w = .ok (dec ρ' v) w' ∧ Moved ρ H w ρ' H' w' ∧ lt H'.n v := by
  unfold buildSliceL at h
  split at h
  · rename_i elem hu
    split at h
    · rename_i size z hsz hz
      replace h := cond_some' h; obtain ⟨h0, h⟩ := h
      replace h := cond_some h; obtain ⟨h1, h⟩ := h
      replace h := cond_some h; obtain ⟨h2, h⟩ := h
      have h0 := beqN_false h0
      have h1 := Nat.le_of_ble_eq_true h1
      have h2 := beqN h2
      rw [lenL_eq] at h2
      split at h
      · rename_i cs hf
        simp only [Option.some.injEq, Prod.mk.injEq] at h
        obtain ⟨rfl, rfl⟩ := h
        obtain ⟨hrz, hjz, hlz⟩ := run_zeroOf hz ρ w
        have hpl : (ps.map fun (i, x) => (i, rv x)).toList = partsOf rv ps.toList := by simp [partsOf]
        obtain ⟨r1, r2, r3⟩ := fill_ok (ρ := ρ) (rv := rv) (fun i p h => h) ps.toList _ cs hx (lts_repeat (lts_cellsOf (hlz H.n)) len) hf
        obtain ⟨ρ', hm, hr⟩ := new_exact hs elem cs r2
        refine ⟨ρ', _, ?_, hm, by simp only [lt, Heap.n_push]; omega⟩
        have hzeros := zeros_eq ρ (cellsOf z) len (by omega)
        rw [h2] at hzeros
        have hdec : dec ρ' (.slice H.n 0 len (.known len)) = .slice (some ⟨w.heap.size, 0, none⟩) len len := by simp [dec, hr, capOf]
        rw [hdec]
        unfold Instr.buildSlice
        simp only [Sem.run_bind, run_underlying hu, Result.andThen_ok, run_sizeOf' hsz, Sem.run_ite, if_neg (show ¬ len * size > 2 ^ 24 by omega), hpl]
        by_cases hl0 : len * size = 0
        · have hlen0 : len = 0 := by
            rcases Nat.mul_eq_zero.1 hl0 with h | h
            · exact h
            · exact absurd h h0
          subst hlen0
          simp only [Nat.zero_mul, if_true, Sem.run_pure, Result.andThen_ok] at *
          have : (Array.map (fun x => (#[] : Array Value)[x % (#[] : Array Value).size]!) (Array.range 0)) = (decs ρ (repeatL (cellsOf z) 0)).toArray := by simp [show repeatL (cellsOf z) 0 = [] from rfl, decs]
          rw [this, r1]
          simp [newRow]
        · simp only [hl0, if_false, Sem.run_bind, hrz, Result.andThen_ok, Sem.run_pure, dec_cells, hzeros, r1]
          simp [newRow]
      · cases h
    · cases h
  · cases h

theorem makeSlice_ok {ρ : Nat → RB} {H : Heap} {w : World} (hs : Sat ρ H w) {t : TypeId} {l c v : LV} {H' : Heap} (h : makeSliceL P t H l c = some (v, H')) :
    ∃ ρ' w', (Instr.makeSlice t (dec ρ l) (dec ρ c)).run P w = .ok (dec ρ' v) w' ∧ Moved ρ H w ρ' H' w' ∧ lt H'.n v := by
  unfold makeSliceL at h
  split at h
  · rename_i k1 l k2 c
    split at h
    · rename_i elem hu
      split at h
      · rename_i i z hi hz
        replace h := cond_some h; obtain ⟨h1, h⟩ := h
        replace h := cond_some h; obtain ⟨h2, h⟩ := h
        replace h := cond_some h; obtain ⟨h3, h⟩ := h
        replace h := cond_some h; obtain ⟨h4, h⟩ := h
        replace h := cond_some' h; obtain ⟨h5, h⟩ := h
        replace h := cond_some h; obtain ⟨h6, h⟩ := h
        simp only [Option.some.injEq, Prod.mk.injEq] at h
        obtain ⟨rfl, rfl⟩ := h
        have h1 := of_decide_eq_true h1
        have h2 := of_decide_eq_true h2
        have h3 := of_decide_eq_true h3
        have h4 := of_decide_eq_true h4
        have h5 := beqN_false h5
        have h6 := beqN h6
        rw [lenL_eq] at h6
        obtain ⟨hrz, hjz, hlz⟩ := run_zeroOf hz ρ w
        have hw1 : IntKind.i64.wrap l = l := by simp [IntKind.wrap, IntKind.bits, IntKind.signed]; omega
        have hw2 : IntKind.i64.wrap c = c := by simp [IntKind.wrap, IntKind.bits, IntKind.signed]; omega
        obtain ⟨ρ', hm, hr⟩ := new_exact hs elem (repeatL (cellsOf z) c.toNat) (lts_repeat (lts_cellsOf (hlz H.n)) _)
        refine ⟨ρ', _, ?_, hm, by simp only [lt, Heap.n_push]; omega⟩
        have hzeros := zeros_eq ρ (cellsOf z) c.toNat (by omega)
        rw [h6] at hzeros
        have hsz : sizeOfT P elem = some i.size := by simp [sizeOfT, hi]
        have hdec : dec ρ' (.slice H.n 0 l.toNat (.known c.toNat)) = .slice (some ⟨w.heap.size, 0, none⟩) l.toNat c.toNat := by simp [dec, hr, capOf]
        rw [hdec]
        unfold Instr.makeSlice
        have hb : ((i.bytes : Int) * c > 2 ^ 48) = False := by
          rw [Int.mul_comm] at h3
          simp only [eq_iff_iff, iff_false, gt_iff_lt, Int.not_lt]
          omega
        have hcond : ((decide (c < 0) || decide ((i.bytes : Int) * c > 2 ^ 48)) || decide (l < 0) || decide (l > c)) = false := by
          simp only [hb, decide_false, Bool.or_false]
          simp; omega
        simp only [dec, Sem.run_bind, run_underlying hu, Result.andThen_ok, asInt, asIntOf, run_typeInfo' hi, Sem.run_pure, hw1, hw2]
        rw [if_neg (by simp only [hcond]; exact Bool.false_ne_true)]
        simp only [Sem.run_bind, run_askRoom, Result.andThen_ok, run_sizeOf' hsz]
        by_cases hc0 : c.toNat * i.size = 0
        · have hc : c.toNat = 0 := by
            rcases Nat.mul_eq_zero.1 hc0 with h | h
            · exact h
            · exact absurd h h5
          simp only [hc, Nat.zero_mul, if_true, Sem.run_pure, Result.andThen_ok] at *
          simp [newRow, show repeatL (cellsOf z) 0 = [] from rfl, decs, show Array.range 0 = #[] from rfl]
        · simp only [hc0, if_false, Sem.run_bind, hrz, Result.andThen_ok, Sem.run_pure, dec_cells, hzeros]
          simp [newRow]
      · cases h
    · cases h
  · cases h
end Go.Proofs.Ytmnpnomllcghmaa.Ev
