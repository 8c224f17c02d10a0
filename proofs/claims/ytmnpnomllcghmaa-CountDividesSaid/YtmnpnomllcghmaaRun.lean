/- What the model's small steps do, in the words of the local heap. -/
import Derived.Test.YtmnpnomllcghmaaLem
import Derived.Laws.Entries
import Derived.Laws.Cells
namespace Go.Proofs.Ytmnpnomllcghmaa.Ev
open Go

variable {P : Program}

theorem run_sizeOf' {t : TypeId} {n : Nat} (h : sizeOfT P t = some n) (w : World) : (sizeOf t).run P w = .ok n w := by
  unfold sizeOfT at h
  cases hi : P.info? t with
  | none => rw [hi] at h; cases h
  | some i =>
    rw [hi] at h
    simp only [Option.map_some, Option.some.injEq] at h
    simp [sizeOf, typeInfo, hi, h]
theorem run_typeInfo' {t : TypeId} {i : TypeInfo} (h : P.info? t = some i) (w : World) : (typeInfo t).run P w = .ok i w := by simp [typeInfo, h]
theorem run_isAgg {t : TypeId} {b : Bool} (h : aggOf P t = some b) (w : World) : (isAgg t).run P w = .ok b w := by
  unfold aggOf at h
  cases hu : P.underlying t with
  | none => rw [hu] at h; cases h
  | some d =>
    rw [hu] at h
    unfold isAgg
    simp only [Sem.run_bind, run_underlying hu, Result.andThen_ok]
    cases d <;> simp only [Option.some.injEq] at h <;> subst h <;> rfl

theorem add_none (g o j : Nat) : (⟨g, o, none⟩ : Addr).add j = ⟨g, o + j, none⟩ := by
  unfold Addr.add; split <;> simp_all

theorem run_load' {w : World} {a : Addr} {v : Value} (h : w.cell? a = some v) : (load a).run P w = .ok v w := by simp [h]

theorem ofVal0_dec (ρ : Nat → RB) : ∀ (v : Value), isJunk (ofVal0 v) = false → dec ρ (ofVal0 v) = v := by
  intro v h
  cases v with
  | bool b => rfl
  | int k n => rfl
  | string s => simp [ofVal0, dec]
  | pointer a => cases a <;> first | rfl | cases h
  | slice a l c =>
    cases a with
    | none =>
      cases l <;> cases c <;> first | rfl | cases h
    | some a => cases h
  | map r => cases r <;> first | rfl | cases h
  | nilFunc => rfl
  | nilIface => rfl
  | _ => cases h
theorem ofVal0_list (ρ : Nat → RB) : ∀ (l : List Value), noJunk (l.map ofVal0) = true → decs ρ (l.map ofVal0) = l
  | [], _ => rfl
  | v :: vs, h => by
    simp only [List.map_cons] at h ⊢
    obtain ⟨a, b⟩ := (noJunk_cons _ _).1 h
    simp only [decs, ofVal0_dec ρ v a, ofVal0_list ρ vs b]
theorem lt_ofVal0 (n : Nat) (v : Value) : lt n (ofVal0 v) := by
  unfold ofVal0; split <;> trivial
theorem lts_ofVal0 (n : Nat) (l : List Value) : lts n (l.map ofVal0) := by
  rw [lts_iff]; intro v hv
  obtain ⟨x, _, rfl⟩ := List.mem_map.1 hv
  exact lt_ofVal0 n x
theorem ofVal_dec (ρ : Nat → RB) (v : Value) (h : isJunk (ofVal v) = false) : dec ρ (ofVal v) = v := by
  unfold ofVal at h ⊢
  split at h
  · rename_i cs
    simp only at h ⊢
    cases hn : noJunk (cs.toList.map ofVal0) with
    | false => rw [hn] at h; cases h
    | true => simp only [cond_true, dec, ofVal0_list ρ _ hn]
  · rename_i t v
    simp only at h ⊢
    cases hn : isJunk (ofVal0 v) with
    | true => rw [hn] at h; cases h
    | false => simp only [cond_false, dec, ofVal0_dec ρ v hn]
  · rename_i cs
    simp only at h ⊢
    cases hn : noJunk (cs.toList.map ofVal0) with
    | false => rw [hn] at h; cases h
    | true => simp only [cond_true, dec, ofVal0_list ρ _ hn]
  · exact ofVal0_dec ρ _ h
theorem lt_ofVal (n : Nat) (v : Value) : lt n (ofVal v) := by
  unfold ofVal; split
  · simp only; cases noJunk _ <;> simp only [cond_true, cond_false, lt]; exact lts_ofVal0 _ _
  · simp only; cases isJunk _ <;> simp only [cond_true, cond_false, lt]; exact lt_ofVal0 _ _
  · simp only; cases noJunk _ <;> simp only [cond_true, cond_false, lt]; exact lts_ofVal0 _ _
  · exact lt_ofVal0 _ _

theorem run_zeroOf {t : TypeId} {z : LV} (h : zeroOf P t = some z) (ρ : Nat → RB) (w : World) : (zeroValue t).run P w = .ok (dec ρ z) w ∧ isJunk z = false ∧ ∀ n, lt n z := by
  unfold zeroOf at h
  cases hi : P.info? t with
  | none => rw [hi] at h; cases h
  | some i =>
    simp only [hi] at h
    cases hz : i.zero with
    | none => simp only [hz] at h; cases h
    | some v =>
      simp only [hz] at h
      obtain ⟨hj, hv⟩ := cond_some' h
      simp only [Option.some.injEq] at hv
      subst hv
      refine ⟨?_, hj, fun n => lt_ofVal n v⟩
      rw [ofVal_dec ρ v hj]
      simp [zeroValue, typeInfo, hi, hz]

theorem dec_cells (ρ : Nat → RB) (v : LV) : (dec ρ v).cells = (decs ρ (cellsOf v)).toArray := by
  cases v <;> simp [dec, decs, cellsOf, Value.cells]
theorem lts_cellsOf {n : Nat} {v : LV} (h : lt n v) : lts n (cellsOf v) := by
  cases v <;> simp_all [lt, lts, cellsOf]
theorem decs_length (ρ : Nat → RB) (l : List LV) : (decs ρ l).length = l.length := by rw [decs_eq]; simp
theorem dec_oneCell (ρ : Nat → RB) {v : LV} (h : oneCell v = true) : (dec ρ v).oneCell' = true := by
  cases v <;> simp_all [oneCell, dec, Value.oneCell']

/-- A cell of a row. -/
theorem SatObj.cell {ρ : Nat → RB} {r : RB} {w : World} {e : TypeId} {k : Own} {cs : List LV} (h : SatObj ρ r w (.cells e k cs)) {j : Nat} {v : LV} (hv : cs[j]? = some v) :
    w.cell? ⟨r.blk, r.off + j, none⟩ = some (dec ρ v) := by
  have hj : j < cs.length := (List.getElem?_eq_some_iff.1 hv).1
  have hd : (decs ρ cs)[j]? = some (dec ρ v) := by rw [decs_eq, List.getElem?_map, hv]; rfl
  cases k with
  | ro => exact h j v hv
  | exact =>
    obtain ⟨h0, lo, hi, _, hh⟩ := h
    simp only [World.cell?, hh, h0, Nat.zero_add, Option.isSome_none, Bool.false_eq_true, if_false, List.getElem?_toArray, hd]
  | grow sz =>
    obtain ⟨h0, lo, hi, spare, _, _, _, hh⟩ := h
    simp only [World.cell?, hh, h0, Nat.zero_add, Option.isSome_none, Bool.false_eq_true, if_false, List.getElem?_toArray]
    rw [List.getElem?_append_left (by rw [decs_length]; exact hj), hd]

/-- So many cells, read. -/
theorem run_cells {ρ : Nat → RB} {r : RB} {w : World} {e : TypeId} {k : Own} {cs : List LV} (h : SatObj ρ r w (.cells e k cs)) (o n : Nat) (hn : o + n ≤ cs.length) :
    (loadCells ⟨r.blk, r.off + o, none⟩ n).run P w = .ok (decs ρ ((cs.drop o).take n)).toArray w := by
  have hlen : ((cs.drop o).take n).length = n := by simp; omega
  have := run_loadCells_list (P := P) w ⟨r.blk, r.off + o, none⟩ (decs ρ ((cs.drop o).take n)) (fun j v hv => by
    rw [decs_eq, List.getElem?_map] at hv
    cases hx : ((cs.drop o).take n)[j]? with
    | none => rw [hx] at hv; cases hv
    | some x =>
      rw [hx] at hv
      simp only [Option.map_some, Option.some.injEq] at hv
      subst hv
      rw [add_none, Nat.add_assoc]
      refine h.cell ?_
      rw [List.getElem?_take] at hx
      split at hx
      · rwa [List.getElem?_drop] at hx
      · cases hx)
  rwa [decs_length, hlen] at this

theorem partOf_some {t : TypeId} {cs : List LV} {off : Nat} {v : LV} (h : partOf P t cs off = some v) :
    (aggOf P t = some true ∧ ∃ n, sizeOfT P t = some n ∧ off + n ≤ cs.length ∧ v = .agg ((cs.drop off).take n)) ∨ (aggOf P t = some false ∧ cs[off]? = some v) := by
  unfold partOf at h
  split at h
  · rename_i ha
    refine .inl ⟨ha, ?_⟩
    cases hn : sizeOfT P t with
    | none => rw [hn] at h; cases h
    | some n =>
      rw [hn] at h
      obtain ⟨a, b⟩ := cond_some h
      simp only [Option.some.injEq] at b
      rw [lenL_eq] at a
      exact ⟨n, rfl, Nat.le_of_ble_eq_true a, by rw [← b, takeN_eq, dropN_eq]⟩
  · rename_i ha
    rw [nth_eq] at h
    exact .inr ⟨ha, h⟩
  · cases h
theorem lt_partOf {n : Nat} {t : TypeId} {cs : List LV} {off : Nat} {v : LV} (h : partOf P t cs off = some v) (hl : lts n cs) : lt n v := by
  rw [lts_iff] at hl
  rcases partOf_some h with ⟨_, m, _, _, rfl⟩ | ⟨_, hv⟩
  · simp only [lt]; rw [lts_iff]; intro x hx
    exact hl x (List.mem_of_mem_drop (List.mem_of_mem_take hx))
  · exact hl v (List.mem_of_getElem? hv)

/-- A variable's value, read. -/
theorem run_loadVar {ρ : Nat → RB} {r : RB} {w : World} {e : TypeId} {k : Own} {cs : List LV} (h : SatObj ρ r w (.cells e k cs)) {t : TypeId} {o : Nat} {v : LV} (hv : partOf P t cs o = some v) :
    (loadVar t ⟨r.blk, r.off + o, none⟩).run P w = .ok (dec ρ v) w := by
  unfold loadVar
  rcases partOf_some hv with ⟨ha, n, hn, hle, rfl⟩ | ⟨ha, hc⟩
  · simp only [Sem.run_bind, run_isAgg ha, Result.andThen_ok, if_true, run_sizeOf' hn, run_cells h o n hle]
    rfl
  · simp only [Sem.run_bind, run_isAgg ha, Result.andThen_ok, Bool.false_eq_true, if_false, run_load' (h.cell hc)]

/-- A part of a struct's or an array's value. -/
theorem run_part {ρ : Nat → RB} {t : TypeId} {cs : List LV} {off : Nat} {v : LV} (hv : partOf P t cs off = some v) (w : World) :
    (part t (decs ρ cs).toArray off).run P w = .ok (dec ρ v) w := by
  unfold part
  rcases partOf_some hv with ⟨ha, n, hn, hle, rfl⟩ | ⟨ha, hc⟩
  · simp only [Sem.run_bind, run_isAgg ha, Result.andThen_ok, if_true, run_sizeOf' hn]
    simp only [Sem.run_pure, dec, decs_eq, List.map_take, List.map_drop]
    congr 2
    apply Array.ext'
    simp
  · simp only [Sem.run_bind, run_isAgg ha, Result.andThen_ok, Bool.false_eq_true, if_false]
    rw [decs_eq, List.getElem?_toArray, List.getElem?_map, hc]
    rfl

/-! writing -/
def putO (w : World) (g : Nat) (O : Obj) : World := { w with heap := w.heap.setIfInBounds g O }
theorem putO_heap_same {w : World} {g : Nat} {O : Obj} (h : g < w.heap.size) : (putO w g O).heap[g]? = some O := by simp [putO, h]
theorem putO_heap_other {w : World} {g b : Nat} {O : Obj} (h : b ≠ g) : (putO w g O).heap[b]? = w.heap[b]? := by
  simp only [putO]; rw [Array.getElem?_setIfInBounds_ne (Ne.symm h)]
theorem putO_putO (w : World) (g : Nat) (O O' : Obj) : putO (putO w g O) g O' = putO w g O' := by
  simp only [putO]; congr 1; apply Array.ext'; simp
theorem putO_self {w : World} {g : Nat} {O : Obj} (h : w.heap[g]? = some O) : putO w g O = w := by
  have : w.heap.setIfInBounds g O = w.heap := by
    apply Array.ext_getElem?
    intro i
    rw [Array.getElem?_setIfInBounds]
    split
    · rename_i e; subst e
      have hlt : g < w.heap.size := (Array.getElem?_eq_some_iff.1 h).1
      rw [h]; simp [hlt]
    · rfl
  simp only [putO, this]
theorem setCell_eq {w : World} {g j : Nat} {cur : Array Value} {e : TypeId} {fr : Nat × Nat} (v : Value) (h : w.heap[g]? = some (.cells cur e fr)) :
    w.setCell ⟨g, j, none⟩ v = putO w g (.cells (cur.setIfInBounds j v) e fr) := by
  simp only [World.setCell, putO]
  congr 1
  apply Array.ext_getElem?
  intro i
  rw [Array.getElem?_modify, Array.getElem?_setIfInBounds]
  by_cases hi : g = i
  · subst hi
    have hlt : g < w.heap.size := (Array.getElem?_eq_some_iff.1 h).1
    rw [h]
    simp [hlt]
  · simp [hi]

theorem run_stores (g o : Nat) (e : TypeId) (fr : Nat × Nat) : ∀ (vs : List Value) (i : Nat) (cur : Array Value) (w : World), w.heap[g]? = some (.cells cur e fr) →
    (∀ j, j < cur.size → ¬ (fr.1 ≤ j ∧ j < fr.2)) → o + i + vs.length ≤ cur.size → (∀ v ∈ vs, v.oneCell' = true) →
    (storeCells ⟨g, o, none⟩ vs i).run P w = .ok () (putO w g (.cells (cur.toList.take (o + i) ++ vs ++ cur.toList.drop (o + i + vs.length)).toArray e fr))
  | [], i, cur, w, hg, _, _, _ => by
    simp only [storeCells, List.append_nil, List.length_nil, Nat.add_zero, List.take_append_drop, Array.toArray_toList]
    rw [putO_self hg]; rfl
  | v :: rest, i, cur, w, hg, hfz, hl, h1 => by
    simp only [List.length_cons] at hl
    have hi : o + i < cur.size := by omega
    have hlt : g < w.heap.size := (Array.getElem?_eq_some_iff.1 hg).1
    have hcell : w.cell? ⟨g, o + i, none⟩ = some cur[o + i] := by simp [World.cell?, hg, hi]
    have hfro : w.frozen? ⟨g, o + i, none⟩ = false := by
      have := hfz (o + i) hi
      simp only [World.frozen?, hg]
      rw [Bool.eq_false_iff]
      intro hc
      simp only [Bool.and_eq_true, decide_eq_true_eq] at hc
      exact this hc
    have hst : (store ((⟨g, o, none⟩ : Addr).add i) v).run P w = .ok () (putO w g (.cells (cur.setIfInBounds (o + i) v) e fr)) := by
      rw [add_none, run_store P w _ v _ (h1 v (by simp)), hcell]
      simp [hfro, setCell_eq v hg]
    have ih := run_stores g o e fr rest (i + 1) (cur.setIfInBounds (o + i) v) (putO w g (.cells (cur.setIfInBounds (o + i) v) e fr)) (putO_heap_same hlt) (by simpa using hfz) (by simp; omega) (fun x hx => h1 x (by simp [hx]))
    simp only [storeCells, Sem.run_bind, hst, Result.andThen_ok, ih, putO_putO]
    congr 4
    simp only [Array.toList_setIfInBounds]
    have ho : o + i < cur.toList.length := by simpa using hi
    rw [show o + (i + 1) = o + i + 1 by omega, List.take_succ_eq_append_getElem (by simpa using ho), List.take_set_of_le (Nat.le_refl _), List.getElem_set_self]
    rw [show o + i + 1 + rest.length = o + i + (v :: rest).length by simp; omega, List.drop_set_of_lt (by simp)]
    simp
end Go.Proofs.Ytmnpnomllcghmaa.Ev
