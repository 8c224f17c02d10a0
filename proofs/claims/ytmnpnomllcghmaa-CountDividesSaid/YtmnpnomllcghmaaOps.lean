/- Each operation: what the evaluator says of it, the model does. -/
import Derived.Test.YtmnpnomllcghmaaRun
namespace Go.Proofs.Ytmnpnomllcghmaa.Ev
open Go

variable {P : Program}

/-- What the model gives on is what the evaluator says. -/
def NextIs (ρ : Nat → RB) (v : LV) : Next → Prop
  | .value v' => v = .junk ∨ v' = dec ρ v
  | .skip => v = undefL
  | _ => False

/-- An operation's run, as the evaluator says. -/
def RunsTo (P : Program) (ρ : Nat → RB) (H : Heap) (w : World) (s : Sem Next) (r : OpR) : Prop :=
  ∃ ρ' w' nx, s.run P w = .ok nx w' ∧ NextIs ρ' r.v nx ∧ Moved ρ H w ρ' r.H w' ∧ lt r.H.n r.v

/-- A real operand, of a local one. -/
def Is (ρ : Nat → RB) (l : LV) (v : Value) : Prop := l = .junk ∨ v = dec ρ l
theorem Is.eq {ρ : Nat → RB} {l : LV} {v : Value} (h : Is ρ l v) (hj : isJunk l = false) : v = dec ρ l := by
  rcases h with rfl | h
  · cases hj
  · exact h

/-- The value of a step. -/
def val (s : Sem Value) : Sem Next := do pure (.value (← s))
def unit (s : Sem Unit) : Sem Next := do s; pure .skip
theorem run_val {s : Sem Value} {w w' : World} {v : Value} (h : s.run P w = .ok v w') : (val s).run P w = .ok (.value v) w' := by
  simp [val, h]
theorem run_unit {s : Sem Unit} {w w' : World} (h : s.run P w = .ok () w') : (unit s).run P w = .ok .skip w' := by
  simp [unit, h]

theorem runsTo_pure {ρ : Nat → RB} {H : Heap} {w : World} (hs : Sat ρ H w) {s : Sem Value} {v : LV} {k : Kd} (h : s.run P w = .ok (dec ρ v) w) (hl : lt H.n v) :
    RunsTo P ρ H w (val s) ⟨v, H, k⟩ :=
  ⟨ρ, w, _, run_val h, .inr rfl, Moved.refl hs, hl⟩

theorem pureR_some {H : Heap} {o : Option LV} {r : OpR} (h : pureR H o = some r) : ∃ v, o = some v ∧ r = ⟨v, H, .pure⟩ := by
  cases o with
  | none => cases h
  | some v => exact ⟨v, rfl, by injection h with h; exact h.symm⟩
theorem loadR_some {H : Heap} {x : LV} {o : Option LV} {r : OpR} (h : loadR H x o = some r) : ∃ v k, o = some v ∧ r = ⟨v, H, k⟩ := by
  cases o with
  | none => cases h
  | some v => exact ⟨v, _, rfl, by injection h with h; exact h.symm⟩
theorem changeR_some {o : Option (LV × Heap)} {r : OpR} (h : changeR o = some r) : ∃ v H, o = some (v, H) ∧ r = ⟨v, H, .change⟩ := by
  cases o with
  | none => cases h
  | some x => exact ⟨x.1, x.2, rfl, by injection h with h; exact h.symm⟩

section
variable {ρ : Nat → RB} {H : Heap} {w : World}

theorem load_ok (hs : Sat ρ H w) {t : TypeId} {x : LV} {v : LV} (h : loadL P t H x = some v) (hx : lt H.n x) : (Instr.loadAt t (dec ρ x)).run P w = .ok (dec ρ v) w ∧ lt H.n v := by
  unfold loadL at h
  split at h
  · rename_i i o
    split at h
    · rename_i e k cs hg
      have hi : i < H.n := hx
      have ho := hs.obj i hi
      rw [hg] at ho
      refine ⟨?_, lt_partOf h (by have := hs.wf i hi; rw [hg] at this; exact this)⟩
      simp only [Instr.loadAt, dec, Instr.sureAddr, pure_bind]
      exact run_loadVar ho h
    · cases h
  · cases h

/-- A new row of cells. -/
theorem new_exact (hs : Sat ρ H w) (t : TypeId) (cs : List LV) (hl : lts H.n cs) :
    ∃ ρ', Moved ρ H w ρ' (H.push (.cells t .exact cs)) { w with heap := w.heap.push (.cells (decs ρ cs).toArray t) } ∧ ρ' H.n = ⟨w.heap.size, 0, 0, default, 0⟩ := by
  refine ⟨upRho ρ H.n ⟨w.heap.size, 0, 0, default, 0⟩, Moved.push hs _ (.cells (decs ρ cs).toArray t) _ rfl rfl rfl rfl rfl ?_ ?_, upRho_new _ _ _⟩
  · simp only [ltObj]; exact lts_mono (by omega) cs hl
  · simp only [SatObj]
    refine ⟨trivial, 0, 0, by omega, ?_⟩
    rw [decs_ext (upRho_ext ρ H.n _) cs hl]
    simp

theorem box_ok (hs : Sat ρ H w) {t : TypeId} {v : LV} {p : LV} {H' : Heap} (h : boxL t H v = some (p, H')) (hl : lt H.n v) :
    ∃ ρ' w', (do pure (.pointer (some (← newVar t (dec ρ v)))) : Sem Value).run P w = .ok (dec ρ' p) w' ∧ Moved ρ H w ρ' H' w' ∧ lt H'.n p := by
  unfold boxL at h
  replace h := cond_some' h; obtain ⟨hj, h⟩ := h
  simp only [Option.some.injEq, Prod.mk.injEq] at h
  obtain ⟨rfl, rfl⟩ := h
  obtain ⟨ρ', hm, hr⟩ := new_exact hs t (cellsOf v) (lts_cellsOf hl)
  refine ⟨ρ', _, ?_, hm, by simp only [lt, Heap.n_push]; omega⟩
  simp [newVar, newRow, dec_cells, dec, hr]

theorem store_ok (hs : Sat ρ H w) {t : TypeId} {a v : LV} {H' : Heap} (h : storeL P t H a v = some H') (ha : lt H.n a) (hv : lt H.n v) :
    ∃ w', (Instr.storeAt t (dec ρ a) (dec ρ v)).run P w = .ok () w' ∧ Moved ρ H w ρ H' w' := by
  unfold storeL at h
  replace h := cond_some' h; obtain ⟨hj, h⟩ := h
  split at h
  · rename_i i o
    split at h
    · cases h
    · rename_i e k cs hnr hg
      split at h
      · rename_i n hn
        simp only at h
        replace h := cond_some h; obtain ⟨h1, h⟩ := h
        replace h := cond_some h; obtain ⟨h2, h⟩ := h
        replace h := cond_some h; obtain ⟨h3, h⟩ := h
        replace h := cond_some h; obtain ⟨h4, h⟩ := h
        simp only [Option.some.injEq] at h
        subst h
        have hi : i < H.n := bltN.1 h4
        have h2 := beqN h2
        have h3 := Nat.le_of_ble_eq_true h3
        rw [lenL_eq] at h2 h3
        have ho := hs.obj i hi
        rw [hg] at ho
        have hown : (H.get i).owns = true := by rw [hg]; cases k <;> first | rfl | exact (hnr rfl).elim
        have hwf := hs.wf i hi
        rw [hg] at hwf
        have hlen : (setMany cs o (cellsOf v)).length = cs.length := setMany_length _ _ _ (by omega)
        have hl : ltObj H.n (.cells e k (setMany cs o (cellsOf v))) := by
          simp only [ltObj] at hwf ⊢
          rw [setMany_eq _ _ _ (by omega), lts_iff]
          rw [lts_iff] at hwf
          have hc := (lts_iff _ _).1 (lts_cellsOf hv)
          intro x hx
          simp only [List.append_assoc, List.mem_append] at hx
          rcases hx with hx | hx | hx
          · exact hwf x (List.mem_of_mem_take hx)
          · exact hc x hx
          · exact hwf x (List.mem_of_mem_drop hx)
        -- the store itself
        have main : ∀ (cur : Array Value) (fr : Nat × Nat), (ρ i).off = 0 → w.heap[(ρ i).blk]? = some (.cells cur e fr) → (∀ j, j < cur.size → ¬ (fr.1 ≤ j ∧ j < fr.2)) → cs.length ≤ cur.size →
            (Instr.storeAt t (dec ρ (.ptr i o)) (dec ρ v)).run P w = .ok () (putO w (ρ i).blk (.cells (cur.toList.take o ++ decs ρ (cellsOf v) ++ cur.toList.drop (o + n)).toArray e fr)) := by
          intro cur fr h0 hh hfr hsz
          simp only [Instr.storeAt, dec, Instr.sureAddr, pure_bind, storeVar, Sem.run_bind, run_sizeOf' hn, Result.andThen_ok, dec_cells, h0, Nat.zero_add]
          have hc : (decs ρ (cellsOf v)).length = n := by rw [decs_length]; exact h2
          simp only [List.size_toArray, hc, ne_eq, not_true_eq_false, if_false]
          have := run_stores (P := P) (ρ i).blk o e fr (decs ρ (cellsOf v)) 0 cur w hh hfr (by omega) (by
            intro x hx
            rw [decs_eq, List.mem_map] at hx
            obtain ⟨y, hy, rfl⟩ := hx
            exact dec_oneCell ρ (allOne_mem h1 y hy))
          simp only [Nat.add_zero, hc] at this
          exact this
        have hdec : decs ρ (setMany cs o (cellsOf v)) = (decs ρ cs).take o ++ decs ρ (cellsOf v) ++ (decs ρ cs).drop (o + n) := by
          rw [setMany_eq _ _ _ (by omega)]
          simp only [decs_eq, List.map_append, List.map_take, List.map_drop]
          rw [h2]
        have hblk := hs.inside i hi (LObj.sits_of_owns hown)
        cases k with
        | ro => exact (hnr rfl).elim
        | exact =>
          obtain ⟨h0, lo, hi', hfr, hh⟩ := ho
          refine ⟨_, main _ _ h0 hh (by simpa [decs_length] using hfr) (by simp [decs_length]), ?_⟩
          refine Moved.put hs hi hown _ (fun b hb => putO_heap_other hb) (by simp [putO]) rfl rfl rfl hl ?_
          refine ⟨h0, lo, hi', by rw [hlen]; exact hfr, ?_⟩
          rw [putO_heap_same hblk, hdec]
        | grow sz =>
          obtain ⟨h0, lo, hi', spare, hfr, hc1, hcap, hh⟩ := ho
          refine ⟨_, main _ _ h0 hh (by simpa [decs_length] using hfr) (by simp [decs_length]), ?_⟩
          refine Moved.put hs hi hown _ (fun b hb => putO_heap_other hb) (by simp [putO]) rfl rfl rfl hl ?_
          refine ⟨h0, lo, hi', spare, by rw [hlen]; exact hfr, by rw [hlen]; exact hc1, by rw [hlen]; exact hcap, ?_⟩
          rw [putO_heap_same hblk, hdec]
          have hb : o + n ≤ (decs ρ cs).length := by rw [decs_length]; omega
          simp only [List.take_append_of_le_length (show o ≤ (decs ρ cs).length by omega), List.drop_append_of_le_length hb, List.append_assoc]
      · cases h
    · cases h
  · cases h
end
end Go.Proofs.Ytmnpnomllcghmaa.Ev
