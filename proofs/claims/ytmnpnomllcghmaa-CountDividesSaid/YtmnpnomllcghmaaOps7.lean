/- Appending and copying. -/
import Derived.Test.YtmnpnomllcghmaaOps6
namespace Go.Proofs.Ytmnpnomllcghmaa.Ev
open Go

variable {P : Program} {ρ : Nat → RB} {H : Heap} {w : World}

theorem growBy_le (need : Nat) : ∀ (r c : Nat), Builtin.growBy need r c + 768 ≤ 2 ^ r * (c + 768)
  | 0, c => by simp [Builtin.growBy]
  | r + 1, c => by
    unfold Builtin.growBy
    split
    · have : 1 ≤ 2 ^ (r + 1) := Nat.one_le_two_pow
      calc c + 768 = 1 * (c + 768) := by omega
        _ ≤ 2 ^ (r + 1) * (c + 768) := Nat.mul_le_mul_right _ this
    · have h := growBy_le need r (c + (c + 768) / 4)
      have h2 : c + (c + 768) / 4 + 768 ≤ 2 * (c + 768) := by omega
      calc _ ≤ 2 ^ r * (c + (c + 768) / 4 + 768) := h
        _ ≤ 2 ^ r * (2 * (c + 768)) := Nat.mul_le_mul_left _ h2
        _ = 2 ^ (r + 1) * (c + 768) := by rw [Nat.pow_succ, Nat.mul_assoc]
theorem nextcap_le {need cap : Nat} (h : cap < need) : Builtin.nextslicecap need cap ≤ 16 * (need + 768) := by
  unfold Builtin.nextslicecap
  split
  · omega
  · split
    · omega
    · have := growBy_le need 4 cap
      omega
theorem nextcap_ok {need cap bytes : Nat} (h : cap < need) (h1 : need * bytes ≤ 1099511627776) (h2 : bytes ≤ 1048576) : ¬ (Builtin.nextslicecap need cap * bytes > 2 ^ 48) := by
  have h3 := Nat.mul_le_mul_right bytes (nextcap_le h)
  rw [Nat.mul_assoc, Nat.add_mul] at h3
  omega

theorem notInt_ok {t : TypeId} (h : notInt P t = true) : ∃ d, P.underlying t = some d ∧ ∀ k, d ≠ .int k := by
  unfold notInt at h
  cases hu : P.underlying t with
  | none => rw [hu] at h; cases h
  | some d =>
    rw [hu] at h
    exact ⟨d, rfl, fun k hk => by subst hk; cases h⟩

/-- Where there is no room: a new row. -/
theorem append_grows {t xt ty elem : TypeId} {ats : Array TypeId} {size n sLen sCap bytes : Nat} {base : Option Addr} {X zero : Value} {old new : Array Value} {i : TypeInfo}
    (h0 : ats[0]? = some t) (h1 : ats[1]? = some xt) (hu : P.underlying t = some (.slice elem)) (hi : notInt P xt = true) (hsz : sizeOfT P elem = some size)
    (hb : P.info? elem = some i) (hbytes : i.bytes = bytes) (hz : (zeroValue elem).run P w = .ok zero w) (hzero : ∀ w, (zeroValue elem).run P w = .ok zero w) (hn : (Builtin.lenOf X).run P w = .ok n w)
    (hno : ¬ sLen + n ≤ sCap) (hold : ∀ w', w'.heap = w.heap → (Builtin.firstCells size sLen (.slice base sLen sCap)).run P w' = .ok old w')
    (hnew : ∀ w', w'.heap = w.heap → (Builtin.firstCells size n X).run P w' = .ok new w')
    (hb1 : (sLen + n) * bytes ≤ 1099511627776) (hb2 : bytes ≤ 1048576) (hpos : bytes ≠ 0 ∨ (sLen + n : Int) ≤ IntKind.i64.max) :
    ∃ cap, sLen + n ≤ cap ∧ (Builtin.append_ ats ty #[.slice base sLen sCap, X]).run P w =
      .ok (.slice (some ⟨w.heap.size, 0, none⟩) (sLen + n) cap) { w with heap := w.heap.push (.cells (old ++ new ++ Builtin.zeroCells zero.cells (cap - (sLen + n))) elem), drawn := w.drawn + 1 } := by
  obtain ⟨d, hd, hd'⟩ := notInt_ok hi
  subst hbytes
  refine ⟨(Question.appendCap (sLen + n) sCap elem).cut (w.tape w.drawn (Question.appendCap (sLen + n) sCap elem)), by simp only [Question.cut]; omega, ?_⟩
  unfold Builtin.append_
  simp only [h0, h1, List.getElem?_toArray, List.getElem?_cons_zero, List.getElem?_cons_succ, Sem.run_bind, run_underlying hu, Result.andThen_ok, run_sizeOf' hsz, run_underlying hd, Sem.run_pure]
  cases d <;> first
    | exact absurd rfl (hd' _)
    | (simp only [Bool.false_eq_true, if_false, Sem.run_bind, hn, Result.andThen_ok, Bool.not_false, if_true]
       rw [if_neg hno]
       simp only [run_typeInfo' hb, Sem.run_bind, Result.andThen_ok]
       rw [if_neg (by
         rintro ⟨ha, hc | hc⟩
         · exact hc
         · rcases hpos with hp | hp
           · exact hp hc
           · omega)]
       simp only [Sem.run_bind, run_typeInfo' hb, Result.andThen_ok]
       rw [if_neg (nextcap_ok (by omega) hb1 hb2)]
       simp only [Sem.run_bind, run_choose, Question.forced, Bool.false_eq_true, if_false, Result.andThen_ok, run_typeInfo' hb, run_askRoom]
       rw [hold { w with drawn := w.drawn + 1 } rfl]
       simp only [Result.andThen_ok]
       rw [hnew { w with drawn := w.drawn + 1 } rfl]
       simp only [Result.andThen_ok, hzero, newRow, Sem.run_bind, run_newObj, Sem.run_pure])

/-- Where there is room: it is written. -/
theorem append_fits {t xt ty elem : TypeId} {ats : Array TypeId} {size n sLen sCap : Nat} {base : Option Addr} {X : Value} {new : Array Value}
    (h0 : ats[0]? = some t) (h1 : ats[1]? = some xt) (hu : P.underlying t = some (.slice elem)) (hi : notInt P xt = true) (hsz : sizeOfT P elem = some size)
    (hn : (Builtin.lenOf X).run P w = .ok n w) (hyes : sLen + n ≤ sCap) (hnew : (Builtin.firstCells size n X).run P w = .ok new w) {w' : World}
    (hw : match base with | some a => (storeCells (a.add (sLen * size)) new.toList).run P w = .ok () w' | none => w' = w) :
    (Builtin.append_ ats ty #[.slice base sLen sCap, X]).run P w = .ok (.slice base (sLen + n) sCap) w' := by
  obtain ⟨d, hd, hd'⟩ := notInt_ok hi
  unfold Builtin.append_
  simp only [h0, h1, List.getElem?_toArray, List.getElem?_cons_zero, List.getElem?_cons_succ, Sem.run_bind, run_underlying hu, Result.andThen_ok, run_sizeOf' hsz, run_underlying hd, Sem.run_pure]
  cases d <;> first
    | exact absurd rfl (hd' _)
    | (simp only [Bool.false_eq_true, if_false, Sem.run_bind, hn, Result.andThen_ok, Bool.not_false, if_true]
       rw [if_pos hyes]
       simp only [Sem.run_bind, hnew, Result.andThen_ok]
       cases base with
       | none => simp only at hw; subst hw; rfl
       | some a => simp only [Sem.run_bind] at hw ⊢; rw [hw]; rfl)

theorem zeroCells_length (z : Array Value) (n : Nat) : (Builtin.zeroCells z n).size = n * z.size := by simp [Builtin.zeroCells]

theorem grownL_some {elem : TypeId} {n : Nat} {cs : List LV} {v : LV} {H' : Heap} (h : grownL P elem H n cs = some (v, H')) :
    ∃ i z, P.info? elem = some i ∧ zeroOf P elem = some z ∧ n * i.bytes ≤ 1099511627776 ∧ i.bytes ≤ 1048576 ∧ (cellsOf z).length = i.size ∧ i.bytes ≠ 0 ∧ v = .slice H.n 0 n (.rest 0) ∧ H' = H.push (.cells elem (.grow i.size) cs) := by
  unfold grownL at h
  split at h
  · rename_i i z hi hz
    replace h := cond_some h; obtain ⟨h1, h⟩ := h
    replace h := cond_some h; obtain ⟨h2, h⟩ := h
    replace h := cond_some h; obtain ⟨h3, h⟩ := h
    replace h := cond_some h; obtain ⟨h4, h⟩ := h
    have h1 := Nat.le_of_ble_eq_true h1
    have h2 := Nat.le_of_ble_eq_true h2
    have h3 := beqN h3
    have h4 := bltN.1 h4
    rw [lenL_eq] at h3
    injection h with h; injection h with ha hb; subst ha; subst hb
    exact ⟨i, z, hi, hz, h1, h2, h3, by omega, rfl, rfl⟩
  · cases h

/-- A new row that grows. -/
theorem new_grow (hs : Sat ρ H w) {elem : TypeId} {size cap m : Nat} {cs : List LV} {spare : List Value} (hl : lts H.n cs) (h1 : cs.length ≤ cap * size) (h2 : cap * size ≤ cs.length + spare.length) {w' : World}
    (hw : w'.heap = w.heap.push (.cells (decs ρ cs ++ spare).toArray elem)) (hos : w'.os = w.os) (ht : w'.tape = w.tape) (hp : w'.output = w.output) :
    ∃ ρ', Moved ρ H w ρ' (H.push (.cells elem (.grow size) cs)) w' ∧ dec ρ' (.slice H.n 0 m (.rest 0)) = .slice (some ⟨w.heap.size, 0, none⟩) m cap := by
  refine ⟨upRho ρ H.n ⟨w.heap.size, 0, cap, default, 0⟩, Moved.push hs _ (.cells (decs ρ cs ++ spare).toArray elem) _ rfl hw hos ht hp (lts_mono (by omega) cs hl) ?_, by simp [dec, upRho_new, capOf]⟩
  refine ⟨rfl, 0, 0, spare, by omega, h1, h2, ?_⟩
  rw [decs_ext (upRho_ext ρ H.n _) cs hl, hw]
  simp

theorem sizeOf_info {elem : TypeId} {size : Nat} {i : TypeInfo} (h : sizeOfT P elem = some size) (hi : P.info? elem = some i) : i.size = size := by
  simp [sizeOfT, hi] at h; exact h

theorem append_ok (hs : Sat ρ H w) {t xt ty : TypeId} {ats : Array TypeId} {s x v : LV} {H' : Heap} (h0 : ats[0]? = some t) (h1 : ats[1]? = some xt) (h : appendL P t xt s x H = some (v, H')) (hls : lt H.n s) (hlx : lt H.n x) :
    ∃ ρ' w', (Builtin.append_ ats ty #[dec ρ s, dec ρ x]).run P w = .ok (dec ρ' v) w' ∧ Moved ρ H w ρ' H' w' ∧ lt H'.n v := by
  unfold appendL at h
  replace h := cond_some h; obtain ⟨hni, h⟩ := h
  split at h
  · rename_i elem hu
    split at h
    · cases h
    · rename_i size hsz
      split at h
      · cases h
      · rename_i n hn
        replace h := cond_some' h; obtain ⟨hsize, h⟩ := h
        replace h := cond_some' h; obtain ⟨hstr, h⟩ := h
        have hsize := beqN_false hsize
        split at h
        · cases h
        · rename_i new hnew
          have hlen : ∀ w, (Builtin.lenOf (dec ρ x)).run P w = .ok n w := fun w => lenV_ok hn
          have hst : isStr x = true → size = 1 := fun hx => by
            rw [hx] at hstr
            simp only [Bool.true_and, Bool.not_eq_false'] at hstr
            exact beqN hstr
          have hnl := cellsAt_length hnew
          have hnlt := cellsAt_lt hs hnew hlx
          have hemp : n * size = 0 ∨ ∀ i, x ≠ .emp i := by
            by_cases hx : ∃ i, x = .emp i
            · obtain ⟨i, rfl⟩ := hx
              left
              injection hn with hn
              rw [← hn]; simp
            · exact .inr fun i hi => hx ⟨i, hi⟩
          have hfirst : ∀ w', w'.heap = w.heap → (Builtin.firstCells size n (dec ρ x)).run P w' = .ok (decs ρ new).toArray w' := fun w' hw' => firstCells_ok (P := P) (hs.drawn hw') hnew hlx hst hemp
          -- a new row, whatever the old one
          have grow : ∀ (sLen sCap : Nat) (base : Option Addr) (old : List LV) (H1 : Heap) (m : Nat), dec ρ s = .slice base sLen sCap → ¬ sLen + n ≤ sCap →
              (∀ w', w'.heap = w.heap → (Builtin.firstCells size sLen (.slice base sLen sCap)).run P w' = .ok (decs ρ old).toArray w') → old.length = sLen * size → lts H.n old → m = sLen + n →
              Moved ρ H w ρ H1 w → H1.n = H.n → grownL P elem H1 m (old ++ new) = some (v, H') →
              ∃ ρ' w', (Builtin.append_ ats ty #[dec ρ s, dec ρ x]).run P w = .ok (dec ρ' v) w' ∧ Moved ρ H w ρ' H' w' ∧ lt H'.n v := by
            intro sLen sCap base old H1 m hds hno hold hol hollt hm hmv hH1 hg
            subst hm
            obtain ⟨i, z, hi, hz, hb1, hb2, hzl, hb0, rfl, rfl⟩ := grownL_some hg
            have his := sizeOf_info hsz hi
            obtain ⟨cap, hcap, hrun⟩ := append_grows (P := P) (w := w) (ty := ty) (X := dec ρ x) h0 h1 hu hni hsz hi rfl (run_zeroOf hz ρ w).1 (fun w => (run_zeroOf hz ρ w).1) (hlen w) hno hold hfirst hb1 hb2 (.inl hb0)
            have hzs : (dec ρ z).cells.size = size := by rw [dec_cells]; simp [decs_length, hzl, his]
            have hlnew : (old ++ new).length = (sLen + n) * size := by rw [List.length_append, hol, hnl, Nat.add_mul]
            have hle : (sLen + n) * size ≤ cap * size := Nat.mul_le_mul_right _ hcap
            obtain ⟨ρ', hmv', hdec⟩ := new_grow (m := sLen + n) (cap := cap) (size := size) (cs := old ++ new) (spare := (Builtin.zeroCells (dec ρ z).cells (cap - (sLen + n))).toList) (elem := elem) hmv.sat
              (by rw [hH1, lts_iff]; rw [lts_iff] at hollt hnlt; intro y hy; rcases List.mem_append.1 hy with hy | hy; exact hollt y hy; exact hnlt y hy) (by omega)
              (by rw [hlnew, Array.length_toList, zeroCells_length, hzs, ← Nat.add_mul]; exact Nat.mul_le_mul_right _ (by omega))
              (w' := { w with heap := w.heap.push (.cells ((decs ρ old).toArray ++ (decs ρ new).toArray ++ Builtin.zeroCells (dec ρ z).cells (cap - (sLen + n))) elem), drawn := w.drawn + 1 })
              (by simp only; congr 2; apply Array.ext'; simp [decs_eq]) rfl rfl rfl
            refine ⟨ρ', _, ?_, hmv.trans (by rw [← his] at hmv'; exact hmv'), by simp only [lt, Heap.n_push]; omega⟩
            rw [hds, hrun, hdec]
          unfold appendTo at h
          split at h
          · -- onto nil
            cases hn0 : Nat.beq n 0 with
            | true =>
              rw [hn0] at h
              simp only [cond_true] at h
              have := beqN hn0; subst this
              injection h with h; injection h with ha hb; subst ha; subst hb
              refine ⟨ρ, w, ?_, Moved.refl hs, trivial⟩
              exact append_fits (P := P) h0 h1 hu hni hsz (hlen w) (by simp) (hfirst w rfl) (base := none) (sLen := 0) (sCap := 0) rfl
            | false =>
              rw [hn0] at h
              simp only [cond_false] at h
              have hn0 := beqN_false hn0
              exact grow 0 0 none [] H n rfl (by omega) (fun w' _ => rfl) (by simp) trivial (by omega) (Moved.refl hs) rfl (by simpa using h)
          · rename_i j o l c
            split at h
            · rename_i e own cs hg
              replace h := cond_some h; obtain ⟨hj, h⟩ := h
              replace h := cond_some h; obtain ⟨hle, h⟩ := h
              have hj : j < H.n := bltN.1 hj
              have hle := Nat.le_of_ble_eq_true hle
              rw [lenL_eq] at hle
              have ho := hs.obj j hj
              rw [hg] at ho
              have hwf := hs.wf j hj
              rw [hg] at hwf
              have hold : ∀ sCap w', w'.heap = w.heap → (Builtin.firstCells size l (.slice (some ⟨(ρ j).blk, (ρ j).off + o, none⟩) l sCap)).run P w' = .ok (decs ρ ((cs.drop o).take (l * size))).toArray w' :=
                fun sCap w' hw' => run_cells (ho.world fun _ => by rw [hw']) o (l * size) hle
              have hollt : lts H.n ((cs.drop o).take (l * size)) := by
                rw [lts_iff]; simp only [ltObj] at hwf; rw [lts_iff] at hwf
                intro y hy; exact hwf y (List.mem_of_mem_drop (List.mem_of_mem_take hy))
              have hol : ((cs.drop o).take (l * size)).length = l * size := by simp; omega
              have hown : own ≠ .ro → (H.get j).owns = true := by rw [hg]; cases own <;> simp [LObj.owns]
              split at h
              · rename_i cap
                cases hc : Nat.ble (l + n) cap with
                | false =>
                  rw [hc] at h
                  simp only [cond_false] at h
                  rw [app_eq, takeN_eq, dropN_eq] at h
                  refine grow l cap _ _ H (l + n) rfl ?_ (hold cap) hol hollt rfl (Moved.refl hs) rfl h
                  intro hc'; rw [Nat.ble_eq_true_of_le hc'] at hc; cases hc
                | true =>
                  rw [hc] at h
                  simp only [cond_true] at h
                  have hc := Nat.le_of_ble_eq_true hc
                  cases hn0 : Nat.beq n 0 with
                  | true =>
                    rw [hn0] at h
                    simp only [cond_true] at h
                    have := beqN hn0; subst this
                    injection h with h; injection h with ha hb; subst ha; subst hb
                    refine ⟨ρ, w, ?_, Moved.refl hs, hls⟩
                    have h00 : new = [] := by cases new with | nil => rfl | cons a b => simp at hnl
                    subst h00
                    have := append_fits (P := P) (ty := ty) h0 h1 hu hni hsz (hlen w) (by omega) (hfirst w rfl) (base := some ⟨(ρ j).blk, (ρ j).off + o, none⟩) (sLen := l) (sCap := cap) (w' := w) (by simp [decs, storeCells])
                    simpa [dec, capOf] using this
                  | false =>
                    rw [hn0] at h
                    simp only [cond_false] at h
                    split at h
                    · replace h := cond_some h; obtain ⟨hfit, h⟩ := h
                      replace h := cond_some h; obtain ⟨hone, h⟩ := h
                      have hfit := Nat.le_of_ble_eq_true hfit
                      rw [lenL_eq, Nat.add_mul] at hfit
                      injection h with h; injection h with ha hb; subst ha; subst hb
                      obtain ⟨hoff, lo, hi, hfr, hh⟩ := ho
                      have hst := run_stores (P := P) (ρ j).blk (o + l * size) e (lo, hi) (decs ρ new) 0 (decs ρ cs).toArray w hh (by simpa [decs_length] using hfr) (by simp [decs_length]; omega) (by
                        intro y hy
                        rw [decs_eq, List.mem_map] at hy
                        obtain ⟨z, hz, rfl⟩ := hy
                        exact dec_oneCell ρ (allOne_mem hone z hz))
                      simp only [Nat.add_zero, decs_length] at hst
                      have hblk := hs.inside j hj (by rw [hg]; rfl)
                      refine ⟨ρ, putO w (ρ j).blk (.cells ((decs ρ cs).take (o + l * size) ++ decs ρ new ++ (decs ρ cs).drop (o + l * size + new.length)).toArray e (lo, hi)), ?_, Moved.put hs hj (hown (by simp)) _ (fun b hb => putO_heap_other hb) (by simp [putO]) rfl rfl rfl ?_ ?_, hls⟩
                      · have := append_fits (P := P) (ty := ty) h0 h1 hu hni hsz (hlen w) hc (hfirst w rfl) (base := some ⟨(ρ j).blk, (ρ j).off + o, none⟩) (sLen := l) (sCap := cap) (by
                          simp only [hoff, Nat.zero_add, add_none]; exact hst)
                        simpa [dec, capOf] using this
                      · simp only [ltObj] at hwf ⊢
                        rw [setMany_eq _ _ _ (by omega), lts_iff]
                        rw [lts_iff] at hwf hnlt
                        intro y hy
                        simp only [List.append_assoc, List.mem_append] at hy
                        rcases hy with hy | hy | hy
                        · exact hwf y (List.mem_of_mem_take hy)
                        · exact hnlt y hy
                        · exact hwf y (List.mem_of_mem_drop hy)
                      · have hlen' : (setMany cs (o + l * size) new).length = cs.length := setMany_length _ _ _ (by omega)
                        refine ⟨hoff, lo, hi, by rw [hlen']; exact hfr, ?_⟩
                        rw [putO_heap_same hblk, setMany_eq _ _ _ (by omega)]
                        simp [decs_eq]
                    · cases h
              · rename_i k
                split at h
                · rename_i sz
                  replace h := cond_some h; obtain ⟨hsz', h⟩ := h
                  replace h := cond_some h; obtain ⟨hel, h⟩ := h
                  replace h := cond_some h; obtain ⟨ho0, h⟩ := h
                  replace h := cond_some h; obtain ⟨hk0, h⟩ := h
                  replace h := cond_some h; obtain ⟨hone, h⟩ := h
                  have := beqN hsz'; subst this
                  have := beqN hel; subst this
                  have := beqN ho0; subst this
                  have := beqN hk0; subst this
                  obtain ⟨hoff, lo, hi, spare, hfr, hcap1, hcap2, hh⟩ := ho
                  have hcapl : l ≤ (ρ j).cap := by
                    have : l * sz ≤ (ρ j).cap * sz := by omega
                    exact Nat.le_of_mul_le_mul_right this (by omega)
                  cases hn0 : Nat.beq n 0 with
                  | true =>
                    rw [hn0] at h
                    simp only [cond_true] at h
                    have := beqN hn0; subst this
                    injection h with h; injection h with ha hb; subst ha; subst hb
                    refine ⟨ρ, w, ?_, Moved.refl hs, hls⟩
                    have h00 : new = [] := by cases new with | nil => rfl | cons a b => simp at hnl
                    subst h00
                    have := append_fits (P := P) (ty := ty) h0 h1 hu hni hsz (hlen w) (by omega) (hfirst w rfl) (base := some ⟨(ρ j).blk, (ρ j).off + 0, none⟩) (sLen := l) (sCap := (ρ j).cap) (w' := w) (by simp [decs, storeCells])
                    simpa [dec, capOf] using this
                  | false =>
                    rw [hn0] at h
                    simp only [cond_false] at h
                    have hn0 := beqN_false hn0
                    rw [app_eq, takeN_eq] at h
                    have hkill := Moved.kill hs j
                    by_cases hfits : l + n ≤ (ρ j).cap
                    · -- there is room: the new row lies where the old one did
                      obtain ⟨i, z, hi', hz, hb1, hb2, hzl, hb0, rfl, rfl⟩ := grownL_some h
                      have his := sizeOf_info hsz hi'
                      have hroom : (l + n) * sz ≤ cs.length + spare.length := Nat.le_trans (Nat.mul_le_mul_right _ hfits) hcap2
                      rw [Nat.add_mul] at hroom
                      have hst := run_stores (P := P) (ρ j).blk (l * sz) e (lo, hi) (decs ρ new) 0 (decs ρ cs ++ spare).toArray w hh (by simpa [decs_length] using hfr) (by simp [decs_length]; omega) (by
                        intro y hy
                        rw [decs_eq, List.mem_map] at hy
                        obtain ⟨z, hz, rfl⟩ := hy
                        exact dec_oneCell ρ (allOne_mem hone z hz))
                      simp only [Nat.add_zero, decs_length] at hst
                      have hblk := hs.inside j hj (by rw [hg]; rfl)
                      have hnew' : lts H.n (cs.take (l * sz) ++ new) := by
                        simp only [ltObj] at hwf
                        rw [lts_iff] at hwf hnlt ⊢
                        intro y hy
                        rcases List.mem_append.1 hy with hy | hy
                        · exact hwf y (List.mem_of_mem_take hy)
                        · exact hnlt y hy
                      have hln : (cs.take (l * sz) ++ new).length = (l + n) * sz := by
                        rw [List.length_append, List.length_take, hnl, Nat.add_mul]; omega
                      refine ⟨upRho ρ H.n ⟨(ρ j).blk, 0, (ρ j).cap, default, 0⟩, putO w (ρ j).blk (.cells ((decs ρ cs ++ spare).take (l * sz) ++ decs ρ new ++ (decs ρ cs ++ spare).drop (l * sz + new.length)).toArray e (lo, hi)), ?_,
                        Moved.succeed hs hj (hown (by simp)) _ _ rfl (fun b hb => putO_heap_other hb) (by simp [putO]) rfl rfl rfl (lts_mono (by omega) _ hnew') ?_, by simp only [lt, Heap.n_push]; omega⟩
                      · have := append_fits (P := P) (ty := ty) h0 h1 hu hni hsz (hlen w) hfits (hfirst w rfl) (base := some ⟨(ρ j).blk, (ρ j).off + 0, none⟩) (sLen := l) (sCap := (ρ j).cap) (by
                          simp only [hoff, Nat.zero_add, add_none]; exact hst)
                        simp only [dec, capOf, Nat.sub_zero] at this ⊢
                        rw [this]
                        simp [Heap.n_put, upRho_new, hoff]
                      · refine ⟨rfl, lo, hi, (decs ρ cs ++ spare).drop (l * sz + new.length), ?_, ?_, ?_, ?_⟩
                        · intro q hq
                          refine hfr q ?_
                          rw [hln] at hq
                          simp only [List.length_drop, List.length_append, decs_length, hnl] at hq
                          rw [Nat.add_mul] at hq
                          omega
                        · rw [hln, his]; exact Nat.mul_le_mul_right _ hfits
                        · rw [hln, his]
                          simp only [List.length_drop, List.length_append, decs_length, hnl]
                          rw [Nat.add_mul]
                          omega
                        · rw [putO_heap_same hblk, decs_ext (upRho_ext ρ H.n _) _ hnew']
                          congr 3
                          simp only [decs_eq, List.map_append, List.map_take]
                          rw [List.take_append_of_le_length (by simp; omega)]
                    · refine grow l (ρ j).cap (some ⟨(ρ j).blk, (ρ j).off + 0, none⟩) (cs.take (l * sz)) _ (l + n) rfl hfits ?_ (by simp; omega) ?_ rfl hkill (by rw [Heap.n_put]) h
                      · intro w' hw'
                        have := hold (ρ j).cap w' hw'
                        simpa using this
                      · simpa using hollt
                · cases h
            · cases h
          · cases h
  · cases h

theorem copy_ok (hs : Sat ρ H w) {t ty : TypeId} {ats : Array TypeId} {d x v : LV} {H' : Heap} (h0 : ats[0]? = some t) (h : copyL P t d x H = some (v, H')) (hld : lt H.n d) (hlx : lt H.n x) :
    ∃ w', (Builtin.copy_ ats ty #[dec ρ d, dec ρ x]).run P w = .ok (dec ρ v) w' ∧ Moved ρ H w ρ H' w' ∧ lt H'.n v := by
  unfold copyL at h
  split at h
  · rename_i elem hu
    split at h
    · cases h
    · rename_i size hsz
      split at h
      · cases h
      · rename_i n hn
        have hlen : (Builtin.lenOf (dec ρ x)).run P w = .ok n w := lenV_ok hn
        split at h
        · rename_i j o m c
          replace h := cond_some' h; obtain ⟨hstr, h⟩ := h
          split at h
          · cases h
          · rename_i new hnew
            split at h
            · cases h
            · rename_i e own cs hnr hg
              replace h := cond_some h; obtain ⟨hle, h⟩ := h
              replace h := cond_some h; obtain ⟨hj, h⟩ := h
              replace h := cond_some h; obtain ⟨hone, h⟩ := h
              have hle := Nat.le_of_ble_eq_true hle
              rw [lenL_eq] at hle
              have hj : j < H.n := bltN.1 hj
              injection h with h; injection h with ha hb; subst ha; subst hb
              have hnl := cellsAt_length hnew
              have hnlt := cellsAt_lt hs hnew hlx
              have hst : isStr x = true → size = 1 := fun hx => by
                rw [hx] at hstr
                simp only [Bool.true_and, Bool.not_eq_false'] at hstr
                exact beqN hstr
              have hemp : Nat.min n m * size = 0 ∨ ∀ i, x ≠ .emp i := by
                by_cases hx : ∃ i, x = .emp i
                · obtain ⟨i, rfl⟩ := hx
                  left
                  injection hn with hn
                  rw [← hn]; simp
                · exact .inr fun i hi => hx ⟨i, hi⟩
              have hfirst := firstCells_ok (P := P) hs hnew hlx hst hemp
              have ho := hs.obj j hj
              rw [hg] at ho
              have hwf := hs.wf j hj
              rw [hg] at hwf
              have hown : (H.get j).owns = true := by rw [hg]; cases own <;> first | rfl | exact (hnr rfl).elim
              have hblk := hs.inside j hj (LObj.sits_of_owns hown)
              have hlen' : (setMany cs o new).length = cs.length := setMany_length _ _ _ (by omega)
              have hl : ltObj H.n (.cells e own (setMany cs o new)) := by
                simp only [ltObj] at hwf ⊢
                rw [setMany_eq _ _ _ (by omega), lts_iff]
                rw [lts_iff] at hwf hnlt
                intro y hy
                simp only [List.append_assoc, List.mem_append] at hy
                rcases hy with hy | hy | hy
                · exact hwf y (List.mem_of_mem_take hy)
                · exact hnlt y hy
                · exact hwf y (List.mem_of_mem_drop hy)
              have main : ∀ (cur : Array Value) (fr : Nat × Nat), (ρ j).off = 0 → w.heap[(ρ j).blk]? = some (.cells cur e fr) → (∀ q, q < cur.size → ¬ (fr.1 ≤ q ∧ q < fr.2)) → cs.length ≤ cur.size →
                  (Builtin.copy_ ats ty #[dec ρ (.slice j o m c), dec ρ x]).run P w = .ok (.int .i64 (Nat.min n m : Nat)) (putO w (ρ j).blk (.cells (cur.toList.take o ++ decs ρ new ++ cur.toList.drop (o + new.length)).toArray e fr)) := by
                intro cur fr hoff hh hfr hsz'
                have hst := run_stores (P := P) (ρ j).blk o e fr (decs ρ new) 0 cur w hh hfr (by simp only [decs_length]; omega) (by
                  intro y hy
                  rw [decs_eq, List.mem_map] at hy
                  obtain ⟨z, hz, rfl⟩ := hy
                  exact dec_oneCell ρ (allOne_mem hone z hz))
                simp only [Nat.add_zero, decs_length] at hst
                unfold Builtin.copy_
                simp only [h0, List.getElem?_toArray, List.getElem?_cons_zero, List.getElem?_cons_succ, Sem.run_bind, run_underlying hu, Result.andThen_ok, dec, hlen, run_sizeOf' hsz, hfirst, hoff, Nat.zero_add, hst, Sem.run_pure]
                rfl
              have hdec : decs ρ (setMany cs o new) = (decs ρ cs).take o ++ decs ρ new ++ (decs ρ cs).drop (o + new.length) := by
                rw [setMany_eq _ _ _ (by omega)]
                simp only [decs_eq, List.map_append, List.map_take, List.map_drop]
              cases own with
              | ro => exact (hnr rfl).elim
              | exact =>
                obtain ⟨hoff, lo, hi, hfr, hh⟩ := ho
                refine ⟨_, main _ _ hoff hh (by simpa [decs_length] using hfr) (by simp [decs_length]), ?_, trivial⟩
                refine Moved.put hs hj hown _ (fun b hb => putO_heap_other hb) (by simp [putO]) rfl rfl rfl hl ?_
                exact ⟨hoff, lo, hi, by rw [hlen']; exact hfr, by rw [putO_heap_same hblk, hdec]⟩
              | grow sz =>
                obtain ⟨hoff, lo, hi, spare, hfr, hc1, hc2, hh⟩ := ho
                refine ⟨_, main _ _ hoff hh (by simpa [decs_length] using hfr) (by simp [decs_length]), ?_, trivial⟩
                refine Moved.put hs hj hown _ (fun b hb => putO_heap_other hb) (by simp [putO]) rfl rfl rfl hl ?_
                refine ⟨hoff, lo, hi, spare, by rw [hlen']; exact hfr, by rw [hlen']; exact hc1, by rw [hlen']; exact hc2, ?_⟩
                rw [putO_heap_same hblk, hdec]
                have hb : o + new.length ≤ (decs ρ cs).length := by rw [decs_length]; omega
                simp only [List.take_append_of_le_length (show o ≤ (decs ρ cs).length by omega), List.drop_append_of_le_length hb, List.append_assoc]
            · cases h
        · cases h
  · cases h
end Go.Proofs.Ytmnpnomllcghmaa.Ev
