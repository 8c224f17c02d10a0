/- Contracts that are written out, within a heap. -/
import Derived.Test.YtmnpnomllcghmaaFrm3
namespace Go.Proofs.Ytmnpnomllcghmaa.Ev
open Go

mutual
theorem sameV_map (σ : Nat → Nat) : ∀ v, sameV σ v (mapV σ v) := by
  intro v
  cases v <;> simp only [mapV, sameV, true_and, and_self] <;> first
    | trivial
    | exact ⟨rfl, rfl⟩
    | exact ⟨rfl, rfl, rfl, rfl⟩
    | exact sameV_map σ _
    | exact sameVs_map σ _
    | (refine ⟨?_, sameVs_map σ _, sameVs_map σ _⟩; rename_i f _ _; cases f <;> simp [mapFn, sameFn])
theorem sameVs_map (σ : Nat → Nat) : ∀ l, sameVs σ l (mapVs σ l) := by
  intro l
  cases l with
  | nil => simp [mapVs, sameVs]
  | cons v vs => simp only [mapVs, sameVs]; exact ⟨sameV_map σ v, sameVs_map σ vs⟩
end
mutual
theorem sameV_refl : ∀ v, sameV id v v := by
  intro v
  cases v <;> simp only [sameV, true_and, and_self, id_eq] <;> first
    | trivial
    | exact ⟨rfl, rfl⟩
    | exact ⟨rfl, rfl, rfl, rfl⟩
    | exact sameV_refl _
    | exact sameVs_refl _
    | (refine ⟨?_, sameVs_refl _, sameVs_refl _⟩; rename_i f _ _; cases f <;> simp [sameFn])
theorem sameVs_refl : ∀ l, sameVs id l l := by
  intro l
  cases l with
  | nil => simp [sameVs]
  | cons v vs => simp only [sameVs]; exact ⟨sameV_refl v, sameVs_refl vs⟩
end
theorem sameEnts_map (σ : Nat → Nat) : ∀ l, sameEnts σ l (mapEnts σ l)
  | [] => by simp [mapEnts, sameEnts]
  | e :: es => by simp only [mapEnts, sameEnts]; exact ⟨sameV_map σ _, sameV_map σ _, trivial, sameEnts_map σ es⟩
theorem sameEnts_refl : ∀ l, sameEnts id l l
  | [] => by simp [sameEnts]
  | e :: es => by simp only [sameEnts]; exact ⟨sameV_refl _, sameV_refl _, trivial, sameEnts_refl es⟩
theorem eqObj_map {n : Nat} (σ : Nat → Nat) {o : LObj} (h : wfObjB n o = true) : eqObj σ o (mapObj σ o) := by
  cases o <;> simp only [mapObj, eqObj, sameObj, true_and, and_self] <;> first
    | trivial
    | exact sameVs_map σ _
    | exact sameEnts_map σ _
    | exact ⟨rfl, rfl⟩
    | (simp [wfObjB] at h)
theorem sameObj_refl {n : Nat} {o : LObj} (h : wfObjB n o = true) : sameObj id o o := by
  cases o <;> simp only [sameObj, true_and, and_self] <;> first
    | trivial
    | exact sameVs_refl _
    | exact sameEnts_refl _
    | exact ⟨rfl, rfl⟩
    | (simp [wfObjB] at h)
theorem mapObjs_get (σ : Nat → Nat) : ∀ (os : List LObj) (i : Nat), (mapObjs σ os)[i]? = (os[i]?).map (mapObj σ)
  | [], i => by simp [mapObjs]
  | o :: os, 0 => by simp [mapObjs]
  | o :: os, i + 1 => by simp only [mapObjs, List.getElem?_cons_succ]; exact mapObjs_get σ os i
theorem mapObjs_length (σ : Nat → Nat) : ∀ (os : List LObj), (mapObjs σ os).length = os.length
  | [] => rfl
  | o :: os => by simp [mapObjs, mapObjs_length σ os]

mutual
theorem wfB_lt {n : Nat} : ∀ {v : LV}, wfB n v = true → lt n v := by
  intro v h
  cases v <;> simp only [wfB] at h <;> simp only [lt] <;> first
    | exact bltN.1 h
    | exact wfB_lt h
    | exact wfsB_lt h
    | (simp only [Bool.and_eq_true] at h; refine ⟨?_, wfsB_lt h.1.2, wfsB_lt h.2⟩; rename_i f _ _; cases f <;> first | trivial | exact bltN.1 h.1.1)
theorem wfsB_lt {n : Nat} : ∀ {l : List LV}, wfsB n l = true → lts n l := by
  intro l h
  cases l with
  | nil => trivial
  | cons v vs => simp only [wfsB, Bool.and_eq_true] at h; exact ⟨wfB_lt h.1, wfsB_lt h.2⟩
end
theorem wfEntsB_lt {n : Nat} : ∀ {l : List Ent}, wfEntsB n l = true → ∀ e, e ∈ l → lt n e.key ∧ lt n e.val
  | [], _, e, he => by cases he
  | x :: xs, h, e, he => by
    simp only [wfEntsB, Bool.and_eq_true] at h
    rcases List.mem_cons.1 he with rfl | he
    · exact ⟨wfB_lt h.1.1, wfB_lt h.1.2⟩
    · exact wfEntsB_lt h.2 e he
theorem wfObjB_lt {n : Nat} {o : LObj} (h : wfObjB n o = true) : ltObj n o := by
  cases o <;> simp only [wfObjB] at h <;> first
    | trivial
    | exact wfsB_lt h
    | exact wfEntsB_lt h
    | cases h
theorem wfObjsB_get {n : Nat} : ∀ {os : List LObj}, wfObjsB n os = true → ∀ (i : Nat) (o : LObj), os[i]? = some o → wfObjB n o = true
  | [], _, i, o, ho => by simp at ho
  | x :: xs, h, i, o, ho => by
    simp only [wfObjsB, Bool.and_eq_true] at h
    cases i with
    | zero => simp only [List.getElem?_cons_zero, Option.some.injEq] at ho; subst ho; exact h.1
    | succ i => exact wfObjsB_get h.2 i o (by simpa using ho)
theorem wfObjsB_L {n : Nat} : ∀ {os : List LObj}, wfObjsB n os = true → ltObjL n os
  | [], _ => trivial
  | x :: xs, h => by
    simp only [wfObjsB, Bool.and_eq_true] at h
    exact ⟨wfObjB_lt h.1, wfObjsB_L h.2⟩
theorem wfPairsB_L {n : Nat} : ∀ {l : List (Nat × LV)}, wfPairsB n l = true → ltL n l
  | [], _ => trivial
  | x :: xs, h => by
    simp only [wfPairsB, Bool.and_eq_true] at h
    exact ⟨wfB_lt h.1, wfPairsB_L h.2⟩

theorem distinct_at : ∀ {l : List Nat}, distinct l = true → ∀ i j, i < l.length → j < l.length → at_ l i = at_ l j → i = j
  | [], _, i, _, hi, _, _ => by simp at hi
  | x :: xs, h, i, j, hi, hj, e => by
    simp only [distinct, Bool.and_eq_true, List.all_eq_true, Bool.not_eq_true'] at h
    have key : ∀ k, k < xs.length → at_ xs k ≠ x := fun k hk e => by
      have hm : at_ xs k ∈ xs := by
        simp only [at_, List.getD_eq_getElem?_getD, List.getElem?_eq_getElem hk, Option.getD_some]
        exact List.getElem_mem _
      exact beqN_false (h.1 _ hm) e.symm
    cases i with
    | zero =>
      cases j with
      | zero => rfl
      | succ j => exact absurd (show at_ xs j = x from e.symm) (key j (by simpa using hj))
    | succ i =>
      cases j with
      | zero => exact absurd (show at_ xs i = x from e) (key i (by simpa using hi))
      | succ j => rw [distinct_at h.2 i j (by simpa using hi) (by simpa using hj) e]
theorem below_at {n : Nat} : ∀ {l : List Nat}, allBelow n l = true → ∀ i, i < l.length → at_ l i < n
  | [], _, i, hi => by simp at hi
  | x :: xs, h, i, hi => by
    simp only [allBelow, Bool.and_eq_true] at h
    cases i with
    | zero => exact bltN.1 h.1
    | succ i => exact below_at h.2 i (by simpa using hi)

theorem puts_n : ∀ (us : List (Nat × LObj)) (H : Heap), (H.puts us).n = H.n
  | [], H => rfl
  | u :: us, H => by
    show (bif Nat.blt u.1 H.n then (H.put u.1 u.2).puts us else H.puts us).n = _
    cases Nat.blt u.1 H.n <;> simp [puts_n us, Heap.n_put]
theorem puts_other : ∀ (us : List (Nat × LObj)) (H : Heap) (j : Nat), (∀ u, u ∈ us → u.1 ≠ j) → (H.puts us).get j = H.get j
  | [], H, j, _ => rfl
  | u :: us, H, j, h => by
    show (bif Nat.blt u.1 H.n then (H.put u.1 u.2).puts us else H.puts us).get j = _
    have h1 := h u (by simp)
    have h2 : ∀ v, v ∈ us → v.1 ≠ j := fun v hv => h v (by simp [hv])
    cases Nat.blt u.1 H.n
    · exact puts_other us H j h2
    · simp only [cond_true]
      rw [puts_other us _ j h2, Heap.get_put_other h1]
theorem puts_zip : ∀ (l : List Nat) (os : List LObj) (H : Heap), distinct l = true → allBelow H.n l = true → ∀ (i : Nat) (o : LObj), i < l.length → os[i]? = some o → (H.puts (l.zip os)).get (at_ l i) = o
  | [], _, _, _, _, i, _, hi, _ => by simp at hi
  | x :: xs, [], _, _, _, i, _, _, ho => by simp at ho
  | x :: xs, p :: ps, H, hd, hb, i, o, hi, ho => by
    show (bif Nat.blt x H.n then (H.put x p).puts (xs.zip ps) else H.puts (xs.zip ps)).get _ = _
    have hb' := hb
    simp only [allBelow, Bool.and_eq_true] at hb'
    rw [hb'.1]
    simp only [cond_true]
    have hd' := hd
    simp only [distinct, Bool.and_eq_true, List.all_eq_true, Bool.not_eq_true'] at hd'
    cases i with
    | zero =>
      simp only [List.getElem?_cons_zero, Option.some.injEq] at ho
      subst ho
      show ((H.put x p).puts (xs.zip ps)).get x = p
      rw [puts_other _ _ _ fun u hu => ?_, Heap.get_put_same]
      have := (List.of_mem_zip (show (u.1, u.2) ∈ xs.zip ps from hu)).1
      exact Ne.symm (beqN_false (hd'.1 _ this))
    | succ i =>
      exact puts_zip xs ps (H.put x p) hd'.2 (by rw [Heap.n_put]; exact hb'.2) i o (by simpa using hi) (by simpa using ho)
theorem upd_n (H : Heap) (us : List (Nat × LObj)) (ns : List LObj) : (H.upd us ns).n = H.n + ns.length := by
  unfold Heap.upd; rw [pushes_n, puts_n]
theorem upd_old (H : Heap) (us : List (Nat × LObj)) (ns : List LObj) {j : Nat} (h : j < H.n) : (H.upd us ns).get j = (H.puts us).get j := by
  unfold Heap.upd; rw [pushes_get, if_neg (by rw [puts_n]; omega)]
theorem upd_new (H : Heap) (us : List (Nat × LObj)) (ns : List LObj) {j : Nat} (h : j < ns.length) : (H.upd us ns).get (H.n + j) = ns[j] := by
  unfold Heap.upd
  rw [pushes_get, puts_n, if_pos (by omega), dif_pos (by omega)]
  congr 1; omega

/-- A contract that is written out, within a heap. -/
theorem con_ht {P : Program} {C : Con} {l : List Nat} {H : Heap} {args : List LV} (h : C.holds P) (hf : C.fit l H.n = true) (hx : sameVs (at_ l) C.xs args) (ho : objL (at_ l) H C.os 0) :
    HT P C.g args H (mapEnd (C.map l H.n) C.e) (H.upd (C.us l H.n) (C.ns l H.n)) := by
  simp only [Con.fit, Bool.and_eq_true] at hf
  obtain ⟨⟨⟨⟨⟨⟨h1, h2⟩, h3⟩, h4⟩, h5⟩, h6⟩, h7⟩ := hf
  have h1 := beqN h1
  have h2 : C.os.length ≤ C.os'.length := Nat.le_of_ble_eq_true h2
  have hw : Within (at_ l) (Heap.of C.os) H := within_of (fun i j hi hj e => distinct_at h3 i j (by omega) (by omega) e) (fun i hi => below_at h4 i (by omega)) (wfObjsB_L h5) ho
  have hlen : (C.us l H.n).length = C.os.length := by
    simp [Con.us, mapObjs_length, List.length_zip]; omega
  have hns : (C.ns l H.n).length = C.os'.length - C.os.length := by simp [Con.ns, mapObjs_length]
  refine HT.frame h hw hx (by rw [of_n]; exact wfsB_lt h6) ⟨?_, ?_, ?_⟩ ?_
  · rw [upd_n, of_n, of_n, hns]
  · intro i hi
    rw [of_n] at hi
    rw [of_n, of_get _ i hi]
    have hlt := wfObjsB_get h7 i C.os'[i] (by simp [hi])
    have key : (H.upd (C.us l H.n) (C.ns l H.n)).get (over (at_ l) C.os.length H.n i) = mapObj (C.map l H.n) C.os'[i] := by
      unfold over
      split
      · rename_i hlt2
        rw [upd_old _ _ _ (below_at h4 i (by omega))]
        refine puts_zip l _ H h3 h4 i _ (by omega) ?_
        rw [mapObjs_get, List.getElem?_take, if_pos hlt2, List.getElem?_eq_getElem hi]
        rfl
      · rename_i hge
        rw [upd_new _ _ _ (by rw [hns]; omega)]
        have : (C.ns l H.n)[i - C.os.length]? = some (mapObj (C.map l H.n) C.os'[i]) := by
          rw [Con.ns, mapObjs_get, List.getElem?_drop, show C.os.length + (i - C.os.length) = i by omega, List.getElem?_eq_getElem hi]
          rfl
        obtain ⟨hb, he⟩ := List.getElem?_eq_some_iff.1 this
        exact he
    rw [key]
    exact eqObj_map _ hlt
  · intro j hj hno
    rw [upd_old _ _ _ hj]
    refine puts_other _ _ _ fun u hu e => ?_
    have hm := (List.of_mem_zip (show (u.1, u.2) ∈ l.zip _ from hu)).1
    rw [e] at hm
    obtain ⟨i, hi, he⟩ := List.mem_iff_getElem.1 hm
    refine hno i (by rw [of_n]; omega) ?_
    simp [at_, List.getD_eq_getElem?_getD, hi, he]
  · rw [of_n]
    cases C.e with
    | ret v => exact sameV_map _ v
    | pan v => exact sameV_map _ v

theorem upFrom_puts : ∀ (os : List LObj) (i : Nat) (H : Heap), i + os.length ≤ H.n → ∀ (j : Nat) (o : LObj), os[j]? = some o → (H.puts (upFrom os i)).get (i + j) = o
  | [], _, _, _, j, _, ho => by simp at ho
  | x :: xs, i, H, hn, j, o, ho => by
    show (bif Nat.blt i H.n then (H.put i x).puts (upFrom xs (i + 1)) else H.puts (upFrom xs (i + 1))).get _ = _
    have : Nat.blt i H.n = true := bltN.2 (by simp at hn; omega)
    rw [this]
    simp only [cond_true]
    cases j with
    | zero =>
      simp only [List.getElem?_cons_zero, Option.some.injEq] at ho
      subst ho
      rw [puts_other _ _ _ fun u hu => ?_]
      · exact Heap.get_put_same _ _ _
      · have : ∀ (l : List LObj) (k : Nat), u ∈ upFrom l k → k ≤ u.1 := by
          intro l
          induction l with
          | nil => intro k h; cases h
          | cons y ys ih =>
            intro k h
            rcases List.mem_cons.1 h with h | h
            · subst h; exact Nat.le_refl _
            · have := ih _ h; omega
        have := this xs (i + 1) hu
        omega
    | succ j =>
      have := upFrom_puts xs (i + 1) (H.put i x) (by rw [Heap.n_put]; simp at hn; omega) j o (by simpa using ho)
      rw [show i + (j + 1) = i + 1 + j by omega]
      exact this

/-- A code's contract that is written out, within a heap. -/
theorem lcon_ct {P : Program} {c : Code} {C : LCon} {f : Fr} {H : Heap} (h : C.holds P c f.fn f.n) (hf : C.fit f H.n = true) (hL : frL id f C.L) (ho : objL id H C.os 0) :
    CT P c f H C.x (Fr.ofL f.fn f.n C.L' [] none) (H.upd (upFrom (C.os'.take H.n) 0) (C.os'.drop H.n)) := by
  simp only [LCon.fit, Bool.and_eq_true] at hf
  obtain ⟨⟨⟨⟨⟨⟨h1, h2⟩, h3⟩, h4⟩, h5⟩, h6⟩, h7⟩ := hf
  have h1 := beqN h1
  have h2 : H.n ≤ C.os'.length := Nat.le_of_ble_eq_true h2
  have hm : f.marks = [] := by cases hh : f.marks with | nil => rfl | cons _ _ => rw [hh] at h6; cases h6
  have hr : f.round = none := by cases hh : f.round with | none => rfl | some _ => rw [hh] at h7; cases h7
  have hw : Within id (Heap.of C.os) H := within_of (fun i j _ _ e => e) (fun i hi => by show i < H.n; omega) (wfObjsB_L (by rw [h1]; exact h3)) ho
  have hct := CT.more h hw (by rw [of_n]; exact h1) (same_ofL rfl rfl hm hr hL) (wf_ofL (by rw [of_n, h1]; exact wfPairsB_L h5))
  have hn' : (H.upd (upFrom (C.os'.take H.n) 0) (C.os'.drop H.n)).n = C.os'.length := by rw [upd_n]; simp; omega
  have hget : ∀ i (hi : i < C.os'.length), (H.upd (upFrom (C.os'.take H.n) 0) (C.os'.drop H.n)).get i = C.os'[i] := by
    intro i hi
    by_cases hin : i < H.n
    · rw [upd_old _ _ _ hin]
      have := upFrom_puts (C.os'.take H.n) 0 H (by simp; omega) i C.os'[i] (by rw [List.getElem?_take, if_pos hin, List.getElem?_eq_getElem hi])
      simpa using this
    · have := upd_new H (upFrom (C.os'.take H.n) 0) (C.os'.drop H.n) (j := i - H.n) (by simp; omega)
      rw [show H.n + (i - H.n) = i by omega] at this
      rw [this]
      simp [show H.n + (i - H.n) = i by omega]
  refine fun ρ w b tmps ds k cs hs hfr => ?_
  obtain ⟨ρ', w', tmps', ds', g1, g2, g3, g4⟩ := hct ρ w b tmps ds k cs hs hfr
  have hw2 : Within id (H.upd (upFrom (C.os'.take H.n) 0) (C.os'.drop H.n)) (Heap.of C.os') := by
    refine ⟨fun i j _ _ e => e, fun i hi => by rw [hn'] at hi; rw [of_n]; exact hi, fun i hi => ?_, fun i hi => ?_⟩
    · rw [hn'] at hi ⊢; rw [hget i hi]
      exact wfObjB_lt (wfObjsB_get h4 i _ (by simp [hi]))
    · rw [hn'] at hi
      rw [hget i hi]
      show sameObj id C.os'[i] ((Heap.of C.os').get i)
      rw [of_get _ i hi]
      exact sameObj_refl (wfObjsB_get h4 i _ (by simp [hi]))
  refine ⟨ρ', w', tmps', ds', g1.keep hw2 (by rw [hn']; exact h2) (fun _ _ => rfl), ?_, ?_, g4⟩
  · rw [hn', ← of_n]; exact g2
  · rw [hn', ← of_n]; exact g3
end Go.Proofs.Ytmnpnomllcghmaa.Ev
