/- Small laws: trees, lists, heaps, decoding. -/
import Derived.Test.YtmnpnomllcghmaaSat
import Derived.Laws.Sem
namespace Go.Proofs.Ytmnpnomllcghmaa.Ev
open Go

theorem bc_eq {α : Type} (c : Bool) (x y : α) : bc c x y = if c = true then x else y := by cases c <;> rfl
theorem bc_some {α : Type} {c : Bool} {x : Option α} {v : α} (h : bc c x none = some v) : c = true ∧ x = some v := by
  cases c
  · cases h
  · exact ⟨rfl, h⟩
theorem bc_some' {α : Type} {c : Bool} {x : Option α} {v : α} (h : bc c none x = some v) : c = false ∧ x = some v := by
  cases c
  · exact ⟨rfl, h⟩
  · cases h
theorem cond_some {α : Type} {c : Bool} {x : Option α} {v : α} (h : (bif c then x else none) = some v) : c = true ∧ x = some v := by
  cases c
  · cases h
  · exact ⟨rfl, h⟩
theorem cond_some' {α : Type} {c : Bool} {x : Option α} {v : α} (h : (bif c then none else x) = some v) : c = false ∧ x = some v := by
  cases c
  · exact ⟨rfl, h⟩
  · cases h

theorem beqN {a b : Nat} (h : Nat.beq a b = true) : a = b := Nat.eq_of_beq_eq_true h
theorem beqN_false {a b : Nat} (h : Nat.beq a b = false) : a ≠ b := by
  intro e; subst e; simp at h
theorem bltN {a b : Nat} : Nat.blt a b = true ↔ a < b := by simp [Nat.blt]; omega

/-! trees -/
namespace Tr
variable {α : Type} (d x : α)
theorem get_nil (i : Nat) : (nil : Tr α).get d i = d := rfl
theorem get_node (v : α) (l r : Tr α) (i : Nat) : (node v l r).get d i = if i = 0 then v else if i % 2 = 1 then l.get d (i / 2) else r.get d (i / 2 - 1) := by
  show bc (Nat.beq i 0) v (bc (Nat.beq (Nat.mod i 2) 1) (l.get d (Nat.div i 2)) (r.get d (Nat.pred (Nat.div i 2)))) = _
  rw [bc_eq, bc_eq]
  simp only [Nat.beq_eq]
  rfl
theorem one_succ (k i : Nat) : one d x (k + 1) i = if i = 0 then .node x .nil .nil else if i % 2 = 1 then .node d (one d x k (i / 2)) .nil else .node d .nil (one d x k (i / 2 - 1)) := by
  show bc (Nat.beq i 0) _ (bc (Nat.beq (Nat.mod i 2) 1) (Tr.node d (one d x k (Nat.div i 2)) .nil) (Tr.node d .nil (one d x k (Nat.pred (Nat.div i 2))))) = _
  rw [bc_eq, bc_eq]
  simp only [Nat.beq_eq]
  rfl
theorem set_nil (i : Nat) : (nil : Tr α).set d x i = one d x (i + 1) i := rfl
theorem set_node (v : α) (l r : Tr α) (i : Nat) : (node v l r).set d x i = if i = 0 then .node x l r else if i % 2 = 1 then .node v (l.set d x (i / 2)) r else .node v l (r.set d x (i / 2 - 1)) := by
  show bc (Nat.beq i 0) _ (bc (Nat.beq (Nat.mod i 2) 1) (Tr.node v (l.set d x (Nat.div i 2)) r) (Tr.node v l (r.set d x (Nat.pred (Nat.div i 2))))) = _
  rw [bc_eq, bc_eq]
  simp only [Nat.beq_eq]
  rfl
theorem get_one : ∀ (k i j : Nat), i < k → (one d x k i).get d j = if i = j then x else d
  | 0, _, _, h => by omega
  | k + 1, i, j, h => by
    rw [one_succ]
    by_cases hi : i = 0
    · subst hi
      simp only [if_true, get_node, get_nil]
      by_cases hj : j = 0
      · subst hj; simp
      · simp [hj, Ne.symm hj]
    · simp only [hi, if_false]
      by_cases ho : i % 2 = 1
      · simp only [ho, if_true, get_node, get_nil]
        rw [get_one k (i / 2) (j / 2) (by omega)]
        by_cases hj : j = 0
        · subst hj; simp [hi]
        · simp only [hj, if_false]
          by_cases hjo : j % 2 = 1
          · simp only [hjo, if_true]
            by_cases e : i = j
            · subst e; simp
            · rw [if_neg (by omega), if_neg e]
          · simp only [hjo, if_false]
            rw [if_neg (by intro e; subst e; exact hjo ho)]
      · simp only [ho, if_false, get_node, get_nil]
        rw [get_one k (i / 2 - 1) (j / 2 - 1) (by omega)]
        by_cases hj : j = 0
        · subst hj; simp [hi]
        · simp only [hj, if_false]
          by_cases hjo : j % 2 = 1
          · simp only [hjo, if_true]
            rw [if_neg (by intro e; subst e; exact ho hjo)]
          · simp only [hjo, if_false]
            by_cases e : i = j
            · subst e; simp
            · rw [if_neg (by omega), if_neg e]
theorem get_set : ∀ (t : Tr α) (i j : Nat), (t.set d x i).get d j = if i = j then x else t.get d j
  | .nil, i, j => by rw [set_nil, get_one d x (i + 1) i j (by omega), get_nil]
  | .node v l r, i, j => by
    rw [set_node]
    by_cases hi : i = 0
    · subst hi
      simp only [if_true, get_node]
      by_cases hj : j = 0
      · subst hj; simp
      · simp [hj, Ne.symm hj]
    · simp only [hi, if_false]
      by_cases ho : i % 2 = 1
      · simp only [ho, if_true, get_node]
        rw [get_set l (i / 2) (j / 2)]
        by_cases hj : j = 0
        · subst hj; simp [hi]
        · simp only [hj, if_false]
          by_cases hjo : j % 2 = 1
          · simp only [hjo, if_true]
            by_cases e : i = j
            · subst e; simp
            · rw [if_neg (by omega), if_neg e]
          · simp only [hjo, if_false]
            rw [if_neg (by intro e; subst e; exact hjo ho)]
      · simp only [ho, if_false, get_node]
        rw [get_set r (i / 2 - 1) (j / 2 - 1)]
        by_cases hj : j = 0
        · subst hj; simp [hi]
        · simp only [hj, if_false]
          by_cases hjo : j % 2 = 1
          · simp only [hjo, if_true]
            rw [if_neg (by intro e; subst e; exact ho hjo)]
          · simp only [hjo, if_false]
            by_cases e : i = j
            · subst e; simp
            · rw [if_neg (by omega), if_neg e]
end Tr

/-! lists -/
theorem nth_eq : ∀ (l : List LV) (i : Nat), nth l i = l[i]?
  | [], _ => rfl
  | _ :: _, 0 => rfl
  | _ :: vs, i + 1 => by show nth vs i = _; rw [nth_eq vs i]; simp
theorem setNth_eq : ∀ (l : List LV) (i : Nat) (x : LV), setNth l i x = l.set i x
  | [], _, _ => rfl
  | _ :: _, 0, _ => rfl
  | v :: vs, i + 1, x => by show v :: setNth vs i x = _; rw [setNth_eq vs i x]; rfl
theorem takeN_eq : ∀ (l : List LV) (n : Nat), takeN l n = l.take n
  | [], _ => by simp; rfl
  | _ :: _, 0 => rfl
  | v :: vs, n + 1 => by show v :: takeN vs n = _; rw [takeN_eq vs n]; rfl
theorem dropN_eq : ∀ (l : List LV) (n : Nat), dropN l n = l.drop n
  | [], _ => by simp; rfl
  | _ :: _, 0 => rfl
  | _ :: vs, n + 1 => by show dropN vs n = _; rw [dropN_eq vs n]; rfl
theorem lenL_eq {α : Type} : ∀ (l : List α), lenL l = l.length
  | [] => rfl
  | _ :: vs => by show lenL vs + 1 = _; rw [lenL_eq vs]; rfl
theorem app_eq {α : Type} : ∀ (l m : List α), app l m = l ++ m
  | [], _ => rfl
  | x :: xs, m => by show x :: app xs m = _; rw [app_eq xs m]; rfl
theorem nthB_eq : ∀ (l : List UInt8) (i : Nat), nthB l i = l[i]?
  | [], _ => rfl
  | _ :: _, 0 => rfl
  | _ :: vs, i + 1 => by show nthB vs i = _; rw [nthB_eq vs i]; simp
theorem takeB_eq : ∀ (l : List UInt8) (n : Nat), takeB l n = l.take n
  | [], _ => by simp; rfl
  | _ :: _, 0 => rfl
  | v :: vs, n + 1 => by show v :: takeB vs n = _; rw [takeB_eq vs n]; rfl
theorem dropB_eq : ∀ (l : List UInt8) (n : Nat), dropB l n = l.drop n
  | [], _ => by simp; rfl
  | _ :: _, 0 => rfl
  | _ :: vs, n + 1 => by show dropB vs n = _; rw [dropB_eq vs n]; rfl
theorem ofBytes_eq : ∀ (l : List UInt8), ofBytes l = l.map fun b => .int .u8 b.toNat
  | [] => rfl
  | b :: l => by show LV.int .u8 b.toNat :: ofBytes l = _; rw [ofBytes_eq l]; rfl
theorem repeatL_succ (z : List LV) (n : Nat) : repeatL z (n + 1) = z ++ repeatL z n := by
  show app z (repeatL z n) = _; rw [app_eq]
theorem repeatL_length (z : List LV) : ∀ n, (repeatL z n).length = n * z.length
  | 0 => by simp [show repeatL z 0 = [] from rfl]
  | n + 1 => by rw [repeatL_succ, List.length_append, repeatL_length z n, Nat.succ_mul]; omega
theorem setMany_cons (cs : List LV) (o : Nat) (v : LV) (vs : List LV) : setMany cs o (v :: vs) = setMany (setNth cs o v) (o + 1) vs := rfl
theorem setMany_eq : ∀ (vs cs : List LV) (o : Nat), o + vs.length ≤ cs.length → setMany cs o vs = cs.take o ++ vs ++ cs.drop (o + vs.length)
  | [], cs, o, _ => by simp [show setMany cs o [] = cs from rfl]
  | v :: vs, cs, o, h => by
    simp only [List.length_cons] at h
    rw [setMany_cons, setNth_eq, setMany_eq vs (cs.set o v) (o + 1) (by simp; omega)]
    have ho : o < cs.length := by omega
    rw [List.take_succ_eq_append_getElem (by simpa using ho), List.take_set_of_le (Nat.le_refl _), List.getElem_set_self]
    rw [show o + 1 + vs.length = o + (v :: vs).length by simp; omega, List.drop_set_of_lt (by simp)]
    simp
theorem setMany_length (cs : List LV) (o : Nat) (vs : List LV) (h : o + vs.length ≤ cs.length) : (setMany cs o vs).length = cs.length := by
  rw [setMany_eq vs cs o h]; simp; omega
theorem noJunk_cons (v : LV) (vs : List LV) : noJunk (v :: vs) = true ↔ isJunk v = false ∧ noJunk vs = true := by
  show bc (isJunk v) false (noJunk vs) = true ↔ _
  cases isJunk v <;> simp
theorem allOne_cons (v : LV) (vs : List LV) : allOne (v :: vs) = true ↔ oneCell v = true ∧ allOne vs = true := by
  show bc (oneCell v) (allOne vs) false = true ↔ _
  cases oneCell v <;> simp
theorem allOne_mem : ∀ {l : List LV}, allOne l = true → ∀ v ∈ l, oneCell v = true
  | [], _, _, h => by cases h
  | x :: xs, h, v, hv => by
    obtain ⟨a, b⟩ := (allOne_cons x xs).1 h
    cases hv with
    | head => exact a
    | tail _ hv => exact allOne_mem b v hv

/-! heaps -/
theorem Heap.get_eq (H : Heap) (i : Nat) : H.get i = (H.t.get Slot.none i).obj := rfl
theorem Heap.n_push (H : Heap) (o : LObj) : (H.push o).n = H.n + 1 := rfl
theorem Heap.n_put (H : Heap) (i : Nat) (o : LObj) : (H.put i o).n = H.n := rfl
theorem Heap.slot_push (H : Heap) (o : LObj) (i : Nat) : (H.push o).slot i = if H.n = i then ⟨0, o⟩ else H.slot i := Tr.get_set Slot.none _ H.t H.n i
theorem Heap.slot_put (H : Heap) (j : Nat) (o : LObj) (i : Nat) : (H.put j o).slot i = if j = i then ⟨(H.slot j).stamp + 1, o⟩ else H.slot i := Tr.get_set Slot.none _ H.t j i
theorem Heap.get_push (H : Heap) (o : LObj) (i : Nat) : (H.push o).get i = if H.n = i then o else H.get i := by
  unfold Heap.get; rw [Heap.slot_push]; split <;> rfl
theorem Heap.get_push_new (H : Heap) (o : LObj) : (H.push o).get H.n = o := by rw [Heap.get_push]; simp
theorem Heap.get_push_old {H : Heap} {o : LObj} {i : Nat} (h : i < H.n) : (H.push o).get i = H.get i := by rw [Heap.get_push, if_neg (by omega)]
theorem Heap.get_put (H : Heap) (j : Nat) (o : LObj) (i : Nat) : (H.put j o).get i = if j = i then o else H.get i := by
  unfold Heap.get; rw [Heap.slot_put]; split <;> rfl
theorem Heap.get_put_same (H : Heap) (j : Nat) (o : LObj) : (H.put j o).get j = o := by rw [Heap.get_put]; simp
theorem Heap.get_put_other {H : Heap} {j : Nat} {o : LObj} {i : Nat} (h : j ≠ i) : (H.put j o).get i = H.get i := by rw [Heap.get_put, if_neg h]

/-- Nothing has gone; what bears its stamp is as it was. -/
structure Heap.Le (H H' : Heap) : Prop where
  n : H.n ≤ H'.n
  up : ∀ i, i < H.n → (H.slot i).stamp ≤ (H'.slot i).stamp
  same : ∀ i, i < H.n → (H'.slot i).stamp = (H.slot i).stamp → H'.get i = H.get i
theorem Heap.Le.refl (H : Heap) : H.Le H := ⟨Nat.le_refl _, fun _ _ => Nat.le_refl _, fun _ _ _ => rfl⟩
theorem Heap.Le.trans {A B C : Heap} (h : A.Le B) (k : B.Le C) : A.Le C :=
  ⟨Nat.le_trans h.n k.n, fun i hi => Nat.le_trans (h.up i hi) (k.up i (Nat.lt_of_lt_of_le hi h.n)), fun i hi e => by
    have a := h.up i hi
    have b := k.up i (Nat.lt_of_lt_of_le hi h.n)
    rw [k.same i (Nat.lt_of_lt_of_le hi h.n) (by omega), h.same i hi (by omega)]⟩
theorem Heap.le_push (H : Heap) (o : LObj) : H.Le (H.push o) :=
  ⟨by rw [Heap.n_push]; omega, fun i hi => by rw [Heap.slot_push, if_neg (by omega)]; exact Nat.le_refl _, fun i hi _ => Heap.get_push_old hi⟩
theorem Heap.le_put (H : Heap) (j : Nat) (o : LObj) : H.Le (H.put j o) := by
  refine ⟨Nat.le_refl _, fun i hi => ?_, fun i hi e => ?_⟩
  · rw [Heap.slot_put]; split
    · rename_i h; subst h; exact Nat.le_succ _
    · exact Nat.le_refl _
  · rw [Heap.slot_put] at e; split at e
    · rename_i h; subst h; simp at e
    · rename_i h; exact Heap.get_put_other h
theorem Heap.le_puts : ∀ (us : List (Nat × LObj)) (H : Heap), H.Le (H.puts us)
  | [], H => Heap.Le.refl H
  | (i, o) :: us, H => by
    show H.Le (bif Nat.blt i H.n then (H.put i o).puts us else H.puts us)
    cases Nat.blt i H.n
    · exact Heap.le_puts us H
    · exact (Heap.le_put H i o).trans (Heap.le_puts us _)
theorem Heap.le_pushes : ∀ (os : List LObj) (H : Heap), H.Le (H.pushes os)
  | [], H => Heap.Le.refl H
  | o :: os, H => (Heap.le_push H o).trans (Heap.le_pushes os _)
theorem Heap.le_upd (H : Heap) (us : List (Nat × LObj)) (ns : List LObj) : H.Le (H.upd us ns) := (Heap.le_puts us H).trans (Heap.le_pushes ns _)

/-! decoding -/
theorem decs_eq (ρ : Nat → RB) : ∀ l, decs ρ l = l.map (dec ρ)
  | [] => rfl
  | v :: vs => by simp [decs, decs_eq ρ vs]
theorem lts_iff (n : Nat) : ∀ l, lts n l ↔ ∀ v ∈ l, lt n v
  | [] => by simp [lts]
  | v :: vs => by simp [lts, lts_iff n vs]
theorem decFn_ext {n : Nat} {ρ ρ' : Nat → RB} (h : Ext n ρ ρ') {f : Fn} (hf : match f with | .yield l => l < n | _ => True) : decFn ρ' f = decFn ρ f := by
  cases f <;> simp [decFn]
  rw [h _ hf]
mutual
theorem dec_ext {n : Nat} {ρ ρ' : Nat → RB} (h : Ext n ρ ρ') : ∀ (v : LV), lt n v → dec ρ' v = dec ρ v
  | .junk, _ => rfl
  | .bool _, _ => rfl
  | .int _ _, _ => rfl
  | .str _, _ => rfl
  | .nilp, _ => rfl
  | .ptr i o, hv => by simp only [lt] at hv; simp [dec, h i hv]
  | .nils, _ => rfl
  | .slice i o l c, hv => by simp only [lt] at hv; simp [dec, h i hv]
  | .emp i, hv => by simp only [lt] at hv; simp [dec, h i hv]
  | .nilm, _ => rfl
  | .map i, hv => by simp only [lt] at hv; simp [dec, h i hv]
  | .func f a b, hv => by
    simp only [lt] at hv
    simp only [dec]
    rw [decFn_ext h hv.1, decs_ext h a hv.2.1, decs_ext h b hv.2.2]
  | .nilf, _ => rfl
  | .iface t v, hv => by simp only [lt] at hv; simp only [dec]; rw [dec_ext h v hv]
  | .nili, _ => rfl
  | .agg cs, hv => by simp only [lt] at hv; simp only [dec]; rw [decs_ext h cs hv]
  | .tup vs, hv => by simp only [lt] at hv; simp only [dec]; rw [decs_ext h vs hv]
theorem decs_ext {n : Nat} {ρ ρ' : Nat → RB} (h : Ext n ρ ρ') : ∀ (l : List LV), lts n l → decs ρ' l = decs ρ l
  | [], _ => rfl
  | v :: vs, hv => by simp only [lts] at hv; simp only [decs]; rw [dec_ext h v hv.1, decs_ext h vs hv.2]
end
mutual
theorem lt_mono {n m : Nat} (h : n ≤ m) : ∀ (v : LV), lt n v → lt m v
  | .junk, _ => trivial
  | .bool _, _ => trivial
  | .int _ _, _ => trivial
  | .str _, _ => trivial
  | .nilp, _ => trivial
  | .ptr i o, hv => by simp only [lt] at *; omega
  | .nils, _ => trivial
  | .slice i o l c, hv => by simp only [lt] at *; omega
  | .emp i, hv => by simp only [lt] at *; omega
  | .nilm, _ => trivial
  | .map i, hv => by simp only [lt] at *; omega
  | .func f a b, hv => by
    simp only [lt] at *
    refine ⟨?_, lts_mono h a hv.2.1, lts_mono h b hv.2.2⟩
    cases f <;> simp_all
    omega
  | .nilf, _ => trivial
  | .iface t v, hv => by simp only [lt] at *; exact lt_mono h v hv
  | .nili, _ => trivial
  | .agg cs, hv => by simp only [lt] at *; exact lts_mono h cs hv
  | .tup vs, hv => by simp only [lt] at *; exact lts_mono h vs hv
theorem lts_mono {n m : Nat} (h : n ≤ m) : ∀ (l : List LV), lts n l → lts m l
  | [], _ => trivial
  | v :: vs, hv => by simp only [lts] at *; exact ⟨lt_mono h v hv.1, lts_mono h vs hv.2⟩
end
theorem ltObj_mono {n m : Nat} (h : n ≤ m) {o : LObj} (ho : ltObj n o) : ltObj m o := by
  cases o <;> simp only [ltObj] at *
  · exact lts_mono h _ ho
  · exact fun e he => ⟨lt_mono h _ (ho e he).1, lt_mono h _ (ho e he).2⟩
  · exact ⟨fun i => lt_mono h _ (ho.1 i), by omega⟩
theorem ltT_mono {n m : Nat} (h : n ≤ m) {t : Tr LV} (ht : ltT n t) : ltT m t := fun i => lt_mono h _ (ht i)
theorem Ext.refl (n : Nat) (ρ : Nat → RB) : Ext n ρ ρ := fun _ _ => rfl
theorem Ext.trans {n m : Nat} {ρ ρ' ρ'' : Nat → RB} (hn : n ≤ m) (h : Ext n ρ ρ') (k : Ext m ρ' ρ'') : Ext n ρ ρ'' := fun i hi => (k i (by omega)).trans (h i hi)
theorem TRel.ext {n : Nat} {ρ ρ' : Nat → RB} (h : Ext n ρ ρ') {t : Tr LV} {r : Array Value} (hl : ltT n t) (ht : TRel ρ t r) : TRel ρ' t r := by
  intro i
  rw [dec_ext h _ (hl i)]
  exact ht i
theorem decEnt_ext {n : Nat} {ρ ρ' : Nat → RB} (h : Ext n ρ ρ') {es : List Ent} (hl : ∀ e, e ∈ es → lt n e.key ∧ lt n e.val) : es.map (decEnt ρ') = es.map (decEnt ρ) := by
  apply List.map_congr_left
  intro e he
  simp [decEnt, dec_ext h _ (hl e he).1, dec_ext h _ (hl e he).2]

/-- An object is where it is, in a world that has not turned there. -/
theorem SatObj.ext {n : Nat} {ρ ρ' : Nat → RB} (h : Ext n ρ ρ') {r : RB} {w : World} {o : LObj} (hl : ltObj n o) (ho : SatObj ρ r w o) : SatObj ρ' r w o := by
  cases o with
  | dead => trivial
  | cells e w' cs =>
    simp only [ltObj] at hl
    cases w' <;> simp only [SatObj] at *
    · intro j v hv
      rw [dec_ext h v ((lts_iff n cs).1 hl v (List.mem_of_getElem? hv))]
      exact ho j v hv
    · rw [decs_ext h cs hl]; exact ho
    · rw [decs_ext h cs hl]; exact ho
  | map es clock => simp only [SatObj, ltObj] at *; rw [decEnt_ext h hl]; exact ho
  | empty => trivial
  | strIter s pos => exact ho
  | loop st pe fn m t ps as bo d =>
    simp only [SatObj, ltObj] at *
    obtain ⟨tm, a, b, c⟩ := ho
    exact ⟨tm, a, b.ext h hl.1, by rw [h d hl.2]; exact c⟩
  | defers taken => exact ho
theorem cell?_of_heap {w w' : World} {a : Addr} (h : w'.heap[a.block]? = w.heap[a.block]?) : w'.cell? a = w.cell? a := by
  unfold World.cell?; rw [h]
theorem frozen?_of_heap {w w' : World} {a : Addr} (h : w'.heap[a.block]? = w.heap[a.block]?) : w'.frozen? a = w.frozen? a := by
  unfold World.frozen?; rw [h]
theorem SatObj.world {ρ : Nat → RB} {r : RB} {w w' : World} {o : LObj} (h : o.sits = true → w'.heap[r.blk]? = w.heap[r.blk]?) (ho : SatObj ρ r w o) : SatObj ρ r w' o := by
  cases o with
  | dead => trivial
  | cells e k cs =>
    have hh : w'.heap[r.blk]? = w.heap[r.blk]? := h rfl
    cases k <;> simp only [SatObj] at ho ⊢
    · intro j v hv
      rw [cell?_of_heap hh]
      exact ho j v hv
    · rw [hh]; exact ho
    · rw [hh]; exact ho
  | map es clock => simp only [SatObj] at *; rw [h rfl]; exact ho
  | empty => trivial
  | strIter s pos => simp only [SatObj] at *; rw [h rfl]; exact ho
  | loop st pe fn m t ps as bo d => simp only [SatObj] at *; rw [h rfl]; exact ho
  | defers taken => simp only [SatObj] at *; rw [h rfl]; exact ho
/-- What sits somewhere sits in a block that is there. -/
theorem SatObj.inside {ρ : Nat → RB} {r : RB} {w : World} {o : LObj} (h : SatObj ρ r w o) (hs : o.owns = true) : r.blk < w.heap.size := by
  have key : ∀ x, w.heap[r.blk]? = some x → r.blk < w.heap.size := fun x hx => (Array.getElem?_eq_some_iff.1 hx).1
  cases o with
  | dead => cases hs
  | cells e k cs =>
    cases k <;> simp only [SatObj, LObj.owns] at *
    · cases hs
    · obtain ⟨_, _, _, _, h⟩ := h; exact key _ h
    · obtain ⟨_, _, _, _, _, _, _, h⟩ := h; exact key _ h
  | map es clock => exact key _ h
  | empty => cases hs
  | strIter s pos => exact key _ h
  | loop st pe fn m t ps as bo d => obtain ⟨_, _, _, h⟩ := h; exact key _ h
  | defers taken => exact key _ h

/-! what moves -/
theorem Moved.refl {ρ : Nat → RB} {H : Heap} {w : World} (h : Sat ρ H w) : Moved ρ H w ρ H w :=
  ⟨rfl, rfl, rfl, Nat.le_refl _, fun _ _ _ => rfl, fun i hi ho => .inr ⟨i, hi, ho, rfl⟩, fun i hi ho => .inr ⟨i, hi, ho, rfl⟩, Nat.le_refl _, Ext.refl _ _, h⟩
theorem Moved.trans {ρ ρ' ρ'' : Nat → RB} {H H' H'' : Heap} {w w' w'' : World} (h : Moved ρ H w ρ' H' w') (k : Moved ρ' H' w' ρ'' H'' w'') : Moved ρ H w ρ'' H'' w'' where
  os := k.os.trans h.os
  tape := k.tape.trans h.tape
  output := k.output.trans h.output
  size := Nat.le_trans h.size k.size
  block := fun b hb hn => by
    rw [k.block b (Nat.lt_of_lt_of_le hb h.size) ?_, h.block b hb hn]
    intro i hi ho e
    rcases h.owned i hi ho with hl | ⟨j, hj, hjo, hje⟩
    · omega
    · exact hn j hj hjo (hje.symm.trans e)
  owned := fun i hi ho => by
    rcases k.owned i hi ho with hl | ⟨j, hj, hjo, hje⟩
    · exact .inl (Nat.le_trans h.size hl)
    · rcases h.owned j hj hjo with hl | ⟨m, hm, hmo, hme⟩
      · exact .inl (by omega)
      · exact .inr ⟨m, hm, hmo, hje.trans hme⟩
  sits := fun i hi ho => by
    rcases k.sits i hi ho with hl | ⟨j, hj, hjo, hje⟩
    · exact .inl (Nat.le_trans h.size hl)
    · rcases h.sits j hj hjo with hl | ⟨m, hm, hmo, hme⟩
      · exact .inl (by omega)
      · exact .inr ⟨m, hm, hmo, hje.trans hme⟩
  more := Nat.le_trans h.more k.more
  ext := h.ext.trans h.more k.ext
  sat := k.sat

theorem LObj.sits_of_owns {o : LObj} (h : o.owns = true) : o.sits = true := by
  cases o <;> first | rfl | cases h
/-- A draw turns nothing. -/
theorem Sat.drawn {ρ : Nat → RB} {H : Heap} {w w' : World} (h : Sat ρ H w) (hh : w'.heap = w.heap) : Sat ρ H w' :=
  ⟨h.wf, fun i hi => (h.obj i hi).world (fun _ => by rw [hh]), h.apart, fun i hi ho => by rw [hh]; exact h.inside i hi ho⟩
theorem Moved.drawn {ρ : Nat → RB} {H : Heap} {w w' : World} (h : Sat ρ H w) (hh : w'.heap = w.heap) (ho : w'.os = w.os) (ht : w'.tape = w.tape) (hp : w'.output = w.output) : Moved ρ H w ρ H w' :=
  ⟨ho, ht, hp, by rw [hh]; exact Nat.le_refl _, fun _ _ _ => by rw [hh], fun i hi ho => .inr ⟨i, hi, ho, rfl⟩, fun i hi ho => .inr ⟨i, hi, ho, rfl⟩, Nat.le_refl _, Ext.refl _ _, h.drawn hh⟩

def upRho (ρ : Nat → RB) (n : Nat) (r : RB) : Nat → RB := fun i => if i = n then r else ρ i
theorem upRho_new (ρ : Nat → RB) (n : Nat) (r : RB) : upRho ρ n r n = r := by simp [upRho]
theorem upRho_ext (ρ : Nat → RB) (n : Nat) (r : RB) : Ext n ρ (upRho ρ n r) := fun i hi => by simp [upRho, Nat.ne_of_lt hi]

/-- A new object, in a new block of the world's. -/
theorem Moved.push {ρ : Nat → RB} {H : Heap} {w w' : World} (h : Sat ρ H w) (o : LObj) (O : Obj) (r : RB) (hr : r.blk = w.heap.size) (hw : w'.heap = w.heap.push O)
    (hos : w'.os = w.os) (ht : w'.tape = w.tape) (hp : w'.output = w.output) (hl : ltObj (H.n + 1) o) (ho : SatObj (upRho ρ H.n r) r w' o) :
    Moved ρ H w (upRho ρ H.n r) (H.push o) w' := by
  have hold : ∀ b, b < w.heap.size → w'.heap[b]? = w.heap[b]? := fun b hb => by
    rw [hw, Array.getElem?_push, if_neg (by omega)]
  have hin := h.inside
  refine ⟨hos, ht, hp, by rw [hw]; simp, fun b hb _ => hold b hb, ?_, ?_, by rw [Heap.n_push]; omega, upRho_ext _ _ _, ?_, ?_, ?_, ?_⟩
  · intro i hi hown
    rw [Heap.n_push] at hi
    by_cases e : i = H.n
    · subst e; exact .inl (by rw [upRho_new, hr]; exact Nat.le_refl _)
    · rw [Heap.get_push_old (by omega)] at hown
      exact .inr ⟨i, by omega, hown, by rw [upRho_ext ρ H.n r i (by omega)]⟩
  · intro i hi hown
    rw [Heap.n_push] at hi
    by_cases e : i = H.n
    · subst e; exact .inl (by rw [upRho_new, hr]; exact Nat.le_refl _)
    · rw [Heap.get_push_old (by omega)] at hown
      exact .inr ⟨i, by omega, hown, by rw [upRho_ext ρ H.n r i (by omega)]⟩
  · intro i hi
    rw [Heap.n_push] at hi ⊢
    by_cases e : i = H.n
    · subst e; rw [Heap.get_push_new]; exact hl
    · rw [Heap.get_push_old (by omega)]; exact ltObj_mono (by omega) (h.wf i (by omega))
  · intro i hi
    rw [Heap.n_push] at hi
    by_cases e : i = H.n
    · subst e; rw [Heap.get_push_new, upRho_new]; exact ho
    · rw [Heap.get_push_old (by omega), upRho_ext ρ H.n r i (by omega)]
      exact ((h.obj i (by omega)).world fun hs => hold _ (hin i (by omega) hs)).ext (upRho_ext ρ H.n r) (h.wf i (by omega))
  · intro i j hi hj hne hio hjs
    rw [Heap.n_push] at hi hj
    by_cases ei : i = H.n
    · by_cases ej : j = H.n
      · omega
      · subst ei
        rw [Heap.get_push_old (by omega)] at hjs
        rw [upRho_new, upRho_ext ρ H.n r j (by omega), hr]
        have := hin j (by omega) hjs
        omega
    · by_cases ej : j = H.n
      · subst ej
        rw [Heap.get_push_old (by omega)] at hio
        rw [upRho_new, upRho_ext ρ H.n r i (by omega), hr]
        have := hin i (by omega) (LObj.sits_of_owns hio)
        omega
      · rw [Heap.get_push_old (by omega)] at hio hjs
        rw [upRho_ext ρ H.n r i (by omega), upRho_ext ρ H.n r j (by omega)]
        exact h.apart i j (by omega) (by omega) hne hio hjs
  · intro i hi hs
    rw [Heap.n_push] at hi
    by_cases e : i = H.n
    · subst e; rw [upRho_new, hr, hw]; simp
    · rw [Heap.get_push_old (by omega)] at hs
      rw [upRho_ext ρ H.n r i (by omega), hw]
      have := hin i (by omega) hs
      simp; omega

/-- A new object that lies nowhere. -/
theorem Moved.pushVoid {ρ : Nat → RB} {H : Heap} {w : World} (h : Sat ρ H w) (o : LObj) (r : RB) (hn : o.sits = false) (hl : ltObj (H.n + 1) o) (ho : SatObj (upRho ρ H.n r) r w o) :
    Moved ρ H w (upRho ρ H.n r) (H.push o) w := by
  have hno : o.owns = false := by cases hh : o.owns with | false => rfl | true => rw [LObj.sits_of_owns hh] at hn; cases hn
  refine ⟨rfl, rfl, rfl, Nat.le_refl _, fun _ _ _ => rfl, ?_, ?_, by rw [Heap.n_push]; omega, upRho_ext _ _ _, ?_, ?_, ?_, ?_⟩
  · intro i hi hown
    rw [Heap.n_push] at hi
    by_cases e : i = H.n
    · subst e; rw [Heap.get_push_new, hno] at hown; cases hown
    · rw [Heap.get_push_old (by omega)] at hown
      exact .inr ⟨i, by omega, hown, by rw [upRho_ext ρ H.n r i (by omega)]⟩
  · intro i hi hown
    rw [Heap.n_push] at hi
    by_cases e : i = H.n
    · subst e; rw [Heap.get_push_new, hn] at hown; cases hown
    · rw [Heap.get_push_old (by omega)] at hown
      exact .inr ⟨i, by omega, hown, by rw [upRho_ext ρ H.n r i (by omega)]⟩
  · intro i hi
    rw [Heap.n_push] at hi ⊢
    by_cases e : i = H.n
    · subst e; rw [Heap.get_push_new]; exact hl
    · rw [Heap.get_push_old (by omega)]; exact ltObj_mono (by omega) (h.wf i (by omega))
  · intro i hi
    rw [Heap.n_push] at hi
    by_cases e : i = H.n
    · subst e; rw [Heap.get_push_new, upRho_new]; exact ho
    · rw [Heap.get_push_old (by omega), upRho_ext ρ H.n r i (by omega)]
      exact (h.obj i (by omega)).ext (upRho_ext ρ H.n r) (h.wf i (by omega))
  · intro i j hi hj hne hio hjs
    rw [Heap.n_push] at hi hj
    by_cases ei : i = H.n
    · subst ei; rw [Heap.get_push_new, hno] at hio; cases hio
    · by_cases ej : j = H.n
      · subst ej; rw [Heap.get_push_new, hn] at hjs; cases hjs
      · rw [Heap.get_push_old (by omega)] at hio hjs
        rw [upRho_ext ρ H.n r i (by omega), upRho_ext ρ H.n r j (by omega)]
        exact h.apart i j (by omega) (by omega) hne hio hjs
  · intro i hi hs
    rw [Heap.n_push] at hi
    by_cases e : i = H.n
    · subst e; rw [Heap.get_push_new, hn] at hs; cases hs
    · rw [Heap.get_push_old (by omega)] at hs
      rw [upRho_ext ρ H.n r i (by omega)]
      exact h.inside i (by omega) hs

/-- An object turns, in the block that it owns. -/
theorem Moved.put {ρ : Nat → RB} {H : Heap} {w w' : World} (h : Sat ρ H w) {i : Nat} (hi : i < H.n) (hown : (H.get i).owns = true) (o : LObj)
    (hw : ∀ b, b ≠ (ρ i).blk → w'.heap[b]? = w.heap[b]?) (hsz : w'.heap.size = w.heap.size)
    (hos : w'.os = w.os) (ht : w'.tape = w.tape) (hp : w'.output = w.output) (hl : ltObj H.n o) (ho : SatObj ρ (ρ i) w' o) :
    Moved ρ H w ρ (H.put i o) w' := by
  refine ⟨hos, ht, hp, by rw [hsz]; exact Nat.le_refl _, fun b hb hn => hw b fun e => hn i hi hown e.symm, ?_, ?_, Nat.le_refl _, Ext.refl _ _, ?_, ?_, ?_, ?_⟩
  · intro j hj hjo
    rw [Heap.n_put] at hj
    by_cases e : i = j
    · subst e; exact .inr ⟨i, hi, hown, rfl⟩
    · rw [Heap.get_put_other e] at hjo; exact .inr ⟨j, hj, hjo, rfl⟩
  · intro j hj hjo
    rw [Heap.n_put] at hj
    by_cases e : i = j
    · subst e; exact .inr ⟨i, hi, LObj.sits_of_owns hown, rfl⟩
    · rw [Heap.get_put_other e] at hjo; exact .inr ⟨j, hj, hjo, rfl⟩
  · intro j hj
    rw [Heap.n_put] at hj ⊢
    by_cases e : i = j
    · subst e; rw [Heap.get_put_same]; exact hl
    · rw [Heap.get_put_other e]; exact h.wf j hj
  · intro j hj
    rw [Heap.n_put] at hj
    by_cases e : i = j
    · subst e; rw [Heap.get_put_same]; exact ho
    · rw [Heap.get_put_other e]
      exact (h.obj j hj).world fun hs => hw _ (Ne.symm (h.apart i j hi hj e hown hs))
  · intro a b ha hb hne hao hbs
    rw [Heap.n_put] at ha hb
    have hao' : (H.get a).owns = true := by
      by_cases e : i = a
      · subst e; exact hown
      · rwa [Heap.get_put_other e] at hao
    by_cases e : i = b
    · subst e
      exact h.apart a i ha hi hne hao' (LObj.sits_of_owns hown)
    · rw [Heap.get_put_other e] at hbs
      exact h.apart a b ha hb hne hao' hbs
  · intro j hj hs
    rw [Heap.n_put] at hj
    rw [hsz]
    by_cases e : i = j
    · subst e; exact h.inside i hi (LObj.sits_of_owns hown)
    · rw [Heap.get_put_other e] at hs; exact h.inside j hj hs

/-- What is not looked at any more. -/
theorem Moved.kill {ρ : Nat → RB} {H : Heap} {w : World} (h : Sat ρ H w) (i : Nat) : Moved ρ H w ρ (H.put i .dead) w := by
  refine ⟨rfl, rfl, rfl, Nat.le_refl _, fun _ _ _ => rfl, ?_, ?_, Nat.le_refl _, Ext.refl _ _, ?_, ?_, ?_, ?_⟩
  · intro j hj hjo
    rw [Heap.get_put] at hjo
    split at hjo
    · cases hjo
    · exact .inr ⟨j, hj, hjo, rfl⟩
  · intro j hj hjo
    rw [Heap.get_put] at hjo
    split at hjo
    · cases hjo
    · exact .inr ⟨j, hj, hjo, rfl⟩
  · intro j hj
    rw [Heap.get_put, Heap.n_put]
    split
    · trivial
    · exact h.wf j hj
  · intro j hj
    rw [Heap.get_put]
    split
    · trivial
    · exact h.obj j hj
  · intro a b ha hb hne hao hbs
    rw [Heap.get_put] at hao hbs
    split at hao
    · cases hao
    · split at hbs
      · cases hbs
      · exact h.apart a b ha hb hne hao hbs
  · intro j hj hs
    rw [Heap.get_put] at hs
    split at hs
    · cases hs
    · exact h.inside j hj hs

/-- A new local object takes over the block of one that is not looked at any more. -/
theorem Moved.succeed {ρ : Nat → RB} {H : Heap} {w w' : World} (h : Sat ρ H w) {j : Nat} (hj : j < H.n) (hown : (H.get j).owns = true) (o : LObj) (r : RB) (hr : r.blk = (ρ j).blk)
    (hw : ∀ b, b ≠ (ρ j).blk → w'.heap[b]? = w.heap[b]?) (hsz : w'.heap.size = w.heap.size)
    (hos : w'.os = w.os) (ht : w'.tape = w.tape) (hp : w'.output = w.output) (hl : ltObj (H.n + 1) o) (ho : SatObj (upRho ρ H.n r) r w' o) :
    Moved ρ H w (upRho ρ H.n r) ((H.put j .dead).push o) w' := by
  have hn : (H.put j .dead).n = H.n := Heap.n_put _ _ _
  have old : ∀ i, i < H.n → ((H.put j .dead).push o).get i = if j = i then .dead else H.get i := fun i hi => by
    rw [Heap.get_push_old (by rw [hn]; exact hi), Heap.get_put]
  have new : ((H.put j .dead).push o).get H.n = o := by
    have := Heap.get_push_new (H.put j .dead) o
    rwa [hn] at this
  have hin := h.inside j hj (LObj.sits_of_owns hown)
  refine ⟨hos, ht, hp, by rw [hsz]; exact Nat.le_refl _, fun b hb hnn => hw b fun e => hnn j hj hown e.symm, ?_, ?_, by rw [Heap.n_push, hn]; omega, upRho_ext _ _ _, ?_, ?_, ?_, ?_⟩
  · intro i hi hio
    rw [Heap.n_push, hn] at hi
    by_cases e : i = H.n
    · subst e; exact .inr ⟨j, hj, hown, by rw [upRho_new, hr]⟩
    · rw [old i (by omega)] at hio
      split at hio
      · cases hio
      · exact .inr ⟨i, by omega, hio, by rw [upRho_ext ρ H.n r i (by omega)]⟩
  · intro i hi hio
    rw [Heap.n_push, hn] at hi
    by_cases e : i = H.n
    · subst e; exact .inr ⟨j, hj, LObj.sits_of_owns hown, by rw [upRho_new, hr]⟩
    · rw [old i (by omega)] at hio
      split at hio
      · cases hio
      · exact .inr ⟨i, by omega, hio, by rw [upRho_ext ρ H.n r i (by omega)]⟩
  · intro i hi
    rw [Heap.n_push, hn] at hi
    rw [Heap.n_push, hn]
    by_cases e : i = H.n
    · subst e; rw [new]; exact hl
    · rw [old i (by omega)]
      split
      · trivial
      · exact ltObj_mono (by omega) (h.wf i (by omega))
  · intro i hi
    rw [Heap.n_push, hn] at hi
    by_cases e : i = H.n
    · subst e; rw [new, upRho_new]; exact ho
    · rw [old i (by omega), upRho_ext ρ H.n r i (by omega)]
      split
      · trivial
      · rename_i hne
        exact ((h.obj i (by omega)).world fun hs => hw _ (Ne.symm (h.apart j i hj (by omega) hne hown hs))).ext (upRho_ext ρ H.n r) (h.wf i (by omega))
  · intro a b ha hb hne hao hbs
    rw [Heap.n_push, hn] at ha hb
    by_cases ea : a = H.n
    · subst ea
      rw [old b (by omega)] at hbs
      rw [upRho_new, upRho_ext ρ H.n r b (by omega), hr]
      split at hbs
      · cases hbs
      · rename_i hjb
        exact h.apart j b hj (by omega) hjb hown hbs
    · rw [old a (by omega)] at hao
      split at hao
      · cases hao
      · rename_i hja
        by_cases eb : b = H.n
        · subst eb
          rw [upRho_new, upRho_ext ρ H.n r a (by omega), hr]
          exact h.apart a j (by omega) hj (Ne.symm hja) hao (LObj.sits_of_owns hown)
        · rw [old b (by omega)] at hbs
          split at hbs
          · cases hbs
          · rw [upRho_ext ρ H.n r a (by omega), upRho_ext ρ H.n r b (by omega)]
            exact h.apart a b (by omega) (by omega) hne hao hbs
  · intro i hi hs
    rw [Heap.n_push, hn] at hi
    rw [hsz]
    by_cases e : i = H.n
    · subst e; rw [upRho_new, hr]; exact hin
    · rw [old i (by omega)] at hs
      split at hs
      · cases hs
      · rw [upRho_ext ρ H.n r i (by omega)]
        exact h.inside i (by omega) hs
end Go.Proofs.Ytmnpnomllcghmaa.Ev
