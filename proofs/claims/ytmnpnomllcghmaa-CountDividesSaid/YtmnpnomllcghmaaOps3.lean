/- Operations on values alone. -/
import Derived.Test.YtmnpnomllcghmaaOps2
import Derived.Laws.Strings
namespace Go.Proofs.Ytmnpnomllcghmaa.Ev
open Go

variable {P : Program} {ρ : Nat → RB} {H : Heap} {w : World}

theorem fieldPlace_run {a : Addr} {fd : Field} {n : Nat} (h : sizeOfT P fd.type = some n) (hn : n ≠ 0) (w : World) : (fieldPlace a fd).run P w = .ok (a.add fd.offset) w := by
  unfold fieldPlace
  simp only [Sem.run_bind, run_sizeOf' h, Result.andThen_ok, if_neg hn, Sem.run_pure]

theorem fieldAddr_ok {s : TypeId} {f : Nat} {x v : LV} (h : fieldAddrL P s f x = some v) (hx : lt H.n x) : (Instr.fieldAt s (dec ρ x) f).run P w = .ok (dec ρ v) w ∧ lt H.n v := by
  unfold fieldAddrL at h
  split at h
  · rename_i i o
    split at h
    · rename_i fields hu
      split at h
      · rename_i fd hf
        split at h
        · rename_i n hn
          replace h := cond_some' h; obtain ⟨h0, h⟩ := h
          simp only [Option.some.injEq] at h
          subst h
          refine ⟨?_, hx⟩
          simp only [Instr.fieldAt, Sem.run_bind, run_underlying hu, Result.andThen_ok, hf, dec, Instr.sureAddr, Sem.run_pure, fieldPlace_run hn (beqN_false h0), add_none, Nat.add_assoc]
        · cases h
      · cases h
    · cases h
  · cases h

theorem indexAddr_ok {t : TypeId} {x ix v : LV} (h : indexAddrL P t x ix = some v) (hx : lt H.n x) : (Instr.indexAt t (dec ρ x) (dec ρ ix)).run P w = .ok (dec ρ v) w ∧ lt H.n v := by
  unfold indexAddrL at h
  split at h
  · rename_i k ix
    split at h
    · rename_i len elem hu
      split at h
      · rename_i i o
        split at h
        · rename_i n hn
          replace h := cond_some h; obtain ⟨h1, h⟩ := h
          replace h := cond_some h; obtain ⟨h2, h⟩ := h
          simp only [Option.some.injEq] at h
          subst h
          have h1 := of_decide_eq_true h1
          have h2 := of_decide_eq_true h2
          refine ⟨?_, hx⟩
          simp only [Instr.indexAt, dec, asIntOf, Sem.run_bind, Sem.run_pure, Result.andThen_ok, run_underlying hu, Instr.sureAddr, h1, h2, and_self, if_true, run_sizeOf' hn, add_none, Nat.add_assoc]
        · cases h
      · cases h
    · rename_i elem hu
      split at h
      · rename_i i o l c
        split at h
        · rename_i n hn
          replace h := cond_some h; obtain ⟨h1, h⟩ := h
          replace h := cond_some h; obtain ⟨h2, h⟩ := h
          simp only [Option.some.injEq] at h
          subst h
          have h1 := of_decide_eq_true h1
          have h2 := of_decide_eq_true h2
          refine ⟨?_, hx⟩
          simp only [Instr.indexAt, dec, asIntOf, Sem.run_bind, Sem.run_pure, Result.andThen_ok, run_underlying hu, h1, h2, and_self, if_true, run_sizeOf' hn, add_none, Nat.add_assoc]
        · cases h
      · cases h
    · cases h
  · cases h

theorem field_ok {t : TypeId} {f : Nat} {x v : LV} (h : fieldL P t f x = some v) (hx : lt H.n x) : (Instr.field t (dec ρ x) f).run P w = .ok (dec ρ v) w ∧ lt H.n v := by
  unfold fieldL at h
  split at h
  · rename_i cs
    split at h
    · rename_i fields hu
      split at h
      · rename_i fd hf
        refine ⟨?_, lt_partOf h hx⟩
        simp only [Instr.field, Sem.run_bind, run_underlying hu, Result.andThen_ok, hf, dec, asAgg, Sem.run_pure, run_part h]
      · cases h
    · cases h
  · cases h

theorem index_ok {t : TypeId} {x ix v : LV} (h : indexL P t x ix = some v) (hx : lt H.n x) : (Instr.index t (dec ρ x) (dec ρ ix)).run P w = .ok (dec ρ v) w ∧ lt H.n v := by
  unfold indexL at h
  split at h
  · rename_i k ix
    split at h
    · rename_i len elem hu
      split at h
      · rename_i cs
        split at h
        · rename_i n hn
          replace h := cond_some h; obtain ⟨h1, h⟩ := h
          replace h := cond_some h; obtain ⟨h2, h⟩ := h
          have h1 := of_decide_eq_true h1
          have h2 := of_decide_eq_true h2
          refine ⟨?_, lt_partOf h hx⟩
          simp only [Instr.index, dec, asIntOf, Sem.run_bind, Sem.run_pure, Result.andThen_ok, run_underlying hu, h1, h2, and_self, if_true, run_sizeOf' hn, run_part h]
        · cases h
      · cases h
    · rename_i hu
      split at h
      · rename_i s
        replace h := cond_some h; obtain ⟨h1, h⟩ := h
        have h1 := of_decide_eq_true h1
        rw [nthB_eq] at h
        cases hb : s[ix.toNat]? with
        | none => rw [hb] at h; cases h
        | some b =>
          rw [hb] at h
          simp only [Option.map_some, Option.some.injEq] at h
          subst h
          refine ⟨?_, trivial⟩
          have hget : (⟨s.toArray⟩ : ByteArray)[ix.toNat]? = some b := by
            have hlt : ix.toNat < s.length := (List.getElem?_eq_some_iff.1 hb).1
            have hbb : s[ix.toNat] = b := (List.getElem?_eq_some_iff.1 hb).2
            have : ix.toNat < (⟨s.toArray⟩ : ByteArray).size := by simpa [ByteArray.size] using hlt
            rw [getElem?_pos (⟨s.toArray⟩ : ByteArray) ix.toNat this]
            exact congrArg some hbb
          simp only [Instr.index, dec, asIntOf, Sem.run_bind, Sem.run_pure, Result.andThen_ok, run_underlying hu, h1, if_true, hget]
      · cases h
    · cases h
  · cases h

/-! numbers, texts -/
theorem eqB_eq : ∀ (a b : List UInt8), eqB a b = (a == b)
  | [], [] => rfl
  | [], _ :: _ => rfl
  | _ :: _, [] => rfl
  | a :: x, b :: y => by
    unfold eqB
    rw [eqB_eq x y]
    have : Nat.beq a.toNat b.toNat = (a == b) := by
      rw [Bool.eq_iff_iff, Nat.beq_eq, beq_iff_eq, UInt8.toNat_inj]
    rw [this]
    cases h : (a == b) <;> simp_all
theorem ltB_eq : ∀ (a b : List UInt8), ltB a b = Op.bytesLess a b
  | [], [] => rfl
  | _ :: _, [] => rfl
  | [], _ :: _ => rfl
  | a :: x, b :: y => by
    unfold ltB Op.bytesLess
    rw [ltB_eq x y]
    have h1 : Nat.beq a.toNat b.toNat = (a == b) := by
      rw [Bool.eq_iff_iff, Nat.beq_eq, beq_iff_eq, UInt8.toNat_inj]
    have h2 : Nat.blt a.toNat b.toNat = decide (a < b) := by
      rw [Bool.eq_iff_iff, bltN, decide_eq_true_eq, UInt8.lt_iff_toNat_lt]
    rw [h1, h2]
    cases decide (a < b) <;> cases (a == b) <;> simp

theorem toList_mk (s : List UInt8) : (⟨s.toArray⟩ : ByteArray).toList = s := by
  exact ByteArray.toList_mk s

theorem size_mk (s : List UInt8) : (⟨s.toArray⟩ : ByteArray).size = s.length := by simp [ByteArray.size]

theorem shift_ok {op : BinOp} {k yk : IntKind} {x y : Int} {v : LV} (h : shiftL op k x y = some v) : (Op.shift op k x yk y).run P w = .ok (dec ρ v) w ∧ lt H.n v := by
  unfold shiftL at h
  split at h
  · cases h
  · rename_i hy
    unfold Op.shift
    rw [if_neg hy]
    split at h
    · injection h with h; subst h; exact ⟨rfl, trivial⟩
    · injection h with h; subst h; exact ⟨rfl, trivial⟩
    · cases h

theorem intBin_ok {op : BinOp} {t : TypeId} {k : IntKind} {x y : Int} {v : LV} (hsh : isShift op = false) (h : intBin op k x y = some v) :
    (binOp op t (.int k x) (.int k y)).run P w = .ok (dec ρ v) w ∧ lt H.n v := by
  unfold intBin at h
  cases op <;> simp only [isShift] at hsh <;> first
    | (cases hsh; done)
    | (cases h; done)
    | (injection h with h; subst h; exact ⟨by simp [binOp, Op.intArith, Op.intBits, Op.intCmp, dec], trivial⟩)
    | (simp only at h
       split at h
       · cases h
       · rename_i hy
         injection h with h; subst h; exact ⟨by simp [binOp, Op.intDiv, hy, dec], trivial⟩)

theorem strBin_ok {op : BinOp} {t : TypeId} {a b : List UInt8} {v : LV} (h : strBin op a b = some v) :
    (binOp op t (.string ⟨a.toArray⟩) (.string ⟨b.toArray⟩)).run P w = .ok (dec ρ v) w ∧ lt H.n v := by
  unfold strBin at h
  have hb : binOp op t (.string ⟨a.toArray⟩) (.string ⟨b.toArray⟩) = Op.stringOp op ⟨a.toArray⟩ ⟨b.toArray⟩ := by
    cases op <;> rfl
  rw [hb]
  by_cases hop : op = .add
  · subst hop
    replace h := cond_some h; obtain ⟨h1, h⟩ := h
    injection h with h; subst h
    refine ⟨?_, trivial⟩
    have h1 := Nat.le_of_ble_eq_true h1
    rw [lenL_eq, lenL_eq] at h1
    simp only [Op.stringOp, size_mk]
    rw [if_neg (by simp [IntKind.max, IntKind.signed, IntKind.bits]; omega)]
    simp only [Sem.run_pure, dec, app_eq]
    congr 2
  · cases op <;> first
      | exact absurd rfl hop
      | (cases h; done)
      | (injection h with h; subst h
         exact ⟨by simp only [Op.stringOp, toList_mk, Sem.run_pure, dec, eqB_eq, ltB_eq], trivial⟩)

/-! is it the same? -/
theorem eq0_int {k k' : IntKind} {a b : Int} {c : Bool} (h : (if k = k' then some (a == b) else none) = some c) : k = k' ∧ c = (a == b) := by
  split at h
  · rename_i e; injection h with h; exact ⟨e, h.symm⟩
  · cases h
theorem both_some {a b : Option Bool} {c : Bool} (h : both a b = some c) : ∃ x y, a = some x ∧ b = some y ∧ c = (x && y) := by
  cases a with
  | none => cases h
  | some x =>
    cases b with
    | none => cases h
    | some y => injection h with h; exact ⟨x, y, rfl, rfl, h.symm⟩

theorem beq_mk (a b : List UInt8) : ((⟨a.toArray⟩ : ByteArray) == ⟨b.toArray⟩) = (a == b) := by
  show (a.toArray == b.toArray) = (a == b)
  simp

theorem eqFields_ok {f : TypeId → LV → LV → Option Bool} {F : TypeId → Value → Value → Sem Bool} {xs ys : List LV} (hf : ∀ t x y b, f t x y = some b → ∀ w, (F t (dec ρ x) (dec ρ y)).run P w = .ok b w) :
    ∀ (fs : List Field) (b : Bool) (w : World), eqFields P f xs ys fs = some b →
      (forIn fs ((none, ()) : Option Bool × Unit) (fun f _ => if f.name ≠ "_" then do
          let a ← part f.type (decs ρ xs).toArray f.offset
          let b ← part f.type (decs ρ ys).toArray f.offset
          let c ← F f.type a b
          if (!c) = true then pure (ForInStep.done (some false, ())) else pure (ForInStep.yield (none, ()))
        else pure (ForInStep.yield (none, ()))) : Sem (Option Bool × Unit)).run P w = .ok (if b then (none, ()) else (some false, ())) w
  | [], b, w, h => by
    injection h with h; subst h; simp
  | fd :: fs, b, w, h => by
    unfold eqFields at h
    replace h := cond_some' h; obtain ⟨hn, h⟩ := h
    split at h
    · rename_i x hx
      split at h
      · rename_i y hy
        obtain ⟨c, d, hc, hd, rfl⟩ := both_some h
        have ih := eqFields_ok hf fs d w hd
        have hn : fd.name ≠ "_" := by simpa using hn
        rw [List.forIn_cons]
        simp only [if_pos hn, Sem.run_bind, run_part hx, run_part hy, Result.andThen_ok, hf _ _ _ _ hc]
        cases c with
        | true => simpa using ih
        | false => simp
      · cases h
    · cases h

theorem eqElems_ok {e : TypeId} {n : Nat} {f : LV → LV → Option Bool} {F : Value → Value → Sem Bool} {xs ys : List LV} (hf : ∀ x y b, f x y = some b → ∀ w, (F (dec ρ x) (dec ρ y)).run P w = .ok b w) :
    ∀ (len i : Nat) (b : Bool) (w : World), eqElems P e n f xs ys len i = some b →
      (forIn (List.range' i len) ((none, ()) : Option Bool × Unit) (fun i _ => do
          let a ← part e (decs ρ xs).toArray (i * n)
          let b ← part e (decs ρ ys).toArray (i * n)
          let c ← F a b
          if (!c) = true then pure (ForInStep.done (some false, ())) else pure (ForInStep.yield (none, ()))) : Sem (Option Bool × Unit)).run P w = .ok (if b then (none, ()) else (some false, ())) w
  | 0, i, b, w, h => by
    injection h with h; subst h; simp
  | len + 1, i, b, w, h => by
    unfold eqElems at h
    split at h
    · rename_i x hx
      split at h
      · rename_i y hy
        obtain ⟨c, d, hc, hd, rfl⟩ := both_some h
        have ih := eqElems_ok hf len (i + 1) d w hd
        rw [List.range'_succ, List.forIn_cons]
        simp only [Sem.run_bind, run_part hx, run_part hy, Result.andThen_ok, hf _ _ _ hc]
        cases c with
        | true => simpa using ih
        | false => simp
      · cases h
    · cases h

theorem eqT_ok : ∀ (d D : Nat) (t : TypeId) (x y : LV) (b : Bool), d ≤ D → eqT P d t x y = some b → ∀ w, (Op.equalIn D t (dec ρ x) (dec ρ y)).run P w = .ok b w
  | 0, _, _, _, _, _, _, h, _ => by cases h
  | d + 1, D, t, x, y, b, hD, h, w => by
    obtain ⟨D, rfl⟩ : ∃ e, D = e + 1 := ⟨D - 1, by omega⟩
    unfold eqT at h
    split at h
    · rename_i fields hu
      split at h
      · rename_i xs ys
        replace h := cond_some' h; obtain ⟨hst, h⟩ := h
        simp only [dec]
        unfold Op.equalIn
        simp only [Sem.run_bind, run_underlying hu, Result.andThen_ok, run_program, hst, Sem.run_ite, Bool.false_eq_true, if_false]
        rw [← Array.forIn_toList]
        have := eqFields_ok (ρ := ρ) (P := P) (F := fun t x y => Op.equalIn D t x y) (f := eqT P d) (xs := xs) (ys := ys) (fun t x y b hb w => eqT_ok d D t x y b (by omega) hb w) fields.toList b w h
        rw [this]
        cases b <;> rfl
      · cases h
    · rename_i len elem hu
      split at h
      · rename_i xs ys
        split at h
        · rename_i n hn
          simp only [dec]
          unfold Op.equalIn
          simp only [Sem.run_bind, run_underlying hu, Result.andThen_ok, run_sizeOf' hn]
          rw [Std.Legacy.Range.forIn_eq_forIn_range']
          have := eqElems_ok (ρ := ρ) (P := P) (F := fun x y => Op.equalIn D elem x y) (f := eqT P d elem) (n := n) (xs := xs) (ys := ys) (fun x y b hb w => eqT_ok d D elem x y b (by omega) hb w) len 0 b w h
          simp only [Std.Legacy.Range.size, Nat.sub_zero, Nat.add_sub_cancel, Nat.div_one]
          rw [this]
          cases b <;> rfl
        · cases h
      · cases h
    · rename_i k _ _ hu
      unfold eqCells at h
      unfold Op.equalIn
      simp only [Sem.run_bind, run_underlying hu, Result.andThen_ok]
      split at h
      · split at h
        · injection h with h; subst h; rfl
        · cases h
      · split at h
        · obtain ⟨rfl, rfl⟩ := eq0_int h
          simp [dec]
        · cases h
      · split at h
        · injection h with h; subst h
          simp only [dec, eqB_eq]
          rw [← beq_mk]
          rfl
        · cases h
      · cases h
    · cases h
end Go.Proofs.Ytmnpnomllcghmaa.Ev
