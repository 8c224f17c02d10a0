/- Comparing, converting, slicing. -/
import Derived.Test.YtmnpnomllcghmaaOps3
namespace Go.Proofs.Ytmnpnomllcghmaa.Ev
open Go

variable {P : Program} {ρ : Nat → RB} {H : Heap} {w : World}

theorem eqNil_run (D : Nat) {t : TypeId} {kc : Bool} {x y : LV} {b : Bool} (h : eqNil P t kc x y = some b) : (Op.equalIn (D + 1) t (dec ρ x) (dec ρ y)).run P w = .ok b w := by
  unfold eqNil at h
  rw [Op.equalIn]
  split at h
  · rename_i e hu
    simp only [Sem.run_bind, run_underlying hu, Result.andThen_ok]
    split at h <;> first
      | (injection h with h; subst h; rfl)
      | (cases h)
  · rename_i e hu
    simp only [Sem.run_bind, run_underlying hu, Result.andThen_ok]
    split at h <;> first
      | (injection h with h; subst h; rfl)
      | (cases h)
  · rename_i e f hu
    simp only [Sem.run_bind, run_underlying hu, Result.andThen_ok]
    split at h <;> first
      | (injection h with h; subst h; rfl)
      | (cases h)
  · rename_i e f g hu
    simp only [Sem.run_bind, run_underlying hu, Result.andThen_ok]
    split at h <;> first
      | (injection h with h; subst h; rfl)
      | (cases h)
  · rename_i e hu
    simp only [Sem.run_bind, run_underlying hu, Result.andThen_ok]
    split at h
    · replace h := cond_some h; obtain ⟨hk, h⟩ := h
      injection h with h; subst h; rfl
    · injection h with h; subst h; rfl
    · injection h with h; subst h; rfl
    · cases h
  · cases h
theorem guard_other (a c : Value) (t : TypeId) (h1 : ¬ (a = .nilIface ∧ c = .nilIface)) (h2 : ∀ l, a ≠ .agg l) (op : BinOp) (X Y : Operand) : (eqGuard op t X Y a c).run P w = .ok () w := by
  unfold eqGuard
  cases op <;> first
    | rfl
    | (cases a <;> first
        | rfl
        | exact absurd rfl (h2 _)
        | (cases c <;> first
            | rfl
            | exact absurd ⟨rfl, rfl⟩ h1))
theorem eqNil_kinds {t : TypeId} {kc : Bool} {x y : LV} {b : Bool} (h : eqNil P t kc x y = some b) : (x = .nili ∧ y = .nili ∧ kc = true) ∨ (¬ (x = .nili ∧ y = .nili) ∧ (∀ l, x ≠ .agg l) ∧ isJunk x = false ∧ isJunk y = false) := by
  unfold eqNil at h
  split at h <;> first
    | (split at h <;> first
        | (cases h; done)
        | (replace h := cond_some h; obtain ⟨hk, _⟩ := h; exact .inl ⟨rfl, rfl, hk⟩)
        | exact .inr ⟨by simp, by simp, rfl, rfl⟩)
    | (cases h; done)
theorem dec_nili {x : LV} (h : dec ρ x = .nilIface) : x = .nili := by
  cases x <;> simp [dec] at h <;> rfl
theorem dec_agg {x : LV} {l : Array Value} (h : dec ρ x = .agg l) : ∃ cs, x = .agg cs := by
  cases x <;> simp [dec] at h
  exact ⟨_, rfl⟩

theorem guard_const {op : BinOp} {t : TypeId} {X Y : Operand} (h : (isConst X || isConst Y) = true) : eqGuard op t X Y .nilIface .nilIface = pure () := by
  unfold eqGuard
  cases X <;> cases Y <;> simp [isConst] at h <;> cases op <;> rfl

theorem eqL_ok {op : BinOp} {t : TypeId} {X Y : Operand} {x y : LV} {b : Bool} (h : eqL P t (isConst X || isConst Y) x y = some b) :
    (Op.equal t (dec ρ x) (dec ρ y)).run P w = .ok b w ∧ (eqGuard op t X Y (dec ρ x) (dec ρ y)).run P w = .ok () w := by
  unfold eqL at h
  split at h
  · rename_i xs ys
    replace h := cond_some' h; obtain ⟨hg, h⟩ := h
    refine ⟨eqT_ok 12 Op.maxDepth t _ _ b (by simp [Op.maxDepth]) h w, ?_⟩
    simp only [dec, eqGuard]
    cases op <;> simp [hg]
  · split at h
    · rename_i hu
      injection h with h; subst h
      refine ⟨?_, ?_⟩
      · show (Op.equalIn (9999 + 1) _ _ _).run P w = _
        rw [Op.equalIn]
        simp only [Sem.run_bind, run_underlying hu, Result.andThen_ok]
        rfl
      · cases op <;> rfl
    · cases h
  · refine ⟨eqNil_run 9999 h, ?_⟩
    rcases eqNil_kinds h with ⟨rfl, rfl, hk⟩ | ⟨hn, ha, _, _⟩
    · rw [show dec ρ .nili = .nilIface from rfl, guard_const hk]; rfl
    · exact guard_other _ _ t (fun hh => hn ⟨dec_nili hh.1, dec_nili hh.2⟩) (fun l hl => by obtain ⟨cs, rfl⟩ := dec_agg hl; exact ha cs rfl) op X Y

theorem eqL_kinds {t : TypeId} {kc : Bool} {x y : LV} {b : Bool} (h : eqL P t kc x y = some b) : isJunk x = false ∧ isJunk y = false := by
  unfold eqL at h
  split at h
  · exact ⟨rfl, rfl⟩
  · exact ⟨rfl, rfl⟩
  · rcases eqNil_kinds h with ⟨rfl, rfl, _⟩ | ⟨_, _, h1, h2⟩
    · exact ⟨rfl, rfl⟩
    · exact ⟨h1, h2⟩

def otherKind : LV → Bool
  | .int _ _ | .str _ | .junk | .tup _ => false
  | _ => true
theorem binOp_eql_other {x : LV} (h : otherKind x = true) (t : TypeId) (c : Value) : binOp .eql t (dec ρ x) c = (do pure (.bool (← Op.equal t (dec ρ x) c))) := by
  cases x <;> first | (cases h; done) | rfl
theorem binOp_neq_other {x : LV} (h : otherKind x = true) (t : TypeId) (c : Value) : binOp .neq t (dec ρ x) c = (do pure (.bool (!(← Op.equal t (dec ρ x) c)))) := by
  cases x <;> first | (cases h; done) | rfl
theorem eqL_other {t : TypeId} {kc : Bool} {x y : LV} {b : Bool} (h : eqL P t kc x y = some b) : otherKind x = true := by
  unfold eqL at h
  split at h
  · rfl
  · rfl
  · unfold eqNil at h
    split at h <;> first
      | (split at h <;> first
          | (cases h; done)
          | rfl)
      | (cases h; done)
theorem bin_ok {op : BinOp} {t : TypeId} {X Y : Operand} {x y : LV} {a c : Value} {v : LV} (hx : Is ρ x a) (hy : Is ρ y c) (h : binL P op t (isConst X || isConst Y) x y = some v) :
    (do eqGuard op t X Y a c; binOp op t a c : Sem Value).run P w = .ok (dec ρ v) w ∧ lt H.n v := by
  unfold binL at h
  split at h
  · rename_i k p k' q
    rw [hx.eq rfl, hy.eq rfl]
    have hg : eqGuard op t X Y (dec ρ (.int k p)) (dec ρ (.int k' q)) = pure () := by cases op <;> rfl
    rw [hg, pure_bind]
    cases hs : isShift op with
    | true =>
      rw [hs] at h
      simp only [cond_true] at h
      have : binOp op t (dec ρ (.int k p)) (dec ρ (.int k' q)) = Op.shift op k p k' q := by
        cases op <;> simp [isShift] at hs <;> rfl
      rw [this]
      exact shift_ok h
    | false =>
      rw [hs] at h
      simp only [cond_false] at h
      split at h
      · rename_i e; subst e
        exact intBin_ok hs h
      · cases h
  · rename_i a' b'
    rw [hx.eq rfl, hy.eq rfl]
    have hg : eqGuard op t X Y (dec ρ (.str a')) (dec ρ (.str b')) = pure () := by cases op <;> rfl
    rw [hg, pure_bind]
    exact strBin_ok h
  · rename_i hni hns
    split at h
    · cases he : eqL P t (isConst X || isConst Y) x y with
      | none => rw [he] at h; cases h
      | some b =>
        rw [he] at h
        injection h with h; subst h
        obtain ⟨hjx, hjy⟩ := eqL_kinds he
        rw [hx.eq hjx, hy.eq hjy]
        obtain ⟨h1, h2⟩ := eqL_ok (op := .eql) (ρ := ρ) (w := w) he
        rw [binOp_eql_other (eqL_other he)]
        simp only [Sem.run_bind, h1, h2, Result.andThen_ok, Sem.run_pure]
        exact ⟨rfl, trivial⟩
    · cases he : eqL P t (isConst X || isConst Y) x y with
      | none => rw [he] at h; cases h
      | some b =>
        rw [he] at h
        injection h with h; subst h
        obtain ⟨hjx, hjy⟩ := eqL_kinds he
        rw [hx.eq hjx, hy.eq hjy]
        obtain ⟨h1, h2⟩ := eqL_ok (op := .neq) (ρ := ρ) (w := w) he
        rw [binOp_neq_other (eqL_other he)]
        simp only [Sem.run_bind, h1, h2, Result.andThen_ok, Sem.run_pure]
        exact ⟨rfl, trivial⟩
    · cases h

theorem un_ok {op : UnOp} {x v : LV} (h : unL op x = some v) : (Op.unary op (dec ρ x)).run P w = .ok (dec ρ v) w ∧ lt H.n v := by
  unfold unL at h
  split at h
  · injection h with h; subst h; exact ⟨rfl, trivial⟩
  · injection h with h; subst h; exact ⟨rfl, trivial⟩
  · injection h with h; subst h; exact ⟨rfl, trivial⟩
  · cases h
theorem un_junk {op : UnOp} {x v : LV} (h : unL op x = some v) : isJunk x = false := by
  unfold unL at h
  split at h <;> first | rfl | cases h

/-! cells of a slice -/
theorem cellsAt_lt (hs : Sat ρ H w) {n : Nat} {x : LV} {cs : List LV} (h : cellsAt H n x = some cs) (hx : lt H.n x) : lts H.n cs := by
  unfold cellsAt at h
  split at h
  · replace h := cond_some h; obtain ⟨_, h⟩ := h; injection h with h; subst h; trivial
  · replace h := cond_some h; obtain ⟨_, h⟩ := h; injection h with h; subst h; trivial
  · rename_i i o l c
    split at h
    · rename_i e k cs' hg
      replace h := cond_some h; obtain ⟨_, h⟩ := h; injection h with h; subst h
      have := hs.wf i hx
      rw [hg] at this
      simp only [ltObj] at this
      rw [lts_iff] at this ⊢
      intro v hv
      rw [takeN_eq, dropN_eq] at hv
      exact this v (List.mem_of_mem_drop (List.mem_of_mem_take hv))
    · cases h
  · replace h := cond_some h; obtain ⟨_, h⟩ := h; injection h with h; subst h
    rw [ofBytes_eq, lts_iff]
    intro v hv
    obtain ⟨b, _, rfl⟩ := List.mem_map.1 hv
    trivial
  · cases h
theorem cellsAt_length {n : Nat} {x : LV} {cs : List LV} (h : cellsAt H n x = some cs) : cs.length = n := by
  unfold cellsAt at h
  split at h
  · replace h := cond_some h; obtain ⟨a, h⟩ := h; injection h with h; subst h; rw [beqN a]; rfl
  · replace h := cond_some h; obtain ⟨a, h⟩ := h; injection h with h; subst h; rw [beqN a]; rfl
  · split at h
    · replace h := cond_some h; obtain ⟨a, h⟩ := h; injection h with h; subst h
      have a := Nat.le_of_ble_eq_true a
      rw [lenL_eq] at a
      rw [takeN_eq, dropN_eq, List.length_take, List.length_drop]; omega
    · cases h
  · replace h := cond_some h; obtain ⟨a, h⟩ := h; injection h with h; subst h
    have a := Nat.le_of_ble_eq_true a
    rw [lenL_eq] at a
    rw [ofBytes_eq, takeB_eq]; simp; omega
  · cases h
theorem lenV_ok {x : LV} {n : Nat} (h : lenV x = some n) : (Builtin.lenOf (dec ρ x)).run P w = .ok n w := by
  unfold lenV at h
  split at h <;> first
    | (injection h with h; subst h; first | rfl | (simp only [dec, Builtin.lenOf, size_mk, lenL_eq]; rfl))
    | (cases h)

/-- The cells that are read off a slice or a text. -/
theorem firstCells_ok (hs : Sat ρ H w) {size n : Nat} {x : LV} {cs : List LV} (h : cellsAt H (n * size) x = some cs) (hx : lt H.n x) (hst : isStr x = true → size = 1) (hn : n * size = 0 ∨ ∀ i, x ≠ .emp i) :
    (Builtin.firstCells size n (dec ρ x)).run P w = .ok (decs ρ cs).toArray w := by
  unfold cellsAt at h
  split at h
  · replace h := cond_some h; obtain ⟨a, h⟩ := h; injection h with h; subst h; rfl
  · rename_i i
    replace h := cond_some h; obtain ⟨a, h⟩ := h; injection h with h; subst h
    simp only [dec, Builtin.firstCells]
    rw [beqN a]
    rfl
  · rename_i i o l c
    split at h
    · rename_i e k cs' hg
      replace h := cond_some h; obtain ⟨a, h⟩ := h; injection h with h; subst h
      have a := Nat.le_of_ble_eq_true a
      rw [lenL_eq] at a
      have ho := hs.obj i hx
      rw [hg] at ho
      simp only [dec, Builtin.firstCells, takeN_eq, dropN_eq]
      exact run_cells ho o (n * size) a
    · cases h
  · rename_i s
    replace h := cond_some h; obtain ⟨a, h⟩ := h; injection h with h; subst h
    have a := Nat.le_of_ble_eq_true a
    rw [lenL_eq] at a
    have h1 : size = 1 := hst rfl
    subst h1
    rw [Nat.mul_one] at a ⊢
    simp only [dec, Builtin.firstCells, Sem.run_pure, ofBytes_eq, takeB_eq]
    congr 1
    apply Array.ext'
    simp only [decs_eq, List.map_map]
    have : (ByteArray.extract ⟨s.toArray⟩ 0 n).data.toList = s.take n := by
      rw [ByteArray.data_extract]
      simp
    rw [Array.toList_map, this]
    rfl
  · cases h
end Go.Proofs.Ytmnpnomllcghmaa.Ev
