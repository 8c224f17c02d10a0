/- Slicing. -/
import Derived.Test.YtmnpnomllcghmaaOps5
namespace Go.Proofs.Ytmnpnomllcghmaa.Ev
open Go

variable {P : Program} {ρ : Nat → RB} {H : Heap} {w : World}

theorem bound_none {d n : Nat} (h : bound none d = some n) : n = d := by injection h with h; exact h.symm
theorem bound_some {v : LV} {d n : Nat} (h : bound (some v) d = some n) : ∃ k, v = .int k n := by
  unfold bound at h
  split at h
  · rename_i heq; cases heq
  · rename_i k i heq
    injection heq with heq
    subst heq
    replace h := cond_some h; obtain ⟨h1, h⟩ := h
    injection h with h; subst h
    exact ⟨k, by have := of_decide_eq_true h1; rw [Int.toNat_of_nonneg this]⟩
  · cases h
theorem run_bound {k : IntKind} {n y : Nat} (h : n ≤ y) (code : BoundsCode) : (Instr.sliceBound (.int k n) y code).run P w = .ok n w := by
  unfold Instr.sliceBound
  simp only [asIntOf, Sem.run_bind, Sem.run_pure, Result.andThen_ok]
  rw [if_pos ⟨by omega, by omega⟩]
  simp

/-- A real optional operand, of a local one. -/
def IsO (ρ : Nat → RB) : Option LV → Option Value → Prop
  | none, none => True
  | some l, some v => Is ρ l v
  | _, _ => False
theorem IsO.none {v : Option Value} (h : IsO ρ none v) : v = none := by cases v <;> simp_all [IsO]
theorem IsO.int {v : Option Value} {k : IntKind} {n : Int} (h : IsO ρ (some (.int k n)) v) : v = some (.int k n) := by
  cases v with
  | none => cases h
  | some v => rw [Is.eq h rfl]; rfl

/-- The bounds, as the evaluator takes them. -/
theorem run_bounds {b : Bool} {len cap l h : Nat} {lo hi : Option LV} {lo' hi' : Option Value} (hlo : IsO ρ lo lo') (hhi : IsO ρ hi hi') (hb : bound hi len = some h) (lb : bound lo 0 = some l) (h1 : h ≤ cap) (h2 : l ≤ h) :
    (Instr.sliceBounds b len cap lo' hi' none).run P w = .ok (l, h, cap) w := by
  unfold Instr.sliceBounds
  cases hi with
  | none =>
    have hh := bound_none hb; subst hh
    rw [IsO.none hhi]
    cases lo with
    | none =>
      have hl := bound_none lb; subst hl
      rw [IsO.none hlo]; rfl
    | some x =>
      obtain ⟨k, rfl⟩ := bound_some lb
      rw [IsO.int hlo]
      simp only [Sem.run_bind, Sem.run_pure, Result.andThen_ok, run_bound h2]
  | some y =>
    obtain ⟨k, rfl⟩ := bound_some hb
    rw [IsO.int hhi]
    cases lo with
    | none =>
      have hl := bound_none lb; subst hl
      rw [IsO.none hlo]
      simp only [Sem.run_bind, Sem.run_pure, Result.andThen_ok, run_bound h1]
    | some x =>
      obtain ⟨k, rfl⟩ := bound_some lb
      rw [IsO.int hlo]
      simp only [Sem.run_bind, Sem.run_pure, Result.andThen_ok, run_bound h1, run_bound h2]
theorem run_bounds3 {b : Bool} {len cap l h m : Nat} {lo hi mx : Option LV} {x : LV} {lo' hi' mx' : Option Value} (hlo : IsO ρ lo lo') (hhi : IsO ρ hi hi') (hmx : IsO ρ mx mx') (he : mx = some x) (hisome : hi ≠ none)
    (hb : bound hi len = some h) (lb : bound lo 0 = some l) (mb : bound (some x) 0 = some m) (h0 : m ≤ cap) (h1 : h ≤ m) (h2 : l ≤ h) :
    (Instr.sliceBounds b len cap lo' hi' mx').run P w = .ok (l, h, m) w := by
  subst he
  obtain ⟨k, rfl⟩ := bound_some mb
  rw [IsO.int hmx]
  unfold Instr.sliceBounds
  cases hi with
  | none => exact absurd rfl hisome
  | some y =>
    obtain ⟨k', rfl⟩ := bound_some hb
    rw [IsO.int hhi]
    cases lo with
    | none =>
      have hl := bound_none lb; subst hl
      rw [IsO.none hlo]
      simp only [Sem.run_bind, Sem.run_pure, Result.andThen_ok, run_bound h0, run_bound h1]
    | some x =>
      obtain ⟨k, rfl⟩ := bound_some lb
      rw [IsO.int hlo]
      simp only [Sem.run_bind, Sem.run_pure, Result.andThen_ok, run_bound h0, run_bound h1, run_bound h2]

theorem known_some {size i o c l h : Nat} {v : LV} (hv : sliceKnown size i o c l h = some v) : h ≤ c ∧ v = .slice i (if c = l then o else o + l * size) (h - l) (.known (c - l)) := by
  unfold sliceKnown at hv
  replace hv := cond_some hv; obtain ⟨h1, hv⟩ := hv
  injection hv with hv
  refine ⟨Nat.le_of_ble_eq_true h1, ?_⟩
  rw [← hv, bc_eq]
  simp only [Nat.beq_eq]

theorem dec_known {i o n c : Nat} : dec ρ (.slice i o n (.known c)) = .slice (some ⟨(ρ i).blk, (ρ i).off + o, none⟩) n c := rfl

/-- Where a slice of a growing row stands: what its real capacity is good for. -/
theorem grown_cap (hs : Sat ρ H w) {size i o len k : Nat} (hi : i < H.n) (h : grownOk H size i o len k = true) : len ≤ (ρ i).cap - k := by
  unfold grownOk at h
  split at h
  · rename_i e sz cs hg
    simp only [Bool.and_eq_true] at h
    obtain ⟨h1, h2, h3, h4⟩ := h
    have h4 := bltN.1 h4
    have h1 := beqN h1
    have h2 := beqN h2
    have h3 := Nat.le_of_ble_eq_true h3
    rw [lenL_eq] at h3
    have ho := hs.obj i hi
    rw [hg] at ho
    obtain ⟨_, _, _, _, _, hc, _, _⟩ := ho
    subst h1
    have : (k + len) * sz ≤ (ρ i).cap * sz := by rw [Nat.add_mul]; omega
    have := Nat.le_of_mul_le_mul_right this (by omega)
    omega
  · cases h

theorem sliceOf_ok (hs : Sat ρ H w) {size i o len : Nat} {cap : Cap} {lo hi mx : Option LV} {lo' hi' mx' : Option Value} {v : LV} {H' : Heap} (hlo : IsO ρ lo lo') (hhi : IsO ρ hi hi') (hmx : IsO ρ mx mx')
    (hm : mx ≠ none → hi ≠ none) (h : sliceOf size i o len cap lo hi mx H = some (v, H')) (hx : i < H.n) {t elem : TypeId} (hu : P.underlying t = some (.slice elem)) (hsz : sizeOfT P elem = some size) :
    ∃ ρ', (Instr.slice t (dec ρ (.slice i o len cap)) lo' hi' mx').run P w = .ok (dec ρ' v) w ∧ Moved ρ H w ρ' H' w ∧ lt H'.n v := by
  unfold sliceOf at h
  split at h
  · cases h
  · rename_i hh hb
    split at h
    · cases h
    · rename_i l lb
      replace h := cond_some h; obtain ⟨h1, h⟩ := h
      replace h := cond_some h; obtain ⟨h2, h⟩ := h
      have h1 := Nat.le_of_ble_eq_true h1
      have h2 := Nat.le_of_ble_eq_true h2
      -- the model's own way, once the bounds are taken
      have way : ∀ (m : Nat), (Instr.sliceBounds true len (capOf (ρ i) cap) lo' hi' mx').run P w = .ok (l, hh, m) w →
          (Instr.slice t (dec ρ (.slice i o len cap)) lo' hi' mx').run P w = .ok (.slice (some (if m = l then ⟨(ρ i).blk, (ρ i).off + o, none⟩ else ⟨(ρ i).blk, (ρ i).off + o + l * size, none⟩)) (hh - l) (m - l)) w := by
        intro m hbm
        unfold Instr.slice
        simp only [Sem.run_bind, run_underlying hu, Result.andThen_ok, dec, hbm, run_sizeOf' hsz, Sem.run_pure]
        congr 2
        split <;> simp [add_none]
      have known : ∀ (m : Nat) (v : LV), sliceKnown size i o m l hh = some v →
          Value.slice (some (if m = l then ⟨(ρ i).blk, (ρ i).off + o, none⟩ else ⟨(ρ i).blk, (ρ i).off + o + l * size, none⟩)) (hh - l) (m - l) = dec ρ v ∧ lt H.n v := by
        intro m v hv
        obtain ⟨_, rfl⟩ := known_some hv
        refine ⟨?_, hx⟩
        rw [dec_known]
        congr 2
        split <;> simp [Nat.add_assoc]
      split at h
      · -- no third index
        rw [IsO.none hmx] at way ⊢
        split at h
        · rename_i c
          obtain ⟨hk, rfl⟩ := withH_some h
          have hc := (known_some hk).1
          obtain ⟨e, hl⟩ := known c v hk
          exact ⟨ρ, by rw [way c (run_bounds hlo hhi hb lb hc h2), e], Moved.refl hs, hl⟩
        · rename_i k
          unfold sliceRest at h
          replace h := cond_some h; obtain ⟨hg, h⟩ := h
          have hcap := grown_cap hs hx hg
          have hway := way ((ρ i).cap - k) (run_bounds hlo hhi hb lb (by simp only [capOf]; omega) h2)
          cases hl0 : Nat.beq l 0 with
          | true =>
            rw [hl0] at h
            simp only [cond_true] at h
            have := beqN hl0
            subst this
            injection h with h; injection h with ha hb'; subst ha; subst hb'
            refine ⟨ρ, ?_, Moved.refl hs, hx⟩
            rw [hway]
            simp [dec, capOf]
          | false =>
            rw [hl0] at h
            simp only [cond_false] at h
            have hl0 := beqN_false hl0
            cases hlh : Nat.beq l hh with
            | true =>
              rw [hlh] at h
              simp only [cond_true] at h
              have := beqN hlh
              subst this
              injection h with h; injection h with ha hb'; subst ha; subst hb'
              refine ⟨upRho ρ H.n ⟨0, 0, 0, (if (ρ i).cap - k = l then ⟨(ρ i).blk, (ρ i).off + o, none⟩ else ⟨(ρ i).blk, (ρ i).off + o + l * size, none⟩), (ρ i).cap - k - l⟩, ?_, ?_, by simp only [lt, Heap.n_push]; omega⟩
              · rw [hway]
                simp [dec, upRho_new]
              · exact Moved.pushVoid hs .empty _ rfl trivial trivial
            | false =>
              rw [hlh] at h
              simp only [cond_false] at h
              have hlh := beqN_false hlh
              injection h with h; injection h with ha hb'; subst ha; subst hb'
              refine ⟨ρ, ?_, Moved.refl hs, hx⟩
              rw [hway, if_neg (by omega)]
              simp [dec, capOf, Nat.add_assoc, Nat.sub_sub]
      · rename_i m'
        split at h
        · cases h
        · rename_i m mb
          replace h := cond_some h; obtain ⟨h3, h⟩ := h
          replace h := cond_some h; obtain ⟨h4, h⟩ := h
          have h3 := Nat.le_of_ble_eq_true h3
          have h4 := Nat.le_of_ble_eq_true h4
          split at h
          · rename_i c
            replace h := cond_some h; obtain ⟨h5, h⟩ := h
            have h5 := Nat.le_of_ble_eq_true h5
            obtain ⟨hk, rfl⟩ := withH_some h
            obtain ⟨e, hl⟩ := known m v hk
            exact ⟨ρ, by rw [way m (run_bounds3 hlo hhi hmx rfl (hm (by simp)) hb lb mb h5 h3 h2), e], Moved.refl hs, hl⟩
          · rename_i k
            replace h := cond_some h; obtain ⟨hg, h⟩ := h
            have hcap := grown_cap hs hx hg
            obtain ⟨hk, rfl⟩ := withH_some h
            obtain ⟨e, hl⟩ := known m v hk
            exact ⟨ρ, by rw [way m (run_bounds3 hlo hhi hmx rfl (hm (by simp)) hb lb mb (by simp only [capOf]; omega) h3 h2), e], Moved.refl hs, hl⟩

theorem sliceStr_ok {s : List UInt8} {lo hi : Option LV} {lo' hi' : Option Value} {v : LV} (hlo : IsO ρ lo lo') (hhi : IsO ρ hi hi') (h : sliceStr s lo hi = some v) {t : TypeId} (hu : P.underlying t = some .string) :
    (Instr.slice t (dec ρ (.str s)) lo' hi' none).run P w = .ok (dec ρ v) w ∧ lt H.n v := by
  unfold sliceStr at h
  split at h
  · cases h
  · rename_i hh hb
    split at h
    · cases h
    · rename_i l lb
      replace h := cond_some h; obtain ⟨h1, h⟩ := h
      replace h := cond_some h; obtain ⟨h2, h⟩ := h
      have h1 := Nat.le_of_ble_eq_true h1
      have h2 := Nat.le_of_ble_eq_true h2
      injection h with h; subst h
      refine ⟨?_, trivial⟩
      rw [lenL_eq] at h1 hb
      unfold Instr.slice
      simp only [Sem.run_bind, run_underlying hu, Result.andThen_ok, dec, Option.isSome_none, Bool.false_eq_true, if_false, size_mk]
      have := run_bounds (P := P) (w := w) (b := false) (cap := s.length) hlo hhi hb lb h1 h2
      simp only [pure_bind, Sem.run_bind, this, Result.andThen_ok, Sem.run_pure]
      congr 2
      apply ByteArray.ext
      apply Array.ext'
      simp only [ByteArray.data_extract, takeB_eq, dropB_eq]
      simp [List.take_drop]

theorem slice_ok (hs : Sat ρ H w) {t : TypeId} {x : LV} {lo hi mx : Option LV} {lo' hi' mx' : Option Value} {v : LV} {H' : Heap} (hlo : IsO ρ lo lo') (hhi : IsO ρ hi hi') (hmx : IsO ρ mx mx')
    (hm : mx ≠ none → hi ≠ none) (h : sliceL P t x lo hi mx H = some (v, H')) (hx : lt H.n x) :
    ∃ ρ', (Instr.sliceAt t (dec ρ x) lo' hi' mx').run P w = .ok (dec ρ' v) w ∧ Moved ρ H w ρ' H' w ∧ lt H'.n v := by
  unfold sliceL at h
  unfold Instr.sliceAt
  split at h
  · rename_i hu
    simp only [Sem.run_bind, run_underlying hu, Result.andThen_ok]
    split at h
    · rename_i s
      split at h
      · cases h
      · obtain ⟨hk, rfl⟩ := withH_some h
        rw [IsO.none hmx]
        obtain ⟨a, b⟩ := sliceStr_ok (P := P) (w := w) (H := H') hlo hhi hk hu
        exact ⟨ρ, a, Moved.refl hs, b⟩
    · cases h
  · rename_i elem hu
    simp only [Sem.run_bind, run_underlying hu, Result.andThen_ok]
    split at h
    · cases h
    · rename_i size hsz
      split at h
      · exact sliceOf_ok hs hlo hhi hmx hm h hx hu hsz
      · -- a nil slice
        split at h
        · rename_i hb
          split at h
          · rename_i lb
            split at h
            · injection h with h; injection h with h1 h2; subst h1; subst h2
              refine ⟨ρ, ?_, Moved.refl hs, trivial⟩
              rw [IsO.none hmx]
              unfold Instr.slice
              simp only [Sem.run_bind, run_underlying hu, Result.andThen_ok, dec, run_bounds (P := P) (w := w) (b := true) (cap := 0) hlo hhi hb lb (Nat.le_refl _) (Nat.le_refl _), run_sizeOf' hsz, Sem.run_pure]
              rfl
            · split at h
              · rename_i mb
                injection h with h; injection h with h1 h2; subst h1; subst h2
                refine ⟨ρ, ?_, Moved.refl hs, trivial⟩
                unfold Instr.slice
                simp only [Sem.run_bind, run_underlying hu, Result.andThen_ok, dec, run_bounds3 (P := P) (w := w) (b := true) (cap := 0) hlo hhi hmx rfl (hm (by simp)) hb lb mb (Nat.le_refl _) (Nat.le_refl _) (Nat.le_refl _), run_sizeOf' hsz, Sem.run_pure]
                rfl
              · cases h
          · cases h
        · cases h
      · rename_i i
        split at h
        · rename_i hb
          split at h
          · rename_i lb
            split at h
            · injection h with h; injection h with h1 h2; subst h1; subst h2
              refine ⟨ρ, ?_, Moved.refl hs, hx⟩
              rw [IsO.none hmx]
              unfold Instr.slice
              simp only [Sem.run_bind, run_underlying hu, Result.andThen_ok, dec, run_bounds (P := P) (w := w) (b := true) (cap := (ρ i).ec) hlo hhi hb lb (Nat.zero_le _) (Nat.le_refl _), run_sizeOf' hsz, Sem.run_pure]
              simp [Addr.add]
            · cases h
          · cases h
        · cases h
      · cases h
  · rename_i n elem hu
    simp only [Sem.run_bind, run_underlying hu, Result.andThen_ok]
    split at h
    · rename_i i o
      split at h
      · cases h
      · split at h
        · cases h
        · rename_i size hsz
          split at h
          · cases h
          · rename_i hh hb
            split at h
            · cases h
            · rename_i l lb
              replace h := cond_some h; obtain ⟨h2, h⟩ := h
              have h2 := Nat.le_of_ble_eq_true h2
              obtain ⟨hk, rfl⟩ := withH_some h
              obtain ⟨h1, rfl⟩ := known_some hk
              refine ⟨ρ, ?_, Moved.refl hs, hx⟩
              rw [IsO.none hmx]
              simp only [dec, Instr.sureAddr, pure_bind, Sem.run_bind, run_bounds (P := P) (w := w) (b := false) (cap := n) hlo hhi hb lb h1 h2, Result.andThen_ok, run_sizeOf' hsz, Sem.run_pure, capOf]
              congr 2
              split <;> simp [add_none, Nat.add_assoc]
    · cases h
  · cases h
end Go.Proofs.Ytmnpnomllcghmaa.Ev
