/- Contracts, proved: Tfl. -/
import Derived.Test.YtlgfojaalmelhaaDoorTflD
import Derived.Test.YtlgfojaalmelhaaDoorArg
namespace Go.Proofs.YtlgfojaalmelhaaDoor.Ev
open Go
set_option linter.unusedVariables false
set_option linter.unusedSimpArgs false
set_option maxRecDepth 100000
set_option maxHeartbeats 1000000

shelf_lay Lays.n157 Nm 157 at Tryd as Tryd.Ev_lays157
theorem S.eqTab_ok : ∀ {cs : List LV} {l : List Int}, S.eqTab cs l = true → cs = l.map fun n => .int .u8 n
 | [], [], _ => rfl
 | [], _ :: _, h => by cases h
 | v :: cs, [], h => by cases h
 | v :: cs, n :: l, h => by
  cases v with
  | int k m =>
   cases k with
   | u8 =>
    have h : bc (eqI m n) (S.eqTab cs l) false = true := h
    cases hm : eqI m n with
    | false => rw [hm] at h; cases h
    | true =>
     rw [hm] at h
     rw [eqI_true.1 hm, S.eqTab_ok (cs := cs) (l := l) h]; rfl
   | _ => cases h
  | _ => cases h
theorem S.asc_ok {s : List UInt8} (h : S.asc s = true) : s.length ≤ 1000000 ∧ ∀ b, b ∈ s → b.toNat < 128 := by
 unfold S.asc at h
 cases hb : Nat.ble (lenL s) 1000000 with
 | false => rw [hb] at h; cases h
 | true =>
  rw [hb, bc_true] at h
  have hb := Nat.le_of_ble_eq_true hb
  rw [K.lenL_eq] at hb
  exact ⟨hb, fun b hm => Nat.le_of_ble_eq_true (List.all_eq_true.1 h b hm)⟩
theorem fld_con (s : List UInt8) (g : Nat) (cs : List LV) (g1 : Nat) (ms : List LV) (hg : g = Tryd.Ev_lays157_ren.g 0) (hc : S.eqTab cs S.tabI = true) (ha : S.asc s = true) :
  HT Tryd.prog 48 [.str s] (Heap.of [.glob g cs, .glob g1 ms]) (.ret (.slice 2 0 (S.fln s) (.known (S.fln s)))) (Heap.of ([.glob g cs, .glob g1 ms] ++ [.cells 9 .exact (S.flds s)])) := by
 obtain ⟨h1, h2⟩ := S.asc_ok ha
 have hcs := S.eqTab_ok hc
 intro ρ w hs _
 have ho := hs.obj 0 (by show 0 < 2; decide)
 have ho : (ρ 0).blk = g ∧ (ρ 0).off = 0 ∧ ∀ j v, cs[j]? = some v → w.cell? ⟨(ρ 0).blk, j, none⟩ = some (dec (fun _ => rbz) v) := ho
 have hT : ∀ c : Nat, c < 256 → w.cell? ⟨Tryd.Ev_lays157_ren.g 0, c, none⟩ = some (.int .u8 (if Lib.isSp (UInt8.ofNat c) then 1 else 0)) := fun c hc => by
  have hv : cs[c]? = some (.int .u8 (if Lib.isSp (UInt8.ofNat c) then 1 else 0)) := by
   rw [hcs, List.getElem?_map]
   have := Lib.asciiSpaceTab_at c hc
   have hl : c < S.tabI.length := by rw [show S.tabI.length = 256 from Lib.asciiSpaceTab_length]; exact hc
   rw [List.getElem?_eq_getElem hl]
   have h3 : S.tabI[c] = if Lib.isSp (UInt8.ofNat c) then 1 else 0 := by
    rw [← this]; simp [S.tabI, List.getD, List.getElem?_eq_getElem (show c < Lib.asciiSpaceTab.length from hl)]
   rw [h3]; rfl
  have := ho.2.2 c _ hv
  rw [ho.1, hg] at this
  exact this
 have hk := Any.strings_Fields_core Tryd.Ev_lays157 (by kernel_rfl) ⟨s.toArray⟩ w (by show s.toArray.size < _; simp; omega) (fun j b hb => h2 b (List.mem_of_getElem? (by simpa using hb))) hT
 refine (show Calls Tryd.prog 48 _ w _ from hk).mono fun e w' ⟨he, hw⟩ => ⟨upRho ρ 2 ⟨w.heap.size, 0, 0, default, 0⟩, ?_, ?_, ?_⟩
 ·subst he
  have hl : (Lib.fields s).length = S.fln s := by unfold S.fln S.flds; rw [K.lenL_eq, List.length_map]
  simp only [decEnd, dec, capOf, upRho_new, Nat.add_zero]
  rw [← hl]
 ·subst hw
  have hm := Moved.push hs (.cells 9 .exact (S.flds s)) (.cells ((Lib.fields s).map fun l => Value.string ⟨l.toArray⟩).toArray 9) ⟨w.heap.size, 0, 0, default, 0⟩ (w' := w.alloc (.cells ((Lib.fields s).map fun l => Value.string ⟨l.toArray⟩).toArray 9)) rfl rfl rfl rfl rfl ?_ ?_
  ·exact hm
  ·simp only [ltObj]
   rw [lts_iff]
   intro v hv
   unfold S.flds at hv
   obtain ⟨l, _, rfl⟩ := List.mem_map.1 hv
   trivial
  ·refine ⟨rfl, 0, 0, by omega, ?_⟩
   show (w.heap.push _)[w.heap.size]? = _
   rw [Array.getElem?_push_size]
   unfold S.flds
   rw [decs_eq, List.map_map]
   rfl
 ·simp only [ltEnd, lt]
  show 2 < 3
  decide
theorem fld_k (s : List UInt8) (g : Nat) (cs : List LV) (g1 : Nat) (m : Int) (h : bc (Nat.beq g 0) (bc (S.eqTab cs S.tabI) (S.asc s) false) false = true) :
  HT Tryd.prog 48 [.str s] (Heap.of [.glob g cs, .glob g1 [.int .i64 m]]) (.ret (.slice 2 0 (S.fln s) (.known (S.fln s)))) (Heap.of ([.glob g cs, .glob g1 [.int .i64 m]] ++ [.cells 9 .exact (S.flds s)])) := by
 cases h1 : Nat.beq g 0 with
 | false => rw [h1] at h; cases h
 | true =>
  rw [h1, bc_true] at h
  cases h2 : S.eqTab cs S.tabI with
  | false => rw [h2] at h; cases h
  | true =>
   rw [h2, bc_true] at h
   exact fld_con s g cs g1 _ ((Nat.eq_of_beq_eq_true h1).trans (by kernel_rfl)) h2 h
theorem fld_ok : fldE.ok Tryd.prog 48 := by
 intro xs os b r h h3
 unfold fldE at h
 simp only at h
 split at h
 ·injection h with h; injection h with h1 h2; subst h1; subst h2
  exact fld_k _ _ _ _ _ h3
 ·cases h
shelf_lay Lays.n144 Nm 144 at Tryd as Tryd.Ev_lays144
shelf_lay Lays.n137 Nm 137 at Tryd as Tryd.Ev_lays137
theorem cst_k (s t : List UInt8) (g : Nat) (cs : List LV) (g1 : Nat) (m : Int) (h : S.okC g1 s = true) :
  HT Tryd.prog 47 [.str s, .str t] (Heap.of [.glob g cs, .glob g1 [.int .i64 m]]) (.ret (.bool (Lib.contains s t))) (Heap.of [.glob g cs, .glob g1 [.int .i64 m]]) := by
 unfold S.okC at h
 cases h1 : Nat.beq g1 1 with
 | false => rw [h1] at h; cases h
 | true =>
  rw [h1, bc_true] at h
  have hg := Nat.eq_of_beq_eq_true h1
  have hl := Nat.le_of_ble_eq_true (show Nat.ble (lenL s) 1000000 = true from h)
  rw [K.lenL_eq] at hl
  intro ρ w hs _
  have ho := hs.obj 1 (by show 1 < 2; decide)
  rw [show (Heap.of [.glob g cs, .glob g1 [.int .i64 m]]).get 1 = .glob g1 [.int .i64 m] from by kernel_rfl] at ho
  have ho : (ρ 1).blk = g1 ∧ (ρ 1).off = 0 ∧ ∀ j v, [LV.int .i64 m][j]? = some v → w.cell? ⟨(ρ 1).blk, j, none⟩ = some (dec (fun _ => rbz) v) := ho
  have hv := ho.2.2 0 _ rfl
  rw [ho.1, hg] at hv
  have hk := Any.strings_Contains Tryd.Ev_lays144 ⟨s.toArray⟩ ⟨t.toArray⟩ m w (by show s.toArray.size < _; simp; omega) (by
   rw [show Tryd.Ev_lays144_ren.g 1 = 1 from by kernel_rfl]; exact hv)
  refine (show Calls Tryd.prog 47 _ w _ from hk).mono fun e w' ⟨he, hw⟩ => ⟨ρ, ?_, ?_, trivial⟩
  ·rw [he]; rfl
  ·subst hw; exact Moved.refl hs
theorem ixb_k (s : List UInt8) (c : Int) : HT Tryd.prog 31 [.str s, .int .u8 c] (Heap.of []) (.ret (.int .i64 (Lib.indexByte s c.toNat.toUInt8))) (Heap.of []) := by
 intro ρ w hs _
 have hk := Any.strings_IndexByte Tryd.Ev_lays137 ⟨s.toArray⟩ c w
 refine (show Calls Tryd.prog 31 _ w _ from hk).mono fun e w' ⟨he, hw⟩ => ⟨ρ, ?_, ?_, trivial⟩
 ·rw [he]; rfl
 ·subst hw; exact Moved.refl hs
theorem cst_ok : cstE.ok Tryd.prog 47 := by
 intro xs os b r h h3
 unfold cstE at h
 simp only at h
 split at h
 ·injection h with h; injection h with h1 h2; subst h1; subst h2
  exact cst_k _ _ _ _ _ _ h3
 ·cases h
theorem ixb_ok : ixbE.ok Tryd.prog 31 := by
 intro xs os b r h h3
 unfold ixbE at h
 simp only at h
 split at h
 ·injection h with h; injection h with h1 h2; subst h1; subst h2
  exact ixb_k _ _
 ·cases h
end Go.Proofs.YtlgfojaalmelhaaDoor.Ev
