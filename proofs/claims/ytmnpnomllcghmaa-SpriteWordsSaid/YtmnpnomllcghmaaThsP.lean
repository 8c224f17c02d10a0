/- Contracts, proved: Ths. -/
import Derived.Test.YtmnpnomllcghmaaThsD
import Derived.Test.YtmnpnomllcghmaaSprP
import Derived.Test.YtmnpnomllcghmaaArg
namespace Go.Proofs.Ytmnpnomllcghmaa.Ev
open Go
set_option linter.unusedVariables false
set_option linter.unusedSimpArgs false
set_option maxRecDepth 100000
namespace S
theorem thst_succ (c line scan m : Int) (j : Nat) : thst c line scan m (j + 1) = (tline (thst c line scan m j).1 (starts c (nxp (thst c line scan m j).2.2)), tscan (thst c line scan m j).1 (thst c line scan m j).2.1, nxp (thst c line scan m j).2.2) := rfl
theorem thst_ok {c line scan m : Int} (h : okTh line scan = true) (h0 : 0 ≤ m) (h1 : m < 160) : ∀ j, okTh (thst c line scan m j).1 (thst c line scan m j).2.1 = true ∧ (thst c line scan m j).2.2 = (m + (j : Nat)) % 160
  | 0 => ⟨h, by show m = _; omega⟩
  | j + 1 => by
    obtain ⟨h2, h3⟩ := thst_ok h h0 h1 j
    rw [thst_succ]
    refine ⟨tick_ok _ h2, ?_⟩
    show nxp _ = _
    rw [h3, nxp_eq (by omega) (by omega)]; omega
theorem tms_front (c m : Int) (j : Nat) : tms c m (j + 1) = bc (starts c (nxp m)) 1 0 + tms c (nxp m) j := rfl
theorem tms_back (c : Int) : ∀ (j : Nat) (m : Int), 0 ≤ m → m < 160 → tms c m (j + 1) = tms c m j + bc (starts c (nxp ((m + (j : Nat)) % 160))) 1 0
  | 0, m, h0, h1 => by
    rw [tms_front, show (m + ((0 : Nat) : Int)) % 160 = m by omega]
    show _ + 0 = 0 + _
    omega
  | j + 1, m, h0, h1 => by
    obtain ⟨n0, n1⟩ := nxp_rng h0 h1
    rw [tms_front, tms_back c j (nxp m) n0 n1, tms_front c m j]
    rw [nxp_eq h0 h1, show ((m + 1) % 160 + (j : Int)) % 160 = (m + ((j + 1 : Nat) : Int)) % 160 by omega]
    omega
theorem tms_next {c m : Int} (h0 : 0 ≤ m) (h1 : m < 160) : tms c (nxp m) 160 = tms c m 160 := by
  obtain ⟨n0, n1⟩ := nxp_rng h0 h1
  have a1 : tms c (nxp m) 160 = tms c (nxp m) 159 + bc (starts c (nxp ((nxp m + ((159 : Nat) : Int)) % 160))) 1 0 := tms_back c 159 (nxp m) n0 n1
  have a2 : tms c m 160 = bc (starts c (nxp m)) 1 0 + tms c (nxp m) 159 := tms_front c m 159
  rw [show ((nxp m + ((159 : Nat) : Int)) % 160) = m by rw [nxp_eq h0 h1]; omega] at a1
  omega
theorem tms_nst {c : Int} : ∀ (k : Nat), k < 160 → tms c (k : Nat) 160 = nst c
  | 0, _ => rfl
  | k + 1, h => by
    have := tms_nst (c := c) k (by omega)
    rw [← this, ← tms_next (c := c) (m := (k : Nat)) (by omega) (by omega), nxp_eq (by omega) (by omega)]
    congr 1; omega
theorem nst_val : nst 0 = 1 ∧ nst 1 = 2 ∧ nst 2 = 2 ∧ nst 3 = 3 ∧ nst 4 = 2 ∧ nst 5 = 1 ∧ nst 6 = 3 ∧ nst 7 = 1 := by decide +kernel
theorem dot_start {line scan : Int} (b : Bool) (h : okTh line scan = true) : eqI (dot (young (tline line b) (tscan line scan)) (elder (tline line b) (tscan line scan)) 0) 0 = b := by
  obtain ⟨⟨l0, l1⟩, s0, s1⟩ := okTh_iff.1 h
  rw [tick_y b l0 l1]
  obtain ⟨y0, y1⟩ := young_rng (line := line) s0 s1
  generalize young line scan = y at y0 y1
  have hl : lead7 0 = 0 := rfl
  unfold dot
  rw [hl]
  unfold rY old
  cases b
  · rw [bc_false]
    by_cases h : y < 255
    · rw [ltI_true.2 h, bc_true, ltI_false.2 (show 0 ≤ y + 1 by omega), bc_false, eqI_false.2 (by omega)]
    · rw [ltI_false.2 (show 255 ≤ y by omega)]; rfl
  · rfl
end S
namespace S
theorem okActs16_at : ∀ (i : Nat) (vs : List LV), okActs16 vs = true → i * 7 + 2 < vs.length → (0 ≤ intOf (K.atV vs (i * 7 + 1)) ∧ intOf (K.atV vs (i * 7 + 1)) < 65536) ∧ 0 ≤ intOf (K.atV vs (i * 7 + 2)) ∧ intOf (K.atV vs (i * 7 + 2)) < 256
  | 0, vs, h, hl => by
    match vs, h, hl with
    | _ :: t :: c :: _ :: _ :: _ :: _ :: r, h, _ =>
      simp only [okActs16, an_iff, notB_true, ltI_false, ltI_true] at h
      exact h.1
    | [_], _, hl => simp at hl
    | [_, _], h, _ => simp [okActs16] at h
    | [_, _, _], h, _ => simp [okActs16] at h
    | [_, _, _, _], h, _ => simp [okActs16] at h
    | [_, _, _, _, _], h, _ => simp [okActs16] at h
    | [_, _, _, _, _, _], h, _ => simp [okActs16] at h
  | i + 1, vs, h, hl => by
    match vs, h, hl with
    | _ :: t :: c :: _ :: _ :: _ :: _ :: r, h, hl =>
      simp only [okActs16, an_iff] at h
      have := okActs16_at i r h.2 (by simp at hl; omega)
      have e : ∀ x a b c d e f g, K.atV (a :: b :: c :: d :: e :: f :: g :: r) ((i + 1) * 7 + x) = K.atV r (i * 7 + x) := by
        intro x a b c d e f g
        unfold K.atV
        rw [show (i + 1) * 7 + x = (i * 7 + x) + 1 + 1 + 1 + 1 + 1 + 1 + 1 by omega]
        rfl
      rw [e, e]; exact this
    | [_], _, hl => simp at hl
    | [_, _], h, _ => simp [okActs16] at h
    | [_, _, _], h, _ => simp [okActs16] at h
    | [_, _, _, _], h, _ => simp [okActs16] at h
    | [_, _, _, _, _], h, _ => simp [okActs16] at h
    | [_, _, _, _, _, _], h, _ => simp [okActs16] at h
theorem v16_rng {vs : List LV} {L : Nat} {i : Int} (h : okActs16 vs = true) (hl : lenL vs = L * 7) (h0 : 0 ≤ i) (h1 : i < L) : (0 ≤ intOf (K.atV vs (0 + i.toNat * 7 + 1)) ∧ intOf (K.atV vs (0 + i.toNat * 7 + 1)) < 65536) ∧ 0 ≤ cpV vs i ∧ cpV vs i < 256 := by
  unfold cpV
  rw [K.lenL_eq] at hl
  rw [Nat.zero_add]
  exact okActs16_at i.toNat vs h (by omega)
theorem thst_front (c l s m : Int) : ∀ j, thst c l s m (j + 1) = thst c (tline l (starts c (nxp m))) (tscan l s) (nxp m) j
  | 0 => rfl
  | j + 1 => by rw [thst_succ c l s m (j + 1), thst_front c l s m j]; rfl
theorem okT16_of {m line scan : Int} (h0 : 0 ≤ m) (h1 : m < 160) (h2 : okTh line scan = true) : okT16 (m % 4) 4 (st 39) 40 (st (m / 4)) line scan = true := by
  unfold okT16; rw [okPm_of h0 h1, h2]; rfl
theorem okR16_of {m line scan : Int} (h0 : 0 ≤ m) (h1 : m < 160) : okR16 (m % 4) (st (m / 4)) line scan m (young line scan) (elder line scan) = true := by
  unfold okR16; rw [pl_plc h0 h1, eqI_self, eqI_self, eqI_self]; rfl
theorem okVs16_mk {vs : List LV} {L : Nat} (h3 : okActs16 vs = true) (h4 : lenL vs = L * 7) : okVs16 vs L = true := by
  unfold okVs16
  rw [h3, h4]
  have : Nat.beq (L * 7) (L * 7) = true := Nat.beq_refl _
  rw [this]; rfl
theorem okSi_of {m line scan : Int} {vs : List LV} {L : Nat} {i k : Int} (h0 : 0 ≤ m) (h1 : m < 160) (h2 : okTh line scan = true) (h3 : okActs16 vs = true) (h4 : lenL vs = L * 7) (h5 : 0 ≤ i) (h6 : i < L) (h7 : 0 ≤ k) (h8 : k ≤ tkV vs i) :
    okSi (m % 4) 4 (st 39) 40 (st (m / 4)) line scan m (young line scan) (elder line scan) vs L i k = true := by
  unfold okSi okIx
  rw [okT16_of h0 h1 h2, okR16_of h0 h1, okVs16_mk h3 h4, ltI_false.2 h5, ltI_true.2 h6, ltI_false.2 h7, ltI_false.2 h8]; rfl
theorem okSo_of {m line scan : Int} {vs : List LV} {L : Nat} {i : Int} (h0 : 0 ≤ m) (h1 : m < 160) (h2 : okTh line scan = true) (h3 : okActs16 vs = true) (h4 : lenL vs = L * 7) (h5 : 0 ≤ i) (h6 : i ≤ L) :
    okSo (m % 4) 4 (st 39) 40 (st (m / 4)) line scan m (young line scan) (elder line scan) vs L i = true := by
  unfold okSo
  rw [okT16_of h0 h1 h2, okR16_of h0 h1, okVs16_mk h3 h4, ltI_false.2 h5, ltI_false.2 h6]; rfl
theorem okR_of {m line scan c : Int} (h0 : 0 ≤ m) (h1 : m < 160) (h2 : okTh line scan = true) (h3 : 0 ≤ c) : okR m (young line scan) (elder line scan) c = true := by
  obtain ⟨_, s0, s1⟩ := okTh_iff.1 h2
  unfold okR
  rw [inR_iff.2 ⟨h0, h1⟩, inR_iff.2 (young_rng s0 s1), inR_iff.2 (elder_rng s0 s1), ltI_false.2 h3]; rfl
theorem okVs16_of (l : List Act16) (hl : ∀ a, a ∈ l → (0 ≤ a.ticks ∧ a.ticks ≤ 65535) ∧ 0 ≤ a.copies ∧ a.copies ≤ 255) : okVs16 (acts16 l) l.length = true := by
  have hlen : lenL (acts16 l) = l.length * 7 := by rw [K.lenL_eq]; exact flatMap_length _ 7 (fun _ => rfl) l
  refine okVs16_mk ?_ hlen
  clear hlen
  induction l with
  | nil => rfl
  | cons a l ih =>
    show an (an (an (notB (ltI a.ticks 0)) (ltI a.ticks 65536)) (an (notB (ltI a.copies 0)) (ltI a.copies 256))) (okActs16 (acts16 l)) = true
    have := hl a (by simp)
    rw [ih fun b hb => hl b (by simp [hb]), ltI_false.2 this.1.1, ltI_true.2 (by omega : a.ticks < 65536), ltI_false.2 this.2.1, ltI_true.2 (by omega : a.copies < 256)]; rfl
end S
end Go.Proofs.Ytmnpnomllcghmaa.Ev
