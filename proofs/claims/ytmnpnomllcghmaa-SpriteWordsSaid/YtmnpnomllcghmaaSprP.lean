/- Contracts, proved: Spr. -/
import Derived.Test.YtmnpnomllcghmaaSprD
import Derived.Test.YtmnpnomllcghmaaPlcP
namespace Go.Proofs.Ytmnpnomllcghmaa.Ev
open Go
set_option linter.unusedVariables false
set_option linter.unusedSimpArgs false
set_option maxRecDepth 100000
namespace S
theorem all256 {α : Type} {f g : Int → α} (h : (List.range 256).map (fun (i : Nat) => f (i : Int)) = (List.range 256).map (fun (i : Nat) => g (i : Int))) {n : Int} (h0 : 0 ≤ n) (h1 : n < 256) : f n = g n := by
  have h2 := List.map_inj_left.1 h n.toNat (List.mem_range.2 (by omega))
  rw [show ((n.toNat : Nat) : Int) = n by omega] at h2
  exact h2
theorem okPm_iff {a d l n s : Int} (h : okPm a d l n s = true) : ∃ m, 0 ≤ m ∧ m < 160 ∧ a = m % 4 ∧ s = st (m / 4) ∧ d = 4 ∧ n = 40 ∧ l = st 39 := by
  unfold okPm at h
  rw [an_iff, an_iff, eqI_true] at h
  obtain ⟨h1, h2, h3⟩ := h
  obtain ⟨⟨ha0, ha1⟩, hs, rfl, rfl, hx0, hx1⟩ := okPl_iff h1
  obtain ⟨i, hi0, hi1, rfl⟩ := isSt_ex hs
  unfold plc at h3
  rw [ix_st hi0 hi1, inR_iff] at h3
  exact ⟨4 * i + a, h3.1, h3.2, by omega, by rw [show (4 * i + a) / 4 = i by omega], rfl, rfl, h2⟩
theorem okPm_of {m : Int} (h0 : 0 ≤ m) (h1 : m < 160) : okPm (m % 4) 4 (st 39) 40 (st (m / 4)) = true := by
  unfold okPm
  rw [an_iff, an_iff, eqI_true, pl_plc h0 h1]
  exact ⟨pl_ok h0 h1, rfl, inR_iff.2 ⟨h0, h1⟩⟩
theorem nxp_eq {m : Int} (h0 : 0 ≤ m) (h1 : m < 160) : nxp m = (m + 1) % 160 := by
  unfold nxp
  by_cases h : m = 159
  · subst h; rfl
  · rw [eqI_false.2 h, bc_false]; omega
theorem nxp_rng {m : Int} (h0 : 0 ≤ m) (h1 : m < 160) : 0 ≤ nxp m ∧ nxp m < 160 := by rw [nxp_eq h0 h1]; omega
theorem pl_tick {m : Int} (h0 : 0 ≤ m) (h1 : m < 160) : bc (ltI (m % 4 + 1) 4) (m % 4 + 1) 0 = nxp m % 4 ∧ bc (ltI (m % 4 + 1) 4) (st (m / 4)) (bc (eqI (st (m / 4)) (st 39)) 0 (nx (st (m / 4)))) = st (nxp m / 4) := by
  rw [nxp_eq h0 h1]; exact ⟨pl_a h0 h1, pl_s h0 h1⟩
theorem okTh_iff {line scan : Int} : okTh line scan = true ↔ (0 ≤ line ∧ line < 256) ∧ 8 ≤ scan ∧ scan < 256 := by
  unfold okTh; rw [an_iff, an_iff, inR_iff, notB_true, ltI_false, ltI_true]
theorem young_rng {line scan : Int} (h0 : 8 ≤ scan) (h1 : scan < 256) : 0 ≤ young line scan ∧ young line scan < 256 := by
  unfold young
  repeat' (first | (refine ⟨?_, ?_⟩ <;> omega) | (rw [bcV_if]; split))
theorem elder_rng {line scan : Int} (h0 : 8 ≤ scan) (h1 : scan < 256) : 0 ≤ elder line scan ∧ elder line scan < 256 := by
  unfold elder
  repeat' (first | (refine ⟨?_, ?_⟩ <;> omega) | (rw [bcV_if]; split))
theorem tline_t (line : Int) (h0 : 0 ≤ line) (h1 : line < 256) : orK IntKind.u16 (IntKind.u16.wrap (BitVec.ofInt 16 (wrapK IntKind.u16 (line * 2 ^ 1)) &&& ~~~BitVec.ofInt 16 256).toNat) 1 = (2 * line) % 256 + 1 :=
  all256 (f := fun line => orK IntKind.u16 (IntKind.u16.wrap (BitVec.ofInt 16 (wrapK IntKind.u16 (line * 2 ^ 1)) &&& ~~~BitVec.ofInt 16 256).toNat) 1) (g := fun line => (2 * line) % 256 + 1) (by decide +kernel) h0 h1
theorem tline_f (line : Int) (h0 : 0 ≤ line) (h1 : line < 256) : IntKind.u16.wrap (BitVec.ofInt 16 (wrapK IntKind.u16 (line * 2 ^ 1)) &&& ~~~BitVec.ofInt 16 256).toNat = (2 * line) % 256 + 0 :=
  all256 (f := fun line => IntKind.u16.wrap (BitVec.ofInt 16 (wrapK IntKind.u16 (line * 2 ^ 1)) &&& ~~~BitVec.ofInt 16 256).toNat) (g := fun line => (2 * line) % 256 + 0) (by decide +kernel) h0 h1
theorem tline_o (line : Int) (h0 : 0 ≤ line) (h1 : line < 128) : orK IntKind.u16 (wrapK IntKind.u16 (line * 2 ^ 1)) 1 = (2 * line) % 256 + 1 := by
  have := all256 (f := fun line => orK IntKind.u16 (2 * (line % 128)) 1) (g := fun line => (2 * (line % 128)) + 1) (by decide +kernel) h0 (by omega : line < 256)
  rw [show line % 128 = line by omega] at this
  rw [show wrapK IntKind.u16 (line * 2 ^ 1) = 2 * line by rw [wrapK_u16]; omega, this]; omega
theorem shr_8 {line : Int} (h0 : 0 ≤ line) (h1 : line < 256) : notB (eqI ((wrapK IntKind.u16 (line * 2 ^ 1)).fdiv (2 ^ 8)) 0) = notB (ltI line 128) := by
  rw [show wrapK IntKind.u16 (line * 2 ^ 1) = 2 * line by rw [wrapK_u16]; omega]
  rw [Bool.eq_iff_iff, notB_true, notB_true, eqI_false, ltI_false, Int.fdiv_eq_ediv_of_nonneg _ (by decide)]
  rw [show (2 : Int) ^ 8 = 256 by decide]
  omega
theorem eqI_comm (a b : Int) : eqI a b = eqI b a := by rw [Bool.eq_iff_iff, eqI_true, eqI_true]; exact eq_comm
theorem pl_atk {m : Int} (k : Int) (h0 : 0 ≤ m) (h1 : m < 160) : an (inR k 160) (an (eqI (m % 4) (k % 4)) (eqI (st (m / 4)) (st (k / 4)))) = eqI m k := (pl_at h0 h1).trans (eqI_comm _ _)
/-- A tick, told by ages. -/
theorem tick_y {line scan : Int} (b : Bool) (h0 : 0 ≤ line) (h1 : line < 256) : young (tline line b) (tscan line scan) = rY (young line scan) b := by
  cases b
  · exact all256 (f := fun line => young (tline line false) (tscan line scan)) (g := fun line => rY (young line scan) false) (by kernel_rfl) h0 h1
  · exact all256 (f := fun line => young (tline line true) (tscan line scan)) (g := fun line => rY (young line scan) true) (by kernel_rfl) h0 h1
theorem tick_e0 {scan : Int} (b : Bool) (h2 : 8 ≤ scan) : elder (tline 0 b) (tscan 0 scan) = rE (young 0 scan) (elder 0 scan) b := by
  cases b
  · have e1 : elder (tline 0 false) (tscan 0 scan) = 255 := by kernel_rfl
    have e2 : young 0 scan = scan := by kernel_rfl
    have e3 : elder 0 scan = 255 := by kernel_rfl
    rw [e1, e2, e3]
    unfold rE rY old
    simp only [bc_false]
    cases h : ltI scan 255
    · rfl
    · rw [bc_true, ltI_false.2 (by omega)]; rfl
  · have e1 : elder (tline 0 true) (tscan 0 scan) = old scan := by kernel_rfl
    have e2 : young 0 scan = scan := by kernel_rfl
    rw [e1, e2]; rfl
theorem tick_e {line scan : Int} (b : Bool) (h0 : 0 ≤ line) (h1 : line < 256) (h2 : 8 ≤ scan) : elder (tline line b) (tscan line scan) = rE (young line scan) (elder line scan) b := by
  by_cases hz : line = 0
  · subst hz; exact tick_e0 b h2
  have key : ∀ b, (∀ n : Int, 0 ≤ n → n < 256 → (fun line => elder (tline (bc (eqI line 0) 1 line) b) (tscan (bc (eqI line 0) 1 line) scan)) n = (fun line => rE (young (bc (eqI line 0) 1 line) scan) (elder (bc (eqI line 0) 1 line) scan) b) n) := by
    intro b n
    cases b
    · exact all256 (f := fun line => elder (tline (bc (eqI line 0) 1 line) false) (tscan (bc (eqI line 0) 1 line) scan)) (g := fun line => rE (young (bc (eqI line 0) 1 line) scan) (elder (bc (eqI line 0) 1 line) scan) false) (by kernel_rfl)
    · exact all256 (f := fun line => elder (tline (bc (eqI line 0) 1 line) true) (tscan (bc (eqI line 0) 1 line) scan)) (g := fun line => rE (young (bc (eqI line 0) 1 line) scan) (elder (bc (eqI line 0) 1 line) scan) true) (by kernel_rfl)
  have := key b line h0 h1
  simp only [eqI_false.2 hz, bc_false] at this
  exact this
theorem tick_ok {line scan : Int} (b : Bool) (h : okTh line scan = true) : okTh (tline line b) (tscan line scan) = true := by
  rw [okTh_iff] at h ⊢
  unfold tline tscan
  simp only [bcV_if]
  refine ⟨?_, ?_⟩
  · cases b <;> simp <;> omega
  · cases h1 : ltI line 128 <;> cases h3 : ltI scan 255 <;> simp <;> (try rw [ltI_true] at *) <;> (try rw [ltI_false] at *) <;> omega
theorem lead7_eq (q : Int) : (if (if (7 : Int) < q then (7 : Int) else q) > (0 : Int) then if (7 : Int) < q then (7 : Int) else q else (0 : Int)) = lead7 q := by
  unfold lead7
  by_cases h : q < 0
  · rw [ltI_true.2 h, bc_true]; split <;> (try split at *) <;> omega
  · rw [ltI_false.2 (by omega), bc_false]
    by_cases h2 : 7 < q
    · rw [ltI_true.2 h2, bc_true]; simp [h2]
    · rw [ltI_false.2 (by omega), bc_false]; simp [h2]; omega
theorem lead7_rng (q : Int) : 0 ≤ lead7 q ∧ lead7 q ≤ 7 := by
  unfold lead7
  by_cases h : q < 0
  · rw [ltI_true.2 h, bc_true]; omega
  · rw [ltI_false.2 (by omega), bc_false]
    by_cases h2 : 7 < q
    · rw [ltI_true.2 h2, bc_true]; omega
    · rw [ltI_false.2 (by omega), bc_false]; omega
theorem okW_iff {m y e : Int} : okW m y e = true ↔ (0 ≤ m ∧ m < 160) ∧ (0 ≤ y ∧ y ≤ 255) ∧ e ≤ 255 ∧ (y < 8 → y < e) ∧ (8 ≤ y → e = 255) := by
  unfold okW
  rw [an_iff, an_iff, an_iff, an_iff, inR_iff, notB_true, notB_true, notB_true, ltI_false, ltI_false, ltI_false, bcV_if]
  by_cases h : y < 8
  · rw [ltI_true.2 h, if_pos rfl, ltI_true]
    constructor
    · rintro ⟨h1, h2, h3, h4⟩; exact ⟨h1, h2, h3, fun _ => h4, fun h5 => by omega⟩
    · rintro ⟨h1, h2, h3, h4, _⟩; exact ⟨h1, h2, h3, h4 h⟩
  · rw [ltI_false.2 (by omega), if_neg (by simp), eqI_true]
    constructor
    · rintro ⟨h1, h2, h3, h4⟩; exact ⟨h1, h2, h3, fun h5 => absurd h5 h, fun _ => h4⟩
    · rintro ⟨h1, h2, h3, _, h4⟩; exact ⟨h1, h2, h3, h4 (by omega)⟩
theorem sl_all : ∀ i j : Fin 8, i.val < j.val → orK IntKind.u16 (orK IntKind.u16 0 (wrapK IntKind.u16 (1 * 2 ^ min ((j.val : Nat) : Int).toNat 16))) (wrapK IntKind.u16 (1 * 2 ^ min ((i.val : Nat) : Int).toNat 16)) = 2 ^ ((j.val : Nat) : Int).toNat + 2 ^ ((i.val : Nat) : Int).toNat := by decide +kernel
theorem sl_two {y e : Int} (h0 : 0 ≤ y) (h1 : y < e) (h2 : e < 8) : orK IntKind.u16 (orK IntKind.u16 0 (wrapK IntKind.u16 (1 * 2 ^ min e.toNat 16))) (wrapK IntKind.u16 (1 * 2 ^ min y.toNat 16)) = 2 ^ e.toNat + 2 ^ y.toNat := by
  have := sl_all ⟨y.toNat, by omega⟩ ⟨e.toNat, by omega⟩ (by show y.toNat < e.toNat; omega)
  simp only [show ((y.toNat : Nat) : Int) = y by omega, show ((e.toNat : Nat) : Int) = e by omega] at this
  exact this
theorem sl1_all : ∀ i : Fin 8, orK IntKind.u16 0 (wrapK IntKind.u16 (1 * 2 ^ min ((i.val : Nat) : Int).toNat 16)) = 2 ^ ((i.val : Nat) : Int).toNat := by decide +kernel
theorem sl_one {y : Int} (h0 : 0 ≤ y) (h1 : y < 8) : orK IntKind.u16 0 (wrapK IntKind.u16 (1 * 2 ^ min y.toNat 16)) = 2 ^ y.toNat := by
  have := sl1_all ⟨y.toNat, by omega⟩
  simp only [show ((y.toNat : Nat) : Int) = y by omega] at this
  exact this
theorem setA {m y e : Int} (hw : (0 ≤ m ∧ m < 160) ∧ (0 ≤ y ∧ y ≤ 255) ∧ e ≤ 255 ∧ (y < 8 → y < e) ∧ (8 ≤ y → e = 255)) (h1 : y < 8) (h2 : e < 8) :
    sline y e = orK IntKind.u16 (orK IntKind.u16 0 (wrapK IntKind.u16 (1 * 2 ^ min e.toNat 16))) (wrapK IntKind.u16 (1 * 2 ^ min y.toNat 16)) ∧ sscan y e = 255 := by
  rw [sl_two hw.2.1.1 (hw.2.2.2.1 h1) h2]
  unfold sline sscan
  rw [ltI_true.2 h1, ltI_true.2 h2]; exact ⟨rfl, rfl⟩
theorem setB {m y e : Int} (hw : (0 ≤ m ∧ m < 160) ∧ (0 ≤ y ∧ y ≤ 255) ∧ e ≤ 255 ∧ (y < 8 → y < e) ∧ (8 ≤ y → e = 255)) (h1 : y < 8) (h2 : 8 ≤ e) :
    sline y e = orK IntKind.u16 0 (wrapK IntKind.u16 (1 * 2 ^ min y.toNat 16)) ∧ sscan y e = e := by
  rw [sl_one hw.2.1.1 h1]
  unfold sline sscan
  rw [ltI_true.2 h1, ltI_false.2 h2]
  exact ⟨by simp, rfl⟩
theorem setC {m y e : Int} (hw : (0 ≤ m ∧ m < 160) ∧ (0 ≤ y ∧ y ≤ 255) ∧ e ≤ 255 ∧ (y < 8 → y < e) ∧ (8 ≤ y → e = 255)) (h1 : 8 ≤ y) :
    sline y e = 0 ∧ sscan y e = y := by
  have h2 := hw.2.2.2.2 h1
  unfold sline sscan
  rw [ltI_false.2 h1, ltI_false.2 (show 8 ≤ e by omega)]
  exact ⟨by simp, rfl⟩
/-- What is set is told. -/
theorem set_tab (e : Int) : (List.range 8).map (fun (i : Nat) => (young (2 ^ i) e, elder (2 ^ i) e)) = (List.range 8).map (fun (i : Nat) => ((i : Int), e)) := by kernel_rfl
theorem set_tab2 : ∀ i j : Fin 8, i.val < j.val → young (2 ^ j.val + 2 ^ i.val) 255 = (i.val : Nat) ∧ elder (2 ^ j.val + 2 ^ i.val) 255 = (j.val : Nat) := by decide +kernel
theorem set_told {m y e : Int} (h : okW m y e = true) : young (sline y e) (sscan y e) = y ∧ elder (sline y e) (sscan y e) = e ∧ okTh (sline y e) (sscan y e) = true := by
  have hw := okW_iff.1 h
  obtain ⟨_, ⟨y0, y1⟩, e1, hl, hh⟩ := hw
  by_cases h1 : y < 8
  · have h3 := hl h1
    have hp : (2 : Int) ^ y.toNat ≤ 128 ∧ 1 ≤ (2 : Int) ^ y.toNat := by
      have : ∀ i : Fin 8, (2 : Int) ^ i.val ≤ 128 ∧ 1 ≤ (2 : Int) ^ i.val := by decide +kernel
      exact this ⟨y.toNat, by omega⟩
    by_cases h2 : e < 8
    · have e2 : sscan y e = 255 := by unfold sscan; rw [ltI_true.2 h1, ltI_true.2 h2]; rfl
      have e3 : sline y e = 2 ^ e.toNat + 2 ^ y.toNat := by unfold sline; rw [ltI_true.2 h1, ltI_true.2 h2]; rfl
      rw [e2, e3]
      have := set_tab2 ⟨y.toNat, by omega⟩ ⟨e.toNat, by omega⟩ (by show y.toNat < e.toNat; omega)
      simp only at this
      refine ⟨by rw [this.1]; omega, by rw [this.2]; omega, ?_⟩
      have hb : ∀ i j : Fin 8, i.val < j.val → okTh (2 ^ j.val + 2 ^ i.val) 255 = true := by decide +kernel
      exact hb ⟨y.toNat, by omega⟩ ⟨e.toNat, by omega⟩ (by show y.toNat < e.toNat; omega)
    · have e2 : sscan y e = e := by unfold sscan; rw [ltI_true.2 h1, ltI_false.2 (by omega)]; rfl
      have e3 : sline y e = 2 ^ y.toNat := by unfold sline; rw [ltI_true.2 h1, ltI_false.2 (by omega)]; simp
      rw [e2, e3]
      have := List.map_inj_left.1 (set_tab e) y.toNat (List.mem_range.2 (by omega))
      injection this with t1 t2
      refine ⟨by rw [t1]; omega, t2, ?_⟩
      rw [okTh_iff]; omega
  · have h2 := hh (by omega)
    subst h2
    have e2 : sscan y 255 = y := by unfold sscan; rw [ltI_false.2 (by omega)]; rfl
    have e3 : sline y 255 = 0 := by unfold sline; rw [ltI_false.2 (show 8 ≤ y by omega)]; rfl
    rw [e2, e3]
    refine ⟨by kernel_rfl, by kernel_rfl, ?_⟩
    rw [okTh_iff]; omega
end S
theorem tStarts_run (line scan a d l n s c : Int) : K.bodyF (envL [(34, pAtE)]) (K.runF (envL [(34, pAtE)]) 30) 86 [.ptr 0 0, .int .u8 c] (Heap.of [.cells 107 .exact [.ptr 1 0, .int .u16 line, .int .i64 scan], .cells 98 .exact [.ptr 2 0, .ptr 3 0], .cells 89 .exact [.int .i64 a, .int .i64 d], .cells 93 .exact [.ptr 4 0, .int .u8 l, .int .i64 n], .cells 110 .exact [.int .u8 s, .int .i64 6, .int .i64 1]]) Hint.auto (K.endC K.openE 5 ⟨.ret (.bool (S.starts (c % 8) (S.plc a s))), [], []⟩) =
    (bc (eqI (c.tmod (8 : Int)) (1 : Int)) (bc (S.okPl a s d n) (bc (S.an (S.inR (0 : Int) (160 : Int)) (S.an (eqI a ((0 : Int) % (4 : Int))) (eqI s (S.st (0 / 4 : Int))))) (S.starts (c % (8 : Int)) (S.plc a s) = notB (ltI (0 : Int) (0 : Int)) ∧ True) (bc (S.okPl a s d n) (bc (S.an (S.inR (16 : Int) (160 : Int)) (S.an (eqI a ((16 : Int) % (4 : Int))) (eqI s (S.st (16 / 4 : Int))))) (S.starts (c % (8 : Int)) (S.plc a s) = notB (ltI (wrapK IntKind.i64 ((0 : Int) + (1 : Int))) (0 : Int)) ∧ True) (S.starts (c % (8 : Int)) (S.plc a s) = notB (ltI (-1 : Int) (0 : Int)) ∧ True)) False)) False) (bc (eqI (c.tmod (8 : Int)) (2 : Int)) (bc (S.okPl a s d n) (bc (S.an (S.inR (0 : Int) (160 : Int)) (S.an (eqI a ((0 : Int) % (4 : Int))) (eqI s (S.st (0 / 4 : Int))))) (S.starts (c % (8 : Int)) (S.plc a s) = notB (ltI (0 : Int) (0 : Int)) ∧ True) (bc (S.okPl a s d n) (bc (S.an (S.inR (32 : Int) (160 : Int)) (S.an (eqI a ((32 : Int) % (4 : Int))) (eqI s (S.st (32 / 4 : Int))))) (S.starts (c % (8 : Int)) (S.plc a s) = notB (ltI (wrapK IntKind.i64 ((0 : Int) + (1 : Int))) (0 : Int)) ∧ True) (S.starts (c % (8 : Int)) (S.plc a s) = notB (ltI (-1 : Int) (0 : Int)) ∧ True)) False)) False) (bc (eqI (c.tmod (8 : Int)) (3 : Int)) (bc (S.okPl a s d n) (bc (S.an (S.inR (0 : Int) (160 : Int)) (S.an (eqI a ((0 : Int) % (4 : Int))) (eqI s (S.st (0 / 4 : Int))))) (S.starts (c % (8 : Int)) (S.plc a s) = notB (ltI (0 : Int) (0 : Int)) ∧ True) (bc (S.okPl a s d n) (bc (S.an (S.inR (16 : Int) (160 : Int)) (S.an (eqI a ((16 : Int) % (4 : Int))) (eqI s (S.st (16 / 4 : Int))))) (S.starts (c % (8 : Int)) (S.plc a s) = notB (ltI (wrapK IntKind.i64 ((0 : Int) + (1 : Int))) (0 : Int)) ∧ True) (bc (S.okPl a s d n) (bc (S.an (S.inR (32 : Int) (160 : Int)) (S.an (eqI a ((32 : Int) % (4 : Int))) (eqI s (S.st (32 / 4 : Int))))) (S.starts (c % (8 : Int)) (S.plc a s) = notB (ltI (wrapK IntKind.i64 (wrapK IntKind.i64 ((0 : Int) + (1 : Int)) + (1 : Int))) (0 : Int)) ∧ True) (S.starts (c % (8 : Int)) (S.plc a s) = notB (ltI (-1 : Int) (0 : Int)) ∧ True)) False)) False)) False) (bc (eqI (c.tmod (8 : Int)) (4 : Int)) (bc (S.okPl a s d n) (bc (S.an (S.inR (0 : Int) (160 : Int)) (S.an (eqI a ((0 : Int) % (4 : Int))) (eqI s (S.st (0 / 4 : Int))))) (S.starts (c % (8 : Int)) (S.plc a s) = notB (ltI (0 : Int) (0 : Int)) ∧ True) (bc (S.okPl a s d n) (bc (S.an (S.inR (64 : Int) (160 : Int)) (S.an (eqI a ((64 : Int) % (4 : Int))) (eqI s (S.st (64 / 4 : Int))))) (S.starts (c % (8 : Int)) (S.plc a s) = notB (ltI (wrapK IntKind.i64 ((0 : Int) + (1 : Int))) (0 : Int)) ∧ True) (S.starts (c % (8 : Int)) (S.plc a s) = notB (ltI (-1 : Int) (0 : Int)) ∧ True)) False)) False) (bc (eqI (c.tmod (8 : Int)) (6 : Int)) (bc (S.okPl a s d n) (bc (S.an (S.inR (0 : Int) (160 : Int)) (S.an (eqI a ((0 : Int) % (4 : Int))) (eqI s (S.st (0 / 4 : Int))))) (S.starts (c % (8 : Int)) (S.plc a s) = notB (ltI (0 : Int) (0 : Int)) ∧ True) (bc (S.okPl a s d n) (bc (S.an (S.inR (32 : Int) (160 : Int)) (S.an (eqI a ((32 : Int) % (4 : Int))) (eqI s (S.st (32 / 4 : Int))))) (S.starts (c % (8 : Int)) (S.plc a s) = notB (ltI (wrapK IntKind.i64 ((0 : Int) + (1 : Int))) (0 : Int)) ∧ True) (bc (S.okPl a s d n) (bc (S.an (S.inR (64 : Int) (160 : Int)) (S.an (eqI a ((64 : Int) % (4 : Int))) (eqI s (S.st (64 / 4 : Int))))) (S.starts (c % (8 : Int)) (S.plc a s) = notB (ltI (wrapK IntKind.i64 (wrapK IntKind.i64 ((0 : Int) + (1 : Int)) + (1 : Int))) (0 : Int)) ∧ True) (S.starts (c % (8 : Int)) (S.plc a s) = notB (ltI (-1 : Int) (0 : Int)) ∧ True)) False)) False)) False) (bc (S.okPl a s d n) (bc (S.an (S.inR (0 : Int) (160 : Int)) (S.an (eqI a ((0 : Int) % (4 : Int))) (eqI s (S.st (0 / 4 : Int))))) (S.starts (c % (8 : Int)) (S.plc a s) = notB (ltI (0 : Int) (0 : Int)) ∧ True) (S.starts (c % (8 : Int)) (S.plc a s) = notB (ltI (-1 : Int) (0 : Int)) ∧ True)) False)))))) := by kernel_rfl
theorem tStarts_con (line scan a d l n s c : Int) (h0 : S.an (S.okPm a d l n s) (S.inR c 256) = true) : HT Try.prog 86 [.ptr 0 0, .int .u8 c] (Heap.of [.cells 107 .exact [.ptr 1 0, .int .u16 line, .int .i64 scan], .cells 98 .exact [.ptr 2 0, .ptr 3 0], .cells 89 .exact [.int .i64 a, .int .i64 d], .cells 93 .exact [.ptr 4 0, .int .u8 l, .int .i64 n], .cells 110 .exact [.int .u8 s, .int .i64 6, .int .i64 1]]) (⟨.ret (.bool (S.starts (c % 8) (S.plc a s))), [], []⟩ : K.CRes).e (Heap.of (K.chg [.cells 107 .exact [.ptr 1 0, .int .u16 line, .int .i64 scan], .cells 98 .exact [.ptr 2 0, .ptr 3 0], .cells 89 .exact [.int .i64 a, .int .i64 d], .cells 93 .exact [.ptr 4 0, .int .u8 l, .int .i64 n], .cells 110 .exact [.int .u8 s, .int .i64 6, .int .i64 1]] (⟨.ret (.bool (S.starts (c % 8) (S.plc a s))), [], []⟩ : K.CRes).ch ++ (⟨.ret (.bool (S.starts (c % 8) (S.plc a s))), [], []⟩ : K.CRes).new)) := by
  refine K.con_of_run good (A := envL [(34, pAtE)]) (envL_ok ?_) K.openE_ok (k := 30) (cast (tStarts_run line scan a d l n s c).symm ?_)
  · intro p hp; simp only [List.mem_cons, List.not_mem_nil, or_false] at hp; rcases hp with rfl <;> first | exact pAt_ok
  · obtain ⟨h1, hc⟩ := S.an_iff.1 h0
    obtain ⟨m0, hm0, hm1, rfl, rfl, rfl, rfl, rfl⟩ := S.okPm_iff h1
    obtain ⟨hc0, hc1⟩ := S.inR_iff.1 hc
    have ht : c.tmod 8 = c % 8 := Int.tmod_eq_emod_of_nonneg hc0
    simp only [ht, S.pl_ok hm0 hm1, S.pl_atk 0 hm0 hm1, S.pl_atk 16 hm0 hm1, S.pl_atk 32 hm0 hm1, S.pl_atk 64 hm0 hm1, S.pl_plc hm0 hm1, bc_true]
    rcases (by omega : c % 8 = 0 ∨ c % 8 = 1 ∨ c % 8 = 2 ∨ c % 8 = 3 ∨ c % 8 = 4 ∨ c % 8 = 5 ∨ c % 8 = 6 ∨ c % 8 = 7) with e | e | e | e | e | e | e | e <;> simp only [e, S.starts] <;> (generalize eqI m0 0 = b0; generalize eqI m0 16 = b1; generalize eqI m0 32 = b2; generalize eqI m0 64 = b3; cases b0 <;> cases b1 <;> cases b2 <;> cases b3 <;> exact ⟨rfl, trivial⟩)
theorem tStarts_ok : tStartsE.ok Try.prog 86 := by
  intro xs os b r h h3
  unfold tStartsE at h
  simp only at h
  split at h
  · injection h with h; injection h with h1 h2; subst h1; subst h2
    exact tStarts_con _ _ _ _ _ _ _ _ h3
  · cases h
theorem tTwo_run (line scan a d l n s : Int) : K.bodyF (envL []) (K.runF (envL []) 30) 87 [.ptr 0 0] (Heap.of [.cells 107 .exact [.ptr 1 0, .int .u16 line, .int .i64 scan], .cells 98 .exact [.ptr 2 0, .ptr 3 0], .cells 89 .exact [.int .i64 a, .int .i64 d], .cells 93 .exact [.ptr 4 0, .int .u8 l, .int .i64 n], .cells 110 .exact [.int .u8 s, .int .i64 6, .int .i64 1]]) Hint.auto (K.endC K.openE 5 ⟨.ret (.agg [.int .i64 (S.young line scan), .int .i64 (S.elder line scan)]), [], []⟩) =
    (bc (notB (eqI (andK IntKind.u16 (line.fdiv ((2 : Int) ^ (0 : Nat))) (1 : Int)) (0 : Int))) (bc (notB (eqI (andK IntKind.u16 (line.fdiv ((2 : Int) ^ (1 : Nat))) (1 : Int)) (0 : Int))) (S.young line scan = (0 : Int) ∧ (S.elder line scan = wrapK IntKind.i64 ((0 : Int) + (1 : Int)) ∧ True)) (bc (notB (eqI (andK IntKind.u16 (line.fdiv ((2 : Int) ^ (2 : Nat))) (1 : Int)) (0 : Int))) (S.young line scan = (0 : Int) ∧ (S.elder line scan = wrapK IntKind.i64 (wrapK IntKind.i64 ((0 : Int) + (1 : Int)) + (1 : Int)) ∧ True)) (bc (notB (eqI (andK IntKind.u16 (line.fdiv ((2 : Int) ^ (3 : Nat))) (1 : Int)) (0 : Int))) (S.young line scan = (0 : Int) ∧ (S.elder line scan = wrapK IntKind.i64 (wrapK IntKind.i64 (wrapK IntKind.i64 ((0 : Int) + (1 : Int)) + (1 : Int)) + (1 : Int)) ∧ True)) (bc (notB (eqI (andK IntKind.u16 (line.fdiv ((2 : Int) ^ (4 : Nat))) (1 : Int)) (0 : Int))) (S.young line scan = (0 : Int) ∧ (S.elder line scan = wrapK IntKind.i64 (wrapK IntKind.i64 (wrapK IntKind.i64 (wrapK IntKind.i64 ((0 : Int) + (1 : Int)) + (1 : Int)) + (1 : Int)) + (1 : Int)) ∧ True)) (bc (notB (eqI (andK IntKind.u16 (line.fdiv ((2 : Int) ^ (5 : Nat))) (1 : Int)) (0 : Int))) (S.young line scan = (0 : Int) ∧ (S.elder line scan = wrapK IntKind.i64 (wrapK IntKind.i64 (wrapK IntKind.i64 (wrapK IntKind.i64 (wrapK IntKind.i64 ((0 : Int) + (1 : Int)) + (1 : Int)) + (1 : Int)) + (1 : Int)) + (1 : Int)) ∧ True)) (bc (notB (eqI (andK IntKind.u16 (line.fdiv ((2 : Int) ^ (6 : Nat))) (1 : Int)) (0 : Int))) (S.young line scan = (0 : Int) ∧ (S.elder line scan = wrapK IntKind.i64 (wrapK IntKind.i64 (wrapK IntKind.i64 (wrapK IntKind.i64 (wrapK IntKind.i64 (wrapK IntKind.i64 ((0 : Int) + (1 : Int)) + (1 : Int)) + (1 : Int)) + (1 : Int)) + (1 : Int)) + (1 : Int)) ∧ True)) (bc (notB (eqI (andK IntKind.u16 (line.fdiv ((2 : Int) ^ (7 : Nat))) (1 : Int)) (0 : Int))) (S.young line scan = (0 : Int) ∧ (S.elder line scan = wrapK IntKind.i64 (wrapK IntKind.i64 (wrapK IntKind.i64 (wrapK IntKind.i64 (wrapK IntKind.i64 (wrapK IntKind.i64 (wrapK IntKind.i64 ((0 : Int) + (1 : Int)) + (1 : Int)) + (1 : Int)) + (1 : Int)) + (1 : Int)) + (1 : Int)) + (1 : Int)) ∧ True)) (S.young line scan = (0 : Int) ∧ (S.elder line scan = scan ∧ True))))))))) (bc (notB (eqI (andK IntKind.u16 (line.fdiv ((2 : Int) ^ (1 : Nat))) (1 : Int)) (0 : Int))) (bc (notB (eqI (andK IntKind.u16 (line.fdiv ((2 : Int) ^ (2 : Nat))) (1 : Int)) (0 : Int))) (S.young line scan = wrapK IntKind.i64 ((0 : Int) + (1 : Int)) ∧ (S.elder line scan = wrapK IntKind.i64 (wrapK IntKind.i64 ((0 : Int) + (1 : Int)) + (1 : Int)) ∧ True)) (bc (notB (eqI (andK IntKind.u16 (line.fdiv ((2 : Int) ^ (3 : Nat))) (1 : Int)) (0 : Int))) (S.young line scan = wrapK IntKind.i64 ((0 : Int) + (1 : Int)) ∧ (S.elder line scan = wrapK IntKind.i64 (wrapK IntKind.i64 (wrapK IntKind.i64 ((0 : Int) + (1 : Int)) + (1 : Int)) + (1 : Int)) ∧ True)) (bc (notB (eqI (andK IntKind.u16 (line.fdiv ((2 : Int) ^ (4 : Nat))) (1 : Int)) (0 : Int))) (S.young line scan = wrapK IntKind.i64 ((0 : Int) + (1 : Int)) ∧ (S.elder line scan = wrapK IntKind.i64 (wrapK IntKind.i64 (wrapK IntKind.i64 (wrapK IntKind.i64 ((0 : Int) + (1 : Int)) + (1 : Int)) + (1 : Int)) + (1 : Int)) ∧ True)) (bc (notB (eqI (andK IntKind.u16 (line.fdiv ((2 : Int) ^ (5 : Nat))) (1 : Int)) (0 : Int))) (S.young line scan = wrapK IntKind.i64 ((0 : Int) + (1 : Int)) ∧ (S.elder line scan = wrapK IntKind.i64 (wrapK IntKind.i64 (wrapK IntKind.i64 (wrapK IntKind.i64 (wrapK IntKind.i64 ((0 : Int) + (1 : Int)) + (1 : Int)) + (1 : Int)) + (1 : Int)) + (1 : Int)) ∧ True)) (bc (notB (eqI (andK IntKind.u16 (line.fdiv ((2 : Int) ^ (6 : Nat))) (1 : Int)) (0 : Int))) (S.young line scan = wrapK IntKind.i64 ((0 : Int) + (1 : Int)) ∧ (S.elder line scan = wrapK IntKind.i64 (wrapK IntKind.i64 (wrapK IntKind.i64 (wrapK IntKind.i64 (wrapK IntKind.i64 (wrapK IntKind.i64 ((0 : Int) + (1 : Int)) + (1 : Int)) + (1 : Int)) + (1 : Int)) + (1 : Int)) + (1 : Int)) ∧ True)) (bc (notB (eqI (andK IntKind.u16 (line.fdiv ((2 : Int) ^ (7 : Nat))) (1 : Int)) (0 : Int))) (S.young line scan = wrapK IntKind.i64 ((0 : Int) + (1 : Int)) ∧ (S.elder line scan = wrapK IntKind.i64 (wrapK IntKind.i64 (wrapK IntKind.i64 (wrapK IntKind.i64 (wrapK IntKind.i64 (wrapK IntKind.i64 (wrapK IntKind.i64 ((0 : Int) + (1 : Int)) + (1 : Int)) + (1 : Int)) + (1 : Int)) + (1 : Int)) + (1 : Int)) + (1 : Int)) ∧ True)) (S.young line scan = wrapK IntKind.i64 ((0 : Int) + (1 : Int)) ∧ (S.elder line scan = scan ∧ True)))))))) (bc (notB (eqI (andK IntKind.u16 (line.fdiv ((2 : Int) ^ (2 : Nat))) (1 : Int)) (0 : Int))) (bc (notB (eqI (andK IntKind.u16 (line.fdiv ((2 : Int) ^ (3 : Nat))) (1 : Int)) (0 : Int))) (S.young line scan = wrapK IntKind.i64 (wrapK IntKind.i64 ((0 : Int) + (1 : Int)) + (1 : Int)) ∧ (S.elder line scan = wrapK IntKind.i64 (wrapK IntKind.i64 (wrapK IntKind.i64 ((0 : Int) + (1 : Int)) + (1 : Int)) + (1 : Int)) ∧ True)) (bc (notB (eqI (andK IntKind.u16 (line.fdiv ((2 : Int) ^ (4 : Nat))) (1 : Int)) (0 : Int))) (S.young line scan = wrapK IntKind.i64 (wrapK IntKind.i64 ((0 : Int) + (1 : Int)) + (1 : Int)) ∧ (S.elder line scan = wrapK IntKind.i64 (wrapK IntKind.i64 (wrapK IntKind.i64 (wrapK IntKind.i64 ((0 : Int) + (1 : Int)) + (1 : Int)) + (1 : Int)) + (1 : Int)) ∧ True)) (bc (notB (eqI (andK IntKind.u16 (line.fdiv ((2 : Int) ^ (5 : Nat))) (1 : Int)) (0 : Int))) (S.young line scan = wrapK IntKind.i64 (wrapK IntKind.i64 ((0 : Int) + (1 : Int)) + (1 : Int)) ∧ (S.elder line scan = wrapK IntKind.i64 (wrapK IntKind.i64 (wrapK IntKind.i64 (wrapK IntKind.i64 (wrapK IntKind.i64 ((0 : Int) + (1 : Int)) + (1 : Int)) + (1 : Int)) + (1 : Int)) + (1 : Int)) ∧ True)) (bc (notB (eqI (andK IntKind.u16 (line.fdiv ((2 : Int) ^ (6 : Nat))) (1 : Int)) (0 : Int))) (S.young line scan = wrapK IntKind.i64 (wrapK IntKind.i64 ((0 : Int) + (1 : Int)) + (1 : Int)) ∧ (S.elder line scan = wrapK IntKind.i64 (wrapK IntKind.i64 (wrapK IntKind.i64 (wrapK IntKind.i64 (wrapK IntKind.i64 (wrapK IntKind.i64 ((0 : Int) + (1 : Int)) + (1 : Int)) + (1 : Int)) + (1 : Int)) + (1 : Int)) + (1 : Int)) ∧ True)) (bc (notB (eqI (andK IntKind.u16 (line.fdiv ((2 : Int) ^ (7 : Nat))) (1 : Int)) (0 : Int))) (S.young line scan = wrapK IntKind.i64 (wrapK IntKind.i64 ((0 : Int) + (1 : Int)) + (1 : Int)) ∧ (S.elder line scan = wrapK IntKind.i64 (wrapK IntKind.i64 (wrapK IntKind.i64 (wrapK IntKind.i64 (wrapK IntKind.i64 (wrapK IntKind.i64 (wrapK IntKind.i64 ((0 : Int) + (1 : Int)) + (1 : Int)) + (1 : Int)) + (1 : Int)) + (1 : Int)) + (1 : Int)) + (1 : Int)) ∧ True)) (S.young line scan = wrapK IntKind.i64 (wrapK IntKind.i64 ((0 : Int) + (1 : Int)) + (1 : Int)) ∧ (S.elder line scan = scan ∧ True))))))) (bc (notB (eqI (andK IntKind.u16 (line.fdiv ((2 : Int) ^ (3 : Nat))) (1 : Int)) (0 : Int))) (bc (notB (eqI (andK IntKind.u16 (line.fdiv ((2 : Int) ^ (4 : Nat))) (1 : Int)) (0 : Int))) (S.young line scan = wrapK IntKind.i64 (wrapK IntKind.i64 (wrapK IntKind.i64 ((0 : Int) + (1 : Int)) + (1 : Int)) + (1 : Int)) ∧ (S.elder line scan = wrapK IntKind.i64 (wrapK IntKind.i64 (wrapK IntKind.i64 (wrapK IntKind.i64 ((0 : Int) + (1 : Int)) + (1 : Int)) + (1 : Int)) + (1 : Int)) ∧ True)) (bc (notB (eqI (andK IntKind.u16 (line.fdiv ((2 : Int) ^ (5 : Nat))) (1 : Int)) (0 : Int))) (S.young line scan = wrapK IntKind.i64 (wrapK IntKind.i64 (wrapK IntKind.i64 ((0 : Int) + (1 : Int)) + (1 : Int)) + (1 : Int)) ∧ (S.elder line scan = wrapK IntKind.i64 (wrapK IntKind.i64 (wrapK IntKind.i64 (wrapK IntKind.i64 (wrapK IntKind.i64 ((0 : Int) + (1 : Int)) + (1 : Int)) + (1 : Int)) + (1 : Int)) + (1 : Int)) ∧ True)) (bc (notB (eqI (andK IntKind.u16 (line.fdiv ((2 : Int) ^ (6 : Nat))) (1 : Int)) (0 : Int))) (S.young line scan = wrapK IntKind.i64 (wrapK IntKind.i64 (wrapK IntKind.i64 ((0 : Int) + (1 : Int)) + (1 : Int)) + (1 : Int)) ∧ (S.elder line scan = wrapK IntKind.i64 (wrapK IntKind.i64 (wrapK IntKind.i64 (wrapK IntKind.i64 (wrapK IntKind.i64 (wrapK IntKind.i64 ((0 : Int) + (1 : Int)) + (1 : Int)) + (1 : Int)) + (1 : Int)) + (1 : Int)) + (1 : Int)) ∧ True)) (bc (notB (eqI (andK IntKind.u16 (line.fdiv ((2 : Int) ^ (7 : Nat))) (1 : Int)) (0 : Int))) (S.young line scan = wrapK IntKind.i64 (wrapK IntKind.i64 (wrapK IntKind.i64 ((0 : Int) + (1 : Int)) + (1 : Int)) + (1 : Int)) ∧ (S.elder line scan = wrapK IntKind.i64 (wrapK IntKind.i64 (wrapK IntKind.i64 (wrapK IntKind.i64 (wrapK IntKind.i64 (wrapK IntKind.i64 (wrapK IntKind.i64 ((0 : Int) + (1 : Int)) + (1 : Int)) + (1 : Int)) + (1 : Int)) + (1 : Int)) + (1 : Int)) + (1 : Int)) ∧ True)) (S.young line scan = wrapK IntKind.i64 (wrapK IntKind.i64 (wrapK IntKind.i64 ((0 : Int) + (1 : Int)) + (1 : Int)) + (1 : Int)) ∧ (S.elder line scan = scan ∧ True)))))) (bc (notB (eqI (andK IntKind.u16 (line.fdiv ((2 : Int) ^ (4 : Nat))) (1 : Int)) (0 : Int))) (bc (notB (eqI (andK IntKind.u16 (line.fdiv ((2 : Int) ^ (5 : Nat))) (1 : Int)) (0 : Int))) (S.young line scan = wrapK IntKind.i64 (wrapK IntKind.i64 (wrapK IntKind.i64 (wrapK IntKind.i64 ((0 : Int) + (1 : Int)) + (1 : Int)) + (1 : Int)) + (1 : Int)) ∧ (S.elder line scan = wrapK IntKind.i64 (wrapK IntKind.i64 (wrapK IntKind.i64 (wrapK IntKind.i64 (wrapK IntKind.i64 ((0 : Int) + (1 : Int)) + (1 : Int)) + (1 : Int)) + (1 : Int)) + (1 : Int)) ∧ True)) (bc (notB (eqI (andK IntKind.u16 (line.fdiv ((2 : Int) ^ (6 : Nat))) (1 : Int)) (0 : Int))) (S.young line scan = wrapK IntKind.i64 (wrapK IntKind.i64 (wrapK IntKind.i64 (wrapK IntKind.i64 ((0 : Int) + (1 : Int)) + (1 : Int)) + (1 : Int)) + (1 : Int)) ∧ (S.elder line scan = wrapK IntKind.i64 (wrapK IntKind.i64 (wrapK IntKind.i64 (wrapK IntKind.i64 (wrapK IntKind.i64 (wrapK IntKind.i64 ((0 : Int) + (1 : Int)) + (1 : Int)) + (1 : Int)) + (1 : Int)) + (1 : Int)) + (1 : Int)) ∧ True)) (bc (notB (eqI (andK IntKind.u16 (line.fdiv ((2 : Int) ^ (7 : Nat))) (1 : Int)) (0 : Int))) (S.young line scan = wrapK IntKind.i64 (wrapK IntKind.i64 (wrapK IntKind.i64 (wrapK IntKind.i64 ((0 : Int) + (1 : Int)) + (1 : Int)) + (1 : Int)) + (1 : Int)) ∧ (S.elder line scan = wrapK IntKind.i64 (wrapK IntKind.i64 (wrapK IntKind.i64 (wrapK IntKind.i64 (wrapK IntKind.i64 (wrapK IntKind.i64 (wrapK IntKind.i64 ((0 : Int) + (1 : Int)) + (1 : Int)) + (1 : Int)) + (1 : Int)) + (1 : Int)) + (1 : Int)) + (1 : Int)) ∧ True)) (S.young line scan = wrapK IntKind.i64 (wrapK IntKind.i64 (wrapK IntKind.i64 (wrapK IntKind.i64 ((0 : Int) + (1 : Int)) + (1 : Int)) + (1 : Int)) + (1 : Int)) ∧ (S.elder line scan = scan ∧ True))))) (bc (notB (eqI (andK IntKind.u16 (line.fdiv ((2 : Int) ^ (5 : Nat))) (1 : Int)) (0 : Int))) (bc (notB (eqI (andK IntKind.u16 (line.fdiv ((2 : Int) ^ (6 : Nat))) (1 : Int)) (0 : Int))) (S.young line scan = wrapK IntKind.i64 (wrapK IntKind.i64 (wrapK IntKind.i64 (wrapK IntKind.i64 (wrapK IntKind.i64 ((0 : Int) + (1 : Int)) + (1 : Int)) + (1 : Int)) + (1 : Int)) + (1 : Int)) ∧ (S.elder line scan = wrapK IntKind.i64 (wrapK IntKind.i64 (wrapK IntKind.i64 (wrapK IntKind.i64 (wrapK IntKind.i64 (wrapK IntKind.i64 ((0 : Int) + (1 : Int)) + (1 : Int)) + (1 : Int)) + (1 : Int)) + (1 : Int)) + (1 : Int)) ∧ True)) (bc (notB (eqI (andK IntKind.u16 (line.fdiv ((2 : Int) ^ (7 : Nat))) (1 : Int)) (0 : Int))) (S.young line scan = wrapK IntKind.i64 (wrapK IntKind.i64 (wrapK IntKind.i64 (wrapK IntKind.i64 (wrapK IntKind.i64 ((0 : Int) + (1 : Int)) + (1 : Int)) + (1 : Int)) + (1 : Int)) + (1 : Int)) ∧ (S.elder line scan = wrapK IntKind.i64 (wrapK IntKind.i64 (wrapK IntKind.i64 (wrapK IntKind.i64 (wrapK IntKind.i64 (wrapK IntKind.i64 (wrapK IntKind.i64 ((0 : Int) + (1 : Int)) + (1 : Int)) + (1 : Int)) + (1 : Int)) + (1 : Int)) + (1 : Int)) + (1 : Int)) ∧ True)) (S.young line scan = wrapK IntKind.i64 (wrapK IntKind.i64 (wrapK IntKind.i64 (wrapK IntKind.i64 (wrapK IntKind.i64 ((0 : Int) + (1 : Int)) + (1 : Int)) + (1 : Int)) + (1 : Int)) + (1 : Int)) ∧ (S.elder line scan = scan ∧ True)))) (bc (notB (eqI (andK IntKind.u16 (line.fdiv ((2 : Int) ^ (6 : Nat))) (1 : Int)) (0 : Int))) (bc (notB (eqI (andK IntKind.u16 (line.fdiv ((2 : Int) ^ (7 : Nat))) (1 : Int)) (0 : Int))) (S.young line scan = wrapK IntKind.i64 (wrapK IntKind.i64 (wrapK IntKind.i64 (wrapK IntKind.i64 (wrapK IntKind.i64 (wrapK IntKind.i64 ((0 : Int) + (1 : Int)) + (1 : Int)) + (1 : Int)) + (1 : Int)) + (1 : Int)) + (1 : Int)) ∧ (S.elder line scan = wrapK IntKind.i64 (wrapK IntKind.i64 (wrapK IntKind.i64 (wrapK IntKind.i64 (wrapK IntKind.i64 (wrapK IntKind.i64 (wrapK IntKind.i64 ((0 : Int) + (1 : Int)) + (1 : Int)) + (1 : Int)) + (1 : Int)) + (1 : Int)) + (1 : Int)) + (1 : Int)) ∧ True)) (S.young line scan = wrapK IntKind.i64 (wrapK IntKind.i64 (wrapK IntKind.i64 (wrapK IntKind.i64 (wrapK IntKind.i64 (wrapK IntKind.i64 ((0 : Int) + (1 : Int)) + (1 : Int)) + (1 : Int)) + (1 : Int)) + (1 : Int)) + (1 : Int)) ∧ (S.elder line scan = scan ∧ True))) (bc (notB (eqI (andK IntKind.u16 (line.fdiv ((2 : Int) ^ (7 : Nat))) (1 : Int)) (0 : Int))) (S.young line scan = wrapK IntKind.i64 (wrapK IntKind.i64 (wrapK IntKind.i64 (wrapK IntKind.i64 (wrapK IntKind.i64 (wrapK IntKind.i64 (wrapK IntKind.i64 ((0 : Int) + (1 : Int)) + (1 : Int)) + (1 : Int)) + (1 : Int)) + (1 : Int)) + (1 : Int)) + (1 : Int)) ∧ (S.elder line scan = scan ∧ True)) (S.young line scan = scan ∧ (S.elder line scan = (255 : Int) ∧ True)))))))))) := by kernel_rfl
theorem tTwo_con (line scan a d l n s : Int) : HT Try.prog 87 [.ptr 0 0] (Heap.of [.cells 107 .exact [.ptr 1 0, .int .u16 line, .int .i64 scan], .cells 98 .exact [.ptr 2 0, .ptr 3 0], .cells 89 .exact [.int .i64 a, .int .i64 d], .cells 93 .exact [.ptr 4 0, .int .u8 l, .int .i64 n], .cells 110 .exact [.int .u8 s, .int .i64 6, .int .i64 1]]) (⟨.ret (.agg [.int .i64 (S.young line scan), .int .i64 (S.elder line scan)]), [], []⟩ : K.CRes).e (Heap.of (K.chg [.cells 107 .exact [.ptr 1 0, .int .u16 line, .int .i64 scan], .cells 98 .exact [.ptr 2 0, .ptr 3 0], .cells 89 .exact [.int .i64 a, .int .i64 d], .cells 93 .exact [.ptr 4 0, .int .u8 l, .int .i64 n], .cells 110 .exact [.int .u8 s, .int .i64 6, .int .i64 1]] (⟨.ret (.agg [.int .i64 (S.young line scan), .int .i64 (S.elder line scan)]), [], []⟩ : K.CRes).ch ++ (⟨.ret (.agg [.int .i64 (S.young line scan), .int .i64 (S.elder line scan)]), [], []⟩ : K.CRes).new)) := by
  refine K.con_of_run good (A := envL []) (envL_ok ?_) K.openE_ok (k := 30) (cast (tTwo_run line scan a d l n s).symm ?_)
  · intro p hp; cases hp
  · simp only [S.young, S.elder, S.bit]
    generalize notB (eqI (andK IntKind.u16 (line.fdiv (2 ^ 0)) 1) 0) = b0
    generalize notB (eqI (andK IntKind.u16 (line.fdiv (2 ^ 1)) 1) 0) = b1
    generalize notB (eqI (andK IntKind.u16 (line.fdiv (2 ^ 2)) 1) 0) = b2
    generalize notB (eqI (andK IntKind.u16 (line.fdiv (2 ^ 3)) 1) 0) = b3
    generalize notB (eqI (andK IntKind.u16 (line.fdiv (2 ^ 4)) 1) 0) = b4
    generalize notB (eqI (andK IntKind.u16 (line.fdiv (2 ^ 5)) 1) 0) = b5
    generalize notB (eqI (andK IntKind.u16 (line.fdiv (2 ^ 6)) 1) 0) = b6
    generalize notB (eqI (andK IntKind.u16 (line.fdiv (2 ^ 7)) 1) 0) = b7
    cases b0 <;> cases b1 <;> cases b2 <;> cases b3 <;> cases b4 <;> cases b5 <;> cases b6 <;> cases b7 <;> exact ⟨rfl, rfl, trivial⟩
theorem tTwo_ok : tTwoE.ok Try.prog 87 := by
  intro xs os b r h h3
  unfold tTwoE at h
  simp only at h
  split at h
  · injection h with h; injection h with h1 h2; subst h1; subst h2
    exact tTwo_con _ _ _ _ _ _ _
  · cases h
theorem tTick_run (line scan a d l n s c : Int) : K.bodyF (envL [(35, pTickE), (86, tStartsE)]) (K.runF (envL [(35, pTickE), (86, tStartsE)]) 30) 60 [.ptr 0 0, .int .u8 c] (Heap.of [.cells 107 .exact [.ptr 1 0, .int .u16 line, .int .i64 scan], .cells 98 .exact [.ptr 2 0, .ptr 3 0], .cells 89 .exact [.int .i64 a, .int .i64 d], .cells 93 .exact [.ptr 4 0, .int .u8 l, .int .i64 n], .cells 110 .exact [.int .u8 s, .int .i64 6, .int .i64 1]]) Hint.auto (K.endC K.openE 5 ⟨.ret (.tup []), [(0, .cells 107 .exact [.ptr 1 0, .int .u16 (S.tline line (S.starts (c % 8) (S.nxp (S.plc a s)))), .int .i64 (S.tscan line scan)]), (2, .cells 89 .exact [.int .i64 (bc (ltI (a+1) d) (a+1) 0), .int .i64 d]), (4, .cells 110 .exact [.int .u8 (bc (ltI (a+1) d) s (bc (eqI s l) 0 (S.nx s))), .int .i64 6, .int .i64 1])], []⟩) =
    (bc (notB (eqI ((wrapK IntKind.u16 (line * (2 : Int) ^ (1 : Nat))).fdiv ((2 : Int) ^ (8 : Nat))) (0 : Int))) (bc (S.okPl a s d n) (bc (S.an (S.okPm (bc (ltI (a + (1 : Int)) d) (a + (1 : Int)) (0 : Int)) d l n (bc (ltI (a + (1 : Int)) d) s (bc (eqI s l) (0 : Int) (S.nx s)))) (S.inR c (256 : Int))) (bc (S.starts (c % (8 : Int)) (S.plc (bc (ltI (a + (1 : Int)) d) (a + (1 : Int)) (0 : Int)) (bc (ltI (a + (1 : Int)) d) s (bc (eqI s l) (0 : Int) (S.nx s))))) ((0 : Nat) = (0 : Nat) ∧ (S.tline line (S.starts (c % (8 : Int)) (S.nxp (S.plc a s))) = orK IntKind.u16 (IntKind.u16.wrap ↑(BitVec.ofInt (16 : Nat) (wrapK IntKind.u16 (line * (2 : Int) ^ (1 : Nat))) &&& ~~~BitVec.ofInt (16 : Nat) (256 : Int)).toNat) (1 : Int) ∧ (S.tscan line scan = (8 : Int) ∧ (bc (ltI (a + (1 : Int)) d) (a + (1 : Int)) (0 : Int) = bc (ltI (a + (1 : Int)) d) (a + (1 : Int)) (0 : Int) ∧ (d = d ∧ (bc (ltI (a + (1 : Int)) d) s (bc (eqI s l) (0 : Int) (S.nx s)) = bc (ltI (a + (1 : Int)) d) s (bc (eqI s l) (0 : Int) (S.nx s)) ∧ ((6 : Int) = (6 : Int) ∧ ((1 : Int) = (1 : Int) ∧ True)))))))) ((0 : Nat) = (0 : Nat) ∧ (S.tline line (S.starts (c % (8 : Int)) (S.nxp (S.plc a s))) = IntKind.u16.wrap ↑(BitVec.ofInt (16 : Nat) (wrapK IntKind.u16 (line * (2 : Int) ^ (1 : Nat))) &&& ~~~BitVec.ofInt (16 : Nat) (256 : Int)).toNat ∧ (S.tscan line scan = (8 : Int) ∧ (bc (ltI (a + (1 : Int)) d) (a + (1 : Int)) (0 : Int) = bc (ltI (a + (1 : Int)) d) (a + (1 : Int)) (0 : Int) ∧ (d = d ∧ (bc (ltI (a + (1 : Int)) d) s (bc (eqI s l) (0 : Int) (S.nx s)) = bc (ltI (a + (1 : Int)) d) s (bc (eqI s l) (0 : Int) (S.nx s)) ∧ ((6 : Int) = (6 : Int) ∧ ((1 : Int) = (1 : Int) ∧ True))))))))) False) False) (bc (S.okPl a s d n) (bc (S.an (S.okPm (bc (ltI (a + (1 : Int)) d) (a + (1 : Int)) (0 : Int)) d l n (bc (ltI (a + (1 : Int)) d) s (bc (eqI s l) (0 : Int) (S.nx s)))) (S.inR c (256 : Int))) (bc (S.starts (c % (8 : Int)) (S.plc (bc (ltI (a + (1 : Int)) d) (a + (1 : Int)) (0 : Int)) (bc (ltI (a + (1 : Int)) d) s (bc (eqI s l) (0 : Int) (S.nx s))))) ((0 : Nat) = (0 : Nat) ∧ (S.tline line (S.starts (c % (8 : Int)) (S.nxp (S.plc a s))) = orK IntKind.u16 (wrapK IntKind.u16 (line * (2 : Int) ^ (1 : Nat))) (1 : Int) ∧ (S.tscan line scan = (if (255 : Int) < wrapK IntKind.i64 (scan + (1 : Int)) then (255 : Int) else wrapK IntKind.i64 (scan + (1 : Int))) ∧ (bc (ltI (a + (1 : Int)) d) (a + (1 : Int)) (0 : Int) = bc (ltI (a + (1 : Int)) d) (a + (1 : Int)) (0 : Int) ∧ (d = d ∧ (bc (ltI (a + (1 : Int)) d) s (bc (eqI s l) (0 : Int) (S.nx s)) = bc (ltI (a + (1 : Int)) d) s (bc (eqI s l) (0 : Int) (S.nx s)) ∧ ((6 : Int) = (6 : Int) ∧ ((1 : Int) = (1 : Int) ∧ True)))))))) ((0 : Nat) = (0 : Nat) ∧ (S.tline line (S.starts (c % (8 : Int)) (S.nxp (S.plc a s))) = wrapK IntKind.u16 (line * (2 : Int) ^ (1 : Nat)) ∧ (S.tscan line scan = (if (255 : Int) < wrapK IntKind.i64 (scan + (1 : Int)) then (255 : Int) else wrapK IntKind.i64 (scan + (1 : Int))) ∧ (bc (ltI (a + (1 : Int)) d) (a + (1 : Int)) (0 : Int) = bc (ltI (a + (1 : Int)) d) (a + (1 : Int)) (0 : Int) ∧ (d = d ∧ (bc (ltI (a + (1 : Int)) d) s (bc (eqI s l) (0 : Int) (S.nx s)) = bc (ltI (a + (1 : Int)) d) s (bc (eqI s l) (0 : Int) (S.nx s)) ∧ ((6 : Int) = (6 : Int) ∧ ((1 : Int) = (1 : Int) ∧ True))))))))) False) False)) := by kernel_rfl
theorem tTick_con (line scan a d l n s c : Int) (h0 : S.an (S.an (S.okPm a d l n s) (S.okTh line scan)) (S.inR c 256) = true) : HT Try.prog 60 [.ptr 0 0, .int .u8 c] (Heap.of [.cells 107 .exact [.ptr 1 0, .int .u16 line, .int .i64 scan], .cells 98 .exact [.ptr 2 0, .ptr 3 0], .cells 89 .exact [.int .i64 a, .int .i64 d], .cells 93 .exact [.ptr 4 0, .int .u8 l, .int .i64 n], .cells 110 .exact [.int .u8 s, .int .i64 6, .int .i64 1]]) (⟨.ret (.tup []), [(0, .cells 107 .exact [.ptr 1 0, .int .u16 (S.tline line (S.starts (c % 8) (S.nxp (S.plc a s)))), .int .i64 (S.tscan line scan)]), (2, .cells 89 .exact [.int .i64 (bc (ltI (a+1) d) (a+1) 0), .int .i64 d]), (4, .cells 110 .exact [.int .u8 (bc (ltI (a+1) d) s (bc (eqI s l) 0 (S.nx s))), .int .i64 6, .int .i64 1])], []⟩ : K.CRes).e (Heap.of (K.chg [.cells 107 .exact [.ptr 1 0, .int .u16 line, .int .i64 scan], .cells 98 .exact [.ptr 2 0, .ptr 3 0], .cells 89 .exact [.int .i64 a, .int .i64 d], .cells 93 .exact [.ptr 4 0, .int .u8 l, .int .i64 n], .cells 110 .exact [.int .u8 s, .int .i64 6, .int .i64 1]] (⟨.ret (.tup []), [(0, .cells 107 .exact [.ptr 1 0, .int .u16 (S.tline line (S.starts (c % 8) (S.nxp (S.plc a s)))), .int .i64 (S.tscan line scan)]), (2, .cells 89 .exact [.int .i64 (bc (ltI (a+1) d) (a+1) 0), .int .i64 d]), (4, .cells 110 .exact [.int .u8 (bc (ltI (a+1) d) s (bc (eqI s l) 0 (S.nx s))), .int .i64 6, .int .i64 1])], []⟩ : K.CRes).ch ++ (⟨.ret (.tup []), [(0, .cells 107 .exact [.ptr 1 0, .int .u16 (S.tline line (S.starts (c % 8) (S.nxp (S.plc a s)))), .int .i64 (S.tscan line scan)]), (2, .cells 89 .exact [.int .i64 (bc (ltI (a+1) d) (a+1) 0), .int .i64 d]), (4, .cells 110 .exact [.int .u8 (bc (ltI (a+1) d) s (bc (eqI s l) 0 (S.nx s))), .int .i64 6, .int .i64 1])], []⟩ : K.CRes).new)) := by
  refine K.con_of_run good (A := envL [(35, pTickE), (86, tStartsE)]) (envL_ok ?_) K.openE_ok (k := 30) (cast (tTick_run line scan a d l n s c).symm ?_)
  · intro p hp; simp only [List.mem_cons, List.not_mem_nil, or_false] at hp; rcases hp with rfl | rfl <;> first | exact pTick_ok | exact tStarts_ok
  · obtain ⟨h1, hc⟩ := S.an_iff.1 h0
    obtain ⟨hp, ht⟩ := S.an_iff.1 h1
    obtain ⟨m0, hm0, hm1, rfl, rfl, rfl, rfl, rfl⟩ := S.okPm_iff hp
    obtain ⟨⟨hl0, hl1⟩, hs0, hs1⟩ := S.okTh_iff.1 ht
    obtain ⟨t1, t2⟩ := S.pl_tick hm0 hm1
    obtain ⟨n0, n1⟩ := S.nxp_rng hm0 hm1
    have o2 : S.an (S.okPm (S.nxp m0 % 4) 4 (S.st 39) 40 (S.st (S.nxp m0 / 4))) (S.inR c 256) = true := S.an_iff.2 ⟨S.okPm_of n0 n1, hc⟩
    simp only [t1, t2, S.pl_ok hm0 hm1, o2, S.pl_plc hm0 hm1, S.pl_plc n0 n1, bc_true, S.shr_8 hl0 hl1, true_and, and_true]
    generalize S.starts (c % 8) (S.nxp m0) = b
    have a1 := S.tline_t line hl0 hl1
    have a2 := S.tline_f line hl0 hl1
    have w1 : wrapK IntKind.u16 (line * 2 ^ 1) = 2 * line := by rw [wrapK_u16]; omega
    have w2 : wrapK IntKind.i64 (scan + 1) = scan + 1 := by rw [wrapK_i64]; omega
    cases hb : ltI line 128
    · cases b
      · simp only [S.tline, S.tscan, hb, a2, bc_false, bc_true, notB_f, and_self]
      · simp only [S.tline, S.tscan, hb, a1, bc_false, bc_true, notB_f, and_self]
    · have hb1 := ltI_true.1 hb
      have a3 := S.tline_o line hl0 hb1
      have sc : S.tscan line scan = if (255 : Int) < scan + 1 then (255 : Int) else scan + 1 := by
        unfold S.tscan
        rw [hb, bc_true]
        by_cases h : scan < 255
        · rw [ltI_true.2 h, bc_true, if_neg (by omega)]
        · rw [ltI_false.2 (by omega), bc_false, if_pos (by omega)]
      have e5 : (2 * line) % 256 = 2 * line := by omega
      cases b
      · simp only [notB_t, bc_false, bc_true, w2, sc, w1, and_true]; simp only [S.tline, bc_false]; omega
      · simp only [notB_t, bc_true, bc_false, w2, sc, a3, and_true, S.tline]
theorem tTick_ok : tTickE.ok Try.prog 60 := by
  intro xs os b r h h3
  unfold tTickE at h
  simp only at h
  split at h
  · injection h with h; injection h with h1 h2; subst h1; subst h2
    exact tTick_con _ _ _ _ _ _ _ _ h3
  · cases h
theorem tCount_run (line scan a d l n s : Int) : K.bodyF (envL [(33, pCountE)]) (K.runF (envL [(33, pCountE)]) 30) 62 [.ptr 0 0] (Heap.of [.cells 107 .exact [.ptr 1 0, .int .u16 line, .int .i64 scan], .cells 98 .exact [.ptr 2 0, .ptr 3 0], .cells 89 .exact [.int .i64 a, .int .i64 d], .cells 93 .exact [.ptr 4 0, .int .u8 l, .int .i64 n], .cells 110 .exact [.int .u8 s, .int .i64 6, .int .i64 1]]) Hint.auto (K.endC K.openE 5 ⟨.ret (.int .i64 (S.plc a s)), [], []⟩) =
    (bc (S.okPl a s d n) (S.plc a s = S.plc a s ∧ True) False) := by kernel_rfl
theorem tCount_con (line scan a d l n s : Int) (h0 : S.okPm a d l n s = true) : HT Try.prog 62 [.ptr 0 0] (Heap.of [.cells 107 .exact [.ptr 1 0, .int .u16 line, .int .i64 scan], .cells 98 .exact [.ptr 2 0, .ptr 3 0], .cells 89 .exact [.int .i64 a, .int .i64 d], .cells 93 .exact [.ptr 4 0, .int .u8 l, .int .i64 n], .cells 110 .exact [.int .u8 s, .int .i64 6, .int .i64 1]]) (⟨.ret (.int .i64 (S.plc a s)), [], []⟩ : K.CRes).e (Heap.of (K.chg [.cells 107 .exact [.ptr 1 0, .int .u16 line, .int .i64 scan], .cells 98 .exact [.ptr 2 0, .ptr 3 0], .cells 89 .exact [.int .i64 a, .int .i64 d], .cells 93 .exact [.ptr 4 0, .int .u8 l, .int .i64 n], .cells 110 .exact [.int .u8 s, .int .i64 6, .int .i64 1]] (⟨.ret (.int .i64 (S.plc a s)), [], []⟩ : K.CRes).ch ++ (⟨.ret (.int .i64 (S.plc a s)), [], []⟩ : K.CRes).new)) := by
  refine K.con_of_run good (A := envL [(33, pCountE)]) (envL_ok ?_) K.openE_ok (k := 30) (cast (tCount_run line scan a d l n s).symm ?_)
  · intro p hp; simp only [List.mem_cons, List.not_mem_nil, or_false] at hp; rcases hp with rfl <;> first | exact pCount_ok
  · obtain ⟨m0, hm0, hm1, rfl, rfl, rfl, rfl, rfl⟩ := S.okPm_iff h0
    simp only [S.pl_ok hm0 hm1, bc_true, and_self]
theorem tCount_ok : tCountE.ok Try.prog 62 := by
  intro xs os b r h h3
  unfold tCountE at h
  simp only at h
  split at h
  · injection h with h; injection h with h1 h2; subst h1; subst h2
    exact tCount_con _ _ _ _ _ _ _ h3
  · cases h
theorem tPut_run (line scan a d l n s m : Int) : K.bodyF (envL [(32, pSetE)]) (K.runF (envL [(32, pSetE)]) 30) 59 [.ptr 0 0, .int .i64 m] (Heap.of [.cells 107 .exact [.ptr 1 0, .int .u16 line, .int .i64 scan], .cells 98 .exact [.ptr 2 0, .ptr 3 0], .cells 89 .exact [.int .i64 a, .int .i64 d], .cells 93 .exact [.ptr 4 0, .int .u8 l, .int .i64 n], .cells 110 .exact [.int .u8 s, .int .i64 6, .int .i64 1]]) Hint.auto (K.endC K.openE 5 ⟨.ret (.int .i64 (bc (S.inR m 160) 0 6)), [(2, .cells 89 .exact [.int .i64 (bc (S.inR m 160) (m % 4) a), .int .i64 d]), (4, .cells 110 .exact [.int .u8 (bc (S.inR m 160) (S.st (m / 4)) s), .int .i64 6, .int .i64 1])], []⟩) =
    (bc (S.okPl a s d n) (bc (S.inR m (160 : Int)) (0 : Int) (6 : Int) = bc (S.inR m (160 : Int)) (0 : Int) (6 : Int) ∧ (bc (S.inR m (160 : Int)) (m % (4 : Int)) a = bc (S.inR m (160 : Int)) (m % (4 : Int)) a ∧ (d = d ∧ (bc (S.inR m (160 : Int)) (S.st (m / (4 : Int))) s = bc (S.inR m (160 : Int)) (S.st (m / (4 : Int))) s ∧ ((6 : Int) = (6 : Int) ∧ ((1 : Int) = (1 : Int) ∧ True)))))) False) := by kernel_rfl
theorem tPut_con (line scan a d l n s m : Int) (h0 : S.okPm a d l n s = true) : HT Try.prog 59 [.ptr 0 0, .int .i64 m] (Heap.of [.cells 107 .exact [.ptr 1 0, .int .u16 line, .int .i64 scan], .cells 98 .exact [.ptr 2 0, .ptr 3 0], .cells 89 .exact [.int .i64 a, .int .i64 d], .cells 93 .exact [.ptr 4 0, .int .u8 l, .int .i64 n], .cells 110 .exact [.int .u8 s, .int .i64 6, .int .i64 1]]) (⟨.ret (.int .i64 (bc (S.inR m 160) 0 6)), [(2, .cells 89 .exact [.int .i64 (bc (S.inR m 160) (m % 4) a), .int .i64 d]), (4, .cells 110 .exact [.int .u8 (bc (S.inR m 160) (S.st (m / 4)) s), .int .i64 6, .int .i64 1])], []⟩ : K.CRes).e (Heap.of (K.chg [.cells 107 .exact [.ptr 1 0, .int .u16 line, .int .i64 scan], .cells 98 .exact [.ptr 2 0, .ptr 3 0], .cells 89 .exact [.int .i64 a, .int .i64 d], .cells 93 .exact [.ptr 4 0, .int .u8 l, .int .i64 n], .cells 110 .exact [.int .u8 s, .int .i64 6, .int .i64 1]] (⟨.ret (.int .i64 (bc (S.inR m 160) 0 6)), [(2, .cells 89 .exact [.int .i64 (bc (S.inR m 160) (m % 4) a), .int .i64 d]), (4, .cells 110 .exact [.int .u8 (bc (S.inR m 160) (S.st (m / 4)) s), .int .i64 6, .int .i64 1])], []⟩ : K.CRes).ch ++ (⟨.ret (.int .i64 (bc (S.inR m 160) 0 6)), [(2, .cells 89 .exact [.int .i64 (bc (S.inR m 160) (m % 4) a), .int .i64 d]), (4, .cells 110 .exact [.int .u8 (bc (S.inR m 160) (S.st (m / 4)) s), .int .i64 6, .int .i64 1])], []⟩ : K.CRes).new)) := by
  refine K.con_of_run good (A := envL [(32, pSetE)]) (envL_ok ?_) K.openE_ok (k := 30) (cast (tPut_run line scan a d l n s m).symm ?_)
  · intro p hp; simp only [List.mem_cons, List.not_mem_nil, or_false] at hp; rcases hp with rfl <;> first | exact pSet_ok
  · obtain ⟨m0, hm0, hm1, rfl, rfl, rfl, rfl, rfl⟩ := S.okPm_iff h0
    simp [S.pl_ok hm0 hm1]
theorem tPut_ok : tPutE.ok Try.prog 59 := by
  intro xs os b r h h3
  unfold tPutE at h
  simp only at h
  split at h
  · injection h with h; injection h with h1 h2; subst h1; subst h2
    exact tPut_con _ _ _ _ _ _ _ _ h3
  · cases h
theorem tDot_run (line scan a d l n s q : Int) : K.bodyF (envL [(87, tTwoE)]) (K.runF (envL [(87, tTwoE)]) 30) 61 [.ptr 0 0, .int .i64 q] (Heap.of [.cells 107 .exact [.ptr 1 0, .int .u16 line, .int .i64 scan], .cells 98 .exact [.ptr 2 0, .ptr 3 0], .cells 89 .exact [.int .i64 a, .int .i64 d], .cells 93 .exact [.ptr 4 0, .int .u8 l, .int .i64 n], .cells 110 .exact [.int .u8 s, .int .i64 6, .int .i64 1]]) Hint.auto (K.endC K.openE 5 ⟨.ret (.int .i64 (S.dot (S.young line scan) (S.elder line scan) q)), [], []⟩) =
    (bc (notB (ltI (S.young line scan) (if (if (7 : Int) < q then (7 : Int) else q) > (0 : Int) then if (7 : Int) < q then (7 : Int) else q else (0 : Int)))) (S.dot (S.young line scan) (S.elder line scan) q = wrapK IntKind.i64 (S.young line scan - if (if (7 : Int) < q then (7 : Int) else q) > (0 : Int) then if (7 : Int) < q then (7 : Int) else q else (0 : Int)) ∧ True) (bc (notB (ltI (S.elder line scan) (if (if (7 : Int) < q then (7 : Int) else q) > (0 : Int) then if (7 : Int) < q then (7 : Int) else q else (0 : Int)))) (S.dot (S.young line scan) (S.elder line scan) q = wrapK IntKind.i64 (S.elder line scan - if (if (7 : Int) < q then (7 : Int) else q) > (0 : Int) then if (7 : Int) < q then (7 : Int) else q else (0 : Int)) ∧ True) (S.dot (S.young line scan) (S.elder line scan) q = (-1 : Int) ∧ True))) := by kernel_rfl
theorem tDot_con (line scan a d l n s q : Int) (h0 : S.okTh line scan = true) : HT Try.prog 61 [.ptr 0 0, .int .i64 q] (Heap.of [.cells 107 .exact [.ptr 1 0, .int .u16 line, .int .i64 scan], .cells 98 .exact [.ptr 2 0, .ptr 3 0], .cells 89 .exact [.int .i64 a, .int .i64 d], .cells 93 .exact [.ptr 4 0, .int .u8 l, .int .i64 n], .cells 110 .exact [.int .u8 s, .int .i64 6, .int .i64 1]]) (⟨.ret (.int .i64 (S.dot (S.young line scan) (S.elder line scan) q)), [], []⟩ : K.CRes).e (Heap.of (K.chg [.cells 107 .exact [.ptr 1 0, .int .u16 line, .int .i64 scan], .cells 98 .exact [.ptr 2 0, .ptr 3 0], .cells 89 .exact [.int .i64 a, .int .i64 d], .cells 93 .exact [.ptr 4 0, .int .u8 l, .int .i64 n], .cells 110 .exact [.int .u8 s, .int .i64 6, .int .i64 1]] (⟨.ret (.int .i64 (S.dot (S.young line scan) (S.elder line scan) q)), [], []⟩ : K.CRes).ch ++ (⟨.ret (.int .i64 (S.dot (S.young line scan) (S.elder line scan) q)), [], []⟩ : K.CRes).new)) := by
  refine K.con_of_run good (A := envL [(87, tTwoE)]) (envL_ok ?_) K.openE_ok (k := 30) (cast (tDot_run line scan a d l n s q).symm ?_)
  · intro p hp; simp only [List.mem_cons, List.not_mem_nil, or_false] at hp; rcases hp with rfl <;> first | exact tTwo_ok
  · obtain ⟨⟨hl0, hl1⟩, hs0, hs1⟩ := S.okTh_iff.1 h0
    obtain ⟨y0, y1⟩ := S.young_rng (line := line) hs0 hs1
    obtain ⟨e0, e1⟩ := S.elder_rng (line := line) hs0 hs1
    rw [S.lead7_eq]
    obtain ⟨l0, l1⟩ := S.lead7_rng q
    have w1 : wrapK IntKind.i64 (S.young line scan - S.lead7 q) = S.young line scan - S.lead7 q := by rw [wrapK_i64]; omega
    have w2 : wrapK IntKind.i64 (S.elder line scan - S.lead7 q) = S.elder line scan - S.lead7 q := by rw [wrapK_i64]; omega
    rw [w1, w2]
    unfold S.dot
    cases ltI (S.young line scan) (S.lead7 q) <;> cases ltI (S.elder line scan) (S.lead7 q) <;> exact ⟨rfl, trivial⟩
theorem tDot_ok : tDotE.ok Try.prog 61 := by
  intro xs os b r h h3
  unfold tDotE at h
  simp only at h
  split at h
  · injection h with h; injection h with h1 h2; subst h1; subst h2
    exact tDot_con _ _ _ _ _ _ _ _ h3
  · cases h
theorem tWords_run (line scan a d l n s : Int) : K.bodyF (envL [(87, tTwoE), (62, tCountE)]) (K.runF (envL [(87, tTwoE), (62, tCountE)]) 30) 69 [.ptr 0 0] (Heap.of [.cells 107 .exact [.ptr 1 0, .int .u16 line, .int .i64 scan], .cells 98 .exact [.ptr 2 0, .ptr 3 0], .cells 89 .exact [.int .i64 a, .int .i64 d], .cells 93 .exact [.ptr 4 0, .int .u8 l, .int .i64 n], .cells 110 .exact [.int .u8 s, .int .i64 6, .int .i64 1]]) Hint.auto (K.endC K.openE 5 ⟨.ret (.agg [.int .i64 (S.plc a s), .int .i64 (S.young line scan), .int .i64 (S.elder line scan)]), [], []⟩) =
    (bc (S.okPm a d l n s) (S.plc a s = S.plc a s ∧ (S.young line scan = S.young line scan ∧ (S.elder line scan = S.elder line scan ∧ True))) False) := by kernel_rfl
theorem tWords_con (line scan a d l n s : Int) (h0 : S.okPm a d l n s = true) : HT Try.prog 69 [.ptr 0 0] (Heap.of [.cells 107 .exact [.ptr 1 0, .int .u16 line, .int .i64 scan], .cells 98 .exact [.ptr 2 0, .ptr 3 0], .cells 89 .exact [.int .i64 a, .int .i64 d], .cells 93 .exact [.ptr 4 0, .int .u8 l, .int .i64 n], .cells 110 .exact [.int .u8 s, .int .i64 6, .int .i64 1]]) (⟨.ret (.agg [.int .i64 (S.plc a s), .int .i64 (S.young line scan), .int .i64 (S.elder line scan)]), [], []⟩ : K.CRes).e (Heap.of (K.chg [.cells 107 .exact [.ptr 1 0, .int .u16 line, .int .i64 scan], .cells 98 .exact [.ptr 2 0, .ptr 3 0], .cells 89 .exact [.int .i64 a, .int .i64 d], .cells 93 .exact [.ptr 4 0, .int .u8 l, .int .i64 n], .cells 110 .exact [.int .u8 s, .int .i64 6, .int .i64 1]] (⟨.ret (.agg [.int .i64 (S.plc a s), .int .i64 (S.young line scan), .int .i64 (S.elder line scan)]), [], []⟩ : K.CRes).ch ++ (⟨.ret (.agg [.int .i64 (S.plc a s), .int .i64 (S.young line scan), .int .i64 (S.elder line scan)]), [], []⟩ : K.CRes).new)) := by
  refine K.con_of_run good (A := envL [(87, tTwoE), (62, tCountE)]) (envL_ok ?_) K.openE_ok (k := 30) (cast (tWords_run line scan a d l n s).symm ?_)
  · intro p hp; simp only [List.mem_cons, List.not_mem_nil, or_false] at hp; rcases hp with rfl | rfl <;> first | exact tTwo_ok | exact tCount_ok
  · obtain ⟨m0, hm0, hm1, rfl, rfl, rfl, rfl, rfl⟩ := S.okPm_iff h0
    simp only [S.okPm_of hm0 hm1, bc_true, and_self]
theorem tWords_ok : tWordsE.ok Try.prog 69 := by
  intro xs os b r h h3
  unfold tWordsE at h
  simp only at h
  split at h
  · injection h with h; injection h with h1 h2; subst h1; subst h2
    exact tWords_con _ _ _ _ _ _ _ h3
  · cases h
theorem tSet_run (line scan a d l n s w0 w1 w2 : Int) : K.bodyF (envL [(32, pSetE)]) (K.runF (envL [(32, pSetE)]) 30) 64 [.ptr 0 0, .agg [.int .i64 w0, .int .i64 w1, .int .i64 w2]] (Heap.of [.cells 107 .exact [.ptr 1 0, .int .u16 line, .int .i64 scan], .cells 98 .exact [.ptr 2 0, .ptr 3 0], .cells 89 .exact [.int .i64 a, .int .i64 d], .cells 93 .exact [.ptr 4 0, .int .u8 l, .int .i64 n], .cells 110 .exact [.int .u8 s, .int .i64 6, .int .i64 1]]) Hint.auto (K.endC K.openE 5 ⟨.ret (.int .i64 (bc (S.okW w0 w1 w2) 0 6)), [(0, .cells 107 .exact [.ptr 1 0, .int .u16 (bc (S.okW w0 w1 w2) (S.sline w1 w2) line), .int .i64 (bc (S.okW w0 w1 w2) (S.sscan w1 w2) scan)]), (2, .cells 89 .exact [.int .i64 (bc (S.okW w0 w1 w2) (w0 % 4) a), .int .i64 d]), (4, .cells 110 .exact [.int .u8 (bc (S.okW w0 w1 w2) (S.st (w0 / 4)) s), .int .i64 6, .int .i64 1])], []⟩) =
    (bc (ltI w0 (0 : Int)) (bc (S.okW w0 w1 w2) (0 : Int) (6 : Int) = (6 : Int) ∧ ((0 : Nat) = (0 : Nat) ∧ (bc (S.okW w0 w1 w2) (S.sline w1 w2) line = line ∧ (bc (S.okW w0 w1 w2) (S.sscan w1 w2) scan = scan ∧ (bc (S.okW w0 w1 w2) (w0 % (4 : Int)) a = a ∧ (d = d ∧ (bc (S.okW w0 w1 w2) (S.st (w0 / (4 : Int))) s = s ∧ ((6 : Int) = (6 : Int) ∧ ((1 : Int) = (1 : Int) ∧ True))))))))) (bc (notB (ltI w0 (160 : Int))) (bc (S.okW w0 w1 w2) (0 : Int) (6 : Int) = (6 : Int) ∧ ((0 : Nat) = (0 : Nat) ∧ (bc (S.okW w0 w1 w2) (S.sline w1 w2) line = line ∧ (bc (S.okW w0 w1 w2) (S.sscan w1 w2) scan = scan ∧ (bc (S.okW w0 w1 w2) (w0 % (4 : Int)) a = a ∧ (d = d ∧ (bc (S.okW w0 w1 w2) (S.st (w0 / (4 : Int))) s = s ∧ ((6 : Int) = (6 : Int) ∧ ((1 : Int) = (1 : Int) ∧ True))))))))) (bc (ltI w1 (0 : Int)) (bc (S.okW w0 w1 w2) (0 : Int) (6 : Int) = (6 : Int) ∧ ((0 : Nat) = (0 : Nat) ∧ (bc (S.okW w0 w1 w2) (S.sline w1 w2) line = line ∧ (bc (S.okW w0 w1 w2) (S.sscan w1 w2) scan = scan ∧ (bc (S.okW w0 w1 w2) (w0 % (4 : Int)) a = a ∧ (d = d ∧ (bc (S.okW w0 w1 w2) (S.st (w0 / (4 : Int))) s = s ∧ ((6 : Int) = (6 : Int) ∧ ((1 : Int) = (1 : Int) ∧ True))))))))) (bc (ltI (255 : Int) w1) (bc (S.okW w0 w1 w2) (0 : Int) (6 : Int) = (6 : Int) ∧ ((0 : Nat) = (0 : Nat) ∧ (bc (S.okW w0 w1 w2) (S.sline w1 w2) line = line ∧ (bc (S.okW w0 w1 w2) (S.sscan w1 w2) scan = scan ∧ (bc (S.okW w0 w1 w2) (w0 % (4 : Int)) a = a ∧ (d = d ∧ (bc (S.okW w0 w1 w2) (S.st (w0 / (4 : Int))) s = s ∧ ((6 : Int) = (6 : Int) ∧ ((1 : Int) = (1 : Int) ∧ True))))))))) (bc (ltI (255 : Int) w2) (bc (S.okW w0 w1 w2) (0 : Int) (6 : Int) = (6 : Int) ∧ ((0 : Nat) = (0 : Nat) ∧ (bc (S.okW w0 w1 w2) (S.sline w1 w2) line = line ∧ (bc (S.okW w0 w1 w2) (S.sscan w1 w2) scan = scan ∧ (bc (S.okW w0 w1 w2) (w0 % (4 : Int)) a = a ∧ (d = d ∧ (bc (S.okW w0 w1 w2) (S.st (w0 / (4 : Int))) s = s ∧ ((6 : Int) = (6 : Int) ∧ ((1 : Int) = (1 : Int) ∧ True))))))))) (bc (ltI w1 (8 : Int)) (bc (notB (ltI w1 w2)) (bc (notB (ltI w1 w2)) (bc (S.okW w0 w1 w2) (0 : Int) (6 : Int) = (6 : Int) ∧ ((0 : Nat) = (0 : Nat) ∧ (bc (S.okW w0 w1 w2) (S.sline w1 w2) line = line ∧ (bc (S.okW w0 w1 w2) (S.sscan w1 w2) scan = scan ∧ (bc (S.okW w0 w1 w2) (w0 % (4 : Int)) a = a ∧ (d = d ∧ (bc (S.okW w0 w1 w2) (S.st (w0 / (4 : Int))) s = s ∧ ((6 : Int) = (6 : Int) ∧ ((1 : Int) = (1 : Int) ∧ True))))))))) (bc (S.okPl a s d n) (bc (ltI w2 (8 : Int)) (bc (ltI w2 (0 : Int)) False (bc (ltI w1 (8 : Int)) (bc (ltI w1 (0 : Int)) False (bc (S.okW w0 w1 w2) (0 : Int) (6 : Int) = (0 : Int) ∧ ((0 : Nat) = (0 : Nat) ∧ (bc (S.okW w0 w1 w2) (S.sline w1 w2) line = orK IntKind.u16 (orK IntKind.u16 (0 : Int) (wrapK IntKind.u16 ((1 : Int) * (2 : Int) ^ min w2.toNat (16 : Nat)))) (wrapK IntKind.u16 ((1 : Int) * (2 : Int) ^ min w1.toNat (16 : Nat))) ∧ (bc (S.okW w0 w1 w2) (S.sscan w1 w2) scan = (255 : Int) ∧ (bc (S.okW w0 w1 w2) (w0 % (4 : Int)) a = bc (S.inR w0 (160 : Int)) (w0 % (4 : Int)) a ∧ (d = d ∧ (bc (S.okW w0 w1 w2) (S.st (w0 / (4 : Int))) s = bc (S.inR w0 (160 : Int)) (S.st (w0 / (4 : Int))) s ∧ ((6 : Int) = (6 : Int) ∧ ((1 : Int) = (1 : Int) ∧ True)))))))))) (bc (S.okW w0 w1 w2) (0 : Int) (6 : Int) = (0 : Int) ∧ ((0 : Nat) = (0 : Nat) ∧ (bc (S.okW w0 w1 w2) (S.sline w1 w2) line = orK IntKind.u16 (0 : Int) (wrapK IntKind.u16 ((1 : Int) * (2 : Int) ^ min w2.toNat (16 : Nat))) ∧ (bc (S.okW w0 w1 w2) (S.sscan w1 w2) scan = w1 ∧ (bc (S.okW w0 w1 w2) (w0 % (4 : Int)) a = bc (S.inR w0 (160 : Int)) (w0 % (4 : Int)) a ∧ (d = d ∧ (bc (S.okW w0 w1 w2) (S.st (w0 / (4 : Int))) s = bc (S.inR w0 (160 : Int)) (S.st (w0 / (4 : Int))) s ∧ ((6 : Int) = (6 : Int) ∧ ((1 : Int) = (1 : Int) ∧ True))))))))))) (bc (ltI w1 (8 : Int)) (bc (ltI w1 (0 : Int)) False (bc (S.okW w0 w1 w2) (0 : Int) (6 : Int) = (0 : Int) ∧ ((0 : Nat) = (0 : Nat) ∧ (bc (S.okW w0 w1 w2) (S.sline w1 w2) line = orK IntKind.u16 (0 : Int) (wrapK IntKind.u16 ((1 : Int) * (2 : Int) ^ min w1.toNat (16 : Nat))) ∧ (bc (S.okW w0 w1 w2) (S.sscan w1 w2) scan = w2 ∧ (bc (S.okW w0 w1 w2) (w0 % (4 : Int)) a = bc (S.inR w0 (160 : Int)) (w0 % (4 : Int)) a ∧ (d = d ∧ (bc (S.okW w0 w1 w2) (S.st (w0 / (4 : Int))) s = bc (S.inR w0 (160 : Int)) (S.st (w0 / (4 : Int))) s ∧ ((6 : Int) = (6 : Int) ∧ ((1 : Int) = (1 : Int) ∧ True)))))))))) (bc (S.okW w0 w1 w2) (0 : Int) (6 : Int) = (0 : Int) ∧ ((0 : Nat) = (0 : Nat) ∧ (bc (S.okW w0 w1 w2) (S.sline w1 w2) line = (0 : Int) ∧ (bc (S.okW w0 w1 w2) (S.sscan w1 w2) scan = w1 ∧ (bc (S.okW w0 w1 w2) (w0 % (4 : Int)) a = bc (S.inR w0 (160 : Int)) (w0 % (4 : Int)) a ∧ (d = d ∧ (bc (S.okW w0 w1 w2) (S.st (w0 / (4 : Int))) s = bc (S.inR w0 (160 : Int)) (S.st (w0 / (4 : Int))) s ∧ ((6 : Int) = (6 : Int) ∧ ((1 : Int) = (1 : Int) ∧ True))))))))))) False)) (bc (notB (ltI w1 (8 : Int))) (bc (notB (eqI w2 (255 : Int))) (bc (S.okW w0 w1 w2) (0 : Int) (6 : Int) = (6 : Int) ∧ ((0 : Nat) = (0 : Nat) ∧ (bc (S.okW w0 w1 w2) (S.sline w1 w2) line = line ∧ (bc (S.okW w0 w1 w2) (S.sscan w1 w2) scan = scan ∧ (bc (S.okW w0 w1 w2) (w0 % (4 : Int)) a = a ∧ (d = d ∧ (bc (S.okW w0 w1 w2) (S.st (w0 / (4 : Int))) s = s ∧ ((6 : Int) = (6 : Int) ∧ ((1 : Int) = (1 : Int) ∧ True))))))))) (bc (S.okPl a s d n) (bc (ltI w2 (8 : Int)) (bc (ltI w2 (0 : Int)) False (bc (ltI w1 (8 : Int)) (bc (ltI w1 (0 : Int)) False (bc (S.okW w0 w1 w2) (0 : Int) (6 : Int) = (0 : Int) ∧ ((0 : Nat) = (0 : Nat) ∧ (bc (S.okW w0 w1 w2) (S.sline w1 w2) line = orK IntKind.u16 (orK IntKind.u16 (0 : Int) (wrapK IntKind.u16 ((1 : Int) * (2 : Int) ^ min w2.toNat (16 : Nat)))) (wrapK IntKind.u16 ((1 : Int) * (2 : Int) ^ min w1.toNat (16 : Nat))) ∧ (bc (S.okW w0 w1 w2) (S.sscan w1 w2) scan = (255 : Int) ∧ (bc (S.okW w0 w1 w2) (w0 % (4 : Int)) a = bc (S.inR w0 (160 : Int)) (w0 % (4 : Int)) a ∧ (d = d ∧ (bc (S.okW w0 w1 w2) (S.st (w0 / (4 : Int))) s = bc (S.inR w0 (160 : Int)) (S.st (w0 / (4 : Int))) s ∧ ((6 : Int) = (6 : Int) ∧ ((1 : Int) = (1 : Int) ∧ True)))))))))) (bc (S.okW w0 w1 w2) (0 : Int) (6 : Int) = (0 : Int) ∧ ((0 : Nat) = (0 : Nat) ∧ (bc (S.okW w0 w1 w2) (S.sline w1 w2) line = orK IntKind.u16 (0 : Int) (wrapK IntKind.u16 ((1 : Int) * (2 : Int) ^ min w2.toNat (16 : Nat))) ∧ (bc (S.okW w0 w1 w2) (S.sscan w1 w2) scan = w1 ∧ (bc (S.okW w0 w1 w2) (w0 % (4 : Int)) a = bc (S.inR w0 (160 : Int)) (w0 % (4 : Int)) a ∧ (d = d ∧ (bc (S.okW w0 w1 w2) (S.st (w0 / (4 : Int))) s = bc (S.inR w0 (160 : Int)) (S.st (w0 / (4 : Int))) s ∧ ((6 : Int) = (6 : Int) ∧ ((1 : Int) = (1 : Int) ∧ True))))))))))) (bc (ltI w1 (8 : Int)) (bc (ltI w1 (0 : Int)) False (bc (S.okW w0 w1 w2) (0 : Int) (6 : Int) = (0 : Int) ∧ ((0 : Nat) = (0 : Nat) ∧ (bc (S.okW w0 w1 w2) (S.sline w1 w2) line = orK IntKind.u16 (0 : Int) (wrapK IntKind.u16 ((1 : Int) * (2 : Int) ^ min w1.toNat (16 : Nat))) ∧ (bc (S.okW w0 w1 w2) (S.sscan w1 w2) scan = w2 ∧ (bc (S.okW w0 w1 w2) (w0 % (4 : Int)) a = bc (S.inR w0 (160 : Int)) (w0 % (4 : Int)) a ∧ (d = d ∧ (bc (S.okW w0 w1 w2) (S.st (w0 / (4 : Int))) s = bc (S.inR w0 (160 : Int)) (S.st (w0 / (4 : Int))) s ∧ ((6 : Int) = (6 : Int) ∧ ((1 : Int) = (1 : Int) ∧ True)))))))))) (bc (S.okW w0 w1 w2) (0 : Int) (6 : Int) = (0 : Int) ∧ ((0 : Nat) = (0 : Nat) ∧ (bc (S.okW w0 w1 w2) (S.sline w1 w2) line = (0 : Int) ∧ (bc (S.okW w0 w1 w2) (S.sscan w1 w2) scan = w1 ∧ (bc (S.okW w0 w1 w2) (w0 % (4 : Int)) a = bc (S.inR w0 (160 : Int)) (w0 % (4 : Int)) a ∧ (d = d ∧ (bc (S.okW w0 w1 w2) (S.st (w0 / (4 : Int))) s = bc (S.inR w0 (160 : Int)) (S.st (w0 / (4 : Int))) s ∧ ((6 : Int) = (6 : Int) ∧ ((1 : Int) = (1 : Int) ∧ True))))))))))) False)) (bc (S.okPl a s d n) (bc (ltI w2 (8 : Int)) (bc (ltI w2 (0 : Int)) False (bc (ltI w1 (8 : Int)) (bc (ltI w1 (0 : Int)) False (bc (S.okW w0 w1 w2) (0 : Int) (6 : Int) = (0 : Int) ∧ ((0 : Nat) = (0 : Nat) ∧ (bc (S.okW w0 w1 w2) (S.sline w1 w2) line = orK IntKind.u16 (orK IntKind.u16 (0 : Int) (wrapK IntKind.u16 ((1 : Int) * (2 : Int) ^ min w2.toNat (16 : Nat)))) (wrapK IntKind.u16 ((1 : Int) * (2 : Int) ^ min w1.toNat (16 : Nat))) ∧ (bc (S.okW w0 w1 w2) (S.sscan w1 w2) scan = (255 : Int) ∧ (bc (S.okW w0 w1 w2) (w0 % (4 : Int)) a = bc (S.inR w0 (160 : Int)) (w0 % (4 : Int)) a ∧ (d = d ∧ (bc (S.okW w0 w1 w2) (S.st (w0 / (4 : Int))) s = bc (S.inR w0 (160 : Int)) (S.st (w0 / (4 : Int))) s ∧ ((6 : Int) = (6 : Int) ∧ ((1 : Int) = (1 : Int) ∧ True)))))))))) (bc (S.okW w0 w1 w2) (0 : Int) (6 : Int) = (0 : Int) ∧ ((0 : Nat) = (0 : Nat) ∧ (bc (S.okW w0 w1 w2) (S.sline w1 w2) line = orK IntKind.u16 (0 : Int) (wrapK IntKind.u16 ((1 : Int) * (2 : Int) ^ min w2.toNat (16 : Nat))) ∧ (bc (S.okW w0 w1 w2) (S.sscan w1 w2) scan = w1 ∧ (bc (S.okW w0 w1 w2) (w0 % (4 : Int)) a = bc (S.inR w0 (160 : Int)) (w0 % (4 : Int)) a ∧ (d = d ∧ (bc (S.okW w0 w1 w2) (S.st (w0 / (4 : Int))) s = bc (S.inR w0 (160 : Int)) (S.st (w0 / (4 : Int))) s ∧ ((6 : Int) = (6 : Int) ∧ ((1 : Int) = (1 : Int) ∧ True))))))))))) (bc (ltI w1 (8 : Int)) (bc (ltI w1 (0 : Int)) False (bc (S.okW w0 w1 w2) (0 : Int) (6 : Int) = (0 : Int) ∧ ((0 : Nat) = (0 : Nat) ∧ (bc (S.okW w0 w1 w2) (S.sline w1 w2) line = orK IntKind.u16 (0 : Int) (wrapK IntKind.u16 ((1 : Int) * (2 : Int) ^ min w1.toNat (16 : Nat))) ∧ (bc (S.okW w0 w1 w2) (S.sscan w1 w2) scan = w2 ∧ (bc (S.okW w0 w1 w2) (w0 % (4 : Int)) a = bc (S.inR w0 (160 : Int)) (w0 % (4 : Int)) a ∧ (d = d ∧ (bc (S.okW w0 w1 w2) (S.st (w0 / (4 : Int))) s = bc (S.inR w0 (160 : Int)) (S.st (w0 / (4 : Int))) s ∧ ((6 : Int) = (6 : Int) ∧ ((1 : Int) = (1 : Int) ∧ True)))))))))) (bc (S.okW w0 w1 w2) (0 : Int) (6 : Int) = (0 : Int) ∧ ((0 : Nat) = (0 : Nat) ∧ (bc (S.okW w0 w1 w2) (S.sline w1 w2) line = (0 : Int) ∧ (bc (S.okW w0 w1 w2) (S.sscan w1 w2) scan = w1 ∧ (bc (S.okW w0 w1 w2) (w0 % (4 : Int)) a = bc (S.inR w0 (160 : Int)) (w0 % (4 : Int)) a ∧ (d = d ∧ (bc (S.okW w0 w1 w2) (S.st (w0 / (4 : Int))) s = bc (S.inR w0 (160 : Int)) (S.st (w0 / (4 : Int))) s ∧ ((6 : Int) = (6 : Int) ∧ ((1 : Int) = (1 : Int) ∧ True))))))))))) False))) (bc (notB (ltI w1 (8 : Int))) (bc (notB (eqI w2 (255 : Int))) (bc (S.okW w0 w1 w2) (0 : Int) (6 : Int) = (6 : Int) ∧ ((0 : Nat) = (0 : Nat) ∧ (bc (S.okW w0 w1 w2) (S.sline w1 w2) line = line ∧ (bc (S.okW w0 w1 w2) (S.sscan w1 w2) scan = scan ∧ (bc (S.okW w0 w1 w2) (w0 % (4 : Int)) a = a ∧ (d = d ∧ (bc (S.okW w0 w1 w2) (S.st (w0 / (4 : Int))) s = s ∧ ((6 : Int) = (6 : Int) ∧ ((1 : Int) = (1 : Int) ∧ True))))))))) (bc (S.okPl a s d n) (bc (ltI w2 (8 : Int)) (bc (ltI w2 (0 : Int)) False (bc (ltI w1 (8 : Int)) (bc (ltI w1 (0 : Int)) False (bc (S.okW w0 w1 w2) (0 : Int) (6 : Int) = (0 : Int) ∧ ((0 : Nat) = (0 : Nat) ∧ (bc (S.okW w0 w1 w2) (S.sline w1 w2) line = orK IntKind.u16 (orK IntKind.u16 (0 : Int) (wrapK IntKind.u16 ((1 : Int) * (2 : Int) ^ min w2.toNat (16 : Nat)))) (wrapK IntKind.u16 ((1 : Int) * (2 : Int) ^ min w1.toNat (16 : Nat))) ∧ (bc (S.okW w0 w1 w2) (S.sscan w1 w2) scan = (255 : Int) ∧ (bc (S.okW w0 w1 w2) (w0 % (4 : Int)) a = bc (S.inR w0 (160 : Int)) (w0 % (4 : Int)) a ∧ (d = d ∧ (bc (S.okW w0 w1 w2) (S.st (w0 / (4 : Int))) s = bc (S.inR w0 (160 : Int)) (S.st (w0 / (4 : Int))) s ∧ ((6 : Int) = (6 : Int) ∧ ((1 : Int) = (1 : Int) ∧ True)))))))))) (bc (S.okW w0 w1 w2) (0 : Int) (6 : Int) = (0 : Int) ∧ ((0 : Nat) = (0 : Nat) ∧ (bc (S.okW w0 w1 w2) (S.sline w1 w2) line = orK IntKind.u16 (0 : Int) (wrapK IntKind.u16 ((1 : Int) * (2 : Int) ^ min w2.toNat (16 : Nat))) ∧ (bc (S.okW w0 w1 w2) (S.sscan w1 w2) scan = w1 ∧ (bc (S.okW w0 w1 w2) (w0 % (4 : Int)) a = bc (S.inR w0 (160 : Int)) (w0 % (4 : Int)) a ∧ (d = d ∧ (bc (S.okW w0 w1 w2) (S.st (w0 / (4 : Int))) s = bc (S.inR w0 (160 : Int)) (S.st (w0 / (4 : Int))) s ∧ ((6 : Int) = (6 : Int) ∧ ((1 : Int) = (1 : Int) ∧ True))))))))))) (bc (ltI w1 (8 : Int)) (bc (ltI w1 (0 : Int)) False (bc (S.okW w0 w1 w2) (0 : Int) (6 : Int) = (0 : Int) ∧ ((0 : Nat) = (0 : Nat) ∧ (bc (S.okW w0 w1 w2) (S.sline w1 w2) line = orK IntKind.u16 (0 : Int) (wrapK IntKind.u16 ((1 : Int) * (2 : Int) ^ min w1.toNat (16 : Nat))) ∧ (bc (S.okW w0 w1 w2) (S.sscan w1 w2) scan = w2 ∧ (bc (S.okW w0 w1 w2) (w0 % (4 : Int)) a = bc (S.inR w0 (160 : Int)) (w0 % (4 : Int)) a ∧ (d = d ∧ (bc (S.okW w0 w1 w2) (S.st (w0 / (4 : Int))) s = bc (S.inR w0 (160 : Int)) (S.st (w0 / (4 : Int))) s ∧ ((6 : Int) = (6 : Int) ∧ ((1 : Int) = (1 : Int) ∧ True)))))))))) (bc (S.okW w0 w1 w2) (0 : Int) (6 : Int) = (0 : Int) ∧ ((0 : Nat) = (0 : Nat) ∧ (bc (S.okW w0 w1 w2) (S.sline w1 w2) line = (0 : Int) ∧ (bc (S.okW w0 w1 w2) (S.sscan w1 w2) scan = w1 ∧ (bc (S.okW w0 w1 w2) (w0 % (4 : Int)) a = bc (S.inR w0 (160 : Int)) (w0 % (4 : Int)) a ∧ (d = d ∧ (bc (S.okW w0 w1 w2) (S.st (w0 / (4 : Int))) s = bc (S.inR w0 (160 : Int)) (S.st (w0 / (4 : Int))) s ∧ ((6 : Int) = (6 : Int) ∧ ((1 : Int) = (1 : Int) ∧ True))))))))))) False)) (bc (S.okPl a s d n) (bc (ltI w2 (8 : Int)) (bc (ltI w2 (0 : Int)) False (bc (ltI w1 (8 : Int)) (bc (ltI w1 (0 : Int)) False (bc (S.okW w0 w1 w2) (0 : Int) (6 : Int) = (0 : Int) ∧ ((0 : Nat) = (0 : Nat) ∧ (bc (S.okW w0 w1 w2) (S.sline w1 w2) line = orK IntKind.u16 (orK IntKind.u16 (0 : Int) (wrapK IntKind.u16 ((1 : Int) * (2 : Int) ^ min w2.toNat (16 : Nat)))) (wrapK IntKind.u16 ((1 : Int) * (2 : Int) ^ min w1.toNat (16 : Nat))) ∧ (bc (S.okW w0 w1 w2) (S.sscan w1 w2) scan = (255 : Int) ∧ (bc (S.okW w0 w1 w2) (w0 % (4 : Int)) a = bc (S.inR w0 (160 : Int)) (w0 % (4 : Int)) a ∧ (d = d ∧ (bc (S.okW w0 w1 w2) (S.st (w0 / (4 : Int))) s = bc (S.inR w0 (160 : Int)) (S.st (w0 / (4 : Int))) s ∧ ((6 : Int) = (6 : Int) ∧ ((1 : Int) = (1 : Int) ∧ True)))))))))) (bc (S.okW w0 w1 w2) (0 : Int) (6 : Int) = (0 : Int) ∧ ((0 : Nat) = (0 : Nat) ∧ (bc (S.okW w0 w1 w2) (S.sline w1 w2) line = orK IntKind.u16 (0 : Int) (wrapK IntKind.u16 ((1 : Int) * (2 : Int) ^ min w2.toNat (16 : Nat))) ∧ (bc (S.okW w0 w1 w2) (S.sscan w1 w2) scan = w1 ∧ (bc (S.okW w0 w1 w2) (w0 % (4 : Int)) a = bc (S.inR w0 (160 : Int)) (w0 % (4 : Int)) a ∧ (d = d ∧ (bc (S.okW w0 w1 w2) (S.st (w0 / (4 : Int))) s = bc (S.inR w0 (160 : Int)) (S.st (w0 / (4 : Int))) s ∧ ((6 : Int) = (6 : Int) ∧ ((1 : Int) = (1 : Int) ∧ True))))))))))) (bc (ltI w1 (8 : Int)) (bc (ltI w1 (0 : Int)) False (bc (S.okW w0 w1 w2) (0 : Int) (6 : Int) = (0 : Int) ∧ ((0 : Nat) = (0 : Nat) ∧ (bc (S.okW w0 w1 w2) (S.sline w1 w2) line = orK IntKind.u16 (0 : Int) (wrapK IntKind.u16 ((1 : Int) * (2 : Int) ^ min w1.toNat (16 : Nat))) ∧ (bc (S.okW w0 w1 w2) (S.sscan w1 w2) scan = w2 ∧ (bc (S.okW w0 w1 w2) (w0 % (4 : Int)) a = bc (S.inR w0 (160 : Int)) (w0 % (4 : Int)) a ∧ (d = d ∧ (bc (S.okW w0 w1 w2) (S.st (w0 / (4 : Int))) s = bc (S.inR w0 (160 : Int)) (S.st (w0 / (4 : Int))) s ∧ ((6 : Int) = (6 : Int) ∧ ((1 : Int) = (1 : Int) ∧ True)))))))))) (bc (S.okW w0 w1 w2) (0 : Int) (6 : Int) = (0 : Int) ∧ ((0 : Nat) = (0 : Nat) ∧ (bc (S.okW w0 w1 w2) (S.sline w1 w2) line = (0 : Int) ∧ (bc (S.okW w0 w1 w2) (S.sscan w1 w2) scan = w1 ∧ (bc (S.okW w0 w1 w2) (w0 % (4 : Int)) a = bc (S.inR w0 (160 : Int)) (w0 % (4 : Int)) a ∧ (d = d ∧ (bc (S.okW w0 w1 w2) (S.st (w0 / (4 : Int))) s = bc (S.inR w0 (160 : Int)) (S.st (w0 / (4 : Int))) s ∧ ((6 : Int) = (6 : Int) ∧ ((1 : Int) = (1 : Int) ∧ True))))))))))) False)))))))) := by kernel_rfl
theorem tSet_con (line scan a d l n s w0 w1 w2 : Int) (h0 : S.okPm a d l n s = true) : HT Try.prog 64 [.ptr 0 0, .agg [.int .i64 w0, .int .i64 w1, .int .i64 w2]] (Heap.of [.cells 107 .exact [.ptr 1 0, .int .u16 line, .int .i64 scan], .cells 98 .exact [.ptr 2 0, .ptr 3 0], .cells 89 .exact [.int .i64 a, .int .i64 d], .cells 93 .exact [.ptr 4 0, .int .u8 l, .int .i64 n], .cells 110 .exact [.int .u8 s, .int .i64 6, .int .i64 1]]) (⟨.ret (.int .i64 (bc (S.okW w0 w1 w2) 0 6)), [(0, .cells 107 .exact [.ptr 1 0, .int .u16 (bc (S.okW w0 w1 w2) (S.sline w1 w2) line), .int .i64 (bc (S.okW w0 w1 w2) (S.sscan w1 w2) scan)]), (2, .cells 89 .exact [.int .i64 (bc (S.okW w0 w1 w2) (w0 % 4) a), .int .i64 d]), (4, .cells 110 .exact [.int .u8 (bc (S.okW w0 w1 w2) (S.st (w0 / 4)) s), .int .i64 6, .int .i64 1])], []⟩ : K.CRes).e (Heap.of (K.chg [.cells 107 .exact [.ptr 1 0, .int .u16 line, .int .i64 scan], .cells 98 .exact [.ptr 2 0, .ptr 3 0], .cells 89 .exact [.int .i64 a, .int .i64 d], .cells 93 .exact [.ptr 4 0, .int .u8 l, .int .i64 n], .cells 110 .exact [.int .u8 s, .int .i64 6, .int .i64 1]] (⟨.ret (.int .i64 (bc (S.okW w0 w1 w2) 0 6)), [(0, .cells 107 .exact [.ptr 1 0, .int .u16 (bc (S.okW w0 w1 w2) (S.sline w1 w2) line), .int .i64 (bc (S.okW w0 w1 w2) (S.sscan w1 w2) scan)]), (2, .cells 89 .exact [.int .i64 (bc (S.okW w0 w1 w2) (w0 % 4) a), .int .i64 d]), (4, .cells 110 .exact [.int .u8 (bc (S.okW w0 w1 w2) (S.st (w0 / 4)) s), .int .i64 6, .int .i64 1])], []⟩ : K.CRes).ch ++ (⟨.ret (.int .i64 (bc (S.okW w0 w1 w2) 0 6)), [(0, .cells 107 .exact [.ptr 1 0, .int .u16 (bc (S.okW w0 w1 w2) (S.sline w1 w2) line), .int .i64 (bc (S.okW w0 w1 w2) (S.sscan w1 w2) scan)]), (2, .cells 89 .exact [.int .i64 (bc (S.okW w0 w1 w2) (w0 % 4) a), .int .i64 d]), (4, .cells 110 .exact [.int .u8 (bc (S.okW w0 w1 w2) (S.st (w0 / 4)) s), .int .i64 6, .int .i64 1])], []⟩ : K.CRes).new)) := by
  refine K.con_of_run good (A := envL [(32, pSetE)]) (envL_ok ?_) K.openE_ok (k := 30) (cast (tSet_run line scan a d l n s w0 w1 w2).symm ?_)
  · intro p hp; simp only [List.mem_cons, List.not_mem_nil, or_false] at hp; rcases hp with rfl <;> first | exact pSet_ok
  · obtain ⟨m0, hm0, hm1, rfl, rfl, rfl, rfl, rfl⟩ := S.okPm_iff h0
    simp only [S.pl_ok hm0 hm1, bc_true, true_and, and_true]
    repeat' (first | refine bcI (fun _ => ?_) (fun _ => ?_))
    all_goals first
      | (exfalso; simp only [notB_true, notB_false, ltI_true, ltI_false, eqI_true, eqI_false] at *; omega)
      | (have e : S.okW w0 w1 w2 = false := by
           rw [Bool.eq_false_iff]; intro hw; rw [S.okW_iff] at hw
           simp only [notB_true, notB_false, ltI_true, ltI_false, eqI_true, eqI_false] at *; omega
         simp only [e, bc_false, and_self]; done)
      | (have e : S.okW w0 w1 w2 = true := by
           rw [S.okW_iff]
           simp only [notB_true, notB_false, ltI_true, ltI_false, eqI_true, eqI_false] at *; omega
         have hw := S.okW_iff.1 e
         have ei : S.inR w0 160 = true := S.inR_iff.2 hw.1
         simp only [e, ei, bc_true, true_and, and_true]
         simp only [notB_true, notB_false, ltI_true, ltI_false, eqI_true, eqI_false] at *
         first | exact S.setA hw (by omega) (by omega) | exact S.setB hw (by omega) (by omega) | exact S.setC hw (by omega))
theorem tSet_ok : tSetE.ok Try.prog 64 := by
  intro xs os b r h h3
  unfold tSetE at h
  simp only at h
  split at h
  · injection h with h; injection h with h1 h2; subst h1; subst h2
    exact tSet_con _ _ _ _ _ _ _ _ _ _ h3
  · cases h
theorem tNew_run : K.bodyF (envL [(31, pBeginE)]) (K.runF (envL [(31, pBeginE)]) 30) 58 [] (Heap.of []) Hint.auto (K.endC K.openE 0 ⟨.ret (.ptr 0 0), [], [.cells 107 .exact [.ptr 1 0, .int .u16 0, .int .i64 255], .cells 98 .exact [.ptr 2 0, .ptr 3 0], .cells 89 .exact [.int .i64 0, .int .i64 4], .cells 93 .exact [.ptr 4 0, .int .u8 (S.st 39), .int .i64 40], .cells 110 .exact [.int .u8 0, .int .i64 6, .int .i64 1]]⟩) =
    (((0 : Nat) = (0 : Nat) ∧ ((0 : Nat) = (0 : Nat) ∧ ((0 : Int) = (0 : Int) ∧ ((255 : Int) = (255 : Int) ∧ ((0 : Nat) = (0 : Nat) ∧ ((0 : Nat) = (0 : Nat) ∧ ((0 : Int) = (0 : Int) ∧ ((4 : Int) = (4 : Int) ∧ ((0 : Nat) = (0 : Nat) ∧ (S.st (39 : Int) = S.st (39 : Int) ∧ ((40 : Int) = (40 : Int) ∧ ((0 : Int) = (0 : Int) ∧ ((6 : Int) = (6 : Int) ∧ ((1 : Int) = (1 : Int) ∧ True))))))))))))))) := by kernel_rfl
theorem tNew_con  : HT Try.prog 58 [] (Heap.of []) (⟨.ret (.ptr 0 0), [], [.cells 107 .exact [.ptr 1 0, .int .u16 0, .int .i64 255], .cells 98 .exact [.ptr 2 0, .ptr 3 0], .cells 89 .exact [.int .i64 0, .int .i64 4], .cells 93 .exact [.ptr 4 0, .int .u8 (S.st 39), .int .i64 40], .cells 110 .exact [.int .u8 0, .int .i64 6, .int .i64 1]]⟩ : K.CRes).e (Heap.of (K.chg [] (⟨.ret (.ptr 0 0), [], [.cells 107 .exact [.ptr 1 0, .int .u16 0, .int .i64 255], .cells 98 .exact [.ptr 2 0, .ptr 3 0], .cells 89 .exact [.int .i64 0, .int .i64 4], .cells 93 .exact [.ptr 4 0, .int .u8 (S.st 39), .int .i64 40], .cells 110 .exact [.int .u8 0, .int .i64 6, .int .i64 1]]⟩ : K.CRes).ch ++ (⟨.ret (.ptr 0 0), [], [.cells 107 .exact [.ptr 1 0, .int .u16 0, .int .i64 255], .cells 98 .exact [.ptr 2 0, .ptr 3 0], .cells 89 .exact [.int .i64 0, .int .i64 4], .cells 93 .exact [.ptr 4 0, .int .u8 (S.st 39), .int .i64 40], .cells 110 .exact [.int .u8 0, .int .i64 6, .int .i64 1]]⟩ : K.CRes).new)) := by
  refine K.con_of_run good (A := envL [(31, pBeginE)]) (envL_ok ?_) K.openE_ok (k := 30) (cast (tNew_run).symm ?_)
  · intro p hp; simp only [List.mem_cons, List.not_mem_nil, or_false] at hp; rcases hp with rfl <;> first | exact pBegin_ok
  · simp
theorem tNew_ok : tNewE.ok Try.prog 58 := by
  intro xs os b r h h3
  unfold tNewE at h
  simp only at h
  split at h
  · injection h with h; injection h with h1 h2; subst h1; subst h2
    exact tNew_con
  · cases h
theorem tCopy_run (line scan a d l n s : Int) : K.bodyF (envL [(36, pCopyE)]) (K.runF (envL [(36, pCopyE)]) 30) 71 [.ptr 0 0] (Heap.of [.cells 107 .exact [.ptr 1 0, .int .u16 line, .int .i64 scan], .cells 98 .exact [.ptr 2 0, .ptr 3 0], .cells 89 .exact [.int .i64 a, .int .i64 d], .cells 93 .exact [.ptr 4 0, .int .u8 l, .int .i64 n], .cells 110 .exact [.int .u8 s, .int .i64 6, .int .i64 1]]) Hint.auto (K.endC K.openE 5 ⟨.ret (.ptr 5 0), [], [.cells 107 .exact [.ptr 6 0, .int .u16 line, .int .i64 scan], .cells 98 .exact [.ptr 7 0, .ptr 8 0], .cells 89 .exact [.int .i64 (bc (S.inR (S.plc a s) 160) (S.plc a s % 4) 0), .int .i64 4], .cells 93 .exact [.ptr 9 0, .int .u8 (S.st 39), .int .i64 40], .cells 110 .exact [.int .u8 (bc (S.inR (S.plc a s) 160) (S.st (S.plc a s / 4)) 0), .int .i64 6, .int .i64 1]]⟩) =
    (bc (S.okPl a s d n) ((0 : Nat) = (0 : Nat) ∧ ((0 : Nat) = (0 : Nat) ∧ (line = line ∧ (scan = scan ∧ ((0 : Nat) = (0 : Nat) ∧ ((0 : Nat) = (0 : Nat) ∧ (bc (S.inR (S.plc a s) (160 : Int)) (S.plc a s % (4 : Int)) (0 : Int) = bc (S.inR (S.plc a s) (160 : Int)) (S.plc a s % (4 : Int)) (0 : Int) ∧ ((4 : Int) = (4 : Int) ∧ ((0 : Nat) = (0 : Nat) ∧ (S.st (39 : Int) = S.st (39 : Int) ∧ ((40 : Int) = (40 : Int) ∧ (bc (S.inR (S.plc a s) (160 : Int)) (S.st (S.plc a s / (4 : Int))) (0 : Int) = bc (S.inR (S.plc a s) (160 : Int)) (S.st (S.plc a s / (4 : Int))) (0 : Int) ∧ ((6 : Int) = (6 : Int) ∧ ((1 : Int) = (1 : Int) ∧ True)))))))))))))) False) := by kernel_rfl
theorem tCopy_con (line scan a d l n s : Int) (h0 : S.okPm a d l n s = true) : HT Try.prog 71 [.ptr 0 0] (Heap.of [.cells 107 .exact [.ptr 1 0, .int .u16 line, .int .i64 scan], .cells 98 .exact [.ptr 2 0, .ptr 3 0], .cells 89 .exact [.int .i64 a, .int .i64 d], .cells 93 .exact [.ptr 4 0, .int .u8 l, .int .i64 n], .cells 110 .exact [.int .u8 s, .int .i64 6, .int .i64 1]]) (⟨.ret (.ptr 5 0), [], [.cells 107 .exact [.ptr 6 0, .int .u16 line, .int .i64 scan], .cells 98 .exact [.ptr 7 0, .ptr 8 0], .cells 89 .exact [.int .i64 (bc (S.inR (S.plc a s) 160) (S.plc a s % 4) 0), .int .i64 4], .cells 93 .exact [.ptr 9 0, .int .u8 (S.st 39), .int .i64 40], .cells 110 .exact [.int .u8 (bc (S.inR (S.plc a s) 160) (S.st (S.plc a s / 4)) 0), .int .i64 6, .int .i64 1]]⟩ : K.CRes).e (Heap.of (K.chg [.cells 107 .exact [.ptr 1 0, .int .u16 line, .int .i64 scan], .cells 98 .exact [.ptr 2 0, .ptr 3 0], .cells 89 .exact [.int .i64 a, .int .i64 d], .cells 93 .exact [.ptr 4 0, .int .u8 l, .int .i64 n], .cells 110 .exact [.int .u8 s, .int .i64 6, .int .i64 1]] (⟨.ret (.ptr 5 0), [], [.cells 107 .exact [.ptr 6 0, .int .u16 line, .int .i64 scan], .cells 98 .exact [.ptr 7 0, .ptr 8 0], .cells 89 .exact [.int .i64 (bc (S.inR (S.plc a s) 160) (S.plc a s % 4) 0), .int .i64 4], .cells 93 .exact [.ptr 9 0, .int .u8 (S.st 39), .int .i64 40], .cells 110 .exact [.int .u8 (bc (S.inR (S.plc a s) 160) (S.st (S.plc a s / 4)) 0), .int .i64 6, .int .i64 1]]⟩ : K.CRes).ch ++ (⟨.ret (.ptr 5 0), [], [.cells 107 .exact [.ptr 6 0, .int .u16 line, .int .i64 scan], .cells 98 .exact [.ptr 7 0, .ptr 8 0], .cells 89 .exact [.int .i64 (bc (S.inR (S.plc a s) 160) (S.plc a s % 4) 0), .int .i64 4], .cells 93 .exact [.ptr 9 0, .int .u8 (S.st 39), .int .i64 40], .cells 110 .exact [.int .u8 (bc (S.inR (S.plc a s) 160) (S.st (S.plc a s / 4)) 0), .int .i64 6, .int .i64 1]]⟩ : K.CRes).new)) := by
  refine K.con_of_run good (A := envL [(36, pCopyE)]) (envL_ok ?_) K.openE_ok (k := 30) (cast (tCopy_run line scan a d l n s).symm ?_)
  · intro p hp; simp only [List.mem_cons, List.not_mem_nil, or_false] at hp; rcases hp with rfl <;> first | exact pCopy_ok
  · obtain ⟨m0, hm0, hm1, rfl, rfl, rfl, rfl, rfl⟩ := S.okPm_iff h0
    simp [S.pl_ok hm0 hm1]
theorem tCopy_ok : tCopyE.ok Try.prog 71 := by
  intro xs os b r h h3
  unfold tCopyE at h
  simp only at h
  split at h
  · injection h with h; injection h with h1 h2; subst h1; subst h2
    exact tCopy_con _ _ _ _ _ _ _ h3
  · cases h
theorem rStart_run (c m : Int) : K.bodyF (envL []) (K.runF (envL []) 30) 85 [.int .i64 c, .int .i64 m] (Heap.of []) Hint.auto (K.endC K.openE 0 ⟨.ret (.bool (S.starts (c % 8) m)), [], []⟩) =
    (bc (eqI m (0 : Int)) (S.starts (c % (8 : Int)) m = true ∧ True) (bc (eqI m (16 : Int)) (bc (eqI (c.tmod (8 : Int)) (1 : Int)) (S.starts (c % (8 : Int)) m = true ∧ True) (S.starts (c % (8 : Int)) m = eqI (c.tmod (8 : Int)) (3 : Int) ∧ True)) (bc (eqI m (32 : Int)) (bc (eqI (c.tmod (8 : Int)) (2 : Int)) (S.starts (c % (8 : Int)) m = true ∧ True) (bc (eqI (c.tmod (8 : Int)) (3 : Int)) (S.starts (c % (8 : Int)) m = true ∧ True) (S.starts (c % (8 : Int)) m = eqI (c.tmod (8 : Int)) (6 : Int) ∧ True))) (bc (eqI m (64 : Int)) (bc (eqI (c.tmod (8 : Int)) (4 : Int)) (S.starts (c % (8 : Int)) m = true ∧ True) (S.starts (c % (8 : Int)) m = eqI (c.tmod (8 : Int)) (6 : Int) ∧ True)) (S.starts (c % (8 : Int)) m = false ∧ True))))) := by kernel_rfl
theorem rStart_con (c m : Int) (h0 : notB (ltI c 0) = true) : HT Try.prog 85 [.int .i64 c, .int .i64 m] (Heap.of []) (⟨.ret (.bool (S.starts (c % 8) m)), [], []⟩ : K.CRes).e (Heap.of (K.chg [] (⟨.ret (.bool (S.starts (c % 8) m)), [], []⟩ : K.CRes).ch ++ (⟨.ret (.bool (S.starts (c % 8) m)), [], []⟩ : K.CRes).new)) := by
  refine K.con_of_run good (A := envL []) (envL_ok ?_) K.openE_ok (k := 30) (cast (rStart_run c m).symm ?_)
  · intro p hp; cases hp
  · have hc0 : 0 ≤ c := ltI_false.1 (notB_true.1 h0)
    have ht : c.tmod 8 = c % 8 := Int.tmod_eq_emod_of_nonneg hc0
    simp only [ht]
    have cs : c % 8 = 0 ∨ c % 8 = 1 ∨ c % 8 = 2 ∨ c % 8 = 3 ∨ c % 8 = 4 ∨ c % 8 = 5 ∨ c % 8 = 6 ∨ c % 8 = 7 := by omega
    by_cases m0 : m = 0
    · subst m0; rcases cs with e | e | e | e | e | e | e | e <;> rw [e] <;> exact ⟨rfl, trivial⟩
    by_cases m1 : m = 16
    · subst m1; rcases cs with e | e | e | e | e | e | e | e <;> rw [e] <;> exact ⟨rfl, trivial⟩
    by_cases m2 : m = 32
    · subst m2; rcases cs with e | e | e | e | e | e | e | e <;> rw [e] <;> exact ⟨rfl, trivial⟩
    by_cases m3 : m = 64
    · subst m3; rcases cs with e | e | e | e | e | e | e | e <;> rw [e] <;> exact ⟨rfl, trivial⟩
    unfold S.starts
    rw [eqI_false.2 m0, eqI_false.2 m1, eqI_false.2 m2, eqI_false.2 m3]
    rcases cs with e | e | e | e | e | e | e | e <;> rw [e] <;> exact ⟨rfl, trivial⟩
theorem rStart_ok : rStartE.ok Try.prog 85 := by
  intro xs os b r h h3
  unfold rStartE at h
  simp only at h
  split at h
  · injection h with h; injection h with h1 h2; subst h1; subst h2
    exact rStart_con _ _ h3
  · cases h
theorem rTick_run (m y e c : Int) : K.bodyF (envL [(85, rStartE)]) (K.runF (envL [(85, rStartE)]) 30) 67 [.agg [.int .i64 m, .int .i64 y, .int .i64 e], .int .i64 c] (Heap.of []) Hint.auto (K.endC K.openE 0 ⟨.ret (.agg [.int .i64 (S.nxp m), .int .i64 (S.rY y (S.starts (c % 8) (S.nxp m))), .int .i64 (S.rE y e (S.starts (c % 8) (S.nxp m)))]), [], []⟩) =
    (bc (notB (ltI y (254 : Int))) (bc (notB (ltI e (254 : Int))) (bc (notB (ltI c (0 : Int))) (bc (S.starts (c % (8 : Int)) ((wrapK IntKind.i64 (m + (1 : Int))).tmod (160 : Int))) (S.nxp m = (wrapK IntKind.i64 (m + (1 : Int))).tmod (160 : Int) ∧ (S.rY y (S.starts (c % (8 : Int)) (S.nxp m)) = (0 : Int) ∧ (S.rE y e (S.starts (c % (8 : Int)) (S.nxp m)) = (255 : Int) ∧ True))) (S.nxp m = (wrapK IntKind.i64 (m + (1 : Int))).tmod (160 : Int) ∧ (S.rY y (S.starts (c % (8 : Int)) (S.nxp m)) = (255 : Int) ∧ (S.rE y e (S.starts (c % (8 : Int)) (S.nxp m)) = (255 : Int) ∧ True)))) False) (bc (notB (ltI c (0 : Int))) (bc (S.starts (c % (8 : Int)) ((wrapK IntKind.i64 (m + (1 : Int))).tmod (160 : Int))) (S.nxp m = (wrapK IntKind.i64 (m + (1 : Int))).tmod (160 : Int) ∧ (S.rY y (S.starts (c % (8 : Int)) (S.nxp m)) = (0 : Int) ∧ (S.rE y e (S.starts (c % (8 : Int)) (S.nxp m)) = (255 : Int) ∧ True))) (S.nxp m = (wrapK IntKind.i64 (m + (1 : Int))).tmod (160 : Int) ∧ (S.rY y (S.starts (c % (8 : Int)) (S.nxp m)) = (255 : Int) ∧ (S.rE y e (S.starts (c % (8 : Int)) (S.nxp m)) = (255 : Int) ∧ True)))) False)) (bc (notB (ltI e (254 : Int))) (bc (notB (ltI c (0 : Int))) (bc (S.starts (c % (8 : Int)) ((wrapK IntKind.i64 (m + (1 : Int))).tmod (160 : Int))) (S.nxp m = (wrapK IntKind.i64 (m + (1 : Int))).tmod (160 : Int) ∧ (S.rY y (S.starts (c % (8 : Int)) (S.nxp m)) = (0 : Int) ∧ (S.rE y e (S.starts (c % (8 : Int)) (S.nxp m)) = wrapK IntKind.i64 (y + (1 : Int)) ∧ True))) (bc (notB (ltI (wrapK IntKind.i64 (y + (1 : Int))) (8 : Int))) (S.nxp m = (wrapK IntKind.i64 (m + (1 : Int))).tmod (160 : Int) ∧ (S.rY y (S.starts (c % (8 : Int)) (S.nxp m)) = wrapK IntKind.i64 (y + (1 : Int)) ∧ (S.rE y e (S.starts (c % (8 : Int)) (S.nxp m)) = (255 : Int) ∧ True))) (S.nxp m = (wrapK IntKind.i64 (m + (1 : Int))).tmod (160 : Int) ∧ (S.rY y (S.starts (c % (8 : Int)) (S.nxp m)) = wrapK IntKind.i64 (y + (1 : Int)) ∧ (S.rE y e (S.starts (c % (8 : Int)) (S.nxp m)) = (255 : Int) ∧ True))))) False) (bc (notB (ltI c (0 : Int))) (bc (S.starts (c % (8 : Int)) ((wrapK IntKind.i64 (m + (1 : Int))).tmod (160 : Int))) (S.nxp m = (wrapK IntKind.i64 (m + (1 : Int))).tmod (160 : Int) ∧ (S.rY y (S.starts (c % (8 : Int)) (S.nxp m)) = (0 : Int) ∧ (S.rE y e (S.starts (c % (8 : Int)) (S.nxp m)) = wrapK IntKind.i64 (y + (1 : Int)) ∧ True))) (bc (notB (ltI (wrapK IntKind.i64 (y + (1 : Int))) (8 : Int))) (S.nxp m = (wrapK IntKind.i64 (m + (1 : Int))).tmod (160 : Int) ∧ (S.rY y (S.starts (c % (8 : Int)) (S.nxp m)) = wrapK IntKind.i64 (y + (1 : Int)) ∧ (S.rE y e (S.starts (c % (8 : Int)) (S.nxp m)) = (255 : Int) ∧ True))) (S.nxp m = (wrapK IntKind.i64 (m + (1 : Int))).tmod (160 : Int) ∧ (S.rY y (S.starts (c % (8 : Int)) (S.nxp m)) = wrapK IntKind.i64 (y + (1 : Int)) ∧ (S.rE y e (S.starts (c % (8 : Int)) (S.nxp m)) = wrapK IntKind.i64 (e + (1 : Int)) ∧ True))))) False))) := by kernel_rfl
theorem rTick_con (m y e c : Int) (h0 : S.okR m y e c = true) : HT Try.prog 67 [.agg [.int .i64 m, .int .i64 y, .int .i64 e], .int .i64 c] (Heap.of []) (⟨.ret (.agg [.int .i64 (S.nxp m), .int .i64 (S.rY y (S.starts (c % 8) (S.nxp m))), .int .i64 (S.rE y e (S.starts (c % 8) (S.nxp m)))]), [], []⟩ : K.CRes).e (Heap.of (K.chg [] (⟨.ret (.agg [.int .i64 (S.nxp m), .int .i64 (S.rY y (S.starts (c % 8) (S.nxp m))), .int .i64 (S.rE y e (S.starts (c % 8) (S.nxp m)))]), [], []⟩ : K.CRes).ch ++ (⟨.ret (.agg [.int .i64 (S.nxp m), .int .i64 (S.rY y (S.starts (c % 8) (S.nxp m))), .int .i64 (S.rE y e (S.starts (c % 8) (S.nxp m)))]), [], []⟩ : K.CRes).new)) := by
  refine K.con_of_run good (A := envL [(85, rStartE)]) (envL_ok ?_) K.openE_ok (k := 30) (cast (rTick_run m y e c).symm ?_)
  · intro p hp; simp only [List.mem_cons, List.not_mem_nil, or_false] at hp; rcases hp with rfl <;> first | exact rStart_ok
  · unfold S.okR at h0
    simp only [S.an_iff, S.inR_iff, notB_true, ltI_false] at h0
    obtain ⟨⟨hm0, hm1⟩, ⟨hy0, hy1⟩, ⟨he0, he1⟩, hc0⟩ := h0
    have w1 : wrapK IntKind.i64 (m + 1) = m + 1 := by rw [wrapK_i64]; omega
    have w2 : wrapK IntKind.i64 (y + 1) = y + 1 := by rw [wrapK_i64]; omega
    have w3 : wrapK IntKind.i64 (e + 1) = e + 1 := by rw [wrapK_i64]; omega
    have w4 : (m + 1).tmod 160 = S.nxp m := by rw [Int.tmod_eq_emod_of_nonneg (by omega), S.nxp_eq hm0 hm1]
    have ec : notB (ltI c 0) = true := notB_true.2 (ltI_false.2 hc0)
    simp only [w1, w2, w3, w4, ec, bc_true, true_and, and_true]
    generalize S.starts (c % 8) (S.nxp m) = b
    have oy : S.old y = if y < 254 then y + 1 else 255 := by unfold S.old; by_cases h : y < 255; rw [ltI_true.2 h, bc_true]; split <;> omega; rw [ltI_false.2 (by omega), bc_false]; split <;> omega
    have oe : S.old e = if e < 254 then e + 1 else 255 := by unfold S.old; by_cases h : e < 255; rw [ltI_true.2 h, bc_true]; split <;> omega; rw [ltI_false.2 (by omega), bc_false]; split <;> omega
    have z1 : ltI 0 8 = true := rfl
    have z2 : ltI 255 8 = false := rfl
    unfold S.rE S.rY
    rw [oy, oe]
    by_cases h1 : y < 254
    · have e1 := ltI_true.2 h1
      by_cases h2 : e < 254
      · have e2 := ltI_true.2 h2
        rw [if_pos h1, if_pos h2, e1, e2]
        cases b <;> cases h3 : ltI (y + 1) 8 <;> simp [notB, h3, z1, z2]
      · have e2 := ltI_false.2 (show 254 ≤ e by omega)
        rw [if_pos h1, if_neg h2, e1, e2]
        cases b <;> cases h3 : ltI (y + 1) 8 <;> simp [notB, h3, z1, z2]
    · have e1 := ltI_false.2 (show 254 ≤ y by omega)
      by_cases h2 : e < 254
      · have e2 := ltI_true.2 h2
        rw [if_neg h1, if_pos h2, e1, e2]
        cases b <;> simp [notB, z1, z2]
      · have e2 := ltI_false.2 (show 254 ≤ e by omega)
        rw [if_neg h1, if_neg h2, e1, e2]
        cases b <;> simp [notB, z1, z2]
theorem rTick_ok : rTickE.ok Try.prog 67 := by
  intro xs os b r h h3
  unfold rTickE at h
  simp only at h
  split at h
  · injection h with h; injection h with h1 h2; subst h1; subst h2
    exact rTick_con _ _ _ _ h3
  · cases h
theorem rDot_run (m y e q : Int) : K.bodyF (envL []) (K.runF (envL []) 30) 68 [.agg [.int .i64 m, .int .i64 y, .int .i64 e], .int .i64 q] (Heap.of []) Hint.auto (K.endC K.openE 0 ⟨.ret (.int .i64 (S.dot y e q)), [], []⟩) =
    (bc (ltI q (0 : Int)) (bc (notB (ltI y (0 : Int))) (S.dot y e q = wrapK IntKind.i64 (y - (0 : Int)) ∧ True) (bc (notB (ltI e (0 : Int))) (S.dot y e q = wrapK IntKind.i64 (e - (0 : Int)) ∧ True) (S.dot y e q = (-1 : Int) ∧ True))) (bc (ltI (7 : Int) q) (bc (notB (ltI y (7 : Int))) (S.dot y e q = wrapK IntKind.i64 (y - (7 : Int)) ∧ True) (bc (notB (ltI e (7 : Int))) (S.dot y e q = wrapK IntKind.i64 (e - (7 : Int)) ∧ True) (S.dot y e q = (-1 : Int) ∧ True))) (bc (notB (ltI y q)) (S.dot y e q = wrapK IntKind.i64 (y - q) ∧ True) (bc (notB (ltI e q)) (S.dot y e q = wrapK IntKind.i64 (e - q) ∧ True) (S.dot y e q = (-1 : Int) ∧ True))))) := by kernel_rfl
theorem rDot_con (m y e q : Int) (h0 : S.okR m y e 0 = true) : HT Try.prog 68 [.agg [.int .i64 m, .int .i64 y, .int .i64 e], .int .i64 q] (Heap.of []) (⟨.ret (.int .i64 (S.dot y e q)), [], []⟩ : K.CRes).e (Heap.of (K.chg [] (⟨.ret (.int .i64 (S.dot y e q)), [], []⟩ : K.CRes).ch ++ (⟨.ret (.int .i64 (S.dot y e q)), [], []⟩ : K.CRes).new)) := by
  refine K.con_of_run good (A := envL []) (envL_ok ?_) K.openE_ok (k := 30) (cast (rDot_run m y e q).symm ?_)
  · intro p hp; cases hp
  · unfold S.okR at h0
    simp only [S.an_iff, S.inR_iff] at h0
    obtain ⟨⟨hm0, hm1⟩, ⟨hy0, hy1⟩, ⟨he0, he1⟩, _⟩ := h0
    have w : ∀ x k : Int, 0 ≤ x → x < 256 → 0 ≤ k → k ≤ 7 → wrapK IntKind.i64 (x - k) = x - k := fun x k a b c d => by rw [wrapK_i64]; omega
    unfold S.dot S.lead7
    rw [w y 0 hy0 hy1 (by omega) (by omega), w e 0 he0 he1 (by omega) (by omega), w y 7 hy0 hy1 (by omega) (by omega), w e 7 he0 he1 (by omega) (by omega)]
    cases h1 : ltI q 0
    · cases h2 : ltI 7 q
      · have h1 := ltI_false.1 h1
        have h2 := ltI_false.1 h2
        rw [w y q hy0 hy1 h1 h2, w e q he0 he1 h1 h2]
        simp only [bc_false]
        cases ltI y q <;> cases ltI e q <;> exact ⟨rfl, trivial⟩
      · simp only [bc_false, bc_true]
        cases ltI y 7 <;> cases ltI e 7 <;> exact ⟨rfl, trivial⟩
    · simp only [bc_true]
      cases ltI y 0 <;> cases ltI e 0 <;> exact ⟨rfl, trivial⟩
theorem rDot_ok : rDotE.ok Try.prog 68 := by
  intro xs os b r h h3
  unfold rDotE at h
  simp only at h
  split at h
  · injection h with h; injection h with h1 h2; subst h1; subst h2
    exact rDot_con _ _ _ _ h3
  · cases h
end Go.Proofs.Ytmnpnomllcghmaa.Ev
