/- The divider's rounds: what the law CountRounds runs, in parts. -/
import Derived.Test.YtmnpnomllcghmaaCr
import Derived.IntWalk
namespace Go.Proofs.Ytmnpnomllcghmaa.Ev
open Go Go.IntWalk

abbrev I64 : Prop := IntKind.i64 = IntKind.i64
theorem awake02_run : Proves Try.prog noPol 1000 20 (awakeC 18) [] [] = (True ∧ true = true ∧ True) := by kernel_rfl
theorem awake02 : Con.holds Try.prog (awakeC 18) := con_of good (pol := noPol) (lf := 1000) (k := 20) (ds := []) (l := []) (by rw [awake02_run]; exact ⟨trivial, rfl, trivial⟩)

theorem cr_on_run (n a t j d : Int) : ProvesC Try.prog pol02 1000 20 (bodyOf Try.f3) 3 48 (crC n a t j d t (j + 1) (d + 1)) [.auto 3, .take true, .auto 23, .take false] [0] =
    ((decide (IntKind.i64.wrap (d + 1) ≥ n) = false ∧ decide (j < n) = true ∧ True) ∧ True ∧ ((I64 ∧ n = n) ∧ (I64 ∧ a = a) ∧ false = false ∧ (0 = 0 ∧ 0 = 0) ∧ (I64 ∧ t = t) ∧ (I64 ∧ j + 1 = IntKind.i64.wrap (j + 1)) ∧ True) ∧
      (89 = 89 ∧ Own.exact = Own.exact ∧ (I64 ∧ d + 1 = IntKind.i64.wrap (d + 1)) ∧ (I64 ∧ n = n) ∧ True) ∧ True) := by kernel_rfl
theorem cr_round_run (n a t j d : Int) : ProvesC Try.prog pol02 1000 20 (bodyOf Try.f3) 3 48 (crC n a t j d (t + 1) (j + 1) 0) [.auto 3, .take true, .auto 23, .take true] [0] =
    ((decide (IntKind.i64.wrap (d + 1) ≥ n) = true ∧ decide (j < n) = true ∧ True) ∧ True ∧ ((I64 ∧ n = n) ∧ (I64 ∧ a = a) ∧ false = false ∧ (0 = 0 ∧ 0 = 0) ∧ (I64 ∧ t + 1 = IntKind.i64.wrap (t + 1)) ∧ (I64 ∧ j + 1 = IntKind.i64.wrap (j + 1)) ∧ True) ∧
      (89 = 89 ∧ Own.exact = Own.exact ∧ (I64 ∧ (0 : Int) = 0) ∧ (I64 ∧ n = n) ∧ True) ∧ True) := by kernel_rfl
theorem cr_end_run (n a t j d : Int) : ProvesC Try.prog pol02 1000 20 (bodyOf Try.f3) 3 48 (crE n a t j d) [.auto 3, .take false] [0] =
    ((decide (j < n) = false ∧ True) ∧ 0 = 0 ∧ ((I64 ∧ n = n) ∧ (I64 ∧ a = a) ∧ false = false ∧ (0 = 0 ∧ 0 = 0) ∧ (I64 ∧ t = t) ∧ (I64 ∧ j = j) ∧ True) ∧
      (89 = 89 ∧ Own.exact = Own.exact ∧ (I64 ∧ d = d) ∧ (I64 ∧ n = n) ∧ True) ∧ True) := by kernel_rfl

theorem cr_on {n a t j d : Int} (h1 : 1 ≤ n) (h2 : n ≤ 2000) (h3 : 0 ≤ d) (h4 : d + 1 < n) (h5 : 0 ≤ j) (h6 : j < n) : (crC n a t j d t (j + 1) (d + 1)).holds Try.prog (bodyOf Try.f3) 3 48 := by
  refine lcon_of good (pol := pol02) (lf := 1000) (k := 20) (ds := [.auto 3, .take true, .auto 23, .take false]) (l := [0]) ?_
  rw [cr_on_run, i64_in (d + 1) (by omega), i64_in (j + 1) (by omega)]
  simp
  omega
theorem cr_round {n a t j d : Int} (h1 : 1 ≤ n) (h2 : n ≤ 2000) (_h3 : 0 ≤ d) (h4 : d + 1 = n) (h5 : 0 ≤ j) (h6 : j < n) (h7 : 0 ≤ t) (h8 : t ≤ 2000) : (crC n a t j d (t + 1) (j + 1) 0).holds Try.prog (bodyOf Try.f3) 3 48 := by
  refine lcon_of good (pol := pol02) (lf := 1000) (k := 20) (ds := [.auto 3, .take true, .auto 23, .take true]) (l := [0]) ?_
  rw [cr_round_run, i64_in (d + 1) (by omega), i64_in (j + 1) (by omega), i64_in (t + 1) (by omega)]
  simp
  omega
theorem cr_end (n a t j d : Int) (h : j = n) : (crE n a t j d).holds Try.prog (bodyOf Try.f3) 3 48 := by
  refine lcon_of good (pol := pol02) (lf := 1000) (k := 20) (ds := [.auto 3, .take false]) (l := [0]) ?_
  rw [cr_end_run]
  simp
  omega

/-- The divider behind j ticks, and how often it came round. -/
def crD (n a j : Int) : Int := if a + j < n then a + j else a + j - n
def crT (n a j : Int) : Int := if a + j < n then 0 else 1
def crLoop (n a : Int) : LCon := ⟨crL n a 0 0, crO n a, .exit 0, crL n a 1 n, crO n a⟩
def crFam (n a : Int) (j : Nat) : LCon := crC n a (crT n a j) j (crD n a j) (crT n a (j + 1 : Nat)) (j + 1 : Nat) (crD n a (j + 1 : Nat))

theorem cr_loop {n a : Int} (h1 : 1 ≤ n) (h2 : n ≤ 2000) (h3 : 0 ≤ a) (h4 : a < n) : (crLoop n a).holds Try.prog (.loop (bodyOf Try.f3)) 3 48 := by
  have hn : ((n.toNat : Nat) : Int) = n := by omega
  have := loop_of (P := Try.prog) (c := bodyOf Try.f3) (g := 3) (m := 48) (crFam n a) n.toNat (crE n a 1 n a) (fun j hj => ?_) (fun _ _ => rfl) (fun _ _ => ⟨rfl, rfl⟩) (cr_end n a 1 n a rfl) ⟨?_, ?_⟩ (by simp [crE])
  · have e : LCon.holds Try.prog (.loop (bodyOf Try.f3)) 3 48 ⟨(crFam n a 0).L, (crFam n a 0).os, (crE n a 1 n a).x, (crE n a 1 n a).L', (crE n a 1 n a).os'⟩ = LCon.holds Try.prog (.loop (bodyOf Try.f3)) 3 48 (crLoop n a) := by
      have e1 : crT n a ((0 : Nat) : Int) = 0 := by simp [crT]; omega
      have e2 : crD n a ((0 : Nat) : Int) = a := by simp [crD]; omega
      simp only [crFam, crC, crE, crLoop, e1, e2]
      rfl
    rw [← e]; exact this
  · have hj' : (j : Int) < n := by omega
    show (crC n a (crT n a j) j (crD n a j) (crT n a (j + 1 : Nat)) (j + 1 : Nat) (crD n a (j + 1 : Nat))).holds _ _ _ _
    rw [show ((j + 1 : Nat) : Int) = (j : Int) + 1 by omega]
    by_cases hc : a + j + 1 = n
    · have e1 : crT n a j = 0 := by simp only [crT]; rw [if_pos (by omega)]
      have e2 : crD n a j = a + j := by simp only [crD]; rw [if_pos (by omega)]
      have e3 : crT n a (j + 1) = 0 + 1 := by simp only [crT]; rw [if_neg (by omega)]; rfl
      have e4 : crD n a (j + 1) = 0 := by simp only [crD]; rw [if_neg (by omega)]; omega
      rw [e1, e2, e3, e4]
      exact cr_round h1 h2 (by omega) (by omega) (by omega) hj' (by omega) (by omega)
    · by_cases hc2 : a + j < n
      · have e1 : crT n a j = 0 := by simp only [crT]; rw [if_pos (by omega)]
        have e2 : crD n a j = a + j := by simp only [crD]; rw [if_pos (by omega)]
        have e3 : crT n a (j + 1) = 0 := by simp only [crT]; rw [if_pos (by omega)]
        have e4 : crD n a (j + 1) = a + j + 1 := by simp only [crD]; rw [if_pos (by omega)]; omega
        rw [e1, e2, e3, e4]
        exact cr_on h1 h2 (by omega) (by omega) (by omega) hj'
      · have e1 : crT n a j = 1 := by simp only [crT]; rw [if_neg (by omega)]
        have e2 : crD n a j = a + j - n := by simp only [crD]; rw [if_neg (by omega)]
        have e3 : crT n a (j + 1) = 1 := by simp only [crT]; rw [if_neg (by omega)]
        have e4 : crD n a (j + 1) = a + j - n + 1 := by simp only [crD]; rw [if_neg (by omega)]; omega
        rw [e1, e2, e3, e4]
        exact cr_on h1 h2 (by omega) (by omega) (by omega) hj'
  · show crL n a 1 n = crL n a (crT n a (n.toNat : Nat)) (n.toNat : Nat)
    rw [hn]
    have e1 : crT n a n = 1 := by simp only [crT]; rw [if_neg (by omega)]
    rw [e1]
  · show crO n a = crO n (crD n a (n.toNat : Nat))
    rw [hn]
    have e1 : crD n a n = a := by simp only [crD]; rw [if_neg (by omega)]; omega
    rw [e1]

/-! the law's four ways -/
def crK (n a : Int) : Con := ⟨3, [.int .i64 n, .int .i64 a], [], .ret (.bool true), []⟩
theorem crA_run (n a : Int) : Proves Try.prog pol02 1000 20 (crK n a) [.auto 3, .take true] [] = ((decide (n > 2000) = true ∧ True) ∧ true = true ∧ True) := by kernel_rfl
theorem crB_run (n a : Int) : Proves Try.prog pol02 1000 20 (crK n a) [.auto 3, .take false, .auto 6, .take true, .auto 20, .take true] [] =
    ((Con.holds Try.prog (awakeC 18) ∧ True ∧ True ∧ (true == decide (n < 1)) = true ∧ decide (n < 1) = true ∧ decide (n > 2000) = false ∧ True) ∧ true = true ∧ True) := by kernel_rfl
theorem crC1_run (n a : Int) : Proves Try.prog pol02 1000 20 (crK n a) [.auto 3, .take false, .auto 6, .take false, .auto 4, .take false, .auto 22, .take false, .auto 13, .take true, .auto 11, .take true] [] =
    ((Con.holds Try.prog (awakeC 18) ∧ True ∧ True ∧ (false == decide (n < 1)) = true ∧ decide (a ≥ n) = true ∧ decide (a < 0) = false ∧ decide (n > 65536) = false ∧ decide (n < 1) = false ∧ decide (n > 2000) = false ∧ True) ∧ true = true ∧ True) := by kernel_rfl
theorem crD_run (n a : Int) : Proves Try.prog pol02 1000 20 (crK n a) [.auto 3, .take false, .auto 6, .take false, .auto 4, .take false, .auto 22, .take false, .auto 13, .take false, .auto 12, .loop (crLoop n a), .auto 22, .take true] [] =
    ((Con.holds Try.prog (awakeC 18) ∧ True ∧ True ∧ (a == a) = true ∧ (LCon.holds Try.prog (.loop (bodyOf Try.f3)) 3 48 (crLoop n a) ∧ ((I64 ∧ n = n) ∧ (I64 ∧ a = a) ∧ false = false ∧ (0 = 0 ∧ 0 = 0) ∧ (I64 ∧ (0 : Int) = 0) ∧ (I64 ∧ (0 : Int) = 0) ∧ True) ∧
      ((89 = 89 ∧ Own.exact = Own.exact ∧ (I64 ∧ a = a) ∧ (I64 ∧ n = n) ∧ True) ∧ True) ∧
      decide (a ≥ n) = false ∧ decide (a < 0) = false ∧ decide (n > 65536) = false ∧ decide (n < 1) = false ∧ decide (n > 2000) = false ∧ True)) ∧ true = true ∧ True) := by kernel_rfl
end Go.Proofs.Ytmnpnomllcghmaa.Ev
