/- A divider's round, whatever its number. -/
import Derived.Test.YtmnpnomllcghmaaCdr
namespace Go.Proofs.Ytmnpnomllcghmaa.Ev
open Go Go.IntWalk
set_option linter.unusedVariables false
set_option linter.unusedSimpArgs false

theorem tmod_next {a n : Int} (h1 : 1 ≤ n) (h3 : 0 ≤ a) (h4 : a < n) : (a + 1).tmod n = if a + 1 < n then a + 1 else 0 := by
  rw [Int.tmod_eq_emod_of_nonneg (by omega)]
  split
  · exact Int.emod_eq_of_lt (by omega) (by omega)
  · have : a + 1 = n := by omega
    rw [this]; exact Int.emod_self
theorem tdiv_two {n : Int} (h : 0 ≤ n) : n.tdiv 2 = n / 2 := Int.tdiv_eq_ediv_of_nonneg h

set_option maxRecDepth 10000 in
theorem cd_step {n s k a i r : Int} (h1 : 1 ≤ n) (h2 : n ≤ 65536) (h3 : 0 ≤ a) (h4 : a < n) (h5 : 0 ≤ i) (h6 : i < k) (h7 : k ≤ 255) (hr : r = if a + 1 < n then a + 1 else 0) : (cdC n s k a i r).holds Try.prog (bodyOf Try.f6) 6 116 := by
  have w1 := i64_in (a + 1) (by omega)
  have w2 := i64_in (i + 1) (by omega)
  have w3 := i64_in k (by omega)
  have w4 : IntKind.i64.wrap (n.tdiv 2) = n / 2 := by rw [tdiv_two (by omega)]; exact i64_in _ (by omega)
  have p : ∀ x y, PureOp Try.prog (.binOp .rem 3 x y 3) [.int .i64 (IntKind.i64.wrap (a + 1)), .int .i64 n] (.int .i64 r) := fun x y => pure_rem (by omega) (by rw [w1, tmod_next h1 h3 h4, hr])
  have p1 := p (.tmp 11) (.tmp 12)
  have p2 := p (.tmp 7) (.tmp 8)
  rw [w1] at p1 p2
  by_cases c1 : a + 1 < n
  · rw [if_pos c1] at hr
    by_cases c2 : a = 0
    · refine lcon_of good (pol := pol02) (lf := 1000) (k := 20) (l := [0, 1]) (cast (cd3_run n s k a i r).symm ?_)
      simp only [w1, w2, w3, w4, p1, p2]
      simp
      omega
    · by_cases c3 : a = n / 2
      · refine lcon_of good (pol := pol02) (lf := 1000) (k := 20) (l := [0, 1]) (cast (cd4_run n s k a i r).symm ?_)
        simp only [w1, w2, w3, w4, p1, p2]
        simp
        omega
      · refine lcon_of good (pol := pol02) (lf := 1000) (k := 20) (l := [0, 1]) (cast (cd1_run n s k a i r).symm ?_)
        simp only [w1, w2, w3, w4, p1, p2]
        simp
        omega
  · rw [if_neg c1] at hr
    by_cases c2 : a = 0
    · refine lcon_of good (pol := pol02) (lf := 1000) (k := 20) (l := [0, 1]) (cast (cd5_run n s k a i r).symm ?_)
      simp only [w1, w2, w3, w4, p1, p2]
      simp
      omega
    · by_cases c3 : a = n / 2
      · refine lcon_of good (pol := pol02) (lf := 1000) (k := 20) (l := [0, 1]) (cast (cd6_run n s k a i r).symm ?_)
        simp only [w1, w2, w3, w4, p1, p2]
        simp
        omega
      · refine lcon_of good (pol := pol02) (lf := 1000) (k := 20) (l := [0, 1]) (cast (cd2_run n s k a i r).symm ?_)
        simp only [w1, w2, w3, w4, p1, p2]
        simp
        omega
end Go.Proofs.Ytmnpnomllcghmaa.Ev
