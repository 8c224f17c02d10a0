/- Contracts, proved: Lsa. -/
import Derived.Test.YtmnpnomllcghmaaLsaD
import Derived.Test.YtmnpnomllcghmaaSprP
namespace Go.Proofs.Ytmnpnomllcghmaa.Ev
open Go
set_option linter.unusedVariables false
set_option linter.unusedSimpArgs false
set_option maxRecDepth 100000

theorem awk16_run : K.bodyF (envL []) (K.runF (envL []) 30) 57 [] (Heap.of []) .auto (K.endC K.shutE 0 ⟨.ret (.bool true), [], []⟩) = True := by kernel_rfl
theorem awk16_con : HT Try.prog 57 [] (Heap.of []) (⟨.ret (.bool true), [], []⟩ : K.CRes).e (Heap.of (K.chg [] (⟨.ret (.bool true), [], []⟩ : K.CRes).ch ++ (⟨.ret (.bool true), [], []⟩ : K.CRes).new)) := by
  refine K.con_of_eq (A := envL []) (E := K.shutE) (k := 30) (g := 57) (xs := []) (os := []) (r := ⟨.ret (.bool true), [], []⟩) (h := .auto) good (envL_ok ?_) K.shutE_ok (awk16_run)
  intro p hp; cases hp
theorem awk16_ok : awk16E.ok Try.prog 57 := by
  intro xs os b r h h3
  unfold awk16E at h
  simp only at h
  split at h
  · injection h with h; injection h with h1 h2; subst h1; subst h2
    exact awk16_con
  · cases h
end Go.Proofs.Ytmnpnomllcghmaa.Ev
