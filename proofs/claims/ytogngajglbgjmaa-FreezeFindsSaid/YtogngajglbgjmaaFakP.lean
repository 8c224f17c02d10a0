/- Contracts, proved: Fak. -/
import Derived.Test.YtogngajglbgjmaaFakD
import Derived.Test.YtogngajglbgjmaaBasP
namespace Go.Proofs.Ytogngajglbgjmaa.Ev
open Go
set_option linter.unusedVariables false
set_option linter.unusedSimpArgs false
set_option maxRecDepth 100000
set_option maxHeartbeats 1000000

theorem awk25_run : K.bodyF (envL []) (K.runF (envL []) 30) 9 [] (Heap.of []) .auto (K.endC K.shutE 0 ⟨.ret (.bool true), [], []⟩) = True := by kernel_rfl
theorem awk25_con : HT Try.prog 9 [] (Heap.of []) (⟨.ret (.bool true), [], []⟩ : K.CRes).e (Heap.of (K.chg [] (⟨.ret (.bool true), [], []⟩ : K.CRes).ch ++ (⟨.ret (.bool true), [], []⟩ : K.CRes).new)) := by
  refine K.con_of_eq (A := envL []) (E := K.shutE) (k := 30) (g := 9) (xs := []) (os := []) (r := ⟨.ret (.bool true), [], []⟩) (h := .auto) good (envL_ok ?_) K.shutE_ok (awk25_run)
  intro p hp; cases hp
theorem awk25_ok : awk25E.ok Try.prog 9 := by
  intro xs os b r h h3
  unfold awk25E at h
  simp only at h
  split at h
  · injection h with h; injection h with h1 h2; subst h1; subst h2
    exact awk25_con
  · cases h
end Go.Proofs.Ytogngajglbgjmaa.Ev
