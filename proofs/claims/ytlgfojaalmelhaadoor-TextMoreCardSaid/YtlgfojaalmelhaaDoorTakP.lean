/- Contracts, proved: Tak. -/
import Derived.Test.YtlgfojaalmelhaaDoorTakD
import Derived.Test.YtlgfojaalmelhaaDoorTshP
namespace Go.Proofs.YtlgfojaalmelhaaDoor.Ev
open Go
set_option linter.unusedVariables false
set_option linter.unusedSimpArgs false
set_option maxRecDepth 100000
set_option maxHeartbeats 1000000

theorem awk_run (m : Int) : K.bodyF (envL [(21, cofE), (13, hexE), (20, lnE), (10, shE)]) (K.runF (envL [(21, cofE), (13, hexE), (20, lnE), (10, shE)]) 30) 12 [] (Heap.of [.glob 0 S.tabV, .glob 1 [.int .i64 m]]) .auto (K.endC K.shutE 2 ⟨.ret (.bool true), [], []⟩) = True := by kernel_rfl
theorem awk_k (g : Nat) (cs : List LV) (g1 : Nat) (m : Int) (h : S.okG g cs g1 = true) : HT Tryd.prog 12 [] (Heap.of [.glob g cs, .glob g1 [.int .i64 m]]) (.ret (.bool true)) (Heap.of [.glob g cs, .glob g1 [.int .i64 m]]) := by
 obtain ⟨e1, e2, e3⟩ := S.okG_ok h
 subst e1; subst e2; subst e3
 refine K.con_of_eq (A := (envL [(21, cofE), (13, hexE), (20, lnE), (10, shE)])) (E := K.shutE) (k := 30) (g := 12) (xs := []) (os := [.glob 0 S.tabV, .glob 1 [.int .i64 m]]) (r := ⟨.ret (.bool true), [], []⟩) (h := .auto) good (envL_ok ?_) K.shutE_ok (awk_run m)
 intro p hp; simp only [List.mem_cons, List.not_mem_nil, or_false] at hp; rcases hp with rfl | rfl | rfl | rfl <;> first | exact cof_ok | exact hex_ok | exact ln_ok | exact sh_ok
theorem awk13_ok : awk13E.ok Tryd.prog 12 := by
 intro xs os b r h h3
 unfold awk13E at h
 simp only at h
 split at h
 ·injection h with h; injection h with h1 h2; subst h1; subst h2
  exact awk_k _ _ _ _ h3
 ·cases h
end Go.Proofs.YtlgfojaalmelhaaDoor.Ev
