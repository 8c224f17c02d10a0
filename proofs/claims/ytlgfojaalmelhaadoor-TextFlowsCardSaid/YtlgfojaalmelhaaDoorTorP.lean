/- Contracts, proved: Tor. -/
import Derived.Test.YtlgfojaalmelhaaDoorTorD
import Derived.Test.YtlgfojaalmelhaaDoorTofP
import Derived.Test.YtlgfojaalmelhaaDoorTwdP
namespace Go.Proofs.YtlgfojaalmelhaaDoor.Ev
open Go
set_option linter.unusedVariables false
set_option linter.unusedSimpArgs false
set_option maxRecDepth 100000
set_option maxHeartbeats 1000000

theorem ofr_runs : K.conjN 256 (fun j => K.bodyF (envL [(37, wdE)]) (K.runF (envL [(37, wdE)]) 30) 25 [.int .i64 (Int.ofNat j)] (Heap.of []) .auto (K.endC K.shutE 0 ⟨.ret (S.instR (Int.ofNat j)), [], []⟩)) = K.trueN 256 := by kernel_rfl
theorem ofr_k (o : Int) (h : S.isB o = true) : HT Tryd.prog 25 [.int .i64 o] (Heap.of []) (.ret (S.instR o)) (Heap.of []) := by
 obtain ⟨i, hi, rfl⟩ := S.isB_fin h
 refine K.con_of_run good (envL_ok ?_) K.shutE_ok (K.conj_of ofr_runs i hi)
 intro p hp
 simp only [List.mem_cons, List.not_mem_nil, or_false] at hp
 subst hp
 exact wd_ok
theorem cor_ok : corE.ok Tryd.prog 25 := by
 intro xs os b r h h3
 unfold corE at h
 simp only at h
 split at h
 ·injection h with h; injection h with h1 h2; subst h1; subst h2
  exact ofr_k _ h3
 ·cases h
end Go.Proofs.YtlgfojaalmelhaaDoor.Ev
