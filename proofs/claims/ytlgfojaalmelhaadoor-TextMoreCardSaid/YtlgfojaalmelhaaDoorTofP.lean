/- Contracts, proved: Tof. -/
import Derived.Test.YtlgfojaalmelhaaDoorTofD
import Derived.Test.YtlgfojaalmelhaaDoorTflP
import Derived.Test.YtlgfojaalmelhaaDoorTknP
namespace Go.Proofs.YtlgfojaalmelhaaDoor.Ev
open Go
set_option linter.unusedVariables false
set_option linter.unusedSimpArgs false
set_option maxRecDepth 100000
set_option maxHeartbeats 1000000

namespace S
theorem isB_iff {o : Int} : isB o = true ↔ 0 ≤ o ∧ o < 256 := by
 unfold isB
 cases h1 : ltI o 0 with
 | true => rw [bc_true]; have := ltI_true.1 h1; constructor <;> intro h <;> first | (cases h; done) | omega
 | false => rw [bc_false]; have := ltI_false.1 h1; rw [ltI_true]; omega
theorem isB_fin {o : Int} (h : isB o = true) : ∃ i : Nat, i < 256 ∧ o = Int.ofNat i := by
 obtain ⟨h1, h2⟩ := isB_iff.1 h
 exact ⟨o.toNat, by omega, by rw [Int.ofNat_eq_natCast, Int.toNat_of_nonneg h1]⟩
end S
theorem of_runs (m : Int) : K.conjN 256 (fun j => K.bodyF (envL [(47, cstE), (31, ixbE), (34, kndE)]) (K.runF (envL [(47, cstE), (31, ixbE), (34, kndE)]) 30) 21 [.int .u8 (Int.ofNat j)] (Heap.of [.glob 0 S.tabV, .glob 1 [.int .i64 m]]) .auto (K.endC K.shutE 2 ⟨.ret (S.inst (Int.ofNat j)), [], []⟩)) = K.trueN 256 := by kernel_rfl
theorem of_k (o : Int) (g : Nat) (cs : List LV) (g1 : Nat) (m : Int) (h : bc (S.okG g cs g1) (S.isB o) false = true) : HT Tryd.prog 21 [.int .u8 o] (Heap.of [.glob g cs, .glob g1 [.int .i64 m]]) (.ret (S.inst o)) (Heap.of [.glob g cs, .glob g1 [.int .i64 m]]) := by
 cases h1 : S.okG g cs g1 with
 | false => rw [h1] at h; cases h
 | true =>
  rw [h1, bc_true] at h
  obtain ⟨e1, e2, e3⟩ := S.okG_ok h1
  subst e1; subst e2; subst e3
  obtain ⟨i, hi, rfl⟩ := S.isB_fin h
  refine K.con_of_run good (envL_ok ?_) K.shutE_ok (K.conj_of (of_runs m) i hi)
  intro p hp
  simp only [List.mem_cons, List.not_mem_nil, or_false] at hp
  rcases hp with rfl | rfl | rfl
  ·exact cst_ok
  ·exact ixb_ok
  ·exact knd_ok
theorem cof_ok : cofE.ok Tryd.prog 21 := by
 intro xs os b r h h3
 unfold cofE at h
 simp only at h
 split at h
 ·injection h with h; injection h with h1 h2; subst h1; subst h2
  exact of_k _ _ _ _ _ h3
 ·cases h
end Go.Proofs.YtlgfojaalmelhaaDoor.Ev
