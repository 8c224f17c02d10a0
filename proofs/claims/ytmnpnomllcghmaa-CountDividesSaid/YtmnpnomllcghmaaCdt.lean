/- The law CountDivides: its loop, and what its ways are. -/
import Derived.Test.YtmnpnomllcghmaaCds
namespace Go.Proofs.Ytmnpnomllcghmaa.Ev
open Go
def cdLoop (n s k a e : Int) : LCon := ⟨cdL a 0, cdO n s k a, .exit 0, cdL e k, cdO n s k e⟩
def cdK (n s k : Int) : Con := ⟨6, [.agg [.int .i64 n, .int .i64 s, .int .u8 k]], [], .ret (.bool true), []⟩
theorem cd_end_run (n s k a i : Int) : ProvesC Try.prog pol02 1000 20 (bodyOf Try.f6) 6 116 (cdE n s k a i) [.auto 5, .take false] [0, 1] =
    ((decide (i < IntKind.i64.wrap k) = false ∧ True) ∧ 0 = 0 ∧ ((0 = 0 ∧ 0 = 0) ∧ false = false ∧ (1 = 1 ∧ 0 = 0) ∧ (IntKind.i64 = IntKind.i64 ∧ a = a) ∧ (IntKind.i64 = IntKind.i64 ∧ i = i) ∧ True) ∧
      (30 = 30 ∧ Own.exact = Own.exact ∧ (IntKind.i64 = IntKind.i64 ∧ n = n) ∧ (IntKind.i64 = IntKind.i64 ∧ s = s) ∧ (IntKind.u8 = IntKind.u8 ∧ k = k) ∧ True) ∧ (89 = 89 ∧ Own.exact = Own.exact ∧ (IntKind.i64 = IntKind.i64 ∧ a = a) ∧ (IntKind.i64 = IntKind.i64 ∧ n = n) ∧ True) ∧ True) := by kernel_rfl
theorem cd_end (n s k a : Int) (h : 0 ≤ k) (h2 : k ≤ 255) : (cdE n s k a k).holds Try.prog (bodyOf Try.f6) 6 116 := by
  refine lcon_of good (pol := pol02) (lf := 1000) (k := 20) (l := [0, 1]) (cast (cd_end_run n s k a k).symm ?_)
  rw [Go.IntWalk.i64_in k (by omega)]
  simp
def cdFam (n s k a : Int) (j : Nat) : LCon := cdC n s k ((a + j) % n) j ((a + (j + 1 : Nat)) % n)
theorem emod_next {n x : Int} (h : 1 ≤ n) : (x + 1) % n = if x % n + 1 < n then x % n + 1 else 0 := by
  have h1 := Int.emod_nonneg x (show n ≠ 0 by omega)
  have h2 := Int.emod_lt_of_pos x (show 0 < n by omega)
  rw [← Int.emod_add_emod]
  split
  · exact Int.emod_eq_of_lt (by omega) (by omega)
  · have : x % n + 1 = n := by omega
    rw [this]; exact Int.emod_self
theorem cd_loop {n s k a : Int} (h1 : 1 ≤ n) (h2 : n ≤ 65536) (h3 : 0 ≤ a) (h4 : a < n) (h5 : 0 ≤ k) (h6 : k ≤ 255) : (cdLoop n s k a ((a + k) % n)).holds Try.prog (.loop (bodyOf Try.f6)) 6 116 := by
  have hk : ((k.toNat : Nat) : Int) = k := by omega
  have := loop_of (P := Try.prog) (c := bodyOf Try.f6) (g := 6) (m := 116) (cdFam n s k a) k.toNat (cdE n s k ((a + k) % n) k) (fun j hj => ?_) (fun _ _ => rfl) (fun _ _ => ⟨rfl, rfl⟩) (cd_end n s k _ h5 h6) ⟨?_, ?_⟩ (by simp [cdE])
  · have e : LCon.holds Try.prog (.loop (bodyOf Try.f6)) 6 116 ⟨(cdFam n s k a 0).L, (cdFam n s k a 0).os, (cdE n s k ((a + k) % n) k).x, (cdE n s k ((a + k) % n) k).L', (cdE n s k ((a + k) % n) k).os'⟩ = LCon.holds Try.prog (.loop (bodyOf Try.f6)) 6 116 (cdLoop n s k a ((a + k) % n)) := by
      have e1 : (a + ((0 : Nat) : Int)) % n = a := by simp; exact Int.emod_eq_of_lt h3 h4
      simp only [cdFam, cdC, cdE, cdLoop, e1]
      rfl
    rw [← e]; exact this
  · have hj' : (j : Int) < k := by omega
    show (cdC n s k ((a + j) % n) j ((a + (j + 1 : Nat)) % n)).holds _ _ _ _
    have h7 := Int.emod_nonneg (a + j) (show n ≠ 0 by omega)
    have h8 := Int.emod_lt_of_pos (a + j) (show 0 < n by omega)
    refine cd_step h1 h2 h7 h8 (by omega) hj' h6 ?_
    rw [show a + ((j + 1 : Nat) : Int) = (a + j) + 1 by omega]
    exact emod_next h1
  · show cdL ((a + k) % n) k = cdL ((a + (k.toNat : Nat)) % n) (k.toNat : Nat)
    rw [hk]
  · show cdO n s k ((a + k) % n) = cdO n s k ((a + (k.toNat : Nat)) % n)
    rw [hk]
end Go.Proofs.Ytmnpnomllcghmaa.Ev
