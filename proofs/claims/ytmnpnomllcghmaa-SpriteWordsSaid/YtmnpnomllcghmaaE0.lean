/- The functions' numbers of kept slots. -/
import Derived.Test.YtmnpnomllcghmaaLo
namespace Go.Proofs.Ytmnpnomllcghmaa.Ev
open Go
def nvL : List Nat := [0, 0, 0, 8, 9, 10, 9, 14, 4, 12, 84, 3, 8, 32, 32, 4, 3, 5, 7, 4, 3, 3, 5, 3, 4, 3, 5, 6, 3, 3, 5, 1, 5, 3, 5, 3, 4, 4, 4, 3, 1, 3, 1, 3, 3, 1, 4, 5, 4, 3, 3, 3, 3, 3, 6, 4, 5, 6, 1, 5, 2, 15, 3, 1, 67, 3, 3, 5, 5, 4, 3, 4, 6, 5, 7, 5, 3, 4, 13, 12, 7, 2, 3, 1, 3, 9, 5, 10, 3, 3, 6, 5, 11, 5, 5, 3, 3, 9, 5, 0, 0, 0, 0, 0, 0, 0, 0, 0, 0, 0, 0, 0, 0, 0, 0, 0]
noncomputable def nvT : Tr (Option Nat) := Tr.ofList 12 nvL
noncomputable def nvF (g : FuncId) : Nat := @Option.rec Nat (fun _ => Nat) 0 (fun x => x) (nvT.get none g)
noncomputable def noB : FuncId → Nat → Option K.BEnt := fun _ _ => none
/-- The words of a run with these contracts. -/
noncomputable def envL (l : List (FuncId × K.CEnt)) : K.Env := ⟨polL l, noB, nvF⟩
noncomputable def envB (l : List (FuncId × K.CEnt)) (b : FuncId → Nat → Option K.BEnt) : K.Env := ⟨polL l, b, nvF⟩
theorem envL_ok {l : List (FuncId × K.CEnt)} (h : ∀ p, p ∈ l → p.2.ok Try.prog p.1) : (envL l).ok := polL_ok h
theorem envB_ok {l : List (FuncId × K.CEnt)} {b : FuncId → Nat → Option K.BEnt} (h : ∀ p, p ∈ l → p.2.ok Try.prog p.1) : (envB l b).ok := polL_ok h
end Go.Proofs.Ytmnpnomllcghmaa.Ev
