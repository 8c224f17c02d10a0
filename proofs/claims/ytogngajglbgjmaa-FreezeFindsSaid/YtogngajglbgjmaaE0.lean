/- The functions' numbers of kept slots. -/
import Derived.Test.YtogngajglbgjmaaLo
namespace Go.Proofs.Ytogngajglbgjmaa.Ev
open Go
def nvL : List Nat := [0, 0, 0, 7, 7, 13, 13, 15, 8, 5, 50, 13, 6, 5, 10, 4, 7, 3, 3, 9, 12, 0, 0, 0, 0, 0, 0, 0, 0, 0, 0, 0, 0, 0, 0, 0, 0]
noncomputable def nvT : Tr (Option Nat) := Tr.ofList 12 nvL
noncomputable def nvF (g : FuncId) : Nat := @Option.rec Nat (fun _ => Nat) 0 (fun x => x) (nvT.get none g)
noncomputable def noB : FuncId → Nat → Option K.BEnt := fun _ _ => none
/-- The words of a run with these contracts. -/
noncomputable def envL (l : List (FuncId × K.CEnt)) : K.Env := ⟨polL l, noB, nvF, fun _ _ => true⟩
noncomputable def envB (l : List (FuncId × K.CEnt)) (b : FuncId → Nat → Option K.BEnt) : K.Env := ⟨polL l, b, nvF, fun _ _ => true⟩
/-- The same, and the slots that a loop over a function keeps. -/
noncomputable def envK (l : List (FuncId × K.CEnt)) (b : FuncId → Nat → Option K.BEnt) (kp : FuncId → Nat → Bool) : K.Env := ⟨polL l, b, nvF, kp⟩
theorem envK_ok {l : List (FuncId × K.CEnt)} {b : FuncId → Nat → Option K.BEnt} {kp : FuncId → Nat → Bool} (h : ∀ p, p ∈ l → p.2.ok Try.prog p.1) : (envK l b kp).ok := polL_ok h
theorem envL_ok {l : List (FuncId × K.CEnt)} (h : ∀ p, p ∈ l → p.2.ok Try.prog p.1) : (envL l).ok := polL_ok h
theorem envB_ok {l : List (FuncId × K.CEnt)} {b : FuncId → Nat → Option K.BEnt} (h : ∀ p, p ∈ l → p.2.ok Try.prog p.1) : (envB l b).ok := polL_ok h
end Go.Proofs.Ytogngajglbgjmaa.Ev
