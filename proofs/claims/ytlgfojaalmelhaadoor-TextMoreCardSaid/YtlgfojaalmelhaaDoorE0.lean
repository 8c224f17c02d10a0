/- The functions' numbers of kept slots. -/
import Derived.Test.YtlgfojaalmelhaaDoorLo
namespace Go.Proofs.YtlgfojaalmelhaaDoor.Ev
open Go
def nvL : List Nat := [0, 0, 0, 8, 7, 5, 11, 10, 10, 13, 16, 26, 1, 20, 8, 9, 5, 6, 11, 12, 10, 8, 26, 16, 1, 7, 66, 5, 4, 8, 1, 5, 1, 6, 20, 28, 14, 9, 4, 7, 6, 2, 6, 3, 8, 6, 5, 5, 13, 6, 33, 52, 1, 5, 13, 0, 5, 50, 8, 6, 0, 0, 1, 14, 8, 4, 0, 3, 11, 21, 17, 9, 0, 0, 0, 0, 0, 0, 0, 0, 0, 0, 0, 0, 0, 0, 0, 0, 0, 0, 0, 0, 0, 0, 0, 0, 0]
noncomputable def nvT : Tr (Option Nat) := Tr.ofList 12 nvL
noncomputable def nvF (g : FuncId) : Nat := @Option.rec Nat (fun _ => Nat) 0 (fun x => x) (nvT.get none g)
noncomputable def noB : FuncId → Nat → Option K.BEnt := fun _ _ => none
noncomputable def envL (l : List (FuncId × K.CEnt)) : K.Env := ⟨polL l, noB, nvF, fun _ _ => true⟩
noncomputable def envB (l : List (FuncId × K.CEnt)) (b : FuncId → Nat → Option K.BEnt) : K.Env := ⟨polL l, b, nvF, fun _ _ => true⟩
noncomputable def envK (l : List (FuncId × K.CEnt)) (b : FuncId → Nat → Option K.BEnt) (kp : FuncId → Nat → Bool) : K.Env := ⟨polL l, b, nvF, kp⟩
theorem envL_ok {l : List (FuncId × K.CEnt)} (h : ∀ p, p ∈ l → p.2.ok Tryd.prog p.1) : (envL l).ok := polL_ok h
theorem envB_ok {l : List (FuncId × K.CEnt)} {b : FuncId → Nat → Option K.BEnt} (h : ∀ p, p ∈ l → p.2.ok Tryd.prog p.1) : (envB l b).ok := polL_ok h
end Go.Proofs.YtlgfojaalmelhaaDoor.Ev
