/- The functions' numbers of kept slots. -/
import Derived.Test.YtnpbgnjiihecgaaGreatLo
noncomputable section
namespace Go.Proofs.YtnpbgnjiihecgaaGreat.Ev
open Go
def nvL:List Nat:=[0,0,0,13,10,12,12,12,4,16,5,7,5,98,86,20,8,4,27,5,31,3,6,11,117,13,4,17,57,3,8,11,4,3,44,4,4,1,3,3,1,3,3,34,6,7,3,8,6,1,3,1,10,5,12,8,8,7,3,4,1,2,1,1,1,1,1,14,5,8,7,174,3,6,3,3,4,3,3,2,5,6,5,67,11,82,6,3,3,5,6,7,3,5,7,6,3,3,3,4,2,2,1,5,2,2,2,5,1,1,3,7,5,3,3,3,10,3,3,3,5,3,5,7,2,5,5,8,9,4,13,1,5,9,5,6,3,3,3,2,1,5,5,4,3,3,10,5,3,13,7,6,3,3,3,6,5,6,5,10,1,3,5,5,5,15,5,4,3,3,3,13,3,7,4,3,5,7,5,5,8,5,8,1,6,4,3,5,3,4,3,5,5,3,3,3,5,3,5,3,6,5,4,13,5,4,5,10,15,3,4,6,3,8,12,6,5,9,3,6,11,5,3,0,0,0,0,0,0,0,0,0,0,0,0,0,0,0,0,0,0,0,0]
def nvT:Tr (Option Nat):=Tr.ofList 12 nvL
def nvF (g:FuncId):Nat:=@Option.rec Nat (fun _=>Nat) 0 (fun x=>x) (nvT.get none g)
def noB:FuncId->Nat->Option K.BEnt:=fun _ _=>none
def envL (l:List (FuncId × K.CEnt)):K.Env:=⟨polL l,noB,nvF,fun _ _=>true⟩
def envB (l:List (FuncId × K.CEnt)) (b:FuncId->Nat->Option K.BEnt):K.Env:=⟨polL l,b,nvF,fun _ _=>true⟩
theorem yha0 {l:List (FuncId × K.CEnt)} (h:∀ p,p∈l->p.2.ok Tryz.prog p.1):(envL l).ok:=ywm1 h
theorem yaj0 {l:List (FuncId × K.CEnt)} {b:FuncId->Nat->Option K.BEnt} (h:∀ p,p∈l->p.2.ok Tryz.prog p.1):(envB l b).ok:=ywm1 h
end Go.Proofs.YtnpbgnjiihecgaaGreat.Ev
end
