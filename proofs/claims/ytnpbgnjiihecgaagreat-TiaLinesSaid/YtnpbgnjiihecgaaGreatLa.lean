/- The evaluator's words: local values, the local heap, the operations on them. Plain functions; nothing is proved here. What local values and a local heap say of a world; what a call's and a code's contract say. Definitions alone. What it is that one heap is a part of another; contracts that are written out. Definitions alone. The evaluator of code: it follows decisions where they are given, and records what they assume. Small laws: trees, lists, heaps, decoding. -/
import Derived.Calls
import Derived.KernelRfl
import Derived.Below
import Derived.Laws.Sem
namespace Go.Proofs.YtnpbgnjiihecgaaGreat.Ev
open Go
noncomputable section
def bc {Z:Type} (c:Bool) (x y:Z):Z:=@Bool.rec (fun _=>Z) y x c
@[simp] theorem bc_true {Z:Type} (x y:Z):bc true x y=x:=rfl
@[simp] theorem bc_false {Z:Type} (x y:Z):bc false x y=y:=rfl
inductive Cap where
 | known (c:Nat)
 | rest (k:Nat)
inductive LV where
 | junk
 | bool (b:Bool)
 | int (k:IntKind) (n:Int)
 | str (s:List UInt8)
 | nilp
 | ptr (i o:Nat)
 | nils
 | slice (i o l:Nat) (c:Cap)
 | emp (i:Nat)
 | nilm
 | map (i:Nat)
 | func (f:Fn) (first captured:List LV)
 | nilf
 | iface (t:TypeId) (v:LV)
 | nili
 | agg (cs:List LV)
 | tup (vs:List LV)
inductive Tr (Z:Type) where
 | nil
 | node (v:Z) (l r:Tr Z)
namespace Tr
variable {Z:Type}
def get (d:Z) (t:Tr Z):Nat->Z :=
 @Tr.rec Z (fun _=>Nat->Z) (fun _=>d) (fun v _ _ gl gr i=>bc (Nat.beq i 0) v (bc (Nat.beq (Nat.mod i 2) 1) (gl (Nat.div i 2)) (gr (Nat.pred (Nat.div i 2))))) t
def one (d x:Z) (k:Nat):Nat->Tr Z :=
 @Nat.rec (fun _=>Nat->Tr Z) (fun _=>.nil) (fun _ g i=>bc (Nat.beq i 0) (.node x .nil .nil) (bc (Nat.beq (Nat.mod i 2) 1) (.node d (g (Nat.div i 2)) .nil) (.node d .nil (g (Nat.pred (Nat.div i 2)))))) k
def set (d x:Z) (t:Tr Z):Nat->Tr Z :=
 @Tr.rec Z (fun _=>Nat->Tr Z) (fun i=>one d x (i+1) i) (fun v l r gl gr i=>bc (Nat.beq i 0) (.node x l r) (bc (Nat.beq (Nat.mod i 2) 1) (.node v (gl (Nat.div i 2)) r) (.node v l (gr (Nat.pred (Nat.div i 2)))))) t
end Tr
inductive Own where
 | ro | exact
 | grow (size:Nat)
structure Ent where
 key:LV
 val:LV
 born:Nat
inductive CK where
 | i (k:IntKind)
 | bo
 | sr
def intOf (v:LV):Int:=match v with
 | .int _ n=>n
 | _=>0
def ydu2 (v:LV):Bool:=match v with
 | .bool b=>b
 | _=>false
def strOf (v:LV):List UInt8:=match v with
 | .str s=>s
 | _=>[]
def CK.san (c:CK) (v:LV):LV:=@CK.rec (fun _=>LV) (fun k=>.int k (intOf v)) (.bool (ydu2 v)) (.str (strOf v)) c
def rotK:List CK->List CK
 | []=>[]
 | c::ks=>ks++[c]
def headK (ks:List CK):CK:=match ks with
 | []=>.bo
 | c::_=>c
def flatF (ks:List CK):List LV->List LV
 | []=>[]
 | v::vs=>(headK ks).san v::flatF (rotK ks) vs
inductive LObj where
 | dead
 | cells (e:TypeId) (w:Own) (c:List LV)
 | map (es:List Ent) (clock:Nat)
 | empty
 | strIter (s:List UInt8) (pos:Nat)
 | loop (st:LoopState) (pe:Option Code) (fn:FuncId) (n:Nat) (t:Tr LV) (params:List Tmp) (assign body:Code) (defers:Nat)
 | defers (taken:Bool)
 | flat (ks:List CK) (e:TypeId) (w:Own) (vs:List LV)
 | fmap (es:List Ent)
 | miter (m:Nat) (st:Nat × List Nat × Nat)
 | glob (g:Nat) (cs:List LV)
def openO (o:LObj):LObj:=match o with
 | .flat ks e w vs=>.cells e w (flatF ks vs)
 | o=>o
structure Slot where
 stamp:Nat
 obj:LObj
structure Heap where
 n:Nat
 t:Tr Slot
def Slot.none:Slot:=⟨0,.dead⟩
def Heap.slot (H:Heap) (i:Nat):Slot:=H.t.get Slot.none i
def Heap.get (H:Heap) (i:Nat):LObj:=(H.slot i).obj
def Heap.push (H:Heap) (o:LObj):Heap:=⟨H.n+1,H.t.set Slot.none ⟨0,o⟩ H.n⟩
def Heap.put (H:Heap) (i:Nat) (o:LObj):Heap:=⟨H.n,H.t.set Slot.none ⟨(H.slot i).stamp+1,o⟩ i⟩
def Heap.pushes (H:Heap):List LObj->Heap
 | []=>H
 | o::os=>(H.push o).pushes os
def Heap.puts (H:Heap):List (Nat × LObj)->Heap
 | []=>H
 | (i,o)::os=>bif Nat.blt i H.n then (H.put i o).puts os else H.puts os
def Heap.upd (H:Heap) (us:List (Nat × LObj)) (ns:List LObj):Heap:=(H.puts us).pushes ns
def Heap.nil:Heap:=⟨0,.nil⟩
def Heap.of (os:List LObj):Heap:=Heap.nil.pushes os
structure Fr where
 fn:FuncId
 n:Nat
 t:Tr LV
 marks:List Nat
 round:Option Nat
def Fr.get (f:Fr) (i:Nat):LV:=f.t.get .junk i
def Fr.set (f:Fr) (i:Nat) (v:LV):Fr:={ f with t:=f.t.set .junk v i }
def Fr.put (f:Fr) (d:Option Tmp) (v:LV):Option Fr :=
 match d with
 | none=>some f
 | some i=>bif Nat.blt i f.n then some (f.set i v) else none
def yfe0:LV:=.tup []
def yta0:LV->Bool
 | .junk=>true
 | _=>false
def yek0 (l:List LV):Bool:=@List.rec LV (fun _=>Bool) true (fun v _ b=>bc (yta0 v) false b) l
def yjj0:Value->LV
 | .bool b=>.bool b
 | .int k n=>.int k n
 | .string s=>.str s.data.toList
 | .pointer none=>.nilp
 | .slice none 0 0=>.nils
 | .map none=>.nilm
 | .nilFunc=>.nilf
 | .nilIface=>.nili
 | _=>.junk
def ofVal:Value->LV
 | .agg cs=>let l:=cs.toList.map yjj0;bif yek0 l then .agg l else .junk
 | .iface t v=>let l:=yjj0 v;bif yta0 l then .junk else .iface t l
 | .tuple cs=>let l:=cs.toList.map yjj0;bif yek0 l then .tup l else .junk
 | v=>yjj0 v
def Fr.ev (f:Fr):Operand->LV
 | .tmp t=>f.get t
 | .const v=>ofVal v
 | .global _=>.junk
 | .func g=>.func (.func g) [] []
def Fr.evs (f:Fr) (l:List Operand):List LV:=@List.rec Operand (fun _=>List LV) [] (fun x _ r=>f.ev x::r) l
def ywm0:LV->Bool
 | .agg _=>false
 | .tup _=>false
 | .junk=>false
 | _=>true
def yse0 (l:List LV):Bool:=@List.rec LV (fun _=>Bool) true (fun v _ b=>bc (ywm0 v) b false) l
def cellsOf:LV->List LV
 | .agg cs=>cs
 | v=>[v]
def aggOf (P:Program) (t:TypeId):Option Bool :=
 match P.underlying t with
 | some (.struct _)=>some true
 | some (.array _ _)=>some true
 | some _=>some false
 | none=>none
def sizeOfT (P:Program) (t:TypeId):Option Nat:=(P.info? t).map (·.size)
def zeroOf (P:Program) (t:TypeId):Option LV :=
 match P.info? t with
 | some i=>match i.zero with
  | some v=>let l:=ofVal v;bif yta0 l then none else some l
  | none=>none
 | none=>none
def nth (l:List LV):Nat->Option LV :=
 @List.rec LV (fun _=>Nat->Option LV) (fun _=>none) (fun v _ g i=>@Nat.rec (fun _=>Option LV) (some v) (fun j _=>g j) i) l
def yxt1 (l:List LV):Nat->LV->List LV :=
 @List.rec LV (fun _=>Nat->LV->List LV) (fun _ _=>[]) (fun v vs g i x=>@Nat.rec (fun _=>List LV) (x::vs) (fun j _=>v::g j x) i) l
def takeN (l:List LV):Nat->List LV :=
 @List.rec LV (fun _=>Nat->List LV) (fun _=>[]) (fun v _ g n=>@Nat.rec (fun _=>List LV) [] (fun m _=>v::g m) n) l
def dropN (l:List LV):Nat->List LV :=
 @List.rec LV (fun _=>Nat->List LV) (fun _=>[]) (fun v vs g n=>@Nat.rec (fun _=>List LV) (v::vs) (fun m _=>g m) n) l
def lenL {Z:Type} (l:List Z):Nat:=@List.rec Z (fun _=>Nat) 0 (fun _ _ n=>n+1) l
def app {Z:Type} (l:List Z) (m:List Z):List Z:=@List.rec Z (fun _=>List Z) m (fun x _ r=>x::r) l
def yua0 (cs:List LV) (o:Nat) (vs:List LV):List LV :=
 @List.rec LV (fun _=>List LV->Nat->List LV) (fun cs _=>cs) (fun v _ g cs o=>g (yxt1 cs o v) (o+1)) vs cs o
def partOf (P:Program) (t:TypeId) (cs:List LV) (off:Nat):Option LV :=
 match aggOf P t with
 | some true=>match sizeOfT P t with
  | some n=>bif Nat.ble (off+n) (lenL cs) then some (.agg (takeN (dropN cs off) n)) else none
  | none=>none
 | some false=>nth cs off
 | none=>none
def loadL (P:Program) (t:TypeId) (H:Heap):LV->Option LV
 | .ptr i o=>match openO (H.get i) with
  | .cells _ _ cs=>partOf P t cs o
  | _=>none
 | _=>none
def storeL0 (P:Program) (t:TypeId) (H:Heap) (a v:LV):Option Heap :=
 bif yta0 v then none else
 match a with
 | .ptr i o=>match H.get i with
  | .cells _ .ro _=>none
  | .cells e w cs=>match sizeOfT P t with
   | some n =>
    let vs:=cellsOf v
    bif yse0 vs then bif Nat.beq (lenL vs) n then bif Nat.ble (o+n) (lenL cs) then bif Nat.blt i H.n then some (H.put i (.cells e w (yua0 cs o vs))) else none else none else none else none
   | none=>none
  | _=>none
 | _=>none
def boxL (t:TypeId) (H:Heap) (v:LV):Option (LV × Heap) :=
 bif yta0 v then none else some (.ptr H.n 0,H.push (.cells t .exact (cellsOf v)))
def fillL (place:Nat->Option (Nat × Nat)) (cs:List LV):List (Nat × LV)->Option (List LV)
 | []=>some cs
 | (i,v)::rest =>
  match place i with
  | none=>none
  | some (off,size) =>
   let vs:=cellsOf v
   bif yta0 v then none else
   bif Nat.beq (lenL vs) size then bif Nat.ble (off+size) (lenL cs) then fillL place (yua0 cs off vs) rest else none else none
def zipL {Z β:Type} : List Z->List β->List (Z × β)
 | a::as,b::bs=>(a,b)::zipL as bs
 | _,_=>[]
def fieldPlaces (P:Program):List Field->Nat->Option (Nat × Nat)
 | [],_=>none
 | f::fs,i=>bif Nat.beq i 0 then (sizeOfT P f.type).map fun s=>(f.offset,s) else fieldPlaces P fs (i-1)
def allSized (P:Program):List Field->Bool
 | []=>true
 | f::fs=>match sizeOfT P f.type with
  | some _=>allSized P fs
  | none=>false
def buildL (P:Program) (t:TypeId) (parts:List (Nat × LV)):Option LV :=
 match zeroOf P t with
 | none=>none
 | some z =>
  match P.underlying t with
  | some (.struct fields)=>bif allSized P fields.toList then (fillL (fieldPlaces P fields.toList) (cellsOf z) parts).map .agg else none
  | some (.array _ elem)=>match sizeOfT P elem with
   | some size=>(fillL (fun i=>some (i*size,size)) (cellsOf z) parts).map .agg
   | none=>none
  | _=>none
def yqb0 (z:List LV) (n:Nat):List LV:=@Nat.rec (fun _=>List LV) [] (fun _ r=>app z r) n
def buildSliceL (P:Program) (t:TypeId) (len:Nat) (parts:List (Nat × LV)) (H:Heap):Option (LV × Heap) :=
 match P.underlying t with
 | some (.slice elem)=>match sizeOfT P elem,zeroOf P elem with
  | some size,some z =>
   bif Nat.beq size 0 then none else bif Nat.ble (len*size) 16777216 then
   bif Nat.beq (lenL (cellsOf z)) size then
   match fillL (fun i=>some (i*size,size)) (yqb0 (cellsOf z) len) parts with
   | some cs=>some (.slice H.n 0 len (.known len),H.push (.cells elem .exact cs))
   | none=>none
   else none else none
  | _,_=>none
 | _=>none
def ybo0 (e:TypeId) (z:LV) (n:Nat):LObj:=match z with
 | .bool b=>.flat [.bo] e .exact (yqb0 [.bool b] n)
 | z=>.cells e .exact (yqb0 (cellsOf z) n)
def makeSliceL (P:Program) (t:TypeId) (H:Heap):LV->LV->Option (LV × Heap)
 | .int _ l,.int _ c=>match P.underlying t with
  | some (.slice elem)=>match P.info? elem,zeroOf P elem with
   | some i,some z =>
    bif decide (0<=l) then bif decide (l<=c) then bif decide (c*i.bytes<=1073741824) then bif decide (c<=1073741824) then bif Nat.beq i.size 0 then none else
    bif Nat.beq (lenL (cellsOf z)) i.size then
    some (.slice H.n 0 l.toNat (.known c.toNat),H.push (ybo0 elem z c.toNat))
    else none else none else none else none else none
   | _,_=>none
  | _=>none
 | _,_=>none
def fieldAddrL (P:Program) (s:TypeId) (f:Nat):LV->Option LV
 | .ptr i o=>match P.underlying s with
  | some (.struct fields)=>match fields[f]? with
   | some fd=>match sizeOfT P fd.type with
    | some n=>bif Nat.beq n 0 then none else some (.ptr i (o+fd.offset))
    | none=>none
   | none=>none
  | _=>none
 | _=>none
def indexAddrL (P:Program) (t:TypeId) (x:LV):LV->Option LV
 | .int _ ix=>match P.underlying t with
  | some (.array len elem)=>match x with
   | .ptr i o=>match sizeOfT P elem with
    | some n=>bif decide (0<=ix) then bif decide (ix<len) then some (.ptr i (o+ix.toNat*n)) else none else none
    | none=>none
   | _=>none
  | some (.slice elem)=>match x with
   | .slice i o l _=>match sizeOfT P elem with
    | some n=>bif decide (0<=ix) then bif decide (ix<l) then some (.ptr i (o+ix.toNat*n)) else none else none
    | none=>none
   | _=>none
  | _=>none
 | _=>none
def fieldL (P:Program) (t:TypeId) (f:Nat):LV->Option LV
 | .agg cs=>match P.underlying t with
  | some (.struct fields)=>match fields[f]? with
   | some fd=>partOf P fd.type cs fd.offset
   | none=>none
  | _=>none
 | _=>none
def nthB (l:List UInt8):Nat->Option UInt8 :=
 @List.rec UInt8 (fun _=>Nat->Option UInt8) (fun _=>none) (fun v _ g i=>@Nat.rec (fun _=>Option UInt8) (some v) (fun j _=>g j) i) l
def takeB (l:List UInt8):Nat->List UInt8 :=
 @List.rec UInt8 (fun _=>Nat->List UInt8) (fun _=>[]) (fun v _ g n=>@Nat.rec (fun _=>List UInt8) [] (fun m _=>v::g m) n) l
def dropB (l:List UInt8):Nat->List UInt8 :=
 @List.rec UInt8 (fun _=>Nat->List UInt8) (fun _=>[]) (fun v vs g n=>@Nat.rec (fun _=>List UInt8) (v::vs) (fun m _=>g m) n) l
def indexL (P:Program) (t:TypeId) (x:LV):LV->Option LV
 | .int _ ix=>match P.underlying t with
  | some (.array len elem)=>match x with
   | .agg cs=>match sizeOfT P elem with
    | some n=>bif decide (0<=ix) then bif decide (ix<len) then partOf P elem cs (ix.toNat*n) else none else none
    | none=>none
   | _=>none
  | some .string=>match x with
   | .str s=>bif decide (0<=ix) then (nthB s ix.toNat).map fun b=>.int .u8 b.toNat else none
   | _=>none
  | _=>none
 | _=>none
def bound:Option LV->Nat->Option Nat
 | none,d=>some d
 | some (.int _ i),_=>bif decide (0<=i) then some i.toNat else none
 | some _,_=>none
def yfk0 (H:Heap) (size i o len k:Nat):Bool :=
 match openO (H.get i) with
 | .cells _ (.grow sz) cs=>Nat.beq sz size&&(Nat.beq o (k*size)&&(Nat.ble (o+len*size) (lenL cs)&&Nat.blt 0 size))
 | _=>false
def ygk0 (size i o len k l h:Nat) (H:Heap):Option (LV × Heap) :=
 bif yfk0 H size i o len k then
  bif Nat.beq l 0 then some (.slice i o h (.rest k),H) else bif Nat.beq l h then some (.emp H.n,H.push .empty) else some (.slice i (o+l*size) (h-l) (.rest (k+l)),H)
 else none
def ymc0 (size i o c l h:Nat):Option LV :=
 bif Nat.ble h c then some (.slice i (bc (Nat.beq c l) o (o+l*size)) (h-l) (.known (c-l))) else none
def withH (H:Heap):Option LV->Option (LV × Heap)
 | some v=>some (v,H)
 | none=>none
def yoh0 (size i o len:Nat) (cap:Cap) (lo hi mx:Option LV) (H:Heap):Option (LV × Heap) :=
 match bound hi len with
 | none=>none
 | some h=>match bound lo 0 with
  | none=>none
  | some l=>bif Nat.ble h len then bif Nat.ble l h then
   match mx with
   | none=>match cap with
    | .known c=>withH H (ymc0 size i o c l h)
    | .rest k=>ygk0 size i o len k l h H
   | some m=>match bound (some m) 0 with
    | none=>none
    | some m=>bif Nat.ble h m then bif Nat.ble m len then
     match cap with
     | .known c=>bif Nat.ble m c then withH H (ymc0 size i o m l h) else none
     | .rest k=>bif yfk0 H size i o len k then withH H (ymc0 size i o m l h) else none
     else none else none
   else none else none
def yph0 (s:List UInt8) (lo hi:Option LV):Option LV :=
 match bound hi (lenL s) with
 | none=>none
 | some h=>match bound lo 0 with
  | none=>none
  | some l=>bif Nat.ble h (lenL s) then bif Nat.ble l h then some (.str (takeB (dropB s l) (h-l))) else none else none
def sliceL (P:Program) (t:TypeId) (x:LV) (lo hi mx:Option LV) (H:Heap):Option (LV × Heap) :=
 match P.underlying t with
 | some .string=>match x with
  | .str s=>match mx with
   | some _=>none
   | none=>withH H (yph0 s lo hi)
  | _=>none
 | some (.slice elem)=>match sizeOfT P elem with
  | none=>none
  | some size=>match x with
   | .slice i o len cap=>yoh0 size i o len cap lo hi mx H
   | .nils=>match bound hi 0 with
    | some 0=>match bound lo 0 with
     | some 0=>match mx with
      | none=>some (.nils,H)
      | some m=>match bound (some m) 0 with
       | some 0=>some (.nils,H)
       | _=>none
     | _=>none
    | _=>none
   | .emp i=>match bound hi 0 with
    | some 0=>match bound lo 0 with
     | some 0=>match mx with
      | none=>some (.emp i,H)
      | some _=>none
     | _=>none
    | _=>none
   | _=>none
 | some (.array n elem)=>match x with
  | .ptr i o=>match mx with
   | some _=>none
   | none=>match sizeOfT P elem with
    | none=>none
    | some size=>match bound hi n with
     | none=>none
     | some h=>match bound lo 0 with
      | none=>none
      | some l=>bif Nat.ble l h then withH H (ymc0 size i o n l h) else none
  | _=>none
 | _=>none
def eqB:List UInt8->List UInt8->Bool
 | [],[]=>true
 | a::x,b::y=>bif Nat.beq a.toNat b.toNat then eqB x y else false
 | _,_=>false
def ltB:List UInt8->List UInt8->Bool
 | _,[]=>false
 | [],_::_=>true
 | a::x,b::y=>bif Nat.blt a.toNat b.toNat then true else bif Nat.beq a.toNat b.toNat then ltB x y else false
def yqh0 (k:TypeDesc) (x y:LV):Option Bool :=
 match k with
 | .bool=>match x,y with
  | .bool a,.bool b=>some (a == b)
  | _,_=>none
 | .int _=>match x,y with
  | .int k a,.int k' b=>if k=k' then some (a == b) else none
  | _,_=>none
 | .string=>match x,y with
  | .str a,.str b=>some (eqB a b)
  | _,_=>none
 | _=>none
def both (a b:Option Bool):Option Bool :=
 match a with
 | some a=>match b with
  | some b=>some (a&&b)
  | none=>none
 | none=>none
def eqFields (P:Program) (f:TypeId->LV->LV->Option Bool) (xs ys:List LV):List Field->Option Bool
 | []=>some true
 | fd :: fs => bif fd.name == "_" then none else match partOf P fd.type xs fd.offset with
  | some a=>match partOf P fd.type ys fd.offset with
   | some b=>both (f fd.type a b) (eqFields P f xs ys fs)
   | none=>none
  | none=>none
def eqElems (P:Program) (e:TypeId) (n:Nat) (f:LV->LV->Option Bool) (xs ys:List LV):Nat->Nat->Option Bool
 | 0,_=>some true
 | len+1,i=>match partOf P e xs (i*n) with
  | some a=>match partOf P e ys (i*n) with
   | some b=>both (f a b) (eqElems P e n f xs ys len (i+1))
   | none=>none
  | none=>none
def eqT (P:Program):Nat->TypeId->LV->LV->Option Bool
 | 0,_,_,_=>none
 | d+1,t,x,y=>match P.underlying t with
  | some (.struct fields)=>match x,y with
   | .agg xs,.agg ys=>bif P.stoodInHeld t then none else eqFields P (eqT P d) xs ys fields.toList
   | _,_=>none
  | some (.array len elem)=>match x,y with
   | .agg xs,.agg ys=>match sizeOfT P elem with
    | some n=>eqElems P elem n (eqT P d elem) xs ys len 0
    | none=>none
   | _,_=>none
  | some k=>yqh0 k x y
  | none=>none
def eqNil (P:Program) (t:TypeId) (kc:Bool) (x y:LV):Option Bool :=
 match P.underlying t with
 | some (.pointer _)=>match x,y with
  | .nilp,.nilp=>some true
  | .nilp,.ptr _ _=>some false
  | .ptr _ _,.nilp=>some false
  | _,_=>none
 | some (.slice _)=>match x,y with
  | .nils,.nils=>some true
  | .nils,.slice _ _ _ _=>some false
  | .slice _ _ _ _,.nils=>some false
  | .nils,.emp _=>some false
  | .emp _,.nils=>some false
  | _,_=>none
 | some (.map _ _)=>match x,y with
  | .nilm,.nilm=>some true
  | .nilm,.map _=>some false
  | .map _,.nilm=>some false
  | _,_=>none
 | some (.func _ _ _)=>match x,y with
  | .nilf,.nilf=>some true
  | .nilf,.func _ _ _=>some false
  | .func _ _ _,.nilf=>some false
  | _,_=>none
 | some (.interface _)=>match x,y with
  | .nili,.nili=>bif kc then some true else none
  | .nili,.iface _ _=>some false
  | .iface _ _,.nili=>some false
  | _,_=>none
 | _=>none
def eqL (P:Program) (t:TypeId) (kc:Bool) (x y:LV):Option Bool :=
 match x,y with
 | .agg xs,.agg ys=>bif P.eqGuardType P.depth t then none else eqT P 12 t (.agg xs) (.agg ys)
 | .bool a,.bool b=>match P.underlying t with
  | some .bool=>some (a == b)
  | _=>none
 | x,y=>eqNil P t kc x y
def yof0 (op:BinOp) (k:IntKind) (x y:Int):Option LV :=
 match op with
 | .add=>some (.int k (k.wrap (x+y)))
 | .sub=>some (.int k (k.wrap (x-y)))
 | .mul=>some (.int k (k.wrap (x*y)))
 | .quo=>if y=0 then none else some (.int k (k.wrap (x.tdiv y)))
 | .rem=>if y=0 then none else some (.int k (x.tmod y))
 | .and=>some (.int k (k.wrap (BitVec.ofInt k.bits x &&& BitVec.ofInt k.bits y).toNat))
 | .or=>some (.int k (k.wrap (BitVec.ofInt k.bits x ||| BitVec.ofInt k.bits y).toNat))
 | .xor=>some (.int k (k.wrap (BitVec.ofInt k.bits x ^^^ BitVec.ofInt k.bits y).toNat))
 | .andNot=>some (.int k (k.wrap (BitVec.ofInt k.bits x &&& ~~~BitVec.ofInt k.bits y).toNat))
 | .eql=>some (.bool (x == y))
 | .neq=>some (.bool (x != y))
 | .lss=>some (.bool (decide (x<y)))
 | .leq=>some (.bool (decide (x<=y)))
 | .gtr=>some (.bool (decide (x>y)))
 | .geq=>some (.bool (decide (x≥y)))
 | _=>none
def ytw0 (op:BinOp) (k:IntKind) (x y:Int):Option LV :=
 if y<0 then none else
 match op with
 | .shl=>some (.int k (k.wrap (x*2 ^ (min y.toNat k.bits))))
 | .shr=>some (.int k (x.fdiv (2 ^ (min y.toNat k.bits))))
 | _=>none
def yfs0 (op:BinOp) (a b:List UInt8):Option LV :=
 match op with
 | .add=>bif Nat.ble (lenL a+lenL b) 4611686018427387904 then some (.str (app a b)) else none
 | .eql=>some (.bool (eqB a b))
 | .neq=>some (.bool (!eqB a b))
 | .lss=>some (.bool (ltB a b))
 | .leq=>some (.bool (ltB a b||eqB a b))
 | .gtr=>some (.bool (!(ltB a b||eqB a b)))
 | .geq=>some (.bool (!ltB a b))
 | _=>none
def ybj0:BinOp->Bool
 | .shl | .shr=>true
 | _=>false
def binL (P:Program) (op:BinOp) (t:TypeId) (kc:Bool) (x y:LV):Option LV :=
 match x,y with
 | .int k a,.int k' b=>bif ybj0 op then ytw0 op k a b else if k=k' then yof0 op k a b else none
 | .str a,.str b=>yfs0 op a b
 | _,_=>match op with
  | .eql=>(eqL P t kc x y).map .bool
  | .neq=>(eqL P t kc x y).map fun b=>.bool (!b)
  | _=>none
def unL (op:UnOp) (x:LV):Option LV :=
 match op,x with
 | .neg,.int k n=>some (.int k (k.wrap (0-n)))
 | .xor,.int k n=>some (.int k (k.wrap (BitVec.ofInt k.bits (if k.signed then -1 else k.max) ^^^ BitVec.ofInt k.bits n).toNat))
 | .not,.bool b=>some (.bool (!b))
 | _,_=>none
def bytesOf:List LV->Option (List UInt8)
 | []=>some []
 | .int .u8 n::vs=>match bytesOf vs with
  | some l=>some (UInt8.ofNat n.toNat::l)
  | none=>none
 | _::_=>none
def ofBytes (l:List UInt8):List LV:=@List.rec UInt8 (fun _=>List LV) [] (fun b _ r=>.int .u8 b.toNat::r) l
def ydc0 (H:Heap) (n:Nat):LV->Option (List LV)
 | .nils=>bif Nat.beq n 0 then some [] else none
 | .emp _=>bif Nat.beq n 0 then some [] else none
 | .slice i o _ _=>match openO (H.get i) with
  | .cells _ _ cs=>bif Nat.ble (o+n) (lenL cs) then some (takeN (dropN cs o) n) else none
  | _=>none
 | .str s=>bif Nat.ble n (lenL s) then some (ofBytes (takeB s n)) else none
 | _=>none
def lenV:LV->Option Nat
 | .nils=>some 0
 | .emp _=>some 0
 | .slice _ _ l _=>some l
 | .str s=>some (lenL s)
 | _=>none
def ymn0 (H:Heap) (x:LV):Option LV :=
 match x with
 | .nils=>some (.str [])
 | .emp _=>some (.str [])
 | .slice _ _ n _=>match ydc0 H n x with
  | some cs=>match bytesOf cs with
   | some l=>some (.str l)
   | none=>none
  | none=>none
 | _=>none
def convL (P:Program) (src dst:TypeId) (x:LV) (H:Heap):Option (LV × Heap) :=
 match P.underlying src with
 | some (.int _)=>match P.underlying dst with
  | some (.int k)=>match x with
   | .int _ n=>some (.int k (k.wrap n),H)
   | _=>none
  | _=>none
 | some .string=>match P.underlying dst with
  | some .string=>match x with
   | .str s=>some (.str s,H)
   | _=>none
  | some (.slice e)=>match P.underlying e with
   | some (.int .u8)=>match x with
    | .str s=>some (.slice H.n 0 (lenL s) (.rest 0),H.push (.cells e (.grow 1) (ofBytes s)))
    | _=>none
   | _=>none
  | _=>none
 | some (.slice e)=>match P.underlying dst with
  | some .string=>match P.underlying e with
   | some (.int .u8)=>withH H (ymn0 H x)
   | _=>none
  | _=>none
 | _=>none
def grownL (P:Program) (elem:TypeId) (H:Heap) (n:Nat) (cs:List LV):Option (LV × Heap) :=
 match P.info? elem,zeroOf P elem with
 | some i,some z=>bif Nat.ble (n*i.bytes) 1099511627776 then bif Nat.ble i.bytes 1048576 then bif Nat.beq (lenL (cellsOf z)) i.size then bif Nat.blt 0 i.bytes then
   some (.slice H.n 0 n (.rest 0),H.push (.cells elem (.grow i.size) cs)) else none else none else none else none
 | _,_=>none
def appendTo (P:Program) (elem:TypeId) (size:Nat) (s:LV) (n:Nat) (new:List LV) (H:Heap):Option (LV × Heap) :=
 match s with
 | .nils=>bif Nat.beq n 0 then some (.nils,H) else grownL P elem H n new
 | .slice j o l c=>match H.get j with
  | .cells e own cs=>bif Nat.blt j H.n then bif Nat.ble (o+l*size) (lenL cs) then
   match c with
   | .known cap=>bif Nat.ble (l+n) cap then
     bif Nat.beq n 0 then some (s,H) else
     match own with
     | .exact=>bif Nat.ble (o+(l+n)*size) (lenL cs) then bif yse0 new then some (.slice j o (l+n) c,H.put j (.cells e own (yua0 cs (o+l*size) new))) else none else none
     | _=>none
    else grownL P elem H (l+n) (app (takeN (dropN cs o) (l*size)) new)
   | .rest k=>match own with
    | .grow sz=>bif Nat.beq sz size then bif Nat.beq e elem then bif Nat.beq o 0 then bif Nat.beq k 0 then bif yse0 new then
      bif Nat.beq n 0 then some (s,H) else grownL P elem (H.put j .dead) (l+n) (app (takeN cs (l*size)) new) else none else none else none else none else none
    | _=>none
   else none else none
  | _=>none
 | _=>none
def isStr:LV->Bool
 | .str _=>true
 | _=>false
def notInt (P:Program) (t:TypeId):Bool :=
 match P.underlying t with
 | some (.int _)=>false
 | some _=>true
 | none=>false
def eqKd (j k:IntKind):Bool:=@IntKind.rec (fun _=>IntKind->Bool) (fun k=>@IntKind.rec (fun _=>Bool) true false false false false false false false k) (fun k=>@IntKind.rec (fun _=>Bool) false true false false false false false false k)
  (fun k=>@IntKind.rec (fun _=>Bool) false false true false false false false false k) (fun k=>@IntKind.rec (fun _=>Bool) false false false true false false false false k)
  (fun k=>@IntKind.rec (fun _=>Bool) false false false false true false false false k) (fun k=>@IntKind.rec (fun _=>Bool) false false false false false true false false k)
  (fun k=>@IntKind.rec (fun _=>Bool) false false false false false false true false k) (fun k=>@IntKind.rec (fun _=>Bool) false false false false false false false true k) j k
def eqCK (a b:CK):Bool:=@CK.rec (fun _=>Bool) (fun k=>@CK.rec (fun _=>Bool) (fun j=>eqKd k j) false false b) (@CK.rec (fun _=>Bool) (fun _=>false) true false b) (@CK.rec (fun _=>Bool) (fun _=>false) false true b) a
def ckV (v:LV):Option CK:=match v with
 | .int k _=>some (.i k)
 | .bool _=>some .bo
 | .str _=>some .sr
 | _=>none
def isCK (c:CK) (v:LV):Bool:=match ckV v with
 | some d=>eqCK c d
 | none=>false
def allCK (c:CK) (l:List LV):Bool:=@List.rec LV (fun _=>Bool) true (fun v _ r=>bc (isCK c v) r false) l
def sub (vs:List LV) (o n:Nat):List LV:=takeN (dropN vs o) n
def storeFl (P:Program) (t:TypeId) (H:Heap) (i o:Nat) (ks:List CK) (e:TypeId) (w:Own) (vs:List LV) (v:LV):Option Heap :=
 match w with
 | .ro=>none
 | w=>match ks with
  | [c]=>match sizeOfT P t with
   | some n=>bif Nat.beq n 1 then bif allCK c [v] then bif Nat.ble (o+1) (lenL vs) then bif Nat.blt i H.n then some (H.put i (.flat [c] e w (yua0 vs o [v]))) else none else none else none else none
   | none=>none
  | _=>none
def storeL (P:Program) (t:TypeId) (H:Heap) (a v:LV):Option Heap :=
 match a with
 | .ptr i o=>match H.get i with
  | .flat ks e w vs=>storeFl P t H i o ks e w vs v
  | _=>storeL0 P t H a v
 | _=>storeL0 P t H a v
def ckT (P:Program) (t:TypeId):Option CK:=match zeroOf P t with
 | some z=>ckV z
 | none=>none
def rawOf (c:CK) (H:Heap) (n:Nat) (x:LV):Option (List LV):=match x with
 | .nils=>bif Nat.beq n 0 then some [] else none
 | .emp _=>bif Nat.beq n 0 then some [] else none
 | .slice i o _ _=>match H.get i with
  | .flat [d] _ _ vs=>bif eqCK c d then bif Nat.ble (o+n) (lenL vs) then some (sub vs o n) else none else none
  | .cells _ _ cs=>bif Nat.ble (o+n) (lenL cs) then bif allCK c (sub cs o n) then some (sub cs o n) else none else none
  | _=>none
 | .str s=>bif eqCK c (.i .u8) then bif Nat.ble n (lenL s) then some (ofBytes (takeB s n)) else none else none
 | _=>none
def ymm2 (o:LObj):Bool:=match o with
 | .flat _ _ _ _=>true
 | _=>false
def yhe0 (H:Heap) (v:LV):Bool:=match v with
 | .slice i _ _ _=>ymm2 (H.get i)
 | _=>false
def yuw0 (H:Heap) (j elem:Nat):Bool:=match H.get j with
 | .cells e (.grow sz) _=>Nat.beq sz 1&&Nat.beq e elem
 | .flat _ e (.grow sz) _=>Nat.beq sz 1&&Nat.beq e elem
 | _=>false
def grownFl (P:Program) (elem:TypeId) (c:CK) (H:Heap) (n:Nat) (vs:List LV):Option (LV × Heap) :=
 match P.info? elem with
 | some i=>bif Nat.ble (n*i.bytes) 1099511627776 then bif Nat.ble i.bytes 1048576 then bif Nat.blt 0 i.bytes then
   some (.slice H.n 0 n (.rest 0),H.push (.flat [c] elem (.grow 1) vs)) else none else none else none
 | none=>none
def appendFl (P:Program) (elem:TypeId) (c:CK) (s:LV) (n:Nat) (raw:List LV) (H:Heap):Option (LV × Heap) :=
 match s with
 | .nils=>bif Nat.beq n 0 then some (.nils,H) else grownFl P elem c H n raw
 | .slice j o l cp=>match rawOf c H l s with
  | none=>none
  | some d=>bif Nat.blt j H.n then
   match cp with
   | .known cap=>bif Nat.ble (l+n) cap then bif Nat.beq n 0 then some (s,H) else none else grownFl P elem c H (l+n) (app d raw)
   | .rest k=>bif yuw0 H j elem then bif Nat.beq o 0 then bif Nat.beq k 0 then bif Nat.beq n 0 then some (s,H) else grownFl P elem c (H.put j .dead) (l+n) (app d raw) else none else none else none
   else none
 | _=>none
def appendF1 (P:Program) (t xt:TypeId) (s x:LV) (H:Heap):Option (LV × Heap) :=
 bif notInt P xt then
  match P.underlying t with
  | some (.slice elem)=>match sizeOfT P elem with
   | none=>none
   | some size=>match lenV x with
    | none=>none
    | some n=>bif Nat.beq size 1 then (match ckT P elem with
     | none=>none
     | some c=>match rawOf c H n x with
      | none=>none
      | some raw=>appendFl P elem c s n raw H) else none
  | _=>none
 else none
def appendL0 (P:Program) (t xt:TypeId) (s x:LV) (H:Heap):Option (LV × Heap) :=
 bif notInt P xt then
  match P.underlying t with
  | some (.slice elem)=>match sizeOfT P elem with
   | none=>none
   | some size=>match lenV x with
    | none=>none
    | some n=>bif Nat.beq size 0 then none else bif isStr x&&!Nat.beq size 1 then none else
     match ydc0 H (n*size) x with
     | none=>none
     | some new=>appendTo P elem size s n new H
  | _=>none
 else none
def appendL (P:Program) (t xt:TypeId) (s x:LV) (H:Heap):Option (LV × Heap):=bif yhe0 H s||yhe0 H x then appendF1 P t xt s x H else appendL0 P t xt s x H
def copyL (P:Program) (t:TypeId) (d x:LV) (H:Heap):Option (LV × Heap) :=
 match P.underlying t with
 | some (.slice elem)=>match sizeOfT P elem with
  | none=>none
  | some size=>match lenV x with
   | none=>none
   | some n=>match d with
    | .slice j o m _=>bif isStr x&&!Nat.beq size 1 then none else
     match ydc0 H (Nat.min n m*size) x with
     | none=>none
     | some new=>match H.get j with
      | .cells _ .ro _=>none
      | .cells e own cs=>bif Nat.ble (o+Nat.min n m*size) (lenL cs) then bif Nat.blt j H.n then bif yse0 new then some (.int .i64 (Nat.min n m:Nat),H.put j (.cells e own (yua0 cs o new))) else none else none else none
      | _=>none
    | _=>none
 | _=>none
def arrPtrL (P:Program) (t:TypeId) (x:LV):Option LV :=
 match P.underlying t with
 | some (.array n _)=>match x with
  | .slice i o l _=>bif Nat.ble n l then some (.ptr i o) else none
  | _=>none
 | _=>none
def clearL (P:Program) (t:TypeId) (x:LV) (H:Heap):Option (LV × Heap) :=
 match P.underlying t with
 | some (.slice elem)=>match zeroOf P elem with
  | none=>none
  | some z=>match x with
   | .slice j o m _=>bif Nat.beq m 0 then none else bif Nat.beq (lenL (cellsOf z)) 0 then none else match H.get j with
    | .cells _ .ro _=>none
    | .cells e own cs=>bif Nat.ble (o+lenL (yqb0 (cellsOf z) m)) (lenL cs) then bif Nat.blt j H.n then bif yse0 (yqb0 (cellsOf z) m) then some (yfe0,H.put j (.cells e own (yua0 cs o (yqb0 (cellsOf z) m)))) else none else none else none
    | _=>none
   | _=>none
 | _=>none
def findL (kd:TypeDesc) (k:LV):List Ent->Nat->Option (Option (Nat × LV))
 | [],_=>some none
 | e::es,i=>match yqh0 kd k e.key with
  | some b=>bif b then some (some (i,e.val)) else findL kd k es (i+1)
  | none=>none
def yhk0:TypeDesc->Bool
 | .int _=>true
 | .string=>true
 | .bool=>true
 | _=>false
def ynn0:List Ent->Nat->LV->LV->List Ent
 | [],_,_,_=>[]
 | e::es,i,k,v=>match i with
  | 0=>⟨k,v,e.born⟩::es
  | j+1=>e::ynn0 es j k v
def yon0 (H:Heap):LV->Option (List Ent)
 | .nilm=>some []
 | .map i=>match H.get i with
  | .map es _=>some es
  | _=>none
 | _=>none
def ypn0 (ok:Bool) (z:LV):Option (Nat × LV)->LV
 | some (_,v)=>bif ok then .tup [v,.bool true] else v
 | none=>bif ok then .tup [z,.bool false] else z
def lookupL0 (P:Program) (t:TypeId) (m k:LV) (ok:Bool) (H:Heap):Option LV :=
 bif yta0 k then none else
 match P.underlying t with
 | some (.map kt et)=>match P.underlying kt with
  | some kd=>bif yhk0 kd then
    match yon0 H m with
    | some es=>match findL kd k es 0 with
     | some r=>match zeroOf P et with
      | some z=>some (ypn0 ok z r)
      | none=>none
     | none=>none
    | none=>none
   else none
  | none=>none
 | _=>none
def ycj0 (H:Heap) (m:LV):Option (List Ent):=match m with
 | .map i=>match H.get i with
  | .fmap es=>some es
  | _=>none
 | _=>none
def lookupFm (P:Program) (t:TypeId) (es:List Ent) (k:LV) (ok:Bool):Option LV:=match k with
 | .str s=>match P.underlying t with
  | some (.map kt et)=>match P.underlying kt with
   | some .string=>match findL .string (.str s) es 0 with
    | some r=>match zeroOf P et with
     | some z=>some (ypn0 ok z r)
     | none=>none
    | none=>none
   | _=>none
  | _=>none
 | _=>none
def lookupL (P:Program) (t:TypeId) (m k:LV) (ok:Bool) (H:Heap):Option LV:=match ycj0 H m with
 | some es=>lookupFm P t es k ok
 | none=>lookupL0 P t m k ok H
def updateL (P:Program) (t:TypeId) (m k v:LV) (H:Heap):Option Heap :=
 bif yta0 v then none else bif yta0 k then none else
 match P.underlying t with
 | some (.map kt _)=>match P.underlying kt with
  | some kd=>bif yhk0 kd then
    match m with
    | .map i=>match H.get i with
     | .map es clock=>bif Nat.blt i H.n then match findL kd k es 0 with
      | some (some (j,_))=>some (H.put i (.map (ynn0 es j k v) clock))
      | some none=>some (H.put i (.map (app es [⟨k,v,clock⟩]) (clock+1)))
      | none=>none
      else none
     | _=>none
    | _=>none
   else none
  | none=>none
 | _=>none
def optOf {Z:Type} : Option Z->List Z
 | none=>[]
 | some a=>[a]
def opds:Op->List Operand
 | .alloc _ | .ready _ | .waits _=>[]
 | .move x | .assign x | .box _ x | .load _ x | .nilCheck x | .unOp _ _ x | .convert _ _ x | .sliceToArrayPointer _ x | .makeInterface _ x
 | .makeChan _ x | .fieldAddr _ x _ | .field _ x _ | .range _ x | .next x _ | .entry x | .typeAssert x _ _ _ | .extract x _ | .panic x | .recv _ x _=>[x]
 | .pick c a b=>[c,a,b]
 | .build _ ps | .buildSlice _ _ ps=>ps.toList.map (·.2)
 | .store _ a v | .binOp _ _ a v _ | .makeSlice _ a v | .indexAddr _ a v | .index _ a v | .lookup _ a v _ | .mapEntry _ a v | .send a v=>[a,v]
 | .makeFunc _ first captured=>first.toList++captured.toList
 | .makeMap _ r=>r.toList
 | .slice _ x l h m=>x::(optOf l++optOf h++optOf m)
 | .mapUpdate _ m k v | .entryStore _ m k v | .insert _ m k v=>[m,k,v]
 | .call c | .go c | .defer c=>(match c.callee with | .value f=>[f] | .invoke r _=>[r] | .builtin _=>[])++c.args.toList
 | .select _ _=>[]
inductive Kd where
 | pure
 | load (i:Nat)
 | change
def three (l h m:Option Operand) (xs:List LV):Option (Option LV × Option LV × Option LV) :=
 match l,h,m,xs with
 | none,none,none,[]=>some (none,none,none)
 | some _,none,none,[a]=>some (some a,none,none)
 | none,some _,none,[b]=>some (none,some b,none)
 | some _,some _,none,[a,b]=>some (some a,some b,none)
 | none,some _,some _,[b,c]=>some (none,some b,some c)
 | some _,some _,some _,[a,b,c]=>some (some a,some b,some c)
 | _,_,_,_=>none
structure OpR where
 v:LV
 H:Heap
 k:Kd
def pureR (H:Heap):Option LV->Option OpR
 | some v=>some ⟨v,H,.pure⟩
 | none=>none
def yrc0:Option (LV × Heap)->Option OpR
 | some (v,H)=>some ⟨v,H,.change⟩
 | none=>none
def loadR (H:Heap) (x:LV):Option LV->Option OpR
 | some v=>some ⟨v,H,match x with | .ptr i _=>.load i | .slice i _ _ _=>.load i | .map i=>.load i | _=>.pure⟩
 | none=>none
abbrev OpF:=List LV->Heap->Option OpR
def yfq0:OpF
 | [x],H=>some ⟨x,H,.pure⟩
 | _,_=>none
def yjf1:OpF
 | [.bool b,x,y],H=>some ⟨bc b x y,H,.pure⟩
 | _,_=>none
def opAlloc (P:Program) (t:TypeId):OpF
 | [],H=>match zeroOf P t with
  | some z=>yrc0 (boxL t H z)
  | none=>none
 | _,_=>none
def opBox (t:TypeId):OpF
 | [x],H=>yrc0 (boxL t H x)
 | _,_=>none
def opBuild (P:Program) (t:TypeId) (is:List Nat):OpF:=fun xs H=>pureR H (buildL P t (zipL is xs))
def opBuildSlice (P:Program) (t:TypeId) (n:Nat) (is:List Nat):OpF:=fun xs H=>yrc0 (buildSliceL P t n (zipL is xs) H)
def opLoad (P:Program) (t:TypeId):OpF
 | [x],H=>loadR H x (loadL P t H x)
 | _,_=>none
def opStore (P:Program) (t:TypeId):OpF
 | [a,v],H=>match storeL P t H a v with
  | some H'=>some ⟨yfe0,H',.change⟩
  | none=>none
 | _,_=>none
def yqe0:OpF
 | [.ptr i o],H=>some ⟨.ptr i o,H,.pure⟩
 | [.func (.func g) a b],H=>some ⟨.func (.func g) a b,H,.pure⟩
 | [.func (.yield g) a b],H=>some ⟨.func (.yield g) a b,H,.pure⟩
 | _,_=>none
def isConst:Operand->Bool
 | .const _=>true
 | _=>false
def opBin (P:Program) (op:BinOp) (t:TypeId) (kc:Bool):OpF
 | [x,y],H=>pureR H (binL P op t kc x y)
 | _,_=>none
def opUn (op:UnOp):OpF
 | [x],H=>pureR H (unL op x)
 | _,_=>none
def yae2 (v:LV):LV->Kd
 | .str _=>match v with
  | .slice _ _ _ _=>.change
  | _=>.pure
 | .slice i _ _ _=>.load i
 | _=>.pure
def opConvert (P:Program) (s d:TypeId):OpF
 | [x],H=>match convL P s d x H with
  | some (v,H')=>some ⟨v,H',yae2 v x⟩
  | none=>none
 | _,_=>none
def opMakeInterface (P:Program) (t:TypeId):OpF
 | [x],H=>bc (yta0 x) none (match P.underlying t with
  | some (.interface _)=>none
  | some _=>some ⟨.iface t x,H,.pure⟩
  | none=>none)
 | _,_=>none
def yfg0 (g:FuncId) (n:Nat):OpF:=fun xs H=>bc (yek0 xs) (some ⟨.func (.func g) (takeN xs n) (dropN xs n),H,.pure⟩) none
def yik0:OpF
 | [],H=>some ⟨.map H.n,H.push (.map [] 0),.change⟩
 | _,_=>none
def opMakeSlice (P:Program) (t:TypeId):OpF
 | [l,c],H=>yrc0 (makeSliceL P t H l c)
 | _,_=>none
def yxm0 (v x:LV):Kd :=
 match x with
 | .slice i _ _ (.rest _)=>match v with
  | .emp _=>.change
  | _=>.load i
 | _=>.pure
def opSlice (P:Program) (t:TypeId) (lo hi mx:Option Operand):OpF
 | x::xs,H=>match three lo hi mx xs with
  | some (l,h,m)=>match sliceL P t x l h m H with
   | some (v,H')=>some ⟨v,H',yxm0 v x⟩
   | none=>none
  | none=>none
 | _,_=>none
def opFieldAddr (P:Program) (s:TypeId) (f:Nat):OpF
 | [x],H=>pureR H (fieldAddrL P s f x)
 | _,_=>none
def opField (P:Program) (s:TypeId) (f:Nat):OpF
 | [x],H=>pureR H (fieldL P s f x)
 | _,_=>none
def opIndexAddr (P:Program) (t:TypeId):OpF
 | [x,i],H=>pureR H (indexAddrL P t x i)
 | _,_=>none
def opIndex (P:Program) (t:TypeId):OpF
 | [x,i],H=>pureR H (indexL P t x i)
 | _,_=>none
def opLookup (P:Program) (t:TypeId) (ok:Bool):OpF
 | [m,k],H=>loadR H m (lookupL P t m k ok H)
 | _,_=>none
def opUpdate (P:Program) (t:TypeId):OpF
 | [m,k,v],H=>match updateL P t m k v H with
  | some H'=>some ⟨yfe0,H',.change⟩
  | none=>none
 | _,_=>none
def yqi0 (i:Nat):OpF
 | [.tup vs],H=>pureR H (nth vs i)
 | _,_=>none
def opLen (P:Program) (t:TypeId):OpF
 | [x],H=>match P.underlying t with
  | some .string=>match x with
   | .str s=>some ⟨.int .i64 (lenL s),H,.pure⟩
   | _=>none
  | some (.slice _)=>match lenV x with
   | some n=>match x with
    | .str _=>none
    | _=>some ⟨.int .i64 n,H,.pure⟩
   | none=>none
  | some (.array n _)=>some ⟨.int .i64 n,H,.pure⟩
  | some (.map _ _)=>match x with
   | .nilm=>some ⟨.int .i64 0,H,.pure⟩
   | .map i=>match H.get i with
    | .map es _=>some ⟨.int .i64 (lenL es),H,.load i⟩
    | _=>none
   | _=>none
  | _=>none
 | _,_=>none
def opAppend (P:Program) (t xt:TypeId):OpF
 | [s,x],H=>yrc0 (appendL P t xt s x H)
 | _,_=>none
def opCopy (P:Program) (t:TypeId):OpF
 | [d,x],H=>yrc0 (copyL P t d x H)
 | _,_=>none
def opClear (P:Program) (t:TypeId):OpF
 | [x],H=>yrc0 (clearL P t x H)
 | _,_=>none
def opArrPtr (P:Program) (t:TypeId):OpF
 | [x],H=>pureR H (arrPtrL P t x)
 | _,_=>none
def opMin:OpF
 | [.int k a,.int k' b],H=>if k=k' then some ⟨.int k (if b<a then b else a),H,.pure⟩ else none
 | _,_=>none
def opMax:OpF
 | [.int k a,.int k' b],H=>if k=k' then some ⟨.int k (if b>a then b else a),H,.pure⟩ else none
 | _,_=>none
def opRange (P:Program) (t:TypeId):OpF
 | [.map i],H=>match P.underlying t with
  | some (.map _ _)=>match H.get i with
   | .map _ clock=>bif Nat.blt i H.n then some ⟨.ptr H.n 0,H.push (.miter i (clock,[],clock)),.change⟩ else none
   | _=>none
  | _=>none
 | _,_=>none
def bornL (n:Nat) (es:List Ent):Option Ent:=@List.rec Ent (fun _=>Option Ent) none (fun e _ r=>bif Nat.beq e.born n then some e else r) es
def lastN (l:List Nat):Option Nat:=@List.rec Nat (fun _=>Option Nat) none (fun x _ r=>match r with
 | some y=>some y
 | none=>some x) l
def yvw0:OpF
 | [.ptr i 0],H=>bif Nat.blt i H.n then (match H.get i with
  | .miter m st=>bif Nat.blt m H.n then (match H.get m with
   | .map es clock=>bif Nat.beq clock st.2.2 then (match lastN st.2.1 with
    | some n=>match bornL n es with
     | some e=>some ⟨.tup [e.key,e.val],H,.change⟩
     | none=>none
    | none=>none) else none
   | _=>none) else none
  | _=>none) else none
 | _,_=>none
def yge0:OpF:=fun _ _=>none
def opBuiltin (P:Program) (c:Call):Builtin->OpF
 | .len=>match c.argTypes[0]? with
  | some t=>opLen P t
  | none=>yge0
 | .append=>match c.argTypes[0]? with
  | some t=>match c.argTypes[1]? with
   | some xt=>opAppend P t xt
   | none=>yge0
  | none=>yge0
 | .copy=>match c.argTypes[0]? with
  | some t=>opCopy P t
  | none=>yge0
 | .clear=>match c.argTypes[0]? with
  | some t=>opClear P t
  | none=>yge0
 | .min=>opMin
 | .max=>opMax
 | _=>yge0
def lop (P:Program) (op:Op):OpF :=
 match op with
 | .move _=>yfq0
 | .assign _=>yfq0
 | .pick _ _ _=>yjf1
 | .alloc t=>opAlloc P t
 | .box t _=>opBox t
 | .build t ps=>opBuild P t (ps.toList.map (·.1))
 | .buildSlice t n ps=>opBuildSlice P t n (ps.toList.map (·.1))
 | .load t _=>opLoad P t
 | .store t _ _=>opStore P t
 | .nilCheck _=>yqe0
 | .binOp op t a b _=>opBin P op t (isConst a||isConst b)
 | .unOp op _ _=>opUn op
 | .convert s d _=>opConvert P s d
 | .makeInterface t _=>opMakeInterface P t
 | .makeFunc f first _=>match f with
  | .func g=>yfg0 g first.size
  | _=>yge0
 | .makeMap _ none=>yik0
 | .makeSlice t _ _=>opMakeSlice P t
 | .slice t _ lo hi mx=>opSlice P t lo hi mx
 | .fieldAddr s _ f=>opFieldAddr P s f
 | .field s _ f=>opField P s f
 | .indexAddr t _ _=>opIndexAddr P t
 | .index t _ _=>opIndex P t
 | .lookup t _ _ ok=>opLookup P t ok
 | .mapUpdate t _ _ _=>opUpdate P t
 | .insert t _ _ _=>opUpdate P t
 | .sliceToArrayPointer t _=>opArrPtr P t
 | .extract _ i=>yqi0 i
 | .range t _=>opRange P t
 | .entry _=>yvw0
 | .call c=>match c.callee with
  | .builtin b=>opBuiltin P c b
  | _=>yge0
 | _=>yge0
end
end Go.Proofs.YtnpbgnjiihecgaaGreat.Ev
namespace Go.Proofs.YtnpbgnjiihecgaaGreat.Ev
open Go
structure RB where
 blk:Nat
 off:Nat
 cap:Nat
 ea:Addr
 ec:Nat
def capOf (r:RB):Cap->Nat
 | .known c=>c
 | .rest k=>r.cap-k
def decFn (J:Nat->RB):Fn->Fn
 | .yield l=>.yield (J l).blk
 | f=>f
mutual
def dec (J:Nat->RB):LV->Value
 | .junk=>.tuple #[]
 | .bool b=>.bool b
 | .int k n=>.int k n
 | .str s=>.string ⟨s.toArray⟩
 | .nilp=>.pointer none
 | .ptr i o=>.pointer (some ⟨(J i).blk,(J i).off+o,none⟩)
 | .nils=>.slice none 0 0
 | .slice i o l c=>.slice (some ⟨(J i).blk,(J i).off+o,none⟩) l (capOf (J i) c)
 | .emp i=>.slice (some (J i).ea) 0 (J i).ec
 | .nilm=>.map none
 | .map i=>.map (some (J i).blk)
 | .func f first captured=>.func (decFn J f) (decs J first).toArray (decs J captured).toArray
 | .nilf=>.nilFunc
 | .iface t v=>.iface t (dec J v)
 | .nili=>.nilIface
 | .agg cs=>.agg (decs J cs).toArray
 | .tup vs=>.tuple (decs J vs).toArray
def decs (J:Nat->RB):List LV->List Value
 | []=>[]
 | v::vs=>dec J v::decs J vs
end
mutual
def lt (n:Nat):LV->Prop
 | .ptr i _=>i<n
 | .slice i _ _ _=>i<n
 | .emp i=>i<n
 | .map i=>i<n
 | .func f first captured=>(match f with | .yield l=>l<n | _=>True)/\lts n first/\lts n captured
 | .iface _ v=>lt n v
 | .agg cs=>lts n cs
 | .tup vs=>lts n vs
 | _=>True
def lts (n:Nat):List LV->Prop
 | []=>True
 | v::vs=>lt n v/\lts n vs
end
def ltT (n:Nat) (t:Tr LV):Prop:=∀ i,lt n (t.get .junk i)
def ltObj (n:Nat):LObj->Prop
 | .cells _ _ cs=>lts n cs
 | .map es _=>∀ e,e∈es->lt n e.key/\lt n e.val
 | .loop _ _ _ _ t _ _ _ d=>ltT n t/\d<n
 | .miter m _=>m<n
 | _=>True
def TRel (J:Nat->RB) (t:Tr LV) (r:Array Value):Prop :=
 ∀ i,t.get .junk i=.junk\/r[i]?=some (dec J (t.get .junk i))
def ytd0 (J:Nat->RB) (e:Ent):MapEntry:={ key:=dec J e.key,val:=dec J e.val,born:=e.born }
def scalV:LV->Bool
 | .bool _ | .int _ _ | .str _=>true
 | _=>false
def rbz:RB:=⟨0,0,0,default,0⟩
def vOf (r:Option (Option (Nat × LV))):Option (Option LV):=r.map fun q=>q.map fun p=>p.2
def SatObj (J:Nat->RB) (r:RB) (w:World):LObj->Prop
 | .dead=>True
 | .cells _ .ro cs=>∀ j v,cs[j]?=some v->w.cell? ⟨r.blk,r.off+j,none⟩=some (dec J v)
 | .cells e .exact cs=>r.off=0/\∃ lo hi,(∀ j,j<cs.length->¬ (lo<=j/\j<hi))/\w.heap[r.blk]?=some (.cells (decs J cs).toArray e (lo,hi))
 | .cells e (.grow sz) cs=>r.off=0/\∃ lo hi spare,(∀ j,j<cs.length+spare.length->¬ (lo<=j/\j<hi))/\cs.length<=r.cap*sz/\r.cap*sz<=cs.length+spare.length/\w.heap[r.blk]?=some (.cells (decs J cs++spare).toArray e (lo,hi))
 | .map es clock=>w.heap[r.blk]?=some (.map (es.map (ytd0 J)).toArray clock)
 | .empty=>True
 | .strIter s pos=>w.heap[r.blk]?=some (.stringIter ⟨s.toArray⟩ pos)
 | .loop st pe fn n t params assign body d=>∃ tm:Array Value,tm.size=n/\TRel J t tm /\
   w.heap[r.blk]?=some (.loop { state:=st,pending:=pe,fn,tmps:=tm,params:=params.toArray,assign,body,defers:=(J d).blk })
 | .defers taken=>w.heap[r.blk]?=some (.deferred (if taken then none else some []))
 | .miter m st=>r.off=0/\w.heap[r.blk]?=some (.mapIter (some (J m).blk) st.1 st.2.1.toArray st.2.2)
 | .glob g cs=>r.blk=g/\r.off=0/\∀ j v,cs[j]?=some v->w.cell? ⟨r.blk,j,none⟩=some (dec (fun _=>rbz) v)
 | .fmap es=>(∀ e,e∈es->scalV e.val=true)/\∃ (l:List Ent) (clock:Nat),(∀ s,vOf (findL .string (.str s) l 0)=vOf (findL .string (.str s) es 0))/\w.heap[r.blk]?=some (.map (l.map (ytd0 fun _=>rbz)).toArray clock)
 | .flat ks _ .ro cs=>∀ j v,(flatF ks cs)[j]?=some v->w.cell? ⟨r.blk,r.off+j,none⟩=some (dec J v)
 | .flat ks e .exact cs=>r.off=0/\∃ lo hi,(∀ j,j<(flatF ks cs).length->¬ (lo<=j/\j<hi))/\w.heap[r.blk]?=some (.cells (decs J (flatF ks cs)).toArray e (lo,hi))
 | .flat ks e (.grow sz) cs=>r.off=0/\∃ lo hi spare,(∀ j,j<(flatF ks cs).length+spare.length->¬ (lo<=j/\j<hi))/\(flatF ks cs).length<=r.cap*sz/\r.cap*sz<=(flatF ks cs).length+spare.length/\w.heap[r.blk]?=some (.cells (decs J (flatF ks cs)++spare).toArray e (lo,hi))
def LObj.owns:LObj->Bool
 | .dead | .empty | .cells _ .ro _ | .flat _ _ .ro _ | .glob _ _=>false
 | _=>true
def LObj.sits:LObj->Bool
 | .dead | .empty=>false
 | _=>true
structure Sat (J:Nat->RB) (H:Heap) (w:World):Prop where
 wf:∀ i,i<H.n->ltObj H.n (H.get i)
 obj:∀ i,i<H.n->SatObj J (J i) w (H.get i)
 apart:∀ i j,i<H.n->j<H.n->i≠j->(H.get i).owns=true->(H.get j).sits=true->(J i).blk≠(J j).blk
 inside:∀ i,i<H.n->(H.get i).sits=true->(J i).blk<w.heap.size
def Ext (n:Nat) (J J' : Nat->RB):Prop:=∀ i,i<n->J' i=J i
structure Moved (J:Nat->RB) (H:Heap) (w:World) (J' : Nat->RB) (H' : Heap) (w' : World):Prop where
 os:w'.os=w.os
 tape:w'.tape=w.tape
 output:w'.output=w.output
 size:w.heap.size<=w'.heap.size
 block:∀ b,b<w.heap.size->(∀ i,i<H.n->(H.get i).owns=true->(J i).blk≠b)->w'.heap[b]?=w.heap[b]?
 owned:∀ i,i<H'.n->(H'.get i).owns=true->w.heap.size<=(J' i).blk\/∃ j,j<H.n/\(H.get j).owns=true/\(J' i).blk=(J j).blk
 sits:∀ i,i<H'.n->(H'.get i).sits=true->w.heap.size<=(J' i).blk\/∃ j,j<H.n/\(H.get j).sits=true/\(J' i).blk=(J j).blk
 more:H.n<=H'.n
 ext:Ext H.n J J'
 sat:Sat J' H' w'
inductive LEnd where
 | ret (v:LV)
 | pan (v:LV)
def yml0 (J:Nat->RB):LEnd->Ending
 | .ret v=>.returned (dec J v)
 | .pan v=>.panicked [{ v:=dec J v,recovered:=false }]
def ltEnd (n:Nat):LEnd->Prop
 | .ret v=>lt n v
 | .pan v=>lt n v
def HT (P:Program) (f:FuncId) (xs:List LV) (H:Heap) (e:LEnd) (H' : Heap):Prop :=
 ∀ J w,Sat J H w->lts H.n xs->Calls P f (decs J xs).toArray w fun e' w'=>∃ J',e'=yml0 J' e/\Moved J H w J' H' w'/\ltEnd H'.n e
inductive LX where
 | normal
 | exit (id:Nat)
 | ret
 | pan (v:LV)
def ltX (n:Nat):LX->Prop
 | .pan v=>lt n v
 | _=>True
def yga0 (b:Frame) (tmps:Array Value) (ds:List Deferred) (todo:List Item):Frame :=
 { fn:=b.fn,tmps,todo,defers:=ds,mode:=.run,kind:=b.kind,roundOf:=b.roundOf }
def marksOf (J:Nat->RB):List Nat->List Deferred
 | []=>[]
 | d::ds=>{ target:=.collected (J d).blk,args:=#[] }::marksOf J ds
def Ends (P:Program) (m:Machine) (b:Frame) (k:List Item) (cs:List Frame) (J:Nat->RB) (tmps:Array Value) (ds:List Deferred) (w:World):LX->Prop
 | .normal=>Steps P m (lone (yga0 b tmps ds k) cs w)
 | .exit id=>∃ k',exitTo id k'=exitTo id k/\Steps P m (lone (yga0 b tmps ds (.code (.exit id)::k')) cs w)
 | .ret=>∃ k',Steps P m (lone (yga0 b tmps ds (.code .ret::k')) cs w)
 | .pan v=>∃ k',Steps P m (lone { yga0 b tmps ds k' with mode:=.panicking [{ v:=dec J v,recovered:=false }] } cs w)
structure FRel (J:Nat->RB) (n:Nat) (f:Fr) (b:Frame) (tmps:Array Value) (ds:List Deferred):Prop where
 wf:ltT n f.t
 marks:∀ d,d∈f.marks->d<n
 inRound:∀ l,f.round=some l->l<n
 fn:b.fn=f.fn
 size:tmps.size=f.n
 t:TRel J f.t tmps
 ds:ds=marksOf J f.marks
 round:b.roundOf=f.round.map fun l=>(J l).blk
def GT (P:Program) (pre:List Item->List Item) (f:Fr) (H:Heap) (x:LX) (f' : Fr) (H' : Heap):Prop :=
 ∀ (J:Nat->RB) (w:World) (b:Frame) (tmps:Array Value) (ds:List Deferred) (k:List Item) (cs:List Frame),Sat J H w->FRel J H.n f b tmps ds ->
  ∃ J' w' tmps' ds',Moved J H w J' H' w'/\FRel J' H'.n f' b tmps' ds'/\ltX H'.n x/\Ends P (lone (yga0 b tmps ds (pre k)) cs w) b k cs J' tmps' ds' w' x
def CT (P:Program) (c:Code) (f:Fr) (H:Heap) (x:LX) (f' : Fr) (H' : Heap):Prop :=
 ∀ (J:Nat->RB) (w:World) (b:Frame) (tmps:Array Value) (ds:List Deferred) (k:List Item) (cs:List Frame),Sat J H w->FRel J H.n f b tmps ds ->
  ∃ J' w' tmps' ds',Moved J H w J' H' w'/\FRel J' H'.n f' b tmps' ds'/\ltX H'.n x/\Ends P (lone (yga0 b tmps ds (.code c::k)) cs w) b k cs J' tmps' ds' w' x
end Go.Proofs.YtnpbgnjiihecgaaGreat.Ev
namespace Go.Proofs.YtnpbgnjiihecgaaGreat.Ev
open Go
def ltFn (n:Nat):Fn->Prop
 | .yield l=>l<n
 | _=>True
mutual
def sameV (U:Nat->Nat):LV->LV->Prop
 | .junk,.junk=>True
 | .bool a,.bool b=>a=b
 | .int k a,.int k' b=>k=k'/\a=b
 | .str a,.str b=>a=b
 | .nilp,.nilp=>True
 | .ptr i o,.ptr j o'=>U i=j/\o=o'
 | .nils,.nils=>True
 | .slice i o l c,.slice j o' l' c'=>U i=j/\o=o'/\l=l'/\c=c'
 | .emp i,.emp j=>U i=j
 | .nilm,.nilm=>True
 | .map i,.map j=>U i=j
 | .func f a b,.func g c d=>yww0 U f g/\yid0 U a c/\yid0 U b d
 | .nilf,.nilf=>True
 | .iface t v,.iface t' v'=>t=t'/\sameV U v v'
 | .nili,.nili=>True
 | .agg a,.agg b=>yid0 U a b
 | .tup a,.tup b=>yid0 U a b
 | _,_=>False
def yid0 (U:Nat->Nat):List LV->List LV->Prop
 | [],[]=>True
 | a::as,b::bs=>sameV U a b/\yid0 U as bs
 | _,_=>False
def yww0 (U:Nat->Nat):Fn->Fn->Prop
 | .yield l,.yield m=>U l=m
 | .yield _,_=>False
 | _,.yield _=>False
 | f,g=>f=g
end
def yec0 (U:Nat->Nat):List Ent->List Ent->Prop
 | [],[]=>True
 | a::as,b::bs=>sameV U a.key b.key/\sameV U a.val b.val/\a.born=b.born/\yec0 U as bs
 | _,_=>False
def yva0 (U:Nat->Nat):LObj->LObj->Prop
 | .dead,_=>True
 | .cells e w cs,.cells e' w' cs'=>e=e'/\w=w'/\yid0 U cs cs'
 | .map es c,.map es' c'=>c=c'/\yec0 U es es'
 | .empty,.empty=>True
 | .strIter s p,.strIter s' p'=>s=s'/\p=p'
 | .loop st pe fn n t ps as bo d,.loop st' pe' fn' n' t' ps' as' bo' d'=>st=st'/\pe=pe'/\fn=fn'/\n=n'/\ps=ps'/\as=as'/\bo=bo'/\U d=d'/\∀ i,sameV U (t.get .junk i) (t'.get .junk i)
 | .defers a,.defers b=>a=b
 | .fmap es,.fmap es'=>es=es'
 | .miter m c,.miter m' c'=>U m=m'/\c=c'
 | .glob g cs,.glob g' cs'=>g=g'/\cs=cs'
 | .flat ks e w cs,.flat ks' e' w' cs'=>e=e'/\w=w'/\flatF ks cs=flatF ks' cs'
 | .flat ks e w cs,.cells e' w' cs'=>e=e'/\w=w'/\flatF ks cs=cs'
 | _,_=>False
def eqObj (U:Nat->Nat) (a b:LObj):Prop :=
 match a with
 | .dead=>match b with
  | .dead=>True
  | _=>False
 | a=>yva0 U a b
def yjk0 (U:Nat->Nat):LEnd->LEnd->Prop
 | .ret a,.ret b=>sameV U a b
 | .pan a,.pan b=>sameV U a b
 | _,_=>False
def over (U:Nat->Nat) (n N:Nat):Nat->Nat:=fun i=>if i<n then U i else N+(i-n)
def sameX (U:Nat->Nat):LX->LX->Prop
 | .normal,.normal=>True
 | .exit a,.exit b=>a=b
 | .ret,.ret=>True
 | .pan a,.pan b=>sameV U a b
 | _,_=>False
noncomputable def setL (t:Tr LV):List (Nat × LV)->Tr LV
 | []=>t
 | p::ps=>(setL t ps).set .junk p.2 p.1
noncomputable def Fr.ofL (g n:Nat) (L:List (Nat × LV)) (marks:List Nat) (round:Option Nat):Fr:=⟨g,n,setL .nil L,marks,round⟩
def frL (U:Nat->Nat) (f:Fr):List (Nat × LV)->Prop
 | []=>True
 | p::ps=>sameV U p.2 (f.get p.1)/\frL U f ps
def objL (U:Nat->Nat) (H:Heap):List LObj->Nat->Prop
 | [],_=>True
 | o::os,i=>yva0 U o (H.get (U i))/\objL U H os (i+1)
noncomputable section
def mapFn (U:Nat->Nat):Fn->Fn
 | .yield l=>.yield (U l)
 | f=>f
mutual
def mapV (U:Nat->Nat):LV->LV
 | .ptr i o=>.ptr (U i) o
 | .slice i o l c=>.slice (U i) o l c
 | .emp i=>.emp (U i)
 | .map i=>.map (U i)
 | .func f a b=>.func (mapFn U f) (mapVs U a) (mapVs U b)
 | .iface t v=>.iface t (mapV U v)
 | .agg cs=>.agg (mapVs U cs)
 | .tup vs=>.tup (mapVs U vs)
 | v=>v
def mapVs (U:Nat->Nat):List LV->List LV
 | []=>[]
 | v::vs=>mapV U v::mapVs U vs
end
def yco0 (U:Nat->Nat):List Ent->List Ent
 | []=>[]
 | e::es=>⟨mapV U e.key,mapV U e.val,e.born⟩::yco0 U es
def mapT (U:Nat->Nat):Tr LV->Tr LV
 | .nil=>.nil
 | .node v a b=>.node (mapV U v) (mapT U a) (mapT U b)
def ykk0 (U:Nat->Nat):LObj->LObj
 | .cells e w cs=>.cells e w (mapVs U cs)
 | .map es c=>.map (yco0 U es) c
 | .loop st pe fn n t ps as_ bo d=>.loop st pe fn n (mapT U t) ps as_ bo (U d)
 | .miter m c=>.miter (U m) c
 | o=>o
def ylk0 (U:Nat->Nat):List LObj->List LObj
 | []=>[]
 | o::os=>ykk0 U o::ylk0 U os
def yyt1 (U:Nat->Nat):LEnd->LEnd
 | .ret v=>.ret (mapV U v)
 | .pan v=>.pan (mapV U v)
mutual
def wfB (n:Nat):LV->Bool
 | .ptr i _=>Nat.blt i n
 | .slice i _ _ _=>Nat.blt i n
 | .emp i=>Nat.blt i n
 | .map i=>Nat.blt i n
 | .func f a b=>(match f with | .yield l=>Nat.blt l n | _=>true)&&wfsB n a&&wfsB n b
 | .iface _ v=>wfB n v
 | .agg cs=>wfsB n cs
 | .tup vs=>wfsB n vs
 | _=>true
def wfsB (n:Nat):List LV->Bool
 | []=>true
 | v::vs=>wfB n v&&wfsB n vs
end
def ymk0 (n:Nat):List Ent->Bool
 | []=>true
 | e::es=>wfB n e.key&&wfB n e.val&&ymk0 n es
def wfT (n:Nat):Tr LV->Bool
 | .nil=>true
 | .node v a b=>wfB n v&&(wfT n a&&wfT n b)
def ymh0 (n:Nat):LObj->Bool
 | .cells _ _ cs=>wfsB n cs
 | .map es _=>ymk0 n es
 | .loop _ _ _ _ t _ _ _ d=>wfT n t&&Nat.blt d n
 | .miter m _=>Nat.blt m n
 | _=>true
def yih0 (n:Nat):List LObj->Bool
 | []=>true
 | o::os=>ymh0 n o&&yih0 n os
def ynl0 (n:Nat):List (Nat × LV)->Bool
 | []=>true
 | p::ps=>wfB n p.2&&ynl0 n ps
structure Con where
 g:FuncId
 xs:List LV
 os:List LObj
 e:LEnd
 os' : List LObj
def Con.holds (P:Program) (C:Con):Prop:=HT P C.g C.xs (Heap.of C.os) C.e (Heap.of C.os')
def at_ (l:List Nat) (i:Nat):Nat:=l.getD i 0
def distinct:List Nat->Bool
 | []=>true
 | x::xs=>(xs.all fun y=>!Nat.beq x y)&&distinct xs
def ypd0 (n:Nat):List Nat->Bool
 | []=>true
 | x::xs=>Nat.blt x n&&ypd0 n xs
def Con.fit (C:Con) (l:List Nat) (n:Nat):Bool :=
 Nat.beq l.length C.os.length&&Nat.ble C.os.length C.os'.length&&distinct l&&ypd0 n l&&yih0 C.os.length C.os&&wfsB C.os.length C.xs&&yih0 C.os'.length C.os'
def Con.map (C:Con) (l:List Nat) (n:Nat):Nat->Nat:=over (at_ l) C.os.length n
def Con.us (C:Con) (l:List Nat) (n:Nat):List (Nat × LObj):=l.zip (ylk0 (C.map l n) (C.os'.take C.os.length))
def Con.ns (C:Con) (l:List Nat) (n:Nat):List LObj:=ylk0 (C.map l n) (C.os'.drop C.os.length)
structure LCon where
 L:List (Nat × LV)
 os:List LObj
 x:LX
 L' : List (Nat × LV)
 os' : List LObj
def LCon.holds (P:Program) (c:Code) (g n:Nat) (C:LCon):Prop:=CT P c (Fr.ofL g n C.L [] none) (Heap.of C.os) C.x (Fr.ofL g n C.L' [] none) (Heap.of C.os')
def isNil {Z:Type} : List Z->Bool
 | []=>true
 | _=>false
def LCon.fit (C:LCon) (f:Fr) (n:Nat):Bool :=
 Nat.beq C.os.length n&&Nat.ble n C.os'.length&&yih0 n C.os&&yih0 C.os'.length C.os'&&ynl0 n C.L&&isNil f.marks&&f.round.isNone
def ydo0:List LObj->Nat->List (Nat × LObj)
 | [],_=>[]
 | o::os,i=>(i,o)::ydo0 os (i+1)
end
end Go.Proofs.YtnpbgnjiihecgaaGreat.Ev
namespace Go.Proofs.YtnpbgnjiihecgaaGreat.Ev
open Go
noncomputable section
inductive Dir where
 | auto (n:Nat)
 | take (b:Bool)
 | val (v:LV) (us:List (Nat × LObj)) (ns:List LObj) (k:Kd)
 | call (e:LEnd) (us:List (Nat × LObj)) (ns:List LObj)
 | code (x:LX) (f:Fr) (us:List (Nat × LObj)) (ns:List LObj)
 | use (C:Con) (l:List Nat)
 | loop (C:LCon)
 | pure (e:LEnd)
 | valp (v:LV)
 | ldp (v:LV) (i:Nat)
 | stp (v:LV) (i:Nat) (o:LObj)
 | stop
structure S where
 ds:List Dir
 ob:Prop
inductive R (Z:Type) where
 | ok (a:Z) (s:S)
 | bad (why:Nat)
 | pause (s:S)
def R.bnd {Z β:Type} (r:R Z) (f:Z->S->R β):R β:=@R.rec Z (fun _=>R β) f (fun w=>.bad w) (fun s=>.pause s) r
@[simp] theorem R.bnd_ok {Z β:Type} (a:Z) (s:S) (f:Z->S->R β):(R.ok a s).bnd f=f a s:=rfl
@[simp] theorem R.bnd_bad {Z β:Type} (w:Nat) (f:Z->S->R β):(R.bad w).bnd f=.bad w:=rfl
@[simp] theorem R.bnd_pause {Z β:Type} (s:S) (f:Z->S->R β):(R.pause s).bnd f=.pause s:=rfl
def popD (l:List Dir):Dir × List Dir :=
 match l with
 | []=>(.auto 0,[])
 | .auto 0::ds=>popD ds
 | .auto (m+1)::ds=>(.auto 0,.auto m::ds)
 | d::ds=>(d,ds)
def yym0 (b:Bool) (s:S):R Bool :=
 match popD s.ds with
 | (.auto _,ds)=>bc b (.ok true ⟨ds,s.ob⟩) (.ok false ⟨ds,s.ob⟩)
 | (.take d,ds)=>.ok d ⟨ds,b=d/\s.ob⟩
 | (.stop,_)=>.pause s
 | _=>.bad 1
abbrev CallF:=Fn->List LV->Heap->S->R (LEnd × Heap)
def dstOf (l:List Oper):Nat->Option Tmp :=
 @List.rec Oper (fun _=>Nat->Option Tmp) (fun _=>none) (fun o _ g i=>@Nat.rec (fun _=>Option Tmp) o.dst (fun j _=>g j) i) l
def wantB (d:Tmp) (want:Bool) (f:Fr) (s:S):LV->R (Bool × Fr)
 | .bool b=>(yym0 b s).bnd fun c s'=>.ok (c == want,f.set d (.bool c)) s'
 | .tup []=>.ok (false,f) s
 | _=>.bad 3
def wanted (ops:List Oper) (o:Oper) (f:Fr) (s:S):R (Bool × Fr) :=
 match o.guard with
 | none=>.ok (true,f) s
 | some (j,want)=>match dstOf ops j with
  | none=>.bad 2
  | some d=>wantB d want f s (f.get d)
def yte0:List LV->Option (Fn × List LV)
 | .func fn first captured::args=>bc (yek0 args) (match fn with
  | .func _=>some (fn,app first (app args captured))
  | .yield _=>match captured with
   | []=>some (fn,app first args)
   | _=>none
  | _=>none) none
 | _=>none
def ydd0:Op->Bool
 | .call c=>match c.callee with
  | .value _=>true
  | _=>false
 | _=>false
inductive OpEnd where
 | val (v:LV) (k:Kd)
 | pan (v:LV)
def endOf:LEnd->OpEnd
 | .ret v=>.val v .change
 | .pan v=>.pan v
def yzt1 (call:CallF) (H:Heap) (s:S):Option (Fn × List LV)->R (OpEnd × Heap)
 | some (fn,args)=>(call fn args H s).bnd fun e s'=>.ok (endOf e.1,e.2) s'
 | none=>.bad 4
def doLop (s:S):Option OpR->R (OpEnd × Heap)
 | some r=>.ok (.val r.v r.k,r.H) s
 | none=>.bad 5
def hasBody (P:Program) (g:FuncId):Bool :=
 match P.funcs[g]? with
 | some fu=>fu.body.isSome
 | none=>false
def yeu2 (P:Program) (op:Op) (xs:List LV) (v:LV):Prop:=∀ H,lop P op xs H=some ⟨v,H,.pure⟩
def yfu2 (P:Program) (op:Op) (xs:List LV) (v:LV) (i:Nat) (o:LObj):Prop:=∀ H:Heap,H.get i=o->lop P op xs H=some ⟨v,H,.load i⟩
def ynm2 (P:Program) (op:Op) (xs:List LV) (v:LV) (i:Nat) (o o' : LObj):Prop:=∀ H:Heap,H.get i=o->lop P op xs H=some ⟨v,H.upd [(i,o')] [],.change⟩
def doOp (P:Program) (call:CallF) (op:Op) (xs:List LV) (H:Heap) (s:S):R (OpEnd × Heap) :=
 match popD s.ds with
 | (.auto _,ds)=>bc (ydd0 op) (yzt1 call H ⟨ds,s.ob⟩ (yte0 xs)) (doLop ⟨ds,s.ob⟩ (lop P op xs H))
 | (.val v us ns k,ds)=>bc (ydd0 op) (.bad 6) (.ok (.val v k,H.upd us ns) ⟨ds,lop P op xs H=some ⟨v,H.upd us ns,k⟩/\s.ob⟩)
 | (.call e us ns,ds)=>bc (ydd0 op) (match yte0 xs with
   | some (.func g,args)=>bc (hasBody P g) (.ok (endOf e,H.upd us ns) ⟨ds,HT P g args H e (H.upd us ns)/\s.ob⟩) (.bad 6)
   | _=>.bad 7) (.bad 8)
 | (.use C l,ds)=>bc (ydd0 op) (match yte0 xs with
   | some (.func g,args)=>bc (hasBody P g&&Nat.beq g C.g&&C.fit l H.n) (.ok (endOf (yyt1 (C.map l H.n) C.e),H.upd (C.us l H.n) (C.ns l H.n))
     ⟨ds,C.holds P/\yid0 (at_ l) C.xs args/\objL (at_ l) H C.os 0/\s.ob⟩) (.bad 50)
   | _=>.bad 7) (.bad 8)
 | (.pure e,ds)=>bc (ydd0 op) (match yte0 xs with
   | some (.func g,args)=>bc (hasBody P g) (.ok (endOf e,H) ⟨ds,(∀ H,HT P g args H e H)/\s.ob⟩) (.bad 50)
   | _=>.bad 7) (.bad 8)
 | (.valp v,ds)=>bc (ydd0 op) (.bad 6) (.ok (.val v .pure,H) ⟨ds,yeu2 P op xs v/\s.ob⟩)
 | (.ldp v i,ds)=>bc (ydd0 op) (.bad 6) (.ok (.val v (.load i),H) ⟨ds,yfu2 P op xs v i (H.get i)/\s.ob⟩)
 | (.stp v i o,ds)=>bc (ydd0 op) (.bad 6) (.ok (.val v .change,H.upd [(i,o)] []) ⟨ds,ynm2 P op xs v i (H.get i) o/\s.ob⟩)
 | (.stop,_)=>.pause s
 | _=>.bad 9
abbrev EvF:=Fr->Heap->S->R (LX × Fr × Heap)
def putK {Z:Type} (o:Option Fr) (k:Fr->R Z):R Z:=@Option.rec Fr (fun _=>R Z) (.bad 10) k o
def behind (o:Oper) (f:Fr) (next:EvF) (H:Heap) (s:S):OpEnd->R (LX × Fr × Heap)
 | .val v _=>putK (f.put o.dst v) fun f'=>next f' H s
 | .pan v=>.ok (.pan v,f,H) s
def evOp (P:Program) (call:CallF) (all:List Oper) (o:Oper) (next:EvF):EvF:=fun f H s =>
 (wanted all o f s).bnd fun wf s=>bc wf.1
  ((doOp P call o.op (wf.2.evs (opds o.op)) H s).bnd fun r s=>behind o wf.2 next r.2 s r.1)
  (putK (wf.2.put o.dst yfe0) fun f'=>next f' H s)
def evEnd:EvF:=fun f H s=>.ok (.normal,f,H) s
def evOps (P:Program) (call:CallF) (all l:List Oper):EvF :=
 @List.rec Oper (fun _=>EvF) evEnd (fun o _ next=>evOp P call all o next) l
structure Did where
 k:Kd
 a:Heap
 b:Heap
abbrev EvD:=Fr->Heap->S->R (Fr × Heap × List Did)
def ybi1 (o:Oper) (f:Fr) (next:EvD) (H H' : Heap) (s:S):OpEnd->R (Fr × Heap × List Did)
 | .val v k=>putK (f.put o.dst v) fun f'=>(next f' H' s).bnd fun r s=>.ok (r.1,r.2.1,⟨k,H,H'⟩::r.2.2) s
 | .pan _=>.bad 12
def evOpD (P:Program) (call:CallF) (all:List Oper) (o:Oper) (next:EvD):EvD:=fun f H s =>
 (wanted all o f s).bnd fun wf s=>bc wf.1
  ((doOp P call o.op (wf.2.evs (opds o.op)) H s).bnd fun r s=>ybi1 o wf.2 next H r.2 s r.1)
  (putK (wf.2.put o.dst yfe0) fun f'=>(next f' H s).bnd fun r s=>.ok (r.1,r.2.1,⟨.pure,H,H⟩::r.2.2) s)
def ygu2:EvD:=fun f H s=>.ok (f,H,[]) s
def ykf1 (P:Program) (call:CallF) (all l:List Oper):EvD :=
 @List.rec Oper (fun _=>EvD) ygu2 (fun o _ next=>evOpD P call all o next) l
def bitsOf (acc:List Nat):List Edge->Nat->Nat
 | [],b=>b
 | e::es,b=>bitsOf acc es (bc (Region.binds .any e) (b ||| 2 ^ e.on ||| (acc.getD e.on 0)) b)
def yug0:List Oper->List Nat->List Nat
 | [],acc=>acc
 | o::os,acc=>yug0 os (app acc [bitsOf acc o.after.toList 0])
def ygd0 (ops:List Oper):List Nat:=yug0 ops []
def yrf0:List Oper->Nat->Bool
 | [],_=>true
 | o::os,i=>(o.after.toList.all fun e=>!Region.binds .any e||Nat.blt e.on i)&&yrf0 os (i+1)
def looks (ops:List Oper) (o:Oper):List Tmp :=
 app ((opds o.op).filterMap fun | .tmp t=>some t | _=>none) (match o.guard with
  | some (j,_)=>optOf (dstOf ops j)
  | none=>[])
def hasN:List Nat->Nat->Bool
 | [],_=>false
 | x::xs,t=>bc (Nat.beq x t) true (hasN xs t)
def tied (ops:List Oper) (x y:Oper):Bool :=
 (match x.dst with
  | some d=>hasN (looks ops y) d||(match y.dst with | some e=>Nat.beq d e | none=>false)
  | none=>false) ||
 (match y.dst with
  | some e=>hasN (looks ops x) e
  | none=>false)
def yci1 (ops:List Oper) (y:Oper) (m:Nat):List Oper->Nat->Bool
 | [],_=>true
 | x::xs,i=>(!tied ops x y||m.testBit i)&&yci1 ops y m xs (i+1)
def ydi1 (ops:List Oper):List Oper->List Oper->List Nat->Bool
 | _,[],_=>true
 | done,y::ys,m::ms=>yci1 ops y m done 0&&ydi1 ops (app done [y]) ys ms
 | _,_::_,[]=>false
def yvg0 (ops:List Oper):Bool:=yrf0 ops 0&&ydi1 ops [] ops (ygd0 ops)
def yff0 (x y:Did):Bool :=
 match x.k,y.k with
 | .change,.change=>false
 | .change,.load i=>Nat.blt i x.a.n&&Nat.beq (x.a.slot i).stamp (x.b.slot i).stamp
 | .load i,.change=>Nat.blt i y.a.n&&Nat.beq (y.a.slot i).stamp (y.b.slot i).stamp
 | _,_=>true
def yjd0 (x y:Did):Bool :=
 match x.k,y.k with
 | .change,.change=>true
 | _,_=>false
def ynq0 (i m:Nat):Bool:=!m.testBit i||Nat.beq (m &&& (2 ^ i-1)) (2 ^ i-1)
def yei1 (o:Oper):Bool :=
 match o.op with
 | .alloc _=>match o.guard with
  | none=>match o.dst with
   | some _=>true
   | none=>false
  | some _=>false
 | _=>false
def yom2 (o:Oper):Bool :=
 match o.op with
 | .makeSlice _ _ _=>match o.guard with
  | none=>match o.dst with
   | some _=>true
   | none=>false
  | some _=>false
 | _=>false
def yzm0 (o:Oper):Bool:=yei1 o||yom2 o
def yeo0 (ms:List Nat):List Oper->Nat->Nat
 | [],_=>0
 | o::os,i=>Nat.lor (bc (yzm0 o&&ms.all (ynq0 i)) (Nat.pow 2 i) 0) (yeo0 ms os (i+1))
def ygg0 (ops:List Oper):Nat:=yeo0 (ygd0 ops) ops 0
def didOk (lt:Bool) (y:Did) (m:Nat):List Did->Nat->Bool
 | [],_=>true
 | x::xs,i=>(m.testBit i||(yff0 x y||(lt&&yjd0 x y)))&&didOk lt y m xs (i+1)
def ynk0 (late:Nat):List Did->List Did->List Nat->Bool
 | _,[],_=>true
 | done,y::ys,m::ms=>didOk (Nat.testBit late (lenL done)) y m done 0&&ynk0 late (app done [y]) ys ms
 | _,_::_,[]=>false
def loopN (body:EvF) (k:Nat):EvF :=
 @Nat.rec (fun _=>EvF) (fun _ _ _=>.bad 15) (fun _ again f H s=>(body f H s).bnd fun r s'=>match r.1 with
  | .normal=>again r.2.1 r.2.2 s'
  | x=>.ok (x,r.2.1,r.2.2) s') k
def pend:Option Code->Option LX
 | none=>some .normal
 | some .ret=>some .ret
 | some (.exit id)=>some (.exit id)
 | some _=>none
def evSeq (a b:EvF):EvF:=fun f H s=>(a f H s).bnd fun r s'=>match r.1 with
 | .normal=>b r.2.1 r.2.2 s'
 | x=>.ok (x,r.2.1,r.2.2) s'
def ylf1 (c:Operand) (a b:EvF):EvF:=fun f H s=>match f.ev c with
 | .bool v=>(yym0 v s).bnd fun t s'=>bc t (a f H s') (b f H s')
 | _=>.bad 20
def yxw0 (id:Nat) (c:EvF):EvF:=fun f H s=>(c f H s).bnd fun r s'=>match r.1 with
 | .exit id'=>bc (Nat.beq id' id) (.ok (.normal,r.2.1,r.2.2) s') (.ok (.exit id',r.2.1,r.2.2) s')
 | x=>.ok (x,r.2.1,r.2.2) s'
def yfo0 (P:Program) (call:CallF) (ops:List Oper) (draw:Bool):EvF:=fun f H s =>
 bc draw ((ykf1 P call ops ops f H s).bnd fun r s'=>bc (yvg0 ops) (bc (ynk0 (ygg0 ops) [] r.2.2 (ygd0 ops)) (.ok (.normal,r.1,r.2.1) s') (.bad 18)) (.bad 19))
  (evOps P call ops ops f H s)
def ymf1 (P:Program) (lf:Nat) (c:Code) (body:EvF):EvF:=fun f H s =>
 match popD s.ds with
 | (.auto _,ds)=>loopN body lf f H ⟨ds,s.ob⟩
 | (.code x f' us ns,ds)=>.ok (x,f',H.upd us ns) ⟨ds,CT P (.loop c) f H x f' (H.upd us ns)/\s.ob⟩
 | (.loop C,ds)=>bc (C.fit f H.n) (.ok (C.x,Fr.ofL f.fn f.n C.L' [] none,H.upd (ydo0 (C.os'.take H.n) 0) (C.os'.drop H.n)) ⟨ds,C.holds P (.loop c) f.fn f.n/\frL id f C.L/\objL id H C.os 0/\s.ob⟩) (.bad 51)
 | (.stop,_)=>.pause s
 | _=>.bad 21
def ygf0 (f:Fr) (H:Heap):Option (Heap × Nat × List Nat) :=
 match f.round with
 | none=>some (H.push (.defers false),H.n,H.n::f.marks)
 | some l=>match H.get l with
  | .loop _ _ _ _ _ _ _ _ d=>some (H,d,f.marks)
  | _=>none
def ygs0 (f:Fr) (l:Nat) (H:Heap) (s:S):LEnd->R (LX × Fr × Heap)
 | .pan v=>.ok (.pan v,f,H) s
 | .ret _=>match H.get l with
  | .loop .busy _ _ _ _ _ _ _ _=>.bad 22
  | .loop _ pe fn n t ps as bo d=>match pend pe with
   | some x=>.ok (x,f,H.put l (.loop .exhausted pe fn n t ps as bo d)) s
   | none=>.bad 23
  | _=>.bad 24
def ygo0 (call:CallF) (g:Operand) (ps:List Tmp) (assign body:Code):EvF:=fun f H s =>
 match f.ev g with
 | .func (.func g) first captured=>match ygf0 f H with
  | some (H1,d,marks)=>(call (.func g) (app first (app [.func (.yield H1.n) [] []] captured)) (H1.push (.loop .ready none f.fn f.n f.t ps assign body d)) s).bnd fun r s' =>
    ygs0 { f with marks:=marks } H1.n r.2 s' r.1
  | none=>.bad 25
 | _=>.bad 26
def evC (P:Program) (call:CallF) (lf:Nat) (c:Code):EvF :=
 @Code.rec (fun _=>EvF) evEnd (fun _ ops draw=>yfo0 P call ops.toList draw) (fun _ _ a b=>evSeq a b) (fun c _ _ a b=>ylf1 c a b)
  (fun id _ b=>yxw0 id b) (fun c b=>ymf1 P lf c b) (fun g ps assign body _ _=>ygo0 call g ps.toList assign body)
  (fun id f H s=>.ok (.exit id,f,H) s) (fun _ b=>b) (fun _=>evEnd) (fun _ _ _ _=>.bad 16) (fun f H s=>.ok (.ret,f,H) s) (fun _ _ _ _=>.bad 17) c
def yyw0 (n:Nat) (t:Tr LV):List Nat->List LV->Option (Tr LV)
 | [],[]=>some t
 | p::ps,v::vs=>bc (Nat.blt p n) (yyw0 n (t.set .junk v p) ps vs) none
 | _,_=>none
def yyf0 (t:Tr LV) (i:Nat):List LV->Tr LV
 | []=>t
 | v::vs=>yyf0 (t.set .junk v i) (i+1) vs
def yzw0 (P:Program) (f:Fr) (H:Heap):ResultVar->Option LV
 | .tmp t=>let v:=f.get t;bc (yta0 v) none (some v)
 | .cell a t=>loadL P t H (f.get a)
def ywg0 (P:Program) (f:Fr) (H:Heap):List ResultVar->Option (List LV)
 | []=>some []
 | r::rs=>match yzw0 P f H r with
  | none=>none
  | some v=>match ywg0 P f H rs with
   | none=>none
   | some vs=>some (v::vs)
def oneOf:List LV->LV
 | [v]=>v
 | vs=>.tup vs
def yxg0 (H:Heap):List Nat->Option Heap
 | []=>some H
 | d::ds=>match H.get d with
  | .defers false=>yxg0 (H.put d (.defers true)) ds
  | _=>none
def leave (P:Program) (fu:Func) (f:Fr) (H:Heap) (s:S):LX->R (LEnd × Heap)
 | .exit _=>.bad 34
 | .pan v=>.ok (.pan v,H) s
 | _=>match ywg0 P f H fu.results.toList with
  | some vs=>.ok (.ret (oneOf vs),H) s
  | none=>.bad 35
def ynf1 (P:Program) (ev:Code->EvF) (g:FuncId) (fu:Func) (args:List LV) (H:Heap) (s:S):R (LEnd × Heap) :=
 match fu.body with
 | none=>.bad 32
 | some c=>(ev c ⟨g,max fu.ntmps (lenL args),yyf0 .nil 0 args,[],none⟩ H s).bnd fun r s'=>match yxg0 r.2.2 r.2.1.marks with
  | none=>.bad 33
  | some H2=>leave P fu r.2.1 H2 s' r.1
def hasFn (P:Program) (g:FuncId):Bool :=
 match P.funcs[g]? with
 | some _=>true
 | none=>false
def yhs0 (P:Program) (g:FuncId) (l:Nat) (H:Heap) (x:LX) (s:S):LObj->R (LEnd × Heap)
 | .loop .busy _ fn n t ps as bo d=>match x with
  | .normal=>.ok (.ret (.bool true),H.put l (.loop .ready none fn n t ps as bo d)) s
  | .ret=>.ok (.ret (.bool false),H.put l (.loop .done (some .ret) fn n t ps as bo d)) s
  | .exit id=>.ok (.ret (.bool false),H.put l (.loop .done (some (.exit id)) fn n t ps as bo d)) s
  | .pan v=>bc (hasFn P g) (.ok (.pan v,H) s) (.bad 40)
 | _=>.bad 38
def yax0 (P:Program) (ev:Code->EvF) (l:Nat) (args:List LV) (H:Heap) (s:S):LObj->R (LEnd × Heap)
 | .loop .ready _ fn n t ps as bo _=>match yyw0 n t ps args with
  | none=>.bad 36
  | some t'=>(ev as ⟨fn,n,t',[],some l⟩ H s).bnd fun r s=>match r.1,r.2.2.get l with
   | .normal,.loop .ready pe fn n t ps as' bo' d=>(ev bo r.2.1 (r.2.2.put l (.loop .busy pe fn n t ps as' bo' d)) s).bnd fun q s=>match q.2.1.marks with
    | []=>yhs0 P q.2.1.fn l q.2.2 q.1 s (q.2.2.get l)
    | _=>.bad 37
   | _,_=>.bad 39
 | _=>.bad 41
def evFn (P:Program) (ev:Code->EvF) (fn:Fn) (args:List LV) (H:Heap) (s:S):R (LEnd × Heap) :=
 match fn with
 | .func g=>match P.funcs[g]? with
  | none=>.bad 31
  | some fu=>ynf1 P ev g fu args H s
 | .yield l=>yax0 P ev l args H s (H.get l)
 | _=>.bad 42
def evF (P:Program) (lf:Nat) (k:Nat):CallF :=
 @Nat.rec (fun _=>CallF) (fun _ _ _ _=>.bad 30) (fun _ call=>evFn P (evC P call lf)) k
def run (P:Program) (k lf:Nat) (g:FuncId) (args:List LV) (H:Heap):R (LEnd × Heap):=evF P lf k (.func g) args H ⟨[],True⟩
end
end Go.Proofs.YtnpbgnjiihecgaaGreat.Ev
namespace Go.Proofs.YtnpbgnjiihecgaaGreat.Ev
open Go
theorem bc_eq {Z:Type} (c:Bool) (x y:Z):bc c x y=if c=true then x else y:=by cases c <;> rfl
theorem ybx0 {Z:Type} {c:Bool} {x:Option Z} {v:Z} (h:bc c x none=some v):c=true/\x=some v:=by
 cases c
 .cases h
 .exact ⟨rfl,h⟩
theorem yis0 {Z:Type} {c:Bool} {x:Option Z} {v:Z} (h:bc c none x=some v):c=false/\x=some v:=by
 cases c
 .exact ⟨rfl,h⟩
 .cases h
theorem yaa0 {Z:Type} {c:Bool} {x:Option Z} {v:Z} (h:(bif c then x else none)=some v):c=true/\x=some v:=by
 cases c
 .cases h
 .exact ⟨rfl,h⟩
theorem yna0 {Z:Type} {c:Bool} {x:Option Z} {v:Z} (h:(bif c then none else x)=some v):c=false/\x=some v:=by
 cases c
 .exact ⟨rfl,h⟩
 .cases h
theorem beqN {a b:Nat} (h:Nat.beq a b=true):a=b:=Nat.eq_of_beq_eq_true h
theorem yxb0 {a b:Nat} (h:Nat.beq a b=false):a≠b:=by
 intro e;subst e;simp at h
theorem bltN {a b:Nat} : Nat.blt a b=true↔a<b:=by simp [Nat.blt];omega
namespace Tr
variable {Z:Type} (d x:Z)
theorem get_nil (i:Nat):(nil:Tr Z).get d i=d:=rfl
theorem get_node (v:Z) (l r:Tr Z) (i:Nat):(node v l r).get d i=if i=0 then v else if i % 2=1 then l.get d (i / 2) else r.get d (i / 2-1):=by
 show bc (Nat.beq i 0) v (bc (Nat.beq (Nat.mod i 2) 1) (l.get d (Nat.div i 2)) (r.get d (Nat.pred (Nat.div i 2))))=_;rw [bc_eq,bc_eq];simp only [Nat.beq_eq];rfl
theorem one_succ (k i:Nat):one d x (k+1) i=if i=0 then .node x .nil .nil else if i % 2=1 then .node d (one d x k (i / 2)) .nil else .node d .nil (one d x k (i / 2-1)):=by
 show bc (Nat.beq i 0) _ (bc (Nat.beq (Nat.mod i 2) 1) (Tr.node d (one d x k (Nat.div i 2)) .nil) (Tr.node d .nil (one d x k (Nat.pred (Nat.div i 2)))))=_;rw [bc_eq,bc_eq];simp only [Nat.beq_eq];rfl
theorem set_nil (i:Nat):(nil:Tr Z).set d x i=one d x (i+1) i:=rfl
theorem set_node (v:Z) (l r:Tr Z) (i:Nat):(node v l r).set d x i=if i=0 then .node x l r else if i % 2=1 then .node v (l.set d x (i / 2)) r else .node v l (r.set d x (i / 2-1)):=by
 show bc (Nat.beq i 0) _ (bc (Nat.beq (Nat.mod i 2) 1) (Tr.node v (l.set d x (Nat.div i 2)) r) (Tr.node v l (r.set d x (Nat.pred (Nat.div i 2)))))=_;rw [bc_eq,bc_eq];simp only [Nat.beq_eq];rfl
theorem get_one:∀ (k i j:Nat),i<k->(one d x k i).get d j=if i=j then x else d
 | 0,_,_,h=>by omega
 | k+1,i,j,h=>by
  rw [one_succ];by_cases hi:i=0
  .subst hi;simp only [if_true,get_node,get_nil];by_cases hj:j=0
   .subst hj;simp
   .simp [hj,Ne.symm hj]
  .simp only [hi,if_false];by_cases ho:i % 2=1
   .simp only [ho,if_true,get_node,get_nil];rw [get_one k (i / 2) (j / 2) (by omega)];by_cases hj:j=0
    .subst hj;simp [hi]
    .simp only [hj,if_false];by_cases hjo:j % 2=1
     .simp only [hjo,if_true];by_cases e:i=j
      .subst e;simp
      .rw [if_neg (by omega),if_neg e]
     .simp only [hjo,if_false];rw [if_neg (by intro e;subst e;exact hjo ho)]
   .simp only [ho,if_false,get_node,get_nil];rw [get_one k (i / 2-1) (j / 2-1) (by omega)];by_cases hj:j=0
    .subst hj;simp [hi]
    .simp only [hj,if_false];by_cases hjo:j % 2=1
     .simp only [hjo,if_true];rw [if_neg (by intro e;subst e;exact ho hjo)]
     .simp only [hjo,if_false];by_cases e:i=j
      .subst e;simp
      .rw [if_neg (by omega),if_neg e]
theorem get_set:∀ (t:Tr Z) (i j:Nat),(t.set d x i).get d j=if i=j then x else t.get d j
 | .nil,i,j=>by rw [set_nil,get_one d x (i+1) i j (by omega),get_nil]
 | .node v l r,i,j=>by
  rw [set_node];by_cases hi:i=0
  .subst hi;simp only [if_true,get_node];by_cases hj:j=0
   .subst hj;simp
   .simp [hj,Ne.symm hj]
  .simp only [hi,if_false];by_cases ho:i % 2=1
   .simp only [ho,if_true,get_node];rw [get_set l (i / 2) (j / 2)];by_cases hj:j=0
    .subst hj;simp [hi]
    .simp only [hj,if_false];by_cases hjo:j % 2=1
     .simp only [hjo,if_true];by_cases e:i=j
      .subst e;simp
      .rw [if_neg (by omega),if_neg e]
     .simp only [hjo,if_false];rw [if_neg (by intro e;subst e;exact hjo ho)]
   .simp only [ho,if_false,get_node];rw [get_set r (i / 2-1) (j / 2-1)];by_cases hj:j=0
    .subst hj;simp [hi]
    .simp only [hj,if_false];by_cases hjo:j % 2=1
     .simp only [hjo,if_true];rw [if_neg (by intro e;subst e;exact ho hjo)]
     .simp only [hjo,if_false];by_cases e:i=j
      .subst e;simp
      .rw [if_neg (by omega),if_neg e]
end Tr
theorem yau1:∀ (l:List LV) (i:Nat),nth l i=l[i]?
 | [],_=>rfl
 | _::_,0=>rfl
 | _::vs,i+1=>by show nth vs i=_;rw [yau1 vs i];simp
theorem yjs0:∀ (l:List LV) (i:Nat) (x:LV),yxt1 l i x=l.set i x
 | [],_,_=>rfl
 | _::_,0,_=>rfl
 | v::vs,i+1,x=>by show v::yxt1 vs i x=_;rw [yjs0 vs i x];rfl
theorem yue0:∀ (l:List LV) (n:Nat),takeN l n=l.take n
 | [],_=>by simp;rfl
 | _::_,0=>rfl
 | v::vs,n+1=>by show v::takeN vs n=_;rw [yue0 vs n];rfl
theorem yve0:∀ (l:List LV) (n:Nat),dropN l n=l.drop n
 | [],_=>by simp;rfl
 | _::_,0=>rfl
 | _::vs,n+1=>by show dropN vs n=_;rw [yve0 vs n];rfl
theorem lenL_eq {Z:Type} : ∀ (l:List Z),lenL l=l.length
 | []=>rfl
 | _::vs=>by show lenL vs+1=_;rw [lenL_eq vs];rfl
theorem app_eq {Z:Type} : ∀ (l m:List Z),app l m=l++m
 | [],_=>rfl
 | x::xs,m=>by show x::app xs m=_;rw [app_eq xs m];rfl
theorem yfb2:∀ (l:List UInt8) (i:Nat),nthB l i=l[i]?
 | [],_=>rfl
 | _::_,0=>rfl
 | _::vs,i+1=>by show nthB vs i=_;rw [yfb2 vs i];simp
theorem yks0:∀ (l:List UInt8) (n:Nat),takeB l n=l.take n
 | [],_=>by simp;rfl
 | _::_,0=>rfl
 | v::vs,n+1=>by show v::takeB vs n=_;rw [yks0 vs n];rfl
theorem yfi1:∀ (l:List UInt8) (n:Nat),dropB l n=l.drop n
 | [],_=>by simp;rfl
 | _::_,0=>rfl
 | _::vs,n+1=>by show dropB vs n=_;rw [yfi1 vs n];rfl
theorem ykd0:∀ (l:List UInt8),ofBytes l=l.map fun b=>.int .u8 b.toNat
 | []=>rfl
 | b::l=>by show LV.int .u8 b.toNat::ofBytes l=_;rw [ykd0 l];rfl
theorem ykj0 (z:List LV) (n:Nat):yqb0 z (n+1)=z++yqb0 z n:=by
 show app z (yqb0 z n)=_;rw [app_eq]
theorem yok0 (z:List LV):∀ n,(yqb0 z n).length=n*z.length
 | 0=>by simp [show yqb0 z 0=[] from rfl]
 | n+1=>by rw [ykj0,List.length_append,yok0 z n,Nat.succ_mul];omega
theorem yho0 (cs:List LV) (o:Nat) (v:LV) (vs:List LV):yua0 cs o (v::vs)=yua0 (yxt1 cs o v) (o+1) vs:=rfl
theorem yzb0:∀ (vs cs:List LV) (o:Nat),o+vs.length<=cs.length->yua0 cs o vs=cs.take o++vs++cs.drop (o+vs.length)
 | [],cs,o,_=>by simp [show yua0 cs o []=cs from rfl]
 | v::vs,cs,o,h=>by
  simp only [List.length_cons] at h;rw [yho0,yjs0,yzb0 vs (cs.set o v) (o+1) (by simp;omega)];have ho:o<cs.length:=by omega
  rw [List.take_succ_eq_append_getElem (by simpa using ho),List.take_set_of_le (Nat.le_refl _),List.getElem_set_self];rw [show o+1+vs.length=o+(v::vs).length by simp;omega,List.drop_set_of_lt (by simp)];simp
theorem yac0 (cs:List LV) (o:Nat) (vs:List LV) (h:o+vs.length<=cs.length):(yua0 cs o vs).length=cs.length:=by
 rw [yzb0 vs cs o h];simp;omega
theorem yoq0 (v:LV) (vs:List LV):yek0 (v::vs)=true↔yta0 v=false/\yek0 vs=true:=by
 show bc (yta0 v) false (yek0 vs)=true↔_;cases yta0 v <;> simp
theorem yof1 (v:LV) (vs:List LV):yse0 (v::vs)=true↔ywm0 v=true/\yse0 vs=true:=by
 show bc (ywm0 v) (yse0 vs) false=true↔_;cases ywm0 v <;> simp
theorem yhg0:∀ {l:List LV},yse0 l=true->∀ v∈l,ywm0 v=true
 | [],_,_,h=>by cases h
 | x::xs,h,v,hv=>by
  obtain ⟨a,b⟩:=(yof1 x xs).1 h;cases hv with
  | head=>exact a
  | tail _ hv=>exact yhg0 b v hv
theorem Heap.n_push (H:Heap) (o:LObj):(H.push o).n=H.n+1:=rfl
theorem Heap.n_put (H:Heap) (i:Nat) (o:LObj):(H.put i o).n=H.n:=rfl
theorem Heap.slot_push (H:Heap) (o:LObj) (i:Nat):(H.push o).slot i=if H.n=i then ⟨0,o⟩ else H.slot i:=Tr.get_set Slot.none _ H.t H.n i
theorem Heap.slot_put (H:Heap) (j:Nat) (o:LObj) (i:Nat):(H.put j o).slot i=if j=i then ⟨(H.slot j).stamp+1,o⟩ else H.slot i:=Tr.get_set Slot.none _ H.t j i
theorem Heap.get_push (H:Heap) (o:LObj) (i:Nat):(H.push o).get i=if H.n=i then o else H.get i:=by
 unfold Heap.get;rw [Heap.slot_push];split <;> rfl
theorem Heap.get_push_new (H:Heap) (o:LObj):(H.push o).get H.n=o:=by rw [Heap.get_push];simp
theorem Heap.get_push_old {H:Heap} {o:LObj} {i:Nat} (h:i<H.n):(H.push o).get i=H.get i:=by rw [Heap.get_push,if_neg (by omega)]
theorem Heap.get_put (H:Heap) (j:Nat) (o:LObj) (i:Nat):(H.put j o).get i=if j=i then o else H.get i:=by
 unfold Heap.get;rw [Heap.slot_put];split <;> rfl
theorem Heap.get_put_same (H:Heap) (j:Nat) (o:LObj):(H.put j o).get j=o:=by rw [Heap.get_put];simp
theorem Heap.get_put_other {H:Heap} {j:Nat} {o:LObj} {i:Nat} (h:j≠i):(H.put j o).get i=H.get i:=by rw [Heap.get_put,if_neg h]
structure Heap.Le (H H' : Heap):Prop where
 n:H.n<=H'.n
 up:∀ i,i<H.n->(H.slot i).stamp<=(H'.slot i).stamp
 same:∀ i,i<H.n->(H'.slot i).stamp=(H.slot i).stamp->H'.get i=H.get i
theorem Heap.Le.refl (H:Heap):H.Le H:=⟨Nat.le_refl _,fun _ _=>Nat.le_refl _,fun _ _ _=>rfl⟩
theorem Heap.Le.trans {A B C:Heap} (h:A.Le B) (k:B.Le C):A.Le C :=
 ⟨Nat.le_trans h.n k.n,fun i hi=>Nat.le_trans (h.up i hi) (k.up i (Nat.lt_of_lt_of_le hi h.n)),fun i hi e=>by
  have a:=h.up i hi;have b:=k.up i (Nat.lt_of_lt_of_le hi h.n)
  rw [k.same i (Nat.lt_of_lt_of_le hi h.n) (by omega),h.same i hi (by omega)]⟩
theorem Heap.le_push (H:Heap) (o:LObj):H.Le (H.push o) :=
 ⟨by rw [Heap.n_push];omega,fun i hi=>by rw [Heap.slot_push,if_neg (by omega)];exact Nat.le_refl _,fun i hi _=>Heap.get_push_old hi⟩
theorem Heap.le_put (H:Heap) (j:Nat) (o:LObj):H.Le (H.put j o):=by
 refine ⟨Nat.le_refl _,fun i hi=>?_,fun i hi e=>?_⟩
 .rw [Heap.slot_put];split
  .rename_i h;subst h;exact Nat.le_succ _
  .exact Nat.le_refl _
 .rw [Heap.slot_put] at e;split at e
  .rename_i h;subst h;simp at e
  .rename_i h;exact Heap.get_put_other h
theorem Heap.le_puts:∀ (us:List (Nat × LObj)) (H:Heap),H.Le (H.puts us)
 | [],H=>Heap.Le.refl H
 | (i,o)::us,H=>by
  show H.Le (bif Nat.blt i H.n then (H.put i o).puts us else H.puts us);cases Nat.blt i H.n
  .exact Heap.le_puts us H
  .exact (Heap.le_put H i o).trans (Heap.le_puts us _)
theorem Heap.le_pushes:∀ (os:List LObj) (H:Heap),H.Le (H.pushes os)
 | [],H=>Heap.Le.refl H
 | o::os,H=>(Heap.le_push H o).trans (Heap.le_pushes os _)
theorem Heap.le_upd (H:Heap) (us:List (Nat × LObj)) (ns:List LObj):H.Le (H.upd us ns):=(Heap.le_puts us H).trans (Heap.le_pushes ns _)
theorem yvb0 (J:Nat->RB):∀ l,decs J l=l.map (dec J)
 | []=>rfl
 | v::vs=>by simp [decs,yvb0 J vs]
theorem ygb0 (n:Nat):∀ l,lts n l↔∀ v∈l,lt n v
 | []=>by simp [lts]
 | v::vs=>by simp [lts,ygb0 n vs]
theorem ybu1 {n:Nat} {J J' : Nat->RB} (h:Ext n J J') {f:Fn} (hf:match f with | .yield l=>l<n | _=>True):decFn J' f=decFn J f:=by
 cases f <;> simp [decFn];rw [h _ hf]
mutual
theorem yjh0 {n:Nat} {J J' : Nat->RB} (h:Ext n J J'):∀ (v:LV),lt n v->dec J' v=dec J v
 | .junk,_=>rfl
 | .bool _,_=>rfl
 | .int _ _,_=>rfl
 | .str _,_=>rfl
 | .nilp,_=>rfl
 | .ptr i o,hv=>by simp only [lt] at hv;simp [dec,h i hv]
 | .nils,_=>rfl
 | .slice i o l c,hv=>by simp only [lt] at hv;simp [dec,h i hv]
 | .emp i,hv=>by simp only [lt] at hv;simp [dec,h i hv]
 | .nilm,_=>rfl
 | .map i,hv=>by simp only [lt] at hv;simp [dec,h i hv]
 | .func f a b,hv=>by
  simp only [lt] at hv;simp only [dec];rw [ybu1 h hv.1,yie0 h a hv.2.1,yie0 h b hv.2.2]
 | .nilf,_=>rfl
 | .iface t v,hv=>by simp only [lt] at hv;simp only [dec];rw [yjh0 h v hv]
 | .nili,_=>rfl
 | .agg cs,hv=>by simp only [lt] at hv;simp only [dec];rw [yie0 h cs hv]
 | .tup vs,hv=>by simp only [lt] at hv;simp only [dec];rw [yie0 h vs hv]
theorem yie0 {n:Nat} {J J' : Nat->RB} (h:Ext n J J'):∀ (l:List LV),lts n l->decs J' l=decs J l
 | [],_=>rfl
 | v::vs,hv=>by simp only [lts] at hv;simp only [decs];rw [yjh0 h v hv.1,yie0 h vs hv.2]
end
mutual
theorem ypk0 {n m:Nat} (h:n<=m):∀ (v:LV),lt n v->lt m v
 | .junk,_=>trivial
 | .bool _,_=>trivial
 | .int _ _,_=>trivial
 | .str _,_=>trivial
 | .nilp,_=>trivial
 | .ptr i o,hv=>by simp only [lt] at *;omega
 | .nils,_=>trivial
 | .slice i o l c,hv=>by simp only [lt] at *;omega
 | .emp i,hv=>by simp only [lt] at *;omega
 | .nilm,_=>trivial
 | .map i,hv=>by simp only [lt] at *;omega
 | .func f a b,hv=>by
  simp only [lt] at *;refine ⟨?_,yyg0 h a hv.2.1,yyg0 h b hv.2.2⟩;cases f <;> simp_all;omega
 | .nilf,_=>trivial
 | .iface t v,hv=>by simp only [lt] at *;exact ypk0 h v hv
 | .nili,_=>trivial
 | .agg cs,hv=>by simp only [lt] at *;exact yyg0 h cs hv
 | .tup vs,hv=>by simp only [lt] at *;exact yyg0 h vs hv
theorem yyg0 {n m:Nat} (h:n<=m):∀ (l:List LV),lts n l->lts m l
 | [],_=>trivial
 | v::vs,hv=>by simp only [lts] at *;exact ⟨ypk0 h v hv.1,yyg0 h vs hv.2⟩
end
theorem ync0 {n m:Nat} (h:n<=m) {o:LObj} (ho:ltObj n o):ltObj m o:=by
 cases o <;> simp only [ltObj] at *
 .exact yyg0 h _ ho
 .exact fun e he=>⟨ypk0 h _ (ho e he).1,ypk0 h _ (ho e he).2⟩
 .exact ⟨fun i=>ypk0 h _ (ho.1 i),by omega⟩
 .omega
theorem yls0 {n m:Nat} (h:n<=m) {t:Tr LV} (ht:ltT n t):ltT m t:=fun i=>ypk0 h _ (ht i)
theorem Ext.refl (n:Nat) (J:Nat->RB):Ext n J J:=fun _ _=>rfl
theorem Ext.trans {n m:Nat} {J J' J'' : Nat->RB} (hn:n<=m) (h:Ext n J J') (k:Ext m J' J''):Ext n J J'':=fun i hi=>(k i (by omega)).trans (h i hi)
theorem TRel.ext {n:Nat} {J J' : Nat->RB} (h:Ext n J J') {t:Tr LV} {r:Array Value} (hl:ltT n t) (ht:TRel J t r):TRel J' t r:=by
 intro i;rw [yjh0 h _ (hl i)];exact ht i
theorem ygi1 {n:Nat} {J J' : Nat->RB} (h:Ext n J J') {es:List Ent} (hl:∀ e,e∈es->lt n e.key/\lt n e.val):es.map (ytd0 J')=es.map (ytd0 J):=by
 apply List.map_congr_left;intro e he;simp [ytd0,yjh0 h _ (hl e he).1,yjh0 h _ (hl e he).2]
theorem yhi1 (J J' : Nat->RB) (c:CK) (v:LV):dec J (c.san v)=dec J' (c.san v):=by cases c <;> simp only [CK.san,dec]
theorem yms0 (J J' : Nat->RB):∀ (ks:List CK) (vs:List LV),decs J (flatF ks vs)=decs J' (flatF ks vs)
 | _,[]=>rfl
 | ks,v::vs=>by simp only [flatF,decs,yhi1 J J' (headK ks) v,yms0 J J' (rotK ks) vs]
theorem yhu2 (n:Nat) (c:CK) (v:LV):lt n (c.san v):=by cases c <;> simp only [CK.san,lt]
theorem ypz0 (n:Nat):∀ (ks:List CK) (vs:List LV),lts n (flatF ks vs)
 | _,[]=>by simp only [flatF,lts]
 | ks,v::vs=>by simp only [flatF,lts];exact ⟨yhu2 n _ v,ypz0 n (rotK ks) vs⟩
theorem yii1 {ks:List CK} {vs:List LV} {v:LV} (h:v∈flatF ks vs):∃ c x,v=CK.san c x:=by
 induction vs generalizing ks with
 | nil=>cases h
 | cons x vs ih =>
  rcases List.mem_cons.1 h with rfl | h
  .exact ⟨_,_,rfl⟩
  .exact ih h
theorem ypq0 {J:Nat->RB} {r:RB} {w:World} {ks:List CK} {e:TypeId} {o:Own} {vs:List LV} : SatObj J r w (.flat ks e o vs)↔SatObj J r w (.cells e o (flatF ks vs)):=by cases o <;> exact Iff.rfl
theorem yol0 {J J' : Nat->RB} {r:RB} {w:World} {ks:List CK} {e:TypeId} {o:Own} {vs:List LV} (h:SatObj J r w (.flat ks e o vs)):SatObj J' r w (.flat ks e o vs):=by
 cases o with
 | ro =>
  intro j v hv;obtain ⟨c,x,rfl⟩:=yii1 (List.mem_of_getElem? hv);rw [yhi1 J' J];exact h j _ hv
 | exact=>simp only [SatObj] at h ⊢;rw [yms0 J' J];exact h
 | grow sz=>simp only [SatObj] at h ⊢;rw [yms0 J' J];exact h
theorem SatObj.ext {n:Nat} {J J' : Nat->RB} (h:Ext n J J') {r:RB} {w:World} {o:LObj} (hl:ltObj n o) (ho:SatObj J r w o):SatObj J' r w o:=by
 cases o with
 | dead=>trivial
 | cells e w' cs =>
  simp only [ltObj] at hl;cases w' <;> simp only [SatObj] at *
  .intro j v hv;rw [yjh0 h v ((ygb0 n cs).1 hl v (List.mem_of_getElem? hv))];exact ho j v hv
  .rw [yie0 h cs hl];exact ho
  .rw [yie0 h cs hl];exact ho
 | map es clock=>simp only [SatObj,ltObj] at *;rw [ygi1 h hl];exact ho
 | empty=>trivial
 | strIter s pos=>exact ho
 | loop st pe fn m t ps as bo d =>
  simp only [SatObj,ltObj] at *;obtain ⟨tm,a,b,c⟩:=ho;exact ⟨tm,a,b.ext h hl.1,by rw [h d hl.2];exact c⟩
 | defers taken=>exact ho
 | flat ks e k vs=>exact yol0 ho
 | fmap es=>exact ho
 | glob g cs=>exact ho
 | miter m c=>simp only [SatObj,ltObj] at *;rw [h m hl];exact ho
theorem cell?_of_heap {w w' : World} {a:Addr} (h:w'.heap[a.block]?=w.heap[a.block]?):w'.cell? a=w.cell? a:=by
 unfold World.cell?;rw [h]
theorem SatObj.world {J:Nat->RB} {r:RB} {w w' : World} {o:LObj} (h:o.sits=true->w'.heap[r.blk]?=w.heap[r.blk]?) (ho:SatObj J r w o):SatObj J r w' o:=by
 cases o with
 | dead=>trivial
 | cells e k cs =>
  have hh:w'.heap[r.blk]?=w.heap[r.blk]?:=h rfl;cases k <;> simp only [SatObj] at ho ⊢
  .intro j v hv;rw [cell?_of_heap hh];exact ho j v hv
  .rw [hh];exact ho
  .rw [hh];exact ho
 | map es clock=>simp only [SatObj] at *;rw [h rfl];exact ho
 | empty=>trivial
 | strIter s pos=>simp only [SatObj] at *;rw [h rfl];exact ho
 | loop st pe fn m t ps as bo d=>simp only [SatObj] at *;rw [h rfl];exact ho
 | defers taken=>simp only [SatObj] at *;rw [h rfl];exact ho
 | fmap es=>simp only [SatObj] at *;rw [h rfl];exact ho
 | glob g cs =>
  have hh:w'.heap[r.blk]?=w.heap[r.blk]?:=h rfl;obtain ⟨h1,h2,h3⟩:=ho;exact ⟨h1,h2,fun j v hv=>by rw [cell?_of_heap hh];exact h3 j v hv⟩
 | miter m c=>simp only [SatObj] at *;rw [h rfl];exact ho
 | flat ks e k cs =>
  have hh:w'.heap[r.blk]?=w.heap[r.blk]?:=h rfl;cases k <;> simp only [SatObj] at ho ⊢
  .intro j v hv;rw [cell?_of_heap hh];exact ho j v hv
  .rw [hh];exact ho
  .rw [hh];exact ho
theorem SatObj.inside {J:Nat->RB} {r:RB} {w:World} {o:LObj} (h:SatObj J r w o) (hs:o.owns=true):r.blk<w.heap.size:=by
 have key:∀ x,w.heap[r.blk]?=some x->r.blk<w.heap.size:=fun x hx=>(Array.getElem?_eq_some_iff.1 hx).1
 cases o with
 | dead=>cases hs
 | cells e k cs =>
  cases k <;> simp only [SatObj,LObj.owns] at *
  .cases hs
  .obtain ⟨_,_,_,_,h⟩:=h;exact key _ h
  .obtain ⟨_,_,_,_,_,_,_,h⟩:=h;exact key _ h
 | map es clock=>exact key _ h
 | empty=>cases hs
 | strIter s pos=>exact key _ h
 | loop st pe fn m t ps as bo d=>obtain ⟨_,_,_,h⟩:=h;exact key _ h
 | defers taken=>exact key _ h
 | fmap es=>obtain ⟨_,_,_,_,h⟩:=h;exact key _ h
 | glob g cs=>cases hs
 | miter m c=>exact key _ h.2
 | flat ks e k cs =>
  cases k <;> simp only [SatObj,LObj.owns] at *
  .cases hs
  .obtain ⟨_,_,_,_,h⟩:=h;exact key _ h
  .obtain ⟨_,_,_,_,_,_,_,h⟩:=h;exact key _ h
theorem Moved.refl {J:Nat->RB} {H:Heap} {w:World} (h:Sat J H w):Moved J H w J H w :=
 ⟨rfl,rfl,rfl,Nat.le_refl _,fun _ _ _=>rfl,fun i hi ho=>.inr ⟨i,hi,ho,rfl⟩,fun i hi ho=>.inr ⟨i,hi,ho,rfl⟩,Nat.le_refl _,Ext.refl _ _,h⟩
theorem Moved.trans {J J' J'' : Nat->RB} {H H' H'' : Heap} {w w' w'' : World} (h:Moved J H w J' H' w') (k:Moved J' H' w' J'' H'' w''):Moved J H w J'' H'' w'' where
 os:=k.os.trans h.os
 tape:=k.tape.trans h.tape
 output:=k.output.trans h.output
 size:=Nat.le_trans h.size k.size
 block:=fun b hb hn=>by
  rw [k.block b (Nat.lt_of_lt_of_le hb h.size) ?_,h.block b hb hn];intro i hi ho e;rcases h.owned i hi ho with hl | ⟨j,hj,hjo,hje⟩
  .omega
  .exact hn j hj hjo (hje.symm.trans e)
 owned:=fun i hi ho=>by
  rcases k.owned i hi ho with hl | ⟨j,hj,hjo,hje⟩
  .exact .inl (Nat.le_trans h.size hl)
  .rcases h.owned j hj hjo with hl | ⟨m,hm,hmo,hme⟩
   .exact .inl (by omega)
   .exact .inr ⟨m,hm,hmo,hje.trans hme⟩
 sits:=fun i hi ho=>by
  rcases k.sits i hi ho with hl | ⟨j,hj,hjo,hje⟩
  .exact .inl (Nat.le_trans h.size hl)
  .rcases h.sits j hj hjo with hl | ⟨m,hm,hmo,hme⟩
   .exact .inl (by omega)
   .exact .inr ⟨m,hm,hmo,hje.trans hme⟩
 more:=Nat.le_trans h.more k.more
 ext:=h.ext.trans h.more k.ext
 sat:=k.sat
theorem LObj.sits_of_owns {o:LObj} (h:o.owns=true):o.sits=true:=by
 cases o <;> first | rfl | cases h
theorem Sat.drawn {J:Nat->RB} {H:Heap} {w w' : World} (h:Sat J H w) (hh:w'.heap=w.heap):Sat J H w' :=
 ⟨h.wf,fun i hi=>(h.obj i hi).world (fun _=>by rw [hh]),h.apart,fun i hi ho=>by rw [hh];exact h.inside i hi ho⟩
theorem Moved.drawn {J:Nat->RB} {H:Heap} {w w' : World} (h:Sat J H w) (hh:w'.heap=w.heap) (ho:w'.os=w.os) (ht:w'.tape=w.tape) (hp:w'.output=w.output):Moved J H w J H w' :=
 ⟨ho,ht,hp,by rw [hh];exact Nat.le_refl _,fun _ _ _=>by rw [hh],fun i hi ho=>.inr ⟨i,hi,ho,rfl⟩,fun i hi ho=>.inr ⟨i,hi,ho,rfl⟩,Nat.le_refl _,Ext.refl _ _,h.drawn hh⟩
def upRho (J:Nat->RB) (n:Nat) (r:RB):Nat->RB:=fun i=>if i=n then r else J i
theorem yoa0 (J:Nat->RB) (n:Nat) (r:RB):upRho J n r n=r:=by simp [upRho]
theorem yka0 (J:Nat->RB) (n:Nat) (r:RB):Ext n J (upRho J n r):=fun i hi=>by simp [upRho,Nat.ne_of_lt hi]
theorem Moved.push {J:Nat->RB} {H:Heap} {w w' : World} (h:Sat J H w) (o:LObj) (O:Obj) (r:RB) (hr:r.blk=w.heap.size) (hw:w'.heap=w.heap.push O)
  (hos:w'.os=w.os) (ht:w'.tape=w.tape) (hp:w'.output=w.output) (hl:ltObj (H.n+1) o) (ho:SatObj (upRho J H.n r) r w' o) :
  Moved J H w (upRho J H.n r) (H.push o) w':=by
 have hold:∀ b,b<w.heap.size->w'.heap[b]?=w.heap[b]?:=fun b hb=>by
  rw [hw,Array.getElem?_push,if_neg (by omega)]
 have hin:=h.inside;refine ⟨hos,ht,hp,by rw [hw];simp,fun b hb _=>hold b hb,?_,?_,by rw [Heap.n_push];omega,yka0 _ _ _,?_,?_,?_,?_⟩
 .intro i hi hown;rw [Heap.n_push] at hi;by_cases e:i=H.n
  .subst e;exact .inl (by rw [yoa0,hr];exact Nat.le_refl _)
  .rw [Heap.get_push_old (by omega)] at hown;exact .inr ⟨i,by omega,hown,by rw [yka0 J H.n r i (by omega)]⟩
 .intro i hi hown;rw [Heap.n_push] at hi;by_cases e:i=H.n
  .subst e;exact .inl (by rw [yoa0,hr];exact Nat.le_refl _)
  .rw [Heap.get_push_old (by omega)] at hown;exact .inr ⟨i,by omega,hown,by rw [yka0 J H.n r i (by omega)]⟩
 .intro i hi;rw [Heap.n_push] at hi ⊢;by_cases e:i=H.n
  .subst e;rw [Heap.get_push_new];exact hl
  .rw [Heap.get_push_old (by omega)];exact ync0 (by omega) (h.wf i (by omega))
 .intro i hi;rw [Heap.n_push] at hi;by_cases e:i=H.n
  .subst e;rw [Heap.get_push_new,yoa0];exact ho
  .rw [Heap.get_push_old (by omega),yka0 J H.n r i (by omega)];exact ((h.obj i (by omega)).world fun hs=>hold _ (hin i (by omega) hs)).ext (yka0 J H.n r) (h.wf i (by omega))
 .intro i j hi hj hne hio hjs;rw [Heap.n_push] at hi hj;by_cases ei:i=H.n
  .by_cases ej:j=H.n
   .omega
   .subst ei;rw [Heap.get_push_old (by omega)] at hjs;rw [yoa0,yka0 J H.n r j (by omega),hr];have:=hin j (by omega) hjs;omega
  .by_cases ej:j=H.n
   .subst ej;rw [Heap.get_push_old (by omega)] at hio;rw [yoa0,yka0 J H.n r i (by omega),hr];have:=hin i (by omega) (LObj.sits_of_owns hio);omega
   .rw [Heap.get_push_old (by omega)] at hio hjs;rw [yka0 J H.n r i (by omega),yka0 J H.n r j (by omega)];exact h.apart i j (by omega) (by omega) hne hio hjs
 .intro i hi hs;rw [Heap.n_push] at hi;by_cases e:i=H.n
  .subst e;rw [yoa0,hr,hw];simp
  .rw [Heap.get_push_old (by omega)] at hs;rw [yka0 J H.n r i (by omega),hw];have:=hin i (by omega) hs;simp;omega
theorem Moved.pushVoid {J:Nat->RB} {H:Heap} {w:World} (h:Sat J H w) (o:LObj) (r:RB) (hn:o.sits=false) (hl:ltObj (H.n+1) o) (ho:SatObj (upRho J H.n r) r w o) :
  Moved J H w (upRho J H.n r) (H.push o) w:=by
 have hno:o.owns=false:=by cases hh:o.owns with | false=>rfl | true=>rw [LObj.sits_of_owns hh] at hn;cases hn
 refine ⟨rfl,rfl,rfl,Nat.le_refl _,fun _ _ _=>rfl,?_,?_,by rw [Heap.n_push];omega,yka0 _ _ _,?_,?_,?_,?_⟩
 .intro i hi hown;rw [Heap.n_push] at hi;by_cases e:i=H.n
  .subst e;rw [Heap.get_push_new,hno] at hown;cases hown
  .rw [Heap.get_push_old (by omega)] at hown;exact .inr ⟨i,by omega,hown,by rw [yka0 J H.n r i (by omega)]⟩
 .intro i hi hown;rw [Heap.n_push] at hi;by_cases e:i=H.n
  .subst e;rw [Heap.get_push_new,hn] at hown;cases hown
  .rw [Heap.get_push_old (by omega)] at hown;exact .inr ⟨i,by omega,hown,by rw [yka0 J H.n r i (by omega)]⟩
 .intro i hi;rw [Heap.n_push] at hi ⊢;by_cases e:i=H.n
  .subst e;rw [Heap.get_push_new];exact hl
  .rw [Heap.get_push_old (by omega)];exact ync0 (by omega) (h.wf i (by omega))
 .intro i hi;rw [Heap.n_push] at hi;by_cases e:i=H.n
  .subst e;rw [Heap.get_push_new,yoa0];exact ho
  .rw [Heap.get_push_old (by omega),yka0 J H.n r i (by omega)];exact (h.obj i (by omega)).ext (yka0 J H.n r) (h.wf i (by omega))
 .intro i j hi hj hne hio hjs;rw [Heap.n_push] at hi hj;by_cases ei:i=H.n
  .subst ei;rw [Heap.get_push_new,hno] at hio;cases hio
  .by_cases ej:j=H.n
   .subst ej;rw [Heap.get_push_new,hn] at hjs;cases hjs
   .rw [Heap.get_push_old (by omega)] at hio hjs;rw [yka0 J H.n r i (by omega),yka0 J H.n r j (by omega)];exact h.apart i j (by omega) (by omega) hne hio hjs
 .intro i hi hs;rw [Heap.n_push] at hi;by_cases e:i=H.n
  .subst e;rw [Heap.get_push_new,hn] at hs;cases hs
  .rw [Heap.get_push_old (by omega)] at hs;rw [yka0 J H.n r i (by omega)];exact h.inside i (by omega) hs
theorem Moved.put {J:Nat->RB} {H:Heap} {w w' : World} (h:Sat J H w) {i:Nat} (hi:i<H.n) (hown:(H.get i).owns=true) (o:LObj)
  (hw:∀ b,b≠(J i).blk->w'.heap[b]?=w.heap[b]?) (hsz:w'.heap.size=w.heap.size)
  (hos:w'.os=w.os) (ht:w'.tape=w.tape) (hp:w'.output=w.output) (hl:ltObj H.n o) (ho:SatObj J (J i) w' o) :
  Moved J H w J (H.put i o) w':=by
 refine ⟨hos,ht,hp,by rw [hsz];exact Nat.le_refl _,fun b hb hn=>hw b fun e=>hn i hi hown e.symm,?_,?_,Nat.le_refl _,Ext.refl _ _,?_,?_,?_,?_⟩
 .intro j hj hjo;rw [Heap.n_put] at hj;by_cases e:i=j
  .subst e;exact .inr ⟨i,hi,hown,rfl⟩
  .rw [Heap.get_put_other e] at hjo;exact .inr ⟨j,hj,hjo,rfl⟩
 .intro j hj hjo;rw [Heap.n_put] at hj;by_cases e:i=j
  .subst e;exact .inr ⟨i,hi,LObj.sits_of_owns hown,rfl⟩
  .rw [Heap.get_put_other e] at hjo;exact .inr ⟨j,hj,hjo,rfl⟩
 .intro j hj;rw [Heap.n_put] at hj ⊢;by_cases e:i=j
  .subst e;rw [Heap.get_put_same];exact hl
  .rw [Heap.get_put_other e];exact h.wf j hj
 .intro j hj;rw [Heap.n_put] at hj;by_cases e:i=j
  .subst e;rw [Heap.get_put_same];exact ho
  .rw [Heap.get_put_other e];exact (h.obj j hj).world fun hs=>hw _ (Ne.symm (h.apart i j hi hj e hown hs))
 .intro a b ha hb hne hao hbs;rw [Heap.n_put] at ha hb
  have hao' : (H.get a).owns=true:=by
   by_cases e:i=a
   .subst e;exact hown
   .rwa [Heap.get_put_other e] at hao
  by_cases e:i=b
  .subst e;exact h.apart a i ha hi hne hao' (LObj.sits_of_owns hown)
  .rw [Heap.get_put_other e] at hbs;exact h.apart a b ha hb hne hao' hbs
 .intro j hj hs;rw [Heap.n_put] at hj;rw [hsz];by_cases e:i=j
  .subst e;exact h.inside i hi (LObj.sits_of_owns hown)
  .rw [Heap.get_put_other e] at hs;exact h.inside j hj hs
theorem Moved.kill {J:Nat->RB} {H:Heap} {w:World} (h:Sat J H w) (i:Nat):Moved J H w J (H.put i .dead) w:=by
 refine ⟨rfl,rfl,rfl,Nat.le_refl _,fun _ _ _=>rfl,?_,?_,Nat.le_refl _,Ext.refl _ _,?_,?_,?_,?_⟩
 .intro j hj hjo;rw [Heap.get_put] at hjo;split at hjo
  .cases hjo
  .exact .inr ⟨j,hj,hjo,rfl⟩
 .intro j hj hjo;rw [Heap.get_put] at hjo;split at hjo
  .cases hjo
  .exact .inr ⟨j,hj,hjo,rfl⟩
 .intro j hj;rw [Heap.get_put,Heap.n_put];split
  .trivial
  .exact h.wf j hj
 .intro j hj;rw [Heap.get_put];split
  .trivial
  .exact h.obj j hj
 .intro a b ha hb hne hao hbs;rw [Heap.get_put] at hao hbs;split at hao
  .cases hao
  .split at hbs
   .cases hbs
   .exact h.apart a b ha hb hne hao hbs
 .intro j hj hs;rw [Heap.get_put] at hs;split at hs
  .cases hs
  .exact h.inside j hj hs
theorem Moved.succeed {J:Nat->RB} {H:Heap} {w w' : World} (h:Sat J H w) {j:Nat} (hj:j<H.n) (hown:(H.get j).owns=true) (o:LObj) (r:RB) (hr:r.blk=(J j).blk)
  (hw:∀ b,b≠(J j).blk->w'.heap[b]?=w.heap[b]?) (hsz:w'.heap.size=w.heap.size)
  (hos:w'.os=w.os) (ht:w'.tape=w.tape) (hp:w'.output=w.output) (hl:ltObj (H.n+1) o) (ho:SatObj (upRho J H.n r) r w' o) :
  Moved J H w (upRho J H.n r) ((H.put j .dead).push o) w':=by
 have hn:(H.put j .dead).n=H.n:=Heap.n_put _ _ _
 have old:∀ i,i<H.n->((H.put j .dead).push o).get i=if j=i then .dead else H.get i:=fun i hi=>by
  rw [Heap.get_push_old (by rw [hn];exact hi),Heap.get_put]
 have new:((H.put j .dead).push o).get H.n=o:=by
  have:=Heap.get_push_new (H.put j .dead) o
  rwa [hn] at this
 have hin:=h.inside j hj (LObj.sits_of_owns hown);refine ⟨hos,ht,hp,by rw [hsz];exact Nat.le_refl _,fun b hb hnn=>hw b fun e=>hnn j hj hown e.symm,?_,?_,by rw [Heap.n_push,hn];omega,yka0 _ _ _,?_,?_,?_,?_⟩
 .intro i hi hio;rw [Heap.n_push,hn] at hi;by_cases e:i=H.n
  .subst e;exact .inr ⟨j,hj,hown,by rw [yoa0,hr]⟩
  .rw [old i (by omega)] at hio;split at hio
   .cases hio
   .exact .inr ⟨i,by omega,hio,by rw [yka0 J H.n r i (by omega)]⟩
 .intro i hi hio;rw [Heap.n_push,hn] at hi;by_cases e:i=H.n
  .subst e;exact .inr ⟨j,hj,LObj.sits_of_owns hown,by rw [yoa0,hr]⟩
  .rw [old i (by omega)] at hio;split at hio
   .cases hio
   .exact .inr ⟨i,by omega,hio,by rw [yka0 J H.n r i (by omega)]⟩
 .intro i hi;rw [Heap.n_push,hn] at hi;rw [Heap.n_push,hn];by_cases e:i=H.n
  .subst e;rw [new];exact hl
  .rw [old i (by omega)];split
   .trivial
   .exact ync0 (by omega) (h.wf i (by omega))
 .intro i hi;rw [Heap.n_push,hn] at hi;by_cases e:i=H.n
  .subst e;rw [new,yoa0];exact ho
  .rw [old i (by omega),yka0 J H.n r i (by omega)];split
   .trivial
   .rename_i hne;exact ((h.obj i (by omega)).world fun hs=>hw _ (Ne.symm (h.apart j i hj (by omega) hne hown hs))).ext (yka0 J H.n r) (h.wf i (by omega))
 .intro a b ha hb hne hao hbs;rw [Heap.n_push,hn] at ha hb;by_cases ea:a=H.n
  .subst ea;rw [old b (by omega)] at hbs;rw [yoa0,yka0 J H.n r b (by omega),hr];split at hbs
   .cases hbs
   .rename_i hjb;exact h.apart j b hj (by omega) hjb hown hbs
  .rw [old a (by omega)] at hao;split at hao
   .cases hao
   .rename_i hja;by_cases eb:b=H.n
    .subst eb;rw [yoa0,yka0 J H.n r a (by omega),hr];exact h.apart a j (by omega) hj (Ne.symm hja) hao (LObj.sits_of_owns hown)
    .rw [old b (by omega)] at hbs;split at hbs
     .cases hbs
     .rw [yka0 J H.n r a (by omega),yka0 J H.n r b (by omega)];exact h.apart a b (by omega) (by omega) hne hao hbs
 .intro i hi hs;rw [Heap.n_push,hn] at hi;rw [hsz];by_cases e:i=H.n
  .subst e;rw [yoa0,hr];exact hin
  .rw [old i (by omega)] at hs;split at hs
   .cases hs
   .rw [yka0 J H.n r i (by omega)];exact h.inside i (by omega) hs
theorem ycx0 {J:Nat->RB} {r:RB} {w:World} {o:LObj} : SatObj J r w (openO o)↔SatObj J r w o:=by
 cases o with
 | flat ks e k vs=>exact ypq0.symm
 | _=>exact Iff.rfl
theorem yji1 (o:LObj):(openO o).owns=o.owns:=by
 cases o with
 | flat ks e k vs=>cases k <;> rfl
 | _=>rfl
theorem yki1 (o:LObj):(openO o).sits=o.sits:=by cases o <;> rfl
theorem ybe2 {n:Nat} {o:LObj} (h:ltObj n o):ltObj n (openO o):=by
 cases o with
 | flat ks e k vs=>exact ypz0 n ks vs
 | _=>exact h
theorem ypm2 {n:Nat} {o:LObj} (h:ltObj n (openO o)):ltObj n o:=by
 cases o with
 | flat ks e k vs=>trivial
 | _=>exact h
def HOpen (H H1:Heap):Prop:=H.n=H1.n/\∀ i,openO (H.get i)=openO (H1.get i)
theorem HOpen.refl (H:Heap):HOpen H H:=⟨rfl,fun _=>rfl⟩
theorem HOpen.symm {H H1:Heap} (h:HOpen H H1):HOpen H1 H:=⟨h.1.symm,fun i=>(h.2 i).symm⟩
theorem HOpen.owns {H H1:Heap} (h:HOpen H H1) (i:Nat):(H.get i).owns=(H1.get i).owns:=by rw [<- yji1,h.2 i,yji1]
theorem HOpen.sits {H H1:Heap} (h:HOpen H H1) (i:Nat):(H.get i).sits=(H1.get i).sits:=by rw [<- yki1,h.2 i,yki1]
theorem HOpen.sat {J:Nat->RB} {H H1:Heap} {w:World} (h:HOpen H H1) (hs:Sat J H w):Sat J H1 w where
 wf:=fun i hi=>by
  rw [<- h.1] at hi ⊢;exact ypm2 (by rw [<- h.2 i];exact ybe2 (hs.wf i hi))
 obj:=fun i hi=>by
  rw [<- h.1] at hi;rw [<- ycx0,<- h.2 i,ycx0];exact hs.obj i hi
 apart:=fun i j hi hj hne ho hsj=>by
  rw [<- h.1] at hi hj;rw [<- h.owns] at ho;rw [<- h.sits] at hsj;exact hs.apart i j hi hj hne ho hsj
 inside:=fun i hi hsi=>by
  rw [<- h.1] at hi;rw [<- h.sits] at hsi;exact hs.inside i hi hsi
theorem HOpen.moved {J J' : Nat->RB} {H H1 H' H1' : Heap} {w w' : World} (h:HOpen H H1) (h' : HOpen H' H1') (hm:Moved J H1 w J' H1' w'):Moved J H w J' H' w' where
 os:=hm.os
 tape:=hm.tape
 output:=hm.output
 size:=hm.size
 block:=fun b hb hno=>hm.block b hb fun i hi ho=>hno i (by rw [h.1];exact hi) (by rw [h.owns];exact ho)
 owned:=fun i hi ho=>by
  rcases hm.owned i (by rw [<- h'.1];exact hi) (by rw [<- h'.owns];exact ho) with e | ⟨j,hj,hjo,e⟩
  .exact .inl e
  .exact .inr ⟨j,by rw [h.1];exact hj,by rw [h.owns];exact hjo,e⟩
 sits:=fun i hi ho=>by
  rcases hm.sits i (by rw [<- h'.1];exact hi) (by rw [<- h'.sits];exact ho) with e | ⟨j,hj,hjo,e⟩
  .exact .inl e
  .exact .inr ⟨j,by rw [h.1];exact hj,by rw [h.sits];exact hjo,e⟩
 more:=by rw [h.1,h'.1];exact hm.more
 ext:=by rw [h.1];exact hm.ext
 sat:=h'.symm.sat hm.sat
end Go.Proofs.YtnpbgnjiihecgaaGreat.Ev
