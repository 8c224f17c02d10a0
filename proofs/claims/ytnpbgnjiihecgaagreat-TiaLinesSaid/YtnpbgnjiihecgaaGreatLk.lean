/- What is asked of the program, of this one. The evaluator's functions once more, the view a constant (the kernel instantiates less). The evaluator in continuation style: symbolic tests become cases of a proposition. Definitions alone. The evaluator in continuation style: contracts, code, functions. Definitions alone. -/
import Derived.Test.YtnpbgnjiihecgaaGreatLi
import Derived.Test.YtnpbgnjiihecgaaGreatChecked
import Derived.KernelRfl
import Derived.Test.YtnpbgnjiihecgaaGreatLj
namespace Go.Proofs.YtnpbgnjiihecgaaGreat.Ev
open Go
def ymn2 (P : Program) : Bool := P.funcs.toList.all fun fu => !(fu.name == "runtime.NumGoroutine")
theorem ynn2 {P:Program} (h1:P.follows .mixedOrders=true) (h2:ymn2 P=true):Good P where
 mixed:=h1
 names:=fun g fu hf _=>by
  have h:=List.all_eq_true.1 h2 fu (by
   have:=Array.getElem?_eq_some_iff.1 hf;obtain ⟨hlt,he⟩:=this;rw [<- he]
   simp)
  simpa using h
theorem good:Good Tryz.prog:=ynn2 (Checked.mixed Tryz.checked) (by kernel_rfl)
end Go.Proofs.YtnpbgnjiihecgaaGreat.Ev
namespace Go.Proofs.YtnpbgnjiihecgaaGreat.Ev
open Go
noncomputable section
def TV:View:=fast Tryz.prog
namespace T
def aggOf (t:TypeId):Option Bool :=
 match TV.underlying t with
 | some (.struct _)=>some true
 | some (.array _ _)=>some true
 | some _=>some false
 | none=>none
def sizeOfT (t:TypeId):Option Nat:=(TV.info? t).map (·.size)
def zeroOf (t:TypeId):Option LV :=
 match TV.info? t with
 | some i=>match i.zero with
  | some v=>let l:=ofVal v;bif yta0 l then none else some l
  | none=>none
 | none=>none
def partOf (t:TypeId) (cs:List LV) (off:Nat):Option LV :=
 match aggOf t with
 | some true=>match sizeOfT t with
  | some n=>bif Nat.ble (off+n) (lenL cs) then some (.agg (takeN (dropN cs off) n)) else none
  | none=>none
 | some false=>nth cs off
 | none=>none
def loadL (t:TypeId) (H:Heap):LV->Option LV
 | .ptr i o=>match openO (H.get i) with
  | .cells _ _ cs=>partOf t cs o
  | _=>none
 | _=>none
def storeL0 (t:TypeId) (H:Heap) (a v:LV):Option Heap :=
 bif yta0 v then none else
 match a with
 | .ptr i o=>match H.get i with
  | .cells _ .ro _=>none
  | .cells e w cs=>match sizeOfT t with
   | some n =>
    let vs:=cellsOf v
    bif yse0 vs then bif Nat.beq (lenL vs) n then bif Nat.ble (o+n) (lenL cs) then bif Nat.blt i H.n then some (H.put i (.cells e w (yua0 cs o vs))) else none else none else none else none
   | none=>none
  | _=>none
 | _=>none
def fieldPlaces:List Field->Nat->Option (Nat × Nat)
 | [],_=>none
 | f::fs,i=>bif Nat.beq i 0 then (sizeOfT f.type).map fun s=>(f.offset,s) else fieldPlaces fs (i-1)
def allSized:List Field->Bool
 | []=>true
 | f::fs=>match sizeOfT f.type with
  | some _=>allSized fs
  | none=>false
def buildL (t:TypeId) (parts:List (Nat × LV)):Option LV :=
 match zeroOf t with
 | none=>none
 | some z =>
  match TV.underlying t with
  | some (.struct fields)=>bif allSized fields.toList then (fillL (fieldPlaces fields.toList) (cellsOf z) parts).map .agg else none
  | some (.array _ elem)=>match sizeOfT elem with
   | some size=>(fillL (fun i=>some (i*size,size)) (cellsOf z) parts).map .agg
   | none=>none
  | _=>none
def buildSliceL (t:TypeId) (len:Nat) (parts:List (Nat × LV)) (H:Heap):Option (LV × Heap) :=
 match TV.underlying t with
 | some (.slice elem)=>match sizeOfT elem,zeroOf elem with
  | some size,some z =>
   bif Nat.beq size 0 then none else bif Nat.ble (len*size) 16777216 then
   bif Nat.beq (lenL (cellsOf z)) size then
   match fillL (fun i=>some (i*size,size)) (yqb0 (cellsOf z) len) parts with
   | some cs=>some (.slice H.n 0 len (.known len),H.push (.cells elem .exact cs))
   | none=>none
   else none else none
  | _,_=>none
 | _=>none
def makeSliceL (t:TypeId) (H:Heap):LV->LV->Option (LV × Heap)
 | .int _ l,.int _ c=>match TV.underlying t with
  | some (.slice elem)=>match TV.info? elem,zeroOf elem with
   | some i,some z =>
    bif decide (0<=l) then bif decide (l<=c) then bif decide (c*i.bytes<=1073741824) then bif decide (c<=1073741824) then bif Nat.beq i.size 0 then none else
    bif Nat.beq (lenL (cellsOf z)) i.size then
    some (.slice H.n 0 l.toNat (.known c.toNat),H.push (ybo0 elem z c.toNat))
    else none else none else none else none else none
   | _,_=>none
  | _=>none
 | _,_=>none
def fieldAddrL (s:TypeId) (f:Nat):LV->Option LV
 | .ptr i o=>match TV.underlying s with
  | some (.struct fields)=>match fields[f]? with
   | some fd=>match sizeOfT fd.type with
    | some n=>bif Nat.beq n 0 then none else some (.ptr i (o+fd.offset))
    | none=>none
   | none=>none
  | _=>none
 | _=>none
def indexAddrL (t:TypeId) (x:LV):LV->Option LV
 | .int _ ix=>match TV.underlying t with
  | some (.array len elem)=>match x with
   | .ptr i o=>match sizeOfT elem with
    | some n=>bif decide (0<=ix) then bif decide (ix<len) then some (.ptr i (o+ix.toNat*n)) else none else none
    | none=>none
   | _=>none
  | some (.slice elem)=>match x with
   | .slice i o l _=>match sizeOfT elem with
    | some n=>bif decide (0<=ix) then bif decide (ix<l) then some (.ptr i (o+ix.toNat*n)) else none else none
    | none=>none
   | _=>none
  | _=>none
 | _=>none
def fieldL (t:TypeId) (f:Nat):LV->Option LV
 | .agg cs=>match TV.underlying t with
  | some (.struct fields)=>match fields[f]? with
   | some fd=>partOf fd.type cs fd.offset
   | none=>none
  | _=>none
 | _=>none
def indexL (t:TypeId) (x:LV):LV->Option LV
 | .int _ ix=>match TV.underlying t with
  | some (.array len elem)=>match x with
   | .agg cs=>match sizeOfT elem with
    | some n=>bif decide (0<=ix) then bif decide (ix<len) then partOf elem cs (ix.toNat*n) else none else none
    | none=>none
   | _=>none
  | some .string=>match x with
   | .str s=>bif decide (0<=ix) then (nthB s ix.toNat).map fun b=>.int .u8 b.toNat else none
   | _=>none
  | _=>none
 | _=>none
def sliceL (t:TypeId) (x:LV) (lo hi mx:Option LV) (H:Heap):Option (LV × Heap) :=
 match TV.underlying t with
 | some .string=>match x with
  | .str s=>match mx with
   | some _=>none
   | none=>withH H (yph0 s lo hi)
  | _=>none
 | some (.slice elem)=>match sizeOfT elem with
  | none=>none
  | some size=>match x with
   | .slice i o len cap=>yoh0 size i o len cap lo hi mx H
   | .nils=>match bound hi 0 with
    | some 0=>match bound lo 0 with
     | some 0=>match mx with
      | none=>some (.nils,H)
      | some m=>match bound (some m) 0 with
       | some 0=>some (.nils,H)
       | _=>none
     | _=>none
    | _=>none
   | .emp i=>match bound hi 0 with
    | some 0=>match bound lo 0 with
     | some 0=>match mx with
      | none=>some (.emp i,H)
      | some _=>none
     | _=>none
    | _=>none
   | _=>none
 | some (.array n elem)=>match x with
  | .ptr i o=>match mx with
   | some _=>none
   | none=>match sizeOfT elem with
    | none=>none
    | some size=>match bound hi n with
     | none=>none
     | some h=>match bound lo 0 with
      | none=>none
      | some l=>bif Nat.ble l h then withH H (ymc0 size i o n l h) else none
  | _=>none
 | _=>none
def eqFields (f:TypeId->LV->LV->Option Bool) (xs ys:List LV):List Field->Option Bool
 | []=>some true
 | fd :: fs => bif fd.name == "_" then none else match partOf fd.type xs fd.offset with
  | some a=>match partOf fd.type ys fd.offset with
   | some b=>both (f fd.type a b) (eqFields f xs ys fs)
   | none=>none
  | none=>none
def eqElems (e:TypeId) (n:Nat) (f:LV->LV->Option Bool) (xs ys:List LV):Nat->Nat->Option Bool
 | 0,_=>some true
 | len+1,i=>match partOf e xs (i*n) with
  | some a=>match partOf e ys (i*n) with
   | some b=>both (f a b) (eqElems e n f xs ys len (i+1))
   | none=>none
  | none=>none
def eqT:Nat->TypeId->LV->LV->Option Bool
 | 0,_,_,_=>none
 | d+1,t,x,y=>match TV.underlying t with
  | some (.struct fields)=>match x,y with
   | .agg xs,.agg ys=>bif TV.held t then none else eqFields (eqT d) xs ys fields.toList
   | _,_=>none
  | some (.array len elem)=>match x,y with
   | .agg xs,.agg ys=>match sizeOfT elem with
    | some n=>eqElems elem n (eqT d elem) xs ys len 0
    | none=>none
   | _,_=>none
  | some k=>yqh0 k x y
  | none=>none
def eqNil (t:TypeId) (kc:Bool) (x y:LV):Option Bool :=
 match TV.underlying t with
 | some (.pointer _)=>match x,y with
  | .nilp,.nilp=>some true
  | .nilp,.ptr _ _=>some false
  | .ptr _ _,.nilp=>some false
  | _,_=>none
 | some (.slice _)=>match x,y with
  | .nils,.nils=>some true
  | .nils,.slice _ _ _ _=>some false
  | .slice _ _ _ _,.nils=>some false
  | .nils,.emp _=>some false
  | .emp _,.nils=>some false
  | _,_=>none
 | some (.map _ _)=>match x,y with
  | .nilm,.nilm=>some true
  | .nilm,.map _=>some false
  | .map _,.nilm=>some false
  | _,_=>none
 | some (.func _ _ _)=>match x,y with
  | .nilf,.nilf=>some true
  | .nilf,.func _ _ _=>some false
  | .func _ _ _,.nilf=>some false
  | _,_=>none
 | some (.interface _)=>match x,y with
  | .nili,.nili=>bif kc then some true else none
  | .nili,.iface _ _=>some false
  | .iface _ _,.nili=>some false
  | _,_=>none
 | _=>none
def eqL (t:TypeId) (kc:Bool) (x y:LV):Option Bool :=
 match x,y with
 | .agg xs,.agg ys=>bif TV.guard t then none else eqT 12 t (.agg xs) (.agg ys)
 | .bool a,.bool b=>match TV.underlying t with
  | some .bool=>some (a == b)
  | _=>none
 | x,y=>eqNil t kc x y
def binL (op:BinOp) (t:TypeId) (kc:Bool) (x y:LV):Option LV :=
 match x,y with
 | .int k a,.int k' b=>bif ybj0 op then ytw0 op k a b else if k=k' then yof0 op k a b else none
 | .str a,.str b=>yfs0 op a b
 | _,_=>match op with
  | .eql=>(eqL t kc x y).map .bool
  | .neq=>(eqL t kc x y).map fun b=>.bool (!b)
  | _=>none
def convL (src dst:TypeId) (x:LV) (H:Heap):Option (LV × Heap) :=
 match TV.underlying src with
 | some (.int _)=>match TV.underlying dst with
  | some (.int k)=>match x with
   | .int _ n=>some (.int k (k.wrap n),H)
   | _=>none
  | _=>none
 | some .string=>match TV.underlying dst with
  | some .string=>match x with
   | .str s=>some (.str s,H)
   | _=>none
  | some (.slice e)=>match TV.underlying e with
   | some (.int .u8)=>match x with
    | .str s=>some (.slice H.n 0 (lenL s) (.rest 0),H.push (.cells e (.grow 1) (ofBytes s)))
    | _=>none
   | _=>none
  | _=>none
 | some (.slice e)=>match TV.underlying dst with
  | some .string=>match TV.underlying e with
   | some (.int .u8)=>withH H (ymn0 H x)
   | _=>none
  | _=>none
 | _=>none
def grownL (elem:TypeId) (H:Heap) (n:Nat) (cs:List LV):Option (LV × Heap) :=
 match TV.info? elem,zeroOf elem with
 | some i,some z=>bif Nat.ble (n*i.bytes) 1099511627776 then bif Nat.ble i.bytes 1048576 then bif Nat.beq (lenL (cellsOf z)) i.size then bif Nat.blt 0 i.bytes then
   some (.slice H.n 0 n (.rest 0),H.push (.cells elem (.grow i.size) cs)) else none else none else none else none
 | _,_=>none
def appendTo (elem:TypeId) (size:Nat) (s:LV) (n:Nat) (new:List LV) (H:Heap):Option (LV × Heap) :=
 match s with
 | .nils=>bif Nat.beq n 0 then some (.nils,H) else grownL elem H n new
 | .slice j o l c=>match H.get j with
  | .cells e own cs=>bif Nat.blt j H.n then bif Nat.ble (o+l*size) (lenL cs) then
   match c with
   | .known cap=>bif Nat.ble (l+n) cap then
     bif Nat.beq n 0 then some (s,H) else
     match own with
     | .exact=>bif Nat.ble (o+(l+n)*size) (lenL cs) then bif yse0 new then some (.slice j o (l+n) c,H.put j (.cells e own (yua0 cs (o+l*size) new))) else none else none
     | _=>none
    else grownL elem H (l+n) (app (takeN (dropN cs o) (l*size)) new)
   | .rest k=>match own with
    | .grow sz=>bif Nat.beq sz size then bif Nat.beq e elem then bif Nat.beq o 0 then bif Nat.beq k 0 then bif yse0 new then
      bif Nat.beq n 0 then some (s,H) else grownL elem (H.put j .dead) (l+n) (app (takeN cs (l*size)) new) else none else none else none else none else none
    | _=>none
   else none else none
  | _=>none
 | _=>none
def notInt (t:TypeId):Bool :=
 match TV.underlying t with
 | some (.int _)=>false
 | some _=>true
 | none=>false
def storeFl (t:TypeId) (H:Heap) (i o:Nat) (ks:List CK) (e:TypeId) (w:Own) (vs:List LV) (v:LV):Option Heap :=
 match w with
 | .ro=>none
 | w=>match ks with
  | [c]=>match sizeOfT t with
   | some n=>bif Nat.beq n 1 then bif allCK c [v] then bif Nat.ble (o+1) (lenL vs) then bif Nat.blt i H.n then some (H.put i (.flat [c] e w (yua0 vs o [v]))) else none else none else none else none
   | none=>none
  | _=>none
def storeL (t:TypeId) (H:Heap) (a v:LV):Option Heap :=
 match a with
 | .ptr i o=>match H.get i with
  | .flat ks e w vs=>storeFl t H i o ks e w vs v
  | _=>storeL0 t H a v
 | _=>storeL0 t H a v
def ckT (t:TypeId):Option CK:=match zeroOf t with
 | some z=>ckV z
 | none=>none
def grownFl (elem:TypeId) (c:CK) (H:Heap) (n:Nat) (vs:List LV):Option (LV × Heap) :=
 match TV.info? elem with
 | some i=>bif Nat.ble (n*i.bytes) 1099511627776 then bif Nat.ble i.bytes 1048576 then bif Nat.blt 0 i.bytes then
   some (.slice H.n 0 n (.rest 0),H.push (.flat [c] elem (.grow 1) vs)) else none else none else none
 | none=>none
def appendFl (elem:TypeId) (c:CK) (s:LV) (n:Nat) (raw:List LV) (H:Heap):Option (LV × Heap) :=
 match s with
 | .nils=>bif Nat.beq n 0 then some (.nils,H) else grownFl elem c H n raw
 | .slice j o l cp=>match rawOf c H l s with
  | none=>none
  | some d=>bif Nat.blt j H.n then
   match cp with
   | .known cap=>bif Nat.ble (l+n) cap then bif Nat.beq n 0 then some (s,H) else none else grownFl elem c H (l+n) (app d raw)
   | .rest k=>bif yuw0 H j elem then bif Nat.beq o 0 then bif Nat.beq k 0 then bif Nat.beq n 0 then some (s,H) else grownFl elem c (H.put j .dead) (l+n) (app d raw) else none else none else none
   else none
 | _=>none
def appendF1 (t xt:TypeId) (s x:LV) (H:Heap):Option (LV × Heap) :=
 bif notInt xt then
  match TV.underlying t with
  | some (.slice elem)=>match sizeOfT elem with
   | none=>none
   | some size=>match lenV x with
    | none=>none
    | some n=>bif Nat.beq size 1 then (match ckT elem with
     | none=>none
     | some c=>match rawOf c H n x with
      | none=>none
      | some raw=>appendFl elem c s n raw H) else none
  | _=>none
 else none
def appendL0 (t xt:TypeId) (s x:LV) (H:Heap):Option (LV × Heap) :=
 bif notInt xt then
  match TV.underlying t with
  | some (.slice elem)=>match sizeOfT elem with
   | none=>none
   | some size=>match lenV x with
    | none=>none
    | some n=>bif Nat.beq size 0 then none else bif isStr x&&!Nat.beq size 1 then none else
     match ydc0 H (n*size) x with
     | none=>none
     | some new=>appendTo elem size s n new H
  | _=>none
 else none
def appendL (t xt:TypeId) (s x:LV) (H:Heap):Option (LV × Heap):=bif yhe0 H s||yhe0 H x then appendF1 t xt s x H else appendL0 t xt s x H
def copyL (t:TypeId) (d x:LV) (H:Heap):Option (LV × Heap) :=
 match TV.underlying t with
 | some (.slice elem)=>match sizeOfT elem with
  | none=>none
  | some size=>match lenV x with
   | none=>none
   | some n=>match d with
    | .slice j o m _=>bif isStr x&&!Nat.beq size 1 then none else
     match ydc0 H (Nat.min n m*size) x with
     | none=>none
     | some new=>match H.get j with
      | .cells _ .ro _=>none
      | .cells e own cs=>bif Nat.ble (o+Nat.min n m*size) (lenL cs) then bif Nat.blt j H.n then bif yse0 new then some (.int .i64 (Nat.min n m:Nat),H.put j (.cells e own (yua0 cs o new))) else none else none else none
      | _=>none
    | _=>none
 | _=>none
def arrPtrL (t:TypeId) (x:LV):Option LV :=
 match TV.underlying t with
 | some (.array n _)=>match x with
  | .slice i o l _=>bif Nat.ble n l then some (.ptr i o) else none
  | _=>none
 | _=>none
def clearL (t:TypeId) (x:LV) (H:Heap):Option (LV × Heap) :=
 match TV.underlying t with
 | some (.slice elem)=>match zeroOf elem with
  | none=>none
  | some z=>match x with
   | .slice j o m _=>bif Nat.beq m 0 then none else bif Nat.beq (lenL (cellsOf z)) 0 then none else match H.get j with
    | .cells _ .ro _=>none
    | .cells e own cs=>bif Nat.ble (o+lenL (yqb0 (cellsOf z) m)) (lenL cs) then bif Nat.blt j H.n then bif yse0 (yqb0 (cellsOf z) m) then some (yfe0,H.put j (.cells e own (yua0 cs o (yqb0 (cellsOf z) m)))) else none else none else none
    | _=>none
   | _=>none
 | _=>none
def lookupL0 (t:TypeId) (m k:LV) (ok:Bool) (H:Heap):Option LV :=
 bif yta0 k then none else
 match TV.underlying t with
 | some (.map kt et)=>match TV.underlying kt with
  | some kd=>bif yhk0 kd then
    match yon0 H m with
    | some es=>match findL kd k es 0 with
     | some r=>match zeroOf et with
      | some z=>some (ypn0 ok z r)
      | none=>none
     | none=>none
    | none=>none
   else none
  | none=>none
 | _=>none
def lookupFm (t:TypeId) (es:List Ent) (k:LV) (ok:Bool):Option LV:=match k with
 | .str s=>match TV.underlying t with
  | some (.map kt et)=>match TV.underlying kt with
   | some .string=>match findL .string (.str s) es 0 with
    | some r=>match zeroOf et with
     | some z=>some (ypn0 ok z r)
     | none=>none
    | none=>none
   | _=>none
  | _=>none
 | _=>none
def lookupL (t:TypeId) (m k:LV) (ok:Bool) (H:Heap):Option LV:=match ycj0 H m with
 | some es=>lookupFm t es k ok
 | none=>lookupL0 t m k ok H
def updateL (t:TypeId) (m k v:LV) (H:Heap):Option Heap :=
 bif yta0 v then none else bif yta0 k then none else
 match TV.underlying t with
 | some (.map kt _)=>match TV.underlying kt with
  | some kd=>bif yhk0 kd then
    match m with
    | .map i=>match H.get i with
     | .map es clock=>bif Nat.blt i H.n then match findL kd k es 0 with
      | some (some (j,_))=>some (H.put i (.map (ynn0 es j k v) clock))
      | some none=>some (H.put i (.map (app es [⟨k,v,clock⟩]) (clock+1)))
      | none=>none
      else none
     | _=>none
    | _=>none
   else none
  | none=>none
 | _=>none
def opAlloc (t:TypeId):OpF
 | [],H=>match zeroOf t with
  | some z=>yrc0 (boxL t H z)
  | none=>none
 | _,_=>none
def opBuild (t:TypeId) (is:List Nat):OpF:=fun xs H=>pureR H (buildL t (zipL is xs))
def opBuildSlice (t:TypeId) (n:Nat) (is:List Nat):OpF:=fun xs H=>yrc0 (buildSliceL t n (zipL is xs) H)
def opLoad (t:TypeId):OpF
 | [x],H=>loadR H x (loadL t H x)
 | _,_=>none
def opStore (t:TypeId):OpF
 | [a,v],H=>match storeL t H a v with
  | some H'=>some ⟨yfe0,H',.change⟩
  | none=>none
 | _,_=>none
def opBin (op:BinOp) (t:TypeId) (kc:Bool):OpF
 | [x,y],H=>pureR H (binL op t kc x y)
 | _,_=>none
def opConvert (s d:TypeId):OpF
 | [x],H=>match convL s d x H with
  | some (v,H')=>some ⟨v,H',yae2 v x⟩
  | none=>none
 | _,_=>none
def opMakeInterface (t:TypeId):OpF
 | [x],H=>bc (yta0 x) none (match TV.underlying t with
  | some (.interface _)=>none
  | some _=>some ⟨.iface t x,H,.pure⟩
  | none=>none)
 | _,_=>none
def opMakeSlice (t:TypeId):OpF
 | [l,c],H=>yrc0 (makeSliceL t H l c)
 | _,_=>none
def opSlice (t:TypeId) (lo hi mx:Option Operand):OpF
 | x::xs,H=>match three lo hi mx xs with
  | some (l,h,m)=>match sliceL t x l h m H with
   | some (v,H')=>some ⟨v,H',yxm0 v x⟩
   | none=>none
  | none=>none
 | _,_=>none
def opFieldAddr (s:TypeId) (f:Nat):OpF
 | [x],H=>pureR H (fieldAddrL s f x)
 | _,_=>none
def opField (s:TypeId) (f:Nat):OpF
 | [x],H=>pureR H (fieldL s f x)
 | _,_=>none
def opIndexAddr (t:TypeId):OpF
 | [x,i],H=>pureR H (indexAddrL t x i)
 | _,_=>none
def opIndex (t:TypeId):OpF
 | [x,i],H=>pureR H (indexL t x i)
 | _,_=>none
def opLookup (t:TypeId) (ok:Bool):OpF
 | [m,k],H=>loadR H m (lookupL t m k ok H)
 | _,_=>none
def opUpdate (t:TypeId):OpF
 | [m,k,v],H=>match updateL t m k v H with
  | some H'=>some ⟨yfe0,H',.change⟩
  | none=>none
 | _,_=>none
def opLen (t:TypeId):OpF
 | [x],H=>match TV.underlying t with
  | some .string=>match x with
   | .str s=>some ⟨.int .i64 (lenL s),H,.pure⟩
   | _=>none
  | some (.slice _)=>match lenV x with
   | some n=>match x with
    | .str _=>none
    | _=>some ⟨.int .i64 n,H,.pure⟩
   | none=>none
  | some (.array n _)=>some ⟨.int .i64 n,H,.pure⟩
  | some (.map _ _)=>match x with
   | .nilm=>some ⟨.int .i64 0,H,.pure⟩
   | .map i=>match H.get i with
    | .map es _=>some ⟨.int .i64 (lenL es),H,.load i⟩
    | _=>none
   | _=>none
  | _=>none
 | _,_=>none
def opAppend (t xt:TypeId):OpF
 | [s,x],H=>yrc0 (appendL t xt s x H)
 | _,_=>none
def opCopy (t:TypeId):OpF
 | [d,x],H=>yrc0 (copyL t d x H)
 | _,_=>none
def opClear (t:TypeId):OpF
 | [x],H=>yrc0 (clearL t x H)
 | _,_=>none
def opArrPtr (t:TypeId):OpF
 | [x],H=>pureR H (arrPtrL t x)
 | _,_=>none
def opRange (t:TypeId):OpF
 | [.map i],H=>match TV.underlying t with
  | some (.map _ _)=>match H.get i with
   | .map _ clock=>bif Nat.blt i H.n then some ⟨.ptr H.n 0,H.push (.miter i (clock,[],clock)),.change⟩ else none
   | _=>none
  | _=>none
 | _,_=>none
def opBuiltin (c:Call):Builtin->OpF
 | .len=>match c.argTypes[0]? with
  | some t=>opLen t
  | none=>yge0
 | .append=>match c.argTypes[0]? with
  | some t=>match c.argTypes[1]? with
   | some xt=>opAppend t xt
   | none=>yge0
  | none=>yge0
 | .copy=>match c.argTypes[0]? with
  | some t=>opCopy t
  | none=>yge0
 | .clear=>match c.argTypes[0]? with
  | some t=>opClear t
  | none=>yge0
 | .min=>opMin
 | .max=>opMax
 | _=>yge0
def lop (op:Op):OpF :=
 match op with
 | .move _=>yfq0
 | .assign _=>yfq0
 | .pick _ _ _=>yjf1
 | .alloc t=>opAlloc t
 | .box t _=>opBox t
 | .build t ps=>opBuild t (ps.toList.map (·.1))
 | .buildSlice t n ps=>opBuildSlice t n (ps.toList.map (·.1))
 | .load t _=>opLoad t
 | .store t _ _=>opStore t
 | .nilCheck _=>yqe0
 | .binOp op t a b _=>opBin op t (isConst a||isConst b)
 | .unOp op _ _=>opUn op
 | .convert s d _=>opConvert s d
 | .makeInterface t _=>opMakeInterface t
 | .makeFunc f first _=>match f with
  | .func g=>yfg0 g first.size
  | _=>yge0
 | .makeMap _ none=>yik0
 | .makeSlice t _ _=>opMakeSlice t
 | .slice t _ lo hi mx=>opSlice t lo hi mx
 | .fieldAddr s _ f=>opFieldAddr s f
 | .field s _ f=>opField s f
 | .indexAddr t _ _=>opIndexAddr t
 | .index t _ _=>opIndex t
 | .lookup t _ _ ok=>opLookup t ok
 | .mapUpdate t _ _ _=>opUpdate t
 | .insert t _ _ _=>opUpdate t
 | .sliceToArrayPointer t _=>opArrPtr t
 | .extract _ i=>yqi0 i
 | .range t _=>opRange t
 | .entry _=>yvw0
 | .call c=>match c.callee with
  | .builtin b=>opBuiltin c b
  | _=>yge0
 | _=>yge0
def hasBody (g:FuncId):Bool :=
 match TV.func? g with
 | some fu=>fu.body.isSome
 | none=>false
def hasFn (g:FuncId):Bool :=
 match TV.func? g with
 | some _=>true
 | none=>false
theorem TV_eq:TV=ysj0 Tryz.prog:=yln2 Tryz.prog (by decide +kernel) (by decide +kernel)
theorem hasBody_eq:hasBody=Ev.hasBody Tryz.prog:=by
 have h:hasBody=V.hasBody TV:=by kernel_rfl
 rw [h,TV_eq,V.hasBody_eq]
theorem hasFn_eq:hasFn=Ev.hasFn Tryz.prog:=by
 have h:hasFn=V.hasFn TV:=by kernel_rfl
 rw [h,TV_eq,V.hasFn_eq]
theorem lop_eq:lop=Ev.lop Tryz.prog:=by
 have h:lop=V.lop TV:=by kernel_rfl
 rw [h,TV_eq,V.lop_eq]
theorem binL_eq:binL=Ev.binL Tryz.prog:=by
 have h:binL=V.binL TV:=by kernel_rfl
 rw [h,TV_eq,V.binL_eq]
theorem aggOf_eq:aggOf=Ev.aggOf Tryz.prog:=by
 have h:aggOf=V.aggOf TV:=by kernel_rfl
 rw [h,TV_eq,V.aggOf_eq]
theorem sizeOfT_eq:sizeOfT=Ev.sizeOfT Tryz.prog:=by
 have h:sizeOfT=V.sizeOfT TV:=by kernel_rfl
 rw [h,TV_eq,V.sizeOfT_eq]
theorem partOf_eq:partOf=Ev.partOf Tryz.prog:=by
 have h:partOf=V.partOf TV:=by kernel_rfl
 rw [h,TV_eq,V.partOf_eq]
theorem zeroOf_eq:zeroOf=Ev.zeroOf Tryz.prog:=by
 have h:zeroOf=V.zeroOf TV:=by kernel_rfl
 rw [h,TV_eq,V.zeroOf_eq]
theorem loadL_eq:loadL=Ev.loadL Tryz.prog:=by
 have h:loadL=V.loadL TV:=by kernel_rfl
 rw [h,TV_eq,V.loadL_eq]
end T
end
end Go.Proofs.YtnpbgnjiihecgaaGreat.Ev
namespace Go.Proofs.YtnpbgnjiihecgaaGreat.Ev
open Go
noncomputable section
inductive Hint where
 | auto
 | skip (n:Nat) (h:Hint)
 | take (b:Bool) (h:Hint)
 | fork (l r:Hint)
 | vp (v:LV) (h:Hint)
 | st (cs:List LV) (h:Hint)
def limK (k:IntKind):Nat:=@IntKind.rec (fun _=>Nat) 128 32768 2147483648 9223372036854775808 256 65536 4294967296 18446744073709551616 k
def wrapK (k:IntKind) (n:Int):Int:=@Int.rec (fun _=>Int) (fun m=>bc (Nat.blt m (limK k)) (Int.ofNat m) (k.wrap (Int.ofNat m))) (fun m=>k.wrap (Int.negSucc m)) n
def ltI (a b:Int):Bool:=@Int.rec (fun _=>Bool) (fun m=>@Int.rec (fun _=>Bool) (fun n=>Nat.blt m n) (fun _=>false) b) (fun m=>@Int.rec (fun _=>Bool) (fun _=>true) (fun n=>Nat.blt n m) b) a
def eqI (a b:Int):Bool:=@Int.rec (fun _=>Bool) (fun m=>@Int.rec (fun _=>Bool) (fun n=>Nat.beq m n) (fun _=>false) b) (fun m=>@Int.rec (fun _=>Bool) (fun _=>false) (fun n=>Nat.beq m n) b) a
def notB (b:Bool):Bool:=bc b false true
def bitK (f:Nat->Nat->Nat) (g:(w:Nat)->BitVec w->BitVec w->BitVec w) (k:IntKind) (a b:Int):Int :=
 @Int.rec (fun _=>Int) (fun m=>@Int.rec (fun _=>Int) (fun n=>bc (Nat.blt m (limK k)) (bc (Nat.blt n (limK k)) (Int.ofNat (f m n)) (k.wrap (g k.bits (BitVec.ofInt k.bits (Int.ofNat m)) (BitVec.ofInt k.bits (Int.ofNat n))).toNat))
   (k.wrap (g k.bits (BitVec.ofInt k.bits (Int.ofNat m)) (BitVec.ofInt k.bits (Int.ofNat n))).toNat))
  (fun n=>k.wrap (g k.bits (BitVec.ofInt k.bits (Int.ofNat m)) (BitVec.ofInt k.bits (Int.negSucc n))).toNat) b)
  (fun m=>k.wrap (g k.bits (BitVec.ofInt k.bits (Int.negSucc m)) (BitVec.ofInt k.bits b)).toNat) a
def andK (k:IntKind) (a b:Int):Int:=bitK Nat.land (fun _ x y=>x &&& y) k a b
def orK (k:IntKind) (a b:Int):Int:=bitK Nat.lor (fun _ x y=>x ||| y) k a b
def xorK (k:IntKind) (a b:Int):Int:=bitK Nat.xor (fun _ x y=>x ^^^ y) k a b
def eqK (j k:IntKind):Bool :=
 @IntKind.rec (fun _=>IntKind->Bool) (fun k=>@IntKind.rec (fun _=>Bool) true false false false false false false false k) (fun k=>@IntKind.rec (fun _=>Bool) false true false false false false false false k)
  (fun k=>@IntKind.rec (fun _=>Bool) false false true false false false false false k) (fun k=>@IntKind.rec (fun _=>Bool) false false false true false false false false k)
  (fun k=>@IntKind.rec (fun _=>Bool) false false false false true false false false k) (fun k=>@IntKind.rec (fun _=>Bool) false false false false false true false false k)
  (fun k=>@IntKind.rec (fun _=>Bool) false false false false false false true false k) (fun k=>@IntKind.rec (fun _=>Bool) false false false false false false false true k) j k
namespace K
def onPtr (v:LV) (k:Nat->Nat->Prop):Prop:=@LV.rec (fun _=>Prop) (fun _=>Prop) False (fun _=>False) (fun _ _=>False) (fun _=>False) False (fun i o=>k i o) False (fun _ _ _ _=>False) (fun _=>False) False (fun _=>False) (fun _ _ _ _ _=>False) False (fun _ _ _=>False) False (fun _ _=>False) (fun _ _=>False) False (fun _ _ _ _=>False) v
def onInt (v:LV) (k:IntKind->Int->Prop):Prop:=@LV.rec (fun _=>Prop) (fun _=>Prop) False (fun _=>False) (fun q n=>k q n) (fun _=>False) False (fun _ _=>False) False (fun _ _ _ _=>False) (fun _=>False) False (fun _=>False) (fun _ _ _ _ _=>False) False (fun _ _ _=>False) False (fun _ _=>False) (fun _ _=>False) False (fun _ _ _ _=>False) v
def yov1 (v:LV) (k:Bool->Prop):Prop:=@LV.rec (fun _=>Prop) (fun _=>Prop) False (fun b=>k b) (fun _ _=>False) (fun _=>False) False (fun _ _=>False) False (fun _ _ _ _=>False) (fun _=>False) False (fun _=>False) (fun _ _ _ _ _=>False) False (fun _ _ _=>False) False (fun _ _=>False) (fun _ _=>False) False (fun _ _ _ _=>False) v
def onAgg (v:LV) (k:List LV->Prop):Prop:=@LV.rec (fun _=>Prop) (fun _=>Prop) False (fun _=>False) (fun _ _=>False) (fun _=>False) False (fun _ _=>False) False (fun _ _ _ _=>False) (fun _=>False) False (fun _=>False) (fun _ _ _ _ _=>False) False (fun _ _ _=>False) False (fun l _=>k l) (fun _ _=>False) False (fun _ _ _ _=>False) v
def onTup (v:LV) (k:List LV->Prop):Prop:=@LV.rec (fun _=>Prop) (fun _=>Prop) False (fun _=>False) (fun _ _=>False) (fun _=>False) False (fun _ _=>False) False (fun _ _ _ _=>False) (fun _=>False) False (fun _=>False) (fun _ _ _ _ _=>False) False (fun _ _ _=>False) False (fun _ _=>False) (fun l _=>k l) False (fun _ _ _ _=>False) v
def ygd1 (v:LV) (k:IntKind->Int->Prop) (o:Prop):Prop:=@LV.rec (fun _=>Prop) (fun _=>Prop) o (fun _=>o) (fun q n=>k q n) (fun _=>o) o (fun _ _=>o) o (fun _ _ _ _=>o) (fun _=>o) o (fun _=>o) (fun _ _ _ _ _=>o) o (fun _ _ _=>o) o (fun _ _=>o) (fun _ _=>o) o (fun _ _ _ _=>o) v
def ylk1 (v:LV) (k:Nat->Nat->Prop) (s:Nat->Nat->Nat->Prop):Prop:=@LV.rec (fun _=>Prop) (fun _=>Prop) False (fun _=>False) (fun _ _=>False) (fun _=>False) False (fun i o=>k i o) False (fun i o l _=>s i o l) (fun _=>False) False (fun _=>False) (fun _ _ _ _ _=>False) False (fun _ _ _=>False) False (fun _ _=>False) (fun _ _=>False) False (fun _ _ _ _=>False) v
def yvb2 (v:LV) (k:Bool->Prop) (n:Prop):Prop:=@LV.rec (fun _=>Prop) (fun _=>Prop) False (fun b=>k b) (fun _ _=>False) (fun _=>False) False (fun _ _=>False) False (fun _ _ _ _=>False) (fun _=>False) False (fun _=>False) (fun _ _ _ _ _=>False) False (fun _ _ _=>False) False (fun _ _=>False) (fun l _=>@List.rec LV (fun _=>Prop) n (fun _ _ _=>False) l) False (fun _ _ _ _=>False) v
def onRow (o:LObj) (k:TypeId->Own->List LV->Prop) (f:List CK->TypeId->Own->List LV->Prop):Prop:=@LObj.rec (fun _=>Prop) False (fun e w cs=>k e w cs) (fun _ _=>False) False (fun _ _=>False) (fun _ _ _ _ _ _ _ _ _=>False) (fun _=>False) (fun ks e w vs=>f ks e w vs) (fun _=>False) (fun _ _=>False) (fun _ _=>False) o
def ypv1 (w:Own) (k:Prop):Prop:=@Own.rec (fun _=>Prop) False k (fun _=>k) w
def dec (b:Bool) (h:Hint) (kt kf:Hint->Prop):Prop :=
 @Hint.rec (fun _=>Prop) (bc b (kt .auto) (kf .auto))
  (fun n h ih=>@Nat.rec (fun _=>Prop) ih (fun m _=>bc b (kt (.skip m h)) (kf (.skip m h))) n)
  (fun c h _=>b=c/\bc c (kt h) (kf h)) (fun l r _ _=>bc b (kt l) (kf r)) (fun _ _ _=>False) (fun _ _ _=>False) h
def hop (h:Hint) (norm:Hint->Prop) (vp:LV->Hint->Prop) (st:List LV->Hint->Prop):Prop :=
 @Hint.rec (fun _=>Prop) (norm .auto) (fun n h ih=>@Nat.rec (fun _=>Prop) ih (fun m _=>norm (.skip m h)) n)
  (fun _ _ _=>False) (fun _ _ _ _=>False) (fun v h _=>vp v h) (fun cs h _=>st cs h) h
def need (b:Bool) (k:Prop):Prop:=@Bool.rec (fun _=>Prop) False k b
def optK {Z:Type} (o:Option Z) (k:Z->Prop):Prop:=@Option.rec Z (fun _=>Prop) False k o
abbrev Locs:=List (Nat × LV)
def look (loc:Locs) (t:Nat) (k:LV->Prop):Prop:=@List.rec (Nat × LV) (fun _=>Prop) False (fun p _ ih=>@Bool.rec (fun _=>Prop) ih (k p.2) (Nat.beq p.1 t)) loc
def trGet {Z:Type} (d:Z) (t:Tr Z) (i:Nat) (k:Z->Prop):Prop :=
 @Tr.rec Z (fun _=>Nat->Prop) (fun _=>k d) (fun v _ _ gl gr i=>@Nat.rec (fun _=>Prop) (k v) (fun j _=>@Nat.rec (fun _=>Prop) (gl (Nat.div j 2)) (fun _ _=>gr (Nat.div j 2)) (Nat.mod j 2)) i) t i
def oneT {Z:Type} (d x:Z) (k:Nat):Nat->Tr Z :=
 @Nat.rec (fun _=>Nat->Tr Z) (fun _=>.nil) (fun _ g i=>@Nat.rec (fun _=>Tr Z) (.node x .nil .nil) (fun j _=>@Nat.rec (fun _=>Tr Z) (.node d (g (Nat.div j 2)) .nil) (fun _ _=>.node d .nil (g (Nat.div j 2))) (Nat.mod j 2)) i) k
def setT {Z:Type} (d x:Z) (t:Tr Z):Nat->Tr Z :=
 @Tr.rec Z (fun _=>Nat->Tr Z) (fun i=>oneT d x (i+1) i) (fun v l r gl gr i=>@Nat.rec (fun _=>Tr Z) (.node x l r) (fun j _=>@Nat.rec (fun _=>Tr Z) (.node v (gl (Nat.div j 2)) r) (fun _ _=>.node v l (gr (Nat.div j 2))) (Nat.mod j 2)) i) t
def ynt0 {Z:Type} (t:Tr Z) (k:Tr Z->Prop):Prop:=@Tr.rec Z (fun _=>Prop) (k .nil) (fun v l r _ _=>k (.node v l r)) t
def yqv1 (H:Heap) (k:Heap->Prop):Prop:=@Heap.rec (fun _=>Prop) (fun n t=>ynt0 t fun t=>k ⟨n,t⟩) H
def getObj (H:Heap) (i:Nat) (k:LObj->Prop):Prop:=trGet Slot.none H.t i fun s=>k s.obj
def putK (H:Heap) (i:Nat) (o:LObj) (k:Heap->Prop):Prop:=@Heap.rec (fun _=>Prop) (fun n t=>ynt0 (setT Slot.none ⟨Nat.succ (Heap.slot ⟨n,t⟩ i).stamp,o⟩ t i) fun t=>k ⟨n,t⟩) H
def pushK (H:Heap) (o:LObj) (k:Heap->Prop):Prop:=@Heap.rec (fun _=>Prop) (fun n t=>ynt0 (setT Slot.none ⟨0,o⟩ t n) fun t=>k ⟨Nat.succ n,t⟩) H
def nthK (l:List LV) (i:Nat) (k:LV->Prop):Prop :=
 @List.rec LV (fun _=>Nat->Prop) (fun _=>False) (fun v _ g i=>@Nat.rec (fun _=>Prop) (k v) (fun j _=>g j) i) l i
abbrev KCall:=Fn->List LV->Heap->Hint->(LEnd->Heap->Hint->Prop)->Prop
structure BRes where
 x:LX
 L:List (Nat × LV)
 ch:List (Nat × LObj)
 new:List LObj
structure BEnt where
 slots:List Nat
 depth:Nat
 f:List LV->List LObj->Option (Bool × BRes)
 fl:List TypeId:=[]
structure Cx where
 fn:FuncId
 n:Nat
 nv:Nat
 round:Option Nat
 call:KCall
 bp:Nat->Option BEnt
 kp:Nat->Bool
def opd (x:Operand) (nv:Nat) (var:Tr LV) (loc:Locs) (k:LV->Prop):Prop :=
 @Operand.rec (fun _=>Prop) (fun t=>@Bool.rec (fun _=>Prop) (look loc t k) (trGet .junk var t k) (Nat.ble (Nat.succ t) nv)) (fun v=>k (ofVal v)) (fun _=>False) (fun g=>k (.func (.func g) [] [])) x
def opdsK (l:List Operand) (nv:Nat) (var:Tr LV) (loc:Locs) (k:List LV->Prop):Prop :=
 @List.rec Operand (fun _=>(List LV->Prop)->Prop) (fun k=>k []) (fun x _ ih k=>opd x nv var loc fun v=>ih fun vs=>k (v::vs)) l k
abbrev OpFn:=Cx->Tr LV->Locs->Heap->Hint->(LV->Kd->Heap->Hint->Prop)->(LV->Heap->Hint->Prop)->Prop
def gotR (r:OpR) (k:LV->Kd->Heap->Prop):Prop:=@OpR.rec (fun _=>Prop) (fun v H kd=>yqv1 H fun H=>k v kd H) r
def genF (op:Op):OpFn:=fun cx var loc H h k _=>opdsK (opds op) cx.nv var loc fun xs=>hop h (fun h=>optK (T.lop op xs H) fun r=>gotR r fun v kd H=>k v kd H h)
 (fun v h=>T.lop op xs H=some ⟨v,H,.pure⟩/\k v .pure H h) (fun _ _=>False)
def gen0F (op:Op):OpFn:=fun cx var loc H h k _=>opdsK (opds op) cx.nv var loc fun xs=>optK (T.lop op xs H) fun r=>gotR r fun v kd H=>k v kd H h
def moveF (x:Operand):OpFn:=fun cx var loc H h k _=>opd x cx.nv var loc fun v=>k v .pure H h
def intK (op:BinOp):IntKind->Int->Int->Hint->(LV->Hint->Prop)->Prop :=
 @BinOp.rec (fun _=>IntKind->Int->Int->Hint->(LV->Hint->Prop)->Prop)
  (fun q a b h k=>k (.int q (wrapK q (a+b))) h) (fun q a b h k=>k (.int q (wrapK q (a-b))) h) (fun q a b h k=>k (.int q (wrapK q (a*b))) h)
  (fun q a b h k=>dec (eqI b 0) h (fun _=>False) fun h=>k (.int q (wrapK q (a.tdiv b))) h) (fun q a b h k=>dec (eqI b 0) h (fun _=>False) fun h=>k (.int q (a.tmod b)) h)
  (fun q a b h k=>k (.int q (andK q a b)) h) (fun q a b h k=>k (.int q (orK q a b)) h) (fun q a b h k=>k (.int q (xorK q a b)) h)
  (fun _ _ _ _ _=>False) (fun _ _ _ _ _=>False)
  (fun q a b h k=>k (.int q (q.wrap (BitVec.ofInt q.bits a &&& ~~~BitVec.ofInt q.bits b).toNat)) h)
  (fun _ a b h k=>k (.bool (eqI a b)) h) (fun _ a b h k=>k (.bool (notB (eqI a b))) h)
  (fun _ a b h k=>k (.bool (ltI a b)) h) (fun _ a b h k=>k (.bool (notB (ltI b a))) h) (fun _ a b h k=>k (.bool (ltI b a)) h) (fun _ a b h k=>k (.bool (notB (ltI a b))) h) op
def yon2 (op:BinOp) (q:IntKind) (a b:Int) (h:Hint) (k:LV->Hint->Prop):Prop :=
 dec (ltI b 0) h (fun _=>False) fun h=>match op with
  | .shl=>k (.int q (wrapK q (a*2 ^ (min b.toNat q.bits)))) h
  | .shr=>k (.int q (a.fdiv (2 ^ (min b.toNat q.bits)))) h
  | _=>False
def strK (op:BinOp) (x y:LV) (k:LV->Prop) (o:Prop):Prop:=match x with
 | .str a=>match y with
  | .str b=>match op with
   | .add=>need (Nat.ble (lenL a+lenL b) 4611686018427387904) (k (.str (app a b)))
   | .eql=>k (.bool (eqB a b))
   | .neq=>k (.bool (notB (eqB a b)))
   | _=>o
  | _=>o
 | _=>o
def binK (op:BinOp) (t:TypeId) (kc:Bool) (x y:LV) (h:Hint) (k:LV->Hint->Prop):Prop :=
 ygd1 x (fun q a=>ygd1 y (fun r b=>@Bool.rec (fun _=>Prop) (need (eqK q r) (intK op q a b h k)) (yon2 op q a b h k) (ybj0 op)) (optK (T.binL op t kc x y) fun v=>k v h)) (strK op x y (fun v=>k v h) (optK (T.binL op t kc x y) fun v=>k v h))
def binF (op:BinOp) (t:TypeId) (a b:Operand):OpFn:=fun cx var loc H h k _ =>
 opd a cx.nv var loc fun x=>opd b cx.nv var loc fun y=>binK op t (isConst a||isConst b) x y h fun v h=>k v .pure H h
def pickF (c a b:Operand):OpFn:=fun cx var loc H h k _=>opd c cx.nv var loc fun c=>opd a cx.nv var loc fun x=>opd b cx.nv var loc fun y =>
 yov1 c fun c=>dec c h (fun h=>k x .pure H h) (fun h=>k y .pure H h)
def notF (x:Operand):OpFn:=fun cx var loc H h k _=>opd x cx.nv var loc fun v=>yov1 v fun b=>k (.bool (notB b)) .pure H h
def partK (t:TypeId) (cs:List LV) (off:Nat) (k:LV->Prop):Prop :=
 optK (T.aggOf t) fun ag=>bc ag (optK (T.sizeOfT t) fun n=>need (Nat.ble (off+n) (lenL cs)) (k (.agg (takeN (dropN cs off) n)))) (nthK cs off k)
def cksV (l:List LV):Option (List CK):=@List.rec LV (fun _=>Option (List CK)) (some []) (fun v _ r=>match ckV v with
 | some c=>match r with
  | some cs=>some (c::cs)
  | none=>none
 | none=>none) l
def ypf0 (ks:List CK) (o:Nat):CK:=@Nat.rec (fun _=>List CK->CK) headK (fun _ g ks=>g (rotK ks)) o ks
def yff2 (ks:List CK) (k:Prop) (cs:List CK) (o:Nat):Prop:=@List.rec CK (fun _=>Nat->Prop) (fun _=>k) (fun c _ r o=>ypf0 ks o=c/\r (o+1)) cs o
def ymk1 (d:CK) (cs:List CK):Bool:=@List.rec CK (fun _=>Bool) true (fun c _ r=>bc (eqCK d c) r false) cs
def ygf2 (ks:List CK) (o:Nat) (cs:List CK) (k:Prop):Prop:=match ks with
 | [d]=>need (ymk1 d cs) k
 | _=>yff2 ks k cs o
def atV (vs:List LV) (o:Nat):LV:=vs.getD o .junk
def yxe0 (vs:List LV) (cs:List CK) (o:Nat):List LV:=@List.rec CK (fun _=>Nat->List LV) (fun _=>[]) (fun c _ r o=>c.san (atV vs o)::r (o+1)) cs o
def ckTs (t:TypeId):Option (List CK):=match T.zeroOf t with
 | some z=>cksV (cellsOf z)
 | none=>none
def oneV (l:List LV) (k:LV->Prop):Prop:=match l with
 | [v]=>k v
 | _=>False
def ynk1 (t:TypeId) (ks:List CK) (vs:List LV) (o:Nat) (k:LV->Prop):Prop:=optK (T.aggOf t) fun ag=>optK (ckTs t) fun cs=>need (Nat.ble (o+lenL cs) (lenL vs)) (ygf2 ks o cs
 (bc ag (optK (T.sizeOfT t) fun n=>need (Nat.beq n (lenL cs)) (k (.agg (yxe0 vs cs o)))) (oneV (yxe0 vs cs o) k)))
def loadF (t:TypeId) (a:Operand):OpFn:=fun cx var loc H h k _=>opd a cx.nv var loc fun a=>onPtr a fun i o=>getObj H i fun ob=>onRow ob (fun _ _ cs =>
 hop h (fun h=>partK t cs o fun v=>k v (.load i) H h) (fun v h=>T.partOf t cs o=some v/\k v (.load i) H h) (fun _ _=>False)) (fun ks _ _ vs=>ynk1 t ks vs o fun v=>k v (.load i) H h)
def yhd1 (t:TypeId) (i o:Nat) (v:LV) (ks:List CK) (e:TypeId) (w:Own) (vs:List LV) (H:Heap) (k:Heap->Prop):Prop :=
 ypv1 w <| optK (T.sizeOfT t) fun n=>need (Nat.beq n 1) <| match ks with
  | [c]=>need (allCK c [v]) <| need (Nat.ble (Nat.succ i) H.n) <| need (Nat.ble (o+1) (lenL vs)) <| putK H i (.flat [c] e w (yua0 vs o [v])) k
  | _=>False
def ypn2 (t:TypeId) (a v:Operand):OpFn:=fun cx var loc H h k _=>opd a cx.nv var loc fun a=>opd v cx.nv var loc fun v=>need (notB (yta0 v)) <| onPtr a fun i o=>getObj H i fun ob=>onRow ob (fun e w cs =>
 ypv1 w <| optK (T.sizeOfT t) fun n=>need (yse0 (cellsOf v)) <| need (Nat.beq (lenL (cellsOf v)) n) <| need (Nat.ble (Nat.succ i) H.n) <|
  hop h (fun h=>need (Nat.ble (o+n) (lenL cs)) (putK H i (.cells e w (yua0 cs o (cellsOf v))) fun H=>k yfe0 .change H h)) (fun _ _=>False)
   (fun cs' h=>Nat.ble (o+n) (lenL cs)=true/\yua0 cs o (cellsOf v)=cs'/\putK H i (.cells e w cs') fun H=>k yfe0 .change H h))
 (fun ks e w vs=>yhd1 t i o v ks e w vs H fun H=>k yfe0 .change H h)
def fOff (s:TypeId) (f:Nat):Option Nat :=
 match TV.underlying s with
 | some (.struct fields)=>match fields[f]? with
  | some fd=>match T.sizeOfT fd.type with
   | some n=>bif Nat.beq n 0 then none else some fd.offset
   | none=>none
  | none=>none
 | _=>none
def yby0 (s:TypeId) (x:Operand) (f:Nat):OpFn:=fun cx var loc H h k _=>opd x cx.nv var loc fun x=>onPtr x fun i o=>optK (fOff s f) fun off=>k (.ptr i (o+off)) .pure H h
def fType (s:TypeId) (f:Nat):Option (TypeId × Nat) :=
 match TV.underlying s with
 | some (.struct fields)=>match fields[f]? with
  | some fd=>some (fd.type,fd.offset)
  | none=>none
 | _=>none
def yqn2 (s:TypeId) (x:Operand) (f:Nat):OpFn:=fun cx var loc H h k _=>opd x cx.nv var loc fun x=>onAgg x fun cs=>optK (fType s f) fun p=>partK p.1 cs p.2 fun v=>k v .pure H h
def yid1 (x:Operand):OpFn:=fun cx var loc H h k _=>opd x cx.nv var loc fun x=>optK (yqe0 [x] H) fun r=>k r.v .pure H h
def yok1 (x:Operand) (i:Nat):OpFn:=fun cx var loc H h k _=>opd x cx.nv var loc fun x=>onTup x fun vs=>nthK vs i fun v=>k v .pure H h
def boxF (t:TypeId) (x:Operand):OpFn:=fun cx var loc H h k _=>opd x cx.nv var loc fun v=>need (notB (yta0 v)) (pushK H (.cells t .exact (cellsOf v)) fun H'=>k (.ptr H.n 0) .change H' h)
def yrn2 (t:TypeId):OpFn:=fun _ _ _ H h k _=>optK (T.zeroOf t) fun v=>need (notB (yta0 v)) (pushK H (.cells t .exact (cellsOf v)) fun H'=>k (.ptr H.n 0) .change H' h)
def yra1 (t:TypeId):Option Nat :=
 match TV.underlying t with
 | some (.array _ e)=>T.sizeOfT e
 | some (.slice e)=>T.sizeOfT e
 | _=>none
def yhf2 (t:TypeId):Option Nat :=
 match TV.underlying t with
 | some (.array n _)=>some n
 | _=>none
def ysa1 (t:TypeId):Bool :=
 match TV.underlying t with
 | some (.slice _)=>true
 | _=>false
def inK (ix:Int) (len:Nat) (h:Hint) (k:Nat->Hint->Prop):Prop :=
 dec (ltI ix 0) h (fun _=>False) fun h=>dec (ltI ix len) h (fun h=>k ix.toNat h) fun _=>False
def ycy0 (t:TypeId) (x i:Operand):OpFn:=fun cx var loc H h k _=>opd x cx.nv var loc fun x=>opd i cx.nv var loc fun i=>onInt i fun _ ix=>optK (yra1 t) fun n =>
 ylk1 x (fun b o=>optK (yhf2 t) fun len=>inK ix len h fun j h=>k (.ptr b (o+j*n)) .pure H h) (fun b o l=>need (ysa1 t) (inK ix l h fun j h=>k (.ptr b (o+j*n)) .pure H h))
def yjd1 (s d:TypeId):Option IntKind :=
 match TV.underlying s with
 | some (.int _)=>match TV.underlying d with
  | some (.int k)=>some k
  | _=>none
 | _=>none
def ysn2 (l:List LV):List UInt8:=l.map fun v=>UInt8.ofNat (intOf v).toNat
def yrv1 (s d:TypeId):Bool:=match TV.underlying s with
 | some (.slice e)=>match TV.underlying e with
  | some (.int .u8)=>match TV.underlying d with
   | some .string=>true
   | _=>false
  | _=>false
 | _=>false
def u8K:CK:=.i .u8
def yta1 (H:Heap) (v:LV) (k:List UInt8->Nat->Prop) (o:Prop):Prop:=match v with
 | .slice i of n _=>getObj H i fun ob=>onRow ob (fun _ _ _=>o) (fun ks _ _ vs=>match ks with
  | [d]=>need (eqCK u8K d) (need (Nat.ble (of+n) (lenL vs)) (k (ysn2 (sub vs of n)) i))
  | _=>False)
 | _=>o
def ykd1 (s d:TypeId) (x:Operand):OpFn:=fun cx var loc H h k kp=>opd x cx.nv var loc fun v=>yta1 H v (fun l i=>k (.str l) (.load i) H h) (gen0F (.convert s d x) cx var loc H h k kp)
def yif2 (q:IntKind) (n:Int) (k:LV->Prop) (cs:List LV):Prop:=@List.rec LV (fun _=>Prop) False (fun c _ r=>onInt c fun _ j=>bc (eqI n j) (k (.int q j)) r) cs
def yua1 (s d:TypeId) (x:Operand):OpFn:=fun cx var loc H h k kp =>
 @Option.rec IntKind (fun _=>Prop) (bc (yrv1 s d) (ykd1 s d x cx var loc H h k kp) (gen0F (.convert s d x) cx var loc H h k kp)) (fun q=>opd x cx.nv var loc fun v=>onInt v fun _ n=>hop h (fun h=>k (.int q (wrapK q n)) .pure H h) (fun _ _=>False) (fun cs h=>yif2 q (wrapK q n) (fun v=>k v .pure H h) cs)) (yjd1 s d)
def endK (k:LV->Kd->Heap->Hint->Prop) (kp:LV->Heap->Hint->Prop) (e:LEnd) (H:Heap) (h:Hint):Prop :=
 @LEnd.rec (fun _=>Prop) (fun v=>k v .change H h) (fun v=>kp v H h) e
def callF (op:Op):OpFn:=fun cx var loc H h k kp=>opdsK (opds op) cx.nv var loc fun xs=>optK (yte0 xs) fun p=>cx.call p.1 p.2 H h (endK k kp)
def findK (kk:IntKind) (a:Int) (k:Option LV->Hint->Prop) (es:List Ent) (h:Hint):Prop:=@List.rec Ent (fun _=>Hint->Prop) (fun h=>k none h) (fun e _ r h=>onInt e.key fun q b=>need (eqK kk q) (dec (eqI a b) h (fun h=>k (some e.val) h) r)) es h
def mapZ (t:TypeId):Option LV:=match TV.underlying t with
 | some (.map kt et)=>match TV.underlying kt with
  | some (.int _)=>T.zeroOf et
  | _=>none
 | _=>none
def yjf2 (ok:Bool) (z:LV) (r:Option LV):LV:=match r with
 | some v=>bc ok (.tup [v,.bool true]) v
 | none=>bc ok (.tup [z,.bool false]) z
def kdMap (m:LV):Kd:=match m with
 | .map i=>.load i
 | _=>.pure
def ywb2 (t:TypeId) (m kk:Operand) (ok:Bool):OpFn:=fun cx var loc H h k kp=>opd m cx.nv var loc fun mv=>opd kk cx.nv var loc fun kv =>
 ygd1 kv (fun q a=>optK (mapZ t) fun z=>optK (yon0 H mv) fun es=>findK q a (fun r h=>k (yjf2 ok z r) (kdMap mv) H h) es h) (genF (.lookup t m kk ok) cx var loc H h k kp)
def yva1 (x:Option LV) (d:Nat) (k:Nat->Prop):Prop:=match x with
 | none=>k d
 | some v=>onInt v fun _ i=>need (notB (ltI i 0)) (k i.toNat)
def ysv1 (t:TypeId):Option Nat:=match TV.underlying t with
 | some (.slice e)=>T.sizeOfT e
 | _=>none
def ytv1 (t:TypeId):Bool:=match TV.underlying t with
 | some .string=>true
 | _=>false
def offZ (size o c l:Nat):Nat:=bc (Nat.beq l 0) o (bc (Nat.beq c l) o (o+l*size))
def yuv1 (o:LObj) (size of len kk:Nat) (k:Prop):Prop:=match openO o with
 | .cells _ (.grow sz) cs=>need (Nat.beq sz size) (need (Nat.beq of (kk*size)) (need (Nat.ble (of+len*size) (lenL cs)) (need (Nat.blt 0 size) k)))
 | _=>False
def ytn2 (size i o len:Nat) (cap:Cap) (lo hi mx:Option LV) (H:Heap) (h:Hint) (k:LV->Kd->Heap->Hint->Prop):Prop :=
 yva1 hi len fun hh=>yva1 lo 0 fun l=>need (Nat.ble hh len) (need (Nat.ble l hh) (match mx with
  | none=>match cap with
   | .known c=>need (Nat.ble hh c) (k (.slice i (offZ size o c l) (hh-l) (.known (c-l))) .pure H h)
   | .rest kk=>getObj H i fun ob=>yuv1 ob size o len kk (dec (Nat.beq l 0) h (fun h=>k (.slice i o hh (.rest kk)) (.load i) H h) (fun h=>dec (Nat.beq l hh) h (fun h=>pushK H .empty fun H'=>k (.emp H.n) .change H' h) (fun h=>k (.slice i (o+l*size) (hh-l) (.rest (kk+l))) (.load i) H h)))
  | some m=>yva1 (some m) 0 fun mm=>need (Nat.ble hh mm) (need (Nat.ble mm len) (match cap with
   | .known c=>need (Nat.ble mm c) (k (.slice i (offZ size o mm l) (hh-l) (.known (mm-l))) .pure H h)
   | .rest kk=>getObj H i fun ob=>yuv1 ob size o len kk (k (.slice i (offZ size o mm l) (hh-l) (.known (mm-l))) (.load i) H h)))))
def yld1 (s:List UInt8) (lo hi:Option LV) (k:LV->Prop):Prop :=
 yva1 hi (lenL s) fun hh=>yva1 lo 0 fun l=>need (Nat.ble hh (lenL s)) (need (Nat.ble l hh) (k (.str (takeB (dropB s l) (hh-l)))))
def isNone {Z:Type} (o:Option Z):Bool:=match o with
 | none=>true
 | some _=>false
def yun2 (t:TypeId) (x:Operand) (lo hi mx:Option Operand):OpFn:=fun cx var loc H h k kp=>opdsK (opds (.slice t x lo hi mx)) cx.nv var loc fun xs=>match xs with
 | v::rest=>match v with
  | .slice i o len cap=>optK (three lo hi mx rest) fun p=>optK (ysv1 t) fun size=>ytn2 size i o len cap p.1 p.2.1 p.2.2 H h k
  | .str s=>bc (ytv1 t) (optK (three lo hi mx rest) fun p=>need (isNone p.2.2) (yld1 s p.1 p.2.1 fun v=>k v .pure H h)) False
  | _=>genF (.slice t x lo hi mx) cx var loc H h k kp
 | []=>False
def ykf2 (s:List UInt8) (i:Nat):Int:=Int.ofNat (s.getD i 0).toNat
def yvn2 (t:TypeId) (x i:Operand):OpFn:=fun cx var loc H h k kp=>opd x cx.nv var loc fun xv=>opd i cx.nv var loc fun iv=>match xv with
 | .str s=>bc (ytv1 t) (onInt iv fun _ ix=>need (notB (ltI ix 0)) (need (ltI ix (lenL s)) (k (.int .u8 (ykf2 s ix.toNat)) .pure H h))) False
 | _=>genF (.index t x i) cx var loc H h k kp
def ypk1 (t:TypeId):Bool:=match TV.underlying t with
 | some (.int _)=>false
 | some _=>true
 | none=>false
def ylf2 (t:TypeId):Option TypeId:=match TV.underlying t with
 | some (.slice e)=>some e
 | _=>none
def ckE (e:TypeId):Option CK:=match T.zeroOf e with
 | some z=>ckV z
 | none=>none
def rawK (c:CK) (H:Heap) (n:Nat) (x:LV) (k:List LV->Prop):Prop:=match x with
 | .nils=>need (Nat.beq n 0) (k [])
 | .emp _=>need (Nat.beq n 0) (k [])
 | .slice i o _ _=>getObj H i fun ob=>onRow ob (fun _ _ cs=>need (Nat.ble (o+n) (lenL cs)) (need (allCK c (sub cs o n)) (k (sub cs o n)))) (fun ks _ _ vs=>match ks with
  | [d]=>need (eqCK c d) (need (Nat.ble (o+n) (lenL vs)) (k (sub vs o n)))
  | _=>False)
 | .str s=>need (eqCK c (.i .u8)) (need (Nat.ble n (lenL s)) (k (ofBytes (takeB s n))))
 | _=>False
def yvv1 (elem:TypeId) (c:CK) (H:Heap) (n:Nat) (vs:List LV) (k:LV->Heap->Prop):Prop:=optK (TV.info? elem) fun i=>need (Nat.ble (n*i.bytes) 1099511627776) (need (Nat.ble i.bytes 1048576) (need (Nat.blt 0 i.bytes)
 (pushK H (.flat [c] elem (.grow 1) vs) fun H'=>k (.slice H.n 0 n (.rest 0)) H')))
def appK (elem:TypeId) (c:CK) (s:LV) (n:Nat) (raw:List LV) (H:Heap) (h:Hint) (k:LV->Heap->Hint->Prop):Prop:=match s with
 | .nils=>dec (Nat.beq n 0) h (fun h=>k .nils H h) (fun h=>yvv1 elem c H n raw fun v H=>k v H h)
 | .slice j o l cp=>rawK c H l (.slice j o l cp) fun d=>need (Nat.ble (Nat.succ j) H.n) (match cp with
  | .known cap=>dec (Nat.ble (l+n) cap) h (fun h=>need (Nat.beq n 0) (k (.slice j o l cp) H h)) (fun h=>yvv1 elem c H (l+n) (app d raw) fun v H=>k v H h)
  | .rest kk=>need (yuw0 H j elem) (need (Nat.beq o 0) (need (Nat.beq kk 0) (dec (Nat.beq n 0) h (fun h=>k (.slice j o l cp) H h) (fun h=>putK H j .dead fun H=>yvv1 elem c H (l+n) (app d raw) fun v H=>k v H h)))))
 | _=>False
def yxb2 (t xt:TypeId) (s x:LV) (H:Heap) (h:Hint) (k:LV->Heap->Hint->Prop):Prop:=need (ypk1 xt) (optK (ylf2 t) fun elem=>optK (T.sizeOfT elem) fun size=>optK (lenV x) fun n=>need (Nat.beq size 1) (optK (ckE elem) fun c=>rawK c H n x fun raw=>appK elem c s n raw H h k))
def twoT (c:Call):Option (TypeId × TypeId):=match c.argTypes[0]? with
 | some t=>match c.argTypes[1]? with
  | some xt=>some (t,xt)
  | none=>none
 | none=>none
def yqk1 (c:Call):OpFn:=fun cx var loc H h k kp=>opdsK (opds (.call c)) cx.nv var loc fun xs=>match xs with
 | [s,x]=>bc (bc (yhe0 H s) true (yhe0 H x)) (optK (twoT c) fun p=>yxb2 p.1 p.2 s x H h fun v H h=>k v .change H h) (gen0F (.call c) cx var loc H h k kp)
 | _=>gen0F (.call c) cx var loc H h k kp
def repC (c:CK) (n:Nat):List CK:=@Nat.rec (fun _=>List CK) [] (fun _ r=>c::r) n
def copyV (t:TypeId) (d x:LV) (H:Heap) (k:LV->Heap->Prop):Prop:=optK (ysv1 t) fun size=>need (Nat.beq size 1) (match d with
 | .slice j o m _=>(match x with
  | .slice i of n _=>need (Nat.ble n m) (getObj H i fun ob=>match ob with
   | .flat [b] _ _ vs=>need (Nat.ble (of+n) (lenL vs)) (getObj H j fun ob=>onRow ob (fun e w cs=>ypv1 w (need (Nat.ble (o+n) (lenL cs)) (need (Nat.ble (Nat.succ j) H.n) (need (yse0 (yxe0 vs (repC b n) of))
    (putK H j (.cells e w (yua0 cs o (yxe0 vs (repC b n) of))) fun H=>k (.int .i64 n) H))))) (fun _ _ _ _=>False))
   | _=>False)
  | _=>False)
 | _=>False)
def ywn2 (c:Call):OpFn:=fun cx var loc H h k kp=>opdsK (opds (.call c)) cx.nv var loc fun xs=>match xs with
 | [d,x]=>bc (yhe0 H x) (optK c.argTypes[0]? fun t=>copyV t d x H fun v H=>k v .change H h) (gen0F (.call c) cx var loc H h k kp)
 | _=>gen0F (.call c) cx var loc H h k kp
def ywa1 (c:Call) (b:Builtin):OpFn:=match b with
 | .append=>yqk1 c
 | .copy=>ywn2 c
 | _=>gen0F (.call c)
def ymf2 (t:TypeId):Option (TypeId × Bool):=match TV.underlying t with
 | some (.slice e)=>match T.zeroOf e with
  | some (.bool b)=>some (e,b)
  | _=>none
 | _=>none
def makeF (t:TypeId) (l c:Operand):OpFn:=fun cx var loc H h k kp=>opd l cx.nv var loc fun lv=>opd c cx.nv var loc fun cv=>match ymf2 t with
 | some p=>onInt lv fun _ n=>onInt cv fun _ m=>optK (TV.info? p.1) fun i=>need (notB (ltI n 0)) (need (notB (ltI m n)) (need (notB (ltI 1073741824 (m*i.bytes))) (need (notB (ltI 1073741824 m)) (need (Nat.beq i.size 1)
   (pushK H (.flat [.bo] p.1 .exact (yqb0 [.bool p.2] m.toNat)) fun H'=>k (.slice H.n 0 n.toNat (.known m.toNat)) .change H' h)))))
 | none=>gen0F (.makeSlice t l c) cx var loc H h k kp
def ypu2 (u:UnOp) (t:TypeId) (x:Operand):OpFn:=@UnOp.rec (fun _=>OpFn) (gen0F (.unOp .neg t x)) (gen0F (.unOp .xor t x)) (notF x) (gen0F (.unOp .plus t x)) u
def yrk1 (c:Call):OpFn:=@Callee.rec (fun _=>OpFn) (fun _=>callF (.call c)) (fun _ _=>gen0F (.call c)) (fun b=>ywa1 c b) c.callee
def doOpF (op:Op):OpFn:=@Op.rec (fun _=>OpFn) moveF moveF pickF yrn2 boxF (fun t ps=>gen0F (.build t ps)) (fun t n ps=>gen0F (.buildSlice t n ps)) (fun t m k v=>genF (.insert t m k v)) loadF ypn2 (fun g=>gen0F (.ready g)) (fun g=>gen0F (.waits g)) yid1
 (fun op t a b _=>binF op t a b) ypu2 yua1 (fun d x=>gen0F (.sliceToArrayPointer d x)) (fun t x=>gen0F (.makeInterface t x)) (fun f a b=>gen0F (.makeFunc f a b)) (fun t r=>gen0F (.makeMap t r)) (fun t s=>gen0F (.makeChan t s)) makeF
 yun2 yby0 yqn2 ycy0 yvn2 ywb2 (fun t m k v=>genF (.mapUpdate t m k v)) (fun t m k=>genF (.mapEntry t m k)) (fun t m s v=>genF (.entryStore t m s v))
 (fun t x=>gen0F (.range t x)) (fun i s=>gen0F (.next i s)) (fun i=>gen0F (.entry i)) (fun x t a ok=>gen0F (.typeAssert x t a ok)) yok1 yrk1 (fun c=>gen0F (.go c)) (fun c=>gen0F (.defer c)) (fun x=>gen0F (.panic x)) (fun c x=>gen0F (.send c x)) (fun t c ok=>gen0F (.recv t c ok))
 (fun cs b=>gen0F (.select cs b)) op
abbrev Cont:=LX->Tr LV->Locs->List Nat->Heap->Hint->Prop
abbrev ypc0:=Cx->Tr LV->Locs->List Nat->Heap->Hint->Cont->Prop
def putS (cx:Cx) (d:Option Tmp) (v:LV) (var:Tr LV) (loc:Locs) (k:Tr LV->Locs->Prop):Prop :=
 @Option.rec Nat (fun _=>Prop) (k var loc) (fun i=>need (Nat.ble (Nat.succ i) cx.n) (@Bool.rec (fun _=>Prop) (k var ((i,v)::loc)) (ynt0 (setT .junk v var i) fun var=>k var loc) (Nat.ble (Nat.succ i) cx.nv))) d
def ynf2 (all:List Oper) (p:Nat × Bool) (cx:Cx) (var:Tr LV) (loc:Locs) (h:Hint) (yes no:Tr LV->Locs->Hint->Prop):Prop :=
 optK (dstOf all p.1) fun d=>opd (.tmp d) cx.nv var loc fun v=>yvb2 v (fun b=>dec b h (fun h=>putS cx (some d) (.bool true) var loc fun var loc=>bc p.2 (yes var loc h) (no var loc h))
  (fun h=>putS cx (some d) (.bool false) var loc fun var loc=>bc p.2 (no var loc h) (yes var loc h))) (no var loc h)
def stepF (op:Op) (dst:Option Tmp) (next:ypc0):ypc0:=fun cx var loc mk H h k=>doOpF op cx var loc H h (fun v _ H h=>putS cx dst v var loc fun var loc=>next cx var loc mk H h k) (fun v H h=>k (.pan v) var loc mk H h)
def yxn2 (all:List Oper) (p:Nat × Bool) (op:Op) (dst:Option Tmp) (next:ypc0):ypc0:=fun cx var loc mk H h k =>
 ynf2 all p cx var loc h (fun var loc h=>stepF op dst next cx var loc mk H h k) (fun var loc h=>putS cx dst yfe0 var loc fun var loc=>next cx var loc mk H h k)
def operF (all:List Oper) (o:Oper) (next:ypc0):ypc0 :=
 @Oper.rec (fun _=>ypc0) (fun dst op _ _ _ g=>@Option.rec (Nat × Bool) (fun _=>ypc0) (stepF op dst next) (fun p=>yxn2 all p op dst next) g) o
def okF:ypc0:=fun _ var loc mk H h k=>k .normal var loc mk H h
def opsF (all l:List Oper):ypc0:=@List.rec Oper (fun _=>ypc0) okF (fun o _ next=>operF all o next) l
def regF (ops:List Oper):ypc0:=fun cx var _ mk H h k=>opsF ops ops cx var [] mk H h k
structure KDid where
 i:Nat
 d:Did
def ydy0 (lt:Bool) (y:Did) (m:Nat) (l:List KDid):Bool:=@List.rec KDid (fun _=>Bool) true (fun x _ ih=>bc (m.testBit x.i) ih (bc (yff0 x.d y) ih (bc (yjd0 x.d y) (bc lt ih false) false))) l
abbrev yxk0:=Nat->List Nat->List KDid->Cx->Tr LV->Locs->List Nat->Heap->Hint->Cont->Prop
def okD:yxk0:=fun _ _ _ _ var loc mk H h k=>k .normal var loc mk H h
def yyn2 (late:Nat) (kd:Kd) (H H' : Heap) (i:Nat) (ms:List Nat) (ds:List KDid) (k:List KDid->Prop):Prop :=
 @Kd.rec (fun _=>Prop) (k ds) (fun b=>optK ms.head? fun m=>need (ydy0 (Nat.testBit late i) ⟨.load b,H,H'⟩ m ds) (k (⟨i,⟨.load b,H,H'⟩⟩::ds))) (optK ms.head? fun m=>need (ydy0 (Nat.testBit late i) ⟨.change,H,H'⟩ m ds) (k (⟨i,⟨.change,H,H'⟩⟩::ds))) kd
def stepD (late:Nat) (op:Op) (dst:Option Tmp) (next:yxk0):yxk0:=fun i ms ds cx var loc mk H h k =>
 doOpF op cx var loc H h (fun v kd H' h=>yyn2 late kd H H' i ms ds fun ds=>putS cx dst v var loc fun var loc=>next (Nat.succ i) ms.tail ds cx var loc mk H' h k) (fun _ _ _=>False)
def yzn2 (all:List Oper) (p:Nat × Bool) (op:Op) (dst:Option Tmp) (next:yxk0):yxk0:=fun i ms ds cx var loc mk H h k =>
 ynf2 all p cx var loc h (fun var loc h=>stepD (ygg0 all) op dst next i ms ds cx var loc mk H h k) (fun var loc h=>putS cx dst yfe0 var loc fun var loc=>next (Nat.succ i) ms.tail ds cx var loc mk H h k)
def operD (all:List Oper) (o:Oper) (next:yxk0):yxk0 :=
 @Oper.rec (fun _=>yxk0) (fun dst op _ _ _ g=>@Option.rec (Nat × Bool) (fun _=>yxk0) (stepD (ygg0 all) op dst next) (fun p=>yzn2 all p op dst next) g) o
def opsD (all l:List Oper):yxk0:=@List.rec Oper (fun _=>yxk0) okD (fun o _ next=>operD all o next) l
def regD (ops:List Oper):ypc0:=fun cx var _ mk H h k=>need (yvg0 ops) (opsD ops ops 0 (ygd0 ops) [] cx var [] mk H h k)
def onX (x:LX) (n:Prop) (e:Nat->Prop) (o:Prop):Prop:=@LX.rec (fun _=>Prop) n e o (fun _=>o) x
def seqF (a b:ypc0):ypc0:=fun cx var loc mk H h k=>a cx var loc mk H h fun x var loc mk H h=>onX x (b cx var loc mk H h k) (fun _=>k x var loc mk H h) (k x var loc mk H h)
def condF (c:Operand) (a b:ypc0):ypc0:=fun cx var loc mk H h k=>opd c cx.nv var loc fun v=>yov1 v fun t=>dec t h (fun h=>a cx var loc mk H h k) (fun h=>b cx var loc mk H h k)
def yyb2 (id:Nat) (b:ypc0):ypc0:=fun cx var loc mk H h k=>b cx var loc mk H h fun x var loc mk H h =>
 onX x (k x var loc mk H h) (fun id'=>bc (Nat.beq id' id) (k .normal var loc mk H h) (k x var loc mk H h)) (k x var loc mk H h)
def loopF (b:ypc0):ypc0:=@Nat.rec (fun _=>ypc0) (fun _ _ _ _ _ _ _=>False) (fun _ again cx var loc mk H h k=>b cx var loc mk H h fun x var loc mk H h =>
 onX x (again cx var loc mk H h k) (fun _=>k x var loc mk H h) (k x var loc mk H h)) 100000
end K
end
end Go.Proofs.YtnpbgnjiihecgaaGreat.Ev
namespace Go.Proofs.YtnpbgnjiihecgaaGreat.Ev
open Go
noncomputable section
namespace K
def ptrsV (v:LV):List Nat :=
 @LV.rec (fun _=>List Nat) (fun _=>List Nat) [] (fun _=>[]) (fun _ _=>[]) (fun _=>[]) [] (fun i _=>[i]) [] (fun i _ _ _=>[i]) (fun i=>[i]) [] (fun i=>[i])
  (fun f _ _ a b=>app (@Fn.rec (fun _=>List Nat) (fun _=>[]) (fun _=>[]) (fun _ _=>[]) (fun _ _ _ _=>[]) (fun l=>[l]) f) (app a b)) [] (fun _ _ a=>a) [] (fun _ a=>a) (fun _ a=>a) [] (fun _ _ a b=>app a b) v
def ptrsL (l:List LV):List Nat:=@List.rec LV (fun _=>List Nat) [] (fun v _ r=>app (ptrsV v) r) l
def ptrsO:LObj->List Nat
 | .cells _ _ cs=>ptrsL cs
 | .map es _=>@List.rec Ent (fun _=>List Nat) [] (fun e _ r=>app (ptrsV e.key) (app (ptrsV e.val) r)) es
 | .loop _ _ _ _ t _ _ _ d=>app (@Tr.rec LV (fun _=>List Nat) [] (fun v _ _ a b=>app (ptrsV v) (app a b)) t) [d]
 | .miter m _=>[m]
 | _=>[]
def seen (b:Nat) (l:List (Nat × Bool)):Bool:=@List.rec (Nat × Bool) (fun _=>Bool) false (fun p _ r=>bc (Nat.beq p.1 b) true r) l
def dfs (H:Heap) (d:Nat):List Nat->List (Nat × Bool)->List (Nat × Bool) :=
 @Nat.rec (fun _=>List Nat->List (Nat × Bool)->List (Nat × Bool))
  (fun l acc=>@List.rec Nat (fun _=>List (Nat × Bool)->List (Nat × Bool)) (fun acc=>acc) (fun b _ r acc=>bc (seen b acc) (r acc) (r (app acc [(b,false)]))) l acc)
  (fun _ ih l acc=>@List.rec Nat (fun _=>List (Nat × Bool)->List (Nat × Bool)) (fun acc=>acc) (fun b _ r acc=>bc (seen b acc) (r acc) (r (ih (ptrsO (H.get b)) (app acc [(b,true)])))) l acc) d
def place (l:List Nat) (b:Nat):Option Nat :=
 @List.rec Nat (fun _=>Option Nat) none (fun x _ r=>bc (Nat.beq x b) (some 0) (@Option.rec Nat (fun _=>Option Nat) none (fun i=>some (i+1)) r)) l
def ob1 {Z β:Type} (f:Z->β) (o:Option Z):Option β:=@Option.rec Z (fun _=>Option β) none (fun a=>some (f a)) o
def ob2 {Z β γ:Type} (f:Z->β->γ) (o:Option Z) (p:Option β):Option γ:=@Option.rec Z (fun _=>Option γ) none (fun a=>@Option.rec β (fun _=>Option γ) none (fun b=>some (f a b)) p) o
def renV (l:List Nat) (v:LV):Option LV :=
 @LV.rec (fun _=>Option LV) (fun _=>Option (List LV)) (some .junk) (fun b=>some (.bool b)) (fun k n=>some (.int k n)) (fun s=>some (.str s)) (some .nilp) (fun i o=>ob1 (fun i=>.ptr i o) (place l i)) (some .nils)
  (fun i o n c=>ob1 (fun i=>.slice i o n c) (place l i)) (fun i=>ob1 .emp (place l i)) (some .nilm) (fun i=>ob1 .map (place l i))
  (fun f _ _ a b=>@Fn.rec (fun _=>Option LV) (fun g=>ob2 (fun a b=>.func (.func g) a b) a b) (fun _=>none) (fun _ _=>none) (fun _ _ _ _=>none) (fun y=>ob2 (fun y p=>.func (.yield y) p.1 p.2) (place l y) (ob2 (fun a b=>(a,b)) a b)) f) (some .nilf)
  (fun t _ a=>ob1 (.iface t) a) (some .nili) (fun _ a=>ob1 .agg a) (fun _ a=>ob1 .tup a) (some []) (fun _ _ a b=>ob2 (fun a b=>a::b) a b) v
def renL (l:List Nat) (vs:List LV):Option (List LV):=@List.rec LV (fun _=>Option (List LV)) (some []) (fun v _ r=>ob2 (fun a b=>a::b) (renV l v) r) vs
def renE (l:List Nat) (es:List Ent):Option (List Ent):=@List.rec Ent (fun _=>Option (List Ent)) (some []) (fun e _ r=>ob2 (fun a b=>a::b) (ob2 (fun k v=>⟨k,v,e.born⟩) (renV l e.key) (renV l e.val)) r) es
def renT (l:List Nat) (t:Tr LV):Option (Tr LV):=@Tr.rec LV (fun _=>Option (Tr LV)) (some .nil) (fun v _ _ a b=>ob2 (fun v p=>.node v p.1 p.2) (renV l v) (ob2 (fun a b=>(a,b)) a b)) t
def renO (l:List Nat):LObj->Option LObj
 | .cells e w cs=>ob1 (.cells e w) (renL l cs)
 | .map es c=>ob1 (fun es=>.map es c) (renE l es)
 | .dead=>some .dead
 | .empty=>some .empty
 | .strIter s p=>some (.strIter s p)
 | .flat ks e w vs=>some (.flat ks e w vs)
 | .loop st pe fn n t ps asg bo d=>ob2 (fun t d=>.loop st pe fn n t ps asg bo d) (renT l t) (place l d)
 | .defers b=>some (.defers b)
 | .fmap es=>some (.fmap es)
 | .glob g cs=>some (.glob g cs)
 | .miter m c=>ob1 (fun m=>.miter m c) (place l m)
def renOs (H:Heap) (l:List Nat) (ps:List (Nat × Bool)):Option (List LObj) :=
 @List.rec (Nat × Bool) (fun _=>Option (List LObj)) (some []) (fun p _ r=>ob2 (fun a b=>a::b) (bc p.2 (renO l (H.get p.1)) (some .dead)) r) ps
def yyb0 (ps:List (Nat × Bool)):List Nat:=@List.rec (Nat × Bool) (fun _=>List Nat) [] (fun p _ r=>p.1::r) ps
def wantF (fl:List TypeId) (e:TypeId) (w:Own):Bool:=@Own.rec (fun _=>Bool) (hasN fl e) (hasN fl e) (fun _=>bc (hasN fl e) true (hasN fl (e+1000000))) w
def flK (e:TypeId) (cs:List LV):Option CK:=match ckE e with
 | some c=>some c
 | none=>match cs with
  | v::_=>ckV v
  | []=>none
def flatO (fl:List TypeId) (o:LObj):LObj:=@LObj.rec (fun _=>LObj) .dead (fun e w cs=>bc (wantF fl e w) (match flK e cs with
  | some c=>bc (allCK c cs) (.flat [c] e w cs) (.cells e w cs)
  | none=>.cells e w cs) (.cells e w cs)) (fun es c=>.map es c) .empty (fun s p=>.strIter s p) (fun st pe fn n t ps asg bo d=>.loop st pe fn n t ps asg bo d) (fun b=>.defers b) (fun ks e w vs=>.flat ks e w vs) (fun es=>.fmap es) (fun m c=>.miter m c) (fun g cs=>.glob g cs) o
def ylg1 (fl:List TypeId) (os:List LObj):List LObj:=bc (isNil fl) os (@List.rec LObj (fun _=>List LObj) [] (fun o _ r=>flatO fl o::r) os)
def yxo0 (H:Heap):List Nat:=@Nat.rec (fun _=>List Nat) [] (fun i r=>match H.get i with
 | .glob _ _=>app r [i]
 | _=>r) H.n
def yey0 (d:Nat) (fl:List TypeId) (args:List LV) (H:Heap) (k:List Nat->List LV->List LObj->Prop):Prop :=
 (fun ps:List (Nat × Bool)=>(fun l:List Nat=>need (distinct l) (need (ypd0 H.n l) (optK (renL l args) fun xs=>optK (renOs H l ps) fun os=>k l xs (ylg1 fl os)))) (yyb0 ps)) (dfs H d (bc (hasN fl 2000000) (app (ptrsL args) (yxo0 H)) (ptrsL args)) [])
def sg (l:List Nat) (m n:Nat) (i:Nat):Nat:=bc (Nat.blt i m) (at_ l i) (n+(i-m))
def mapK (s:Nat->Nat) (v:LV):LV :=
 @LV.rec (fun _=>LV) (fun _=>List LV) .junk (fun b=>.bool b) (fun k n=>.int k n) (fun s=>.str s) .nilp (fun i o=>.ptr (s i) o) .nils (fun i o n c=>.slice (s i) o n c) (fun i=>.emp (s i)) .nilm (fun i=>.map (s i))
  (fun f _ _ a b=>.func (@Fn.rec (fun _=>Fn) (fun g=>.func g) (fun n=>.method n) (fun t n=>.methodOf t n) (fun t p g b=>.via t p g b) (fun l=>.yield (s l)) f) a b) .nilf (fun t _ a=>.iface t a) .nili (fun _ a=>.agg a) (fun _ a=>.tup a) [] (fun _ _ a b=>a::b) v
def mapKL (s:Nat->Nat) (l:List LV):List LV:=@List.rec LV (fun _=>List LV) [] (fun v _ r=>mapK s v::r) l
def mapKE (s:Nat->Nat) (l:List Ent):List Ent:=@List.rec Ent (fun _=>List Ent) [] (fun e _ r=>⟨mapK s e.key,mapK s e.val,e.born⟩::r) l
def mapKT (s:Nat->Nat) (t:Tr LV):Tr LV:=@Tr.rec LV (fun _=>Tr LV) .nil (fun v _ _ a b=>.node (mapK s v) a b) t
def mapKO (s:Nat->Nat):LObj->LObj
 | .cells e w cs=>.cells e w (mapKL s cs)
 | .map es c=>.map (mapKE s es) c
 | .loop st pe fn n t ps asg bo d=>.loop st pe fn n (mapKT s t) ps asg bo (s d)
 | .miter m c=>.miter (s m) c
 | o=>o
def wfK (n:Nat) (v:LV):Bool :=
 @LV.rec (fun _=>Bool) (fun _=>Bool) true (fun _=>true) (fun _ _=>true) (fun _=>true) true (fun i _=>Nat.blt i n) true (fun i _ _ _=>Nat.blt i n) (fun i=>Nat.blt i n) true (fun i=>Nat.blt i n)
  (fun f _ _ a b=>@Fn.rec (fun _=>Bool) (fun _=>bc a b false) (fun _=>false) (fun _ _=>false) (fun _ _ _ _=>false) (fun y=>bc (Nat.blt y n) (bc a b false) false) f) true (fun _ _ a=>a) true (fun _ a=>a) (fun _ a=>a) true (fun _ _ a b=>bc a b false) v
def wfKL (n:Nat) (l:List LV):Bool:=@List.rec LV (fun _=>Bool) true (fun v _ r=>bc (wfK n v) r false) l
def wfKE (n:Nat) (l:List Ent):Bool:=@List.rec Ent (fun _=>Bool) true (fun e _ r=>bc (wfK n e.key) (bc (wfK n e.val) r false) false) l
def wfKT (n:Nat) (t:Tr LV):Bool:=@Tr.rec LV (fun _=>Bool) true (fun v _ _ a b=>bc (wfK n v) (bc a b false) false) t
def wfKO (n:Nat):LObj->Bool
 | .cells _ _ cs=>wfKL n cs
 | .map es _=>wfKE n es
 | .loop _ _ _ _ t _ _ _ d=>bc (wfKT n t) (Nat.blt d n) false
 | .miter m _=>Nat.blt m n
 | _=>true
def wfKOs (n:Nat) (l:List LObj):Bool:=@List.rec LObj (fun _=>Bool) true (fun v _ r=>bc (wfKO n v) r false) l
def wfKC (m n:Nat) (l:List (Nat × LObj)):Bool:=@List.rec (Nat × LObj) (fun _=>Bool) true (fun p _ r=>bc (Nat.blt p.1 m) (bc (wfKO n p.2) r false) false) l
def yen0 (o:LObj):Bool:=@LObj.rec (fun _=>Bool) true (fun _ _ _=>false) (fun _ _=>false) false (fun _ _=>false) (fun _ _ _ _ _ _ _ _ _=>false) (fun _=>false) (fun _ _ _ _=>false) (fun _=>false) (fun _ _=>false) (fun _ _=>false) o
def objAt (os:List LObj) (i:Nat):LObj:=@List.rec LObj (fun _=>Nat->LObj) (fun _=>.dead) (fun o _ g i=>@Nat.rec (fun _=>LObj) o (fun j _=>g j) i) os i
def yxa1 (os:List LObj) (l:List (Nat × LObj)):Bool:=@List.rec (Nat × LObj) (fun _=>Bool) true (fun p _ r=>bc (bc (yen0 p.2) (yen0 (objAt os p.1)) false) false r) l
def wfKP (n:Nat) (l:List (Nat × LV)):Bool:=@List.rec (Nat × LV) (fun _=>Bool) true (fun p _ r=>bc (wfK n p.2) r false) l
def ysk1 (n:Nat) (e:LEnd):Bool:=@LEnd.rec (fun _=>Bool) (fun v=>wfK n v) (fun v=>wfK n v) e
def ytk1 (s:Nat->Nat) (e:LEnd):LEnd:=@LEnd.rec (fun _=>LEnd) (fun v=>.ret (mapK s v)) (fun v=>.pan (mapK s v)) e
def wfKX (n:Nat) (x:LX):Bool:=@LX.rec (fun _=>Bool) true (fun _=>true) true (fun v=>wfK n v) x
def mapKX (s:Nat->Nat) (x:LX):LX:=@LX.rec (fun _=>LX) .normal (fun i=>.exit i) .ret (fun v=>.pan (mapK s v)) x
def mapKP (s:Nat->Nat) (l:List (Nat × LV)):List (Nat × LV):=@List.rec (Nat × LV) (fun _=>List (Nat × LV)) [] (fun p _ r=>(p.1,mapK s p.2)::r) l
def putsK (s:Nat->Nat) (ch:List (Nat × LObj)):Heap->(Heap->Prop)->Prop:=@List.rec (Nat × LObj) (fun _=>Heap->(Heap->Prop)->Prop) (fun H k=>k H) (fun p _ r H k=>K.putK H (s p.1) (mapKO s p.2) fun H=>r H k) ch
def yuk1 (s:Nat->Nat) (new:List LObj):Heap->(Heap->Prop)->Prop:=@List.rec LObj (fun _=>Heap->(Heap->Prop)->Prop) (fun H k=>k H) (fun o _ r H k=>K.pushK H (mapKO s o) fun H=>r H k) new
structure CRes where
 e:LEnd
 ch:List (Nat × LObj)
 new:List LObj
structure CEnt where
 depth:Nat
 f:List LV->List LObj->Option (Bool × CRes)
 fl:List TypeId:=[]
structure Env where
 pol:FuncId->Option CEnt
 bp:FuncId->Nat->Option BEnt
 nv:FuncId->Nat
 kp:FuncId->Nat->Bool:=fun _ _=>true
def chg (os:List LObj) (ch:List (Nat × LObj)):List LObj:=ch.foldl (fun os p=>os.set p.1 p.2) os
def CEnt.ok (P:Program) (g:FuncId) (c:CEnt):Prop:=∀ xs os b r,c.f xs os=some (b,r)->b=true->HT P g xs (Heap.of os) r.e (Heap.of (chg os r.ch++r.new))
def BOk (P:Program) (g n:Nat) (c:Code) (slots:List Nat) (xs:List LV) (os:List LObj) (r:BRes):Prop :=
 CT P c (Fr.ofL g n (slots.zip xs) [] none) (Heap.of os) r.x (Fr.ofL g n r.L [] none) (Heap.of (chg os r.ch++r.new))
def LOk (P:Program) (g n:Nat) (c:Code) (slots:List Nat) (xs:List LV) (os:List LObj) (r:BRes):Prop :=
 GT P (fun k=>.code c::.inLoop c::k) (Fr.ofL g n (slots.zip xs) [] none) (Heap.of os) r.x (Fr.ofL g n r.L [] none) (Heap.of (chg os r.ch++r.new))
def useR (l:List Nat) (m:Nat) (ch:List (Nat × LObj)) (new:List LObj) (H:Heap) (k:(Nat->Nat)->Heap->Prop):Prop :=
 putsK (sg l m H.n) ch H fun H'=>yuk1 (sg l m H.n) new H' fun H'=>k (sg l m H.n) H'
def useC (ent:CEnt) (args:List LV) (H:Heap) (h:Hint) (Q:LEnd->Heap->Hint->Prop) (other:Prop):Prop :=
 yey0 ent.depth ent.fl args H fun l xs os=>@Option.rec (Bool × CRes) (fun _=>Prop) other (fun p=>dec p.1 h (fun h =>
  need (ysk1 (lenL os+lenL p.2.new) p.2.e) (need (wfKC (lenL os) (lenL os+lenL p.2.new) p.2.ch) (need (wfKOs (lenL os+lenL p.2.new) p.2.new) (need (yxa1 os p.2.ch)
   (useR l (lenL os) p.2.ch p.2.new H fun s H=>Q (ytk1 s p.2.e) H h))))) fun _=>False) (ent.f xs os)
def yof2 (slots:List Nat) (var:Tr LV) (k:List LV->Prop):Prop :=
 @List.rec Nat (fun _=>(List LV->Prop)->Prop) (fun k=>k []) (fun i _ r k=>trGet .junk var i fun v=>need (notB (yta0 v)) (r fun vs=>k (v::vs))) slots k
def useG (ok:List LV->List LObj->BRes->Prop) (ent:BEnt):ypc0:=fun cx var _ mk H h k =>
 need (isNil mk) (need (cx.round.isNone) (need (ent.slots.all fun i=>Nat.blt i cx.nv) (yof2 ent.slots var fun vs=>yey0 ent.depth ent.fl vs H fun l xs os=>optK (ent.f xs os) fun p=>dec p.1 h (fun h =>
  need (wfKX (lenL os+lenL p.2.new) p.2.x) (need (wfKP (lenL os+lenL p.2.new) p.2.L) (need (wfKC (lenL os) (lenL os+lenL p.2.new) p.2.ch) (need (wfKOs (lenL os+lenL p.2.new) p.2.new) (need (yxa1 os p.2.ch)
   (ok xs os p.2/\useR l (lenL os) p.2.ch p.2.new H fun s H=>ynt0 (setL .nil (mapKP s p.2.L)) fun var=>k (mapKX s p.2.x) var [] [] H h)))))) fun _=>False)))
def useB (ent:BEnt) (id:Nat) (c:Code):ypc0:=fun cx var loc mk H h k=>useG (fun xs os r=>BOk Tryz.prog cx.fn cx.n (.block id c) ent.slots xs os r) ent cx var loc mk H h k
def ypf2 (id:Nat) (c:Code) (b:ypc0):ypc0:=fun cx var loc mk H h k=>@Option.rec BEnt (fun _=>Prop) (yyb2 id b cx var loc mk H h k) (fun ent=>useB ent id c cx var loc mk H h k) (cx.bp id)
def restr (kp:Nat->Bool) (nv:Nat) (t:Tr LV):Tr LV:=@Nat.rec (fun _=>Tr LV) .nil (fun i acc=>bc (kp i) (acc.set .junk (t.get .junk i) i) acc) nv
def keepT (g:Operand) (v:LV) (t:Tr LV):Tr LV:=@Operand.rec (fun _=>Tr LV) (fun i=>t.set .junk v i) (fun _=>t) (fun _=>t) (fun _=>t) g
def yao2 (cx:Cx) (mk:List Nat) (H:Heap) (k:Heap->Nat->List Nat->Prop):Prop :=
 @Option.rec Nat (fun _=>Prop) (pushK H (.defers false) fun H'=>k H' H.n (H.n::mk)) (fun l=>getObj H l fun ob=>match ob with
  | .loop _ _ _ _ _ _ _ _ d=>k H d mk
  | _=>False) cx.round
def pendK (pe:Option Code) (k:LX->Prop):Prop :=
 match pe with
 | none=>k .normal
 | some .ret=>k .ret
 | some (.exit id)=>k (.exit id)
 | some _=>False
def ybo2 (g:Operand) (ps:List Tmp) (assign body:Code):ypc0:=fun cx var loc mk H h k=>opd g cx.nv var loc fun v=>match v with
 | .func (.func g') first captured=>yao2 cx mk H fun H1 d mk=>pushK H1 (.loop .ready none cx.fn cx.n (keepT g v (restr cx.kp cx.nv var)) ps assign body d) fun H2 =>
   cx.call (.func g') (app first (app [.func (.yield H1.n) [] []] captured)) H2 h fun e H h=>@LEnd.rec (fun _=>Prop) (fun _=>getObj H H1.n fun ob=>match ob with
    | .loop .busy _ _ _ _ _ _ _ _=>False
    | .loop _ pe fn n t ps asg bo d=>pendK pe fun x=>putK H H1.n (.loop .exhausted pe fn n t ps asg bo d) fun H=>k x (keepT g v (restr cx.kp cx.nv var)) [] mk H h
    | _=>False) (fun w=>k (.pan w) (keepT g v (restr cx.kp cx.nv var)) [] mk H h) e
 | _=>False
def codeF (c:Code):ypc0 :=
 @Code.rec (fun _=>ypc0) okF (fun _ ops draw=>bc draw (regD ops.toList) (regF ops.toList)) (fun _ _ a b=>seqF a b) (fun c _ _ a b=>condF c a b) (fun id c b=>ypf2 id c b) (fun _ b=>loopF b)
  (fun g ps assign body _ _=>ybo2 g ps.toList assign body) (fun id _ var loc mk H h k=>k (.exit id) var loc mk H h) (fun _ b=>b) (fun _=>okF) (fun _ _ _ _ _ _ _ _=>False) (fun _ var loc mk H h k=>k .ret var loc mk H h) (fun _ _ _ _ _ _ _ _=>False) c
def yvk1 (r:ResultVar) (nv:Nat) (var:Tr LV) (loc:Locs) (H:Heap) (k:LV->Prop):Prop :=
 @ResultVar.rec (fun _=>Prop) (fun t=>opd (.tmp t) nv var loc fun v=>need (notB (yta0 v)) (k v)) (fun a t=>opd (.tmp a) nv var loc fun v=>optK (T.loadL t H v) k) r
def yot0 (l:List ResultVar) (nv:Nat) (var:Tr LV) (loc:Locs) (H:Heap) (k:List LV->Prop):Prop :=
 @List.rec ResultVar (fun _=>(List LV->Prop)->Prop) (fun k=>k []) (fun r _ ih k=>yvk1 r nv var loc H fun v=>ih fun vs=>k (v::vs)) l k
def yqu2 (fu:Func) (nv:Nat) (Q:LEnd->Heap->Hint->Prop):Cont:=fun x var loc mk H h =>
 optK (yxg0 H mk) fun H=>yqv1 H fun H=>@LX.rec (fun _=>Prop) (yot0 fu.results.toList nv var loc H fun vs=>Q (.ret (oneOf vs)) H h) (fun _=>False) (yot0 fu.results.toList nv var loc H fun vs=>Q (.ret (oneOf vs)) H h) (fun v=>Q (.pan v) H h) x
def bodyF (A:Env) (call:KCall) (g:FuncId) (args:List LV) (H:Heap) (h:Hint) (Q:LEnd->Heap->Hint->Prop):Prop :=
 optK (TV.func? g) fun fu=>optK fu.body fun c=>codeF c ⟨g,max fu.ntmps (lenL args),A.nv g,none,call,A.bp g,A.kp g⟩ (yyf0 .nil 0 args) [] [] H h (yqu2 fu (A.nv g) Q)
def ypt0 (fn l:Nat) (Q:LEnd->Heap->Hint->Prop) (H:Heap) (h:Hint) (x:LX):Prop:=getObj H l fun ob=>match ob with
 | .loop .busy _ fn' n t ps asg bo d=>@LX.rec (fun _=>Prop) (putK H l (.loop .ready none fn' n t ps asg bo d) fun H=>Q (.ret (.bool true)) H h) (fun id=>putK H l (.loop .done (some (.exit id)) fn' n t ps asg bo d) fun H=>Q (.ret (.bool false)) H h)
   (putK H l (.loop .done (some .ret) fn' n t ps asg bo d) fun H=>Q (.ret (.bool false)) H h) (fun v=>need (T.hasFn fn) (Q (.pan v) H h)) x
 | _=>False
def yqf2 (A:Env) (call:KCall) (l:Nat) (args:List LV) (H:Heap) (h:Hint) (Q:LEnd->Heap->Hint->Prop):Prop:=getObj H l fun ob=>match ob with
 | .loop .ready _ fn n t ps asg bo _=>optK (yyw0 n t ps args) fun t'=>ynt0 t' fun t'=>codeF asg ⟨fn,n,A.nv fn,some l,call,fun _=>none,A.kp fn⟩ t' [] [] H h fun x var loc mk H h=>onX x
   (getObj H l fun ob=>match ob with
    | .loop .ready pe fn' n' t ps asg' bo' d=>putK H l (.loop .busy pe fn' n' t ps asg' bo' d) fun H=>codeF bo ⟨fn,n,A.nv fn,some l,call,fun _=>none,A.kp fn⟩ var loc mk H h fun x _ _ mk H h=>need (isNil mk) (ypt0 fn l Q H h x)
    | _=>False) (fun _=>False) False
 | _=>False
def fnF (A:Env) (call:KCall):KCall:=fun fn args H h Q =>
 @Fn.rec (fun _=>Prop) (fun g=>@Option.rec CEnt (fun _=>Prop) (bodyF A call g args H h Q) (fun ent=>need (T.hasBody g) (useC ent args H h Q (bodyF A call g args H h Q))) (A.pol g)) (fun _=>False) (fun _ _=>False) (fun _ _ _ _=>False) (fun l=>yqf2 A call l args H h Q) fn
def runF (A:Env) (k:Nat):KCall:=@Nat.rec (fun _=>KCall) (fun _ _ _ _ _=>False) (fun _ call=>fnF A call) k
structure Eqs where
 i:Int->Int->Prop->Prop
 b:Bool->Bool->Prop->Prop
 s:List UInt8->List UInt8->Prop->Prop
 n:Nat->Nat->Prop->Prop
 c:Cap->Cap->Prop->Prop
def openE:Eqs:=⟨fun a b k=>a=b/\k,fun a b k=>a=b/\k,fun a b k=>a=b/\k,fun a b k=>a=b/\k,fun a b k=>a=b/\k⟩
def capEq (a b:Cap):Bool:=@Cap.rec (fun _=>Bool) (fun m=>@Cap.rec (fun _=>Bool) (fun n=>Nat.beq m n) (fun _=>false) b) (fun m=>@Cap.rec (fun _=>Bool) (fun _=>false) (fun n=>Nat.beq m n) b) a
def shutE:Eqs:=⟨fun a b k=>need (eqI a b) k,fun a b k=>need (bc a b (notB b)) k,fun a b k=>need (eqB a b) k,fun a b k=>need (Nat.beq a b) k,fun a b k=>need (capEq a b) k⟩
def eqsV (E:Eqs) (x y:LV) (k:Prop):Prop :=
 @LV.rec (fun _=>LV->Prop->Prop) (fun _=>List LV->Prop->Prop)
  (fun _ _=>False) (fun a y k=>match y with | .bool b=>E.b a b k | _=>False) (fun q a y k=>match y with | .int r b=>need (eqK q r) (E.i a b k) | _=>False)
  (fun a y k=>match y with | .str b=>E.s a b k | _=>False) (fun y k=>match y with | .nilp=>k | _=>False) (fun i o y k=>match y with | .ptr j p=>need (Nat.beq i j) (E.n o p k) | _=>False)
  (fun y k=>match y with | .nils=>k | _=>False) (fun i o n c y k=>match y with | .slice j p m d=>need (Nat.beq i j) (E.n o p (E.n n m (E.c c d k))) | _=>False)
  (fun i y k=>match y with | .emp j=>need (Nat.beq i j) k | _=>False) (fun y k=>match y with | .nilm=>k | _=>False) (fun i y k=>match y with | .map j=>need (Nat.beq i j) k | _=>False)
  (fun f _ _ a b y k=>match y with | .func g c d=>@Fn.rec (fun _=>Prop) (fun f=>@Fn.rec (fun _=>Prop) (fun g=>need (Nat.beq f g) (a c (b d k))) (fun _=>False) (fun _ _=>False) (fun _ _ _ _=>False) (fun _=>False) g) (fun _=>False) (fun _ _=>False) (fun _ _ _ _=>False) (fun _=>False) f | _=>False)
  (fun y k=>match y with | .nilf=>k | _=>False) (fun t _ a y k=>match y with | .iface u v=>need (Nat.beq t u) (a v k) | _=>False) (fun y k=>match y with | .nili=>k | _=>False)
  (fun _ a y k=>match y with | .agg l=>a l k | _=>False) (fun _ a y k=>match y with | .tup l=>a l k | _=>False)
  (fun y k=>match y with | []=>k | _=>False) (fun _ _ a b y k=>match y with | v::vs=>a v (b vs k) | _=>False) x y k
def eqsL (E:Eqs) (xs ys:List LV) (k:Prop):Prop:=@List.rec LV (fun _=>List LV->Prop->Prop) (fun y k=>match y with | []=>k | _=>False) (fun x _ ih y k=>match y with | v::vs=>eqsV E x v (ih vs k) | _=>False) xs ys k
def eqsE (E:Eqs) (xs ys:List Ent) (k:Prop):Prop:=@List.rec Ent (fun _=>List Ent->Prop->Prop) (fun y k=>match y with | []=>k | _=>False) (fun x _ ih y k=>match y with | v::vs=>eqsV E x.key v.key (eqsV E x.val v.val (need (Nat.beq x.born v.born) (ih vs k))) | _=>False) xs ys k
def ownEq:Own->Own->Bool
 | .ro,.ro=>true
 | .exact,.exact=>true
 | .grow a,.grow b=>Nat.beq a b
 | _,_=>false
def eqCKs:List CK->List CK->Bool
 | [],[]=>true
 | a::l,b::m=>bc (eqCK a b) (eqCKs l m) false
 | _,_=>false
def eqsT (E:Eqs) (x:Tr LV):Tr LV->Prop->Prop:=@Tr.rec LV (fun _=>Tr LV->Prop->Prop) (fun y k=>match y with | .nil=>k | _=>False) (fun v _ _ a b y k=>match y with | .node v' l' r'=>bc (yta0 v) (need (yta0 v') (a l' (b r' k))) (eqsV E v v' (a l' (b r' k))) | _=>False) x
def eqsO (E:Eqs) (x y:LObj) (k:Prop):Prop :=
 match x,y with
 | .dead,_=>k
 | .cells e w cs,.cells e' w' cs'=>need (Nat.beq e e') (need (ownEq w w') (eqsL E cs cs' k))
 | .map es c,.map es' c'=>need (Nat.beq c c') (eqsE E es es' k)
 | .empty,.empty=>k
 | .flat ks e w vs,.flat ks' e' w' vs'=>need (Nat.beq e e') (need (ownEq w w') (need (eqCKs ks ks') (vs=vs'/\k)))
 | .flat ks e w vs,.cells e' w' cs'=>need (Nat.beq e e') (need (ownEq w w') (flatF ks vs=cs'/\k))
 | .loop st pe fn n t ps asg bo d,.loop st' pe' fn' n' t' ps' asg' bo' d'=>need (Nat.beq fn fn') (need (Nat.beq n n') (need (Nat.beq d d') (st=st'/\pe=pe'/\ps=ps'/\asg=asg'/\bo=bo'/\eqsT E t t' k)))
 | .defers a,.defers b=>need (bc a b (notB b)) k
 | .fmap a,.fmap b=>a=b/\k
 | .miter a c,.miter b d=>need (Nat.beq a b) (c=d/\k)
 | .glob a c,.glob b d=>need (Nat.beq a b) (c=d/\k)
 | _,_=>False
def eqsOs (E:Eqs) (xs ys:List LObj) (k:Prop):Prop:=@List.rec LObj (fun _=>List LObj->Prop->Prop) (fun y k=>match y with | []=>k | _=>False) (fun x _ ih y k=>match y with | v::vs=>eqsO E x v (ih vs k) | _=>False) xs ys k
def yco2 (E:Eqs) (x y:LEnd) (k:Prop):Prop :=
 match x,y with
 | .ret a,.ret b=>eqsV E a b k
 | .pan a,.pan b=>eqsV E a b k
 | _,_=>False
def upto (m:Nat):List (Nat × Bool):=@Nat.rec (fun _=>List (Nat × Bool)) [] (fun i r=>app r [(i,true)]) m
def yfy0 (H:Heap) (ch:List (Nat × LObj)):List Nat:=@List.rec (Nat × LObj) (fun _=>List Nat) [] (fun p _ r=>app (ptrsO (H.get p.1)) r) ch
def ywv1 (e:LEnd):List Nat:=@LEnd.rec (fun _=>List Nat) (fun v=>ptrsV v) (fun v=>ptrsV v) e
def yrf2 (l:List Nat) (e:LEnd):Option LEnd:=@LEnd.rec (fun _=>Option LEnd) (fun v=>ob1 .ret (renV l v)) (fun v=>ob1 .pan (renV l v)) e
def inCh (i:Nat) (ch:List (Nat × LObj)):Bool:=@List.rec (Nat × LObj) (fun _=>Bool) false (fun p _ r=>bc (Nat.beq p.1 i) true r) ch
def yya1 (H:Heap) (ch:List (Nat × LObj)) (m:Nat):Bool:=@Nat.rec (fun _=>Bool) true (fun i r=>bc (bc (inCh i ch) true (Nat.beq (H.slot i).stamp 0)) r false) m
def chEqs (E:Eqs) (l:List Nat) (H:Heap) (ch:List (Nat × LObj)) (k:Prop):Prop:=@List.rec (Nat × LObj) (fun _=>Prop) k (fun p _ r=>optK (renO l (H.get p.1)) fun o=>eqsO E p.2 o r) ch
def drop1 (m:Nat) (l:List (Nat × Bool)):List (Nat × Bool):=l.drop m
def endC1 (E:Eqs) (m:Nat) (r:CRes) (e:LEnd) (H:Heap) (ps:List (Nat × Bool)) (l:List Nat):Prop :=
 need (distinct l) <| need (ypd0 H.n l) <| need (yya1 H r.ch m) <| need (Nat.beq (lenL l) (m+lenL r.new)) <| need (ysk1 (m+lenL r.new) r.e) <| need (wfKC m (m+lenL r.new) r.ch) <| need (wfKOs (m+lenL r.new) r.new) <|
  optK (yrf2 l e) fun e'=>optK (renOs H l (drop1 m ps)) fun new=>yco2 E r.e e' (chEqs E l H r.ch (eqsOs E r.new new True))
def endC (E:Eqs) (m:Nat) (r:CRes):LEnd->Heap->Hint->Prop:=fun e H _ =>
 (fun ps:List (Nat × Bool)=>endC1 E m r e H ps (yyb0 ps)) (dfs H 50 (app (ywv1 e) (yfy0 H r.ch)) (upto m))
def renX (l:List Nat) (x:LX):Option LX:=@LX.rec (fun _=>Option LX) (some .normal) (fun i=>some (.exit i)) (some .ret) (fun v=>ob1 .pan (renV l v)) x
def xPtr (x:LX):List Nat:=@LX.rec (fun _=>List Nat) [] (fun _=>[]) [] (fun v=>ptrsV v) x
def eqsX (E:Eqs) (x y:LX) (k:Prop):Prop :=
 match x,y with
 | .normal,.normal=>k
 | .exit a,.exit b=>need (Nat.beq a b) k
 | .ret,.ret=>k
 | .pan a,.pan b=>eqsV E a b k
 | _,_=>False
def yqt0 (var:Tr LV) (L:List (Nat × LV)):List Nat:=@List.rec (Nat × LV) (fun _=>List Nat) [] (fun p _ r=>app (ptrsV (var.get .junk p.1)) r) L
def ywk1 (E:Eqs) (l:List Nat) (var:Tr LV) (L:List (Nat × LV)) (k:Prop):Prop:=@List.rec (Nat × LV) (fun _=>Prop) k (fun p _ r=>optK (renV l (var.get .junk p.1)) fun v=>eqsV E p.2 v r) L
def endB1 (E:Eqs) (nv m:Nat) (r:BRes) (x:LX) (var:Tr LV) (mk:List Nat) (H:Heap) (ps:List (Nat × Bool)) (l:List Nat):Prop :=
 need (isNil mk) <| need (r.L.all fun p=>Nat.blt p.1 nv) <| need (distinct l) <| need (ypd0 H.n l) <| need (yya1 H r.ch m) <| need (Nat.beq (lenL l) (m+lenL r.new)) <| need (wfKX (m+lenL r.new) r.x) <| need (wfKP (m+lenL r.new) r.L) <|
  need (wfKC m (m+lenL r.new) r.ch) <| need (wfKOs (m+lenL r.new) r.new) <|
  optK (renX l x) fun x'=>optK (renOs H l (drop1 m ps)) fun new=>eqsX E r.x x' (ywk1 E l var r.L (chEqs E l H r.ch (eqsOs E r.new new True)))
def endB (E:Eqs) (nv m:Nat) (r:BRes):Cont:=fun x var _ mk H _ =>
 (fun ps:List (Nat × Bool)=>endB1 E nv m r x var mk H ps (yyb0 ps)) (dfs H 50 (app (xPtr x) (app (yqt0 var r.L) (yfy0 H r.ch))) (upto m))
end K
end
end Go.Proofs.YtnpbgnjiihecgaaGreat.Ev
