/- The evaluator's functions again, over a view of the program: tables that are looked up fast; they are the same functions. A view of a program whose tables are trees: it is the program's own view. -/
import Derived.Test.YtnpbgnjiihecgaaGreatLa
namespace Go.Proofs.YtnpbgnjiihecgaaGreat.Ev
open Go
noncomputable section
structure View where
 prog:Program
 underlying:TypeId->Option TypeDesc
 info? : TypeId->Option TypeInfo
 func? : FuncId->Option Func
 guard:TypeId->Bool
 held:TypeId->Bool
def ysj0 (P:Program):View:=⟨P,P.underlying,P.info?,fun g=>P.funcs[g]?,P.eqGuardType P.depth,P.stoodInHeld⟩
namespace V
def aggOf (P:View) (t:TypeId):Option Bool :=
 match P.underlying t with
 | some (.struct _)=>some true
 | some (.array _ _)=>some true
 | some _=>some false
 | none=>none
def sizeOfT (P:View) (t:TypeId):Option Nat:=(P.info? t).map (·.size)
def zeroOf (P:View) (t:TypeId):Option LV :=
 match P.info? t with
 | some i=>match i.zero with
  | some v=>let l:=ofVal v;bif yta0 l then none else some l
  | none=>none
 | none=>none
def partOf (P:View) (t:TypeId) (cs:List LV) (off:Nat):Option LV :=
 match aggOf P t with
 | some true=>match sizeOfT P t with
  | some n=>bif Nat.ble (off+n) (lenL cs) then some (.agg (takeN (dropN cs off) n)) else none
  | none=>none
 | some false=>nth cs off
 | none=>none
def loadL (P:View) (t:TypeId) (H:Heap):LV->Option LV
 | .ptr i o=>match openO (H.get i) with
  | .cells _ _ cs=>partOf P t cs o
  | _=>none
 | _=>none
def storeL0 (P:View) (t:TypeId) (H:Heap) (a v:LV):Option Heap :=
 bif yta0 v then none else
 match a with
 | .ptr i o=>match H.get i with
  | .cells _ .ro _=>none
  | .cells e w cs=>match sizeOfT P t with
   | some n =>
    let vs:=cellsOf v
    bif yse0 vs then bif Nat.beq (lenL vs) n then bif Nat.ble (o+n) (lenL cs) then bif Nat.blt i H.n then some (H.put i (.cells e w (yua0 cs o vs))) else none else none else none else none
   | none=>none
  | _=>none
 | _=>none
def fieldPlaces (P:View):List Field->Nat->Option (Nat × Nat)
 | [],_=>none
 | f::fs,i=>bif Nat.beq i 0 then (sizeOfT P f.type).map fun s=>(f.offset,s) else fieldPlaces P fs (i-1)
def allSized (P:View):List Field->Bool
 | []=>true
 | f::fs=>match sizeOfT P f.type with
  | some _=>allSized P fs
  | none=>false
def buildL (P:View) (t:TypeId) (parts:List (Nat × LV)):Option LV :=
 match zeroOf P t with
 | none=>none
 | some z =>
  match P.underlying t with
  | some (.struct fields)=>bif allSized P fields.toList then (fillL (fieldPlaces P fields.toList) (cellsOf z) parts).map .agg else none
  | some (.array _ elem)=>match sizeOfT P elem with
   | some size=>(fillL (fun i=>some (i*size,size)) (cellsOf z) parts).map .agg
   | none=>none
  | _=>none
def buildSliceL (P:View) (t:TypeId) (len:Nat) (parts:List (Nat × LV)) (H:Heap):Option (LV × Heap) :=
 match P.underlying t with
 | some (.slice elem)=>match sizeOfT P elem,zeroOf P elem with
  | some size,some z =>
   bif Nat.beq size 0 then none else bif Nat.ble (len*size) 16777216 then
   bif Nat.beq (lenL (cellsOf z)) size then
   match fillL (fun i=>some (i*size,size)) (yqb0 (cellsOf z) len) parts with
   | some cs=>some (.slice H.n 0 len (.known len),H.push (.cells elem .exact cs))
   | none=>none
   else none else none
  | _,_=>none
 | _=>none
def makeSliceL (P:View) (t:TypeId) (H:Heap):LV->LV->Option (LV × Heap)
 | .int _ l,.int _ c=>match P.underlying t with
  | some (.slice elem)=>match P.info? elem,zeroOf P elem with
   | some i,some z =>
    bif decide (0<=l) then bif decide (l<=c) then bif decide (c*i.bytes<=1073741824) then bif decide (c<=1073741824) then bif Nat.beq i.size 0 then none else
    bif Nat.beq (lenL (cellsOf z)) i.size then
    some (.slice H.n 0 l.toNat (.known c.toNat),H.push (ybo0 elem z c.toNat))
    else none else none else none else none else none
   | _,_=>none
  | _=>none
 | _,_=>none
def fieldAddrL (P:View) (s:TypeId) (f:Nat):LV->Option LV
 | .ptr i o=>match P.underlying s with
  | some (.struct fields)=>match fields[f]? with
   | some fd=>match sizeOfT P fd.type with
    | some n=>bif Nat.beq n 0 then none else some (.ptr i (o+fd.offset))
    | none=>none
   | none=>none
  | _=>none
 | _=>none
def indexAddrL (P:View) (t:TypeId) (x:LV):LV->Option LV
 | .int _ ix=>match P.underlying t with
  | some (.array len elem)=>match x with
   | .ptr i o=>match sizeOfT P elem with
    | some n=>bif decide (0<=ix) then bif decide (ix<len) then some (.ptr i (o+ix.toNat*n)) else none else none
    | none=>none
   | _=>none
  | some (.slice elem)=>match x with
   | .slice i o l _=>match sizeOfT P elem with
    | some n=>bif decide (0<=ix) then bif decide (ix<l) then some (.ptr i (o+ix.toNat*n)) else none else none
    | none=>none
   | _=>none
  | _=>none
 | _=>none
def fieldL (P:View) (t:TypeId) (f:Nat):LV->Option LV
 | .agg cs=>match P.underlying t with
  | some (.struct fields)=>match fields[f]? with
   | some fd=>partOf P fd.type cs fd.offset
   | none=>none
  | _=>none
 | _=>none
def indexL (P:View) (t:TypeId) (x:LV):LV->Option LV
 | .int _ ix=>match P.underlying t with
  | some (.array len elem)=>match x with
   | .agg cs=>match sizeOfT P elem with
    | some n=>bif decide (0<=ix) then bif decide (ix<len) then partOf P elem cs (ix.toNat*n) else none else none
    | none=>none
   | _=>none
  | some .string=>match x with
   | .str s=>bif decide (0<=ix) then (nthB s ix.toNat).map fun b=>.int .u8 b.toNat else none
   | _=>none
  | _=>none
 | _=>none
def sliceL (P:View) (t:TypeId) (x:LV) (lo hi mx:Option LV) (H:Heap):Option (LV × Heap) :=
 match P.underlying t with
 | some .string=>match x with
  | .str s=>match mx with
   | some _=>none
   | none=>withH H (yph0 s lo hi)
  | _=>none
 | some (.slice elem)=>match sizeOfT P elem with
  | none=>none
  | some size=>match x with
   | .slice i o len cap=>yoh0 size i o len cap lo hi mx H
   | .nils=>match bound hi 0 with
    | some 0=>match bound lo 0 with
     | some 0=>match mx with
      | none=>some (.nils,H)
      | some m=>match bound (some m) 0 with
       | some 0=>some (.nils,H)
       | _=>none
     | _=>none
    | _=>none
   | .emp i=>match bound hi 0 with
    | some 0=>match bound lo 0 with
     | some 0=>match mx with
      | none=>some (.emp i,H)
      | some _=>none
     | _=>none
    | _=>none
   | _=>none
 | some (.array n elem)=>match x with
  | .ptr i o=>match mx with
   | some _=>none
   | none=>match sizeOfT P elem with
    | none=>none
    | some size=>match bound hi n with
     | none=>none
     | some h=>match bound lo 0 with
      | none=>none
      | some l=>bif Nat.ble l h then withH H (ymc0 size i o n l h) else none
  | _=>none
 | _=>none
def eqFields (P:View) (f:TypeId->LV->LV->Option Bool) (xs ys:List LV):List Field->Option Bool
 | []=>some true
 | fd :: fs => bif fd.name == "_" then none else match partOf P fd.type xs fd.offset with
  | some a=>match partOf P fd.type ys fd.offset with
   | some b=>both (f fd.type a b) (eqFields P f xs ys fs)
   | none=>none
  | none=>none
def eqElems (P:View) (e:TypeId) (n:Nat) (f:LV->LV->Option Bool) (xs ys:List LV):Nat->Nat->Option Bool
 | 0,_=>some true
 | len+1,i=>match partOf P e xs (i*n) with
  | some a=>match partOf P e ys (i*n) with
   | some b=>both (f a b) (eqElems P e n f xs ys len (i+1))
   | none=>none
  | none=>none
def eqT (P:View):Nat->TypeId->LV->LV->Option Bool
 | 0,_,_,_=>none
 | d+1,t,x,y=>match P.underlying t with
  | some (.struct fields)=>match x,y with
   | .agg xs,.agg ys=>bif P.held t then none else eqFields P (eqT P d) xs ys fields.toList
   | _,_=>none
  | some (.array len elem)=>match x,y with
   | .agg xs,.agg ys=>match sizeOfT P elem with
    | some n=>eqElems P elem n (eqT P d elem) xs ys len 0
    | none=>none
   | _,_=>none
  | some k=>yqh0 k x y
  | none=>none
def eqNil (P:View) (t:TypeId) (kc:Bool) (x y:LV):Option Bool :=
 match P.underlying t with
 | some (.pointer _)=>match x,y with
  | .nilp,.nilp=>some true
  | .nilp,.ptr _ _=>some false
  | .ptr _ _,.nilp=>some false
  | _,_=>none
 | some (.slice _)=>match x,y with
  | .nils,.nils=>some true
  | .nils,.slice _ _ _ _=>some false
  | .slice _ _ _ _,.nils=>some false
  | .nils,.emp _=>some false
  | .emp _,.nils=>some false
  | _,_=>none
 | some (.map _ _)=>match x,y with
  | .nilm,.nilm=>some true
  | .nilm,.map _=>some false
  | .map _,.nilm=>some false
  | _,_=>none
 | some (.func _ _ _)=>match x,y with
  | .nilf,.nilf=>some true
  | .nilf,.func _ _ _=>some false
  | .func _ _ _,.nilf=>some false
  | _,_=>none
 | some (.interface _)=>match x,y with
  | .nili,.nili=>bif kc then some true else none
  | .nili,.iface _ _=>some false
  | .iface _ _,.nili=>some false
  | _,_=>none
 | _=>none
def eqL (P:View) (t:TypeId) (kc:Bool) (x y:LV):Option Bool :=
 match x,y with
 | .agg xs,.agg ys=>bif P.guard t then none else eqT P 12 t (.agg xs) (.agg ys)
 | .bool a,.bool b=>match P.underlying t with
  | some .bool=>some (a == b)
  | _=>none
 | x,y=>eqNil P t kc x y
def binL (P:View) (op:BinOp) (t:TypeId) (kc:Bool) (x y:LV):Option LV :=
 match x,y with
 | .int k a,.int k' b=>bif ybj0 op then ytw0 op k a b else if k=k' then yof0 op k a b else none
 | .str a,.str b=>yfs0 op a b
 | _,_=>match op with
  | .eql=>(eqL P t kc x y).map .bool
  | .neq=>(eqL P t kc x y).map fun b=>.bool (!b)
  | _=>none
def convL (P:View) (src dst:TypeId) (x:LV) (H:Heap):Option (LV × Heap) :=
 match P.underlying src with
 | some (.int _)=>match P.underlying dst with
  | some (.int k)=>match x with
   | .int _ n=>some (.int k (k.wrap n),H)
   | _=>none
  | _=>none
 | some .string=>match P.underlying dst with
  | some .string=>match x with
   | .str s=>some (.str s,H)
   | _=>none
  | some (.slice e)=>match P.underlying e with
   | some (.int .u8)=>match x with
    | .str s=>some (.slice H.n 0 (lenL s) (.rest 0),H.push (.cells e (.grow 1) (ofBytes s)))
    | _=>none
   | _=>none
  | _=>none
 | some (.slice e)=>match P.underlying dst with
  | some .string=>match P.underlying e with
   | some (.int .u8)=>withH H (ymn0 H x)
   | _=>none
  | _=>none
 | _=>none
def grownL (P:View) (elem:TypeId) (H:Heap) (n:Nat) (cs:List LV):Option (LV × Heap) :=
 match P.info? elem,zeroOf P elem with
 | some i,some z=>bif Nat.ble (n*i.bytes) 1099511627776 then bif Nat.ble i.bytes 1048576 then bif Nat.beq (lenL (cellsOf z)) i.size then bif Nat.blt 0 i.bytes then
   some (.slice H.n 0 n (.rest 0),H.push (.cells elem (.grow i.size) cs)) else none else none else none else none
 | _,_=>none
def appendTo (P:View) (elem:TypeId) (size:Nat) (s:LV) (n:Nat) (new:List LV) (H:Heap):Option (LV × Heap) :=
 match s with
 | .nils=>bif Nat.beq n 0 then some (.nils,H) else grownL P elem H n new
 | .slice j o l c=>match H.get j with
  | .cells e own cs=>bif Nat.blt j H.n then bif Nat.ble (o+l*size) (lenL cs) then
   match c with
   | .known cap=>bif Nat.ble (l+n) cap then
     bif Nat.beq n 0 then some (s,H) else
     match own with
     | .exact=>bif Nat.ble (o+(l+n)*size) (lenL cs) then bif yse0 new then some (.slice j o (l+n) c,H.put j (.cells e own (yua0 cs (o+l*size) new))) else none else none
     | _=>none
    else grownL P elem H (l+n) (app (takeN (dropN cs o) (l*size)) new)
   | .rest k=>match own with
    | .grow sz=>bif Nat.beq sz size then bif Nat.beq e elem then bif Nat.beq o 0 then bif Nat.beq k 0 then bif yse0 new then
      bif Nat.beq n 0 then some (s,H) else grownL P elem (H.put j .dead) (l+n) (app (takeN cs (l*size)) new) else none else none else none else none else none
    | _=>none
   else none else none
  | _=>none
 | _=>none
def notInt (P:View) (t:TypeId):Bool :=
 match P.underlying t with
 | some (.int _)=>false
 | some _=>true
 | none=>false
def storeFl (P:View) (t:TypeId) (H:Heap) (i o:Nat) (ks:List CK) (e:TypeId) (w:Own) (vs:List LV) (v:LV):Option Heap :=
 match w with
 | .ro=>none
 | w=>match ks with
  | [c]=>match sizeOfT P t with
   | some n=>bif Nat.beq n 1 then bif allCK c [v] then bif Nat.ble (o+1) (lenL vs) then bif Nat.blt i H.n then some (H.put i (.flat [c] e w (yua0 vs o [v]))) else none else none else none else none
   | none=>none
  | _=>none
def storeL (P:View) (t:TypeId) (H:Heap) (a v:LV):Option Heap :=
 match a with
 | .ptr i o=>match H.get i with
  | .flat ks e w vs=>storeFl P t H i o ks e w vs v
  | _=>storeL0 P t H a v
 | _=>storeL0 P t H a v
def ckT (P:View) (t:TypeId):Option CK:=match zeroOf P t with
 | some z=>ckV z
 | none=>none
def grownFl (P:View) (elem:TypeId) (c:CK) (H:Heap) (n:Nat) (vs:List LV):Option (LV × Heap) :=
 match P.info? elem with
 | some i=>bif Nat.ble (n*i.bytes) 1099511627776 then bif Nat.ble i.bytes 1048576 then bif Nat.blt 0 i.bytes then
   some (.slice H.n 0 n (.rest 0),H.push (.flat [c] elem (.grow 1) vs)) else none else none else none
 | none=>none
def appendFl (P:View) (elem:TypeId) (c:CK) (s:LV) (n:Nat) (raw:List LV) (H:Heap):Option (LV × Heap) :=
 match s with
 | .nils=>bif Nat.beq n 0 then some (.nils,H) else grownFl P elem c H n raw
 | .slice j o l cp=>match rawOf c H l s with
  | none=>none
  | some d=>bif Nat.blt j H.n then
   match cp with
   | .known cap=>bif Nat.ble (l+n) cap then bif Nat.beq n 0 then some (s,H) else none else grownFl P elem c H (l+n) (app d raw)
   | .rest k=>bif yuw0 H j elem then bif Nat.beq o 0 then bif Nat.beq k 0 then bif Nat.beq n 0 then some (s,H) else grownFl P elem c (H.put j .dead) (l+n) (app d raw) else none else none else none
   else none
 | _=>none
def appendF1 (P:View) (t xt:TypeId) (s x:LV) (H:Heap):Option (LV × Heap) :=
 bif notInt P xt then
  match P.underlying t with
  | some (.slice elem)=>match sizeOfT P elem with
   | none=>none
   | some size=>match lenV x with
    | none=>none
    | some n=>bif Nat.beq size 1 then (match ckT P elem with
     | none=>none
     | some c=>match rawOf c H n x with
      | none=>none
      | some raw=>appendFl P elem c s n raw H) else none
  | _=>none
 else none
def appendL0 (P:View) (t xt:TypeId) (s x:LV) (H:Heap):Option (LV × Heap) :=
 bif notInt P xt then
  match P.underlying t with
  | some (.slice elem)=>match sizeOfT P elem with
   | none=>none
   | some size=>match lenV x with
    | none=>none
    | some n=>bif Nat.beq size 0 then none else bif isStr x&&!Nat.beq size 1 then none else
     match ydc0 H (n*size) x with
     | none=>none
     | some new=>appendTo P elem size s n new H
  | _=>none
 else none
def appendL (P:View) (t xt:TypeId) (s x:LV) (H:Heap):Option (LV × Heap):=bif yhe0 H s||yhe0 H x then appendF1 P t xt s x H else appendL0 P t xt s x H
def copyL (P:View) (t:TypeId) (d x:LV) (H:Heap):Option (LV × Heap) :=
 match P.underlying t with
 | some (.slice elem)=>match sizeOfT P elem with
  | none=>none
  | some size=>match lenV x with
   | none=>none
   | some n=>match d with
    | .slice j o m _=>bif isStr x&&!Nat.beq size 1 then none else
     match ydc0 H (Nat.min n m*size) x with
     | none=>none
     | some new=>match H.get j with
      | .cells _ .ro _=>none
      | .cells e own cs=>bif Nat.ble (o+Nat.min n m*size) (lenL cs) then bif Nat.blt j H.n then bif yse0 new then some (.int .i64 (Nat.min n m:Nat),H.put j (.cells e own (yua0 cs o new))) else none else none else none
      | _=>none
    | _=>none
 | _=>none
def arrPtrL (P:View) (t:TypeId) (x:LV):Option LV :=
 match P.underlying t with
 | some (.array n _)=>match x with
  | .slice i o l _=>bif Nat.ble n l then some (.ptr i o) else none
  | _=>none
 | _=>none
def clearL (P:View) (t:TypeId) (x:LV) (H:Heap):Option (LV × Heap) :=
 match P.underlying t with
 | some (.slice elem)=>match zeroOf P elem with
  | none=>none
  | some z=>match x with
   | .slice j o m _=>bif Nat.beq m 0 then none else bif Nat.beq (lenL (cellsOf z)) 0 then none else match H.get j with
    | .cells _ .ro _=>none
    | .cells e own cs=>bif Nat.ble (o+lenL (yqb0 (cellsOf z) m)) (lenL cs) then bif Nat.blt j H.n then bif yse0 (yqb0 (cellsOf z) m) then some (yfe0,H.put j (.cells e own (yua0 cs o (yqb0 (cellsOf z) m)))) else none else none else none
    | _=>none
   | _=>none
 | _=>none
def lookupL0 (P:View) (t:TypeId) (m k:LV) (ok:Bool) (H:Heap):Option LV :=
 bif yta0 k then none else
 match P.underlying t with
 | some (.map kt et)=>match P.underlying kt with
  | some kd=>bif yhk0 kd then
    match yon0 H m with
    | some es=>match findL kd k es 0 with
     | some r=>match zeroOf P et with
      | some z=>some (ypn0 ok z r)
      | none=>none
     | none=>none
    | none=>none
   else none
  | none=>none
 | _=>none
def lookupFm (P:View) (t:TypeId) (es:List Ent) (k:LV) (ok:Bool):Option LV:=match k with
 | .str s=>match P.underlying t with
  | some (.map kt et)=>match P.underlying kt with
   | some .string=>match findL .string (.str s) es 0 with
    | some r=>match zeroOf P et with
     | some z=>some (ypn0 ok z r)
     | none=>none
    | none=>none
   | _=>none
  | _=>none
 | _=>none
def lookupL (P:View) (t:TypeId) (m k:LV) (ok:Bool) (H:Heap):Option LV:=match ycj0 H m with
 | some es=>lookupFm P t es k ok
 | none=>lookupL0 P t m k ok H
def updateL (P:View) (t:TypeId) (m k v:LV) (H:Heap):Option Heap :=
 bif yta0 v then none else bif yta0 k then none else
 match P.underlying t with
 | some (.map kt _)=>match P.underlying kt with
  | some kd=>bif yhk0 kd then
    match m with
    | .map i=>match H.get i with
     | .map es clock=>bif Nat.blt i H.n then match findL kd k es 0 with
      | some (some (j,_))=>some (H.put i (.map (ynn0 es j k v) clock))
      | some none=>some (H.put i (.map (app es [⟨k,v,clock⟩]) (clock+1)))
      | none=>none
      else none
     | _=>none
    | _=>none
   else none
  | none=>none
 | _=>none
def opAlloc (P:View) (t:TypeId):OpF
 | [],H=>match zeroOf P t with
  | some z=>yrc0 (boxL t H z)
  | none=>none
 | _,_=>none
def opBuild (P:View) (t:TypeId) (is:List Nat):OpF:=fun xs H=>pureR H (buildL P t (zipL is xs))
def opBuildSlice (P:View) (t:TypeId) (n:Nat) (is:List Nat):OpF:=fun xs H=>yrc0 (buildSliceL P t n (zipL is xs) H)
def opLoad (P:View) (t:TypeId):OpF
 | [x],H=>loadR H x (loadL P t H x)
 | _,_=>none
def opStore (P:View) (t:TypeId):OpF
 | [a,v],H=>match storeL P t H a v with
  | some H'=>some ⟨yfe0,H',.change⟩
  | none=>none
 | _,_=>none
def opBin (P:View) (op:BinOp) (t:TypeId) (kc:Bool):OpF
 | [x,y],H=>pureR H (binL P op t kc x y)
 | _,_=>none
def opConvert (P:View) (s d:TypeId):OpF
 | [x],H=>match convL P s d x H with
  | some (v,H')=>some ⟨v,H',yae2 v x⟩
  | none=>none
 | _,_=>none
def opMakeInterface (P:View) (t:TypeId):OpF
 | [x],H=>bc (yta0 x) none (match P.underlying t with
  | some (.interface _)=>none
  | some _=>some ⟨.iface t x,H,.pure⟩
  | none=>none)
 | _,_=>none
def opMakeSlice (P:View) (t:TypeId):OpF
 | [l,c],H=>yrc0 (makeSliceL P t H l c)
 | _,_=>none
def opSlice (P:View) (t:TypeId) (lo hi mx:Option Operand):OpF
 | x::xs,H=>match three lo hi mx xs with
  | some (l,h,m)=>match sliceL P t x l h m H with
   | some (v,H')=>some ⟨v,H',yxm0 v x⟩
   | none=>none
  | none=>none
 | _,_=>none
def opFieldAddr (P:View) (s:TypeId) (f:Nat):OpF
 | [x],H=>pureR H (fieldAddrL P s f x)
 | _,_=>none
def opField (P:View) (s:TypeId) (f:Nat):OpF
 | [x],H=>pureR H (fieldL P s f x)
 | _,_=>none
def opIndexAddr (P:View) (t:TypeId):OpF
 | [x,i],H=>pureR H (indexAddrL P t x i)
 | _,_=>none
def opIndex (P:View) (t:TypeId):OpF
 | [x,i],H=>pureR H (indexL P t x i)
 | _,_=>none
def opLookup (P:View) (t:TypeId) (ok:Bool):OpF
 | [m,k],H=>loadR H m (lookupL P t m k ok H)
 | _,_=>none
def opUpdate (P:View) (t:TypeId):OpF
 | [m,k,v],H=>match updateL P t m k v H with
  | some H'=>some ⟨yfe0,H',.change⟩
  | none=>none
 | _,_=>none
def opLen (P:View) (t:TypeId):OpF
 | [x],H=>match P.underlying t with
  | some .string=>match x with
   | .str s=>some ⟨.int .i64 (lenL s),H,.pure⟩
   | _=>none
  | some (.slice _)=>match lenV x with
   | some n=>match x with
    | .str _=>none
    | _=>some ⟨.int .i64 n,H,.pure⟩
   | none=>none
  | some (.array n _)=>some ⟨.int .i64 n,H,.pure⟩
  | some (.map _ _)=>match x with
   | .nilm=>some ⟨.int .i64 0,H,.pure⟩
   | .map i=>match H.get i with
    | .map es _=>some ⟨.int .i64 (lenL es),H,.load i⟩
    | _=>none
   | _=>none
  | _=>none
 | _,_=>none
def opAppend (P:View) (t xt:TypeId):OpF
 | [s,x],H=>yrc0 (appendL P t xt s x H)
 | _,_=>none
def opCopy (P:View) (t:TypeId):OpF
 | [d,x],H=>yrc0 (copyL P t d x H)
 | _,_=>none
def opClear (P:View) (t:TypeId):OpF
 | [x],H=>yrc0 (clearL P t x H)
 | _,_=>none
def opArrPtr (P:View) (t:TypeId):OpF
 | [x],H=>pureR H (arrPtrL P t x)
 | _,_=>none
def opRange (P:View) (t:TypeId):OpF
 | [.map i],H=>match P.underlying t with
  | some (.map _ _)=>match H.get i with
   | .map _ clock=>bif Nat.blt i H.n then some ⟨.ptr H.n 0,H.push (.miter i (clock,[],clock)),.change⟩ else none
   | _=>none
  | _=>none
 | _,_=>none
def opBuiltin (P:View) (c:Call):Builtin->OpF
 | .len=>match c.argTypes[0]? with
  | some t=>opLen P t
  | none=>yge0
 | .append=>match c.argTypes[0]? with
  | some t=>match c.argTypes[1]? with
   | some xt=>opAppend P t xt
   | none=>yge0
  | none=>yge0
 | .copy=>match c.argTypes[0]? with
  | some t=>opCopy P t
  | none=>yge0
 | .clear=>match c.argTypes[0]? with
  | some t=>opClear P t
  | none=>yge0
 | .min=>opMin
 | .max=>opMax
 | _=>yge0
def lop (P:View) (op:Op):OpF :=
 match op with
 | .move _=>yfq0
 | .assign _=>yfq0
 | .pick _ _ _=>yjf1
 | .alloc t=>opAlloc P t
 | .box t _=>opBox t
 | .build t ps=>opBuild P t (ps.toList.map (·.1))
 | .buildSlice t n ps=>opBuildSlice P t n (ps.toList.map (·.1))
 | .load t _=>opLoad P t
 | .store t _ _=>opStore P t
 | .nilCheck _=>yqe0
 | .binOp op t a b _=>opBin P op t (isConst a||isConst b)
 | .unOp op _ _=>opUn op
 | .convert s d _=>opConvert P s d
 | .makeInterface t _=>opMakeInterface P t
 | .makeFunc f first _=>match f with
  | .func g=>yfg0 g first.size
  | _=>yge0
 | .makeMap _ none=>yik0
 | .makeSlice t _ _=>opMakeSlice P t
 | .slice t _ lo hi mx=>opSlice P t lo hi mx
 | .fieldAddr s _ f=>opFieldAddr P s f
 | .field s _ f=>opField P s f
 | .indexAddr t _ _=>opIndexAddr P t
 | .index t _ _=>opIndex P t
 | .lookup t _ _ ok=>opLookup P t ok
 | .mapUpdate t _ _ _=>opUpdate P t
 | .insert t _ _ _=>opUpdate P t
 | .sliceToArrayPointer t _=>opArrPtr P t
 | .extract _ i=>yqi0 i
 | .range t _=>opRange P t
 | .entry _=>yvw0
 | .call c=>match c.callee with
  | .builtin b=>opBuiltin P c b
  | _=>yge0
 | _=>yge0
def hasBody (P:View) (g:FuncId):Bool :=
 match P.func? g with
 | some fu=>fu.body.isSome
 | none=>false
def hasFn (P:View) (g:FuncId):Bool :=
 match P.func? g with
 | some _=>true
 | none=>false
theorem aggOf_eq (P:Program) : @aggOf (ysj0 P)=@Ev.aggOf P:=by kernel_rfl
theorem sizeOfT_eq (P:Program) : @sizeOfT (ysj0 P)=@Ev.sizeOfT P:=by kernel_rfl
theorem zeroOf_eq (P:Program) : @zeroOf (ysj0 P)=@Ev.zeroOf P:=by kernel_rfl
theorem partOf_eq (P:Program) : @partOf (ysj0 P)=@Ev.partOf P:=by kernel_rfl
theorem loadL_eq (P:Program) : @loadL (ysj0 P)=@Ev.loadL P:=by kernel_rfl
theorem binL_eq (P:Program) : @binL (ysj0 P)=@Ev.binL P:=by kernel_rfl
theorem lop_eq (P:Program) : @lop (ysj0 P)=@Ev.lop P:=by kernel_rfl
theorem hasBody_eq (P:Program) : @hasBody (ysj0 P)=@Ev.hasBody P:=by kernel_rfl
theorem hasFn_eq (P:Program) : @hasFn (ysj0 P)=@Ev.hasFn P:=by kernel_rfl
end V
end
end Go.Proofs.YtnpbgnjiihecgaaGreat.Ev
namespace Go.Proofs.YtnpbgnjiihecgaaGreat.Ev
open Go
section
variable {Z:Type}
def alt:List Z->List Z
 | []=>[]
 | [x]=>[x]
 | x::_::r=>x::alt r
def Tr.ofList:Nat->List Z->Tr (Option Z)
 | 0,_=>.nil
 | _+1,[]=>.nil
 | k+1,x::xs=>.node (some x) (Tr.ofList k (alt xs)) (Tr.ofList k (alt xs.tail))
theorem ykk1:∀ (l:List Z) (i:Nat),(alt l)[i]?=l[2*i]?
 | [],i=>by simp [alt]
 | [x],0=>by simp [alt]
 | [x],i+1=>by simp [alt]
 | x::_::r,0=>by simp [alt]
 | x::y::r,i+1=>by
  have:=ykk1 r i;simp only [alt,List.getElem?_cons_succ];rw [this,show 2*(i+1)=2*i+1+1 by omega];simp
theorem ywo0:∀ (l:List Z),(alt l).length=(l.length+1) / 2
 | []=>by simp [alt]
 | [x]=>by simp [alt]
 | x::_::r=>by simp only [alt,List.length_cons,ywo0 r];omega
theorem Tr.getN (d:Z) (i:Nat):(Tr.nil:Tr Z).get d i=d:=rfl
theorem Tr.getB (d v:Z) (l r:Tr Z) (i:Nat):(Tr.node v l r).get d i=bc (Nat.beq i 0) v (bc (Nat.beq (i % 2) 1) (l.get d (i / 2)) (r.get d (Nat.pred (i / 2)))):=rfl
theorem Tr.get_ofList:∀ (k:Nat) (l:List Z) (i:Nat),l.length<2 ^ k->(Tr.ofList k l).get none i=l[i]?
 | 0,l,i,h=>by
  have:l=[]:=by cases l with | nil=>rfl | cons _ _=>simp at h
  subst this;simp [Tr.ofList,Tr.getN]
 | k+1,[],i,h=>by simp [Tr.ofList,Tr.getN]
 | k+1,x::xs,i,h=>by
  have hp:2 ^ (k+1)=2*2 ^ k:=by rw [Nat.pow_succ,Nat.mul_comm]
  simp only [List.length_cons] at h;rw [Tr.ofList,Tr.getB,Tr.get_ofList k,Tr.get_ofList k,ykk1,ykk1]
  .cases i with
   | zero=>rfl
   | succ j =>
    simp only [show Nat.beq (j+1) 0=false from rfl,bc_false,List.getElem?_cons_succ];cases hb:Nat.beq ((j+1) % 2) 1 with
    | true =>
     have:=Nat.eq_of_beq_eq_true hb;rw [bc_true,show 2*((j+1) / 2)=j by omega]
    | false =>
     have:(j+1) % 2≠1:=fun e=>by rw [e] at hb;cases hb
     rw [bc_false,List.getElem?_tail,show 2*Nat.pred ((j+1) / 2)+1=j by have:Nat.pred ((j+1)/2)=(j+1)/2-1:=rfl;omega]
  .rw [ywo0,List.length_tail];omega
  .rw [ywo0];omega
end
noncomputable section
def tabT (P:Program):Tr (Option TypeInfo):=Tr.ofList 12 P.types.toList
def tabF (P:Program):Tr (Option Func):=Tr.ofList 12 P.funcs.toList
def infoF (P:Program) (t:TypeId):Option TypeInfo:=@Option.rec TypeInfo (fun _=>Option TypeInfo) (P.info? t) (fun i=>some i) ((tabT P).get none t)
def ykn2 (f:TypeId->Option TypeInfo) (d:TypeDesc):Option TypeDesc :=
 match d with
 | .named _ u=>match f u with
  | some j=>some j.desc
  | none=>none
 | d=>some d
def ydf2 (P:Program) (t:TypeId):Option TypeDesc:=@Option.rec TypeInfo (fun _=>Option TypeDesc) none (fun i=>ykn2 (infoF P) i.desc) (infoF P t)
def funcF (P:Program) (g:FuncId):Option Func:=(tabF P).get none g
def fast (P:Program):View:=⟨P,ydf2 P,infoF P,funcF P,P.eqGuardType P.depth,P.stoodInHeld⟩
theorem yef2 (P:Program) (h:P.types.size<4096) (t:TypeId):infoF P t=P.info? t:=by
 unfold infoF tabT;rw [Tr.get_ofList 12 _ _ (by simpa using h)];show _=Tables.info? P.toTables t;unfold Tables.info?;by_cases ht:t<P.types.size
 .rw [if_pos ht,Array.getElem?_toList,Array.getElem?_eq_getElem ht]
 .rw [if_neg ht,Array.getElem?_toList,Array.getElem?_eq_none (Nat.not_lt.1 ht)]
theorem yln2 (P:Program) (h:P.types.size<4096) (h2:P.funcs.size<4096):fast P=ysj0 P:=by
 unfold fast ysj0;have e1:infoF P=P.info?:=funext (yef2 P h)
 have e2:ydf2 P=P.underlying:=by
  funext t
  unfold ydf2 Program.underlying ykn2;rw [e1];cases hi:P.info? t with
  | none=>rfl
  | some i =>
   obtain ⟨d,_,_,_,_,_,_,_,_,_⟩:=i;cases d <;> try rfl
   rename_i u;simp only;cases P.info? u <;> rfl
 have e3:funcF P=fun g=>P.funcs[g]?:=by
  funext g
  unfold funcF tabF;rw [Tr.get_ofList 12 _ _ (by simpa using h2)];simp
 rw [e1,e2,e3]
end
end Go.Proofs.YtnpbgnjiihecgaaGreat.Ev
