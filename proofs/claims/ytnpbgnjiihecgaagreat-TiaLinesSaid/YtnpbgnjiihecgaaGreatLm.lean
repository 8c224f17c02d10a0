/- What the evaluator in continuation style says is what the deterministic one runs: operations. What the evaluator in continuation style says is what the deterministic one runs: frames, operations. What the evaluator in continuation style says is what the deterministic one runs: rows of scalars, maps, slices. -/
import Derived.Test.YtnpbgnjiihecgaaGreatLl
namespace Go.Proofs.YtnpbgnjiihecgaaGreat.Ev.K
open Go
def s0:S:=⟨[],True⟩
def Post {Z:Type} (r:R Z) (Q:Z->Prop):Prop:=∃ a,r=.ok a s0/\Q a
theorem Post.bnd {Z β:Type} {r:R Z} {f:Z->S->R β} {Q:β->Prop} (h:Post r fun a=>Post (f a s0) Q):Post (r.bnd f) Q:=by
 obtain ⟨a,rfl,b,hb,hQ⟩:=h;exact ⟨b,hb,hQ⟩
theorem Post.ok {Z:Type} {a:Z} {Q:Z->Prop} (h:Q a):Post (.ok a s0) Q:=⟨a,rfl,h⟩
theorem Post.mono {Z:Type} {r:R Z} {Q Q' : Z->Prop} (h:Post r Q) (hq:∀ a,Q a->Q' a):Post r Q':=by
 obtain ⟨a,h1,h2⟩:=h;exact ⟨a,h1,hq a h2⟩
theorem yly0 (b:Bool):yym0 b s0=.ok b s0:=by cases b <;> rfl
theorem yqn0 (P:Program) (t:TypeId):(ysj0 P).underlying t=P.underlying t:=rfl
theorem yrg1 (P:Program) (g:FuncId):(ysj0 P).func? g=P.funcs[g]?:=rfl
theorem yxa0 (t:TypeId):TV.underlying t=Tryz.prog.underlying t:=by rw [T.TV_eq,yqn0]
theorem yio2 (g:FuncId):TV.func? g=Tryz.prog.funcs[g]?:=by rw [T.TV_eq,yrg1]
theorem yxt0 {b:Bool} {x y:Prop} (h : @Bool.rec (fun _=>Prop) x y b):(b=true/\y)\/(b=false/\x):=by
 cases b with
 | true=>exact .inl ⟨rfl,h⟩
 | false=>exact .inr ⟨rfl,h⟩
theorem bcP {b:Bool} {x y:Prop} (h:bc b x y):(b=true/\x)\/(b=false/\y):=by
 cases b with
 | true=>exact .inl ⟨rfl,h⟩
 | false=>exact .inr ⟨rfl,h⟩
theorem yxi0 {b:Bool} {kt kf:Hint->Prop} : ∀ {h:Hint},dec b h kt kf->(b=true/\∃ h',kt h')\/(b=false/\∃ h',kf h')
 | .auto,hd=>by
  rcases bcP hd with ⟨e,h⟩ | ⟨e,h⟩
  .exact .inl ⟨e,_,h⟩
  .exact .inr ⟨e,_,h⟩
 | .skip 0 h,hd=>yxi0 (h:=h) hd
 | .skip (n+1) h,hd=>by
  rcases bcP hd with ⟨e,h⟩ | ⟨e,h⟩
  .exact .inl ⟨e,_,h⟩
  .exact .inr ⟨e,_,h⟩
 | .take c h,hd=>by
  obtain ⟨e,hd⟩:=hd;subst e;rcases bcP hd with ⟨e,h⟩ | ⟨e,h⟩
  .exact .inl ⟨e,_,h⟩
  .exact .inr ⟨e,_,h⟩
 | .fork l r,hd=>by
  rcases bcP hd with ⟨e,h⟩ | ⟨e,h⟩
  .exact .inl ⟨e,_,h⟩
  .exact .inr ⟨e,_,h⟩
 | .vp _ _,hd=>hd.elim
 | .st _ _,hd=>hd.elim
theorem yjl1 {norm:Hint->Prop} {vp:LV->Hint->Prop} {st:List LV->Hint->Prop} : ∀ {h:Hint},hop h norm vp st->(∃ h',norm h')\/(∃ v h',vp v h')\/(∃ cs h',st cs h')
 | .auto,hd=>.inl ⟨_,hd⟩
 | .skip 0 h,hd=>yjl1 (h:=h) hd
 | .skip (_+1) _,hd=>.inl ⟨_,hd⟩
 | .take _ _,hd=>hd.elim
 | .fork _ _,hd=>hd.elim
 | .vp v h,hd=>.inr (.inl ⟨v,h,hd⟩)
 | .st cs h,hd=>.inr (.inr ⟨cs,h,hd⟩)
theorem yyt0 (j:Nat):(Nat.mod j 2=0/\Nat.mod (j+1) 2=1/\Nat.div (j+1) 2=Nat.div j 2)\/(∃ m,Nat.mod j 2=m+1/\Nat.beq (Nat.mod (j+1) 2) 1=false/\Nat.pred (Nat.div (j+1) 2)=Nat.div j 2):=by
 have e1:∀ a,Nat.mod a 2=a % 2:=fun _=>rfl
 have e2:∀ a,Nat.div a 2=a / 2:=fun _=>rfl
 simp only [e1,e2];rcases Nat.mod_two_eq_zero_or_one j with h | h
 .left;omega
 .right;refine ⟨0,by omega,?_,?_⟩
  .rw [show (j+1) % 2=0 by omega];rfl
  .show (j+1) / 2-1=_;omega
theorem yap0 {Z:Type} (d:Z):∀ (t:Tr Z) (i:Nat) (k:Z->Prop),trGet d t i k=k (t.get d i)
 | .nil,i,k=>rfl
 | .node v l r,0,k=>rfl
 | .node v l r,j+1,k=>by
  rw [Tr.getB];show @Nat.rec (fun _=>Prop) (trGet d l (Nat.div j 2) k) (fun _ _=>trGet d r (Nat.div j 2) k) (Nat.mod j 2)=_;simp only [show Nat.beq (j+1) 0=false from rfl,bc_false];rcases yyt0 j with ⟨h1,h2,h3⟩ | ⟨m,h1,h2,h3⟩
  .rw [h1,show (j+1) % 2=1 from h2,show (j+1) / 2=Nat.div j 2 from h3];simp only [show Nat.beq 1 1=true from rfl,bc_true];exact yap0 d l _ k
  .rw [h1,show Nat.beq ((j+1) % 2) 1=false from h2,show Nat.pred ((j+1) / 2)=Nat.div j 2 from h3];exact yap0 d r _ k
theorem yzb2 {Z:Type} (d x:Z):∀ (k i:Nat),oneT d x k i=Tr.one d x k i
 | 0,i=>rfl
 | k+1,0=>rfl
 | k+1,j+1=>by
  show @Nat.rec (fun _=>Tr Z) (.node d (oneT d x k (Nat.div j 2)) .nil) (fun _ _=>.node d .nil (oneT d x k (Nat.div j 2))) (Nat.mod j 2)=bc (Nat.beq (j+1) 0) (.node x .nil .nil) (bc (Nat.beq (Nat.mod (j+1) 2) 1) (.node d (Tr.one d x k (Nat.div (j+1) 2)) .nil) (.node d .nil (Tr.one d x k (Nat.pred (Nat.div (j+1) 2)))));simp only [show Nat.beq (j+1) 0=false from rfl,bc_false,yzb2 d x k];rcases yyt0 j with ⟨h1,h2,h3⟩ | ⟨m,h1,h2,h3⟩
  .rw [h1,h2,h3];rfl
  .rw [h1,h2,h3];rfl
theorem ymy0 {Z:Type} (d x:Z):∀ (t:Tr Z) (i:Nat),setT d x t i=t.set d x i
 | .nil,i=>yzb2 d x (i+1) i
 | .node v l r,0=>rfl
 | .node v l r,j+1=>by
  show @Nat.rec (fun _=>Tr Z) (.node v (setT d x l (Nat.div j 2)) r) (fun _ _=>.node v l (setT d x r (Nat.div j 2))) (Nat.mod j 2)=bc (Nat.beq (j+1) 0) (.node x l r) (bc (Nat.beq (Nat.mod (j+1) 2) 1) (.node v (l.set d x (Nat.div (j+1) 2)) r) (.node v l (r.set d x (Nat.pred (Nat.div (j+1) 2)))));simp only [show Nat.beq (j+1) 0=false from rfl,bc_false,ymy0 d x l,ymy0 d x r];rcases yyt0 j with ⟨h1,h2,h3⟩ | ⟨m,h1,h2,h3⟩
  .rw [h1,h2,h3];rfl
  .rw [h1,h2,h3];rfl
theorem yui0 {Z:Type} (t:Tr Z) (k:Tr Z->Prop):ynt0 t k=k t:=by cases t <;> rfl
theorem ypd1 (H:Heap) (k:Heap->Prop):yqv1 H k=k H:=by
 cases H with
 | mk n t=>exact yui0 t fun t=>k ⟨n,t⟩
theorem yfd0 (H:Heap) (i:Nat) (k:LObj->Prop):getObj H i k=k (H.get i):=yap0 _ _ _ _
theorem yci0 (H:Heap) (i:Nat) (o:LObj) (k:Heap->Prop):putK H i o k=k (H.put i o):=by
 cases H with
 | mk n t =>
  show ynt0 (setT Slot.none ⟨Nat.succ (Heap.slot ⟨n,t⟩ i).stamp,o⟩ t i) (fun t=>k ⟨n,t⟩)=_;rw [yui0,ymy0];rfl
theorem ydi0 (H:Heap) (o:LObj) (k:Heap->Prop):pushK H o k=k (H.push o):=by
 cases H with
 | mk n t =>
  show ynt0 (setT Slot.none ⟨0,o⟩ t n) (fun t=>k ⟨Nat.succ n,t⟩)=_;rw [yui0,ymy0];rfl
theorem yzt0:∀ {l:List LV} {i:Nat} {k:LV->Prop},nthK l i k->∃ v,nth l i=some v/\k v
 | [],i,k,h=>h.elim
 | v::l,0,k,h=>⟨v,rfl,h⟩
 | v::l,i+1,k,h=>yzt0 (l:=l) (i:=i) h
theorem Int.ltI_eq (a b:Int):ltI a b=decide (a<b):=by
 cases a with
 | ofNat m=>cases b with
  | ofNat n=>show Nat.blt m n=_;rw [Bool.eq_iff_iff,bltN];simp
  | negSucc n=>show false=_;symm;simp;omega
 | negSucc m=>cases b with
  | ofNat n=>show true=_;symm;simp;omega
  | negSucc n=>show Nat.blt n m=_;rw [Bool.eq_iff_iff,bltN];simp;omega
theorem yau0 (a b:Int):eqI a b=(a == b):=by
 cases a with
 | ofNat m=>cases b with
  | ofNat n=>show Nat.beq m n=_;rw [Bool.eq_iff_iff,Nat.beq_eq];simp;omega
  | negSucc n=>show false=_;symm;simp
 | negSucc m=>cases b with
  | ofNat n=>show false=_;symm;simp
  | negSucc n=>show Nat.beq m n=_;rw [Bool.eq_iff_iff,Nat.beq_eq];simp
theorem ybp0 (b:Bool):notB b=!b:=by cases b <;> rfl
theorem yzf2 {j k:IntKind} : eqK j k=true↔j=k:=by cases j <;> cases k <;> simp [eqK]
theorem wrap_small (k:IntKind) {m:Nat} (h:m<limK k):k.wrap (Int.ofNat m)=Int.ofNat m:=by
 have e:(Int.ofNat m) % (2 ^ k.bits:Int)=Int.ofNat m:=by
  refine Int.emod_eq_of_lt (Int.natCast_nonneg m) ?_;have h2:(limK k:Int)<=2 ^ k.bits:=by cases k <;> decide
  have:(Int.ofNat m)=(m:Int):=rfl;omega
 simp only [IntKind.wrap,e]
 have h3:(k.signed&&decide (Int.ofNat m≥(2 ^ (k.bits-1):Int)))=false:=by
  have e2:(Int.ofNat m)=(m:Int):=rfl;rw [e2];cases k <;> simp [IntKind.signed,IntKind.bits,limK] at h ⊢ <;> omega
 rw [h3];rfl
theorem yqd0 (k:IntKind) (n:Int):wrapK k n=k.wrap n:=by
 cases n with
 | ofNat m =>
  show bc (Nat.blt m (limK k)) (Int.ofNat m) (k.wrap (Int.ofNat m))=_;cases h:Nat.blt m (limK k) with
  | true=>exact (wrap_small k (bltN.1 h)).symm
  | false=>rfl
 | negSucc m=>rfl
theorem yag2 (k:IntKind):limK k<=2 ^ k.bits:=by cases k <;> decide
theorem yjo2 (k:IntKind):∃ p,limK k=2 ^ p:=by cases k <;> first | exact ⟨7,rfl⟩ | exact ⟨15,rfl⟩ | exact ⟨31,rfl⟩ | exact ⟨63,rfl⟩ | exact ⟨8,rfl⟩ | exact ⟨16,rfl⟩ | exact ⟨32,rfl⟩ | exact ⟨64,rfl⟩
theorem yqd1 (w m:Nat) (h:m<2 ^ w):(BitVec.ofInt w (Int.ofNat m)).toNat=m:=by
 rw [BitVec.toNat_ofInt];have:(Int.ofNat m) % ((2 ^ w:Nat):Int)=m:=Int.emod_eq_of_lt (Int.natCast_nonneg m) (by have:(Int.ofNat m)=(m:Int):=rfl;omega);rw [this];simp
theorem ykl1 {f:Nat->Nat->Nat} {g:(w:Nat)->BitVec w->BitVec w->BitVec w} (hfg:∀ w (x y:BitVec w),(g w x y).toNat=f x.toNat y.toNat) (hf:∀ p m n,m<2 ^ p->n<2 ^ p->f m n<2 ^ p) (k:IntKind) (a b:Int) :
  bitK f g k a b=k.wrap (g k.bits (BitVec.ofInt k.bits a) (BitVec.ofInt k.bits b)).toNat:=by
 cases a with
 | negSucc m=>rfl
 | ofNat m=>cases b with
  | negSucc n=>rfl
  | ofNat n =>
   show bc (Nat.blt m (limK k)) (bc (Nat.blt n (limK k)) _ _) _=_;cases h1:Nat.blt m (limK k) with
   | false=>rfl
   | true=>cases h2:Nat.blt n (limK k) with
    | false=>rfl
    | true =>
     have h1:=bltN.1 h1;have h2:=bltN.1 h2;have hb:=yag2 k;show Int.ofNat (f m n)=_;rw [hfg,yqd1 _ _ (by omega),yqd1 _ _ (by omega)];obtain ⟨p,hp⟩:=yjo2 k;rw [hp] at h1 h2;exact (wrap_small k (by rw [hp];exact hf p m n h1 h2)).symm
theorem yny0 (k:IntKind) (a b:Int):andK k a b=k.wrap (BitVec.ofInt k.bits a &&& BitVec.ofInt k.bits b).toNat :=
 ykl1 (fun _ x y=>BitVec.toNat_and x y) (fun _ _ _ hm _=>Nat.lt_of_le_of_lt Nat.and_le_left hm) k a b
theorem yru2 (k:IntKind) (a b:Int):orK k a b=k.wrap (BitVec.ofInt k.bits a ||| BitVec.ofInt k.bits b).toNat :=
 ykl1 (fun _ x y=>BitVec.toNat_or x y) (fun p m n hm hn=>Nat.or_lt_two_pow hm hn) k a b
theorem yko2 (k:IntKind) (a b:Int):xorK k a b=k.wrap (BitVec.ofInt k.bits a ^^^ BitVec.ofInt k.bits b).toNat :=
 ykl1 (fun _ x y=>BitVec.toNat_xor x y) (fun p m n hm hn=>Nat.xor_lt_two_pow hm hn) k a b
end Go.Proofs.YtnpbgnjiihecgaaGreat.Ev.K
namespace Go.Proofs.YtnpbgnjiihecgaaGreat.Ev.K
open Go
def lookL:Locs->Nat->Option LV
 | [],_=>none
 | p::loc,t=>if p.1=t then some p.2 else lookL loc t
theorem yrd1:∀ {loc:Locs} {t:Nat} {k:LV->Prop},look loc t k->∃ v,lookL loc t=some v/\k v
 | [],_,_,h=>h.elim
 | p::loc,t,k,h=>by
  change @Bool.rec (fun _=>Prop) (look loc t k) (k p.2) (Nat.beq p.1 t) at h;rcases yxt0 h with ⟨e,h⟩ | ⟨e,h⟩
  .exact ⟨p.2,by simp [lookL,beqN e],h⟩
  .obtain ⟨v,h1,h2⟩:=yrd1 h;exact ⟨v,by simp [lookL,yxb0 e,h1],h2⟩
structure KFr (cx:Cx) (var:Tr LV) (loc:Locs) (mk:List Nat) (f:Fr):Prop where
 fn:f.fn=cx.fn
 n:f.n=cx.n
 marks:f.marks=mk
 round:f.round=cx.round
 var:∀ i,i<cx.nv->f.t.get .junk i=var.get .junk i
 loc:∀ i v,cx.nv<=i->lookL loc i=some v->f.t.get .junk i=v
theorem KFr.noLoc {cx:Cx} {var:Tr LV} {loc:Locs} {mk:List Nat} {f:Fr} (h:KFr cx var loc mk f):KFr cx var [] mk f :=
 ⟨h.fn,h.n,h.marks,h.round,h.var,fun i v _ hv=>by cases hv⟩
theorem bleN {a b:Nat} : Nat.ble (Nat.succ a) b=true↔a<b:=⟨fun h=>Nat.le_of_ble_eq_true h,fun h=>Nat.ble_eq_true_of_le h⟩
theorem yod0 {cx:Cx} {var:Tr LV} {loc:Locs} {mk:List Nat} {f:Fr} (hf:KFr cx var loc mk f) {x:Operand} {k:LV->Prop} (h:opd x cx.nv var loc k):k (f.ev x):=by
 cases x with
 | tmp t =>
  rcases yxt0 (show @Bool.rec (fun _=>Prop) (look loc t k) (trGet .junk var t k) (Nat.ble (Nat.succ t) cx.nv) from h) with ⟨e,h⟩ | ⟨e,h⟩
  .rw [yap0] at h;show k (f.t.get .junk t);rw [hf.var t (bleN.1 e)];exact h
  .obtain ⟨v,h1,h2⟩:=yrd1 h;show k (f.t.get .junk t);rw [hf.loc t v (by rcases Nat.lt_or_ge t cx.nv with h | h;exact absurd (bleN.2 h) (by rw [e];simp);exact h) h1];exact h2
 | const v=>exact h
 | global g=>exact h.elim
 | func g=>exact h
theorem ytj0 {cx:Cx} {var:Tr LV} {loc:Locs} {mk:List Nat} {f:Fr} (hf:KFr cx var loc mk f):∀ {l:List Operand} {k:List LV->Prop},opdsK l cx.nv var loc k->k (f.evs l)
 | [],k,h=>h
 | x::l,k,h=>by
  have h1:=yod0 hf (show opd x cx.nv var loc fun v=>opdsK l cx.nv var loc fun vs=>k (v::vs) from h);exact ytj0 hf (l:=l) (k:=fun vs=>k (f.ev x::vs)) h1
theorem ydm0 {cx:Cx} {var:Tr LV} {loc:Locs} {mk:List Nat} {f:Fr} (hf:KFr cx var loc mk f) {d:Option Tmp} {v:LV} {k:Tr LV->Locs->Prop} (h:putS cx d v var loc k) :
  ∃ f' var' loc',f.put d v=some f'/\KFr cx var' loc' mk f'/\k var' loc':=by
 cases d with
 | none=>exact ⟨f,var,loc,rfl,hf,h⟩
 | some i =>
  obtain ⟨h1,h⟩:=yca0.1 (show need (Nat.ble (Nat.succ i) cx.n) _ from h);have hi:i<f.n:=by rw [hf.n];exact bleN.1 h1
  have hput:f.put (some i) v=some (f.set i v):=by
   show (bif Nat.blt i f.n then some (f.set i v) else none)=_;rw [bltN.2 hi];rfl
  have hget:∀ j,(f.set i v).t.get .junk j=if i=j then v else f.t.get .junk j:=fun j=>Tr.get_set _ _ _ _ _
  rcases yxt0 h with ⟨e,h⟩ | ⟨e,h⟩
  .rw [yui0,ymy0] at h;have hi:=bleN.1 e;refine ⟨_,_,_,hput,⟨hf.fn,hf.n,hf.marks,hf.round,fun j hj=>?_,fun j w hj hw=>?_⟩,h⟩
   .rw [hget,Tr.get_set,hf.var j hj]
   .rw [hget,if_neg (fun e=>by rw [e] at hi;omega)];exact hf.loc j w hj hw
  .have hi:cx.nv<=i:=by rcases Nat.lt_or_ge i cx.nv with h | h;exact absurd (bleN.2 h) (by rw [e];simp);exact h
   refine ⟨_,_,_,hput,⟨hf.fn,hf.n,hf.marks,hf.round,fun j hj=>?_,fun j w hj hw=>?_⟩,h⟩
   .rw [hget,if_neg (fun e=>by rw [e] at hi;omega)];exact hf.var j hj
   .rw [hget];simp only [lookL] at hw;split at hw
    .injection hw with hw;subst hw;rename_i e2;rw [if_pos e2]
    .rename_i e2;rw [if_neg e2];exact hf.loc j w hj hw
theorem ydb1 {v:LV} {k:Nat->Nat->Prop} (h:onPtr v k):∃ i o,v=.ptr i o/\k i o:=by cases v <;> first | exact ⟨_,_,rfl,h⟩ | exact h.elim
theorem yei0 {v:LV} {k:IntKind->Int->Prop} (h:onInt v k):∃ q n,v=.int q n/\k q n:=by cases v <;> first | exact ⟨_,_,rfl,h⟩ | exact h.elim
theorem ybu0 {v:LV} {k:Bool->Prop} (h:yov1 v k):∃ b,v=.bool b/\k b:=by cases v <;> first | exact ⟨_,rfl,h⟩ | exact h.elim
theorem ybg2 {v:LV} {k:List LV->Prop} (h:onAgg v k):∃ l,v=.agg l/\k l:=by cases v <;> first | exact ⟨_,rfl,h⟩ | exact h.elim
theorem ycg2 {v:LV} {k:List LV->Prop} (h:onTup v k):∃ l,v=.tup l/\k l:=by cases v <;> first | exact ⟨_,rfl,h⟩ | exact h.elim
theorem ycp0 {v:LV} {k:IntKind->Int->Prop} {o:Prop} (h:ygd1 v k o):(∃ q n,v=.int q n/\k q n)\/((∀ q n,v≠.int q n)/\o):=by
 cases v <;> first
  | exact .inl ⟨_,_,rfl,h⟩
  | exact .inr ⟨(fun _ _ e=>by cases e),h⟩
theorem ysg1 {v:LV} {k:Nat->Nat->Prop} {s:Nat->Nat->Nat->Prop} (h:ylk1 v k s):(∃ i o,v=.ptr i o/\k i o)\/∃ i o l c,v=.slice i o l c/\s i o l:=by
 cases v <;> first
  | exact .inl ⟨_,_,rfl,h⟩
  | exact .inr ⟨_,_,_,_,rfl,h⟩
  | exact h.elim
theorem yll1 {v:LV} {k:Bool->Prop} {n:Prop} (h:yvb2 v k n):(∃ b,v=.bool b/\k b)\/(v=.tup []/\n):=by
 cases v with
 | bool b=>exact .inl ⟨b,rfl,h⟩
 | tup l=>cases l with
  | nil=>exact .inr ⟨rfl,h⟩
  | cons _ _=>exact h.elim
 | _=>exact h.elim
theorem ycu0 {w:Own} {k:Prop} (h:ypv1 w k):w≠.ro/\k:=by cases w <;> first | exact ⟨by simp,h⟩ | exact h.elim
theorem yoy0 {t:TypeId} {cs:List LV} {off:Nat} {k:LV->Prop} (h:partK t cs off k):∃ v,partOf Tryz.prog t cs off=some v/\k v:=by
 unfold partK at h;obtain ⟨ag,ha,h⟩:=yqa0.1 h;rw [T.aggOf_eq] at ha;unfold partOf;rw [ha];rcases bcP h with ⟨e,h⟩ | ⟨e,h⟩
 .subst e;obtain ⟨n,hn,h⟩:=yqa0.1 h;obtain ⟨hb,h⟩:=yca0.1 h;rw [T.sizeOfT_eq] at hn;simp only [hn,hb,cond_true];exact ⟨_,rfl,h⟩
 .subst e;exact yzt0 h
section
variable {P:Program}
def fOffP (P:Program) (s:TypeId) (f:Nat):Option Nat :=
 match P.underlying s with
 | some (.struct fields)=>match fields[f]? with
  | some fd=>match sizeOfT P fd.type with
   | some n=>bif Nat.beq n 0 then none else some fd.offset
   | none=>none
  | none=>none
 | _=>none
theorem ylo2 (s:TypeId) (f:Nat):fOff s f=fOffP Tryz.prog s f:=by
 unfold fOff fOffP;rw [yxa0,T.sizeOfT_eq];generalize Tryz.prog.underlying s=u;generalize sizeOfT Tryz.prog=z;rfl
theorem ypy0 {s:TypeId} {i b o off:Nat} (ho:fOffP P s i=some off):fieldAddrL P s i (.ptr b o)=some (.ptr b (o+off)):=by
 unfold fOffP at ho;unfold fieldAddrL;simp only;split at ho
 .rename_i fields hu;rw [hu];simp only;split at ho
  .rename_i fd hfd;rw [hfd];simp only;split at ho
   .rename_i n hn;rw [hn];simp only;cases hb:Nat.beq n 0 with
    | true=>rw [hb] at ho;cases ho
    | false=>rw [hb] at ho;injection ho with ho;subst ho;rfl
   .cases ho
  .cases ho
 .cases ho
def ycw1 (P:Program) (s:TypeId) (f:Nat):Option (TypeId × Nat) :=
 match P.underlying s with
 | some (.struct fields)=>match fields[f]? with
  | some fd=>some (fd.type,fd.offset)
  | none=>none
 | _=>none
theorem ydg2 (s:TypeId) (f:Nat):fType s f=ycw1 Tryz.prog s f:=by
 unfold fType ycw1;rw [yxa0];generalize Tryz.prog.underlying s=u;rfl
theorem ydw1 {s:TypeId} {i:Nat} {cs:List LV} {p:TypeId × Nat} {v:LV} (hp:ycw1 P s i=some p) (hpv:partOf P p.1 cs p.2=some v):fieldL P s i (.agg cs)=some v:=by
 unfold ycw1 at hp;unfold fieldL;simp only;split at hp
 .rename_i fields hu;rw [hu];simp only;split at hp
  .rename_i fd hfd;rw [hfd];simp only;injection hp with hp;subst hp;exact hpv
  .cases hp
 .cases hp
def yvi0 (P:Program) (t:TypeId):Option Nat :=
 match P.underlying t with
 | some (.array _ e)=>sizeOfT P e
 | some (.slice e)=>sizeOfT P e
 | _=>none
def ysd1 (P:Program) (t:TypeId):Option Nat :=
 match P.underlying t with
 | some (.array n _)=>some n
 | _=>none
def yvn0 (P:Program) (t:TypeId):Bool :=
 match P.underlying t with
 | some (.slice _)=>true
 | _=>false
theorem ytg1 (t:TypeId):yra1 t=yvi0 Tryz.prog t:=by
 unfold yra1 yvi0;rw [yxa0,T.sizeOfT_eq];generalize Tryz.prog.underlying t=u;generalize sizeOfT Tryz.prog=z;rfl
theorem yew1 (t:TypeId):yhf2 t=ysd1 Tryz.prog t:=by
 unfold yhf2 ysd1;rw [yxa0];generalize Tryz.prog.underlying t=u;rfl
theorem yug1 (t:TypeId):ysa1 t=yvn0 Tryz.prog t:=by
 unfold ysa1 yvn0;rw [yxa0];generalize Tryz.prog.underlying t=u;rfl
theorem ydu0 {t:TypeId} {b o n len:Nat} {q:IntKind} {ix:Int} (hn:yvi0 P t=some n) (hlen:ysd1 P t=some len) (h2:decide (0<=ix)=true) (h3:decide (ix<len)=true):indexAddrL P t (.ptr b o) (.int q ix)=some (.ptr b (o+ix.toNat*n)):=by
 unfold yvi0 at hn;unfold ysd1 at hlen;unfold indexAddrL;simp only;cases hu:P.underlying t with
 | none=>rw [hu] at hlen;cases hlen
 | some d =>
  rw [hu] at hlen hn
  cases d <;> first
   | (simp only at hlen hn;injection hlen with hlen;subst hlen;simp only [hn,h2,h3,cond_true];done)
   | cases hlen
theorem yqy0 {t:TypeId} {b o l n:Nat} {c:Cap} {q:IntKind} {ix:Int} (hn:yvi0 P t=some n) (hsl:yvn0 P t=true) (h2:decide (0<=ix)=true) (h3:decide (ix<l)=true):indexAddrL P t (.slice b o l c) (.int q ix)=some (.ptr b (o+ix.toNat*n)):=by
 unfold yvi0 at hn;unfold yvn0 at hsl;unfold indexAddrL;simp only;cases hu:P.underlying t with
 | none=>rw [hu] at hsl;cases hsl
 | some d =>
  rw [hu] at hsl hn
  cases d <;> first
   | (simp only at hsl hn;simp only [hn,h2,h3,cond_true];done)
   | cases hsl
def ydp0 (P:Program) (s d:TypeId):Option IntKind :=
 match P.underlying s with
 | some (.int _)=>match P.underlying d with
  | some (.int k)=>some k
  | _=>none
 | _=>none
theorem yml1 (s d:TypeId):yjd1 s d=ydp0 Tryz.prog s d:=by
 unfold yjd1 ydp0;rw [yxa0,yxa0];generalize Tryz.prog.underlying s=u;generalize Tryz.prog.underlying d=v;rfl
theorem yeg2 {s d:TypeId} {q r:IntKind} {n:Int} {H:Heap} (hc:ydp0 P s d=some q):convL P s d (.int r n) H=some (.int q (q.wrap n),H):=by
 unfold ydp0 at hc;unfold convL;split at hc
 .rename_i k1 hk1;split at hc
  .rename_i k2 hk2;injection hc with hc;subst hc;simp only [hk1,hk2]
  .cases hc
 .cases hc
theorem yeb1 {s d:TypeId} {q r:IntKind} {n:Int} {H:Heap} (hc:ydp0 P s d=some q):opConvert P s d [.int r n] H=some ⟨.int q (q.wrap n),H,.pure⟩:=by
 unfold opConvert;simp only [yeg2 hc];rfl
theorem ynl1 {t:TypeId} {z v:LV} {H H' : Heap} (hz:zeroOf P t=some z) (hb:boxL t H z=some (v,H')):opAlloc P t [] H=some ⟨v,H',.change⟩:=by
 unfold opAlloc;simp only [hz];rw [hb];rfl
theorem yfg2 {t:TypeId} {H:Heap} {b o:Nat} {e:TypeId} {w:Own} {cs:List LV} (hg:H.get b=.cells e w cs):loadL P t H (.ptr b o)=partOf P t cs o:=by
 unfold loadL;simp only [hg,openO]
theorem yfw1 {t:TypeId} {H:Heap} {b o n:Nat} {e:TypeId} {w:Own} {cs:List LV} {v:LV} (hg:H.get b=.cells e w cs) (hw:w≠.ro) (hj:yta0 v=false) (hn:sizeOfT P t=some n) (ha:yse0 (cellsOf v)=true) (hl:Nat.beq (lenL (cellsOf v)) n=true)
  (hle:Nat.ble (o+n) (lenL cs)=true) (hb:Nat.blt b H.n=true):storeL P t H (.ptr b o) v=some (H.put b (.cells e w (yua0 cs o (cellsOf v)))):=by
 unfold storeL;simp only [hg];unfold storeL0;rw [hj];simp only [cond_false,hg];cases w with
 | ro=>exact absurd rfl hw
 | exact=>simp only [hn,ha,hl,hle,hb,cond_true]
 | grow sz=>simp only [hn,ha,hl,hle,hb,cond_true]
theorem yol1 (t:TypeId) (x:Operand) (v:LV) (H:Heap):lop P (.load t x) [v] H=loadR H v (loadL P t H v):=rfl
theorem ytd1 (t:TypeId) (x y:Operand) (a v:LV) (H:Heap):lop P (.store t x y) [a,v] H=match storeL P t H a v with | some H'=>some ⟨yfe0,H',.change⟩ | none=>none:=rfl
theorem yry0 (s:TypeId) (x:Operand) (i:Nat) (v:LV) (H:Heap):lop P (.fieldAddr s x i) [v] H=pureR H (fieldAddrL P s i v):=rfl
theorem ygw1 (s:TypeId) (x:Operand) (i:Nat) (v:LV) (H:Heap):lop P (.field s x i) [v] H=pureR H (fieldL P s i v):=rfl
theorem yfn0 (s:TypeId) (x i:Operand) (v w:LV) (H:Heap):lop P (.indexAddr s x i) [v,w] H=pureR H (indexAddrL P s v w):=rfl
theorem ymo2 (t:TypeId) (x:Operand) (v:LV) (H:Heap):lop P (.box t x) [v] H=yrc0 (boxL t H v):=rfl
theorem yhw1 (t:TypeId) (H:Heap):lop P (.alloc t) [] H=opAlloc P t [] H:=rfl
theorem yem0 (s d:TypeId) (x:Operand) (v:LV) (H:Heap):lop P (.convert s d x) [v] H=opConvert P s d [v] H:=rfl
theorem yiw1 (op:BinOp) (t t2:TypeId) (a b:Operand) (v w:LV) (H:Heap):lop P (.binOp op t a b t2) [v,w] H=pureR H (binL P op t (isConst a||isConst b) v w):=rfl
theorem ygg2 (x:Operand) (v:LV) (H:Heap):lop P (.move x) [v] H=some ⟨v,H,.pure⟩:=rfl
theorem ypl1 (x:Operand) (v:LV) (H:Heap):lop P (.assign x) [v] H=some ⟨v,H,.pure⟩:=rfl
theorem yql1 (x y z:Operand) (b:Bool) (v w:LV) (H:Heap):lop P (.pick x y z) [.bool b,v,w] H=some ⟨bc b v w,H,.pure⟩:=rfl
theorem yno2 (t:TypeId) (x:Operand) (b:Bool) (H:Heap):lop P (.unOp .not t x) [.bool b] H=some ⟨.bool (!b),H,.pure⟩:=rfl
theorem yfb1 (x:Operand) (v:LV) (H:Heap):lop P (.nilCheck x) [v] H=yqe0 [v] H:=rfl
theorem yvg1 (x:Operand) (i:Nat) (vs:List LV) (H:Heap):lop P (.extract x i) [.tup vs] H=pureR H (nth vs i):=rfl
theorem yhg2 {op:BinOp} {t:TypeId} {kc:Bool} {q:IntKind} {a b:Int} {v:LV} (e:ybj0 op=false) (hv:yof0 op q a b=some v):binL P op t kc (.int q a) (.int q b)=some v:=by
 unfold binL;simp only [e,cond_false,hv,if_true]
theorem yrl1 {op:BinOp} {t:TypeId} {kc:Bool} {q r:IntKind} {a b:Int} {v:LV} (e:ybj0 op=true) (hv:ytw0 op q a b=some v):binL P op t kc (.int q a) (.int r b)=some v:=by
 unfold binL;simp only [e,cond_true,hv]
end
def Does (op:Op) (xs:List LV) (H:Heap) (k:LV->Kd->Heap->Hint->Prop):Prop:=∃ v kd H',lop Tryz.prog op xs H=some ⟨v,H',kd⟩/\∃ h,k v kd H' h
theorem yac2 {r:OpR} {k:LV->Kd->Heap->Prop} (h:gotR r k):k r.v r.k r.H:=by
 cases r with
 | mk v H kd=>rw [show gotR ⟨v,H,kd⟩ k=yqv1 H (fun H=>k v kd H) from rfl,ypd1] at h;exact h
section
variable {cx:Cx} {var:Tr LV} {loc:Locs} {mk:List Nat} {f:Fr} {H:Heap} {h:Hint} {k:LV->Kd->Heap->Hint->Prop} {kp:LV->Heap->Hint->Prop}
theorem yra0 (hf:KFr cx var loc mk f) {op:Op} (hd:gen0F op cx var loc H h k kp):Does op (f.evs (opds op)) H k:=by
 have h1:=ytj0 hf hd;obtain ⟨r,hr,hg⟩:=yqa0.1 h1;rw [T.lop_eq] at hr;exact ⟨r.v,r.k,r.H,hr,h,yac2 hg⟩
theorem yeh0 (hf:KFr cx var loc mk f) {op:Op} (hd:genF op cx var loc H h k kp):Does op (f.evs (opds op)) H k:=by
 have h1:=ytj0 hf hd;rcases yjl1 h1 with ⟨h',h2⟩ | ⟨v,h',h2⟩ | ⟨_,_,h2⟩
 .obtain ⟨r,hr,hg⟩:=yqa0.1 h2;rw [T.lop_eq] at hr;exact ⟨r.v,r.k,r.H,hr,h',yac2 hg⟩
 .obtain ⟨h2,h3⟩:=h2;rw [T.lop_eq] at h2;exact ⟨_,_,_,h2,h',h3⟩
 .exact h2.elim
theorem ysl1 (hf:KFr cx var loc mk f) {x:Operand} (hd:moveF x cx var loc H h k kp):Does (.move x) (f.evs (opds (.move x))) H k :=
 ⟨_,_,_,ygg2 x _ H,h,yod0 hf hd⟩
theorem ygb1 (hf:KFr cx var loc mk f) {x:Operand} (hd:moveF x cx var loc H h k kp):Does (.assign x) (f.evs (opds (.assign x))) H k :=
 ⟨_,_,_,ypl1 x _ H,h,yod0 hf hd⟩
theorem ytl1 (hf:KFr cx var loc mk f) {c a b:Operand} (hd:pickF c a b cx var loc H h k kp):Does (.pick c a b) (f.evs (opds (.pick c a b))) H k:=by
 have h1:=yod0 hf (yod0 hf (yod0 hf hd));obtain ⟨v,hv,h1⟩:=ybu0 h1;unfold Does;rw [show f.evs (opds (.pick c a b))=[f.ev c,f.ev a,f.ev b] from rfl,hv];rcases yxi0 h1 with ⟨e,h',h2⟩ | ⟨e,h',h2⟩
 .subst e;exact ⟨_,_,_,yql1 c a b true _ _ H,h',h2⟩
 .subst e;exact ⟨_,_,_,yql1 c a b false _ _ H,h',h2⟩
theorem yjw1 (hf:KFr cx var loc mk f) {t:TypeId} {x:Operand} (hd:notF x cx var loc H h k kp):Does (.unOp .not t x) (f.evs (opds (.unOp .not t x))) H k:=by
 have h1:=yod0 hf hd;obtain ⟨v,hv,h1⟩:=ybu0 h1;unfold Does;rw [show f.evs (opds (.unOp .not t x))=[f.ev x] from rfl,hv];rw [ybp0] at h1;exact ⟨_,_,_,yno2 t x v H,h,h1⟩
theorem yeu0 (hf:KFr cx var loc mk f) {x:Operand} (hd:yid1 x cx var loc H h k kp):Does (.nilCheck x) (f.evs (opds (.nilCheck x))) H k:=by
 have h1:=yod0 hf hd;obtain ⟨r,hr,h1⟩:=yqa0.1 h1
 have hr2:r.H=H/\r.k=.pure:=by
  revert hr;generalize f.ev x=v;intro hr;cases v with
  | ptr i o=>injection hr with hr;subst hr;exact ⟨rfl,rfl⟩
  | func g a b=>cases g <;> first | (injection hr with hr;subst hr;exact ⟨rfl,rfl⟩) | cases hr
  | _=>cases hr
 obtain ⟨v,H2,kd⟩:=r;obtain ⟨e1,e2⟩:=hr2;simp only at e1 e2;subst e1;subst e2;exact ⟨v,.pure,_,(yfb1 x _ _).trans hr,h,h1⟩
theorem ysy0 (hf:KFr cx var loc mk f) {x:Operand} {i:Nat} (hd:yok1 x i cx var loc H h k kp):Does (.extract x i) (f.evs (opds (.extract x i))) H k:=by
 have h1:=yod0 hf hd;obtain ⟨vs,hv,h1⟩:=ycg2 h1;obtain ⟨v,hn,h1⟩:=yzt0 h1;unfold Does;rw [show f.evs (opds (.extract x i))=[f.ev x] from rfl,hv];exact ⟨v,.pure,H,(yvg1 x i vs H).trans (by rw [hn];rfl),h,h1⟩
theorem yjq0 (hf:KFr cx var loc mk f) {s:TypeId} {x:Operand} {i:Nat} (hd:yby0 s x i cx var loc H h k kp):Does (.fieldAddr s x i) (f.evs (opds (.fieldAddr s x i))) H k:=by
 have h1:=yod0 hf hd;obtain ⟨b,o,hv,h1⟩:=ydb1 h1;obtain ⟨off,ho,h1⟩:=yqa0.1 h1;rw [ylo2] at ho;unfold Does;rw [show f.evs (opds (.fieldAddr s x i))=[f.ev x] from rfl,hv];exact ⟨_,.pure,H,(yry0 s x i _ H).trans (by rw [ypy0 ho];rfl),h,h1⟩
theorem ywg1 (hf:KFr cx var loc mk f) {s:TypeId} {x:Operand} {i:Nat} (hd:yqn2 s x i cx var loc H h k kp):Does (.field s x i) (f.evs (opds (.field s x i))) H k:=by
 have h1:=yod0 hf hd;obtain ⟨cs,hv,h1⟩:=ybg2 h1;obtain ⟨p,hp,h1⟩:=yqa0.1 h1;obtain ⟨v,hpv,h1⟩:=yoy0 h1;rw [ydg2] at hp;unfold Does;rw [show f.evs (opds (.field s x i))=[f.ev x] from rfl,hv];exact ⟨v,.pure,H,(ygw1 s x i _ H).trans (by rw [ydw1 hp hpv];rfl),h,h1⟩
theorem yal0 {v:LV} (h:notB (yta0 v)=true):yta0 v=false:=by cases hj:yta0 v with | true=>rw [hj] at h;cases h | false=>rfl
theorem yud1 {t:TypeId} {v:LV} (h:yta0 v=false):boxL t H v=some (.ptr H.n 0,H.push (.cells t .exact (cellsOf v))):=by unfold boxL;rw [h];rfl
theorem ykw1 (hf:KFr cx var loc mk f) {t:TypeId} {x:Operand} (hd:boxF t x cx var loc H h k kp):Does (.box t x) (f.evs (opds (.box t x))) H k:=by
 have h1:=yod0 hf hd;obtain ⟨hj,h1⟩:=yca0.1 h1;rw [ydi0] at h1;exact ⟨_,.change,_,(ymo2 t x _ H).trans (by rw [yud1 (yal0 hj)];rfl),h,h1⟩
theorem yxg1 {t:TypeId} (hd:yrn2 t cx var loc H h k kp):Does (.alloc t) (f.evs (opds (.alloc t))) H k:=by
 obtain ⟨z,hz,h1⟩:=yqa0.1 hd;obtain ⟨hj,h1⟩:=yca0.1 h1;rw [ydi0] at h1;rw [T.zeroOf_eq] at hz;exact ⟨_,.change,_,(yhw1 t H).trans (ynl1 hz (yud1 (yal0 hj))),h,h1⟩
theorem yoo2 {ix:Int} {len:Nat} {k:Nat->Hint->Prop} (hd:inK ix len h k):decide (0<=ix)=true/\decide (ix<len)=true/\∃ h',k ix.toNat h':=by
 rcases yxi0 hd with ⟨_,_,h1⟩ | ⟨e,h',h1⟩
 .exact h1.elim
 .rcases yxi0 h1 with ⟨e2,h2,h1⟩ | ⟨_,_,h1⟩
  .rw [Int.ltI_eq] at e e2;refine ⟨?_,e2,h2,h1⟩;simp at e ⊢;exact e
  .exact h1.elim
theorem ykq0 (hf:KFr cx var loc mk f) {t:TypeId} {x i:Operand} (hd:ycy0 t x i cx var loc H h k kp):Does (.indexAddr t x i) (f.evs (opds (.indexAddr t x i))) H k:=by
 have h1:=yod0 hf (yod0 hf hd);obtain ⟨q,ix,hi,h1⟩:=yei0 h1;obtain ⟨n,hn,h1⟩:=yqa0.1 h1;rw [ytg1] at hn;unfold Does;rw [show f.evs (opds (.indexAddr t x i))=[f.ev x,f.ev i] from rfl,hi];rcases ysg1 h1 with ⟨b,o,hx,h1⟩ | ⟨b,o,l,c,hx,h1⟩
 .obtain ⟨len,hlen,h1⟩:=yqa0.1 h1;obtain ⟨h2,h3,h',h1⟩:=yoo2 h1;rw [yew1] at hlen;rw [hx];exact ⟨_,_,_,(yfn0 t x i _ _ H).trans (by rw [ydu0 hn hlen h2 h3];rfl),h',h1⟩
 .obtain ⟨hsl,h1⟩:=yca0.1 h1;obtain ⟨h2,h3,h',h1⟩:=yoo2 h1;rw [yug1] at hsl;rw [hx];exact ⟨_,_,_,(yfn0 t x i _ _ H).trans (by rw [yqy0 hn hsl h2 h3];rfl),h',h1⟩
theorem ypo2 {op:BinOp} {q:IntKind} {a b:Int} {k:LV->Hint->Prop} (hd:intK op q a b h k):∃ v h',yof0 op q a b=some v/\k v h':=by
 have nz:∀ {v:LV},dec (eqI b 0) h (fun _=>False) (fun h=>k v h)->b≠0/\∃ h',k v h':=fun hd=>by
  rcases yxi0 hd with ⟨_,_,h1⟩ | ⟨e,h',h1⟩
  .exact h1.elim
  .rw [yau0] at e;exact ⟨by simpa using e,h',h1⟩
 cases op with
 | add=>exact ⟨_,h,by simp only [yof0,yqd0],hd⟩
 | sub=>exact ⟨_,h,by simp only [yof0,yqd0],hd⟩
 | mul=>exact ⟨_,h,by simp only [yof0,yqd0],hd⟩
 | quo =>
  obtain ⟨hb,h',hk⟩:=nz (v:=.int q (wrapK q (a.tdiv b))) hd;exact ⟨_,h',by simp only [yof0,yqd0,if_neg hb],hk⟩
 | rem =>
  obtain ⟨hb,h',hk⟩:=nz (v:=.int q (a.tmod b)) hd;exact ⟨_,h',by simp only [yof0,if_neg hb],hk⟩
 | and=>exact ⟨_,h,by simp only [yof0,yny0],hd⟩
 | or=>exact ⟨_,h,by simp only [yof0,yru2],hd⟩
 | xor=>exact ⟨_,h,by simp only [yof0,yko2],hd⟩
 | shl=>exact hd.elim
 | shr=>exact hd.elim
 | andNot=>exact ⟨_,h,by simp only [yof0],hd⟩
 | eql=>exact ⟨_,h,by simp only [yof0,yau0],hd⟩
 | neq=>exact ⟨_,h,by simp only [yof0,yau0,ybp0];rfl,hd⟩
 | lss=>exact ⟨_,h,by simp only [yof0,Int.ltI_eq],hd⟩
 | leq=>exact ⟨_,h,by simp only [yof0,Int.ltI_eq,ybp0];congr 2;rw [Bool.eq_iff_iff];simp,hd⟩
 | gtr=>exact ⟨_,h,by simp only [yof0,Int.ltI_eq,GT.gt],hd⟩
 | geq=>exact ⟨_,h,by simp only [yof0,Int.ltI_eq,ybp0];congr 2;rw [Bool.eq_iff_iff];simp,hd⟩
theorem ylw1 {op:BinOp} {q:IntKind} {a b:Int} {k:LV->Hint->Prop} (hd:yon2 op q a b h k):∃ v h',ytw0 op q a b=some v/\k v h':=by
 rcases yxi0 hd with ⟨_,_,h1⟩ | ⟨e,h',h1⟩
 .exact h1.elim
 .rw [Int.ltI_eq] at e;have hb:¬ b<0:=by simpa using e
  cases op <;> first
   | exact h1.elim
   | (refine ⟨_,h',?_,h1⟩;simp only [ytw0,if_neg hb,yqd0])
theorem yqo2 {op:BinOp} {t:TypeId} {kc:Bool} {x y:LV} {k:LV->Prop} {o:Prop} (hd:strK op x y k o):o\/∃ v,binL Tryz.prog op t kc x y=some v/\k v:=by
 unfold strK at hd;split at hd
 .split at hd
  .rename_i a _ b;split at hd
   .obtain ⟨hb,hd⟩:=yca0.1 hd;refine .inr ⟨_,?_,hd⟩;show yfs0 .add a b=_;unfold yfs0;simp only;rw [hb];rfl
   .exact .inr ⟨_,rfl,hd⟩
   .refine .inr ⟨_,?_,hd⟩;show yfs0 .neq a b=_;unfold yfs0;simp only;cases eqB a b <;> rfl
   .exact .inl hd
  .exact .inl hd
 .exact .inl hd
theorem yro2 {op:BinOp} {t:TypeId} {kc:Bool} {x y:LV} {k:LV->Hint->Prop} (hd:binK op t kc x y h k):∃ v h',binL Tryz.prog op t kc x y=some v/\k v h':=by
 have gen:optK (T.binL op t kc x y) (fun v=>k v h)->∃ v h',binL Tryz.prog op t kc x y=some v/\k v h':=fun hd=>by
  obtain ⟨v,hv,hk⟩:=yqa0.1 hd;rw [T.binL_eq] at hv;exact ⟨v,h,hv,hk⟩
 rcases ycp0 hd with ⟨q,a,rfl,h1⟩ | ⟨_,h1⟩
 .rcases ycp0 h1 with ⟨r,b,rfl,h2⟩ | ⟨_,h2⟩
  .rcases yxt0 h2 with ⟨e,h2⟩ | ⟨e,h2⟩
   .obtain ⟨v,h',hv,hk⟩:=ylw1 h2;exact ⟨v,h',yrl1 e hv,hk⟩
   .obtain ⟨hq,h3⟩:=yca0.1 h2;have hq:=yzf2.1 hq;subst hq;obtain ⟨v,h',hv,hk⟩:=ypo2 h3;exact ⟨v,h',yhg2 e hv,hk⟩
  .exact gen h2
 .rcases yqo2 (t:=t) (kc:=kc) h1 with h1 | ⟨v,hv,hk⟩
  .exact gen h1
  .exact ⟨v,h,hv,hk⟩
theorem ymw1 (hf:KFr cx var loc mk f) {op:BinOp} {t t2:TypeId} {a b:Operand} (hd:binF op t a b cx var loc H h k kp):Does (.binOp op t a b t2) (f.evs (opds (.binOp op t a b t2))) H k:=by
 have h1:=yod0 hf (yod0 hf hd);obtain ⟨v,h',hv,hk⟩:=yro2 h1;exact ⟨v,.pure,H,(yiw1 op t t2 a b _ _ H).trans (by rw [hv];rfl),h',hk⟩
end
end Go.Proofs.YtnpbgnjiihecgaaGreat.Ev.K
namespace Go.Proofs.YtnpbgnjiihecgaaGreat.Ev.K
open Go
variable {cx:Cx} {var:Tr LV} {loc:Locs} {mk:List Nat} {f:Fr} {H:Heap} {h:Hint} {k:LV->Kd->Heap->Hint->Prop} {kp:LV->Heap->Hint->Prop}
theorem yep0 {o:LObj} {k:TypeId->Own->List LV->Prop} {f:List CK->TypeId->Own->List LV->Prop} (h:onRow o k f):(∃ e w cs,o=.cells e w cs/\k e w cs)\/∃ ks e w vs,o=.flat ks e w vs/\f ks e w vs:=by
 cases o <;> first
  | exact .inl ⟨_,_,_,rfl,h⟩
  | exact .inr ⟨_,_,_,_,rfl,h⟩
  | exact h.elim
theorem yfp0 (d:CK):∀ j,ypf0 [d] j=d
 | 0=>rfl
 | j+1=>yfp0 d j
theorem yhb1:∀ (vs:List LV) (ks:List CK) (j:Nat),(flatF ks vs)[j]?=(vs[j]?).map (ypf0 ks j).san
 | [],ks,j=>by simp [flatF]
 | v::vs,ks,0=>by simp [flatF];rfl
 | v::vs,ks,j+1=>by
  simp only [flatF,List.getElem?_cons_succ];rw [yhb1 vs (rotK ks) j];rfl
theorem ydg0 (vs:List LV):∀ (cs:List CK) (o:Nat),(yxe0 vs cs o).length=cs.length
 | [],o=>rfl
 | c::cs,o=>by show (c.san _::yxe0 vs cs (o+1)).length=_;simp [ydg0 vs cs]
theorem ygp0 (vs:List LV):∀ (cs:List CK) (o j:Nat) (c:CK),cs[j]?=some c->(yxe0 vs cs o)[j]?=some (c.san (atV vs (o+j)))
 | [],o,j,c,h=>by simp at h
 | d::cs,o,0,c,h=>by
  simp only [List.getElem?_cons_zero,Option.some.injEq] at h;subst h;show (d.san _::yxe0 vs cs (o+1))[0]?=_;simp
 | d::cs,o,j+1,c,h=>by
  show (d.san _::yxe0 vs cs (o+1))[j+1]?=_;rw [List.getElem?_cons_succ,ygp0 vs cs (o+1) j c (by simpa using h)]
  congr 3;omega
theorem yvd1 {ks:List CK} {vs:List LV} {cs:List CK} {o:Nat} (hle:o+cs.length<=vs.length) (hk:∀ j c,cs[j]?=some c->ypf0 ks (o+j)=c):takeN (dropN (flatF ks vs) o) cs.length=yxe0 vs cs o:=by
 rw [yue0,yve0];apply List.ext_getElem?;intro j;rw [List.getElem?_take];by_cases hj:j<cs.length
 .rw [if_pos hj,List.getElem?_drop,yhb1,ygp0 vs cs o j _ (List.getElem?_eq_getElem hj),hk j _ (List.getElem?_eq_getElem hj)];have:o+j<vs.length:=by omega
  rw [List.getElem?_eq_getElem this];simp [atV,List.getD_eq_getElem?_getD,List.getElem?_eq_getElem this]
 .rw [if_neg hj,List.getElem?_eq_none (by rw [ydg0];omega)]
theorem ywd1 {ks:List CK} {k:Prop} : ∀ {cs:List CK} {o:Nat},yff2 ks k cs o->(∀ j c,cs[j]?=some c->ypf0 ks (o+j)=c)/\k
 | [],o,h=>⟨fun j c hj=>by simp at hj,h⟩
 | c::cs,o,h=>by
  obtain ⟨h1,h2⟩:=(show ypf0 ks o=c/\yff2 ks k cs (o+1) from h);obtain ⟨h3,h4⟩:=ywd1 h2;refine ⟨fun j d hj=>?_,h4⟩;cases j with
  | zero=>simp only [List.getElem?_cons_zero,Option.some.injEq] at hj;subst hj;exact h1
  | succ j=>rw [show o+(j+1)=o+1+j by omega];exact h3 j d (by simpa using hj)
theorem ysr0 {d:CK} : ∀ {cs:List CK},ymk1 d cs=true->∀ c,c∈cs->d=c
 | [],_,c,hc=>by cases hc
 | x::cs,h,c,hc=>by
  obtain ⟨h1,h2⟩:=ywi0 (show bc (eqCK d x) (ymk1 d cs) false=true from h);rcases List.mem_cons.1 hc with rfl | hc
  .exact yyq0.1 h1
  .exact ysr0 h2 c hc
theorem ynw1 {ks:List CK} {o:Nat} {cs:List CK} {k:Prop} (h:ygf2 ks o cs k):(∀ j c,cs[j]?=some c->ypf0 ks (o+j)=c)/\k:=by
 unfold ygf2 at h;split at h
 .rename_i d;obtain ⟨h1,h2⟩:=yca0.1 h;exact ⟨fun j c hj=>by rw [yfp0];exact ysr0 h1 c (List.mem_of_getElem? hj),h2⟩
 .exact ywd1 h
theorem yig2 {P:Program} {t:TypeId} {ks:List CK} {vs:List LV} {cs:List CK} {o:Nat} (ha:aggOf P t=some true) (hn:sizeOfT P t=some cs.length) (hle:o+cs.length<=vs.length) (hk:∀ j c,cs[j]?=some c->ypf0 ks (o+j)=c) :
  partOf P t (flatF ks vs) o=some (.agg (yxe0 vs cs o)):=by
 unfold partOf;simp only [ha,hn];rw [lenL_eq,yrd0,Nat.ble_eq_true_of_le hle,yvd1 hle hk];rfl
theorem yjg2 {P:Program} {t:TypeId} {ks:List CK} {vs:List LV} {c:CK} {o:Nat} (ha:aggOf P t=some false) (ho:o<vs.length) (hk:ypf0 ks o=c) :
  partOf P t (flatF ks vs) o=some (c.san (atV vs o)):=by
 unfold partOf;simp only [ha];rw [yau1,yhb1,hk,List.getElem?_eq_getElem ho];simp [atV,List.getD_eq_getElem?_getD,List.getElem?_eq_getElem ho]
theorem yyg1 {t:TypeId} {ks:List CK} {vs:List LV} {o:Nat} {k:LV->Prop} (h:ynk1 t ks vs o k):∃ v,partOf Tryz.prog t (flatF ks vs) o=some v/\k v:=by
 obtain ⟨ag,ha,h⟩:=yqa0.1 h;obtain ⟨cs,hc,h⟩:=yqa0.1 h;obtain ⟨hle,h⟩:=yca0.1 h;obtain ⟨hk,h⟩:=ynw1 h;have hle:=Nat.le_of_ble_eq_true hle;rw [lenL_eq,lenL_eq] at hle;rw [T.aggOf_eq] at ha;cases ag with
 | true =>
  obtain ⟨n,hn,hx⟩:=yqa0.1 h;obtain ⟨hn2,hy⟩:=yca0.1 hx;rw [T.sizeOfT_eq] at hn;rw [beqN hn2,lenL_eq] at hn;exact ⟨_,yig2 ha hn hle hk,hy⟩
 | false =>
  simp only [bc_false,oneV] at h;split at h
  .rename_i v hv;have hkv:k v:=h;clear h;have hl:cs.length=1:=by rw [<- ydg0 vs cs o,hv];rfl
   obtain ⟨c,rfl⟩ : ∃ c,cs=[c]:=by
    cases cs with
    | nil=>cases hl
    | cons c cs=>cases cs with
     | nil=>exact ⟨c,rfl⟩
     | cons _ _=>simp at hl
   have hv:[c.san (atV vs o)]=[v]:=hv;injection hv with hv;rw [<- hv] at hkv;exact ⟨_,yjg2 ha (by have:=hle;simp at this;omega) (hk 0 c rfl),hkv⟩
  .exact h.elim
theorem yul1 {P:Program} {t:TypeId} {H:Heap} {b o:Nat} {ks:List CK} {e:TypeId} {w:Own} {vs:List LV} (hg:H.get b=.flat ks e w vs):loadL P t H (.ptr b o)=partOf P t (flatF ks vs) o:=by
 unfold loadL;simp only [hg,openO]
theorem yzg1 (hf:KFr cx var loc mk f) {t:TypeId} {a v:Operand} (hd:ypn2 t a v cx var loc H h k kp):Does (.store t a v) (f.evs (opds (.store t a v))) H k:=by
 have h1:=yod0 hf (yod0 hf hd);obtain ⟨hj,h1⟩:=yca0.1 h1;obtain ⟨b,o,hv,h1⟩:=ydb1 h1;rw [yfd0] at h1;rcases yep0 h1 with ⟨e,w,cs,hg,h1⟩ | ⟨ks,e,w,vs,hg,h1⟩
 rotate_left
 .unfold yhd1 at h1;obtain ⟨hw,h1⟩:=ycu0 h1;obtain ⟨n,hn,h1⟩:=yqa0.1 h1;obtain ⟨h2,h1⟩:=yca0.1 h1;rw [T.sizeOfT_eq] at hn;cases ks with
  | nil=>exact h1.elim
  | cons c ks =>
   cases ks with
   | cons _ _=>exact h1.elim
   | nil =>
    obtain ⟨hc,h1⟩:=yca0.1 h1;obtain ⟨hb,h1⟩:=yca0.1 h1;obtain ⟨hle,h1⟩:=yca0.1 h1;rw [yci0] at h1;unfold Does;rw [show f.evs (opds (.store t a v))=[f.ev a,f.ev v] from rfl,hv];refine ⟨yfe0,.change,_,?_,h,h1⟩;refine (ytd1 t a v _ _ H).trans ?_
    have:storeL Tryz.prog t H (.ptr b o) (f.ev v)=some (H.put b (.flat [c] e w (yua0 vs o [f.ev v]))):=by
     unfold storeL;simp only [hg];unfold storeFl;have hb2:Nat.blt b H.n=true:=bltN.2 (bleN.1 hb);cases w with
     | ro=>exact absurd rfl hw
     | exact=>simp only [hn,h2,hc,hle,hb2,cond_true]
     | grow sz=>simp only [hn,h2,hc,hle,hb2,cond_true]
    rw [this]
 obtain ⟨hw,h1⟩:=ycu0 h1;obtain ⟨n,hn,h1⟩:=yqa0.1 h1;obtain ⟨ha,h1⟩:=yca0.1 h1;obtain ⟨hl,h1⟩:=yca0.1 h1;obtain ⟨hb,h1⟩:=yca0.1 h1;rw [T.sizeOfT_eq] at hn;unfold Does;rw [show f.evs (opds (.store t a v))=[f.ev a,f.ev v] from rfl,hv]
 have key:Nat.ble (o+n) (lenL cs)=true->lop Tryz.prog (.store t a v) [.ptr b o,f.ev v] H=some ⟨yfe0,H.put b (.cells e w (yua0 cs o (cellsOf (f.ev v)))),.change⟩:=fun hle =>
  (ytd1 t a v _ _ H).trans (by rw [yfw1 hg hw (yal0 hj) hn ha hl hle (bltN.2 (bleN.1 hb))])
 rcases yjl1 h1 with ⟨h',h2⟩ | ⟨_,_,h2⟩ | ⟨cs',h',h2⟩
 .obtain ⟨hle,h2⟩:=yca0.1 h2;rw [yci0] at h2;exact ⟨_,_,_,key hle,h',h2⟩
 .exact h2.elim
 .obtain ⟨hle,hcs,h2⟩:=h2;rw [yci0,<- hcs] at h2;exact ⟨_,_,_,key hle,h',h2⟩
theorem yvl1 (hf:KFr cx var loc mk f) {t:TypeId} {x:Operand} (hd:loadF t x cx var loc H h k kp):Does (.load t x) (f.evs (opds (.load t x))) H k:=by
 have h1:=yod0 hf hd;obtain ⟨b,o,hv,h1⟩:=ydb1 h1;rw [yfd0] at h1;rcases yep0 h1 with ⟨e,w,cs,hg,h1⟩ | ⟨ks,e,w,vs,hg,h1⟩
 .unfold Does;rw [show f.evs (opds (.load t x))=[f.ev x] from rfl,hv];have key:∀ v,partOf Tryz.prog t cs o=some v->lop Tryz.prog (.load t x) [.ptr b o] H=some ⟨v,H,.load b⟩:=fun v hp=>(yol1 t x _ H).trans (by rw [yfg2 hg,hp];rfl)
  rcases yjl1 h1 with ⟨h',h2⟩ | ⟨v,h',h2⟩ | ⟨_,_,h2⟩
  .obtain ⟨v,hp,h2⟩:=yoy0 h2;exact ⟨v,_,_,key v hp,h',h2⟩
  .obtain ⟨h2,h3⟩:=h2;rw [T.partOf_eq] at h2;exact ⟨v,_,_,key v h2,h',h3⟩
  .exact h2.elim
 .obtain ⟨v,hp,h2⟩:=yyg1 h1;unfold Does;rw [show f.evs (opds (.load t x))=[f.ev x] from rfl,hv];exact ⟨v,_,_,(yol1 t x _ H).trans (by rw [yul1 hg,hp];rfl),h,h2⟩
theorem yah1 (P:Program) (t:TypeId):(ysj0 P).info? t=P.info? t:=rfl
theorem ybc2 (t:TypeId):TV.info? t=Tryz.prog.info? t:=by rw [T.TV_eq,yah1]
theorem yfu0 {P:Program} {s d e:TypeId} {v:LV} {i of n:Nat} {c:Cap} {l:List UInt8} {H:Heap} (hs:P.underlying s=some (.slice e)) (he:P.underlying e=some (.int .u8)) (hd:P.underlying d=some .string) (hv:v=.slice i of n c) (htx:ymn0 H v=some (.str l)) :
  opConvert P s d [v] H=some ⟨.str l,H,.load i⟩:=by
 subst hv;unfold opConvert convL;simp only [hs,hd,he,htx,withH];rfl
theorem yxd1:∀ (l:List LV),bytesOf (flatF [u8K] l)=some (ysn2 l)
 | []=>rfl
 | v::l=>by
  show bytesOf (.int .u8 (intOf v)::flatF [u8K] l)=_;simp only [bytesOf,yxd1 l];rfl
theorem ybh1 {H:Heap} {v:LV} {k:List UInt8->Nat->Prop} {o:Prop} (h:yta1 H v k o):(∃ i of n c l,v=.slice i of n c/\ymn0 H v=some (.str l)/\k l i)\/o:=by
 unfold yta1 at h;split at h
 .rename_i i of n c;rw [yfd0] at h;rcases yep0 h with ⟨_,_,_,_,h⟩ | ⟨ks,e,w,vs,hg,h⟩
  .exact .inr h
  .split at h
   .rename_i d;obtain ⟨h1,hx⟩:=yca0.1 h;obtain ⟨h2,hy⟩:=yca0.1 hx;have e1:=yyq0.1 h1;refine .inl ⟨i,of,n,c,_,rfl,?_,hy⟩;rw [<- e1] at hg;unfold ymn0;simp only [ydc0,hg,openO];rw [lenL_eq,yrd0,<- lenL_eq,h2];simp only [cond_true];rw [<- ybj1,yxd1]
   .exact h.elim
 .exact .inr h
theorem yow1 {s d:TypeId} (h:yrv1 s d=true):∃ e,Tryz.prog.underlying s=some (.slice e)/\Tryz.prog.underlying e=some (.int .u8)/\Tryz.prog.underlying d=some .string:=by
 unfold yrv1 at h;rw [yxa0] at h;split at h
 .rename_i e he;rw [yxa0,yxa0] at h;split at h
  .rename_i hu;split at h
   .rename_i hd;exact ⟨e,he,hu,hd⟩
   .cases h
  .cases h
 .cases h
theorem yyd1 {q:IntKind} {n:Int} {k:LV->Prop} : ∀ {cs:List LV},yif2 q n k cs->k (.int q n)
 | [],h=>h.elim
 | c::cs,h=>by
  obtain ⟨_,j,_,h1⟩:=yei0 (show onInt c fun _ j=>bc (eqI n j) (k (.int q j)) (yif2 q n k cs) from h);rcases bcP h1 with ⟨e,h2⟩ | ⟨_,h2⟩
  .rw [yau0] at e;have e:n=j:=eq_of_beq e;rw [e];exact h2
  .exact yyd1 h2
theorem yty0 (hf:KFr cx var loc mk f) {s d:TypeId} {x:Operand} (hd:yua1 s d x cx var loc H h k kp):Does (.convert s d x) (f.evs (opds (.convert s d x))) H k:=by
 unfold yua1 at hd;cases hc:yjd1 s d with
 | none =>
  rw [hc] at hd;have hd:bc (yrv1 s d) (ykd1 s d x cx var loc H h k kp) (gen0F (.convert s d x) cx var loc H h k kp):=hd;rcases bcP hd with ⟨ht,hd⟩ | ⟨_,hd⟩
  .have h1:=yod0 hf hd;rcases ybh1 h1 with ⟨i,of,n,c,l,hv,htx,h1⟩ | h1
   .obtain ⟨e,hs,he,hdd⟩:=yow1 ht;unfold Does;rw [show f.evs (opds (.convert s d x))=[f.ev x] from rfl,hv];exact ⟨.str l,.load i,H,(yem0 s d x _ H).trans (by rw [<- hv];exact yfu0 hs he hdd hv htx),h,h1⟩
   .exact yra0 hf h1
  .exact yra0 hf hd
 | some q =>
  rw [hc] at hd;have h1:=yod0 hf hd;obtain ⟨r,n,hv,h1⟩:=yei0 h1;rw [yml1] at hc;have ho:=yeb1 (r:=r) (n:=n) (H:=H) hc;rw [<- yqd0] at ho;unfold Does;rw [show f.evs (opds (.convert s d x))=[f.ev x] from rfl,hv];rcases yjl1 h1 with ⟨h',h2⟩ | ⟨_,_,h2⟩ | ⟨cs,h',h2⟩
  .exact ⟨_,.pure,H,(yem0 s d x _ H).trans ho,h',h2⟩
  .exact h2.elim
  .exact ⟨_,.pure,H,(yem0 s d x _ H).trans ho,h',yyd1 h2⟩
theorem ywl1 {kk q:IntKind} {a:Int} {k:Option LV->Hint->Prop} : ∀ {es:List Ent} {h:Hint} (i:Nat),findK q a k es h->∃ r h',findL (.int kk) (.int q a) es i=some r/\k (r.map (·.2)) h'
 | [],h,i,hd=>⟨none,h,rfl,hd⟩
 | e::es,h,i,hd=>by
  obtain ⟨q',b,hk,h1⟩:=yei0 (show onInt e.key fun q' b=>need (eqK q q') (dec (eqI a b) h (fun h=>k (some e.val) h) (findK q a k es)) from hd);obtain ⟨hq,h2⟩:=yca0.1 h1;have hq:=yzf2.1 hq;rw [<- hq] at hk;simp only [findL,hk,yqh0,if_true];rcases yxi0 h2 with ⟨e1,h',h1⟩ | ⟨e1,h',h1⟩
  .rw [yau0] at e1;rw [e1];exact ⟨_,h',rfl,h1⟩
  .rw [yau0] at e1;rw [e1];exact ywl1 (i+1) h1
theorem yxl1 {P:Program} {t kt et:TypeId} {ki q:IntKind} {a:Int} {m z:LV} {es:List Ent} {r:Option (Nat × LV)} {ok:Bool} {H:Heap} (hu:P.underlying t=some (.map kt et)) (hk:P.underlying kt=some (.int ki)) (hz:zeroOf P et=some z)
  (he:yon0 H m=some es) (hr:findL (.int ki) (.int q a) es 0=some r):loadR H m (lookupL P t m (.int q a) ok H)=some ⟨yjf2 ok z (r.map (·.2)),H,kdMap m⟩:=by
 have hfe:ycj0 H m=none:=by
  unfold yon0 at he;split at he
  .rfl
  .rename_i i;split at he
   .rename_i hg;simp only [ycj0,hg]
   .cases he
  .cases he
 have:lookupL P t m (.int q a) ok H=some (yjf2 ok z (r.map (·.2))):=by
  unfold lookupL;rw [hfe];unfold lookupL0;simp only [yta0,cond_false,hu,hk,yhk0,cond_true,he,hr,hz];cases r with
  | none=>cases ok <;> rfl
  | some p=>cases ok <;> rfl
 rw [this];unfold yon0 at he;split at he
 .rfl
 .rfl
 .cases he
theorem yyl1 {P:Program} (t:TypeId) (m kk:Operand) (ok:Bool) (x y:LV) (H:Heap):lop P (.lookup t m kk ok) [x,y] H=loadR H x (lookupL P t x y ok H):=rfl
theorem yso2 {t:TypeId} {z:LV} (h:mapZ t=some z):∃ kt et kk,Tryz.prog.underlying t=some (.map kt et)/\Tryz.prog.underlying kt=some (.int kk)/\zeroOf Tryz.prog et=some z:=by
 unfold mapZ at h;rw [yxa0] at h;split at h
 .rename_i kt et hu;rw [yxa0,T.zeroOf_eq] at h;split at h
  .rename_i kk hk;exact ⟨kt,et,kk,hu,hk,h⟩
  .cases h
 .cases h
theorem yib1 (hf:KFr cx var loc mk f) {t:TypeId} {m kk:Operand} {ok:Bool} (hd:ywb2 t m kk ok cx var loc H h k kp):Does (.lookup t m kk ok) (f.evs (opds (.lookup t m kk ok))) H k:=by
 have h1:=yod0 hf (yod0 hf hd);rcases ycp0 h1 with ⟨q,a,hv,h1⟩ | ⟨_,h1⟩
 .obtain ⟨z,hz,h1⟩:=yqa0.1 h1;obtain ⟨es,he,h1⟩:=yqa0.1 h1;obtain ⟨kt,et,ki,hu,hk,hz⟩:=yso2 hz;obtain ⟨r,h',hr,h1⟩:=ywl1 (kk:=ki) 0 h1;unfold Does;rw [show f.evs (opds (.lookup t m kk ok))=[f.ev m,f.ev kk] from rfl,hv];exact ⟨_,_,_,(yyl1 t m kk ok _ _ H).trans (yxl1 hu hk hz he hr),h',h1⟩
 .exact yeh0 hf h1
theorem ybl0 {x:Option LV} {d:Nat} {k:Nat->Prop} (h:yva1 x d k):∃ n,bound x d=some n/\k n:=by
 unfold yva1 at h;split at h
 .exact ⟨d,rfl,h⟩
 .obtain ⟨q,i,rfl,h⟩:=yei0 h;obtain ⟨h1,h⟩:=yca0.1 h;rw [ybp0,Int.ltI_eq] at h1;refine ⟨i.toNat,?_,h⟩;have:(0:Int)<=i:=by simpa using h1
  simp [bound,this]
theorem yzd1 {t:TypeId} {n:Nat} (h:ysv1 t=some n):∃ e,Tryz.prog.underlying t=some (.slice e)/\sizeOfT Tryz.prog e=some n:=by
 unfold ysv1 at h;rw [yxa0,T.sizeOfT_eq] at h;split at h
 .rename_i e he;exact ⟨e,he,h⟩
 .cases h
theorem yae1 {t:TypeId} (h:ytv1 t=true):Tryz.prog.underlying t=some .string:=by
 unfold ytv1 at h;rw [yxa0] at h;split at h
 .rename_i hu;exact hu
 .cases h
theorem yzl1 (size o c l:Nat):offZ size o c l=bc (Nat.beq c l) o (o+l*size):=by
 unfold offZ;cases hl:Nat.beq l 0 with
 | false=>rfl
 | true =>
  rw [beqN hl];simp only [bc_true,Nat.zero_mul,Nat.add_zero];cases Nat.beq c 0 <;> rfl
theorem ybe1 {H:Heap} {size i of len kk:Nat} {k:Prop} (h:yuv1 (H.get i) size of len kk k):yfk0 H size i of len kk=true/\k:=by
 unfold yuv1 at h;unfold yfk0;split at h
 .rename_i e sz cs hg;obtain ⟨h1,h⟩:=yca0.1 h;obtain ⟨h2,h⟩:=yca0.1 h;obtain ⟨h3,h⟩:=yca0.1 h;obtain ⟨h4,h⟩:=yca0.1 h;simp only [hg,h1,h2,h3,h4,Bool.and_self];exact ⟨trivial,h⟩
 .exact h.elim
theorem ypw1 {size i o len:Nat} {cap:Cap} {lo hi mx:Option LV} (hd:ytn2 size i o len cap lo hi mx H h k):∃ v H' h',yoh0 size i o len cap lo hi mx H=some (v,H')/\k v (yxm0 v (.slice i o len cap)) H' h':=by
 obtain ⟨hh,hb,hd⟩:=ybl0 hd;obtain ⟨l,lb,hd⟩:=ybl0 hd;obtain ⟨c1,hd⟩:=yca0.1 hd;obtain ⟨c2,hd⟩:=yca0.1 hd;unfold yoh0;simp only [hb,lb,c1,c2,cond_true];split at hd
 .split at hd
  .obtain ⟨c3,hd⟩:=yca0.1 hd;rw [yzl1] at hd;refine ⟨_,H,h,?_,hd⟩;simp only [ymc0,c3,cond_true,withH]
  .rw [yfd0] at hd;obtain ⟨hg,hd⟩:=ybe1 hd;simp only [ygk0,hg,cond_true];rcases yxi0 hd with ⟨e,h',hd⟩ | ⟨e,h',hd⟩
   .rw [e];exact ⟨_,_,h',rfl,hd⟩
   .rw [e];rcases yxi0 hd with ⟨e,h',hd⟩ | ⟨e,h',hd⟩
    .rw [e];rw [ydi0] at hd;exact ⟨_,_,h',rfl,hd⟩
    .rw [e];exact ⟨_,_,h',rfl,hd⟩
 .obtain ⟨mm,mb,hd⟩:=ybl0 hd;obtain ⟨c3,hd⟩:=yca0.1 hd;obtain ⟨c4,hd⟩:=yca0.1 hd;simp only [mb,c3,c4,cond_true];split at hd
  .obtain ⟨c5,hd⟩:=yca0.1 hd;rw [yzl1] at hd;refine ⟨_,H,h,?_,hd⟩;simp only [c5,ymc0,c3,cond_true,withH]
  .rw [yfd0] at hd;obtain ⟨hg,hd⟩:=ybe1 hd;rw [yzl1] at hd;refine ⟨_,H,h,?_,hd⟩;simp only [hg,ymc0,c3,cond_true,withH]
theorem yjb1 {s:List UInt8} {lo hi:Option LV} {k:LV->Prop} (hd:yld1 s lo hi k):∃ v,yph0 s lo hi=some v/\k v:=by
 obtain ⟨hh,hb,hd⟩:=ybl0 hd;obtain ⟨l,lb,hd⟩:=ybl0 hd;obtain ⟨c1,hd⟩:=yca0.1 hd;obtain ⟨c2,hd⟩:=yca0.1 hd;unfold yph0;simp only [hb,lb,c1,c2,cond_true];exact ⟨_,rfl,hd⟩
theorem yam1 {P:Program} {t e:TypeId} {lo hi mx:Option Operand} {rest:List LV} {p:Option LV × Option LV × Option LV} {i o len size:Nat} {cap:Cap} {v:LV} {H H' : Heap} (hp:three lo hi mx rest=some p) (hu:P.underlying t=some (.slice e)) (hsz:sizeOfT P e=some size)
  (hv:yoh0 size i o len cap p.1 p.2.1 p.2.2 H=some (v,H')):opSlice P t lo hi mx (.slice i o len cap::rest) H=some ⟨v,H',yxm0 v (.slice i o len cap)⟩:=by
 unfold opSlice;simp only [hp,sliceL,hu,hsz,hv]
theorem ych1 {P:Program} {t:TypeId} {lo hi mx:Option Operand} {rest:List LV} {a b:Option LV} {s:List UInt8} {v:LV} {H:Heap} (hp:three lo hi mx rest=some (a,b,none)) (hu:P.underlying t=some .string)
  (hv:yph0 s a b=some v):opSlice P t lo hi mx (.str s::rest) H=some ⟨v,H,.pure⟩:=by
 unfold opSlice;simp only [hp,sliceL,hu,hv,withH,yxm0]
theorem yce1 {P:Program} (t:TypeId) (x:Operand) (lo hi mx:Option Operand) (xs:List LV) (H:Heap):lop P (.slice t x lo hi mx) xs H=opSlice P t lo hi mx xs H:=rfl
theorem ydh1 (hf:KFr cx var loc mk f) {t:TypeId} {x:Operand} {lo hi mx:Option Operand} (hd:yun2 t x lo hi mx cx var loc H h k kp):Does (.slice t x lo hi mx) (f.evs (opds (.slice t x lo hi mx))) H k:=by
 have h1:=ytj0 hf hd;split at h1
 .rename_i v rest hxs;split at h1
  .rename_i i o len cap;obtain ⟨p,hp,h1⟩:=yqa0.1 h1;obtain ⟨size,hsz,h1⟩:=yqa0.1 h1;obtain ⟨e,hu,hsz⟩:=yzd1 hsz;obtain ⟨v,H',h',hv,h2⟩:=ypw1 h1;unfold Does;rw [hxs];exact ⟨v,_,H',(yce1 t x lo hi mx _ H).trans (yam1 hp hu hsz hv),h',h2⟩
  .rename_i s;rcases bcP h1 with ⟨hst,h1⟩ | ⟨_,h1⟩
   .obtain ⟨p,hp,h1⟩:=yqa0.1 h1;obtain ⟨hno,h1⟩:=yca0.1 h1;obtain ⟨a,b,c⟩:=p
    have hc:c=none:=by cases c with
     | none=>rfl
     | some _=>cases hno
    subst hc;obtain ⟨v,hv,h2⟩:=yjb1 h1;unfold Does;rw [hxs];exact ⟨v,.pure,H,(yce1 t x lo hi mx _ H).trans (ych1 hp (yae1 hst) hv),h,h2⟩
   .exact h1.elim
  .exact yeh0 hf h1
 .exact h1.elim
theorem ybm1:∀ (s:List UInt8) (i:Nat),nthB s i=s[i]?
 | [],i=>by simp [nthB]
 | b::s,0=>rfl
 | b::s,i+1=>by
  show nthB s i=_;rw [ybm1 s i];simp
theorem ycm1 {P:Program} {t:TypeId} {s:List UInt8} {q:IntKind} {ix:Int} (hu:P.underlying t=some .string) (c1:0<=ix) (c2:ix<s.length):indexL P t (.str s) (.int q ix)=some (.int .u8 (ykf2 s ix.toNat)):=by
 unfold indexL;simp only [hu,c1,decide_true,cond_true,ybm1];have hlt:ix.toNat<s.length:=by omega
 rw [List.getElem?_eq_getElem hlt];simp [ykf2,List.getD_eq_getElem?_getD,List.getElem?_eq_getElem hlt]
theorem yqw1 {P:Program} (t:TypeId) (x i:Operand) (a b:LV) (H:Heap):lop P (.index t x i) [a,b] H=pureR H (indexL P t a b):=rfl
theorem yeh1 (hf:KFr cx var loc mk f) {t:TypeId} {x i:Operand} (hd:yvn2 t x i cx var loc H h k kp):Does (.index t x i) (f.evs (opds (.index t x i))) H k:=by
 have h1:=yod0 hf (yod0 hf hd);split at h1
 .rename_i s hx;rcases bcP h1 with ⟨hst,h1⟩ | ⟨_,h1⟩
  .obtain ⟨q,ix,hi,h1⟩:=yei0 h1;obtain ⟨c1,h1⟩:=yca0.1 h1;obtain ⟨c2,h1⟩:=yca0.1 h1;rw [ybp0,Int.ltI_eq] at c1;rw [Int.ltI_eq,lenL_eq] at c2;have c1:(0:Int)<=ix:=by simpa using c1
   have c2:ix<s.length:=by simpa using c2
   unfold Does;rw [show f.evs (opds (.index t x i))=[f.ev x,f.ev i] from rfl,hx,hi];exact ⟨_,.pure,H,(yqw1 t x i _ _ H).trans (by rw [ycm1 (yae1 hst) c1 c2];rfl),h,h1⟩
  .exact h1.elim
 .exact yeh0 hf h1
theorem ydm1 (t:TypeId):ypk1 t=notInt Tryz.prog t:=by unfold ypk1 notInt;rw [yxa0];generalize Tryz.prog.underlying t=u;rfl
theorem yrw1 {t e:TypeId} (h:ylf2 t=some e):Tryz.prog.underlying t=some (.slice e):=by
 unfold ylf2 at h;rw [yxa0] at h;revert h;generalize Tryz.prog.underlying t=u;intro h;split at h
 .rw [<- Option.some.inj h]
 .cases h
theorem ysu2 (e:TypeId):ckE e=ckT Tryz.prog e:=by unfold ckE ckT;rw [T.zeroOf_eq];generalize zeroOf Tryz.prog e=u;rfl
theorem ycc2 {c:CK} {n:Nat} {x:LV} {k:List LV->Prop} (h:rawK c H n x k):∃ raw,rawOf c H n x=some raw/\k raw:=by
 unfold rawK at h;unfold rawOf;split at h
 .obtain ⟨c1,h⟩:=yca0.1 h;simp only [c1,cond_true];exact ⟨_,rfl,h⟩
 .obtain ⟨c1,h⟩:=yca0.1 h;simp only [c1,cond_true];exact ⟨_,rfl,h⟩
 .rw [yfd0] at h;rcases yep0 h with ⟨e,w,cs,hg,h⟩ | ⟨ks,e,w,vs,hg,h⟩
  .obtain ⟨c1,h⟩:=yca0.1 h;obtain ⟨c2,h⟩:=yca0.1 h;simp only [hg,c1,c2,cond_true];exact ⟨_,rfl,h⟩
  .split at h
   .obtain ⟨c1,h⟩:=yca0.1 h;obtain ⟨c2,h⟩:=yca0.1 h;simp only [hg,c1,c2,cond_true];exact ⟨_,rfl,h⟩
   .exact h.elim
 .obtain ⟨c1,h⟩:=yca0.1 h;obtain ⟨c2,h⟩:=yca0.1 h;simp only [c1,c2,cond_true];exact ⟨_,rfl,h⟩
 .exact h.elim
theorem ygu0 {elem:TypeId} {c:CK} {n:Nat} {vs:List LV} {k:LV->Heap->Prop} (h:yvv1 elem c H n vs k):∃ v H',grownFl Tryz.prog elem c H n vs=some (v,H')/\k v H':=by
 obtain ⟨i,hi,h⟩:=yqa0.1 h;obtain ⟨c1,h⟩:=yca0.1 h;obtain ⟨c2,h⟩:=yca0.1 h;obtain ⟨c3,h⟩:=yca0.1 h;rw [ydi0] at h;rw [ybc2] at hi;unfold grownFl;simp only [hi,c1,c2,c3,cond_true];exact ⟨_,_,rfl,h⟩
theorem yto2 {elem:TypeId} {c:CK} {s:LV} {n:Nat} {raw:List LV} {k:LV->Heap->Hint->Prop} (hd:appK elem c s n raw H h k):∃ v H' h',appendFl Tryz.prog elem c s n raw H=some (v,H')/\k v H' h':=by
 unfold appK at hd;unfold appendFl;split at hd
 .rcases yxi0 hd with ⟨e,h',hd⟩ | ⟨e,h',hd⟩
  .simp only [e,cond_true];exact ⟨_,_,h',rfl,hd⟩
  .obtain ⟨v,H',hv,hd⟩:=ygu0 hd;simp only [e,cond_false];exact ⟨v,H',h',hv,hd⟩
 .rename_i j o l cp;obtain ⟨d,hr,hd⟩:=ycc2 hd;obtain ⟨hj,hd⟩:=yca0.1 hd;have hj:Nat.blt j H.n=true:=bltN.2 (bleN.1 hj);simp only [hr,hj,cond_true];split at hd
  .rename_i cap;rcases yxi0 hd with ⟨e,h',hd⟩ | ⟨e,h',hd⟩
   .obtain ⟨c1,hd⟩:=yca0.1 hd;simp only [e,c1,cond_true];exact ⟨_,_,h',rfl,hd⟩
   .obtain ⟨v,H',hv,hd⟩:=ygu0 hd;simp only [e,cond_false];exact ⟨v,H',h',hv,hd⟩
  .obtain ⟨c1,hd⟩:=yca0.1 hd;obtain ⟨c2,hd⟩:=yca0.1 hd;obtain ⟨c3,hd⟩:=yca0.1 hd;simp only [c1,c2,c3,cond_true];rcases yxi0 hd with ⟨e,h',hd⟩ | ⟨e,h',hd⟩
   .simp only [e,cond_true];exact ⟨_,_,h',rfl,hd⟩
   .rw [yci0] at hd;obtain ⟨v,H',hv,hd⟩:=ygu0 hd;simp only [e,cond_false];exact ⟨v,H',h',hv,hd⟩
 .exact hd.elim
theorem yfh1 {P:Program} {t xt elem:TypeId} {n:Nat} {c:CK} {raw:List LV} {s x v:LV} {H H' : Heap} (c1:notInt P xt=true) (he:P.underlying t=some (.slice elem)) (hsz:sizeOfT P elem=some 1) (hn:lenV x=some n) (hc:ckT P elem=some c)
  (hr:rawOf c H n x=some raw) (hv:appendFl P elem c s n raw H=some (v,H')):appendF1 P t xt s x H=some (v,H'):=by
 unfold appendF1;simp only [c1,he,hsz,hn,show Nat.beq 1 1=true from rfl,hc,hr,cond_true,hv]
theorem yem1 {P:Program} {c:Call} {t xt:TypeId} {s x v:LV} {H H' : Heap} (hc:c.callee=.builtin .append) (ht:c.argTypes[0]?=some t) (hxt:c.argTypes[1]?=some xt) (hfl:(yhe0 H s||yhe0 H x)=true) (hv:appendF1 P t xt s x H=some (v,H')) :
  lop P (.call c) [s,x] H=some ⟨v,H',.change⟩:=by
 have:lop P (.call c)=opBuiltin P c .append:=by simp only [lop,hc]
 rw [this];simp only [opBuiltin,ht,hxt,opAppend,appendL];rw [hfl,cond_true,hv];rfl
theorem yfm1 {t xt:TypeId} {s x:LV} {k:LV->Heap->Hint->Prop} (hd:yxb2 t xt s x H h k):∃ v H' h',appendF1 Tryz.prog t xt s x H=some (v,H')/\k v H' h':=by
 obtain ⟨c1,hd⟩:=yca0.1 hd;obtain ⟨elem,he,hd⟩:=yqa0.1 hd;obtain ⟨size,hsz,hd⟩:=yqa0.1 hd;obtain ⟨n,hn,hd⟩:=yqa0.1 hd;obtain ⟨c2,hd⟩:=yca0.1 hd;obtain ⟨c,hc,hd⟩:=yqa0.1 hd;obtain ⟨raw,hr,hd⟩:=ycc2 hd;obtain ⟨v,H',h',hv,hd⟩:=yto2 hd;rw [ydm1] at c1;rw [T.sizeOfT_eq] at hsz;rw [ysu2] at hc;have:=beqN c2;rw [this] at hsz;exact ⟨v,H',h',yfh1 c1 (yrw1 he) hsz hn hc hr hv,hd⟩
theorem yuy0 (hf:KFr cx var loc mk f) {c:Call} (hc:c.callee=.builtin .append) (hd:yqk1 c cx var loc H h k kp):Does (.call c) (f.evs (opds (.call c))) H k:=by
 have h1:=ytj0 hf hd;split at h1
 .rename_i s x hxs;rcases bcP h1 with ⟨hfl,h1⟩ | ⟨_,h1⟩
  .obtain ⟨p,hp,h1⟩:=yqa0.1 h1;obtain ⟨v,H',h',hv,h2⟩:=yfm1 h1;unfold twoT at hp;split at hp
   .rename_i t ht;split at hp
    .rename_i xt hxt;injection hp with hp;subst hp;unfold Does;rw [hxs];refine ⟨v,.change,H',yem1 hc ht hxt ?_ hv,h',h2⟩;cases h1:yhe0 H s with
     | true=>rfl
     | false=>rw [h1] at hfl;exact hfl
    .cases hp
   .cases hp
  .exact yra0 hf h1
 .exact yra0 hf h1
theorem ysw1 {t e:TypeId} {b:Bool} (h:ymf2 t=some (e,b)):Tryz.prog.underlying t=some (.slice e)/\zeroOf Tryz.prog e=some (.bool b):=by
 unfold ymf2 at h;rw [yxa0] at h;split at h
 .rename_i e2 he;rw [T.zeroOf_eq] at h;split at h
  .rename_i b2 hz;injection h with h;injection h with h1 h2;subst h1;subst h2;exact ⟨he,hz⟩
  .cases h
 .cases h
theorem ygm1 (hf:KFr cx var loc mk f) {t:TypeId} {l c:Operand} (hd:makeF t l c cx var loc H h k kp):Does (.makeSlice t l c) (f.evs (opds (.makeSlice t l c))) H k:=by
 have h1:=yod0 hf (yod0 hf hd);split at h1
 .rename_i p hp;obtain ⟨e,b⟩:=p;obtain ⟨hu,hz⟩:=ysw1 hp;obtain ⟨q,n,hl,h1⟩:=yei0 h1;obtain ⟨q2,m,hc,h1⟩:=yei0 h1;obtain ⟨i,hi,h1⟩:=yqa0.1 h1;obtain ⟨c1,h1⟩:=yca0.1 h1;obtain ⟨c2,h1⟩:=yca0.1 h1;obtain ⟨c3,h1⟩:=yca0.1 h1;obtain ⟨c4,h1⟩:=yca0.1 h1;obtain ⟨c5,h1⟩:=yca0.1 h1;rw [ydi0] at h1;rw [ybc2] at hi;rw [ybp0,Int.ltI_eq] at c1 c2 c3 c4;have c1:decide (0<=n)=true:=by simpa using c1
  have c2:decide (n<=m)=true:=by simpa using c2
  have c3:decide (m*i.bytes<=1073741824)=true:=by simpa using c3
  have c4:decide (m<=1073741824)=true:=by simpa using c4
  have c5:=beqN c5;unfold Does;rw [show f.evs (opds (.makeSlice t l c))=[f.ev l,f.ev c] from rfl,hl,hc];refine ⟨_,.change,_,?_,h,h1⟩
  have key:makeSliceL Tryz.prog t H (.int q n) (.int q2 m)=some (.slice H.n 0 n.toNat (.known m.toNat),H.push (.flat [.bo] e .exact (yqb0 [.bool b] m.toNat))):=by
   unfold makeSliceL;simp only [hu,hi,hz,c1,c2,c3,c4,c5,cond_true,ybo0];rfl
  show (yrc0 (makeSliceL Tryz.prog t H (.int q n) (.int q2 m)))=_;rw [key];rfl
 .exact yra0 hf h1
theorem yfm0 (c:CK):∀ n,(repC c n).length=n
 | 0=>rfl
 | n+1=>by show (repC c n).length+1=_;rw [yfm0 c n]
theorem yhm1 (c:CK):∀ {n j:Nat} {d:CK},(repC c n)[j]?=some d->c=d
 | 0,j,d,h=>by
  have h:([] : List CK)[j]?=some d:=h;simp at h
 | n+1,0,d,h=>by
  have h:(c::repC c n)[0]?=some d:=h;simpa using h
 | n+1,j+1,d,h=>by
  have h:(c::repC c n)[j+1]?=some d:=h;rw [List.getElem?_cons_succ] at h;exact yhm1 c h
theorem ykg2 {t:TypeId} {d x:LV} {k:LV->Heap->Prop} (hd:copyV t d x H k):∃ v H',copyL Tryz.prog t d x H=some (v,H')/\k v H':=by
 unfold copyV at hd;replace ⟨size,hsz,hd⟩:=yqa0.1 hd;replace ⟨c1,hd⟩:=yca0.1 hd;obtain ⟨e0,hu,hsz⟩:=yzd1 hsz;rw [beqN c1] at hsz;split at hd
 .rename_i j o m cp;split at hd
  .rename_i i of n cp2;replace ⟨c2,hd⟩:=yca0.1 hd;rw [yfd0] at hd;split at hd
   .rename_i b e2 w2 vs hg;replace ⟨c3,hd⟩:=yca0.1 hd;rw [yfd0] at hd;rcases yep0 hd with ⟨e,w,cs,hg2,hd⟩ | ⟨_,_,_,_,_,hd⟩
    .obtain ⟨hw,hd⟩:=ycu0 hd;obtain ⟨c4,hd⟩:=yca0.1 hd;obtain ⟨c5,hd⟩:=yca0.1 hd;obtain ⟨c6,hd⟩:=yca0.1 hd;rw [yci0] at hd;refine ⟨_,_,?_,hd⟩;have hm:Nat.min n m=n:=Nat.min_eq_left (Nat.le_of_ble_eq_true c2)
     have hcell:ydc0 H (n*1) (.slice i of n cp2)=some (yxe0 vs (repC b n) of):=by
      unfold ydc0;simp only [hg,openO];have hle:of+n<=vs.length:=by have:=Nat.le_of_ble_eq_true c3;rwa [lenL_eq] at this
      have:=yvd1 (ks:=[b]) (vs:=vs) (cs:=repC b n) (o:=of) (by rw [yfm0];exact hle) (fun j c hj=>by rw [yfp0];exact yhm1 b hj);rw [yfm0] at this;rw [Nat.mul_one,lenL_eq,yrd0,<- lenL_eq,c3,cond_true,this]
     have hb2:Nat.blt j H.n=true:=bltN.2 (bleN.1 c5);unfold copyL;simp only [hu,hsz,lenV,isStr,Bool.false_and,cond_false,hm,hcell,hg2];rw [Nat.mul_one];cases w with
     | ro=>exact absurd rfl hw
     | exact=>simp only [c4,hb2,c6,cond_true]
     | grow sz=>simp only [c4,hb2,c6,cond_true]
    .exact hd.elim
   .exact hd.elim
  .exact hd.elim
 .exact hd.elim
theorem ylg2 {P:Program} {c:Call} {t:TypeId} {d x v:LV} {H H' : Heap} (hc:c.callee=.builtin .copy) (ht:c.argTypes[0]?=some t) (hv:copyL P t d x H=some (v,H')):lop P (.call c) [d,x] H=some ⟨v,H',.change⟩:=by
 have:lop P (.call c)=opBuiltin P c .copy:=by simp only [lop,hc]
 rw [this];simp only [opBuiltin,ht,opCopy];rw [hv];rfl
theorem ygh1 (hf:KFr cx var loc mk f) {c:Call} (hc:c.callee=.builtin .copy) (hd:ywn2 c cx var loc H h k kp):Does (.call c) (f.evs (opds (.call c))) H k:=by
 have h1:=ytj0 hf hd;split at h1
 .rename_i d x hxs;rcases bcP h1 with ⟨_,h1⟩ | ⟨_,h1⟩
  .obtain ⟨t,ht,h1⟩:=yqa0.1 h1;obtain ⟨v,H',hv,h2⟩:=ykg2 h1;unfold Does;rw [hxs];exact ⟨v,.change,H',ylg2 hc ht hv,h,h2⟩
  .exact yra0 hf h1
 .exact yra0 hf h1
theorem yvy0 (hf:KFr cx var loc mk f) {c:Call} {b:Builtin} (hc:c.callee=.builtin b) (hd:ywa1 c b cx var loc H h k kp):Does (.call c) (f.evs (opds (.call c))) H k:=by
 unfold ywa1 at hd;split at hd
 .exact yuy0 hf hc hd
 .exact ygh1 hf hc hd
 .exact yra0 hf hd
end Go.Proofs.YtnpbgnjiihecgaaGreat.Ev.K
