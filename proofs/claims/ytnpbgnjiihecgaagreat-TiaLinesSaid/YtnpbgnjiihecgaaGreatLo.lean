/- Contracts, out of runs. Contracts of functions and of code, out of runs; loops. Words for contracts and their proofs. A row that grows, under a new number: what a loop's contract says where no round was run. A contract of a call that only looks at a row: the row may be one that grows. -/
import Derived.Test.YtnpbgnjiihecgaaGreatLn
namespace Go.Proofs.YtnpbgnjiihecgaaGreat.Ev.K
open Go
structure Eqs.Ok (E:Eqs):Prop where
 i:∀ {a b k},E.i a b k->a=b/\k
 b:∀ {a b k},E.b a b k->a=b/\k
 s:∀ {a b k},E.s a b k->a=b/\k
 n:∀ {a b k},E.n a b k->a=b/\k
 c:∀ {a b k},E.c a b k->a=b/\k
theorem yda0:openE.Ok:=⟨id,id,id,id,id⟩
theorem yhc2:∀ {a b:List UInt8},eqB a b=true->a=b
 | [],[],_=>rfl
 | [],_::_,h=>by cases h
 | _::_,[],h=>by cases h
 | x::a,y::b,h=>by
  simp only [eqB] at h;cases hb:Nat.beq x.toNat y.toNat with
  | true=>rw [hb] at h;rw [yhc2 h,UInt8.toNat_inj.1 (beqN hb)]
  | false=>rw [hb] at h;cases h
theorem yyw1 {a b:Cap} (h:capEq a b=true):a=b:=by
 cases a <;> cases b <;> first
  | (rw [beqN h])
  | cases h
theorem shutB {a b:Bool} (h:bc a b (notB b)=true):a=b:=by cases a <;> cases b <;> first | rfl | cases h
theorem ygi0:shutE.Ok where
 i:=fun {a b k} h=>by
  have h:need (eqI a b) k:=h;obtain ⟨h1,h2⟩:=yca0.1 h;rw [yau0] at h1;exact ⟨by simpa using h1,h2⟩
 b:=fun {a b k} h=>by
  have h:need (bc a b (notB b)) k:=h;obtain ⟨h1,h2⟩:=yca0.1 h;exact ⟨shutB h1,h2⟩
 s:=fun {a b k} h=>by
  have h:need (eqB a b) k:=h;obtain ⟨h1,h2⟩:=yca0.1 h;exact ⟨yhc2 h1,h2⟩
 n:=fun {a b k} h=>by
  have h:need (Nat.beq a b) k:=h;obtain ⟨h1,h2⟩:=yca0.1 h;exact ⟨beqN h1,h2⟩
 c:=fun {a b k} h=>by
  have h:need (capEq a b) k:=h;obtain ⟨h1,h2⟩:=yca0.1 h;exact ⟨yyw1 h1,h2⟩
variable {E:Eqs}
theorem yyo2 {Z β:Type} {γ:Type} (f:Z->β->γ) {a a' : Z} {b b' : β} (h1:a=a') (h2:b=b'):f a b=f a' b':=by rw [h1,h2]
theorem yug2 (l:List LV) (y:LV) (k:Prop):eqsV E (.agg l) y k=(match y with | .agg l'=>eqsL E l l' k | _=>False):=by
 cases y <;> first | rfl | exact congrArg (fun F:List LV->Prop->Prop=>F _ k) (ynd0 _ _ _ _ _ _ _ _ _ _ _ _ _ _ _ _ _ _ _ l)
theorem yvg2 (l:List LV) (y:LV) (k:Prop):eqsV E (.tup l) y k=(match y with | .tup l'=>eqsL E l l' k | _=>False):=by
 cases y <;> first | rfl | exact congrArg (fun F:List LV->Prop->Prop=>F _ k) (ynd0 _ _ _ _ _ _ _ _ _ _ _ _ _ _ _ _ _ _ _ l)
theorem yzw1 (f g:FuncId) (a b c d:List LV) (k:Prop):eqsV E (.func (.func f) a b) (.func (.func g) c d) k=need (Nat.beq f g) (eqsL E a c (eqsL E b d k)) :=
 congrArg (need (Nat.beq f g)) (yyo2 (fun (F G:List LV->Prop->Prop)=>F c (G d k)) (ynd0 _ _ _ _ _ _ _ _ _ _ _ _ _ _ _ _ _ _ _ a) (ynd0 _ _ _ _ _ _ _ _ _ _ _ _ _ _ _ _ _ _ _ b))
mutual
theorem yhi0 (hE:E.Ok):∀ {x y:LV} {k:Prop},eqsV E x y k->x=y/\k:=by
 intro x y k h;cases x with
 | junk=>exact h.elim
 | bool a=>cases y <;> first | exact h.elim | (have h:=hE.b h;exact ⟨by rw [h.1],h.2⟩)
 | int q a =>
  cases y <;> first
   | exact h.elim
   | (obtain ⟨h1,h2⟩:=yca0.1 h;obtain ⟨h2,h3⟩:=hE.i h2;exact ⟨by rw [yzf2.1 h1,h2],h3⟩)
 | str a=>cases y <;> first | exact h.elim | (have h:=hE.s h;exact ⟨by rw [h.1],h.2⟩)
 | nilp=>cases y <;> first | exact h.elim | exact ⟨rfl,h⟩
 | ptr i o =>
  cases y <;> first
   | exact h.elim
   | (obtain ⟨h1,h2⟩:=yca0.1 h;obtain ⟨h2,h3⟩:=hE.n h2;exact ⟨by rw [beqN h1,h2],h3⟩)
 | nils=>cases y <;> first | exact h.elim | exact ⟨rfl,h⟩
 | slice i o n c =>
  cases y <;> first
   | exact h.elim
   | (obtain ⟨h1,h2⟩:=yca0.1 h;obtain ⟨h2,h3⟩:=hE.n h2;obtain ⟨h3,h4⟩:=hE.n h3;obtain ⟨h4,h5⟩:=hE.c h4;exact ⟨by rw [beqN h1,h2,h3,h4],h5⟩)
 | emp i =>
  cases y <;> first
   | exact h.elim
   | (obtain ⟨h1,h2⟩:=yca0.1 h;exact ⟨by rw [beqN h1],h2⟩)
 | nilm=>cases y <;> first | exact h.elim | exact ⟨rfl,h⟩
 | map i =>
  cases y <;> first
   | exact h.elim
   | (obtain ⟨h1,h2⟩:=yca0.1 h;exact ⟨by rw [beqN h1],h2⟩)
 | func f a b =>
  cases y with
  | func g c d =>
   cases f with
   | func f =>
    cases g with
    | func g =>
     rw [yzw1] at h;obtain ⟨h1,h2⟩:=yca0.1 h;obtain ⟨h3,h4⟩:=yhm0 hE h2;obtain ⟨h5,h6⟩:=yhm0 hE h4;exact ⟨by rw [beqN h1,h3,h5],h6⟩
    | _=>exact h.elim
   | _=>exact h.elim
  | _=>exact h.elim
 | nilf=>cases y <;> first | exact h.elim | exact ⟨rfl,h⟩
 | iface t v =>
  cases y with
  | iface u w =>
   obtain ⟨h1,h2⟩:=yca0.1 (show need (Nat.beq t u) (eqsV E v w k) from h);obtain ⟨h3,h4⟩:=yhi0 hE h2;exact ⟨by rw [beqN h1,h3],h4⟩
  | _=>exact h.elim
 | nili=>cases y <;> first | exact h.elim | exact ⟨rfl,h⟩
 | agg l =>
  rw [yug2] at h;cases y with
  | agg l'=>obtain ⟨h1,h2⟩:=yhm0 hE h;exact ⟨by rw [h1],h2⟩
  | _=>exact h.elim
 | tup l =>
  rw [yvg2] at h;cases y with
  | tup l'=>obtain ⟨h1,h2⟩:=yhm0 hE h;exact ⟨by rw [h1],h2⟩
  | _=>exact h.elim
theorem yhm0 (hE:E.Ok):∀ {x y:List LV} {k:Prop},eqsL E x y k->x=y/\k:=by
 intro x y k h;cases x with
 | nil=>cases y with
  | nil=>exact ⟨rfl,h⟩
  | cons _ _=>exact h.elim
 | cons v vs=>cases y with
  | nil=>exact h.elim
  | cons w ws =>
   obtain ⟨h1,h2⟩:=yhi0 hE (show eqsV E v w (eqsL E vs ws k) from h);obtain ⟨h3,h4⟩:=yhm0 hE h2;exact ⟨by rw [h1,h3],h4⟩
end
theorem ypm1 (hE:E.Ok):∀ {x y:List Ent} {k:Prop},eqsE E x y k->x=y/\k
 | [],[],k,h=>⟨rfl,h⟩
 | [],_::_,k,h=>h.elim
 | _::_,[],k,h=>h.elim
 | ⟨a,b,c⟩::x,⟨a',b',c'⟩::y,k,h=>by
  obtain ⟨h1,h⟩:=yhi0 hE (show eqsV E a a' (eqsV E b b' (need (Nat.beq c c') (eqsE E x y k))) from h);obtain ⟨h2,h⟩:=yhi0 hE h;obtain ⟨h3,h⟩:=yca0.1 h;obtain ⟨h4,h⟩:=ypm1 hE h;exact ⟨by rw [h1,h2,beqN h3,h4],h⟩
theorem yiu0 {a b:Own} (h:ownEq a b=true):a=b:=by
 cases a <;> cases b <;> simp only [ownEq] at h <;> first
  | rfl
  | (rw [beqN h])
  | cases h
def Wk (x y:LObj):Prop:=x=.dead\/x=y\/∃ ks e w vs,x=.flat ks e w vs/\y=.cells e w (flatF ks vs)
theorem yur0 {U:Nat->Nat} : ∀ {ks:List CK} {vs cs:List LV},yid0 U (flatF ks vs) cs->cs=flatF ks vs
 | ks,[],cs,h=>by
  cases cs with
  | nil=>rfl
  | cons _ _=>exact h.elim
 | ks,v::vs,cs,h=>by
  cases cs with
  | nil=>exact h.elim
  | cons c cs =>
   have h:sameV U ((headK ks).san v) c/\yid0 U (flatF (rotK ks) vs) cs:=h;rw [yur0 h.2];have h1:=h.1;show c::_=(headK ks).san v::_
   congr 1
   revert h1
   cases headK ks <;> simp only [CK.san] <;> cases c <;> simp only [sameV] <;> first
    | (intro h;exact h.elim)
    | (rintro ⟨rfl,rfl⟩;rfl)
    | (intro h;rw [h])
theorem Wk.same {U:Nat->Nat} {x y b:LObj} (hw:Wk x y) (h:yva0 U y b):yva0 U x b:=by
 rcases hw with rfl | rfl | ⟨ks,e,w,vs,rfl,rfl⟩
 .trivial
 .exact h
 .cases b <;> simp only [yva0] at h ⊢;obtain ⟨h1,h2,h3⟩:=h;exact ⟨h1,h2,(yur0 h3).symm⟩
theorem yie1:∀ {a b:List CK},eqCKs a b=true->a=b
 | [],[],_=>rfl
 | a::l,b::m,h=>by
  obtain ⟨h1,h2⟩:=ywi0 (show bc (eqCK a b) (eqCKs l m) false=true from h);rw [yyq0.1 h1,yie1 h2]
theorem ykb1 (hE:E.Ok):∀ {x y:Tr LV} {k:Prop},eqsT E x y k->x=y/\k
 | .nil,.nil,k,h=>⟨rfl,h⟩
 | .nil,.node _ _ _,k,h=>h.elim
 | .node _ _ _,.nil,k,h=>h.elim
 | .node v a b,.node v' a' b',k,h=>by
  have h:bc (yta0 v) (need (yta0 v') (eqsT E a a' (eqsT E b b' k))) (eqsV E v v' (eqsT E a a' (eqsT E b b' k))):=h
  have key:v=v'/\eqsT E a a' (eqsT E b b' k):=by
   cases hv:yta0 v with
   | true =>
    rw [hv] at h;obtain ⟨h1,h⟩:=yca0.1 h;exact ⟨by cases v <;> first | (cases v' <;> first | rfl | (cases h1;done)) | (cases hv;done),h⟩
   | false=>rw [hv] at h;exact yhi0 hE h
  obtain ⟨h1,h⟩:=key;obtain ⟨h2,h⟩:=ykb1 hE h;obtain ⟨h3,h⟩:=ykb1 hE h;exact ⟨by rw [h1,h2,h3],h⟩
theorem yqm1 (hE:E.Ok) {x y:LObj} {k:Prop} (h:eqsO E x y k):Wk x y/\k:=by
 unfold eqsO at h;split at h
 .exact ⟨.inl rfl,h⟩
 .obtain ⟨h1,h⟩:=yca0.1 h;obtain ⟨h2,h⟩:=yca0.1 h;obtain ⟨h3,h⟩:=yhm0 hE h;exact ⟨.inr (.inl (by rw [beqN h1,yiu0 h2,h3])),h⟩
 .obtain ⟨h1,h⟩:=yca0.1 h;obtain ⟨h2,h⟩:=ypm1 hE h;exact ⟨.inr (.inl (by rw [beqN h1,h2])),h⟩
 .exact ⟨.inr (.inl rfl),h⟩
 .obtain ⟨h1,h⟩:=yca0.1 h;obtain ⟨h2,h⟩:=yca0.1 h;obtain ⟨h3,h⟩:=yca0.1 h;exact ⟨.inr (.inl (by rw [beqN h1,yiu0 h2,yie1 h3,h.1])),h.2⟩
 .obtain ⟨h1,h⟩:=yca0.1 h;obtain ⟨h2,h⟩:=yca0.1 h;exact ⟨.inr (.inr ⟨_,_,_,_,rfl,by rw [beqN h1,yiu0 h2,h.1]⟩),h.2⟩
 .obtain ⟨h1,h⟩:=yca0.1 h;obtain ⟨h2,h⟩:=yca0.1 h;obtain ⟨h3,h⟩:=yca0.1 h;obtain ⟨h4,h5,h6,h7,h8,h⟩:=h;obtain ⟨h9,h⟩:=ykb1 hE h;exact ⟨.inr (.inl (by rw [beqN h1,beqN h2,beqN h3,h4,h5,h6,h7,h8,h9])),h⟩
 .rename_i a b;obtain ⟨h1,h⟩:=yca0.1 h;exact ⟨.inr (.inl (by cases a <;> cases b <;> first | rfl | cases h1)),h⟩
 .exact ⟨.inr (.inl (by rw [h.1])),h.2⟩
 .obtain ⟨h1,h⟩:=yca0.1 h;exact ⟨.inr (.inl (by rw [beqN h1,h.1])),h.2⟩
 .obtain ⟨h1,h⟩:=yca0.1 h;exact ⟨.inr (.inl (by rw [beqN h1,h.1])),h.2⟩
 .exact h.elim
theorem yju0 (hE:E.Ok):∀ {x y:List LObj} {k:Prop},eqsOs E x y k->(x.length=y.length/\∀ i (h:i<x.length) (h' : i<y.length),Wk x[i] y[i])/\k
 | [],[],k,h=>⟨⟨rfl,fun i h=>by simp at h⟩,h⟩
 | [],_::_,k,h=>h.elim
 | _::_,[],k,h=>h.elim
 | a::x,b::y,k,h=>by
  obtain ⟨h1,h⟩:=yqm1 hE (show eqsO E a b (eqsOs E x y k) from h);obtain ⟨⟨h2,h3⟩,h⟩:=yju0 hE h;refine ⟨⟨by simp [h2],fun i hi hi'=>?_⟩,h⟩;cases i with
  | zero=>exact h1
  | succ i=>exact h3 i (by simpa using hi) (by simpa using hi')
theorem yrm1 (hE:E.Ok) {x y:LEnd} {k:Prop} (h:yco2 E x y k):x=y/\k:=by
 cases x <;> cases y <;> first
  | (obtain ⟨h1,h2⟩:=yhi0 hE h;exact ⟨by rw [h1],h2⟩)
  | exact h.elim
theorem ywg2 (hE:E.Ok) {x y:LX} {k:Prop} (h:eqsX E x y k):x=y/\k:=by
 cases x <;> cases y <;> first
  | exact ⟨rfl,h⟩
  | (obtain ⟨h1,h2⟩:=yca0.1 h;exact ⟨by rw [beqN h1],h2⟩)
  | (obtain ⟨h1,h2⟩:=yhi0 hE h;exact ⟨by rw [h1],h2⟩)
  | exact h.elim
theorem yhp0 (H:Heap):∀ (d:Nat) (l:List Nat) (acc:List (Nat × Bool)),∃ t,dfs H d l acc=acc++t
 | 0,[],acc=>⟨[],by simp;rfl⟩
 | d+1,[],acc=>⟨[],by simp;rfl⟩
 | 0,b::l,acc=>by
  show ∃ t,bc (seen b acc) (dfs H 0 l acc) (dfs H 0 l (app acc [(b,false)]))=_;cases seen b acc with
  | true=>exact yhp0 H 0 l acc
  | false =>
   obtain ⟨t,ht⟩:=yhp0 H 0 l (app acc [(b,false)]);rw [app_eq] at ht;exact ⟨(b,false)::t,by rw [app_eq];simpa using ht⟩
 | d+1,b::l,acc=>by
  show ∃ t,bc (seen b acc) (dfs H (d+1) l acc) (dfs H (d+1) l (dfs H d (ptrsO (H.get b)) (app acc [(b,true)])))=_;cases seen b acc with
  | true=>exact yhp0 H (d+1) l acc
  | false =>
   obtain ⟨t,ht⟩:=yhp0 H d (ptrsO (H.get b)) (app acc [(b,true)]);obtain ⟨u,hu⟩:=yhp0 H (d+1) l (dfs H d (ptrsO (H.get b)) (app acc [(b,true)]));refine ⟨(b,true)::(t++u),?_⟩;show dfs H (d+1) l (dfs H d (ptrsO (H.get b)) (app acc [(b,true)]))=_;rw [hu,ht,app_eq];simp
theorem ywn0:∀ l,yyb0 l=l.map (·.1)
 | []=>rfl
 | p::l=>by rw [show yyb0 (p::l)=p.1::yyb0 l from rfl,ywn0 l];rfl
theorem yic2:∀ m,upto m=(List.range m).map fun i=>(i,true)
 | 0=>rfl
 | m+1=>by rw [show upto (m+1)=app (upto m) [(m,true)] from rfl,app_eq,yic2 m,List.range_succ];simp
theorem yxg2 {m:Nat} {t:List (Nat × Bool)} {i:Nat} (h:i<m):at_ (yyb0 (upto m++t)) i=i:=by
 rw [ywn0,yic2,at_,List.getD_eq_getElem?_getD,List.map_append,List.getElem?_append_left (by simpa using h)];simp [h]
theorem yyy0 {H:Heap} {ch:List (Nat × LObj)} : ∀ {m:Nat},yya1 H ch m=true->∀ i,i<m->inCh i ch=true\/(H.slot i).stamp=0
 | 0,_,i,hi=>by omega
 | m+1,h,i,hi=>by
  obtain ⟨h1,h2⟩:=ywi0 (show bc (bc (inCh m ch) true (Nat.beq (H.slot m).stamp 0)) (yya1 H ch m) false=true from h);by_cases e:i=m
  .subst e;cases hc:inCh i ch with
   | true=>exact .inl rfl
   | false=>rw [hc] at h1;exact .inr (beqN h1)
  .exact yyy0 h2 i (by omega)
theorem ysm1 {i:Nat} : ∀ {ch:List (Nat × LObj)},inCh i ch=true->∃ p,p∈ch/\p.1=i
 | [],h=>by cases h
 | p::ch,h=>by
  have h:bc (Nat.beq p.1 i) true (inCh i ch)=true:=h;cases hb:Nat.beq p.1 i with
  | true=>exact ⟨p,by simp,beqN hb⟩
  | false =>
   rw [hb] at h;obtain ⟨q,h1,h2⟩:=ysm1 h;exact ⟨q,by simp [h1],h2⟩
theorem ytm1 {i:Nat} : ∀ (ch:List (Nat × LObj)) (os:List LObj),i<os.length->(∃ p,p∈ch/\p.1=i/\(chg os ch)[i]?=some p.2)\/((∀ p,p∈ch->p.1≠i)/\(chg os ch)[i]?=os[i]?)
 | [],os,_=>.inr ⟨(fun p hp=>by cases hp),rfl⟩
 | p::ch,os,hi=>by
  have hc:chg os (p::ch)=chg (os.set p.1 p.2) ch:=rfl;rcases ytm1 ch (os.set p.1 p.2) (by simpa using hi) with ⟨q,h1,h2,h3⟩ | ⟨h1,h2⟩
  .exact .inl ⟨q,by simp [h1],h2,by rw [hc];exact h3⟩
  .by_cases e:p.1=i
   .subst e;refine .inl ⟨p,by simp,rfl,?_⟩;rw [hc,h2,List.getElem?_set];simp [hi]
   .refine .inr ⟨fun q hq=>?_,?_⟩
    .rcases List.mem_cons.1 hq with rfl | hq
     .exact e
     .exact h1 q hq
    .rw [hc,h2,List.getElem?_set_ne e]
theorem yku0 (hE:E.Ok) {l:List Nat} {H:Heap} : ∀ {ch:List (Nat × LObj)} {k:Prop},chEqs E l H ch k->(∀ p,p∈ch->∃ o,renO l (H.get p.1)=some o/\(Wk p.2 o))/\k
 | [],k,h=>⟨(fun p hp=>by cases hp),h⟩
 | p::ch,k,h=>by
  obtain ⟨o,ho,h⟩:=yqa0.1 (show optK (renO l (H.get p.1)) (fun o=>eqsO E p.2 o (chEqs E l H ch k)) from h);obtain ⟨h1,h⟩:=yqm1 hE h;obtain ⟨h2,h⟩:=yku0 hE h;refine ⟨fun q hq=>?_,h⟩;rcases List.mem_cons.1 hq with rfl | hq
  .exact ⟨o,ho,h1⟩
  .exact h2 q hq
theorem ObjsAt.get {U:List Nat} {H:Heap} : ∀ {os:List LObj} {is:List Nat},ObjsAt U H os is->∀ j (h:j<os.length),yva0 (at_ U) os[j] (H.get (at_ is j))
 | [],[],_,j,h=>by simp at h
 | o::os,i::is,h,j,hj=>by
  cases j with
  | zero=>exact h.1
  | succ j=>exact ObjsAt.get h.2.2 j (by simpa using hj)
 | [],_::_,h,_,_=>h.elim
 | _::_,[],h,_,_=>h.elim
theorem ylb1 (o:LObj):yva0 id o o:=by
 cases o <;> simp only [yva0,true_and,and_self] <;> first
  | trivial
  | exact yke0 _
  | exact ysf0 _
  | (exact ⟨rfl,fun i=>yif0 _⟩)
theorem yzy0 {l:List Nat} {n:Nat} (hl:∀ i,i<n->at_ l i=i) {o:LObj} (h:ltObj n o):yva0 (at_ l) o o:=by
 have hU:∀ i,i<n->id i=at_ l i:=fun i hi=>(hl i hi).symm
 have hs:=ylb1 o;cases o with
 | dead=>trivial
 | cells e w cs=>exact ⟨rfl,rfl,yoe0 hU h (yke0 cs)⟩
 | map es c=>exact ⟨rfl,ydh0 hU h (ysf0 es)⟩
 | empty=>trivial
 | strIter s p=>exact ⟨rfl,rfl⟩
 | fmap es=>rfl
 | glob g cs=>exact ⟨rfl,rfl⟩
 | miter m c=>exact ⟨hl m h,rfl⟩
 | flat ks e w vs=>exact ⟨rfl,rfl,rfl⟩
 | loop st pe fn n t ps asg bo d=>exact ⟨rfl,rfl,rfl,rfl,rfl,rfl,rfl,hl d h.2,fun i=>yef0 hU (h.1 i) (yif0 _)⟩
 | defers b=>rfl
theorem keeps {os:List LObj} {H' : Heap} {ch:List (Nat × LObj)} {new new' : List LObj} {ps:List (Nat × Bool)} {t:List (Nat × Bool)} (hps:ps=upto os.length++t) (hle:(Heap.of os).Le H') (hwf:∀ i,i<(Heap.of os).n->ltObj (Heap.of os).n ((Heap.of os).get i))
  (h1:distinct (yyb0 ps)=true) (h2:ypd0 H'.n (yyb0 ps)=true) (h3:yya1 H' ch os.length=true) (h4:(yyb0 ps).length=os.length+new.length) (h5:wfKC os.length (os.length+new.length) ch=true) (h6:wfKOs (os.length+new.length) new=true)
  (hch:∀ p,p∈ch->∃ o,renO (yyb0 ps) (H'.get p.1)=some o/\(Wk p.2 o)) (hn:renOs H' (yyb0 ps) (ps.drop os.length)=some new') (hnn:new.length=new'.length/\∀ i (h:i<new.length) (h' : i<new'.length),Wk new[i] new'[i]) :
  Within (at_ (yyb0 ps)) (Heap.of (chg os ch++new)) H':=by
 have hat:∀ i,i<os.length->at_ (yyb0 ps) i=i:=fun i hi=>by rw [hps];exact yxg2 hi
 have hlen:(chg os ch++new).length=os.length+new.length:=by simp [yeb0]
 refine ⟨fun i j hi hj e=>?_,fun i hi=>?_,fun i hi=>?_,fun i hi=>?_⟩
 .rw [of_n,hlen] at hi hj;exact ykg0 h1 i j (by omega) (by omega) e
 .rw [of_n,hlen] at hi;exact ylj0 h2 i (by omega)
 .rw [of_n] at hi ⊢;rw [yje0 _ i hi];rw [hlen] at hi ⊢;by_cases him:i<os.length
  .rw [List.getElem_append_left (by rw [yeb0];exact him)];rcases ytm1 ch os him with ⟨p,hp,he,hg⟩ | ⟨_,hg⟩
   .rw [List.getElem?_eq_getElem (by rw [yeb0];exact him)] at hg;injection hg with hg;rw [hg];exact yrk0 (yut0 h5 p hp).2
   .rw [List.getElem?_eq_getElem (by rw [yeb0];exact him),List.getElem?_eq_getElem him] at hg;injection hg with hg;rw [hg];have:=hwf i (by rw [of_n];exact him);rw [of_n,yje0 _ i him] at this;exact ync0 (by omega) this
  .rw [List.getElem_append_right (by rw [yeb0];omega)];exact yrk0 (ytt0 h6 _ _)
 .rw [of_n,hlen] at hi;rw [yje0 _ i (by rw [hlen];exact hi)];by_cases him:i<os.length
  .rw [List.getElem_append_left (by rw [yeb0];exact him),hat i him];rcases ytm1 ch os him with ⟨p,hp,he,hg⟩ | ⟨hno,hg⟩
   .rw [List.getElem?_eq_getElem (by rw [yeb0];exact him)] at hg;injection hg with hg;rw [hg];obtain ⟨o,ho,hd⟩:=hch p hp;rw [he] at ho;exact hd.same (yst0 ho).1
   .rw [List.getElem?_eq_getElem (by rw [yeb0];exact him),List.getElem?_eq_getElem him] at hg;injection hg with hg;rw [hg];rcases yyy0 h3 i him with h | h
    .obtain ⟨p,hp,he⟩:=ysm1 h;exact absurd he (hno p hp)
    .have hst:(H'.slot i).stamp=((Heap.of os).slot i).stamp:=by
      have:=hle.up i (by rw [of_n];exact him);omega
     have hget:=hle.same i (by rw [of_n];exact him) hst;rw [hget,yje0 _ i him];have hw:=hwf i (by rw [of_n];exact him);rw [of_n,yje0 _ i him] at hw;exact yzy0 hat hw
  .rw [List.getElem_append_right (by rw [yeb0];omega)];simp only [yeb0];have ha:=yza1 hn;have hj:i-os.length<new.length:=by omega
   have hd:=hnn.2 (i-os.length) hj (by rw [<- hnn.1];exact hj)
   .refine hd.same ?_;have:=ha.get (i-os.length) (by rw [<- hnn.1];exact hj)
    have e:at_ (yyb0 (ps.drop os.length)) (i-os.length)=at_ (yyb0 ps) i:=by
     rw [ywn0,ywn0,at_,at_,List.getD_eq_getElem?_getD,List.getD_eq_getElem?_getD,List.map_drop,List.getElem?_drop]
     congr 2;omega
    rw [e] at this;exact this
end Go.Proofs.YtnpbgnjiihecgaaGreat.Ev.K
namespace Go.Proofs.YtnpbgnjiihecgaaGreat.Ev.K
open Go
variable {E:Eqs} {A:Env}
theorem yum1 (hE:E.Ok) {m:Nat} {r:CRes} {e:LEnd} {H:Heap} {h:Hint} (hd:endC E m r e H h):∃ ps t new',ps=upto m++t/\distinct (yyb0 ps)=true/\ypd0 H.n (yyb0 ps)=true/\yya1 H r.ch m=true/\(yyb0 ps).length=m+r.new.length /\
  ysk1 (m+r.new.length) r.e=true/\wfKC m (m+r.new.length) r.ch=true/\wfKOs (m+r.new.length) r.new=true/\yrf2 (yyb0 ps) e=some r.e/\renOs H (yyb0 ps) (ps.drop m)=some new' /\
  (∀ p,p∈r.ch->∃ o,renO (yyb0 ps) (H.get p.1)=some o/\(Wk p.2 o))/\(r.new.length=new'.length/\∀ i (h:i<r.new.length) (h' : i<new'.length),Wk r.new[i] new'[i]):=by
 obtain ⟨t,ht⟩:=yhp0 H 50 (app (ywv1 e) (yfy0 H r.ch)) (upto m);have hd:endC1 E m r e H (dfs H 50 (app (ywv1 e) (yfy0 H r.ch)) (upto m)) (yyb0 (dfs H 50 (app (ywv1 e) (yfy0 H r.ch)) (upto m))):=hd;unfold endC1 at hd;obtain ⟨h1,hd⟩:=yca0.1 hd;obtain ⟨h2,hd⟩:=yca0.1 hd;obtain ⟨h3,hd⟩:=yca0.1 hd;obtain ⟨h4,hd⟩:=yca0.1 hd;obtain ⟨h5,hd⟩:=yca0.1 hd;obtain ⟨h6,hd⟩:=yca0.1 hd;obtain ⟨h7,hd⟩:=yca0.1 hd;obtain ⟨e',he,hd⟩:=yqa0.1 hd;obtain ⟨new',hn,hd⟩:=yqa0.1 hd;obtain ⟨h8,hd⟩:=yrm1 hE hd;obtain ⟨h9,hd⟩:=yku0 hE hd;obtain ⟨h10,_⟩:=yju0 hE hd;simp only [lenL_eq] at h4 h5 h6 h7;exact ⟨_,t,new',ht,h1,h2,h3,beqN h4,h5,h6,h7,by rw [h8];exact he,hn,h9,h10⟩
theorem yih1 {l:List Nat} {e e' : LEnd} (h:yrf2 l e=some e'):yjk0 (at_ l) e' e:=by
 cases e with
 | ret v =>
  obtain ⟨a,ha,rfl⟩:=yne0 (show ob1 LEnd.ret (renV l v)=some e' from h);exact (ybf0 ha).1
 | pan v =>
  obtain ⟨a,ha,rfl⟩:=yne0 (show ob1 LEnd.pan (renV l v)=some e' from h);exact (ybf0 ha).1
theorem yax1 {n:Nat} {e:LEnd} (h:ysk1 n e=true):ltEnd n e:=by
 cases e <;> exact yfx0 (wfK_B h)
theorem yba0 (hg:Good Tryz.prog) (hA:A.ok) (hE:E.Ok) {k:Nat} {g:FuncId} {xs:List LV} {os:List LObj} {r:CRes} {h:Hint} (hrun:bodyF A (runF A k) g xs (Heap.of os) h (endC E os.length r)) :
  HT Tryz.prog g xs (Heap.of os) r.e (Heap.of (chg os r.ch++r.new)):=by
 obtain ⟨⟨e,H'⟩,hr,h',hend⟩:=yom1 (ytg2 A k) hrun;have hsc:=ycm0 hg hA k;unfold evFn at hr;simp only at hr;split at hr
 .cases hr
 .rename_i fu hf;obtain ⟨_,hle,h3⟩:=ynr0 hg (fun c=>ywt0 hg A hsc c) hf hr trivial;simp only at hend;obtain ⟨ps,t,new',hps,h1,h2,hst,hlen,h5,h6,h7,he,hn,hch,hnn⟩:=yum1 hE hend;intro J w hs hl cs;obtain ⟨J',w',fr,hm,hlt,hsteps,hfn,hlv⟩:=h3 J w cs hs hl;have hW:=keeps hps hle hs.wf h1 h2 hst hlen h6 h7 hch hn hnn;have hlen2:(chg os r.ch++r.new).length=os.length+r.new.length:=by simp [yeb0]
  have hkeep:=hm.keep hW (by rw [of_n,of_n,hlen2];omega) (fun i hi=>by rw [of_n] at hi;rw [hps];exact yxg2 hi);refine ⟨yml0 J' e,w',fr,⟨J'∘at_ (yyb0 ps),yri0 J' (yih1 he),hkeep,?_⟩,?_,hfn,hlv⟩
  .rw [of_n,hlen2];exact yax1 h5
  .cases e <;> exact hsteps
theorem ybx1 (hg:Good Tryz.prog) (hA:A.ok) (hE:E.Ok) {k:Nat} {g:FuncId} {xs:List LV} {os:List LObj} {r:CRes} {h:Hint} (hrun:bodyF A (runF A k) g xs (Heap.of os) h (endC E os.length r)=True) :
  HT Tryz.prog g xs (Heap.of os) r.e (Heap.of (chg os r.ch++r.new)):=yba0 hg hA hE (of_eq_true hrun)
theorem yvm1 (hE:E.Ok) {nv m:Nat} {r:BRes} {x:LX} {var:Tr LV} {loc:Locs} {mk:List Nat} {H:Heap} {h:Hint} (hd:endB E nv m r x var loc mk H h):∃ ps t new',ps=upto m++t/\mk=[]/\(∀ p,p∈r.L->p.1<nv)/\distinct (yyb0 ps)=true/\ypd0 H.n (yyb0 ps)=true/\yya1 H r.ch m=true /\
  (yyb0 ps).length=m+r.new.length/\wfKX (m+r.new.length) r.x=true/\wfKP (m+r.new.length) r.L=true/\wfKC m (m+r.new.length) r.ch=true/\wfKOs (m+r.new.length) r.new=true/\renX (yyb0 ps) x=some r.x/\renOs H (yyb0 ps) (ps.drop m)=some new' /\
  (∀ p,p∈r.L->renV (yyb0 ps) (var.get .junk p.1)=some p.2)/\(∀ p,p∈r.ch->∃ o,renO (yyb0 ps) (H.get p.1)=some o/\(Wk p.2 o))/\(r.new.length=new'.length/\∀ i (h:i<r.new.length) (h' : i<new'.length),Wk r.new[i] new'[i]):=by
 obtain ⟨t,ht⟩:=yhp0 H 50 (app (xPtr x) (app (yqt0 var r.L) (yfy0 H r.ch))) (upto m);have hd:endB1 E nv m r x var mk H (dfs H 50 (app (xPtr x) (app (yqt0 var r.L) (yfy0 H r.ch))) (upto m)) (yyb0 (dfs H 50 (app (xPtr x) (app (yqt0 var r.L) (yfy0 H r.ch))) (upto m))):=hd;unfold endB1 at hd;obtain ⟨h0,hd⟩:=yca0.1 hd;obtain ⟨h00,hd⟩:=yca0.1 hd;obtain ⟨h1,hd⟩:=yca0.1 hd;obtain ⟨h2,hd⟩:=yca0.1 hd;obtain ⟨h3,hd⟩:=yca0.1 hd;obtain ⟨h4,hd⟩:=yca0.1 hd;obtain ⟨h5,hd⟩:=yca0.1 hd;obtain ⟨h5b,hd⟩:=yca0.1 hd;obtain ⟨h6,hd⟩:=yca0.1 hd;obtain ⟨h7,hd⟩:=yca0.1 hd;obtain ⟨x',hx,hd⟩:=yqa0.1 hd;obtain ⟨new',hn,hd⟩:=yqa0.1 hd;obtain ⟨h8,hd⟩:=ywg2 hE hd
 have pairs:∀ {l:List Nat} {L:List (Nat × LV)} {k:Prop},ywk1 E l var L k->(∀ p,p∈L->renV l (var.get .junk p.1)=some p.2)/\k:=by
  intro l L
  induction L with
  | nil=>intro k h;exact ⟨(fun p hp=>by cases hp),h⟩
  | cons q L ih =>
   intro k h;obtain ⟨v,hv,h⟩:=yqa0.1 (show optK (renV l (var.get .junk q.1)) (fun v=>eqsV E q.2 v (ywk1 E l var L k)) from h);obtain ⟨h1,h⟩:=yhi0 hE h;obtain ⟨h2,h⟩:=ih h;refine ⟨fun p hp=>?_,h⟩;rcases List.mem_cons.1 hp with rfl | hp
   .rw [hv,h1]
   .exact h2 p hp
 obtain ⟨hp,hd⟩:=pairs hd;obtain ⟨h9,hd⟩:=yku0 hE hd;obtain ⟨h10,_⟩:=yju0 hE hd;simp only [lenL_eq] at h4 h5 h5b h6 h7;have hmk:mk=[]:=by cases mk with | nil=>rfl | cons _ _=>cases h0
 exact ⟨_,t,new',ht,hmk,fun p hp=>bltN.1 (List.all_eq_true.1 h00 p hp),h1,h2,h3,beqN h4,h5,h5b,h6,h7,by rw [h8];exact hx,hn,hp,h9,h10⟩
noncomputable def cxOf (A:Env) (k:Nat) (g n:Nat):Cx:=⟨g,n,A.nv g,none,runF A k,A.bp g,A.kp g⟩
theorem keepB {pre:List Item->List Item} (hE:E.Ok) {g n nv:Nat} {L:List (Nat × LV)} {os:List LObj} {r:BRes} {x:LX} {f' : Fr} {H' : Heap} {cx:Cx} {var' : Tr LV} {loc' : Locs} {mk' : List Nat} {h' : Hint} (hcx:cx.fn=g/\cx.n=n/\cx.nv=nv/\cx.round=none)
  (hle:(Heap.of os).Le H') (hct:GT Tryz.prog pre (Fr.ofL g n L [] none) (Heap.of os) x f' H') (hf' : KFr cx var' loc' mk' f') (hend:endB E nv os.length r x var' loc' mk' H' h') :
  GT Tryz.prog pre (Fr.ofL g n L [] none) (Heap.of os) r.x (Fr.ofL g n r.L [] none) (Heap.of (chg os r.ch++r.new)):=by
 obtain ⟨c1,c2,c3,c4⟩:=hcx;obtain ⟨ps,t,new',hps,hmk,hnv,h1,h2,hst,hlen,h5,h5b,h6,h7,hx,hn,hp,hch,hnn⟩:=yvm1 hE hend;have hlen2:(chg os r.ch++r.new).length=os.length+r.new.length:=by simp [yeb0]
 intro J w b tmps ds kk cs hs hfr;obtain ⟨J',w',tmps',ds',hm,hr2,hlx,hE2⟩:=hct J w b tmps ds kk cs hs hfr;have hW:=keeps hps hle hs.wf h1 h2 hst hlen h6 h7 hch hn hnn;have hkeep:=hm.keep hW (by rw [of_n,of_n,hlen2];omega) (fun i hi=>by rw [of_n] at hi;rw [hps];exact yxg2 hi)
 have hsx:sameX (at_ (yyb0 ps)) r.x x:=by
  cases x with
  | normal=>injection hx with hx;rw [<- hx];trivial
  | exit i=>injection hx with hx;rw [<- hx];rfl
  | ret=>injection hx with hx;rw [<- hx];trivial
  | pan v =>
   obtain ⟨a,ha,hx⟩:=yne0 (show ob1 LX.pan (renV (yyb0 ps) v)=some r.x from hx);rw [<- hx];exact (ybf0 ha).1
 refine ⟨J'∘at_ (yyb0 ps),w',tmps',ds',hkeep,?_,?_,hE2.same hsx⟩
 .refine hr2.same (yns0 (hf'.n.trans c2) (hf'.fn.trans c1) (hf'.marks.trans hmk) (hf'.round.trans c4) ?_) (ydu1 ?_)
  .have key:∀ L' : List (Nat × LV),(∀ p,p∈L'->p∈r.L)->frL (at_ (yyb0 ps)) f' L':=by
    intro L'
    induction L' with
    | nil=>intro _;trivial
    | cons p L' ih =>
     intro hsub;refine ⟨?_,ih fun q hq=>hsub q (by simp [hq])⟩;have hpm:=hsub p (by simp);rw [show f'.get p.1=var'.get .junk p.1 from hf'.var p.1 (by rw [c3];exact hnv p hpm)];exact (ybf0 (hp p hpm)).1
   exact key r.L fun p hp=>hp
  .rw [of_n,hlen2];exact ylo0 (yho2 h5b)
 .rw [of_n,hlen2];cases hrx:r.x with
  | pan v=>rw [hrx] at h5;exact yfx0 (wfK_B h5)
  | _=>trivial
theorem GT.last {P:Program} {c:Code} {f f' : Fr} {H H' : Heap} {x:LX} (hx:x≠.normal) (h:CT P c f H x f' H'):GT P (fun k=>.code c::.inLoop c::k) f H x f' H':=by
 intro J w b tmps ds k cs hs hf;obtain ⟨J',w',tmps',ds',h1,h2,h3,h4⟩:=h J w b tmps ds (.inLoop c::k) cs hs hf;exact ⟨J',w',tmps',ds',h1,h2,h3,h4.under hx fun _ _=>by rfl⟩
theorem GT.step {P:Program} {c:Code} {f f1 f' : Fr} {H H1 H' : Heap} {x:LX} (h:CT P c f H .normal f1 H1) (h2:GT P (fun k=>.code c::.inLoop c::k) f1 H1 x f' H'):GT P (fun k=>.code c::.inLoop c::k) f H x f' H':=by
 intro J w b tmps ds k cs hs hf;obtain ⟨J1,w1,tmps1,ds1,h3,h4,_,h6⟩:=h J w b tmps ds (.inLoop c::k) cs hs hf;obtain ⟨J2,w2,tmps2,ds2,h7,h8,h9,h10⟩:=h2 J1 w1 b tmps1 ds1 k cs h3.sat h4;exact ⟨J2,w2,tmps2,ds2,h3.trans h7,h8,h9,h10.of_steps (Steps.trans h6 (.one ygt0))⟩
theorem GT.loop {P:Program} {c:Code} {f f' : Fr} {H H' : Heap} {x:LX} (h:GT P (fun k=>.code c::.inLoop c::k) f H x f' H'):CT P (.loop c) f H x f' H':=by
 intro J w b tmps ds k cs hs hf;obtain ⟨J',w',tmps',ds',h1,h2,h3,h4⟩:=h J w b tmps ds k cs hs hf;exact ⟨J',w',tmps',ds',h1,h2,h3,h4.of_steps (.one ysj1)⟩
def RunL (A:Env) (E:Eqs) (k:Nat) (g n:Nat) (c:Code) (ent:BEnt) (L:List (Nat × LV)) (os:List LObj) (h:Hint) (r:BRes):Prop :=
 codeF c (cxOf A k g n) (setL .nil L) [] [] (Heap.of os) h fun x var loc mk H h=>onX x (useG (fun xs os r=>LOk Tryz.prog g n c ent.slots xs os r) ent (cxOf A k g n) var loc mk H h (endB E (A.nv g) os.length r))
  (fun _=>endB E (A.nv g) os.length r x var loc mk H h) (endB E (A.nv g) os.length r x var loc mk H h)
theorem ykb0 (hg:Good Tryz.prog) (hA:A.ok) (hE:E.Ok) {k:Nat} {g n:Nat} {c:Code} {ent:BEnt} {L:List (Nat × LV)} {os:List LObj} {h:Hint} {r:BRes} (hrun:RunL A E k g n c ent L os h r) :
  GT Tryz.prog (fun k=>.code c::.inLoop c::k) (Fr.ofL g n L [] none) (Heap.of os) r.x (Fr.ofL g n r.L [] none) (Heap.of (chg os r.ch++r.new)):=by
 have hcx:CxOk A (callQ A k) (cxOf A k g n):=⟨ytg2 A k,rfl,fun _=>rfl,fun h=>absurd rfl h,rfl⟩;obtain ⟨⟨x,f',H'⟩,hr,var',loc',mk',h',hf',hend⟩:=yhe1 hcx c (setL .nil L) [] [] (Heap.of os) h _ (Fr.ofL g n L [] none) ⟨rfl,rfl,rfl,rfl,fun _ _=>rfl,fun i v _ hv=>by cases hv⟩ hrun;simp only at hf' hend;obtain ⟨_,hle,hct⟩:=ywt0 hg A (ycm0 hg hA k) c _ _ _ _ _ _ _ hr trivial
 have other:x≠.normal->endB E (A.nv g) os.length r x var' loc' mk' H' h'->GT Tryz.prog (fun k=>.code c::.inLoop c::k) (Fr.ofL g n L [] none) (Heap.of os) r.x (Fr.ofL g n r.L [] none) (Heap.of (chg os r.ch++r.new)):=fun hx he =>
  keepB hE ⟨rfl,rfl,rfl,rfl⟩ hle (GT.last hx hct) hf' he
 rcases ylm1 hend with ⟨rfl,he⟩ | ⟨id,rfl,he⟩ | ⟨hx,he⟩
 .obtain ⟨⟨x2,f2,H2⟩,hr2,var2,loc2,mk2,h2,hf2,he2⟩:=ygc2 (okf:=fun f xs os r=>LOk Tryz.prog f.fn f.n c ent.slots xs os r) (fun f e1 e2 xs os r h=>by rw [e1,e2];exact h) ent var' loc' mk' H' h' _ f' hf' he;obtain ⟨_,hle2,hgt⟩:=yrr0 (pre:=fun k=>.code c::.inLoop c::k) (fun _ _ _ _ h=>h) hr2 trivial;exact keepB hE ⟨rfl,rfl,rfl,rfl⟩ (hle.trans hle2) (GT.step hct hgt) hf2 he2
 .exact other (by simp) he
 .exact other (by rcases hx with rfl | ⟨v,rfl⟩ <;> simp) he
def RunL2 (A:Env) (E:Eqs) (k:Nat) (g n:Nat) (c:Code) (ent:BEnt) (L:List (Nat × LV)) (os:List LObj) (h:Hint) (b:Bool) (r1 r2:BRes):Prop :=
 codeF c (cxOf A k g n) (setL .nil L) [] [] (Heap.of os) h fun x var loc mk H h=>onX x (useG (fun xs os r=>LOk Tryz.prog g n c ent.slots xs os r) ent (cxOf A k g n) var loc mk H h fun x var loc mk H h=>bc b (endB E (A.nv g) os.length r1 x var loc mk H h) (endB E (A.nv g) os.length r2 x var loc mk H h))
  (fun _=>bc b (endB E (A.nv g) os.length r1 x var loc mk H h) (endB E (A.nv g) os.length r2 x var loc mk H h)) (bc b (endB E (A.nv g) os.length r1 x var loc mk H h) (endB E (A.nv g) os.length r2 x var loc mk H h))
theorem RunL2.one {A:Env} {E:Eqs} {k:Nat} {g n:Nat} {c:Code} {ent:BEnt} {L:List (Nat × LV)} {os:List LObj} {h:Hint} {b:Bool} {r1 r2:BRes} (hrun:RunL2 A E k g n c ent L os h b r1 r2):(b=true->RunL A E k g n c ent L os h r1)/\(b=false->RunL A E k g n c ent L os h r2):=by
 constructor
 .intro hb;subst hb;exact hrun
 .intro hb;subst hb;exact hrun
theorem CT.block {P:Program} {id:Nat} {c:Code} {f f' : Fr} {H H' : Heap} (h:CT P c f H (.exit id) f' H'):CT P (.block id c) f H .normal f' H':=by
 intro J w bf tmps ds k cs hs hf;obtain ⟨J',w',tmps',ds',h4,h5,h6,k',hk',h7⟩:=h J w bf tmps ds (.inBlock id::k) cs hs hf;refine ⟨J',w',tmps',ds',h4,h5,trivial,(Steps.head yft0 h7).trans (.one (ypb2 ?_))⟩;rw [hk'];simp [exitTo]
def conjN (n:Nat) (f:Nat->Prop):Prop:=@Nat.rec (fun _=>Prop) True (fun i r=>f i/\r) n
def trueN (n:Nat):Prop:=@Nat.rec (fun _=>Prop) True (fun _ r=>True/\r) n
theorem trues:∀ n,trueN n
 | 0=>trivial
 | n+1=>⟨trivial,trues n⟩
theorem yje1 {f:Nat->Prop} : ∀ {n:Nat},conjN n f->∀ i,i<n->f i
 | 0,_,i,hi=>by omega
 | n+1,h,i,hi=>by
  by_cases e:i=n
  .subst e;exact h.1
  .exact yje1 h.2 i (by omega)
theorem yip0 {n:Nat} {f:Nat->Prop} (h:conjN n f=trueN n):∀ i,i<n->f i:=yje1 (h ▸ trues n)
end Go.Proofs.YtnpbgnjiihecgaaGreat.Ev.K
namespace Go.Proofs.YtnpbgnjiihecgaaGreat.Ev
open Go
def blkIn (id:Nat):Code->Option Code
 | .seq a b=>match blkIn id a with
  | some c=>some c
  | none=>blkIn id b
 | .cond _ a b=>match blkIn id a with
  | some c=>some c
  | none=>blkIn id b
 | .block i a=>bif Nat.beq i id then some (.block i a) else blkIn id a
 | .scope a=>blkIn id a
 | .loop c=>blkIn id c
 | .rangeFunc _ _ _ c=>blkIn id c
 | _=>none
noncomputable def blkOf (g id:Nat):Code:=match TV.func? g with
 | some f=>match f.body with
  | some c=>match blkIn id c with
   | some c=>c
   | none=>.skip
  | none=>.skip
 | none=>.skip
def inner:Code->Code
 | .block _ c=>c
 | .loop c=>c
 | c=>c
theorem bcI {b:Bool} {x y:Prop} (h1:b=true->x) (h2:b=false->y):bc b x y:=by
 cases b
 .exact h2 rfl
 .exact h1 rfl
theorem yyg2 {Z:Type} {b:Bool} {x y:Z} : bc b x y=if b=true then x else y:=by cases b <;> rfl
theorem yja0 {a b:Int} : ltI a b=true↔a<b:=by rw [K.Int.ltI_eq];simp
theorem yfa0 {a b:Int} : ltI a b=false↔b<=a:=by rw [K.Int.ltI_eq];simp
theorem ypa0 {a b:Int} : eqI a b=true↔a=b:=by rw [K.yau0];simp
theorem ysa0 {a b:Int} : eqI a b=false↔a≠b:=by rw [K.yau0];simp
theorem ydb0:notB true=false:=rfl
theorem ycb0:notB false=true:=rfl
theorem yab0 {b:Bool} : notB b=true↔b=false:=by cases b <;> simp [notB]
theorem yib0 {b:Bool} : notB b=false↔b=true:=by cases b <;> simp [notB]
theorem yia0 (n:Int):wrapK .i64 n=(n+9223372036854775808) % 18446744073709551616-9223372036854775808:=by
 rw [K.yqd0];simp only [IntKind.wrap,IntKind.bits,IntKind.signed,Bool.true_and];split <;> rename_i h <;> simp at h <;> omega
theorem ywd0 (n:Int):wrapK .u8 n=n % 256:=by rw [K.yqd0];simp [IntKind.wrap,IntKind.bits,IntKind.signed]
theorem yvf0 (n:Int):wrapK .u16 n=n % 65536:=by rw [K.yqd0];simp [IntKind.wrap,IntKind.bits,IntKind.signed]
theorem yke1 (n:Int):wrapK .u32 n=n % 4294967296:=by rw [K.yqd0];simp [IntKind.wrap,IntKind.bits,IntKind.signed]
noncomputable def polL (l:List (FuncId × K.CEnt)):FuncId->Option K.CEnt :=
 @List.rec (FuncId × K.CEnt) (fun _=>FuncId->Option K.CEnt) (fun _=>none) (fun p _ ih g=>bc (Nat.beq p.1 g) (some p.2) (ih g)) l
theorem ywm1 {P:Program} : ∀ {l:List (FuncId × K.CEnt)},(∀ p,p∈l->p.2.ok P p.1)->∀ g ent,polL l g=some ent->ent.ok P g
 | [],_,g,ent,h=>by cases h
 | p::l,hl,g,ent,h=>by
  change bc (Nat.beq p.1 g) (some p.2) (polL l g)=some ent at h;cases hb:Nat.beq p.1 g with
  | true=>rw [hb] at h;injection h with h;subst h;rw [<- beqN hb];exact hl p (by simp)
  | false=>rw [hb] at h;exact ywm1 (fun q hq=>hl q (by simp [hq])) g ent h
end Go.Proofs.YtnpbgnjiihecgaaGreat.Ev
namespace Go.Proofs.YtnpbgnjiihecgaaGreat.Ev.K
open Go
def mvl (m j:Nat):List Nat:=List.range m++[j]
theorem yjp0 {m j i:Nat} (h:i<m):at_ (mvl m j) i=i:=by
 unfold mvl;rw [at_,List.getD_eq_getElem?_getD,List.getElem?_append_left (by simpa using h)];simp [h]
theorem yxm1 {m j:Nat} : at_ (mvl m j) m=j:=by
 unfold mvl;rw [at_,List.getD_eq_getElem?_getD,List.getElem?_append_right (by simp)];simp
theorem GT_mv {P:Program} {pre:List Item->List Item} {f:Fr} {H:Heap} {x:LX} {g n:Nat} {L L1:List (Nat × LV)} {os:List LObj} {j:Nat} {o:LObj} (h:GT P pre f H x (Fr.ofL g n L [] none) (Heap.of os)) (hn:H.n<=os.length)
  (hj:os[j]?=some o) (hx:∀ v,x≠.pan v) (hL:frL (at_ (mvl os.length j)) (Fr.ofL g n L [] none) L1) (hw:ltL (os.length+1) L1):GT P pre f H x (Fr.ofL g n L1 [] none) (Heap.of (os.set j .dead++[o])):=by
 have hjl:j<os.length:=(List.getElem?_eq_some_iff.1 hj).1;have hN:(Heap.of (os.set j .dead++[o])).n=os.length+1:=by rw [of_n];simp
 have hget:∀ i,i<os.length+1->(Heap.of (os.set j .dead++[o])).get i=.dead\/((Heap.of (os.set j .dead++[o])).get i=(Heap.of os).get (at_ (mvl os.length j) i)/\i≠j/\at_ (mvl os.length j) i<os.length):=by
  intro i hi;rw [yje0 _ i (by simp;omega)];by_cases h1:i<os.length
  .rw [List.getElem_append_left (by simpa using h1),yjp0 h1];by_cases h2:i=j
   .left;subst h2;simp
   .right;rw [yje0 _ i h1,List.getElem_set_ne (by omega)];exact ⟨rfl,h2,h1⟩
  .have h3:i=os.length:=by omega
   subst h3;right;rw [yxm1,yje0 _ j hjl,List.getElem_append_right (by simp)];refine ⟨?_,by omega,hjl⟩;have:=List.getElem_of_getElem? hj;obtain ⟨_,e⟩:=this;simp [e]
 have hinj:∀ i i',i<os.length+1->i'<os.length+1->i≠j->i'≠j->at_ (mvl os.length j) i=at_ (mvl os.length j) i'->i=i':=by
  intro i i' h1 h2 h3 h4 he;by_cases a:i<os.length <;> by_cases b:i'<os.length
  .rwa [yjp0 a,yjp0 b] at he
  .rw [yjp0 a,show i'=os.length by omega,yxm1] at he;exact absurd he h3
  .rw [yjp0 b,show i=os.length by omega,yxm1] at he;exact absurd he.symm h4
  .omega
 intro J w b tmps ds k cs hs hf;obtain ⟨J',w',tmps',ds',hm,hr,hlx,hE⟩:=h J w b tmps ds k cs hs hf;have hlt:∀ i,i<os.length->i<(Heap.of os).n:=fun i hi=>by rw [of_n];exact hi
 refine ⟨J'∘at_ (mvl os.length j),w',tmps',ds',⟨hm.os,hm.tape,hm.output,hm.size,hm.block,?_,?_,?_,?_,⟨?_,?_,?_,?_⟩⟩,?_,?_,?_⟩
 .intro i hi ho;rw [hN] at hi;rcases hget i hi with e | ⟨e,_,l⟩
  .rw [e] at ho;cases ho
  .rw [e] at ho;exact hm.owned _ (hlt _ l) ho
 .intro i hi ho;rw [hN] at hi;rcases hget i hi with e | ⟨e,_,l⟩
  .rw [e] at ho;cases ho
  .rw [e] at ho;exact hm.sits _ (hlt _ l) ho
 .rw [hN];omega
 .intro i hi;show J' (at_ (mvl os.length j) i)=J i;rw [yjp0 (by omega)];exact hm.ext i hi
 .intro i hi;rw [hN] at hi;rcases hget i hi with e | ⟨e,_,l⟩
  .rw [e];trivial
  .rw [e,hN];have:=hm.sat.wf _ (hlt _ l);rw [of_n] at this;exact ync0 (by omega) this
 .intro i hi;rw [hN] at hi;rcases hget i hi with e | ⟨e,_,l⟩
  .rw [e];trivial
  .rw [e];have:=hm.sat.wf _ (hlt _ l);rw [of_n] at this;exact yqq0 (yzy0 (l:=mvl os.length j) (fun i hi=>yjp0 hi) this) (hm.sat.obj _ (hlt _ l))
 .intro i i' hi hi' hne ho hs';rw [hN] at hi hi';rcases hget i hi with e | ⟨e,n1,l⟩
  .rw [e] at ho;cases ho
  .rcases hget i' hi' with e' | ⟨e',n2,l'⟩
   .rw [e'] at hs';cases hs'
   .rw [e] at ho;rw [e'] at hs';exact hm.sat.apart _ _ (hlt _ l) (hlt _ l') (fun he=>hne (hinj i i' hi hi' n1 n2 he)) ho hs'
 .intro i hi hsi;rw [hN] at hi;rcases hget i hi with e | ⟨e,_,l⟩
  .rw [e] at hsi;cases hsi
  .rw [e] at hsi;exact hm.sat.inside _ (hlt _ l) hsi
 .exact hr.same (yns0 rfl rfl rfl rfl hL) (by rw [hN];exact ydu1 hw)
 .cases x with
  | pan v=>exact absurd rfl (hx v)
  | _=>trivial
 .refine hE.same ?_;cases x with
  | pan v=>exact absurd rfl (hx v)
  | normal=>trivial
  | exit i=>rfl
  | ret=>trivial
theorem LOk.mv {P:Program} {g n:Nat} {c:Code} {slots:List Nat} {xs:List LV} {os:List LObj} {x:LX} {L L1:List (Nat × LV)} {j:Nat} {o:LObj} (h:LOk P g n c slots xs os ⟨x,L,[],[]⟩) (hj:os[j]?=some o) (hx:∀ v,x≠.pan v)
  (hL:frL (at_ (mvl os.length j)) (Fr.ofL g n L [] none) L1) (hw:ltL (os.length+1) L1):LOk P g n c slots xs os ⟨x,L1,[(j,.dead)],[o]⟩:=by
 unfold LOk at h ⊢;have h:GT P (fun k=>.code c::.inLoop c::k) (Fr.ofL g n (slots.zip xs) [] none) (Heap.of os) x (Fr.ofL g n L [] none) (Heap.of os):=by simpa [chg] using h
 have:=GT_mv h (by rw [of_n];exact Nat.le_refl _) hj hx hL hw;exact this
end Go.Proofs.YtnpbgnjiihecgaaGreat.Ev.K
namespace Go.Proofs.YtnpbgnjiihecgaaGreat.Ev.K
open Go
def RoOf (a b:LObj):Prop:=a=b\/∃ ks e w cs,a=.flat ks e w cs/\b=.flat ks e .ro cs
theorem RoOf.sits {a b:LObj} (h:RoOf a b):b.sits=a.sits:=by
 rcases h with rfl | ⟨ks,e,w,cs,rfl,rfl⟩
 .rfl
 .cases w <;> rfl
theorem RoOf.owns {a b:LObj} (h:RoOf a b) (ho:b.owns=true):a=b:=by
 rcases h with rfl | ⟨ks,e,w,cs,rfl,rfl⟩
 .rfl
 .cases ho
theorem RoOf.lt {a b:LObj} (h:RoOf a b) {n:Nat} (hl:ltObj n a):ltObj n b:=by
 rcases h with rfl | ⟨ks,e,w,cs,rfl,rfl⟩
 .exact hl
 .trivial
theorem RoOf.sat {a b:LObj} (h:RoOf a b) {J:Nat->RB} {r:RB} {w:World} (hs:SatObj J r w a):SatObj J r w b:=by
 rcases h with rfl | ⟨ks,e,o,cs,rfl,rfl⟩
 .exact hs
 .intro j v hv;exact SatObj.cell (e:=e) (k:=o) (ypq0.1 hs) hv
theorem HT.look {P:Program} {g:FuncId} {xs:List LV} {os os1 new:List LObj} {e:LEnd} (hlen:os1.length=os.length) (hro:∀ i (h:i<os.length) (h1:i<os1.length),RoOf os[i] os1[i]) (hnew:∀ o,o∈new->o.sits=true->o.owns=true)
  (h:∀ (J:Nat->RB) (w:World),Sat J (Heap.of os) w->∃ xs1,decs J xs1=decs J xs/\(lts os.length xs->lts os.length xs1)/\HT P g xs1 (Heap.of os1) e (Heap.of (os1++new))):HT P g xs (Heap.of os) e (Heap.of (os++new)):=by
 intro J w hs hlx;obtain ⟨xs1,hd,hl1,hht⟩:=h J w hs;have hn:(Heap.of os).n=os.length:=of_n os;have hn1:(Heap.of os1).n=os.length:=(of_n os1).trans hlen;have hN:(Heap.of (os++new)).n=os.length+new.length:=by rw [of_n];simp
 have hN1:(Heap.of (os1++new)).n=os.length+new.length:=by rw [of_n];simp [hlen]
 have g0:∀ i,i<os.length->RoOf ((Heap.of os).get i) ((Heap.of os1).get i):=fun i hi=>by
  rw [yje0 _ i hi,yje0 _ i (by omega)];exact hro i hi (by omega)
 have gO:∀ i,i<os.length->(Heap.of (os++new)).get i=(Heap.of os).get i:=fun i hi=>by
  rw [yje0 _ i (by simp;omega),yje0 _ i hi,List.getElem_append_left]
 have gO1:∀ i,i<os.length->(Heap.of (os1++new)).get i=(Heap.of os1).get i:=fun i hi=>by
  rw [yje0 _ i (by simp;omega),yje0 _ i (by omega),List.getElem_append_left]
 have gN:∀ i,os.length<=i->i<os.length+new.length->(Heap.of (os1++new)).get i=(Heap.of (os++new)).get i/\((Heap.of (os++new)).get i).sits=true->((Heap.of (os++new)).get i).owns=true:=fun i h1 h2 hh=>by
  have:(Heap.of (os++new)).get i=new[i-os.length]'(by omega):=by
   rw [yje0 _ i (by simp;omega),List.getElem_append_right (by omega)]
  rw [this] at hh ⊢;exact hnew _ (List.getElem_mem _) hh.2
 have gE:∀ i,os.length<=i->i<os.length+new.length->(Heap.of (os1++new)).get i=(Heap.of (os++new)).get i:=fun i h1 h2=>by
  rw [yje0 _ i (by simp;omega),yje0 _ i (by simp;omega),List.getElem_append_right (by omega),List.getElem_append_right (by omega)];simp [hlen]
 have hs1:Sat J (Heap.of os1) w:=by
  refine ⟨fun i hi=>?_,fun i hi=>?_,fun i j hi hj hne ho hsj=>?_,fun i hi hsi=>?_⟩ <;> rw [hn1] at hi
  .have:=hs.wf i (by omega);rw [hn1];rw [hn] at this;exact (g0 i hi).lt this
  .exact (g0 i hi).sat (hs.obj i (by omega))
  .rw [hn1] at hj;refine hs.apart i j (by omega) (by omega) hne ?_ ?_
   .rw [(g0 i hi).owns ho];exact ho
   .rw [<- (g0 j hj).sits];exact hsj
  .exact hs.inside i (by omega) (by rw [<- (g0 i hi).sits];exact hsi)
 rw [hn] at hlx;have hc:=hht J w hs1 (by rw [hn1];exact hl1 hlx);rw [hd] at hc;refine hc.mono fun e' w' ⟨J',he,hm,hle⟩=>⟨J',he,?_,by rw [hN];rw [hN1] at hle;exact hle⟩
 have hext:∀ i,i<os.length->J' i=J i:=fun i hi=>hm.ext i (by omega)
 have own1:∀ i,i<os.length->((Heap.of os1).get i).owns=true->((Heap.of os).get i).owns=true:=fun i hi ho=>by rw [(g0 i hi).owns ho];exact ho
 have same:∀ i,i<os.length+new.length->((Heap.of (os++new)).get i).sits=((Heap.of (os1++new)).get i).sits:=fun i hi=>by
  by_cases h1:i<os.length
  .rw [gO i h1,gO1 i h1,(g0 i h1).sits]
  .rw [gE i (by omega) hi]
 -- a block that is looked at alone is as it was
 have still:∀ i,i<os.length->((Heap.of os1).get i).owns=false->((Heap.of os).get i).owns=true->w'.heap[(J i).blk]?=w.heap[(J i).blk]?:=fun i hi h1 h2=>by
  refine hm.block _ (hs.inside i (by omega) (LObj.sits_of_owns h2)) fun j hj hjo e=>?_
  rw [hn1] at hj;by_cases hij:i=j
  .subst hij;rw [h1] at hjo;cases hjo
  .exact hs.apart i j (by omega) (by omega) hij h2 (LObj.sits_of_owns (own1 j hj hjo)) e.symm
 refine ⟨hm.os,hm.tape,hm.output,hm.size,fun b hb hno=>hm.block b hb fun i hi ho=>?_,fun i hi ho=>?_,fun i hi ho=>?_,by rw [hn,hN];omega,fun i hi=>hext i (by omega),?_⟩
 .rw [hn1] at hi;exact hno i (by omega) (own1 i hi ho)
 .rw [hN] at hi;by_cases h1:i<os.length
  .rw [gO i h1] at ho;exact .inr ⟨i,by omega,ho,by rw [hext i h1]⟩
  .rw [<- gE i (by omega) hi] at ho;rcases hm.owned i (by omega) ho with h | ⟨j,hj,hjo,e⟩
   .exact .inl h
   .rw [hn1] at hj;exact .inr ⟨j,by omega,own1 j hj hjo,e⟩
 .rw [hN] at hi;rw [same i hi] at ho;rcases hm.sits i (by omega) ho with h | ⟨j,hj,hjo,e⟩
  .exact .inl h
  .rw [hn1] at hj;exact .inr ⟨j,by omega,by rw [<- (g0 j hj).sits];exact hjo,e⟩
 .refine ⟨fun i hi=>?_,fun i hi=>?_,fun i j hi hj hne ho hsj=>?_,fun i hi hsi=>?_⟩ <;> rw [hN] at hi
  .rw [hN];by_cases h1:i<os.length
   .rw [gO i h1];have:=hs.wf i (by omega);rw [hn] at this;exact ync0 (by omega) this
   .rw [<- gE i (by omega) hi];have:=hm.sat.wf i (by omega);rw [hN1] at this;exact this
  .by_cases h1:i<os.length
   .rw [gO i h1];rcases g0 i h1 with e | ⟨ks,e,o,cs,e1,e2⟩
    .have:=hm.sat.obj i (by omega);rw [gO1 i h1,<- e] at this;exact this
    .cases o with
     | ro=>have:=hm.sat.obj i (by omega);rw [gO1 i h1,e2] at this;rw [e1];exact this
     | _ =>
      rw [hext i h1];have hst:=still i h1 (by rw [e2];rfl) (by rw [e1];rfl);exact ((hs.obj i (by omega)).world fun _=>hst).ext (n:=os.length) hext (by have:=hs.wf i (by omega);rw [hn] at this;exact this)
   .rw [<- gE i (by omega) hi];exact hm.sat.obj i (by omega)
  .rw [hN] at hj;by_cases h1:i<os.length
   .by_cases h2:j<os.length
    .rw [gO i h1] at ho;rw [gO j h2] at hsj;rw [hext i h1,hext j h2];exact hs.apart i j (by omega) (by omega) hne ho hsj
    .cases h3:((Heap.of os1).get i).owns with
     | true=>exact hm.sat.apart i j (by omega) (by omega) hne (by rw [gO1 i h1];exact h3) (by rw [<- same j hj];exact hsj)
     | false =>
      rw [gO i h1] at ho;have hjo:=gN j (by omega) hj ⟨gE j (by omega) hj,hsj⟩;rw [<- gE j (by omega) hj] at hjo;rw [hext i h1];rcases hm.owned j (by omega) hjo with h | ⟨q,hq,hqo,e⟩
      .have:=hs.inside i (by omega) (LObj.sits_of_owns ho);omega
      .rw [hn1] at hq;rw [e];refine hs.apart i q (by omega) (by omega) (fun e2=>?_) ho (LObj.sits_of_owns (own1 q hq hqo));subst e2;rw [h3] at hqo;cases hqo
   .exact hm.sat.apart i j (by omega) (by omega) hne (by rw [gE i (by omega) hi];exact ho) (by rw [<- same j hj];exact hsj)
  .exact hm.sat.inside i (by omega) (by rw [<- same i hi];exact hsi)
end Go.Proofs.YtnpbgnjiihecgaaGreat.Ev.K
