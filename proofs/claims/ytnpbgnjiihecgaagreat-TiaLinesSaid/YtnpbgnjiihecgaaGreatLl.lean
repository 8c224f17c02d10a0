/- Renamings, and contracts at their place. Contracts at their place: the heap behind. A deterministic evaluator with contracts, by which the one in continuation style is measured: it is sound. -/
import Derived.Test.YtnpbgnjiihecgaaGreatLk
import Derived.Test.YtnpbgnjiihecgaaGreatLb
import Derived.Test.YtnpbgnjiihecgaaGreatLi
namespace Go.Proofs.YtnpbgnjiihecgaaGreat.Ev
open Go
theorem ynd0 {Z β:Type} (m1:Z) (m2:Bool->Z) (m3:IntKind->Int->Z) (m4:List UInt8->Z) (m5:Z) (m6:Nat->Nat->Z) (m7:Z) (m8:Nat->Nat->Nat->Cap->Z) (m9:Nat->Z) (m10:Z) (m11:Nat->Z) (m12:Fn->List LV->List LV->β->β->Z) (m13:Z)
  (m14:TypeId->LV->Z->Z) (m15:Z) (m16:List LV->β->Z) (m17:List LV->β->Z) (n:β) (c:LV->List LV->Z->β->β):∀ cs:List LV,
  @LV.rec_1 (fun _=>Z) (fun _=>β) m1 m2 m3 m4 m5 m6 m7 m8 m9 m10 m11 m12 m13 m14 m15 m16 m17 n c cs=@List.rec LV (fun _=>β) n (fun v vs r=>c v vs (@LV.rec (fun _=>Z) (fun _=>β) m1 m2 m3 m4 m5 m6 m7 m8 m9 m10 m11 m12 m13 m14 m15 m16 m17 n c v) r) cs
 | []=>rfl
 | v::vs=>by
  show c v vs _ (@LV.rec_1 (fun _=>Z) (fun _=>β) m1 m2 m3 m4 m5 m6 m7 m8 m9 m10 m11 m12 m13 m14 m15 m16 m17 n c vs)=_;rw [ynd0 m1 m2 m3 m4 m5 m6 m7 m8 m9 m10 m11 m12 m13 m14 m15 m16 m17 n c vs]
namespace K
theorem yxk1 {Z β γ:Type} (f:Z->β->γ) {a a' : Z} {b b' : β} (h1:a=a') (h2:b=b'):f a b=f a' b':=by rw [h1,h2]
theorem yqa0 {Z:Type} {o:Option Z} {k:Z->Prop} : optK o k↔∃ a,o=some a/\k a:=by
 cases o with
 | none=>exact ⟨fun h=>h.elim,fun ⟨_,h,_⟩=>by cases h⟩
 | some a=>exact ⟨fun h=>⟨a,rfl,h⟩,fun ⟨b,h,hk⟩=>by injection h with h;subst h;exact hk⟩
theorem yca0 {b:Bool} {k:Prop} : need b k↔b=true/\k:=by
 cases b with
 | true=>exact ⟨fun h=>⟨rfl,h⟩,fun h=>h.2⟩
 | false=>exact ⟨fun h=>h.elim,fun h=>by cases h.1⟩
theorem yne0 {Z β:Type} {f:Z->β} {o:Option Z} {b:β} (h:ob1 f o=some b):∃ a,o=some a/\f a=b:=by
 cases o with
 | none=>cases h
 | some a=>exact ⟨a,rfl,Option.some.inj h⟩
theorem ybg0 {Z β γ:Type} {f:Z->β->γ} {o:Option Z} {p:Option β} {c:γ} (h:ob2 f o p=some c):∃ a b,o=some a/\p=some b/\f a b=c:=by
 cases o with
 | none=>cases h
 | some a=>cases p with
  | none=>cases h
  | some b=>exact ⟨a,b,rfl,rfl,Option.some.inj h⟩
theorem ybi0:∀ {l:List Nat} {b i:Nat},place l b=some i->at_ l i=b/\i<l.length
 | [],b,i,h=>by cases h
 | x::xs,b,i,h=>by
  change bc (Nat.beq x b) (some 0) (@Option.rec Nat (fun _=>Option Nat) none (fun i=>some (i+1)) (place xs b))=some i at h;cases hb:Nat.beq x b with
  | true =>
   rw [hb] at h;injection h with h;subst h;exact ⟨beqN hb,by simp⟩
  | false =>
   rw [hb] at h;change @Option.rec Nat (fun _=>Option Nat) none (fun i=>some (i+1)) (place xs b)=some i at h;cases hp:place xs b with
   | none=>rw [hp] at h;cases h
   | some j =>
    rw [hp] at h;injection h with h;subst h;obtain ⟨h1,h2⟩:=ybi0 hp;exact ⟨h1,by simp;omega⟩
theorem ysf2 (l:List Nat) (cs:List LV):renV l (.agg cs)=ob1 .agg (renL l cs) :=
 Eq.trans (congrArg (ob1 LV.agg) (ynd0 _ _ _ _ _ _ _ _ _ _ _ _ _ _ _ _ _ _ _ cs)) rfl
theorem ytf2 (l:List Nat) (cs:List LV):renV l (.tup cs)=ob1 .tup (renL l cs) :=
 Eq.trans (congrArg (ob1 LV.tup) (ynd0 _ _ _ _ _ _ _ _ _ _ _ _ _ _ _ _ _ _ _ cs)) rfl
theorem yxv1 (l:List Nat) (g:FuncId) (a b:List LV):renV l (.func (.func g) a b)=ob2 (fun a b=>.func (.func g) a b) (renL l a) (renL l b) :=
 Eq.trans (yxk1 (ob2 (fun a b=>LV.func (.func g) a b)) (ynd0 _ _ _ _ _ _ _ _ _ _ _ _ _ _ _ _ _ _ _ a) (ynd0 _ _ _ _ _ _ _ _ _ _ _ _ _ _ _ _ _ _ _ b)) rfl
theorem yyk1 (l:List Nat) (y:Nat) (a b:List LV):renV l (.func (.yield y) a b)=ob2 (fun y p=>.func (.yield y) p.1 p.2) (place l y) (ob2 (fun a b=>(a,b)) (renL l a) (renL l b)) :=
 Eq.trans (yxk1 (fun (a b:Option (List LV))=>ob2 (fun (y:Nat) (p:List LV × List LV)=>LV.func (.yield y) p.1 p.2) (place l y) (ob2 (fun a b=>(a,b)) a b)) (ynd0 _ _ _ _ _ _ _ _ _ _ _ _ _ _ _ _ _ _ _ a) (ynd0 _ _ _ _ _ _ _ _ _ _ _ _ _ _ _ _ _ _ _ b)) rfl
mutual
theorem ybf0 {l:List Nat} : ∀ {v v' : LV},renV l v=some v'->sameV (at_ l) v' v/\wfB l.length v'=true:=by
 intro v v' h;cases v with
 | junk=>injection h with h;subst h;simp [sameV,wfB]
 | bool b=>injection h with h;subst h;simp [sameV,wfB]
 | int k n=>injection h with h;subst h;simp [sameV,wfB]
 | str s=>injection h with h;subst h;simp [sameV,wfB]
 | nilp=>injection h with h;subst h;simp [sameV,wfB]
 | ptr i o =>
  obtain ⟨j,hj,rfl⟩:=yne0 (show ob1 (fun i=>LV.ptr i o) (place l i)=some v' from h);obtain ⟨h1,h2⟩:=ybi0 hj;exact ⟨⟨h1,rfl⟩,bltN.2 h2⟩
 | nils=>injection h with h;subst h;simp [sameV,wfB]
 | slice i o n c =>
  obtain ⟨j,hj,rfl⟩:=yne0 (show ob1 (fun i=>LV.slice i o n c) (place l i)=some v' from h);obtain ⟨h1,h2⟩:=ybi0 hj;exact ⟨⟨h1,rfl,rfl,rfl⟩,bltN.2 h2⟩
 | emp i =>
  obtain ⟨j,hj,rfl⟩:=yne0 (show ob1 LV.emp (place l i)=some v' from h);obtain ⟨h1,h2⟩:=ybi0 hj;exact ⟨h1,bltN.2 h2⟩
 | nilm=>injection h with h;subst h;simp [sameV,wfB]
 | map i =>
  obtain ⟨j,hj,rfl⟩:=yne0 (show ob1 LV.map (place l i)=some v' from h);obtain ⟨h1,h2⟩:=ybi0 hj;exact ⟨h1,bltN.2 h2⟩
 | func f a b =>
  cases f with
  | func g =>
   rw [yxv1] at h;obtain ⟨a',b',ha,hb,rfl⟩:=ybg0 h;obtain ⟨h1,h2⟩:=ycf0 ha;obtain ⟨h3,h4⟩:=ycf0 hb;exact ⟨⟨rfl,h1,h3⟩,by simp [wfB,h2,h4]⟩
  | method n=>cases h
  | methodOf t n=>cases h
  | via t p g b=>cases h
  | yield y =>
   rw [yyk1] at h;obtain ⟨y',p,hy,hp,rfl⟩:=ybg0 h;obtain ⟨a',b',ha,hb,rfl⟩:=ybg0 hp;obtain ⟨h1,h2⟩:=ycf0 ha;obtain ⟨h3,h4⟩:=ycf0 hb;obtain ⟨h5,h6⟩:=ybi0 hy;exact ⟨⟨h5,h1,h3⟩,by simp [wfB,h2,h4,bltN.2 h6]⟩
 | nilf=>injection h with h;subst h;simp [sameV,wfB]
 | iface t v =>
  obtain ⟨a,ha,rfl⟩:=yne0 (show ob1 (LV.iface t) (renV l v)=some v' from h);obtain ⟨h1,h2⟩:=ybf0 ha;exact ⟨⟨rfl,h1⟩,by simp [wfB,h2]⟩
 | nili=>injection h with h;subst h;simp [sameV,wfB]
 | agg cs =>
  rw [ysf2] at h;obtain ⟨a,ha,rfl⟩:=yne0 h;obtain ⟨h1,h2⟩:=ycf0 ha;exact ⟨h1,by simp [wfB,h2]⟩
 | tup cs =>
  rw [ytf2] at h;obtain ⟨a,ha,rfl⟩:=yne0 h;obtain ⟨h1,h2⟩:=ycf0 ha;exact ⟨h1,by simp [wfB,h2]⟩
theorem ycf0 {l:List Nat} : ∀ {vs vs' : List LV},renL l vs=some vs'->yid0 (at_ l) vs' vs/\wfsB l.length vs'=true:=by
 intro vs vs' h;cases vs with
 | nil=>injection h with h;subst h;simp [yid0,wfsB]
 | cons v vs =>
  obtain ⟨a,b,ha,hb,rfl⟩:=ybg0 (show ob2 (fun a b=>a::b) (renV l v) (renL l vs)=some vs' from h);obtain ⟨h1,h2⟩:=ybf0 ha;obtain ⟨h3,h4⟩:=ycf0 hb;exact ⟨⟨h1,h3⟩,by simp [wfsB,h2,h4]⟩
end
theorem ymd1 {l:List Nat} : ∀ {vs vs' : List Ent},renE l vs=some vs'->yec0 (at_ l) vs' vs/\ymk0 l.length vs'=true
 | [],vs',h=>by injection h with h;subst h;simp [yec0,ymk0]
 | v::vs,vs',h=>by
  obtain ⟨a,b,ha,hb,rfl⟩:=ybg0 (show ob2 (fun a b=>a::b) (ob2 (fun k w=>(⟨k,w,v.born⟩ : Ent)) (renV l v.key) (renV l v.val)) (renE l vs)=some vs' from h);obtain ⟨k,w,hk,hw,rfl⟩:=ybg0 ha;obtain ⟨h1,h2⟩:=ybf0 hk;obtain ⟨h3,h4⟩:=ybf0 hw;obtain ⟨h5,h6⟩:=ymd1 hb;exact ⟨⟨h1,h3,rfl,h5⟩,by simp [ymk0,h2,h4,h6]⟩
theorem yrt0 {l:List Nat} : ∀ {t t' : Tr LV},renT l t=some t'->(∀ i,sameV (at_ l) (t'.get .junk i) (t.get .junk i))/\wfT l.length t'=true
 | .nil,t',h=>by
  injection h with h;subst h;exact ⟨fun i=>by show sameV _ LV.junk LV.junk;simp [sameV],rfl⟩
 | .node v a b,t',h=>by
  obtain ⟨v',p,hv,hp,rfl⟩:=ybg0 (show ob2 (fun v p=>Tr.node v p.1 p.2) (renV l v) (ob2 (fun a b=>(a,b)) (renT l a) (renT l b))=some t' from h);obtain ⟨a',b',ha,hb,rfl⟩:=ybg0 hp;obtain ⟨h1,h2⟩:=ybf0 hv;obtain ⟨h3,h4⟩:=yrt0 ha;obtain ⟨h5,h6⟩:=yrt0 hb;refine ⟨fun i=>?_,by show (wfB _ v'&&(wfT _ a'&&wfT _ b'))=true;rw [h2,h4,h6];rfl⟩;show sameV (at_ l) (bc (Nat.beq i 0) v' (bc (Nat.beq (Nat.mod i 2) 1) (a'.get .junk (Nat.div i 2)) (b'.get .junk (Nat.pred (Nat.div i 2))))) (bc (Nat.beq i 0) v (bc (Nat.beq (Nat.mod i 2) 1) (a.get .junk (Nat.div i 2)) (b.get .junk (Nat.pred (Nat.div i 2)))));cases Nat.beq i 0 with
  | true=>exact h1
  | false=>cases Nat.beq (Nat.mod i 2) 1 with
   | true=>exact h3 _
   | false=>exact h5 _
theorem yst0 {l:List Nat} {o o' : LObj} (h:renO l o=some o'):yva0 (at_ l) o' o/\ymh0 l.length o'=true:=by
 cases o with
 | dead=>injection h with h;subst h;exact ⟨trivial,rfl⟩
 | cells e w cs =>
  obtain ⟨a,ha,rfl⟩:=yne0 (show ob1 (LObj.cells e w) (renL l cs)=some o' from h);obtain ⟨h1,h2⟩:=ycf0 ha;exact ⟨⟨rfl,rfl,h1⟩,h2⟩
 | map es c =>
  obtain ⟨a,ha,rfl⟩:=yne0 (show ob1 (fun es=>LObj.map es c) (renE l es)=some o' from h);obtain ⟨h1,h2⟩:=ymd1 ha;exact ⟨⟨rfl,h1⟩,h2⟩
 | empty=>injection h with h;subst h;exact ⟨trivial,rfl⟩
 | strIter s p=>injection h with h;subst h;exact ⟨⟨rfl,rfl⟩,rfl⟩
 | fmap es=>injection h with h;subst h;exact ⟨rfl,rfl⟩
 | glob g cs=>injection h with h;subst h;exact ⟨⟨rfl,rfl⟩,rfl⟩
 | miter m c =>
  obtain ⟨a,ha,rfl⟩:=yne0 (show ob1 (fun m=>LObj.miter m c) (place l m)=some o' from h);obtain ⟨h3,h4⟩:=ybi0 ha;exact ⟨⟨h3,rfl⟩,bltN.2 h4⟩
 | flat ks e w vs=>injection h with h;subst h;exact ⟨⟨rfl,rfl,rfl⟩,rfl⟩
 | loop st pe fn n t ps asg bo d =>
  obtain ⟨t',d',ht,hd,rfl⟩:=ybg0 (show ob2 (fun t d=>LObj.loop st pe fn n t ps asg bo d) (renT l t) (place l d)=some o' from h);obtain ⟨h1,h2⟩:=yrt0 ht;obtain ⟨h3,h4⟩:=ybi0 hd;exact ⟨⟨rfl,rfl,rfl,rfl,rfl,rfl,rfl,h3,h1⟩,by show (wfT _ t'&&Nat.blt d' _)=true;rw [h2,bltN.2 h4];rfl⟩
 | defers b=>injection h with h;subst h;exact ⟨rfl,rfl⟩
def ObjsAt (U:List Nat) (H:Heap):List LObj->List Nat->Prop
 | [],[]=>True
 | o::os,i::is=>yva0 (at_ U) o (H.get i)/\ymh0 U.length o=true/\ObjsAt U H os is
 | _,_=>False
theorem yza1 {H:Heap} {l:List Nat} : ∀ {ps:List (Nat × Bool)} {os:List LObj},renOs H l ps=some os->ObjsAt l H os (yyb0 ps)
 | [],os,h=>by injection h with h;subst h;trivial
 | p::ps,os,h=>by
  obtain ⟨a,b,ha,hb,rfl⟩:=ybg0 (show ob2 (fun a b=>a::b) (bc p.2 (renO l (H.get p.1)) (some .dead)) (renOs H l ps)=some os from h);refine ⟨?_,?_,yza1 hb⟩
  .cases hp:p.2 with
   | true=>rw [hp] at ha;exact (yst0 ha).1
   | false=>rw [hp] at ha;injection ha with ha;subst ha;trivial
  .cases hp:p.2 with
   | true=>rw [hp] at ha;exact (yst0 ha).2
   | false=>rw [hp] at ha;injection ha with ha;subst ha;rfl
theorem ObjsAt.length {U:List Nat} {H:Heap} : ∀ {os:List LObj} {is:List Nat},ObjsAt U H os is->os.length=is.length
 | [],[],_=>rfl
 | _::_,_::_,h=>by simp [h.2.2.length]
 | [],_::_,h=>h.elim
 | _::_,[],h=>h.elim
theorem ObjsAt.wf {U:List Nat} {H:Heap} : ∀ {os:List LObj} {is:List Nat},ObjsAt U H os is->yih0 U.length os=true
 | [],[],_=>rfl
 | _::_,_::_,h=>by simp [yih0,h.2.1,h.2.2.wf]
 | [],_::_,h=>h.elim
 | _::_,[],h=>h.elim
theorem ObjsAt.objL {U:List Nat} {H:Heap} {full:List Nat} : ∀ {os:List LObj} {is:List Nat} (k:Nat),ObjsAt U H os is->(∀ j,j<is.length->at_ full (k+j)=at_ is j)->(∀ i,at_ U i=at_ full i)->Ev.objL (at_ U) H os k
 | [],[],_,_,_,_=>trivial
 | o::os,i::is,k,h,hf,he=>by
  refine ⟨?_,ObjsAt.objL (k+1) h.2.2 (fun j hj=>?_) he⟩
  .have:=hf 0 (by simp);rw [he,show k=k+0 from rfl,this];exact h.1
  .have:=hf (j+1) (by simp;omega);rw [show k+1+j=k+(j+1) by omega,this];rfl
 | [],_::_,_,h,_,_=>h.elim
 | _::_,[],_,h,_,_=>h.elim
structure Small (l:List Nat) (xs:List LV) (os:List LObj) (args:List LV) (H:Heap):Prop where
 len:os.length=l.length
 distinct:distinct l=true
 below:ypd0 H.n l=true
 args:yid0 (at_ l) xs args
 wfx:wfsB os.length xs=true
 wfo:yih0 os.length os=true
 obj:Ev.objL (at_ l) H os 0
theorem yzk1 {U:Nat->Nat} {fl:List TypeId} {o b:LObj} (h:yva0 U o b):yva0 U (flatO fl o) b:=by
 cases o with
 | cells e w cs =>
  show yva0 U (bc (wantF fl e w) _ _) b;cases wantF fl e w with
  | false=>exact h
  | true =>
   simp only [bc_true];split
   .rename_i c hk;clear hk;cases ha:allCK c cs with
    | false=>exact h
    | true =>
     simp only [bc_true];cases b <;> simp only [yva0] at h ⊢;obtain ⟨h1,h2,h3⟩:=h;refine ⟨h1,h2,?_⟩;have e2:=yuk0 ha;rw [e2];clear e2;revert h3;rename_i cs';clear h1 h2
     induction cs generalizing cs' with
     | nil=>intro h;cases cs' with
      | nil=>rfl
      | cons _ _=>exact h.elim
     | cons v vs ih =>
      intro h;cases cs' with
      | nil=>exact h.elim
      | cons v' vs' =>
       have ha:bc (isCK c v) (allCK c vs) false=true:=ha;cases hb:isCK c v with
       | false=>rw [hb] at ha;cases ha
       | true =>
        rw [hb] at ha;rw [ih ha vs' h.2]
        congr 1
        have h1:=h.1;unfold isCK at hb
        cases v <;> simp only [ckV] at hb <;> first
         | (cases v' <;> simp only [sameV] at h1 <;> first | exact h1.elim | (rw [h1];done) | (rw [h1.1,h1.2];done))
         | cases hb
   .exact h
 | _=>exact h
theorem yuf2 {n:Nat} {fl:List TypeId} {o:LObj} (h:ymh0 n o=true):ymh0 n (flatO fl o)=true:=by
 cases o with
 | cells e w cs =>
  show ymh0 n (bc (wantF fl e w) _ _)=true;cases wantF fl e w with
  | false=>exact h
  | true =>
   simp only [bc_true];split
   .rename_i c _;cases ha:allCK c cs with
    | false=>exact h
    | true=>rfl
   .exact h
 | _=>exact h
theorem yyv1 {U:List Nat} {H:Heap} {fl:List TypeId} {os:List LObj} {is:List Nat} (h:ObjsAt U H os is):ObjsAt U H (ylg1 fl os) is:=by
 unfold ylg1;cases isNil fl with
 | true=>exact h
 | false =>
  simp only [bc_false]
  induction os generalizing is with
  | nil=>exact h
  | cons o os ih =>
   cases is with
   | nil=>exact h.elim
   | cons i is=>exact ⟨yzk1 h.1,yuf2 h.2.1,ih h.2.2⟩
theorem yab1 {d:Nat} {fl:List TypeId} {args:List LV} {H:Heap} {k:List Nat->List LV->List LObj->Prop} (h:yey0 d fl args H k):∃ l xs os,Small l xs os args H/\k l xs os:=by
 unfold yey0 at h;obtain ⟨h1,h⟩:=yca0.1 h;obtain ⟨h2,h⟩:=yca0.1 h;obtain ⟨xs,hx,h⟩:=yqa0.1 h;obtain ⟨os,ho,h⟩:=yqa0.1 h;obtain ⟨hx1,hx2⟩:=ycf0 hx;have ha:=yyv1 (fl:=fl) (yza1 ho);have hl:=ha.length;refine ⟨_,xs,ylg1 fl os,⟨hl,h1,h2,hx1,?_,?_,?_⟩,h⟩
 .rw [hl];exact hx2
 .rw [hl];exact ha.wf
 .exact ha.objL 0 (fun j _=>by rw [Nat.zero_add]) (fun _=>rfl)
theorem Small.within {l:List Nat} {xs:List LV} {os:List LObj} {args:List LV} {H:Heap} (h:Small l xs os args H):Within (at_ l) (Heap.of os) H :=
 yps0 (fun i j hi hj e=>ykg0 h.distinct i j (by rw [<- h.len];exact hi) (by rw [<- h.len];exact hj) e) (fun i hi=>ylj0 h.below i (by rw [<- h.len];exact hi)) (ysn0 h.wfo) h.obj
theorem yvf2 (s:Nat->Nat) (cs:List LV):mapK s (.agg cs)=.agg (mapKL s cs) :=
 Eq.trans (congrArg LV.agg (ynd0 _ _ _ _ _ _ _ _ _ _ _ _ _ _ _ _ _ _ _ cs)) rfl
theorem ywf2 (s:Nat->Nat) (cs:List LV):mapK s (.tup cs)=.tup (mapKL s cs) :=
 Eq.trans (congrArg LV.tup (ynd0 _ _ _ _ _ _ _ _ _ _ _ _ _ _ _ _ _ _ _ cs)) rfl
theorem yzv1 (s:Nat->Nat) (f:Fn) (a b:List LV):mapK s (.func f a b)=.func (mapFn s f) (mapKL s a) (mapKL s b):=by
 cases f <;> exact Eq.trans (yxk1 (LV.func _) (ynd0 _ _ _ _ _ _ _ _ _ _ _ _ _ _ _ _ _ _ _ a) (ynd0 _ _ _ _ _ _ _ _ _ _ _ _ _ _ _ _ _ _ _ b)) rfl
mutual
theorem yyk0 (s:Nat->Nat):∀ v,mapK s v=mapV s v:=by
 intro v;cases v with
 | func f a b=>rw [yzv1,mapV,ybm0 s a,ybm0 s b]
 | iface t v=>rw [mapV,<- yyk0 s v];rfl
 | agg cs=>rw [yvf2,mapV,ybm0 s cs]
 | tup cs=>rw [ywf2,mapV,ybm0 s cs]
 | _=>simp only [mapV];rfl
theorem ybm0 (s:Nat->Nat):∀ vs,mapKL s vs=mapVs s vs:=by
 intro vs;cases vs with
 | nil=>simp only [mapVs];rfl
 | cons v vs=>rw [mapVs,<- yyk0 s v,<- ybm0 s vs];rfl
end
theorem yal1 (s:Nat->Nat):∀ vs,mapKE s vs=yco0 s vs
 | []=>rfl
 | v::vs=>by rw [yco0,<- yyk0,<- yyk0,<- yal1 s vs];rfl
theorem ybb1 (s:Nat->Nat):∀ t,mapKT s t=mapT s t
 | .nil=>rfl
 | .node v a b=>by show Tr.node (mapK s v) (mapKT s a) (mapKT s b)=Tr.node (mapV s v) (mapT s a) (mapT s b);rw [yyk0,ybb1 s a,ybb1 s b]
theorem ybl1 (s:Nat->Nat) (o:LObj):mapKO s o=ykk0 s o:=by
 cases o with
 | cells e w cs=>show LObj.cells e w (mapKL s cs)=_;rw [ybm0];rfl
 | map es c=>show LObj.map (mapKE s es) c=_;rw [yal1];rfl
 | loop st pe fn n t ps asg bo d=>show LObj.loop st pe fn n (mapKT s t) ps asg bo (s d)=_;rw [ybb1];rfl
 | _=>rfl
theorem yxf2 (n:Nat) (g:FuncId) (a b:List LV):wfK n (.func (.func g) a b)=bc (wfKL n a) (wfKL n b) false :=
 Eq.trans (yxk1 (fun x y=>bc x y false) (ynd0 _ _ _ _ _ _ _ _ _ _ _ _ _ _ _ _ _ _ _ a) (ynd0 _ _ _ _ _ _ _ _ _ _ _ _ _ _ _ _ _ _ _ b)) rfl
theorem yaw1 (n:Nat) (y:Nat) (a b:List LV):wfK n (.func (.yield y) a b)=bc (Nat.blt y n) (bc (wfKL n a) (wfKL n b) false) false :=
 Eq.trans (yxk1 (fun a b=>bc (Nat.blt y n) (bc a b false) false) (ynd0 _ _ _ _ _ _ _ _ _ _ _ _ _ _ _ _ _ _ _ a) (ynd0 _ _ _ _ _ _ _ _ _ _ _ _ _ _ _ _ _ _ _ b)) rfl
theorem ydo2 (n:Nat) (cs:List LV):wfK n (.agg cs)=wfKL n cs :=
 Eq.trans (ynd0 _ _ _ _ _ _ _ _ _ _ _ _ _ _ _ _ _ _ _ cs) rfl
theorem yeo2 (n:Nat) (cs:List LV):wfK n (.tup cs)=wfKL n cs :=
 Eq.trans (ynd0 _ _ _ _ _ _ _ _ _ _ _ _ _ _ _ _ _ _ _ cs) rfl
theorem ywi0 {a b:Bool} (h:bc a b false=true):a=true/\b=true:=by
 cases a with
 | true=>exact ⟨rfl,h⟩
 | false=>cases h
mutual
theorem wfK_B {n:Nat} : ∀ {v:LV},wfK n v=true->wfB n v=true:=by
 intro v h;cases v with
 | func f a b =>
  cases f with
  | func g =>
   rw [yxf2] at h;obtain ⟨h1,h2⟩:=ywi0 h;simp [wfB,ygy0 h1,ygy0 h2]
  | method n=>cases h
  | methodOf t n=>cases h
  | via t p g b=>cases h
  | yield y =>
   rw [yaw1] at h;obtain ⟨h0,h⟩:=ywi0 h;obtain ⟨h1,h2⟩:=ywi0 h;simp [wfB,ygy0 h1,ygy0 h2,h0]
 | iface t v=>simp only [wfB];exact wfK_B h
 | agg cs=>simp only [wfB];rw [ydo2] at h;exact ygy0 h
 | tup cs=>simp only [wfB];rw [yeo2] at h;exact ygy0 h
 | ptr i o=>simp only [wfB];exact h
 | slice i o l c=>simp only [wfB];exact h
 | emp i=>simp only [wfB];exact h
 | map i=>simp only [wfB];exact h
 | _=>simp only [wfB]
theorem ygy0 {n:Nat} : ∀ {vs:List LV},wfKL n vs=true->wfsB n vs=true:=by
 intro vs h;cases vs with
 | nil=>simp only [wfsB]
 | cons v vs =>
  obtain ⟨h1,h2⟩:=ywi0 (show bc (wfK n v) (wfKL n vs) false=true from h);simp [wfsB,wfK_B h1,ygy0 h2]
end
theorem yfo2 {n:Nat} : ∀ {vs:List Ent},wfKE n vs=true->ymk0 n vs=true
 | [],_=>rfl
 | v::vs,h=>by
  obtain ⟨h1,h2⟩:=ywi0 (show bc (wfK n v.key) (bc (wfK n v.val) (wfKE n vs) false) false=true from h);obtain ⟨h2,h3⟩:=ywi0 h2;simp [ymk0,wfK_B h1,wfK_B h2,yfo2 h3]
theorem yyf2 {n:Nat} : ∀ {t:Tr LV},wfKT n t=true->wfT n t=true
 | .nil,_=>rfl
 | .node v a b,h=>by
  obtain ⟨h1,h⟩:=ywi0 (show bc (wfK n v) (bc (wfKT n a) (wfKT n b) false) false=true from h);obtain ⟨h2,h3⟩:=ywi0 h;show (wfB n v&&(wfT n a&&wfT n b))=true;rw [wfK_B h1,yyf2 h2,yyf2 h3];rfl
theorem ygo2 {n:Nat} {o:LObj} (h:wfKO n o=true):ymh0 n o=true:=by
 cases o with
 | cells e w cs=>exact ygy0 h
 | map es c=>exact yfo2 h
 | loop st pe fn k t ps asg bo d =>
  obtain ⟨h1,h2⟩:=ywi0 (show bc (wfKT n t) (Nat.blt d n) false=true from h);show (wfT n t&&Nat.blt d n)=true;rw [yyf2 h1,h2];rfl
 | miter m c=>exact h
 | _=>rfl
theorem ytt0 {n:Nat} : ∀ {os:List LObj},wfKOs n os=true->∀ i (h:i<os.length),ymh0 n os[i]=true
 | [],_,i,h=>by simp at h
 | o::os,h,i,hi=>by
  obtain ⟨h1,h2⟩:=ywi0 (show bc (wfKO n o) (wfKOs n os) false=true from h);cases i with
  | zero=>exact ygo2 h1
  | succ i=>exact ytt0 h2 i (by simpa using hi)
theorem yut0 {m n:Nat} : ∀ {ch:List (Nat × LObj)},wfKC m n ch=true->∀ p,p∈ch->p.1<m/\ymh0 n p.2=true
 | [],_,p,hp=>by cases hp
 | q::ch,h,p,hp=>by
  obtain ⟨h1,h2⟩:=ywi0 (show bc (Nat.blt q.1 m) (bc (wfKO n q.2) (wfKC m n ch) false) false=true from h);obtain ⟨h2,h3⟩:=ywi0 h2;rcases List.mem_cons.1 hp with rfl | hp
  .exact ⟨bltN.1 h1,ygo2 h2⟩
  .exact yut0 h3 p hp
theorem yho2 {n:Nat} : ∀ {L:List (Nat × LV)},wfKP n L=true->ynl0 n L=true
 | [],_=>rfl
 | p::L,h=>by
  obtain ⟨h1,h2⟩:=ywi0 (show bc (wfK n p.2) (wfKP n L) false=true from h);simp [ynl0,wfK_B h1,yho2 h2]
mutual
theorem yef0 {U τ:Nat->Nat} {n:Nat} (hU:∀ i,i<n->U i=τ i):∀ {a b:LV},lt n a->sameV U a b->sameV τ a b:=by
 intro a b hl h
 cases a <;> cases b <;> simp only [sameV] at h ⊢ <;> simp only [lt] at hl <;> first
  | exact h
  | (rw [<- hU _ hl];exact h)
  | exact yoe0 hU hl h
  | (refine ⟨h.1,yef0 hU hl h.2⟩)
  | (obtain ⟨h1, h2, h3⟩ := h
     refine ⟨?_,yoe0 hU hl.2.1 h2,yoe0 hU hl.2.2 h3⟩;rename_i f _ _ g _ _
     cases f <;> cases g <;> simp only [yww0] at h1 ⊢ <;> first
      | exact h1
      | (rw [<- hU _ hl.1];exact h1))
theorem yoe0 {U τ:Nat->Nat} {n:Nat} (hU:∀ i,i<n->U i=τ i):∀ {a b:List LV},lts n a->yid0 U a b->yid0 τ a b:=by
 intro a b hl h;cases a <;> cases b <;> simp only [yid0] at h ⊢;exact ⟨yef0 hU hl.1 h.1,yoe0 hU hl.2 h.2⟩
end
theorem ydh0 {U τ:Nat->Nat} {n:Nat} (hU:∀ i,i<n->U i=τ i):∀ {a b:List Ent},(∀ e,e∈a->lt n e.key/\lt n e.val)->yec0 U a b->yec0 τ a b
 | [],[],_,h=>h
 | x::a,y::b,hl,h=>⟨yef0 hU (hl x (by simp)).1 h.1,yef0 hU (hl x (by simp)).2 h.2.1,h.2.2.1,ydh0 hU (fun e he=>hl e (by simp [he])) h.2.2.2⟩
 | [],_::_,_,h=>h.elim
 | _::_,[],_,h=>h.elim
theorem yhy0 {U τ:Nat->Nat} {n:Nat} (hU:∀ i,i<n->U i=τ i) {a b:LObj} (hw:ymh0 n a=true) (h:yva0 U a b):yva0 τ a b:=by
 have hl:=yrk0 hw
 cases a <;> cases b <;> simp only [yva0] at h ⊢ <;> first
  | exact h
  | exact ⟨h.1,h.2.1,yoe0 hU hl h.2.2⟩
  | exact ⟨h.1,ydh0 hU hl h.2⟩
  | exact ⟨(hU _ hl).symm.trans h.1,h.2⟩
  | exact ⟨h.1,h.2.1,h.2.2.1,h.2.2.2.1,h.2.2.2.2.1,h.2.2.2.2.2.1,h.2.2.2.2.2.2.1,(hU _ hl.2).symm.trans h.2.2.2.2.2.2.2.1,fun i=>yef0 hU (hl.1 i) (h.2.2.2.2.2.2.2.2 i)⟩
noncomputable def putsQ (s:Nat->Nat):List (Nat × LObj)->Heap->Heap
 | [],H=>H
 | p::ch,H=>putsQ s ch (H.put (s p.1) (ykk0 s p.2))
noncomputable def yej0 (s:Nat->Nat):List LObj->Heap->Heap
 | [],H=>H
 | o::os,H=>yej0 s os (H.push (ykk0 s o))
theorem yor0 (s:Nat->Nat):∀ ch H,(putsQ s ch H).n=H.n
 | [],H=>rfl
 | p::ch,H=>by rw [putsQ,yor0 s ch];rfl
theorem yzk0 (s:Nat->Nat):∀ os H,yej0 s os H=H.pushes (os.map (ykk0 s))
 | [],H=>rfl
 | o::os,H=>by rw [yej0,yzk0 s os];rfl
theorem yeb0:∀ (ch:List (Nat × LObj)) (os:List LObj),(chg os ch).length=os.length
 | [],os=>rfl
 | p::ch,os=>by
  show (chg (os.set p.1 p.2) ch).length=_;rw [yeb0 ch];simp
end K
end Go.Proofs.YtnpbgnjiihecgaaGreat.Ev
namespace Go.Proofs.YtnpbgnjiihecgaaGreat.Ev.K
open Go
theorem sg_eq (l:List Nat) (m n:Nat):sg l m n=over (at_ l) m n:=by
 funext i
 unfold sg over;by_cases h:i<m
 .rw [if_pos h,bltN.2 h];rfl
 .rw [if_neg h];have:Nat.blt i m=false:=by cases hb:Nat.blt i m with | true=>exact absurd (bltN.1 hb) h | false=>rfl
  rw [this];rfl
theorem ycl1:∀ (os:List LObj) (i:Nat),objAt os i=os.getD i .dead
 | [],i=>by simp;rfl
 | o::os,0=>rfl
 | o::os,i+1=>by rw [show objAt (o::os) (i+1)=objAt os i from rfl,ycl1 os i];simp
theorem ymg1 {o:LObj} : yen0 o=true↔o=.dead:=by
 cases o <;> simp [yen0]
theorem yiy0 {os:List LObj} : ∀ {ch:List (Nat × LObj)},yxa1 os ch=true->∀ p,p∈ch->p.2=.dead->os[p.1]?≠some .dead
 | [],_,p,hp,_,_=>by cases hp
 | q::ch,h,p,hp,hd,he=>by
  have h:bc (bc (yen0 q.2) (yen0 (objAt os q.1)) false) false (yxa1 os ch)=true:=h;rcases List.mem_cons.1 hp with rfl | hp
  .rw [ymg1.2 hd,ycl1,List.getD_eq_getElem?_getD,he] at h;cases h
  .refine yiy0 ?_ p hp hd he;cases hb:bc (yen0 q.2) (yen0 (objAt os q.1)) false with
   | true=>rw [hb] at h;cases h
   | false=>rw [hb] at h;exact h
theorem ydl1 {s:Nat->Nat} {m n:Nat} (hinj:∀ i j,i<m->j<m->s i=s j->i=j) (os0:List LObj) (H0:Heap):∀ (ch:List (Nat × LObj)) (os:List LObj) (H:Heap),os.length=m->(∀ p,p∈ch->p.1<m/\ymh0 n p.2=true/\(p.2=.dead->os0[p.1]?≠some .dead)) ->
  (∀ i,i<m->(∃ o,ymh0 n o=true/\(o=.dead->os0[i]?≠some .dead)/\os[i]?=some o/\H.get (s i)=ykk0 s o)\/(os[i]?=os0[i]?/\H.get (s i)=H0.get (s i)))->(∀ j,(∀ i,i<m->s i≠j)->H.get j=H0.get j) ->
  (∀ i,i<m->(∃ o,ymh0 n o=true/\(o=.dead->os0[i]?≠some .dead)/\(chg os ch)[i]?=some o/\(putsQ s ch H).get (s i)=ykk0 s o)\/((chg os ch)[i]?=os0[i]?/\(putsQ s ch H).get (s i)=H0.get (s i)))/\(∀ j,(∀ i,i<m->s i≠j)->(putsQ s ch H).get j=H0.get j)
 | [],os,H,_,_,h1,h2=>⟨h1,h2⟩
 | p::ch,os,H,hl,hw,h1,h2=>by
  obtain ⟨hp,hwp,hdp⟩:=hw p (by simp);refine ydl1 hinj os0 H0 ch (os.set p.1 p.2) (H.put (s p.1) (ykk0 s p.2)) (by simp [hl]) (fun q hq=>hw q (by simp [hq])) (fun i hi=>?_) (fun j hj=>?_)
  .by_cases e:p.1=i
   .subst e;refine .inl ⟨p.2,hwp,hdp,?_,Heap.get_put_same _ _ _⟩;rw [List.getElem?_set];simp [hl,hp]
   .have e2:s p.1≠s i:=fun h=>e (hinj _ _ hp hi h)
    rw [Heap.get_put_other e2,List.getElem?_set_ne e];exact h1 i hi
  .rw [Heap.get_put_other (hj p.1 hp)];exact h2 j hj
theorem ypr0 (s:Nat->Nat) (os:List LObj) (H:Heap) {j:Nat} (h:j<H.n):(yej0 s os H).get j=H.get j:=by
 rw [yzk0,yig0,if_neg (by omega)]
theorem yng1 (s:Nat->Nat) (os:List LObj) (H:Heap) {j:Nat} (h:j<os.length):(yej0 s os H).get (H.n+j)=ykk0 s os[j]:=by
 rw [yzk0,yig0,if_pos (by omega),dif_pos (by simp;omega)];simp
theorem ynd1 (s:Nat->Nat) (os:List LObj) (H:Heap):(yej0 s os H).n=H.n+os.length:=by
 rw [yzk0,yos0];simp
theorem yyo0 {l:List Nat} {xs:List LV} {os:List LObj} {args:List LV} {H:Heap} (hS:Small l xs os args H) {ch:List (Nat × LObj)} {new:List LObj} (hc:wfKC os.length (os.length+new.length) ch=true) (hn:wfKOs (os.length+new.length) new=true) (ha:yxa1 os ch=true) :
  Behind2 (at_ l) (Heap.of os) (Heap.of (chg os ch++new)) H (yej0 (sg l os.length H.n) new (putsQ (sg l os.length H.n) ch H)):=by
 have hinj:∀ i j,i<os.length->j<os.length->sg l os.length H.n i=sg l os.length H.n j->i=j:=fun i j hi hj e=>by
  rw [sg_eq] at e;unfold over at e;rw [if_pos hi,if_pos hj] at e;exact ykg0 hS.distinct i j (by rw [<- hS.len];exact hi) (by rw [<- hS.len];exact hj) e
 have hs:∀ i,i<os.length->sg l os.length H.n i=at_ l i:=fun i hi=>by rw [sg_eq];unfold over;rw [if_pos hi]
 have hbelow:∀ i,i<os.length->at_ l i<H.n:=fun i hi=>ylj0 hS.below i (by rw [<- hS.len];exact hi)
 obtain ⟨h1,h2⟩:=ydl1 (s:=sg l os.length H.n) hinj os H ch os H rfl (fun p hp=>⟨(yut0 hc p hp).1,(yut0 hc p hp).2,yiy0 ha p hp⟩) (fun i _=>.inr ⟨rfl,rfl⟩) (fun _ _=>rfl);have hlen:(chg os ch++new).length=os.length+new.length:=by simp [yeb0]
 refine ⟨?_,?_,?_⟩
 .rw [ynd1,yor0,of_n,of_n,hlen];omega
 .intro i hi hbl;rw [of_n,hlen] at hi;rw [of_n,<- sg_eq];by_cases him:i<os.length
  .have hcg:(Heap.of (chg os ch++new)).get i=(chg os ch)[i]'(by rw [yeb0];exact him):=by
    rw [yje0 _ i (by rw [hlen];exact hi),List.getElem_append_left]
   rw [hcg,ypr0 _ _ _ (by rw [yor0,hs i him];exact hbelow i him)];rcases h1 i him with ⟨o,hw,_,ho,hg⟩ | ⟨ho,hg⟩
   .rw [List.getElem?_eq_getElem (by rw [yeb0];exact him)] at ho;injection ho with ho;rw [ho,hg];exact yqs0 _ hw
   .rw [List.getElem?_eq_getElem (by rw [yeb0];exact him),List.getElem?_eq_getElem him] at ho;injection ho with ho;rw [ho,hg];have hobj:=ysz0 os 0 hS.obj i him;rw [Nat.zero_add] at hobj;have hwf:=yjg0 hS.wfo i os[i] (by simp [him]);rw [hs i him];have hc2:=yhy0 (τ:=sg l os.length H.n) (n:=os.length) (fun k hk=>(hs k hk).symm) hwf hobj;cases hd:os[i] with
    | dead =>
     refine absurd ⟨by rw [of_n];exact him,?_,?_⟩ hbl
     .rw [yje0 _ i him,hd]
     .rw [hcg,ho,hd]
    | _=>rw [hd] at hc2;exact hc2
  .have:=yng1 (sg l os.length H.n) new (putsQ (sg l os.length H.n) ch H) (j:=i-os.length) (by omega);rw [yor0] at this;have e:sg l os.length H.n i=H.n+(i-os.length):=by rw [sg_eq];unfold over;rw [if_neg him]
   rw [e,this,yje0 _ i (by rw [hlen];exact hi),List.getElem_append_right (by rw [yeb0];omega)];simp only [yeb0];exact yqs0 _ (ytt0 hn _ (by omega))
 .intro j hj hno;rw [ypr0 _ _ _ (by rw [yor0];exact hj)];by_cases hex:∃ i,i<os.length/\sg l os.length H.n i=j
  .obtain ⟨i,hi,e⟩:=hex;have hb:=hno i (by rw [of_n];exact hi) (by rw [<- hs i hi];exact e);obtain ⟨_,hd1,hd2⟩:=hb;rw [yje0 _ i hi] at hd1;rw [yje0 _ i (by rw [hlen];omega),List.getElem_append_left (by rw [yeb0];exact hi)] at hd2;rcases h1 i hi with ⟨o,hw,hdd,ho,hg⟩ | ⟨_,hg⟩
   .rw [List.getElem?_eq_getElem (by rw [yeb0];exact hi)] at ho;injection ho with ho;rw [hd2] at ho;exact absurd (by rw [List.getElem?_eq_getElem hi,hd1]) (hdd ho.symm)
   .rw [<- e];exact hg
  .exact h2 j fun i hi e=>hex ⟨i,hi,e⟩
end Go.Proofs.YtnpbgnjiihecgaaGreat.Ev.K
namespace Go.Proofs.YtnpbgnjiihecgaaGreat.Ev.K
open Go
noncomputable section
def yog1 (d:Nat) (fl:List TypeId) (args:List LV) (H:Heap):Option (List Nat × List LV × List LObj) :=
 let ps:=dfs H d (bc (hasN fl 2000000) (app (ptrsL args) (yxo0 H)) (ptrsL args)) []
 bif distinct (yyb0 ps)&&ypd0 H.n (yyb0 ps) then (match renL (yyb0 ps) args with
  | some xs=>match renOs H (yyb0 ps) ps with
   | some os=>some (yyb0 ps,xs,ylg1 fl os)
   | none=>none
  | none=>none) else none
theorem yel1 {d:Nat} {fl:List TypeId} {args:List LV} {H:Heap} {k:List Nat->List LV->List LObj->Prop} (h:yey0 d fl args H k):∃ l xs os,yog1 d fl args H=some (l,xs,os)/\k l xs os:=by
 unfold yey0 at h;obtain ⟨h1,h⟩:=yca0.1 h;obtain ⟨h2,h⟩:=yca0.1 h;obtain ⟨xs,hx,h⟩:=yqa0.1 h;obtain ⟨os,ho,h⟩:=yqa0.1 h;refine ⟨_,xs,ylg1 fl os,?_,h⟩;simp only [yog1,h1,h2,hx,ho,Bool.and_self,cond_true]
theorem yzo0 {d:Nat} {fl:List TypeId} {args:List LV} {H:Heap} {l:List Nat} {xs:List LV} {os:List LObj} (h:yog1 d fl args H=some (l,xs,os)):Small l xs os args H:=by
 have hk:yey0 d fl args H fun l' xs' os'=>l'=l/\xs'=xs/\os'=os:=by
  unfold yog1 at h;unfold yey0;simp only at h;cases hb:(distinct (yyb0 (dfs H d (bc (hasN fl 2000000) (app (ptrsL args) (yxo0 H)) (ptrsL args)) []))&&ypd0 H.n (yyb0 (dfs H d (bc (hasN fl 2000000) (app (ptrsL args) (yxo0 H)) (ptrsL args)) []))) with
  | false=>rw [hb] at h;cases h
  | true =>
   rw [hb] at h;simp only [cond_true] at h;rw [Bool.and_eq_true] at hb;refine yca0.2 ⟨hb.1,yca0.2 ⟨hb.2,?_⟩⟩;cases hx:renL (yyb0 (dfs H d (bc (hasN fl 2000000) (app (ptrsL args) (yxo0 H)) (ptrsL args)) [])) args with
   | none=>rw [hx] at h;cases h
   | some xs' =>
    rw [hx] at h;simp only at h;cases ho:renOs H (yyb0 (dfs H d (bc (hasN fl 2000000) (app (ptrsL args) (yxo0 H)) (ptrsL args)) [])) (dfs H d (bc (hasN fl 2000000) (app (ptrsL args) (yxo0 H)) (ptrsL args)) []) with
    | none=>rw [ho] at h;cases h
    | some os' =>
     rw [ho] at h;injection h with h;injection h with h1 h2;injection h2 with h2 h3;exact ⟨h1,h2,h3⟩
 obtain ⟨l',xs',os',hs,h1,h2,h3⟩:=yab1 hk;subst h1;subst h2;subst h3;exact hs
def yqr0 (l:List Nat) (m:Nat) (ch:List (Nat × LObj)) (new:List LObj) (H:Heap):Heap:=yej0 (sg l m H.n) new (putsQ (sg l m H.n) ch H)
def fitC (os:List LObj) (r:CRes):Bool:=ysk1 (lenL os+lenL r.new) r.e&&(wfKC (lenL os) (lenL os+lenL r.new) r.ch&&(wfKOs (lenL os+lenL r.new) r.new&&yxa1 os r.ch))
def useQ (ent:CEnt) (g:FuncId) (args:List LV) (H:Heap) (s:S) (other:R (LEnd × Heap)):R (LEnd × Heap) :=
 match yog1 ent.depth ent.fl args H with
 | some t=>match ent.f t.2.1 t.2.2 with
  | some p=>bc (p.1&&(hasBody Tryz.prog g&&fitC t.2.2 p.2)) (.ok (ytk1 (sg t.1 (lenL t.2.2) H.n) p.2.e,yqr0 t.1 (lenL t.2.2) p.2.ch p.2.new H) s) (.bad 60)
  | none=>other
 | none=>.bad 62
def fitB (os:List LObj) (r:BRes):Bool:=wfKX (lenL os+lenL r.new) r.x&&(wfKP (lenL os+lenL r.new) r.L&&(wfKC (lenL os) (lenL os+lenL r.new) r.ch&&(wfKOs (lenL os+lenL r.new) r.new&&yxa1 os r.ch)))
open Classical in
def useGQ (ok:Fr->List LV->List LObj->BRes->Prop) (ent:BEnt):EvF:=fun f H s =>
 match yog1 ent.depth ent.fl (ent.slots.map f.get) H with
 | some t=>match ent.f t.2.1 t.2.2 with
  | some p=>if p.1=true/\fitB t.2.2 p.2=true/\f.marks=[]/\f.round=none/\ok f t.2.1 t.2.2 p.2 then
    .ok (mapKX (sg t.1 (lenL t.2.2) H.n) p.2.x,Fr.ofL f.fn f.n (mapKP (sg t.1 (lenL t.2.2) H.n) p.2.L) [] none,yqr0 t.1 (lenL t.2.2) p.2.ch p.2.new H) s else .bad 60
  | none=>.bad 61
 | none=>.bad 62
def useBQ (ent:BEnt) (id:Nat) (c:Code):EvF:=useGQ (fun f xs os r=>BOk Tryz.prog f.fn f.n (.block id c) ent.slots xs os r) ent
def yfl1 (A:Env) (id:Nat) (c:Code) (b:EvF):EvF:=fun f H s =>
 match f.round with
 | some _=>yxw0 id b f H s
 | none=>match A.bp f.fn id with
  | none=>yxw0 id b f H s
  | some ent=>useBQ ent id c f H s
def ycg0 (A:Env) (g:Operand) (f:Fr):Fr:={ f with t:=keepT g (f.ev g) (restr (A.kp f.fn) (A.nv f.fn) f.t) }
def evQ (A:Env) (call:CallF) (c:Code):EvF :=
 @Code.rec (fun _=>EvF) evEnd (fun _ ops draw=>yfo0 Tryz.prog call ops.toList draw) (fun _ _ a b=>evSeq a b) (fun c _ _ a b=>ylf1 c a b)
  (fun id c b=>yfl1 A id c b) (fun c b=>ymf1 Tryz.prog 100000 c b) (fun g ps assign body _ _=>fun f H s=>ygo0 call g ps.toList assign body (ycg0 A g f) H s)
  (fun id f H s=>.ok (.exit id,f,H) s) (fun _ b=>b) (fun _=>evEnd) (fun _ _ _ _=>.bad 16) (fun f H s=>.ok (.ret,f,H) s) (fun _ _ _ _=>.bad 17) c
def fnQ (A:Env) (call:CallF):CallF:=fun fn args H s =>
 match fn with
 | .func g=>match A.pol g with
  | some ent=>useQ ent g args H s (evFn Tryz.prog (evQ A call) (.func g) args H s)
  | none=>evFn Tryz.prog (evQ A call) (.func g) args H s
 | fn=>evFn Tryz.prog (evQ A call) fn args H s
def callQ (A:Env) (k:Nat):CallF:=@Nat.rec (fun _=>CallF) (fun _ _ _ _=>.bad 30) (fun _ call=>fnQ A call) k
end
def Env.ok (A:Env):Prop:=∀ g ent,A.pol g=some ent->ent.ok Tryz.prog g
theorem ygl1 (s:Nat->Nat):∀ (ch:List (Nat × LObj)) (H:Heap),H.Le (putsQ s ch H)
 | [],H=>Heap.Le.refl H
 | p::ch,H=>(Heap.le_put H _ _).trans (ygl1 s ch _)
theorem yjy0 (s:Nat->Nat):∀ (os:List LObj) (H:Heap),H.Le (yej0 s os H)
 | [],H=>Heap.Le.refl H
 | o::os,H=>(Heap.le_push H _).trans (yjy0 s os _)
theorem yky0 (l:List Nat) (m:Nat) (ch:List (Nat × LObj)) (new:List LObj) (H:Heap):H.Le (yqr0 l m ch new H):=(ygl1 _ ch H).trans (yjy0 _ new _)
theorem lenL_eq {Z:Type} : ∀ l:List Z,lenL l=l.length
 | []=>rfl
 | _::l=>by rw [show lenL (_::l)=lenL l+1 from rfl,lenL_eq l];rfl
theorem ycb1 (s:Nat->Nat) (e:LEnd):yjk0 s e (ytk1 s e):=by
 cases e <;> (show sameV s _ (mapK s _);rw [yyk0];exact yud0 s _)
theorem yhl1 (s:Nat->Nat) (x:LX):sameX s x (mapKX s x):=by
 cases x <;> first
  | trivial
  | rfl
  | (show sameV s _ (mapK s _);rw [yyk0];exact yud0 s _)
theorem yil1 {A:Env} (hA:A.ok) {g:FuncId} {ent:CEnt} (hp:A.pol g=some ent) {args:List LV} {H H' : Heap} {s s' : S} {e:LEnd} {other:R (LEnd × Heap)} (h:useQ ent g args H s other=.ok (e,H') s') :
  (s=s'/\H.Le H'/\HT Tryz.prog g args H e H'/\hasBody Tryz.prog g=true)\/other=.ok (e,H') s':=by
 unfold useQ at h;split at h
 .rename_i t ht;obtain ⟨l,xs,os⟩:=t;have hS:=yzo0 ht;simp only at h;split at h
  .rename_i p hpf;obtain ⟨b,r⟩:=p;rcases bcR h with ⟨hb,h⟩ | ⟨_,h⟩
   .injection h with h1 h2;injection h1 with h1 h3;subst h1;subst h2;subst h3;simp only [fitC,Bool.and_eq_true,lenL_eq] at hb;obtain ⟨hb1,hb2,hb3,hb4,hb5,hb6⟩:=hb;refine .inl ⟨rfl,yky0 _ _ _ _ _,?_,hb2⟩;have hht:=hA g ent hp xs os b r hpf hb1;rw [lenL_eq];refine HT.frame2 hht hS.within hS.args (by rw [of_n];exact yan0 hS.wfx) (yyo0 hS hb4 hb5 hb6) ?_;rw [of_n,<- sg_eq];exact ycb1 _ _
   .cases h
  .exact .inr h
 .cases h
theorem yvt0 (kp:Nat->Bool) (t:Tr LV):∀ (nv i:Nat),(restr kp nv t).get .junk i=if i<nv/\kp i=true then t.get .junk i else .junk
 | 0,i=>by rw [if_neg (by omega)];rfl
 | nv+1,i=>by
  show (bc (kp nv) ((restr kp nv t).set .junk (t.get .junk nv) nv) (restr kp nv t)).get .junk i=_;cases hk:kp nv with
  | false =>
   show (restr kp nv t).get .junk i=_;rw [yvt0 kp t nv i];by_cases h1:i<nv/\kp i=true
   .rw [if_pos h1,if_pos ⟨by omega,h1.2⟩]
   .rw [if_neg h1,if_neg (fun h2=>?_)];rcases Nat.lt_or_ge i nv with h | h
    .exact h1 ⟨h,h2.2⟩
    .have e:i=nv:=by omega
     rw [e,hk] at h2;cases h2.2
  | true =>
   show ((restr kp nv t).set .junk (t.get .junk nv) nv).get .junk i=_;rw [Tr.get_set,yvt0 kp t nv i];by_cases h1:nv=i
   .subst h1;rw [if_pos rfl,if_pos ⟨by omega,hk⟩]
   .rw [if_neg h1];by_cases h2:i<nv/\kp i=true
    .rw [if_pos h2,if_pos ⟨by omega,h2.2⟩]
    .rw [if_neg h2,if_neg (fun h3=>h2 ⟨by omega,h3.2⟩)]
structure FrLess (f1 f:Fr):Prop where
 fn:f1.fn=f.fn
 n:f1.n=f.n
 marks:f1.marks=f.marks
 round:f1.round=f.round
 get:∀ i,f1.t.get .junk i=.junk\/f1.t.get .junk i=f.t.get .junk i
theorem FRel.less {J:Nat->RB} {n:Nat} {f f1:Fr} {b:Frame} {tmps:Array Value} {ds:List Deferred} (h:FRel J n f b tmps ds) (hl:FrLess f1 f):FRel J n f1 b tmps ds where
 wf:=fun i=>by
  rcases hl.get i with e | e
  .rw [e];trivial
  .rw [e];exact h.wf i
 marks:=by rw [hl.marks];exact h.marks
 inRound:=by rw [hl.round];exact h.inRound
 fn:=by rw [hl.fn];exact h.fn
 size:=by rw [hl.n];exact h.size
 t:=fun i=>by
  rcases hl.get i with e | e
  .exact .inl e
  .rcases h.t i with e2 | e2
   .exact .inl (e.trans e2)
   .right;rw [e];exact e2
 ds:=by rw [hl.marks];exact h.ds
 round:=by rw [hl.round];exact h.round
theorem CT.less {P:Program} {c:Code} {f f1 f' : Fr} {H H' : Heap} {x:LX} (h:CT P c f1 H x f' H') (hl:FrLess f1 f):CT P c f H x f' H' :=
 fun J w b tmps ds k cs hs hf=>h J w b tmps ds k cs hs (FRel.less hf hl)
theorem ypg1 (A:Env) (g:Operand) (f:Fr):FrLess (ycg0 A g f) f where
 fn:=rfl
 n:=rfl
 marks:=rfl
 round:=rfl
 get:=fun i=>by
  have hr:(restr (A.kp f.fn) (A.nv f.fn) f.t).get .junk i=.junk\/(restr (A.kp f.fn) (A.nv f.fn) f.t).get .junk i=f.t.get .junk i:=by
   rw [yvt0];split
   .exact .inr rfl
   .exact .inl rfl
  show (keepT g (f.ev g) (restr (A.kp f.fn) (A.nv f.fn) f.t)).get .junk i=.junk\/_;cases g with
  | tmp j =>
   show ((restr (A.kp f.fn) (A.nv f.fn) f.t).set .junk (f.t.get .junk j) j).get .junk i=.junk\/((restr (A.kp f.fn) (A.nv f.fn) f.t).set .junk (f.t.get .junk j) j).get .junk i=_;rw [Tr.get_set];split
   .rename_i e;subst e;exact .inr rfl
   .exact hr
  | _=>exact hr
theorem yod1 (s:Nat->Nat):∀ (L:List (Nat × LV)) (i:Nat),(setL .nil (mapKP s L)).get .junk i=mapK s ((setL .nil L).get .junk i)
 | [],i=>rfl
 | p::L,i=>by
  show ((setL .nil (mapKP s L)).set .junk (mapK s p.2) p.1).get .junk i=mapK s (((setL .nil L).set .junk p.2 p.1).get .junk i);rw [Tr.get_set,Tr.get_set,yod1 s L i];split <;> rfl
theorem yrr0 {ok:Fr->List LV->List LObj->BRes->Prop} {ent:BEnt} {pre:List Item->List Item}
  (hok:∀ f xs os r,ok f xs os r->GT Tryz.prog pre (Fr.ofL f.fn f.n (ent.slots.zip xs) [] none) (Heap.of os) r.x (Fr.ofL f.fn f.n r.L [] none) (Heap.of (chg os r.ch++r.new)))
  {f:Fr} {H:Heap} {s:S} {x:LX} {f' : Fr} {H' : Heap} {s' : S} (h:useGQ ok ent f H s=.ok (x,f',H') s') (hob:s'.ob):s.ob/\H.Le H'/\GT Tryz.prog pre f H x f' H':=by
 unfold useGQ at h;split at h
 .rename_i t ht;obtain ⟨l,xs,os⟩:=t;have hS:=yzo0 ht;simp only at h;split at h
  .rename_i p hpf;split at h
   .rename_i hc;obtain ⟨hc1,hc2,hc3,hc4,hc5⟩:=hc;injection h with h1 h2;injection h1 with h1 h3;injection h3 with h3 h4;subst h1;subst h2;subst h3;subst h4;simp only [fitB,Bool.and_eq_true,lenL_eq] at hc2;obtain ⟨hb1,hb2,hb3,hb4,hb5⟩:=hc2;refine ⟨hob,yky0 _ _ _ _ _,?_⟩;rw [lenL_eq]
    have hfrL:frL (at_ l) f (ent.slots.zip xs):=by
     have:=hS.args;revert this;generalize ent.slots=sl;clear hS hpf hc5 ht;intro this
     induction sl generalizing xs with
     | nil=>trivial
     | cons i sl ih =>
      cases xs with
      | nil=>trivial
      | cons y ys=>exact ⟨this.1,ih _ this.2⟩
    have hlL:ltL (Heap.of os).n (ent.slots.zip xs):=by
     rw [of_n];have:=yan0 hS.wfx;revert this;generalize os.length=n;generalize ent.slots=sl;clear hS hpf hc5 ht hfrL;intro this
     induction sl generalizing xs with
     | nil=>trivial
     | cons i sl ih =>
      cases xs with
      | nil=>trivial
      | cons y ys=>exact ⟨this.1,ih _ this.2⟩
    refine GT.frame (hok _ _ _ _ hc5) hS.within (yns0 rfl rfl hc3 hc4 hfrL) (ydu1 hlL) (yyo0 hS hb3 hb4 hb5) ?_ ?_ ?_ ⟨rfl,rfl,rfl,rfl,rfl,rfl⟩
    .rw [of_n,<- sg_eq];exact yhl1 _ _
    .intro hl;have:=(yyo0 hS hb3 hb4 hb5)
     have hn:(yqr0 l os.length p.2.ch p.2.new H).n=H.n+p.2.new.length:=by
      unfold yqr0;rw [ynd1,yor0]
     cases hx:p.2.x with
     | pan v =>
      rw [hx] at hl;have hl:lt (Heap.of (chg os p.2.ch++p.2.new)).n v:=hl;rw [of_n] at hl;show lt _ (mapK _ v);have hsame:=yud0 (sg l os.length H.n) v;rw [<- yyk0] at hsame;refine yrh0 (n:=(chg os p.2.ch++p.2.new).length) (fun i hi=>?_) hsame hl;rw [hn,sg_eq];unfold over;split
      .have:=ylj0 hS.below i (by rw [<- hS.len];assumption);omega
      .simp [yeb0] at hi;omega
     | _=>trivial
    .intro i;rw [of_n,<- sg_eq];show sameV _ ((setL .nil p.2.L).get .junk i) ((setL .nil (mapKP _ p.2.L)).get .junk i);rw [yod1,yyk0];exact yud0 _ _
   .cases h
  .cases h
 .cases h
theorem yqg1 {ent:BEnt} {id:Nat} {c:Code} : ywe0 Tryz.prog (.block id c) (useBQ ent id c):=by
 intro f H s x f' H' s' h hob;exact yrr0 (pre:=fun k=>.code (.block id c)::k) (fun _ _ _ _ h=>h) h hob
theorem ywt0 (hg:Good Tryz.prog) (A:Env) {call:CallF} (hcall:ylc0 Tryz.prog call) (c:Code):ywe0 Tryz.prog c (evQ A call c):=by
 induction c with
 | skip=>exact yed1 fun _ _ _ _ _ _=>ycn2
 | region id ops draw=>exact yna1 hg hcall id ops draw
 | seq a b ha hb=>exact yiv1 ha hb
 | cond c a b ha hb=>exact yfk1 ha hb
 | block id b hb =>
  intro f H s x f' H' s' h hob;change yfl1 A id b (evQ A call b) f H s=_ at h;unfold yfl1 at h;split at h
  .exact ylr0 hb f H s x f' H' s' h hob
  .split at h
   .exact ylr0 hb f H s x f' H' s' h hob
   .exact yqg1 f H s x f' H' s' h hob
 | loop b hb=>exact yhk1 100000 hb
 | rangeFunc g ps asg bo _ _ =>
  intro f H s x f' H' s' h hob;obtain ⟨h1,h2,h3⟩:=yhg1 hcall g ps asg bo (ycg0 A g f) H s x f' H' s' h hob;exact ⟨h1,h2,CT.less h3 (ypg1 A g f)⟩
 | exit id=>exact ygk1 id
 | scope b hb=>exact yfg1 hb
 | label l=>exact yed1 fun _ _ _ _ _ _=>yre2
 | goto l=>exact yfd1 fun _ _ _=>⟨_,rfl⟩
 | ret=>exact yjv1
 | refuse w=>exact yfd1 fun _ _ _=>⟨_,rfl⟩
theorem ybw1 (hg:Good Tryz.prog) {A:Env} (hA:A.ok) {call:CallF} (hc:ylc0 Tryz.prog call):ylc0 Tryz.prog (fnQ A call):=by
 intro fn xs H s e H' s' h hob;have other:evFn Tryz.prog (evQ A call) fn xs H s=.ok (e,H') s'->_:=fun h=>ybf2 hg (fun c=>ywt0 hg A hc c) fn xs H s e H' s' h hob
 unfold fnQ at h;split at h
 .rename_i g;split at h
  .rename_i ent hp;rcases yil1 hA hp h with ⟨h1,h2,h3,h4⟩ | h
   .exact ⟨by rw [h1];exact hob,h2,fun J w c cs hs hl _=>ycf2 hg h3 h4 J w c cs hs hl⟩
   .exact other h
  .exact other h
 .exact other h
theorem ycm0 (hg:Good Tryz.prog) {A:Env} (hA:A.ok):∀ k,ylc0 Tryz.prog (callQ A k)
 | 0=>by intro fn xs H s e H' s' h;cases h
 | k+1=>ybw1 hg hA (ycm0 hg hA k)
end Go.Proofs.YtnpbgnjiihecgaaGreat.Ev.K
