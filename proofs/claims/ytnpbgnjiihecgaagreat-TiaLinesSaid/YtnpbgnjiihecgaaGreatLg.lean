/- Regions whose order is drawn: each order comes to what the text's order comes to. Regions whose order is drawn: the law of the order. Regions whose order is drawn: every order. -/
import Derived.Test.YtnpbgnjiihecgaaGreatLf
namespace Go.Proofs.YtnpbgnjiihecgaaGreat.Ev
open Go
variable {P:Program}
structure Rec where
 f:Fr
 t:Bool
 v:LV
 d:Did
def Wants (ops:Array Oper) (o:Oper) (f:Fr) (t:Bool):Prop :=
 ∀ (n:Nat) (J:Nat->RB) (b:Frame) (tmps:Array Value) (ds:List Deferred) (g:Fr),(∀ j want d,o.guard=some (j,want)->(ops[j]?).bind (·.dst)=some d->g.get d=f.get d)->FRel J n g b tmps ds ->
  Region.wanted o (yielded ops tmps)=t
theorem ywj1 {ops:Array Oper} {o:Oper} {f f1:Fr} {s s1:S} {t:Bool} (h:wanted ops.toList o f s=.ok (t,f1) s1) (hob:s1.ob):s.ob/\Wants ops o f t/\(∀ x,f1.get x=f.get x)/\f1.n=f.n/\f1.fn=f.fn/\f1.marks=f.marks/\f1.round=f.round:=by
 refine ⟨(yjf0 h hob).1,?_,?_⟩
 .intro n J b tmps ds g hg hf
  have:∃ g1,wanted ops.toList o g s=.ok (t,g1) s1:=by
   unfold wanted at h ⊢;cases hgd:o.guard with
   | none=>simp only [hgd] at h ⊢;injection h with h1 h2;injection h1 with h1 _;subst h1;subst h2;exact ⟨g,rfl⟩
   | some p =>
    obtain ⟨j,want⟩:=p;simp only [hgd] at h ⊢;rw [yht0] at h ⊢;cases hd:(ops.toList[j]?).bind (·.dst) with
    | none=>rw [hd] at h;cases h
    | some d =>
     rw [hd] at h;simp only at h ⊢;rw [hg j want d hgd (by rw [<- hd];simp)];unfold wantB at h ⊢;split at h
     .rename_i bb hget;obtain ⟨c,s2,hdb,h⟩:=yag0 h;injection h with h1 h2;injection h1 with h1 _;subst h1;subst h2;rw [hdb];exact ⟨_,rfl⟩
     .injection h with h1 h2;injection h1 with h1 _;subst h1;subst h2;exact ⟨g,rfl⟩
     .cases h
  obtain ⟨g1,hg1⟩:=this;exact ((yjf0 hg1 hob).2 hf).1
 .unfold wanted at h;cases hgd:o.guard with
  | none=>simp only [hgd] at h;injection h with h1 h2;injection h1 with _ h1;subst h1;exact ⟨fun _=>rfl,rfl,rfl,rfl,rfl⟩
  | some p =>
   obtain ⟨j,want⟩:=p;simp only [hgd] at h;cases hd:dstOf ops.toList j with
   | none=>rw [hd] at h;cases h
   | some d =>
    rw [hd] at h;simp only at h;unfold wantB at h;split at h
    .rename_i bb hget;obtain ⟨c,s2,hdb,h⟩:=yag0 h;injection h with h1 h2;injection h1 with _ h1;subst h1;subst h2;obtain ⟨hbc,_⟩:=yyh0 hdb hob;subst hbc;refine ⟨fun x=>?_,rfl,rfl,rfl,rfl⟩;rw [Fr.get_set];split
     .rename_i e;subst e;exact hget.symm
     .rfl
    .injection h with h1 h2;injection h1 with _ h1;subst h1;exact ⟨fun _=>rfl,rfl,rfl,rfl,rfl⟩
    .cases h
def Does (P:Program) (o:Oper) (xs:List LV) (v:LV) (d:Did):Prop :=
 match d.k with
 | .change=>d.a.Le d.b/\∀ f,f.evs (opds o.op)=xs->yiq0 P o f d.a (.val v .change) d.b
 | k=>d.b=d.a/\∀ f H2,f.evs (opds o.op)=xs->(∀ i,k=.load i->H2.get i=d.a.get i)->yiq0 P o f H2 (.val v k) H2
theorem ygn2 (hg:Good P) {call:CallF} (hcall:ylc0 P call) {o:Oper} {f:Fr} {H:Heap} {s s' : S} {v:LV} {k:Kd} {H' : Heap} (h:doOp P call o.op (f.evs (opds o.op)) H s=.ok (.val v k,H') s') (hob:s'.ob) :
  s.ob/\Does P o (f.evs (opds o.op)) v ⟨k,H,H'⟩:=by
 have hs:=yti0 hg hcall h hob;refine ⟨hs.1,?_⟩
 have all:∀ g:Fr,g.evs (opds o.op)=f.evs (opds o.op)->yiq0 P o g H (.val v k) H':=fun g hgg=>by
  have h':=h;rw [<- hgg] at h';exact (yti0 hg hcall h' hob).2.2
 by_cases hk:k=.change
 .subst hk;exact ⟨hs.2.1,all⟩
 ·-- a value alone: the evaluator's own operation said so
  have hlop:lop P o.op (f.evs (opds o.op)) H=some ⟨v,H',k⟩:=by
   unfold doOp at h;split at h
   .cases hc:ydd0 o.op with
    | true =>
     rw [hc] at h;simp only [bc_true] at h;unfold yzt1 at h;split at h
     .obtain ⟨e,s2,_,h⟩:=yag0 h;injection h with h1 h2;injection h1 with h1 _;obtain ⟨e1,e2⟩:=e
      cases e1 <;> simp only [endOf] at h1 <;> first
       | (injection h1 with _ h1;exact absurd h1.symm hk)
       | cases h1
     .cases h
    | false =>
     rw [hc] at h;simp only [bc_false] at h;unfold doLop at h;split at h
     .rename_i r hr;injection h with h1 h2;injection h1 with h1 h3;injection h1 with h1 h4;rw [hr,<- h1,<- h3,<- h4]
     .cases h
   .cases hc:ydd0 o.op with
    | true=>rw [hc] at h;cases h
    | false =>
     rw [hc] at h;simp only [bc_false] at h;injection h with h1 h2;injection h1 with h1 h3;injection h1 with h1 h4;subst h1;subst h3;subst h4;subst h2;exact hob.1
   .rename_i e us ns ds hp;cases hc:ydd0 o.op with
    | false=>rw [hc] at h;cases h
    | true =>
     rw [hc] at h;simp only [bc_true] at h;split at h
     .rcases bcR h with ⟨_,h⟩ | ⟨_,h⟩
      .injection h with h1 h2;injection h1 with h1 _
       cases e <;> simp only [endOf] at h1 <;> first
        | (injection h1 with _ h1;exact absurd h1.symm hk)
        | cases h1
      .cases h
     .cases h
   .rename_i C l ds hp;cases hc:ydd0 o.op with
    | false=>rw [hc] at h;cases h
    | true =>
     rw [hc] at h;simp only [bc_true] at h;split at h
     .rcases bcR h with ⟨_,h⟩ | ⟨_,h⟩
      .injection h with h1 h2;injection h1 with h1 _;revert h1;generalize yyt1 (C.map l H.n) C.e=e0;intro h1
       cases e0 <;> simp only [endOf] at h1 <;> first
        | (injection h1 with _ h1;exact absurd h1.symm hk)
        | cases h1
      .cases h
     .cases h
   .rename_i e ds hp;cases hc:ydd0 o.op with
    | false=>rw [hc] at h;cases h
    | true =>
     rw [hc] at h;simp only [bc_true] at h;split at h
     .rcases bcR h with ⟨_,h⟩ | ⟨_,h⟩
      .injection h with h1 h2;injection h1 with h1 _;revert h1;generalize e=e0;intro h1
       cases e0 <;> simp only [endOf] at h1 <;> first
        | (injection h1 with _ h1;exact absurd h1.symm hk)
        | cases h1
      .cases h
     .cases h
   .rename_i v' ds hp;rcases bcR h with ⟨hc,h⟩ | ⟨hc,h⟩
    .cases h
    .injection h with h1 h2;injection h1 with h1 h3;injection h1 with h1 h4;subst h1;subst h3;subst h4;subst h2;exact hob.1 H
   .rename_i v' i ds hp;rcases bcR h with ⟨hc,h⟩ | ⟨hc,h⟩
    .cases h
    .injection h with h1 h2;injection h1 with h1 h3;injection h1 with h1 h4;subst h1;subst h3;subst h4;subst h2;exact hob.1 H rfl
   .rename_i v' i oo ds hp;rcases bcR h with ⟨hc,h⟩ | ⟨hc,h⟩
    .cases h
    .injection h with h1 h2;injection h1 with h1 h3;injection h1 with h1 h4;subst h1;subst h3;subst h4;subst h2;exact absurd rfl hk
   .cases h
   .cases h
  obtain ⟨he,hind⟩:=yzu1 hlop hk
  have fin:H'=H/\∀ g H2,g.evs (opds o.op)=f.evs (opds o.op)->(∀ i,k=.load i->H2.get i=H.get i)->yiq0 P o g H2 (.val v k) H2:=by
   refine ⟨he,fun g H2 hgg ha=>?_⟩;have:=hind H2 ha;rw [<- hgg] at this;exact ykf0 this
  unfold Does
  cases k <;> first
   | exact absurd rfl hk
   | exact fin
theorem ynu2 {call:CallF} {op:Op} {xs:List LV} {H:Heap} {s s' : S} {v:LV} {k:Kd} {H' : Heap} (hc:ydd0 op=false) (h:doOp P call op xs H s=.ok (.val v k,H') s') (hob:s'.ob):lop P op xs H=some ⟨v,H',k⟩:=by
 unfold doOp at h
 split at h <;> first
  | (rw [hc] at h
     simp only [bc_false] at h
     first
      | (cases h;done)
      | (injection h with h1 h2; injection h1 with h1 h3; injection h1 with h1 h4; subst h1; subst h3; subst h4; subst h2
         first
          | exact hob.1
          | exact hob.1 H
          | exact hob.1 H rfl)
      | (unfold doLop at h
         split at h
         .rename_i r hr;injection h with h1 h2;injection h1 with h1 h3;injection h1 with h1 h4;rw [hr,<- h1,<- h3,<- h4]
         .cases h))
  | (cases h;done)
structure Step1 (P:Program) (ops:Array Oper) (o:Oper) (r:Rec) (n:Nat):Prop where
 want:Wants ops o r.f r.t
 skip:r.t=false->r.v=yfe0/\r.d.k=.pure/\r.d.b=r.d.a
 does:r.t=true->Does P o (r.f.evs (opds o.op)) r.v r.d
 dst:∀ i,o.dst=some i->i<n
 lop:ydd0 o.op=false->r.t=true->lop P o.op (r.f.evs (opds o.op)) r.d.a=some ⟨r.v,r.d.b,r.d.k⟩
def Facts (P:Program) (ops:Array Oper) (n:Nat):List Oper->List Rec->Fr->Heap->Fr->Heap->Prop
 | [],[],f,H,f',H'=>(∀ x,f'.get x=f.get x)/\f'.n=f.n/\f'.fn=f.fn/\f'.marks=f.marks/\f'.round=f.round/\H'=H
 | o::os,r::rs,f,H,f',H'=>(∀ x,r.f.get x=f.get x)/\r.f.n=f.n/\r.f.fn=f.fn/\r.f.marks=f.marks/\r.f.round=f.round/\r.d.a=H/\Step1 P ops o r n /\
   ∃ f1,r.f.put o.dst r.v=some f1/\Facts P ops n os rs f1 r.d.b f' H'
 | _,_,_,_,_,_=>False
theorem put_n {f f1:Fr} {d:Option Tmp} {v:LV} (h:f.put d v=some f1):f1.n=f.n/\f1.fn=f.fn/\f1.marks=f.marks/\f1.round=f.round/\(∀ x,f1.get x=if d=some x then v else f.get x)/\∀ i,d=some i->i<f.n:=by
 unfold Fr.put at h;cases d with
 | none=>injection h with h;subst h;exact ⟨rfl,rfl,rfl,rfl,fun x=>by simp,fun i hi=>by cases hi⟩
 | some i =>
  simp only at h;replace h:=yaa0 h;obtain ⟨hi,h⟩:=h;injection h with h;subst h;refine ⟨rfl,rfl,rfl,rfl,fun x=>?_,fun j hj=>by injection hj with hj;subst hj;exact bltN.1 hi⟩;rw [Fr.get_set];simp only [Option.some.injEq]
theorem yqg0 (hg:Good P) {call:CallF} (hcall:ylc0 P call) (ops:Array Oper) (n:Nat):∀ (l:List Oper) (f:Fr) (H:Heap) (s:S) (f' : Fr) (H' : Heap) (dl:List Did) (s' : S),f.n=n ->
  ykf1 P call ops.toList l f H s=.ok (f',H',dl) s'->s'.ob->s.ob/\∃ rs,rs.map Rec.d=dl/\Facts P ops n l rs f H f' H'
 | [],f,H,s,f',H',dl,s',hn,h,hob=>by
  injection h with h1 h2;injection h1 with h1 h3;injection h3 with h3 h4;subst h1;subst h2;subst h3;subst h4;exact ⟨hob,[],rfl,fun _=>rfl,rfl,rfl,rfl,rfl,rfl⟩
 | o::l,f,H,s,f',H',dl,s',hn,h,hob=>by
  change (wanted ops.toList o f s).bnd _=_ at h;obtain ⟨⟨t,f1⟩,s1,hw,h⟩:=yag0 h;simp only at h;rcases bcR h with ⟨ht,h⟩ | ⟨ht,h⟩
  .obtain ⟨⟨e,H1⟩,s2,hop,h⟩:=yag0 h;simp only at h;cases e with
   | pan v=>cases h
   | val v kd =>
    simp only [ybi1] at h;obtain ⟨f2,hput,h⟩:=yxc1 h;obtain ⟨⟨f3,H3,dl3⟩,s3,hnext,h⟩:=yag0 h;simp only at h;injection h with h1 h2;injection h1 with h1 h3;injection h3 with h3 h4;subst h1;subst h2;subst h3;subst h4;have hp:=put_n hput
    have hs2:s2.ob:=by
     have:=yqg0 hg hcall ops f2.n l f2 H1 s2 f3 H3 dl3 s3 rfl hnext hob;exact this.1
    obtain ⟨hs1,hdoes⟩:=ygn2 hg hcall hop hs2;obtain ⟨hs0,hwant,hget,hn1,hfn1,hm1,hr1⟩:=ywj1 hw hs1;obtain ⟨_,rs,hrs,hfacts⟩:=yqg0 hg hcall ops n l f2 H1 s2 f3 H3 dl3 s3 (by rw [hp.1,hn1,hn]) hnext hob;refine ⟨hs0,⟨f1,t,v,⟨kd,H,H1⟩⟩::rs,by simp [hrs],hget,hn1,hfn1,hm1,hr1,rfl,⟨?_,?_,fun _=>hdoes,?_,fun hnc _=>ynu2 hnc hop hs2⟩,f2,hput,hfacts⟩
    .intro n' J b tmps ds g hgg hf;exact hwant n' J b tmps ds g (fun j want d h1 h2=>(hgg j want d h1 h2).trans (hget d)) hf
    .intro hf;rw [ht] at hf;cases hf
    .intro i hi;exact Nat.lt_of_lt_of_eq (hp.2.2.2.2.2 i hi) (hn1.trans hn)
  .obtain ⟨f2,hput,h⟩:=yxc1 h;obtain ⟨⟨f3,H3,dl3⟩,s3,hnext,h⟩:=yag0 h;simp only at h;injection h with h1 h2;injection h1 with h1 h3;injection h3 with h3 h4;subst h1;subst h2;subst h3;subst h4;have hp:=put_n hput;have hs1:s1.ob:=(yqg0 hg hcall ops f2.n l f2 H s1 f3 H3 dl3 s3 rfl hnext hob).1;obtain ⟨hs0,hwant,hget,hn1,hfn1,hm1,hr1⟩:=ywj1 hw hs1;obtain ⟨_,rs,hrs,hfacts⟩:=yqg0 hg hcall ops n l f2 H s1 f3 H3 dl3 s3 (by rw [hp.1,hn1,hn]) hnext hob;refine ⟨hs0,⟨f1,t,yfe0,⟨.pure,H,H⟩⟩::rs,by simp [hrs],hget,hn1,hfn1,hm1,hr1,rfl,⟨?_,?_,?_,?_,fun _ h=>by rw [ht] at h;cases h⟩,f2,hput,hfacts⟩
   .intro n' J b tmps ds g hgg hf;exact hwant n' J b tmps ds g (fun j want d h1 h2=>(hgg j want d h1 h2).trans (hget d)) hf
   .intro _;exact ⟨rfl,rfl,rfl⟩
   .intro hf;rw [ht] at hf;cases hf
   .intro i hi;exact Nat.lt_of_lt_of_eq (hp.2.2.2.2.2 i hi) (hn1.trans hn)
def VS (os:List Oper) (rs:List Rec) (S:Nat->Bool) (f0:Nat->LV):Nat->Nat->LV
 | 0,t=>f0 t
 | k+1,t=>match os[k]?,rs[k]? with
  | some o,some r=>if S k=true/\o.dst=some t then r.v else VS os rs S f0 k t
  | _,_=>VS os rs S f0 k t
def HS (rs:List Rec) (S:Nat->Bool) (H0:Heap):Nat->Heap
 | 0=>H0
 | k+1=>match rs[k]? with
  | some r=>match r.d.k with
   | .change=>if S k=true then r.d.b else HS rs S H0 k
   | _=>HS rs S H0 k
  | none=>HS rs S H0 k
end Go.Proofs.YtnpbgnjiihecgaaGreat.Ev
namespace Go.Proofs.YtnpbgnjiihecgaaGreat.Ev
open Go
variable {P:Program}
theorem yzl0 (acc:List Nat) (Q:Nat->Prop):∀ (es:List Edge) (b:Nat),(∀ e,e∈es->Region.binds .any e=true->Q e.on/\∀ j,(acc.getD e.on 0).testBit j=true->Q j)->(∀ j,b.testBit j=true->Q j) ->
  ∀ j,(bitsOf acc es b).testBit j=true->Q j
 | [],b,_,hb,j,h=>hb j h
 | e::es,b,hes,hb,j,h=>by
  refine yzl0 acc Q es _ (fun e' h'=>hes e' (by simp [h'])) ?_ j h;intro j' hj';cases hbd:Region.binds .any e with
  | false=>rw [hbd] at hj';exact hb j' hj'
  | true =>
   rw [hbd] at hj';obtain ⟨h1,h2⟩:=hes e (by simp) hbd;simp only [bc_true,Nat.testBit_or,Bool.or_eq_true] at hj';rcases hj' with (hj' | hj') | hj'
   .exact hb j' hj'
   .rw [Nat.testBit_two_pow] at hj';have:e.on=j':=by simpa using hj'
    rw [<- this];exact h1
   .exact h2 j' hj'
theorem ywk0:∀ (os:List Oper) (acc:List Nat),∃ l2,yug0 os acc=acc++l2/\l2.length=os.length /\
  ∀ k o,os[k]?=some o->(acc++l2)[acc.length+k]?=some (bitsOf ((acc++l2).take (acc.length+k)) o.after.toList 0)
 | [],acc=>⟨[],by simp [yug0],rfl,fun k o h=>by simp at h⟩
 | o::os,acc=>by
  obtain ⟨l2,he,hl,hs⟩:=ywk0 os (acc++[bitsOf acc o.after.toList 0]);refine ⟨bitsOf acc o.after.toList 0::l2,?_,by simp [hl],?_⟩
  .rw [yug0,app_eq,he];simp
  .intro k o' h;cases k with
   | zero =>
    simp only [List.getElem?_cons_zero,Option.some.injEq] at h;subst h;simp
   | succ k =>
    simp only [List.getElem?_cons_succ] at h;have:=hs k o' h;simp only [List.append_assoc,List.cons_append,List.nil_append,List.length_append,List.length_cons,List.length_nil] at this;rw [show acc.length+(k+1)=acc.length+(0+1)+k by omega];exact this
theorem yqj0 (os:List Oper):(ygd0 os).length=os.length/\∀ k o,os[k]?=some o->(ygd0 os)[k]?=some (bitsOf ((ygd0 os).take k) o.after.toList 0):=by
 obtain ⟨l2,he,hl,hs⟩:=ywk0 os [];have:ygd0 os=l2:=by rw [ygd0,he];simp
 rw [this];refine ⟨hl,fun k o h=>?_⟩;have:=hs k o h;simpa using this
def Ahead (os:List Oper) (j i:Nat):Prop:=∃ m,(ygd0 os)[i]?=some m/\m.testBit j=true
def Down (os:List Oper) (S:Nat->Prop):Prop:=∀ i,S i->∀ j,Ahead os j i->S j
theorem ycg1 {os:List Oper} {S:Nat->Prop} (hS:Down os S) {i:Nat} {o:Oper} (ho:os[i]?=some o) (hr:∀ e,e∈o.after.toList->Region.binds .any e=true->S e.on) {j:Nat} (h:Ahead os j i):S j:=by
 obtain ⟨m,hm,hj⟩:=h;rw [(yqj0 os).2 i o ho] at hm;injection hm with hm;subst hm;refine yzl0 _ S _ 0 ?_ (by simp) j hj;intro e he hb;refine ⟨hr e he hb,fun j' hj'=>?_⟩;have hSe:=hr e he hb;refine hS _ hSe j' ?_;rw [List.getD_eq_getElem?_getD,List.getElem?_take] at hj';split at hj'
 .cases hg:(ygd0 os)[e.on]? with
  | none=>rw [hg] at hj';simp at hj'
  | some m'=>rw [hg] at hj';exact ⟨m',hg,by simpa using hj'⟩
 .simp at hj'
theorem ych0:∀ (os:List Oper) (i:Nat),yrf0 os i=true->∀ k o,os[k]?=some o->∀ e,e∈o.after.toList->Region.binds .any e=true->e.on<i+k
 | [],_,_,k,o,ho=>by simp at ho
 | o'::os,i,h,k,o,ho=>by
  simp only [yrf0,Bool.and_eq_true,List.all_eq_true] at h;cases k with
  | zero =>
   simp only [List.getElem?_cons_zero,Option.some.injEq] at ho;subst ho;intro e he hb;have:=h.1 e he;rw [hb] at this;simp only [Bool.not_true,Bool.false_or] at this;exact bltN.1 this
  | succ k =>
   simp only [List.getElem?_cons_succ] at ho;intro e he hb;have:=ych0 os (i+1) h.2 k o ho e he hb;omega
theorem yfr0 (ops:List Oper) (y:Oper) (m:Nat):∀ (l:List Oper) (i:Nat),yci1 ops y m l i=true->∀ k x,l[k]?=some x->tied ops x y=true->m.testBit (i+k)=true
 | [],_,_,k,x,hx=>by simp at hx
 | x'::l,i,h,k,x,hx=>by
  simp only [yci1,Bool.and_eq_true,Bool.or_eq_true,Bool.not_eq_true'] at h;intro ht;cases k with
  | zero =>
   simp only [List.getElem?_cons_zero,Option.some.injEq] at hx;subst hx;rcases h.1 with h | h
   .rw [ht] at h;cases h
   .exact h
  | succ k =>
   simp only [List.getElem?_cons_succ] at hx;have:=yfr0 ops y m l (i+1) h.2 k x hx ht
   rwa [show i+(k+1)=i+1+k by omega]
theorem ygr0 (ops:List Oper):∀ (ys:List Oper) (ms:List Nat) (done:List Oper),ydi1 ops done ys ms=true->∀ k y,ys[k]?=some y->∃ m,ms[k]?=some m/\yci1 ops y m (done++ys.take k) 0=true
 | [],_,_,_,k,y,hy=>by simp at hy
 | y'::ys,[],_,h,_,_,_=>by simp [ydi1] at h
 | y'::ys,m::ms,done,h,k,y,hy=>by
  simp only [ydi1,Bool.and_eq_true] at h;cases k with
  | zero =>
   simp only [List.getElem?_cons_zero,Option.some.injEq] at hy;subst hy;exact ⟨m,rfl,by simpa using h.1⟩
  | succ k =>
   simp only [List.getElem?_cons_succ] at hy ⊢;rw [app_eq] at h;obtain ⟨m',h1,h2⟩:=ygr0 ops ys ms _ h.2 k y hy;exact ⟨m',h1,by simpa using h2⟩
theorem yvx0 (lt:Bool) (y:Did) (m:Nat):∀ (l:List Did) (i:Nat),didOk lt y m l i=true->∀ k x,l[k]?=some x->m.testBit (i+k)=true\/yff0 x y=true\/(lt=true/\yjd0 x y=true)
 | [],_,_,k,x,hx=>by simp at hx
 | x'::l,i,h,k,x,hx=>by
  unfold didOk at h;rw [Bool.and_eq_true,Bool.or_eq_true,Bool.or_eq_true,Bool.and_eq_true] at h;cases k with
  | zero =>
   simp only [List.getElem?_cons_zero,Option.some.injEq] at hx;subst hx;exact h.1
  | succ k =>
   simp only [List.getElem?_cons_succ] at hx;have:=yvx0 lt y m l (i+1) h.2 k x hx
   rwa [show i+(k+1)=i+1+k by omega]
theorem yhr0 (late:Nat):∀ (ys:List Did) (ms:List Nat) (done:List Did),ynk0 late done ys ms=true->∀ k y,ys[k]?=some y->∃ m,ms[k]?=some m/\didOk (Nat.testBit late (done.length+k)) y m (done++ys.take k) 0=true
 | [],_,_,_,k,y,hy=>by simp at hy
 | y'::ys,[],_,h,_,_,_=>by simp [ynk0] at h
 | y'::ys,m::ms,done,h,k,y,hy=>by
  simp only [ynk0,Bool.and_eq_true] at h;cases k with
  | zero =>
   simp only [List.getElem?_cons_zero,Option.some.injEq] at hy;subst hy;refine ⟨m,rfl,?_⟩;have:=h.1;rw [lenL_eq] at this;simpa using this
  | succ k =>
   simp only [List.getElem?_cons_succ] at hy ⊢;rw [app_eq] at h;obtain ⟨m',h1,h2⟩:=yhr0 late ys ms _ h.2 k y hy;refine ⟨m',h1,?_⟩;rw [show done.length+(k+1)=(done++[y']).length+k by simp;omega];simpa using h2
theorem yka1:∀ (l:List Nat) (t:Nat),hasN l t=true↔t∈l
 | [],t=>by simp [hasN]
 | x::l,t=>by
  have ih:=yka1 l t;simp only [hasN,List.mem_cons];cases h:Nat.beq x t with
  | true=>have:=beqN h;subst this;simp
  | false =>
   have:=yxb0 h;simp only [bc_false,ih];constructor
   .exact .inr
   .rintro (h | h)
    .exact absurd h.symm this
    .exact h
theorem yai0 {os:List Oper} (h:yvg0 os=true) {i j:Nat} {x y:Oper} (hx:os[i]?=some x) (hy:os[j]?=some y) (hij:i<j) (ht:tied os x y=true):Ahead os i j:=by
 simp only [yvg0,Bool.and_eq_true] at h;obtain ⟨m,hm,hk⟩:=ygr0 os os _ [] h.2 j y hy;refine ⟨m,hm,?_⟩;have:=yfr0 os y m _ 0 hk i x (by simp [hij,hx]) ht;simpa using this
theorem yad1 {late:Nat} {os:List Oper} {ds:List Did} (h:ynk0 late [] ds (ygd0 os)=true) {i j:Nat} {x y:Did} (hx:ds[i]?=some x) (hy:ds[j]?=some y) (hij:i<j) :
  Ahead os i j\/yff0 x y=true\/(late.testBit j=true/\yjd0 x y=true):=by
 obtain ⟨m,hm,hk⟩:=yhr0 late ds _ [] h j y hy;rcases yvx0 _ y m _ 0 hk i x (by simp [hij,hx]) with h | h | h
 .exact .inl ⟨m,hm,by simpa using h⟩
 .exact .inr (.inl h)
 .exact .inr (.inr ⟨by have:=h.1;simpa using this,h.2⟩)
theorem ylf0 {late:Nat} {os:List Oper} {ds:List Did} (h:ynk0 late [] ds (ygd0 os)=true) {i j:Nat} {x y:Did} (hx:ds[i]?=some x) (hy:ds[j]?=some y) (hij:i<j) (hkx:x.k=.change) (hky:y.k=.change):Ahead os i j\/late.testBit j=true:=by
 rcases yad1 h hx hy hij with h | h | h
 .exact .inl h
 .simp [yff0,hkx,hky] at h
 .exact .inr h.1
theorem yir0 {late:Nat} {os:List Oper} {ds:List Did} (h:ynk0 late [] ds (ygd0 os)=true) {i j:Nat} {x y:Did} (hx:ds[i]?=some x) (hy:ds[j]?=some y) (hij:i<j) (hk:(∃ b,x.k=.load b)\/∃ b,y.k=.load b):Ahead os i j\/yff0 x y=true:=by
 rcases yad1 h hx hy hij with h | h | h
 .exact .inl h
 .exact .inr h
 .have h:=h.2;unfold yjd0 at h;rcases hk with ⟨b,hk⟩ | ⟨b,hk⟩ <;> rw [hk] at h
  .cases h
  .revert h;cases x.k <;> intro h <;> cases h
theorem yla1 {o:Oper} (h:yei1 o=true):∃ t d,o.op=.alloc t/\o.guard=none/\o.dst=some d:=by
 unfold yei1 at h;split at h
 .rename_i t ht;split at h
  .rename_i hg;split at h
   .rename_i d hd;exact ⟨t,d,ht,hg,hd⟩
   .cases h
  .cases h
 .cases h
theorem yto0 {o:Oper} (h:yzm0 o=true):o.guard=none/\(∃ d,o.dst=some d)/\((∃ t,o.op=.alloc t)\/∃ t l c,o.op=.makeSlice t l c):=by
 unfold yzm0 at h;rw [Bool.or_eq_true] at h;rcases h with h | h
 .obtain ⟨t,d,h1,h2,h3⟩:=yla1 h;exact ⟨h2,⟨d,h3⟩,.inl ⟨t,h1⟩⟩
 .unfold yom2 at h;split at h
  .rename_i t l c ht;split at h
   .rename_i hg;split at h
    .rename_i d hd;exact ⟨hg,⟨d,hd⟩,.inr ⟨t,l,c,ht⟩⟩
    .cases h
   .cases h
  .cases h
theorem ybn0 (ms:List Nat):∀ (os:List Oper) (i j:Nat),(yeo0 ms os i).testBit j=true->∃ o,i<=j/\os[j-i]?=some o/\yzm0 o=true/\ms.all (ynq0 j)=true
 | [],i,j,h=>by simp [yeo0] at h
 | o::os,i,j,h=>by
  have h:(bc (yzm0 o&&ms.all (ynq0 i)) (2 ^ i) 0 ||| yeo0 ms os (i+1)).testBit j=true:=h;rw [Nat.testBit_or,Bool.or_eq_true] at h;rcases h with h | h
  .cases hb:(yzm0 o&&ms.all (ynq0 i)) with
   | false=>rw [hb,bc_false] at h;simp at h
   | true =>
    rw [hb,bc_true,Nat.testBit_two_pow] at h;have e:i=j:=by simpa using h
    subst e;rw [Bool.and_eq_true] at hb;exact ⟨o,Nat.le_refl _,by simp,hb.1,hb.2⟩
  .obtain ⟨o',h1,h2,h3⟩:=ybn0 ms os (i+1) j h;refine ⟨o',by omega,?_,h3⟩;rw [show j-i=(j-(i+1))+1 by omega];simpa using h2
theorem yxj1 {os:List Oper} {i:Nat} (hm:(ygd0 os).all (ynq0 i)=true):∀ j,Ahead os i j->∀ k,k<i->Ahead os k j:=by
 rintro j ⟨m,hm1,hm2⟩ k hk
 refine ⟨m,hm1,?_⟩;rw [List.all_eq_true] at hm;have:=hm m (List.mem_of_getElem? hm1);unfold ynq0 at this;rw [hm2] at this;simp only [Bool.not_true,Bool.false_or] at this;have:=beqN this;have hb:=congrArg (fun x=>x.testBit k) this;simp only [Nat.testBit_and,Nat.testBit_two_pow_sub_one] at hb;simpa [hk] using hb
theorem yav1 (os:List Oper) {i:Nat} (h:(ygg0 os).testBit i=true):∃ o,os[i]?=some o/\yzm0 o=true/\∀ j,Ahead os i j->∀ k,k<i->Ahead os k j:=by
 obtain ⟨o,_,h2,h3,h4⟩:=ybn0 (ygd0 os) os 0 i h;exact ⟨o,by simpa using h2,h3,yxj1 h4⟩
theorem yte2 {os:List Oper} (h:yrf0 os 0=true):∀ i j,Ahead os j i->j<i:=by
 intro i
 induction i using Nat.strongRecOn with
 | _ i ih =>
  rintro j ⟨m,hm,hj⟩
  have hi:i<os.length:=by
   rw [<- (yqj0 os).1];exact (List.getElem?_eq_some_iff.1 hm).1
  have ho:os[i]?=some os[i]:=by simp [hi]
  rw [(yqj0 os).2 i _ ho] at hm;injection hm with hm;subst hm;refine yzl0 _ (fun j=>j<i) _ 0 ?_ (by simp) j hj;intro e he hb;have hlt:=ych0 os 0 h i _ ho e he hb;refine ⟨by omega,fun j' hj'=>?_⟩;rw [List.getD_eq_getElem?_getD,List.getElem?_take] at hj';split at hj'
  .cases hg:(ygd0 os)[e.on]? with
   | none=>rw [hg] at hj';simp at hj'
   | some m' =>
    rw [hg] at hj';have:=ih e.on (by omega) j' ⟨m',hg,by simpa using hj'⟩;omega
  .simp at hj'
structure Run (P:Program) (ops:Array Oper) (n:Nat) (rs:List Rec) (f0:Fr) (H0:Heap) (f' : Fr) (H' : Heap):Prop where
 at_:∀ i o,ops[i]?=some o->∃ r,rs[i]?=some r/\(∀ x,r.f.get x=VS ops.toList rs (fun _=>true) f0.get i x)/\r.d.a=HS rs (fun _=>true) H0 i/\r.d.b=HS rs (fun _=>true) H0 (i+1)/\Step1 P ops o r n
 get:∀ x,f'.get x=VS ops.toList rs (fun _=>true) f0.get ops.size x
 heap:H'=HS rs (fun _=>true) H0 ops.size
 n:f'.n=f0.n
 fn:f'.fn=f0.fn
 marks:f'.marks=f0.marks
 round:f'.round=f0.round
theorem yrb2 {ops:Array Oper} {o:Oper} {r:Rec} {n:Nat} (h:Step1 P ops o r n) (hk:r.d.k≠.change):r.d.b=r.d.a:=by
 cases ht:r.t with
 | false=>exact (h.skip ht).2.2
 | true =>
  have:=h.does ht;unfold Does at this;split at this
  .rename_i e;exact absurd e hk
  .exact this.1
theorem yuo0 {ops:Array Oper} {n:Nat} {rs0:List Rec} {f0:Fr} {H0:Heap} {f' : Fr} {H' : Heap} : ∀ (l:List Oper) (i:Nat) (rs:List Rec) (f:Fr) (H:Heap),ops.toList.drop i=l->rs0.drop i=rs ->
  i+l.length=ops.size ->
  (∀ x,f.get x=VS ops.toList rs0 (fun _=>true) f0.get i x)->H=HS rs0 (fun _=>true) H0 i->f.n=f0.n->f.fn=f0.fn->f.marks=f0.marks->f.round=f0.round->Facts P ops n l rs f H f' H' ->
  (∀ j o,i<=j->ops[j]?=some o->∃ r,rs0[j]?=some r/\(∀ x,r.f.get x=VS ops.toList rs0 (fun _=>true) f0.get j x)/\r.d.a=HS rs0 (fun _=>true) H0 j/\r.d.b=HS rs0 (fun _=>true) H0 (j+1)/\Step1 P ops o r n) /\
  (∀ x,f'.get x=VS ops.toList rs0 (fun _=>true) f0.get ops.size x)/\H'=HS rs0 (fun _=>true) H0 ops.size/\f'.n=f0.n/\f'.fn=f0.fn/\f'.marks=f0.marks/\f'.round=f0.round
 | [],i,rs,f,H,hd,hr,hl,hg,hH,hn,hfn,hm,hrd,hfacts=>by
  cases rs with
  | cons _ _=>exact hfacts.elim
  | nil =>
   obtain ⟨h1,h2,h3,h4,h5,h6⟩:=hfacts;have hi:i=ops.size:=by simpa using hl
   refine ⟨?_,?_,?_,?_,?_,?_,?_⟩
   .intro j o hj ho;have:=(Array.getElem?_eq_some_iff.1 ho).1;omega
   .intro x;rw [h1,hg,hi]
   .rw [h6,hH,hi]
   .rw [h2,hn]
   .rw [h3,hfn]
   .rw [h4,hm]
   .rw [h5,hrd]
 | o::l,i,rs,f,H,hd,hr,hl,hg,hH,hn,hfn,hm,hrd,hfacts=>by
  cases rs with
  | nil=>exact hfacts.elim
  | cons r rs =>
   obtain ⟨h1,h2,h3,h4,h5,h6,h7,f1,hput,hnext⟩:=hfacts
   have ho:ops.toList[i]?=some o:=by
    have:(ops.toList.drop i)[0]?=some o:=by rw [hd];rfl
    rw [List.getElem?_drop] at this;simpa using this
   have hri:rs0[i]?=some r:=by
    have:(rs0.drop i)[0]?=some r:=by rw [hr];rfl
    rw [List.getElem?_drop] at this;simpa using this
   have hp:=put_n hput
   have hb:r.d.b=HS rs0 (fun _=>true) H0 (i+1):=by
    simp only [HS,hri,if_true];split
    .rfl
    .rename_i hk;rw [yrb2 h7 hk,h6,hH]
   have hrest:=yuo0 l (i+1) rs f1 r.d.b (by rw [<- List.tail_drop,hd];rfl) (by rw [<- List.tail_drop,hr];rfl) (by simp at hl;omega) (fun x=>by
    rw [hp.2.2.2.2.1 x];simp only [VS,ho,hri,true_and];split
    .rfl
    .rw [h1,hg]) hb (by rw [hp.1,h2,hn]) (by rw [hp.2.1,h3,hfn]) (by rw [hp.2.2.1,h4,hm]) (by rw [hp.2.2.2.1,h5,hrd]) hnext
   refine ⟨?_,hrest.2⟩;intro j o' hj ho';by_cases hij:j=i
   .subst hij
    have:o'=o:=by
     rw [<- Array.getElem?_toList] at ho';rw [ho'] at ho;injection ho
    subst this;exact ⟨r,hri,fun x=>by rw [h1,hg],by rw [h6,hH],hb,h7⟩
   .exact hrest.1 j o' (by omega) ho'
theorem yue2 (hg:Good P) {call:CallF} (hcall:ylc0 P call) {ops:Array Oper} {f:Fr} {H:Heap} {s:S} {f' : Fr} {H' : Heap} {dl:List Did} {s' : S}
  (h:ykf1 P call ops.toList ops.toList f H s=.ok (f',H',dl) s') (hob:s'.ob):s.ob/\∃ rs,rs.map Rec.d=dl/\Run P ops f.n rs f H f' H':=by
 obtain ⟨h1,rs,h2,h3⟩:=yqg0 hg hcall ops f.n ops.toList f H s f' H' dl s' rfl h hob;refine ⟨h1,rs,h2,?_⟩;have:=yuo0 (P:=P) (rs0:=rs) (f0:=f) (H0:=H) ops.toList 0 rs f H rfl rfl (by simp) (fun _=>rfl) rfl rfl rfl rfl rfl h3;exact ⟨fun i o ho=>this.1 i o (Nat.zero_le _) ho,this.2.1,this.2.2.1,this.2.2.2.1,this.2.2.2.2.1,this.2.2.2.2.2.1,this.2.2.2.2.2.2⟩
end Go.Proofs.YtnpbgnjiihecgaaGreat.Ev
namespace Go.Proofs.YtnpbgnjiihecgaaGreat.Ev
open Go
variable {P:Program}
theorem FRel.congr {J:Nat->RB} {n:Nat} {f g:Fr} {b:Frame} {tmps:Array Value} {ds:List Deferred} (h:FRel J n f b tmps ds) (hg:∀ x,g.get x=f.get x) (hn:g.n=f.n) (hfn:g.fn=f.fn) (hm:g.marks=f.marks) (hr:g.round=f.round):FRel J n g b tmps ds where
 wf:=fun i=>by have:=h.wf i;rw [show g.t.get .junk i=f.t.get .junk i from hg i];exact this
 marks:=by rw [hm];exact h.marks
 inRound:=by rw [hr];exact h.inRound
 fn:=by rw [hfn];exact h.fn
 size:=by rw [hn];exact h.size
 t:=fun i=>by have:=h.t i;rw [show g.t.get .junk i=f.t.get .junk i from hg i];exact this
 ds:=by rw [hm];exact h.ds
 round:=by rw [hr];exact h.round
theorem ykt0 (os:List Oper) (rs:List Rec) (f0:Nat->LV) (t:Nat) {S T:Nat->Bool} : ∀ k,(∀ j o,j<k->os[j]?=some o->o.dst=some t->S j=T j)->VS os rs S f0 k t=VS os rs T f0 k t
 | 0,_=>rfl
 | k+1,h=>by
  have ih:=ykt0 os rs f0 t k fun j o hj=>h j o (by omega)
  simp only [VS];cases ho:os[k]? with
  | none=>exact ih
  | some o =>
   cases hr:rs[k]? with
   | none=>exact ih
   | some r =>
    simp only;by_cases hd:o.dst=some t
    .rw [h k o (by omega) ho hd,ih]
    .simp only [hd,and_false,if_false];exact ih
theorem ybd1 (os:List Oper) (rs:List Rec) (f0:Nat->LV) (t:Nat) {S:Nat->Bool} {i:Nat} : ∀ k,i<=k->(∀ j o,i<=j->j<k->os[j]?=some o->o.dst=some t->S j=false)->VS os rs S f0 k t=VS os rs S f0 i t
 | 0, hi, _ => by have : i = 0 := by omega
                  subst this;rfl
 | k+1,hi,h=>by
  by_cases hik:i=k+1
  .subst hik;rfl
  .have ih:=ybd1 os rs f0 t (S:=S) (i:=i) k (by omega) fun j o h1 h2=>h j o h1 (by omega)
   simp only [VS];cases ho:os[k]? with
   | none=>exact ih
   | some o =>
    cases hr:rs[k]? with
    | none=>exact ih
    | some r =>
     simp only;by_cases hd:o.dst=some t
     .rw [h k o (by omega) (by omega) ho hd];simp only [Bool.false_eq_true,false_and,if_false];exact ih
     .simp only [hd,and_false,if_false];exact ih
theorem yam0 (rs:List Rec) (H0:Heap) {S T:Nat->Bool} : ∀ k,(∀ j r,j<k->rs[j]?=some r->r.d.k=.change->S j=T j)->HS rs S H0 k=HS rs T H0 k
 | 0,_=>rfl
 | k+1,h=>by
  have ih:=yam0 rs H0 k fun j r hj=>h j r (by omega)
  simp only [HS];cases hr:rs[k]? with
  | none=>exact ih
  | some r =>
   simp only;split
   .rename_i hk;rw [h k r (by omega) hr hk,ih]
   .exact ih
theorem ywx0 (rs:List Rec) (H0:Heap) {S:Nat->Bool} {i:Nat} : ∀ k,i<=k->(∀ j r,i<=j->j<k->rs[j]?=some r->r.d.k=.change->S j=false)->HS rs S H0 k=HS rs S H0 i
 | 0, hi, _ => by have : i = 0 := by omega
                  subst this;rfl
 | k+1,hi,h=>by
  by_cases hik:i=k+1
  .subst hik;rfl
  .have ih:=ywx0 rs H0 (S:=S) (i:=i) k (by omega) fun j r h1 h2=>h j r h1 (by omega)
   simp only [HS];cases hr:rs[k]? with
   | none=>exact ih
   | some r =>
    simp only;split
    .rename_i hk;rw [h k r (by omega) (by omega) hr hk];simp only [Bool.false_eq_true,if_false];exact ih
    .exact ih
structure Checks (ops:Array Oper) (rs:List Rec):Prop where
 region:yvg0 ops.toList=true
 dids:ynk0 (ygg0 ops.toList) [] (rs.map Rec.d) (ygd0 ops.toList)=true
def Norm (L:Nat) (S:Nat->Bool):Prop:=∀ i,L.testBit i=true->S i=true->∀ j,j<i->S j=true
section
variable {ops:Array Oper} {n:Nat} {rs:List Rec} {f0:Fr} {H0:Heap} {f' : Fr} {H' : Heap} {S:Nat->Bool}
theorem ycd1 (hc:Checks ops rs) (hS:Down ops.toList fun i=>S i=true) {i:Nat} {o:Oper} (ho:ops.toList[i]?=some o) (hi:S i=false) (hr:∀ j,Ahead ops.toList j i->S j=true) (hin:i<=ops.size)
  {t:Nat} (ht:hasN (looks ops.toList o) t=true):VS ops.toList rs S f0.get ops.size t=VS ops.toList rs (fun _=>true) f0.get i t:=by
 rw [ybd1 ops.toList rs f0.get t ops.size hin,ykt0]
 .intro j o' hj ho' hd;refine hr j (yai0 hc.region ho' ho hj ?_);simp [tied,hd,ht]
 .intro j o' hij hj ho' hd;by_cases hji:j=i
  .subst hji;exact hi
  .cases hSj:S j with
   | false=>rfl
   | true =>
    have:=hS j hSj i (yai0 hc.region ho ho' (by omega) (by simp [tied,hd,ht]));exact absurd (show S i=true from this) (by simp [hi])
theorem yvd0 {i:Nat} {r:Rec} (h:rs[i]?=some r):(rs.map Rec.d)[i]?=some r.d:=by simp [h]
theorem ybv1 (hc:Checks ops rs) (hS:Down ops.toList fun i=>S i=true) {i:Nat} {r:Rec} (hri:rs[i]?=some r) (hk:r.d.k=.change) (hi:S i=false) (hr:∀ j,Ahead ops.toList j i->S j=true) (hin:i<=ops.size)
  (hN:Norm (ygg0 ops.toList) S) (hiL:(ygg0 ops.toList).testBit i=true->∀ j,j<i->S j=true):HS rs S H0 ops.size=HS rs (fun _=>true) H0 i:=by
 rw [ywx0 rs H0 ops.size hin,yam0]
 .intro j r' hj hrj hkj;rcases ylf0 hc.dids (yvd0 hrj) (yvd0 hri) hj hkj hk with h | h
  .exact hr j h
  .exact hiL h j hj
 .intro j r' hij hj hrj hkj;by_cases hji:j=i
  .subst hji;exact hi
  .cases hSj:S j with
   | false=>rfl
   | true =>
    have:S i=true:=by
     rcases ylf0 hc.dids (yvd0 hri) (yvd0 hrj) (by omega) hk hkj with h | h
     .exact hS j hSj i h
     .exact hN j h hSj i (by omega)
    exact absurd this (by simp [hi])
theorem yma1 {o:Oper} {r:Rec} (h:Step1 P ops o r n) (hk:r.d.k=.change):r.d.a.Le r.d.b:=by
 cases ht:r.t with
 | false=>have:=(h.skip ht).2.1;rw [hk] at this;cases this
 | true =>
  have:=h.does ht;unfold Does at this;rw [hk] at this;exact this.1
theorem ycv1 (hc:Checks ops rs) (hrun:Run P ops n rs f0 H0 f' H') (hS:Down ops.toList fun i=>S i=true) {i:Nat} {r:Rec} {x:Nat} (hri:rs[i]?=some r) (hk:r.d.k=.load x) (hi:S i=false)
  (hr:∀ j,Ahead ops.toList j i->S j=true) (hin:i<ops.size) (hN:Norm (ygg0 ops.toList) S):(HS rs S H0 ops.size).get x=(HS rs (fun _=>true) H0 i).get x:=by
 have low:∀ k,k<=i->(HS rs S H0 k).get x=(HS rs (fun _=>true) H0 k).get x:=by
  intro k
  induction k with
  | zero=>intro _;rfl
  | succ k ih =>
   intro hki;have ih:=ih (by omega);obtain ⟨o,ho⟩ : ∃ o,ops[k]?=some o:=⟨ops[k]'(by omega),by simp⟩;obtain ⟨r',hr',_,ha,hb,h1⟩:=hrun.at_ k o ho;simp only [HS,hr',if_true];split
   .rename_i hkk;cases hSk:S k with
    | true=>rfl
    | false =>
     simp only [Bool.false_eq_true,if_false];rw [ih,<- ha];have hcr:=(yir0 hc.dids (yvd0 hr') (yvd0 hri) hki (.inr ⟨x,hk⟩)).resolve_left fun h=>by have:=hr k h;rw [hSk] at this;cases this
     simp only [yff0,hkk,hk,Bool.and_eq_true] at hcr;exact ((yma1 h1 hkk).same x (bltN.1 hcr.1) (beqN hcr.2).symm).symm
   .exact ih
 have high:∀ k,i<=k->k<=ops.size->(HS rs S H0 k).get x=(HS rs S H0 i).get x:=by
  intro k
  induction k with
  | zero => intro h _; have : i = 0 := by omega
            subst this;rfl
  | succ k ih =>
   intro hik hks;by_cases he:i=k+1
   .subst he;rfl
   .have ih:=ih (by omega) (by omega);obtain ⟨o,ho⟩ : ∃ o,ops[k]?=some o:=⟨ops[k]'(by omega),by simp⟩;obtain ⟨r',hr',_,ha,hb,h1⟩:=hrun.at_ k o ho;simp only [HS,hr'];split
    .rename_i hkk;cases hSk:S k with
     | false=>simp only [Bool.false_eq_true,if_false];exact ih
     | true =>
      simp only [if_true];have hki:k≠i:=by intro e;subst e;rw [hi] at hSk;cases hSk
      have hnot:¬ Ahead ops.toList i k:=fun h=>by have:S i=true:=hS k hSk i h;rw [hi] at this;cases this
      have hcr:=(yir0 hc.dids (yvd0 hri) (yvd0 hr') (by omega) (.inl ⟨x,hk⟩)).resolve_left hnot;simp only [yff0,hkk,hk,Bool.and_eq_true] at hcr
      have hS' : HS rs S H0 k=r'.d.a:=by
       rw [ha];refine yam0 rs H0 k fun j r2 hj hr2 hk2=>?_
       rcases ylf0 hc.dids (yvd0 hr2) (yvd0 hr') hj hk2 hkk with h | h
       .exact hS k hSk j h
       .exact hN k h hSk j (by omega)
      rw [<- ih,hS'];exact (yma1 h1 hkk).same x (bltN.1 hcr.1) (beqN hcr.2).symm
    .exact ih
 rw [high _ (by omega) (Nat.le_refl _),low i (Nat.le_refl _)]
def Also (S:Nat->Bool) (i:Nat):Nat->Bool:=fun j=>if j=i then true else S j
theorem ysb2 (hc:Checks ops rs) (hS:Down ops.toList fun i=>S i=true) {i:Nat} {o:Oper} {r:Rec} (ho:ops.toList[i]?=some o) (hri:rs[i]?=some r) (hi:S i=false) (hin:i<ops.size) (t:Nat) :
  VS ops.toList rs (Also S i) f0.get ops.size t=if o.dst=some t then r.v else VS ops.toList rs S f0.get ops.size t:=by
 split
 .rename_i hd;rw [ybd1 ops.toList rs f0.get t ops.size (i:=i+1) (by omega)]
  .simp [VS,ho,hri,Also,hd]
  .intro j o' hij hj ho' hd';have hne:j≠i:=by omega
   simp only [Also,hne,if_false];cases hSj:S j with
   | false=>rfl
   | true =>
    have:=hS j hSj i (yai0 hc.region ho ho' (by omega) (by simp [tied,hd,hd']));exact absurd (show S i=true from this) (by simp [hi])
 .rename_i hd;refine ykt0 _ _ _ _ _ fun j o' hj ho' hd'=>?_
  have hne:j≠i:=by
   intro e;subst e;rw [ho] at ho';injection ho' with ho';subst ho';exact hd hd'
  simp [Also,hne]
theorem ytb2 (hc:Checks ops rs) (hS:Down ops.toList fun i=>S i=true) (hN:Norm (ygg0 ops.toList) S) {i:Nat} {r:Rec} (hri:rs[i]?=some r) (hi:S i=false) (hin:i<ops.size) :
  HS rs (Also S i) H0 ops.size=match r.d.k with | .change=>r.d.b | _=>HS rs S H0 ops.size:=by
 cases hk:r.d.k with
 | change =>
  rw [ywx0 rs H0 ops.size (i:=i+1) (by omega)]
  .simp [HS,hri,Also,hk]
  .intro j r' hij hj hrj hkj;have hne:j≠i:=by omega
   simp only [Also,hne,if_false];cases hSj:S j with
   | false=>rfl
   | true =>
    have:S i=true:=by
     rcases ylf0 hc.dids (yvd0 hri) (yvd0 hrj) (by omega) hk hkj with h | h
     .exact hS j hSj i h
     .exact hN j h hSj i (by omega)
    exact absurd this (by simp [hi])
 | _ =>
  refine yam0 _ _ _ fun j r' hj hrj hkj=>?_
  have hne:j≠i:=by
   intro e;subst e;rw [hri] at hrj;injection hrj with hrj;subst hrj;rw [hk] at hkj;cases hkj
  simp [Also,hne]
theorem ylt0 (hS:Down ops.toList fun i=>S i=true) {i:Nat} (hr:∀ j,Ahead ops.toList j i->S j=true):Down ops.toList fun j=>Also S i j=true:=by
 intro j hj k hk;simp only [Also] at hj ⊢;by_cases hji:j=i
 .subst hji;have:=hr k hk;split
  .rfl
  .exact this
 .simp only [hji,if_false] at hj;have:=hS j hj k hk;split
  .rfl
  .exact this
theorem ydd1 {o:Oper} {t:Nat} (h:Operand.tmp t∈opds o.op):hasN (looks ops.toList o) t=true:=by
 rw [yka1,looks,app_eq];refine List.mem_append_left _ (List.mem_filterMap.2 ⟨_,h,rfl⟩)
theorem ydg1 {o:Oper} {j:Nat} {want:Bool} {d:Tmp} (hg:o.guard=some (j,want)) (hd:(ops[j]?).bind (·.dst)=some d):hasN (looks ops.toList o) d=true:=by
 rw [yka1,looks,app_eq,hg];refine List.mem_append_right _ ?_;have:dstOf ops.toList j=some d:=by rw [yht0];simpa using hd
 simp [this,optOf]
theorem ydv1 (hc:Checks ops rs) (hrun:Run P ops f0.n rs f0 H0 f' H') (hS:Down ops.toList fun i=>S i=true) (hN:Norm (ygg0 ops.toList) S) {i:Nat} {o:Oper} (ho:ops[i]?=some o) (hi:S i=false) (hr:∀ j,Ahead ops.toList j i->S j=true)
  (hiL:(ygg0 ops.toList).testBit i=true->∀ j,j<i->S j=true) (Q:Nat->Prop) (hQ:∀ t,hasN (looks ops.toList o) t=true->Q t)
  {g:Fr} (hgn:g.n=f0.n) (hget:∀ x,Q x->g.get x=VS ops.toList rs S f0.get ops.size x)
  {J:Nat->RB} {w:World} {b:Frame} {tmps:Array Value} {ds:List Deferred} (k:List Item) (cs:List Frame) (rest:List Nat) (hs:Sat J (HS rs S H0 ops.size) w) (hf:FRel J (HS rs S H0 ops.size).n g b tmps ds) :
  ∃ J' w' tmps' g',g'.n=g.n/\g'.fn=g.fn/\g'.marks=g.marks/\g'.round=g.round/\(∀ x,Q x->g'.get x=VS ops.toList rs (Also S i) f0.get ops.size x)/\(∀ x,o.dst≠some x->tmps'[x]?=tmps[x]?) /\
   Moved J (HS rs S H0 ops.size) w J' (HS rs (Also S i) H0 ops.size) w'/\FRel J' (HS rs (Also S i) H0 ops.size).n g' b tmps' ds /\
   Steps P (lone (yga0 b tmps ds (.inRegion ops (i::rest)::k)) cs w) (lone (yga0 b tmps' ds (.inRegion ops rest::k)) cs w'):=by
 have hol:ops.toList[i]?=some o:=by simpa using ho
 have hin:i<ops.size:=(Array.getElem?_eq_some_iff.1 ho).1;obtain ⟨r,hri,hrf,hra,hrb,h1⟩:=hrun.at_ i o ho
 have hsame:∀ t,hasN (looks ops.toList o) t=true->g.get t=r.f.get t:=fun t ht=>by
  rw [hget t (hQ t ht),hrf,ycd1 hc hS hol hi hr (by omega) ht]
 have hevs:g.evs (opds o.op)=r.f.evs (opds o.op):=by
  rw [yda1,yda1];apply List.map_congr_left;intro x hx;cases x with
  | tmp t=>exact hsame t (ydd1 hx)
  | _=>rfl
 have hwant:=h1.want _ _ _ _ _ g (fun j want d hg hd=>hsame d (ydg1 hg hd)) hf
 have hput:∃ g',g.put o.dst r.v=some g':=by
  unfold Fr.put;cases hd:o.dst with
  | none=>exact ⟨_,rfl⟩
  | some d =>
   have:=h1.dst d hd;rw [<- hgn] at this;simp [bltN.2 this]
 obtain ⟨g',hput⟩:=hput;have hp:=put_n hput
 have hget' : ∀ x,Q x->g'.get x=VS ops.toList rs (Also S i) f0.get ops.size x:=fun x hx=>by
  rw [hp.2.2.2.2.1 x,ysb2 hc hS hol hri hi hin,hget x hx]
 have htm:∀ v' x,o.dst≠some x->(putT tmps o.dst v')[x]?=tmps[x]?:=fun v' x hx=>by
  unfold putT;cases hd:o.dst with
  | none=>rfl
  | some d=>exact Array.getElem?_setIfInBounds_ne (fun e=>hx (by rw [hd,e]))
 have hHS:=ytb2 (H0:=H0) hc hS hN hri hi hin;cases ht:r.t with
 | false =>
  rw [ht] at hwant;obtain ⟨hv,hk,_⟩:=h1.skip ht;rw [hk] at hHS;simp only at hHS;rw [hHS];refine ⟨J,w,_,g',hp.1,hp.2.1,hp.2.2.1,hp.2.2.2.1,hget',htm _,Moved.refl hs,hf.put (v':=undef) hput (.inr (by rw [hv];rfl)) (by rw [hv];exact ⟨⟩),.one (yvc1 ho hwant)⟩
 | true =>
  rw [ht] at hwant;have hdoes:=h1.does ht;by_cases hk:r.d.k=.change
  .rw [hk] at hHS;simp only at hHS;unfold Does at hdoes;rw [hk] at hdoes;have hHa:=ybv1 (H0:=H0) hc hS hri hk hi hr (by omega) hN hiL;rw [<- hra] at hHa;rw [hHa] at hs hf ⊢;rw [hHS];obtain ⟨J',w',hm,hl,v',hv,hst⟩:=hdoes.2 g hevs J w b tmps ds ops i rest k cs hs hf ho hwant;exact ⟨J',w',_,g',hp.1,hp.2.1,hp.2.2.1,hp.2.2.2.1,hget',htm _,hm,(hf.ext hm.ext hm.more).put hput hv hl,hst⟩
  .have hHS' : HS rs (Also S i) H0 ops.size=HS rs S H0 ops.size:=by
    rw [hHS];split
    .rename_i e;exact absurd e hk
    .rfl
   have hd2:∀ H2:Heap,(∀ x,r.d.k=.load x->H2.get x=r.d.a.get x)->yiq0 P o g H2 (.val r.v r.d.k) H2:=by
    intro H2 ha;unfold Does at hdoes;split at hdoes
    .rename_i e;exact absurd e hk
    .exact hdoes.2 g H2 hevs ha
   have:=hd2 (HS rs S H0 ops.size) fun x hx=>by rw [hra];exact ycv1 hc hrun hS hri hx hi hr hin hN
   obtain ⟨J',w',hm,hl,v',hv,hst⟩:=this J w b tmps ds ops i rest k cs hs hf ho hwant;rw [hHS'];exact ⟨J',w',_,g',hp.1,hp.2.1,hp.2.2.1,hp.2.2.2.1,hget',htm _,hm,(hf.ext hm.ext hm.more).put hput hv hl,hst⟩
def yaf0 (l:Array Bool):Nat->Bool:=fun i=>l.getD i false
def left (l:Array Bool):Nat:=l.toList.countP (! ·)
theorem yve2 {l:Array Bool} {i:Nat} (h:i<l.size) (hf:l.getD i true=false):left (l.setIfInBounds i true)+1=left l:=by
 have hi:l.toList[i]'(by simpa using h)=false:=by
  rw [Array.getD_eq_getD_getElem?] at hf;have:l[i]?=some l[i]:=by simp [h]
  rw [this] at hf;simpa using hf
 have hsplit:l.toList=l.toList.take i++false::l.toList.drop (i+1):=by
  rw [<- hi,<- List.drop_eq_getElem_cons,List.take_append_drop]
 have hset:(l.setIfInBounds i true).toList=l.toList.take i++true::l.toList.drop (i+1):=by
  rw [Array.toList_setIfInBounds,List.set_eq_take_append_cons_drop];simp [h]
 unfold left;rw [hset]
 conv=>rhs;rw [hsplit]
 simp only [List.countP_append,List.countP_cons];simp;omega
theorem yyj1 {l:Array Bool} (he:yrf0 ops.toList 0=true) (hl:l.size=ops.size) (h:Region.ready .any ops l=[]):∀ i,i<ops.size->yaf0 l i=true:=by
 intro i
 induction i using Nat.strongRecOn with
 | _ i ih =>
  intro hi;cases hli:yaf0 l i with
  | true=>rfl
  | false =>
   exfalso
   have:i∈Region.ready .any ops l:=by
    rw [mem_ready];refine ⟨?_,ops[i],by simp [hi],fun e he' hb=>?_⟩
    .unfold yaf0 at hli;rw [Array.getD_eq_getD_getElem?] at hli ⊢;have hx:l[i]?=some l[i]:=by simp [hl,hi]
     rw [hx] at hli ⊢;exact hli
    .have:=ych0 ops.toList 0 he i ops[i] (by simp [hi]) e (by simpa using he') hb;exact ih e.on (by omega) (by omega)
   rw [h] at this;cases this
theorem yeg1 {l:Array Bool} (hl:l.size=ops.size) (h:left l=0):∀ i,i<ops.size->yaf0 l i=true:=by
 intro i hi;unfold left at h;rw [List.countP_eq_zero] at h;have:=h l[i] (by simp);unfold yaf0;simp [hl,hi] at this ⊢;exact this
theorem yzj1 {l:Array Bool} {i:Nat} (h:i<l.size):yaf0 (l.setIfInBounds i true)=Also (yaf0 l) i:=by
 funext j
 unfold yaf0 Also;by_cases hj:j=i
 .subst hj;simp [h]
 .simp only [hj,if_false];exact getD_set_ne false (Ne.symm hj)
theorem Moved.swap {J0 J J' : Nat->RB} {H0 H H' : Heap} {w0 w w' : World} {B:RB} {o:LObj} (h0:H0.n<=H.n) (ho:o.owns=true) (hl:ltObj 0 o) (hB:w0.heap.size<=B.blk)
  (h1:Moved J0 H0 w0 (upRho J H.n B) (H.push o) w) (h2:Moved J H w J' H' w'):Moved J0 H0 w0 (upRho J' H'.n B) (H'.push o) w':=by
 have hBin:B.blk<w.heap.size:=by
  have:=h1.sat.inside H.n (by rw [Heap.n_push];omega) (by rw [Heap.get_push_new];exact LObj.sits_of_owns ho)
  rwa [yoa0] at this
 have hap:∀ k,k<H.n->(H.get k).sits=true->B.blk≠(J k).blk:=fun k hk hs=>by
  have:=h1.sat.apart H.n k (by rw [Heap.n_push];omega) (by rw [Heap.n_push];omega) (by omega) (by rw [Heap.get_push_new];exact ho) (by rw [Heap.get_push_old hk];exact hs)
  rwa [yoa0,yka0 J H.n B k hk] at this
 have hkeep:w'.heap[B.blk]?=w.heap[B.blk]?:=h2.block _ hBin fun i hi hown e=>hap i hi (LObj.sits_of_owns hown) e.symm
 have own1:∀ j,j<H.n->(H.get j).owns=true->w0.heap.size<=(J j).blk\/∃ k,k<H0.n/\(H0.get k).owns=true/\(J j).blk=(J0 k).blk:=fun j hj hown=>by
  have:=h1.owned j (by rw [Heap.n_push];omega) (by rw [Heap.get_push_old hj];exact hown)
  rwa [yka0 J H.n B j hj] at this
 have sit1:∀ j,j<H.n->(H.get j).sits=true->w0.heap.size<=(J j).blk\/∃ k,k<H0.n/\(H0.get k).sits=true/\(J j).blk=(J0 k).blk:=fun j hj hown=>by
  have:=h1.sits j (by rw [Heap.n_push];omega) (by rw [Heap.get_push_old hj];exact hown)
  rwa [yka0 J H.n B j hj] at this
 have hs1:=h1.size;have hs2:=h2.size;refine ⟨h2.os.trans h1.os,h2.tape.trans h1.tape,h2.output.trans h1.output,Nat.le_trans hs1 hs2,?_,?_,?_,?_,?_,?_,?_,?_,?_⟩
 .intro b hb hn;rw [<- h1.block b hb hn];refine h2.block b (by omega) fun i hi hown e=>?_
  rcases own1 i hi hown with h | ⟨k,hk,hko,hke⟩
  .omega
  .exact hn k hk hko (hke.symm.trans e)
 .intro i hi hown;rw [Heap.n_push] at hi;by_cases e:i=H'.n
  .subst e;left;rw [yoa0];exact hB
  .rw [Heap.get_push_old (by omega)] at hown;rw [yka0 J' H'.n B i (by omega)];rcases h2.owned i (by omega) hown with h | ⟨j,hj,hjo,hje⟩
   .left;omega
   .rw [hje];exact own1 j hj hjo
 .intro i hi hown;rw [Heap.n_push] at hi;by_cases e:i=H'.n
  .subst e;left;rw [yoa0];exact hB
  .rw [Heap.get_push_old (by omega)] at hown;rw [yka0 J' H'.n B i (by omega)];rcases h2.sits i (by omega) hown with h | ⟨j,hj,hjo,hje⟩
   .left;omega
   .rw [hje];exact sit1 j hj hjo
 .have:=h2.more;rw [Heap.n_push];omega
 .intro i hi;have:=h2.more;rw [yka0 J' H'.n B i (by omega),h2.ext i (by omega),<- h1.ext i hi,yka0 J H.n B i (by omega)]
 .intro i hi;rw [Heap.n_push] at hi ⊢;by_cases e:i=H'.n
  .subst e;rw [Heap.get_push_new];exact ync0 (Nat.zero_le _) hl
  .rw [Heap.get_push_old (by omega)];exact ync0 (by omega) (h2.sat.wf i (by omega))
 .intro i hi;rw [Heap.n_push] at hi;by_cases e:i=H'.n
  .subst e;rw [Heap.get_push_new,yoa0];have:=h1.sat.obj H.n (by rw [Heap.n_push];omega);rw [Heap.get_push_new,yoa0] at this;exact (this.world fun _=>hkeep).ext (fun _ h=>absurd h (Nat.not_lt_zero _)) hl
  .rw [Heap.get_push_old (by omega),yka0 J' H'.n B i (by omega)];exact (h2.sat.obj i (by omega)).ext (yka0 J' H'.n B) (h2.sat.wf i (by omega))
 .have hne:∀ j,j<H'.n->(H'.get j).sits=true->B.blk≠(J' j).blk:=fun j hj hs=>by
   rcases h2.sits j hj hs with h | ⟨k,hk,hko,hke⟩
   .omega
   .rw [hke];exact hap k hk hko
  intro i j hi hj hij hio hjs;rw [Heap.n_push] at hi hj;by_cases ei:i=H'.n
  .have ej:j≠H'.n:=by omega
   subst ei;rw [Heap.get_push_old (by omega)] at hjs;rw [yoa0,yka0 J' H'.n B j (by omega)];exact hne j (by omega) hjs
  .rw [Heap.get_push_old (by omega)] at hio;rw [yka0 J' H'.n B i (by omega)];by_cases ej:j=H'.n
   .subst ej;rw [yoa0];exact (hne i (by omega) (LObj.sits_of_owns hio)).symm
   .rw [Heap.get_push_old (by omega)] at hjs;rw [yka0 J' H'.n B j (by omega)];exact h2.sat.apart i j (by omega) (by omega) hij hio hjs
 .intro i hi hs;rw [Heap.n_push] at hi;by_cases e:i=H'.n
  .subst e;rw [yoa0];omega
  .rw [Heap.get_push_old (by omega)] at hs;rw [yka0 J' H'.n B i (by omega)];exact h2.sat.inside i (by omega) hs
theorem Sat.pop {J J1:Nat->RB} {H:Heap} {w w1:World} {o:LObj} (hs:Sat J H w) (h:Sat J1 (H.push o) w1):Sat J1 H w1 where
 wf:=hs.wf
 obj:=fun i hi=>by have:=h.obj i (by rw [Heap.n_push];omega);rwa [Heap.get_push_old hi] at this
 apart:=fun i j hi hj hij hio hjs=>h.apart i j (by rw [Heap.n_push];omega) (by rw [Heap.n_push];omega) hij (by rw [Heap.get_push_old hi];exact hio) (by rw [Heap.get_push_old hj];exact hjs)
 inside:=fun i hi hs=>h.inside i (by rw [Heap.n_push];omega) (by rw [Heap.get_push_old hi];exact hs)
theorem yak1 (J:Nat->RB) (n:Nat):upRho J n (J n)=J:=by
 funext i;unfold upRho;split
 .rename_i e;rw [e]
 .rfl
theorem Moved.fresh {J J1:Nat->RB} {H:Heap} {w w1:World} {o:LObj} (ho:o.owns=true) (h:Moved J H w J1 (H.push o) w1):w.heap.size<=(J1 H.n).blk:=by
 rcases h.sits H.n (by rw [Heap.n_push];omega) (by rw [Heap.get_push_new];exact LObj.sits_of_owns ho) with h' | ⟨j,hj,hjs,he⟩
 .exact h'
 .have:=h.sat.apart H.n j (by rw [Heap.n_push];omega) (by rw [Heap.n_push];omega) (by omega) (by rw [Heap.get_push_new];exact ho) (by rw [Heap.get_push_old hj];exact hjs);rw [h.ext j hj] at this;exact absurd he this
theorem yjr0 {t:TypeId} {z:LV} (hz:zeroOf P t=some z):lts 0 (cellsOf z):=by
 have J:Nat->RB:=fun _=>⟨0,0,0,default,0⟩
 exact yle0 ((ymd0 hz J default).2.2 0)
theorem yev1 {t:TypeId} {H:Heap} {r:OpR} (h:lop P (.alloc t) [] H=some r):∃ cs,lts 0 cs/\r=⟨.ptr H.n 0,H.push (.cells t .exact cs),.change⟩/\∀ H2,lop P (.alloc t) [] H2=some ⟨.ptr H2.n 0,H2.push (.cells t .exact cs),.change⟩:=by
 have h:opAlloc P t [] H=some r:=h;unfold opAlloc at h;simp only at h;split at h
 .rename_i z hz;unfold boxL at h;cases hj:yta0 z with
  | true=>rw [hj] at h;cases h
  | false =>
   rw [hj] at h;injection h with h;refine ⟨cellsOf z,yjr0 hz,h.symm,fun H2=>?_⟩;show opAlloc P t [] H2=_;unfold opAlloc;simp only [hz];unfold boxL;rw [hj];rfl
 .cases h
structure Fresh (P:Program) (op:Op) (xs:List LV) (ob:LObj) (mk:Nat->LV) (val:RB->Value):Prop where
 own:ob.owns=true
 lt0:ltObj 0 ob
 does:∀ H,lop P op xs H=some ⟨mk H.n,H.push ob,.change⟩
 dec:∀ J n,dec J (mk n)=val (J n)
 ltn:∀ n,lt (n+1) (mk n)
 nj:∀ n,mk n≠.junk
theorem ybk1 (e:TypeId) (z:LV) (n:Nat):(ybo0 e z n).owns=true:=by unfold ybo0;split <;> rfl
theorem yfv1 {t e:TypeId} {z:LV} {n:Nat} (hz:zeroOf P t=some z):ltObj 0 (ybo0 e z n):=by
 unfold ybo0;split
 .trivial
 .exact yvh0 (yjr0 hz) n
theorem ywe2 {o:Oper} {xs:List LV} {H:Heap} {r:OpR} (hf:yzm0 o=true) (hx:∀ t,o.op=.alloc t->xs=[]) (h:lop P o.op xs H=some r) :
  ∃ ob mk val,Fresh P o.op xs ob mk val/\r=⟨mk H.n,H.push ob,.change⟩:=by
 obtain ⟨_,_,⟨t,hop⟩ | ⟨t,l,c,hop⟩⟩:=yto0 hf
 .have hx:=hx t hop;subst hx;rw [hop] at h;obtain ⟨cs,hcl,hr,hany⟩:=yev1 h;rw [hop];exact ⟨.cells t .exact cs,fun n=>.ptr n 0,fun B=>.pointer (some ⟨B.blk,B.off+0,none⟩),⟨rfl,hcl,hany,fun J n=>by simp only [Ev.dec],fun n=>by simp only [lt];omega,fun n e=>by cases e⟩,hr⟩
 .rw [hop] at h;have h:opMakeSlice P t xs H=some r:=h;rw [hop];have hsame:∀ H2,lop P (.makeSlice t l c) xs H2=opMakeSlice P t xs H2:=fun _=>rfl
  unfold opMakeSlice at h;split at h
  .rename_i a b;obtain ⟨v,H',hv,rfl⟩:=ycc0 h;unfold makeSliceL at hv;split at hv
   .rename_i k1 n1 k2 c1;split at hv
    .rename_i elem hu;split at hv
     .rename_i i z hi hz;replace hv:=yaa0 hv;obtain ⟨h1,hv⟩:=hv;replace hv:=yaa0 hv;obtain ⟨h2,hv⟩:=hv;replace hv:=yaa0 hv;obtain ⟨h3,hv⟩:=hv;replace hv:=yaa0 hv;obtain ⟨h4,hv⟩:=hv;replace hv:=yna0 hv;obtain ⟨h5,hv⟩:=hv;replace hv:=yaa0 hv;obtain ⟨h6,hv⟩:=hv;injection hv with hv;injection hv with hv1 hv2;subst hv1;subst hv2;refine ⟨ybo0 elem z c1.toNat,fun n=>.slice n 0 n1.toNat (.known c1.toNat),fun B=>.slice (some ⟨B.blk,B.off+0,none⟩) n1.toNat c1.toNat,⟨ybk1 _ _ _,yfv1 hz,fun H2=>?_,fun J n=>by simp only [Ev.dec,capOf],fun n=>by simp only [lt];omega,fun n e=>by cases e⟩,rfl⟩;rw [hsame];unfold opMakeSlice makeSliceL;simp only [hu,hi,hz,h1,h2,h3,h4,h5,h6,cond_true,cond_false];rfl
     .cases hv
    .cases hv
   .cases hv
  .cases h
theorem Moved.drop {J J1:Nat->RB} {H:Heap} {w w1:World} {o:LObj} (hs:Sat J H w) (h:Moved J H w J1 (H.push o) w1):Moved J H w J1 H w1 where
 os:=h.os
 tape:=h.tape
 output:=h.output
 size:=h.size
 block:=h.block
 owned:=fun i hi ho=>.inr ⟨i,hi,ho,by rw [h.ext i hi]⟩
 sits:=fun i hi ho=>.inr ⟨i,hi,ho,by rw [h.ext i hi]⟩
 more:=Nat.le_refl _
 ext:=h.ext
 sat:=hs.pop h.sat
theorem Moved.two {J0 J:Nat->RB} {H0 H:Heap} {w0 w:World} {B C:RB} {o p:LObj} (hn:H0.n<=H.n) (ho:o.owns=true) (hp:p.owns=true) (hlp:ltObj 0 p) (hne:B.blk≠C.blk)
  (h1:Moved J0 H0 w0 (upRho J H.n B) (H.push o) w) (h2:Moved J0 H0 w0 (upRho J H.n C) (H.push p) w) :
  Moved J0 H0 w0 (upRho (upRho J H.n B) (H.push o).n C) ((H.push o).push p) w:=by
 have np:H.n<(H.push p).n:=by rw [Heap.n_push];omega
 have no:H.n<(H.push o).n:=by rw [Heap.n_push];omega
 have gp:(H.push p).get H.n=p:=Heap.get_push_new _ _;have go:(H.push o).get H.n=o:=Heap.get_push_new _ _;have oldC:∀ j,j<H.n->upRho J H.n C j=J j:=fun j hj=>yka0 J H.n C j hj
 have oldB:∀ j,j<H.n->upRho J H.n B j=J j:=fun j hj=>yka0 J H.n B j hj
 have lo:∀ i,i<((H.push o).push p).n->i≠(H.push o).n->i<(H.push o).n:=fun i hi e=>by rw [Heap.n_push] at hi;omega
 have lh:∀ i,i<(H.push o).n->i≠H.n->i<H.n:=fun i hi e=>by rw [Heap.n_push] at hi;omega
 refine ⟨h1.os,h1.tape,h1.output,h1.size,h1.block,?_,?_,?_,?_,?_,?_,?_,?_⟩
 .intro i hi hown;by_cases e:i=(H.push o).n
  .subst e;have:=h2.owned H.n np (by rw [gp];exact hp)
   rwa [yoa0] at this ⊢
  .have hi':=lo i hi e;rw [Heap.get_push_old hi'] at hown;rw [yka0 _ _ C i hi'];exact h1.owned i hi' hown
 .intro i hi hown;by_cases e:i=(H.push o).n
  .subst e;have:=h2.sits H.n np (by rw [gp];exact LObj.sits_of_owns hp)
   rwa [yoa0] at this ⊢
  .have hi':=lo i hi e;rw [Heap.get_push_old hi'] at hown;rw [yka0 _ _ C i hi'];exact h1.sits i hi' hown
 .rw [Heap.n_push,Heap.n_push];omega
 .intro i hi;have:i<(H.push o).n:=by rw [Heap.n_push];omega
  rw [yka0 _ _ C i this];exact h1.ext i hi
 .intro i hi;by_cases e:i=(H.push o).n
  .subst e;rw [Heap.get_push_new];exact ync0 (Nat.zero_le _) hlp
  .have hi':=lo i hi e;rw [Heap.get_push_old hi'];exact ync0 (by rw [Heap.n_push (H:=H.push o)];omega) (h1.sat.wf i hi')
 .intro i hi;by_cases e:i=(H.push o).n
  .subst e;rw [Heap.get_push_new,yoa0];have:=h2.sat.obj H.n np;rw [gp,yoa0] at this;exact this.ext (fun _ h=>absurd h (Nat.not_lt_zero _)) hlp
  .have hi':=lo i hi e;rw [Heap.get_push_old hi',yka0 _ _ C i hi'];exact (h1.sat.obj i hi').ext (yka0 _ _ C) (h1.sat.wf i hi')
 .intro i j hi hj hij hio hjs;by_cases ei:i=(H.push o).n
  .subst ei;have hj':=lo j hj (Ne.symm hij);rw [Heap.get_push_old hj'] at hjs;rw [yoa0,yka0 _ _ C j hj'];by_cases ej:j=H.n
   .subst ej;rw [yoa0];exact hne.symm
   .have hj2:=lh j hj' ej;rw [Heap.get_push_old hj2] at hjs;rw [oldB j hj2];have:=h2.sat.apart H.n j np (by omega) (by omega) (by rw [gp];exact hp) (by rw [Heap.get_push_old hj2];exact hjs)
    rwa [yoa0,oldC j hj2] at this
  .have hi':=lo i hi ei;rw [Heap.get_push_old hi'] at hio;rw [yka0 _ _ C i hi'];by_cases ej:j=(H.push o).n
   .subst ej;rw [yoa0];by_cases e2:i=H.n
    .subst e2;rw [yoa0];exact hne
    .have hi2:=lh i hi' e2;rw [Heap.get_push_old hi2] at hio;rw [oldB i hi2];have:=h2.sat.apart i H.n (by omega) np (by omega) (by rw [Heap.get_push_old hi2];exact hio) (by rw [gp];exact LObj.sits_of_owns hp)
     rwa [yoa0,oldC i hi2] at this
   .have hj':=lo j hj ej;rw [Heap.get_push_old hj'] at hjs;rw [yka0 _ _ C j hj'];exact h1.sat.apart i j hi' hj' hij hio hjs
 .intro i hi hs;by_cases e:i=(H.push o).n
  .subst e;rw [yoa0];have:=h2.sat.inside H.n np (by rw [gp];exact LObj.sits_of_owns hp)
   rwa [yoa0] at this
  .have hi':=lo i hi e;rw [Heap.get_push_old hi'] at hs;rw [yka0 _ _ C i hi'];exact h1.sat.inside i hi' hs
structure PI where
 L:Nat
 d:Nat
 ob:LObj
 mkv:Nat->LV
 val:RB->Value
 B:RB
structure Stat (ops:Array Oper) (rs:List Rec) (p:PI):Prop where
 late:(ygg0 ops.toList).testBit p.L=true
 op:∃ o xs r P,ops[p.L]?=some o/\Fresh P o.op xs p.ob p.mkv p.val/\o.dst=some p.d/\rs[p.L]?=some r/\r.v=p.mkv r.d.a.n/\r.d.b=r.d.a.push p.ob/\r.d.k=.change
 ahead:∀ j,Ahead ops.toList p.L j->∀ k,k<p.L->Ahead ops.toList k j
structure Dyn (J0:Nat->RB) (H0:Heap) (w0:World) (J:Nat->RB) (H:Heap) (w:World) (tmps:Array Value) (p:PI):Prop where
 new:w0.heap.size<=p.B.blk
 moved:Moved J0 H0 w0 (upRho J H.n p.B) (H.push p.ob) w
 at_:tmps[p.d]?=some (p.val p.B)
structure Came (ops:Array Oper) (rs:List Rec) (f0:Fr) (H0:Heap) (J0:Nat->RB) (w0:World) (b:Frame) (ds:List Deferred) (T:Nat->Bool) (pl:List PI) (J:Nat->RB) (w:World) (tmps:Array Value) (g:Fr):Prop where
 n:g.n=f0.n
 fn:g.fn=f0.fn
 marks:g.marks=f0.marks
 round:g.round=f0.round
 get:∀ x,(∀ p,p∈pl->p.d≠x)->g.get x=VS ops.toList rs T f0.get ops.size x
 moved:Moved J0 H0 w0 J (HS rs T H0 ops.size) w
 fr:FRel J (HS rs T H0 ops.size).n g b tmps ds
 norm:Norm (ygg0 ops.toList) T
 down:Down ops.toList fun i=>T i=true
 stat:∀ p,p∈pl->Stat ops rs p
 off:∀ p,p∈pl->T p.L=false
 dyn:∀ p,p∈pl->Dyn J0 H0 w0 J (HS rs T H0 ops.size) w tmps p
 apart:∀ p,p∈pl->∀ q,q∈pl->p.L≠q.L->p.B.blk≠q.B.blk/\p.d≠q.d
def AtS (ops:Array Oper) (rs:List Rec) (f0:Fr) (H0:Heap) (J0:Nat->RB) (w0:World) (b:Frame) (ds:List Deferred) (S:Nat->Bool) (J:Nat->RB) (w:World) (tmps:Array Value) (g:Fr):Prop :=
 ∃ T pl,(∀ j,S j=true↔T j=true\/∃ p,p∈pl/\p.L=j)/\(∀ p,p∈pl->∃ j,j<p.L/\T j=false)/\Came ops rs f0 H0 J0 w0 b ds T pl J w tmps g
theorem ykr0 {Z:Type} (f:Z->Bool) {x:Z} (hf:f x=false):∀ l:List Z,x∈l->(l.filter f).length<l.length
 | [],h=>by cases h
 | y::l,h=>by
  have hl:(l.filter f).length<=l.length:=List.length_filter_le f l;rw [List.filter_cons];rcases List.mem_cons.1 h with rfl | h
  .rw [hf];simp only [Bool.false_eq_true,if_false,List.length_cons];omega
  .have:=ykr0 f hf l h;split <;> simp only [List.length_cons] <;> omega
theorem ygv1 {tmps:Array Value} {d:Nat} {v:Value} (h:tmps[d]?=some v):putT tmps (some d) v=tmps:=by
 simp only [putT];apply Array.ext_getElem?;intro i;by_cases hi:d=i
 .subst hi;have hd:d<tmps.size:=(Array.getElem?_eq_some_iff.1 h).1;rw [Array.getElem?_setIfInBounds_self_of_lt hd,h]
 .rw [Array.getElem?_setIfInBounds_ne hi]
theorem settle (hc:Checks ops rs) (hrun:Run P ops f0.n rs f0 H0 f' H') {J0:Nat->RB} {w0 w:World} {b:Frame} {tmps:Array Value} {ds:List Deferred} : ∀ (n:Nat) (pl:List PI) (T:Nat->Bool) (J:Nat->RB) (g:Fr),pl.length<=n ->
  (∀ j,S j=true↔T j=true\/∃ p,p∈pl/\p.L=j)->Came ops rs f0 H0 J0 w0 b ds T pl J w tmps g->∃ J' g',AtS ops rs f0 H0 J0 w0 b ds S J' w tmps g':=by
 intro n
 induction n with
 | zero =>
  intro pl T J g hl hS he;have:pl=[]:=List.length_eq_zero_iff.1 (by omega);subst this;exact ⟨J,g,T,[],hS,fun p hp=>(by cases hp),he⟩
 | succ n ih =>
  intro pl T J g hl hS he;by_cases hall:∀ p,p∈pl->∃ j,j<p.L/\T j=false
  .exact ⟨J,g,T,pl,hS,hall,he⟩
  .obtain ⟨p,hp,hup⟩ : ∃ p,p∈pl/\∀ j,j<p.L->T j=true:=by
    by_cases h:∃ p,p∈pl/\∀ j,j<p.L->T j=true
    .exact h
    .exfalso;refine hall fun p hp=>?_
     by_cases h2:∃ j,j<p.L/\T j=false
     .exact h2
     .exfalso;exact h ⟨p,hp,fun j hj=>by
       cases hT:T j with
       | true=>rfl
       | false=>exact absurd ⟨j,hj,hT⟩ h2⟩
   have hst:=he.stat p hp;have hoff:=he.off p hp;have hdy:=he.dyn p hp;obtain ⟨oL,xL,rL,P0,hoL,hfr,hdst,hrL,hrv,hrb,hrk⟩:=hst.op;have hoLl:ops.toList[p.L]?=some oL:=by simpa using hoL
   have hinL:p.L<ops.size:=(Array.getElem?_eq_some_iff.1 hoL).1;obtain ⟨r',hr',_,hra,_,hs1⟩:=hrun.at_ _ oL hoL;rw [hrL] at hr';injection hr' with hr';subst hr'
   have hHa:HS rs T H0 ops.size=rL.d.a:=by
    rw [ywx0 rs H0 ops.size (i:=p.L) (by omega),hra]
    .exact yam0 rs H0 _ fun j r2 hj _ _=>hup j hj
    .intro j r2 hLj hj hr2 hk2;by_cases hjL:j=p.L
     .rw [hjL];exact hoff
     .cases hA:T j with
      | false=>rfl
      | true =>
       rcases ylf0 hc.dids (yvd0 hrL) (yvd0 hr2) (by omega) hrk hk2 with h | h
       .have:T p.L=true:=he.down j hA _ h;rw [hoff] at this;cases this
       .have:=he.norm j h hA p.L (by omega);rw [hoff] at this;cases this
   have hHb:HS rs (Also T p.L) H0 ops.size=(HS rs T H0 ops.size).push p.ob:=by
    rw [ytb2 hc he.down he.norm hrL hoff hinL,hrk];simp only;rw [hrb,hHa]
   have hdn:p.d<g.n:=by rw [he.n];exact hs1.dst p.d hdst
   obtain ⟨g2,hput⟩ : ∃ g2,g.put (some p.d) (p.mkv (HS rs T H0 ops.size).n)=some g2:=by unfold Fr.put;simp [bltN.2 hdn]
   have hpt:=put_n hput
   have hedges:yrf0 ops.toList 0=true:=by
    have:=hc.region;simp only [yvg0,Bool.and_eq_true] at this;exact this.1
   have hmem:∀ q,q∈pl.filter (fun q=>!Nat.beq q.L p.L)↔q∈pl/\q.L≠p.L:=fun q=>by
    rw [List.mem_filter];constructor
    .rintro ⟨h1,h2⟩
     refine ⟨h1,fun e=>?_⟩;rw [e,Nat.beq_refl] at h2;cases h2
    .rintro ⟨h1,h2⟩
     refine ⟨h1,?_⟩;cases hb:Nat.beq q.L p.L with
     | true=>exact absurd (beqN hb) h2
     | false=>rfl
   refine ih (pl.filter (fun q=>!Nat.beq q.L p.L)) (Also T p.L) (upRho J (HS rs T H0 ops.size).n p.B) g2 ?_ ?_ ⟨hpt.1.trans he.n,hpt.2.1.trans he.fn,hpt.2.2.1.trans he.marks,hpt.2.2.2.1.trans he.round,?_,?_,?_,?_,?_,?_,?_,?_,?_⟩
   .have:=ykr0 (fun q:PI=>!Nat.beq q.L p.L) (x:=p) (by simp) pl hp;omega
   .intro j;rw [hS j];unfold Also;by_cases hj:j=p.L
    .simp only [hj,if_true,true_or,iff_true];exact .inr ⟨p,hp,rfl⟩
    .simp only [hj,if_false];constructor
     .rintro (h | ⟨q,hq,rfl⟩)
      .exact .inl h
      .exact .inr ⟨q,(hmem q).2 ⟨hq,hj⟩,rfl⟩
     .rintro (h | ⟨q,hq,rfl⟩)
      .exact .inl h
      .exact .inr ⟨q,((hmem q).1 hq).1,rfl⟩
   .intro x hx;rw [hpt.2.2.2.2.1 x,ysb2 hc he.down hoLl hrL hoff hinL,hdst];by_cases hxd:p.d=x
    .subst hxd;simp only [if_true];rw [hrv,hHa]
    .have:¬ (some p.d=some x):=fun e=>hxd (by injection e)
     rw [if_neg this,if_neg this];refine he.get x fun q hq=>?_
     by_cases hqL:q.L=p.L
     .obtain ⟨o2,_,_,_,ho2,_,hd2,_⟩:=(he.stat q hq).op;rw [hqL,hoL] at ho2;injection ho2 with ho2;subst ho2;rw [hdst] at hd2;injection hd2 with hd2;rw [<- hd2];exact hxd
     .exact hx q ((hmem q).2 ⟨hq,hqL⟩)
   .rw [hHb];exact hdy.moved
   .rw [hHb]
    have hf2:=(he.fr.ext (yka0 J (HS rs T H0 ops.size).n p.B) (show (HS rs T H0 ops.size).n<=((HS rs T H0 ops.size).push p.ob).n by rw [Heap.n_push];omega)).put hput
     (v':=p.val p.B) (.inr (by rw [hfr.dec,yoa0])) (by rw [Heap.n_push];exact hfr.ltn _)
    rwa [ygv1 hdy.at_] at hf2
   .intro i hi hA j hj;unfold Also at hA ⊢;by_cases hip:i=p.L
    .split
     .rfl
     .exact hup j (by omega)
    .simp only [hip,if_false] at hA;have:=he.norm i hi hA j hj;split
     .rfl
     .exact this
   .exact ylt0 he.down fun j hj=>hup j (yte2 hedges _ _ hj)
   .exact fun q hq=>he.stat q ((hmem q).1 hq).1
   .intro q hq;have:=(hmem q).1 hq;unfold Also;simp only [this.2,if_false];exact he.off q this.1
   .intro q hq;obtain ⟨hq1,hq2⟩:=(hmem q).1 hq;have hdq:=he.dyn q hq1;obtain ⟨_,_,_,_,_,hfq,_⟩:=(he.stat q hq1).op;rw [hHb];exact ⟨hdq.new,Moved.two he.moved.more hfr.own hfq.own hfq.lt0 (he.apart p hp q hq1 (Ne.symm hq2)).1 hdy.moved hdq.moved,hdq.at_⟩
   .exact fun q hq r hr h=>he.apart q ((hmem q).1 hq).1 r ((hmem r).1 hr).1 h
theorem yhn2 {T:Nat->Bool} {pl:List PI} (hS:∀ j,S j=true↔T j=true\/∃ p,p∈pl/\p.L=j) (hw:∀ p,p∈pl->∃ j,j<p.L/\T j=false):∀ (n:Nat) (p:PI),p∈pl->p.L=n->∃ j,j<p.L/\S j=false:=by
 intro n
 induction n using Nat.strongRecOn with
 | _ n ih =>
  intro p hp hn;obtain ⟨j,hj,hT⟩:=hw p hp;cases hSj:S j with
  | false=>exact ⟨j,hj,hSj⟩
  | true =>
   rcases (hS j).1 hSj with h | ⟨q,hq,hqj⟩
   .rw [hT] at h;cases h
   .obtain ⟨k,hk,hSk⟩:=ih q.L (by omega) q hq rfl;exact ⟨k,by omega,hSk⟩
theorem yin2 (hc:Checks ops rs) (hrun:Run P ops f0.n rs f0 H0 f' H') (hS:Down ops.toList fun i=>S i=true) {i:Nat} {o:Oper} (ho:ops[i]?=some o) (hi:S i=false) (hr:∀ j,Ahead ops.toList j i->S j=true)
  {J0 J:Nat->RB} {w0 w:World} {b:Frame} {tmps:Array Value} {ds:List Deferred} {g:Fr} (k:List Item) (cs:List Frame) (rest:List Nat) (hat:AtS ops rs f0 H0 J0 w0 b ds S J w tmps g) :
  ∃ J' w' tmps' g',AtS ops rs f0 H0 J0 w0 b ds (Also S i) J' w' tmps' g' /\
   Steps P (lone (yga0 b tmps ds (.inRegion ops (i::rest)::k)) cs w) (lone (yga0 b tmps' ds (.inRegion ops rest::k)) cs w'):=by
 have hol:ops.toList[i]?=some o:=by simpa using ho
 have hin:i<ops.size:=(Array.getElem?_eq_some_iff.1 ho).1;obtain ⟨T,pl,hST,hw,he⟩:=hat
 have hTi:T i=false:=by
  cases h:T i with
  | false=>rfl
  | true=>rw [(hST i).2 (.inl h)] at hi;cases hi
 have hne:∀ p,p∈pl->i≠p.L:=fun p hp e=>by rw [e,(hST p.L).2 (.inr ⟨p,hp,rfl⟩)] at hi;cases hi
 have notUp:∀ p,p∈pl->∀ j,Ahead ops.toList p.L j->(∀ k,Ahead ops.toList k j->S k=true)->False:=fun p hp j hj hk=>by
  obtain ⟨k,hkL,hSk⟩:=yhn2 hST hw p.L p hp rfl;rw [hk k ((he.stat p hp).ahead j hj k hkL)] at hSk;cases hSk
 have hrT:∀ j,Ahead ops.toList j i->T j=true:=fun j hj=>by
  rcases (hST j).1 (hr j hj) with h | ⟨p,hp,rfl⟩
  .exact h
  .exact (notUp p hp i hj hr).elim
 have notLi:∀ p,p∈pl->∀ oL,ops.toList[p.L]?=some oL->tied ops.toList oL o=true->tied ops.toList o oL=true->False:=fun p hp oL hoLl h1 h2=>by
  rcases Nat.lt_or_gt_of_ne (hne p hp) with h | h
  .have:S i=true:=hS _ (show S p.L=true from (hST p.L).2 (.inr ⟨p,hp,rfl⟩)) i (yai0 hc.region hol hoLl h h2);rw [hi] at this;cases this
  .exact notUp p hp i (yai0 hc.region hoLl hol h h1) hr
 have hQ:∀ x,hasN (looks ops.toList o) x=true->∀ p,p∈pl->p.d≠x:=fun x hx p hp e=>by
  obtain ⟨oL,_,_,_,hoL,_,hdst,_⟩:=(he.stat p hp).op;subst e;exact notLi p hp oL (by simpa using hoL) (by simp [tied,hdst,hx]) (by simp [tied,hdst,hx])
 have hod:∀ p,p∈pl->o.dst≠some p.d:=fun p hp e=>by
  obtain ⟨oL,_,_,_,hoL,_,hdst,_⟩:=(he.stat p hp).op;exact notLi p hp oL (by simpa using hoL) (by simp [tied,hdst,e]) (by simp [tied,hdst,e])
 have hAlso:∀ j,Also S i j=true↔Also T i j=true\/∃ p,p∈pl/\p.L=j:=fun j=>by
  unfold Also;by_cases hj:j=i
  .simp [hj]
  .simp only [hj,if_false];exact hST j
 by_cases hB:(ygg0 ops.toList).testBit i=true/\∃ j,j<i/\T j=false
 ·-- a cell,early
  obtain ⟨hiL,hj0⟩:=hB;obtain ⟨o',ho',hfo,hlate⟩:=yav1 ops.toList hiL;rw [hol] at ho';injection ho' with ho';subst ho';obtain ⟨hgd,⟨d,hdst⟩,hopk⟩:=yto0 hfo;obtain ⟨r,hri,hrf,hra,hrb,h1⟩:=hrun.at_ i o ho
  have hsame:∀ t,hasN (looks ops.toList o) t=true->g.get t=r.f.get t:=fun t ht=>by
   rw [he.get t (hQ t ht),hrf,ycd1 hc he.down hol hTi hrT (by omega) ht]
  have hev:g.evs (opds o.op)=r.f.evs (opds o.op):=by
   rw [yda1,yda1];apply List.map_congr_left;intro x hx;cases x with
   | tmp t=>exact hsame t (ydd1 hx)
   | _=>rfl
  have hwant:=h1.want _ _ _ _ _ g (fun j want d hg _=>by rw [hgd] at hg;cases hg) he.fr;have hwt:Region.wanted o (yielded ops tmps)=true:=by unfold Region.wanted;rw [hgd]
  have ht:r.t=true:=hwant.symm.trans hwt;have hlop:=h1.lop (by rcases hopk with ⟨t,hop⟩ | ⟨t,l,c,hop⟩ <;> (rw [hop];rfl)) ht;obtain ⟨ob,mk,val,hfr,hre⟩:=ywe2 hfo (fun t hop=>by rw [hop];rfl) hlop;injection hre with hrv hrb' hrk;have hdoes:=ykf0 (P:=P) (o:=o) (f:=g) (H:=HS rs T H0 ops.size) (by rw [hev];exact hfr.does _);obtain ⟨J1,w1,hm,hl,v',hv,hst⟩:=hdoes J w b tmps ds ops i rest k cs he.moved.sat he.fr ho hwt
  have hv:v'=val (J1 (HS rs T H0 ops.size).n):=by
   rcases hv with h | h
   .exact absurd h (hfr.nj _)
   .rw [h];exact hfr.dec _ _
  have hdn:d<g.n:=by rw [he.n];exact h1.dst d hdst
  obtain ⟨g',hput⟩ : ∃ g',g.put (some d) .junk=some g':=by unfold Fr.put;simp [bltN.2 hdn]
  have hp:=put_n hput;have hdrop:=Moved.drop he.moved.sat hm;have hfresh:=Moved.fresh (o:=ob) hfr.own hm;have hpd:∀ q,q∈pl->d≠q.d:=fun q hq e=>hod q hq (by rw [hdst,e])
  have hqB:∀ q,q∈pl->q.B.blk<w.heap.size:=fun q hq=>by
   obtain ⟨_,_,_,_,_,hfq,_⟩:=(he.stat q hq).op;have:=(he.dyn q hq).moved.sat.inside (HS rs T H0 ops.size).n (by rw [Heap.n_push];omega) (by rw [Heap.get_push_new];exact LObj.sits_of_owns hfq.own)
   rwa [yoa0] at this
  refine ⟨J1,w1,_,g',⟨T,⟨i,d,ob,mk,val,J1 (HS rs T H0 ops.size).n⟩::pl,?_,?_,hp.1.trans he.n,hp.2.1.trans he.fn,hp.2.2.1.trans he.marks,hp.2.2.2.1.trans he.round,?_,he.moved.trans hdrop,?_,he.norm,he.down,?_,?_,?_,?_⟩,hst⟩
  .intro j;unfold Also;by_cases hj:j=i
   .simp only [hj,if_true,true_iff];exact .inr ⟨_,List.mem_cons_self,rfl⟩
   .simp only [hj,if_false];rw [hST j];constructor
    .rintro (h | ⟨q,hq,rfl⟩)
     .exact .inl h
     .exact .inr ⟨q,List.mem_cons_of_mem _ hq,rfl⟩
    .rintro (h | ⟨q,hq,e⟩)
     .exact .inl h
     .rcases List.mem_cons.1 hq with rfl | hq
      .exact absurd e.symm hj
      .exact .inr ⟨q,hq,e⟩
  .intro q hq;rcases List.mem_cons.1 hq with rfl | hq
   .exact hj0
   .exact hw q hq
  .intro x hx;have hxd:=hx _ List.mem_cons_self;rw [hp.2.2.2.2.1 x,if_neg (by intro e;injection e with e;exact hxd e)];exact he.get x fun q hq=>hx q (List.mem_cons_of_mem _ hq)
  .rw [hdst];exact (he.fr.ext hm.ext (Nat.le_refl _)).put hput (.inl rfl) trivial
  .intro q hq;rcases List.mem_cons.1 hq with rfl | hq
   .exact ⟨hiL,⟨o,_,r,P,ho,hfr,hdst,hri,hrv,hrb',hrk⟩,hlate⟩
   .exact he.stat q hq
  .intro q hq;rcases List.mem_cons.1 hq with rfl | hq
   .exact hTi
   .exact he.off q hq
  .intro q hq;rcases List.mem_cons.1 hq with rfl | hq
   .refine ⟨Nat.le_trans he.moved.size hfresh,?_,?_⟩
    .show Moved J0 H0 w0 (upRho J1 _ (J1 _)) _ w1;rw [yak1];exact he.moved.trans hm
    .show (putT tmps o.dst v')[d]?=some (val _);rw [hdst,hv];simp only [putT];rw [Array.getElem?_setIfInBounds_self_of_lt (by rw [he.fr.size];exact hdn)]
   .have hdq:=he.dyn q hq;obtain ⟨_,_,_,_,_,hfq,_⟩:=(he.stat q hq).op;refine ⟨hdq.new,Moved.swap (o:=q.ob) he.moved.more hfq.own hfq.lt0 hdq.new hdq.moved hdrop,?_⟩;rw [hdst];simp only [putT];rw [Array.getElem?_setIfInBounds_ne (hpd q hq)];exact hdq.at_
  .intro p hp q hq hpq;rcases List.mem_cons.1 hp with rfl | hp
   .rcases List.mem_cons.1 hq with rfl | hq
    .exact absurd rfl hpq
    .exact ⟨fun e=>by have:=hqB q hq;have e:(J1 (HS rs T H0 ops.size).n).blk=q.B.blk:=e;omega,hpd q hq⟩
   .rcases List.mem_cons.1 hq with rfl | hq
    .exact ⟨fun e=>by have:=hqB p hp;have e:p.B.blk=(J1 (HS rs T H0 ops.size).n).blk:=e;omega,fun e=>hpd p hp e.symm⟩
    .exact he.apart p hp q hq hpq
 ·-- as in the text
  have hiL:(ygg0 ops.toList).testBit i=true->∀ j,j<i->T j=true:=fun e j hj=>by
   cases hTj:T j with
   | true=>rfl
   | false=>exact absurd ⟨e,j,hj,hTj⟩ hB
  obtain ⟨J1,w1,tmps1,g1,h1,h2,h3,h4,h5,htm,h6,h7,h8⟩:=ydv1 hc hrun he.down he.norm ho hTi hrT hiL (fun x=>∀ p,p∈pl->p.d≠x) (fun t ht=>hQ t ht) he.n he.get k cs rest he.moved.sat he.fr
  have hcame:Came ops rs f0 H0 J0 w0 b ds (Also T i) pl J1 w1 tmps1 g1:=by
   refine ⟨h1.trans he.n,h2.trans he.fn,h3.trans he.marks,h4.trans he.round,h5,he.moved.trans h6,h7,?_,ylt0 he.down hrT,he.stat,?_,?_,he.apart⟩
   .intro l hl hA j hj;unfold Also at hA ⊢;by_cases hli:l=i
    .subst hli;split
     .rfl
     .exact hiL hl j hj
    .simp only [hli,if_false] at hA;have:=he.norm l hl hA j hj;split
     .rfl
     .exact this
   .intro p hp;unfold Also;simp only [Ne.symm (hne p hp),if_false];exact he.off p hp
   .intro p hp;have hdp:=he.dyn p hp;obtain ⟨_,_,_,_,_,hfp,_⟩:=(he.stat p hp).op;exact ⟨hdp.new,Moved.swap (o:=p.ob) he.moved.more hfp.own hfp.lt0 hdp.new hdp.moved h6,by rw [htm p.d (hod p hp)];exact hdp.at_⟩
  obtain ⟨J2,g2,h9⟩:=settle hc hrun pl.length pl (Also T i) J1 g1 (Nat.le_refl _) hAlso hcame;exact ⟨J2,w1,tmps1,g2,h9,h8⟩
theorem yjn2 (hc:Checks ops rs) (hrun:Run P ops f0.n rs f0 H0 f' H') {J0:Nat->RB} {w0:World} : ∀ (fuel t:Nat) (l:Array Bool),l.size=ops.size->left l<=fuel->Down ops.toList (fun i=>yaf0 l i=true) ->
  ∀ (J:Nat->RB) (w:World) (b:Frame) (tmps:Array Value) (ds:List Deferred) (k:List Item) (cs:List Frame) (g:Fr),AtS ops rs f0 H0 J0 w0 b ds (yaf0 l) J w tmps g ->
   ∃ J' w' tmps',Moved J0 H0 w0 J' H' w'/\FRel J' H'.n f' b tmps' ds /\
    Steps P (lone (yga0 b tmps ds (.inRegion ops (Region.linearise.go .any ops fuel t l [])::k)) cs w) (lone (yga0 b tmps' ds k) cs w'):=by
 have fin:∀ (l:Array Bool),(∀ i,i<ops.size->yaf0 l i=true) ->
  ∀ (J:Nat->RB) (w:World) (b:Frame) (tmps:Array Value) (ds:List Deferred) (k:List Item) (cs:List Frame) (g:Fr),AtS ops rs f0 H0 J0 w0 b ds (yaf0 l) J w tmps g ->
   ∃ J' w' tmps',Moved J0 H0 w0 J' H' w'/\FRel J' H'.n f' b tmps' ds /\
    Steps P (lone (yga0 b tmps ds (.inRegion ops []::k)) cs w) (lone (yga0 b tmps' ds k) cs w'):=by
  intro l hl J w b tmps ds k cs g hat;obtain ⟨T,pl,hST,hw,hcame⟩:=hat
  have hnil:pl=[]:=by
   cases pl with
   | nil=>rfl
   | cons p pl =>
    exfalso;obtain ⟨j,hj,hSj⟩:=yhn2 hST hw p.L p List.mem_cons_self rfl;obtain ⟨o,_,_,_,hoL,_⟩:=(hcame.stat p List.mem_cons_self).op;have hinL:p.L<ops.size:=(Array.getElem?_eq_some_iff.1 hoL).1;rw [hl j (by omega)] at hSj;cases hSj
  subst hnil
  have hT:∀ j,j<ops.size->T j=true:=fun j hj=>by
   rcases (hST j).1 (hl j hj) with h | ⟨p,hp,_⟩
   .exact h
   .cases hp
  have hH:HS rs T H0 ops.size=H':=by
   rw [hrun.heap];exact yam0 _ _ _ fun j _ hj _ _=>hT j hj
  have hm:=hcame.moved;have hf:=hcame.fr;rw [hH] at hm hf;refine ⟨J,w,tmps,hm,hf.congr (fun x=>?_) (hrun.n.trans hcame.n.symm) (hrun.fn.trans hcame.fn.symm) (hrun.marks.trans hcame.marks.symm) (hrun.round.trans hcame.round.symm),.one yro0⟩;rw [hrun.get,hcame.get x (fun p hp=>by cases hp)];exact ykt0 _ _ _ _ _ fun j _ hj _ _=>(hT j hj).symm
 have hedges:yrf0 ops.toList 0=true:=by
  have:=hc.region;simp only [yvg0,Bool.and_eq_true] at this;exact this.1
 intro fuel
 induction fuel with
 | zero =>
  intro t l hl hle hS J w b tmps ds k cs g hat;exact fin l (yeg1 hl (by omega)) J w b tmps ds k cs g hat
 | succ fuel ih =>
  intro t l hl hle hS J w b tmps ds k cs g hat;simp only [Region.linearise.go]
  change ∃ J' w' tmps',_/\_/\Steps P (lone (yga0 b tmps ds (.inRegion ops (match (Region.ready .any ops l)[t % (Region.ready .any ops l).length]? with
   | some i=>Region.linearise.go .any ops fuel (t / (Region.ready .any ops l).length) (l.setIfInBounds i true) [i]
   | none=>[].reverse)::k)) cs w) _
  cases hi:(Region.ready .any ops l)[t % (Region.ready .any ops l).length]? with
  | none =>
   have hnil:Region.ready .any ops l=[]:=by
    cases hr:Region.ready .any ops l with
    | nil=>rfl
    | cons x xs =>
     rw [hr] at hi;have hlt:t % (x::xs).length<(x::xs).length:=Nat.mod_lt _ (by simp);simp at hi;simp at hlt;omega
   exact fin l (yyj1 hedges hl hnil) J w b tmps ds k cs g hat
  | some i =>
   simp only;rw [linearise_go_acc,List.reverse_singleton,List.singleton_append];obtain ⟨hi0,o,ho,hall⟩:=mem_ready.1 (List.mem_of_getElem? hi);have hin:i<ops.size:=(Array.getElem?_eq_some_iff.1 ho).1
   have hSi:yaf0 l i=false:=by
    unfold yaf0;rw [Array.getD_eq_getD_getElem?] at hi0 ⊢;have hx:l[i]?=some l[i]:=by simp [hl,hin]
    rw [hx] at hi0 ⊢;exact hi0
   have hready:∀ j,Ahead ops.toList j i->yaf0 l j=true:=fun j hj =>
    ycg1 (S:=fun i=>yaf0 l i=true) hS (by simpa using ho) (fun e he hb=>hall e (by simpa using he) hb) hj
   obtain ⟨J1,w1,tmps1,g1,h1,h8⟩:=yin2 hc hrun hS ho hSi hready k cs (Region.linearise.go .any ops fuel (t / (Region.ready .any ops l).length) (l.setIfInBounds i true) []) hat;have hset:=yzj1 (l:=l) (i:=i) (by omega);rw [<- hset] at h1;have hdown:=ylt0 hS hready;rw [<- hset] at hdown;obtain ⟨J2,w2,tmps2,h9,h10,h11⟩:=ih (t / (Region.ready .any ops l).length) (l.setIfInBounds i true) (by simp [hl]) (by have:=yve2 (l:=l) (i:=i) (by omega) hi0;omega) hdown J1 w1 b tmps1 ds k cs g1 h1;exact ⟨J2,w2,tmps2,h9,h10,h8.trans h11⟩
end
theorem Moved.ofDrawn {J J' : Nat->RB} {H H' : Heap} {w w' : World} {n:Nat} (h:Moved J H { w with drawn:=n } J' H' w'):Moved J H w J' H' w' where
 os:=h.os
 tape:=h.tape
 output:=h.output
 size:=h.size
 block:=h.block
 owned:=h.owned
 sits:=h.sits
 more:=h.more
 ext:=h.ext
 sat:=h.sat
theorem yck1 (hg:Good P) {call:CallF} (hcall:ylc0 P call) {id:Nat} {ops:Array Oper} {f:Fr} {H:Heap} {s:S} {f' : Fr} {H' : Heap} {dl:List Did} {s' : S}
  (h:ykf1 P call ops.toList ops.toList f H s=.ok (f',H',dl) s') (hob:s'.ob) (hreg:yvg0 ops.toList=true) (hdid:ynk0 (ygg0 ops.toList) [] dl (ygd0 ops.toList)=true) :
  s.ob/\CT P (.region id ops true) f H .normal f' H':=by
 obtain ⟨hs0,rs,hrs,hrun⟩:=yue2 hg hcall h hob;subst hrs;refine ⟨hs0,fun J w b tmps ds k cs hs hf=>?_⟩
 have hnone:yaf0 (Array.replicate ops.size false)=fun _=>false:=by
  funext j;unfold yaf0;rw [Array.getD_eq_getD_getElem?,Array.getElem?_replicate];split <;> rfl
 have hH:∀ k,HS rs (yaf0 (Array.replicate ops.size false)) H k=H:=by
  intro k;have:=ywx0 rs H (S:=yaf0 (Array.replicate ops.size false)) (i:=0) k (by omega) (fun j r _ _ _ _=>by rw [hnone]);rw [this];rfl
 have hV:∀ k x,VS ops.toList rs (yaf0 (Array.replicate ops.size false)) f.get k x=f.get x:=by
  intro k x;have:=ybd1 ops.toList rs f.get x (S:=yaf0 (Array.replicate ops.size false)) (i:=0) k (by omega) (fun j r _ _ _ _=>by rw [hnone]);rw [this];rfl
 have hat:AtS ops rs f H J { w with drawn:=w.drawn+1 } b ds (yaf0 (Array.replicate ops.size false)) J { w with drawn:=w.drawn+1 } tmps f :=
  ⟨yaf0 (Array.replicate ops.size false),[],fun j=>by simp,fun p hp=>(by cases hp),rfl,rfl,rfl,rfl,fun x _=>by rw [hV],by rw [hH];exact Moved.refl (hs.drawn rfl),by rw [hH];exact hf,fun i _ h=>(by rw [hnone] at h;cases h),fun i h=>(by rw [hnone] at h;cases h),fun p hp=>(by cases hp),fun p hp=>(by cases hp),fun p hp=>(by cases hp),fun p hp=>(by cases hp)⟩
 obtain ⟨J',w',tmps',h1,h2,h3⟩:=yjn2 ⟨hreg,hdid⟩ hrun ops.size (w.tape w.drawn (.order b.fn id)) (Array.replicate ops.size false) (by simp) (by have:=List.countP_le_length (p:=(! ·)) (l:=(Array.replicate ops.size false).toList);simpa [left] using this)
  (fun i hi=>by rw [hnone] at hi;cases hi) J { w with drawn:=w.drawn+1 } b tmps ds k cs f hat
 exact ⟨J',w',tmps',ds,h1.ofDrawn,h2,trivial,.head (yen2 hg.mixed) h3⟩
end Go.Proofs.YtnpbgnjiihecgaaGreat.Ev
