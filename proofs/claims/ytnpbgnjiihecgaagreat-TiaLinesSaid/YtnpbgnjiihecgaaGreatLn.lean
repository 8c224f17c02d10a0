/- What the evaluator in continuation style says is what the deterministic one runs: regions. What the evaluator in continuation style says is what the deterministic one runs: code, functions. -/
import Derived.Test.YtnpbgnjiihecgaaGreatLm
namespace Go.Proofs.YtnpbgnjiihecgaaGreat.Ev.K
open Go
def yuj0 (call:KCall) (cq:CallF):Prop:=∀ fn args H h Q,call fn args H h Q->Post (cq fn args H s0) fun r=>∃ h',Q r.1 r.2 h'
def ymf0 (cx:Cx) (c:ypc0) (ev:EvF):Prop:=∀ var loc mk H h k f,KFr cx var loc mk f->c cx var loc mk H h k ->
 Post (ev f H s0) fun r=>∃ var' loc' mk' h',KFr cx var' loc' mk' r.2.1/\k r.1 var' loc' mk' r.2.2 h'
theorem ymg2 {P:Program} {cq:CallF} {op:Op} {xs:List LV} {H H' : Heap} {v:LV} {kd:Kd} (hc:ydd0 op=false) (h:lop P op xs H=some ⟨v,H',kd⟩):Ev.doOp P cq op xs H s0=.ok (.val v kd,H') s0:=by
 show bc (ydd0 op) _ (doLop s0 (lop P op xs H))=_;rw [hc,h];rfl
theorem ytw1 {P:Program} {cq:CallF} {op:Op} {xs:List LV} {H:Heap} {p:Fn × List LV} (hc:ydd0 op=true) (h:yte0 xs=some p):Ev.doOp P cq op xs H s0=(cq p.1 p.2 H s0).bnd fun e s'=>.ok (endOf e.1,e.2) s':=by
 show bc (ydd0 op) (yzt1 cq H s0 (yte0 xs)) _=_;rw [hc,h];rfl
def Did2 (k:LV->Kd->Heap->Hint->Prop) (kp:LV->Heap->Hint->Prop) (r:OpEnd × Heap):Prop:=(∃ v kd,r.1=.val v kd/\∃ h',k v kd r.2 h')\/(∃ v,r.1=.pan v/\∃ h',kp v r.2 h')
section
variable {cx:Cx} {var:Tr LV} {loc:Locs} {mk:List Nat} {f:Fr} {H:Heap} {h:Hint} {k:LV->Kd->Heap->Hint->Prop} {kp:LV->Heap->Hint->Prop} {cq:CallF}
theorem Does.did {op:Op} {xs:List LV} (hc:ydd0 op=false) (hd:Does op xs H k):Post (Ev.doOp Tryz.prog cq op xs H s0) (Did2 k kp):=by
 obtain ⟨v,kd,H',h1,h',h2⟩:=hd;exact ⟨_,ymg2 hc h1,.inl ⟨v,kd,rfl,h',h2⟩⟩
theorem yuw1 (hcall:yuj0 cx.call cq) (hf:KFr cx var loc mk f) {c:Call} {g:Operand} (hg:c.callee=.value g) (hd:callF (.call c) cx var loc H h k kp):Post (Ev.doOp Tryz.prog cq (.call c) (f.evs (opds (.call c))) H s0) (Did2 k kp):=by
 have h1:=ytj0 hf hd;obtain ⟨p,hp,h1⟩:=yqa0.1 h1;have hc:ydd0 (.call c)=true:=by simp [ydd0,hg]
 rw [ytw1 hc hp];obtain ⟨r,hr,h',hQ⟩:=hcall _ _ _ _ _ h1;refine Post.bnd ⟨r,hr,Post.ok ?_⟩;obtain ⟨e,H'⟩:=r;cases e with
 | ret v=>exact .inl ⟨v,.change,rfl,h',hQ⟩
 | pan v=>exact .inr ⟨v,rfl,h',hQ⟩
theorem yde1 (hcall:yuj0 cx.call cq) (hf:KFr cx var loc mk f) {op:Op} (hd:doOpF op cx var loc H h k kp):Post (Ev.doOp Tryz.prog cq op (f.evs (opds op)) H s0) (Did2 k kp):=by
 cases op with
 | move x=>exact (ysl1 (kp:=kp) hf hd).did rfl
 | assign x=>exact (ygb1 (kp:=kp) hf hd).did rfl
 | pick c a b=>exact (ytl1 (kp:=kp) hf hd).did rfl
 | alloc t=>exact (yxg1 (cx:=cx) (var:=var) (loc:=loc) (kp:=kp) hd).did rfl
 | box t x=>exact (ykw1 (kp:=kp) hf hd).did rfl
 | build t ps=>exact (yra0 (kp:=kp) hf hd).did rfl
 | buildSlice t n ps=>exact (yra0 (kp:=kp) hf hd).did rfl
 | insert t m k v=>exact (yeh0 (kp:=kp) hf hd).did rfl
 | load t a=>exact (yvl1 (kp:=kp) hf hd).did rfl
 | store t a v=>exact (yzg1 (kp:=kp) hf hd).did rfl
 | ready g=>exact (yra0 (kp:=kp) hf hd).did rfl
 | waits g=>exact (yra0 (kp:=kp) hf hd).did rfl
 | nilCheck x=>exact (yeu0 (kp:=kp) hf hd).did rfl
 | binOp op t a b t2=>exact (ymw1 (kp:=kp) hf hd).did rfl
 | unOp u t x =>
  cases u with
  | not=>exact (yjw1 (kp:=kp) hf hd).did rfl
  | neg=>exact (yra0 (kp:=kp) (op:=.unOp .neg t x) hf hd).did rfl
  | xor=>exact (yra0 (kp:=kp) (op:=.unOp .xor t x) hf hd).did rfl
  | plus=>exact (yra0 (kp:=kp) (op:=.unOp .plus t x) hf hd).did rfl
 | convert s d x=>exact (yty0 (kp:=kp) hf hd).did rfl
 | sliceToArrayPointer d x=>exact (yra0 (kp:=kp) hf hd).did rfl
 | makeInterface t x=>exact (yra0 (kp:=kp) hf hd).did rfl
 | makeFunc g a b=>exact (yra0 (kp:=kp) hf hd).did rfl
 | makeMap t r=>exact (yra0 (kp:=kp) hf hd).did rfl
 | makeChan t s=>exact (yra0 (kp:=kp) hf hd).did rfl
 | makeSlice t l c=>exact (ygm1 (kp:=kp) hf hd).did rfl
 | slice t x l h m=>exact (ydh1 (kp:=kp) hf hd).did rfl
 | fieldAddr s x i=>exact (yjq0 (kp:=kp) hf hd).did rfl
 | field s x i=>exact (ywg1 (kp:=kp) hf hd).did rfl
 | indexAddr t x i=>exact (ykq0 (kp:=kp) hf hd).did rfl
 | index t x i=>exact (yeh1 (kp:=kp) hf hd).did rfl
 | lookup t x i ok=>exact (yib1 (kp:=kp) hf hd).did rfl
 | mapUpdate t m k v=>exact (yeh0 (kp:=kp) hf hd).did rfl
 | mapEntry t m k=>exact (yeh0 (kp:=kp) hf hd).did rfl
 | entryStore t m s v=>exact (yeh0 (kp:=kp) hf hd).did rfl
 | range t x=>exact (yra0 (kp:=kp) hf hd).did rfl
 | next i s=>exact (yra0 (kp:=kp) hf hd).did rfl
 | entry i=>exact (yra0 (kp:=kp) hf hd).did rfl
 | typeAssert x t a ok=>exact (yra0 (kp:=kp) hf hd).did rfl
 | extract x i=>exact (ysy0 (kp:=kp) hf hd).did rfl
 | call c =>
  have hd:yrk1 c cx var loc H h k kp:=hd;unfold yrk1 at hd;cases hc:c.callee with
  | value g=>rw [hc] at hd;exact yuw1 hcall hf hc hd
  | invoke r m=>rw [hc] at hd;exact (yra0 (kp:=kp) hf hd).did (by simp [ydd0,hc])
  | builtin b=>rw [hc] at hd;exact (yvy0 (kp:=kp) hf hc hd).did (by simp [ydd0,hc])
 | go c=>exact (yra0 (kp:=kp) hf hd).did rfl
 | defer c=>exact (yra0 (kp:=kp) hf hd).did rfl
 | panic x=>exact (yra0 (kp:=kp) hf hd).did rfl
 | send c x=>exact (yra0 (kp:=kp) hf hd).did rfl
 | recv t c ok=>exact (yra0 (kp:=kp) hf hd).did rfl
 | select cs b=>exact (yra0 (kp:=kp) hf hd).did rfl
theorem yee1 (hf:KFr cx var loc mk f) {all:List Oper} {o:Oper} {p:Nat × Bool} (ho:o.guard=some p) {yes no:Tr LV->Locs->Hint->Prop} (hd:ynf2 all p cx var loc h yes no) :
  ∃ w f' var' loc' h',wanted all o f s0=.ok (w,f') s0/\KFr cx var' loc' mk f'/\(w=true/\yes var' loc' h'\/w=false/\no var' loc' h'):=by
 obtain ⟨d,hdst,h1⟩:=yqa0.1 hd;have h1:=yod0 hf h1
 have hw:wanted all o f s0=wantB d p.2 f s0 (f.ev (.tmp d)):=by
  unfold wanted;rw [ho];obtain ⟨j,want⟩:=p;simp only at hdst ⊢;rw [hdst];rfl
 rw [hw]
 have hset:∀ (v:LV) (f' : Fr),f.put (some d) v=some f'->f'=f.set d v:=fun v f' hp=>by
  change (bif Nat.blt d f.n then some (f.set d v) else none)=some f' at hp;cases hb:Nat.blt d f.n with
  | true=>rw [hb] at hp;injection hp with hp;exact hp.symm
  | false=>rw [hb] at hp;cases hp
 rcases yll1 h1 with ⟨b,hb,h1⟩ | ⟨hb,h1⟩
 .rw [hb]
  have hw2:wantB d p.2 f s0 (.bool b)=.ok (b == p.2,f.set d (.bool b)) s0:=by
   show (yym0 b s0).bnd _=_;rw [yly0];rfl
  rw [hw2];rcases yxi0 h1 with ⟨e,h',h2⟩ | ⟨e,h',h2⟩
  .subst e;obtain ⟨f',var',loc',hp,hf',h2⟩:=ydm0 hf h2;have:=hset _ _ hp;subst this;refine ⟨_,_,var',loc',h',rfl,hf',?_⟩;rcases bcP h2 with ⟨e,h2⟩ | ⟨e,h2⟩
   .exact .inl ⟨by rw [e];rfl,h2⟩
   .exact .inr ⟨by rw [e];rfl,h2⟩
  .subst e;obtain ⟨f',var',loc',hp,hf',h2⟩:=ydm0 hf h2;have:=hset _ _ hp;subst this;refine ⟨_,_,var',loc',h',rfl,hf',?_⟩;rcases bcP h2 with ⟨e,h2⟩ | ⟨e,h2⟩
   .exact .inr ⟨by rw [e];rfl,h2⟩
   .exact .inl ⟨by rw [e];rfl,h2⟩
 .rw [hb];exact ⟨false,f,var,loc,h,rfl,hf,.inr ⟨rfl,h1⟩⟩
end
theorem yng2 (cx:Cx):ymf0 cx okF evEnd:=fun var loc mk H h k f hf hd=>Post.ok ⟨var,loc,mk,h,hf,hd⟩
theorem yim1 {cx:Cx} {cq:CallF} (hcall:yuj0 cx.call cq) {o:Oper} {next:ypc0} {ev:EvF} (hn:ymf0 cx next ev) {var:Tr LV} {loc:Locs} {mk:List Nat} {H:Heap} {h:Hint} {k:Cont} {f:Fr} (hf:KFr cx var loc mk f) (hd:stepF o.op o.dst next cx var loc mk H h k) :
  Post ((Ev.doOp Tryz.prog cq o.op (f.evs (opds o.op)) H s0).bnd fun r s=>behind o f ev r.2 s r.1) fun r=>∃ var' loc' mk' h',KFr cx var' loc' mk' r.2.1/\k r.1 var' loc' mk' r.2.2 h':=by
 obtain ⟨r,hr,hq⟩:=yde1 hcall hf hd;refine Post.bnd ⟨r,hr,?_⟩;obtain ⟨e,H'⟩:=r;rcases hq with ⟨v,kd,he,h',hk⟩ | ⟨v,he,h',hk⟩
 .simp only at he hk;subst he;obtain ⟨f',var',loc',hp,hf',hk⟩:=ydm0 hf hk;show Post (Ev.putK (f.put o.dst v) fun f'=>ev f' H' s0) _;rw [hp];exact hn _ _ _ _ _ _ _ hf' hk
 .simp only at he hk;subst he;exact Post.ok ⟨var,loc,mk,h',hf,hk⟩
theorem yog2 {cx:Cx} {cq:CallF} (hcall:yuj0 cx.call cq) (all:List Oper) (o:Oper) {next:ypc0} {ev:EvF} (hn:ymf0 cx next ev):ymf0 cx (operF all o next) (Ev.evOp Tryz.prog cq all o ev):=by
 intro var loc mk H h k f hf hd;cases hg:o.guard with
 | none =>
  have hd:stepF o.op o.dst next cx var loc mk H h k:=by
   obtain ⟨dst,op,ty,pos,after,guard⟩:=o;simp only at hg;subst hg;exact hd
  have hw:wanted all o f s0=.ok (true,f) s0:=by unfold wanted;rw [hg]
  show Post ((wanted all o f s0).bnd _) _;rw [hw];exact yim1 hcall hn hf hd
 | some p =>
  have hd:yxn2 all p o.op o.dst next cx var loc mk H h k:=by
   obtain ⟨dst,op,ty,pos,after,guard⟩:=o;simp only at hg;subst hg;exact hd
  obtain ⟨w,f',var',loc',h',hw,hf',h2⟩:=yee1 hf hg hd;show Post ((wanted all o f s0).bnd _) _;rw [hw];rcases h2 with ⟨e,h2⟩ | ⟨e,h2⟩
  .subst e;exact yim1 hcall hn hf' h2
  .subst e;obtain ⟨f2,var2,loc2,hp,hf2,hk⟩:=ydm0 hf' h2;show Post (Ev.putK (f'.put o.dst yfe0) fun f'=>ev f' H s0) _;rw [hp];exact hn _ _ _ _ _ _ _ hf2 hk
theorem ydc2 {cx:Cx} {cq:CallF} (hcall:yuj0 cx.call cq) (all:List Oper):∀ l,ymf0 cx (opsF all l) (Ev.evOps Tryz.prog cq all l)
 | []=>yng2 cx
 | o::l=>yog2 hcall all o (ydc2 hcall all l)
theorem yfi0:∀ (l:List Oper) (acc:List Nat),(yug0 l acc).length=acc.length+l.length
 | [],acc=>rfl
 | o::l,acc=>by
  rw [yug0,yfi0 l]
  have:∀ (a b:List Nat),(app a b).length=a.length+b.length:=fun a b=>by
   induction a with
   | nil=>simp [app]
   | cons x a ih=>show (app a b).length+1=_;rw [ih];simp;omega
  rw [this];simp;omega
def Noted (done:List Did) (ds:List KDid):Prop:=∀ j x,done[j]?=some x->x.k≠.pure->∃ e,e∈ds/\e.i=j/\e.d=x
theorem yvj0 {x y:Did} (h:x.k=.pure\/y.k=.pure):yff0 x y=true:=by
 unfold yff0;rcases h with h | h <;> rw [h];cases x.k <;> rfl
theorem ywy0 {lt:Bool} {y:Did} {m:Nat} : ∀ {ds:List KDid},ydy0 lt y m ds=true->∀ e,e∈ds->m.testBit e.i=true\/(yff0 e.d y||(lt&&yjd0 e.d y))=true
 | [],_,e,he=>by cases he
 | x::ds,h,e,he=>by
  have h:bc (m.testBit x.i) (ydy0 lt y m ds) (bc (yff0 x.d y) (ydy0 lt y m ds) (bc (yjd0 x.d y) (bc lt (ydy0 lt y m ds) false) false))=true:=h
  have h2:ydy0 lt y m ds=true/\(m.testBit x.i=true\/(yff0 x.d y||(lt&&yjd0 x.d y))=true):=by
   cases hb:m.testBit x.i with
   | true=>rw [hb] at h;exact ⟨h,.inl rfl⟩
   | false =>
    rw [hb] at h;cases hc:yff0 x.d y with
    | true=>rw [hc] at h;exact ⟨h,.inr rfl⟩
    | false =>
     rw [hc] at h;cases hb:yjd0 x.d y with
     | false=>rw [hb] at h;cases h
     | true =>
      cases lt with
      | false=>rw [hb] at h;cases h
      | true=>rw [hb] at h;exact ⟨h,.inr rfl⟩
  rcases List.mem_cons.1 he with rfl | he
  .exact h2.2
  .exact ywy0 h2.1 e he
theorem yhu0 {lt:Bool} {y:Did} {m:Nat} : ∀ (done:List Did) (i:Nat),(∀ j x,done[j]?=some x->m.testBit (i+j)=true\/(yff0 x y||(lt&&yjd0 x y))=true)->didOk lt y m done i=true
 | [],_,_=>rfl
 | x::done,i,h=>by
  unfold didOk;rw [Bool.and_eq_true,Bool.or_eq_true];refine ⟨h 0 x rfl,yhu0 done (i+1) fun j z hz=>?_⟩;have:=h (j+1) z (by simpa using hz)
  rwa [show i+1+j=i+(j+1) by omega]
theorem app_eq {Z:Type} : ∀ a b:List Z,app a b=a++b
 | [],b=>rfl
 | x::a,b=>by rw [show app (x::a) b=x::app a b from rfl,app_eq a b];rfl
theorem Noted.add {done:List Did} {ds ds' : List KDid} (h:Noted done ds) {y:Did} (hs:∀ e,e∈ds->e∈ds') (hy:y.k≠.pure->⟨done.length,y⟩∈ds'):Noted (app done [y]) ds':=by
 intro j x hx hp;rw [app_eq] at hx;by_cases hj:j<done.length
 .rw [List.getElem?_append_left hj] at hx;obtain ⟨e,he,h1,h2⟩:=h j x hx hp;exact ⟨e,hs e he,h1,h2⟩
 .rw [List.getElem?_append_right (by omega)] at hx
  have hj0:j-done.length=0:=by
   rcases Nat.eq_zero_or_pos (j-done.length) with h | h
   .exact h
   .rw [List.getElem?_eq_none (by simp;omega)] at hx;cases hx
  rw [hj0] at hx;injection hx with hx;subst hx;exact ⟨_,hy hp,by show done.length=j;omega,rfl⟩
theorem yvw1 {late:Nat} {kd:Kd} {H H' : Heap} {done:List Did} {m:Nat} {ms:List Nat} {ds:List KDid} {k:List KDid->Prop} (hn:Noted done ds) (hd:yyn2 late kd H H' done.length (m::ms) ds k) :
  ∃ ds',Noted (app done [⟨kd,H,H'⟩]) ds'/\didOk (Nat.testBit late (lenL done)) ⟨kd,H,H'⟩ m done 0=true/\k ds':=by
 have notPure:∀ {kd:Kd},kd≠.pure->(optK (m::ms).head? fun m=>need (ydy0 (Nat.testBit late done.length) ⟨kd,H,H'⟩ m ds) (k (⟨done.length,⟨kd,H,H'⟩⟩::ds)))->∃ ds',Noted (app done [⟨kd,H,H'⟩]) ds'/\didOk (Nat.testBit late (lenL done)) ⟨kd,H,H'⟩ m done 0=true/\k ds':=fun {kd} hp hd=>by
  obtain ⟨m',hm,hd⟩:=yqa0.1 hd;injection hm with hm;subst hm;obtain ⟨hk,hd⟩:=yca0.1 hd;refine ⟨_,hn.add (fun e he=>by simp [he]) (fun _=>by simp),yhu0 _ _ fun j x hx=>?_,hd⟩;by_cases hxp:x.k=.pure
  .exact .inr (by rw [yvj0 (.inl hxp)];rfl)
  .obtain ⟨e,he,h1,h2⟩:=hn j x hx hxp;have:=ywy0 hk e he;rw [h1,h2] at this;rw [Nat.zero_add,Ev.lenL_eq];exact this
 cases kd with
 | pure=>exact ⟨ds,hn.add (fun e he=>he) (fun h=>absurd rfl h),yhu0 _ _ fun j x hx=>.inr (by rw [yvj0 (.inr rfl)];rfl),hd⟩
 | load b=>exact notPure (by simp) hd
 | change=>exact notPure (by simp) hd
def yww1 (cx:Cx) (late:Nat) (len:Nat) (c:yxk0) (ev:EvD):Prop:=∀ done ms ds var loc mk H h k f,KFr cx var loc mk f->Noted done ds->ms.length=len->c done.length ms ds cx var loc mk H h k ->
 Post (ev f H s0) fun r=>(∃ var' loc' mk' h',KFr cx var' loc' mk' r.1/\k .normal var' loc' mk' r.2.1 h')/\ynk0 late done r.2.2 ms=true
theorem yjm1 {cx:Cx} {late:Nat} {cq:CallF} (hcall:yuj0 cx.call cq) {o:Oper} {len:Nat} {next:yxk0} {ev:EvD} (hn:yww1 cx late len next ev) {done:List Did} {ms:List Nat} {ds:List KDid} {var:Tr LV} {loc:Locs} {mk:List Nat} {H:Heap} {h:Hint} {k:Cont} {f:Fr} (hf:KFr cx var loc mk f)
  (hno:Noted done ds) (hm:ms.length=len+1) (hd:stepD late o.op o.dst next done.length ms ds cx var loc mk H h k) :
  Post ((Ev.doOp Tryz.prog cq o.op (f.evs (opds o.op)) H s0).bnd fun r s=>ybi1 o f ev H r.2 s r.1) fun r=>(∃ var' loc' mk' h',KFr cx var' loc' mk' r.1/\k .normal var' loc' mk' r.2.1 h')/\ynk0 late done r.2.2 ms=true:=by
 obtain ⟨r,hr,hq⟩:=yde1 hcall hf hd;refine Post.bnd ⟨r,hr,?_⟩;obtain ⟨e,H'⟩:=r;cases ms with
 | nil=>simp at hm
 | cons m ms =>
 rcases hq with ⟨v,kd,he,h',hk⟩ | ⟨v,he,h',hk⟩
 .simp only at he hk;subst he;obtain ⟨ds',hno',hdid,hk⟩:=yvw1 hno hk;obtain ⟨f',var',loc',hp,hf',hk⟩:=ydm0 hf hk;show Post (Ev.putK (f.put o.dst v) fun f'=>(ev f' H' s0).bnd fun r s=>.ok (r.1,r.2.1,⟨kd,H,H'⟩::r.2.2) s) _;rw [hp];have hlen:(app done [(⟨kd,H,H'⟩ : Did)]).length=Nat.succ done.length:=by rw [app_eq];simp
  obtain ⟨r,hr,h1,h2⟩:=hn (app done [⟨kd,H,H'⟩]) ms ds' var' loc' mk H' h' k f' hf' hno' (by simpa using hm) (by rw [hlen];exact hk);refine Post.bnd ⟨r,hr,Post.ok ⟨h1,?_⟩⟩;show (didOk _ _ m done 0&&ynk0 _ _ _ ms)=true;rw [hdid,h2];rfl
 .exact hk.elim
theorem ypg2 {cx:Cx} {cq:CallF} (hcall:yuj0 cx.call cq) (all:List Oper) (o:Oper) {len:Nat} {next:yxk0} {ev:EvD} (hn:yww1 cx (ygg0 all) len next ev):yww1 cx (ygg0 all) (len+1) (operD all o next) (Ev.evOpD Tryz.prog cq all o ev):=by
 intro done ms ds var loc mk H h k f hf hno hm hd;cases hg:o.guard with
 | none =>
  have hd:stepD (ygg0 all) o.op o.dst next done.length ms ds cx var loc mk H h k:=by
   obtain ⟨dst,op,ty,pos,after,guard⟩:=o;simp only at hg;subst hg;exact hd
  have hw:wanted all o f s0=.ok (true,f) s0:=by unfold wanted;rw [hg]
  show Post ((wanted all o f s0).bnd _) _;rw [hw];exact yjm1 hcall hn hf hno hm hd
 | some p =>
  have hd:yzn2 all p o.op o.dst next done.length ms ds cx var loc mk H h k:=by
   obtain ⟨dst,op,ty,pos,after,guard⟩:=o;simp only at hg;subst hg;exact hd
  obtain ⟨w,f',var',loc',h',hw,hf',h2⟩:=yee1 hf hg hd;show Post ((wanted all o f s0).bnd _) _;rw [hw];rcases h2 with ⟨e,h2⟩ | ⟨e,h2⟩
  .subst e;exact yjm1 hcall hn hf' hno hm h2
  .subst e;obtain ⟨f2,var2,loc2,hp,hf2,hk⟩:=ydm0 hf' h2;show Post (Ev.putK (f'.put o.dst yfe0) fun f'=>(ev f' H s0).bnd fun r s=>.ok (r.1,r.2.1,⟨.pure,H,H⟩::r.2.2) s) _;rw [hp];cases ms with
   | nil=>simp at hm
   | cons m ms =>
   have hlen:(app done [(⟨.pure,H,H⟩ : Did)]).length=Nat.succ done.length:=by rw [app_eq];simp
   obtain ⟨r,hr,h1,h2⟩:=hn (app done [⟨.pure,H,H⟩]) ms ds var2 loc2 mk H h' k f2 hf2 (hno.add (fun e he=>he) (fun h=>absurd rfl h)) (by simpa using hm) (by rw [hlen];exact hk);refine Post.bnd ⟨r,hr,Post.ok ⟨h1,?_⟩⟩;show (didOk _ _ m done 0&&ynk0 _ _ _ ms)=true;rw [yhu0 _ _ fun j x hx=>.inr (by rw [yvj0 (.inr rfl)];rfl),h2];rfl
theorem yec2 {cx:Cx} {cq:CallF} (hcall:yuj0 cx.call cq) (all:List Oper):∀ l,yww1 cx (ygg0 all) l.length (opsD all l) (Ev.ykf1 Tryz.prog cq all l)
 | []=>fun done ms ds var loc mk H h k f hf hno hm hd=>Post.ok ⟨⟨var,loc,mk,h,hf,hd⟩,by cases done <;> rfl⟩
 | o::l=>ypg2 hcall all o (yec2 hcall all l)
theorem yxw1 {cx:Cx} {cq:CallF} (hcall:yuj0 cx.call cq) (ops:List Oper) (draw:Bool):ymf0 cx (bc draw (regD ops) (regF ops)) (Ev.yfo0 Tryz.prog cq ops draw):=by
 intro var loc mk H h k f hf hd;cases draw with
 | false=>exact ydc2 hcall ops ops _ _ _ _ _ _ _ hf.noLoc hd
 | true =>
  obtain ⟨hr,hd⟩:=yca0.1 (show need (yvg0 ops) _ from hd);have hl:(ygd0 ops).length=ops.length:=by unfold ygd0;rw [yfi0];simp
  obtain ⟨r,hrun,h1,h2⟩:=yec2 hcall ops ops [] (ygd0 ops) [] var [] mk H h k f hf.noLoc (fun j x hx=>by cases hx) hl hd;show Post ((Ev.ykf1 Tryz.prog cq ops ops f H s0).bnd _) _;refine Post.bnd ⟨r,hrun,?_⟩;simp only [hr,h2,bc_true];exact Post.ok h1
end Go.Proofs.YtnpbgnjiihecgaaGreat.Ev.K
namespace Go.Proofs.YtnpbgnjiihecgaaGreat.Ev.K
open Go
structure CxOk (A:Env) (cq:CallF) (cx:Cx):Prop where
 call:yuj0 cx.call cq
 nv:cx.nv=A.nv cx.fn
 bp:cx.round=none->cx.bp=A.bp cx.fn
 bpr:cx.round≠none->cx.bp=fun _=>none
 kp:cx.kp=A.kp cx.fn
theorem ykm1 (s:Nat->Nat):∀ (ch:List (Nat × LObj)) (H:Heap) (k:Heap->Prop),putsK s ch H k=k (putsQ s ch H)
 | [],H,k=>rfl
 | p::ch,H,k=>by
  show K.putK H (s p.1) (mapKO s p.2) (fun H=>putsK s ch H k)=_;rw [yci0,ykm1 s ch,ybl1];rfl
theorem yxy0 (s:Nat->Nat):∀ (os:List LObj) (H:Heap) (k:Heap->Prop),yuk1 s os H k=k (yej0 s os H)
 | [],H,k=>rfl
 | o::os,H,k=>by
  show K.pushK H (mapKO s o) (fun H=>yuk1 s os H k)=_;rw [ydi0,yxy0 s os,ybl1];rfl
theorem yfc2 (l:List Nat) (m:Nat) (ch:List (Nat × LObj)) (new:List LObj) (H:Heap) (k:(Nat->Nat)->Heap->Prop):useR l m ch new H k=k (sg l m H.n) (yqr0 l m ch new H):=by
 unfold useR;rw [ykm1,yxy0];rfl
theorem ylm1 {x:LX} {n o:Prop} {e:Nat->Prop} (h:onX x n e o):(x=.normal/\n)\/(∃ id,x=.exit id/\e id)\/((x=.ret\/∃ v,x=.pan v)/\o):=by
 cases x with
 | normal=>exact .inl ⟨rfl,h⟩
 | exit id=>exact .inr (.inl ⟨id,rfl,h⟩)
 | ret=>exact .inr (.inr ⟨.inl rfl,h⟩)
 | pan v=>exact .inr (.inr ⟨.inr ⟨v,rfl⟩,h⟩)
section
variable {cx:Cx}
theorem ytu2 {a b:ypc0} {ea eb:EvF} (ha:ymf0 cx a ea) (hb:ymf0 cx b eb):ymf0 cx (seqF a b) (evSeq ea eb):=by
 intro var loc mk H h k f hf hd;obtain ⟨r,hr,var',loc',mk',h',hf',hk⟩:=ha _ _ _ _ _ _ _ hf hd;obtain ⟨x,f',H'⟩:=r;refine Post.bnd ⟨_,hr,?_⟩;simp only at hf' hk ⊢;rcases ylm1 hk with ⟨rfl,hk⟩ | ⟨id,rfl,hk⟩ | ⟨hx,hk⟩
 .exact hb _ _ _ _ _ _ _ hf' hk
 .exact Post.ok ⟨var',loc',mk',h',hf',hk⟩
 .rcases hx with rfl | ⟨v,rfl⟩
  .exact Post.ok ⟨var',loc',mk',h',hf',hk⟩
  .exact Post.ok ⟨var',loc',mk',h',hf',hk⟩
theorem yuo2 (c:Operand) {a b:ypc0} {ea eb:EvF} (ha:ymf0 cx a ea) (hb:ymf0 cx b eb):ymf0 cx (condF c a b) (ylf1 c ea eb):=by
 intro var loc mk H h k f hf hd;have h1:=yod0 hf hd;obtain ⟨t,ht,h1⟩:=ybu0 h1;unfold ylf1;rw [ht];show Post ((yym0 t s0).bnd _) _;rw [yly0];rcases yxi0 h1 with ⟨e,h',h2⟩ | ⟨e,h',h2⟩
 .subst e;exact ha _ _ _ _ _ _ _ hf h2
 .subst e;exact hb _ _ _ _ _ _ _ hf h2
theorem yfe1 (id:Nat) {b:ypc0} {eb:EvF} (hb:ymf0 cx b eb):ymf0 cx (yyb2 id b) (yxw0 id eb):=by
 intro var loc mk H h k f hf hd;obtain ⟨r,hr,var',loc',mk',h',hf',hk⟩:=hb _ _ _ _ _ _ _ hf hd;obtain ⟨x,f',H'⟩:=r;refine Post.bnd ⟨_,hr,?_⟩;simp only at hf' hk ⊢;rcases ylm1 hk with ⟨rfl,hk⟩ | ⟨id',rfl,hk⟩ | ⟨hx,hk⟩
 .exact Post.ok ⟨var',loc',mk',h',hf',hk⟩
 .rcases bcP hk with ⟨e,hk⟩ | ⟨e,hk⟩
  .simp only [e,bc_true];exact Post.ok ⟨var',loc',mk',h',hf',hk⟩
  .simp only [e,bc_false];exact Post.ok ⟨var',loc',mk',h',hf',hk⟩
 .rcases hx with rfl | ⟨v,rfl⟩
  .exact Post.ok ⟨var',loc',mk',h',hf',hk⟩
  .exact Post.ok ⟨var',loc',mk',h',hf',hk⟩
theorem ymm1 {b:ypc0} {eb:EvF} (hb:ymf0 cx b eb):∀ n,ymf0 cx (@Nat.rec (fun _=>ypc0) (fun _ _ _ _ _ _ _=>False) (fun _ again cx var loc mk H h k=>b cx var loc mk H h fun x var loc mk H h =>
  onX x (again cx var loc mk H h k) (fun _=>k x var loc mk H h) (k x var loc mk H h)) n) (loopN eb n)
 | 0=>fun _ _ _ _ _ _ _ _ hd=>hd.elim
 | n+1=>by
  intro var loc mk H h k f hf hd;obtain ⟨r,hr,var',loc',mk',h',hf',hk⟩:=hb _ _ _ _ _ _ _ hf hd;obtain ⟨x,f',H'⟩:=r;refine Post.bnd ⟨_,hr,?_⟩;simp only at hf' hk ⊢;rcases ylm1 hk with ⟨rfl,hk⟩ | ⟨id,rfl,hk⟩ | ⟨hx,hk⟩
  .exact ymm1 hb n _ _ _ _ _ _ _ hf' hk
  .exact Post.ok ⟨var',loc',mk',h',hf',hk⟩
  .rcases hx with rfl | ⟨v,rfl⟩
   .exact Post.ok ⟨var',loc',mk',h',hf',hk⟩
   .exact Post.ok ⟨var',loc',mk',h',hf',hk⟩
theorem yvo2 {c:Code} {b:ypc0} {eb:EvF} (hb:ymf0 cx b eb):ymf0 cx (loopF b) (Ev.ymf1 Tryz.prog 100000 c eb):=ymm1 hb 100000
theorem yge1 {var:Tr LV} {loc:Locs} {mk:List Nat} {f:Fr} (hf:KFr cx var loc mk f):∀ {slots:List Nat} {k:List LV->Prop},(∀ i,i∈slots->i<cx.nv)->yof2 slots var k->k (slots.map f.get)
 | [],k,_,h=>h
 | i::slots,k,hs,h=>by
  have h:trGet .junk var i fun v=>need (notB (yta0 v)) (yof2 slots var fun vs=>k (v::vs)):=h
  rw [yap0] at h;obtain ⟨_,h⟩:=yca0.1 h;have e:f.get i=var.get .junk i:=hf.var i (hs i (by simp));rw [<- e] at h;exact yge1 hf (slots:=slots) (k:=fun vs=>k (f.get i::vs)) (fun j hj=>hs j (by simp [hj])) h
theorem ygc2 {ok:List LV->List LObj->BRes->Prop} {okf:Fr->List LV->List LObj->BRes->Prop} (hk:∀ f,f.fn=cx.fn->f.n=cx.n->∀ xs os r,ok xs os r->okf f xs os r) (ent:BEnt):ymf0 cx (useG ok ent) (useGQ okf ent):=by
 intro var loc mk H h k f hf hd;obtain ⟨hmk,hd⟩:=yca0.1 hd;obtain ⟨hro,hd⟩:=yca0.1 hd;obtain ⟨hsl,hd⟩:=yca0.1 hd;have hsl:∀ i,i∈ent.slots->i<cx.nv:=fun i hi=>bltN.1 (List.all_eq_true.1 hsl i hi)
 have h1:=yge1 hf hsl hd;obtain ⟨l,xs,os,hc,h1⟩:=yel1 h1;obtain ⟨p,hp,h1⟩:=yqa0.1 h1;rcases yxi0 h1 with ⟨e,h',h1⟩ | ⟨_,_,h1⟩
 .obtain ⟨w1,h1⟩:=yca0.1 h1;obtain ⟨w2,h1⟩:=yca0.1 h1;obtain ⟨w3,h1⟩:=yca0.1 h1;obtain ⟨w4,h1⟩:=yca0.1 h1;obtain ⟨w5,h1⟩:=yca0.1 h1;obtain ⟨hB,h1⟩:=h1;rw [yfc2,yui0] at h1
  have hm:f.marks=[]:=by
   rw [hf.marks];cases mk with
   | nil=>rfl
   | cons _ _=>cases hmk
  have hr:f.round=none:=by
   rw [hf.round];cases hcr:cx.round with
   | none=>rfl
   | some _=>rw [hcr] at hro;cases hro
  unfold useGQ;rw [hc];simp only [hp];rw [if_pos ⟨e,by simp only [fitB,w1,w2,w3,w4,w5,Bool.and_self],hm,hr,hk f hf.fn hf.n _ _ _ hB⟩];refine Post.ok ⟨_,[],[],h',⟨hf.fn,hf.n,rfl,?_,fun i _=>rfl,fun i v _ hv=>by cases hv⟩,h1⟩;show none=cx.round;rw [<- hf.round];exact hr.symm
 .exact h1.elim
theorem ywo2 (ent:BEnt) (id:Nat) (c:Code):ymf0 cx (useB ent id c) (useBQ ent id c):=fun var loc mk H h k f hf hd =>
 ygc2 (ok:=fun xs os r=>BOk Tryz.prog cx.fn cx.n (.block id c) ent.slots xs os r) (okf:=fun f xs os r=>BOk Tryz.prog f.fn f.n (.block id c) ent.slots xs os r) (fun f h1 h2 xs os r h=>by rw [h1,h2];exact h) ent var loc mk H h k f hf hd
theorem ytr0 {kp:Nat->Bool} {t t' : Tr LV} : ∀ nv,(∀ i,i<nv->t.get .junk i=t'.get .junk i)->restr kp nv t=restr kp nv t'
 | 0,_=>rfl
 | nv+1,h=>by
  show bc (kp nv) ((restr kp nv t).set .junk (t.get .junk nv) nv) (restr kp nv t)=bc (kp nv) ((restr kp nv t').set .junk (t'.get .junk nv) nv) (restr kp nv t');rw [ytr0 nv fun i hi=>h i (by omega),h nv (by omega)]
theorem yqg2 {pe:Option Code} {k:LX->Prop} (h:pendK pe k):∃ x,pend pe=some x/\k x:=by
 unfold pendK at h;split at h
 .exact ⟨_,rfl,h⟩
 .exact ⟨_,rfl,h⟩
 .exact ⟨_,rfl,h⟩
 .exact h.elim
theorem yrg2 {A:Env} {cq:CallF} (hcx:CxOk A cq cx) (g:Operand) (ps:List Tmp) (assign body:Code):ymf0 cx (ybo2 g ps assign body) (fun f H s=>ygo0 cq g ps assign body (ycg0 A g f) H s):=by
 intro var loc mk H h k f hf hd;have h1:=yod0 hf hd
 have hev:(ycg0 A g f).ev g=f.ev g:=by
  cases g with
  | tmp j =>
   show ((restr (A.kp f.fn) (A.nv f.fn) f.t).set .junk (f.t.get .junk j) j).get .junk j=f.t.get .junk j;rw [Tr.get_set,if_pos rfl]
  | _=>rfl
 have hre:restr cx.kp cx.nv var=restr (A.kp f.fn) (A.nv f.fn) f.t:=by
  rw [hf.fn,<- hcx.nv,<- hcx.kp];exact (ytr0 cx.nv hf.var).symm
 have hkf:∀ mk',KFr cx (keepT g (f.ev g) (restr cx.kp cx.nv var)) [] mk' { ycg0 A g f with marks:=mk' }:=fun mk'=>by
  refine ⟨hf.fn,hf.n,rfl,hf.round,fun i hi=>?_,fun i v _ hv=>by cases hv⟩;show (keepT g (f.ev g) (restr (A.kp f.fn) (A.nv f.fn) f.t)).get .junk i=_;rw [<- hre]
 split at h1
 .rename_i g' first captured hv
  show Post (ygo0 cq g ps assign body (ycg0 A g f) H s0) _;unfold ygo0;rw [hev,hv];simp only
  have hbegin:∃ H1 d mk',ygf0 (ycg0 A g f) H=some (H1,d,mk')/\(pushK H1 (.loop .ready none cx.fn cx.n (keepT g (f.ev g) (restr cx.kp cx.nv var)) ps assign body d) fun H2 =>
    cx.call (.func g') (app first (app [.func (.yield H1.n) [] []] captured)) H2 h fun e H h=>@LEnd.rec (fun _=>Prop) (fun _=>getObj H H1.n fun ob=>match ob with
     | .loop .busy _ _ _ _ _ _ _ _=>False
     | .loop _ pe fn n t ps asg bo d=>pendK pe fun x=>putK H H1.n (.loop .exhausted pe fn n t ps asg bo d) fun H=>k x (keepT g (f.ev g) (restr cx.kp cx.nv var)) [] mk' H h
     | _=>False) (fun w=>k (.pan w) (keepT g (f.ev g) (restr cx.kp cx.nv var)) [] mk' H h) e):=by
   unfold yao2 at h1;cases hr:cx.round with
   | none =>
    rw [hr] at h1;have h1:pushK H (.defers false) _:=h1;rw [ydi0] at h1;refine ⟨_,_,_,?_,h1⟩;show ygf0 (ycg0 A g f) H=_;unfold ygf0;rw [show (ycg0 A g f).round=none from hf.round.trans hr,show (ycg0 A g f).marks=mk from hf.marks]
   | some l =>
    rw [hr] at h1;have h1:getObj H l _:=h1;rw [yfd0] at h1;split at h1
    .rename_i st pe fn n t ps' asg bo d hg;refine ⟨_,_,_,?_,h1⟩;show ygf0 (ycg0 A g f) H=_;unfold ygf0;rw [show (ycg0 A g f).round=some l from hf.round.trans hr];simp only [hg];rw [show (ycg0 A g f).marks=mk from hf.marks]
    .exact h1.elim
  obtain ⟨H1,d,mk',hb,h2⟩:=hbegin;rw [hb];simp only;rw [ydi0] at h2;obtain ⟨r,hr,h',hQ⟩:=hcx.call _ _ _ _ _ h2
  have hobj:(LObj.loop .ready none (ycg0 A g f).fn (ycg0 A g f).n (ycg0 A g f).t ps assign body d)=.loop .ready none cx.fn cx.n (keepT g (f.ev g) (restr cx.kp cx.nv var)) ps assign body d:=by
   rw [show (ycg0 A g f).fn=cx.fn from hf.fn,show (ycg0 A g f).n=cx.n from hf.n,show (ycg0 A g f).t=keepT g (f.ev g) (restr (A.kp f.fn) (A.nv f.fn) f.t) from rfl,hre]
  rw [hobj];refine Post.bnd ⟨r,hr,?_⟩;obtain ⟨e,H'⟩:=r;cases e with
  | pan v=>exact Post.ok ⟨_,[],mk',h',hkf mk',hQ⟩
  | ret v =>
   have hQ:getObj H' H1.n _:=hQ;rw [yfd0] at hQ;show Post (ygs0 { ycg0 A g f with marks:=mk' } H1.n H' s0 (.ret v)) _;unfold ygs0;simp only;split at hQ
   .exact hQ.elim
   .rename_i st pe fn n t ps' asg bo d' hst hg;obtain ⟨x,hx,hQ⟩:=yqg2 hQ;rw [yci0] at hQ;rw [hg];cases st with
    | busy=>first | exact (hst rfl).elim | exact (hst _ _ _ _ _ _ _ _ rfl).elim | (simp at hst;done)
    | _=>simp only [hx];exact Post.ok ⟨_,[],mk',h',hkf mk',hQ⟩
   .exact hQ.elim
 .exact h1.elim
theorem yhe1 {A:Env} {cq:CallF} (hcx:CxOk A cq cx) (c:Code):ymf0 cx (codeF c) (evQ A cq c):=by
 induction c with
 | skip=>exact yng2 cx
 | region id ops draw=>exact yxw1 hcx.call ops.toList draw
 | seq a b ha hb=>exact ytu2 ha hb
 | cond c a b ha hb=>exact yuo2 c ha hb
 | block id b hb =>
  intro var loc mk H h k f hf hd;have hd:ypf2 id b (codeF b) cx var loc mk H h k:=hd;show Post (yfl1 A id b (evQ A cq b) f H s0) _;unfold yfl1;unfold ypf2 at hd;cases hr:cx.round with
  | none =>
   have hbp:=hcx.bp hr;rw [show f.round=none from hf.round.trans hr];simp only;rw [hbp] at hd;rw [hf.fn];cases hA:A.bp cx.fn id with
   | none=>rw [hA] at hd;exact yfe1 id hb _ _ _ _ _ _ _ hf hd
   | some ent=>rw [hA] at hd;exact ywo2 ent id b _ _ _ _ _ _ _ hf hd
  | some l =>
   have hbp:=hcx.bpr (by rw [hr];simp);rw [show f.round=some l from hf.round.trans hr];rw [hbp] at hd;exact yfe1 id hb _ _ _ _ _ _ _ hf hd
 | loop b hb =>
  have h1:ymf0 cx (loopF (codeF b)) (Ev.ymf1 Tryz.prog 100000 b (evQ A cq b)):=yvo2 hb;exact h1
 | rangeFunc g ps asg bo _ _=>exact yrg2 hcx g ps.toList asg bo
 | exit id=>exact fun var loc mk H h k f hf hd=>Post.ok ⟨var,loc,mk,h,hf,hd⟩
 | scope b hb=>exact hb
 | label l=>exact yng2 cx
 | goto l=>exact fun _ _ _ _ _ _ _ _ hd=>hd.elim
 | ret=>exact fun var loc mk H h k f hf hd=>Post.ok ⟨var,loc,mk,h,hf,hd⟩
 | refuse w=>exact fun _ _ _ _ _ _ _ _ hd=>hd.elim
theorem ynm1 {var:Tr LV} {loc:Locs} {mk:List Nat} {f:Fr} {H:Heap} (hf:KFr cx var loc mk f) {r:ResultVar} {k:LV->Prop} (h:yvk1 r cx.nv var loc H k):∃ v,yzw0 Tryz.prog f H r=some v/\k v:=by
 cases r with
 | tmp t =>
  have h1:=yod0 hf (show opd (.tmp t) cx.nv var loc _ from h);obtain ⟨hj,h1⟩:=yca0.1 h1;refine ⟨_,?_,h1⟩;show bc (yta0 (f.get t)) none (some (f.get t))=some (f.get t);rw [show yta0 (f.get t)=false from yal0 hj];rfl
 | cell a t =>
  have h1:=yod0 hf (show opd (.tmp a) cx.nv var loc _ from h);obtain ⟨v,hv,h1⟩:=yqa0.1 h1;rw [T.loadL_eq] at hv;exact ⟨v,hv,h1⟩
theorem ygm0 {var:Tr LV} {loc:Locs} {mk:List Nat} {f:Fr} {H:Heap} (hf:KFr cx var loc mk f):∀ {l:List ResultVar} {k:List LV->Prop},yot0 l cx.nv var loc H k->∃ vs,ywg0 Tryz.prog f H l=some vs/\k vs
 | [],k,h=>⟨[],rfl,h⟩
 | r::l,k,h=>by
  obtain ⟨v,hv,h1⟩:=ynm1 hf (show yvk1 r cx.nv var loc H fun v=>yot0 l cx.nv var loc H fun vs=>k (v::vs) from h);obtain ⟨vs,hvs,h1⟩:=ygm0 hf h1;refine ⟨v::vs,?_,h1⟩;unfold ywg0;rw [hv,hvs]
end
theorem yom1 {A:Env} {call:KCall} {cq:CallF} (hc:yuj0 call cq) {g:FuncId} {args:List LV} {H:Heap} {h:Hint} {Q:LEnd->Heap->Hint->Prop} (hd:bodyF A call g args H h Q) :
  Post (evFn Tryz.prog (evQ A cq) (.func g) args H s0) fun r=>∃ h',Q r.1 r.2 h':=by
 obtain ⟨fu,hfu,hd⟩:=yqa0.1 hd;obtain ⟨c,hcb,hd⟩:=yqa0.1 hd;rw [yio2] at hfu;unfold evFn;simp only [hfu];unfold ynf1;simp only [hcb];have hcx:CxOk A cq ⟨g,max fu.ntmps (lenL args),A.nv g,none,call,A.bp g,A.kp g⟩:=⟨hc,rfl,fun _=>rfl,fun h=>absurd rfl h,rfl⟩;obtain ⟨r,hr,var',loc',mk',h',hf',hk⟩:=yhe1 hcx c (yyf0 .nil 0 args) [] [] H h _ ⟨g,max fu.ntmps (lenL args),yyf0 .nil 0 args,[],none⟩ ⟨rfl,rfl,rfl,rfl,fun _ _=>rfl,fun i v _ hv=>by cases hv⟩ hd;refine Post.bnd ⟨r,hr,?_⟩;obtain ⟨x,f',H'⟩:=r;simp only at hf' hk ⊢;obtain ⟨H2,hm,hk⟩:=yqa0.1 hk;rw [hf'.marks,hm];simp only;rw [ypd1] at hk;unfold leave;cases x with
 | exit id=>exact hk.elim
 | pan v=>exact Post.ok ⟨h',hk⟩
 | normal =>
  obtain ⟨vs,hvs,hk⟩:=ygm0 hf' hk;simp only [hvs];exact Post.ok ⟨h',hk⟩
 | ret =>
  obtain ⟨vs,hvs,hk⟩:=ygm0 hf' hk;simp only [hvs];exact Post.ok ⟨h',hk⟩
theorem yhh1 {fn l:Nat} {Q:LEnd->Heap->Hint->Prop} {H:Heap} {h:Hint} {x:LX} (hd:ypt0 fn l Q H h x):Post (yhs0 Tryz.prog fn l H x s0 (H.get l)) fun r=>∃ h',Q r.1 r.2 h':=by
 unfold ypt0 at hd;rw [yfd0] at hd;split at hd
 .rename_i pe fn' n t ps asg bo d hg;rw [hg];unfold yhs0;cases x with
  | normal=>have hd:putK H l _ _:=hd;rw [yci0] at hd;exact Post.ok ⟨h,hd⟩
  | ret=>have hd:putK H l _ _:=hd;rw [yci0] at hd;exact Post.ok ⟨h,hd⟩
  | exit id=>have hd:putK H l _ _:=hd;rw [yci0] at hd;exact Post.ok ⟨h,hd⟩
  | pan v =>
   obtain ⟨h1,hd⟩:=yca0.1 hd;rw [T.hasFn_eq] at h1;simp only [h1,bc_true];exact Post.ok ⟨h,hd⟩
 .exact hd.elim
theorem ysg2 {A:Env} {call:KCall} {cq:CallF} (hc:yuj0 call cq) {l:Nat} {args:List LV} {H:Heap} {h:Hint} {Q:LEnd->Heap->Hint->Prop} (hd:yqf2 A call l args H h Q) :
  Post (evFn Tryz.prog (evQ A cq) (.yield l) args H s0) fun r=>∃ h',Q r.1 r.2 h':=by
 unfold yqf2 at hd;rw [yfd0] at hd;split at hd
 .rename_i pe fn n t ps asg bo d hg;obtain ⟨t',ht,hd⟩:=yqa0.1 hd;rw [yui0] at hd;have hcx:CxOk A cq ⟨fn,n,A.nv fn,some l,call,fun _=>none,A.kp fn⟩:=⟨hc,rfl,(fun h=>by cases h),fun _=>rfl,rfl⟩;obtain ⟨r,hr,var',loc',mk',h',hf',hk⟩:=yhe1 hcx asg t' [] [] H h _ ⟨fn,n,t',[],some l⟩ ⟨rfl,rfl,rfl,rfl,fun _ _=>rfl,fun i v _ hv=>by cases hv⟩ hd;show Post (yax0 Tryz.prog (evQ A cq) l args H s0 (H.get l)) _;rw [hg];unfold yax0;simp only [ht];refine Post.bnd ⟨r,hr,?_⟩;obtain ⟨x,f',H'⟩:=r;simp only at hf' hk ⊢;rcases ylm1 hk with ⟨rfl,hk⟩ | ⟨id,rfl,hk⟩ | ⟨_,hk⟩
  .rw [yfd0] at hk;split at hk
   .rename_i pe2 fn2 n2 t2 ps2 asg2 bo2 d2 hg2;rw [yci0] at hk;rw [hg2];simp only;obtain ⟨r,hr,var2,loc2,mk2,h2,hf2,hk⟩:=yhe1 hcx bo var' loc' mk' _ h' _ f' hf' hk;refine Post.bnd ⟨r,hr,?_⟩;obtain ⟨x2,f2,H2⟩:=r;simp only at hf2 hk ⊢;obtain ⟨hm,hk⟩:=yca0.1 hk
    have hm2:f2.marks=[]:=by
     rw [hf2.marks];cases mk2 with
     | nil=>rfl
     | cons _ _=>cases hm
    rw [hm2,hf2.fn];exact yhh1 hk
   .exact hk.elim
  .exact hk.elim
  .exact hk.elim
 .exact hd.elim
theorem yxo2 {ent:CEnt} {g:FuncId} (hb:hasBody Tryz.prog g=true) {args:List LV} {H:Heap} {h:Hint} {Q:LEnd->Heap->Hint->Prop} {other:Prop} {oq:R (LEnd × Heap)} (ho:other->Post oq fun r=>∃ h',Q r.1 r.2 h') (hd:useC ent args H h Q other) :
  Post (useQ ent g args H s0 oq) fun r=>∃ h',Q r.1 r.2 h':=by
 obtain ⟨l,xs,os,hc,h1⟩:=yel1 hd;unfold useQ;rw [hc];simp only;cases hp:ent.f xs os with
 | none =>
  rw [hp] at h1;exact ho h1
 | some p =>
  rw [hp] at h1;rcases yxi0 h1 with ⟨e,h',h1⟩ | ⟨_,_,h1⟩
  .obtain ⟨w1,h1⟩:=yca0.1 h1;obtain ⟨w2,h1⟩:=yca0.1 h1;obtain ⟨w3,h1⟩:=yca0.1 h1;obtain ⟨w4,h1⟩:=yca0.1 h1;rw [yfc2] at h1;simp only [e,hb,fitC,w1,w2,w3,w4,Bool.and_self,bc_true];exact Post.ok ⟨h',h1⟩
  .exact h1.elim
theorem fn_ok {A:Env} {call:KCall} {cq:CallF} (hc:yuj0 call cq):yuj0 (fnF A call) (fnQ A cq):=by
 intro fn args H h Q hd;cases fn with
 | func g =>
  have hd : @Option.rec CEnt (fun _=>Prop) (bodyF A call g args H h Q) (fun ent=>need (T.hasBody g) (useC ent args H h Q (bodyF A call g args H h Q))) (A.pol g):=hd;show Post (match A.pol g with | some ent=>useQ ent g args H s0 (evFn Tryz.prog (evQ A cq) (.func g) args H s0) | none=>evFn Tryz.prog (evQ A cq) (.func g) args H s0) _;cases hp:A.pol g with
  | none=>rw [hp] at hd;exact yom1 hc hd
  | some ent =>
   rw [hp] at hd;obtain ⟨hb,hd⟩:=yca0.1 hd;rw [T.hasBody_eq] at hb;exact yxo2 hb (fun h=>yom1 hc h) hd
 | yield l=>exact ysg2 hc hd
 | method n=>exact hd.elim
 | methodOf t n=>exact hd.elim
 | via t p g b=>exact hd.elim
theorem ytg2 (A:Env):∀ k,yuj0 (runF A k) (callQ A k)
 | 0=>fun _ _ _ _ _ hd=>hd.elim
 | k+1=>fn_ok (ytg2 A k)
end Go.Proofs.YtnpbgnjiihecgaaGreat.Ev.K
