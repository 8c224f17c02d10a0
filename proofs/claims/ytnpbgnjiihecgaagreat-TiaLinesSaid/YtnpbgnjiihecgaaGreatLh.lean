/- What the evaluator of code says, the machine does: code. What the evaluator of code says, the machine does: loops over functions. What the evaluator of code says, the machine does: functions, rounds, calls. What the evaluator of code says, the machine does: rounds; every call. -/
import Derived.Test.YtnpbgnjiihecgaaGreatLg
import Derived.RangeFuncRecord
namespace Go.Proofs.YtnpbgnjiihecgaaGreat.Ev
open Go
variable {P:Program}
theorem yhv1 {ops:Array Oper} {n:Nat} {o:Oper} {r:Rec} (h:Step1 P ops o r n):r.d.a.Le r.d.b:=by
 by_cases hk:r.d.k=.change
 .exact yma1 h hk
 .rw [yrb2 h hk];exact Heap.Le.refl _
theorem ydk1 {ops:Array Oper} {n:Nat} : ∀ (l:List Oper) (rs:List Rec) (f:Fr) (H:Heap) (f' : Fr) (H' : Heap),Facts P ops n l rs f H f' H'->H.Le H'
 | [],[],_,_,_,_,h=>by obtain ⟨_,_,_,_,_,rfl⟩:=h;exact Heap.Le.refl _
 | [],_::_,_,_,_,_,h=>h.elim
 | _::_,[],_,_,_,_,h=>h.elim
 | o::l,r::rs,f,H,f',H',h=>by
  obtain ⟨_,_,_,_,_,rfl,h1,f1,_,hn⟩:=h;exact (yhv1 h1).trans (ydk1 l rs _ _ _ _ hn)
def ywe0 (P:Program) (c:Code) (ev:EvF):Prop :=
 ∀ f H s x f' H' s',ev f H s=.ok (x,f',H') s'->s'.ob->s.ob/\H.Le H'/\CT P c f H x f' H'
theorem yek1 {c:Code} {f:Fr} {H:Heap} (h:∀ (b:Frame) (tmps:Array Value) (ds:List Deferred) (k:List Item) (cs:List Frame) (w:World),step P (lone (yga0 b tmps ds (.code c::k)) cs w)=.next (lone (yga0 b tmps ds k) cs w)) :
  CT P c f H .normal f H:=fun J w b tmps ds k cs hs hf=>⟨J,w,tmps,ds,Moved.refl hs,hf,trivial,.one (h b tmps ds k cs w)⟩
theorem yed1 {c:Code} (h:∀ (b:Frame) (tmps:Array Value) (ds:List Deferred) (k:List Item) (cs:List Frame) (w:World),step P (lone (yga0 b tmps ds (.code c::k)) cs w)=.next (lone (yga0 b tmps ds k) cs w)) :
  ywe0 P c evEnd:=by
 intro f H s x f' H' s' he hob;injection he with h1 h2;injection h1 with h1 h3;injection h3 with h3 h4;subst h1;subst h2;subst h3;subst h4;exact ⟨hob,Heap.Le.refl _,yek1 h⟩
theorem yna1 (hg:Good P) {call:CallF} (hcall:ylc0 P call) (id:Nat) (ops:Array Oper) (draw:Bool):ywe0 P (.region id ops draw) (yfo0 P call ops.toList draw):=by
 intro f H s x f' H' s' h hob;unfold yfo0 at h;cases draw with
 | true =>
  simp only [bc_true] at h;obtain ⟨⟨f1,H1,dl⟩,s1,hd,h⟩:=yag0 h;rcases bcR h with ⟨hr,h⟩ | ⟨_,h⟩
  .rcases bcR h with ⟨hdd,h⟩ | ⟨_,h⟩
   .injection h with h1 h2;injection h1 with h1 h3;injection h3 with h3 h4;subst h1;subst h2;subst h3;subst h4;obtain ⟨h1,h2⟩:=yck1 hg hcall (id:=id) hd hob hr hdd;obtain ⟨_,rs,_,hfacts⟩:=yqg0 hg hcall ops f.n ops.toList f H s f1 H1 dl s1 rfl hd hob;exact ⟨h1,ydk1 _ _ _ _ _ _ hfacts,h2⟩
   .cases h
  .cases h
 | false =>
  simp only [bc_false] at h;obtain ⟨h1,h2,h3⟩:=yyl0 hg hcall ops ops.toList 0 rfl f H s x f' H' s' h hob;refine ⟨h1,h2,fun J w b tmps ds k cs hs hf=>?_⟩;obtain ⟨J',w',tmps',ds',h4,h5,h6,h7⟩:=h3 J w b tmps ds k cs hs hf;refine ⟨J',w',tmps',ds',h4,h5,h6,h7.of_steps (.one ?_)⟩;rw [ywu1,List.range_eq_range'];simp
theorem Ends.under {m:Machine} {b:Frame} {k k2:List Item} {cs:List Frame} {J:Nat->RB} {tmps:Array Value} {ds:List Deferred} {w:World} {x:LX} (hx:x≠.normal) (hk:∀ id,x=.exit id->exitTo id k2=exitTo id k)
  (h:Ends P m b k2 cs J tmps ds w x):Ends P m b k cs J tmps ds w x:=by
 cases x with
 | normal=>exact absurd rfl hx
 | exit id=>obtain ⟨k',e,hs⟩:=h;exact ⟨k',e.trans (hk id rfl),hs⟩
 | ret=>exact h
 | pan v=>exact h
theorem yiv1 {a b:Code} {ea eb:EvF} (ha:ywe0 P a ea) (hb:ywe0 P b eb):ywe0 P (.seq a b) (evSeq ea eb):=by
 intro f H s x f' H' s' h hob;obtain ⟨⟨x1,f1,H1⟩,s1,h1,h⟩:=yag0 h
 have other:x1≠.normal->R.ok (x1,f1,H1) s1=R.ok (x,f',H') s'->s.ob/\H.Le H'/\CT P (.seq a b) f H x f' H':=by
  intro hx he;injection he with e1 e2;injection e1 with e1 e3;injection e3 with e3 e4;subst e1;subst e2;subst e3;subst e4;obtain ⟨hs0,hle,hct⟩:=ha _ _ _ _ _ _ _ h1 hob;refine ⟨hs0,hle,fun J w bf tmps ds k cs hs hf=>?_⟩;obtain ⟨J',w',tmps',ds',h4,h5,h6,h7⟩:=hct J w bf tmps ds (.code b::k) cs hs hf;exact ⟨J',w',tmps',ds',h4,h5,h6,(h7.of_steps (.one ydn2)).under hx fun _ _=>by rfl⟩
 cases x1 with
 | normal =>
  simp only at h;obtain ⟨hs1,hle2,hct2⟩:=hb _ _ _ _ _ _ _ h hob;obtain ⟨hs0,hle,hct⟩:=ha _ _ _ _ _ _ _ h1 hs1;refine ⟨hs0,hle.trans hle2,fun J w bf tmps ds k cs hs hf=>?_⟩;obtain ⟨J1,w1,tmps1,ds1,h4,h5,h6,h7⟩:=hct J w bf tmps ds (.code b::k) cs hs hf;obtain ⟨J2,w2,tmps2,ds2,h8,h9,h10,h11⟩:=hct2 J1 w1 bf tmps1 ds1 k cs h4.sat h5;exact ⟨J2,w2,tmps2,ds2,h4.trans h8,h9,h10,h11.of_steps (.head ydn2 h7)⟩
 | exit id=>exact other (by simp) h
 | ret=>exact other (by simp) h
 | pan v=>exact other (by simp) h
theorem yfk1 {c:Operand} {a b:Code} {ea eb:EvF} (ha:ywe0 P a ea) (hb:ywe0 P b eb):ywe0 P (.cond c a b) (ylf1 c ea eb):=by
 intro f H s x f' H' s' h hob;unfold ylf1 at h;split at h
 .rename_i v hv;obtain ⟨t,s1,hd,h⟩:=yag0 h
  have key:s1.ob->s.ob/\v=t:=fun hs1=>by
   obtain ⟨h1,h2⟩:=yyh0 hd hs1;exact ⟨h2,h1⟩
  have hev:∀ {n:Nat} {J:Nat->RB} {bf:Frame} {tmps:Array Value} {ds:List Deferred},FRel J n f bf tmps ds->rev tmps c=.bool v:=fun hf=>by
   have:=(hf.ev c).1;rw [hv] at this;exact this.eq rfl
  rcases bcR h with ⟨ht,h⟩ | ⟨ht,h⟩
  .obtain ⟨hs1,hle,hct⟩:=ha _ _ _ _ _ _ _ h hob;obtain ⟨hs0,hvt⟩:=key hs1;refine ⟨hs0,hle,fun J w bf tmps ds k cs hs hf=>?_⟩;obtain ⟨J',w',tmps',ds',h4,h5,h6,h7⟩:=hct J w bf tmps ds k cs hs hf;have hst:=yob2 (P:=P) (b:=bf) (ds:=ds) (k:=k) (cs:=cs) (w:=w) (x:=a) (y:=b) (hev hf);rw [hvt,ht] at hst;exact ⟨J',w',tmps',ds',h4,h5,h6,h7.of_steps (.one hst)⟩
  .obtain ⟨hs1,hle,hct⟩:=hb _ _ _ _ _ _ _ h hob;obtain ⟨hs0,hvt⟩:=key hs1;refine ⟨hs0,hle,fun J w bf tmps ds k cs hs hf=>?_⟩;obtain ⟨J',w',tmps',ds',h4,h5,h6,h7⟩:=hct J w bf tmps ds k cs hs hf;have hst:=yob2 (P:=P) (b:=bf) (ds:=ds) (k:=k) (cs:=cs) (w:=w) (x:=a) (y:=b) (hev hf);rw [hvt,ht] at hst;exact ⟨J',w',tmps',ds',h4,h5,h6,h7.of_steps (.one hst)⟩
 .cases h
theorem ylr0 {id:Nat} {c:Code} {ec:EvF} (hc:ywe0 P c ec):ywe0 P (.block id c) (yxw0 id ec):=by
 intro f H s x f' H' s' h hob;obtain ⟨⟨x1,f1,H1⟩,s1,h1,h⟩:=yag0 h
 have other:x1≠.normal->(∀ id',x1=.exit id'->id'≠id)->R.ok (x1,f1,H1) s1=R.ok (x,f',H') s'->s.ob/\H.Le H'/\CT P (.block id c) f H x f' H':=by
  intro hx hid he;injection he with e1 e2;injection e1 with e1 e3;injection e3 with e3 e4;subst e1;subst e2;subst e3;subst e4;obtain ⟨hs0,hle,hct⟩:=hc _ _ _ _ _ _ _ h1 hob;refine ⟨hs0,hle,fun J w bf tmps ds k cs hs hf=>?_⟩;obtain ⟨J',w',tmps',ds',h4,h5,h6,h7⟩:=hct J w bf tmps ds (.inBlock id::k) cs hs hf;refine ⟨J',w',tmps',ds',h4,h5,h6,(h7.of_steps (.one yft0)).under hx fun id' e=>?_⟩;have hne:=hid id' e;simp only [exitTo];rw [if_neg];intro h;exact hne (by simpa using (beq_iff_eq.1 h).symm)
 cases x1 with
 | normal =>
  simp only at h;injection h with e1 e2;injection e1 with e1 e3;injection e3 with e3 e4;subst e1;subst e2;subst e3;subst e4;obtain ⟨hs0,hle,hct⟩:=hc _ _ _ _ _ _ _ h1 hob;refine ⟨hs0,hle,fun J w bf tmps ds k cs hs hf=>?_⟩;obtain ⟨J',w',tmps',ds',h4,h5,h6,h7⟩:=hct J w bf tmps ds (.inBlock id::k) cs hs hf;exact ⟨J',w',tmps',ds',h4,h5,h6,(Steps.head yft0 h7).trans (.one ypj1)⟩
 | exit id' =>
  simp only at h;rcases bcR h with ⟨ht,h2⟩ | ⟨ht,h2⟩
  .have:=beqN ht;subst this;injection h2 with e1 e2;injection e1 with e1 e3;injection e3 with e3 e4;subst e1;subst e2;subst e3;subst e4;obtain ⟨hs0,hle,hct⟩:=hc _ _ _ _ _ _ _ h1 hob;refine ⟨hs0,hle,fun J w bf tmps ds k cs hs hf=>?_⟩;obtain ⟨J',w',tmps',ds',h4,h5,h6,k',hk',h7⟩:=hct J w bf tmps ds (.inBlock id'::k) cs hs hf;refine ⟨J',w',tmps',ds',h4,h5,trivial,(Steps.head yft0 h7).trans (.one (ypb2 ?_))⟩;rw [hk'];simp [exitTo]
  .exact other (by simp) (fun i e=>by injection e with e;subst e;exact yxb0 ht) h2
 | ret=>exact other (by simp) (fun i e=>by cases e) h
 | pan v=>exact other (by simp) (fun i e=>by cases e) h
theorem yfg1 {c:Code} {ec:EvF} (hc:ywe0 P c ec):ywe0 P (.scope c) ec:=by
 intro f H s x f' H' s' h hob;obtain ⟨hs0,hle,hct⟩:=hc _ _ _ _ _ _ _ h hob;refine ⟨hs0,hle,fun J w bf tmps ds k cs hs hf=>?_⟩;obtain ⟨J',w',tmps',ds',h4,h5,h6,h7⟩:=hct J w bf tmps ds (.inScope c::k) cs hs hf;refine ⟨J',w',tmps',ds',h4,h5,h6,?_⟩;by_cases hx:x=.normal
 .subst hx;exact (Steps.head yrj1 h7).trans (.one yqj1)
 .exact (h7.of_steps (.one yrj1)).under hx fun _ _=>by rfl
theorem ygk1 (id:Nat):ywe0 P (.exit id) (fun f H s=>.ok (.exit id,f,H) s):=by
 intro f H s x f' H' s' h hob;injection h with e1 e2;injection e1 with e1 e3;injection e3 with e3 e4;subst e1;subst e2;subst e3;subst e4;exact ⟨hob,Heap.Le.refl _,fun J w bf tmps ds k cs hs hf=>⟨J,w,tmps,ds,Moved.refl hs,hf,trivial,k,rfl,Steps.refl _ _⟩⟩
theorem yjv1:ywe0 P .ret (fun f H s=>.ok (.ret,f,H) s):=by
 intro f H s x f' H' s' h hob;injection h with e1 e2;injection e1 with e1 e3;injection e3 with e3 e4;subst e1;subst e2;subst e3;subst e4;exact ⟨hob,Heap.Le.refl _,fun J w bf tmps ds k cs hs hf=>⟨J,w,tmps,ds,Moved.refl hs,hf,trivial,k,Steps.refl _ _⟩⟩
theorem ymr0 {c:Code} {ec:EvF} (hc:ywe0 P c ec):∀ (n:Nat) (f:Fr) (H:Heap) (s:S) (x:LX) (f' : Fr) (H' : Heap) (s' : S),loopN ec n f H s=.ok (x,f',H') s'->s'.ob->s.ob/\H.Le H' /\
  ∀ (J:Nat->RB) (w:World) (b:Frame) (tmps:Array Value) (ds:List Deferred) (k:List Item) (cs:List Frame),Sat J H w->FRel J H.n f b tmps ds ->
  ∃ J' w' tmps' ds',Moved J H w J' H' w'/\FRel J' H'.n f' b tmps' ds'/\ltX H'.n x/\Ends P (lone (yga0 b tmps ds (.code c::.inLoop c::k)) cs w) b k cs J' tmps' ds' w' x
 | 0,f,H,s,x,f',H',s',h,_=>by cases h
 | n+1,f,H,s,x,f',H',s',h,hob=>by
  change (ec f H s).bnd _=_ at h;obtain ⟨⟨x1,f1,H1⟩,s1,h1,h⟩:=yag0 h
  have other:x1≠.normal->R.ok (x1,f1,H1) s1=R.ok (x,f',H') s'->s.ob/\H.Le H'/\∀ (J:Nat->RB) (w:World) (b:Frame) (tmps:Array Value) (ds:List Deferred) (k:List Item) (cs:List Frame),Sat J H w->FRel J H.n f b tmps ds ->
    ∃ J' w' tmps' ds',Moved J H w J' H' w'/\FRel J' H'.n f' b tmps' ds'/\ltX H'.n x/\Ends P (lone (yga0 b tmps ds (.code c::.inLoop c::k)) cs w) b k cs J' tmps' ds' w' x:=by
   intro hx he;injection he with e1 e2;injection e1 with e1 e3;injection e3 with e3 e4;subst e1;subst e2;subst e3;subst e4;obtain ⟨hs0,hle,hct⟩:=hc _ _ _ _ _ _ _ h1 hob;refine ⟨hs0,hle,fun J w bf tmps ds k cs hs hf=>?_⟩;obtain ⟨J',w',tmps',ds',h4,h5,h6,h7⟩:=hct J w bf tmps ds (.inLoop c::k) cs hs hf;exact ⟨J',w',tmps',ds',h4,h5,h6,h7.under hx fun _ _=>by rfl⟩
  cases x1 with
  | normal =>
   simp only at h;obtain ⟨hs1,hle2,hct2⟩:=ymr0 hc n _ _ _ _ _ _ _ h hob;obtain ⟨hs0,hle,hct⟩:=hc _ _ _ _ _ _ _ h1 hs1;refine ⟨hs0,hle.trans hle2,fun J w bf tmps ds k cs hs hf=>?_⟩;obtain ⟨J1,w1,tmps1,ds1,h4,h5,h6,h7⟩:=hct J w bf tmps ds (.inLoop c::k) cs hs hf;obtain ⟨J2,w2,tmps2,ds2,h8,h9,h10,h11⟩:=hct2 J1 w1 bf tmps1 ds1 k cs h4.sat h5;exact ⟨J2,w2,tmps2,ds2,h4.trans h8,h9,h10,h11.of_steps (Steps.trans h7 (.one ygt0))⟩
  | exit id=>exact other (by simp) h
  | ret=>exact other (by simp) h
  | pan v=>exact other (by simp) h
theorem yhk1 (lf:Nat) {c:Code} {ec:EvF} (hc:ywe0 P c ec):ywe0 P (.loop c) (ymf1 P lf c ec):=by
 intro f H s x f' H' s' h hob;unfold ymf1 at h;split at h
 .rename_i n ds hp;obtain ⟨h1,h2,h3⟩:=ymr0 hc lf _ _ _ _ _ _ _ h hob;refine ⟨h1,h2,fun J w bf tmps ds k cs hs hf=>?_⟩;obtain ⟨J',w',tmps',ds',h4,h5,h6,h7⟩:=h3 J w bf tmps ds k cs hs hf;exact ⟨J',w',tmps',ds',h4,h5,h6,h7.of_steps (.one ysj1)⟩
 .injection h with e1 e2;injection e1 with e1 e3;injection e3 with e3 e4;subst e1;subst e2;subst e3;subst e4;exact ⟨hob.2,Heap.le_upd _ _ _,hob.1⟩
 .rename_i C ds hp;rcases bcR h with ⟨hfit,h⟩ | ⟨_,h⟩
  .injection h with e1 e2;injection e1 with e1 e3;injection e3 with e3 e4;subst e1;subst e2;subst e3;subst e4;obtain ⟨h1,h2,h3,h4⟩:=hob;exact ⟨h4,Heap.le_upd _ _ _,yqm2 h1 hfit h2 h3⟩
  .cases h
 .cases h
 .cases h
end Go.Proofs.YtnpbgnjiihecgaaGreat.Ev
namespace Go.Proofs.YtnpbgnjiihecgaaGreat.Ev
open Go
section
variable {P:Program} {b:Frame} {tmps:Array Value} {ds:List Deferred} {k:List Item} {cs:List Frame} {w:World}
def yun0 (f:Operand) (l:Nat):Call:={ callee:=.value f,args:=#[.const (.func (.yield l) #[] #[])],argTypes:=#[] }
theorem yxe2 {f:Operand} {params:Array Tmp} {assign body:Code} {l:Nat} {mark:List Deferred} {w1:World} {nx:Next} {fr0:Frame} (h1:(Instr.enterLoop b.fn tmps params assign body b.roundOf).run P w=.ok (l,mark) w1)
  (h2:(do let d<-resolve (rev tmps) (yun0 f l) 0;invoke d.target d.args:Sem Next).run P w1=.ok nx w1) (hf:ydj0 P nx=some fr0) :
  step P (lone (yga0 b tmps ds (.code (.rangeFunc f params assign body)::k)) cs w)=.next (lone fr0 (yga0 b tmps (mark++ds) (.inRangeFunc l::k)::cs) w1):=by
 have he:=yxl0 b tmps (mark++ds) (.inRangeFunc l::k);simp only [yga0] at he;refine step_lone_go ?_;simp only [stepG,stepG.exec,yga0,Sem.runT_eq,h1,stepG.apply,he];simp only [yun0] at h2
 cases nx <;> simp only [ydj0] at hf <;> first
  | (cases hf;done)
  | (injection hf with hf;subst hf;simp [h2])
theorem ygg1 {l:Nat} {r:Loop} (h:w.heap[l]?=some (.loop r)) (hb:r.state≠.busy) :
  step P (lone (yga0 b tmps ds (.endRangeFunc l::k)) cs w)=.next (lone (yga0 b tmps ds ((r.pending.map Item.code).toList++k)) cs (putO w l (.loop { r with state:=.exhausted }))):=by
 refine step_lone_go ?_;have:=run_endLoop (P:=P) h hb;simp only [stepG,stepG.exec,yga0,Sem.runT_eq,this];rfl
theorem yoa1 {l:Nat} (v:Value):(yga0 b tmps ds (.inRangeFunc l::k)).finish v=yga0 b tmps ds (.endRangeFunc l::k):=rfl
end
variable {P:Program}
theorem Moved.putLoop {J:Nat->RB} {H:Heap} {w:World} (h:Sat J H w) {i:Nat} (hi:i<H.n) (hown:(H.get i).owns=true) (o:LObj) (O:Obj) (hl:ltObj H.n o) (ho:∀ w' : World,w'.heap[(J i).blk]?=some O->SatObj J (J i) w' o) :
  Moved J H w J (H.put i o) (putO w (J i).blk O):=by
 have hin:=h.inside i hi (LObj.sits_of_owns hown);exact Moved.put h hi hown o (fun b hb=>yhb0 hb) (by simp [putO]) rfl rfl rfl hl (ho _ (yjb0 hin))
theorem run_mark {J:Nat->RB} {n:Nat} {f:Fr} {b:Frame} {tmps:Array Value} {ds:List Deferred} (hf:FRel J n f b tmps ds) {g:Operand} {fn:FuncId} {first captured:List LV} (hg:f.ev g=.func (.func fn) first captured)
  {J' : Nat->RB} (hext:Ext n J J') (l:Nat) (w:World) :
  (do let d<-resolve (rev tmps) (yun0 g (J' l).blk) 0;invoke d.target d.args:Sem Next).run P w =
   (invoke (.fn (decFn J' (.func fn)) #[]) (decs J' (first++([.func (.yield l) [] []]++captured))).toArray).run P w:=by
 have hfv:=hf.ev g;rw [hg] at hfv;have hfv1:=hfv.1.eq rfl;have hl:=hfv.2;simp only [lt] at hl;have e1:decs J' first=decs J first:=yie0 hext _ hl.2.1
 have e2:decs J' captured=decs J captured:=yie0 hext _ hl.2.2;simp only [resolve,yun0,hfv1,dec,Deferred.ofValue,pure_bind,invoke,decFn]
 congr 2
 apply Array.ext';simp only [List.map_toArray,List.map_cons,List.map_nil,rev];rw [yvb0 J' (first++_),List.map_append,List.map_append,<- yvb0,<- yvb0 J' captured,e1,e2];simp [dec,decFn,decs]
theorem ykv1 {m:Machine} {b:Frame} {k:List Item} {cs:List Frame} {J:Nat->RB} {tmps:Array Value} {ds:List Deferred} {w:World} {pe:Option Code} {x:LX} (hp:pend pe=some x)
  (h:Steps P m (lone (yga0 b tmps ds ((pe.map Item.code).toList++k)) cs w)):Ends P m b k cs J tmps ds w x/\∀ n,ltX n x:=by
 unfold pend at hp;split at hp
 .injection hp with hp;subst hp;exact ⟨h,fun _=>trivial⟩
 .injection hp with hp;subst hp;exact ⟨⟨k,h⟩,fun _=>trivial⟩
 .injection hp with hp;subst hp;exact ⟨⟨k,rfl,h⟩,fun _=>trivial⟩
 .cases hp
theorem yhg1 {call:CallF} (hcall:ylc0 P call) (g:Operand) (ps:Array Tmp) (assign body:Code):ywe0 P (.rangeFunc g ps assign body) (ygo0 call g ps.toList assign body):=by
 intro f H s x f' H' s' h hob;unfold ygo0 at h;split at h
 .rename_i fn first captured hfg
  split at h
  .rename_i H1 d marks hrb;obtain ⟨⟨e,H2⟩,s1,hc,h⟩:=yag0 h;simp only at h;rw [app_eq,app_eq] at hc
   -- what the beginning does
   have hbegin:H.Le H1/\∀ (J:Nat->RB) (w:World) (b:Frame) (tmps:Array Value) (ds:List Deferred),Sat J H w->FRel J H.n f b tmps ds ->
     ∃ J1 w1 mark,Moved J H w J1 (H1.push (.loop .ready none f.fn f.n f.t ps.toList assign body d)) w1/\FRel J1 (H1.push (.loop .ready none f.fn f.n f.t ps.toList assign body d)).n { f with marks:=marks } b tmps (mark++ds) /\
      (Instr.enterLoop b.fn tmps ps assign body b.roundOf).run P w=.ok ((J1 H1.n).blk,mark) w1:=by
    unfold ygf0 at hrb;split at hrb
    .rename_i hr;injection hrb with hrb;injection hrb with e1 e2;injection e2 with e2 e3;subst e1;subst e2;subst e3;refine ⟨Heap.le_push _ _,fun J w b tmps ds hs hf=>?_⟩;have m1:=Moved.push (w':=w.alloc (.deferred (some []))) hs (.defers false) (.deferred (some [])) ⟨w.heap.size,0,0,default,0⟩ rfl rfl rfl rfl rfl trivial (World.alloc_heap_new w _);have hn1:(H.push (.defers false)).n=H.n+1:=Heap.n_push ..;have hf1:=hf.ext m1.ext m1.more
     have m2:=Moved.push (w':=(w.alloc (.deferred (some []))).alloc (.loop { state:=.ready,pending:=none,fn:=b.fn,tmps,params:=ps,assign,body,defers:=w.heap.size })) m1.sat
      (.loop .ready none f.fn f.n f.t ps.toList assign body H.n) (.loop { state:=.ready,pending:=none,fn:=b.fn,tmps,params:=ps,assign,body,defers:=w.heap.size }) ⟨w.heap.size+1,0,0,default,0⟩
      (World.size_alloc ..).symm rfl rfl rfl rfl ⟨yls0 (by rw [hn1];omega) hf.wf,by rw [hn1];omega⟩ (by
       refine ⟨tmps,hf.size,(hf1.t.ext (yka0 _ _ _) (yls0 (by rw [hn1];omega) hf.wf)),?_⟩
       have:(upRho (upRho J H.n ⟨w.heap.size,0,0,default,0⟩) (H.push (.defers false)).n ⟨w.heap.size+1,0,0,default,0⟩ H.n).blk=w.heap.size:=by
        rw [yka0 _ _ _ H.n (by rw [hn1];omega),yoa0]
       rw [this,<- hf.fn];have h2:=World.alloc_heap_new (w.alloc (.deferred (some []))) (.loop { state:=.ready,pending:=none,fn:=b.fn,tmps,params:=ps,assign,body,defers:=w.heap.size });rw [World.size_alloc] at h2
       exact h2)
     refine ⟨_,_,[{ target:=.collected w.heap.size,args:=#[] }],m1.trans m2,?_,?_⟩
     .have hf2:=hf1.ext m2.ext m2.more;refine ⟨hf2.wf,?_,hf2.inRound,hf2.fn,hf2.size,hf2.t,?_,hf2.round⟩
      .intro j hj;simp only [List.mem_cons] at hj;rcases hj with hj | hj
       .subst hj;rw [Heap.n_push,hn1];omega
       .exact hf2.marks j hj
      .simp only [marksOf,List.cons_append,List.nil_append];rw [<- hf2.ds,yka0 _ _ _ H.n (by rw [hn1];omega),yoa0]
     .have hro:b.roundOf=none:=by rw [hf.round,hr];rfl
      rw [hro,run_enterLoop_outer,yoa0]
    .rename_i l hr;split at hrb
     .rename_i st pe fn' n' t' ps' as' bo' d' hget;injection hrb with hrb;injection hrb with e1 e2;injection e2 with e2 e3;subst e1;subst e2;subst e3;refine ⟨Heap.Le.refl _,fun J w b tmps ds hs hf=>?_⟩;have hl:=hf.inRound l hr;have hwf:=hs.wf l hl;rw [hget] at hwf;have hob:=hs.obj l hl;rw [hget] at hob;obtain ⟨tm,htm,htr,hheap⟩:=hob
      have m2:=Moved.push (w':=w.alloc (.loop { state:=.ready,pending:=none,fn:=b.fn,tmps,params:=ps,assign,body,defers:=(J d').blk })) hs
       (.loop .ready none f.fn f.n f.t ps.toList assign body d') (.loop { state:=.ready,pending:=none,fn:=b.fn,tmps,params:=ps,assign,body,defers:=(J d').blk }) ⟨w.heap.size,0,0,default,0⟩
       rfl rfl rfl rfl rfl ⟨yls0 (by omega) hf.wf,by have:=hwf.2;omega⟩ (by
        refine ⟨tmps,hf.size,hf.t.ext (yka0 _ _ _) hf.wf,?_⟩;rw [yka0 _ _ _ d' hwf.2,<- hf.fn]
        exact World.alloc_heap_new w _)
      refine ⟨_,_,[],m2,?_,?_⟩
      .have hf2:=hf.ext m2.ext m2.more;exact hf2
      .have hro:b.roundOf=some (J l).blk:=by rw [hf.round,hr];rfl
       rw [hro,yoa0];unfold Instr.enterLoop;simp only [Sem.run_bind,run_getLoop hheap,run_newObj_alloc,Result.andThen,Sem.run_pure]
     .cases hrb
   have hpush:(H1.push (.loop .ready none f.fn f.n f.t ps.toList assign body d)).n=H1.n+1:=Heap.n_push ..;have hle1:H.Le (H1.push (.loop .ready none f.fn f.n f.t ps.toList assign body d)):=hbegin.1.trans (Heap.le_push _ _)
   -- what the call does
   have hmid:s1.ob->s.ob/\H.Le H2/\∀ (J:Nat->RB) (w:World) (b:Frame) (tmps:Array Value) (ds:List Deferred) (k:List Item) (cs:List Frame),Sat J H w->FRel J H.n f b tmps ds ->
     ∃ J2 w2 ds2 l2,Moved J H w J2 H2 w2/\FRel J2 H2.n { f with marks:=marks } b tmps ds2/\ltEnd H2.n e/\l2=(J2 H1.n).blk/\H1.n<H2.n /\
      Steps P (lone (yga0 b tmps ds (.code (.rangeFunc g ps assign body)::k)) cs w) (lone (yxh0 J2 (yga0 b tmps ds2 (.inRangeFunc l2::k)) e) cs w2):=by
    intro hob1;obtain ⟨hs0,hle2,hcal⟩:=hcall _ _ _ _ _ _ _ hc hob1;refine ⟨hs0,hle1.trans hle2,fun J w b tmps ds k cs hs hf=>?_⟩;obtain ⟨J1,w1,mark,m1,hf1,hen⟩:=hbegin.2 J w b tmps ds hs hf;have hfv:=hf.ev g;rw [hfg] at hfv;have hlv:=hfv.2;simp only [lt] at hlv
    have hlts:lts (H1.push (.loop .ready none f.fn f.n f.t ps.toList assign body d)).n (first++([.func (.yield H1.n) [] []]++captured)):=by
     rw [ygb0];intro v hv;rcases List.mem_append.1 hv with hv | hv
     .exact ypk0 hle1.n _ ((ygb0 _ _).1 hlv.2.1 v hv)
     .rcases List.mem_append.1 hv with hv | hv
      .simp only [List.mem_singleton] at hv;subst hv;exact ⟨by rw [hpush];exact Nat.lt_succ_self _,trivial,trivial⟩
      .exact ypk0 hle1.n _ ((ygb0 _ _).1 hlv.2.2 v hv)
    obtain ⟨nx,fr0,J2,w2,hi,hfo,hm,hlE,hst⟩:=hcal J1 w1 (yga0 b tmps (mark++ds) (.inRangeFunc (J1 H1.n).blk::k)) cs m1.sat hlts trivial;rw [<- run_mark (P:=P) hf hfg m1.ext] at hi;have hst0:=yxe2 (b:=b) (ds:=ds) (k:=k) (cs:=cs) hen hi hfo;have hlt:H1.n<(H1.push (.loop .ready none f.fn f.n f.t ps.toList assign body d)).n:=by rw [hpush];exact Nat.lt_succ_self _
    exact ⟨J2,w2,mark++ds,(J1 H1.n).blk,m1.trans hm,hf1.ext hm.ext hm.more,hlE,by rw [hm.ext _ hlt],Nat.lt_of_lt_of_le hlt hm.more,.head hst0 hst⟩
   unfold ygs0 at h;cases e with
   | pan v =>
    simp only at h;injection h with e1 e2;injection e1 with e1 e3;injection e3 with e3 e4;subst e1;subst e2;subst e3;subst e4;obtain ⟨hs0,hle,hm⟩:=hmid hob;refine ⟨hs0,hle,fun J w b tmps ds k cs hs hf=>?_⟩;obtain ⟨J2,w2,ds2,l2,h1,h2,h3,h4,h5,h6⟩:=hm J w b tmps ds k cs hs hf;exact ⟨J2,w2,tmps,ds2,h1,h2,h3,_,h6⟩
   | ret v =>
    simp only at h
    have key:∀ {st pe fn n t ps' as bo d'},H2.get H1.n=.loop st pe fn n t ps' as bo d'->st≠.busy->(match pend pe with
      | some x=>R.ok (x,{ f with marks:=marks },H2.put H1.n (.loop .exhausted pe fn n t ps' as bo d')) s1
      | none=>.bad 23)=.ok (x,f',H') s'->s.ob/\H.Le H'/\CT P (.rangeFunc g ps assign body) f H x f' H':=by
     intro st pe fn n t ps' as bo d' hget hst h;split at h
     .rename_i x' hp;injection h with e1 e2;injection e1 with e1 e3;injection e3 with e3 e4;subst e1;subst e2;subst e3;subst e4;obtain ⟨hs0,hle,hm⟩:=hmid hob;refine ⟨hs0,hle.trans (Heap.le_put _ _ _),fun J w b tmps ds k cs hs hf=>?_⟩;obtain ⟨J2,w2,ds2,l2,h1,h2,h3,h4,h5,h6⟩:=hm J w b tmps ds k cs hs hf;have hob2:=h1.sat.obj H1.n h5;have hwf2:=h1.sat.wf H1.n h5;rw [hget] at hob2 hwf2;obtain ⟨tm,htm,htr,hheap⟩:=hob2
      have hput:=Moved.putLoop h1.sat h5 (by rw [hget];rfl) (.loop .exhausted pe fn n t ps' as bo d') (.loop { state:=.exhausted,pending:=pe,fn,tmps:=tm,params:=ps'.toArray,assign:=as,body:=bo,defers:=(J2 d').blk }) hwf2
       (fun w' hw'=>⟨tm,htm,htr,hw'⟩)
      simp only [yxh0,yoa1,h4] at h6;have hend:=ygg1 (P:=P) (b:=b) (tmps:=tmps) (ds:=ds2) (k:=k) (cs:=cs) hheap hst;obtain ⟨he,hlx⟩:=ykv1 (J:=J2) hp (h6.trans (.one hend));exact ⟨J2,_,tmps,ds2,h1.trans hput,h2,hlx _,he⟩
     .cases h
    split at h
    .cases h
    .rename_i st pe fn n t ps' as bo d' hnb hget;exact key hget hnb h
    .cases h
  .cases h
 .cases h
end Go.Proofs.YtnpbgnjiihecgaaGreat.Ev
namespace Go.Proofs.YtnpbgnjiihecgaaGreat.Ev
open Go
variable {P:Program}
theorem yfd1 {c:Code} {ev:EvF} (h:∀ f H s,∃ w,ev f H s=.bad w):ywe0 P c ev:=by
 intro f H s x f' H' s' he _;obtain ⟨w,hw⟩:=h f H s;rw [hw] at he;cases he
section
variable {b:Frame} {tmps:Array Value} {ds:List Deferred} {k:List Item} {cs:List Frame} {w:World}
theorem yig1 {md:FrameMode} (hmd:md=.returning\/∃ c,md=.panicking c) {d:Nat} {rest:List Deferred} (h:w.heap[d]?=some (.deferred (some []))) :
  step P (lone { yga0 b tmps ({ target:=.collected d,args:=#[] }::rest) k with mode:=md } cs w)=.next (lone { yga0 b tmps rest k with mode:=md } cs (putO w d (.deferred none))):=by
 refine step_lone_go ?_;have:=run_takeDeferred (P:=P) h;rcases hmd with hmd | ⟨c,hmd⟩ <;> subst hmd <;> simp only [stepG,unwind,yga0,Sem.runT_eq,this] <;> rfl
theorem yye2 {g:FuncId} {fu:Func} (hf:P.funcs[g]?=some fu) (hfn:b.fn=g) {ch:List PanicEntry} (c:Frame) :
  step P (lone { yga0 b tmps [] k with mode:=.panicking ch } (c::cs) w)=.next (lone (c.raise ch) cs w):=by
 refine step_lone_go ?_;subst hfn;simp [stepG,unwind,yga0,Frame.catches,hf]
theorem yze2 {l:Nat} {r:Loop} (hro:b.roundOf=some l) (h:w.heap[l]?=some (.loop r)) (hr:r.state=.ready) :
  step P (lone (yga0 b tmps ds (.beginRound::k)) cs w)=.next (lone (yga0 b tmps ds k) cs (putO w l (.loop { r with state:=.busy }))):=by
 refine step_lone_go ?_;have:=run_beginRound (P:=P) h hr;simp [stepG,stepG.exec,yga0,stepG.apply,hro,this,Frame.finish];rfl
theorem ypa1 {l:Nat} {r:Loop} (hro:b.roundOf=some l) (hk:b.kind=.normal) (h:w.heap[l]?=some (.loop r)) (c:Frame) :
  step P (lone (yga0 b tmps ds []) (c::cs) w)=.next (lone (c.finish (.bool true)) cs (putO w l (.loop { r with state:=.ready,pending:=none }))):=by
 refine step_lone_go ?_;have:=run_endRound (P:=P) none h;simp [stepG,stepG.exec,yga0,hro,this,doReturn,hk];rfl
theorem yqa1 {l:Nat} {r:Loop} (hro:b.roundOf=some l) (hk:b.kind=.normal) (h:w.heap[l]?=some (.loop r)) (c:Frame) :
  step P (lone (yga0 b tmps ds (.code .ret::k)) (c::cs) w)=.next (lone (c.finish (.bool false)) cs (putO w l (.loop { r with state:=.done,pending:=some .ret }))):=by
 refine step_lone_go ?_;have:=run_endRound (P:=P) (some .ret) h;simp [stepG,stepG.exec,yga0,hro,this,doReturn,hk];rfl
theorem yxx0 {l id:Nat} {r:Loop} (hro:b.roundOf=some l) (hk:b.kind=.normal) (h:w.heap[l]?=some (.loop r)) (he:exitTo id k=none) (c:Frame) :
  step P (lone (yga0 b tmps ds (.code (.exit id)::k)) (c::cs) w)=.next (lone (c.finish (.bool false)) cs (putO w l (.loop { r with state:=.done,pending:=some (.exit id) }))):=by
 refine step_lone_go ?_;have:=run_endRound (P:=P) (some (.exit id)) h;simp [stepG,stepG.exec,yga0,hro,this,doReturn,hk,he];rfl
end
theorem yyx0 {md:FrameMode} (hmd:md=.returning\/∃ c,md=.panicking c):∀ (l:List Nat) (H H2:Heap),yxg0 H l=some H2->(∀ d,d∈l->d<H.n)->H.Le H2/\∀ (J:Nat->RB) (w:World) (b:Frame) (tmps:Array Value) (k:List Item) (cs:List Frame),Sat J H w ->
  ∃ w',Moved J H w J H2 w'/\Steps P (lone { yga0 b tmps (marksOf J l) k with mode:=md } cs w) (lone { yga0 b tmps [] k with mode:=md } cs w')
 | [],H,H2,h,_=>by
  injection h with h;subst h;exact ⟨Heap.Le.refl _,fun J w b tmps k cs hs=>⟨w,Moved.refl hs,Steps.refl _ _⟩⟩
 | d::l,H,H2,h,hl=>by
  simp only [yxg0] at h;split at h
  .rename_i hget;have hd:=hl d (by simp);obtain ⟨hle,ih⟩:=yyx0 hmd l _ _ h (fun x hx=>by rw [Heap.n_put];exact hl x (by simp [hx]));refine ⟨(Heap.le_put _ _ _).trans hle,fun J w b tmps k cs hs=>?_⟩;have hob:=hs.obj d hd;rw [hget] at hob;have hob:w.heap[(J d).blk]?=some (.deferred (some [])):=hob;have hput:=Moved.putLoop hs hd (by rw [hget];rfl) (.defers true) (.deferred none) trivial (fun w' hw'=>hw');obtain ⟨w',hm,hst⟩:=ih J _ b tmps k cs hput.sat;exact ⟨w',hput.trans hm,.head (yig1 hmd hob) hst⟩
  .cases h
theorem ycn0:∀ (l:List Nat) (H H2:Heap),yxg0 H l=some H2->H.Le H2
 | [],H,H2,h=>by injection h with h;subst h;exact Heap.Le.refl _
 | d::l,H,H2,h=>by
  simp only [yxg0] at h;split at h
  .exact (Heap.le_put _ _ _).trans (ycn0 l _ _ h)
  .cases h
def resV (tmps:Array Value):ResultVar->Sem Value
 | .tmp t=>pure (tmps.getD t undef)
 | .cell a t=>do loadVar t (<- asAddr (tmps.getD a undef))
theorem ylv1 {J:Nat->RB} {H:Heap} {w:World} {f:Fr} {b:Frame} {tmps:Array Value} {ds:List Deferred} (hs:Sat J H w) (hf:FRel J H.n f b tmps ds) {r:ResultVar} {v:LV} (h:yzw0 P f H r=some v) :
  (resV tmps r).run P w=.ok (dec J v) w/\lt H.n v:=by
 cases r with
 | tmp t =>
  simp only [yzw0] at h;obtain ⟨hj,h⟩:=yis0 h;injection h with h;subst h;have:=(hf.ev (.tmp t)).1.eq hj;exact ⟨by simp only [resV,Sem.run_pure];rw [show tmps.getD t undef=rev tmps (.tmp t) from rfl,this];rfl,hf.wf t⟩
 | cell a t =>
  simp only [yzw0] at h;have hj:=yuc1 h;have hev:=(hf.ev (.tmp a)).1.eq hj;have:=yjb2 hs h (hf.wf a);refine ⟨?_,this.2⟩;simp only [resV];rw [show tmps.getD a undef=rev tmps (.tmp a) from rfl,hev,show f.ev (.tmp a)=f.get a from rfl];replace this:=this.1;unfold loadL at h;split at h
  .rename_i i o hx;rw [hx] at this ⊢;simp only [Instr.loadAt,dec,Instr.sureAddr,pure_bind] at this;simp only [dec,asAddr,pure_bind];exact this
  .cases h
theorem yzx0 {J:Nat->RB} {H:Heap} {w:World} {f:Fr} {b:Frame} {tmps:Array Value} {ds:List Deferred} (hs:Sat J H w) (hf:FRel J H.n f b tmps ds):∀ (l:List ResultVar) (vs:List LV),ywg0 P f H l=some vs ->
  (l.mapM (resV tmps)).run P w=.ok (decs J vs) w/\lts H.n vs
 | [],vs,h=>by injection h with h;subst h;exact ⟨by simp [decs],trivial⟩
 | r::l,vs,h=>by
  simp only [ywg0] at h;split at h
  .cases h
  .rename_i v hv;split at h
   .cases h
   .rename_i vs' hvs;injection h with h;subst h;obtain ⟨h1,h2⟩:=ylv1 hs hf hv;obtain ⟨h3,h4⟩:=yzx0 hs hf l vs' hvs;refine ⟨?_,h2,h4⟩;simp only [List.mapM_cons,Sem.run_bind,h1,Result.andThen_ok,h3,Sem.run_pure,decs]
theorem ymv1 (J:Nat->RB) (vs:List LV):dec J (oneOf vs)=(if h:(decs J vs).toArray.size=1 then (decs J vs).toArray[0] else .tuple (decs J vs).toArray):=by
 match vs with
 | []=>simp [oneOf,dec,decs]
 | [v]=>simp [oneOf,decs]
 | a::b::l=>simp [oneOf,dec,decs]
theorem yaf2 {n:Nat} {vs:List LV} (h:lts n vs):lt n (oneOf vs):=by
 match vs with
 | []=>exact h
 | [v]=>exact h.1
 | a::b::l=>exact h
theorem yjg1 {J:Nat->RB} {H:Heap} {w:World} {f:Fr} {b:Frame} {tmps:Array Value} {ds:List Deferred} (hs:Sat J H w) (hf:FRel J H.n f b tmps ds) {fu:Func} {vs:List LV} (h:ywg0 P f H fu.results.toList=some vs) :
  (results fu tmps).run P w=.ok (dec J (oneOf vs)) w/\lt H.n (oneOf vs):=by
 obtain ⟨h1,h2⟩:=yzx0 hs hf _ _ h;refine ⟨?_,yaf2 h2⟩;unfold results
 have hm:(fu.results.mapM fun
  | .tmp t=>pure (tmps.getD t undef)
  | .cell a t=>do loadVar t (<- asAddr (tmps.getD a undef)):Sem (Array Value))=fu.results.mapM (resV tmps):=by
  congr 1
 simp only [Sem.run_bind]
 have hm2:(fu.results.mapM (resV tmps)).run P w=.ok (decs J vs).toArray w:=by
  rw [Array.mapM_eq_mapM_toList];simp only [map_eq_pure_bind,Sem.run_bind,h1,Result.andThen_ok,Sem.run_pure]
 have:=ymv1 J vs;rw [this];refine (congrArg (fun r:Result (Array Value)=>r.andThen _) (?_:_=Result.ok (decs J vs).toArray w)).trans ?_
 .exact (congrArg (fun s:Sem (Array Value)=>s.run P w) hm).trans hm2
 .simp only [Result.andThen_ok,Sem.run_pure]
theorem yrj0:∀ (vs:List LV) (t:Tr LV) (i j:Nat),(yyf0 t i vs).get .junk j=if i<=j/\j<i+vs.length then vs.getD (j-i) .junk else t.get .junk j
 | [],t,i,j=>by simp [yyf0];omega
 | v::vs,t,i,j=>by
  simp only [yyf0];rw [yrj0 vs _ (i+1) j,Tr.get_set];by_cases h:i=j
  .subst h;rw [if_neg (by omega),if_pos rfl,if_pos ⟨by omega,by simp⟩];simp
  .by_cases h2:i+1<=j/\j<i+1+vs.length
   .rw [if_pos h2,if_pos ⟨by omega,by simp;omega⟩];rw [show j-i=(j-(i+1))+1 by omega];simp
   .rw [if_neg h2,if_neg h,if_neg];simp;omega
theorem ynv1 {J:Nat->RB} {H:Heap} {g:FuncId} {fu:Func} {c:Code} (hf:P.funcs[g]?=some fu) (hb:fu.body=some c) (args:List LV) (hl:lts H.n args) :
  ∃ tmps,Frame.enter P g (decs J args).toArray .normal=yga0 (Frame.enter P g (decs J args).toArray .normal) tmps [] [.code c] /\
   FRel J H.n ⟨g,max fu.ntmps (lenL args),yyf0 .nil 0 args,[],none⟩ (Frame.enter P g (decs J args).toArray .normal) tmps []:=by
 refine ⟨(decs J args).toArray++Array.replicate (fu.ntmps-args.length) undef,?_,?_⟩
 .simp [Frame.enter,yga0,hf,hb,yla0]
 .refine ⟨?_,by simp,by simp,rfl,?_,?_,rfl,rfl⟩
  .intro j;rw [yrj0];split
   .rename_i h;have h' : j<args.length:=by omega
    simp only [Nat.sub_zero,List.getD_eq_getElem?_getD,List.getElem?_eq_getElem h',Option.getD_some];exact (ygb0 _ _).1 hl _ (List.getElem_mem _)
   .exact ⟨⟩
  .simp [yla0,lenL_eq];omega
  .intro j;show (yyf0 .nil 0 args).get .junk j=_\/_;rw [yrj0];split
   .rename_i h;right;have h' : j<args.length:=by omega
    rw [Array.getElem?_append_left (by simp [yla0];omega)];simp only [Nat.sub_zero,List.getD_eq_getElem?_getD,List.getElem?_eq_getElem h',Option.getD_some];simp [yvb0,h']
   .left;rfl
theorem yik1 {g:FuncId} {fu:Func} {c:Code} (hf:P.funcs[g]?=some fu) (hb:fu.body=some c):hasBody P g=true:=by simp [hasBody,hf,hb]
theorem ynr0 (_hg:Good P) {ev:Code->EvF} (hev:∀ c,ywe0 P c (ev c)) {g:FuncId} {fu:Func} (hf:P.funcs[g]?=some fu) {args:List LV} {H:Heap} {s s' : S} {e:LEnd} {H' : Heap} (h:ynf1 P ev g fu args H s=.ok (e,H') s') (hob:s'.ob) :
  s.ob/\H.Le H'/\∀ J w (cs:List Frame),Sat J H w->lts H.n args ->
   ∃ J' w' fr,Moved J H w J' H' w'/\ltEnd H'.n e/\Steps P (lone (Frame.enter P g (decs J args).toArray .normal) cs w) (lone fr cs w')/\fr.fn=g/\fr.leaving P w' (yml0 J' e):=by
 unfold ynf1 at h;split at h
 .cases h
 .rename_i c hb;obtain ⟨⟨x,f1,H1⟩,s1,hc,h⟩:=yag0 h;simp only at h;split at h
  .cases h
  .rename_i H2 hm
   have main:s1.ob->s.ob/\H.Le H1/\∀ J w (cs:List Frame),Sat J H w->lts H.n args->∃ b J1 w1 tmps ds,
     Moved J H w J1 H1 w1/\FRel J1 H1.n f1 b tmps ds/\ltX H1.n x/\b.fn=g/\b.kind=.normal/\b.roundOf=none/\Ends P (lone (Frame.enter P g (decs J args).toArray .normal) cs w) b [] cs J1 tmps ds w1 x:=by
    intro hs1;obtain ⟨hs0,hle,hct⟩:=hev c _ _ _ _ _ _ _ hc hs1;refine ⟨hs0,hle,fun J w cs hs hl=>?_⟩;obtain ⟨tmps0,hfr,hrel⟩:=ynv1 (J:=J) hf hb args hl;obtain ⟨J1,w1,tmps1,ds1,h1,h2,h3,h4⟩:=hct J w _ tmps0 [] [] cs hs hrel;rw [<- hfr] at h4;exact ⟨_,J1,w1,tmps1,ds1,h1,h2,h3,rfl,rfl,rfl,h4⟩
   -- behind the body: the marks,then the frame is left
   have out:∀ {md:FrameMode},(md=.returning\/∃ c,md=.panicking c)->∀ {J1:Nat->RB} {w1:World} {b:Frame} {tmps:Array Value} {ds:List Deferred} (k:List Item) (cs:List Frame),Sat J1 H1 w1->FRel J1 H1.n f1 b tmps ds ->
     ∃ w2,Moved J1 H1 w1 J1 H2 w2/\FRel J1 H2.n { f1 with marks:=[] } b tmps []/\Steps P (lone { yga0 b tmps ds k with mode:=md } cs w1) (lone { yga0 b tmps [] k with mode:=md } cs w2):=by
    intro md hmd J1 w1 b tmps ds k cs hs hfr;obtain ⟨hle,hmk⟩:=yyx0 (P:=P) hmd _ _ _ hm hfr.marks;obtain ⟨w2,hmv,hst⟩:=hmk J1 w1 b tmps k cs hs;rw [<- hfr.ds] at hst;have:=hfr.ext hmv.ext hmv.more;exact ⟨w2,hmv,⟨this.wf,by simp,this.inRound,this.fn,this.size,this.t,rfl,this.round⟩,hst⟩
   have leM:H1.Le H2:=ycn0 _ _ _ hm;unfold leave at h
   have returned:x=.normal\/x=.ret->(match ywg0 P f1 H2 fu.results.toList with
     | some vs=>R.ok (LEnd.ret (oneOf vs),H2) s1
     | none=>.bad 35)=.ok (e,H') s'->s.ob/\H.Le H'/\∀ J w (cs:List Frame),Sat J H w->lts H.n args ->
   ∃ J' w' fr,Moved J H w J' H' w'/\ltEnd H'.n e/\Steps P (lone (Frame.enter P g (decs J args).toArray .normal) cs w) (lone fr cs w')/\fr.fn=g/\fr.leaving P w' (yml0 J' e):=by
    intro hx h;split at h
    .rename_i vs hres;injection h with e1 e2;injection e1 with e1 e3;subst e1;subst e2;subst e3;obtain ⟨hs0,hle,hmain⟩:=main hob;refine ⟨hs0,hle.trans leM,fun J w cs hs hl=>?_⟩;obtain ⟨b,J1,w1,tmps,ds,h3,h4,h5,h6,h7,h8,h9⟩:=hmain J w cs hs hl
     have toRet:∃ k,Steps P (lone (Frame.enter P g (decs J args).toArray .normal) cs w) (lone { yga0 b tmps ds k with mode:=.returning } cs w1):=by
      rcases hx with hx | hx <;> subst hx
      .exact ⟨_,Steps.trans h9 (.one (yja1 h8))⟩
      .obtain ⟨k',hk⟩:=h9;exact ⟨_,hk.trans (.one (yia1 h8))⟩
     obtain ⟨k,hk⟩:=toRet;obtain ⟨w2,hm2,hf2,hst2⟩:=out (.inl rfl) k cs h3.sat h4;have hf2' : FRel J1 H2.n { f1 with marks:=[] } b tmps []:=hf2
     obtain ⟨hr1,hr2⟩:=yjg1 (P:=P) hm2.sat hf2' (fu:=fu) (vs:=vs) (by
      rw [<- hres];clear hres;generalize fu.results.toList=l
      induction l with
      | nil=>rfl
      | cons r l ih=>simp only [ywg0];rw [ih];cases r <;> rfl)
     exact ⟨J1,w2,_,h3.trans hm2,hr2,hk.trans hst2,h6,rfl,rfl,h7,fu,by show P.funcs[b.fn]?=_;rw [h6];exact hf,hr1⟩
    .cases h
   cases x with
   | exit id=>cases h
   | normal=>exact returned (.inl rfl) h
   | ret=>exact returned (.inr rfl) h
   | pan v =>
    simp only at h;injection h with e1 e2;injection e1 with e1 e3;subst e1;subst e2;subst e3;obtain ⟨hs0,hle,hmain⟩:=main hob;refine ⟨hs0,hle.trans leM,fun J w cs hs hl=>?_⟩;obtain ⟨b,J1,w1,tmps,ds,h3,h4,h5,h6,h7,h8,k,h9⟩:=hmain J w cs hs hl;obtain ⟨w2,hm2,hf2,hst2⟩:=out (.inr ⟨_,rfl⟩) k cs h3.sat h4;exact ⟨J1,w2,_,h3.trans hm2,ypk0 hm2.more _ h5,h9.trans hst2,h6,rfl,rfl,fu,by show P.funcs[b.fn]?=_;rw [h6];exact hf⟩
theorem yjk1 (hg:Good P) {ev:Code->EvF} (hev:∀ c,ywe0 P c (ev c)) {g:FuncId} {fu:Func} (hf:P.funcs[g]?=some fu) {args:List LV} {H:Heap} {s s' : S} {e:LEnd} {H' : Heap} (h:ynf1 P ev g fu args H s=.ok (e,H') s') (hob:s'.ob) :
  s.ob/\H.Le H'/\∀ J w (c:Frame) (cs:List Frame),Sat J H w->lts H.n args ->
   ∃ nx fr0 J' w',(invoke (.fn (decFn J (.func g)) #[]) (decs J args).toArray).run P w=.ok nx w/\ydj0 P nx=some fr0/\Moved J H w J' H' w'/\ltEnd H'.n e /\
    Steps P (lone fr0 (c::cs) w) (lone (yxh0 J' c e) cs w'):=by
 obtain ⟨h1,h2,h3⟩:=ynr0 hg hev hf h hob
 have hb:hasBody P g=true:=by
  unfold ynf1 at h;split at h
  .cases h
  .rename_i c hb;exact yik1 hf hb
 refine ⟨h1,h2,fun J w c cs hs hl=>?_⟩;obtain ⟨J',w',fr,hm,hle,hst,hfn,hlv⟩:=h3 J w (c::cs) hs hl;refine ⟨.enter g (decs J args).toArray,_,J',w',?_,rfl,hm,hle,?_⟩
 .simp only [invoke,decFn,Array.append_empty];exact ypj0 hg hb _ w
 .cases e with
  | ret v=>exact hst.trans (.one (step_leave_returned hlv))
  | pan v=>exact hst.trans (.one (step_leave_panicked hlv))
end Go.Proofs.YtnpbgnjiihecgaaGreat.Ev
namespace Go.Proofs.YtnpbgnjiihecgaaGreat.Ev
open Go
variable {P:Program}
theorem yay0 {n:Nat} : ∀ (ps:List Nat) (vs:List LV) (t t' : Tr LV),yyw0 n t ps vs=some t'->ps.length=vs.length /\
  (∀ m,ltT m t->lts m vs->ltT m t')/\∀ (J:Nat->RB) (tm:Array Value),tm.size=n->TRel J t tm->((ps.zip (decs J vs)).foldl (fun tmps (x:Nat × Value)=>tmps.setIfInBounds x.1 x.2) tm).size=n /\
   TRel J t' ((ps.zip (decs J vs)).foldl (fun tmps (x:Nat × Value)=>tmps.setIfInBounds x.1 x.2) tm)
 | [],[],t,t',h=>by
  injection h with h;subst h;exact ⟨rfl,fun _ h _=>h,fun _ _ hs h=>⟨hs,h⟩⟩
 | p::ps,v::vs,t,t',h=>by
  simp only [yyw0] at h;obtain ⟨hp,h⟩:=ybx0 h;have hp:=bltN.1 hp;obtain ⟨h1,h2,h3⟩:=yay0 ps vs _ _ h;refine ⟨by simp [h1],fun m ht hv=>h2 m (fun j=>?_) hv.2,fun J tm hs ht=>?_⟩
  .rw [Tr.get_set];split
   .exact hv.1
   .exact ht j
  .simp only [decs,List.zip_cons_cons,List.foldl_cons];refine h3 J _ (by simp [hs]) fun j=>?_
   rw [Tr.get_set];by_cases hj:p=j
   .subst hj;right;simp only [if_true];rw [Array.getElem?_setIfInBounds_self_of_lt (by omega)]
   .simp only [hj,if_false];rw [Array.getElem?_setIfInBounds_ne hj];exact ht j
 | [],_::_,_,_,h=>by cases h
 | _::_,[],_,_,h=>by cases h
theorem ykg1 {ev:Code->EvF} (hev:∀ c,ywe0 P c (ev c)) {l:Nat} {args:List LV} {H:Heap} {s s' : S} {e:LEnd} {H' : Heap} (h:yax0 P ev l args H s (H.get l)=.ok (e,H') s') (hob:s'.ob) :
  s.ob/\H.Le H'/\∀ J w (c:Frame) (cs:List Frame),Sat J H w->lts H.n args->l<H.n ->
   ∃ nx fr0 J' w',(invoke (.fn (decFn J (.yield l)) #[]) (decs J args).toArray).run P w=.ok nx w/\ydj0 P nx=some fr0/\Moved J H w J' H' w'/\ltEnd H'.n e /\
    Steps P (lone fr0 (c::cs) w) (lone (yxh0 J' c e) cs w'):=by
 generalize hget:H.get l=o at h;unfold yax0 at h;split at h
 .rename_i pe fn n t ps as bo d;split at h
  .cases h
  .rename_i t' hset;obtain ⟨⟨x1,f1,H1⟩,s1,h1,h⟩:=yag0 h;simp only at h;split at h
   .rename_i pe1 fn1 n1 t1 ps1 as1 bo1 d1 hget1;obtain ⟨⟨x2,f2,H2⟩,s2,h2,h⟩:=yag0 h;simp only at h;split at h
    .rename_i hmarks;obtain ⟨hlen,hlt,htr⟩:=yay0 ps args t t' hset
     -- up to the body's end
     have main:s2.ob->s.ob/\H.Le H2/\∀ J w (c:Frame) (cs:List Frame),Sat J H w->lts H.n args->l<H.n->∃ nx fr0 b J2 w2 tmps,(invoke (.fn (decFn J (.yield l)) #[]) (decs J args).toArray).run P w=.ok nx w/\ydj0 P nx=some fr0 /\
       Moved J H w J2 H2 w2/\FRel J2 H2.n f2 b tmps []/\ltX H2.n x2/\b.kind=.normal/\b.roundOf=some (J2 l).blk/\l<H2.n/\Ends P (lone fr0 (c::cs) w) b [] (c::cs) J2 tmps [] w2 x2:=by
      intro hs2;obtain ⟨hs1,hle2,hct2⟩:=hev bo _ _ _ _ _ _ _ h2 hs2;obtain ⟨hs0,hle1,hct1⟩:=hev as _ _ _ _ _ _ _ h1 hs1;refine ⟨hs0,(hle1.trans (Heap.le_put _ _ _)).trans hle2,fun J w c cs hs hl hll=>?_⟩;have hobj:=hs.obj l hll;have hwf:=hs.wf l hll;rw [hget] at hobj hwf;obtain ⟨tm,htm,htrel,hheap⟩:=hobj;have hy:=run_yield (P:=P) (args:=(decs J args).toArray) hheap (by simp [yla0,hlen]);obtain ⟨hsz,htr'⟩:=htr J tm htm htrel
      have hfold:((ps.toArray.zip (decs J args).toArray).foldl (fun tmps (x:Nat × Value)=>tmps.setIfInBounds x.1 x.2) tm)=((ps.zip (decs J args)).foldl (fun tmps (x:Nat × Value)=>tmps.setIfInBounds x.1 x.2) tm):=by
       simp
      revert hsz htr';rw [<- hfold];generalize htm0:((ps.toArray.zip (decs J args).toArray).foldl (fun tmps (x:Nat × Value)=>tmps.setIfInBounds x.1 x.2) tm)=tm0;intro hsz htr'
      obtain ⟨J1,w1,tmps1,ds1,m1,r1,_,e1⟩:=hct1 J w (Frame.round (J l).blk fn tm0 as bo .normal) tm0 [] [.beginRound,.code bo] (c::cs) hs
       ⟨hlt _ hwf.1 hl,by simp,by intro j hj;injection hj with hj;subst hj;exact hll,rfl,hsz,htr',rfl,rfl⟩
      have hl1:l<H1.n:=Nat.lt_of_lt_of_le hll m1.more;have hobj1:=m1.sat.obj l hl1;have hwf1:=m1.sat.wf l hl1;rw [hget1] at hobj1 hwf1;obtain ⟨tm1,htm1,htrel1,hheap1⟩:=hobj1
      have hput:=Moved.putLoop m1.sat hl1 (by rw [hget1];rfl) (.loop .busy pe1 fn1 n1 t1 ps1 as1 bo1 d1) (.loop { state:=.busy,pending:=pe1,fn:=fn1,tmps:=tm1,params:=ps1.toArray,assign:=as1,body:=bo1,defers:=(J1 d1).blk }) hwf1
       (fun w' hw'=>⟨tm1,htm1,htrel1,hw'⟩)
      have hro:(Frame.round (J l).blk fn tm0 as bo .normal).roundOf=some (J1 l).blk:=by rw [m1.ext l hll];rfl
      have hbeg:=yze2 (P:=P) (tmps:=tmps1) (ds:=ds1) (k:=[.code bo]) (cs:=c::cs) hro hheap1 rfl;obtain ⟨J2,w2,tmps2,ds2,m2,r2,l2,e2⟩:=hct2 J1 _ (Frame.round (J l).blk fn tm0 as bo .normal) tmps1 ds1 [] (c::cs) hput.sat r1;have hds:ds2=[]:=by rw [r2.ds,hmarks];rfl
      subst hds;have hl2:l<H2.n:=Nat.lt_of_lt_of_le hl1 m2.more;refine ⟨.round (J l).blk fn tm0 as bo,_,Frame.round (J l).blk fn tm0 as bo .normal,J2,w2,tmps2,?_,?_,(m1.trans hput).trans m2,r2,l2,rfl,?_,hl2,e2.of_steps (Steps.trans e1 (.one hbeg))⟩
      .simp only [invoke,decFn];rw [<- htm0];exact hy
      .rfl
      .rw [m2.ext l (by rw [Heap.n_put];exact hl1),m1.ext l hll];rfl
     -- how the round is left
     have fin:∀ {st pe' fn' n' t' ps' as' bo' d'} {st2:LoopState} {pe2:Option Code} {v:Bool},H2.get l=.loop st pe' fn' n' t' ps' as' bo' d' ->
       (∀ (b:Frame) (tmps:Array Value) (c:Frame) (cs:List Frame) (fr0:Frame) (J2:Nat->RB) (w w2:World) (r:Loop),b.roundOf=some (J2 l).blk->b.kind=.normal->w2.heap[(J2 l).blk]?=some (.loop r)->Ends P (lone fr0 (c::cs) w) b [] (c::cs) J2 tmps [] w2 x2 ->
        Steps P (lone fr0 (c::cs) w) (lone (c.finish (.bool v)) cs (putO w2 (J2 l).blk (.loop { r with state:=st2,pending:=pe2 })))) ->
       R.ok (LEnd.ret (.bool v),H2.put l (.loop st2 pe2 fn' n' t' ps' as' bo' d')) s2=.ok (e,H') s'->s.ob/\H.Le H'/\∀ J w (c:Frame) (cs:List Frame),Sat J H w->lts H.n args->l<H.n ->
       ∃ nx fr0 J' w',(invoke (.fn (decFn J (.yield l)) #[]) (decs J args).toArray).run P w=.ok nx w/\ydj0 P nx=some fr0/\Moved J H w J' H' w'/\ltEnd H'.n e /\
        Steps P (lone fr0 (c::cs) w) (lone (yxh0 J' c e) cs w'):=by
      intro st pe' fn' n' t' ps' as' bo' d' st2 pe2 v hget2 hstep h;injection h with e1 e2;injection e1 with e1 e3;subst e1;subst e2;subst e3;obtain ⟨hs0,hle,hm⟩:=main hob;refine ⟨hs0,hle.trans (Heap.le_put _ _ _),fun J w c cs hs hl hll=>?_⟩;obtain ⟨nx,fr0,b,J2,w2,tmps,a1,a2,a3,a4,a5,a6,a7,a8,a9⟩:=hm J w c cs hs hl hll;have hobj2:=a3.sat.obj l a8;have hwf2:=a3.sat.wf l a8;rw [hget2] at hobj2 hwf2;obtain ⟨tm2,htm2,htrel2,hheap2⟩:=hobj2
      have hput:=Moved.putLoop a3.sat a8 (by rw [hget2];rfl) (.loop st2 pe2 fn' n' t' ps' as' bo' d') (.loop { state:=st2,pending:=pe2,fn:=fn',tmps:=tm2,params:=ps'.toArray,assign:=as',body:=bo',defers:=(J2 d').blk }) hwf2
       (fun w' hw'=>⟨tm2,htm2,htrel2,hw'⟩)
      exact ⟨nx,fr0,J2,_,a1,a2,a3.trans hput,trivial,hstep b tmps c cs fr0 J2 w w2 _ a7 a6 hheap2 a9⟩
     unfold yhs0 at h;split at h
     .rename_i pe' fn' n' t' ps' as' bo' d' hget2;split at h
      .exact fin hget2 (fun b tmps c cs fr0 J2 w w2 r hro hk hh he=>Steps.trans he (.one (ypa1 hro hk hh c))) h
      .exact fin hget2 (fun b tmps c cs fr0 J2 w w2 r hro hk hh he=>by
        obtain ⟨k',he⟩:=he
        exact he.trans (.one (yqa1 hro hk hh c))) h
      .exact fin hget2 (fun b tmps c cs fr0 J2 w w2 r hro hk hh he=>by
        obtain ⟨k',hk',he⟩:=he
        exact he.trans (.one (yxx0 hro hk hh hk' c))) h
      .rename_i v;rcases bcR h with ⟨hfn,h⟩ | ⟨_,h⟩
       .injection h with e1 e2;injection e1 with e1 e3;subst e1;subst e2;subst e3;obtain ⟨hs0,hle,hm⟩:=main hob;refine ⟨hs0,hle,fun J w c cs hs hl hll=>?_⟩;obtain ⟨nx,fr0,b,J2,w2,tmps,a1,a2,a3,a4,a5,a6,a7,a8,k',a9⟩:=hm J w c cs hs hl hll;unfold hasFn at hfn;split at hfn
        .rename_i fu hfu;exact ⟨nx,fr0,J2,w2,a1,a2,a3,a5,a9.trans (.one (yye2 hfu a4.fn c))⟩
        .cases hfn
       .cases h
     .cases h
    .cases h
   .cases h
 .cases h
theorem ybf2 (hg:Good P) {ev:Code->EvF} (hev:∀ c,ywe0 P c (ev c)):ylc0 P (evFn P ev):=by
 intro fn xs H s e H' s' h hob;unfold evFn at h;split at h
 .rename_i g;split at h
  .cases h
  .rename_i fu hf;obtain ⟨h1,h2,h3⟩:=yjk1 hg hev hf h hob;exact ⟨h1,h2,fun J w c cs hs hl _=>h3 J w c cs hs hl⟩
 .rename_i l;obtain ⟨h1,h2,h3⟩:=ykg1 hev h hob;exact ⟨h1,h2,fun J w c cs hs hl hll=>h3 J w c cs hs hl hll⟩
 .cases h
end Go.Proofs.YtnpbgnjiihecgaaGreat.Ev
