/- Maps. Every operation that the evaluator takes, the model does so. The machine's steps, in frames of every make. What the evaluator of code says, the machine does: operations. -/
import Derived.Test.YtnpbgnjiihecgaaGreatLd
import Derived.Maps.RangeRun
import Derived.Test.YtnpbgnjiihecgaaGreatLa
import Derived.Orders
import Derived.Test.YtnpbgnjiihecgaaGreatLb
namespace Go.Proofs.YtnpbgnjiihecgaaGreat.Ev
open Go
variable {P:Program} {J:Nat->RB} {H:Heap} {w:World}
theorem yca1 {kd:TypeDesc} {x y:LV} {b:Bool} (h:yqh0 kd x y=some b):Instr.sameNow kd (dec J x) (dec J y)=some b:=by
 unfold yqh0 at h;split at h
 .split at h
  .injection h with h;subst h;rfl
  .cases h
 .split at h
  .obtain ⟨rfl,rfl⟩:=yvi1 h;simp [Instr.sameNow,dec]
  .cases h
 .split at h
  .injection h with h;subst h;simp only [Instr.sameNow,dec,yui1,<- yie2]
  .cases h
 .cases h
theorem ylb2 {kd:TypeDesc} {k:LV} : ∀ (es:List Ent) (i:Nat) (r:Option (Nat × LV)),findL kd k es i=some r ->
  Instr.findNow kd (dec J k) (es.map (ytd0 J)) i=some (r.map fun p=>(p.1,dec J p.2))
 | [],i,r,h=>by injection h with h;subst h;rfl
 | e::es,i,r,h=>by
  unfold findL at h;split at h
  .rename_i b hb;simp only [List.map_cons,Instr.findNow,ytd0,yca1 hb];cases b with
   | true=>simp only [cond_true] at h;injection h with h;subst h;rfl
   | false=>simp only [cond_false] at h;exact ylb2 es (i+1) r h
  .cases h
theorem yat0 {kd:TypeDesc} {k:LV} : ∀ (es:List Ent) (i j:Nat) (v:LV),findL kd k es i=some (some (j,v)) ->
  i<=j/\∃ e,es[j-i]?=some e/\e.val=v/\yqh0 kd k e.key=some true
 | [],i,j,v,h=>by injection h with h;cases h
 | e::es,i,j,v,h=>by
  unfold findL at h;split at h
  .rename_i b hb;cases b with
   | true =>
    simp only [cond_true] at h;injection h with h;injection h with h;injection h with h1 h2;subst h1;exact ⟨Nat.le_refl _,e,by simp,h2,hb⟩
   | false =>
    simp only [cond_false] at h;obtain ⟨h1,e',h2,h3,h4⟩:=yat0 es (i+1) j v h;exact ⟨by omega,e',by rw [show j-i=(j-(i+1))+1 by omega];simpa using h2,h3,h4⟩
  .cases h
theorem run_checkKey {kt:TypeId} {kd:TypeDesc} (hu:P.underlying kt=some kd) (hk:yhk0 kd=true) (e:Bool) (n:Nat) (v:Value):(Instr.checkKey e (n+1) kt v).run P w=.ok () w:=by
 rw [Instr.checkKey];simp only [Sem.run_bind,run_underlying hu,Result.andThen_ok];cases kd <;> first | (cases hk;done) | rfl
theorem run_findKey {kt:TypeId} {kd:TypeDesc} (hu:P.underlying kt=some kd) {k:LV} {es:List Ent} {r:Option (Nat × LV)} (h:findL kd k es 0=some r) :
  (Instr.findKey kt (dec J k) (es.map (ytd0 J))).run P w=.ok (r.map fun p=>(p.1,dec J p.2)) w:=by
 unfold Instr.findKey;simp only [Sem.run_bind,run_underlying hu,Result.andThen_ok,ylb2 (J:=J) es 0 r h];rfl
theorem yre0 {r:Nat} {o:Obj} (h:w.heap[r]?=some o) (hc:∀ c e f,o≠.cells c e f):(getObj r).run P w=.ok o w:=by
 unfold getObj
 cases o <;> first
  | exact absurd rfl (hc _ _ _)
  | simp only [Sem.run,h]
theorem ypx0 {r:Nat} {o o' : Obj} (h:w.heap[r]?=some o) (hc:∀ c e f,o≠.cells c e f):(setObj r o').run P w=.ok () (putO w r o'):=by
 unfold setObj
 cases o <;> first
  | exact absurd rfl (hc _ _ _)
  | (simp only [Sem.run,h];rfl)
theorem ypu1 {m:LV} {es:List Ent} (h:yon0 H m=some es):(m=.nilm/\es=[])\/∃ i clock,m=.map i/\H.get i=.map es clock:=by
 unfold yon0 at h;split at h
 .injection h with h;exact .inl ⟨rfl,h.symm⟩
 .rename_i i;split at h
  .rename_i es' clock hg;injection h with h;subst h;exact .inr ⟨i,clock,rfl,hg⟩
  .cases h
 .cases h
theorem yfj1 (hs:Sat J H w) {t:TypeId} {m k v:LV} {ok:Bool} (h:lookupL0 P t m k ok H=some v) (hm:lt H.n m):(Instr.lookup t (dec J m) (dec J k) ok).run P w=.ok (dec J v) w/\lt H.n v:=by
 unfold lookupL0 at h;replace h:=(yna0 h).2;split at h
 .rename_i kt et hu;split at h
  .rename_i kd hk;replace h:=yaa0 h;obtain ⟨hkk,h⟩:=h;split at h
   .rename_i es hes;split at h
    .rename_i r hr;split at h
     .rename_i z hz;injection h with h;obtain ⟨hrz,_,hlz⟩:=ymd0 hz J w;rcases ypu1 hes with ⟨rfl,rfl⟩ | ⟨i,clock,rfl,hg⟩
      .injection hr with hr;subst hr;subst h;unfold Instr.lookup;simp only [Sem.run_bind,run_underlying hu,Result.andThen_ok,dec,Sem.run_pure,run_checkKey hk hkk];have hf:=run_findKey (J:=J) (w:=w) (k:=k) hk (es:=[]) (r:=none) rfl;simp only [List.map_nil] at hf;rw [hf];simp only [Option.map_none,Sem.run_bind,hrz,Result.andThen_ok,Sem.run_pure];cases ok <;> simp [ypn0,dec,decs,lt,lts,hlz]
      .have ho:=hs.obj i hm;rw [hg] at ho;have hwf:=hs.wf i hm;rw [hg] at hwf;have hho:w.heap[(J i).blk]?=some (.map (es.map (ytd0 J)).toArray clock):=ho;unfold Instr.lookup;simp only [Sem.run_bind,run_underlying hu,Result.andThen_ok,dec,Sem.run_pure,yre0 hho (by simp),run_checkKey hk hkk,run_findKey hk hr];cases r with
       | none =>
        simp only [Option.map_none,Sem.run_bind,hrz,Result.andThen_ok,Sem.run_pure];subst h;cases ok <;> simp [ypn0,dec,decs,lt,lts,hlz]
       | some p =>
        obtain ⟨j,u⟩:=p;simp only [Option.map_some,Sem.run_pure,Result.andThen_ok];subst h;obtain ⟨_,e,h2,h3,_⟩:=yat0 es 0 j u hr;have hl:=(hwf e (List.mem_of_getElem? h2)).2;rw [h3] at hl;cases ok <;> simp [ypn0,dec,decs,lt,lts,hl]
     .cases h
    .cases h
   .cases h
  .cases h
 .cases h
theorem yqx0 {m:LV} {es:List Ent} (h:ycj0 H m=some es):∃ i,m=.map i/\H.get i=.fmap es:=by
 unfold ycj0 at h;split at h
 .rename_i i;split at h
  .rename_i es' hg;injection h with h;subst h;exact ⟨i,rfl,hg⟩
  .cases h
 .cases h
theorem ymb2 {t:TypeId} {es:List Ent} {k v:LV} {ok:Bool} (h:lookupFm P t es k ok=some v):∃ s kt et r z,k=.str s/\P.underlying t=some (.map kt et)/\P.underlying kt=some .string/\findL .string (.str s) es 0=some r/\zeroOf P et=some z/\v=ypn0 ok z r:=by
 unfold lookupFm at h;split at h
 .rename_i s;split at h
  .rename_i kt et hu;split at h
   .rename_i hk;split at h
    .rename_i r hr;split at h
     .rename_i z hz;injection h with h;exact ⟨s,kt,et,r,z,rfl,hu,hk,hr,hz,h.symm⟩
     .cases h
    .cases h
   .cases h
  .cases h
 .cases h
theorem ype2 {J J' : Nat->RB} {v:LV} (h:scalV v=true):dec J v=dec J' v:=by cases v <;> first | rfl | cases h
theorem ybn2 {n:Nat} {v:LV} (h:scalV v=true):lt n v:=by cases v <;> first | trivial | cases h
theorem yqu1 (hs:Sat J H w) {t:TypeId} {m k v:LV} {ok:Bool} (h:lookupL P t m k ok H=some v) (hm:lt H.n m):(Instr.lookup t (dec J m) (dec J k) ok).run P w=.ok (dec J v) w/\lt H.n v:=by
 unfold lookupL at h;split at h
 .rename_i es hes;obtain ⟨i,rfl,hg⟩:=yqx0 hes;obtain ⟨s,kt,et,r,z,rfl,hu,hk,hr,hz,rfl⟩:=ymb2 h;have ho:=hs.obj i hm;rw [hg] at ho;obtain ⟨hsc,l,clock,hv,hho⟩:=ho;obtain ⟨hrz,_,hlz⟩:=ymd0 hz J w;have hv:=hv s;rw [hr] at hv;cases hl:findL .string (.str s) l 0 with
  | none=>rw [hl] at hv;cases hv
  | some q =>
   rw [hl] at hv;have hv:q.map (fun p=>p.2)=r.map (fun p=>p.2):=by injection hv
   unfold Instr.lookup;have hkey:dec J (.str s)=dec (fun _=>rbz) (.str s):=rfl;simp only [Sem.run_bind,run_underlying hu,Result.andThen_ok,dec,Sem.run_pure,yre0 hho (by simp),run_checkKey hk (show yhk0 .string=true from rfl)];have hf:=run_findKey (J:=fun _=>rbz) (w:=w) hk hl;simp only [dec] at hf;rw [hf];cases r with
   | none =>
    cases q with
    | some p=>simp at hv
    | none =>
     simp only [Option.map_none,Sem.run_bind,hrz,Result.andThen_ok,Sem.run_pure];cases ok <;> simp [ypn0,dec,decs,lt,lts,hlz]
   | some p =>
    cases q with
    | none=>simp at hv
    | some p' =>
     obtain ⟨j,u⟩:=p;obtain ⟨j',u'⟩:=p';have hv:u'=u:=by simpa using hv
     subst hv;simp only [Option.map_some,Sem.run_pure,Result.andThen_ok];obtain ⟨_,e,h2,h3,_⟩:=yat0 es 0 j u' hr;have hsv:=hsc e (List.mem_of_getElem? h2);rw [h3] at hsv;have hd:dec (fun _=>rbz) u'=dec J u':=ype2 hsv;have hl:=ybn2 (n:=H.n) hsv;cases ok <;> simp [ypn0,dec,decs,lt,lts,hl,hd]
 .exact yfj1 hs h hm
theorem ybt0 {kd:TypeDesc} {x y:LV} (h:yqh0 kd x y=some true):Instr.sameBits 10000 (dec J y) (dec J x)=true:=by
 unfold yqh0 at h;split at h
 .split at h
  .injection h with h;simp only [beq_iff_eq] at h;subst h;simp [dec,Instr.sameBits]
  .cases h
 .split at h
  .obtain ⟨rfl,h'⟩:=yvi1 h;have h':=eq_of_beq h'.symm;subst h';simp [dec,Instr.sameBits]
  .cases h
 .split at h
  .injection h with h;rw [yui1] at h;simp only [beq_iff_eq] at h;subst h;simp only [dec,Instr.sameBits,yie2];simp
  .cases h
 .cases h
theorem ygj1 (J:Nat->RB):∀ (es:List Ent) (j:Nat) (k v:LV),((es.map (ytd0 J)).toArray.modify j fun e=>{ e with key:=dec J k,val:=dec J v })=((ynn0 es j k v).map (ytd0 J)).toArray:=by
 intro es j k v;apply Array.ext_getElem?;intro i;rw [Array.getElem?_modify];simp only [List.getElem?_toArray,List.getElem?_map]
 induction es generalizing i j with
 | nil=>simp [ynn0]
 | cons e es ih =>
  cases j with
  | zero =>
   cases i with
   | zero=>simp [ynn0,ytd0]
   | succ i=>simp [ynn0]
  | succ j =>
   cases i with
   | zero=>simp [ynn0]
   | succ i =>
    have:=ih j i;simp only [ynn0,List.getElem?_cons_succ,Nat.add_right_cancel_iff] at this ⊢;exact this
theorem yrx0 {e:Ent} : ∀ (es:List Ent) (j:Nat) (k v:LV),e∈ynn0 es j k v->e∈es\/(e.key=k/\e.val=v)
 | [],_,_,_,h=>by cases h
 | x::es,0,k,v,h=>by
  rcases List.mem_cons.1 h with rfl | h
  .exact .inr ⟨rfl,rfl⟩
  .exact .inl (List.mem_cons_of_mem _ h)
 | x::es,j+1,k,v,h=>by
  rcases List.mem_cons.1 h with rfl | h
  .exact .inl (List.mem_cons_self ..)
  .rcases yrx0 es j k v h with h | h
   .exact .inl (List.mem_cons_of_mem _ h)
   .exact .inr h
theorem ytc1 (hs:Sat J H w) {t:TypeId} {m k v:LV} {H' : Heap} (h:updateL P t m k v H=some H') (hm:lt H.n m) (hk:lt H.n k) (hv:lt H.n v) :
  ∃ w',(Instr.mapUpdate t (dec J m) (dec J k) (dec J v)).run P w=.ok () w'/\Moved J H w J H' w':=by
 unfold updateL at h;replace h:=yna0 h;obtain ⟨_,h⟩:=h;replace h:=yna0 h;obtain ⟨_,h⟩:=h;split at h
 .rename_i kt et hu;split at h
  .rename_i kd hkd;replace h:=yaa0 h;obtain ⟨hkk,h⟩:=h;split at h
   .rename_i i;split at h
    .rename_i es clock hg;replace h:=yaa0 h;obtain ⟨hi,h⟩:=h;have hi:i<H.n:=bltN.1 hi;have ho:=hs.obj i hi;rw [hg] at ho;have hwf:=hs.wf i hi;rw [hg] at hwf;have hown:(H.get i).owns=true:=by rw [hg];rfl
     have hblk:=hs.inside i hi (LObj.sits_of_owns hown);have hho:w.heap[(J i).blk]?=some (.map (es.map (ytd0 J)).toArray clock):=ho;split at h
     .rename_i j u hf;injection h with h;subst h;obtain ⟨_,e,h2,h3,h4⟩:=yat0 es 0 j u hf;refine ⟨putO w (J i).blk (.map ((ynn0 es j k v).map (ytd0 J)).toArray clock),?_,Moved.put hs hi hown _ (fun b hb=>yhb0 hb) (by simp [putO]) rfl rfl rfl ?_ ?_⟩
      .unfold Instr.mapUpdate;simp only [Sem.run_bind,run_underlying hu,Result.andThen_ok,dec,yre0 hho (by simp),run_checkKey hkd hkk,run_findKey hkd hf,Option.map_some]
       have hkey:(((es.map (ytd0 J)).toArray[j]?).map (·.key)).getD (dec J k)=dec J e.key:=by
        simp only [Nat.sub_zero] at h2;simp [h2,ytd0]
       rw [hkey];unfold Instr.keyThatStays;rw [if_pos (ybt0 h4)];simp only [Sem.run_pure,Result.andThen_ok,ygj1];rw [ypx0 hho (by simp)]
      .intro e he;rcases yrx0 es j k v he with he | ⟨a,b⟩
       .exact hwf e he
       .exact ⟨by rw [a];exact hk,by rw [b];exact hv⟩
      .exact yjb0 hblk
     .rename_i hf;injection h with h;subst h;refine ⟨putO w (J i).blk (.map ((app es [⟨k,v,clock⟩]).map (ytd0 J)).toArray (clock+1)),?_,Moved.put hs hi hown _ (fun b hb=>yhb0 hb) (by simp [putO]) rfl rfl rfl ?_ ?_⟩
      .unfold Instr.mapUpdate;simp only [Sem.run_bind,run_underlying hu,Result.andThen_ok,dec,yre0 hho (by simp),run_checkKey hkd hkk,run_findKey hkd hf,Option.map_none];rw [ypx0 hho (by simp)]
       congr 3
       rw [app_eq];apply Array.ext';simp [ytd0]
      .intro e he;rw [app_eq] at he;rcases List.mem_append.1 he with he | he
       .exact hwf e he
       .simp only [List.mem_singleton] at he;subst he;exact ⟨hk,hv⟩
      .exact yjb0 hblk
     .cases h
    .cases h
   .cases h
  .cases h
 .cases h
end Go.Proofs.YtnpbgnjiihecgaaGreat.Ev
namespace Go.Proofs.YtnpbgnjiihecgaaGreat.Ev
open Go
variable {P:Program} {J:Nat->RB} {H:Heap} {w:World}
theorem yda1 (f:Fr):∀ l,f.evs l=l.map f.ev
 | []=>rfl
 | x::xs=>by show f.ev x::f.evs xs=_;rw [yda1 f xs];rfl
theorem reals {ev:Operand->LV} {rv:Operand->Value} : ∀ {l:List Operand},(∀ x∈l,Is J (ev x) (rv x)/\lt H.n (ev x))->yek0 (l.map ev)=true->l.map rv=decs J (l.map ev)
 | [],_,_=>rfl
 | x::xs,hx,hn=>by
  simp only [List.map_cons] at hn ⊢;obtain ⟨a,b⟩:=(yoq0 _ _).1 hn;simp only [decs];rw [(hx x (by simp)).1.eq a,reals (fun y hy=>hx y (by simp [hy])) b]
theorem ynb2 {ev:Operand->LV} {l:List Operand} {n:Nat} (h:∀ x∈l,lt n (ev x)):lts n (l.map ev):=by
 rw [ygb0];intro v hv;obtain ⟨x,hx,rfl⟩:=List.mem_map.1 hv;exact h x hx
theorem ylu2 (hs:Sat J H w) {t ty:TypeId} {ats:Array TypeId} {x:LV} {a:Value} {r:OpR} (h0:ats[0]?=some t) (h:opLen P t [x] H=some r) (hx:Is J x a) (hl:lt H.n x) :
  (Builtin.len_ ats ty #[a]).run P w=.ok (dec J r.v) w/\r.H=H/\lt H.n r.v:=by
 unfold opLen at h;unfold Builtin.len_;simp only at h;split at h
 .rename_i hu;simp only [h0,List.getElem?_toArray,List.getElem?_cons_zero,Sem.run_bind,run_underlying hu,Result.andThen_ok];split at h
  .injection h with h;subst h;rw [hx.eq rfl];refine ⟨?_,rfl,trivial⟩;simp only [dec,yjx0,lenL_eq];rfl
  .cases h
 .rename_i e hu;simp only [h0,List.getElem?_toArray,List.getElem?_cons_zero,Sem.run_bind,run_underlying hu,Result.andThen_ok];split at h
  .rename_i n hn;split at h
   .cases h
   .rename_i hns;injection h with h;subst h;refine ⟨?_,rfl,trivial⟩;unfold lenV at hn
    split at hn <;> first
     | (cases hn;done)
     | (exact absurd rfl (hns _))
     | (injection hn with hn;subst hn;rw [hx.eq rfl];rfl)
  .cases h
 .rename_i n e hu;simp only [h0,List.getElem?_toArray,List.getElem?_cons_zero,Sem.run_bind,run_underlying hu,Result.andThen_ok];injection h with h;subst h;exact ⟨rfl,rfl,trivial⟩
 .rename_i k e hu;simp only [h0,List.getElem?_toArray,List.getElem?_cons_zero,Sem.run_bind,run_underlying hu,Result.andThen_ok];split at h
  .injection h with h;subst h;rw [hx.eq rfl];exact ⟨rfl,rfl,trivial⟩
  .rename_i i;split at h
   .rename_i es clock hg;injection h with h;subst h;rw [hx.eq rfl];have ho:=hs.obj i hl;rw [hg] at ho;have hho:w.heap[(J i).blk]?=some (.map (es.map (ytd0 J)).toArray clock):=ho;refine ⟨?_,rfl,trivial⟩;simp only [dec,Sem.run_bind,yre0 hho (by simp),Result.andThen_ok];simp [goInt,lenL_eq]
   .cases h
  .cases h
 .cases h
theorem yqe2 {ev:Operand->LV} {rv:Operand->Value} {lo hi mx:Option Operand} {l h m:Option LV} (hx:∀ x∈optOf lo++optOf hi++optOf mx,Is J (ev x) (rv x))
  (he:three lo hi mx ((optOf lo++optOf hi++optOf mx).map ev)=some (l,h,m)):IsO J l (lo.map rv)/\IsO J h (hi.map rv)/\IsO J m (mx.map rv)/\(m≠none->h≠none):=by
 cases lo <;> cases hi <;> cases mx <;> simp only [optOf,List.nil_append,List.append_nil,List.cons_append,List.map_cons,List.map_nil,three] at he <;> first
  | (cases he;done)
  | (injection he with he; injection he with h1 h2; injection h2 with h2 h3; subst h1; subst h2; subst h3
     simp only [optOf,List.nil_append,List.append_nil,List.cons_append,List.mem_cons,List.not_mem_nil,or_false,forall_eq_or_imp,forall_eq] at hx
     simp_all [IsO])
theorem yuf0 {v:LV} (h:v≠.junk):yta0 v=false:=by cases v <;> first | rfl | exact absurd rfl h
theorem yuc1 {t:TypeId} {x v:LV} (h:loadL P t H x=some v):yta0 x=false:=yuf0 fun e=>by rw [e] at h;exact absurd h (by simp [loadL])
theorem ybr0 {t:TypeId} {a v:LV} {H' : Heap} (h:storeL0 P t H a v=some H'):yta0 a=false/\yta0 v=false:=by
 unfold storeL0 at h;have h1:=yna0 h;exact ⟨yuf0 fun e=>by rw [e] at h1;exact absurd h1.2 (by simp),h1.1⟩
theorem yhj1 {t:TypeId} {a v:LV} {H' : Heap} (h:storeL P t H a v=some H'):yta0 a=false/\yta0 v=false:=by
 unfold storeL at h;split at h
 .split at h
  .obtain ⟨c,_,_,_,hc,_,_,_⟩:=ymj0 h;exact ⟨rfl,(yej1 hc).2.2⟩
  .exact ybr0 h
 .exact ybr0 h
theorem yru1 {x v:LV} (h:ymn0 H x=some v):yta0 x=false:=yuf0 fun e=>by rw [e] at h;exact absurd h (by simp [ymn0])
theorem ysu1 {s d:TypeId} {x:LV} {r:LV × Heap} (h:convL P s d x H=some r):yta0 x=false:=by
 unfold convL at h;split at h
 .split at h
  .split at h
   .rfl
   .cases h
  .cases h
 .split at h
  .split at h
   .rfl
   .cases h
  .split at h
   .split at h
    .rfl
    .cases h
   .cases h
  .cases h
 .split at h
  .split at h
   .obtain ⟨v,H'⟩:=r;exact yru1 (yfc0 h).1
   .cases h
  .cases h
 .cases h
theorem yct0 {t:TypeId} {l c:LV} {r:LV × Heap} (h:makeSliceL P t H l c=some r):yta0 l=false/\yta0 c=false:=by
 unfold makeSliceL at h;split at h
 .exact ⟨rfl,rfl⟩
 .cases h
theorem yij1 {t:TypeId} {x:LV} {lo hi mx:Option LV} {r:LV × Heap} (h:sliceL P t x lo hi mx H=some r):yta0 x=false:=yuf0 fun e=>by
 rw [e] at h;unfold sliceL at h;split at h
 .cases h
 .split at h <;> cases h
 .cases h
 .cases h
theorem ydt0 {s:TypeId} {f:Nat} {x v:LV} (h:fieldAddrL P s f x=some v):yta0 x=false:=yuf0 fun e=>by rw [e] at h;exact absurd h (by simp [fieldAddrL])
theorem yjj1 {s:TypeId} {f:Nat} {x v:LV} (h:fieldL P s f x=some v):yta0 x=false:=yuf0 fun e=>by rw [e] at h;exact absurd h (by simp [fieldL])
theorem yet0 {t:TypeId} {x i v:LV} (h:indexAddrL P t x i=some v):yta0 x=false/\yta0 i=false:=by
 unfold indexAddrL at h;split at h
 .refine ⟨yuf0 fun e=>?_,rfl⟩;subst e;split at h
  .cases h
  .cases h
  .cases h
 .cases h
theorem ykj1 {t:TypeId} {x i v:LV} (h:indexL P t x i=some v):yta0 x=false/\yta0 i=false:=by
 unfold indexL at h;split at h
 .refine ⟨yuf0 fun e=>?_,rfl⟩;subst e;split at h
  .cases h
  .cases h
  .cases h
 .cases h
theorem yea1 {t:TypeId} {m k v:LV} {ok:Bool} (h:lookupL0 P t m k ok H=some v):yta0 m=false:=yuf0 fun e=>by
 subst e;unfold lookupL0 at h;replace h:=(yna0 h).2;split at h
 .split at h
  .replace h:=yaa0 h;obtain ⟨_,h⟩:=h;cases h
  .cases h
 .cases h
theorem yvf1 {t:TypeId} {m k v:LV} {ok:Bool} (h:lookupL P t m k ok H=some v):yta0 m=false/\yta0 k=false:=by
 unfold lookupL at h;split at h
 .rename_i es hes;obtain ⟨i,rfl,_⟩:=yqx0 hes;obtain ⟨s,_,_,_,_,rfl,_⟩:=ymb2 h;exact ⟨rfl,rfl⟩
 .exact ⟨yea1 h,by unfold lookupL0 at h;exact (yna0 h).1⟩
theorem ycr0 {t:TypeId} {m k v:LV} {H' : Heap} (h:updateL P t m k v H=some H'):yta0 m=false/\yta0 k=false/\yta0 v=false:=by
 unfold updateL at h;replace h:=yna0 h;obtain ⟨h1,h⟩:=h;replace h:=yna0 h;obtain ⟨h2,h⟩:=h;refine ⟨yuf0 fun e=>?_,h2,h1⟩;subst e;split at h
 .split at h
  .replace h:=yaa0 h;obtain ⟨_,h⟩:=h;cases h
  .cases h
 .cases h
theorem yqo0 {n:Nat} {x:LV} {cs:List LV} (h:ydc0 H n x=some cs):yta0 x=false:=yuf0 fun e=>by subst e;exact absurd h (by simp [ydc0])
theorem ylj1 {c:CK} {n:Nat} {x:LV} {cs:List LV} (h:rawOf c H n x=some cs):yta0 x=false:=yuf0 fun e=>by subst e;exact absurd h (by simp [rawOf])
theorem yfa1 {t xt:TypeId} {s x:LV} {r:LV × Heap} (h:appendF1 P t xt s x H=some r):yta0 s=false/\yta0 x=false:=by
 unfold appendF1 at h;replace h:=yaa0 h;obtain ⟨_,h⟩:=h;split at h
 .split at h
  .cases h
  .split at h
   .cases h
   .replace h:=yaa0 h;obtain ⟨_,h⟩:=h;split at h
    .cases h
    .split at h
     .cases h
     .rename_i hc;refine ⟨yuf0 fun e=>?_,ylj1 hc⟩;subst e;cases h
 .cases h
theorem ywf1 {t xt:TypeId} {s x:LV} {r:LV × Heap} (h:appendL P t xt s x H=some r):yta0 s=false/\yta0 x=false:=by
 unfold appendL at h;cases hf:(yhe0 H s||yhe0 H x) with
 | true=>rw [hf] at h;exact yfa1 h
 | false =>
 rw [hf] at h;simp only [cond_false] at h;unfold appendL0 at h;replace h:=yaa0 h;obtain ⟨_,h⟩:=h;split at h
 .split at h
  .cases h
  .split at h
   .cases h
   .replace h:=yna0 h;obtain ⟨_,h⟩:=h;replace h:=yna0 h;obtain ⟨_,h⟩:=h;split at h
    .cases h
    .rename_i hc;refine ⟨yuf0 fun e=>?_,yqo0 hc⟩;subst e;cases h
 .cases h
theorem ytu1 {t:TypeId} {d x:LV} {r:LV × Heap} (h:copyL P t d x H=some r):yta0 d=false/\yta0 x=false:=by
 unfold copyL at h;split at h
 .split at h
  .cases h
  .split at h
   .cases h
   .split at h
    .replace h:=yna0 h;obtain ⟨_,h⟩:=h;split at h
     .cases h
     .rename_i hc;exact ⟨rfl,yqo0 hc⟩
    .cases h
 .cases h
theorem ymj1 {t:TypeId} {x:LV} {r:LV × Heap} (h:clearL P t x H=some r):yta0 x=false:=by
 unfold clearL at h;split at h
 .split at h
  .cases h
  .split at h
   .rfl
   .cases h
 .cases h
theorem yuu1 {t:TypeId} {x v:LV} {n:Nat} (h:arrPtrL P t x=some v) (hl:lt n x):yta0 x=false/\(Instr.arrayAt t (dec J x)).run P w=.ok (dec J v) w/\lt n v:=by
 unfold arrPtrL at h;split at h
 .rename_i len elem hu;split at h
  .rename_i i o l c;replace h:=yaa0 h;obtain ⟨hle,h⟩:=h;injection h with h;subst h;have hle:=Nat.le_of_ble_eq_true hle;refine ⟨rfl,?_,hl⟩;unfold Instr.arrayAt;simp only [dec,Sem.run_bind,run_underlying hu,Result.andThen_ok];rw [if_neg (by omega)];rfl
  .cases h
 .cases h
theorem ysx0 (hs:Sat J H w) {c:Call} {b:Builtin} (ty:TypeId) (pos:String) (after:Array Edge) (guard:Option (Nat × Bool)) (dst:Option Tmp) (hb:c.callee=.builtin b)
  {ev:Operand->LV} {rv:Operand->Value} (hx:∀ x∈opds (.call c),Is J (ev x) (rv x)/\lt H.n (ev x)) {r:OpR} (h:opBuiltin P c b ((opds (.call c)).map ev) H=some r) :
  yde2 P J H w (execOp rv ⟨dst,.call c,ty,pos,after,guard⟩) r:=by
 have hopds:opds (.call c)=c.args.toList:=by simp [opds,hb]
 rw [hopds] at hx h
 have hres:execOp rv ⟨dst,.call c,ty,pos,after,guard⟩=builtin b c.argTypes ty (c.args.map fun | .const _=>true | _=>false) (c.args.map rv):=by
  simp only [execOp,resolve,hb];rfl
 rw [hres]
 have two:∀ {x y:LV},c.args.toList.map ev=[x,y]->∃ X Y,c.args.map rv=#[rv X,rv Y]/\x=ev X/\y=ev Y/\X∈c.args.toList/\Y∈c.args.toList:=by
  intro x y hxy
  match hl:c.args.toList with
  | []=>rw [hl] at hxy;cases hxy
  | [_]=>rw [hl] at hxy;cases hxy
  | [X,Y] =>
   rw [hl] at hxy;injection hxy with h1 h2;injection h2 with h2 _;exact ⟨X,Y,by apply Array.ext';simp [hl],h1.symm,h2.symm,by simp,by simp⟩
  | _::_::_::_=>rw [hl] at hxy;cases hxy
 have one:∀ {x:LV},c.args.toList.map ev=[x]->∃ X,c.args.map rv=#[rv X]/\x=ev X/\X∈c.args.toList:=by
  intro x hxy
  match hl:c.args.toList with
  | []=>rw [hl] at hxy;cases hxy
  | [X] =>
   rw [hl] at hxy;injection hxy with h1 _;exact ⟨X,by apply Array.ext';simp [hl],h1.symm,by simp⟩
  | _::_::_=>rw [hl] at hxy;cases hxy
 unfold opBuiltin at h;split at h
 ·-- len
  cases h0:c.argTypes[0]? with
  | none=>simp only [h0] at h;cases h
  | some t =>
   simp only [h0] at h
   have hsh:∃ x,c.args.toList.map ev=[x]:=by
    unfold opLen at h;split at h
    .exact ⟨_,by assumption⟩
    .cases h
   obtain ⟨x,hxx⟩:=hsh;obtain ⟨X,hr,rfl,hX⟩:=one hxx;rw [hxx] at h;obtain ⟨hrun,hH,hl⟩:=ylu2 (ty:=ty) hs h0 h (hx X hX).1 (hx X hX).2;rw [hr];refine ⟨J,w,.value (dec J r.v),?_,.inr rfl,by rw [hH];exact Moved.refl hs,by rw [hH];exact hl⟩;exact yye0 (s:=Builtin.len_ c.argTypes ty #[rv X]) hrun
 ·-- append
  cases h0:c.argTypes[0]? with
  | none=>simp only [h0] at h;cases h
  | some t =>
   cases h1:c.argTypes[1]? with
   | none=>simp only [h0,h1] at h;cases h
   | some xt =>
    simp only [h0,h1] at h;unfold opAppend at h;split at h
    .rename_i x y hxy;obtain ⟨X,Y,hr,rfl,rfl,hX,hY⟩:=two hxy;obtain ⟨v,H',hv,rfl⟩:=ycc0 h;obtain ⟨hj1,hj2⟩:=ywf1 hv;obtain ⟨J',w',hrun,hm,hl⟩:=you1 (P:=P) (ty:=ty) hs h0 h1 hv (hx X hX).2 (hx Y hY).2;rw [hr,(hx X hX).1.eq hj1,(hx Y hY).1.eq hj2];exact ⟨J',w',_,yye0 (s:=Builtin.append_ c.argTypes ty #[dec J (ev X),dec J (ev Y)]) hrun,.inr rfl,hm,hl⟩
    .cases h
 ·-- copy
  cases h0:c.argTypes[0]? with
  | none=>simp only [h0] at h;cases h
  | some t =>
   simp only [h0] at h;unfold opCopy at h;split at h
   .rename_i x y hxy;obtain ⟨X,Y,hr,rfl,rfl,hX,hY⟩:=two hxy;obtain ⟨v,H',hv,rfl⟩:=ycc0 h;obtain ⟨hj1,hj2⟩:=ytu1 hv;obtain ⟨w',hrun,hm,hl⟩:=yan2 (P:=P) (ty:=ty) hs h0 hv (hx X hX).2 (hx Y hY).2;rw [hr,(hx X hX).1.eq hj1,(hx Y hY).1.eq hj2];exact ⟨J,w',_,yye0 (s:=Builtin.copy_ c.argTypes ty #[dec J (ev X),dec J (ev Y)]) hrun,.inr rfl,hm,hl⟩
   .cases h
 ·-- clear
  cases h0:c.argTypes[0]? with
  | none=>simp only [h0] at h;cases h
  | some t =>
   simp only [h0] at h;unfold opClear at h;split at h
   .rename_i x hxy;obtain ⟨X,hr,rfl,hX⟩:=one hxy;obtain ⟨v,H',hv,rfl⟩:=ycc0 h;have hj1:=ymj1 hv;obtain ⟨w',hrun,hm,hl⟩:=yoe2 (P:=P) (ty:=ty) hs h0 hv;rw [hr,(hx X hX).1.eq hj1];exact ⟨J,w',_,yye0 (s:=Builtin.clear_ c.argTypes ty #[dec J (ev X)]) hrun,.inr rfl,hm,hl⟩
   .cases h
 ·-- min
  unfold opMin at h;split at h
  .rename_i k a k' b hxy;split at h
   .rename_i hk;subst hk;obtain ⟨X,Y,hr,hX',hY',hX,hY⟩:=two hxy;have h1:=(hx X hX).1;rw [<- hX'] at h1;have h2:=(hx Y hY).1;rw [<- hY'] at h2;injection h with h;subst h;rw [hr,h1.eq rfl,h2.eq rfl];refine ⟨J,w,.value (dec J (.int k (if b<a then b else a))),?_,.inr rfl,Moved.refl hs,trivial⟩
    exact yye0 (s:=Builtin.min_ c.argTypes ty #[.int k a,.int k b]) (by
     show (List.foldlM Builtin.min2 (.int k a) [.int k b] : Sem Value).run P w=_
     simp [Builtin.min2,dec])
   .cases h
  .cases h
 ·-- max
  unfold opMax at h;split at h
  .rename_i k a k' b hxy;split at h
   .rename_i hk;subst hk;obtain ⟨X,Y,hr,hX',hY',hX,hY⟩:=two hxy;have h1:=(hx X hX).1;rw [<- hX'] at h1;have h2:=(hx Y hY).1;rw [<- hY'] at h2;injection h with h;subst h;rw [hr,h1.eq rfl,h2.eq rfl];refine ⟨J,w,.value (dec J (.int k (if b>a then b else a))),?_,.inr rfl,Moved.refl hs,trivial⟩
    exact yye0 (s:=Builtin.max_ c.argTypes ty #[.int k a,.int k b]) (by
     show (List.foldlM Builtin.max2 (.int k a) [.int k b] : Sem Value).run P w=_
     simp [Builtin.max2,dec])
   .cases h
  .cases h
 .cases h
theorem ynj1:∀ (l:List Nat),lastN l=l.getLast?
 | []=>rfl
 | [x]=>rfl
 | x::y::l=>by
  have ih:=ynj1 (y::l)
  show (match lastN (y::l) with
   | some z=>some z
   | none=>some x)=_
  rw [ih,List.getLast?_cons_cons];cases h:(y::l).getLast? with
  | none=>simp at h
  | some z=>rfl
theorem yga1:∀ (n:Nat) (es:List Ent),bornL n es=es.find? fun e=>e.born == n
 | _,[]=>rfl
 | n,e::es=>by
  show (bif Nat.beq e.born n then some e else bornL n es)=_;rw [yga1 n es,List.find?_cons];cases h:Nat.beq e.born n with
  | true=>rw [show (e.born == n)=true from by simpa using beqN h];rfl
  | false =>
   rw [show (e.born == n)=false from by
    cases hh:e.born == n with
    | false=>rfl
    | true=>rw [beq_iff_eq] at hh;subst hh;rw [show Nat.beq e.born e.born=true from Nat.beq_refl _] at h;cases h];rfl
theorem yoj0 {xs:List LV} {H:Heap} {r:OpR} (h:yvw0 xs H=some r):∃ i m st es n e,xs=[.ptr i 0]/\i<H.n/\H.get i=.miter m st/\m<H.n/\H.get m=.map es st.2.2/\(lastN st.2.1=some n/\bornL n es=some e)/\r=⟨.tup [e.key,e.val],H,.change⟩:=by
 unfold yvw0 at h;split at h
 .rename_i i;replace h:=yaa0 h;obtain ⟨hi,h⟩:=h;split at h
  .rename_i m st hg;replace h:=yaa0 h;obtain ⟨hm,h⟩:=h;split at h
   .rename_i es clock hgm;replace h:=yaa0 h;obtain ⟨hc,h⟩:=h;have hc:=beqN hc;subst hc;split at h
    .rename_i n hn;split at h
     .rename_i e he;injection h with h;exact ⟨i,m,st,es,n,e,rfl,bltN.1 hi,hg,bltN.1 hm,hgm,⟨hn,he⟩,h.symm⟩
     .cases h
    .cases h
   .cases h
  .cases h
 .cases h
theorem yoj1 {J:Nat->RB} (n:Nat):∀ es:List Ent,(es.map (ytd0 J)).find? (fun e=>e.born == n)=(es.find? fun e=>e.born == n).map (ytd0 J)
 | []=>rfl
 | e::es=>by
  rw [List.map_cons,List.find?_cons,List.find?_cons,yoj1 n es];show (match e.born == n with | true=>some (ytd0 J e) | false=>_)=_;cases e.born == n <;> rfl
theorem yvu1 (hs:Sat J H w) (o:Oper) {ev:Operand->LV} {rv:Operand->Value} (hx:∀ x∈opds o.op,Is J (ev x) (rv x)/\lt H.n (ev x)) {r:OpR} (h:lop P o.op ((opds o.op).map ev) H=some r) :
  yde2 P J H w (execOp rv o) r:=by
 obtain ⟨dst,op,ty,pos,after,guard⟩:=o;simp only at hx h;unfold lop at h;cases op with
 | move x =>
  simp only [opds,List.map_cons,List.map_nil,List.mem_singleton,forall_eq] at hx h;injection h with h;subst h;exact ⟨J,w,.value (rv x),rfl,hx.1,Moved.refl hs,hx.2⟩
 | assign x =>
  simp only [opds,List.map_cons,List.map_nil,List.mem_singleton,forall_eq] at hx h;injection h with h;subst h;exact ⟨J,w,.value (rv x),rfl,hx.1,Moved.refl hs,hx.2⟩
 | pick c a b =>
  simp only [opds,List.map_cons,List.map_nil,List.mem_cons,List.not_mem_nil,or_false,forall_eq_or_imp,forall_eq] at hx h;unfold yjf1 at h;split at h
  .rename_i t x y heq;injection heq with h1 h2;injection h2 with h2 h3;injection h3 with h3;subst h2;subst h3;injection h with h;subst h;have hc:=hx.1.1;rw [h1] at hc;have:=hc.eq rfl;refine ⟨J,w,.value (if t then rv a else rv b),?_,?_,Moved.refl hs,?_⟩
   .simp only [execOp,this,dec,asBool];rfl
   .cases t
    .exact hx.2.2.1
    .exact hx.2.1.1
   .cases t
    .exact hx.2.2.2
    .exact hx.2.1.2
  .cases h
 | alloc t =>
  simp only [opds,List.map_nil] at h;unfold opAlloc at h;simp only at h;split at h
  .rename_i z hz;obtain ⟨v,H',hb,rfl⟩:=ycc0 h;obtain ⟨hrz,_,hlz⟩:=ymd0 hz J w;obtain ⟨J',w',hr,hm,hl⟩:=ysm2 (P:=P) hs hb (hlz _);refine ⟨J',w',_,yye0 (s:=Instr.alloc t true (.tuple #[])) ?_,.inr rfl,hm,hl⟩;unfold Instr.alloc;simp only [Sem.run_bind,hrz,Result.andThen_ok];simpa using hr
  .cases h
 | box t x =>
  simp only [opds,List.map_cons,List.map_nil,List.mem_singleton,forall_eq] at hx h;obtain ⟨v,H',hb,rfl⟩:=ycc0 h;have hj:yta0 (ev x)=false:=by unfold boxL at hb;exact (yna0 hb).1
  obtain ⟨J',w',hr,hm,hl⟩:=ysm2 (P:=P) hs hb hx.2;refine ⟨J',w',_,yye0 (s:=Instr.box t (rv x)) ?_,.inr rfl,hm,hl⟩;rw [hx.1.eq hj];exact hr
 | build t ps =>
  simp only [opds] at hx h;obtain ⟨v,hv,rfl⟩:=ysc0 h;rw [yws0] at hv;obtain ⟨hr,hl⟩:=yee2 (w:=w) (J:=J) (n:=H.n) (rv:=rv) hx hv;exact ywb0 hs hr hl
 | buildSlice t n ps =>
  simp only [opds] at hx h;obtain ⟨v,H',hv,rfl⟩:=ycc0 h;rw [yws0] at hv;obtain ⟨J',w',hr,hm,hl⟩:=yix0 hs (rv:=rv) hx hv;exact ⟨J',w',_,yye0 hr,.inr rfl,hm,hl⟩
 | load t x =>
  simp only [opds,List.map_cons,List.map_nil,List.mem_singleton,forall_eq] at hx h;obtain ⟨v,k,hv,rfl⟩:=yuh0 h;have hj:=yuc1 hv;obtain ⟨hr,hl⟩:=yjb2 (P:=P) hs hv hx.2;refine ywb0 (s:=Instr.loadAt t (rv x)) hs ?_ hl;rw [hx.1.eq hj];exact hr
 | store t a v =>
  simp only [opds,List.map_cons,List.map_nil,List.mem_cons,List.not_mem_nil,or_false,forall_eq_or_imp,forall_eq] at hx h;unfold opStore at h;simp only at h;split at h
  .rename_i H' hst;injection h with h;subst h;obtain ⟨hja,hjv⟩:=yhj1 hst;obtain ⟨w',hr,hm⟩:=yne2 (P:=P) hs hst hx.1.2 hx.2.2;refine ⟨J,w',.skip,yvz0 (s:=Instr.storeAt t (rv a) (rv v)) ?_,rfl,hm,trivial⟩;rw [hx.1.1.eq hja,hx.2.1.eq hjv];exact hr
  .cases h
 | nilCheck x =>
  simp only [opds,List.map_cons,List.map_nil,List.mem_singleton,forall_eq] at hx h;unfold yqe0 at h;split at h
  .rename_i i o heq;injection heq with heq _;injection h with h;subst h;rw [heq] at hx;have:=hx.1.eq rfl;refine ⟨J,w,.value (rv x),?_,.inr this,Moved.refl hs,hx.2⟩;simp only [execOp,this,dec];rfl
  .rename_i g a b heq;injection heq with heq _;injection h with h;subst h;rw [heq] at hx;have:=hx.1.eq rfl;refine ⟨J,w,.value (rv x),?_,.inr this,Moved.refl hs,hx.2⟩;simp only [execOp,this,dec];rfl
  .rename_i g a b heq;injection heq with heq _;injection h with h;subst h;rw [heq] at hx;have:=hx.1.eq rfl;refine ⟨J,w,.value (rv x),?_,.inr this,Moved.refl hs,hx.2⟩;simp only [execOp,this,dec];rfl
  .cases h
 | binOp op t a b yt =>
  simp only [opds,List.map_cons,List.map_nil,List.mem_cons,List.not_mem_nil,or_false,forall_eq_or_imp,forall_eq] at hx h;obtain ⟨v,hv,rfl⟩:=ysc0 h;obtain ⟨hr,hl⟩:=yju2 (P:=P) (H:=H) (w:=w) (X:=a) (Y:=b) hx.1.1 hx.2.1 hv;exact ywb0 hs hr hl
 | unOp op t x =>
  simp only [opds,List.map_cons,List.map_nil,List.mem_singleton,forall_eq] at hx h;obtain ⟨v,hv,rfl⟩:=ysc0 h;obtain ⟨hr,hl⟩:=un_ok (P:=P) (J:=J) (H:=H) (w:=w) hv;refine ywb0 (s:=Op.unary op (rv x)) hs ?_ hl;rw [hx.1.eq (ywm2 hv)];exact hr
 | convert s d x =>
  simp only [opds,List.map_cons,List.map_nil,List.mem_singleton,forall_eq] at hx h;unfold opConvert at h;simp only at h;split at h
  .rename_i v H' hc;injection h with h;subst h;have hj:=ysu1 hc;obtain ⟨J',w',hr,hm,hl⟩:=yym2 (P:=P) hs hc hx.2;refine ⟨J',w',_,yye0 (s:=convert s d (rv x)) ?_,.inr rfl,hm,hl⟩;rw [hx.1.eq hj];exact hr
  .cases h
 | makeInterface t x =>
  simp only [opds,List.map_cons,List.map_nil,List.mem_singleton,forall_eq] at hx h;unfold opMakeInterface at h;simp only at h;replace h:=yis0 h;obtain ⟨hj,h⟩:=h;split at h
  .cases h
  .rename_i d hni hu;injection h with h;subst h;refine ywb0 (s:=Instr.makeInterface t (rv x)) hs ?_ hx.2;unfold Instr.makeInterface;simp only [Sem.run_bind,run_underlying hu,Result.andThen_ok];rw [hx.1.eq hj]
   cases d <;> first
    | exact absurd rfl (hni _)
    | rfl
  .cases h
 | makeFunc f first captured =>
  simp only [opds] at hx h;split at h
  .rename_i g;unfold yfg0 at h;replace h:=ybx0 h;obtain ⟨hn,h⟩:=h;injection h with h;subst h;have hr:=reals (J:=J) (H:=H) hx hn;have hl:=ynb2 (fun x hxx=>(hx x hxx).2);rw [ygb0] at hl;refine ywb0 (s:=Instr.makeFunc (.func g) (first.map rv) (captured.map rv)) hs ?_ ?_
   .unfold Instr.makeFunc;simp only [Sem.run_pure,dec,decFn,yue0,yve0]
    have h1:decs J (((first.toList++captured.toList).map ev).take first.size)=first.toList.map rv:=by
     rw [yvb0,List.map_take,<- yvb0,<- hr];simp
    have h2:decs J (((first.toList++captured.toList).map ev).drop first.size)=captured.toList.map rv:=by
     rw [yvb0,List.map_drop,<- yvb0,<- hr];simp
    rw [h1,h2]
    congr 2 <;> (apply Array.ext';simp)
   .simp only [lt,yue0,yve0];refine ⟨trivial,?_,?_⟩
    .rw [ygb0];intro v hv;exact hl v (List.mem_of_mem_take hv)
    .rw [ygb0];intro v hv;exact hl v (List.mem_of_mem_drop hv)
  .cases h
 | makeMap t rr =>
  cases rr with
  | some x=>cases h
  | none =>
   simp only [opds,Option.toList,List.map_nil] at h;injection h with h;subst h;refine ⟨upRho J H.n ⟨w.heap.size,0,0,default,0⟩,{ w with heap:=w.heap.push (.map #[] 0) },_,yye0 (s:=Instr.makeMap t (Option.map rv none)) (v:=.map (some w.heap.size)) ?_,.inr ?_,Moved.push hs (.map [] 0) (.map #[] 0) _ rfl rfl rfl rfl rfl ?_ ?_,?_⟩
   .rfl
   .simp [dec,yoa0]
   .intro e he;cases he
   .simp [SatObj]
   .simp only [lt,Heap.n_push];omega
 | makeSlice t l c =>
  simp only [opds,List.map_cons,List.map_nil,List.mem_cons,List.not_mem_nil,or_false,forall_eq_or_imp,forall_eq] at hx h;obtain ⟨v,H',hv,rfl⟩:=ycc0 h;obtain ⟨J',w',hr,hm,hl⟩:=yxz0 (P:=P) hs hv;obtain ⟨hjl,hjc⟩:=yct0 hv;refine ⟨J',w',_,yye0 (s:=Instr.makeSlice t (rv l) (rv c)) ?_,.inr rfl,hm,hl⟩;rw [hx.1.1.eq hjl,hx.2.1.eq hjc];exact hr
 | slice t x lo hi mx =>
  simp only [opds,List.map_cons,List.mem_cons,forall_eq_or_imp] at hx h;unfold opSlice at h;simp only at h;split at h
  .rename_i l hh m h3;split at h
   .rename_i v H' hv;injection h with h;subst h;obtain ⟨a,b,c,d⟩:=yqe2 (J:=J) (rv:=rv) (fun x hxx=>(hx.2 x hxx).1) h3;obtain ⟨J',hr,hm,hl⟩:=yke2 (P:=P) hs a b c d hv hx.1.2;have hj:=yij1 hv;refine ⟨J',w,_,yye0 (s:=Instr.sliceAt t (rv x) (lo.map rv) (hi.map rv) (mx.map rv)) ?_,.inr rfl,hm,hl⟩;rw [hx.1.1.eq hj];exact hr
   .cases h
  .cases h
 | fieldAddr s x f =>
  simp only [opds,List.map_cons,List.map_nil,List.mem_singleton,forall_eq] at hx h;obtain ⟨v,hv,rfl⟩:=ysc0 h;obtain ⟨hr,hl⟩:=yyz0 (P:=P) (J:=J) (w:=w) hv hx.2;have hj:=ydt0 hv;refine ywb0 (s:=Instr.fieldAt s (rv x) f) hs ?_ hl;rw [hx.1.eq hj];exact hr
 | field s x f =>
  simp only [opds,List.map_cons,List.map_nil,List.mem_singleton,forall_eq] at hx h;obtain ⟨v,hv,rfl⟩:=ysc0 h;obtain ⟨hr,hl⟩:=yfe2 (P:=P) (J:=J) (w:=w) hv hx.2;have hj:=yjj1 hv;refine ywb0 (s:=Instr.field s (rv x) f) hs ?_ hl;rw [hx.1.eq hj];exact hr
 | indexAddr t x i =>
  simp only [opds,List.map_cons,List.map_nil,List.mem_cons,List.not_mem_nil,or_false,forall_eq_or_imp,forall_eq] at hx h;obtain ⟨v,hv,rfl⟩:=ysc0 h;obtain ⟨hr,hl⟩:=yzz0 (P:=P) (J:=J) (w:=w) hv hx.1.2;obtain ⟨hj1,hj2⟩:=yet0 hv;refine ywb0 (s:=Instr.indexAt t (rv x) (rv i)) hs ?_ hl;rw [hx.1.1.eq hj1,hx.2.1.eq hj2];exact hr
 | index t x i =>
  simp only [opds,List.map_cons,List.map_nil,List.mem_cons,List.not_mem_nil,or_false,forall_eq_or_imp,forall_eq] at hx h;obtain ⟨v,hv,rfl⟩:=ysc0 h;obtain ⟨hr,hl⟩:=yge2 (P:=P) (J:=J) (w:=w) hv hx.1.2;obtain ⟨hj1,hj2⟩:=ykj1 hv;refine ywb0 (s:=Instr.index t (rv x) (rv i)) hs ?_ hl;rw [hx.1.1.eq hj1,hx.2.1.eq hj2];exact hr
 | lookup t m k ok =>
  simp only [opds,List.map_cons,List.map_nil,List.mem_cons,List.not_mem_nil,or_false,forall_eq_or_imp,forall_eq] at hx h;obtain ⟨v,kd,hv,rfl⟩:=yuh0 h;obtain ⟨hr,hl⟩:=yqu1 (P:=P) hs hv hx.1.2;obtain ⟨hj1,hj2⟩:=yvf1 hv;refine ywb0 (s:=Instr.lookup t (rv m) (rv k) ok) hs ?_ hl;rw [hx.1.1.eq hj1,hx.2.1.eq hj2];exact hr
 | mapUpdate t m k v =>
  simp only [opds,List.map_cons,List.map_nil,List.mem_cons,List.not_mem_nil,or_false,forall_eq_or_imp,forall_eq] at hx h;unfold opUpdate at h;simp only at h;split at h
  .rename_i H' hu;injection h with h;subst h;obtain ⟨hjm,hjk,hjv⟩:=ycr0 hu;obtain ⟨w',hr,hm⟩:=ytc1 (P:=P) hs hu hx.1.2 hx.2.1.2 hx.2.2.2;refine ⟨J,w',.skip,yvz0 (s:=Instr.mapUpdate t (rv m) (rv k) (rv v)) ?_,rfl,hm,trivial⟩;rw [hx.1.1.eq hjm,hx.2.1.1.eq hjk,hx.2.2.1.eq hjv];exact hr
  .cases h
 | insert t m k v =>
  simp only [opds,List.map_cons,List.map_nil,List.mem_cons,List.not_mem_nil,or_false,forall_eq_or_imp,forall_eq] at hx h;unfold opUpdate at h;simp only at h;split at h
  .rename_i H' hu;injection h with h;subst h;obtain ⟨hjm,hjk,hjv⟩:=ycr0 hu;obtain ⟨w',hr,hm⟩:=ytc1 (P:=P) hs hu hx.1.2 hx.2.1.2 hx.2.2.2;refine ⟨J,w',.skip,yvz0 (s:=Instr.mapUpdate t (rv m) (rv k) (rv v)) ?_,rfl,hm,trivial⟩;rw [hx.1.1.eq hjm,hx.2.1.1.eq hjk,hx.2.2.1.eq hjv];exact hr
  .cases h
 | sliceToArrayPointer t x =>
  simp only [opds,List.map_cons,List.map_nil,List.mem_singleton,forall_eq] at hx h;obtain ⟨v,hv,rfl⟩:=ysc0 h;obtain ⟨hj,hr,hl⟩:=yuu1 (P:=P) (J:=J) (w:=w) hv hx.2;refine ywb0 (s:=Instr.arrayAt t (rv x)) hs ?_ hl;rw [hx.1.eq hj];exact hr
 | extract x i =>
  simp only [opds,List.map_cons,List.map_nil,List.mem_singleton,forall_eq] at hx h;unfold yqi0 at h;split at h
  .rename_i vs heq;injection heq with heq _;obtain ⟨v,hv,rfl⟩:=ysc0 h;rw [yau1] at hv;rw [heq] at hx;have:=hx.1.eq rfl;refine ywb0 (s:=Instr.extract (rv x) i) hs ?_ ?_
   .rw [this];simp only [dec,Instr.extract,List.getElem?_toArray,yvb0,List.getElem?_map,hv];rfl
   .have hl:=hx.2;simp only [lt] at hl;rw [ygb0] at hl;exact hl v (List.mem_of_getElem? hv)
  .cases h
 | range t x =>
  simp only [opds,List.map_cons,List.map_nil,List.mem_singleton,forall_eq] at hx h;unfold opRange at h;split at h
  .rename_i H0 _ _ i heq;injection heq with heq _;split at h
   .rename_i kt et hu;split at h
    .rename_i es clock hg;replace h:=yaa0 h;obtain ⟨hi,h⟩:=h;injection h with h;subst h;have hi:=bltN.1 hi;rw [heq] at hx;have hv:=hx.1.eq rfl;have ho:=hs.obj i hi;rw [hg] at ho;have hr:=run_range_map (P:=P) w t kt et (J i).blk (es.map (ytd0 J)).toArray clock hu ho;refine ⟨upRho J H0.n ⟨w.heap.size,0,0,default,0⟩,_,_,yye0 (s:=Instr.range t (rv x)) (by rw [hv];exact hr),.inr (by simp [dec,yoa0]),?_,by simp only [lt,Heap.n_push];omega⟩;refine Moved.push hs _ (.mapIter (some (J i).blk) clock #[] clock) _ rfl rfl rfl rfl rfl (by simp only [ltObj];omega) ?_;refine ⟨rfl,?_⟩;show (w.heap.push _)[_]?=_;rw [yka0 J H0.n _ i hi];simp
    .cases h
   .cases h
  .cases h
 | entry x =>
  simp only [opds,List.map_cons,List.map_nil,List.mem_singleton,forall_eq] at hx h;obtain ⟨i,m,st,es,n,e,hxs,hi,hg,hm,hgm,⟨hn,he⟩,rfl⟩:=yoj0 h;injection hxs with hxs _;rw [hxs] at hx;have hv:=hx.1.eq rfl;have ho:=hs.obj i hi;rw [hg] at ho;have hom:=hs.obj m hm;rw [hgm] at hom;have hwf:=hs.wf m hm;rw [hgm] at hwf;have hmem:e∈es:=by rw [yga1] at he;exact List.mem_of_find?_eq_some he
  refine ⟨J,w,_,yye0 (s:=Instr.entry (rv x)) ?_,.inr rfl,Moved.refl hs,?_⟩
  .rw [hv];simp only [dec,Nat.add_zero,ho.1];have hho:w.heap[(J i).blk]?=some (.mapIter (some (J m).blk) st.1 st.2.1.toArray st.2.2):=ho.2;have hhm:w.heap[(J m).blk]?=some (.map (es.map (ytd0 J)).toArray st.2.2):=hom;rw [ynj1] at hn;rw [yga1] at he
   have hf:((es.map (ytd0 J)).toArray).find? (fun e=>e.born == n)=some (ytd0 J e):=by
    rw [List.find?_toArray,yoj1,he];rfl
   simp only [Instr.entry,Sem.run_bind,yre0 hho (by simp),yre0 hhm (by simp),Result.andThen_ok];have hb:st.2.1.toArray.back?=some n:=by rw [<- hn];simp
   simp only [hb,bne_self_eq_false,Bool.false_eq_true,if_false,Sem.run_bind,yre0 hhm (by simp),Result.andThen_ok,hf];rfl
  .simp only [lt,lts];exact ⟨(hwf e hmem).1,(hwf e hmem).2,trivial⟩
 | call c =>
  cases hb:c.callee with
  | builtin b=>simp only [hb] at h;exact ysx0 hs ty pos after guard dst hb hx h
  | value f=>simp only [hb] at h;cases h
  | invoke a b=>simp only [hb] at h;cases h
 | _=>cases h
end Go.Proofs.YtnpbgnjiihecgaaGreat.Ev
namespace Go.Proofs.YtnpbgnjiihecgaaGreat.Ev
open Go
variable {P:Program} {b:Frame} {tmps:Array Value} {ds:List Deferred} {k:List Item} {cs:List Frame} {w:World}
def rev (tmps:Array Value):Operand->Value
 | .tmp t=>tmps.getD t undef
 | .const v=>v
 | .global g=>.pointer (some ⟨g,0,none⟩)
 | .func f=>.func (.func f) #[] #[]
theorem yxl0 (b:Frame) (tmps:Array Value) (ds:List Deferred) (todo:List Item):(yga0 b tmps ds todo).eval=rev tmps:=by
 funext x;cases x <;> rfl
theorem ycn2:step P (lone (yga0 b tmps ds (.code .skip::k)) cs w)=.next (lone (yga0 b tmps ds k) cs w) :=
 step_lone_go (by simp [stepG,stepG.exec,yga0])
theorem yre2 {l:Nat} : step P (lone (yga0 b tmps ds (.code (.label l)::k)) cs w)=.next (lone (yga0 b tmps ds k) cs w) :=
 step_lone_go (by simp [stepG,stepG.exec,yga0])
theorem ypj1 {id:Nat} : step P (lone (yga0 b tmps ds (.inBlock id::k)) cs w)=.next (lone (yga0 b tmps ds k) cs w) :=
 step_lone_go (by simp [stepG,stepG.exec,yga0])
theorem yqj1 {c:Code} : step P (lone (yga0 b tmps ds (.inScope c::k)) cs w)=.next (lone (yga0 b tmps ds k) cs w) :=
 step_lone_go (by simp [stepG,stepG.exec,yga0])
theorem ydn2 {x y:Code} : step P (lone (yga0 b tmps ds (.code (.seq x y)::k)) cs w)=.next (lone (yga0 b tmps ds (.code x::.code y::k)) cs w) :=
 step_lone_go (by simp [stepG,stepG.exec,yga0])
theorem yob2 {c:Operand} {x y:Code} {t:Bool} (h:rev tmps c=.bool t) :
  step P (lone (yga0 b tmps ds (.code (.cond c x y)::k)) cs w)=.next (lone (yga0 b tmps ds (.code (if t then x else y)::k)) cs w) :=
 step_lone_go (by
  have:=congrFun (yxl0 b tmps ds (.code (.cond c x y)::k)) c;simp only [yga0] at this
  simp [stepG,stepG.exec,yga0,this,h])
theorem yft0 {id:Nat} {c:Code} : step P (lone (yga0 b tmps ds (.code (.block id c)::k)) cs w)=.next (lone (yga0 b tmps ds (.code c::.inBlock id::k)) cs w) :=
 step_lone_go (by simp [stepG,stepG.exec,yga0])
theorem yrj1 {c:Code} : step P (lone (yga0 b tmps ds (.code (.scope c)::k)) cs w)=.next (lone (yga0 b tmps ds (.code c::.inScope c::k)) cs w) :=
 step_lone_go (by simp [stepG,stepG.exec,yga0])
theorem ysj1 {c:Code} : step P (lone (yga0 b tmps ds (.code (.loop c)::k)) cs w)=.next (lone (yga0 b tmps ds (.code c::.inLoop c::k)) cs w) :=
 step_lone_go (by simp [stepG,stepG.exec,yga0])
theorem ygt0 {c:Code} : step P (lone (yga0 b tmps ds (.inLoop c::k)) cs w)=.next (lone (yga0 b tmps ds (.code c::.inLoop c::k)) cs w) :=
 step_lone_go (by simp [stepG,stepG.exec,yga0])
theorem ypb2 {id:Nat} {k' : List Item} (h:exitTo id k=some k'):step P (lone (yga0 b tmps ds (.code (.exit id)::k)) cs w)=.next (lone (yga0 b tmps ds k') cs w) :=
 step_lone_go (by simp [stepG,stepG.exec,yga0,h])
theorem ywu1 {id:Nat} {ops:Array Oper} : step P (lone (yga0 b tmps ds (.code (.region id ops false)::k)) cs w)=.next (lone (yga0 b tmps ds (.inRegion ops (List.range ops.size)::k)) cs w) :=
 step_lone_go (by simp [stepG,stepG.exec,yga0])
theorem yen2 {id:Nat} {ops:Array Oper} (hm:P.follows .mixedOrders=true):step P (lone (yga0 b tmps ds (.code (.region id ops true)::k)) cs w) =
  .next (lone (yga0 b tmps ds (.inRegion ops (Region.linearise .any ops (w.tape w.drawn (.order b.fn id)))::k)) cs { w with drawn:=w.drawn+1 }) :=
 step_lone_go (by simp [stepG,stepG.exec,yga0,choose,Sem.run,Question.forced,Question.cut,Region.schedule,hm])
theorem yro0 {ops:Array Oper} : step P (lone (yga0 b tmps ds (.inRegion ops []::k)) cs w)=.next (lone (yga0 b tmps ds k) cs w) :=
 step_lone_go (by simp [stepG,stepG.exec,yga0])
def putT (tmps:Array Value) (d:Option Tmp) (v:Value):Array Value :=
 match d with
 | some i=>tmps.setIfInBounds i v
 | none=>tmps
theorem finish_at {ops:Array Oper} {i:Nat} {rest:List Nat} {o:Oper} (ho:ops[i]?=some o) (v:Value) :
  (yga0 b tmps ds (.inRegion ops (i::rest)::k)).finish v=yga0 b (putT tmps o.dst v) ds (.inRegion ops rest::k):=by
 cases hd:o.dst <;> simp [Frame.finish,yga0,ho,putT,hd]
theorem yvc1 {ops:Array Oper} {i:Nat} {rest:List Nat} {o:Oper} (ho:ops[i]?=some o) (hw:Region.wanted o (yielded ops tmps)=false) :
  step P (lone (yga0 b tmps ds (.inRegion ops (i::rest)::k)) cs w)=.next (lone (yga0 b (putT tmps o.dst undef) ds (.inRegion ops rest::k)) cs w):=by
 rw [<- finish_at ho];exact step_lone_go (by simp [stepG,stepG.exec,yga0,ho,hw])
theorem yha1 {ops:Array Oper} {i:Nat} {rest:List Nat} {o:Oper} (ho:ops[i]?=some o) (hw:Region.wanted o (yielded ops tmps)=true) (hnd:∀ c,o.op≠.defer c) :
  stepG P true { frame:=yga0 b tmps ds (.inRegion ops (i::rest)::k),callers:=cs,status:=.running,dying:=none } w =
   stepG.apply P true (yga0 b tmps ds (.inRegion ops (i::rest)::k)) cs none (execOp (rev tmps) o) w:=by
 have he:=yxl0 b tmps ds (.inRegion ops (i::rest)::k);simp only [yga0] at he;simp only [stepG,yga0,stepG.exec,ho,Option.map_some,hw,Option.getD_some,if_true,stepG.oper,Frame.oper?,he];split
 .rename_i l c h1 h2;exact absurd h2 (hnd c)
 .rfl
theorem ytj1 {ops:Array Oper} {i:Nat} {rest:List Nat} {o:Oper} {v:Value} {w' : World} (ho:ops[i]?=some o) (hw:Region.wanted o (yielded ops tmps)=true) (hnd:∀ c,o.op≠.defer c)
  (hr:(execOp (rev tmps) o).run P w=.ok (.value v) w') :
  step P (lone (yga0 b tmps ds (.inRegion ops (i::rest)::k)) cs w)=.next (lone (yga0 b (putT tmps o.dst v) ds (.inRegion ops rest::k)) cs w'):=by
 rw [<- finish_at ho];refine step_lone_go ?_;rw [yha1 ho hw hnd];simp [stepG.apply,Sem.runT_eq,hr]
theorem yxu1 {ops:Array Oper} {i:Nat} {rest:List Nat} {o:Oper} {w' : World} (ho:ops[i]?=some o) (hw:Region.wanted o (yielded ops tmps)=true) (hnd:∀ c,o.op≠.defer c)
  (hr:(execOp (rev tmps) o).run P w=.ok .skip w') :
  step P (lone (yga0 b tmps ds (.inRegion ops (i::rest)::k)) cs w)=.next (lone (yga0 b (putT tmps o.dst undef) ds (.inRegion ops rest::k)) cs w'):=by
 rw [<- finish_at ho];refine step_lone_go ?_;rw [yha1 ho hw hnd];simp [stepG.apply,Sem.runT_eq,hr]
def ydj0 (P:Program):Next->Option Frame
 | .enter f args=>some (Frame.enter P f args .normal)
 | .round l f tmps as body=>some (Frame.round l f tmps as body .normal)
 | _=>none
theorem ywc1 {ops:Array Oper} {i:Nat} {rest:List Nat} {o:Oper} {nx:Next} {fr0:Frame} {w' : World} (ho:ops[i]?=some o) (hw:Region.wanted o (yielded ops tmps)=true) (hnd:∀ c,o.op≠.defer c)
  (hr:(execOp (rev tmps) o).run P w=.ok nx w') (hf:ydj0 P nx=some fr0) :
  step P (lone (yga0 b tmps ds (.inRegion ops (i::rest)::k)) cs w)=.next (lone fr0 (yga0 b tmps ds (.inRegion ops (i::rest)::k)::cs) w'):=by
 refine step_lone_go ?_;rw [yha1 ho hw hnd]
 cases nx <;> simp only [ydj0] at hf <;> first
  | (cases hf;done)
  | (injection hf with hf;subst hf;simp [stepG.apply,Sem.runT_eq,hr,yga0])
theorem yia1 {k:List Item} (hb:b.roundOf=none):step P (lone (yga0 b tmps ds (.code .ret::k)) cs w)=.next (lone { yga0 b tmps ds (.code .ret::k) with mode:=.returning } cs w) :=
 step_lone_go (by simp [stepG,stepG.exec,yga0,hb])
theorem yja1 (hb:b.roundOf=none):step P (lone (yga0 b tmps ds []) cs w)=.next (lone { yga0 b tmps ds [] with mode:=.returning } cs w) :=
 step_lone_go (by simp [stepG,stepG.exec,yga0,hb])
end Go.Proofs.YtnpbgnjiihecgaaGreat.Ev
namespace Go.Proofs.YtnpbgnjiihecgaaGreat.Ev
open Go
variable {P:Program}
theorem yxc1 {Z:Type} {o:Option Fr} {k:Fr->R Z} {a:Z} {s:S} (h:putK o k=.ok a s):∃ f,o=some f/\k f=.ok a s:=by
 cases o with
 | none=>cases h
 | some f=>exact ⟨f,rfl,h⟩
theorem yag0 {Z β:Type} {r:R Z} {f:Z->S->R β} {b:β} {s:S} (h:r.bnd f=.ok b s):∃ a s1,r=.ok a s1/\f a s1=.ok b s:=by
 cases r with
 | ok a s1=>exact ⟨a,s1,rfl,h⟩
 | bad w=>cases h
 | pause s=>cases h
theorem bcR {Z:Type} {c:Bool} {x y:R Z} {a:Z} {s:S} (h:bc c x y=.ok a s):(c=true/\x=.ok a s)\/(c=false/\y=.ok a s):=by
 cases c
 .exact .inr ⟨rfl,h⟩
 .exact .inl ⟨rfl,h⟩
structure Good (P:Program):Prop where
 mixed:P.follows .mixedOrders=true
 names : ∀ (g : Nat) (fu : Func), P.funcs[g]? = some fu -> fu.body.isSome = true -> (fu.name == "runtime.NumGoroutine") = false
def yxh0 (J:Nat->RB) (c:Frame):LEnd->Frame
 | .ret v=>c.finish (dec J v)
 | .pan v=>c.raise [{ v:=dec J v,recovered:=false }]
def ylc0 (P:Program) (call:CallF):Prop :=
 ∀ fn xs H s e H' s',call fn xs H s=.ok (e,H') s'->s'.ob->s.ob/\H.Le H' /\
  ∀ J w (c:Frame) (cs:List Frame),Sat J H w->lts H.n xs->ltFn H.n fn ->
   ∃ nx fr0 J' w',(invoke (.fn (decFn J fn) #[]) (decs J xs).toArray).run P w=.ok nx w/\ydj0 P nx=some fr0/\Moved J H w J' H' w'/\ltEnd H'.n e /\
    Steps P (lone fr0 (c::cs) w) (lone (yxh0 J' c e) cs w')
theorem yyh0 {b d:Bool} {s s' : S} (h:yym0 b s=.ok d s') (hob:s'.ob):b=d/\s.ob:=by
 unfold yym0 at h;split at h
 .cases b
  .simp only [bc_false] at h;injection h with h1 h2;subst h2;exact ⟨h1,hob⟩
  .simp only [bc_true] at h;injection h with h1 h2;subst h2;exact ⟨h1,hob⟩
 .injection h with h1 h2;subst h2;subst h1;exact hob
 .cases h
 .cases h
theorem ydr0 {n:Nat} {J J' : Nat->RB} (h:Ext n J J'):∀ (l:List Nat),(∀ d,d∈l->d<n)->marksOf J' l=marksOf J l
 | [],_=>rfl
 | d::l,hl=>by simp only [marksOf];rw [h d (hl d (by simp)),ydr0 h l (fun x hx=>hl x (by simp [hx]))]
theorem FRel.ext {n n' : Nat} {J J' : Nat->RB} {f:Fr} {b:Frame} {tmps:Array Value} {ds:List Deferred} (hf:FRel J n f b tmps ds) (h:Ext n J J') (hn:n<=n'):FRel J' n' f b tmps ds where
 wf:=yls0 hn hf.wf
 marks:=fun d hd=>Nat.lt_of_lt_of_le (hf.marks d hd) hn
 inRound:=fun l hl=>Nat.lt_of_lt_of_le (hf.inRound l hl) hn
 fn:=hf.fn
 size:=hf.size
 t:=hf.t.ext h hf.wf
 ds:=hf.ds.trans (ydr0 h _ hf.marks).symm
 round:=by
  rw [hf.round];cases hr:f.round with
  | none=>rfl
  | some l=>simp only [Option.map_some,h l (hf.inRound l hr)]
theorem Fr.get_set (f:Fr) (i j:Nat) (v:LV):(f.set i v).get j=if i=j then v else f.get j:=Tr.get_set LV.junk v f.t i j
theorem FRel.put {n:Nat} {J:Nat->RB} {f f' : Fr} {b:Frame} {tmps:Array Value} {ds:List Deferred} {d:Option Tmp} {v:LV} {v' : Value} (hf:FRel J n f b tmps ds) (h:f.put d v=some f')
  (hv:v=.junk\/v'=dec J v) (hl:lt n v):FRel J n f' b (putT tmps d v') ds:=by
 unfold Fr.put at h;cases d with
 | none=>injection h with h;subst h;exact hf
 | some i =>
  simp only at h;replace h:=yaa0 h;obtain ⟨hi,h⟩:=h;have hi:=bltN.1 hi;injection h with h;subst h;refine ⟨?_,hf.marks,hf.inRound,hf.fn,?_,?_,hf.ds,hf.round⟩
  .intro j;rw [show (f.set i v).t.get .junk j=(f.set i v).get j from rfl,Fr.get_set];split
   .exact hl
   .exact hf.wf j
  .simp only [putT,Array.size_setIfInBounds];exact hf.size
  .intro j;rw [show (f.set i v).t.get .junk j=(f.set i v).get j from rfl,Fr.get_set];simp only [putT];by_cases hij:i=j
   .subst hij;simp only [if_true];rcases hv with hv | hv
    .exact .inl hv
    .right;have:i<tmps.size:=by rw [hf.size];exact hi
     rw [Array.getElem?_setIfInBounds_self_of_lt this,hv]
   .simp only [hij,if_false];rw [Array.getElem?_setIfInBounds_ne hij];exact hf.t j
theorem FRel.ev {n:Nat} {J:Nat->RB} {f:Fr} {b:Frame} {tmps:Array Value} {ds:List Deferred} (hf:FRel J n f b tmps ds) (x:Operand):Is J (f.ev x) (rev tmps x)/\lt n (f.ev x):=by
 cases x with
 | tmp t =>
  refine ⟨?_,hf.wf t⟩;rcases hf.t t with h | h
  .exact .inl h
  .right;show tmps.getD t undef=_;rw [Array.getD_eq_getD_getElem?,h];rfl
 | const v =>
  refine ⟨?_,ysi1 n v⟩;cases h:yta0 (ofVal v) with
  | true=>left;cases hv:ofVal v <;> rw [hv] at h <;> first | exact hv | cases h
  | false=>right;exact (ylc1 J v h).symm
 | global g=>exact ⟨.inl rfl,trivial⟩
 | func g=>exact ⟨.inr rfl,trivial,trivial,trivial⟩
theorem yht0:∀ (l:List Oper) (i:Nat),dstOf l i=(l[i]?).bind (·.dst)
 | [],_=>rfl
 | _::_,0=>rfl
 | _::l,i+1=>by show dstOf l i=_;rw [yht0 l i];simp
theorem yjf0 {ops:Array Oper} {o:Oper} {f f1:Fr} {s s1:S} {t:Bool} (h:wanted ops.toList o f s=.ok (t,f1) s1) (hob:s1.ob) :
  s.ob/\∀ {n:Nat} {J:Nat->RB} {b:Frame} {tmps:Array Value} {ds:List Deferred},FRel J n f b tmps ds->Region.wanted o (yielded ops tmps)=t/\FRel J n f1 b tmps ds:=by
 unfold wanted at h;cases hg:o.guard with
 | none =>
  simp only [hg] at h;injection h with h1 h2;injection h1 with h1 h3;subst h1;subst h2;subst h3;exact ⟨hob,fun hf=>⟨by simp [Region.wanted,hg],hf⟩⟩
 | some p =>
  obtain ⟨j,want⟩:=p;simp only [hg] at h;rw [yht0] at h;cases hd:(ops.toList[j]?).bind (·.dst) with
  | none=>rw [hd] at h;cases h
  | some d =>
   rw [hd] at h;simp only at h;have hd' : (ops[j]?).bind (·.dst)=some d:=by rw [<- hd];simp
   unfold wantB at h;split at h
   .rename_i bb hget;cases hdb:yym0 bb s with
    | bad w=>rw [hdb] at h;cases h
    | pause s=>rw [hdb] at h;cases h
    | ok c s2 =>
     rw [hdb] at h;simp only [R.bnd_ok] at h;injection h with h1 h2;injection h1 with h1 h3;subst h1;subst h2;subst h3;obtain ⟨hbc,hs⟩:=yyh0 hdb hob;subst hbc;refine ⟨hs,fun {n J b tmps ds} hf=>⟨?_,?_⟩⟩
     .have:=hf.t d;rw [show f.t.get .junk d=f.get d from rfl,hget] at this;rcases this with this | this
      .cases this
      .simp only [Region.wanted,hg,yielded,hd',Option.bind_some,this,dec];cases bb <;> cases want <;> rfl
     .refine ⟨?_,hf.marks,hf.inRound,hf.fn,hf.size,?_,hf.ds,hf.round⟩
      .intro i;rw [show (f.set d (.bool bb)).t.get .junk i=(f.set d (.bool bb)).get i from rfl,Fr.get_set];split
       .trivial
       .exact hf.wf i
      .intro i;rw [show (f.set d (.bool bb)).t.get .junk i=(f.set d (.bool bb)).get i from rfl,Fr.get_set];split
       .rename_i e;subst e;have:=hf.t d;rw [show f.t.get .junk d=f.get d from rfl,hget] at this;exact this
       .exact hf.t i
   .rename_i hget;injection h with h1 h2;injection h1 with h1 h3;subst h1;subst h2;subst h3;refine ⟨hob,fun {n J b tmps ds} hf=>⟨?_,hf⟩⟩;have:=hf.t d;rw [show f.t.get .junk d=f.get d from rfl,hget] at this;rcases this with this | this
    .cases this
    .simp only [Region.wanted,hg,yielded,hd',Option.bind_some,this,dec];rfl
   .cases h
theorem yfn2 {n:Nat} {J:Nat->RB} {f:Fr} {b:Frame} {tmps:Array Value} {ds:List Deferred} (hf:FRel J n f b tmps ds) (l:List Operand):∀ x∈l,Is J (f.ev x) (rev tmps x)/\lt n (f.ev x) :=
 fun x _=>hf.ev x
def yiq0 (P:Program) (o:Oper) (f:Fr) (H:Heap) (e:OpEnd) (H' : Heap):Prop :=
 ∀ (J:Nat->RB) (w:World) (b:Frame) (tmps:Array Value) (ds:List Deferred) (ops:Array Oper) (i:Nat) (rest:List Nat) (k:List Item) (cs:List Frame),Sat J H w->FRel J H.n f b tmps ds->ops[i]?=some o ->
  Region.wanted o (yielded ops tmps)=true->∃ J' w',Moved J H w J' H' w'/\match e with
   | .val v _=>lt H'.n v/\∃ v',(v=.junk\/v'=dec J' v)/\Steps P (lone (yga0 b tmps ds (.inRegion ops (i::rest)::k)) cs w) (lone (yga0 b (putT tmps o.dst v') ds (.inRegion ops rest::k)) cs w')
   | .pan v=>lt H'.n v/\Steps P (lone (yga0 b tmps ds (.inRegion ops (i::rest)::k)) cs w) (lone { yga0 b tmps ds (.inRegion ops (i::rest)::k) with mode:=.panicking [{ v:=dec J' v,recovered:=false }] } cs w')
theorem yyc1 {op:Op} {xs:List LV} {H:Heap} {r:OpR} (h:lop P op xs H=some r) (c:Call):op≠.defer c:=by
 intro e;subst e;cases h
theorem ykf0 {o:Oper} {f:Fr} {H:Heap} {r:OpR} (h:lop P o.op (f.evs (opds o.op)) H=some r):yiq0 P o f H (.val r.v r.k) r.H:=by
 intro J w b tmps ds ops i rest k cs hs hf ho hw;rw [yda1] at h;obtain ⟨J',w',nx,hr,hn,hm,hl⟩:=yvu1 hs o (yfn2 hf _) h;refine ⟨J',w',hm,hl,?_⟩
 cases nx <;> simp only [yrm2] at hn <;> first
  | exact hn.elim
  | exact ⟨_,hn,.one (ytj1 ho hw (yyc1 h) hr)⟩
  | exact ⟨undef,.inr (by rw [hn];rfl),.one (yxu1 ho hw (yyc1 h) hr)⟩
theorem ytx0 {xs:List LV} {fn:Fn} {args:List LV} (h:yte0 xs=some (fn,args)) :
  ∃ first captured rest,xs=.func fn first captured::rest/\yek0 rest=true/\((∃ g,fn=.func g/\args=first++(rest++captured))\/(∃ l,fn=.yield l/\captured=[]/\args=first++rest)):=by
 unfold yte0 at h;split at h
 .rename_i fn' first captured rest
  replace h:=ybx0 h;obtain ⟨hn,h⟩:=h;split at h
  .injection h with h;injection h with h1 h2;subst h1;subst h2;exact ⟨first,captured,rest,rfl,hn,.inl ⟨_,rfl,by rw [app_eq,app_eq]⟩⟩
  .split at h
   .injection h with h;injection h with h1 h2;subst h1;subst h2;exact ⟨first,[],rest,rfl,hn,.inr ⟨_,rfl,rfl,by rw [app_eq]⟩⟩
   .cases h
  .cases h
 .cases h
theorem yxf1 {op:Op} (h:ydd0 op=true):∃ c fv,op=.call c/\c.callee=.value fv:=by
 unfold ydd0 at h;split at h
 .rename_i c;split at h
  .rename_i fv hc;exact ⟨c,fv,rfl,hc⟩
  .cases h
 .cases h
theorem yuj1 {J:Nat->RB} {n:Nat} {f:Fr} {b:Frame} {tmps:Array Value} {ds:List Deferred} (hf:FRel J n f b tmps ds) {o:Oper} (hc:ydd0 o.op=true) {fn:Fn} {args:List LV}
  (h:yte0 (f.evs (opds o.op))=some (fn,args)) (w:World) :
  (execOp (rev tmps) o).run P w=(invoke (.fn (decFn J fn) #[]) (decs J args).toArray).run P w/\lts n args/\ltFn n fn/\∀ c,o.op≠.defer c:=by
 obtain ⟨c,fv,hop,hcv⟩:=yxf1 hc;obtain ⟨first,captured,rest,hxs,hn,hcase⟩:=ytx0 h;have hopds:opds o.op=fv::c.args.toList:=by rw [hop];simp [opds,hcv]
 rw [yda1,hopds,List.map_cons] at hxs;injection hxs with hx1 hx2;have hfv:=hf.ev fv;rw [hx1] at hfv;have hfv1:=hfv.1.eq rfl;have hl:=hfv.2;simp only [lt] at hl
 have hrest:c.args.toList.map (rev tmps)=decs J rest:=by
  have:=reals (H:=⟨n,.nil⟩) (yfn2 hf c.args.toList) (by rw [hx2];exact hn);rw [this,hx2]
 have hlr:lts n rest:=by rw [<- hx2];exact ynb2 fun x _=>(hf.ev x).2
 have hargs:c.args.map (rev tmps)=(decs J rest).toArray:=by rw [<- hrest];apply Array.ext';simp
 have hrun:execOp (rev tmps) o=invoke (.fn (decFn J fn) (decs J captured).toArray) ((decs J first).toArray++(decs J rest).toArray):=by
  simp only [execOp,hop,resolve,hcv,hfv1,dec,Deferred.ofValue,hargs,pure_bind]
 have hd:∀ c,o.op≠.defer c:=by intro c' e;rw [hop] at e;cases e
 rcases hcase with ⟨g,rfl,rfl⟩ | ⟨l,rfl,rfl,rfl⟩
 .refine ⟨?_,?_,trivial,hd⟩
  .rw [hrun];simp only [invoke,decFn]
   congr 2
   apply Array.ext';simp [yvb0]
  .rw [ygb0] at hlr ⊢;have h1:=(ygb0 _ _).1 hl.2.1;have h2:=(ygb0 _ _).1 hl.2.2;intro v hv;rcases List.mem_append.1 hv with hv | hv
   .exact h1 v hv
   .rcases List.mem_append.1 hv with hv | hv
    .exact hlr v hv
    .exact h2 v hv
 .refine ⟨?_,?_,hl.1,hd⟩
  .rw [hrun];simp only [invoke,decFn]
   congr 2
   apply Array.ext';simp [yvb0]
  .rw [ygb0] at hlr ⊢;have h1:=(ygb0 _ _).1 hl.2.1;intro v hv;rcases List.mem_append.1 hv with hv | hv
   .exact h1 v hv
   .exact hlr v hv
theorem yyf1 {call:CallF} (hcall:ylc0 P call) {o:Oper} {f:Fr} {H:Heap} (hc:ydd0 o.op=true) {fn:Fn} {args:List LV} (h:yte0 (f.evs (opds o.op))=some (fn,args))
  {s s' : S} {e:LEnd} {H' : Heap} (hr:call fn args H s=.ok (e,H') s') (hob:s'.ob):s.ob/\H.Le H'/\yiq0 P o f H (endOf e) H':=by
 obtain ⟨h1,h2,h3⟩:=hcall _ _ _ _ _ _ _ hr hob;refine ⟨h1,h2,?_⟩;intro J w b tmps ds ops i rest k cs hs hf ho hw;obtain ⟨hrun,hl,hlf,hd⟩:=yuj1 (P:=P) hf hc h w;obtain ⟨nx,fr0,J',w',hi,hfr,hm,hle,hst⟩:=h3 J w (yga0 b tmps ds (.inRegion ops (i::rest)::k)) cs hs hl hlf;rw [<- hrun] at hi;have h0:=ywc1 (k:=k) (rest:=rest) (ds:=ds) (b:=b) (cs:=cs) ho hw hd hi hfr;refine ⟨J',w',hm,?_⟩;cases e with
 | ret v =>
  refine ⟨hle,dec J' v,.inr rfl,.head h0 ?_⟩;simp only [yxh0] at hst
  rwa [finish_at ho] at hst
 | pan v =>
  exact ⟨hle,.head h0 hst⟩
theorem ypj0 (hg:Good P) {g:FuncId} (hb:hasBody P g=true) (args:Array Value) (w:World):(callFunc g args).run P w=.ok (.enter g args) w:=by
 unfold hasBody at hb;cases hf:P.funcs[g]? with
 | none=>rw [hf] at hb;cases hb
 | some fu =>
  rw [hf] at hb;have hn:=hg.names g fu hf hb
  have hb' : fu.body.isNone=false:=by
   simp only at hb;cases hbb:fu.body <;> rw [hbb] at hb <;> first | rfl | cases hb
  unfold callFunc;simp only [Sem.run_bind,run_program,Result.andThen_ok,hf,hn,hb',Bool.false_eq_true,if_false,Sem.run_pure]
theorem yvk0 {m m' : Machine} {e:Ending} (h:Comes P m m' e) (hne:e≠.outgrown):Steps P m m':=by
 cases e with
 | returned v=>exact h
 | panicked c=>exact h
 | outgrown=>exact absurd rfl hne
theorem yit0 (hg:Good P) {o:Oper} {f:Fr} {H:Heap} (hc:ydd0 o.op=true) {g:FuncId} {args:List LV} (h:yte0 (f.evs (opds o.op))=some (.func g,args)) (hb:hasBody P g=true)
  {e:LEnd} {H' : Heap} (hht:HT P g args H e H'):yiq0 P o f H (endOf e) H':=by
 intro J w b tmps ds ops i rest k cs hs hf ho hw;obtain ⟨hrun,hl,hlf,hd⟩:=yuj1 (P:=P) hf hc h w;obtain ⟨e',w',fr,⟨J',he,hm,hle⟩,hcomes,hfn,hleave⟩:=hht J w hs hl (yga0 b tmps ds (.inRegion ops (i::rest)::k)::cs)
 have hinv:(invoke (.fn (decFn J (.func g)) #[]) (decs J args).toArray).run P w=.ok (.enter g (decs J args).toArray) w:=by
  simp only [invoke,decFn,Array.append_empty];exact ypj0 hg hb _ w
 rw [hinv] at hrun;have h0:=ywc1 (k:=k) (rest:=rest) (ds:=ds) (b:=b) (cs:=cs) ho hw hd hrun rfl;refine ⟨J',w',hm,?_⟩;subst he;cases e with
 | ret v =>
  refine ⟨hle,dec J' v,.inr rfl,.head h0 ?_⟩;have h1:=yvk0 hcomes (by simp [yml0]);have h2:=step_leave_returned (c:=yga0 b tmps ds (.inRegion ops (i::rest)::k)) (cs:=cs) hleave;rw [finish_at ho] at h2;exact h1.trans (.one h2)
 | pan v =>
  refine ⟨hle,.head h0 ?_⟩;have h1:=yvk0 hcomes (by simp [yml0]);have h2:=step_leave_panicked (c:=yga0 b tmps ds (.inRegion ops (i::rest)::k)) (cs:=cs) hleave;exact h1.trans (.one h2)
theorem yvj1 (hg:Good P) {call:CallF} (hcall:ylc0 P call) {o:Oper} {f:Fr} {H:Heap} {s s' : S} {e:OpEnd} {H' : Heap} (h:doOp P call o.op (f.evs (opds o.op)) H s=.ok (e,H') s') (hob:s'.ob)
  (hle:∀ r,lop P o.op (f.evs (opds o.op)) H=some r->H.Le r.H):s.ob/\H.Le H'/\yiq0 P o f H e H':=by
 unfold doOp at h;split at h
 .rename_i n ds hp;cases hc:ydd0 o.op with
  | true =>
   rw [hc] at h;simp only [bc_true] at h;unfold yzt1 at h;split at h
   .rename_i fn args hcal;cases hr:call fn args H ⟨ds,s.ob⟩ with
    | bad w=>rw [hr] at h;cases h
    | pause s=>rw [hr] at h;cases h
    | ok r s2 =>
     rw [hr] at h;simp only [R.bnd_ok] at h;obtain ⟨e',H2⟩:=r;injection h with h1 h2;injection h1 with h1 h3;subst h1;subst h2;subst h3;have:=yyf1 hcall hc hcal hr hob;exact this
   .cases h
  | false =>
   rw [hc] at h;simp only [bc_false] at h;unfold doLop at h;split at h
   .rename_i r hr;injection h with h1 h2;injection h1 with h1 h3;subst h1;subst h2;subst h3;exact ⟨hob,hle r hr,ykf0 hr⟩
   .cases h
 .rename_i v us ns k ds hp;cases hc:ydd0 o.op with
  | true=>rw [hc] at h;cases h
  | false =>
   rw [hc] at h;simp only [bc_false] at h;injection h with h1 h2;injection h1 with h1 h3;subst h1;subst h2;subst h3;obtain ⟨ho,hs⟩:=hob;have:=ykf0 (P:=P) (o:=o) (f:=f) ho;exact ⟨hs,Heap.le_upd _ _ _,this⟩
 .rename_i e' us ns ds hp;cases hc:ydd0 o.op with
  | false=>rw [hc] at h;cases h
  | true =>
   rw [hc] at h;simp only [bc_true] at h;split at h
   .rename_i g args hcal;cases hb:hasBody P g with
    | false=>rw [hb] at h;cases h
    | true =>
     rw [hb] at h;simp only [bc_true] at h;injection h with h1 h2;injection h1 with h1 h3;subst h1;subst h2;subst h3;obtain ⟨ho,hs⟩:=hob;exact ⟨hs,Heap.le_upd _ _ _,yit0 hg hc hcal hb ho⟩
   .cases h
 .rename_i C l ds hp;cases hc:ydd0 o.op with
  | false=>rw [hc] at h;cases h
  | true =>
   rw [hc] at h;simp only [bc_true] at h;split at h
   .rename_i g args hcal;cases hb:(hasBody P g&&Nat.beq g C.g&&C.fit l H.n) with
    | false=>rw [hb] at h;cases h
    | true =>
     rw [hb] at h;simp only [bc_true] at h;injection h with h1 h2;injection h1 with h1 h3;subst h1;subst h2;subst h3;simp only [Bool.and_eq_true] at hb;have he:=beqN hb.1.2;obtain ⟨hC,hx,ho,hs⟩:=hob;refine ⟨hs,Heap.le_upd _ _ _,yit0 hg hc hcal hb.1.1 ?_⟩;rw [he];exact yiu2 hC hb.2 hx ho
   .cases h
 .rename_i e' ds hp;cases hc:ydd0 o.op with
  | false=>rw [hc] at h;cases h
  | true =>
   rw [hc] at h;simp only [bc_true] at h;split at h
   .rename_i g args hcal;cases hb:hasBody P g with
    | false=>rw [hb] at h;cases h
    | true =>
     rw [hb] at h;simp only [bc_true] at h;injection h with h1 h2;injection h1 with h1 h3;subst h1;subst h2;subst h3;exact ⟨hob.2,Heap.Le.refl _,yit0 hg hc hcal hb (hob.1 _)⟩
   .cases h
 .rename_i v ds hp;rcases bcR h with ⟨hc,h⟩ | ⟨hc,h⟩
  .cases h
  .injection h with h1 h2;injection h1 with h1 h3;subst h1;subst h2;subst h3;exact ⟨hob.2,Heap.Le.refl _,ykf0 (P:=P) (o:=o) (f:=f) (hob.1 H)⟩
 .rename_i v i ds hp;rcases bcR h with ⟨hc,h⟩ | ⟨hc,h⟩
  .cases h
  .injection h with h1 h2;injection h1 with h1 h3;subst h1;subst h2;subst h3;exact ⟨hob.2,Heap.Le.refl _,ykf0 (P:=P) (o:=o) (f:=f) (hob.1 H rfl)⟩
 .rename_i v i oo ds hp;rcases bcR h with ⟨hc,h⟩ | ⟨hc,h⟩
  .cases h
  .injection h with h1 h2;injection h1 with h1 h3;subst h1;subst h2;subst h3;exact ⟨hob.2,Heap.le_upd _ _ _,ykf0 (P:=P) (o:=o) (f:=f) (hob.1 H rfl)⟩
 .cases h
 .cases h
end Go.Proofs.YtnpbgnjiihecgaaGreat.Ev
