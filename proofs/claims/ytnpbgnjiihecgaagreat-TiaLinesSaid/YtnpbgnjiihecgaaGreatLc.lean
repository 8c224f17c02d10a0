/- What the model's small steps do, in the words of the local heap. Each operation: what the evaluator says of it, the model does. Operations that make values of parts, and rows. Operations on values alone. Comparing, converting, slicing. -/
import Derived.Test.YtnpbgnjiihecgaaGreatLa
import Derived.Laws.Entries
import Derived.Laws.Cells
import Derived.Laws.Strings
namespace Go.Proofs.YtnpbgnjiihecgaaGreat.Ev
open Go
variable {P:Program}
theorem ybb0 {t:TypeId} {n:Nat} (h:sizeOfT P t=some n) (w:World):(sizeOf t).run P w=.ok n w:=by
 unfold sizeOfT at h;cases hi:P.info? t with
 | none=>rw [hi] at h;cases h
 | some i =>
  rw [hi] at h;simp only [Option.map_some,Option.some.injEq] at h;simp [sizeOf,typeInfo,hi,h]
theorem ytf0 {t:TypeId} {i:TypeInfo} (h:P.info? t=some i) (w:World):(typeInfo t).run P w=.ok i w:=by simp [typeInfo,h]
theorem ytn0 {t:TypeId} {b:Bool} (h:aggOf P t=some b) (w:World):(isAgg t).run P w=.ok b w:=by
 unfold aggOf at h;cases hu:P.underlying t with
 | none=>rw [hu] at h;cases h
 | some d =>
  rw [hu] at h;unfold isAgg;simp only [Sem.run_bind,run_underlying hu,Result.andThen_ok];cases d <;> simp only [Option.some.injEq] at h <;> subst h <;> rfl
theorem yah0 (g o j:Nat):(⟨g,o,none⟩ : Addr).add j=⟨g,o+j,none⟩:=by
 unfold Addr.add;split <;> simp_all
theorem ygu1 {w:World} {a:Addr} {v:Value} (h:w.cell? a=some v):(load a).run P w=.ok v w:=by simp [h]
theorem ymo0 (J:Nat->RB):∀ (v:Value),yta0 (yjj0 v)=false->dec J (yjj0 v)=v:=by
 intro v h;cases v with
 | bool b=>rfl
 | int k n=>rfl
 | string s=>simp [yjj0,dec]
 | pointer a=>cases a <;> first | rfl | cases h
 | slice a l c =>
  cases a with
  | none =>
   cases l <;> cases c <;> first | rfl | cases h
  | some a=>cases h
 | map r=>cases r <;> first | rfl | cases h
 | nilFunc=>rfl
 | nilIface=>rfl
 | _=>cases h
theorem yql0 (J:Nat->RB):∀ (l:List Value),yek0 (l.map yjj0)=true->decs J (l.map yjj0)=l
 | [],_=>rfl
 | v::vs,h=>by
  simp only [List.map_cons] at h ⊢;obtain ⟨a,b⟩:=(yoq0 _ _).1 h;simp only [decs,ymo0 J v a,yql0 J vs b]
theorem yrs0 (n:Nat) (v:Value):lt n (yjj0 v):=by
 unfold yjj0;split <;> trivial
theorem yhx0 (n:Nat) (l:List Value):lts n (l.map yjj0):=by
 rw [ygb0];intro v hv;obtain ⟨x,_,rfl⟩:=List.mem_map.1 hv;exact yrs0 n x
theorem ylc1 (J:Nat->RB) (v:Value) (h:yta0 (ofVal v)=false):dec J (ofVal v)=v:=by
 unfold ofVal at h ⊢;split at h
 .rename_i cs;simp only at h ⊢;cases hn:yek0 (cs.toList.map yjj0) with
  | false=>rw [hn] at h;cases h
  | true=>simp only [cond_true,dec,yql0 J _ hn]
 .rename_i t v;simp only at h ⊢;cases hn:yta0 (yjj0 v) with
  | true=>rw [hn] at h;cases h
  | false=>simp only [cond_false,dec,ymo0 J v hn]
 .rename_i cs;simp only at h ⊢;cases hn:yek0 (cs.toList.map yjj0) with
  | false=>rw [hn] at h;cases h
  | true=>simp only [cond_true,dec,yql0 J _ hn]
 .exact ymo0 J _ h
theorem ysi1 (n:Nat) (v:Value):lt n (ofVal v):=by
 unfold ofVal;split
 .simp only;cases yek0 _ <;> simp only [cond_true,cond_false,lt];exact yhx0 _ _
 .simp only;cases yta0 _ <;> simp only [cond_true,cond_false,lt];exact yrs0 _ _
 .simp only;cases yek0 _ <;> simp only [cond_true,cond_false,lt];exact yhx0 _ _
 .exact yrs0 _ _
theorem ymd0 {t:TypeId} {z:LV} (h:zeroOf P t=some z) (J:Nat->RB) (w:World):(zeroValue t).run P w=.ok (dec J z) w/\yta0 z=false/\∀ n,lt n z:=by
 unfold zeroOf at h;cases hi:P.info? t with
 | none=>rw [hi] at h;cases h
 | some i =>
  simp only [hi] at h;cases hz:i.zero with
  | none=>simp only [hz] at h;cases h
  | some v =>
   simp only [hz] at h;obtain ⟨hj,hv⟩:=yna0 h;simp only [Option.some.injEq] at hv;subst hv;refine ⟨?_,hj,fun n=>ysi1 n v⟩;rw [ylc1 J v hj];simp [zeroValue,typeInfo,hi,hz]
theorem ype0 (J:Nat->RB) (v:LV):(dec J v).cells=(decs J (cellsOf v)).toArray:=by
 cases v <;> simp [dec,decs,cellsOf,Value.cells]
theorem yle0 {n:Nat} {v:LV} (h:lt n v):lts n (cellsOf v):=by
 cases v <;> simp_all [lt,lts,cellsOf]
theorem yla0 (J:Nat->RB) (l:List LV):(decs J l).length=l.length:=by rw [yvb0];simp
theorem ylg0 (J:Nat->RB) {v:LV} (h:ywm0 v=true):(dec J v).oneCell'=true:=by
 cases v <;> simp_all [ywm0,dec,Value.oneCell']
theorem SatObj.cell {J:Nat->RB} {r:RB} {w:World} {e:TypeId} {k:Own} {cs:List LV} (h:SatObj J r w (.cells e k cs)) {j:Nat} {v:LV} (hv:cs[j]?=some v) :
  w.cell? ⟨r.blk,r.off+j,none⟩=some (dec J v):=by
 have hj:j<cs.length:=(List.getElem?_eq_some_iff.1 hv).1;have hd:(decs J cs)[j]?=some (dec J v):=by rw [yvb0,List.getElem?_map,hv];rfl
 cases k with
 | ro=>exact h j v hv
 | exact =>
  obtain ⟨h0,lo,hi,_,hh⟩:=h;simp only [World.cell?,hh,h0,Nat.zero_add,Option.isSome_none,Bool.false_eq_true,if_false,List.getElem?_toArray,hd]
 | grow sz =>
  obtain ⟨h0,lo,hi,spare,_,_,_,hh⟩:=h;simp only [World.cell?,hh,h0,Nat.zero_add,Option.isSome_none,Bool.false_eq_true,if_false,List.getElem?_toArray];rw [List.getElem?_append_left (by rw [yla0];exact hj),hd]
theorem yss0 {J:Nat->RB} {r:RB} {w:World} {e:TypeId} {k:Own} {cs:List LV} (h:SatObj J r w (.cells e k cs)) (o n:Nat) (hn:o+n<=cs.length) :
  (loadCells ⟨r.blk,r.off+o,none⟩ n).run P w=.ok (decs J ((cs.drop o).take n)).toArray w:=by
 have hlen:((cs.drop o).take n).length=n:=by simp;omega
 have:=run_loadCells_list (P:=P) w ⟨r.blk,r.off+o,none⟩ (decs J ((cs.drop o).take n)) (fun j v hv=>by
  rw [yvb0,List.getElem?_map] at hv;cases hx:((cs.drop o).take n)[j]? with
  | none=>rw [hx] at hv;cases hv
  | some x =>
   rw [hx] at hv;simp only [Option.map_some,Option.some.injEq] at hv;subst hv;rw [yah0,Nat.add_assoc];refine h.cell ?_;rw [List.getElem?_take] at hx;split at hx
   .rwa [List.getElem?_drop] at hx
   .cases hx)
 rwa [yla0,hlen] at this
theorem yrl0 {t:TypeId} {cs:List LV} {off:Nat} {v:LV} (h:partOf P t cs off=some v) :
  (aggOf P t=some true/\∃ n,sizeOfT P t=some n/\off+n<=cs.length/\v=.agg ((cs.drop off).take n))\/(aggOf P t=some false/\cs[off]?=some v):=by
 unfold partOf at h;split at h
 .rename_i ha;refine .inl ⟨ha,?_⟩;cases hn:sizeOfT P t with
  | none=>rw [hn] at h;cases h
  | some n =>
   rw [hn] at h;obtain ⟨a,b⟩:=yaa0 h;simp only [Option.some.injEq] at b;rw [lenL_eq] at a;exact ⟨n,rfl,Nat.le_of_ble_eq_true a,by rw [<- b,yue0,yve0]⟩
 .rename_i ha;rw [yau1] at h;exact .inr ⟨ha,h⟩
 .cases h
theorem yts0 {n:Nat} {t:TypeId} {cs:List LV} {off:Nat} {v:LV} (h:partOf P t cs off=some v) (hl:lts n cs):lt n v:=by
 rw [ygb0] at hl;rcases yrl0 h with ⟨_,m,_,_,rfl⟩ | ⟨_,hv⟩
 .simp only [lt];rw [ygb0];intro x hx;exact hl x (List.mem_of_mem_drop (List.mem_of_mem_take hx))
 .exact hl v (List.mem_of_getElem? hv)
theorem yqf1 {J:Nat->RB} {r:RB} {w:World} {e:TypeId} {k:Own} {cs:List LV} (h:SatObj J r w (.cells e k cs)) {t:TypeId} {o:Nat} {v:LV} (hv:partOf P t cs o=some v) :
  (loadVar t ⟨r.blk,r.off+o,none⟩).run P w=.ok (dec J v) w:=by
 unfold loadVar;rcases yrl0 hv with ⟨ha,n,hn,hle,rfl⟩ | ⟨ha,hc⟩
 .simp only [Sem.run_bind,ytn0 ha,Result.andThen_ok,if_true,ybb0 hn,yss0 h o n hle];rfl
 .simp only [Sem.run_bind,ytn0 ha,Result.andThen_ok,Bool.false_eq_true,if_false,ygu1 (h.cell hc)]
theorem ysl0 {J:Nat->RB} {t:TypeId} {cs:List LV} {off:Nat} {v:LV} (hv:partOf P t cs off=some v) (w:World) :
  (part t (decs J cs).toArray off).run P w=.ok (dec J v) w:=by
 unfold part;rcases yrl0 hv with ⟨ha,n,hn,hle,rfl⟩ | ⟨ha,hc⟩
 .simp only [Sem.run_bind,ytn0 ha,Result.andThen_ok,if_true,ybb0 hn];simp only [Sem.run_pure,dec,yvb0,List.map_take,List.map_drop]
  congr 2
  apply Array.ext';simp
 .simp only [Sem.run_bind,ytn0 ha,Result.andThen_ok,Bool.false_eq_true,if_false];rw [yvb0,List.getElem?_toArray,List.getElem?_map,hc];rfl
def putO (w:World) (g:Nat) (O:Obj):World:={ w with heap:=w.heap.setIfInBounds g O }
theorem yjb0 {w:World} {g:Nat} {O:Obj} (h:g<w.heap.size):(putO w g O).heap[g]?=some O:=by simp [putO,h]
theorem yhb0 {w:World} {g b:Nat} {O:Obj} (h:b≠g):(putO w g O).heap[b]?=w.heap[b]?:=by
 simp only [putO];rw [Array.getElem?_setIfInBounds_ne (Ne.symm h)]
theorem yhu1 (w:World) (g:Nat) (O O' : Obj):putO (putO w g O) g O'=putO w g O':=by
 simp only [putO];congr 1;apply Array.ext';simp
theorem yiu1 {w:World} {g:Nat} {O:Obj} (h:w.heap[g]?=some O):putO w g O=w:=by
 have:w.heap.setIfInBounds g O=w.heap:=by
  apply Array.ext_getElem?;intro i;rw [Array.getElem?_setIfInBounds];split
  .rename_i e;subst e;have hlt:g<w.heap.size:=(Array.getElem?_eq_some_iff.1 h).1;rw [h];simp [hlt]
  .rfl
 simp only [putO,this]
theorem setCell_eq {w:World} {g j:Nat} {cur:Array Value} {e:TypeId} {fr:Nat × Nat} (v:Value) (h:w.heap[g]?=some (.cells cur e fr)) :
  w.setCell ⟨g,j,none⟩ v=putO w g (.cells (cur.setIfInBounds j v) e fr):=by
 simp only [World.setCell,putO]
 congr 1
 apply Array.ext_getElem?;intro i;rw [Array.getElem?_modify,Array.getElem?_setIfInBounds];by_cases hi:g=i
 .subst hi;have hlt:g<w.heap.size:=(Array.getElem?_eq_some_iff.1 h).1;rw [h];simp [hlt]
 .simp [hi]
theorem ymg0 (g o:Nat) (e:TypeId) (fr:Nat × Nat):∀ (vs:List Value) (i:Nat) (cur:Array Value) (w:World),w.heap[g]?=some (.cells cur e fr) ->
  (∀ j,j<cur.size->¬ (fr.1<=j/\j<fr.2))->o+i+vs.length<=cur.size->(∀ v∈vs,v.oneCell'=true) ->
  (storeCells ⟨g,o,none⟩ vs i).run P w=.ok () (putO w g (.cells (cur.toList.take (o+i)++vs++cur.toList.drop (o+i+vs.length)).toArray e fr))
 | [],i,cur,w,hg,_,_,_=>by
  simp only [storeCells,List.append_nil,List.length_nil,Nat.add_zero,List.take_append_drop,Array.toArray_toList];rw [yiu1 hg];rfl
 | v::rest,i,cur,w,hg,hfz,hl,h1=>by
  simp only [List.length_cons] at hl;have hi:o+i<cur.size:=by omega
  have hlt:g<w.heap.size:=(Array.getElem?_eq_some_iff.1 hg).1;have hcell:w.cell? ⟨g,o+i,none⟩=some cur[o+i]:=by simp [World.cell?,hg,hi]
  have hfro:w.frozen? ⟨g,o+i,none⟩=false:=by
   have:=hfz (o+i) hi;simp only [World.frozen?,hg];rw [Bool.eq_false_iff];intro hc;simp only [Bool.and_eq_true,decide_eq_true_eq] at hc;exact this hc
  have hst:(store ((⟨g,o,none⟩ : Addr).add i) v).run P w=.ok () (putO w g (.cells (cur.setIfInBounds (o+i) v) e fr)):=by
   rw [yah0,run_store P w _ v _ (h1 v (by simp)),hcell];simp [hfro,setCell_eq v hg]
  have ih:=ymg0 g o e fr rest (i+1) (cur.setIfInBounds (o+i) v) (putO w g (.cells (cur.setIfInBounds (o+i) v) e fr)) (yjb0 hlt) (by simpa using hfz) (by simp;omega) (fun x hx=>h1 x (by simp [hx]));simp only [storeCells,Sem.run_bind,hst,Result.andThen_ok,ih,yhu1]
  congr 4
  simp only [Array.toList_setIfInBounds];have ho:o+i<cur.toList.length:=by simpa using hi
  rw [show o+(i+1)=o+i+1 by omega,List.take_succ_eq_append_getElem (by simpa using ho),List.take_set_of_le (Nat.le_refl _),List.getElem_set_self];rw [show o+i+1+rest.length=o+i+(v::rest).length by simp;omega,List.drop_set_of_lt (by simp)];simp
end Go.Proofs.YtnpbgnjiihecgaaGreat.Ev
namespace Go.Proofs.YtnpbgnjiihecgaaGreat.Ev
open Go
variable {P:Program}
def yrm2 (J:Nat->RB) (v:LV):Next->Prop
 | .value v'=>v=.junk\/v'=dec J v
 | .skip=>v=yfe0
 | _=>False
def yde2 (P:Program) (J:Nat->RB) (H:Heap) (w:World) (s:Sem Next) (r:OpR):Prop :=
 ∃ J' w' nx,s.run P w=.ok nx w'/\yrm2 J' r.v nx/\Moved J H w J' r.H w'/\lt r.H.n r.v
def Is (J:Nat->RB) (l:LV) (v:Value):Prop:=l=.junk\/v=dec J l
theorem Is.eq {J:Nat->RB} {l:LV} {v:Value} (h:Is J l v) (hj:yta0 l=false):v=dec J l:=by
 rcases h with rfl | h
 .cases hj
 .exact h
def val (s:Sem Value):Sem Next:=do pure (.value (<- s))
def unit (s:Sem Unit):Sem Next:=do s;pure .skip
theorem yye0 {s:Sem Value} {w w' : World} {v:Value} (h:s.run P w=.ok v w'):(val s).run P w=.ok (.value v) w':=by
 simp [val,h]
theorem yvz0 {s:Sem Unit} {w w' : World} (h:s.run P w=.ok () w'):(unit s).run P w=.ok .skip w':=by
 simp [unit,h]
theorem ywb0 {J:Nat->RB} {H:Heap} {w:World} (hs:Sat J H w) {s:Sem Value} {v:LV} {k:Kd} (h:s.run P w=.ok (dec J v) w) (hl:lt H.n v) :
  yde2 P J H w (val s) ⟨v,H,k⟩ :=
 ⟨J,w,_,yye0 h,.inr rfl,Moved.refl hs,hl⟩
theorem ysc0 {H:Heap} {o:Option LV} {r:OpR} (h:pureR H o=some r):∃ v,o=some v/\r=⟨v,H,.pure⟩:=by
 cases o with
 | none=>cases h
 | some v=>exact ⟨v,rfl,by injection h with h;exact h.symm⟩
theorem yuh0 {H:Heap} {x:LV} {o:Option LV} {r:OpR} (h:loadR H x o=some r):∃ v k,o=some v/\r=⟨v,H,k⟩:=by
 cases o with
 | none=>cases h
 | some v=>exact ⟨v,_,rfl,by injection h with h;exact h.symm⟩
theorem ycc0 {o:Option (LV × Heap)} {r:OpR} (h:yrc0 o=some r):∃ v H,o=some (v,H)/\r=⟨v,H,.change⟩:=by
 cases o with
 | none=>cases h
 | some x=>exact ⟨x.1,x.2,rfl,by injection h with h;exact h.symm⟩
section
variable {J:Nat->RB} {H:Heap} {w:World}
theorem yjb2 (hs:Sat J H w) {t:TypeId} {x:LV} {v:LV} (h:loadL P t H x=some v) (hx:lt H.n x):(Instr.loadAt t (dec J x)).run P w=.ok (dec J v) w/\lt H.n v:=by
 unfold loadL at h;split at h
 .rename_i i o;split at h
  .rename_i e k cs hg;have hi:i<H.n:=hx;have ho:=ycx0.2 (hs.obj i hi);rw [hg] at ho;refine ⟨?_,yts0 h (by have:=ybe2 (hs.wf i hi);rw [hg] at this;exact this)⟩;simp only [Instr.loadAt,dec,Instr.sureAddr,pure_bind];exact yqf1 ho h
  .cases h
 .cases h
theorem yus0 (hs:Sat J H w) (t:TypeId) (cs:List LV) (hl:lts H.n cs) :
  ∃ J',Moved J H w J' (H.push (.cells t .exact cs)) { w with heap:=w.heap.push (.cells (decs J cs).toArray t) }/\J' H.n=⟨w.heap.size,0,0,default,0⟩:=by
 refine ⟨upRho J H.n ⟨w.heap.size,0,0,default,0⟩,Moved.push hs _ (.cells (decs J cs).toArray t) _ rfl rfl rfl rfl rfl ?_ ?_,yoa0 _ _ _⟩
 .simp only [ltObj];exact yyg0 (by omega) cs hl
 .simp only [SatObj];refine ⟨trivial,0,0,by omega,?_⟩;rw [yie0 (yka0 J H.n _) cs hl];simp
theorem ysm2 (hs:Sat J H w) {t:TypeId} {v:LV} {p:LV} {H' : Heap} (h:boxL t H v=some (p,H')) (hl:lt H.n v) :
  ∃ J' w',(do pure (.pointer (some (<- newVar t (dec J v)))):Sem Value).run P w=.ok (dec J' p) w'/\Moved J H w J' H' w'/\lt H'.n p:=by
 unfold boxL at h;replace h:=yna0 h;obtain ⟨hj,h⟩:=h;simp only [Option.some.injEq,Prod.mk.injEq] at h;obtain ⟨rfl,rfl⟩:=h;obtain ⟨J',hm,hr⟩:=yus0 hs t (cellsOf v) (yle0 hl);refine ⟨J',_,?_,hm,by simp only [lt,Heap.n_push];omega⟩;simp [newVar,newRow,ype0,dec,hr]
theorem yvs0 (hs:Sat J H w) {t:TypeId} {a v:LV} {H' : Heap} (h:storeL0 P t H a v=some H') (ha:lt H.n a) (hv:lt H.n v) :
  ∃ w',(Instr.storeAt t (dec J a) (dec J v)).run P w=.ok () w'/\Moved J H w J H' w':=by
 unfold storeL0 at h;replace h:=yna0 h;obtain ⟨hj,h⟩:=h;split at h
 .rename_i i o;split at h
  .cases h
  .rename_i e k cs hnr hg;split at h
   .rename_i n hn;simp only at h;replace h:=yaa0 h;obtain ⟨h1,h⟩:=h;replace h:=yaa0 h;obtain ⟨h2,h⟩:=h;replace h:=yaa0 h;obtain ⟨h3,h⟩:=h;replace h:=yaa0 h;obtain ⟨h4,h⟩:=h;simp only [Option.some.injEq] at h;subst h;have hi:i<H.n:=bltN.1 h4;have h2:=beqN h2;have h3:=Nat.le_of_ble_eq_true h3;rw [lenL_eq] at h2 h3;have ho:=hs.obj i hi;rw [hg] at ho;have hown:(H.get i).owns=true:=by rw [hg];cases k <;> first | rfl | exact (hnr rfl).elim
    have hwf:=hs.wf i hi;rw [hg] at hwf;have hlen:(yua0 cs o (cellsOf v)).length=cs.length:=yac0 _ _ _ (by omega)
    have hl:ltObj H.n (.cells e k (yua0 cs o (cellsOf v))):=by
     simp only [ltObj] at hwf ⊢;rw [yzb0 _ _ _ (by omega),ygb0];rw [ygb0] at hwf;have hc:=(ygb0 _ _).1 (yle0 hv);intro x hx;simp only [List.append_assoc,List.mem_append] at hx;rcases hx with hx | hx | hx
     .exact hwf x (List.mem_of_mem_take hx)
     .exact hc x hx
     .exact hwf x (List.mem_of_mem_drop hx)
    -- the store itself
    have main:∀ (cur:Array Value) (fr:Nat × Nat),(J i).off=0->w.heap[(J i).blk]?=some (.cells cur e fr)->(∀ j,j<cur.size->¬ (fr.1<=j/\j<fr.2))->cs.length<=cur.size ->
      (Instr.storeAt t (dec J (.ptr i o)) (dec J v)).run P w=.ok () (putO w (J i).blk (.cells (cur.toList.take o++decs J (cellsOf v)++cur.toList.drop (o+n)).toArray e fr)):=by
     intro cur fr h0 hh hfr hsz;simp only [Instr.storeAt,dec,Instr.sureAddr,pure_bind,storeVar,Sem.run_bind,ybb0 hn,Result.andThen_ok,ype0,h0,Nat.zero_add];have hc:(decs J (cellsOf v)).length=n:=by rw [yla0];exact h2
     simp only [List.size_toArray,hc,ne_eq,not_true_eq_false,if_false]
     have:=ymg0 (P:=P) (J i).blk o e fr (decs J (cellsOf v)) 0 cur w hh hfr (by omega) (by
      intro x hx;rw [yvb0,List.mem_map] at hx;obtain ⟨y,hy,rfl⟩:=hx
      exact ylg0 J (yhg0 h1 y hy))
     simp only [Nat.add_zero,hc] at this;exact this
    have hdec:decs J (yua0 cs o (cellsOf v))=(decs J cs).take o++decs J (cellsOf v)++(decs J cs).drop (o+n):=by
     rw [yzb0 _ _ _ (by omega)];simp only [yvb0,List.map_append,List.map_take,List.map_drop];rw [h2]
    have hblk:=hs.inside i hi (LObj.sits_of_owns hown);cases k with
    | ro=>exact (hnr rfl).elim
    | exact =>
     obtain ⟨h0,lo,hi',hfr,hh⟩:=ho;refine ⟨_,main _ _ h0 hh (by simpa [yla0] using hfr) (by simp [yla0]),?_⟩;refine Moved.put hs hi hown _ (fun b hb=>yhb0 hb) (by simp [putO]) rfl rfl rfl hl ?_;refine ⟨h0,lo,hi',by rw [hlen];exact hfr,?_⟩;rw [yjb0 hblk,hdec]
    | grow sz =>
     obtain ⟨h0,lo,hi',spare,hfr,hc1,hcap,hh⟩:=ho;refine ⟨_,main _ _ h0 hh (by simpa [yla0] using hfr) (by simp [yla0]),?_⟩;refine Moved.put hs hi hown _ (fun b hb=>yhb0 hb) (by simp [putO]) rfl rfl rfl hl ?_;refine ⟨h0,lo,hi',spare,by rw [hlen];exact hfr,by rw [hlen];exact hc1,by rw [hlen];exact hcap,?_⟩;rw [yjb0 hblk,hdec];have hb:o+n<=(decs J cs).length:=by rw [yla0];omega
     simp only [List.take_append_of_le_length (show o<=(decs J cs).length by omega),List.drop_append_of_le_length hb,List.append_assoc]
   .cases h
  .cases h
 .cases h
end
end Go.Proofs.YtnpbgnjiihecgaaGreat.Ev
namespace Go.Proofs.YtnpbgnjiihecgaaGreat.Ev
open Go
variable {P:Program}
theorem yti1 (off:Nat):∀ (vs:List Value) (k:Nat) (cur:Array Value),off+k+vs.length<=cur.size ->
  (vs.zipIdx k).foldl (fun cs (x:Value × Nat)=>cs.setIfInBounds (off+x.2) x.1) cur=(cur.toList.take (off+k)++vs++cur.toList.drop (off+k+vs.length)).toArray
 | [],k,cur,_=>by simp
 | v::vs,k,cur,h=>by
  simp only [List.length_cons] at h;simp only [List.zipIdx_cons,List.foldl_cons];rw [yti1 off vs (k+1) (cur.setIfInBounds (off+k) v) (by simp;omega)]
  congr 1
  simp only [Array.toList_setIfInBounds];have ho:off+k<cur.toList.length:=by simp;omega
  rw [show off+(k+1)=off+k+1 by omega,List.take_succ_eq_append_getElem (by simpa using ho),List.take_set_of_le (Nat.le_refl _),List.getElem_set_self];rw [show off+k+1+vs.length=off+k+(v::vs).length by simp;omega,List.drop_set_of_lt (by simp)];simp
def partsOf {Z:Type} (f:Operand->Z) (l:List (Nat × Operand)):List (Nat × Z):=l.map fun x=>(x.1,f x.2)
theorem yws0 (ev:Operand->LV):∀ (l:List (Nat × Operand)),zipL (l.map (·.1)) ((l.map (·.2)).map ev)=partsOf ev l
 | []=>rfl
 | x::l=>by simp only [List.map_cons,zipL,partsOf];rw [yws0 ev l];rfl
theorem ymc1 {J:Nat->RB} {n:Nat} {ev:Operand->LV} {rv:Operand->Value} {pl pr:Nat->Option (Nat × Nat)} (hp:∀ i p,pl i=some p->pr i=some p) :
  ∀ (l:List (Nat × Operand)) (cs cs' : List LV),(∀ x∈l.map (·.2),Is J (ev x) (rv x)/\lt n (ev x))->lts n cs->fillL pl cs (partsOf ev l)=some cs' ->
   Instr.fill pr (decs J cs).toArray (partsOf rv l)=some (decs J cs').toArray/\lts n cs'/\cs'.length=cs.length
 | [],cs,cs',_,hl,h=>by
  simp only [partsOf,List.map_nil,fillL,Option.some.injEq] at h;subst h;exact ⟨rfl,hl,rfl⟩
 | (i,x)::l,cs,cs',hx,hl,h=>by
  simp only [partsOf,List.map_cons,fillL] at h;split at h
  .cases h
  .rename_i off size hpl;replace h:=yna0 h;obtain ⟨hj,h⟩:=h;replace h:=yaa0 h;obtain ⟨h1,h⟩:=h;replace h:=yaa0 h;obtain ⟨h2,h⟩:=h;have h1:=beqN h1;have h2:=Nat.le_of_ble_eq_true h2;rw [lenL_eq] at h1 h2;obtain ⟨hi,hlx⟩:=hx x (by simp);have hd:=hi.eq hj;have hlen:(yua0 cs off (cellsOf (ev x))).length=cs.length:=yac0 _ _ _ (by omega)
   have hlt:lts n (yua0 cs off (cellsOf (ev x))):=by
    rw [yzb0 _ _ _ (by omega),ygb0];rw [ygb0] at hl;have hc:=(ygb0 _ _).1 (yle0 hlx);intro y hy;simp only [List.append_assoc,List.mem_append] at hy;rcases hy with hy | hy | hy
    .exact hl y (List.mem_of_mem_take hy)
    .exact hc y hy
    .exact hl y (List.mem_of_mem_drop hy)
   obtain ⟨r1,r2,r3⟩:=ymc1 hp l _ cs' (fun y hy=>hx y (by simp only [List.map_cons,List.mem_cons];exact .inr hy)) hlt h;refine ⟨?_,r2,by rw [r3,hlen]⟩;simp only [partsOf,List.map_cons,Instr.fill,hp i _ hpl];have hcs:(rv x).cells.size=size:=by rw [hd,ype0];simp [yla0,h1]
   have hno:((rv x).cells.size != size||decide (off+(rv x).cells.size>(decs J cs).toArray.size))=false:=by
    simp [hcs,yla0];omega
   have hfold:(rv x).cells.zipIdx.foldl (fun cs (x:Value × Nat)=>cs.setIfInBounds (off+x.2) x.1) (decs J cs).toArray=(decs J (yua0 cs off (cellsOf (ev x)))).toArray:=by
    rw [<- Array.foldl_toList,Array.toList_zipIdx,hd,ype0];have:=yti1 off (decs J (cellsOf (ev x))) 0 (decs J cs).toArray (by simp [yla0];omega);simp only [Nat.add_zero] at this;rw [this,yzb0 _ _ _ (by omega)];simp [yvb0]
   simp only [partsOf] at r1;rw [if_neg]
   .rw [<- r1];congr 1
   .intro hc;simp only [hcs,ne_eq,not_true_eq_false,decide_false,Bool.false_or,decide_eq_true_eq,List.size_toArray,yla0] at hc;omega
theorem ytq0:∀ (fs:List Field) (w:World),allSized P fs=true ->
  ∃ l,(fs.mapM fun f=>do pure (f.offset,<- sizeOf f.type):Sem (List (Nat × Nat))).run P w=.ok l w/\∀ i p,fieldPlaces P fs i=some p->l[i]?=some p
 | [],w,_=>⟨[],by simp,fun i p h=>by cases h⟩
 | f::fs,w,h=>by
  unfold allSized at h;split at h
  .rename_i s hs;obtain ⟨l,hl,hp⟩:=ytq0 fs w h;refine ⟨(f.offset,s)::l,?_,?_⟩
   .simp only [List.mapM_cons,Sem.run_bind,ybb0 hs,Result.andThen_ok,Sem.run_pure,hl]
   .intro i p hi;unfold fieldPlaces at hi;cases i with
    | zero =>
     simp only [Nat.beq,cond_true,hs,Option.map_some,Option.some.injEq] at hi;simp [hi]
    | succ i =>
     have:Nat.beq (i+1) 0=false:=rfl;rw [this] at hi;simp only [cond_false,Nat.add_sub_cancel] at hi;simpa using hp i p hi
  .cases h
theorem yee2 {J:Nat->RB} {n:Nat} {w:World} {ev:Operand->LV} {rv:Operand->Value} {t:TypeId} {ps:Array (Nat × Operand)} {v:LV}
  (hx:∀ x∈ps.toList.map (·.2),Is J (ev x) (rv x)/\lt n (ev x)) (h:buildL P t (partsOf ev ps.toList)=some v) :
  (Instr.build t (ps.map fun (i,x)=>(i,rv x))).run P w=.ok (dec J v) w/\lt n v:=by
 unfold buildL at h;split at h
 .cases h
 .rename_i z hz;obtain ⟨hrz,hjz,hlz⟩:=ymd0 hz J w;have hpl:(ps.map fun (i,x)=>(i,rv x)).toList=partsOf rv ps.toList:=by simp [partsOf]
  have hlc:=yle0 (hlz n);split at h
  .rename_i fields hu;replace h:=yaa0 h;obtain ⟨hsz,h⟩:=h;cases hf:fillL (fieldPlaces P fields.toList) (cellsOf z) (partsOf ev ps.toList) with
   | none=>rw [hf] at h;cases h
   | some cs =>
    rw [hf] at h;simp only [Option.map_some,Option.some.injEq] at h;subst h;obtain ⟨l,hl,hp⟩:=ytq0 (P:=P) fields.toList w hsz;obtain ⟨r1,r2,_⟩:=ymc1 (J:=J) (rv:=rv) hp ps.toList (cellsOf z) cs hx hlc hf;refine ⟨?_,r2⟩
    have hm:(fields.mapM fun f=>do pure (f.offset,<- sizeOf f.type):Sem (Array (Nat × Nat))).run P w=.ok l.toArray w:=by
     rw [Array.mapM_eq_mapM_toList];simp only [Sem.run_map,hl,Result.andThen_ok]
    unfold Instr.build;simp only [Sem.run_bind,hrz,Result.andThen_ok,run_underlying hu,hm,hpl,ype0,List.getElem?_toArray,r1];rfl
  .rename_i k elem hu;split at h
   .rename_i size hs;cases hf:fillL (fun i=>some (i*size,size)) (cellsOf z) (partsOf ev ps.toList) with
    | none=>rw [hf] at h;cases h
    | some cs =>
     rw [hf] at h;simp only [Option.map_some,Option.some.injEq] at h;subst h;obtain ⟨r1,r2,_⟩:=ymc1 (J:=J) (rv:=rv) (fun i p h=>h) ps.toList (cellsOf z) cs hx hlc hf;refine ⟨?_,r2⟩;unfold Instr.build;simp only [Sem.run_bind,hrz,Result.andThen_ok,run_underlying hu,ybb0 hs,hpl,ype0,r1];rfl
   .cases h
  .cases h
theorem yuq0 (z:List LV):∀ (n i:Nat),i<n*z.length->(yqb0 z n)[i]?=z[i % z.length]?
 | 0,i,h=>by simp at h
 | n+1,i,h=>by
  rw [ykj0];by_cases hi:i<z.length
  .rw [List.getElem?_append_left hi,Nat.mod_eq_of_lt hi]
  .have hz:z.length<=i:=by omega
   rw [List.getElem?_append_right hz,yuq0 z n (i-z.length) (by rw [Nat.succ_mul] at h;omega)];rw [<- Nat.mod_eq_sub_mod hz]
theorem ywz0 (J:Nat->RB) (z:List LV) (m:Nat) (hz:z.length≠0):((Array.range (m*z.length)).map ((decs J z).toArray[· % (decs J z).toArray.size]!))=(decs J (yqb0 z m)).toArray:=by
 apply Array.ext';simp only [Array.toList_map,Array.toList_range,List.size_toArray,yla0];apply List.ext_getElem?;intro i;rw [List.getElem?_map,yvb0 J (yqb0 z m),List.getElem?_map];by_cases hi:i<m*z.length
 .rw [List.getElem?_range hi,yuq0 z m i hi];have hlt:i % z.length<z.length:=Nat.mod_lt _ (by omega);simp [yvb0,List.getElem?_eq_getElem hlt]
 .rw [List.getElem?_eq_none (by simpa using hi),List.getElem?_eq_none (by rw [yok0];omega)];rfl
theorem yvh0 {n:Nat} {z:List LV} (h:lts n z):∀ m,lts n (yqb0 z m)
 | 0=>trivial
 | m+1=>by
  rw [ykj0,ygb0];rw [ygb0] at h;intro v hv;rcases List.mem_append.1 hv with hv | hv
  .exact h v hv
  .exact (ygb0 _ _).1 (yvh0 ((ygb0 _ _).2 h) m) v hv
theorem yix0 {J:Nat->RB} {H:Heap} {w:World} (hs:Sat J H w) {ev:Operand->LV} {rv:Operand->Value} {t:TypeId} {len:Nat} {ps:Array (Nat × Operand)} {v:LV} {H' : Heap}
  (hx:∀ x∈ps.toList.map (·.2),Is J (ev x) (rv x)/\lt H.n (ev x)) (h:buildSliceL P t len (partsOf ev ps.toList) H=some (v,H')) :
  ∃ J' w',(Instr.buildSlice t len (ps.map fun (i,x)=>(i,rv x))).run P w=.ok (dec J' v) w'/\Moved J H w J' H' w'/\lt H'.n v:=by
 unfold buildSliceL at h;split at h
 .rename_i elem hu;split at h
  .rename_i size z hsz hz;replace h:=yna0 h;obtain ⟨h0,h⟩:=h;replace h:=yaa0 h;obtain ⟨h1,h⟩:=h;replace h:=yaa0 h;obtain ⟨h2,h⟩:=h;have h0:=yxb0 h0;have h1:=Nat.le_of_ble_eq_true h1;have h2:=beqN h2;rw [lenL_eq] at h2;split at h
   .rename_i cs hf;simp only [Option.some.injEq,Prod.mk.injEq] at h;obtain ⟨rfl,rfl⟩:=h;obtain ⟨hrz,hjz,hlz⟩:=ymd0 hz J w;have hpl:(ps.map fun (i,x)=>(i,rv x)).toList=partsOf rv ps.toList:=by simp [partsOf]
    obtain ⟨r1,r2,r3⟩:=ymc1 (J:=J) (rv:=rv) (fun i p h=>h) ps.toList _ cs hx (yvh0 (yle0 (hlz H.n)) len) hf;obtain ⟨J',hm,hr⟩:=yus0 hs elem cs r2;refine ⟨J',_,?_,hm,by simp only [lt,Heap.n_push];omega⟩;have hzeros:=ywz0 J (cellsOf z) len (by omega);rw [h2] at hzeros;have hdec:dec J' (.slice H.n 0 len (.known len))=.slice (some ⟨w.heap.size,0,none⟩) len len:=by simp [dec,hr,capOf]
    rw [hdec];unfold Instr.buildSlice;simp only [Sem.run_bind,run_underlying hu,Result.andThen_ok,ybb0 hsz,Sem.run_ite,if_neg (show ¬ len*size>2 ^ 24 by omega),hpl];by_cases hl0:len*size=0
    .have hlen0:len=0:=by
      rcases Nat.mul_eq_zero.1 hl0 with h | h
      .exact h
      .exact absurd h h0
     subst hlen0;simp only [Nat.zero_mul,if_true,Sem.run_pure,Result.andThen_ok] at *;have:(Array.map (fun x=>(#[] : Array Value)[x % (#[] : Array Value).size]!) (Array.range 0))=(decs J (yqb0 (cellsOf z) 0)).toArray:=by simp [show yqb0 (cellsOf z) 0=[] from rfl,decs]
     rw [this,r1];simp [newRow]
    .simp only [hl0,if_false,Sem.run_bind,hrz,Result.andThen_ok,Sem.run_pure,ype0,hzeros,r1];simp [newRow]
   .cases h
  .cases h
 .cases h
theorem yvq0 (b:Bool):∀ n,flatF [.bo] (yqb0 [.bool b] n)=yqb0 [.bool b] n
 | 0=>rfl
 | n+1=>by
  show LV.bool b::flatF [.bo] (yqb0 [.bool b] n)=LV.bool b::yqb0 [.bool b] n;rw [yvq0 b n]
theorem yrf1 (e:TypeId) (z:LV) (n:Nat):openO (ybo0 e z n)=openO (.cells e .exact (yqb0 (cellsOf z) n)):=by
 unfold ybo0;split
 .show LObj.cells e .exact (flatF [.bo] (yqb0 [.bool _] n))=.cells e .exact (yqb0 (cellsOf (.bool _)) n);rw [yvq0];rfl
 .rfl
theorem HOpen.push0 {H H1:Heap} (h:HOpen H H1) {o o1:LObj} (ho:openO o=openO o1):HOpen (H.push o) (H1.push o1):=by
 refine ⟨by rw [Heap.n_push,Heap.n_push,h.1],fun i=>?_⟩;rw [Heap.get_push,Heap.get_push,<- h.1];by_cases e:H.n=i
 .rw [if_pos e,if_pos e];exact ho
 .rw [if_neg e,if_neg e];exact h.2 i
theorem yxz0 {J:Nat->RB} {H:Heap} {w:World} (hs:Sat J H w) {t:TypeId} {l c v:LV} {H' : Heap} (h:makeSliceL P t H l c=some (v,H')) :
  ∃ J' w',(Instr.makeSlice t (dec J l) (dec J c)).run P w=.ok (dec J' v) w'/\Moved J H w J' H' w'/\lt H'.n v:=by
 unfold makeSliceL at h;split at h
 .rename_i k1 l k2 c;split at h
  .rename_i elem hu;split at h
   .rename_i i z hi hz;replace h:=yaa0 h;obtain ⟨h1,h⟩:=h;replace h:=yaa0 h;obtain ⟨h2,h⟩:=h;replace h:=yaa0 h;obtain ⟨h3,h⟩:=h;replace h:=yaa0 h;obtain ⟨h4,h⟩:=h;replace h:=yna0 h;obtain ⟨h5,h⟩:=h;replace h:=yaa0 h;obtain ⟨h6,h⟩:=h;simp only [Option.some.injEq,Prod.mk.injEq] at h;obtain ⟨rfl,rfl⟩:=h;have h1:=of_decide_eq_true h1;have h2:=of_decide_eq_true h2;have h3:=of_decide_eq_true h3;have h4:=of_decide_eq_true h4;have h5:=yxb0 h5;have h6:=beqN h6;rw [lenL_eq] at h6;obtain ⟨hrz,hjz,hlz⟩:=ymd0 hz J w;have hw1:IntKind.i64.wrap l=l:=by simp [IntKind.wrap,IntKind.bits,IntKind.signed];omega
    have hw2:IntKind.i64.wrap c=c:=by simp [IntKind.wrap,IntKind.bits,IntKind.signed];omega
    obtain ⟨J',hm,hr⟩:=yus0 hs elem (yqb0 (cellsOf z) c.toNat) (yvh0 (yle0 (hlz H.n)) _);have hm:=HOpen.moved (HOpen.refl H) (HOpen.push0 (HOpen.refl H) (yrf1 elem z c.toNat)) hm;refine ⟨J',_,?_,hm,by simp only [lt,Heap.n_push];omega⟩;have hzeros:=ywz0 J (cellsOf z) c.toNat (by omega);rw [h6] at hzeros;have hsz:sizeOfT P elem=some i.size:=by simp [sizeOfT,hi]
    have hdec:dec J' (.slice H.n 0 l.toNat (.known c.toNat))=.slice (some ⟨w.heap.size,0,none⟩) l.toNat c.toNat:=by simp [dec,hr,capOf]
    rw [hdec];unfold Instr.makeSlice
    have hb:((i.bytes:Int)*c>2 ^ 48)=False:=by
     rw [Int.mul_comm] at h3;simp only [eq_iff_iff,iff_false,gt_iff_lt,Int.not_lt];omega
    have hcond:((decide (c<0)||decide ((i.bytes:Int)*c>2 ^ 48))||decide (l<0)||decide (l>c))=false:=by
     simp only [hb,decide_false,Bool.or_false];simp;omega
    simp only [dec,Sem.run_bind,run_underlying hu,Result.andThen_ok,asInt,asIntOf,ytf0 hi,Sem.run_pure,hw1,hw2];rw [if_neg (by simp only [hcond];exact Bool.false_ne_true)];simp only [Sem.run_bind,run_askRoom,Result.andThen_ok,ybb0 hsz];by_cases hc0:c.toNat*i.size=0
    .have hc:c.toNat=0:=by
      rcases Nat.mul_eq_zero.1 hc0 with h | h
      .exact h
      .exact absurd h h5
     simp only [hc,Nat.zero_mul,if_true,Sem.run_pure,Result.andThen_ok] at *;simp [newRow,show yqb0 (cellsOf z) 0=[] from rfl,decs,show Array.range 0=#[] from rfl]
    .simp only [hc0,if_false,Sem.run_bind,hrz,Result.andThen_ok,Sem.run_pure,ype0,hzeros];simp [newRow]
   .cases h
  .cases h
 .cases h
end Go.Proofs.YtnpbgnjiihecgaaGreat.Ev
namespace Go.Proofs.YtnpbgnjiihecgaaGreat.Ev
open Go
variable {P:Program} {J:Nat->RB} {H:Heap} {w:World}
theorem yxs0 {a:Addr} {fd:Field} {n:Nat} (h:sizeOfT P fd.type=some n) (hn:n≠0) (w:World):(fieldPlace a fd).run P w=.ok (a.add fd.offset) w:=by
 unfold fieldPlace;simp only [Sem.run_bind,ybb0 h,Result.andThen_ok,if_neg hn,Sem.run_pure]
theorem yyz0 {s:TypeId} {f:Nat} {x v:LV} (h:fieldAddrL P s f x=some v) (hx:lt H.n x):(Instr.fieldAt s (dec J x) f).run P w=.ok (dec J v) w/\lt H.n v:=by
 unfold fieldAddrL at h;split at h
 .rename_i i o;split at h
  .rename_i fields hu;split at h
   .rename_i fd hf;split at h
    .rename_i n hn;replace h:=yna0 h;obtain ⟨h0,h⟩:=h;simp only [Option.some.injEq] at h;subst h;refine ⟨?_,hx⟩;simp only [Instr.fieldAt,Sem.run_bind,run_underlying hu,Result.andThen_ok,hf,dec,Instr.sureAddr,Sem.run_pure,yxs0 hn (yxb0 h0),yah0,Nat.add_assoc]
    .cases h
   .cases h
  .cases h
 .cases h
theorem yzz0 {t:TypeId} {x ix v:LV} (h:indexAddrL P t x ix=some v) (hx:lt H.n x):(Instr.indexAt t (dec J x) (dec J ix)).run P w=.ok (dec J v) w/\lt H.n v:=by
 unfold indexAddrL at h;split at h
 .rename_i k ix;split at h
  .rename_i len elem hu;split at h
   .rename_i i o;split at h
    .rename_i n hn;replace h:=yaa0 h;obtain ⟨h1,h⟩:=h;replace h:=yaa0 h;obtain ⟨h2,h⟩:=h;simp only [Option.some.injEq] at h;subst h;have h1:=of_decide_eq_true h1;have h2:=of_decide_eq_true h2;refine ⟨?_,hx⟩;simp only [Instr.indexAt,dec,asIntOf,Sem.run_bind,Sem.run_pure,Result.andThen_ok,run_underlying hu,Instr.sureAddr,h1,h2,and_self,if_true,ybb0 hn,yah0,Nat.add_assoc]
    .cases h
   .cases h
  .rename_i elem hu;split at h
   .rename_i i o l c;split at h
    .rename_i n hn;replace h:=yaa0 h;obtain ⟨h1,h⟩:=h;replace h:=yaa0 h;obtain ⟨h2,h⟩:=h;simp only [Option.some.injEq] at h;subst h;have h1:=of_decide_eq_true h1;have h2:=of_decide_eq_true h2;refine ⟨?_,hx⟩;simp only [Instr.indexAt,dec,asIntOf,Sem.run_bind,Sem.run_pure,Result.andThen_ok,run_underlying hu,h1,h2,and_self,if_true,ybb0 hn,yah0,Nat.add_assoc]
    .cases h
   .cases h
  .cases h
 .cases h
theorem yfe2 {t:TypeId} {f:Nat} {x v:LV} (h:fieldL P t f x=some v) (hx:lt H.n x):(Instr.field t (dec J x) f).run P w=.ok (dec J v) w/\lt H.n v:=by
 unfold fieldL at h;split at h
 .rename_i cs;split at h
  .rename_i fields hu;split at h
   .rename_i fd hf;refine ⟨?_,yts0 h hx⟩;simp only [Instr.field,Sem.run_bind,run_underlying hu,Result.andThen_ok,hf,dec,asAgg,Sem.run_pure,ysl0 h]
   .cases h
  .cases h
 .cases h
theorem yge2 {t:TypeId} {x ix v:LV} (h:indexL P t x ix=some v) (hx:lt H.n x):(Instr.index t (dec J x) (dec J ix)).run P w=.ok (dec J v) w/\lt H.n v:=by
 unfold indexL at h;split at h
 .rename_i k ix;split at h
  .rename_i len elem hu;split at h
   .rename_i cs;split at h
    .rename_i n hn;replace h:=yaa0 h;obtain ⟨h1,h⟩:=h;replace h:=yaa0 h;obtain ⟨h2,h⟩:=h;have h1:=of_decide_eq_true h1;have h2:=of_decide_eq_true h2;refine ⟨?_,yts0 h hx⟩;simp only [Instr.index,dec,asIntOf,Sem.run_bind,Sem.run_pure,Result.andThen_ok,run_underlying hu,h1,h2,and_self,if_true,ybb0 hn,ysl0 h]
    .cases h
   .cases h
  .rename_i hu;split at h
   .rename_i s;replace h:=yaa0 h;obtain ⟨h1,h⟩:=h;have h1:=of_decide_eq_true h1;rw [yfb2] at h;cases hb:s[ix.toNat]? with
    | none=>rw [hb] at h;cases h
    | some b =>
     rw [hb] at h;simp only [Option.map_some,Option.some.injEq] at h;subst h;refine ⟨?_,trivial⟩
     have hget:(⟨s.toArray⟩ : ByteArray)[ix.toNat]?=some b:=by
      have hlt:ix.toNat<s.length:=(List.getElem?_eq_some_iff.1 hb).1;have hbb:s[ix.toNat]=b:=(List.getElem?_eq_some_iff.1 hb).2;have:ix.toNat<(⟨s.toArray⟩ : ByteArray).size:=by simpa [ByteArray.size] using hlt
      rw [getElem?_pos (⟨s.toArray⟩ : ByteArray) ix.toNat this];exact congrArg some hbb
     simp only [Instr.index,dec,asIntOf,Sem.run_bind,Sem.run_pure,Result.andThen_ok,run_underlying hu,h1,if_true,hget]
   .cases h
  .cases h
 .cases h
theorem yui1:∀ (a b:List UInt8),eqB a b=(a == b)
 | [],[]=>rfl
 | [],_::_=>rfl
 | _::_,[]=>rfl
 | a::x,b::y=>by
  unfold eqB;rw [yui1 x y]
  have:Nat.beq a.toNat b.toNat=(a == b):=by
   rw [Bool.eq_iff_iff,Nat.beq_eq,beq_iff_eq,UInt8.toNat_inj]
  rw [this];cases h:(a == b) <;> simp_all
theorem ytm2:∀ (a b:List UInt8),ltB a b=Op.bytesLess a b
 | [],[]=>rfl
 | _::_,[]=>rfl
 | [],_::_=>rfl
 | a::x,b::y=>by
  unfold ltB Op.bytesLess;rw [ytm2 x y]
  have h1:Nat.beq a.toNat b.toNat=(a == b):=by
   rw [Bool.eq_iff_iff,Nat.beq_eq,beq_iff_eq,UInt8.toNat_inj]
  have h2:Nat.blt a.toNat b.toNat=decide (a<b):=by
   rw [Bool.eq_iff_iff,bltN,decide_eq_true_eq,UInt8.lt_iff_toNat_lt]
  rw [h1,h2];cases decide (a<b) <;> cases (a == b) <;> simp
theorem toList_mk (s:List UInt8):(⟨s.toArray⟩ : ByteArray).toList=s:=by
 exact ByteArray.toList_mk s
theorem yjx0 (s:List UInt8):(⟨s.toArray⟩ : ByteArray).size=s.length:=by simp [ByteArray.size]
theorem yhe2 {op:BinOp} {k yk:IntKind} {x y:Int} {v:LV} (h:ytw0 op k x y=some v):(Op.shift op k x yk y).run P w=.ok (dec J v) w/\lt H.n v:=by
 unfold ytw0 at h;split at h
 .cases h
 .rename_i hy;unfold Op.shift;rw [if_neg hy];split at h
  .injection h with h;subst h;exact ⟨rfl,trivial⟩
  .injection h with h;subst h;exact ⟨rfl,trivial⟩
  .cases h
theorem yju1 {op:BinOp} {t:TypeId} {k:IntKind} {x y:Int} {v:LV} (hsh:ybj0 op=false) (h:yof0 op k x y=some v) :
  (binOp op t (.int k x) (.int k y)).run P w=.ok (dec J v) w/\lt H.n v:=by
 unfold yof0 at h
 cases op <;> simp only [ybj0] at hsh <;> first
  | (cases hsh;done)
  | (cases h;done)
  | (injection h with h;subst h;exact ⟨by simp [binOp,Op.intArith,Op.intBits,Op.intCmp,dec],trivial⟩)
  | (simp only at h
     split at h
     .cases h
     .rename_i hy
      injection h with h;subst h;exact ⟨by simp [binOp,Op.intDiv,hy,dec],trivial⟩)
theorem yku1 {op:BinOp} {t:TypeId} {a b:List UInt8} {v:LV} (h:yfs0 op a b=some v) :
  (binOp op t (.string ⟨a.toArray⟩) (.string ⟨b.toArray⟩)).run P w=.ok (dec J v) w/\lt H.n v:=by
 unfold yfs0 at h
 have hb:binOp op t (.string ⟨a.toArray⟩) (.string ⟨b.toArray⟩)=Op.stringOp op ⟨a.toArray⟩ ⟨b.toArray⟩:=by
  cases op <;> rfl
 rw [hb];by_cases hop:op=.add
 .subst hop;replace h:=yaa0 h;obtain ⟨h1,h⟩:=h;injection h with h;subst h;refine ⟨?_,trivial⟩;have h1:=Nat.le_of_ble_eq_true h1;rw [lenL_eq,lenL_eq] at h1;simp only [Op.stringOp,yjx0];rw [if_neg (by simp [IntKind.max,IntKind.signed,IntKind.bits];omega)];simp only [Sem.run_pure,dec,app_eq]
  congr 2
 .cases op <;> first
   | exact absurd rfl hop
   | (cases h;done)
   | (injection h with h; subst h
      exact ⟨by simp only [Op.stringOp,toList_mk,Sem.run_pure,dec,yui1,ytm2],trivial⟩)
theorem yvi1 {k k' : IntKind} {a b:Int} {c:Bool} (h:(if k=k' then some (a == b) else none)=some c):k=k'/\c=(a == b):=by
 split at h
 .rename_i e;injection h with h;exact ⟨e,h.symm⟩
 .cases h
theorem ync1 {a b:Option Bool} {c:Bool} (h:both a b=some c):∃ x y,a=some x/\b=some y/\c=(x&&y):=by
 cases a with
 | none=>cases h
 | some x =>
  cases b with
  | none=>cases h
  | some y=>injection h with h;exact ⟨x,y,rfl,rfl,h.symm⟩
theorem yie2 (a b:List UInt8):((⟨a.toArray⟩ : ByteArray) == ⟨b.toArray⟩)=(a == b):=by
 show (a.toArray == b.toArray)=(a == b);simp
theorem ywq0 {f:TypeId->LV->LV->Option Bool} {F:TypeId->Value->Value->Sem Bool} {xs ys:List LV} (hf:∀ t x y b,f t x y=some b->∀ w,(F t (dec J x) (dec J y)).run P w=.ok b w) :
  ∀ (fs:List Field) (b:Bool) (w:World),eqFields P f xs ys fs=some b ->
   (forIn fs ((none, ()) : Option Bool × Unit) (fun f _ => if f.name ≠ "_" then do
     let a<-part f.type (decs J xs).toArray f.offset
     let b<-part f.type (decs J ys).toArray f.offset
     let c<-F f.type a b
     if (!c)=true then pure (ForInStep.done (some false,())) else pure (ForInStep.yield (none,()))
    else pure (ForInStep.yield (none,()))):Sem (Option Bool × Unit)).run P w=.ok (if b then (none,()) else (some false,())) w
 | [],b,w,h=>by
  injection h with h;subst h;simp
 | fd::fs,b,w,h=>by
  unfold eqFields at h;replace h:=yna0 h;obtain ⟨hn,h⟩:=h;split at h
  .rename_i x hx;split at h
   .rename_i y hy;obtain ⟨c,d,hc,hd,rfl⟩:=ync1 h;have ih:=ywq0 hf fs d w hd;have hn : fd.name ≠ "_" := by simpa using hn
    rw [List.forIn_cons];simp only [if_pos hn,Sem.run_bind,ysl0 hx,ysl0 hy,Result.andThen_ok,hf _ _ _ _ hc];cases c with
    | true=>simpa using ih
    | false=>simp
   .cases h
  .cases h
theorem ykx0 {e:TypeId} {n:Nat} {f:LV->LV->Option Bool} {F:Value->Value->Sem Bool} {xs ys:List LV} (hf:∀ x y b,f x y=some b->∀ w,(F (dec J x) (dec J y)).run P w=.ok b w) :
  ∀ (len i:Nat) (b:Bool) (w:World),eqElems P e n f xs ys len i=some b ->
   (forIn (List.range' i len) ((none,()):Option Bool × Unit) (fun i _=>do
     let a<-part e (decs J xs).toArray (i*n)
     let b<-part e (decs J ys).toArray (i*n)
     let c<-F a b
     if (!c)=true then pure (ForInStep.done (some false,())) else pure (ForInStep.yield (none,()))):Sem (Option Bool × Unit)).run P w=.ok (if b then (none,()) else (some false,())) w
 | 0,i,b,w,h=>by
  injection h with h;subst h;simp
 | len+1,i,b,w,h=>by
  unfold eqElems at h;split at h
  .rename_i x hx;split at h
   .rename_i y hy;obtain ⟨c,d,hc,hd,rfl⟩:=ync1 h;have ih:=ykx0 hf len (i+1) d w hd;rw [List.range'_succ,List.forIn_cons];simp only [Sem.run_bind,ysl0 hx,ysl0 hy,Result.andThen_ok,hf _ _ _ hc];cases c with
    | true=>simpa using ih
    | false=>simp
   .cases h
  .cases h
theorem yje2:∀ (d D:Nat) (t:TypeId) (x y:LV) (b:Bool),d<=D->eqT P d t x y=some b->∀ w,(Op.equalIn D t (dec J x) (dec J y)).run P w=.ok b w
 | 0,_,_,_,_,_,_,h,_=>by cases h
 | d+1,D,t,x,y,b,hD,h,w=>by
  obtain ⟨D,rfl⟩ : ∃ e,D=e+1:=⟨D-1,by omega⟩;unfold eqT at h;split at h
  .rename_i fields hu;split at h
   .rename_i xs ys;replace h:=yna0 h;obtain ⟨hst,h⟩:=h;simp only [dec];unfold Op.equalIn;simp only [Sem.run_bind,run_underlying hu,Result.andThen_ok,run_program,hst,Sem.run_ite,Bool.false_eq_true,if_false];rw [<- Array.forIn_toList];have:=ywq0 (J:=J) (P:=P) (F:=fun t x y=>Op.equalIn D t x y) (f:=eqT P d) (xs:=xs) (ys:=ys) (fun t x y b hb w=>yje2 d D t x y b (by omega) hb w) fields.toList b w h;rw [this];cases b <;> rfl
   .cases h
  .rename_i len elem hu;split at h
   .rename_i xs ys;split at h
    .rename_i n hn;simp only [dec];unfold Op.equalIn;simp only [Sem.run_bind,run_underlying hu,Result.andThen_ok,ybb0 hn];rw [Std.Legacy.Range.forIn_eq_forIn_range'];have:=ykx0 (J:=J) (P:=P) (F:=fun x y=>Op.equalIn D elem x y) (f:=eqT P d elem) (n:=n) (xs:=xs) (ys:=ys) (fun x y b hb w=>yje2 d D elem x y b (by omega) hb w) len 0 b w h;simp only [Std.Legacy.Range.size,Nat.sub_zero,Nat.add_sub_cancel,Nat.div_one];rw [this];cases b <;> rfl
    .cases h
   .cases h
  .rename_i k _ _ hu;unfold yqh0 at h;unfold Op.equalIn;simp only [Sem.run_bind,run_underlying hu,Result.andThen_ok];split at h
   .split at h
    .injection h with h;subst h;rfl
    .cases h
   .split at h
    .obtain ⟨rfl,rfl⟩:=yvi1 h;simp [dec]
    .cases h
   .split at h
    .injection h with h;subst h;simp only [dec,yui1];rw [<- yie2];rfl
    .cases h
   .cases h
  .cases h
end Go.Proofs.YtnpbgnjiihecgaaGreat.Ev
namespace Go.Proofs.YtnpbgnjiihecgaaGreat.Ev
open Go
variable {P:Program} {J:Nat->RB} {H:Heap} {w:World}
theorem ylu1 (D:Nat) {t:TypeId} {kc:Bool} {x y:LV} {b:Bool} (h:eqNil P t kc x y=some b):(Op.equalIn (D+1) t (dec J x) (dec J y)).run P w=.ok b w:=by
 unfold eqNil at h;rw [Op.equalIn];split at h
 .rename_i e hu;simp only [Sem.run_bind,run_underlying hu,Result.andThen_ok]
  split at h <;> first
   | (injection h with h;subst h;rfl)
   | (cases h)
 .rename_i e hu;simp only [Sem.run_bind,run_underlying hu,Result.andThen_ok]
  split at h <;> first
   | (injection h with h;subst h;rfl)
   | (cases h)
 .rename_i e f hu;simp only [Sem.run_bind,run_underlying hu,Result.andThen_ok]
  split at h <;> first
   | (injection h with h;subst h;rfl)
   | (cases h)
 .rename_i e f g hu;simp only [Sem.run_bind,run_underlying hu,Result.andThen_ok]
  split at h <;> first
   | (injection h with h;subst h;rfl)
   | (cases h)
 .rename_i e hu;simp only [Sem.run_bind,run_underlying hu,Result.andThen_ok];split at h
  .replace h:=yaa0 h;obtain ⟨hk,h⟩:=h;injection h with h;subst h;rfl
  .injection h with h;subst h;rfl
  .injection h with h;subst h;rfl
  .cases h
 .cases h
theorem ysf1 (a c:Value) (t:TypeId) (h1:¬ (a=.nilIface/\c=.nilIface)) (h2:∀ l,a≠.agg l) (op:BinOp) (X Y:Operand):(eqGuard op t X Y a c).run P w=.ok () w:=by
 unfold eqGuard
 cases op <;> first
  | rfl
  | (cases a <;> first
    | rfl
    | exact absurd rfl (h2 _)
    | (cases c <;> first
      | rfl
      | exact absurd ⟨rfl,rfl⟩ h1))
theorem yxq0 {t:TypeId} {kc:Bool} {x y:LV} {b:Bool} (h:eqNil P t kc x y=some b):(x=.nili/\y=.nili/\kc=true)\/(¬ (x=.nili/\y=.nili)/\(∀ l,x≠.agg l)/\yta0 x=false/\yta0 y=false):=by
 unfold eqNil at h
 split at h <;> first
  | (split at h <;> first
    | (cases h;done)
    | (replace h:=yaa0 h;obtain ⟨hk,_⟩:=h;exact .inl ⟨rfl,rfl,hk⟩)
    | exact .inr ⟨by simp,by simp,rfl,rfl⟩)
  | (cases h;done)
theorem ywi1 {x:LV} (h:dec J x=.nilIface):x=.nili:=by
 cases x <;> simp [dec] at h <;> rfl
theorem yum2 {x:LV} {l:Array Value} (h:dec J x=.agg l):∃ cs,x=.agg cs:=by
 cases x <;> simp [dec] at h;exact ⟨_,rfl⟩
theorem ytf1 {op:BinOp} {t:TypeId} {X Y:Operand} (h:(isConst X||isConst Y)=true):eqGuard op t X Y .nilIface .nilIface=pure ():=by
 unfold eqGuard;cases X <;> cases Y <;> simp [isConst] at h <;> cases op <;> rfl
theorem yvm2 {op:BinOp} {t:TypeId} {X Y:Operand} {x y:LV} {b:Bool} (h:eqL P t (isConst X||isConst Y) x y=some b) :
  (Op.equal t (dec J x) (dec J y)).run P w=.ok b w/\(eqGuard op t X Y (dec J x) (dec J y)).run P w=.ok () w:=by
 unfold eqL at h;split at h
 .rename_i xs ys;replace h:=yna0 h;obtain ⟨hg,h⟩:=h;refine ⟨yje2 12 Op.maxDepth t _ _ b (by simp [Op.maxDepth]) h w,?_⟩;simp only [dec,eqGuard];cases op <;> simp [hg]
 .split at h
  .rename_i hu;injection h with h;subst h;refine ⟨?_,?_⟩
   .show (Op.equalIn (9999+1) _ _ _).run P w=_;rw [Op.equalIn];simp only [Sem.run_bind,run_underlying hu,Result.andThen_ok];rfl
   .cases op <;> rfl
  .cases h
 .refine ⟨ylu1 9999 h,?_⟩;rcases yxq0 h with ⟨rfl,rfl,hk⟩ | ⟨hn,ha,_,_⟩
  .rw [show dec J .nili=.nilIface from rfl,ytf1 hk];rfl
  .exact ysf1 _ _ t (fun hh=>hn ⟨ywi1 hh.1,ywi1 hh.2⟩) (fun l hl=>by obtain ⟨cs,rfl⟩:=yum2 hl;exact ha cs rfl) op X Y
theorem yoc1 {t:TypeId} {kc:Bool} {x y:LV} {b:Bool} (h:eqL P t kc x y=some b):yta0 x=false/\yta0 y=false:=by
 unfold eqL at h;split at h
 .exact ⟨rfl,rfl⟩
 .exact ⟨rfl,rfl⟩
 .rcases yxq0 h with ⟨rfl,rfl,_⟩ | ⟨_,_,h1,h2⟩
  .exact ⟨rfl,rfl⟩
  .exact ⟨h1,h2⟩
def yys0:LV->Bool
 | .int _ _ | .str _ | .junk | .tup _=>false
 | _=>true
theorem ygq0 {x:LV} (h:yys0 x=true) (t:TypeId) (c:Value):binOp .eql t (dec J x) c=(do pure (.bool (<- Op.equal t (dec J x) c))):=by
 cases x <;> first | (cases h;done) | rfl
theorem yhq0 {x:LV} (h:yys0 x=true) (t:TypeId) (c:Value):binOp .neq t (dec J x) c=(do pure (.bool (!(<- Op.equal t (dec J x) c)))):=by
 cases x <;> first | (cases h;done) | rfl
theorem ypc1 {t:TypeId} {kc:Bool} {x y:LV} {b:Bool} (h:eqL P t kc x y=some b):yys0 x=true:=by
 unfold eqL at h;split at h
 .rfl
 .rfl
 .unfold eqNil at h
  split at h <;> first
   | (split at h <;> first
     | (cases h;done)
     | rfl)
   | (cases h;done)
theorem yju2 {op:BinOp} {t:TypeId} {X Y:Operand} {x y:LV} {a c:Value} {v:LV} (hx:Is J x a) (hy:Is J y c) (h:binL P op t (isConst X||isConst Y) x y=some v) :
  (do eqGuard op t X Y a c;binOp op t a c:Sem Value).run P w=.ok (dec J v) w/\lt H.n v:=by
 unfold binL at h;split at h
 .rename_i k p k' q;rw [hx.eq rfl,hy.eq rfl];have hg:eqGuard op t X Y (dec J (.int k p)) (dec J (.int k' q))=pure ():=by cases op <;> rfl
  rw [hg,pure_bind];cases hs:ybj0 op with
  | true =>
   rw [hs] at h;simp only [cond_true] at h
   have:binOp op t (dec J (.int k p)) (dec J (.int k' q))=Op.shift op k p k' q:=by
    cases op <;> simp [ybj0] at hs <;> rfl
   rw [this];exact yhe2 h
  | false =>
   rw [hs] at h;simp only [cond_false] at h;split at h
   .rename_i e;subst e;exact yju1 hs h
   .cases h
 .rename_i a' b';rw [hx.eq rfl,hy.eq rfl];have hg:eqGuard op t X Y (dec J (.str a')) (dec J (.str b'))=pure ():=by cases op <;> rfl
  rw [hg,pure_bind];exact yku1 h
 .rename_i hni hns;split at h
  .cases he:eqL P t (isConst X||isConst Y) x y with
   | none=>rw [he] at h;cases h
   | some b =>
    rw [he] at h;injection h with h;subst h;obtain ⟨hjx,hjy⟩:=yoc1 he;rw [hx.eq hjx,hy.eq hjy];obtain ⟨h1,h2⟩:=yvm2 (op:=.eql) (J:=J) (w:=w) he;rw [ygq0 (ypc1 he)];simp only [Sem.run_bind,h1,h2,Result.andThen_ok,Sem.run_pure];exact ⟨rfl,trivial⟩
  .cases he:eqL P t (isConst X||isConst Y) x y with
   | none=>rw [he] at h;cases h
   | some b =>
    rw [he] at h;injection h with h;subst h;obtain ⟨hjx,hjy⟩:=yoc1 he;rw [hx.eq hjx,hy.eq hjy];obtain ⟨h1,h2⟩:=yvm2 (op:=.neq) (J:=J) (w:=w) he;rw [yhq0 (ypc1 he)];simp only [Sem.run_bind,h1,h2,Result.andThen_ok,Sem.run_pure];exact ⟨rfl,trivial⟩
  .cases h
theorem un_ok {op:UnOp} {x v:LV} (h:unL op x=some v):(Op.unary op (dec J x)).run P w=.ok (dec J v) w/\lt H.n v:=by
 unfold unL at h;split at h
 .injection h with h;subst h;exact ⟨rfl,trivial⟩
 .injection h with h;subst h;exact ⟨rfl,trivial⟩
 .injection h with h;subst h;exact ⟨rfl,trivial⟩
 .cases h
theorem ywm2 {op:UnOp} {x v:LV} (h:unL op x=some v):yta0 x=false:=by
 unfold unL at h;split at h <;> first | rfl | cases h
theorem ylx0 (hs:Sat J H w) {n:Nat} {x:LV} {cs:List LV} (h:ydc0 H n x=some cs) (hx:lt H.n x):lts H.n cs:=by
 unfold ydc0 at h;split at h
 .replace h:=yaa0 h;obtain ⟨_,h⟩:=h;injection h with h;subst h;trivial
 .replace h:=yaa0 h;obtain ⟨_,h⟩:=h;injection h with h;subst h;trivial
 .rename_i i o l c;split at h
  .rename_i e k cs' hg;replace h:=yaa0 h;obtain ⟨_,h⟩:=h;injection h with h;subst h;have:=ybe2 (hs.wf i hx);rw [hg] at this;simp only [ltObj] at this;rw [ygb0] at this ⊢;intro v hv;rw [yue0,yve0] at hv;exact this v (List.mem_of_mem_drop (List.mem_of_mem_take hv))
  .cases h
 .replace h:=yaa0 h;obtain ⟨_,h⟩:=h;injection h with h;subst h;rw [ykd0,ygb0];intro v hv;obtain ⟨b,_,rfl⟩:=List.mem_map.1 hv;trivial
 .cases h
theorem ybh0 {n:Nat} {x:LV} {cs:List LV} (h:ydc0 H n x=some cs):cs.length=n:=by
 unfold ydc0 at h;split at h
 .replace h:=yaa0 h;obtain ⟨a,h⟩:=h;injection h with h;subst h;rw [beqN a];rfl
 .replace h:=yaa0 h;obtain ⟨a,h⟩:=h;injection h with h;subst h;rw [beqN a];rfl
 .split at h
  .replace h:=yaa0 h;obtain ⟨a,h⟩:=h;injection h with h;subst h;have a:=Nat.le_of_ble_eq_true a;rw [lenL_eq] at a;rw [yue0,yve0,List.length_take,List.length_drop];omega
  .cases h
 .replace h:=yaa0 h;obtain ⟨a,h⟩:=h;injection h with h;subst h;have a:=Nat.le_of_ble_eq_true a;rw [lenL_eq] at a;rw [ykd0,yks0];simp;omega
 .cases h
theorem ykb2 {x:LV} {n:Nat} (h:lenV x=some n):(Builtin.lenOf (dec J x)).run P w=.ok n w:=by
 unfold lenV at h
 split at h <;> first
  | (injection h with h;subst h;first | rfl | (simp only [dec,Builtin.lenOf,yjx0,lenL_eq];rfl))
  | (cases h)
theorem ywh0 (hs:Sat J H w) {size n:Nat} {x:LV} {cs:List LV} (h:ydc0 H (n*size) x=some cs) (hx:lt H.n x) (hst:isStr x=true->size=1) (hn:n*size=0\/∀ i,x≠.emp i) :
  (Builtin.firstCells size n (dec J x)).run P w=.ok (decs J cs).toArray w:=by
 unfold ydc0 at h;split at h
 .replace h:=yaa0 h;obtain ⟨a,h⟩:=h;injection h with h;subst h;rfl
 .rename_i i;replace h:=yaa0 h;obtain ⟨a,h⟩:=h;injection h with h;subst h;simp only [dec,Builtin.firstCells];rw [beqN a];rfl
 .rename_i i o l c;split at h
  .rename_i e k cs' hg;replace h:=yaa0 h;obtain ⟨a,h⟩:=h;injection h with h;subst h;have a:=Nat.le_of_ble_eq_true a;rw [lenL_eq] at a;have ho:=ycx0.2 (hs.obj i hx);rw [hg] at ho;simp only [dec,Builtin.firstCells,yue0,yve0];exact yss0 ho o (n*size) a
  .cases h
 .rename_i s;replace h:=yaa0 h;obtain ⟨a,h⟩:=h;injection h with h;subst h;have a:=Nat.le_of_ble_eq_true a;rw [lenL_eq] at a;have h1:size=1:=hst rfl;subst h1;rw [Nat.mul_one] at a ⊢;simp only [dec,Builtin.firstCells,Sem.run_pure,ykd0,yks0]
  congr 1
  apply Array.ext';simp only [yvb0,List.map_map]
  have:(ByteArray.extract ⟨s.toArray⟩ 0 n).data.toList=s.take n:=by
   rw [ByteArray.data_extract];simp
  rw [Array.toList_map,this];rfl
 .cases h
end Go.Proofs.YtnpbgnjiihecgaaGreat.Ev
