/- What the model's small steps do, in the words of the local heap. Each operation: what the evaluator says of it, the model does. Operations that make values of parts, and rows. Operations on values alone. Comparing, converting, slicing. -/
import Derived.Test.YtnpbgnjiihecgaaGreatLa
import Derived.Laws.Entries
import Derived.Laws.Cells
import Derived.Laws.Strings
namespace Go.Proofs.YtnpbgnjiihecgaaGreat.Ev
open Go
variable {P:Program}
theorem ydb0 {t:TypeId} {n:Nat} (h:sizeOfT P t=some n) (w:World):(sizeOf t).run P w=.ok n w:=by
 unfold sizeOfT at h;cases hi:P.info? t with
 | none=>rw [hi] at h;cases h
 | some i =>
  rw [hi] at h;simp only [Option.map_some,Option.some.injEq] at h;simp [sizeOf,typeInfo,hi,h]
theorem ycg0 {t:TypeId} {i:TypeInfo} (h:P.info? t=some i) (w:World):(typeInfo t).run P w=.ok i w:=by simp [typeInfo,h]
theorem yto0 {t:TypeId} {b:Bool} (h:aggOf P t=some b) (w:World):(isAgg t).run P w=.ok b w:=by
 unfold aggOf at h;cases hu:P.underlying t with
 | none=>rw [hu] at h;cases h
 | some d =>
  rw [hu] at h;unfold isAgg;simp only [Sem.run_bind,run_underlying hu,Result.andThen_ok];cases d <;> simp only [Option.some.injEq] at h <;> subst h <;> rfl
theorem ymh0 (g o j:Nat):(⟨g,o,none⟩ : Addr).add j=⟨g,o+j,none⟩:=by
 unfold Addr.add;split <;> simp_all
theorem yrv1 {w:World} {a:Addr} {v:Value} (h:w.cell? a=some v):(load a).run P w=.ok v w:=by simp [h]
theorem ymp0 (J:Nat->RB):∀ (v:Value),ywa0 (yzj0 v)=false->dec J (yzj0 v)=v:=by
 intro v h;cases v with
 | bool b=>rfl
 | int k n=>rfl
 | string s=>simp [yzj0,dec]
 | pointer a=>cases a <;> first | rfl | cases h
 | slice a l c =>
  cases a with
  | none =>
   cases l <;> cases c <;> first | rfl | cases h
  | some a=>cases h
 | map r=>cases r <;> first | rfl | cases h
 | nilFunc=>rfl
 | nilIface=>rfl
 | _=>cases h
theorem yjm0 (J:Nat->RB):∀ (l:List Value),yvk0 (l.map yzj0)=true->decs J (l.map yzj0)=l
 | [],_=>rfl
 | v::vs,h=>by
  simp only [List.map_cons] at h ⊢;obtain ⟨a,b⟩:=(yqr0 _ _).1 h;simp only [decs,ymp0 J v a,yjm0 J vs b]
theorem yxt0 (n:Nat) (v:Value):lt n (yzj0 v):=by
 unfold yzj0;split <;> trivial
theorem yky0 (n:Nat) (l:List Value):lts n (l.map yzj0):=by
 rw [yhb0];intro v hv;obtain ⟨x,_,rfl⟩:=List.mem_map.1 hv;exact yxt0 n x
theorem yxd1 (J:Nat->RB) (v:Value) (h:ywa0 (ofVal v)=false):dec J (ofVal v)=v:=by
 unfold ofVal at h ⊢;split at h
 .rename_i cs;simp only at h ⊢;cases hn:yvk0 (cs.toList.map yzj0) with
  | false=>rw [hn] at h;cases h
  | true=>simp only [cond_true,dec,yjm0 J _ hn]
 .rename_i t v;simp only at h ⊢;cases hn:ywa0 (yzj0 v) with
  | true=>rw [hn] at h;cases h
  | false=>simp only [cond_false,dec,ymp0 J v hn]
 .rename_i cs;simp only at h ⊢;cases hn:yvk0 (cs.toList.map yzj0) with
  | false=>rw [hn] at h;cases h
  | true=>simp only [cond_true,dec,yjm0 J _ hn]
 .exact ymp0 J _ h
theorem yfk1 (n:Nat) (v:Value):lt n (ofVal v):=by
 unfold ofVal;split
 .simp only;cases yvk0 _ <;> simp only [cond_true,cond_false,lt];exact yky0 _ _
 .simp only;cases ywa0 _ <;> simp only [cond_true,cond_false,lt];exact yxt0 _ _
 .simp only;cases yvk0 _ <;> simp only [cond_true,cond_false,lt];exact yky0 _ _
 .exact yxt0 _ _
theorem ytd0 {t:TypeId} {z:LV} (h:zeroOf P t=some z) (J:Nat->RB) (w:World):(zeroValue t).run P w=.ok (dec J z) w/\ywa0 z=false/\∀ n,lt n z:=by
 unfold zeroOf at h;cases hi:P.info? t with
 | none=>rw [hi] at h;cases h
 | some i =>
  simp only [hi] at h;cases hz:i.zero with
  | none=>simp only [hz] at h;cases h
  | some v =>
   simp only [hz] at h;obtain ⟨hj,hv⟩:=yna0 h;simp only [Option.some.injEq] at hv;subst hv;refine ⟨?_,hj,fun n=>yfk1 n v⟩;rw [yxd1 J v hj];simp [zeroValue,typeInfo,hi,hz]
theorem yue0 (J:Nat->RB) (v:LV):(dec J v).cells=(decs J (cellsOf v)).toArray:=by
 cases v <;> simp [dec,decs,cellsOf,Value.cells]
theorem yqe0 {n:Nat} {v:LV} (h:lt n v):lts n (cellsOf v):=by
 cases v <;> simp_all [lt,lts,cellsOf]
theorem yma0 (J:Nat->RB) (l:List LV):(decs J l).length=l.length:=by rw [ywb0];simp
theorem ywg0 (J:Nat->RB) {v:LV} (h:ysn0 v=true):(dec J v).oneCell'=true:=by
 cases v <;> simp_all [ysn0,dec,Value.oneCell']
theorem SatObj.cell {J:Nat->RB} {r:RB} {w:World} {e:TypeId} {k:Own} {cs:List LV} (h:SatObj J r w (.cells e k cs)) {j:Nat} {v:LV} (hv:cs[j]?=some v) :
  w.cell? ⟨r.blk,r.off+j,none⟩=some (dec J v):=by
 have hj:j<cs.length:=(List.getElem?_eq_some_iff.1 hv).1;have hd:(decs J cs)[j]?=some (dec J v):=by rw [ywb0,List.getElem?_map,hv];rfl
 cases k with
 | ro=>exact h j v hv
 | exact =>
  obtain ⟨h0,lo,hi,_,hh⟩:=h;simp only [World.cell?,hh,h0,Nat.zero_add,Option.isSome_none,Bool.false_eq_true,if_false,List.getElem?_toArray,hd]
 | grow sz =>
  obtain ⟨h0,lo,hi,spare,_,_,_,hh⟩:=h;simp only [World.cell?,hh,h0,Nat.zero_add,Option.isSome_none,Bool.false_eq_true,if_false,List.getElem?_toArray];rw [List.getElem?_append_left (by rw [yma0];exact hj),hd]
theorem yyt0 {J:Nat->RB} {r:RB} {w:World} {e:TypeId} {k:Own} {cs:List LV} (h:SatObj J r w (.cells e k cs)) (o n:Nat) (hn:o+n<=cs.length) :
  (loadCells ⟨r.blk,r.off+o,none⟩ n).run P w=.ok (decs J ((cs.drop o).take n)).toArray w:=by
 have hlen:((cs.drop o).take n).length=n:=by simp;omega
 have:=run_loadCells_list (P:=P) w ⟨r.blk,r.off+o,none⟩ (decs J ((cs.drop o).take n)) (fun j v hv=>by
  rw [ywb0,List.getElem?_map] at hv;cases hx:((cs.drop o).take n)[j]? with
  | none=>rw [hx] at hv;cases hv
  | some x =>
   rw [hx] at hv;simp only [Option.map_some,Option.some.injEq] at hv;subst hv;rw [ymh0,Nat.add_assoc];refine h.cell ?_;rw [List.getElem?_take] at hx;split at hx
   .rwa [List.getElem?_drop] at hx
   .cases hx)
 rwa [yma0,hlen] at this
theorem ykm0 {t:TypeId} {cs:List LV} {off:Nat} {v:LV} (h:partOf P t cs off=some v) :
  (aggOf P t=some true/\∃ n,sizeOfT P t=some n/\off+n<=cs.length/\v=.agg ((cs.drop off).take n))\/(aggOf P t=some false/\cs[off]?=some v):=by
 unfold partOf at h;split at h
 .rename_i ha;refine .inl ⟨ha,?_⟩;cases hn:sizeOfT P t with
  | none=>rw [hn] at h;cases h
  | some n =>
   rw [hn] at h;obtain ⟨a,b⟩:=yaa0 h;simp only [Option.some.injEq] at b;rw [lenL_eq] at a;exact ⟨n,rfl,Nat.le_of_ble_eq_true a,by rw [<- b,yaf0,ybf0]⟩
 .rename_i ha;rw [ylv1] at h;exact .inr ⟨ha,h⟩
 .cases h
theorem yzt0 {n:Nat} {t:TypeId} {cs:List LV} {off:Nat} {v:LV} (h:partOf P t cs off=some v) (hl:lts n cs):lt n v:=by
 rw [yhb0] at hl;rcases ykm0 h with ⟨_,m,_,_,rfl⟩ | ⟨_,hv⟩
 .simp only [lt];rw [yhb0];intro x hx;exact hl x (List.mem_of_mem_drop (List.mem_of_mem_take hx))
 .exact hl v (List.mem_of_getElem? hv)
theorem yah1 {J:Nat->RB} {r:RB} {w:World} {e:TypeId} {k:Own} {cs:List LV} (h:SatObj J r w (.cells e k cs)) {t:TypeId} {o:Nat} {v:LV} (hv:partOf P t cs o=some v) :
  (loadVar t ⟨r.blk,r.off+o,none⟩).run P w=.ok (dec J v) w:=by
 unfold loadVar;rcases ykm0 hv with ⟨ha,n,hn,hle,rfl⟩ | ⟨ha,hc⟩
 .simp only [Sem.run_bind,yto0 ha,Result.andThen_ok,if_true,ydb0 hn,yyt0 h o n hle];rfl
 .simp only [Sem.run_bind,yto0 ha,Result.andThen_ok,Bool.false_eq_true,if_false,yrv1 (h.cell hc)]
theorem ylm0 {J:Nat->RB} {t:TypeId} {cs:List LV} {off:Nat} {v:LV} (hv:partOf P t cs off=some v) (w:World) :
  (part t (decs J cs).toArray off).run P w=.ok (dec J v) w:=by
 unfold part;rcases ykm0 hv with ⟨ha,n,hn,hle,rfl⟩ | ⟨ha,hc⟩
 .simp only [Sem.run_bind,yto0 ha,Result.andThen_ok,if_true,ydb0 hn];simp only [Sem.run_pure,dec,ywb0,List.map_take,List.map_drop]
  congr 2
  apply Array.ext';simp
 .simp only [Sem.run_bind,yto0 ha,Result.andThen_ok,Bool.false_eq_true,if_false];rw [ywb0,List.getElem?_toArray,List.getElem?_map,hc];rfl
def putO (w:World) (g:Nat) (O:Obj):World:={ w with heap:=w.heap.setIfInBounds g O }
theorem ykb0 {w:World} {g:Nat} {O:Obj} (h:g<w.heap.size):(putO w g O).heap[g]?=some O:=by simp [putO,h]
theorem yib0 {w:World} {g b:Nat} {O:Obj} (h:b≠g):(putO w g O).heap[b]?=w.heap[b]?:=by
 simp only [putO];rw [Array.getElem?_setIfInBounds_ne (Ne.symm h)]
theorem ysv1 (w:World) (g:Nat) (O O' : Obj):putO (putO w g O) g O'=putO w g O':=by
 simp only [putO];congr 1;apply Array.ext';simp
theorem ytv1 {w:World} {g:Nat} {O:Obj} (h:w.heap[g]?=some O):putO w g O=w:=by
 have:w.heap.setIfInBounds g O=w.heap:=by
  apply Array.ext_getElem?;intro i;rw [Array.getElem?_setIfInBounds];split
  .rename_i e;subst e;have hlt:g<w.heap.size:=(Array.getElem?_eq_some_iff.1 h).1;rw [h];simp [hlt]
  .rfl
 simp only [putO,this]
theorem setCell_eq {w:World} {g j:Nat} {cur:Array Value} {e:TypeId} {fr:Nat × Nat} (v:Value) (h:w.heap[g]?=some (.cells cur e fr)) :
  w.setCell ⟨g,j,none⟩ v=putO w g (.cells (cur.setIfInBounds j v) e fr):=by
 simp only [World.setCell,putO]
 congr 1
 apply Array.ext_getElem?;intro i;rw [Array.getElem?_modify,Array.getElem?_setIfInBounds];by_cases hi:g=i
 .subst hi;have hlt:g<w.heap.size:=(Array.getElem?_eq_some_iff.1 h).1;rw [h];simp [hlt]
 .simp [hi]
theorem yxg0 (g o:Nat) (e:TypeId) (fr:Nat × Nat):∀ (vs:List Value) (i:Nat) (cur:Array Value) (w:World),w.heap[g]?=some (.cells cur e fr) ->
  (∀ j,j<cur.size->¬ (fr.1<=j/\j<fr.2))->o+i+vs.length<=cur.size->(∀ v∈vs,v.oneCell'=true) ->
  (storeCells ⟨g,o,none⟩ vs i).run P w=.ok () (putO w g (.cells (cur.toList.take (o+i)++vs++cur.toList.drop (o+i+vs.length)).toArray e fr))
 | [],i,cur,w,hg,_,_,_=>by
  simp only [storeCells,List.append_nil,List.length_nil,Nat.add_zero,List.take_append_drop,Array.toArray_toList];rw [ytv1 hg];rfl
 | v::rest,i,cur,w,hg,hfz,hl,h1=>by
  simp only [List.length_cons] at hl;have hi:o+i<cur.size:=by omega
  have hlt:g<w.heap.size:=(Array.getElem?_eq_some_iff.1 hg).1;have hcell:w.cell? ⟨g,o+i,none⟩=some cur[o+i]:=by simp [World.cell?,hg,hi]
  have hfro:w.frozen? ⟨g,o+i,none⟩=false:=by
   have:=hfz (o+i) hi;simp only [World.frozen?,hg];rw [Bool.eq_false_iff];intro hc;simp only [Bool.and_eq_true,decide_eq_true_eq] at hc;exact this hc
  have hst:(store ((⟨g,o,none⟩ : Addr).add i) v).run P w=.ok () (putO w g (.cells (cur.setIfInBounds (o+i) v) e fr)):=by
   rw [ymh0,run_store P w _ v _ (h1 v (by simp)),hcell];simp [hfro,setCell_eq v hg]
  have ih:=yxg0 g o e fr rest (i+1) (cur.setIfInBounds (o+i) v) (putO w g (.cells (cur.setIfInBounds (o+i) v) e fr)) (ykb0 hlt) (by simpa using hfz) (by simp;omega) (fun x hx=>h1 x (by simp [hx]));simp only [storeCells,Sem.run_bind,hst,Result.andThen_ok,ih,ysv1]
  congr 4
  simp only [Array.toList_setIfInBounds];have ho:o+i<cur.toList.length:=by simpa using hi
  rw [show o+(i+1)=o+i+1 by omega,List.take_succ_eq_append_getElem (by simpa using ho),List.take_set_of_le (Nat.le_refl _),List.getElem_set_self];rw [show o+i+1+rest.length=o+i+(v::rest).length by simp;omega,List.drop_set_of_lt (by simp)];simp
end Go.Proofs.YtnpbgnjiihecgaaGreat.Ev
namespace Go.Proofs.YtnpbgnjiihecgaaGreat.Ev
open Go
variable {P:Program}
def yco2 (J:Nat->RB) (v:LV):Next->Prop
 | .value v'=>v=.junk\/v'=dec J v
 | .skip=>v=yke0
 | _=>False
def yrf2 (P:Program) (J:Nat->RB) (H:Heap) (w:World) (s:Sem Next) (r:OpR):Prop :=
 ∃ J' w' nx,s.run P w=.ok nx w'/\yco2 J' r.v nx/\Moved J H w J' r.H w'/\lt r.H.n r.v
def Is (J:Nat->RB) (l:LV) (v:Value):Prop:=l=.junk\/v=dec J l
theorem Is.eq {J:Nat->RB} {l:LV} {v:Value} (h:Is J l v) (hj:ywa0 l=false):v=dec J l:=by
 rcases h with rfl | h
 .cases hj
 .exact h
def val (s:Sem Value):Sem Next:=do pure (.value (<- s))
def unit (s:Sem Unit):Sem Next:=do s;pure .skip
theorem yff0 {s:Sem Value} {w w' : World} {v:Value} (h:s.run P w=.ok v w'):(val s).run P w=.ok (.value v) w':=by
 simp [val,h]
theorem ybb1 {s:Sem Unit} {w w' : World} (h:s.run P w=.ok () w'):(unit s).run P w=.ok .skip w':=by
 simp [unit,h]
theorem yxb0 {J:Nat->RB} {H:Heap} {w:World} (hs:Sat J H w) {s:Sem Value} {v:LV} {k:Kd} (h:s.run P w=.ok (dec J v) w) (hl:lt H.n v) :
  yrf2 P J H w (val s) ⟨v,H,k⟩ :=
 ⟨J,w,_,yff0 h,.inr rfl,Moved.refl hs,hl⟩
theorem yvc0 {H:Heap} {o:Option LV} {r:OpR} (h:pureR H o=some r):∃ v,o=some v/\r=⟨v,H,.pure⟩:=by
 cases o with
 | none=>cases h
 | some v=>exact ⟨v,rfl,by injection h with h;exact h.symm⟩
theorem yoi0 {H:Heap} {x:LV} {o:Option LV} {r:OpR} (h:loadR H x o=some r):∃ v k,o=some v/\r=⟨v,H,k⟩:=by
 cases o with
 | none=>cases h
 | some v=>exact ⟨v,_,rfl,by injection h with h;exact h.symm⟩
theorem ycc0 {o:Option (LV × Heap)} {r:OpR} (h:yuc0 o=some r):∃ v H,o=some (v,H)/\r=⟨v,H,.change⟩:=by
 cases o with
 | none=>cases h
 | some x=>exact ⟨x.1,x.2,rfl,by injection h with h;exact h.symm⟩
section
variable {J:Nat->RB} {H:Heap} {w:World}
theorem yzc2 (hs:Sat J H w) {t:TypeId} {x:LV} {v:LV} (h:loadL P t H x=some v) (hx:lt H.n x):(Instr.loadAt t (dec J x)).run P w=.ok (dec J v) w/\lt H.n v:=by
 unfold loadL at h;split at h
 .rename_i i o;split at h
  .rename_i e k cs hg;have hi:i<H.n:=hx;have ho:=yfy0.2 (hs.obj i hi);rw [hg] at ho;refine ⟨?_,yzt0 h (by have:=ypf2 (hs.wf i hi);rw [hg] at this;exact this)⟩;simp only [Instr.loadAt,dec,Instr.sureAddr,pure_bind];exact yah1 ho h
  .cases h
 .cases h
theorem yau0 (hs:Sat J H w) (t:TypeId) (cs:List LV) (hl:lts H.n cs) :
  ∃ J',Moved J H w J' (H.push (.cells t .exact cs)) { w with heap:=w.heap.push (.cells (decs J cs).toArray t) }/\J' H.n=⟨w.heap.size,0,0,default,0⟩:=by
 refine ⟨upRho J H.n ⟨w.heap.size,0,0,default,0⟩,Moved.push hs _ (.cells (decs J cs).toArray t) _ rfl rfl rfl rfl rfl ?_ ?_,yoa0 _ _ _⟩
 .simp only [ltObj];exact ykh0 (by omega) cs hl
 .simp only [SatObj];refine ⟨trivial,0,0,by omega,?_⟩;rw [yne0 (yka0 J H.n _) cs hl];simp
theorem ydo2 (hs:Sat J H w) {t:TypeId} {v:LV} {p:LV} {H' : Heap} (h:boxL t H v=some (p,H')) (hl:lt H.n v) :
  ∃ J' w',(do pure (.pointer (some (<- newVar t (dec J v)))):Sem Value).run P w=.ok (dec J' p) w'/\Moved J H w J' H' w'/\lt H'.n p:=by
 unfold boxL at h;replace h:=yna0 h;obtain ⟨hj,h⟩:=h;simp only [Option.some.injEq,Prod.mk.injEq] at h;obtain ⟨rfl,rfl⟩:=h;obtain ⟨J',hm,hr⟩:=yau0 hs t (cellsOf v) (yqe0 hl);refine ⟨J',_,?_,hm,by simp only [lt,Heap.n_push];omega⟩;simp [newVar,newRow,yue0,dec,hr]
theorem ybu0 (hs:Sat J H w) {t:TypeId} {a v:LV} {H' : Heap} (h:storeL0 P t H a v=some H') (ha:lt H.n a) (hv:lt H.n v) :
  ∃ w',(Instr.storeAt t (dec J a) (dec J v)).run P w=.ok () w'/\Moved J H w J H' w':=by
 unfold storeL0 at h;replace h:=yna0 h;obtain ⟨hj,h⟩:=h;split at h
 .rename_i i o;split at h
  .cases h
  .rename_i e k cs hnr hg;split at h
   .rename_i n hn;simp only at h;replace h:=yaa0 h;obtain ⟨h1,h⟩:=h;replace h:=yaa0 h;obtain ⟨h2,h⟩:=h;replace h:=yaa0 h;obtain ⟨h3,h⟩:=h;replace h:=yaa0 h;obtain ⟨h4,h⟩:=h;simp only [Option.some.injEq] at h;subst h;have hi:i<H.n:=bltN.1 h4;have h2:=beqN h2;have h3:=Nat.le_of_ble_eq_true h3;rw [lenL_eq] at h2 h3;have ho:=hs.obj i hi;rw [hg] at ho;have hown:(H.get i).owns=true:=by rw [hg];cases k <;> first | rfl | exact (hnr rfl).elim
    have hwf:=hs.wf i hi;rw [hg] at hwf;have hlen:(yeb0 cs o (cellsOf v)).length=cs.length:=yzd0 _ _ _ (by omega)
    have hl:ltObj H.n (.cells e k (yeb0 cs o (cellsOf v))):=by
     simp only [ltObj] at hwf ⊢;rw [yac0 _ _ _ (by omega),yhb0];rw [yhb0] at hwf;have hc:=(yhb0 _ _).1 (yqe0 hv);intro x hx;simp only [List.append_assoc,List.mem_append] at hx;rcases hx with hx | hx | hx
     .exact hwf x (List.mem_of_mem_take hx)
     .exact hc x hx
     .exact hwf x (List.mem_of_mem_drop hx)
    -- the store itself
    have main:∀ (cur:Array Value) (fr:Nat × Nat),(J i).off=0->w.heap[(J i).blk]?=some (.cells cur e fr)->(∀ j,j<cur.size->¬ (fr.1<=j/\j<fr.2))->cs.length<=cur.size ->
      (Instr.storeAt t (dec J (.ptr i o)) (dec J v)).run P w=.ok () (putO w (J i).blk (.cells (cur.toList.take o++decs J (cellsOf v)++cur.toList.drop (o+n)).toArray e fr)):=by
     intro cur fr h0 hh hfr hsz;simp only [Instr.storeAt,dec,Instr.sureAddr,pure_bind,storeVar,Sem.run_bind,ydb0 hn,Result.andThen_ok,yue0,h0,Nat.zero_add];have hc:(decs J (cellsOf v)).length=n:=by rw [yma0];exact h2
     simp only [List.size_toArray,hc,ne_eq,not_true_eq_false,if_false]
     have:=yxg0 (P:=P) (J i).blk o e fr (decs J (cellsOf v)) 0 cur w hh hfr (by omega) (by
      intro x hx;rw [ywb0,List.mem_map] at hx;obtain ⟨y,hy,rfl⟩:=hx
      exact ywg0 J (ysg0 h1 y hy))
     simp only [Nat.add_zero,hc] at this;exact this
    have hdec:decs J (yeb0 cs o (cellsOf v))=(decs J cs).take o++decs J (cellsOf v)++(decs J cs).drop (o+n):=by
     rw [yac0 _ _ _ (by omega)];simp only [ywb0,List.map_append,List.map_take,List.map_drop];rw [h2]
    have hblk:=hs.inside i hi (LObj.sits_of_owns hown);cases k with
    | ro=>exact (hnr rfl).elim
    | exact =>
     obtain ⟨h0,lo,hi',hfr,hh⟩:=ho;refine ⟨_,main _ _ h0 hh (by simpa [yma0] using hfr) (by simp [yma0]),?_⟩;refine Moved.put hs hi hown _ (fun b hb=>yib0 hb) (by simp [putO]) rfl rfl rfl hl ?_;refine ⟨h0,lo,hi',by rw [hlen];exact hfr,?_⟩;rw [ykb0 hblk,hdec]
    | grow sz =>
     obtain ⟨h0,lo,hi',spare,hfr,hc1,hcap,hh⟩:=ho;refine ⟨_,main _ _ h0 hh (by simpa [yma0] using hfr) (by simp [yma0]),?_⟩;refine Moved.put hs hi hown _ (fun b hb=>yib0 hb) (by simp [putO]) rfl rfl rfl hl ?_;refine ⟨h0,lo,hi',spare,by rw [hlen];exact hfr,by rw [hlen];exact hc1,by rw [hlen];exact hcap,?_⟩;rw [ykb0 hblk,hdec];have hb:o+n<=(decs J cs).length:=by rw [yma0];omega
     simp only [List.take_append_of_le_length (show o<=(decs J cs).length by omega),List.drop_append_of_le_length hb,List.append_assoc]
   .cases h
  .cases h
 .cases h
end
end Go.Proofs.YtnpbgnjiihecgaaGreat.Ev
namespace Go.Proofs.YtnpbgnjiihecgaaGreat.Ev
open Go
variable {P:Program}
theorem ygk1 (off:Nat):∀ (vs:List Value) (k:Nat) (cur:Array Value),off+k+vs.length<=cur.size ->
  (vs.zipIdx k).foldl (fun cs (x:Value × Nat)=>cs.setIfInBounds (off+x.2) x.1) cur=(cur.toList.take (off+k)++vs++cur.toList.drop (off+k+vs.length)).toArray
 | [],k,cur,_=>by simp
 | v::vs,k,cur,h=>by
  simp only [List.length_cons] at h;simp only [List.zipIdx_cons,List.foldl_cons];rw [ygk1 off vs (k+1) (cur.setIfInBounds (off+k) v) (by simp;omega)]
  congr 1
  simp only [Array.toList_setIfInBounds];have ho:off+k<cur.toList.length:=by simp;omega
  rw [show off+(k+1)=off+k+1 by omega,List.take_succ_eq_append_getElem (by simpa using ho),List.take_set_of_le (Nat.le_refl _),List.getElem_set_self];rw [show off+k+1+vs.length=off+k+(v::vs).length by simp;omega,List.drop_set_of_lt (by simp)];simp
def partsOf {Z:Type} (f:Operand->Z) (l:List (Nat × Operand)):List (Nat × Z):=l.map fun x=>(x.1,f x.2)
theorem ycu0 (ev:Operand->LV):∀ (l:List (Nat × Operand)),zipL (l.map (·.1)) ((l.map (·.2)).map ev)=partsOf ev l
 | []=>rfl
 | x::l=>by simp only [List.map_cons,zipL,partsOf];rw [ycu0 ev l];rfl
theorem yyd1 {J:Nat->RB} {n:Nat} {ev:Operand->LV} {rv:Operand->Value} {pl pr:Nat->Option (Nat × Nat)} (hp:∀ i p,pl i=some p->pr i=some p) :
  ∀ (l:List (Nat × Operand)) (cs cs' : List LV),(∀ x∈l.map (·.2),Is J (ev x) (rv x)/\lt n (ev x))->lts n cs->fillL pl cs (partsOf ev l)=some cs' ->
   Instr.fill pr (decs J cs).toArray (partsOf rv l)=some (decs J cs').toArray/\lts n cs'/\cs'.length=cs.length
 | [],cs,cs',_,hl,h=>by
  simp only [partsOf,List.map_nil,fillL,Option.some.injEq] at h;subst h;exact ⟨rfl,hl,rfl⟩
 | (i,x)::l,cs,cs',hx,hl,h=>by
  simp only [partsOf,List.map_cons,fillL] at h;split at h
  .cases h
  .rename_i off size hpl;replace h:=yna0 h;obtain ⟨hj,h⟩:=h;replace h:=yaa0 h;obtain ⟨h1,h⟩:=h;replace h:=yaa0 h;obtain ⟨h2,h⟩:=h;have h1:=beqN h1;have h2:=Nat.le_of_ble_eq_true h2;rw [lenL_eq] at h1 h2;obtain ⟨hi,hlx⟩:=hx x (by simp);have hd:=hi.eq hj;have hlen:(yeb0 cs off (cellsOf (ev x))).length=cs.length:=yzd0 _ _ _ (by omega)
   have hlt:lts n (yeb0 cs off (cellsOf (ev x))):=by
    rw [yac0 _ _ _ (by omega),yhb0];rw [yhb0] at hl;have hc:=(yhb0 _ _).1 (yqe0 hlx);intro y hy;simp only [List.append_assoc,List.mem_append] at hy;rcases hy with hy | hy | hy
    .exact hl y (List.mem_of_mem_take hy)
    .exact hc y hy
    .exact hl y (List.mem_of_mem_drop hy)
   obtain ⟨r1,r2,r3⟩:=yyd1 hp l _ cs' (fun y hy=>hx y (by simp only [List.map_cons,List.mem_cons];exact .inr hy)) hlt h;refine ⟨?_,r2,by rw [r3,hlen]⟩;simp only [partsOf,List.map_cons,Instr.fill,hp i _ hpl];have hcs:(rv x).cells.size=size:=by rw [hd,yue0];simp [yma0,h1]
   have hno:((rv x).cells.size != size||decide (off+(rv x).cells.size>(decs J cs).toArray.size))=false:=by
    simp [hcs,yma0];omega
   have hfold:(rv x).cells.zipIdx.foldl (fun cs (x:Value × Nat)=>cs.setIfInBounds (off+x.2) x.1) (decs J cs).toArray=(decs J (yeb0 cs off (cellsOf (ev x)))).toArray:=by
    rw [<- Array.foldl_toList,Array.toList_zipIdx,hd,yue0];have:=ygk1 off (decs J (cellsOf (ev x))) 0 (decs J cs).toArray (by simp [yma0];omega);simp only [Nat.add_zero] at this;rw [this,yac0 _ _ _ (by omega)];simp [ywb0]
   simp only [partsOf] at r1;rw [if_neg]
   .rw [<- r1];congr 1
   .intro hc;simp only [hcs,ne_eq,not_true_eq_false,decide_false,Bool.false_or,decide_eq_true_eq,List.size_toArray,yma0] at hc;omega
theorem yvr0:∀ (fs:List Field) (w:World),allSized P fs=true ->
  ∃ l,(fs.mapM fun f=>do pure (f.offset,<- sizeOf f.type):Sem (List (Nat × Nat))).run P w=.ok l w/\∀ i p,fieldPlaces P fs i=some p->l[i]?=some p
 | [],w,_=>⟨[],by simp,fun i p h=>by cases h⟩
 | f::fs,w,h=>by
  unfold allSized at h;split at h
  .rename_i s hs;obtain ⟨l,hl,hp⟩:=yvr0 fs w h;refine ⟨(f.offset,s)::l,?_,?_⟩
   .simp only [List.mapM_cons,Sem.run_bind,ydb0 hs,Result.andThen_ok,Sem.run_pure,hl]
   .intro i p hi;unfold fieldPlaces at hi;cases i with
    | zero =>
     simp only [Nat.beq,cond_true,hs,Option.map_some,Option.some.injEq] at hi;simp [hi]
    | succ i =>
     have:Nat.beq (i+1) 0=false:=rfl;rw [this] at hi;simp only [cond_false,Nat.add_sub_cancel] at hi;simpa using hp i p hi
  .cases h
theorem ysf2 {J:Nat->RB} {n:Nat} {w:World} {ev:Operand->LV} {rv:Operand->Value} {t:TypeId} {ps:Array (Nat × Operand)} {v:LV}
  (hx:∀ x∈ps.toList.map (·.2),Is J (ev x) (rv x)/\lt n (ev x)) (h:buildL P t (partsOf ev ps.toList)=some v) :
  (Instr.build t (ps.map fun (i,x)=>(i,rv x))).run P w=.ok (dec J v) w/\lt n v:=by
 unfold buildL at h;split at h
 .cases h
 .rename_i z hz;obtain ⟨hrz,hjz,hlz⟩:=ytd0 hz J w;have hpl:(ps.map fun (i,x)=>(i,rv x)).toList=partsOf rv ps.toList:=by simp [partsOf]
  have hlc:=yqe0 (hlz n);split at h
  .rename_i fields hu;replace h:=yaa0 h;obtain ⟨hsz,h⟩:=h;cases hf:fillL (fieldPlaces P fields.toList) (cellsOf z) (partsOf ev ps.toList) with
   | none=>rw [hf] at h;cases h
   | some cs =>
    rw [hf] at h;simp only [Option.map_some,Option.some.injEq] at h;subst h;obtain ⟨l,hl,hp⟩:=yvr0 (P:=P) fields.toList w hsz;obtain ⟨r1,r2,_⟩:=yyd1 (J:=J) (rv:=rv) hp ps.toList (cellsOf z) cs hx hlc hf;refine ⟨?_,r2⟩
    have hm:(fields.mapM fun f=>do pure (f.offset,<- sizeOf f.type):Sem (Array (Nat × Nat))).run P w=.ok l.toArray w:=by
     rw [Array.mapM_eq_mapM_toList];simp only [Sem.run_map,hl,Result.andThen_ok]
    unfold Instr.build;simp only [Sem.run_bind,hrz,Result.andThen_ok,run_underlying hu,hm,hpl,yue0,List.getElem?_toArray,r1];rfl
  .rename_i k elem hu;split at h
   .rename_i size hs;cases hf:fillL (fun i=>some (i*size,size)) (cellsOf z) (partsOf ev ps.toList) with
    | none=>rw [hf] at h;cases h
    | some cs =>
     rw [hf] at h;simp only [Option.map_some,Option.some.injEq] at h;subst h;obtain ⟨r1,r2,_⟩:=yyd1 (J:=J) (rv:=rv) (fun i p h=>h) ps.toList (cellsOf z) cs hx hlc hf;refine ⟨?_,r2⟩;unfold Instr.build;simp only [Sem.run_bind,hrz,Result.andThen_ok,run_underlying hu,ydb0 hs,hpl,yue0,r1];rfl
   .cases h
  .cases h
theorem ywr0 (z:List LV):∀ (n i:Nat),i<n*z.length->(yrb0 z n)[i]?=z[i % z.length]?
 | 0,i,h=>by simp at h
 | n+1,i,h=>by
  rw [yak0];by_cases hi:i<z.length
  .rw [List.getElem?_append_left hi,Nat.mod_eq_of_lt hi]
  .have hz:z.length<=i:=by omega
   rw [List.getElem?_append_right hz,ywr0 z n (i-z.length) (by rw [Nat.succ_mul] at h;omega)];rw [<- Nat.mod_eq_sub_mod hz]
theorem ycb1 (J:Nat->RB) (z:List LV) (m:Nat) (hz:z.length≠0):((Array.range (m*z.length)).map ((decs J z).toArray[· % (decs J z).toArray.size]!))=(decs J (yrb0 z m)).toArray:=by
 apply Array.ext';simp only [Array.toList_map,Array.toList_range,List.size_toArray,yma0];apply List.ext_getElem?;intro i;rw [List.getElem?_map,ywb0 J (yrb0 z m),List.getElem?_map];by_cases hi:i<m*z.length
 .rw [List.getElem?_range hi,ywr0 z m i hi];have hlt:i % z.length<z.length:=Nat.mod_lt _ (by omega);simp [ywb0,List.getElem?_eq_getElem hlt]
 .rw [List.getElem?_eq_none (by simpa using hi),List.getElem?_eq_none (by rw [yfl0];omega)];rfl
theorem ypi0 {n:Nat} {z:List LV} (h:lts n z):∀ m,lts n (yrb0 z m)
 | 0=>trivial
 | m+1=>by
  rw [yak0,yhb0];rw [yhb0] at h;intro v hv;rcases List.mem_append.1 hv with hv | hv
  .exact h v hv
  .exact (yhb0 _ _).1 (ypi0 ((yhb0 _ _).2 h) m) v hv
theorem yly0 {J:Nat->RB} {H:Heap} {w:World} (hs:Sat J H w) {ev:Operand->LV} {rv:Operand->Value} {t:TypeId} {len:Nat} {ps:Array (Nat × Operand)} {v:LV} {H' : Heap}
  (hx:∀ x∈ps.toList.map (·.2),Is J (ev x) (rv x)/\lt H.n (ev x)) (h:buildSliceL P t len (partsOf ev ps.toList) H=some (v,H')) :
  ∃ J' w',(Instr.buildSlice t len (ps.map fun (i,x)=>(i,rv x))).run P w=.ok (dec J' v) w'/\Moved J H w J' H' w'/\lt H'.n v:=by
 unfold buildSliceL at h;split at h
 .rename_i elem hu;split at h
  .rename_i size z hsz hz;replace h:=yna0 h;obtain ⟨h0,h⟩:=h;replace h:=yaa0 h;obtain ⟨h1,h⟩:=h;replace h:=yaa0 h;obtain ⟨h2,h⟩:=h;have h0:=yyb0 h0;have h1:=Nat.le_of_ble_eq_true h1;have h2:=beqN h2;rw [lenL_eq] at h2;split at h
   .rename_i cs hf;simp only [Option.some.injEq,Prod.mk.injEq] at h;obtain ⟨rfl,rfl⟩:=h;obtain ⟨hrz,hjz,hlz⟩:=ytd0 hz J w;have hpl:(ps.map fun (i,x)=>(i,rv x)).toList=partsOf rv ps.toList:=by simp [partsOf]
    obtain ⟨r1,r2,r3⟩:=yyd1 (J:=J) (rv:=rv) (fun i p h=>h) ps.toList _ cs hx (ypi0 (yqe0 (hlz H.n)) len) hf;obtain ⟨J',hm,hr⟩:=yau0 hs elem cs r2;refine ⟨J',_,?_,hm,by simp only [lt,Heap.n_push];omega⟩;have hzeros:=ycb1 J (cellsOf z) len (by omega);rw [h2] at hzeros;have hdec:dec J' (.slice H.n 0 len (.known len))=.slice (some ⟨w.heap.size,0,none⟩) len len:=by simp [dec,hr,capOf]
    rw [hdec];unfold Instr.buildSlice;simp only [Sem.run_bind,run_underlying hu,Result.andThen_ok,ydb0 hsz,Sem.run_ite,if_neg (show ¬ len*size>2 ^ 24 by omega),hpl];by_cases hl0:len*size=0
    .have hlen0:len=0:=by
      rcases Nat.mul_eq_zero.1 hl0 with h | h
      .exact h
      .exact absurd h h0
     subst hlen0;simp only [Nat.zero_mul,if_true,Sem.run_pure,Result.andThen_ok] at *;have:(Array.map (fun x=>(#[] : Array Value)[x % (#[] : Array Value).size]!) (Array.range 0))=(decs J (yrb0 (cellsOf z) 0)).toArray:=by simp [show yrb0 (cellsOf z) 0=[] from rfl,decs]
     rw [this,r1];simp [newRow]
    .simp only [hl0,if_false,Sem.run_bind,hrz,Result.andThen_ok,Sem.run_pure,yue0,hzeros,r1];simp [newRow]
   .cases h
  .cases h
 .cases h
theorem yxr0 (b:Bool):∀ n,flatF [.bo] (yrb0 [.bool b] n)=yrb0 [.bool b] n
 | 0=>rfl
 | n+1=>by
  show LV.bool b::flatF [.bo] (yrb0 [.bool b] n)=LV.bool b::yrb0 [.bool b] n;rw [yxr0 b n]
theorem ybh1 (e:TypeId) (z:LV) (n:Nat):openO (ycp0 e z n)=openO (.cells e .exact (yrb0 (cellsOf z) n)):=by
 unfold ycp0;split
 .show LObj.cells e .exact (flatF [.bo] (yrb0 [.bool _] n))=.cells e .exact (yrb0 (cellsOf (.bool _)) n);rw [yxr0];rfl
 .rfl
theorem HOpen.push0 {H H1:Heap} (h:HOpen H H1) {o o1:LObj} (ho:openO o=openO o1):HOpen (H.push o) (H1.push o1):=by
 refine ⟨by rw [Heap.n_push,Heap.n_push,h.1],fun i=>?_⟩;rw [Heap.get_push,Heap.get_push,<- h.1];by_cases e:H.n=i
 .rw [if_pos e,if_pos e];exact ho
 .rw [if_neg e,if_neg e];exact h.2 i
theorem ydb1 {J:Nat->RB} {H:Heap} {w:World} (hs:Sat J H w) {t:TypeId} {l c v:LV} {H' : Heap} (h:makeSliceL P t H l c=some (v,H')) :
  ∃ J' w',(Instr.makeSlice t (dec J l) (dec J c)).run P w=.ok (dec J' v) w'/\Moved J H w J' H' w'/\lt H'.n v:=by
 unfold makeSliceL at h;split at h
 .rename_i k1 l k2 c;split at h
  .rename_i elem hu;split at h
   .rename_i i z hi hz;replace h:=yaa0 h;obtain ⟨h1,h⟩:=h;replace h:=yaa0 h;obtain ⟨h2,h⟩:=h;replace h:=yaa0 h;obtain ⟨h3,h⟩:=h;replace h:=yaa0 h;obtain ⟨h4,h⟩:=h;replace h:=yna0 h;obtain ⟨h5,h⟩:=h;replace h:=yaa0 h;obtain ⟨h6,h⟩:=h;simp only [Option.some.injEq,Prod.mk.injEq] at h;obtain ⟨rfl,rfl⟩:=h;have h1:=of_decide_eq_true h1;have h2:=of_decide_eq_true h2;have h3:=of_decide_eq_true h3;have h4:=of_decide_eq_true h4;have h5:=yyb0 h5;have h6:=beqN h6;rw [lenL_eq] at h6;obtain ⟨hrz,hjz,hlz⟩:=ytd0 hz J w;have hw1:IntKind.i64.wrap l=l:=by simp [IntKind.wrap,IntKind.bits,IntKind.signed];omega
    have hw2:IntKind.i64.wrap c=c:=by simp [IntKind.wrap,IntKind.bits,IntKind.signed];omega
    obtain ⟨J',hm,hr⟩:=yau0 hs elem (yrb0 (cellsOf z) c.toNat) (ypi0 (yqe0 (hlz H.n)) _);have hm:=HOpen.moved (HOpen.refl H) (HOpen.push0 (HOpen.refl H) (ybh1 elem z c.toNat)) hm;refine ⟨J',_,?_,hm,by simp only [lt,Heap.n_push];omega⟩;have hzeros:=ycb1 J (cellsOf z) c.toNat (by omega);rw [h6] at hzeros;have hsz:sizeOfT P elem=some i.size:=by simp [sizeOfT,hi]
    have hdec:dec J' (.slice H.n 0 l.toNat (.known c.toNat))=.slice (some ⟨w.heap.size,0,none⟩) l.toNat c.toNat:=by simp [dec,hr,capOf]
    rw [hdec];unfold Instr.makeSlice
    have hb:((i.bytes:Int)*c>2 ^ 48)=False:=by
     rw [Int.mul_comm] at h3;simp only [eq_iff_iff,iff_false,gt_iff_lt,Int.not_lt];omega
    have hcond:((decide (c<0)||decide ((i.bytes:Int)*c>2 ^ 48))||decide (l<0)||decide (l>c))=false:=by
     simp only [hb,decide_false,Bool.or_false];simp;omega
    simp only [dec,Sem.run_bind,run_underlying hu,Result.andThen_ok,asInt,asIntOf,ycg0 hi,Sem.run_pure,hw1,hw2];rw [if_neg (by simp only [hcond];exact Bool.false_ne_true)];simp only [Sem.run_bind,run_askRoom,Result.andThen_ok,ydb0 hsz];by_cases hc0:c.toNat*i.size=0
    .have hc:c.toNat=0:=by
      rcases Nat.mul_eq_zero.1 hc0 with h | h
      .exact h
      .exact absurd h h5
     simp only [hc,Nat.zero_mul,if_true,Sem.run_pure,Result.andThen_ok] at *;simp [newRow,show yrb0 (cellsOf z) 0=[] from rfl,decs,show Array.range 0=#[] from rfl]
    .simp only [hc0,if_false,Sem.run_bind,hrz,Result.andThen_ok,Sem.run_pure,yue0,hzeros];simp [newRow]
   .cases h
  .cases h
 .cases h
end Go.Proofs.YtnpbgnjiihecgaaGreat.Ev
namespace Go.Proofs.YtnpbgnjiihecgaaGreat.Ev
open Go
variable {P:Program} {J:Nat->RB} {H:Heap} {w:World}
theorem ydu0 {a:Addr} {fd:Field} {n:Nat} (h:sizeOfT P fd.type=some n) (hn:n≠0) (w:World):(fieldPlace a fd).run P w=.ok (a.add fd.offset) w:=by
 unfold fieldPlace;simp only [Sem.run_bind,ydb0 h,Result.andThen_ok,if_neg hn,Sem.run_pure]
theorem yeb1 {s:TypeId} {f:Nat} {x v:LV} (h:fieldAddrL P s f x=some v) (hx:lt H.n x):(Instr.fieldAt s (dec J x) f).run P w=.ok (dec J v) w/\lt H.n v:=by
 unfold fieldAddrL at h;split at h
 .rename_i i o;split at h
  .rename_i fields hu;split at h
   .rename_i fd hf;split at h
    .rename_i n hn;replace h:=yna0 h;obtain ⟨h0,h⟩:=h;simp only [Option.some.injEq] at h;subst h;refine ⟨?_,hx⟩;simp only [Instr.fieldAt,Sem.run_bind,run_underlying hu,Result.andThen_ok,hf,dec,Instr.sureAddr,Sem.run_pure,ydu0 hn (yyb0 h0),ymh0,Nat.add_assoc]
    .cases h
   .cases h
  .cases h
 .cases h
theorem yfb1 {t:TypeId} {x ix v:LV} (h:indexAddrL P t x ix=some v) (hx:lt H.n x):(Instr.indexAt t (dec J x) (dec J ix)).run P w=.ok (dec J v) w/\lt H.n v:=by
 unfold indexAddrL at h;split at h
 .rename_i k ix;split at h
  .rename_i len elem hu;split at h
   .rename_i i o;split at h
    .rename_i n hn;replace h:=yaa0 h;obtain ⟨h1,h⟩:=h;replace h:=yaa0 h;obtain ⟨h2,h⟩:=h;simp only [Option.some.injEq] at h;subst h;have h1:=of_decide_eq_true h1;have h2:=of_decide_eq_true h2;refine ⟨?_,hx⟩;simp only [Instr.indexAt,dec,asIntOf,Sem.run_bind,Sem.run_pure,Result.andThen_ok,run_underlying hu,Instr.sureAddr,h1,h2,and_self,if_true,ydb0 hn,ymh0,Nat.add_assoc]
    .cases h
   .cases h
  .rename_i elem hu;split at h
   .rename_i i o l c;split at h
    .rename_i n hn;replace h:=yaa0 h;obtain ⟨h1,h⟩:=h;replace h:=yaa0 h;obtain ⟨h2,h⟩:=h;simp only [Option.some.injEq] at h;subst h;have h1:=of_decide_eq_true h1;have h2:=of_decide_eq_true h2;refine ⟨?_,hx⟩;simp only [Instr.indexAt,dec,asIntOf,Sem.run_bind,Sem.run_pure,Result.andThen_ok,run_underlying hu,h1,h2,and_self,if_true,ydb0 hn,ymh0,Nat.add_assoc]
    .cases h
   .cases h
  .cases h
 .cases h
theorem ytf2 {t:TypeId} {f:Nat} {x v:LV} (h:fieldL P t f x=some v) (hx:lt H.n x):(Instr.field t (dec J x) f).run P w=.ok (dec J v) w/\lt H.n v:=by
 unfold fieldL at h;split at h
 .rename_i cs;split at h
  .rename_i fields hu;split at h
   .rename_i fd hf;refine ⟨?_,yzt0 h hx⟩;simp only [Instr.field,Sem.run_bind,run_underlying hu,Result.andThen_ok,hf,dec,asAgg,Sem.run_pure,ylm0 h]
   .cases h
  .cases h
 .cases h
theorem yuf2 {t:TypeId} {x ix v:LV} (h:indexL P t x ix=some v) (hx:lt H.n x):(Instr.index t (dec J x) (dec J ix)).run P w=.ok (dec J v) w/\lt H.n v:=by
 unfold indexL at h;split at h
 .rename_i k ix;split at h
  .rename_i len elem hu;split at h
   .rename_i cs;split at h
    .rename_i n hn;replace h:=yaa0 h;obtain ⟨h1,h⟩:=h;replace h:=yaa0 h;obtain ⟨h2,h⟩:=h;have h1:=of_decide_eq_true h1;have h2:=of_decide_eq_true h2;refine ⟨?_,yzt0 h hx⟩;simp only [Instr.index,dec,asIntOf,Sem.run_bind,Sem.run_pure,Result.andThen_ok,run_underlying hu,h1,h2,and_self,if_true,ydb0 hn,ylm0 h]
    .cases h
   .cases h
  .rename_i hu;split at h
   .rename_i s;replace h:=yaa0 h;obtain ⟨h1,h⟩:=h;have h1:=of_decide_eq_true h1;rw [yvc2] at h;cases hb:s[ix.toNat]? with
    | none=>rw [hb] at h;cases h
    | some b =>
     rw [hb] at h;simp only [Option.map_some,Option.some.injEq] at h;subst h;refine ⟨?_,trivial⟩
     have hget:(⟨s.toArray⟩ : ByteArray)[ix.toNat]?=some b:=by
      have hlt:ix.toNat<s.length:=(List.getElem?_eq_some_iff.1 hb).1;have hbb:s[ix.toNat]=b:=(List.getElem?_eq_some_iff.1 hb).2;have:ix.toNat<(⟨s.toArray⟩ : ByteArray).size:=by simpa [ByteArray.size] using hlt
      rw [getElem?_pos (⟨s.toArray⟩ : ByteArray) ix.toNat this];exact congrArg some hbb
     simp only [Instr.index,dec,asIntOf,Sem.run_bind,Sem.run_pure,Result.andThen_ok,run_underlying hu,h1,if_true,hget]
   .cases h
  .cases h
 .cases h
theorem yhk1:∀ (a b:List UInt8),eqB a b=(a == b)
 | [],[]=>rfl
 | [],_::_=>rfl
 | _::_,[]=>rfl
 | a::x,b::y=>by
  unfold eqB;rw [yhk1 x y]
  have:Nat.beq a.toNat b.toNat=(a == b):=by
   rw [Bool.eq_iff_iff,Nat.beq_eq,beq_iff_eq,UInt8.toNat_inj]
  rw [this];cases h:(a == b) <;> simp_all
theorem yeo2:∀ (a b:List UInt8),ltB a b=Op.bytesLess a b
 | [],[]=>rfl
 | _::_,[]=>rfl
 | [],_::_=>rfl
 | a::x,b::y=>by
  unfold ltB Op.bytesLess;rw [yeo2 x y]
  have h1:Nat.beq a.toNat b.toNat=(a == b):=by
   rw [Bool.eq_iff_iff,Nat.beq_eq,beq_iff_eq,UInt8.toNat_inj]
  have h2:Nat.blt a.toNat b.toNat=decide (a<b):=by
   rw [Bool.eq_iff_iff,bltN,decide_eq_true_eq,UInt8.lt_iff_toNat_lt]
  rw [h1,h2];cases decide (a<b) <;> cases (a == b) <;> simp
theorem toList_mk (s:List UInt8):(⟨s.toArray⟩ : ByteArray).toList=s:=by
 exact ByteArray.toList_mk s
theorem ymy0 (s:List UInt8):(⟨s.toArray⟩ : ByteArray).size=s.length:=by simp [ByteArray.size]
theorem yvf2 {op:BinOp} {k yk:IntKind} {x y:Int} {v:LV} (h:ywx0 op k x y=some v):(Op.shift op k x yk y).run P w=.ok (dec J v) w/\lt H.n v:=by
 unfold ywx0 at h;split at h
 .cases h
 .rename_i hy;unfold Op.shift;rw [if_neg hy];split at h
  .injection h with h;subst h;exact ⟨rfl,trivial⟩
  .injection h with h;subst h;exact ⟨rfl,trivial⟩
  .cases h
theorem yuv1 {op:BinOp} {t:TypeId} {k:IntKind} {x y:Int} {v:LV} (hsh:ysj0 op=false) (h:yyf0 op k x y=some v) :
  (binOp op t (.int k x) (.int k y)).run P w=.ok (dec J v) w/\lt H.n v:=by
 unfold yyf0 at h
 cases op <;> simp only [ysj0] at hsh <;> first
  | (cases hsh;done)
  | (cases h;done)
  | (injection h with h;subst h;exact ⟨by simp [binOp,Op.intArith,Op.intBits,Op.intCmp,dec],trivial⟩)
  | (simp only at h
     split at h
     .cases h
     .rename_i hy
      injection h with h;subst h;exact ⟨by simp [binOp,Op.intDiv,hy,dec],trivial⟩)
theorem yvv1 {op:BinOp} {t:TypeId} {a b:List UInt8} {v:LV} (h:ymt0 op a b=some v) :
  (binOp op t (.string ⟨a.toArray⟩) (.string ⟨b.toArray⟩)).run P w=.ok (dec J v) w/\lt H.n v:=by
 unfold ymt0 at h
 have hb:binOp op t (.string ⟨a.toArray⟩) (.string ⟨b.toArray⟩)=Op.stringOp op ⟨a.toArray⟩ ⟨b.toArray⟩:=by
  cases op <;> rfl
 rw [hb];by_cases hop:op=.add
 .subst hop;replace h:=yaa0 h;obtain ⟨h1,h⟩:=h;injection h with h;subst h;refine ⟨?_,trivial⟩;have h1:=Nat.le_of_ble_eq_true h1;rw [lenL_eq,lenL_eq] at h1;simp only [Op.stringOp,ymy0];rw [if_neg (by simp [IntKind.max,IntKind.signed,IntKind.bits];omega)];simp only [Sem.run_pure,dec,app_eq]
  congr 2
 .cases op <;> first
   | exact absurd rfl hop
   | (cases h;done)
   | (injection h with h; subst h
      exact ⟨by simp only [Op.stringOp,toList_mk,Sem.run_pure,dec,yhk1,yeo2],trivial⟩)
theorem yik1 {k k' : IntKind} {a b:Int} {c:Bool} (h:(if k=k' then some (a == b) else none)=some c):k=k'/\c=(a == b):=by
 split at h
 .rename_i e;injection h with h;exact ⟨e,h.symm⟩
 .cases h
theorem yzd1 {a b:Option Bool} {c:Bool} (h:both a b=some c):∃ x y,a=some x/\b=some y/\c=(x&&y):=by
 cases a with
 | none=>cases h
 | some x =>
  cases b with
  | none=>cases h
  | some y=>injection h with h;exact ⟨x,y,rfl,rfl,h.symm⟩
theorem ywf2 (a b:List UInt8):((⟨a.toArray⟩ : ByteArray) == ⟨b.toArray⟩)=(a == b):=by
 show (a.toArray == b.toArray)=(a == b);simp
theorem yyr0 {f:TypeId->LV->LV->Option Bool} {F:TypeId->Value->Value->Sem Bool} {xs ys:List LV} (hf:∀ t x y b,f t x y=some b->∀ w,(F t (dec J x) (dec J y)).run P w=.ok b w) :
  ∀ (fs:List Field) (b:Bool) (w:World),eqFields P f xs ys fs=some b ->
   (forIn fs ((none, ()) : Option Bool × Unit) (fun f _ => if f.name ≠ "_" then do
     let a<-part f.type (decs J xs).toArray f.offset
     let b<-part f.type (decs J ys).toArray f.offset
     let c<-F f.type a b
     if (!c)=true then pure (ForInStep.done (some false,())) else pure (ForInStep.yield (none,()))
    else pure (ForInStep.yield (none,()))):Sem (Option Bool × Unit)).run P w=.ok (if b then (none,()) else (some false,())) w
 | [],b,w,h=>by
  injection h with h;subst h;simp
 | fd::fs,b,w,h=>by
  unfold eqFields at h;replace h:=yna0 h;obtain ⟨hn,h⟩:=h;split at h
  .rename_i x hx;split at h
   .rename_i y hy;obtain ⟨c,d,hc,hd,rfl⟩:=yzd1 h;have ih:=yyr0 hf fs d w hd;have hn : fd.name ≠ "_" := by simpa using hn
    rw [List.forIn_cons];simp only [if_pos hn,Sem.run_bind,ylm0 hx,ylm0 hy,Result.andThen_ok,hf _ _ _ _ hc];cases c with
    | true=>simpa using ih
    | false=>simp
   .cases h
  .cases h
theorem yny0 {e:TypeId} {n:Nat} {f:LV->LV->Option Bool} {F:Value->Value->Sem Bool} {xs ys:List LV} (hf:∀ x y b,f x y=some b->∀ w,(F (dec J x) (dec J y)).run P w=.ok b w) :
  ∀ (len i:Nat) (b:Bool) (w:World),eqElems P e n f xs ys len i=some b ->
   (forIn (List.range' i len) ((none,()):Option Bool × Unit) (fun i _=>do
     let a<-part e (decs J xs).toArray (i*n)
     let b<-part e (decs J ys).toArray (i*n)
     let c<-F a b
     if (!c)=true then pure (ForInStep.done (some false,())) else pure (ForInStep.yield (none,()))):Sem (Option Bool × Unit)).run P w=.ok (if b then (none,()) else (some false,())) w
 | 0,i,b,w,h=>by
  injection h with h;subst h;simp
 | len+1,i,b,w,h=>by
  unfold eqElems at h;split at h
  .rename_i x hx;split at h
   .rename_i y hy;obtain ⟨c,d,hc,hd,rfl⟩:=yzd1 h;have ih:=yny0 hf len (i+1) d w hd;rw [List.range'_succ,List.forIn_cons];simp only [Sem.run_bind,ylm0 hx,ylm0 hy,Result.andThen_ok,hf _ _ _ hc];cases c with
    | true=>simpa using ih
    | false=>simp
   .cases h
  .cases h
theorem yxf2:∀ (d D:Nat) (t:TypeId) (x y:LV) (b:Bool),d<=D->eqT P d t x y=some b->∀ w,(Op.equalIn D t (dec J x) (dec J y)).run P w=.ok b w
 | 0,_,_,_,_,_,_,h,_=>by cases h
 | d+1,D,t,x,y,b,hD,h,w=>by
  obtain ⟨D,rfl⟩ : ∃ e,D=e+1:=⟨D-1,by omega⟩;unfold eqT at h;split at h
  .rename_i fields hu;split at h
   .rename_i xs ys;replace h:=yna0 h;obtain ⟨hst,h⟩:=h;simp only [dec];unfold Op.equalIn;simp only [Sem.run_bind,run_underlying hu,Result.andThen_ok,run_program,hst,Sem.run_ite,Bool.false_eq_true,if_false];rw [<- Array.forIn_toList];have:=yyr0 (J:=J) (P:=P) (F:=fun t x y=>Op.equalIn D t x y) (f:=eqT P d) (xs:=xs) (ys:=ys) (fun t x y b hb w=>yxf2 d D t x y b (by omega) hb w) fields.toList b w h;rw [this];cases b <;> rfl
   .cases h
  .rename_i len elem hu;split at h
   .rename_i xs ys;split at h
    .rename_i n hn;simp only [dec];unfold Op.equalIn;simp only [Sem.run_bind,run_underlying hu,Result.andThen_ok,ydb0 hn];rw [Std.Legacy.Range.forIn_eq_forIn_range'];have:=yny0 (J:=J) (P:=P) (F:=fun x y=>Op.equalIn D elem x y) (f:=eqT P d elem) (n:=n) (xs:=xs) (ys:=ys) (fun x y b hb w=>yxf2 d D elem x y b (by omega) hb w) len 0 b w h;simp only [Std.Legacy.Range.size,Nat.sub_zero,Nat.add_sub_cancel,Nat.div_one];rw [this];cases b <;> rfl
    .cases h
   .cases h
  .rename_i k _ _ hu;unfold yki0 at h;unfold Op.equalIn;simp only [Sem.run_bind,run_underlying hu,Result.andThen_ok];split at h
   .split at h
    .injection h with h;subst h;rfl
    .cases h
   .split at h
    .obtain ⟨rfl,rfl⟩:=yik1 h;simp [dec]
    .cases h
   .split at h
    .injection h with h;subst h;simp only [dec,yhk1];rw [<- ywf2];rfl
    .cases h
   .cases h
  .cases h
end Go.Proofs.YtnpbgnjiihecgaaGreat.Ev
namespace Go.Proofs.YtnpbgnjiihecgaaGreat.Ev
open Go
variable {P:Program} {J:Nat->RB} {H:Heap} {w:World}
theorem ywv1 (D:Nat) {t:TypeId} {kc:Bool} {x y:LV} {b:Bool} (h:eqNil P t kc x y=some b):(Op.equalIn (D+1) t (dec J x) (dec J y)).run P w=.ok b w:=by
 unfold eqNil at h;rw [Op.equalIn];split at h
 .rename_i e hu;simp only [Sem.run_bind,run_underlying hu,Result.andThen_ok]
  split at h <;> first
   | (injection h with h;subst h;rfl)
   | (cases h)
 .rename_i e hu;simp only [Sem.run_bind,run_underlying hu,Result.andThen_ok]
  split at h <;> first
   | (injection h with h;subst h;rfl)
   | (cases h)
 .rename_i e f hu;simp only [Sem.run_bind,run_underlying hu,Result.andThen_ok]
  split at h <;> first
   | (injection h with h;subst h;rfl)
   | (cases h)
 .rename_i e f g hu;simp only [Sem.run_bind,run_underlying hu,Result.andThen_ok]
  split at h <;> first
   | (injection h with h;subst h;rfl)
   | (cases h)
 .rename_i e hu;simp only [Sem.run_bind,run_underlying hu,Result.andThen_ok];split at h
  .replace h:=yaa0 h;obtain ⟨hk,h⟩:=h;injection h with h;subst h;rfl
  .injection h with h;subst h;rfl
  .injection h with h;subst h;rfl
  .cases h
 .cases h
theorem ych1 (a c:Value) (t:TypeId) (h1:¬ (a=.nilIface/\c=.nilIface)) (h2:∀ l,a≠.agg l) (op:BinOp) (X Y:Operand):(eqGuard op t X Y a c).run P w=.ok () w:=by
 unfold eqGuard
 cases op <;> first
  | rfl
  | (cases a <;> first
    | rfl
    | exact absurd rfl (h2 _)
    | (cases c <;> first
      | rfl
      | exact absurd ⟨rfl,rfl⟩ h1))
theorem yzr0 {t:TypeId} {kc:Bool} {x y:LV} {b:Bool} (h:eqNil P t kc x y=some b):(x=.nili/\y=.nili/\kc=true)\/(¬ (x=.nili/\y=.nili)/\(∀ l,x≠.agg l)/\ywa0 x=false/\ywa0 y=false):=by
 unfold eqNil at h
 split at h <;> first
  | (split at h <;> first
    | (cases h;done)
    | (replace h:=yaa0 h;obtain ⟨hk,_⟩:=h;exact .inl ⟨rfl,rfl,hk⟩)
    | exact .inr ⟨by simp,by simp,rfl,rfl⟩)
  | (cases h;done)
theorem yjk1 {x:LV} (h:dec J x=.nilIface):x=.nili:=by
 cases x <;> simp [dec] at h <;> rfl
theorem yfo2 {x:LV} {l:Array Value} (h:dec J x=.agg l):∃ cs,x=.agg cs:=by
 cases x <;> simp [dec] at h;exact ⟨_,rfl⟩
theorem ydh1 {op:BinOp} {t:TypeId} {X Y:Operand} (h:(isConst X||isConst Y)=true):eqGuard op t X Y .nilIface .nilIface=pure ():=by
 unfold eqGuard;cases X <;> cases Y <;> simp [isConst] at h <;> cases op <;> rfl
theorem ygo2 {op:BinOp} {t:TypeId} {X Y:Operand} {x y:LV} {b:Bool} (h:eqL P t (isConst X||isConst Y) x y=some b) :
  (Op.equal t (dec J x) (dec J y)).run P w=.ok b w/\(eqGuard op t X Y (dec J x) (dec J y)).run P w=.ok () w:=by
 unfold eqL at h;split at h
 .rename_i xs ys;replace h:=yna0 h;obtain ⟨hg,h⟩:=h;refine ⟨yxf2 12 Op.maxDepth t _ _ b (by simp [Op.maxDepth]) h w,?_⟩;simp only [dec,eqGuard];cases op <;> simp [hg]
 .split at h
  .rename_i hu;injection h with h;subst h;refine ⟨?_,?_⟩
   .show (Op.equalIn (9999+1) _ _ _).run P w=_;rw [Op.equalIn];simp only [Sem.run_bind,run_underlying hu,Result.andThen_ok];rfl
   .cases op <;> rfl
  .cases h
 .refine ⟨ywv1 9999 h,?_⟩;rcases yzr0 h with ⟨rfl,rfl,hk⟩ | ⟨hn,ha,_,_⟩
  .rw [show dec J .nili=.nilIface from rfl,ydh1 hk];rfl
  .exact ych1 _ _ t (fun hh=>hn ⟨yjk1 hh.1,yjk1 hh.2⟩) (fun l hl=>by obtain ⟨cs,rfl⟩:=yfo2 hl;exact ha cs rfl) op X Y
theorem yae1 {t:TypeId} {kc:Bool} {x y:LV} {b:Bool} (h:eqL P t kc x y=some b):ywa0 x=false/\ywa0 y=false:=by
 unfold eqL at h;split at h
 .exact ⟨rfl,rfl⟩
 .exact ⟨rfl,rfl⟩
 .rcases yzr0 h with ⟨rfl,rfl,_⟩ | ⟨_,_,h1,h2⟩
  .exact ⟨rfl,rfl⟩
  .exact ⟨h1,h2⟩
def yeu0:LV->Bool
 | .int _ _ | .str _ | .junk | .tup _=>false
 | _=>true
theorem yir0 {x:LV} (h:yeu0 x=true) (t:TypeId) (c:Value):binOp .eql t (dec J x) c=(do pure (.bool (<- Op.equal t (dec J x) c))):=by
 cases x <;> first | (cases h;done) | rfl
theorem yjr0 {x:LV} (h:yeu0 x=true) (t:TypeId) (c:Value):binOp .neq t (dec J x) c=(do pure (.bool (!(<- Op.equal t (dec J x) c)))):=by
 cases x <;> first | (cases h;done) | rfl
theorem ybe1 {t:TypeId} {kc:Bool} {x y:LV} {b:Bool} (h:eqL P t kc x y=some b):yeu0 x=true:=by
 unfold eqL at h;split at h
 .rfl
 .rfl
 .unfold eqNil at h
  split at h <;> first
   | (split at h <;> first
     | (cases h;done)
     | rfl)
   | (cases h;done)
theorem yiv2 {op:BinOp} {t:TypeId} {X Y:Operand} {x y:LV} {a c:Value} {v:LV} (hx:Is J x a) (hy:Is J y c) (h:binL P op t (isConst X||isConst Y) x y=some v) :
  (do eqGuard op t X Y a c;binOp op t a c:Sem Value).run P w=.ok (dec J v) w/\lt H.n v:=by
 unfold binL at h;split at h
 .rename_i k p k' q;rw [hx.eq rfl,hy.eq rfl];have hg:eqGuard op t X Y (dec J (.int k p)) (dec J (.int k' q))=pure ():=by cases op <;> rfl
  rw [hg,pure_bind];cases hs:ysj0 op with
  | true =>
   rw [hs] at h;simp only [cond_true] at h
   have:binOp op t (dec J (.int k p)) (dec J (.int k' q))=Op.shift op k p k' q:=by
    cases op <;> simp [ysj0] at hs <;> rfl
   rw [this];exact yvf2 h
  | false =>
   rw [hs] at h;simp only [cond_false] at h;split at h
   .rename_i e;subst e;exact yuv1 hs h
   .cases h
 .rename_i a' b';rw [hx.eq rfl,hy.eq rfl];have hg:eqGuard op t X Y (dec J (.str a')) (dec J (.str b'))=pure ():=by cases op <;> rfl
  rw [hg,pure_bind];exact yvv1 h
 .rename_i hni hns;split at h
  .cases he:eqL P t (isConst X||isConst Y) x y with
   | none=>rw [he] at h;cases h
   | some b =>
    rw [he] at h;injection h with h;subst h;obtain ⟨hjx,hjy⟩:=yae1 he;rw [hx.eq hjx,hy.eq hjy];obtain ⟨h1,h2⟩:=ygo2 (op:=.eql) (J:=J) (w:=w) he;rw [yir0 (ybe1 he)];simp only [Sem.run_bind,h1,h2,Result.andThen_ok,Sem.run_pure];exact ⟨rfl,trivial⟩
  .cases he:eqL P t (isConst X||isConst Y) x y with
   | none=>rw [he] at h;cases h
   | some b =>
    rw [he] at h;injection h with h;subst h;obtain ⟨hjx,hjy⟩:=yae1 he;rw [hx.eq hjx,hy.eq hjy];obtain ⟨h1,h2⟩:=ygo2 (op:=.neq) (J:=J) (w:=w) he;rw [yjr0 (ybe1 he)];simp only [Sem.run_bind,h1,h2,Result.andThen_ok,Sem.run_pure];exact ⟨rfl,trivial⟩
  .cases h
theorem un_ok {op:UnOp} {x v:LV} (h:unL op x=some v):(Op.unary op (dec J x)).run P w=.ok (dec J v) w/\lt H.n v:=by
 unfold unL at h;split at h
 .injection h with h;subst h;exact ⟨rfl,trivial⟩
 .injection h with h;subst h;exact ⟨rfl,trivial⟩
 .injection h with h;subst h;exact ⟨rfl,trivial⟩
 .cases h
theorem yho2 {op:UnOp} {x v:LV} (h:unL op x=some v):ywa0 x=false:=by
 unfold unL at h;split at h <;> first | rfl | cases h
theorem yoy0 (hs:Sat J H w) {n:Nat} {x:LV} {cs:List LV} (h:ydc0 H n x=some cs) (hx:lt H.n x):lts H.n cs:=by
 unfold ydc0 at h;split at h
 .replace h:=yaa0 h;obtain ⟨_,h⟩:=h;injection h with h;subst h;trivial
 .replace h:=yaa0 h;obtain ⟨_,h⟩:=h;injection h with h;subst h;trivial
 .rename_i i o l c;split at h
  .rename_i e k cs' hg;replace h:=yaa0 h;obtain ⟨_,h⟩:=h;injection h with h;subst h;have:=ypf2 (hs.wf i hx);rw [hg] at this;simp only [ltObj] at this;rw [yhb0] at this ⊢;intro v hv;rw [yaf0,ybf0] at hv;exact this v (List.mem_of_mem_drop (List.mem_of_mem_take hv))
  .cases h
 .replace h:=yaa0 h;obtain ⟨_,h⟩:=h;injection h with h;subst h;rw [yrd0,yhb0];intro v hv;obtain ⟨b,_,rfl⟩:=List.mem_map.1 hv;trivial
 .cases h
theorem ynh0 {n:Nat} {x:LV} {cs:List LV} (h:ydc0 H n x=some cs):cs.length=n:=by
 unfold ydc0 at h;split at h
 .replace h:=yaa0 h;obtain ⟨a,h⟩:=h;injection h with h;subst h;rw [beqN a];rfl
 .replace h:=yaa0 h;obtain ⟨a,h⟩:=h;injection h with h;subst h;rw [beqN a];rfl
 .split at h
  .replace h:=yaa0 h;obtain ⟨a,h⟩:=h;injection h with h;subst h;have a:=Nat.le_of_ble_eq_true a;rw [lenL_eq] at a;rw [yaf0,ybf0,List.length_take,List.length_drop];omega
  .cases h
 .replace h:=yaa0 h;obtain ⟨a,h⟩:=h;injection h with h;subst h;have a:=Nat.le_of_ble_eq_true a;rw [lenL_eq] at a;rw [yrd0,yqt0];simp;omega
 .cases h
theorem yad2 {x:LV} {n:Nat} (h:lenV x=some n):(Builtin.lenOf (dec J x)).run P w=.ok n w:=by
 unfold lenV at h
 split at h <;> first
  | (injection h with h;subst h;first | rfl | (simp only [dec,Builtin.lenOf,ymy0,lenL_eq];rfl))
  | (cases h)
theorem yqi0 (hs:Sat J H w) {size n:Nat} {x:LV} {cs:List LV} (h:ydc0 H (n*size) x=some cs) (hx:lt H.n x) (hst:isStr x=true->size=1) (hn:n*size=0\/∀ i,x≠.emp i) :
  (Builtin.firstCells size n (dec J x)).run P w=.ok (decs J cs).toArray w:=by
 unfold ydc0 at h;split at h
 .replace h:=yaa0 h;obtain ⟨a,h⟩:=h;injection h with h;subst h;rfl
 .rename_i i;replace h:=yaa0 h;obtain ⟨a,h⟩:=h;injection h with h;subst h;simp only [dec,Builtin.firstCells];rw [beqN a];rfl
 .rename_i i o l c;split at h
  .rename_i e k cs' hg;replace h:=yaa0 h;obtain ⟨a,h⟩:=h;injection h with h;subst h;have a:=Nat.le_of_ble_eq_true a;rw [lenL_eq] at a;have ho:=yfy0.2 (hs.obj i hx);rw [hg] at ho;simp only [dec,Builtin.firstCells,yaf0,ybf0];exact yyt0 ho o (n*size) a
  .cases h
 .rename_i s;replace h:=yaa0 h;obtain ⟨a,h⟩:=h;injection h with h;subst h;have a:=Nat.le_of_ble_eq_true a;rw [lenL_eq] at a;have h1:size=1:=hst rfl;subst h1;rw [Nat.mul_one] at a ⊢;simp only [dec,Builtin.firstCells,Sem.run_pure,yrd0,yqt0]
  congr 1
  apply Array.ext';simp only [ywb0,List.map_map]
  have:(ByteArray.extract ⟨s.toArray⟩ 0 n).data.toList=s.take n:=by
   rw [ByteArray.data_extract];simp
  rw [Array.toList_map,this];rfl
 .cases h
end Go.Proofs.YtnpbgnjiihecgaaGreat.Ev
