/- What the model's small steps do, in the words of the local heap. Each operation: what the evaluator says of it, the model does. Operations that make values of parts, and rows. Operations on values alone. Comparing, converting, slicing. -/
import Derived.Test.YtnpbgnjiihecgaaGreatLa
import Derived.Laws.Entries
import Derived.Laws.Cells
import Derived.Laws.Strings
namespace Go.Proofs.YtnpbgnjiihecgaaGreat.Ev
open Go

variable {P:Program}

theorem run_sizeOf' {t:TypeId} {n:Nat} (h:sizeOfT P t=some n) (w:World):(sizeOf t).run P w=.ok n w:=by
 unfold sizeOfT at h
 cases hi:P.info? t with
 | none=>rw [hi] at h; cases h
 | some i =>
  rw [hi] at h
  simp only [Option.map_some,Option.some.injEq] at h
  simp [sizeOf,typeInfo,hi,h]
theorem run_typeInfo' {t:TypeId} {i:TypeInfo} (h:P.info? t=some i) (w:World):(typeInfo t).run P w=.ok i w:=by simp [typeInfo,h]
theorem run_isAgg {t:TypeId} {b:Bool} (h:aggOf P t=some b) (w:World):(isAgg t).run P w=.ok b w:=by
 unfold aggOf at h
 cases hu:P.underlying t with
 | none=>rw [hu] at h; cases h
 | some d =>
  rw [hu] at h
  unfold isAgg
  simp only [Sem.run_bind,run_underlying hu,Result.andThen_ok]
  cases d <;> simp only [Option.some.injEq] at h <;> subst h <;> rfl

theorem add_none (g o j:Nat):(⟨g,o,none⟩ : Addr).add j=⟨g,o + j,none⟩:=by
 unfold Addr.add; split <;> simp_all

theorem run_load' {w:World} {a:Addr} {v:Value} (h:w.cell? a=some v):(load a).run P w=.ok v w:=by simp [h]

theorem ofVal0_dec (ρ:Nat→RB):∀ (v:Value),isJunk (ofVal0 v)=false→dec ρ (ofVal0 v)=v:=by
 intro v h
 cases v with
 | bool b=>rfl
 | int k n=>rfl
 | string s=>simp [ofVal0,dec]
 | pointer a=>cases a <;> first | rfl | cases h
 | slice a l c =>
  cases a with
  | none =>
   cases l <;> cases c <;> first | rfl | cases h
  | some a=>cases h
 | map r=>cases r <;> first | rfl | cases h
 | nilFunc=>rfl
 | nilIface=>rfl
 | _=>cases h
theorem ofVal0_list (ρ:Nat→RB):∀ (l:List Value),noJunk (l.map ofVal0)=true→decs ρ (l.map ofVal0)=l
 | [],_=>rfl
 | v::vs,h=>by
  simp only [List.map_cons] at h ⊢
  obtain ⟨a,b⟩:=(noJunk_cons _ _).1 h
  simp only [decs,ofVal0_dec ρ v a,ofVal0_list ρ vs b]
theorem lt_ofVal0 (n:Nat) (v:Value):lt n (ofVal0 v):=by
 unfold ofVal0; split <;> trivial
theorem lts_ofVal0 (n:Nat) (l:List Value):lts n (l.map ofVal0):=by
 rw [lts_iff]; intro v hv
 obtain ⟨x,_,rfl⟩:=List.mem_map.1 hv
 exact lt_ofVal0 n x
theorem ofVal_dec (ρ:Nat→RB) (v:Value) (h:isJunk (ofVal v)=false):dec ρ (ofVal v)=v:=by
 unfold ofVal at h ⊢
 split at h
 ·rename_i cs
  simp only at h ⊢
  cases hn:noJunk (cs.toList.map ofVal0) with
  | false=>rw [hn] at h; cases h
  | true=>simp only [cond_true,dec,ofVal0_list ρ _ hn]
 ·rename_i t v
  simp only at h ⊢
  cases hn:isJunk (ofVal0 v) with
  | true=>rw [hn] at h; cases h
  | false=>simp only [cond_false,dec,ofVal0_dec ρ v hn]
 ·rename_i cs
  simp only at h ⊢
  cases hn:noJunk (cs.toList.map ofVal0) with
  | false=>rw [hn] at h; cases h
  | true=>simp only [cond_true,dec,ofVal0_list ρ _ hn]
 ·exact ofVal0_dec ρ _ h
theorem lt_ofVal (n:Nat) (v:Value):lt n (ofVal v):=by
 unfold ofVal; split
 ·simp only; cases noJunk _ <;> simp only [cond_true,cond_false,lt]; exact lts_ofVal0 _ _
 ·simp only; cases isJunk _ <;> simp only [cond_true,cond_false,lt]; exact lt_ofVal0 _ _
 ·simp only; cases noJunk _ <;> simp only [cond_true,cond_false,lt]; exact lts_ofVal0 _ _
 ·exact lt_ofVal0 _ _

theorem run_zeroOf {t:TypeId} {z:LV} (h:zeroOf P t=some z) (ρ:Nat→RB) (w:World):(zeroValue t).run P w=.ok (dec ρ z) w∧isJunk z=false∧∀ n,lt n z:=by
 unfold zeroOf at h
 cases hi:P.info? t with
 | none=>rw [hi] at h; cases h
 | some i =>
  simp only [hi] at h
  cases hz:i.zero with
  | none=>simp only [hz] at h; cases h
  | some v =>
   simp only [hz] at h
   obtain ⟨hj,hv⟩:=cond_some' h
   simp only [Option.some.injEq] at hv
   subst hv
   refine ⟨?_,hj,fun n=>lt_ofVal n v⟩
   rw [ofVal_dec ρ v hj]
   simp [zeroValue,typeInfo,hi,hz]

theorem dec_cells (ρ:Nat→RB) (v:LV):(dec ρ v).cells=(decs ρ (cellsOf v)).toArray:=by
 cases v <;> simp [dec,decs,cellsOf,Value.cells]
theorem lts_cellsOf {n:Nat} {v:LV} (h:lt n v):lts n (cellsOf v):=by
 cases v <;> simp_all [lt,lts,cellsOf]
theorem decs_length (ρ:Nat→RB) (l:List LV):(decs ρ l).length=l.length:=by rw [decs_eq]; simp
theorem dec_oneCell (ρ:Nat→RB) {v:LV} (h:oneCell v=true):(dec ρ v).oneCell'=true:=by
 cases v <;> simp_all [oneCell,dec,Value.oneCell']

theorem SatObj.cell {ρ:Nat→RB} {r:RB} {w:World} {e:TypeId} {k:Own} {cs:List LV} (h:SatObj ρ r w (.cells e k cs)) {j:Nat} {v:LV} (hv:cs[j]?=some v) :
  w.cell? ⟨r.blk,r.off + j,none⟩=some (dec ρ v):=by
 have hj:j < cs.length:=(List.getElem?_eq_some_iff.1 hv).1
 have hd:(decs ρ cs)[j]?=some (dec ρ v):=by rw [decs_eq,List.getElem?_map,hv]; rfl
 cases k with
 | ro=>exact h j v hv
 | exact =>
  obtain ⟨h0,lo,hi,_,hh⟩:=h
  simp only [World.cell?,hh,h0,Nat.zero_add,Option.isSome_none,Bool.false_eq_true,if_false,List.getElem?_toArray,hd]
 | grow sz =>
  obtain ⟨h0,lo,hi,spare,_,_,_,hh⟩:=h
  simp only [World.cell?,hh,h0,Nat.zero_add,Option.isSome_none,Bool.false_eq_true,if_false,List.getElem?_toArray]
  rw [List.getElem?_append_left (by rw [decs_length]; exact hj),hd]

theorem run_cells {ρ:Nat→RB} {r:RB} {w:World} {e:TypeId} {k:Own} {cs:List LV} (h:SatObj ρ r w (.cells e k cs)) (o n:Nat) (hn:o + n≤cs.length) :
  (loadCells ⟨r.blk,r.off + o,none⟩ n).run P w=.ok (decs ρ ((cs.drop o).take n)).toArray w:=by
 have hlen:((cs.drop o).take n).length=n:=by simp; omega
 have:=run_loadCells_list (P:=P) w ⟨r.blk,r.off + o,none⟩ (decs ρ ((cs.drop o).take n)) (fun j v hv=>by
  rw [decs_eq,List.getElem?_map] at hv
  cases hx:((cs.drop o).take n)[j]? with
  | none=>rw [hx] at hv; cases hv
  | some x =>
   rw [hx] at hv
   simp only [Option.map_some,Option.some.injEq] at hv
   subst hv
   rw [add_none,Nat.add_assoc]
   refine h.cell ?_
   rw [List.getElem?_take] at hx
   split at hx
   ·rwa [List.getElem?_drop] at hx
   ·cases hx)
 rwa [decs_length,hlen] at this

theorem partOf_some {t:TypeId} {cs:List LV} {off:Nat} {v:LV} (h:partOf P t cs off=some v) :
  (aggOf P t=some true∧∃ n,sizeOfT P t=some n∧off + n≤cs.length∧v=.agg ((cs.drop off).take n))∨(aggOf P t=some false∧cs[off]?=some v):=by
 unfold partOf at h
 split at h
 ·rename_i ha
  refine .inl ⟨ha,?_⟩
  cases hn:sizeOfT P t with
  | none=>rw [hn] at h; cases h
  | some n =>
   rw [hn] at h
   obtain ⟨a,b⟩:=cond_some h
   simp only [Option.some.injEq] at b
   rw [lenL_eq] at a
   exact ⟨n,rfl,Nat.le_of_ble_eq_true a,by rw [← b,takeN_eq,dropN_eq]⟩
 ·rename_i ha
  rw [nth_eq] at h
  exact .inr ⟨ha,h⟩
 ·cases h
theorem lt_partOf {n:Nat} {t:TypeId} {cs:List LV} {off:Nat} {v:LV} (h:partOf P t cs off=some v) (hl:lts n cs):lt n v:=by
 rw [lts_iff] at hl
 rcases partOf_some h with ⟨_,m,_,_,rfl⟩ | ⟨_,hv⟩
 ·simp only [lt]; rw [lts_iff]; intro x hx
  exact hl x (List.mem_of_mem_drop (List.mem_of_mem_take hx))
 ·exact hl v (List.mem_of_getElem? hv)

theorem run_loadVar {ρ:Nat→RB} {r:RB} {w:World} {e:TypeId} {k:Own} {cs:List LV} (h:SatObj ρ r w (.cells e k cs)) {t:TypeId} {o:Nat} {v:LV} (hv:partOf P t cs o=some v) :
  (loadVar t ⟨r.blk,r.off + o,none⟩).run P w=.ok (dec ρ v) w:=by
 unfold loadVar
 rcases partOf_some hv with ⟨ha,n,hn,hle,rfl⟩ | ⟨ha,hc⟩
 ·simp only [Sem.run_bind,run_isAgg ha,Result.andThen_ok,if_true,run_sizeOf' hn,run_cells h o n hle]
  rfl
 ·simp only [Sem.run_bind,run_isAgg ha,Result.andThen_ok,Bool.false_eq_true,if_false,run_load' (h.cell hc)]

theorem run_part {ρ:Nat→RB} {t:TypeId} {cs:List LV} {off:Nat} {v:LV} (hv:partOf P t cs off=some v) (w:World) :
  (part t (decs ρ cs).toArray off).run P w=.ok (dec ρ v) w:=by
 unfold part
 rcases partOf_some hv with ⟨ha,n,hn,hle,rfl⟩ | ⟨ha,hc⟩
 ·simp only [Sem.run_bind,run_isAgg ha,Result.andThen_ok,if_true,run_sizeOf' hn]
  simp only [Sem.run_pure,dec,decs_eq,List.map_take,List.map_drop]
  congr 2
  apply Array.ext'
  simp
 ·simp only [Sem.run_bind,run_isAgg ha,Result.andThen_ok,Bool.false_eq_true,if_false]
  rw [decs_eq,List.getElem?_toArray,List.getElem?_map,hc]
  rfl

def putO (w:World) (g:Nat) (O:Obj):World:={ w with heap:=w.heap.setIfInBounds g O }
theorem putO_heap_same {w:World} {g:Nat} {O:Obj} (h:g < w.heap.size):(putO w g O).heap[g]?=some O:=by simp [putO,h]
theorem putO_heap_other {w:World} {g b:Nat} {O:Obj} (h:b≠g):(putO w g O).heap[b]?=w.heap[b]?:=by
 simp only [putO]; rw [Array.getElem?_setIfInBounds_ne (Ne.symm h)]
theorem putO_putO (w:World) (g:Nat) (O O' : Obj):putO (putO w g O) g O'=putO w g O':=by
 simp only [putO]; congr 1; apply Array.ext'; simp
theorem putO_self {w:World} {g:Nat} {O:Obj} (h:w.heap[g]?=some O):putO w g O=w:=by
 have:w.heap.setIfInBounds g O=w.heap:=by
  apply Array.ext_getElem?
  intro i
  rw [Array.getElem?_setIfInBounds]
  split
  ·rename_i e; subst e
   have hlt:g < w.heap.size:=(Array.getElem?_eq_some_iff.1 h).1
   rw [h]; simp [hlt]
  ·rfl
 simp only [putO,this]
theorem setCell_eq {w:World} {g j:Nat} {cur:Array Value} {e:TypeId} {fr:Nat × Nat} (v:Value) (h:w.heap[g]?=some (.cells cur e fr)) :
  w.setCell ⟨g,j,none⟩ v=putO w g (.cells (cur.setIfInBounds j v) e fr):=by
 simp only [World.setCell,putO]
 congr 1
 apply Array.ext_getElem?
 intro i
 rw [Array.getElem?_modify,Array.getElem?_setIfInBounds]
 by_cases hi:g=i
 ·subst hi
  have hlt:g < w.heap.size:=(Array.getElem?_eq_some_iff.1 h).1
  rw [h]
  simp [hlt]
 ·simp [hi]

theorem run_stores (g o:Nat) (e:TypeId) (fr:Nat × Nat):∀ (vs:List Value) (i:Nat) (cur:Array Value) (w:World),w.heap[g]?=some (.cells cur e fr) →
  (∀ j,j < cur.size→¬ (fr.1≤j∧j < fr.2))→o + i + vs.length≤cur.size→(∀ v∈vs,v.oneCell'=true) →
  (storeCells ⟨g,o,none⟩ vs i).run P w=.ok () (putO w g (.cells (cur.toList.take (o + i)++vs++cur.toList.drop (o + i + vs.length)).toArray e fr))
 | [],i,cur,w,hg,_,_,_=>by
  simp only [storeCells,List.append_nil,List.length_nil,Nat.add_zero,List.take_append_drop,Array.toArray_toList]
  rw [putO_self hg]; rfl
 | v::rest,i,cur,w,hg,hfz,hl,h1=>by
  simp only [List.length_cons] at hl
  have hi:o + i < cur.size:=by omega
  have hlt:g < w.heap.size:=(Array.getElem?_eq_some_iff.1 hg).1
  have hcell:w.cell? ⟨g,o + i,none⟩=some cur[o + i]:=by simp [World.cell?,hg,hi]
  have hfro:w.frozen? ⟨g,o + i,none⟩=false:=by
   have:=hfz (o + i) hi
   simp only [World.frozen?,hg]
   rw [Bool.eq_false_iff]
   intro hc
   simp only [Bool.and_eq_true,decide_eq_true_eq] at hc
   exact this hc
  have hst:(store ((⟨g,o,none⟩ : Addr).add i) v).run P w=.ok () (putO w g (.cells (cur.setIfInBounds (o + i) v) e fr)):=by
   rw [add_none,run_store P w _ v _ (h1 v (by simp)),hcell]
   simp [hfro,setCell_eq v hg]
  have ih:=run_stores g o e fr rest (i + 1) (cur.setIfInBounds (o + i) v) (putO w g (.cells (cur.setIfInBounds (o + i) v) e fr)) (putO_heap_same hlt) (by simpa using hfz) (by simp; omega) (fun x hx=>h1 x (by simp [hx]))
  simp only [storeCells,Sem.run_bind,hst,Result.andThen_ok,ih,putO_putO]
  congr 4
  simp only [Array.toList_setIfInBounds]
  have ho:o + i < cur.toList.length:=by simpa using hi
  rw [show o + (i + 1)=o + i + 1 by omega,List.take_succ_eq_append_getElem (by simpa using ho),List.take_set_of_le (Nat.le_refl _),List.getElem_set_self]
  rw [show o + i + 1 + rest.length=o + i + (v::rest).length by simp; omega,List.drop_set_of_lt (by simp)]
  simp
end Go.Proofs.YtnpbgnjiihecgaaGreat.Ev

namespace Go.Proofs.YtnpbgnjiihecgaaGreat.Ev
open Go

variable {P:Program}

def NextIs (ρ:Nat→RB) (v:LV):Next→Prop
 | .value v'=>v=.junk∨v'=dec ρ v
 | .skip=>v=undefL
 | _=>False

def RunsTo (P:Program) (ρ:Nat→RB) (H:Heap) (w:World) (s:Sem Next) (r:OpR):Prop :=
 ∃ ρ' w' nx,s.run P w=.ok nx w'∧NextIs ρ' r.v nx∧Moved ρ H w ρ' r.H w'∧lt r.H.n r.v

def Is (ρ:Nat→RB) (l:LV) (v:Value):Prop:=l=.junk∨v=dec ρ l
theorem Is.eq {ρ:Nat→RB} {l:LV} {v:Value} (h:Is ρ l v) (hj:isJunk l=false):v=dec ρ l:=by
 rcases h with rfl | h
 ·cases hj
 ·exact h

def val (s:Sem Value):Sem Next:=do pure (.value (← s))
def unit (s:Sem Unit):Sem Next:=do s; pure .skip
theorem run_val {s:Sem Value} {w w' : World} {v:Value} (h:s.run P w=.ok v w'):(val s).run P w=.ok (.value v) w':=by
 simp [val,h]
theorem run_unit {s:Sem Unit} {w w' : World} (h:s.run P w=.ok () w'):(unit s).run P w=.ok .skip w':=by
 simp [unit,h]

theorem runsTo_pure {ρ:Nat→RB} {H:Heap} {w:World} (hs:Sat ρ H w) {s:Sem Value} {v:LV} {k:Kd} (h:s.run P w=.ok (dec ρ v) w) (hl:lt H.n v) :
  RunsTo P ρ H w (val s) ⟨v,H,k⟩ :=
 ⟨ρ,w,_,run_val h,.inr rfl,Moved.refl hs,hl⟩

theorem pureR_some {H:Heap} {o:Option LV} {r:OpR} (h:pureR H o=some r):∃ v,o=some v∧r=⟨v,H,.pure⟩:=by
 cases o with
 | none=>cases h
 | some v=>exact ⟨v,rfl,by injection h with h; exact h.symm⟩
theorem loadR_some {H:Heap} {x:LV} {o:Option LV} {r:OpR} (h:loadR H x o=some r):∃ v k,o=some v∧r=⟨v,H,k⟩:=by
 cases o with
 | none=>cases h
 | some v=>exact ⟨v,_,rfl,by injection h with h; exact h.symm⟩
theorem changeR_some {o:Option (LV × Heap)} {r:OpR} (h:changeR o=some r):∃ v H,o=some (v,H)∧r=⟨v,H,.change⟩:=by
 cases o with
 | none=>cases h
 | some x=>exact ⟨x.1,x.2,rfl,by injection h with h; exact h.symm⟩

section
variable {ρ:Nat→RB} {H:Heap} {w:World}

theorem load_ok (hs:Sat ρ H w) {t:TypeId} {x:LV} {v:LV} (h:loadL P t H x=some v) (hx:lt H.n x):(Instr.loadAt t (dec ρ x)).run P w=.ok (dec ρ v) w∧lt H.n v:=by
 unfold loadL at h
 split at h
 ·rename_i i o
  split at h
  ·rename_i e k cs hg
   have hi:i < H.n:=hx
   have ho:=satOpen.2 (hs.obj i hi)
   rw [hg] at ho
   refine ⟨?_,lt_partOf h (by have:=ltOpen (hs.wf i hi); rw [hg] at this; exact this)⟩
   simp only [Instr.loadAt,dec,Instr.sureAddr,pure_bind]
   exact run_loadVar ho h
  ·cases h
 ·cases h

theorem new_exact (hs:Sat ρ H w) (t:TypeId) (cs:List LV) (hl:lts H.n cs) :
  ∃ ρ',Moved ρ H w ρ' (H.push (.cells t .exact cs)) { w with heap:=w.heap.push (.cells (decs ρ cs).toArray t) }∧ρ' H.n=⟨w.heap.size,0,0,default,0⟩:=by
 refine ⟨upRho ρ H.n ⟨w.heap.size,0,0,default,0⟩,Moved.push hs _ (.cells (decs ρ cs).toArray t) _ rfl rfl rfl rfl rfl ?_ ?_,upRho_new _ _ _⟩
 ·simp only [ltObj]; exact lts_mono (by omega) cs hl
 ·simp only [SatObj]
  refine ⟨trivial,0,0,by omega,?_⟩
  rw [decs_ext (upRho_ext ρ H.n _) cs hl]
  simp

theorem box_ok (hs:Sat ρ H w) {t:TypeId} {v:LV} {p:LV} {H' : Heap} (h:boxL t H v=some (p,H')) (hl:lt H.n v) :
  ∃ ρ' w',(do pure (.pointer (some (← newVar t (dec ρ v)))):Sem Value).run P w=.ok (dec ρ' p) w'∧Moved ρ H w ρ' H' w'∧lt H'.n p:=by
 unfold boxL at h
 replace h:=cond_some' h; obtain ⟨hj,h⟩:=h
 simp only [Option.some.injEq,Prod.mk.injEq] at h
 obtain ⟨rfl,rfl⟩:=h
 obtain ⟨ρ',hm,hr⟩:=new_exact hs t (cellsOf v) (lts_cellsOf hl)
 refine ⟨ρ',_,?_,hm,by simp only [lt,Heap.n_push]; omega⟩
 simp [newVar,newRow,dec_cells,dec,hr]

theorem store_ok0 (hs:Sat ρ H w) {t:TypeId} {a v:LV} {H' : Heap} (h:storeL0 P t H a v=some H') (ha:lt H.n a) (hv:lt H.n v) :
  ∃ w',(Instr.storeAt t (dec ρ a) (dec ρ v)).run P w=.ok () w'∧Moved ρ H w ρ H' w':=by
 unfold storeL0 at h
 replace h:=cond_some' h; obtain ⟨hj,h⟩:=h
 split at h
 ·rename_i i o
  split at h
  ·cases h
  ·rename_i e k cs hnr hg
   split at h
   ·rename_i n hn
    simp only at h
    replace h:=cond_some h; obtain ⟨h1,h⟩:=h
    replace h:=cond_some h; obtain ⟨h2,h⟩:=h
    replace h:=cond_some h; obtain ⟨h3,h⟩:=h
    replace h:=cond_some h; obtain ⟨h4,h⟩:=h
    simp only [Option.some.injEq] at h
    subst h
    have hi:i < H.n:=bltN.1 h4
    have h2:=beqN h2
    have h3:=Nat.le_of_ble_eq_true h3
    rw [lenL_eq] at h2 h3
    have ho:=hs.obj i hi
    rw [hg] at ho
    have hown:(H.get i).owns=true:=by rw [hg]; cases k <;> first | rfl | exact (hnr rfl).elim
    have hwf:=hs.wf i hi
    rw [hg] at hwf
    have hlen:(setMany cs o (cellsOf v)).length=cs.length:=setMany_length _ _ _ (by omega)
    have hl:ltObj H.n (.cells e k (setMany cs o (cellsOf v))):=by
     simp only [ltObj] at hwf ⊢
     rw [setMany_eq _ _ _ (by omega),lts_iff]
     rw [lts_iff] at hwf
     have hc:=(lts_iff _ _).1 (lts_cellsOf hv)
     intro x hx
     simp only [List.append_assoc,List.mem_append] at hx
     rcases hx with hx | hx | hx
     ·exact hwf x (List.mem_of_mem_take hx)
     ·exact hc x hx
     ·exact hwf x (List.mem_of_mem_drop hx)
    -- the store itself
    have main:∀ (cur:Array Value) (fr:Nat × Nat),(ρ i).off=0→w.heap[(ρ i).blk]?=some (.cells cur e fr)→(∀ j,j < cur.size→¬ (fr.1≤j∧j < fr.2))→cs.length≤cur.size →
      (Instr.storeAt t (dec ρ (.ptr i o)) (dec ρ v)).run P w=.ok () (putO w (ρ i).blk (.cells (cur.toList.take o++decs ρ (cellsOf v)++cur.toList.drop (o + n)).toArray e fr)):=by
     intro cur fr h0 hh hfr hsz
     simp only [Instr.storeAt,dec,Instr.sureAddr,pure_bind,storeVar,Sem.run_bind,run_sizeOf' hn,Result.andThen_ok,dec_cells,h0,Nat.zero_add]
     have hc:(decs ρ (cellsOf v)).length=n:=by rw [decs_length]; exact h2
     simp only [List.size_toArray,hc,ne_eq,not_true_eq_false,if_false]
     have:=run_stores (P:=P) (ρ i).blk o e fr (decs ρ (cellsOf v)) 0 cur w hh hfr (by omega) (by
      intro x hx
      rw [decs_eq,List.mem_map] at hx
      obtain ⟨y,hy,rfl⟩:=hx
      exact dec_oneCell ρ (allOne_mem h1 y hy))
     simp only [Nat.add_zero,hc] at this
     exact this
    have hdec:decs ρ (setMany cs o (cellsOf v))=(decs ρ cs).take o++decs ρ (cellsOf v)++(decs ρ cs).drop (o + n):=by
     rw [setMany_eq _ _ _ (by omega)]
     simp only [decs_eq,List.map_append,List.map_take,List.map_drop]
     rw [h2]
    have hblk:=hs.inside i hi (LObj.sits_of_owns hown)
    cases k with
    | ro=>exact (hnr rfl).elim
    | exact =>
     obtain ⟨h0,lo,hi',hfr,hh⟩:=ho
     refine ⟨_,main _ _ h0 hh (by simpa [decs_length] using hfr) (by simp [decs_length]),?_⟩
     refine Moved.put hs hi hown _ (fun b hb=>putO_heap_other hb) (by simp [putO]) rfl rfl rfl hl ?_
     refine ⟨h0,lo,hi',by rw [hlen]; exact hfr,?_⟩
     rw [putO_heap_same hblk,hdec]
    | grow sz =>
     obtain ⟨h0,lo,hi',spare,hfr,hc1,hcap,hh⟩:=ho
     refine ⟨_,main _ _ h0 hh (by simpa [decs_length] using hfr) (by simp [decs_length]),?_⟩
     refine Moved.put hs hi hown _ (fun b hb=>putO_heap_other hb) (by simp [putO]) rfl rfl rfl hl ?_
     refine ⟨h0,lo,hi',spare,by rw [hlen]; exact hfr,by rw [hlen]; exact hc1,by rw [hlen]; exact hcap,?_⟩
     rw [putO_heap_same hblk,hdec]
     have hb:o + n≤(decs ρ cs).length:=by rw [decs_length]; omega
     simp only [List.take_append_of_le_length (show o≤(decs ρ cs).length by omega),List.drop_append_of_le_length hb,List.append_assoc]
   ·cases h
  ·cases h
 ·cases h
end
end Go.Proofs.YtnpbgnjiihecgaaGreat.Ev

namespace Go.Proofs.YtnpbgnjiihecgaaGreat.Ev
open Go

variable {P:Program}

theorem fold_set (off:Nat):∀ (vs:List Value) (k:Nat) (cur:Array Value),off + k + vs.length≤cur.size →
  (vs.zipIdx k).foldl (fun cs (x:Value × Nat)=>cs.setIfInBounds (off + x.2) x.1) cur=(cur.toList.take (off + k)++vs++cur.toList.drop (off + k + vs.length)).toArray
 | [],k,cur,_=>by simp
 | v::vs,k,cur,h=>by
  simp only [List.length_cons] at h
  simp only [List.zipIdx_cons,List.foldl_cons]
  rw [fold_set off vs (k + 1) (cur.setIfInBounds (off + k) v) (by simp; omega)]
  congr 1
  simp only [Array.toList_setIfInBounds]
  have ho:off + k < cur.toList.length:=by simp; omega
  rw [show off + (k + 1)=off + k + 1 by omega,List.take_succ_eq_append_getElem (by simpa using ho),List.take_set_of_le (Nat.le_refl _),List.getElem_set_self]
  rw [show off + k + 1 + vs.length=off + k + (v::vs).length by simp; omega,List.drop_set_of_lt (by simp)]
  simp

def partsOf {α:Type} (f:Operand→α) (l:List (Nat × Operand)):List (Nat × α):=l.map fun x=>(x.1,f x.2)
theorem zip_parts (ev:Operand→LV):∀ (l:List (Nat × Operand)),zipL (l.map (·.1)) ((l.map (·.2)).map ev)=partsOf ev l
 | []=>rfl
 | x::l=>by simp only [List.map_cons,zipL,partsOf]; rw [zip_parts ev l]; rfl

theorem fill_ok {ρ:Nat→RB} {n:Nat} {ev:Operand→LV} {rv:Operand→Value} {pl pr:Nat→Option (Nat × Nat)} (hp:∀ i p,pl i=some p→pr i=some p) :
  ∀ (l:List (Nat × Operand)) (cs cs' : List LV),(∀ x∈l.map (·.2),Is ρ (ev x) (rv x)∧lt n (ev x))→lts n cs→fillL pl cs (partsOf ev l)=some cs' →
   Instr.fill pr (decs ρ cs).toArray (partsOf rv l)=some (decs ρ cs').toArray∧lts n cs'∧cs'.length=cs.length
 | [],cs,cs',_,hl,h=>by
  simp only [partsOf,List.map_nil,fillL,Option.some.injEq] at h
  subst h
  exact ⟨rfl,hl,rfl⟩
 | (i,x)::l,cs,cs',hx,hl,h=>by
  simp only [partsOf,List.map_cons,fillL] at h
  split at h
  ·cases h
  ·rename_i off size hpl
   replace h:=cond_some' h; obtain ⟨hj,h⟩:=h
   replace h:=cond_some h; obtain ⟨h1,h⟩:=h
   replace h:=cond_some h; obtain ⟨h2,h⟩:=h
   have h1:=beqN h1
   have h2:=Nat.le_of_ble_eq_true h2
   rw [lenL_eq] at h1 h2
   obtain ⟨hi,hlx⟩:=hx x (by simp)
   have hd:=hi.eq hj
   have hlen:(setMany cs off (cellsOf (ev x))).length=cs.length:=setMany_length _ _ _ (by omega)
   have hlt:lts n (setMany cs off (cellsOf (ev x))):=by
    rw [setMany_eq _ _ _ (by omega),lts_iff]
    rw [lts_iff] at hl
    have hc:=(lts_iff _ _).1 (lts_cellsOf hlx)
    intro y hy
    simp only [List.append_assoc,List.mem_append] at hy
    rcases hy with hy | hy | hy
    ·exact hl y (List.mem_of_mem_take hy)
    ·exact hc y hy
    ·exact hl y (List.mem_of_mem_drop hy)
   obtain ⟨r1,r2,r3⟩:=fill_ok hp l _ cs' (fun y hy=>hx y (by simp only [List.map_cons,List.mem_cons]; exact .inr hy)) hlt h
   refine ⟨?_,r2,by rw [r3,hlen]⟩
   simp only [partsOf,List.map_cons,Instr.fill,hp i _ hpl]
   have hcs:(rv x).cells.size=size:=by rw [hd,dec_cells]; simp [decs_length,h1]
   have hno:((rv x).cells.size != size||decide (off + (rv x).cells.size > (decs ρ cs).toArray.size))=false:=by
    simp [hcs,decs_length]; omega
   have hfold:(rv x).cells.zipIdx.foldl (fun cs (x:Value × Nat)=>cs.setIfInBounds (off + x.2) x.1) (decs ρ cs).toArray=(decs ρ (setMany cs off (cellsOf (ev x)))).toArray:=by
    rw [← Array.foldl_toList,Array.toList_zipIdx,hd,dec_cells]
    have:=fold_set off (decs ρ (cellsOf (ev x))) 0 (decs ρ cs).toArray (by simp [decs_length]; omega)
    simp only [Nat.add_zero] at this
    rw [this,setMany_eq _ _ _ (by omega)]
    simp [decs_eq]
   simp only [partsOf] at r1
   rw [if_neg]
   ·rw [← r1]; congr 1
   ·intro hc
    simp only [hcs,ne_eq,not_true_eq_false,decide_false,Bool.false_or,decide_eq_true_eq,List.size_toArray,decs_length] at hc
    omega

theorem mapM_places:∀ (fs:List Field) (w:World),allSized P fs=true →
  ∃ l,(fs.mapM fun f=>do pure (f.offset,← sizeOf f.type):Sem (List (Nat × Nat))).run P w=.ok l w∧∀ i p,fieldPlaces P fs i=some p→l[i]?=some p
 | [],w,_=>⟨[],by simp,fun i p h=>by cases h⟩
 | f::fs,w,h=>by
  unfold allSized at h
  split at h
  ·rename_i s hs
   obtain ⟨l,hl,hp⟩:=mapM_places fs w h
   refine ⟨(f.offset,s)::l,?_,?_⟩
   ·simp only [List.mapM_cons,Sem.run_bind,run_sizeOf' hs,Result.andThen_ok,Sem.run_pure,hl]
   ·intro i p hi
    unfold fieldPlaces at hi
    cases i with
    | zero =>
     simp only [Nat.beq,cond_true,hs,Option.map_some,Option.some.injEq] at hi
     simp [hi]
    | succ i =>
     have:Nat.beq (i + 1) 0=false:=rfl
     rw [this] at hi
     simp only [cond_false,Nat.add_sub_cancel] at hi
     simpa using hp i p hi
  ·cases h

theorem build_ok {ρ:Nat→RB} {n:Nat} {w:World} {ev:Operand→LV} {rv:Operand→Value} {t:TypeId} {ps:Array (Nat × Operand)} {v:LV}
  (hx:∀ x∈ps.toList.map (·.2),Is ρ (ev x) (rv x)∧lt n (ev x)) (h:buildL P t (partsOf ev ps.toList)=some v) :
  (Instr.build t (ps.map fun (i,x)=>(i,rv x))).run P w=.ok (dec ρ v) w∧lt n v:=by
 unfold buildL at h
 split at h
 ·cases h
 ·rename_i z hz
  obtain ⟨hrz,hjz,hlz⟩:=run_zeroOf hz ρ w
  have hpl:(ps.map fun (i,x)=>(i,rv x)).toList=partsOf rv ps.toList:=by simp [partsOf]
  have hlc:=lts_cellsOf (hlz n)
  split at h
  ·rename_i fields hu
   replace h:=cond_some h; obtain ⟨hsz,h⟩:=h
   cases hf:fillL (fieldPlaces P fields.toList) (cellsOf z) (partsOf ev ps.toList) with
   | none=>rw [hf] at h; cases h
   | some cs =>
    rw [hf] at h
    simp only [Option.map_some,Option.some.injEq] at h
    subst h
    obtain ⟨l,hl,hp⟩:=mapM_places (P:=P) fields.toList w hsz
    obtain ⟨r1,r2,_⟩:=fill_ok (ρ:=ρ) (rv:=rv) hp ps.toList (cellsOf z) cs hx hlc hf
    refine ⟨?_,r2⟩
    have hm:(fields.mapM fun f=>do pure (f.offset,← sizeOf f.type):Sem (Array (Nat × Nat))).run P w=.ok l.toArray w:=by
     rw [Array.mapM_eq_mapM_toList]
     simp only [Sem.run_map,hl,Result.andThen_ok]
    unfold Instr.build
    simp only [Sem.run_bind,hrz,Result.andThen_ok,run_underlying hu,hm,hpl,dec_cells,List.getElem?_toArray,r1]
    rfl
  ·rename_i k elem hu
   split at h
   ·rename_i size hs
    cases hf:fillL (fun i=>some (i * size,size)) (cellsOf z) (partsOf ev ps.toList) with
    | none=>rw [hf] at h; cases h
    | some cs =>
     rw [hf] at h
     simp only [Option.map_some,Option.some.injEq] at h
     subst h
     obtain ⟨r1,r2,_⟩:=fill_ok (ρ:=ρ) (rv:=rv) (fun i p h=>h) ps.toList (cellsOf z) cs hx hlc hf
     refine ⟨?_,r2⟩
     unfold Instr.build
     simp only [Sem.run_bind,hrz,Result.andThen_ok,run_underlying hu,run_sizeOf' hs,hpl,dec_cells,r1]
     rfl
   ·cases h
  ·cases h

theorem repeatL_get (z:List LV):∀ (n i:Nat),i < n * z.length→(repeatL z n)[i]?=z[i % z.length]?
 | 0,i,h=>by simp at h
 | n + 1,i,h=>by
  rw [repeatL_succ]
  by_cases hi:i < z.length
  ·rw [List.getElem?_append_left hi,Nat.mod_eq_of_lt hi]
  ·have hz:z.length≤i:=by omega
   rw [List.getElem?_append_right hz,repeatL_get z n (i - z.length) (by rw [Nat.succ_mul] at h; omega)]
   rw [← Nat.mod_eq_sub_mod hz]
theorem zeros_eq (ρ:Nat→RB) (z:List LV) (m:Nat) (hz:z.length≠0):((Array.range (m * z.length)).map ((decs ρ z).toArray[· % (decs ρ z).toArray.size]!))=(decs ρ (repeatL z m)).toArray:=by
 apply Array.ext'
 simp only [Array.toList_map,Array.toList_range,List.size_toArray,decs_length]
 apply List.ext_getElem?
 intro i
 rw [List.getElem?_map,decs_eq ρ (repeatL z m),List.getElem?_map]
 by_cases hi:i < m * z.length
 ·rw [List.getElem?_range hi,repeatL_get z m i hi]
  have hlt:i % z.length < z.length:=Nat.mod_lt _ (by omega)
  simp [decs_eq,List.getElem?_eq_getElem hlt]
 ·rw [List.getElem?_eq_none (by simpa using hi),List.getElem?_eq_none (by rw [repeatL_length]; omega)]
  rfl
theorem lts_repeat {n:Nat} {z:List LV} (h:lts n z):∀ m,lts n (repeatL z m)
 | 0=>trivial
 | m + 1=>by
  rw [repeatL_succ,lts_iff]
  rw [lts_iff] at h
  intro v hv
  rcases List.mem_append.1 hv with hv | hv
  ·exact h v hv
  ·exact (lts_iff _ _).1 (lts_repeat ((lts_iff _ _).2 h) m) v hv

theorem buildSlice_ok {ρ:Nat→RB} {H:Heap} {w:World} (hs:Sat ρ H w) {ev:Operand→LV} {rv:Operand→Value} {t:TypeId} {len:Nat} {ps:Array (Nat × Operand)} {v:LV} {H' : Heap}
  (hx:∀ x∈ps.toList.map (·.2),Is ρ (ev x) (rv x)∧lt H.n (ev x)) (h:buildSliceL P t len (partsOf ev ps.toList) H=some (v,H')) :
  ∃ ρ' w',(Instr.buildSlice t len (ps.map fun (i,x)=>(i,rv x))).run P w=.ok (dec ρ' v) w'∧Moved ρ H w ρ' H' w'∧lt H'.n v:=by
 unfold buildSliceL at h
 split at h
 ·rename_i elem hu
  split at h
  ·rename_i size z hsz hz
   replace h:=cond_some' h; obtain ⟨h0,h⟩:=h
   replace h:=cond_some h; obtain ⟨h1,h⟩:=h
   replace h:=cond_some h; obtain ⟨h2,h⟩:=h
   have h0:=beqN_false h0
   have h1:=Nat.le_of_ble_eq_true h1
   have h2:=beqN h2
   rw [lenL_eq] at h2
   split at h
   ·rename_i cs hf
    simp only [Option.some.injEq,Prod.mk.injEq] at h
    obtain ⟨rfl,rfl⟩:=h
    obtain ⟨hrz,hjz,hlz⟩:=run_zeroOf hz ρ w
    have hpl:(ps.map fun (i,x)=>(i,rv x)).toList=partsOf rv ps.toList:=by simp [partsOf]
    obtain ⟨r1,r2,r3⟩:=fill_ok (ρ:=ρ) (rv:=rv) (fun i p h=>h) ps.toList _ cs hx (lts_repeat (lts_cellsOf (hlz H.n)) len) hf
    obtain ⟨ρ',hm,hr⟩:=new_exact hs elem cs r2
    refine ⟨ρ',_,?_,hm,by simp only [lt,Heap.n_push]; omega⟩
    have hzeros:=zeros_eq ρ (cellsOf z) len (by omega)
    rw [h2] at hzeros
    have hdec:dec ρ' (.slice H.n 0 len (.known len))=.slice (some ⟨w.heap.size,0,none⟩) len len:=by simp [dec,hr,capOf]
    rw [hdec]
    unfold Instr.buildSlice
    simp only [Sem.run_bind,run_underlying hu,Result.andThen_ok,run_sizeOf' hsz,Sem.run_ite,if_neg (show ¬ len * size > 2 ^ 24 by omega),hpl]
    by_cases hl0:len * size=0
    ·have hlen0:len=0:=by
      rcases Nat.mul_eq_zero.1 hl0 with h | h
      ·exact h
      ·exact absurd h h0
     subst hlen0
     simp only [Nat.zero_mul,if_true,Sem.run_pure,Result.andThen_ok] at *
     have:(Array.map (fun x=>(#[] : Array Value)[x % (#[] : Array Value).size]!) (Array.range 0))=(decs ρ (repeatL (cellsOf z) 0)).toArray:=by simp [show repeatL (cellsOf z) 0=[] from rfl,decs]
     rw [this,r1]
     simp [newRow]
    ·simp only [hl0,if_false,Sem.run_bind,hrz,Result.andThen_ok,Sem.run_pure,dec_cells,hzeros,r1]
     simp [newRow]
   ·cases h
  ·cases h
 ·cases h

theorem flat_repeat (b:Bool):∀ n,flatF [.bo] (repeatL [.bool b] n)=repeatL [.bool b] n
 | 0=>rfl
 | n + 1=>by
  show LV.bool b::flatF [.bo] (repeatL [.bool b] n)=LV.bool b::repeatL [.bool b] n
  rw [flat_repeat b n]
theorem zerosO_open (e:TypeId) (z:LV) (n:Nat):openO (zerosO e z n)=openO (.cells e .exact (repeatL (cellsOf z) n)):=by
 unfold zerosO
 split
 ·show LObj.cells e .exact (flatF [.bo] (repeatL [.bool _] n))=.cells e .exact (repeatL (cellsOf (.bool _)) n)
  rw [flat_repeat]; rfl
 ·rfl
theorem HOpen.push0 {H H1:Heap} (h:HOpen H H1) {o o1:LObj} (ho:openO o=openO o1):HOpen (H.push o) (H1.push o1):=by
 refine ⟨by rw [Heap.n_push,Heap.n_push,h.1],fun i=>?_⟩
 rw [Heap.get_push,Heap.get_push,← h.1]
 by_cases e:H.n=i
 ·rw [if_pos e,if_pos e]; exact ho
 ·rw [if_neg e,if_neg e]; exact h.2 i
theorem makeSlice_ok {ρ:Nat→RB} {H:Heap} {w:World} (hs:Sat ρ H w) {t:TypeId} {l c v:LV} {H' : Heap} (h:makeSliceL P t H l c=some (v,H')) :
  ∃ ρ' w',(Instr.makeSlice t (dec ρ l) (dec ρ c)).run P w=.ok (dec ρ' v) w'∧Moved ρ H w ρ' H' w'∧lt H'.n v:=by
 unfold makeSliceL at h
 split at h
 ·rename_i k1 l k2 c
  split at h
  ·rename_i elem hu
   split at h
   ·rename_i i z hi hz
    replace h:=cond_some h; obtain ⟨h1,h⟩:=h
    replace h:=cond_some h; obtain ⟨h2,h⟩:=h
    replace h:=cond_some h; obtain ⟨h3,h⟩:=h
    replace h:=cond_some h; obtain ⟨h4,h⟩:=h
    replace h:=cond_some' h; obtain ⟨h5,h⟩:=h
    replace h:=cond_some h; obtain ⟨h6,h⟩:=h
    simp only [Option.some.injEq,Prod.mk.injEq] at h
    obtain ⟨rfl,rfl⟩:=h
    have h1:=of_decide_eq_true h1
    have h2:=of_decide_eq_true h2
    have h3:=of_decide_eq_true h3
    have h4:=of_decide_eq_true h4
    have h5:=beqN_false h5
    have h6:=beqN h6
    rw [lenL_eq] at h6
    obtain ⟨hrz,hjz,hlz⟩:=run_zeroOf hz ρ w
    have hw1:IntKind.i64.wrap l=l:=by simp [IntKind.wrap,IntKind.bits,IntKind.signed]; omega
    have hw2:IntKind.i64.wrap c=c:=by simp [IntKind.wrap,IntKind.bits,IntKind.signed]; omega
    obtain ⟨ρ',hm,hr⟩:=new_exact hs elem (repeatL (cellsOf z) c.toNat) (lts_repeat (lts_cellsOf (hlz H.n)) _)
    have hm:=HOpen.moved (HOpen.refl H) (HOpen.push0 (HOpen.refl H) (zerosO_open elem z c.toNat)) hm
    refine ⟨ρ',_,?_,hm,by simp only [lt,Heap.n_push]; omega⟩
    have hzeros:=zeros_eq ρ (cellsOf z) c.toNat (by omega)
    rw [h6] at hzeros
    have hsz:sizeOfT P elem=some i.size:=by simp [sizeOfT,hi]
    have hdec:dec ρ' (.slice H.n 0 l.toNat (.known c.toNat))=.slice (some ⟨w.heap.size,0,none⟩) l.toNat c.toNat:=by simp [dec,hr,capOf]
    rw [hdec]
    unfold Instr.makeSlice
    have hb:((i.bytes:Int) * c > 2 ^ 48)=False:=by
     rw [Int.mul_comm] at h3
     simp only [eq_iff_iff,iff_false,gt_iff_lt,Int.not_lt]
     omega
    have hcond:((decide (c < 0)||decide ((i.bytes:Int) * c > 2 ^ 48))||decide (l < 0)||decide (l > c))=false:=by
     simp only [hb,decide_false,Bool.or_false]
     simp; omega
    simp only [dec,Sem.run_bind,run_underlying hu,Result.andThen_ok,asInt,asIntOf,run_typeInfo' hi,Sem.run_pure,hw1,hw2]
    rw [if_neg (by simp only [hcond]; exact Bool.false_ne_true)]
    simp only [Sem.run_bind,run_askRoom,Result.andThen_ok,run_sizeOf' hsz]
    by_cases hc0:c.toNat * i.size=0
    ·have hc:c.toNat=0:=by
      rcases Nat.mul_eq_zero.1 hc0 with h | h
      ·exact h
      ·exact absurd h h5
     simp only [hc,Nat.zero_mul,if_true,Sem.run_pure,Result.andThen_ok] at *
     simp [newRow,show repeatL (cellsOf z) 0=[] from rfl,decs,show Array.range 0=#[] from rfl]
    ·simp only [hc0,if_false,Sem.run_bind,hrz,Result.andThen_ok,Sem.run_pure,dec_cells,hzeros]
     simp [newRow]
   ·cases h
  ·cases h
 ·cases h
end Go.Proofs.YtnpbgnjiihecgaaGreat.Ev

namespace Go.Proofs.YtnpbgnjiihecgaaGreat.Ev
open Go

variable {P:Program} {ρ:Nat→RB} {H:Heap} {w:World}

theorem fieldPlace_run {a:Addr} {fd:Field} {n:Nat} (h:sizeOfT P fd.type=some n) (hn:n≠0) (w:World):(fieldPlace a fd).run P w=.ok (a.add fd.offset) w:=by
 unfold fieldPlace
 simp only [Sem.run_bind,run_sizeOf' h,Result.andThen_ok,if_neg hn,Sem.run_pure]

theorem fieldAddr_ok {s:TypeId} {f:Nat} {x v:LV} (h:fieldAddrL P s f x=some v) (hx:lt H.n x):(Instr.fieldAt s (dec ρ x) f).run P w=.ok (dec ρ v) w∧lt H.n v:=by
 unfold fieldAddrL at h
 split at h
 ·rename_i i o
  split at h
  ·rename_i fields hu
   split at h
   ·rename_i fd hf
    split at h
    ·rename_i n hn
     replace h:=cond_some' h; obtain ⟨h0,h⟩:=h
     simp only [Option.some.injEq] at h
     subst h
     refine ⟨?_,hx⟩
     simp only [Instr.fieldAt,Sem.run_bind,run_underlying hu,Result.andThen_ok,hf,dec,Instr.sureAddr,Sem.run_pure,fieldPlace_run hn (beqN_false h0),add_none,Nat.add_assoc]
    ·cases h
   ·cases h
  ·cases h
 ·cases h

theorem indexAddr_ok {t:TypeId} {x ix v:LV} (h:indexAddrL P t x ix=some v) (hx:lt H.n x):(Instr.indexAt t (dec ρ x) (dec ρ ix)).run P w=.ok (dec ρ v) w∧lt H.n v:=by
 unfold indexAddrL at h
 split at h
 ·rename_i k ix
  split at h
  ·rename_i len elem hu
   split at h
   ·rename_i i o
    split at h
    ·rename_i n hn
     replace h:=cond_some h; obtain ⟨h1,h⟩:=h
     replace h:=cond_some h; obtain ⟨h2,h⟩:=h
     simp only [Option.some.injEq] at h
     subst h
     have h1:=of_decide_eq_true h1
     have h2:=of_decide_eq_true h2
     refine ⟨?_,hx⟩
     simp only [Instr.indexAt,dec,asIntOf,Sem.run_bind,Sem.run_pure,Result.andThen_ok,run_underlying hu,Instr.sureAddr,h1,h2,and_self,if_true,run_sizeOf' hn,add_none,Nat.add_assoc]
    ·cases h
   ·cases h
  ·rename_i elem hu
   split at h
   ·rename_i i o l c
    split at h
    ·rename_i n hn
     replace h:=cond_some h; obtain ⟨h1,h⟩:=h
     replace h:=cond_some h; obtain ⟨h2,h⟩:=h
     simp only [Option.some.injEq] at h
     subst h
     have h1:=of_decide_eq_true h1
     have h2:=of_decide_eq_true h2
     refine ⟨?_,hx⟩
     simp only [Instr.indexAt,dec,asIntOf,Sem.run_bind,Sem.run_pure,Result.andThen_ok,run_underlying hu,h1,h2,and_self,if_true,run_sizeOf' hn,add_none,Nat.add_assoc]
    ·cases h
   ·cases h
  ·cases h
 ·cases h

theorem field_ok {t:TypeId} {f:Nat} {x v:LV} (h:fieldL P t f x=some v) (hx:lt H.n x):(Instr.field t (dec ρ x) f).run P w=.ok (dec ρ v) w∧lt H.n v:=by
 unfold fieldL at h
 split at h
 ·rename_i cs
  split at h
  ·rename_i fields hu
   split at h
   ·rename_i fd hf
    refine ⟨?_,lt_partOf h hx⟩
    simp only [Instr.field,Sem.run_bind,run_underlying hu,Result.andThen_ok,hf,dec,asAgg,Sem.run_pure,run_part h]
   ·cases h
  ·cases h
 ·cases h

theorem index_ok {t:TypeId} {x ix v:LV} (h:indexL P t x ix=some v) (hx:lt H.n x):(Instr.index t (dec ρ x) (dec ρ ix)).run P w=.ok (dec ρ v) w∧lt H.n v:=by
 unfold indexL at h
 split at h
 ·rename_i k ix
  split at h
  ·rename_i len elem hu
   split at h
   ·rename_i cs
    split at h
    ·rename_i n hn
     replace h:=cond_some h; obtain ⟨h1,h⟩:=h
     replace h:=cond_some h; obtain ⟨h2,h⟩:=h
     have h1:=of_decide_eq_true h1
     have h2:=of_decide_eq_true h2
     refine ⟨?_,lt_partOf h hx⟩
     simp only [Instr.index,dec,asIntOf,Sem.run_bind,Sem.run_pure,Result.andThen_ok,run_underlying hu,h1,h2,and_self,if_true,run_sizeOf' hn,run_part h]
    ·cases h
   ·cases h
  ·rename_i hu
   split at h
   ·rename_i s
    replace h:=cond_some h; obtain ⟨h1,h⟩:=h
    have h1:=of_decide_eq_true h1
    rw [nthB_eq] at h
    cases hb:s[ix.toNat]? with
    | none=>rw [hb] at h; cases h
    | some b =>
     rw [hb] at h
     simp only [Option.map_some,Option.some.injEq] at h
     subst h
     refine ⟨?_,trivial⟩
     have hget:(⟨s.toArray⟩ : ByteArray)[ix.toNat]?=some b:=by
      have hlt:ix.toNat < s.length:=(List.getElem?_eq_some_iff.1 hb).1
      have hbb:s[ix.toNat]=b:=(List.getElem?_eq_some_iff.1 hb).2
      have:ix.toNat < (⟨s.toArray⟩ : ByteArray).size:=by simpa [ByteArray.size] using hlt
      rw [getElem?_pos (⟨s.toArray⟩ : ByteArray) ix.toNat this]
      exact congrArg some hbb
     simp only [Instr.index,dec,asIntOf,Sem.run_bind,Sem.run_pure,Result.andThen_ok,run_underlying hu,h1,if_true,hget]
   ·cases h
  ·cases h
 ·cases h

theorem eqB_eq:∀ (a b:List UInt8),eqB a b=(a == b)
 | [],[]=>rfl
 | [],_::_=>rfl
 | _::_,[]=>rfl
 | a::x,b::y=>by
  unfold eqB
  rw [eqB_eq x y]
  have:Nat.beq a.toNat b.toNat=(a == b):=by
   rw [Bool.eq_iff_iff,Nat.beq_eq,beq_iff_eq,UInt8.toNat_inj]
  rw [this]
  cases h:(a == b) <;> simp_all
theorem ltB_eq:∀ (a b:List UInt8),ltB a b=Op.bytesLess a b
 | [],[]=>rfl
 | _::_,[]=>rfl
 | [],_::_=>rfl
 | a::x,b::y=>by
  unfold ltB Op.bytesLess
  rw [ltB_eq x y]
  have h1:Nat.beq a.toNat b.toNat=(a == b):=by
   rw [Bool.eq_iff_iff,Nat.beq_eq,beq_iff_eq,UInt8.toNat_inj]
  have h2:Nat.blt a.toNat b.toNat=decide (a < b):=by
   rw [Bool.eq_iff_iff,bltN,decide_eq_true_eq,UInt8.lt_iff_toNat_lt]
  rw [h1,h2]
  cases decide (a < b) <;> cases (a == b) <;> simp

theorem toList_mk (s:List UInt8):(⟨s.toArray⟩ : ByteArray).toList=s:=by
 exact ByteArray.toList_mk s

theorem size_mk (s:List UInt8):(⟨s.toArray⟩ : ByteArray).size=s.length:=by simp [ByteArray.size]

theorem shift_ok {op:BinOp} {k yk:IntKind} {x y:Int} {v:LV} (h:shiftL op k x y=some v):(Op.shift op k x yk y).run P w=.ok (dec ρ v) w∧lt H.n v:=by
 unfold shiftL at h
 split at h
 ·cases h
 ·rename_i hy
  unfold Op.shift
  rw [if_neg hy]
  split at h
  ·injection h with h; subst h; exact ⟨rfl,trivial⟩
  ·injection h with h; subst h; exact ⟨rfl,trivial⟩
  ·cases h

theorem intBin_ok {op:BinOp} {t:TypeId} {k:IntKind} {x y:Int} {v:LV} (hsh:isShift op=false) (h:intBin op k x y=some v) :
  (binOp op t (.int k x) (.int k y)).run P w=.ok (dec ρ v) w∧lt H.n v:=by
 unfold intBin at h
 cases op <;> simp only [isShift] at hsh <;> first
  | (cases hsh; done)
  | (cases h; done)
  | (injection h with h; subst h; exact ⟨by simp [binOp,Op.intArith,Op.intBits,Op.intCmp,dec],trivial⟩)
  | (simp only at h
     split at h
     ·cases h
     ·rename_i hy
      injection h with h; subst h; exact ⟨by simp [binOp,Op.intDiv,hy,dec],trivial⟩)

theorem strBin_ok {op:BinOp} {t:TypeId} {a b:List UInt8} {v:LV} (h:strBin op a b=some v) :
  (binOp op t (.string ⟨a.toArray⟩) (.string ⟨b.toArray⟩)).run P w=.ok (dec ρ v) w∧lt H.n v:=by
 unfold strBin at h
 have hb:binOp op t (.string ⟨a.toArray⟩) (.string ⟨b.toArray⟩)=Op.stringOp op ⟨a.toArray⟩ ⟨b.toArray⟩:=by
  cases op <;> rfl
 rw [hb]
 by_cases hop:op=.add
 ·subst hop
  replace h:=cond_some h; obtain ⟨h1,h⟩:=h
  injection h with h; subst h
  refine ⟨?_,trivial⟩
  have h1:=Nat.le_of_ble_eq_true h1
  rw [lenL_eq,lenL_eq] at h1
  simp only [Op.stringOp,size_mk]
  rw [if_neg (by simp [IntKind.max,IntKind.signed,IntKind.bits]; omega)]
  simp only [Sem.run_pure,dec,app_eq]
  congr 2
 ·cases op <;> first
   | exact absurd rfl hop
   | (cases h; done)
   | (injection h with h; subst h
      exact ⟨by simp only [Op.stringOp,toList_mk,Sem.run_pure,dec,eqB_eq,ltB_eq],trivial⟩)

theorem eq0_int {k k' : IntKind} {a b:Int} {c:Bool} (h:(if k=k' then some (a == b) else none)=some c):k=k'∧c=(a == b):=by
 split at h
 ·rename_i e; injection h with h; exact ⟨e,h.symm⟩
 ·cases h
theorem both_some {a b:Option Bool} {c:Bool} (h:both a b=some c):∃ x y,a=some x∧b=some y∧c=(x&&y):=by
 cases a with
 | none=>cases h
 | some x =>
  cases b with
  | none=>cases h
  | some y=>injection h with h; exact ⟨x,y,rfl,rfl,h.symm⟩

theorem beq_mk (a b:List UInt8):((⟨a.toArray⟩ : ByteArray) == ⟨b.toArray⟩)=(a == b):=by
 show (a.toArray == b.toArray)=(a == b)
 simp

theorem eqFields_ok {f:TypeId→LV→LV→Option Bool} {F:TypeId→Value→Value→Sem Bool} {xs ys:List LV} (hf:∀ t x y b,f t x y=some b→∀ w,(F t (dec ρ x) (dec ρ y)).run P w=.ok b w) :
  ∀ (fs:List Field) (b:Bool) (w:World),eqFields P f xs ys fs=some b →
   (forIn fs ((none, ()) : Option Bool × Unit) (fun f _ => if f.name ≠ "_" then do
     let a ← part f.type (decs ρ xs).toArray f.offset
     let b ← part f.type (decs ρ ys).toArray f.offset
     let c ← F f.type a b
     if (!c)=true then pure (ForInStep.done (some false,())) else pure (ForInStep.yield (none,()))
    else pure (ForInStep.yield (none,()))):Sem (Option Bool × Unit)).run P w=.ok (if b then (none,()) else (some false,())) w
 | [],b,w,h=>by
  injection h with h; subst h; simp
 | fd::fs,b,w,h=>by
  unfold eqFields at h
  replace h:=cond_some' h; obtain ⟨hn,h⟩:=h
  split at h
  ·rename_i x hx
   split at h
   ·rename_i y hy
    obtain ⟨c,d,hc,hd,rfl⟩:=both_some h
    have ih:=eqFields_ok hf fs d w hd
    have hn : fd.name ≠ "_" := by simpa using hn
    rw [List.forIn_cons]
    simp only [if_pos hn,Sem.run_bind,run_part hx,run_part hy,Result.andThen_ok,hf _ _ _ _ hc]
    cases c with
    | true=>simpa using ih
    | false=>simp
   ·cases h
  ·cases h

theorem eqElems_ok {e:TypeId} {n:Nat} {f:LV→LV→Option Bool} {F:Value→Value→Sem Bool} {xs ys:List LV} (hf:∀ x y b,f x y=some b→∀ w,(F (dec ρ x) (dec ρ y)).run P w=.ok b w) :
  ∀ (len i:Nat) (b:Bool) (w:World),eqElems P e n f xs ys len i=some b →
   (forIn (List.range' i len) ((none,()):Option Bool × Unit) (fun i _=>do
     let a ← part e (decs ρ xs).toArray (i * n)
     let b ← part e (decs ρ ys).toArray (i * n)
     let c ← F a b
     if (!c)=true then pure (ForInStep.done (some false,())) else pure (ForInStep.yield (none,()))):Sem (Option Bool × Unit)).run P w=.ok (if b then (none,()) else (some false,())) w
 | 0,i,b,w,h=>by
  injection h with h; subst h; simp
 | len + 1,i,b,w,h=>by
  unfold eqElems at h
  split at h
  ·rename_i x hx
   split at h
   ·rename_i y hy
    obtain ⟨c,d,hc,hd,rfl⟩:=both_some h
    have ih:=eqElems_ok hf len (i + 1) d w hd
    rw [List.range'_succ,List.forIn_cons]
    simp only [Sem.run_bind,run_part hx,run_part hy,Result.andThen_ok,hf _ _ _ hc]
    cases c with
    | true=>simpa using ih
    | false=>simp
   ·cases h
  ·cases h

theorem eqT_ok:∀ (d D:Nat) (t:TypeId) (x y:LV) (b:Bool),d≤D→eqT P d t x y=some b→∀ w,(Op.equalIn D t (dec ρ x) (dec ρ y)).run P w=.ok b w
 | 0,_,_,_,_,_,_,h,_=>by cases h
 | d + 1,D,t,x,y,b,hD,h,w=>by
  obtain ⟨D,rfl⟩ : ∃ e,D=e + 1:=⟨D - 1,by omega⟩
  unfold eqT at h
  split at h
  ·rename_i fields hu
   split at h
   ·rename_i xs ys
    replace h:=cond_some' h; obtain ⟨hst,h⟩:=h
    simp only [dec]
    unfold Op.equalIn
    simp only [Sem.run_bind,run_underlying hu,Result.andThen_ok,run_program,hst,Sem.run_ite,Bool.false_eq_true,if_false]
    rw [← Array.forIn_toList]
    have:=eqFields_ok (ρ:=ρ) (P:=P) (F:=fun t x y=>Op.equalIn D t x y) (f:=eqT P d) (xs:=xs) (ys:=ys) (fun t x y b hb w=>eqT_ok d D t x y b (by omega) hb w) fields.toList b w h
    rw [this]
    cases b <;> rfl
   ·cases h
  ·rename_i len elem hu
   split at h
   ·rename_i xs ys
    split at h
    ·rename_i n hn
     simp only [dec]
     unfold Op.equalIn
     simp only [Sem.run_bind,run_underlying hu,Result.andThen_ok,run_sizeOf' hn]
     rw [Std.Legacy.Range.forIn_eq_forIn_range']
     have:=eqElems_ok (ρ:=ρ) (P:=P) (F:=fun x y=>Op.equalIn D elem x y) (f:=eqT P d elem) (n:=n) (xs:=xs) (ys:=ys) (fun x y b hb w=>eqT_ok d D elem x y b (by omega) hb w) len 0 b w h
     simp only [Std.Legacy.Range.size,Nat.sub_zero,Nat.add_sub_cancel,Nat.div_one]
     rw [this]
     cases b <;> rfl
    ·cases h
   ·cases h
  ·rename_i k _ _ hu
   unfold eqCells at h
   unfold Op.equalIn
   simp only [Sem.run_bind,run_underlying hu,Result.andThen_ok]
   split at h
   ·split at h
    ·injection h with h; subst h; rfl
    ·cases h
   ·split at h
    ·obtain ⟨rfl,rfl⟩:=eq0_int h
     simp [dec]
    ·cases h
   ·split at h
    ·injection h with h; subst h
     simp only [dec,eqB_eq]
     rw [← beq_mk]
     rfl
    ·cases h
   ·cases h
  ·cases h
end Go.Proofs.YtnpbgnjiihecgaaGreat.Ev

namespace Go.Proofs.YtnpbgnjiihecgaaGreat.Ev
open Go

variable {P:Program} {ρ:Nat→RB} {H:Heap} {w:World}

theorem eqNil_run (D:Nat) {t:TypeId} {kc:Bool} {x y:LV} {b:Bool} (h:eqNil P t kc x y=some b):(Op.equalIn (D + 1) t (dec ρ x) (dec ρ y)).run P w=.ok b w:=by
 unfold eqNil at h
 rw [Op.equalIn]
 split at h
 ·rename_i e hu
  simp only [Sem.run_bind,run_underlying hu,Result.andThen_ok]
  split at h <;> first
   | (injection h with h; subst h; rfl)
   | (cases h)
 ·rename_i e hu
  simp only [Sem.run_bind,run_underlying hu,Result.andThen_ok]
  split at h <;> first
   | (injection h with h; subst h; rfl)
   | (cases h)
 ·rename_i e f hu
  simp only [Sem.run_bind,run_underlying hu,Result.andThen_ok]
  split at h <;> first
   | (injection h with h; subst h; rfl)
   | (cases h)
 ·rename_i e f g hu
  simp only [Sem.run_bind,run_underlying hu,Result.andThen_ok]
  split at h <;> first
   | (injection h with h; subst h; rfl)
   | (cases h)
 ·rename_i e hu
  simp only [Sem.run_bind,run_underlying hu,Result.andThen_ok]
  split at h
  ·replace h:=cond_some h; obtain ⟨hk,h⟩:=h
   injection h with h; subst h; rfl
  ·injection h with h; subst h; rfl
  ·injection h with h; subst h; rfl
  ·cases h
 ·cases h
theorem guard_other (a c:Value) (t:TypeId) (h1:¬ (a=.nilIface∧c=.nilIface)) (h2:∀ l,a≠.agg l) (op:BinOp) (X Y:Operand):(eqGuard op t X Y a c).run P w=.ok () w:=by
 unfold eqGuard
 cases op <;> first
  | rfl
  | (cases a <;> first
    | rfl
    | exact absurd rfl (h2 _)
    | (cases c <;> first
      | rfl
      | exact absurd ⟨rfl,rfl⟩ h1))
theorem eqNil_kinds {t:TypeId} {kc:Bool} {x y:LV} {b:Bool} (h:eqNil P t kc x y=some b):(x=.nili∧y=.nili∧kc=true)∨(¬ (x=.nili∧y=.nili)∧(∀ l,x≠.agg l)∧isJunk x=false∧isJunk y=false):=by
 unfold eqNil at h
 split at h <;> first
  | (split at h <;> first
    | (cases h; done)
    | (replace h:=cond_some h; obtain ⟨hk,_⟩:=h; exact .inl ⟨rfl,rfl,hk⟩)
    | exact .inr ⟨by simp,by simp,rfl,rfl⟩)
  | (cases h; done)
theorem dec_nili {x:LV} (h:dec ρ x=.nilIface):x=.nili:=by
 cases x <;> simp [dec] at h <;> rfl
theorem dec_agg {x:LV} {l:Array Value} (h:dec ρ x=.agg l):∃ cs,x=.agg cs:=by
 cases x <;> simp [dec] at h
 exact ⟨_,rfl⟩

theorem guard_const {op:BinOp} {t:TypeId} {X Y:Operand} (h:(isConst X||isConst Y)=true):eqGuard op t X Y .nilIface .nilIface=pure ():=by
 unfold eqGuard
 cases X <;> cases Y <;> simp [isConst] at h <;> cases op <;> rfl

theorem eqL_ok {op:BinOp} {t:TypeId} {X Y:Operand} {x y:LV} {b:Bool} (h:eqL P t (isConst X||isConst Y) x y=some b) :
  (Op.equal t (dec ρ x) (dec ρ y)).run P w=.ok b w∧(eqGuard op t X Y (dec ρ x) (dec ρ y)).run P w=.ok () w:=by
 unfold eqL at h
 split at h
 ·rename_i xs ys
  replace h:=cond_some' h; obtain ⟨hg,h⟩:=h
  refine ⟨eqT_ok 12 Op.maxDepth t _ _ b (by simp [Op.maxDepth]) h w,?_⟩
  simp only [dec,eqGuard]
  cases op <;> simp [hg]
 ·split at h
  ·rename_i hu
   injection h with h; subst h
   refine ⟨?_,?_⟩
   ·show (Op.equalIn (9999 + 1) _ _ _).run P w=_
    rw [Op.equalIn]
    simp only [Sem.run_bind,run_underlying hu,Result.andThen_ok]
    rfl
   ·cases op <;> rfl
  ·cases h
 ·refine ⟨eqNil_run 9999 h,?_⟩
  rcases eqNil_kinds h with ⟨rfl,rfl,hk⟩ | ⟨hn,ha,_,_⟩
  ·rw [show dec ρ .nili=.nilIface from rfl,guard_const hk]; rfl
  ·exact guard_other _ _ t (fun hh=>hn ⟨dec_nili hh.1,dec_nili hh.2⟩) (fun l hl=>by obtain ⟨cs,rfl⟩:=dec_agg hl; exact ha cs rfl) op X Y

theorem eqL_kinds {t:TypeId} {kc:Bool} {x y:LV} {b:Bool} (h:eqL P t kc x y=some b):isJunk x=false∧isJunk y=false:=by
 unfold eqL at h
 split at h
 ·exact ⟨rfl,rfl⟩
 ·exact ⟨rfl,rfl⟩
 ·rcases eqNil_kinds h with ⟨rfl,rfl,_⟩ | ⟨_,_,h1,h2⟩
  ·exact ⟨rfl,rfl⟩
  ·exact ⟨h1,h2⟩

def otherKind:LV→Bool
 | .int _ _ | .str _ | .junk | .tup _=>false
 | _=>true
theorem binOp_eql_other {x:LV} (h:otherKind x=true) (t:TypeId) (c:Value):binOp .eql t (dec ρ x) c=(do pure (.bool (← Op.equal t (dec ρ x) c))):=by
 cases x <;> first | (cases h; done) | rfl
theorem binOp_neq_other {x:LV} (h:otherKind x=true) (t:TypeId) (c:Value):binOp .neq t (dec ρ x) c=(do pure (.bool (!(← Op.equal t (dec ρ x) c)))):=by
 cases x <;> first | (cases h; done) | rfl
theorem eqL_other {t:TypeId} {kc:Bool} {x y:LV} {b:Bool} (h:eqL P t kc x y=some b):otherKind x=true:=by
 unfold eqL at h
 split at h
 ·rfl
 ·rfl
 ·unfold eqNil at h
  split at h <;> first
   | (split at h <;> first
     | (cases h; done)
     | rfl)
   | (cases h; done)
theorem bin_ok {op:BinOp} {t:TypeId} {X Y:Operand} {x y:LV} {a c:Value} {v:LV} (hx:Is ρ x a) (hy:Is ρ y c) (h:binL P op t (isConst X||isConst Y) x y=some v) :
  (do eqGuard op t X Y a c; binOp op t a c:Sem Value).run P w=.ok (dec ρ v) w∧lt H.n v:=by
 unfold binL at h
 split at h
 ·rename_i k p k' q
  rw [hx.eq rfl,hy.eq rfl]
  have hg:eqGuard op t X Y (dec ρ (.int k p)) (dec ρ (.int k' q))=pure ():=by cases op <;> rfl
  rw [hg,pure_bind]
  cases hs:isShift op with
  | true =>
   rw [hs] at h
   simp only [cond_true] at h
   have:binOp op t (dec ρ (.int k p)) (dec ρ (.int k' q))=Op.shift op k p k' q:=by
    cases op <;> simp [isShift] at hs <;> rfl
   rw [this]
   exact shift_ok h
  | false =>
   rw [hs] at h
   simp only [cond_false] at h
   split at h
   ·rename_i e; subst e
    exact intBin_ok hs h
   ·cases h
 ·rename_i a' b'
  rw [hx.eq rfl,hy.eq rfl]
  have hg:eqGuard op t X Y (dec ρ (.str a')) (dec ρ (.str b'))=pure ():=by cases op <;> rfl
  rw [hg,pure_bind]
  exact strBin_ok h
 ·rename_i hni hns
  split at h
  ·cases he:eqL P t (isConst X||isConst Y) x y with
   | none=>rw [he] at h; cases h
   | some b =>
    rw [he] at h
    injection h with h; subst h
    obtain ⟨hjx,hjy⟩:=eqL_kinds he
    rw [hx.eq hjx,hy.eq hjy]
    obtain ⟨h1,h2⟩:=eqL_ok (op:=.eql) (ρ:=ρ) (w:=w) he
    rw [binOp_eql_other (eqL_other he)]
    simp only [Sem.run_bind,h1,h2,Result.andThen_ok,Sem.run_pure]
    exact ⟨rfl,trivial⟩
  ·cases he:eqL P t (isConst X||isConst Y) x y with
   | none=>rw [he] at h; cases h
   | some b =>
    rw [he] at h
    injection h with h; subst h
    obtain ⟨hjx,hjy⟩:=eqL_kinds he
    rw [hx.eq hjx,hy.eq hjy]
    obtain ⟨h1,h2⟩:=eqL_ok (op:=.neq) (ρ:=ρ) (w:=w) he
    rw [binOp_neq_other (eqL_other he)]
    simp only [Sem.run_bind,h1,h2,Result.andThen_ok,Sem.run_pure]
    exact ⟨rfl,trivial⟩
  ·cases h

theorem un_ok {op:UnOp} {x v:LV} (h:unL op x=some v):(Op.unary op (dec ρ x)).run P w=.ok (dec ρ v) w∧lt H.n v:=by
 unfold unL at h
 split at h
 ·injection h with h; subst h; exact ⟨rfl,trivial⟩
 ·injection h with h; subst h; exact ⟨rfl,trivial⟩
 ·injection h with h; subst h; exact ⟨rfl,trivial⟩
 ·cases h
theorem un_junk {op:UnOp} {x v:LV} (h:unL op x=some v):isJunk x=false:=by
 unfold unL at h
 split at h <;> first | rfl | cases h

theorem cellsAt_lt (hs:Sat ρ H w) {n:Nat} {x:LV} {cs:List LV} (h:cellsAt H n x=some cs) (hx:lt H.n x):lts H.n cs:=by
 unfold cellsAt at h
 split at h
 ·replace h:=cond_some h; obtain ⟨_,h⟩:=h; injection h with h; subst h; trivial
 ·replace h:=cond_some h; obtain ⟨_,h⟩:=h; injection h with h; subst h; trivial
 ·rename_i i o l c
  split at h
  ·rename_i e k cs' hg
   replace h:=cond_some h; obtain ⟨_,h⟩:=h; injection h with h; subst h
   have:=ltOpen (hs.wf i hx)
   rw [hg] at this
   simp only [ltObj] at this
   rw [lts_iff] at this ⊢
   intro v hv
   rw [takeN_eq,dropN_eq] at hv
   exact this v (List.mem_of_mem_drop (List.mem_of_mem_take hv))
  ·cases h
 ·replace h:=cond_some h; obtain ⟨_,h⟩:=h; injection h with h; subst h
  rw [ofBytes_eq,lts_iff]
  intro v hv
  obtain ⟨b,_,rfl⟩:=List.mem_map.1 hv
  trivial
 ·cases h
theorem cellsAt_length {n:Nat} {x:LV} {cs:List LV} (h:cellsAt H n x=some cs):cs.length=n:=by
 unfold cellsAt at h
 split at h
 ·replace h:=cond_some h; obtain ⟨a,h⟩:=h; injection h with h; subst h; rw [beqN a]; rfl
 ·replace h:=cond_some h; obtain ⟨a,h⟩:=h; injection h with h; subst h; rw [beqN a]; rfl
 ·split at h
  ·replace h:=cond_some h; obtain ⟨a,h⟩:=h; injection h with h; subst h
   have a:=Nat.le_of_ble_eq_true a
   rw [lenL_eq] at a
   rw [takeN_eq,dropN_eq,List.length_take,List.length_drop]; omega
  ·cases h
 ·replace h:=cond_some h; obtain ⟨a,h⟩:=h; injection h with h; subst h
  have a:=Nat.le_of_ble_eq_true a
  rw [lenL_eq] at a
  rw [ofBytes_eq,takeB_eq]; simp; omega
 ·cases h
theorem lenV_ok {x:LV} {n:Nat} (h:lenV x=some n):(Builtin.lenOf (dec ρ x)).run P w=.ok n w:=by
 unfold lenV at h
 split at h <;> first
  | (injection h with h; subst h; first | rfl | (simp only [dec,Builtin.lenOf,size_mk,lenL_eq]; rfl))
  | (cases h)

theorem firstCells_ok (hs:Sat ρ H w) {size n:Nat} {x:LV} {cs:List LV} (h:cellsAt H (n * size) x=some cs) (hx:lt H.n x) (hst:isStr x=true→size=1) (hn:n * size=0∨∀ i,x≠.emp i) :
  (Builtin.firstCells size n (dec ρ x)).run P w=.ok (decs ρ cs).toArray w:=by
 unfold cellsAt at h
 split at h
 ·replace h:=cond_some h; obtain ⟨a,h⟩:=h; injection h with h; subst h; rfl
 ·rename_i i
  replace h:=cond_some h; obtain ⟨a,h⟩:=h; injection h with h; subst h
  simp only [dec,Builtin.firstCells]
  rw [beqN a]
  rfl
 ·rename_i i o l c
  split at h
  ·rename_i e k cs' hg
   replace h:=cond_some h; obtain ⟨a,h⟩:=h; injection h with h; subst h
   have a:=Nat.le_of_ble_eq_true a
   rw [lenL_eq] at a
   have ho:=satOpen.2 (hs.obj i hx)
   rw [hg] at ho
   simp only [dec,Builtin.firstCells,takeN_eq,dropN_eq]
   exact run_cells ho o (n * size) a
  ·cases h
 ·rename_i s
  replace h:=cond_some h; obtain ⟨a,h⟩:=h; injection h with h; subst h
  have a:=Nat.le_of_ble_eq_true a
  rw [lenL_eq] at a
  have h1:size=1:=hst rfl
  subst h1
  rw [Nat.mul_one] at a ⊢
  simp only [dec,Builtin.firstCells,Sem.run_pure,ofBytes_eq,takeB_eq]
  congr 1
  apply Array.ext'
  simp only [decs_eq,List.map_map]
  have:(ByteArray.extract ⟨s.toArray⟩ 0 n).data.toList=s.take n:=by
   rw [ByteArray.data_extract]
   simp
  rw [Array.toList_map,this]
  rfl
 ·cases h
end Go.Proofs.YtnpbgnjiihecgaaGreat.Ev
