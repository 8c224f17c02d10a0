/- Converting and slicing. Slicing. Appending and copying. -/
import Derived.Test.YtnpbgnjiihecgaaGreatLc
namespace Go.Proofs.YtnpbgnjiihecgaaGreat.Ev
open Go
variable {P:Program} {J:Nat->RB} {H:Heap} {w:World}
theorem ymx0 (f:Value->ByteArray->Sem (ForInStep ByteArray)) (hf:∀ n s,f (.int .u8 n) s=pure (.yield (s.push (UInt8.ofNat n.toNat)))) :
  ∀ (cs:List LV) (l:List UInt8) (acc:ByteArray) (w:World),bytesOf cs=some l->(forIn (decs J cs) acc f:Sem ByteArray).run P w=.ok ⟨acc.data++l.toArray⟩ w
 | [],l,acc,w,h=>by
  injection h with h;subst h;simp [decs]
 | c::cs,l,acc,w,h=>by
  unfold bytesOf at h;split at h
  .rename_i heq;cases heq
  .rename_i n vs heq;injection heq with h1 h2;subst h1;subst h2;split at h
   .rename_i l' hl;injection h with h;subst h;have ih:=ymx0 f hf cs l' (acc.push (UInt8.ofNat n.toNat)) w hl;simp only [decs,dec,List.forIn_cons,Sem.run_bind,Sem.run_pure,Result.andThen_ok,hf,ih]
    congr 2
    simp
   .cases h
  .cases h
theorem yxm2 (hs:Sat J H w) {x v:LV} (h:ymn0 H x=some v) (hx:lt H.n x):(Conv.bytesToString (dec J x)).run P w=.ok (dec J v) w/\lt H.n v:=by
 unfold ymn0 at h;split at h
 .injection h with h;subst h;exact ⟨rfl,trivial⟩
 .injection h with h;subst h;refine ⟨?_,trivial⟩;simp only [dec,Conv.bytesToString,loadCells,loadCellsFrom,pure_bind];simp;rfl
 .rename_i i o n c;split at h
  .rename_i cs hc;split at h
   .rename_i l hl;injection h with h;subst h;refine ⟨?_,trivial⟩;have hlen:=ybh0 hc;have:=ywh0 (P:=P) hs (size:=1) (n:=n) (x:=.slice i o n c) (cs:=cs) (by rw [Nat.mul_one];exact hc) hx (fun h=>by cases h) (.inr (by simp));simp only [dec,Builtin.firstCells,Nat.mul_one] at this;simp only [dec,Conv.bytesToString,Sem.run_bind,this,Result.andThen_ok];rw [<- Array.forIn_toList];rw [ymx0 (P:=P) (J:=J) _ (fun n s=>rfl) cs l ByteArray.empty w hl];simp [show ByteArray.empty.data=#[] from rfl]
   .cases h
  .cases h
 .cases h
theorem yfc0 {o:Option LV} {v:LV} {H' : Heap} (h:withH H o=some (v,H')):o=some v/\H'=H:=by
 cases o with
 | none=>cases h
 | some x=>injection h with h;injection h with a b;exact ⟨by rw [a],b.symm⟩
theorem yno0 (hs:Sat J H w) (e:TypeId) (s:List UInt8) :
  ∃ J' w',(Conv.stringToBytes e ⟨s.toArray⟩).run P w=.ok (dec J' (.slice H.n 0 (lenL s) (.rest 0))) w'/\Moved J H w J' (H.push (.cells e (.grow 1) (ofBytes s))) w':=by
 obtain ⟨cap,hcap⟩ : ∃ cap,cap=(Question.appendCap s.length 0 e).cut (w.tape w.drawn (Question.appendCap s.length 0 e)):=⟨_,rfl⟩;have hle:s.length<=cap:=by rw [hcap];simp only [Question.cut];omega
 have hmap:(Array.map (fun b=>Value.int IntKind.u8 (b.toNat:Int)) s.toArray)=(decs J (ofBytes s)).toArray:=by
  rw [ykd0,yvb0,List.map_map];simp [dec]
 have hlen:(decs J (ofBytes s)).length=s.length:=by rw [yla0,ykd0];simp
 have hlt:∀ n,lts n (ofBytes s):=fun n=>by
  rw [ykd0,ygb0];intro v hv;obtain ⟨b,_,rfl⟩:=List.mem_map.1 hv;trivial
 let spare:List Value:=List.replicate (cap-s.length) (.int .u8 0)
 let O:Obj:=.cells ((decs J (ofBytes s))++spare).toArray e (cap,cap+1)
 let w' : World:={ w with heap:=w.heap.push O,drawn:=w.drawn+1 }
 have hsz:((decs J (ofBytes s))++spare).length=cap:=by simp [spare,hlen];omega
 refine ⟨upRho J H.n ⟨w.heap.size,0,cap,default,0⟩,w',?_,Moved.push hs _ O _ rfl rfl rfl rfl rfl (hlt _) ?_⟩
 .unfold Conv.stringToBytes
  have harr:Array.map (fun b=>Value.int IntKind.u8 (b.toNat:Int)) s.toArray++Array.replicate (cap-s.length) (Value.int .u8 0)=((decs J (ofBytes s))++spare).toArray:=by
   rw [hmap];apply Array.ext';simp [spare]
  simp only [Sem.run_bind,run_choose,Question.forced,Bool.false_eq_true,if_false,Result.andThen_ok,yjx0,<- hcap,newRow,Sem.run_pure];rw [harr];simp only [run_newObj,Result.andThen_ok,markStringish,Sem.run_bind,run_shape]
  have hsh:(World.shape? { w with heap:=w.heap.push (.cells ((decs J (ofBytes s))++spare).toArray e),drawn:=w.drawn+1 } w.heap.size)=some (e,cap):=by
   simp only [World.shape?,Array.getElem?_push_size,List.size_toArray,hsz]
  rw [hsh];simp only [run_freeze,Result.andThen_ok,dec,yoa0,capOf,Nat.zero_add,Nat.sub_zero,lenL_eq]
  congr 1
  simp only [World.freeze,w'];rw [if_neg (by omega)]
  congr 1
  apply Array.ext_getElem?;intro i;rw [Array.getElem?_modify];by_cases hi:w.heap.size=i
  .subst hi;simp [O]
  .simp only [hi,if_false,Array.getElem?_push];by_cases hi' : i=w.heap.size
   .exact absurd hi'.symm hi
   .simp [hi']
 .have hd:decs (upRho J H.n ⟨w.heap.size,0,cap,default,0⟩) (ofBytes s)=decs J (ofBytes s):=yie0 (yka0 J H.n _) _ (hlt _);refine ⟨rfl,cap,cap+1,spare,?_,?_,?_,?_⟩
  .intro j hj;have:(ofBytes s).length=s.length:=by rw [ykd0];simp
   simp only [spare,List.length_replicate,this] at hj;omega
  .have:(ofBytes s).length=s.length:=by rw [ykd0];simp
   rw [this];simp;omega
  .have:(ofBytes s).length=s.length:=by rw [ykd0];simp
   simp [spare,this];omega
  .rw [hd];simp [w',O]
theorem yym2 (hs:Sat J H w) {src dst:TypeId} {x v:LV} {H' : Heap} (h:convL P src dst x H=some (v,H')) (hx:lt H.n x) :
  ∃ J' w',(convert src dst (dec J x)).run P w=.ok (dec J' v) w'/\Moved J H w J' H' w'/\lt H'.n v:=by
 unfold convL at h;unfold convert;split at h
 .rename_i k0 hu;split at h
  .rename_i k hu';split at h
   .rename_i k1 n;injection h with h;injection h with h1 h2;subst h1;subst h2;refine ⟨J,w,?_,Moved.refl hs,trivial⟩;simp only [Sem.run_bind,run_underlying hu,run_underlying hu',Result.andThen_ok,dec];rfl
   .cases h
  .cases h
 .rename_i hu;split at h
  .rename_i hu';split at h
   .injection h with h;injection h with h1 h2;subst h1;subst h2;refine ⟨J,w,?_,Moved.refl hs,trivial⟩;simp only [Sem.run_bind,run_underlying hu,run_underlying hu',Result.andThen_ok,dec];rfl
   .cases h
  .rename_i e hu';split at h
   .rename_i he;split at h
    .rename_i s;injection h with h;injection h with h1 h2;subst h1;subst h2;obtain ⟨J',w',hr,hm⟩:=yno0 (P:=P) hs e s;refine ⟨J',w',?_,hm,by simp only [lt,Heap.n_push];omega⟩;simp only [Sem.run_bind,run_underlying hu,run_underlying hu',Result.andThen_ok,dec,run_underlying he];exact hr
    .cases h
   .cases h
  .cases h
 .rename_i e hu;split at h
  .rename_i hu';split at h
   .rename_i he;obtain ⟨ht,rfl⟩:=yfc0 h;obtain ⟨hr,hl⟩:=yxm2 (P:=P) hs ht hx;refine ⟨J,w,?_,Moved.refl hs,hl⟩;simp only [Sem.run_bind,run_underlying hu,run_underlying hu',Result.andThen_ok]
    cases x <;> first
     | (cases ht;done)
     | (simp only [dec,Sem.run_bind,run_underlying he,Result.andThen_ok] at hr ⊢;exact hr)
   .cases h
  .cases h
 .cases h
end Go.Proofs.YtnpbgnjiihecgaaGreat.Ev
namespace Go.Proofs.YtnpbgnjiihecgaaGreat.Ev
open Go
variable {P:Program} {J:Nat->RB} {H:Heap} {w:World}
theorem ysk0 {d n:Nat} (h:bound none d=some n):n=d:=by injection h with h;exact h.symm
theorem yng0 {v:LV} {d n:Nat} (h:bound (some v) d=some n):∃ k,v=.int k n:=by
 unfold bound at h;split at h
 .rename_i heq;cases heq
 .rename_i k i heq;injection heq with heq;subst heq;replace h:=yaa0 h;obtain ⟨h1,h⟩:=h;injection h with h;subst h;exact ⟨k,by have:=of_decide_eq_true h1;rw [Int.toNat_of_nonneg this]⟩
 .cases h
theorem yze0 {k:IntKind} {n y:Nat} (h:n<=y) (code:BoundsCode):(Instr.sliceBound (.int k n) y code).run P w=.ok n w:=by
 unfold Instr.sliceBound;simp only [asIntOf,Sem.run_bind,Sem.run_pure,Result.andThen_ok];rw [if_pos ⟨by omega,by omega⟩];simp
def IsO (J:Nat->RB):Option LV->Option Value->Prop
 | none,none=>True
 | some l,some v=>Is J l v
 | _,_=>False
theorem IsO.none {v:Option Value} (h:IsO J none v):v=none:=by cases v <;> simp_all [IsO]
theorem IsO.int {v:Option Value} {k:IntKind} {n:Int} (h:IsO J (some (.int k n)) v):v=some (.int k n):=by
 cases v with
 | none=>cases h
 | some v=>rw [Is.eq h rfl];rfl
theorem yog0 {b:Bool} {len cap l h:Nat} {lo hi:Option LV} {lo' hi' : Option Value} (hlo:IsO J lo lo') (hhi:IsO J hi hi') (hb:bound hi len=some h) (lb:bound lo 0=some l) (h1:h<=cap) (h2:l<=h) :
  (Instr.sliceBounds b len cap lo' hi' none).run P w=.ok (l,h,cap) w:=by
 unfold Instr.sliceBounds;cases hi with
 | none =>
  have hh:=ysk0 hb;subst hh;rw [IsO.none hhi];cases lo with
  | none =>
   have hl:=ysk0 lb;subst hl;rw [IsO.none hlo];rfl
  | some x =>
   obtain ⟨k,rfl⟩:=yng0 lb;rw [IsO.int hlo];simp only [Sem.run_bind,Sem.run_pure,Result.andThen_ok,yze0 h2]
 | some y =>
  obtain ⟨k,rfl⟩:=yng0 hb;rw [IsO.int hhi];cases lo with
  | none =>
   have hl:=ysk0 lb;subst hl;rw [IsO.none hlo];simp only [Sem.run_bind,Sem.run_pure,Result.andThen_ok,yze0 h1]
  | some x =>
   obtain ⟨k,rfl⟩:=yng0 lb;rw [IsO.int hlo];simp only [Sem.run_bind,Sem.run_pure,Result.andThen_ok,yze0 h1,yze0 h2]
theorem ytl0 {b:Bool} {len cap l h m:Nat} {lo hi mx:Option LV} {x:LV} {lo' hi' mx' : Option Value} (hlo:IsO J lo lo') (hhi:IsO J hi hi') (hmx:IsO J mx mx') (he:mx=some x) (hisome:hi≠none)
  (hb:bound hi len=some h) (lb:bound lo 0=some l) (mb:bound (some x) 0=some m) (h0:m<=cap) (h1:h<=m) (h2:l<=h) :
  (Instr.sliceBounds b len cap lo' hi' mx').run P w=.ok (l,h,m) w:=by
 subst he;obtain ⟨k,rfl⟩:=yng0 mb;rw [IsO.int hmx];unfold Instr.sliceBounds;cases hi with
 | none=>exact absurd rfl hisome
 | some y =>
  obtain ⟨k',rfl⟩:=yng0 hb;rw [IsO.int hhi];cases lo with
  | none =>
   have hl:=ysk0 lb;subst hl;rw [IsO.none hlo];simp only [Sem.run_bind,Sem.run_pure,Result.andThen_ok,yze0 h0,yze0 h1]
  | some x =>
   obtain ⟨k,rfl⟩:=yng0 lb;rw [IsO.int hlo];simp only [Sem.run_bind,Sem.run_pure,Result.andThen_ok,yze0 h0,yze0 h1,yze0 h2]
theorem ytk0 {size i o c l h:Nat} {v:LV} (hv:ymc0 size i o c l h=some v):h<=c/\v=.slice i (if c=l then o else o+l*size) (h-l) (.known (c-l)):=by
 unfold ymc0 at hv;replace hv:=yaa0 hv;obtain ⟨h1,hv⟩:=hv;injection hv with hv;refine ⟨Nat.le_of_ble_eq_true h1,?_⟩;rw [<- hv,bc_eq];simp only [Nat.beq_eq]
theorem ymu1 {i o n c:Nat} : dec J (.slice i o n (.known c))=.slice (some ⟨(J i).blk,(J i).off+o,none⟩) n c:=rfl
theorem yqc1 (hs:Sat J H w) {size i o len k:Nat} (hi:i<H.n) (h:yfk0 H size i o len k=true):len<=(J i).cap-k:=by
 unfold yfk0 at h;split at h
 .rename_i e sz cs hg;simp only [Bool.and_eq_true] at h;obtain ⟨h1,h2,h3,h4⟩:=h;have h4:=bltN.1 h4;have h1:=beqN h1;have h2:=beqN h2;have h3:=Nat.le_of_ble_eq_true h3;rw [lenL_eq] at h3;have ho:=ycx0.2 (hs.obj i hi);rw [hg] at ho;obtain ⟨_,_,_,_,_,hc,_,_⟩:=ho;subst h1;have:(k+len)*sz<=(J i).cap*sz:=by rw [Nat.add_mul];omega
  have:=Nat.le_of_mul_le_mul_right this (by omega);omega
 .cases h
theorem yxi1 (hs:Sat J H w) {size i o len:Nat} {cap:Cap} {lo hi mx:Option LV} {lo' hi' mx' : Option Value} {v:LV} {H' : Heap} (hlo:IsO J lo lo') (hhi:IsO J hi hi') (hmx:IsO J mx mx')
  (hm:mx≠none->hi≠none) (h:yoh0 size i o len cap lo hi mx H=some (v,H')) (hx:i<H.n) {t elem:TypeId} (hu:P.underlying t=some (.slice elem)) (hsz:sizeOfT P elem=some size) :
  ∃ J',(Instr.slice t (dec J (.slice i o len cap)) lo' hi' mx').run P w=.ok (dec J' v) w/\Moved J H w J' H' w/\lt H'.n v:=by
 unfold yoh0 at h;split at h
 .cases h
 .rename_i hh hb;split at h
  .cases h
  .rename_i l lb;replace h:=yaa0 h;obtain ⟨h1,h⟩:=h;replace h:=yaa0 h;obtain ⟨h2,h⟩:=h;have h1:=Nat.le_of_ble_eq_true h1;have h2:=Nat.le_of_ble_eq_true h2
   -- the model's own way,once the bounds are taken
   have way:∀ (m:Nat),(Instr.sliceBounds true len (capOf (J i) cap) lo' hi' mx').run P w=.ok (l,hh,m) w ->
     (Instr.slice t (dec J (.slice i o len cap)) lo' hi' mx').run P w=.ok (.slice (some (if m=l then ⟨(J i).blk,(J i).off+o,none⟩ else ⟨(J i).blk,(J i).off+o+l*size,none⟩)) (hh-l) (m-l)) w:=by
    intro m hbm;unfold Instr.slice;simp only [Sem.run_bind,run_underlying hu,Result.andThen_ok,dec,hbm,ybb0 hsz,Sem.run_pure]
    congr 2
    split <;> simp [yah0]
   have known:∀ (m:Nat) (v:LV),ymc0 size i o m l hh=some v ->
     Value.slice (some (if m=l then ⟨(J i).blk,(J i).off+o,none⟩ else ⟨(J i).blk,(J i).off+o+l*size,none⟩)) (hh-l) (m-l)=dec J v/\lt H.n v:=by
    intro m v hv;obtain ⟨_,rfl⟩:=ytk0 hv;refine ⟨?_,hx⟩;rw [ymu1]
    congr 2
    split <;> simp [Nat.add_assoc]
   split at h
   ·-- no third index
    rw [IsO.none hmx] at way ⊢;split at h
    .rename_i c;obtain ⟨hk,rfl⟩:=yfc0 h;have hc:=(ytk0 hk).1;obtain ⟨e,hl⟩:=known c v hk;exact ⟨J,by rw [way c (yog0 hlo hhi hb lb hc h2),e],Moved.refl hs,hl⟩
    .rename_i k;unfold ygk0 at h;replace h:=yaa0 h;obtain ⟨hg,h⟩:=h;have hcap:=yqc1 hs hx hg;have hway:=way ((J i).cap-k) (yog0 hlo hhi hb lb (by simp only [capOf];omega) h2);cases hl0:Nat.beq l 0 with
     | true =>
      rw [hl0] at h;simp only [cond_true] at h;have:=beqN hl0;subst this;injection h with h;injection h with ha hb';subst ha;subst hb';refine ⟨J,?_,Moved.refl hs,hx⟩;rw [hway];simp [dec,capOf]
     | false =>
      rw [hl0] at h;simp only [cond_false] at h;have hl0:=yxb0 hl0;cases hlh:Nat.beq l hh with
      | true =>
       rw [hlh] at h;simp only [cond_true] at h;have:=beqN hlh;subst this;injection h with h;injection h with ha hb';subst ha;subst hb';refine ⟨upRho J H.n ⟨0,0,0,(if (J i).cap-k=l then ⟨(J i).blk,(J i).off+o,none⟩ else ⟨(J i).blk,(J i).off+o+l*size,none⟩),(J i).cap-k-l⟩,?_,?_,by simp only [lt,Heap.n_push];omega⟩
       .rw [hway];simp [dec,yoa0]
       .exact Moved.pushVoid hs .empty _ rfl trivial trivial
      | false =>
       rw [hlh] at h;simp only [cond_false] at h;have hlh:=yxb0 hlh;injection h with h;injection h with ha hb';subst ha;subst hb';refine ⟨J,?_,Moved.refl hs,hx⟩;rw [hway,if_neg (by omega)];simp [dec,capOf,Nat.add_assoc,Nat.sub_sub]
   .rename_i m';split at h
    .cases h
    .rename_i m mb;replace h:=yaa0 h;obtain ⟨h3,h⟩:=h;replace h:=yaa0 h;obtain ⟨h4,h⟩:=h;have h3:=Nat.le_of_ble_eq_true h3;have h4:=Nat.le_of_ble_eq_true h4;split at h
     .rename_i c;replace h:=yaa0 h;obtain ⟨h5,h⟩:=h;have h5:=Nat.le_of_ble_eq_true h5;obtain ⟨hk,rfl⟩:=yfc0 h;obtain ⟨e,hl⟩:=known m v hk;exact ⟨J,by rw [way m (ytl0 hlo hhi hmx rfl (hm (by simp)) hb lb mb h5 h3 h2),e],Moved.refl hs,hl⟩
     .rename_i k;replace h:=yaa0 h;obtain ⟨hg,h⟩:=h;have hcap:=yqc1 hs hx hg;obtain ⟨hk,rfl⟩:=yfc0 h;obtain ⟨e,hl⟩:=known m v hk;exact ⟨J,by rw [way m (ytl0 hlo hhi hmx rfl (hm (by simp)) hb lb mb (by simp only [capOf];omega) h3 h2),e],Moved.refl hs,hl⟩
theorem yuf1 {s:List UInt8} {lo hi:Option LV} {lo' hi' : Option Value} {v:LV} (hlo:IsO J lo lo') (hhi:IsO J hi hi') (h:yph0 s lo hi=some v) {t:TypeId} (hu:P.underlying t=some .string) :
  (Instr.slice t (dec J (.str s)) lo' hi' none).run P w=.ok (dec J v) w/\lt H.n v:=by
 unfold yph0 at h;split at h
 .cases h
 .rename_i hh hb;split at h
  .cases h
  .rename_i l lb;replace h:=yaa0 h;obtain ⟨h1,h⟩:=h;replace h:=yaa0 h;obtain ⟨h2,h⟩:=h;have h1:=Nat.le_of_ble_eq_true h1;have h2:=Nat.le_of_ble_eq_true h2;injection h with h;subst h;refine ⟨?_,trivial⟩;rw [lenL_eq] at h1 hb;unfold Instr.slice;simp only [Sem.run_bind,run_underlying hu,Result.andThen_ok,dec,Option.isSome_none,Bool.false_eq_true,if_false,yjx0];have:=yog0 (P:=P) (w:=w) (b:=false) (cap:=s.length) hlo hhi hb lb h1 h2;simp only [pure_bind,Sem.run_bind,this,Result.andThen_ok,Sem.run_pure]
   congr 2
   apply ByteArray.ext;apply Array.ext';simp only [ByteArray.data_extract,yks0,yfi1];simp [List.take_drop]
theorem yke2 (hs:Sat J H w) {t:TypeId} {x:LV} {lo hi mx:Option LV} {lo' hi' mx' : Option Value} {v:LV} {H' : Heap} (hlo:IsO J lo lo') (hhi:IsO J hi hi') (hmx:IsO J mx mx')
  (hm:mx≠none->hi≠none) (h:sliceL P t x lo hi mx H=some (v,H')) (hx:lt H.n x) :
  ∃ J',(Instr.sliceAt t (dec J x) lo' hi' mx').run P w=.ok (dec J' v) w/\Moved J H w J' H' w/\lt H'.n v:=by
 unfold sliceL at h;unfold Instr.sliceAt;split at h
 .rename_i hu;simp only [Sem.run_bind,run_underlying hu,Result.andThen_ok];split at h
  .rename_i s;split at h
   .cases h
   .obtain ⟨hk,rfl⟩:=yfc0 h;rw [IsO.none hmx];obtain ⟨a,b⟩:=yuf1 (P:=P) (w:=w) (H:=H') hlo hhi hk hu;exact ⟨J,a,Moved.refl hs,b⟩
  .cases h
 .rename_i elem hu;simp only [Sem.run_bind,run_underlying hu,Result.andThen_ok];split at h
  .cases h
  .rename_i size hsz;split at h
   .exact yxi1 hs hlo hhi hmx hm h hx hu hsz
   ·-- a nil slice
    split at h
    .rename_i hb;split at h
     .rename_i lb;split at h
      .injection h with h;injection h with h1 h2;subst h1;subst h2;refine ⟨J,?_,Moved.refl hs,trivial⟩;rw [IsO.none hmx];unfold Instr.slice;simp only [Sem.run_bind,run_underlying hu,Result.andThen_ok,dec,yog0 (P:=P) (w:=w) (b:=true) (cap:=0) hlo hhi hb lb (Nat.le_refl _) (Nat.le_refl _),ybb0 hsz,Sem.run_pure];rfl
      .split at h
       .rename_i mb;injection h with h;injection h with h1 h2;subst h1;subst h2;refine ⟨J,?_,Moved.refl hs,trivial⟩;unfold Instr.slice;simp only [Sem.run_bind,run_underlying hu,Result.andThen_ok,dec,ytl0 (P:=P) (w:=w) (b:=true) (cap:=0) hlo hhi hmx rfl (hm (by simp)) hb lb mb (Nat.le_refl _) (Nat.le_refl _) (Nat.le_refl _),ybb0 hsz,Sem.run_pure];rfl
       .cases h
     .cases h
    .cases h
   .rename_i i;split at h
    .rename_i hb;split at h
     .rename_i lb;split at h
      .injection h with h;injection h with h1 h2;subst h1;subst h2;refine ⟨J,?_,Moved.refl hs,hx⟩;rw [IsO.none hmx];unfold Instr.slice;simp only [Sem.run_bind,run_underlying hu,Result.andThen_ok,dec,yog0 (P:=P) (w:=w) (b:=true) (cap:=(J i).ec) hlo hhi hb lb (Nat.zero_le _) (Nat.le_refl _),ybb0 hsz,Sem.run_pure];simp [Addr.add]
      .cases h
     .cases h
    .cases h
   .cases h
 .rename_i n elem hu;simp only [Sem.run_bind,run_underlying hu,Result.andThen_ok];split at h
  .rename_i i o;split at h
   .cases h
   .split at h
    .cases h
    .rename_i size hsz;split at h
     .cases h
     .rename_i hh hb;split at h
      .cases h
      .rename_i l lb;replace h:=yaa0 h;obtain ⟨h2,h⟩:=h;have h2:=Nat.le_of_ble_eq_true h2;obtain ⟨hk,rfl⟩:=yfc0 h;obtain ⟨h1,rfl⟩:=ytk0 hk;refine ⟨J,?_,Moved.refl hs,hx⟩;rw [IsO.none hmx];simp only [dec,Instr.sureAddr,pure_bind,Sem.run_bind,yog0 (P:=P) (w:=w) (b:=false) (cap:=n) hlo hhi hb lb h1 h2,Result.andThen_ok,ybb0 hsz,Sem.run_pure,capOf]
       congr 2
       split <;> simp [yah0,Nat.add_assoc]
  .cases h
 .cases h
end Go.Proofs.YtnpbgnjiihecgaaGreat.Ev
namespace Go.Proofs.YtnpbgnjiihecgaaGreat.Ev
open Go
variable {P:Program} {J:Nat->RB} {H:Heap} {w:World}
theorem yrc1 (need:Nat):∀ (r c:Nat),Builtin.growBy need r c+768<=2 ^ r*(c+768)
 | 0,c=>by simp [Builtin.growBy]
 | r+1,c=>by
  unfold Builtin.growBy;split
  .have:1<=2 ^ (r+1):=Nat.one_le_two_pow
   calc c+768=1*(c+768):=by omega
    _<=2 ^ (r+1)*(c+768):=Nat.mul_le_mul_right _ this
  .have h:=yrc1 need r (c+(c+768) / 4);have h2:c+(c+768) / 4+768<=2*(c+768):=by omega
   calc _<=2 ^ r*(c+(c+768) / 4+768):=h
    _<=2 ^ r*(2*(c+768)):=Nat.mul_le_mul_left _ h2
    _=2 ^ (r+1)*(c+768):=by rw [Nat.pow_succ,Nat.mul_assoc]
theorem yyi1 {need cap:Nat} (h:cap<need):Builtin.nextslicecap need cap<=16*(need+768):=by
 unfold Builtin.nextslicecap;split
 .omega
 .split
  .omega
  .have:=yrc1 need 4 cap;omega
theorem yzi1 {need cap bytes:Nat} (h:cap<need) (h1:need*bytes<=1099511627776) (h2:bytes<=1048576):¬ (Builtin.nextslicecap need cap*bytes>2 ^ 48):=by
 have h3:=Nat.mul_le_mul_right bytes (yyi1 h);rw [Nat.mul_assoc,Nat.add_mul] at h3;omega
theorem ysc1 {t:TypeId} (h:notInt P t=true):∃ d,P.underlying t=some d/\∀ k,d≠.int k:=by
 unfold notInt at h;cases hu:P.underlying t with
 | none=>rw [hu] at h;cases h
 | some d =>
  rw [hu] at h;exact ⟨d,rfl,fun k hk=>by subst hk;cases h⟩
theorem yaa1 {t xt ty elem:TypeId} {ats:Array TypeId} {size n sLen sCap bytes:Nat} {base:Option Addr} {X zero:Value} {old new:Array Value} {i:TypeInfo}
  (h0:ats[0]?=some t) (h1:ats[1]?=some xt) (hu:P.underlying t=some (.slice elem)) (hi:notInt P xt=true) (hsz:sizeOfT P elem=some size)
  (hb:P.info? elem=some i) (hbytes:i.bytes=bytes) (hz:(zeroValue elem).run P w=.ok zero w) (hzero:∀ w,(zeroValue elem).run P w=.ok zero w) (hn:(Builtin.lenOf X).run P w=.ok n w)
  (hno:¬ sLen+n<=sCap) (hold:∀ w',w'.heap=w.heap->(Builtin.firstCells size sLen (.slice base sLen sCap)).run P w'=.ok old w')
  (hnew:∀ w',w'.heap=w.heap->(Builtin.firstCells size n X).run P w'=.ok new w')
  (hb1:(sLen+n)*bytes<=1099511627776) (hb2:bytes<=1048576) (hpos:bytes≠0\/(sLen+n:Int)<=IntKind.i64.max) :
  ∃ cap,sLen+n<=cap/\(Builtin.append_ ats ty #[.slice base sLen sCap,X]).run P w =
   .ok (.slice (some ⟨w.heap.size,0,none⟩) (sLen+n) cap) { w with heap:=w.heap.push (.cells (old++new++Builtin.zeroCells zero.cells (cap-(sLen+n))) elem),drawn:=w.drawn+1 }:=by
 obtain ⟨d,hd,hd'⟩:=ysc1 hi;subst hbytes;refine ⟨(Question.appendCap (sLen+n) sCap elem).cut (w.tape w.drawn (Question.appendCap (sLen+n) sCap elem)),by simp only [Question.cut];omega,?_⟩;unfold Builtin.append_;simp only [h0,h1,List.getElem?_toArray,List.getElem?_cons_zero,List.getElem?_cons_succ,Sem.run_bind,run_underlying hu,Result.andThen_ok,ybb0 hsz,run_underlying hd,Sem.run_pure]
 cases d <;> first
  | exact absurd rfl (hd' _)
  | (simp only [Bool.false_eq_true, if_false, Sem.run_bind, hn, Result.andThen_ok, Bool.not_false, if_true]
     rw [if_neg hno];simp only [ytf0 hb,Sem.run_bind,Result.andThen_ok]
     rw [if_neg (by
      rintro ⟨ha,hc | hc⟩
      .exact hc
      .rcases hpos with hp | hp
       .exact hp hc
       .omega)]
     simp only [Sem.run_bind,ytf0 hb,Result.andThen_ok];rw [if_neg (yzi1 (by omega) hb1 hb2)];simp only [Sem.run_bind,run_choose,Question.forced,Bool.false_eq_true,if_false,Result.andThen_ok,ytf0 hb,run_askRoom];rw [hold { w with drawn:=w.drawn+1 } rfl];simp only [Result.andThen_ok];rw [hnew { w with drawn:=w.drawn+1 } rfl]
     simp only [Result.andThen_ok,hzero,newRow,Sem.run_bind,run_newObj,Sem.run_pure])
theorem ypg0 {t xt ty elem:TypeId} {ats:Array TypeId} {size n sLen sCap:Nat} {base:Option Addr} {X:Value} {new:Array Value}
  (h0:ats[0]?=some t) (h1:ats[1]?=some xt) (hu:P.underlying t=some (.slice elem)) (hi:notInt P xt=true) (hsz:sizeOfT P elem=some size)
  (hn:(Builtin.lenOf X).run P w=.ok n w) (hyes:sLen+n<=sCap) (hnew:(Builtin.firstCells size n X).run P w=.ok new w) {w' : World}
  (hw:match base with | some a=>(storeCells (a.add (sLen*size)) new.toList).run P w=.ok () w' | none=>w'=w) :
  (Builtin.append_ ats ty #[.slice base sLen sCap,X]).run P w=.ok (.slice base (sLen+n) sCap) w':=by
 obtain ⟨d,hd,hd'⟩:=ysc1 hi;unfold Builtin.append_;simp only [h0,h1,List.getElem?_toArray,List.getElem?_cons_zero,List.getElem?_cons_succ,Sem.run_bind,run_underlying hu,Result.andThen_ok,ybb0 hsz,run_underlying hd,Sem.run_pure]
 cases d <;> first
  | exact absurd rfl (hd' _)
  | (simp only [Bool.false_eq_true, if_false, Sem.run_bind, hn, Result.andThen_ok, Bool.not_false, if_true]
     rw [if_pos hyes];simp only [Sem.run_bind,hnew,Result.andThen_ok];cases base with
     | none=>simp only at hw;subst hw;rfl
     | some a=>simp only [Sem.run_bind] at hw ⊢;rw [hw];rfl)
theorem yoo0 (z:Array Value) (n:Nat):(Builtin.zeroCells z n).size=n*z.size:=by simp [Builtin.zeroCells]
theorem yul0 {elem:TypeId} {n:Nat} {cs:List LV} {v:LV} {H' : Heap} (h:grownL P elem H n cs=some (v,H')) :
  ∃ i z,P.info? elem=some i/\zeroOf P elem=some z/\n*i.bytes<=1099511627776/\i.bytes<=1048576/\(cellsOf z).length=i.size/\i.bytes≠0/\v=.slice H.n 0 n (.rest 0)/\H'=H.push (.cells elem (.grow i.size) cs):=by
 unfold grownL at h;split at h
 .rename_i i z hi hz;replace h:=yaa0 h;obtain ⟨h1,h⟩:=h;replace h:=yaa0 h;obtain ⟨h2,h⟩:=h;replace h:=yaa0 h;obtain ⟨h3,h⟩:=h;replace h:=yaa0 h;obtain ⟨h4,h⟩:=h;have h1:=Nat.le_of_ble_eq_true h1;have h2:=Nat.le_of_ble_eq_true h2;have h3:=beqN h3;have h4:=bltN.1 h4;rw [lenL_eq] at h3;injection h with h;injection h with ha hb;subst ha;subst hb;exact ⟨i,z,hi,hz,h1,h2,h3,by omega,rfl,rfl⟩
 .cases h
theorem yle2 (hs:Sat J H w) {elem:TypeId} {size cap m:Nat} {cs:List LV} {spare:List Value} (hl:lts H.n cs) (h1:cs.length<=cap*size) (h2:cap*size<=cs.length+spare.length) {w' : World}
  (hw:w'.heap=w.heap.push (.cells (decs J cs++spare).toArray elem)) (hos:w'.os=w.os) (ht:w'.tape=w.tape) (hp:w'.output=w.output) :
  ∃ J',Moved J H w J' (H.push (.cells elem (.grow size) cs)) w'/\dec J' (.slice H.n 0 m (.rest 0))=.slice (some ⟨w.heap.size,0,none⟩) m cap:=by
 refine ⟨upRho J H.n ⟨w.heap.size,0,cap,default,0⟩,Moved.push hs _ (.cells (decs J cs++spare).toArray elem) _ rfl hw hos ht hp (yyg0 (by omega) cs hl) ?_,by simp [dec,yoa0,capOf]⟩;refine ⟨rfl,0,0,spare,by omega,h1,h2,?_⟩;rw [yie0 (yka0 J H.n _) cs hl,hw];simp
theorem yvl0 {elem:TypeId} {size:Nat} {i:TypeInfo} (h:sizeOfT P elem=some size) (hi:P.info? elem=some i):i.size=size:=by
 simp [sizeOfT,hi] at h;exact h
theorem ynx0 (hs:Sat J H w) {t xt ty:TypeId} {ats:Array TypeId} {s x v:LV} {H' : Heap} (h0:ats[0]?=some t) (h1:ats[1]?=some xt) (h:appendL0 P t xt s x H=some (v,H')) (hls:lt H.n s) (hlx:lt H.n x) :
  ∃ J' w',(Builtin.append_ ats ty #[dec J s,dec J x]).run P w=.ok (dec J' v) w'/\Moved J H w J' H' w'/\lt H'.n v:=by
 unfold appendL0 at h;replace h:=yaa0 h;obtain ⟨hni,h⟩:=h;split at h
 .rename_i elem hu;split at h
  .cases h
  .rename_i size hsz;split at h
   .cases h
   .rename_i n hn;replace h:=yna0 h;obtain ⟨hsize,h⟩:=h;replace h:=yna0 h;obtain ⟨hstr,h⟩:=h;have hsize:=yxb0 hsize;split at h
    .cases h
    .rename_i new hnew;have hlen:∀ w,(Builtin.lenOf (dec J x)).run P w=.ok n w:=fun w=>ykb2 hn
     have hst:isStr x=true->size=1:=fun hx=>by
      rw [hx] at hstr;simp only [Bool.true_and,Bool.not_eq_false'] at hstr;exact beqN hstr
     have hnl:=ybh0 hnew;have hnlt:=ylx0 hs hnew hlx
     have hemp:n*size=0\/∀ i,x≠.emp i:=by
      by_cases hx:∃ i,x=.emp i
      .obtain ⟨i,rfl⟩:=hx;left;injection hn with hn;rw [<- hn];simp
      .exact .inr fun i hi=>hx ⟨i,hi⟩
     have hfirst:∀ w',w'.heap=w.heap->(Builtin.firstCells size n (dec J x)).run P w'=.ok (decs J new).toArray w':=fun w' hw'=>ywh0 (P:=P) (hs.drawn hw') hnew hlx hst hemp
     -- a new row,whatever the old one
     have grow:∀ (sLen sCap:Nat) (base:Option Addr) (old:List LV) (H1:Heap) (m:Nat),dec J s=.slice base sLen sCap->¬ sLen+n<=sCap ->
       (∀ w',w'.heap=w.heap->(Builtin.firstCells size sLen (.slice base sLen sCap)).run P w'=.ok (decs J old).toArray w')->old.length=sLen*size->lts H.n old->m=sLen+n ->
       Moved J H w J H1 w->H1.n=H.n->grownL P elem H1 m (old++new)=some (v,H') ->
       ∃ J' w',(Builtin.append_ ats ty #[dec J s,dec J x]).run P w=.ok (dec J' v) w'/\Moved J H w J' H' w'/\lt H'.n v:=by
      intro sLen sCap base old H1 m hds hno hold hol hollt hm hmv hH1 hg;subst hm;obtain ⟨i,z,hi,hz,hb1,hb2,hzl,hb0,rfl,rfl⟩:=yul0 hg;have his:=yvl0 hsz hi;obtain ⟨cap,hcap,hrun⟩:=yaa1 (P:=P) (w:=w) (ty:=ty) (X:=dec J x) h0 h1 hu hni hsz hi rfl (ymd0 hz J w).1 (fun w=>(ymd0 hz J w).1) (hlen w) hno hold hfirst hb1 hb2 (.inl hb0);have hzs:(dec J z).cells.size=size:=by rw [ype0];simp [yla0,hzl,his]
      have hlnew:(old++new).length=(sLen+n)*size:=by rw [List.length_append,hol,hnl,Nat.add_mul]
      have hle:(sLen+n)*size<=cap*size:=Nat.mul_le_mul_right _ hcap
      obtain ⟨J',hmv',hdec⟩:=yle2 (m:=sLen+n) (cap:=cap) (size:=size) (cs:=old++new) (spare:=(Builtin.zeroCells (dec J z).cells (cap-(sLen+n))).toList) (elem:=elem) hmv.sat
       (by rw [hH1,ygb0];rw [ygb0] at hollt hnlt;intro y hy;rcases List.mem_append.1 hy with hy | hy;exact hollt y hy;exact hnlt y hy) (by omega)
       (by rw [hlnew,Array.length_toList,yoo0,hzs,<- Nat.add_mul];exact Nat.mul_le_mul_right _ (by omega))
       (w':={ w with heap:=w.heap.push (.cells ((decs J old).toArray++(decs J new).toArray++Builtin.zeroCells (dec J z).cells (cap-(sLen+n))) elem),drawn:=w.drawn+1 })
       (by simp only;congr 2;apply Array.ext';simp [yvb0]) rfl rfl rfl
      refine ⟨J',_,?_,hmv.trans (by rw [<- his] at hmv';exact hmv'),by simp only [lt,Heap.n_push];omega⟩;rw [hds,hrun,hdec]
     unfold appendTo at h;split at h
     ·-- onto nil
      cases hn0:Nat.beq n 0 with
      | true =>
       rw [hn0] at h;simp only [cond_true] at h;have:=beqN hn0;subst this;injection h with h;injection h with ha hb;subst ha;subst hb;refine ⟨J,w,?_,Moved.refl hs,trivial⟩;exact ypg0 (P:=P) h0 h1 hu hni hsz (hlen w) (by simp) (hfirst w rfl) (base:=none) (sLen:=0) (sCap:=0) rfl
      | false =>
       rw [hn0] at h;simp only [cond_false] at h;have hn0:=yxb0 hn0;exact grow 0 0 none [] H n rfl (by omega) (fun w' _=>rfl) (by simp) trivial (by omega) (Moved.refl hs) rfl (by simpa using h)
     .rename_i j o l c;split at h
      .rename_i e own cs hg;replace h:=yaa0 h;obtain ⟨hj,h⟩:=h;replace h:=yaa0 h;obtain ⟨hle,h⟩:=h;have hj:j<H.n:=bltN.1 hj;have hle:=Nat.le_of_ble_eq_true hle;rw [lenL_eq] at hle;have ho:=hs.obj j hj;rw [hg] at ho;have hwf:=hs.wf j hj;rw [hg] at hwf
       have hold:∀ sCap w',w'.heap=w.heap->(Builtin.firstCells size l (.slice (some ⟨(J j).blk,(J j).off+o,none⟩) l sCap)).run P w'=.ok (decs J ((cs.drop o).take (l*size))).toArray w' :=
        fun sCap w' hw'=>yss0 (ho.world fun _=>by rw [hw']) o (l*size) hle
       have hollt:lts H.n ((cs.drop o).take (l*size)):=by
        rw [ygb0];simp only [ltObj] at hwf;rw [ygb0] at hwf;intro y hy;exact hwf y (List.mem_of_mem_drop (List.mem_of_mem_take hy))
       have hol:((cs.drop o).take (l*size)).length=l*size:=by simp;omega
       have hown:own≠.ro->(H.get j).owns=true:=by rw [hg];cases own <;> simp [LObj.owns]
       split at h
       .rename_i cap;cases hc:Nat.ble (l+n) cap with
        | false =>
         rw [hc] at h;simp only [cond_false] at h;rw [app_eq,yue0,yve0] at h;refine grow l cap _ _ H (l+n) rfl ?_ (hold cap) hol hollt rfl (Moved.refl hs) rfl h;intro hc';rw [Nat.ble_eq_true_of_le hc'] at hc;cases hc
        | true =>
         rw [hc] at h;simp only [cond_true] at h;have hc:=Nat.le_of_ble_eq_true hc;cases hn0:Nat.beq n 0 with
         | true =>
          rw [hn0] at h;simp only [cond_true] at h;have:=beqN hn0;subst this;injection h with h;injection h with ha hb;subst ha;subst hb;refine ⟨J,w,?_,Moved.refl hs,hls⟩;have h00:new=[]:=by cases new with | nil=>rfl | cons a b=>simp at hnl
          subst h00;have:=ypg0 (P:=P) (ty:=ty) h0 h1 hu hni hsz (hlen w) (by omega) (hfirst w rfl) (base:=some ⟨(J j).blk,(J j).off+o,none⟩) (sLen:=l) (sCap:=cap) (w':=w) (by simp [decs,storeCells]);simpa [dec,capOf] using this
         | false =>
          rw [hn0] at h;simp only [cond_false] at h;split at h
          .replace h:=yaa0 h;obtain ⟨hfit,h⟩:=h;replace h:=yaa0 h;obtain ⟨hone,h⟩:=h;have hfit:=Nat.le_of_ble_eq_true hfit;rw [lenL_eq,Nat.add_mul] at hfit;injection h with h;injection h with ha hb;subst ha;subst hb;obtain ⟨hoff,lo,hi,hfr,hh⟩:=ho
           have hst:=ymg0 (P:=P) (J j).blk (o+l*size) e (lo,hi) (decs J new) 0 (decs J cs).toArray w hh (by simpa [yla0] using hfr) (by simp [yla0];omega) (by
            intro y hy;rw [yvb0,List.mem_map] at hy;obtain ⟨z,hz,rfl⟩:=hy
            exact ylg0 J (yhg0 hone z hz))
           simp only [Nat.add_zero,yla0] at hst;have hblk:=hs.inside j hj (by rw [hg];rfl);refine ⟨J,putO w (J j).blk (.cells ((decs J cs).take (o+l*size)++decs J new++(decs J cs).drop (o+l*size+new.length)).toArray e (lo,hi)),?_,Moved.put hs hj (hown (by simp)) _ (fun b hb=>yhb0 hb) (by simp [putO]) rfl rfl rfl ?_ ?_,hls⟩
           .have:=ypg0 (P:=P) (ty:=ty) h0 h1 hu hni hsz (hlen w) hc (hfirst w rfl) (base:=some ⟨(J j).blk,(J j).off+o,none⟩) (sLen:=l) (sCap:=cap) (by
             simp only [hoff,Nat.zero_add,yah0];exact hst)
            simpa [dec,capOf] using this
           .simp only [ltObj] at hwf ⊢;rw [yzb0 _ _ _ (by omega),ygb0];rw [ygb0] at hwf hnlt;intro y hy;simp only [List.append_assoc,List.mem_append] at hy;rcases hy with hy | hy | hy
            .exact hwf y (List.mem_of_mem_take hy)
            .exact hnlt y hy
            .exact hwf y (List.mem_of_mem_drop hy)
           .have hlen' : (yua0 cs (o+l*size) new).length=cs.length:=yac0 _ _ _ (by omega);refine ⟨hoff,lo,hi,by rw [hlen'];exact hfr,?_⟩;rw [yjb0 hblk,yzb0 _ _ _ (by omega)];simp [yvb0]
          .cases h
       .rename_i k;split at h
        .rename_i sz;replace h:=yaa0 h;obtain ⟨hsz',h⟩:=h;replace h:=yaa0 h;obtain ⟨hel,h⟩:=h;replace h:=yaa0 h;obtain ⟨ho0,h⟩:=h;replace h:=yaa0 h;obtain ⟨hk0,h⟩:=h;replace h:=yaa0 h;obtain ⟨hone,h⟩:=h;have:=beqN hsz';subst this;have:=beqN hel;subst this;have:=beqN ho0;subst this;have:=beqN hk0;subst this;obtain ⟨hoff,lo,hi,spare,hfr,hcap1,hcap2,hh⟩:=ho
         have hcapl:l<=(J j).cap:=by
          have:l*sz<=(J j).cap*sz:=by omega
          exact Nat.le_of_mul_le_mul_right this (by omega)
         cases hn0:Nat.beq n 0 with
         | true =>
          rw [hn0] at h;simp only [cond_true] at h;have:=beqN hn0;subst this;injection h with h;injection h with ha hb;subst ha;subst hb;refine ⟨J,w,?_,Moved.refl hs,hls⟩;have h00:new=[]:=by cases new with | nil=>rfl | cons a b=>simp at hnl
          subst h00;have:=ypg0 (P:=P) (ty:=ty) h0 h1 hu hni hsz (hlen w) (by omega) (hfirst w rfl) (base:=some ⟨(J j).blk,(J j).off+0,none⟩) (sLen:=l) (sCap:=(J j).cap) (w':=w) (by simp [decs,storeCells]);simpa [dec,capOf] using this
         | false =>
          rw [hn0] at h;simp only [cond_false] at h;have hn0:=yxb0 hn0;rw [app_eq,yue0] at h;have hkill:=Moved.kill hs j;by_cases hfits:l+n<=(J j).cap
          ·-- there is room: the new row lies where the old one did
           obtain ⟨i,z,hi',hz,hb1,hb2,hzl,hb0,rfl,rfl⟩:=yul0 h;have his:=yvl0 hsz hi';have hroom:(l+n)*sz<=cs.length+spare.length:=Nat.le_trans (Nat.mul_le_mul_right _ hfits) hcap2;rw [Nat.add_mul] at hroom
           have hst:=ymg0 (P:=P) (J j).blk (l*sz) e (lo,hi) (decs J new) 0 (decs J cs++spare).toArray w hh (by simpa [yla0] using hfr) (by simp [yla0];omega) (by
            intro y hy;rw [yvb0,List.mem_map] at hy;obtain ⟨z,hz,rfl⟩:=hy
            exact ylg0 J (yhg0 hone z hz))
           simp only [Nat.add_zero,yla0] at hst;have hblk:=hs.inside j hj (by rw [hg];rfl)
           have hnew' : lts H.n (cs.take (l*sz)++new):=by
            simp only [ltObj] at hwf;rw [ygb0] at hwf hnlt ⊢;intro y hy;rcases List.mem_append.1 hy with hy | hy
            .exact hwf y (List.mem_of_mem_take hy)
            .exact hnlt y hy
           have hln:(cs.take (l*sz)++new).length=(l+n)*sz:=by
            rw [List.length_append,List.length_take,hnl,Nat.add_mul];omega
           refine ⟨upRho J H.n ⟨(J j).blk,0,(J j).cap,default,0⟩,putO w (J j).blk (.cells ((decs J cs++spare).take (l*sz)++decs J new++(decs J cs++spare).drop (l*sz+new.length)).toArray e (lo,hi)),?_,
            Moved.succeed hs hj (hown (by simp)) _ _ rfl (fun b hb=>yhb0 hb) (by simp [putO]) rfl rfl rfl (yyg0 (by omega) _ hnew') ?_,by simp only [lt,Heap.n_push];omega⟩
           .have:=ypg0 (P:=P) (ty:=ty) h0 h1 hu hni hsz (hlen w) hfits (hfirst w rfl) (base:=some ⟨(J j).blk,(J j).off+0,none⟩) (sLen:=l) (sCap:=(J j).cap) (by
             simp only [hoff,Nat.zero_add,yah0];exact hst)
            simp only [dec,capOf,Nat.sub_zero] at this ⊢;rw [this];simp [Heap.n_put,yoa0,hoff]
           .refine ⟨rfl,lo,hi,(decs J cs++spare).drop (l*sz+new.length),?_,?_,?_,?_⟩
            .intro q hq;refine hfr q ?_;rw [hln] at hq;simp only [List.length_drop,List.length_append,yla0,hnl] at hq;rw [Nat.add_mul] at hq;omega
            .rw [hln,his];exact Nat.mul_le_mul_right _ hfits
            .rw [hln,his];simp only [List.length_drop,List.length_append,yla0,hnl];rw [Nat.add_mul];omega
            .rw [yjb0 hblk,yie0 (yka0 J H.n _) _ hnew']
             congr 3
             simp only [yvb0,List.map_append,List.map_take];rw [List.take_append_of_le_length (by simp;omega)]
          .refine grow l (J j).cap (some ⟨(J j).blk,(J j).off+0,none⟩) (cs.take (l*sz)) _ (l+n) rfl hfits ?_ (by simp;omega) ?_ rfl hkill (by rw [Heap.n_put]) h
           .intro w' hw';have:=hold (J j).cap w' hw';simpa using this
           .simpa using hollt
        .cases h
      .cases h
     .cases h
 .cases h
theorem yyq0 {a b:CK} : eqCK a b=true↔a=b:=by
 cases a <;> cases b <;> simp [eqCK];rename_i j k;cases j <;> cases k <;> simp [eqKd]
theorem yzm2 {v:LV} {c:CK} (h:ckV v=some c):c.san v=v:=by
 cases v <;> simp only [ckV] at h <;> first
  | (injection h with h;subst h;rfl)
  | cases h
theorem yaj1 {v:LV} {c:CK} (h:isCK c v=true):c.san v=v:=by
 unfold isCK at h;split at h
 .rename_i d hd;rw [yyq0.1 h];exact yzm2 hd
 .cases h
theorem flat1 (c:CK):∀ vs,flatF [c] vs=vs.map c.san
 | []=>rfl
 | v::vs=>by show c.san v::flatF [c] vs=_;rw [flat1 c vs];rfl
theorem yuk0 {c:CK} : ∀ {l:List LV},allCK c l=true->flatF [c] l=l
 | [],_=>rfl
 | v::l,h=>by
  have h:bc (isCK c v) (allCK c l) false=true:=h;cases hb:isCK c v with
  | false=>rw [hb] at h;cases h
  | true =>
   rw [hb] at h;show c.san v::flatF [c] l=_;rw [yaj1 hb,yuk0 h]
theorem yku2 (vs:List LV) (o n:Nat):sub vs o n=(vs.drop o).take n:=by unfold sub;rw [yue0,yve0]
theorem ybj1 (c:CK) (vs:List LV) (o n:Nat):flatF [c] (sub vs o n)=takeN (dropN (flatF [c] vs) o) n:=by
 rw [yku2,yue0,yve0,flat1,flat1,List.map_take,List.map_drop]
theorem ycj1 (c:CK) (a b:List LV):flatF [c] (app a b)=app (flatF [c] a) (flatF [c] b):=by
 rw [app_eq,app_eq,flat1,flat1,flat1,List.map_append]
theorem yrd0:∀ (ks:List CK) (vs:List LV),(flatF ks vs).length=vs.length
 | _,[]=>rfl
 | ks,v::vs=>by simp only [flatF,List.length_cons];rw [yrd0]
theorem yzq0:∀ (ks:List CK) (vs:List LV),yse0 (flatF ks vs)=true
 | _,[]=>rfl
 | ks,v::vs=>by
  show bc (ywm0 ((headK ks).san v)) (yse0 (flatF (rotK ks) vs)) false=true;rw [yzq0];cases headK ks <;> rfl
theorem yme2 (s:List UInt8):allCK (.i .u8) (ofBytes s)=true:=by
 induction s with
 | nil=>rfl
 | cons b s ih=>exact ih
theorem yar0 {c:CK} {H H1:Heap} {n:Nat} {x:LV} {raw:List LV} (h:rawOf c H n x=some raw) (hH:∀ i o l cp,x=.slice i o l cp->H1.get i=openO (H.get i)):ydc0 H1 n x=some (flatF [c] raw):=by
 unfold rawOf at h;split at h
 .replace h:=yaa0 h;obtain ⟨a,h⟩:=h;injection h with h;subst h;simp only [ydc0,a];rfl
 .replace h:=yaa0 h;obtain ⟨a,h⟩:=h;injection h with h;subst h;simp only [ydc0,a];rfl
 .rename_i i o l cp;have hi:=hH i o l cp rfl;split at h
  .rename_i d e k vs hg;replace h:=yaa0 h;obtain ⟨a,h⟩:=h;replace h:=yaa0 h;obtain ⟨b,h⟩:=h;injection h with h;subst h;have:=yyq0.1 a;subst this;rw [hg] at hi;simp only [ydc0,hi,openO];have hb:Nat.ble (o+n) (lenL (flatF [c] vs))=true:=by rw [lenL_eq,yrd0,<- lenL_eq];exact b
   rw [hb,ybj1];rfl
  .rename_i e k cs hg;replace h:=yaa0 h;obtain ⟨a,h⟩:=h;replace h:=yaa0 h;obtain ⟨b,h⟩:=h;injection h with h;subst h;rw [hg] at hi;simp only [ydc0,hi,openO,a,cond_true];rw [yuk0 b];rfl
  .cases h
 .replace h:=yaa0 h;obtain ⟨a,h⟩:=h;replace h:=yaa0 h;obtain ⟨b,h⟩:=h;injection h with h;subst h;have:=yyq0.1 a;subst this;simp only [ydc0,b,cond_true];rw [yuk0 (yme2 _)]
 .cases h
noncomputable def yzf0 (H:Heap) (v:LV):Heap:=match v with
 | .slice i _ _ _=>bif Nat.blt i H.n then H.put i (openO (H.get i)) else H
 | _=>H
theorem ywl0 (o:LObj):openO (openO o)=openO o:=by cases o <;> rfl
theorem ydj1 (H:Heap) (v:LV):(yzf0 H v).n=H.n:=by
 unfold yzf0;split
 .cases hb:Nat.blt _ H.n <;> simp [Heap.n_put]
 .rfl
theorem ypo0 (H:Heap) (v:LV) (i:Nat):(yzf0 H v).get i=H.get i\/(yzf0 H v).get i=openO (H.get i):=by
 unfold yzf0;split
 .rename_i j o l c;cases hb:Nat.blt j H.n
  .exact .inl rfl
  .simp only [cond_true];by_cases e:j=i
   .subst e;exact .inr (Heap.get_put_same _ _ _)
   .exact .inl (Heap.get_put_other e)
 .exact .inl rfl
theorem ysi0 (H:Heap) (v:LV):HOpen H (yzf0 H v):=by
 refine ⟨(ydj1 H v).symm,fun i=>?_⟩;rcases ypo0 H v i with h | h
 .rw [h]
 .rw [h,ywl0]
theorem yzs0 {H:Heap} {i o l:Nat} {c:Cap} (hi:i<H.n):(yzf0 H (.slice i o l c)).get i=openO (H.get i):=by
 simp only [yzf0,bltN.2 hi,cond_true];exact Heap.get_put_same _ _ _
theorem HOpen.push {H H1:Heap} (h:HOpen H H1) {o o1:LObj} (ho:openO o=openO o1):HOpen (H.push o) (H1.push o1):=by
 refine ⟨by rw [Heap.n_push,Heap.n_push,h.1],fun i=>?_⟩;rw [Heap.get_push,Heap.get_push,<- h.1];by_cases e:H.n=i
 .rw [if_pos e,if_pos e];exact ho
 .rw [if_neg e,if_neg e];exact h.2 i
theorem HOpen.put {H H1:Heap} (h:HOpen H H1) (j:Nat) {o o1:LObj} (ho:openO o=openO o1):HOpen (H.put j o) (H1.put j o1):=by
 refine ⟨by rw [Heap.n_put,Heap.n_put,h.1],fun i=>?_⟩;by_cases e:j=i
 .subst e;rw [Heap.get_put_same,Heap.get_put_same];exact ho
 .rw [Heap.get_put_other e,Heap.get_put_other e];exact h.2 i
theorem yej1 {c:CK} {v:LV} (h:isCK c v=true):cellsOf v=[v]/\yse0 [v]=true/\yta0 v=false:=by
 unfold isCK at h
 cases v <;> first
  | exact ⟨rfl,rfl,rfl⟩
  | (simp [ckV] at h;done)
theorem ynu1 {c:CK} {v:LV} (h:allCK c [v]=true):isCK c v=true:=by
 have h:bc (isCK c v) true false=true:=h;cases hb:isCK c v with
 | false=>rw [hb] at h;cases h
 | true=>rfl
theorem yba1 {c:CK} {vs:List LV} {o:Nat} {v:LV} (hc:isCK c v=true) (ho:o+1<=vs.length):flatF [c] (yua0 vs o [v])=yua0 (flatF [c] vs) o [v]:=by
 rw [flat1,flat1,yzb0 _ _ _ (by simpa using ho),yzb0 _ _ _ (by simpa using ho)];simp only [List.map_append,List.map_take,List.map_drop,List.map_cons,List.map_nil,yaj1 hc]
theorem HOpen.at {H:Heap} {i:Nat} (hi:i<H.n) {o:LObj} (ho:openO (H.get i)=openO o):HOpen H (H.put i o):=by
 refine ⟨by rw [Heap.n_put],fun j=>?_⟩;by_cases e:i=j
 .subst e;rw [Heap.get_put_same];exact ho
 .rw [Heap.get_put_other e]
theorem ymj0 {t:TypeId} {H H' : Heap} {i o:Nat} {ks:List CK} {e:TypeId} {k:Own} {vs:List LV} {v:LV} (h:storeFl P t H i o ks e k vs v=some H'):∃ c,ks=[c]/\k≠.ro/\sizeOfT P t=some 1/\isCK c v=true/\o+1<=vs.length/\i<H.n/\H'=H.put i (.flat [c] e k (yua0 vs o [v])):=by
 unfold storeFl at h;split at h
 .cases h
 .rename_i hk;split at h
  .rename_i c;split at h
   .rename_i n hn;replace h:=yaa0 h;obtain ⟨h1,h⟩:=h;replace h:=yaa0 h;obtain ⟨h2,h⟩:=h;replace h:=yaa0 h;obtain ⟨h3,h⟩:=h;replace h:=yaa0 h;obtain ⟨h4,h⟩:=h;injection h with h;have h3:=Nat.le_of_ble_eq_true h3;rw [lenL_eq] at h3;refine ⟨c,rfl,fun e=>hk e,by rw [hn,beqN h1],ynu1 h2,h3,bltN.1 h4,h.symm⟩
   .cases h
  .cases h
theorem yne2 (hs:Sat J H w) {t:TypeId} {a v:LV} {H' : Heap} (h:storeL P t H a v=some H') (ha:lt H.n a) (hv:lt H.n v) :
  ∃ w',(Instr.storeAt t (dec J a) (dec J v)).run P w=.ok () w'/\Moved J H w J H' w':=by
 unfold storeL at h;split at h
 .rename_i i o;split at h
  .rename_i ks e k vs hg;obtain ⟨c,rfl,hk,hn,hc,ho,hi,rfl⟩:=ymj0 h;obtain ⟨c1,c2,c3⟩:=yej1 hc;have hO:HOpen H (H.put i (.cells e k (flatF [c] vs))):=HOpen.at hi (by rw [hg];rfl)
   have h0:storeL0 P t (H.put i (.cells e k (flatF [c] vs))) (.ptr i o) v=some ((H.put i (.cells e k (flatF [c] vs))).put i (.cells e k (yua0 (flatF [c] vs) o [v]))):=by
    unfold storeL0;have l1:Nat.ble (o+1) (lenL (flatF [c] vs))=true:=Nat.ble_eq_true_of_le (by rw [lenL_eq,yrd0];exact ho);have l2:Nat.blt i (H.put i (.cells e k (flatF [c] vs))).n=true:=bltN.2 (by rw [Heap.n_put];exact hi);rw [c3];simp only [cond_false,Heap.get_put_same];cases k with
    | ro=>exact absurd rfl hk
    | exact=>simp only [hn,c1,c2,show Nat.beq (lenL [v]) 1=true from rfl,l1,l2,cond_true]
    | grow sz=>simp only [hn,c1,c2,show Nat.beq (lenL [v]) 1=true from rfl,l1,l2,cond_true]
   obtain ⟨w',hr,hm⟩:=yvs0 (hO.sat hs) h0 (by rw [<- hO.1];exact ha) (by rw [<- hO.1];exact hv);refine ⟨w',hr,HOpen.moved hO ?_ hm⟩;refine ⟨by rw [Heap.n_put,Heap.n_put,Heap.n_put],fun j=>?_⟩;by_cases e2:i=j
   .subst e2;rw [Heap.get_put_same,Heap.get_put_same];show LObj.cells e k (flatF [c] (yua0 vs o [v]))=_;rw [yba1 hc ho];rfl
   .rw [Heap.get_put_other e2,Heap.get_put_other e2,Heap.get_put_other e2]
  .exact yvs0 hs h ha hv
 .exact yvs0 hs h ha hv
theorem ynj0 {elem:TypeId} {c:CK} {z:LV} {H H1:Heap} {n:Nat} {vs:List LV} {v:LV} {H' : Heap} (hO:HOpen H H1) (hz:zeroOf P elem=some z) (hc:ckV z=some c) (hsz:sizeOfT P elem=some 1) (h:grownFl P elem c H n vs=some (v,H')) :
  ∃ H1',grownL P elem H1 n (flatF [c] vs)=some (v,H1')/\HOpen H' H1':=by
 unfold grownFl at h;split at h
 .rename_i i hi;replace h:=yaa0 h;obtain ⟨a,h⟩:=h;replace h:=yaa0 h;obtain ⟨b,h⟩:=h;replace h:=yaa0 h;obtain ⟨d,h⟩:=h;injection h with h;injection h with h1 h2;subst h1;subst h2;have his:i.size=1:=yvl0 hsz hi
  have hl:Nat.beq (lenL (cellsOf z)) 1=true:=by
   cases z <;> simp only [ckV] at hc <;> first | rfl | cases hc
  refine ⟨H1.push (.cells elem (.grow 1) (flatF [c] vs)),?_,hO.push rfl⟩;unfold grownL;simp only [hi,hz,a,b,hl,d,cond_true,hO.1,his]
 .cases h
theorem yox0 {t xt:TypeId} {s x v:LV} {H H' : Heap} (h:appendF1 P t xt s x H=some (v,H')) (hls:lt H.n s) (hlx:lt H.n x) :
  ∃ H1',appendL0 P t xt s x (yzf0 (yzf0 H s) x)=some (v,H1')/\HOpen H' H1':=by
 have hO:HOpen H (yzf0 (yzf0 H s) x):=by
  have h1:=ysi0 H s;have h2:=ysi0 (yzf0 H s) x;exact ⟨h1.1.trans h2.1,fun i=>(h1.2 i).trans (h2.2 i)⟩
 have hat:∀ y,y=s\/y=x->∀ i o l cp,y=.slice i o l cp->(yzf0 (yzf0 H s) x).get i=openO (H.get i):=by
  intro y hy i o l cp e;rcases hy with rfl | rfl
  .subst e;rcases ypo0 (yzf0 H (.slice i o l cp)) x i with h | h
   .rw [h,yzs0 hls]
   .rw [h,yzs0 hls,ywl0]
  .subst e;have hi:i<H.n:=hlx;rw [yzs0 (by rw [ydj1];exact hi)];rcases ypo0 H s i with h | h <;> rw [h];exact ywl0 _
 generalize yzf0 (yzf0 H s) x=H1 at hO hat;unfold appendF1 at h;replace h:=yaa0 h;obtain ⟨hni,h⟩:=h;split at h
 .rename_i elem hu;split at h
  .cases h
  .rename_i size hsz;split at h
   .cases h
   .rename_i n hn;replace h:=yaa0 h;obtain ⟨hs1,h⟩:=h;have:=beqN hs1;subst this;split at h
    .cases h
    .rename_i c hck;unfold ckT at hck;split at hck
     .rename_i z hz;split at h
      .cases h
      .rename_i raw hraw;have hcx:=yar0 hraw (H1:=H1) fun i o l cp e=>hat x (.inr rfl) i o l cp e
       unfold appendL0;simp only [hni,cond_true,hu,hsz,hn,Nat.mul_one,hcx,show Nat.beq 1 0=false from rfl,cond_false,show Nat.beq 1 1=true from rfl,Bool.not_true,Bool.and_false];unfold appendFl at h;unfold appendTo;split at h
       .cases hn0:Nat.beq n 0 with
        | true =>
         rw [hn0] at h;injection h with h;injection h with h1 h2;subst h1;subst h2;exact ⟨H1,rfl,hO⟩
        | false =>
         rw [hn0] at h;exact ynj0 hO hz hck hsz h
       .rename_i j o l cp;split at h
        .cases h
        .rename_i d hd;have hj1:=hat (.slice j o l cp) (.inl rfl) j o l cp rfl;have hcd:=yar0 hd (H1:=H1) fun i' o' l' c' e=>hat (.slice j o l cp) (.inl rfl) i' o' l' c' e
         replace h:=yaa0 h;obtain ⟨hj,h⟩:=h;simp only [ydc0] at hcd;cases hob:H1.get j with
         | cells e own cs =>
          simp only [hob,openO] at hcd;replace hcd:=yaa0 hcd;obtain ⟨hle,hcd⟩:=hcd;injection hcd with hcd;simp only [hob,Nat.mul_one,hle,cond_true];rw [show Nat.blt j H1.n=true by rw [<- hO.1];exact hj];simp only [cond_true];split at h
          .rename_i cap;cases hc:Nat.ble (l+n) cap with
           | true =>
            rw [hc] at h;simp only [cond_true] at h;replace h:=yaa0 h;obtain ⟨hn0,h⟩:=h;injection h with h;injection h with h1 h2;subst h1;subst h2;rw [hn0];exact ⟨H1,rfl,hO⟩
           | false =>
            rw [hc] at h;simp only [cond_false] at h ⊢;rw [hcd,<- ycj1];exact ynj0 hO hz hck hsz h
          .rename_i k;replace h:=yaa0 h;obtain ⟨hgr,h⟩:=h;replace h:=yaa0 h;obtain ⟨ho0,h⟩:=h;replace h:=yaa0 h;obtain ⟨hk0,h⟩:=h
           have hgr2:∃ sz,own=.grow sz/\Nat.beq sz 1=true/\Nat.beq e elem=true:=by
            unfold yuw0 at hgr;cases hHj:H.get j with
            | cells e' w' cs' =>
             rw [hHj] at hj1 hgr;rw [hob] at hj1;injection hj1 with h1 h2 h3;subst h1;subst h2;cases own with
             | grow sz=>simp only [Bool.and_eq_true] at hgr;exact ⟨sz,rfl,hgr.1,hgr.2⟩
             | _=>cases hgr
            | flat ks' e' w' cs' =>
             rw [hHj] at hj1 hgr;rw [hob] at hj1;injection hj1 with h1 h2 h3;subst h1;subst h2;cases own with
             | grow sz=>simp only [Bool.and_eq_true] at hgr;exact ⟨sz,rfl,hgr.1,hgr.2⟩
             | _=>cases hgr
            | _=>rw [hHj] at hgr;cases hgr
           obtain ⟨sz,rfl,hsz1,hel⟩:=hgr2;simp only [hsz1,hel,ho0,hk0,yzq0,cond_true];cases hn0:Nat.beq n 0 with
           | true =>
            rw [hn0] at h;simp only [cond_true] at h;injection h with h;injection h with h1 h2;subst h1;subst h2;exact ⟨H1,rfl,hO⟩
           | false =>
            rw [hn0] at h;simp only [cond_false] at h ⊢;have hoz:=beqN ho0;subst hoz;rw [show dropN cs 0=cs by rw [yve0];rfl] at hcd;rw [hcd,<- ycj1];exact ynj0 (hO.put j rfl) hz hck hsz h
         | flat ks e own vs=>exfalso;rw [hob] at hj1;cases hx:H.get j <;> rw [hx] at hj1 <;> cases hj1
         | _=>simp only [hob,openO] at hcd;cases hcd
       .cases h
     .cases hck
 .cases h
theorem you1 (hs:Sat J H w) {t xt ty:TypeId} {ats:Array TypeId} {s x v:LV} {H' : Heap} (h0:ats[0]?=some t) (h1:ats[1]?=some xt) (h:appendL P t xt s x H=some (v,H')) (hls:lt H.n s) (hlx:lt H.n x) :
  ∃ J' w',(Builtin.append_ ats ty #[dec J s,dec J x]).run P w=.ok (dec J' v) w'/\Moved J H w J' H' w'/\lt H'.n v:=by
 unfold appendL at h;cases hf:(yhe0 H s||yhe0 H x) with
 | false=>rw [hf] at h;exact ynx0 hs h0 h1 h hls hlx
 | true =>
  rw [hf] at h;obtain ⟨H1',h2,hO'⟩:=yox0 h hls hlx
  have hO:HOpen H (yzf0 (yzf0 H s) x):=by
   have h1:=ysi0 H s;have h2:=ysi0 (yzf0 H s) x;exact ⟨h1.1.trans h2.1,fun i=>(h1.2 i).trans (h2.2 i)⟩
  obtain ⟨J',w',hr,hm,hl⟩:=ynx0 (hO.sat hs) (ty:=ty) h0 h1 h2 (by rw [<- hO.1];exact hls) (by rw [<- hO.1];exact hlx);exact ⟨J',w',hr,hO.moved hO' hm,by rw [hO'.1];exact hl⟩
theorem yan2 (hs:Sat J H w) {t ty:TypeId} {ats:Array TypeId} {d x v:LV} {H' : Heap} (h0:ats[0]?=some t) (h:copyL P t d x H=some (v,H')) (hld:lt H.n d) (hlx:lt H.n x) :
  ∃ w',(Builtin.copy_ ats ty #[dec J d,dec J x]).run P w=.ok (dec J v) w'/\Moved J H w J H' w'/\lt H'.n v:=by
 unfold copyL at h;split at h
 .rename_i elem hu;split at h
  .cases h
  .rename_i size hsz;split at h
   .cases h
   .rename_i n hn;have hlen:(Builtin.lenOf (dec J x)).run P w=.ok n w:=ykb2 hn;split at h
    .rename_i j o m c;replace h:=yna0 h;obtain ⟨hstr,h⟩:=h;split at h
     .cases h
     .rename_i new hnew;split at h
      .cases h
      .rename_i e own cs hnr hg;replace h:=yaa0 h;obtain ⟨hle,h⟩:=h;replace h:=yaa0 h;obtain ⟨hj,h⟩:=h;replace h:=yaa0 h;obtain ⟨hone,h⟩:=h;have hle:=Nat.le_of_ble_eq_true hle;rw [lenL_eq] at hle;have hj:j<H.n:=bltN.1 hj;injection h with h;injection h with ha hb;subst ha;subst hb;have hnl:=ybh0 hnew;have hnlt:=ylx0 hs hnew hlx
       have hst:isStr x=true->size=1:=fun hx=>by
        rw [hx] at hstr;simp only [Bool.true_and,Bool.not_eq_false'] at hstr;exact beqN hstr
       have hemp:Nat.min n m*size=0\/∀ i,x≠.emp i:=by
        by_cases hx:∃ i,x=.emp i
        .obtain ⟨i,rfl⟩:=hx;left;injection hn with hn;rw [<- hn];simp
        .exact .inr fun i hi=>hx ⟨i,hi⟩
       have hfirst:=ywh0 (P:=P) hs hnew hlx hst hemp;have ho:=hs.obj j hj;rw [hg] at ho;have hwf:=hs.wf j hj;rw [hg] at hwf;have hown:(H.get j).owns=true:=by rw [hg];cases own <;> first | rfl | exact (hnr rfl).elim
       have hblk:=hs.inside j hj (LObj.sits_of_owns hown);have hlen' : (yua0 cs o new).length=cs.length:=yac0 _ _ _ (by omega)
       have hl:ltObj H.n (.cells e own (yua0 cs o new)):=by
        simp only [ltObj] at hwf ⊢;rw [yzb0 _ _ _ (by omega),ygb0];rw [ygb0] at hwf hnlt;intro y hy;simp only [List.append_assoc,List.mem_append] at hy;rcases hy with hy | hy | hy
        .exact hwf y (List.mem_of_mem_take hy)
        .exact hnlt y hy
        .exact hwf y (List.mem_of_mem_drop hy)
       have main:∀ (cur:Array Value) (fr:Nat × Nat),(J j).off=0->w.heap[(J j).blk]?=some (.cells cur e fr)->(∀ q,q<cur.size->¬ (fr.1<=q/\q<fr.2))->cs.length<=cur.size ->
         (Builtin.copy_ ats ty #[dec J (.slice j o m c),dec J x]).run P w=.ok (.int .i64 (Nat.min n m:Nat)) (putO w (J j).blk (.cells (cur.toList.take o++decs J new++cur.toList.drop (o+new.length)).toArray e fr)):=by
        intro cur fr hoff hh hfr hsz'
        have hst:=ymg0 (P:=P) (J j).blk o e fr (decs J new) 0 cur w hh hfr (by simp only [yla0];omega) (by
         intro y hy;rw [yvb0,List.mem_map] at hy;obtain ⟨z,hz,rfl⟩:=hy
         exact ylg0 J (yhg0 hone z hz))
        simp only [Nat.add_zero,yla0] at hst;unfold Builtin.copy_;simp only [h0,List.getElem?_toArray,List.getElem?_cons_zero,List.getElem?_cons_succ,Sem.run_bind,run_underlying hu,Result.andThen_ok,dec,hlen,ybb0 hsz,hfirst,hoff,Nat.zero_add,hst,Sem.run_pure];rfl
       have hdec:decs J (yua0 cs o new)=(decs J cs).take o++decs J new++(decs J cs).drop (o+new.length):=by
        rw [yzb0 _ _ _ (by omega)];simp only [yvb0,List.map_append,List.map_take,List.map_drop]
       cases own with
       | ro=>exact (hnr rfl).elim
       | exact =>
        obtain ⟨hoff,lo,hi,hfr,hh⟩:=ho;refine ⟨_,main _ _ hoff hh (by simpa [yla0] using hfr) (by simp [yla0]),?_,trivial⟩;refine Moved.put hs hj hown _ (fun b hb=>yhb0 hb) (by simp [putO]) rfl rfl rfl hl ?_;exact ⟨hoff,lo,hi,by rw [hlen'];exact hfr,by rw [yjb0 hblk,hdec]⟩
       | grow sz =>
        obtain ⟨hoff,lo,hi,spare,hfr,hc1,hc2,hh⟩:=ho;refine ⟨_,main _ _ hoff hh (by simpa [yla0] using hfr) (by simp [yla0]),?_,trivial⟩;refine Moved.put hs hj hown _ (fun b hb=>yhb0 hb) (by simp [putO]) rfl rfl rfl hl ?_;refine ⟨hoff,lo,hi,spare,by rw [hlen'];exact hfr,by rw [hlen'];exact hc1,by rw [hlen'];exact hc2,?_⟩;rw [yjb0 hblk,hdec];have hb:o+new.length<=(decs J cs).length:=by rw [yla0];omega
        simp only [List.take_append_of_le_length (show o<=(decs J cs).length by omega),List.drop_append_of_le_length hb,List.append_assoc]
      .cases h
    .cases h
 .cases h
theorem yoe2 (hs:Sat J H w) {t ty:TypeId} {ats:Array TypeId} {x v:LV} {H' : Heap} (h0:ats[0]?=some t) (h:clearL P t x H=some (v,H')) :
  ∃ w',(Builtin.clear_ ats ty #[dec J x]).run P w=.ok (dec J v) w'/\Moved J H w J H' w'/\lt H'.n v:=by
 unfold clearL at h;split at h
 .rename_i elem hu;split at h
  .cases h
  .rename_i z hz;split at h
   .rename_i j o m c;replace h:=yna0 h;obtain ⟨hm0,h⟩:=h;replace h:=yna0 h;obtain ⟨hz0,h⟩:=h;split at h
    .cases h
    .rename_i e own cs hnr hg;replace h:=yaa0 h;obtain ⟨hle,h⟩:=h;replace h:=yaa0 h;obtain ⟨hj,h⟩:=h;replace h:=yaa0 h;obtain ⟨hone,h⟩:=h;have hle:=Nat.le_of_ble_eq_true hle;simp only [lenL_eq] at hle hz0;have hj:j<H.n:=bltN.1 hj;have hm0:=yxb0 hm0;have hz0:=yxb0 hz0;injection h with h;injection h with ha hb;subst ha;subst hb;obtain ⟨hrz,hcz,hlz⟩:=ymd0 hz J w;generalize hnew:yqb0 (cellsOf z) m=new at *
     have hnlt:lts H.n new:=by
      rw [<- hnew];refine yvh0 ?_ m;have hlz:=hlz H.n
      cases z <;> simp only [cellsOf,lts] <;> first
       | exact ⟨hlz,trivial⟩
       | exact hlz
     have ho:=hs.obj j hj;rw [hg] at ho;have hwf:=hs.wf j hj;rw [hg] at hwf;have hown:(H.get j).owns=true:=by rw [hg];cases own <;> first | rfl | exact (hnr rfl).elim
     have hblk:=hs.inside j hj (LObj.sits_of_owns hown);have hlen' : (yua0 cs o new).length=cs.length:=yac0 _ _ _ (by omega)
     have hl:ltObj H.n (.cells e own (yua0 cs o new)):=by
      simp only [ltObj] at hwf ⊢;rw [yzb0 _ _ _ (by omega),ygb0];rw [ygb0] at hwf hnlt;intro y hy;simp only [List.append_assoc,List.mem_append] at hy;rcases hy with hy | hy | hy
      .exact hwf y (List.mem_of_mem_take hy)
      .exact hnlt y hy
      .exact hwf y (List.mem_of_mem_drop hy)
     have main:∀ (cur:Array Value) (fr:Nat × Nat),(J j).off=0->w.heap[(J j).blk]?=some (.cells cur e fr)->(∀ q,q<cur.size->¬ (fr.1<=q/\q<fr.2))->cs.length<=cur.size ->
       (Builtin.clear_ ats ty #[dec J (.slice j o m c)]).run P w=.ok (.tuple #[]) (putO w (J j).blk (.cells (cur.toList.take o++decs J new++cur.toList.drop (o+new.length)).toArray e fr)):=by
      intro cur fr hoff hh hfr hsz'
      have hst:=ymg0 (P:=P) (J j).blk o e fr (decs J new) 0 cur w hh hfr (by simp only [yla0];omega) (by
       intro y hy;rw [yvb0,List.mem_map] at hy;obtain ⟨q,hq,rfl⟩:=hy
       exact ylg0 J (yhg0 hone q hq))
      simp only [Nat.add_zero,yla0] at hst;obtain ⟨k,rfl⟩ : ∃ k,m=k+1:=⟨m-1,by omega⟩
      have hzc:(Builtin.zeroCells (dec J z).cells (k+1)).toList=decs J new:=by
       rw [ype0];unfold Builtin.zeroCells;have:=ywz0 J (cellsOf z) (k+1) hz0;rw [hnew] at this;have hsize:(decs J (cellsOf z)).toArray.size=(cellsOf z).length:=by simp [yla0]
       rw [hsize] at this ⊢;rw [this]
      unfold Builtin.clear_;simp only [h0,List.getElem?_toArray,List.getElem?_cons_zero,Sem.run_bind,run_underlying hu,Result.andThen_ok,dec,hrz,hoff,Nat.zero_add,hzc,hst,Sem.run_pure]
     have hdec:decs J (yua0 cs o new)=(decs J cs).take o++decs J new++(decs J cs).drop (o+new.length):=by
      rw [yzb0 _ _ _ (by omega)];simp only [yvb0,List.map_append,List.map_take,List.map_drop]
     have hund:dec J yfe0=.tuple #[]:=by simp [yfe0,dec,decs]
     rw [hund];cases own with
     | ro=>exact (hnr rfl).elim
     | exact =>
      obtain ⟨hoff,lo,hi,hfr,hh⟩:=ho;refine ⟨_,main _ _ hoff hh (by simpa [yla0] using hfr) (by simp [yla0]),?_,by simp [yfe0,lt,lts]⟩;refine Moved.put hs hj hown _ (fun b hb=>yhb0 hb) (by simp [putO]) rfl rfl rfl hl ?_;exact ⟨hoff,lo,hi,by rw [hlen'];exact hfr,by rw [yjb0 hblk,hdec]⟩
     | grow sz =>
      obtain ⟨hoff,lo,hi,spare,hfr,hc1,hc2,hh⟩:=ho;refine ⟨_,main _ _ hoff hh (by simpa [yla0] using hfr) (by simp [yla0]),?_,by simp [yfe0,lt,lts]⟩;refine Moved.put hs hj hown _ (fun b hb=>yhb0 hb) (by simp [putO]) rfl rfl rfl hl ?_;refine ⟨hoff,lo,hi,spare,by rw [hlen'];exact hfr,by rw [hlen'];exact hc1,by rw [hlen'];exact hc2,?_⟩;rw [yjb0 hblk,hdec];have hb:o+new.length<=(decs J cs).length:=by rw [yla0];omega
      simp only [List.take_append_of_le_length (show o<=(decs J cs).length by omega),List.drop_append_of_le_length hb,List.append_assoc]
    .cases h
   .cases h
 .cases h
end Go.Proofs.YtnpbgnjiihecgaaGreat.Ev
