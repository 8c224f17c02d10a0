/- A law's arguments that are slices: rows of scalars that are only read. -/
import Derived.Test.YtnpbgnjiihecgaaGreatLi
import Derived.Test.YtnpbgnjiihecgaaGreatLo
import Derived.ChangeArms
import Derived.OpenShut
import Derived.WideShapes
namespace Go.Proofs.YtnpbgnjiihecgaaGreat.Ev
open Go Go.ChangeShapes
theorem yum0 (ks:List CK):∀ (n:Nat) (l r:List CK),l.length=n->ks=l++r->(Nat.rec (motive:=fun _=>List CK->List CK) (fun k=>k) (fun _ g k=>g (rotK k)) n ks:List CK)=r++l
 | 0,l,r,hl,h=>by
  cases l with
  | nil=>rw [show ks=r by simpa using h];show r=r++[];simp
  | cons _ _=>cases hl
 | n+1,l,r,hl,h=>by
  cases l with
  | nil=>cases hl
  | cons c l =>
   subst h;show (Nat.rec (motive:=fun _=>List CK->List CK) (fun k=>k) (fun _ g k=>g (rotK k)) n (rotK (c::(l++r))):List CK)=_;rw [yum0 _ n l (r++[c]) (by simpa using hl) (by simp [rotK])];simp
def rotN (ks:List CK) (n:Nat):List CK:=Nat.rec (motive:=fun _=>List CK->List CK) (fun k=>k) (fun _ g k=>g (rotK k)) n ks
theorem yyh1 (ks:List CK):rotN ks ks.length=ks:=by
 have:=yum0 ks ks.length ks [] rfl (by simp);simpa [rotN] using this
theorem yzn0:∀ (x y:List LV) (ks:List CK),flatF ks (x++y)=flatF ks x++flatF (rotN ks x.length) y
 | [],y,ks=>rfl
 | v::x,y,ks=>by
  show (headK ks).san v::flatF (rotK ks) (x++y)=(headK ks).san v::(flatF (rotK ks) x++_);rw [yzn0 x y (rotK ks)];rfl
theorem yvm0 {Z:Type} (f:Z->List LV) (ks:List CK) (hm:∀ a,(f a).length=ks.length):∀ l:List Z,flatF ks (l.flatMap f)=l.flatMap fun a=>flatF ks (f a)
 | []=>rfl
 | a::l=>by
  rw [List.flatMap_cons,List.flatMap_cons,yzn0,hm a,yyh1,yvm0 f ks hm l]
theorem ytg0 {Z:Type} (f:Z->List LV) (m:Nat) (hm:∀ a,(f a).length=m):∀ l:List Z,(l.flatMap f).length=l.length*m
 | []=>by simp
 | a::l=>by rw [List.flatMap_cons,List.length_append,hm a,ytg0 f m hm l,List.length_cons,Nat.add_mul];omega
theorem ymq0 {Z:Type} (f:Z->List LV) (m:Nat) (hm:∀ a,(f a).length=m):∀ (l:List Z) (i c:Nat) (hi:i<l.length),c<m->(l.flatMap f)[i*m+c]?=(f l[i])[c]?
 | [],i,c,hi,hc=>by simp at hi
 | a::l,0,c,hi,hc=>by
  rw [List.flatMap_cons,Nat.zero_mul,Nat.zero_add,List.getElem?_append_left (by rw [hm];exact hc)];rfl
 | a::l,i+1,c,hi,hc=>by
  rw [List.flatMap_cons,List.getElem?_append_right (by rw [hm,Nat.add_mul];omega),hm,show (i+1)*m+c-m=i*m+c by rw [Nat.add_mul];omega];exact ymq0 f m hm l i c (by simpa using hi) hc
theorem yao0:∀ (n:Nat) (ks:List CK),K.ypf0 ks n=headK (rotN ks n)
 | 0,ks=>rfl
 | n+1,ks=>yao0 n (rotK ks)
theorem yoz0 (ks:List CK):∀ (a b:Nat),rotN ks (a+b)=rotN (rotN ks a) b
 | 0,b=>by rw [Nat.zero_add];rfl
 | a+1,b=>by
  rw [show a+1+b=(a+b)+1 by omega];show rotN (rotK ks) (a+b)=rotN (rotN (rotK ks) a) b;exact yoz0 (rotK ks) a b
theorem yzh1 (ks:List CK):∀ i,rotN ks (i*ks.length)=ks
 | 0=>by rw [Nat.zero_mul];rfl
 | i+1=>by rw [Nat.add_mul,Nat.one_mul,yoz0,yzh1 ks i,yyh1]
theorem yeg0 (ks:List CK) (i c:Nat):K.ypf0 ks (i*ks.length+c)=K.ypf0 ks c:=by
 rw [yao0,yao0,yoz0,yzh1]
section
variable {H:Type} {enc:TypeId × Value->H} {P:Program} {w:World} {spare:Nat->Bool} {held:Bool}
theorem yai1 {a:Addr} {n:Nat} {cs:List Value} (h:w.cells? 0 a n=some cs):cs.length=n/\∀ j,j<n->w.cell? (a.add j)=cs[j]?:=by
 unfold World.cells? at h;rw [if_pos (Nat.zero_le _)] at h;refine ⟨by simpa using mapM_some_length h,fun j hj=>?_⟩;exact mapM_some_get h j j (by simp [hj])
theorem ywt1 {t e:TypeId} {ks:List CK} {Z:Type} (f:Z->List LV) (good:Z->Prop) {r:Reach} {b0:Nat} {v:Value} {d:DataW H} {p:List MemPlace} (ht:P.underlying t=some (.slice e)) (hk:P.cellsOf e=ks.length) (hm:∀ a,(f a).length=ks.length) (hks:0<ks.length)
  (hel:∀ n cs x,DataW.trod enc P w 0 spare held n e cs=some x->∃ a,good a/\cs=decs (fun _=>rb0) (flatF ks (f a)))
  (hv:Value.okWide P w r b0 t v) (h:DataW.Trod enc P w 0 spare held t v d p) :
  v=.slice none 0 0\/(∃ a cap,v=.slice (some a) 0 cap)\/∃ (blk off cap:Nat) (l:List Z),0<l.length/\(∀ a,a∈l->good a)/\blk<w.heap.size/\l.length<=cap/\cap<=maxLen/\v=.slice (some ⟨blk,off,none⟩) l.length cap /\
   ∀ j x,(flatF ks (l.flatMap f))[j]?=some x->w.cell? ⟨blk,off+j,none⟩=some (dec (fun _=>rb0) x):=by
 obtain ⟨a0,len,cap,rfl⟩:=WideShapes.okWide_slice ht hv;obtain ⟨fuel,hf⟩:=h;rcases DataW.trod_slice ht hf with ⟨h1,_⟩ | ⟨a,len',cap',elems,rest,n,_,h1,_,_,hlc,hcm,hlen,hget,_,_⟩
 .left;simp only [Value.cells] at h1;injection h1
 .right;simp only [Value.cells] at h1;injection h1 with h1;injection h1 with h1 h2 h3;subst h1;subst h2;subst h3;cases len with
  | zero=>exact .inl ⟨a,cap,rfl⟩
  | succ len =>
   right
   have key:∀ i,i<len+1->∃ al,good al/\w.cells? 0 (a.add (i*ks.length)) ks.length=some (decs (fun _=>rb0) (flatF ks (f al))):=by
    intro i hi;have:=hget i hi;rw [List.getElem?_eq_getElem (by omega),hk] at this;obtain ⟨cs,hc,hx⟩:=Option.bind_eq_some_iff.1 this;obtain ⟨al,hg,rfl⟩:=hel _ _ _ hx;exact ⟨al,hg,hc⟩
   obtain ⟨al0,_,hc0⟩:=key 0 (by omega)
   have key2:∀ i,∃ al,i<len+1->good al/\w.cells? 0 (a.add (i*ks.length)) ks.length=some (decs (fun _=>rb0) (flatF ks (f al))):=by
    intro i;by_cases hi:i<len+1
    .obtain ⟨al,h1,h2⟩:=key i hi;exact ⟨al,fun _=>⟨h1,h2⟩⟩
    .exact ⟨al0,fun h=>absurd h hi⟩
   have hall:=fun i=>Classical.choose_spec (key2 i)
   obtain ⟨blk,off,spot⟩:=a
   have hcell0:∃ c,w.cell? ⟨blk,off,spot⟩=some c:=by
    obtain ⟨h1,h2⟩:=yai1 hc0;have:=h2 0 hks;simp only [Nat.zero_mul,Addr.add,if_true] at this;rw [this,List.getElem?_eq_getElem (by rw [h1];exact hks)];exact ⟨_,rfl⟩
   obtain ⟨c,hc⟩:=hcell0
   have hspot:spot=none/\blk<w.heap.size:=by
    unfold World.cell? at hc;simp only at hc;split at hc
    .rename_i x y z hb;split at hc
     .cases hc
     .rename_i hs;refine ⟨by simpa using hs,(Array.getElem?_eq_some_iff.1 hb).1⟩
    .cases hc
   obtain ⟨rfl,hblk⟩:=hspot;refine ⟨blk,off,cap,(List.range (len+1)).map fun i=>Classical.choose (key2 i),by simp,?_,hblk,by simpa using hlc,hcm,by simp,?_⟩
   .intro al hal;obtain ⟨i,hi,rfl⟩:=List.mem_map.1 hal;exact (hall i (List.mem_range.1 hi)).1
   .intro j x hx;rw [yvm0 f ks hm] at hx;have hlenJ:=(List.getElem?_eq_some_iff.1 hx).1;rw [ytg0 _ ks.length (fun a=>by rw [yrd0,hm])] at hlenJ;simp only [List.length_map,List.length_range] at hlenJ;have hdm:j=(j / ks.length)*ks.length+j % ks.length:=by rw [Nat.mul_comm];exact (Nat.div_add_mod j ks.length).symm
    have hi:j / ks.length<len+1:=(Nat.div_lt_iff_lt_mul hks).2 hlenJ;have hcm:=Nat.mod_lt j hks;rw [hdm,ymq0 _ ks.length (fun a=>by rw [yrd0,hm]) _ _ _ (by simpa using hi) hcm] at hx;simp only [List.getElem_map,List.getElem_range] at hx;obtain ⟨_,h2⟩:=hall (j / ks.length) hi;obtain ⟨h3,h4⟩:=yai1 h2;have h5:=h4 (j % ks.length) hcm
    have hadd:(Addr.add (Addr.add ⟨blk,off,none⟩ (j / ks.length*ks.length)) (j % ks.length))=⟨blk,off+j,none⟩:=by
     have e:∀ (o n:Nat),Addr.add ⟨blk,o,none⟩ n=⟨blk,o+n,none⟩:=by
      intro o n;unfold Addr.add;split
      .rename_i h;subst h;rfl
      .rfl
     rw [e,e,Nat.add_assoc,<- hdm]
    rw [hadd,yvb0,List.getElem?_map,hx] at h5;exact h5
end
structure RowArg where
 rb:RB
 o:LObj
def RowArg.ok (w:World) (a:RowArg):Prop:=a.o=.empty\/∃ ks e vs,a.o=.flat ks e .ro vs/\a.rb.blk<w.heap.size/\∀ j x,(flatF ks vs)[j]?=some x->w.cell? ⟨a.rb.blk,a.rb.off+j,none⟩=some (dec (fun _=>rb0) x)
noncomputable def rhoOf (rs:List RowArg) (i:Nat):RB:=(rs.map (·.rb)).getD i rb0
theorem yzd2 {J J' : Nat->RB} {ks:List CK} {vs:List LV} {j:Nat} {x:LV} (h:(flatF ks vs)[j]?=some x):dec J x=dec J' x:=by
 obtain ⟨c,y,rfl⟩:=yii1 (List.mem_of_getElem? h);exact yhi1 J J' c y
theorem Sat.args {w:World} {rs:List RowArg} (h:∀ a,a∈rs->a.ok w):Sat (rhoOf rs) (Heap.of (rs.map (·.o))) w/\∀ i,i<(Heap.of (rs.map (·.o))).n->((Heap.of (rs.map (·.o))).get i).owns=false:=by
 have hget:∀ i (hi:i<rs.length),(Heap.of (rs.map (·.o))).get i=rs[i].o/\rhoOf rs i=rs[i].rb:=by
  intro i hi;refine ⟨by rw [yje0 _ i (by simpa using hi)];simp,?_⟩;unfold rhoOf;rw [List.getD_eq_getElem?_getD,List.getElem?_map,List.getElem?_eq_getElem hi];rfl
 have hn:(Heap.of (rs.map (·.o))).n=rs.length:=by rw [of_n];simp
 have howns:∀ i,i<(Heap.of (rs.map (·.o))).n->((Heap.of (rs.map (·.o))).get i).owns=false:=by
  intro i hi;rw [hn] at hi;rw [(hget i hi).1];rcases h _ (List.getElem_mem hi) with e | ⟨ks,e,vs,e2,_⟩
  .rw [e];rfl
  .rw [e2];rfl
 refine ⟨⟨fun i hi=>?_,fun i hi=>?_,fun i j hi hj hne ho=>?_,fun i hi hs=>?_⟩,howns⟩
 .rw [hn] at hi;rw [(hget i hi).1];rcases h _ (List.getElem_mem hi) with e | ⟨ks,e,vs,e2,_⟩
  .rw [e];trivial
  .rw [e2];trivial
 .rw [hn] at hi;rw [(hget i hi).1,(hget i hi).2];rcases h _ (List.getElem_mem hi) with e | ⟨ks,e,vs,e2,_,hc⟩
  .rw [e];trivial
  .rw [e2];intro j v hv;rw [hc j v hv,yzd2 hv]
 .rw [howns i hi] at ho;cases ho
 .rw [hn] at hi;rw [(hget i hi).1] at hs;rw [(hget i hi).2];rcases h _ (List.getElem_mem hi) with e | ⟨ks,e,vs,e2,hb,_⟩
  .rw [e] at hs;cases hs
  .exact hb
end Go.Proofs.YtnpbgnjiihecgaaGreat.Ev
