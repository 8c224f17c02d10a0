/- What an operation may look at, and turn: by its kind. An operation that changes nothing answers the same in every heap that is alike where it looks. Regions whose order is the text's. -/
import Derived.Test.YtnpbgnjiihecgaaGreatLe
namespace Go.Proofs.YtnpbgnjiihecgaaGreat.Ev
open Go
variable {P:Program} {H:Heap}
theorem yqb2 {t:TypeId} {v p:LV} {H' : Heap} (h:boxL t H v=some (p,H')):H.Le H':=by
 unfold boxL at h;replace h:=(yna0 h).2;injection h with h;injection h with _ h;subst h;exact Heap.le_push _ _
theorem yjt0 {e:TypeId} {n:Nat} {cs:List LV} {v:LV} {H' : Heap} (h:grownL P e H n cs=some (v,H')):H.Le H':=by
 obtain ⟨_,_,_,_,_,_,_,_,_,rfl⟩:=yul0 h;exact Heap.le_push _ _
theorem yzf1 {e:TypeId} {size n:Nat} {s v:LV} {new:List LV} {H' : Heap} (h:appendTo P e size s n new H=some (v,H')):H.Le H':=by
 unfold appendTo at h;split at h
 .cases hn:Nat.beq n 0 with
  | true=>rw [hn] at h;injection h with h;injection h with _ h;subst h;exact Heap.Le.refl _
  | false=>rw [hn] at h;exact yjt0 h
 .split at h
  .replace h:=(yaa0 h).2;replace h:=(yaa0 h).2;split at h
   .rename_i cap;rename_i l _ _ _ _ _ _ _;revert h;cases Nat.ble _ cap with
    | false=>intro h;exact yjt0 h
    | true =>
     simp only [cond_true];cases Nat.beq n 0 with
     | true=>intro h;injection h with h;injection h with _ h;subst h;exact Heap.Le.refl _
     | false =>
      simp only [cond_false];intro h;split at h
      .replace h:=(yaa0 h).2;replace h:=(yaa0 h).2;injection h with h;injection h with _ h;subst h;exact Heap.le_put _ _ _
      .cases h
   .split at h
    .replace h:=(yaa0 h).2;replace h:=(yaa0 h).2;replace h:=(yaa0 h).2;replace h:=(yaa0 h).2;replace h:=(yaa0 h).2;revert h;cases Nat.beq n 0 with
     | true=>intro h;injection h with h;injection h with _ h;subst h;exact Heap.Le.refl _
     | false=>intro h;exact (Heap.le_put _ _ _).trans (yjt0 h)
    .cases h
  .cases h
 .cases h
theorem yso0 {e:TypeId} {c:CK} {n:Nat} {vs:List LV} {v:LV} {H' : Heap} (h:grownFl P e c H n vs=some (v,H')):H.Le H':=by
 unfold grownFl at h;split at h
 .replace h:=(yaa0 h).2;replace h:=(yaa0 h).2;replace h:=(yaa0 h).2;injection h with h;injection h with _ h;subst h;exact Heap.le_push _ _
 .cases h
theorem yag1 {t xt:TypeId} {s x v:LV} {H' : Heap} (h:appendF1 P t xt s x H=some (v,H')):H.Le H':=by
 unfold appendF1 at h;replace h:=(yaa0 h).2;split at h
 .split at h
  .cases h
  .split at h
   .cases h
   .rename_i n _;replace h:=(yaa0 h).2;split at h
    .cases h
    .split at h
     .cases h
     .unfold appendFl at h;split at h
      .cases hn:Nat.beq n 0 with
       | true=>rw [hn] at h;injection h with h;injection h with _ h;subst h;exact Heap.Le.refl _
       | false=>rw [hn] at h;exact yso0 h
      .split at h
       .cases h
       .replace h:=(yaa0 h).2;split at h
        .revert h;cases Nat.ble _ _ with
         | true=>intro h;replace h:=(yaa0 h).2;injection h with h;injection h with _ h;subst h;exact Heap.Le.refl _
         | false=>intro h;exact yso0 h
        .replace h:=(yaa0 h).2;replace h:=(yaa0 h).2;replace h:=(yaa0 h).2;revert h;cases Nat.beq n 0 with
         | true=>intro h;injection h with h;injection h with _ h;subst h;exact Heap.Le.refl _
         | false=>intro h;exact (Heap.le_put _ _ _).trans (yso0 h)
      .cases h
 .cases h
theorem yse2 {t:TypeId} {x v:LV} {lo hi mx:Option LV} {H' : Heap} (h:sliceL P t x lo hi mx H=some (v,H')):H.Le H':=by
 have wh:∀ {o:Option LV},withH H o=some (v,H')->H.Le H':=fun h=>by rw [(yfc0 h).2];exact Heap.Le.refl _
 unfold sliceL at h;split at h
 .split at h
  .split at h
   .cases h
   .exact wh h
  .cases h
 .split at h
  .cases h
  .split at h
   .unfold yoh0 at h;split at h
    .cases h
    .split at h
     .cases h
     .replace h:=(yaa0 h).2;replace h:=(yaa0 h).2;split at h
      .split at h
       .exact wh h
       .unfold ygk0 at h;replace h:=(yaa0 h).2;revert h;cases Nat.beq _ 0 with
        | true=>intro h;injection h with h;injection h with _ h;subst h;exact Heap.Le.refl _
        | false =>
         simp only [cond_false];cases Nat.beq _ _ with
         | true=>intro h;injection h with h;injection h with _ h;subst h;exact Heap.le_push _ _
         | false=>intro h;injection h with h;injection h with _ h;subst h;exact Heap.Le.refl _
      .split at h
       .cases h
       .replace h:=(yaa0 h).2;replace h:=(yaa0 h).2;split at h
        .replace h:=(yaa0 h).2;exact wh h
        .replace h:=(yaa0 h).2;exact wh h
   .split at h
    .split at h
     .split at h
      .injection h with h;injection h with _ h;subst h;exact Heap.Le.refl _
      .split at h
       .injection h with h;injection h with _ h;subst h;exact Heap.Le.refl _
       .cases h
     .cases h
    .cases h
   .split at h
    .split at h
     .split at h
      .injection h with h;injection h with _ h;subst h;exact Heap.Le.refl _
      .cases h
     .cases h
    .cases h
   .cases h
 .split at h
  .split at h
   .cases h
   .split at h
    .cases h
    .split at h
     .cases h
     .split at h
      .cases h
      .replace h:=(yaa0 h).2;exact wh h
  .cases h
 .cases h
theorem yzc1 {t:TypeId} {m k v:LV} {H' : Heap} (h:updateL P t m k v H=some H'):H.Le H':=by
 unfold updateL at h;replace h:=(yna0 h).2;replace h:=(yna0 h).2;split at h
 .split at h
  .replace h:=(yaa0 h).2;split at h
   .split at h
    .replace h:=(yaa0 h).2;split at h
     .injection h with h;subst h;exact Heap.le_put _ _ _
     .injection h with h;subst h;exact Heap.le_put _ _ _
     .cases h
    .cases h
   .cases h
  .cases h
 .cases h
theorem yyu1 {P:Program} {t:TypeId} {H H' : Heap} {a v:LV} (h:storeL P t H a v=some H'):H.Le H':=by
 have h0:storeL0 P t H a v=some H'->H.Le H':=fun hst=>by
  unfold storeL0 at hst;replace hst:=(yna0 hst).2;split at hst
  .split at hst
   .cases hst
   .split at hst
    .replace hst:=(yaa0 hst).2;replace hst:=(yaa0 hst).2;replace hst:=(yaa0 hst).2;replace hst:=(yaa0 hst).2;injection hst with hst;subst hst;exact Heap.le_put _ _ _
    .cases hst
   .cases hst
  .cases hst
 unfold storeL at h;split at h
 .split at h
  .obtain ⟨c,_,_,_,_,_,_,rfl⟩:=ymj0 h;exact Heap.le_put _ _ _
  .exact h0 h
 .exact h0 h
theorem ymu2 {op:Op} {xs:List LV} {r:OpR} (h:lop P op xs H=some r):H.Le r.H:=by
 have pr:∀ {o:Option LV},pureR H o=some r->H.Le r.H:=fun h=>by obtain ⟨_,_,rfl⟩:=ysc0 h;exact Heap.Le.refl _
 have lr:∀ {x:LV} {o:Option LV},loadR H x o=some r->H.Le r.H:=fun h=>by obtain ⟨_,_,_,rfl⟩:=yuh0 h;exact Heap.Le.refl _
 have cr:∀ {o:Option (LV × Heap)},yrc0 o=some r->(∀ v H',o=some (v,H')->H.Le H')->H.Le r.H:=fun h k=>by obtain ⟨_,_,he,rfl⟩:=ycc0 h;exact k _ _ he
 unfold lop at h;split at h
 .unfold yfq0 at h;split at h
  .injection h with h;subst h;exact Heap.Le.refl _
  .cases h
 .unfold yfq0 at h;split at h
  .injection h with h;subst h;exact Heap.Le.refl _
  .cases h
 .unfold yjf1 at h;split at h
  .injection h with h;subst h;exact Heap.Le.refl _
  .cases h
 .unfold opAlloc at h;split at h
  .split at h
   .exact cr h fun v H' e=>yqb2 e
   .cases h
  .cases h
 .unfold opBox at h;split at h
  .exact cr h fun v H' e=>yqb2 e
  .cases h
 .exact pr h
 .unfold opBuildSlice at h;refine cr h fun v H' e=>?_
  unfold buildSliceL at e;split at e
  .split at e
   .replace e:=(yna0 e).2;replace e:=(yaa0 e).2;replace e:=(yaa0 e).2;split at e
    .injection e with e;injection e with _ e;subst e;exact Heap.le_push _ _
    .cases e
   .cases e
  .cases e
 .unfold opLoad at h;split at h
  .exact lr h
  .cases h
 .unfold opStore at h;split at h
  .split at h
   .rename_i H' hst;injection h with h;subst h;exact yyu1 hst
   .cases h
  .cases h
 .unfold yqe0 at h;split at h <;> first
   | (injection h with h;subst h;exact Heap.Le.refl _)
   | cases h
 .unfold opBin at h;split at h
  .exact pr h
  .cases h
 .unfold opUn at h;split at h
  .exact pr h
  .cases h
 .unfold opConvert at h;split at h
  .split at h
   .rename_i v H' hc;injection h with h;subst h;unfold convL at hc;split at hc
    .split at hc
     .split at hc
      .injection hc with hc;injection hc with _ hc;subst hc;exact Heap.Le.refl _
      .cases hc
     .cases hc
    .split at hc
     .split at hc
      .injection hc with hc;injection hc with _ hc;subst hc;exact Heap.Le.refl _
      .cases hc
     .split at hc
      .split at hc
       .injection hc with hc;injection hc with _ hc;subst hc;exact Heap.le_push _ _
       .cases hc
      .cases hc
     .cases hc
    .split at hc
     .split at hc
      .rw [(yfc0 hc).2];exact Heap.Le.refl _
      .cases hc
     .cases hc
    .cases hc
   .cases h
  .cases h
 .unfold opMakeInterface at h;split at h
  .replace h:=(yis0 h).2;split at h
   .cases h
   .injection h with h;subst h;exact Heap.Le.refl _
   .cases h
  .cases h
 .split at h
  .unfold yfg0 at h;replace h:=(ybx0 h).2;injection h with h;subst h;exact Heap.Le.refl _
  .cases h
 .unfold yik0 at h;split at h
  .injection h with h;subst h;exact Heap.le_push _ _
  .cases h
 .unfold opMakeSlice at h;split at h
  .refine cr h fun v H' e=>?_
   unfold makeSliceL at e;split at e
   .split at e
    .split at e
     .replace e:=(yaa0 e).2;replace e:=(yaa0 e).2;replace e:=(yaa0 e).2;replace e:=(yaa0 e).2;replace e:=(yna0 e).2;replace e:=(yaa0 e).2;injection e with e;injection e with _ e;subst e;exact Heap.le_push _ _
     .cases e
    .cases e
   .cases e
  .cases h
 .unfold opSlice at h;split at h
  .split at h
   .split at h
    .rename_i v H' hs;injection h with h;subst h;exact yse2 hs
    .cases h
   .cases h
  .cases h
 .unfold opFieldAddr at h;split at h
  .exact pr h
  .cases h
 .unfold opField at h;split at h
  .exact pr h
  .cases h
 .unfold opIndexAddr at h;split at h
  .exact pr h
  .cases h
 .unfold opIndex at h;split at h
  .exact pr h
  .cases h
 .unfold opLookup at h;split at h
  .exact lr h
  .cases h
 .unfold opUpdate at h;split at h
  .split at h
   .rename_i H' hu;injection h with h;subst h;exact yzc1 hu
   .cases h
  .cases h
 .unfold opUpdate at h;split at h
  .split at h
   .rename_i H' hu;injection h with h;subst h;exact yzc1 hu
   .cases h
  .cases h
 .unfold opArrPtr at h;split at h
  .exact pr h
  .cases h
 .unfold yqi0 at h;split at h
  .exact pr h
  .cases h
 .unfold opRange at h;split at h
  .split at h
   .split at h
    .replace h:=(yaa0 h).2;injection h with h;subst h;exact Heap.le_push _ _
    .cases h
   .cases h
  .cases h
 .obtain ⟨_,_,_,_,_,_,_,_,_,_,_,_,rfl⟩:=yoj0 h;exact Heap.Le.refl _
 .rename_i c;cases hb:c.callee with
  | value f=>simp only [hb] at h;cases h
  | invoke a b=>simp only [hb] at h;cases h
  | builtin b =>
   simp only [hb] at h;unfold opBuiltin at h;split at h
   .cases h0:c.argTypes[0]? with
    | none=>simp only [h0] at h;cases h
    | some t =>
     simp only [h0] at h;unfold opLen at h;split at h
     .split at h
      .split at h
       .injection h with h;subst h;exact Heap.Le.refl _
       .cases h
      .split at h
       .split at h
        .cases h
        .injection h with h;subst h;exact Heap.Le.refl _
       .cases h
      .injection h with h;subst h;exact Heap.Le.refl _
      .split at h
       .injection h with h;subst h;exact Heap.Le.refl _
       .split at h
        .injection h with h;subst h;exact Heap.Le.refl _
        .cases h
       .cases h
      .cases h
     .cases h
   .cases h0:c.argTypes[0]? with
    | none=>simp only [h0] at h;cases h
    | some t =>
     cases h1:c.argTypes[1]? with
     | none=>simp only [h0,h1] at h;cases h
     | some xt =>
      simp only [h0,h1] at h;unfold opAppend at h;split at h
      .refine cr h fun v H' e=>?_
       unfold appendL at e;rename_i sx xx;cases hf:(yhe0 H sx||yhe0 H xx) with
       | true=>rw [hf] at e;exact yag1 e
       | false =>
       rw [hf] at e;simp only [cond_false] at e;unfold appendL0 at e;replace e:=(yaa0 e).2;split at e
       .split at e
        .cases e
        .split at e
         .cases e
         .replace e:=(yna0 e).2;replace e:=(yna0 e).2;split at e
          .cases e
          .exact yzf1 e
       .cases e
      .cases h
   .cases h0:c.argTypes[0]? with
    | none=>simp only [h0] at h;cases h
    | some t =>
     simp only [h0] at h;unfold opCopy at h;split at h
     .refine cr h fun v H' e=>?_
      unfold copyL at e;split at e
      .split at e
       .cases e
       .split at e
        .cases e
        .split at e
         .replace e:=(yna0 e).2;split at e
          .cases e
          .split at e
           .cases e
           .replace e:=(yaa0 e).2;replace e:=(yaa0 e).2;replace e:=(yaa0 e).2;injection e with e;injection e with _ e;subst e;exact Heap.le_put _ _ _
           .cases e
         .cases e
      .cases e
     .cases h
   .cases h0:c.argTypes[0]? with
    | none=>simp only [h0] at h;cases h
    | some t =>
     simp only [h0] at h;unfold opClear at h;split at h
     .refine cr h fun v H' e=>?_
      unfold clearL at e;split at e
      .split at e
       .cases e
       .split at e
        .replace e:=(yna0 e).2;replace e:=(yna0 e).2;split at e
         .cases e
         .replace e:=(yaa0 e).2;replace e:=(yaa0 e).2;replace e:=(yaa0 e).2;injection e with e;injection e with _ e;subst e;exact Heap.le_put _ _ _
         .cases e
        .cases e
      .cases e
     .cases h
   .unfold opMin at h;split at h
    .split at h
     .injection h with h;subst h;exact Heap.Le.refl _
     .cases h
    .cases h
   .unfold opMax at h;split at h
    .split at h
     .injection h with h;subst h;exact Heap.Le.refl _
     .cases h
    .cases h
   .cases h
 .cases h
end Go.Proofs.YtnpbgnjiihecgaaGreat.Ev
namespace Go.Proofs.YtnpbgnjiihecgaaGreat.Ev
open Go
variable {P:Program} {H:Heap}
def Alike (r:OpR) (H H2:Heap):Prop:=∀ i,r.k=.load i->H2.get i=H.get i
theorem yme0 {o:Option (LV × Heap)} {r:OpR} (h:yrc0 o=some r) (hk:r.k≠.change):False:=by
 obtain ⟨_,_,_,rfl⟩:=ycc0 h;exact hk rfl
theorem yer0 {o:Option LV} {r:OpR} (h:pureR H o=some r):r.H=H/\∀ H2,pureR H2 o=some ⟨r.v,H2,r.k⟩:=by
 obtain ⟨v,rfl,rfl⟩:=ysc0 h;exact ⟨rfl,fun _=>rfl⟩
theorem yux0 {n:Nat} {x:LV} {H2:Heap} (h:∀ i o l c,x=.slice i o l c->H2.get i=H.get i):ydc0 H2 n x=ydc0 H n x:=by
 cases x <;> first
  | rfl
  | (rename_i i o l c;simp only [ydc0];rw [h i o l c rfl])
theorem yzh0 {size i o len k:Nat} {H2:Heap} (h:H2.get i=H.get i):yfk0 H2 size i o len k=yfk0 H size i o len k:=by unfold yfk0;rw [h]
theorem ybg1 {t:TypeId} {x v:LV} {lo hi mx:Option LV} {H' : Heap} (h:sliceL P t x lo hi mx H=some (v,H')) (hk:yxm0 v x≠.change) :
  H'=H/\∀ H2,(∀ i,yxm0 v x=.load i->H2.get i=H.get i)->sliceL P t x lo hi mx H2=some (v,H2):=by
 have wh:∀ {o:Option LV},withH H o=some (v,H')->H'=H/\∀ H2,withH H2 o=some (v,H2):=fun h=>⟨(yfc0 h).2,fun H2=>by rw [(yfc0 h).1];rfl⟩
 unfold sliceL at h ⊢;split at h
 .split at h
  .split at h
   .cases h
   .exact ⟨(wh h).1,fun H2 _=>(wh h).2 H2⟩
  .cases h
 .split at h
  .cases h
  .rename_i size hsz
   try simp only [hsz]
   split at h
   .rename_i i o len cap;unfold yoh0 at h;simp only [yoh0];split at h
    .cases h
    .rename_i hh hb
     try simp only [hb]
     split at h
     .cases h
     .rename_i l lb
      try simp only [lb]
      replace h:=yaa0 h;obtain ⟨c1,h⟩:=h;replace h:=yaa0 h;obtain ⟨c2,h⟩:=h
      try simp only [c1,c2,cond_true]
      split at h
      .split at h
       .exact ⟨(wh h).1,fun H2 _=>(wh h).2 H2⟩
       .rename_i k;unfold ygk0 at h ⊢;replace h:=yaa0 h;obtain ⟨hg,h⟩:=h;cases c3:Nat.beq l 0 with
        | true =>
         rw [c3] at h;simp only [cond_true] at h;injection h with h;injection h with h1 h2;subst h1;subst h2;refine ⟨rfl,fun H2 ha=>?_⟩;rw [yzh0 (ha i rfl),hg];rfl
        | false =>
         rw [c3] at h;simp only [cond_false] at h;cases c4:Nat.beq l hh with
         | true =>
          rw [c4] at h;simp only [cond_true] at h;injection h with h;injection h with h1 h2;subst h1;exact absurd rfl hk
         | false =>
          rw [c4] at h;simp only [cond_false] at h;injection h with h;injection h with h1 h2;subst h1;subst h2;refine ⟨rfl,fun H2 ha=>?_⟩;rw [yzh0 (ha i rfl),hg];rfl
      .rename_i m;split at h
       .cases h
       .rename_i m' mb
        try simp only [mb]
        replace h:=yaa0 h;obtain ⟨c3,h⟩:=h;replace h:=yaa0 h;obtain ⟨c4,h⟩:=h
        try simp only [c3,c4,cond_true]
        split at h
        .replace h:=yaa0 h;obtain ⟨c5,h⟩:=h
         try simp only [c5,cond_true]
         exact ⟨(wh h).1,fun H2 _=>(wh h).2 H2⟩
        .rename_i k;replace h:=yaa0 h;obtain ⟨c5,h⟩:=h;refine ⟨(wh h).1,fun H2 ha=>?_⟩
         have hv:∃ a b c d,v=.slice a b c d:=by
          obtain ⟨_,hv⟩:=ytk0 (yfc0 h).1;exact ⟨_,_,_,_,hv⟩
         obtain ⟨a,b,c,d,rfl⟩:=hv;rw [yzh0 (ha i rfl),c5];exact (wh h).2 H2
   .split at h
    .split at h
     .split at h
      .injection h with h;injection h with h1 h2;subst h1;subst h2;exact ⟨rfl,fun _ _=>rfl⟩
      .split at h
       .injection h with h;injection h with h1 h2;subst h1;subst h2;rename_i mb;exact ⟨rfl,fun _ _=>by simp only [mb]⟩
       .cases h
     .cases h
    .cases h
   .split at h
    .split at h
     .split at h
      .injection h with h;injection h with h1 h2;subst h1;subst h2;exact ⟨rfl,fun _ _=>rfl⟩
      .cases h
     .cases h
    .cases h
   .cases h
 .split at h
  .split at h
   .cases h
   .split at h
    .cases h
    .rename_i size hsz;split at h
     .cases h
     .rename_i hh hb;split at h
      .cases h
      .rename_i l lb;replace h:=yaa0 h;obtain ⟨c1,h⟩:=h;simp only [hsz,hb,lb,c1,cond_true];exact ⟨(wh h).1,fun H2 _=>(wh h).2 H2⟩
  .cases h
 .cases h
theorem yzu1 {op:Op} {xs:List LV} {r:OpR} (h:lop P op xs H=some r) (hk:r.k≠.change):r.H=H/\∀ H2,Alike r H H2->lop P op xs H2=some ⟨r.v,H2,r.k⟩:=by
 have pr:∀ {o:Option LV},pureR H o=some r->r.H=H/\∀ H2,Alike r H H2->pureR H2 o=some ⟨r.v,H2,r.k⟩:=fun h=>⟨(yer0 h).1,fun H2 _=>(yer0 h).2 H2⟩
 unfold lop at h ⊢;split at h
 .unfold yfq0 at h ⊢;split at h
  .injection h with h;subst h;exact ⟨rfl,fun _ _=>rfl⟩
  .cases h
 .unfold yfq0 at h ⊢;split at h
  .injection h with h;subst h;exact ⟨rfl,fun _ _=>rfl⟩
  .cases h
 .unfold yjf1 at h ⊢;split at h
  .injection h with h;subst h;exact ⟨rfl,fun _ _=>rfl⟩
  .cases h
 .unfold opAlloc at h;split at h
  .split at h
   .exact (yme0 h hk).elim
   .cases h
  .cases h
 .unfold opBox at h;split at h
  .exact (yme0 h hk).elim
  .cases h
 .exact pr h
 .exact (yme0 h hk).elim
 .unfold opLoad at h ⊢;split at h
  .rename_i x H1;obtain ⟨v,k,hv,rfl⟩:=yuh0 h;refine ⟨rfl,fun H2 ha=>?_⟩;unfold loadL at hv;split at hv
   .rename_i i o;simp only [loadL] at h ⊢;split at hv
    .rename_i e w cs hg;rw [hg] at h;simp only [hv,loadR] at h;injection h with h;injection h with h1 h2 h3;have:=ha i h3.symm;rw [this,hg];simp only [hv,loadR];rw [<- h3]
    .cases hv
   .cases hv
  .cases h
 .unfold opStore at h;split at h
  .split at h
   .injection h with h;subst h;exact absurd rfl hk
   .cases h
  .cases h
 .unfold yqe0 at h ⊢;split at h <;> first
   | (injection h with h;subst h;exact ⟨rfl,fun _ _=>rfl⟩)
   | cases h
 .unfold opBin at h ⊢;split at h
  .exact pr h
  .cases h
 .unfold opUn at h ⊢;split at h
  .exact pr h
  .cases h
 .unfold opConvert at h ⊢;split at h
  .rename_i H1 x;split at h
   .rename_i v H' hc;injection h with h;subst h;unfold convL at hc;simp only at hk ⊢;split at hc
    .rename_i hu;split at hc
     .rename_i hu';split at hc
      .injection hc with hc;injection hc with h1 h2;subst h1;subst h2;exact ⟨rfl,fun H2 _=>by simp only [convL,hu,hu']⟩
      .cases hc
     .cases hc
    .rename_i hu;split at hc
     .rename_i hu';split at hc
      .injection hc with hc;injection hc with h1 h2;subst h1;subst h2;exact ⟨rfl,fun H2 _=>by simp only [convL,hu,hu']⟩
      .cases hc
     .split at hc
      .split at hc
       .injection hc with hc;injection hc with h1 h2;subst h1;exact absurd rfl hk
       .cases hc
      .cases hc
     .cases hc
    .rename_i hu;split at hc
     .rename_i hu';split at hc
      .rename_i he;obtain ⟨ht,rfl⟩:=yfc0 hc;refine ⟨rfl,fun H2 ha=>?_⟩
       have:ymn0 H2 x=some v:=by
        rw [<- ht];unfold ymn0 at ht ⊢;split at ht
        .rfl
        .rfl
        .rename_i i o n c;rw [yux0 (H:=H') (H2:=H2) (fun i' o' l' c' e=>by injection e with e1 e2 e3 e4;subst e1;exact ha i rfl)]
        .cases ht
       simp only [convL,hu,hu',he,this,withH]
      .cases hc
     .cases hc
    .cases hc
   .cases h
  .cases h
 .unfold opMakeInterface at h ⊢;split at h
  .rename_i t x H1;replace h:=yis0 h;obtain ⟨hj,h⟩:=h;split at h
   .cases h
   .rename_i d hni hu;injection h with h;subst h;refine ⟨rfl,fun H2 _=>?_⟩;simp only [hj,bc_false,hu]
   .cases h
  .cases h
 .split at h
  .unfold yfg0 at h ⊢;replace h:=ybx0 h;obtain ⟨hj,h⟩:=h;injection h with h;subst h;exact ⟨rfl,fun H2 _=>by simp only [hj,bc_true]⟩
  .cases h
 .unfold yik0 at h;split at h
  .injection h with h;subst h;exact absurd rfl hk
  .cases h
 .unfold opMakeSlice at h;split at h
  .exact (yme0 h hk).elim
  .cases h
 .unfold opSlice at h ⊢;split at h
  .rename_i x xs' H1;split at h
   .rename_i l hh m h3;split at h
    .rename_i v H' hs;injection h with h;subst h;simp only at hk ⊢;obtain ⟨h1,h2⟩:=ybg1 hs hk;exact ⟨h1,fun H2 ha=>by simp only [h3,h2 H2 ha]⟩
    .cases h
   .cases h
  .cases h
 .unfold opFieldAddr at h ⊢;split at h
  .exact pr h
  .cases h
 .unfold opField at h ⊢;split at h
  .exact pr h
  .cases h
 .unfold opIndexAddr at h ⊢;split at h
  .exact pr h
  .cases h
 .unfold opIndex at h ⊢;split at h
  .exact pr h
  .cases h
 .unfold opLookup at h ⊢;split at h
  .rename_i H1 m k;obtain ⟨v,kd,hv,rfl⟩:=yuh0 h;refine ⟨rfl,fun H2 ha=>?_⟩
   have hm:yon0 H2 m=yon0 H m:=by
    cases m <;> first
     | rfl
     | (rename_i i
        simp only [yon0];rw [hv] at h;simp only [loadR] at h;injection h with h;injection h with h1 h2 h3
        rw [ha i h3.symm])
   have hm2:ycj0 H2 m=ycj0 H m:=by
    cases m <;> first
     | rfl
     | (rename_i i
        simp only [ycj0];rw [hv] at h;simp only [loadR] at h;injection h with h;injection h with h1 h2 h3
        rw [ha i h3.symm])
   have this:∀ t ok,lookupL P t m k ok H2=lookupL P t m k ok H:=fun t ok=>by unfold lookupL lookupL0;rw [hm,hm2]
   rw [this,hv];rw [hv] at h;simp only [loadR] at h ⊢;injection h with h;injection h with h1 h2 h3;rw [h3]
  .cases h
 .unfold opUpdate at h;split at h
  .split at h
   .injection h with h;subst h;exact absurd rfl hk
   .cases h
  .cases h
 .unfold opUpdate at h;split at h
  .split at h
   .injection h with h;subst h;exact absurd rfl hk
   .cases h
  .cases h
 .unfold opArrPtr at h ⊢;split at h
  .exact pr h
  .cases h
 .unfold yqi0 at h ⊢;split at h
  .exact pr h
  .cases h
 .unfold opRange at h;split at h
  .split at h
   .split at h
    .replace h:=(yaa0 h).2;injection h with h;subst h;exact absurd rfl hk
    .cases h
   .cases h
  .cases h
 .obtain ⟨_,_,_,_,_,_,_,_,_,_,_,_,rfl⟩:=yoj0 h;exact absurd rfl hk
 .rename_i c;cases hb:c.callee with
  | value f=>simp only [hb] at h;cases h
  | invoke a b=>simp only [hb] at h;cases h
  | builtin b =>
   simp only [hb] at h ⊢
   have key:b=.len\/b=.append\/b=.copy\/b=.clear\/b=.min\/b=.max\/opBuiltin P c b=yge0:=by
    cases b <;> first
     | exact .inl rfl
     | exact .inr (.inl rfl)
     | exact .inr (.inr (.inl rfl))
     | exact .inr (.inr (.inr (.inl rfl)))
     | exact .inr (.inr (.inr (.inr (.inl rfl))))
     | exact .inr (.inr (.inr (.inr (.inr (.inl rfl)))))
     | exact .inr (.inr (.inr (.inr (.inr (.inr rfl)))))
   rcases key with rfl | rfl | rfl | rfl | rfl | rfl | hn
   .unfold opBuiltin at h ⊢;dsimp only at h ⊢;cases h0:c.argTypes[0]? with
    | none=>simp only [h0] at h;cases h
    | some t =>
     simp only [h0] at h ⊢;unfold opLen at h ⊢;split at h
     .rename_i H1 x;split at h
      .rename_i hu;split at h
       .injection h with h;subst h;exact ⟨rfl,fun H2 _=>by simp only [hu]⟩
       .cases h
      .rename_i hu;split at h
       .rename_i n hn;split at h
        .cases h
        .rename_i hns;injection h with h;subst h;refine ⟨rfl,fun H2 _=>?_⟩;simp only [hu,hn]
       .cases h
      .rename_i hu;injection h with h;subst h;exact ⟨rfl,fun H2 _=>by simp only [hu]⟩
      .rename_i hu;split at h
       .injection h with h;subst h;exact ⟨rfl,fun H2 _=>by simp only [hu]⟩
       .rename_i i;split at h
        .rename_i es clock hg;injection h with h;subst h;refine ⟨rfl,fun H2 ha=>?_⟩;have:=ha i rfl;simp only [hu,this,hg]
        .cases h
       .cases h
      .cases h
     .cases h
   .unfold opBuiltin at h ⊢;dsimp only at h ⊢;cases h0:c.argTypes[0]? with
    | none=>simp only [h0] at h;cases h
    | some t =>
     cases h1:c.argTypes[1]? with
     | none=>simp only [h0,h1] at h;cases h
     | some xt =>
      simp only [h0,h1] at h;unfold opAppend at h;split at h
      .exact (yme0 h hk).elim
      .cases h
   .unfold opBuiltin at h ⊢;dsimp only at h ⊢;cases h0:c.argTypes[0]? with
    | none=>simp only [h0] at h;cases h
    | some t =>
     simp only [h0] at h;unfold opCopy at h;split at h
     .exact (yme0 h hk).elim
     .cases h
   .unfold opBuiltin at h ⊢;dsimp only at h ⊢;cases h0:c.argTypes[0]? with
    | none=>simp only [h0] at h;cases h
    | some t =>
     simp only [h0] at h;unfold opClear at h;split at h
     .exact (yme0 h hk).elim
     .cases h
   .unfold opBuiltin opMin at h ⊢;dsimp only at h ⊢;split at h
    .split at h
     .rename_i e;injection h with h;subst h;exact ⟨rfl,fun H2 _=>by simp only [e,if_true]⟩
     .cases h
    .cases h
   .unfold opBuiltin opMax at h ⊢;dsimp only at h ⊢;split at h
    .split at h
     .rename_i e;injection h with h;subst h;exact ⟨rfl,fun H2 _=>by simp only [e,if_true]⟩
     .cases h
    .cases h
   .rw [hn] at h;cases h
 .cases h
end Go.Proofs.YtnpbgnjiihecgaaGreat.Ev
namespace Go.Proofs.YtnpbgnjiihecgaaGreat.Ev
open Go
variable {P:Program}
theorem yti0 (hg:Good P) {call:CallF} (hcall:ylc0 P call) {o:Oper} {f:Fr} {H:Heap} {s s' : S} {e:OpEnd} {H' : Heap} (h:doOp P call o.op (f.evs (opds o.op)) H s=.ok (e,H') s') (hob:s'.ob) :
  s.ob/\H.Le H'/\yiq0 P o f H e H':=yvj1 hg hcall h hob fun _ hr=>ymu2 hr
def RegT (P:Program) (ops:Array Oper) (l:List Nat) (f:Fr) (H:Heap) (x:LX) (f' : Fr) (H' : Heap):Prop :=
 ∀ (J:Nat->RB) (w:World) (b:Frame) (tmps:Array Value) (ds:List Deferred) (k:List Item) (cs:List Frame),Sat J H w->FRel J H.n f b tmps ds ->
  ∃ J' w' tmps' ds',Moved J H w J' H' w'/\FRel J' H'.n f' b tmps' ds'/\ltX H'.n x/\Ends P (lone (yga0 b tmps ds (.inRegion ops l::k)) cs w) b k cs J' tmps' ds' w' x
theorem Ends.of_steps {m m1:Machine} {b:Frame} {k:List Item} {cs:List Frame} {J:Nat->RB} {tmps:Array Value} {ds:List Deferred} {w:World} {x:LX} (h:Steps P m m1) (h' : Ends P m1 b k cs J tmps ds w x):Ends P m b k cs J tmps ds w x:=by
 cases x with
 | normal=>exact h.trans h'
 | exit id=>obtain ⟨k',e,hs⟩:=h';exact ⟨k',e,h.trans hs⟩
 | ret=>obtain ⟨k',hs⟩:=h';exact ⟨k',h.trans hs⟩
 | pan v=>obtain ⟨k',hs⟩:=h';exact ⟨k',h.trans hs⟩
theorem yyl0 (hg:Good P) {call:CallF} (hcall:ylc0 P call) (ops:Array Oper):∀ (l:List Oper) (i:Nat),ops.toList.drop i=l->∀ (f:Fr) (H:Heap) (s:S) (x:LX) (f' : Fr) (H' : Heap) (s' : S),
  evOps P call ops.toList l f H s=.ok (x,f',H') s'->s'.ob->s.ob/\H.Le H'/\RegT P ops (List.range' i l.length) f H x f' H'
 | [],i,_,f,H,s,x,f',H',s',h,hob=>by
  injection h with h1 h2;injection h1 with h1 h3;injection h3 with h3 h4;subst h1;subst h2;subst h3;subst h4;refine ⟨hob,Heap.Le.refl _,fun J w b tmps ds k cs hs hf=>⟨J,w,tmps,ds,Moved.refl hs,hf,trivial,?_⟩⟩;exact .one yro0
 | o::l,i,hd,f,H,s,x,f',H',s',h,hob=>by
  have ho:ops[i]?=some o:=by
   have:(ops.toList.drop i)[0]?=some o:=by rw [hd];rfl
   rw [List.getElem?_drop] at this;simpa using this
  have hd' : ops.toList.drop (i+1)=l:=by
   rw [<- List.tail_drop,hd];rfl
  change (wanted ops.toList o f s).bnd _=_ at h;obtain ⟨⟨t,f1⟩,s1,hw,h⟩:=yag0 h;simp only at h;rw [List.length_cons,List.range'_succ];rcases bcR h with ⟨ht,h⟩ | ⟨ht,h⟩
  .obtain ⟨⟨e,H1⟩,s2,hop,h⟩:=yag0 h;simp only at h;cases e with
   | pan v =>
    simp only [behind] at h;injection h with h1 h2;injection h1 with h1 h3;injection h3 with h3 h4;subst h1;subst h2;subst h3;subst h4;obtain ⟨hs1,hle,hdoes⟩:=yti0 hg hcall hop hob;obtain ⟨hs0,hwant⟩:=yjf0 hw hs1;refine ⟨hs0,hle,fun J w b tmps ds k cs hs hf=>?_⟩;obtain ⟨hwt,hf1⟩:=hwant hf;obtain ⟨J',w',hm,hl,hst⟩:=hdoes J w b tmps ds ops i (List.range' (i+1) l.length) k cs hs hf1 ho (hwt.trans ht);exact ⟨J',w',tmps,ds,hm,hf1.ext hm.ext hm.more,hl,_,hst⟩
   | val v kd =>
    simp only [behind] at h;obtain ⟨f2,hput,h⟩:=yxc1 h;obtain ⟨hs2,hle2,hrest⟩:=yyl0 hg hcall ops l (i+1) hd' f2 H1 s2 x f' H' s' h hob;obtain ⟨hs1,hle,hdoes⟩:=yti0 hg hcall hop hs2;obtain ⟨hs0,hwant⟩:=yjf0 hw hs1;refine ⟨hs0,hle.trans hle2,fun J w b tmps ds k cs hs hf=>?_⟩;obtain ⟨hwt,hf1⟩:=hwant hf;obtain ⟨J1,w1,hm,hl,v',hv,hst⟩:=hdoes J w b tmps ds ops i (List.range' (i+1) l.length) k cs hs hf1 ho (hwt.trans ht);have hf2:=(hf1.ext hm.ext hm.more).put hput hv hl;obtain ⟨J',w',tmps',ds',hm',hf',hlx,he⟩:=hrest J1 w1 b _ ds k cs hm.sat hf2;exact ⟨J',w',tmps',ds',hm.trans hm',hf',hlx,he.of_steps hst⟩
  .obtain ⟨f2,hput,h⟩:=yxc1 h;obtain ⟨hs2,hle2,hrest⟩:=yyl0 hg hcall ops l (i+1) hd' f2 H s1 x f' H' s' h hob;obtain ⟨hs0,hwant⟩:=yjf0 hw hs2;refine ⟨hs0,hle2,fun J w b tmps ds k cs hs hf=>?_⟩;obtain ⟨hwt,hf1⟩:=hwant hf;have hf2:=hf1.put (v':=undef) hput (.inr rfl) ⟨⟩;obtain ⟨J',w',tmps',ds',hm',hf',hlx,he⟩:=hrest J w b _ ds k cs hs hf2;exact ⟨J',w',tmps',ds',hm',hf',hlx,he.of_steps (.one (yvc1 ho (hwt.trans ht)))⟩
end Go.Proofs.YtnpbgnjiihecgaaGreat.Ev
