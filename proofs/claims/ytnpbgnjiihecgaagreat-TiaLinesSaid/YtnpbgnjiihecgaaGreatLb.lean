/- Contracts over other heaps: a small heap within a great one; what is not looked at any more is left. Contracts over other heaps, proved. Contracts of code: what is not looked at any more is left; loops. Contracts that are written out, within a heap. A contract within a greater heap, when some blocks of the small one are not looked at. -/
import Derived.Test.YtnpbgnjiihecgaaGreatLa
namespace Go.Proofs.YtnpbgnjiihecgaaGreat.Ev
open Go
theorem yli1 {U:Nat->Nat} (J:Nat->RB) {f g:Fn} (h:yww0 U f g):decFn J g=decFn (J∘U) f:=by
 cases f <;> cases g <;> simp only [yww0] at h <;> first
  | (exact h.elim)
  | (rw [h];rfl)
  | (subst h;rfl)
theorem ycu1 {U:Nat->Nat} {n m:Nat} (hU:∀ i,i<n->U i<m) {f g:Fn} (h:yww0 U f g) (hl:ltFn n f):ltFn m g:=by
 cases f <;> cases g <;> simp only [yww0] at h <;> first
  | exact h.elim
  | (cases h;done)
  | (cases h;trivial)
  | (subst h;exact hU _ hl)
mutual
theorem yed0 {U:Nat->Nat} (J:Nat->RB):∀ {a b:LV},sameV U a b->dec J b=dec (J∘U) a:=by
 intro a b h
 cases a <;> cases b <;> simp only [sameV] at h <;> first
  | exact h.elim
  | rfl
  | (subst h;rfl)
  | (obtain ⟨rfl,rfl⟩:=h;rfl)
  | (obtain ⟨rfl,rfl,rfl,rfl⟩:=h;rename_i c;cases c <;> rfl)
  | (obtain ⟨h1,h2,h3⟩:=h;simp only [dec];rw [yli1 J h1,yld0 J h2,yld0 J h3])
  | (obtain ⟨h1,h2⟩:=h;subst h1;simp only [dec];rw [yed0 J h2])
  | (simp only [dec];rw [yld0 J h])
theorem yld0 {U:Nat->Nat} (J:Nat->RB):∀ {a b:List LV},yid0 U a b->decs J b=decs (J∘U) a:=by
 intro a b h;cases a <;> cases b <;> simp only [yid0] at h
 .rfl
 .simp only [decs];rw [yed0 J h.1,yld0 J h.2]
end
mutual
theorem yrh0 {U:Nat->Nat} {n m:Nat} (hU:∀ i,i<n->U i<m):∀ {a b:LV},sameV U a b->lt n a->lt m b:=by
 intro a b h hl
 cases a <;> cases b <;> simp only [sameV] at h <;> simp only [lt] at hl ⊢ <;> first
  | exact h.elim
  | (obtain ⟨rfl,_⟩:=h;exact hU _ hl)
  | (subst h;exact hU _ hl)
  | (obtain ⟨h1,h2,h3⟩:=h;exact ⟨ycu1 hU h1 hl.1,yqk0 hU h2 hl.2.1,yqk0 hU h3 hl.2.2⟩)
  | exact yrh0 hU h.2 hl
  | exact yqk0 hU h hl
theorem yqk0 {U:Nat->Nat} {n m:Nat} (hU:∀ i,i<n->U i<m):∀ {a b:List LV},yid0 U a b->lts n a->lts m b:=by
 intro a b h hl;cases a <;> cases b <;> simp only [yid0] at h
 .trivial
 .exact ⟨yrh0 hU h.1 hl.1,yqk0 hU h.2 hl.2⟩
end
theorem yhf0 {U:Nat->Nat} : ∀ {a b:List LV},yid0 U a b->a.length=b.length/\∀ (j:Nat) (x y:LV),a[j]?=some x->b[j]?=some y->sameV U x y
 | [],[],_=>⟨rfl,fun j x y h=>by simp at h⟩
 | a::as,b::bs,h=>by
  simp only [yid0] at h;obtain ⟨h1,h2⟩:=yhf0 h.2;refine ⟨by simp [h1],fun j x y hx hy=>?_⟩;cases j with
  | zero =>
   simp only [List.getElem?_cons_zero,Option.some.injEq] at hx hy;subst hx;subst hy;exact h.1
  | succ j =>
   simp only [List.getElem?_cons_succ] at hx hy;exact h2 j x y hx hy
 | [],_::_,h=>by simp [yid0] at h
 | _::_,[],h=>by simp [yid0] at h
theorem yio0 {U:Nat->Nat} (J:Nat->RB):∀ {a b:List Ent},yec0 U a b->b.map (ytd0 J)=a.map (ytd0 (J∘U)):=by
 intro a
 induction a with
 | nil=>intro b h;cases b <;> simp_all [yec0]
 | cons x xs ih =>
  intro b h;cases b with
  | nil=>simp [yec0] at h
  | cons y ys =>
   simp only [yec0] at h;simp only [List.map_cons,ih h.2.2.2]
   congr 1
   simp only [ytd0,yed0 J h.1,yed0 J h.2.1,h.2.2.1]
theorem ypf1 {U:Nat->Nat} {n m:Nat} (hU:∀ i,i<n->U i<m):∀ {a b:List Ent},yec0 U a b->(∀ e,e∈a->lt n e.key/\lt n e.val)->∀ e,e∈b->lt m e.key/\lt m e.val:=by
 intro a
 induction a with
 | nil=>intro b h;cases b <;> simp_all [yec0]
 | cons x xs ih =>
  intro b h hl e he;cases b with
  | nil=>simp [yec0] at h
  | cons y ys =>
   simp only [yec0] at h;simp only [List.mem_cons] at he;rcases he with he | he
   .subst he;exact ⟨yrh0 hU h.1 (hl x (by simp)).1,yrh0 hU h.2.1 (hl x (by simp)).2⟩
   .exact ih h.2.2.2 (fun e' h'=>hl e' (by simp [h'])) e he
theorem ywa0 {U:Nat->Nat} {a b:LObj} (h:yva0 U a b):(a.owns=true->b.owns=true)/\(a.sits=true->b.sits=true):=by
 cases a with
 | dead=>exact ⟨fun h=>by simp [LObj.owns] at h,fun h=>by simp [LObj.sits] at h⟩
 | empty=>exact ⟨fun h=>by simp [LObj.owns] at h,fun h=>by simp [LObj.sits] at h⟩
 | cells e o cs =>
  cases b <;> simp only [yva0] at h;obtain ⟨rfl,rfl,_⟩:=h;cases o <;> exact ⟨fun h=>h,fun h=>h⟩
 | flat ks e o cs =>
  cases b <;> simp only [yva0] at h
  .obtain ⟨rfl,rfl,_⟩:=h;cases o <;> exact ⟨fun h=>h,fun h=>h⟩
  .obtain ⟨rfl,rfl,_⟩:=h;cases o <;> exact ⟨fun h=>h,fun h=>h⟩
 | _ =>
  cases b <;> simp only [yva0] at h <;> first | exact ⟨fun _=>rfl,fun _=>rfl⟩ | exact ⟨fun h=>(by cases h),fun _=>rfl⟩
theorem yqz0 {U:Nat->Nat} {J:Nat->RB} {r:RB} {w:World} {ks:List CK} {e:TypeId} {o:Own} {cs:List LV} {b:LObj} (h:yva0 U (.flat ks e o cs) b) (hb:SatObj J r w b):SatObj (J∘U) r w (.flat ks e o cs):=by
 refine yol0 (J:=J) ?_;rw [ypq0];cases b <;> simp only [yva0] at h
 .obtain ⟨rfl,rfl,rfl⟩:=h;exact hb
 .obtain ⟨rfl,rfl,h⟩:=h;rw [ypq0] at hb;rw [h];exact hb
theorem yqq0 {U:Nat->Nat} {J:Nat->RB} {r:RB} {w:World} {a b:LObj} (h:yva0 U a b) (hb:SatObj J r w b):SatObj (J∘U) r w a:=by
 cases a with
 | dead=>trivial
 | cells e o cs =>
  cases b <;> simp only [yva0] at h;obtain ⟨rfl,rfl,h⟩:=h;cases o <;> simp only [SatObj] at hb ⊢
  .intro j v hv;obtain ⟨hlen,hget⟩:=yhf0 h;rename_i cs'
   obtain ⟨y,hy⟩ : ∃ y,cs'[j]?=some y:=by
    have:j<cs.length:=(List.getElem?_eq_some_iff.1 hv).1;exact ⟨cs'[j]'(by omega),by simp⟩
   rw [hb j y hy,yed0 J (hget j v y hv hy)]
  .rw [yld0 J h,<- (yhf0 h).1] at hb;exact hb
  .rw [yld0 J h,<- (yhf0 h).1] at hb;exact hb
 | map es c =>
  cases b <;> simp only [yva0] at h;obtain ⟨rfl,h⟩:=h;simp only [SatObj] at hb ⊢;rw [yio0 J h] at hb;exact hb
 | empty=>trivial
 | strIter s p =>
  cases b <;> simp only [yva0] at h;obtain ⟨rfl,rfl⟩:=h;exact hb
 | fmap es =>
  cases b <;> simp only [yva0] at h;subst h;exact hb
 | miter m c =>
  cases b <;> simp only [yva0] at h;obtain ⟨rfl,rfl⟩:=h;exact hb
 | glob g cs =>
  cases b <;> simp only [yva0] at h;obtain ⟨rfl,rfl⟩:=h;exact hb
 | loop st pe fn n t ps as bo d =>
  cases b <;> simp only [yva0] at h;obtain ⟨rfl,rfl,rfl,rfl,rfl,rfl,rfl,rfl,h⟩:=h;simp only [SatObj] at hb ⊢;obtain ⟨tm,h1,h2,h3⟩:=hb;refine ⟨tm,h1,fun i=>?_,h3⟩;rw [<- yed0 J (h i)];rcases h2 i with h2 | h2
  .left;have:=h i;rw [h2] at this;cases hx:t.get .junk i <;> rw [hx] at this <;> first | rfl | (simp [sameV] at this)
  .exact .inr h2
 | defers x =>
  cases b <;> simp only [yva0] at h;subst h;exact hb
 | flat ks e o cs=>exact yqz0 h hb
theorem ymi1 {U:Nat->Nat} {n m:Nat} (hU:∀ i,i<n->U i<m) {a b:LObj} (h:yva0 U a b) (ha:a.sits=true\/a=.empty) (hl:ltObj n a):ltObj m b:=by
 cases a <;> cases b <;> simp only [yva0] at h <;> first
  | exact h.elim
  | trivial
  | (rcases ha with ha | ha <;> cases ha;done)
  | exact yqk0 hU h.2.2 hl
  | exact ypf1 hU h.2 hl
  | (obtain ⟨_,_,rfl⟩:=h;exact ypz0 _ _ _)
  | (obtain ⟨_,_,_,_,_,_,_,rfl,h⟩:=h;exact ⟨fun i=>yrh0 hU (h i) (hl.1 i),hU _ hl.2⟩)
  | (obtain ⟨rfl,_⟩:=h;exact hU _ hl)
end Go.Proofs.YtnpbgnjiihecgaaGreat.Ev
namespace Go.Proofs.YtnpbgnjiihecgaaGreat.Ev
open Go
theorem yni1 {U:Nat->Nat} {a b:LObj} (h:eqObj U a b):yva0 U a b:=by
 cases a <;> first | trivial | exact h
theorem yjo0 {U:Nat->Nat} {b:LObj} (h:eqObj U .dead b):b=.dead:=by
 cases b <;> first | rfl | exact h.elim
theorem yoc0 {U:Nat->Nat} {a b:LObj} (h:eqObj U a b):a.owns=b.owns/\a.sits=b.sits:=by
 cases a with
 | dead=>rw [yjo0 h];exact ⟨rfl,rfl⟩
 | cells e o cs =>
  cases b <;> simp only [eqObj,yva0] at h;obtain ⟨rfl,rfl,_⟩:=h;cases o <;> exact ⟨rfl,rfl⟩
 | flat ks e o cs =>
  cases b <;> simp only [eqObj,yva0] at h
  .obtain ⟨rfl,rfl,_⟩:=h;cases o <;> exact ⟨rfl,rfl⟩
  .obtain ⟨rfl,rfl,_⟩:=h;cases o <;> exact ⟨rfl,rfl⟩
 | _=>cases b <;> simp only [eqObj,yva0] at h <;> exact ⟨rfl,rfl⟩
theorem ykc1 {U:Nat->Nat} {J:Nat->RB} {r:RB} {w:World} {a b:LObj} (h:eqObj U a b) (ha:SatObj (J∘U) r w a):SatObj J r w b:=by
 cases a with
 | dead=>rw [yjo0 h];trivial
 | cells e o cs =>
  cases b <;> simp only [eqObj,yva0] at h;obtain ⟨rfl,rfl,h⟩:=h;cases o <;> simp only [SatObj] at ha ⊢
  .intro j v hv;obtain ⟨hlen,hget⟩:=yhf0 h
   obtain ⟨y,hy⟩ : ∃ y,cs[j]?=some y:=by
    have:=(List.getElem?_eq_some_iff.1 hv).1;exact ⟨cs[j]'(by omega),by simp⟩
   rw [ha j y hy,yed0 J (hget j y v hy hv)]
  .rw [<- yld0 J h,(yhf0 h).1] at ha;exact ha
  .rw [<- yld0 J h,(yhf0 h).1] at ha;exact ha
 | map es c =>
  cases b <;> simp only [eqObj,yva0] at h;obtain ⟨rfl,h⟩:=h;simp only [SatObj] at ha ⊢;rw [<- yio0 J h] at ha;exact ha
 | empty=>cases b <;> simp only [eqObj,yva0] at h;trivial
 | strIter s p =>
  cases b <;> simp only [eqObj,yva0] at h;obtain ⟨rfl,rfl⟩:=h;exact ha
 | fmap es =>
  cases b <;> simp only [eqObj,yva0] at h;subst h;exact ha
 | miter m c =>
  cases b <;> simp only [eqObj,yva0] at h;obtain ⟨rfl,rfl⟩:=h;exact ha
 | glob g cs =>
  cases b <;> simp only [eqObj,yva0] at h;obtain ⟨rfl,rfl⟩:=h;exact ha
 | loop st pe fn n t ps as bo d =>
  cases b <;> simp only [eqObj,yva0] at h;obtain ⟨rfl,rfl,rfl,rfl,rfl,rfl,rfl,rfl,h⟩:=h;simp only [SatObj] at ha ⊢;obtain ⟨tm,h1,h2,h3⟩:=ha;refine ⟨tm,h1,fun i=>?_,h3⟩;rw [yed0 J (h i)];rcases h2 i with h2 | h2
  .left;have:=h i;rw [h2] at this;rename_i t' _;cases hx:t'.get .junk i <;> rw [hx] at this <;> first | rfl | (simp [sameV] at this)
  .exact .inr h2
 | defers x =>
  cases b <;> simp only [eqObj,yva0] at h;subst h;exact ha
 | flat ks e o cs =>
  have ha:=ypq0.1 (yol0 (J':=J) ha);cases b <;> simp only [eqObj,yva0] at h
  .obtain ⟨rfl,rfl,rfl⟩:=h;exact ha
  .obtain ⟨rfl,rfl,h⟩:=h;rw [ypq0,<- h];exact ha
theorem yoi1 {U:Nat->Nat} {n m:Nat} (hU:∀ i,i<n->U i<m) {a b:LObj} (h:eqObj U a b) (hl:ltObj n a):ltObj m b:=by
 cases a with
 | dead=>rw [yjo0 h];trivial
 | _=>exact ymi1 hU (yni1 h) (by first | exact .inl rfl | exact .inr rfl) hl
structure Within (U:Nat->Nat) (H1 H:Heap):Prop where
 inj:∀ i j,i<H1.n->j<H1.n->U i=U j->i=j
 lt:∀ i,i<H1.n->U i<H.n
 wf:∀ i,i<H1.n->ltObj H1.n (H1.get i)
 obj:∀ i,i<H1.n->yva0 U (H1.get i) (H.get (U i))
theorem Within.sat {U:Nat->Nat} {H1 H:Heap} (h:Within U H1 H) {J:Nat->RB} {w:World} (hs:Sat J H w):Sat (J∘U) H1 w where
 wf:=h.wf
 obj:=fun i hi=>yqq0 (h.obj i hi) (hs.obj _ (h.lt i hi))
 apart:=fun i j hi hj hne hio hjs=>hs.apart _ _ (h.lt i hi) (h.lt j hj) (fun e=>hne (h.inj i j hi hj e)) ((ywa0 (h.obj i hi)).1 hio) ((ywa0 (h.obj j hj)).2 hjs)
 inside:=fun i hi hsi=>hs.inside _ (h.lt i hi) ((ywa0 (h.obj i hi)).2 hsi)
theorem Moved.keep {J J' : Nat->RB} {H H' H1' : Heap} {w w' : World} (h:Moved J H w J' H' w') {U:Nat->Nat} (hw:Within U H1' H') (hn:H.n<=H1'.n) (hold:∀ i,i<H.n->U i=i):Moved J H w (J'∘U) H1' w' where
 os:=h.os
 tape:=h.tape
 output:=h.output
 size:=h.size
 block:=h.block
 owned:=fun i hi ho=>h.owned (U i) (hw.lt i hi) ((ywa0 (hw.obj i hi)).1 ho)
 sits:=fun i hi ho=>h.sits (U i) (hw.lt i hi) ((ywa0 (hw.obj i hi)).2 ho)
 more:=hn
 ext:=fun i hi=>by
  show J' (U i)=J i;rw [hold i hi];exact h.ext i hi
 sat:=hw.sat h.sat
theorem yri0 {U:Nat->Nat} (J:Nat->RB) {a b:LEnd} (h:yjk0 U a b):yml0 J b=yml0 (J∘U) a:=by
 cases a <;> cases b <;> simp only [yjk0] at h <;> simp only [yml0,yed0 J h]
theorem ydx0 {U:Nat->Nat} {n m:Nat} (hU:∀ i,i<n->U i<m) {a b:LEnd} (h:yjk0 U a b) (hl:ltEnd n a):ltEnd m b:=by
 cases a <;> cases b <;> simp only [yjk0] at h <;> exact yrh0 hU h hl
theorem HT.keep {P:Program} {g:FuncId} {xs:List LV} {H H' H1' : Heap} {e e1:LEnd} (h:HT P g xs H e H') {U:Nat->Nat} (hw:Within U H1' H') (hn:H.n<=H1'.n) (hold:∀ i,i<H.n->U i=i) (he:yjk0 U e1 e) (hl:ltEnd H1'.n e1) :
  HT P g xs H e1 H1':=by
 intro J w hs hlx cs;obtain ⟨e',w',fr,⟨J',he',hm,hle⟩,h2,h3,h4⟩:=h J w hs hlx cs;exact ⟨e',w',fr,⟨J'∘U,by rw [he',yri0 J' he],hm.keep hw hn hold,hl⟩,h2,h3,h4⟩
structure Behind (U:Nat->Nat) (H1 H1' H H' : Heap):Prop where
 n:H'.n=H.n+(H1'.n-H1.n)
 obj:∀ i,i<H1'.n->eqObj (over U H1.n H.n) (H1'.get i) (H'.get (over U H1.n H.n i))
 rest:∀ j,j<H.n->(∀ i,i<H1.n->U i≠j)->H'.get j=H.get j
theorem HT.frame {P:Program} {g:FuncId} {xs xs1:List LV} {H H' H1 H1' : Heap} {e e1:LEnd} (h:HT P g xs1 H1 e1 H1') {U:Nat->Nat} (hw:Within U H1 H) (hx:yid0 U xs1 xs) (hlx1:lts H1.n xs1) (hb:Behind U H1 H1' H H')
  (he:yjk0 (over U H1.n H.n) e1 e):HT P g xs H e H':=by
 intro J w hs hlx cs;obtain ⟨e',w',fr,⟨J1',he',hm,hle⟩,h2,h3,h4⟩:=h (J∘U) w (hw.sat hs) hlx1 cs;rw [<- yld0 J hx] at h2;have hmore:=hm.more
 -- the real blocks
 let J' : Nat->RB:=fun j=>if j<H.n then J j else J1' (H1.n+(j-H.n))
 have hlt:∀ i,i<H1'.n->over U H1.n H.n i<H'.n:=fun i hi=>by
  rw [hb.n];unfold over;split
  .have:=hw.lt i ‹_›;omega
  .omega
 have hJ:∀ i,i<H1'.n->(J'∘over U H1.n H.n) i=J1' i:=fun i hi=>by
  show J' (over U H1.n H.n i)=J1' i;unfold over;split
  .rename_i h1;have:=hw.lt i h1;simp only [J',this,if_true];exact (hm.ext i h1).symm
  .rename_i h1;simp only [J'];rw [if_neg (by omega)]
   congr 1;omega
 have hinj:∀ i j,i<H1'.n->j<H1'.n->over U H1.n H.n i=over U H1.n H.n j->i=j:=fun i j hi hj e=>by
  unfold over at e;split at e <;> split at e
  .exact hw.inj i j ‹_› ‹_› e
  .have:=hw.lt i ‹_›;omega
  .have:=hw.lt j ‹_›;omega
  .omega
 have hext:Ext H1'.n J1' (J'∘over U H1.n H.n):=fun i hi=>hJ i hi
 -- whose block is it?
 have cases_:∀ j,j<H'.n->(∃ i,i<H1'.n/\j=over U H1.n H.n i)\/(j<H.n/\(∀ i,i<H1.n->U i≠j)):=fun j hj=>by
  by_cases hjn:j<H.n
  .by_cases hex:∃ i,i<H1.n/\U i=j
   .obtain ⟨i,hi,hij⟩:=hex;exact .inl ⟨i,by omega,by unfold over;rw [if_pos hi,hij]⟩
   .exact .inr ⟨hjn,fun i hi e=>hex ⟨i,hi,e⟩⟩
  .refine .inl ⟨H1.n+(j-H.n),by rw [hb.n] at hj;omega,?_⟩;unfold over;rw [if_neg (by omega)];omega
 have hold:∀ j,j<H.n->J' j=J j:=fun j hj=>by simp only [J',hj,if_true]
 have hblk:∀ i,i<H1'.n->(J' (over U H1.n H.n i)).blk=(J1' i).blk:=fun i hi=>by rw [show J' (over U H1.n H.n i)=J1' i from hJ i hi]
 have restSame:∀ j,j<H.n->(∀ i,i<H1.n->U i≠j)->(H.get j).sits=true->w'.heap[(J j).blk]?=w.heap[(J j).blk]?:=fun j hj hn hsj =>
  hm.block _ (hs.inside j hj hsj) fun i hi hio e=>hs.apart (U i) j (hw.lt i hi) hj (hn i hi) ((ywa0 (hw.obj i hi)).1 hio) hsj e
 have hS:Sat J' H' w':=by
  refine ⟨?_,?_,?_,?_⟩
  .intro j hj;rcases cases_ j hj with ⟨i,hi,rfl⟩ | ⟨hjn,hno⟩
   .exact yoi1 hlt (hb.obj i hi) (hm.sat.wf i hi)
   .rw [hb.rest j hjn hno];exact ync0 (by rw [hb.n];omega) (hs.wf j hjn)
  .intro j hj;rcases cases_ j hj with ⟨i,hi,rfl⟩ | ⟨hjn,hno⟩
   .have:=hm.sat.obj i hi;rw [<- show J' (over U H1.n H.n i)=J1' i from hJ i hi] at this;exact ykc1 (hb.obj i hi) (this.ext hext (hm.sat.wf i hi))
   .rw [hb.rest j hjn hno,hold j hjn];exact ((hs.obj j hjn).world fun hsj=>restSame j hjn hno hsj).ext (fun k hk=>hold k hk) (hs.wf j hjn)
  .intro a b ha hb' hne hao hbs;rcases cases_ a ha with ⟨i,hi,rfl⟩ | ⟨han,hano⟩
   .rw [<- (yoc0 (hb.obj i hi)).1] at hao;rcases cases_ b hb' with ⟨j,hj,rfl⟩ | ⟨hbn,hbno⟩
    .rw [<- (yoc0 (hb.obj j hj)).2] at hbs;rw [hblk i hi,hblk j hj];exact hm.sat.apart i j hi hj (fun e=>hne (by rw [e])) hao hbs
    .rw [hb.rest b hbn hbno] at hbs;rw [hblk i hi,hold b hbn];rcases hm.owned i hi hao with h | ⟨i2,hi2,hio,he2⟩
     .have:=hs.inside b hbn hbs;omega
     .rw [he2];exact hs.apart (U i2) b (hw.lt i2 hi2) hbn (hbno i2 hi2) ((ywa0 (hw.obj i2 hi2)).1 hio) hbs
   .rw [hb.rest a han hano] at hao;rcases cases_ b hb' with ⟨j,hj,rfl⟩ | ⟨hbn,hbno⟩
    .rw [<- (yoc0 (hb.obj j hj)).2] at hbs;rw [hblk j hj,hold a han];rcases hm.sits j hj hbs with h | ⟨j2,hj2,hjs,he2⟩
     .have:=hs.inside a han (LObj.sits_of_owns hao);omega
     .rw [he2];exact hs.apart a (U j2) han (hw.lt j2 hj2) (fun e=>hano j2 hj2 e.symm) hao ((ywa0 (hw.obj j2 hj2)).2 hjs)
    .rw [hb.rest b hbn hbno] at hbs;rw [hold a han,hold b hbn];exact hs.apart a b han hbn hne hao hbs
  .intro j hj hsj;rcases cases_ j hj with ⟨i,hi,rfl⟩ | ⟨hjn,hno⟩
   .rw [<- (yoc0 (hb.obj i hi)).2] at hsj;rw [hblk i hi];exact hm.sat.inside i hi hsj
   .rw [hb.rest j hjn hno] at hsj;rw [hold j hjn];have:=hs.inside j hjn hsj;have:=hm.size;omega
 refine ⟨e',w',fr,⟨J',?_,⟨hm.os,hm.tape,hm.output,hm.size,?_,?_,?_,by rw [hb.n];omega,fun i hi=>hold i hi,hS⟩,ydx0 hlt he hle⟩,h2,h3,h4⟩
 .rw [he',yri0 J' he];cases e1 with
  | ret v=>simp only [yml0];rw [yjh0 hext v hle]
  | pan v=>simp only [yml0];rw [yjh0 hext v hle]
 .intro b hbs hno;exact hm.block b hbs fun i hi hio e=>hno (U i) (hw.lt i hi) ((ywa0 (hw.obj i hi)).1 hio) e
 .intro j hj hjo;rcases cases_ j hj with ⟨i,hi,rfl⟩ | ⟨hjn,hno⟩
  .rw [<- (yoc0 (hb.obj i hi)).1] at hjo;rw [hblk i hi];rcases hm.owned i hi hjo with h | ⟨i2,hi2,hio,he2⟩
   .exact .inl h
   .exact .inr ⟨U i2,hw.lt i2 hi2,(ywa0 (hw.obj i2 hi2)).1 hio,he2⟩
  .rw [hb.rest j hjn hno] at hjo;exact .inr ⟨j,hjn,hjo,by rw [hold j hjn]⟩
 .intro j hj hjo;rcases cases_ j hj with ⟨i,hi,rfl⟩ | ⟨hjn,hno⟩
  .rw [<- (yoc0 (hb.obj i hi)).2] at hjo;rw [hblk i hi];rcases hm.sits i hi hjo with h | ⟨i2,hi2,hio,he2⟩
   .exact .inl h
   .exact .inr ⟨U i2,hw.lt i2 hi2,(ywa0 (hw.obj i2 hi2)).2 hio,he2⟩
  .rw [hb.rest j hjn hno] at hjo;exact .inr ⟨j,hjn,hjo,by rw [hold j hjn]⟩
end Go.Proofs.YtnpbgnjiihecgaaGreat.Ev
namespace Go.Proofs.YtnpbgnjiihecgaaGreat.Ev
open Go
structure sameFr (U:Nat->Nat) (f1 f:Fr):Prop where
 n:f1.n=f.n
 fn:f1.fn=f.fn
 marks:f.marks=f1.marks.map U
 round:f.round=f1.round.map U
 get:∀ i,f1.get i=.junk\/sameV U (f1.get i) (f.get i)
structure wfFr (n:Nat) (f:Fr):Prop where
 t:∀ i,lt n (f.get i)
 marks:∀ d,d∈f.marks->d<n
 round:∀ l,f.round=some l->l<n
theorem yrq0 (J:Nat->RB) (U:Nat->Nat):∀ l:List Nat,marksOf J (l.map U)=marksOf (J∘U) l
 | []=>rfl
 | d::l=>by simp only [List.map_cons,marksOf,yrq0 J U l];rfl
theorem FRel.same {U:Nat->Nat} {J:Nat->RB} {n n1:Nat} {f f1:Fr} {b:Frame} {tmps:Array Value} {ds:List Deferred} (h:FRel J n f b tmps ds) (hs:sameFr U f1 f) (hw:wfFr n1 f1):FRel (J∘U) n1 f1 b tmps ds where
 wf:=hw.t
 marks:=hw.marks
 inRound:=hw.round
 fn:=by rw [hs.fn];exact h.fn
 size:=by rw [hs.n];exact h.size
 t:=fun i=>by
  rcases hs.get i with hj | hv
  .exact .inl hj
  .rcases h.t i with ht | ht
   .left;rw [show f.t.get .junk i=f.get i from rfl] at ht;rw [ht] at hv;show f1.get i=_;cases hx:f1.get i <;> rw [hx] at hv <;> first | rfl | (simp [sameV] at hv)
   .right;rw [ht];exact congrArg some (yed0 J hv)
 ds:=by rw [h.ds,hs.marks,yrq0]
 round:=by
  rw [h.round,hs.round];cases f1.round <;> rfl
theorem Ends.same {P:Program} {m:Machine} {b:Frame} {k:List Item} {cs:List Frame} {J:Nat->RB} {U:Nat->Nat} {tmps:Array Value} {ds:List Deferred} {w:World} {x x1:LX} (hx:sameX U x1 x) (h:Ends P m b k cs J tmps ds w x):Ends P m b k cs (J∘U) tmps ds w x1:=by
 cases x1 <;> cases x <;> simp only [sameX] at hx <;> first
  | exact hx.elim
  | exact h
  | (subst hx;exact h)
  | (obtain ⟨k',hs⟩:=h;exact ⟨k',by rw [<- yed0 J hx];exact hs⟩)
theorem CT.keep {P:Program} {c:Code} {f f' f1' : Fr} {H H' H1' : Heap} {x x1:LX} (h:CT P c f H x f' H') {U:Nat->Nat} (hw:Within U H1' H') (hn:H.n<=H1'.n) (hold:∀ i,i<H.n->U i=i)
  (hf:sameFr U f1' f') (hwf:wfFr H1'.n f1') (hx:sameX U x1 x) (hlx:ltX H1'.n x1):CT P c f H x1 f1' H1':=by
 intro J w b tmps ds k cs hs hfr;obtain ⟨J',w',tmps',ds',h1,h2,h3,h4⟩:=h J w b tmps ds k cs hs hfr;exact ⟨J'∘U,w',tmps',ds',h1.keep hw hn hold,h2.same hf hwf,hlx,h4.same hx⟩
theorem CT.more {P:Program} {c:Code} {f f1 f' : Fr} {H H1 H' : Heap} {x:LX} (h:CT P c f1 H1 x f' H') (hw:Within id H1 H) (hn:H1.n=H.n) (hf:sameFr id f1 f) (hwf:wfFr H1.n f1):CT P c f H x f' H':=by
 intro J w b tmps ds k cs hs hfr;obtain ⟨J',w',tmps',ds',h1,h2,h3,h4⟩:=h J w b tmps ds k cs (hw.sat hs) (hfr.same hf hwf);refine ⟨J',w',tmps',ds',⟨h1.os,h1.tape,h1.output,h1.size,?_,?_,?_,by rw [<- hn];exact h1.more,by rw [<- hn];exact h1.ext,h1.sat⟩,h2,h3,h4⟩
 .intro b hb hno;exact h1.block b hb fun i hi hio=>hno i (by rw [<- hn];exact hi) ((ywa0 (hw.obj i hi)).1 hio)
 .intro i hi hio;rcases h1.owned i hi hio with h | ⟨j,hj,hjo,he⟩
  .exact .inl h
  .exact .inr ⟨j,by rw [<- hn];exact hj,(ywa0 (hw.obj j hj)).1 hjo,he⟩
 .intro i hi hio;rcases h1.sits i hi hio with h | ⟨j,hj,hjo,he⟩
  .exact .inl h
  .exact .inr ⟨j,by rw [<- hn];exact hj,(ywa0 (hw.obj j hj)).2 hjo,he⟩
theorem yrz0:∀ (L:List (Nat × LV)) (j:Nat),(setL .nil L).get .junk j=.junk\/∃ p,p∈L/\p.1=j/\(setL .nil L).get .junk j=p.2
 | [],j=>.inl rfl
 | p::ps,j=>by
  simp only [setL,Tr.get_set];by_cases h:p.1=j
  .exact .inr ⟨p,by simp,h,by rw [if_pos h]⟩
  .rw [if_neg h];rcases yrz0 ps j with h1 | ⟨q,hq,h2,h3⟩
   .exact .inl h1
   .exact .inr ⟨q,by simp [hq],h2,h3⟩
theorem ygb2 {U:Nat->Nat} {f:Fr} : ∀ {L:List (Nat × LV)},frL U f L->∀ p,p∈L->sameV U p.2 (f.get p.1)
 | [],_,p,hp=>by cases hp
 | q::qs,h,p,hp=>by
  rcases List.mem_cons.1 hp with rfl | hp
  .exact h.1
  .exact ygb2 h.2 p hp
def ltL (n:Nat):List (Nat × LV)->Prop
 | []=>True
 | p::ps=>lt n p.2/\ltL n ps
theorem yhb2 {n:Nat} : ∀ {L:List (Nat × LV)},ltL n L->∀ p,p∈L->lt n p.2
 | [],_,p,hp=>by cases hp
 | q::qs,h,p,hp=>by
  rcases List.mem_cons.1 hp with rfl | hp
  .exact h.1
  .exact yhb2 h.2 p hp
theorem ydu1 {g n m:Nat} {L:List (Nat × LV)} (h:ltL m L):wfFr m (Fr.ofL g n L [] none) where
 t:=fun i=>by
  rcases yrz0 L i with h1 | ⟨p,hp,_,h2⟩
  .show lt m ((setL .nil L).get .junk i);rw [h1];trivial
  .show lt m ((setL .nil L).get .junk i);rw [h2];exact yhb2 h p hp
 marks:=by intro d hd;cases hd
 round:=by intro l hl;cases hl
theorem yns0 {U:Nat->Nat} {g n:Nat} {L:List (Nat × LV)} {f:Fr} (hn:f.n=n) (hfn:f.fn=g) (hm:f.marks=[]) (hr:f.round=none) (h:frL U f L):sameFr U (Fr.ofL g n L [] none) f where
 n:=hn.symm
 fn:=hfn.symm
 marks:=hm
 round:=hr
 get:=fun i=>by
  rcases yrz0 L i with h1 | ⟨p,hp,hi,h2⟩
  .exact .inl h1
  .right;show sameV U ((setL .nil L).get .junk i) (f.get i);rw [h2,<- hi];exact ygb2 h p hp
theorem yos0:∀ (os:List LObj) (H:Heap),(H.pushes os).n=H.n+os.length
 | [],H=>rfl
 | o::os,H=>by show ((H.push o).pushes os).n=_;rw [yos0 os,Heap.n_push];simp;omega
theorem yig0:∀ (os:List LObj) (H:Heap) (i:Nat),(H.pushes os).get i=if H.n<=i then (if h:i-H.n<os.length then os[i-H.n] else H.get i) else H.get i
 | [],H,i=>by simp [Heap.pushes]
 | o::os,H,i=>by
  show ((H.push o).pushes os).get i=_;rw [yig0 os,Heap.n_push,Heap.get_push];by_cases h1:H.n<=i
  .by_cases h2:H.n=i
   .subst h2;rw [if_neg (by omega),if_pos rfl,if_pos (Nat.le_refl _),dif_pos (by simp)];simp
   .have h3:H.n+1<=i:=by omega
    rw [if_pos h3,if_pos h1];by_cases h4:i-(H.n+1)<os.length
    .rw [dif_pos h4,dif_pos (by simp;omega)];rw [List.getElem_cons];rw [dif_neg (by omega)]
     congr 1
    .rw [dif_neg h4,dif_neg (by simp;omega)];rw [if_neg (by omega)]
  .rw [if_neg (by omega),if_neg h1,if_neg (by omega)]
theorem of_n (os:List LObj):(Heap.of os).n=os.length:=by
 have:=yos0 os Heap.nil;simpa [Heap.of,Heap.nil] using this
theorem yje0 (os:List LObj) (i:Nat) (h:i<os.length):(Heap.of os).get i=os[i]:=by
 have:=yig0 os Heap.nil i;simp only [Heap.of];rw [this];have h0:Heap.nil.n=0:=rfl;simp [h0,h]
theorem ysz0 {U:Nat->Nat} {H:Heap} : ∀ (os:List LObj) (i:Nat),objL U H os i->∀ (j:Nat) (h:j<os.length),yva0 U os[j] (H.get (U (i+j)))
 | [],_,_,j,h=>by simp at h
 | o::os,i,ho,j,h=>by
  cases j with
  | zero=>exact ho.1
  | succ j =>
   have:=ysz0 os (i+1) ho.2 j (by simpa using h);rw [show i+(j+1)=i+1+j by omega];simpa using this
def yeu1 (n:Nat):List LObj->Prop
 | []=>True
 | o::os=>ltObj n o/\yeu1 n os
theorem yex0 {n:Nat} : ∀ (os:List LObj),yeu1 n os->∀ (j:Nat) (h:j<os.length),ltObj n os[j]
 | [],_,j,h=>by simp at h
 | o::os,ho,j,h=>by
  cases j with
  | zero=>exact ho.1
  | succ j=>simpa using yex0 os ho.2 j (by simpa using h)
theorem yps0 {U:Nat->Nat} {os:List LObj} {H:Heap} (hinj:∀ i j,i<os.length->j<os.length->U i=U j->i=j) (hlt:∀ i,i<os.length->U i<H.n) (hwf:yeu1 os.length os) (hobj:objL U H os 0):Within U (Heap.of os) H where
 inj:=by rw [of_n];exact hinj
 lt:=by rw [of_n];exact hlt
 wf:=fun i hi=>by rw [of_n] at hi ⊢;rw [yje0 os i hi];exact yex0 os hwf i hi
 obj:=fun i hi=>by
  rw [of_n] at hi;rw [yje0 os i hi];have:=ysz0 os 0 hobj i hi;simpa using this
end Go.Proofs.YtnpbgnjiihecgaaGreat.Ev
namespace Go.Proofs.YtnpbgnjiihecgaaGreat.Ev
open Go
mutual
theorem yud0 (U:Nat->Nat):∀ v,sameV U v (mapV U v):=by
 intro v
 cases v <;> simp only [mapV,sameV,true_and,and_self] <;> first
  | trivial
  | exact ⟨rfl,rfl⟩
  | exact ⟨rfl,rfl,rfl,rfl⟩
  | exact yud0 U _
  | exact ysh0 U _
  | (refine ⟨?_,ysh0 U _,ysh0 U _⟩;rename_i f _ _;cases f <;> simp [mapFn,yww0])
theorem ysh0 (U:Nat->Nat):∀ l,yid0 U l (mapVs U l):=by
 intro l;cases l with
 | nil=>simp [mapVs,yid0]
 | cons v vs=>simp only [mapVs,yid0];exact ⟨yud0 U v,ysh0 U vs⟩
end
mutual
theorem yif0:∀ v,sameV id v v:=by
 intro v
 cases v <;> simp only [sameV,true_and,and_self,id_eq] <;> first
  | trivial
  | exact ⟨rfl,rfl⟩
  | exact ⟨rfl,rfl,rfl,rfl⟩
  | exact yif0 _
  | exact yke0 _
  | (refine ⟨?_,yke0 _,yke0 _⟩;rename_i f _ _;cases f <;> simp [yww0])
theorem yke0:∀ l,yid0 id l l:=by
 intro l;cases l with
 | nil=>simp [yid0]
 | cons v vs=>simp only [yid0];exact ⟨yif0 v,yke0 vs⟩
end
theorem yko0 (U:Nat->Nat):∀ l,yec0 U l (yco0 U l)
 | []=>by simp [yco0,yec0]
 | e::es=>by simp only [yco0,yec0];exact ⟨yud0 U _,yud0 U _,trivial,yko0 U es⟩
theorem ysf0:∀ l,yec0 id l l
 | []=>by simp [yec0]
 | e::es=>by simp only [yec0];exact ⟨yif0 _,yif0 _,trivial,ysf0 es⟩
theorem ytz0 (U:Nat->Nat):∀ (t:Tr LV) (i:Nat),(mapT U t).get .junk i=mapV U (t.get .junk i)
 | .nil,i=>by show LV.junk=mapV U .junk;simp only [mapV]
 | .node v l r,i=>by
  show bc (Nat.beq i 0) (mapV U v) (bc (Nat.beq (Nat.mod i 2) 1) ((mapT U l).get .junk (Nat.div i 2)) ((mapT U r).get .junk (Nat.pred (Nat.div i 2))))=mapV U (bc (Nat.beq i 0) v (bc (Nat.beq (Nat.mod i 2) 1) (l.get .junk (Nat.div i 2)) (r.get .junk (Nat.pred (Nat.div i 2)))));rw [ytz0 U l,ytz0 U r];cases Nat.beq i 0 with
  | true=>rfl
  | false=>cases Nat.beq (Nat.mod i 2) 1 <;> rfl
theorem yqs0 {n:Nat} (U:Nat->Nat) {o:LObj} (h:ymh0 n o=true):eqObj U o (ykk0 U o):=by
 cases o <;> simp only [ykk0,eqObj,yva0,true_and,and_self] <;> first
  | trivial
  | exact ysh0 U _
  | exact yko0 U _
  | exact ⟨rfl,rfl⟩
  | exact ⟨rfl,rfl,rfl⟩
  | exact fun i=>by rw [ytz0];exact yud0 U _
theorem yuz0 {n:Nat} {o:LObj} (h:ymh0 n o=true):yva0 id o o:=by
 cases o <;> simp only [yva0,true_and,and_self] <;> first
  | trivial
  | exact yke0 _
  | exact ysf0 _
  | exact ⟨rfl,rfl⟩
  | exact ⟨rfl,fun i=>yif0 _⟩
theorem ypl0 (U:Nat->Nat):∀ (os:List LObj) (i:Nat),(ylk0 U os)[i]?=(os[i]?).map (ykk0 U)
 | [],i=>by simp [ylk0]
 | o::os,0=>by simp [ylk0]
 | o::os,i+1=>by simp only [ylk0,List.getElem?_cons_succ];exact ypl0 U os i
theorem yzg0 (U:Nat->Nat):∀ (os:List LObj),(ylk0 U os).length=os.length
 | []=>rfl
 | o::os=>by simp [ylk0,yzg0 U os]
mutual
theorem yfx0 {n:Nat} : ∀ {v:LV},wfB n v=true->lt n v:=by
 intro v h
 cases v <;> simp only [wfB] at h <;> simp only [lt] <;> first
  | exact bltN.1 h
  | exact yfx0 h
  | exact yan0 h
  | (simp only [Bool.and_eq_true] at h;refine ⟨?_,yan0 h.1.2,yan0 h.2⟩;rename_i f _ _;cases f <;> first | trivial | exact bltN.1 h.1.1)
theorem yan0 {n:Nat} : ∀ {l:List LV},wfsB n l=true->lts n l:=by
 intro l h;cases l with
 | nil=>trivial
 | cons v vs=>simp only [wfsB,Bool.and_eq_true] at h;exact ⟨yfx0 h.1,yan0 h.2⟩
end
theorem ygx0 {n:Nat} : ∀ {l:List Ent},ymk0 n l=true->∀ e,e∈l->lt n e.key/\lt n e.val
 | [],_,e,he=>by cases he
 | x::xs,h,e,he=>by
  simp only [ymk0,Bool.and_eq_true] at h;rcases List.mem_cons.1 he with rfl | he
  .exact ⟨yfx0 h.1.1,yfx0 h.1.2⟩
  .exact ygx0 h.2 e he
theorem yce2 {n:Nat} : ∀ {t:Tr LV},wfT n t=true->ltT n t
 | .nil,_,i=>trivial
 | .node v l r,h,i=>by
  have h:(wfB n v&&(wfT n l&&wfT n r))=true:=h;simp only [Bool.and_eq_true] at h;show lt n (bc (Nat.beq i 0) v (bc (Nat.beq (Nat.mod i 2) 1) (l.get .junk (Nat.div i 2)) (r.get .junk (Nat.pred (Nat.div i 2)))));cases Nat.beq i 0 with
  | true=>exact yfx0 h.1
  | false=>cases Nat.beq (Nat.mod i 2) 1 with
   | true=>exact yce2 h.2.1 _
   | false=>exact yce2 h.2.2 _
theorem yrk0 {n:Nat} {o:LObj} (h:ymh0 n o=true):ltObj n o:=by
 cases o <;> simp only [ymh0] at h <;> first
  | trivial
  | exact yan0 h
  | exact ygx0 h
  | exact bltN.1 h
  | (simp only [Bool.and_eq_true] at h;exact ⟨yce2 h.1,by have:=h.2;exact Nat.lt_of_lt_of_le (Nat.lt_succ_self _) (Nat.le_of_ble_eq_true this)⟩)
theorem yjg0 {n:Nat} : ∀ {os:List LObj},yih0 n os=true->∀ (i:Nat) (o:LObj),os[i]?=some o->ymh0 n o=true
 | [],_,i,o,ho=>by simp at ho
 | x::xs,h,i,o,ho=>by
  simp only [yih0,Bool.and_eq_true] at h;cases i with
  | zero=>simp only [List.getElem?_cons_zero,Option.some.injEq] at ho;subst ho;exact h.1
  | succ i=>exact yjg0 h.2 i o (by simpa using ho)
theorem ysn0 {n:Nat} : ∀ {os:List LObj},yih0 n os=true->yeu1 n os
 | [],_=>trivial
 | x::xs,h=>by
  simp only [yih0,Bool.and_eq_true] at h;exact ⟨yrk0 h.1,ysn0 h.2⟩
theorem ylo0 {n:Nat} : ∀ {l:List (Nat × LV)},ynl0 n l=true->ltL n l
 | [],_=>trivial
 | x::xs,h=>by
  simp only [ynl0,Bool.and_eq_true] at h;exact ⟨yfx0 h.1,ylo0 h.2⟩
theorem ykg0:∀ {l:List Nat},distinct l=true->∀ i j,i<l.length->j<l.length->at_ l i=at_ l j->i=j
 | [],_,i,_,hi,_,_=>by simp at hi
 | x::xs,h,i,j,hi,hj,e=>by
  simp only [distinct,Bool.and_eq_true,List.all_eq_true,Bool.not_eq_true'] at h
  have key:∀ k,k<xs.length->at_ xs k≠x:=fun k hk e=>by
   have hm:at_ xs k∈xs:=by
    simp only [at_,List.getD_eq_getElem?_getD,List.getElem?_eq_getElem hk,Option.getD_some];exact List.getElem_mem _
   exact yxb0 (h.1 _ hm) e.symm
  cases i with
  | zero =>
   cases j with
   | zero=>rfl
   | succ j=>exact absurd (show at_ xs j=x from e.symm) (key j (by simpa using hj))
  | succ i =>
   cases j with
   | zero=>exact absurd (show at_ xs i=x from e) (key i (by simpa using hi))
   | succ j=>rw [ykg0 h.2 i j (by simpa using hi) (by simpa using hj) e]
theorem ylj0 {n:Nat} : ∀ {l:List Nat},ypd0 n l=true->∀ i,i<l.length->at_ l i<n
 | [],_,i,hi=>by simp at hi
 | x::xs,h,i,hi=>by
  simp only [ypd0,Bool.and_eq_true] at h;cases i with
  | zero=>exact bltN.1 h.1
  | succ i=>exact ylj0 h.2 i (by simpa using hi)
theorem yfu1:∀ (us:List (Nat × LObj)) (H:Heap),(H.puts us).n=H.n
 | [],H=>rfl
 | u::us,H=>by
  show (bif Nat.blt u.1 H.n then (H.put u.1 u.2).puts us else H.puts us).n=_;cases Nat.blt u.1 H.n <;> simp [yfu1 us,Heap.n_put]
theorem yth0:∀ (us:List (Nat × LObj)) (H:Heap) (j:Nat),(∀ u,u∈us->u.1≠j)->(H.puts us).get j=H.get j
 | [],H,j,_=>rfl
 | u::us,H,j,h=>by
  show (bif Nat.blt u.1 H.n then (H.put u.1 u.2).puts us else H.puts us).get j=_;have h1:=h u (by simp);have h2:∀ v,v∈us->v.1≠j:=fun v hv=>h v (by simp [hv])
  cases Nat.blt u.1 H.n
  .exact yth0 us H j h2
  .simp only [cond_true];rw [yth0 us _ j h2,Heap.get_put_other h1]
theorem ypi1:∀ (l:List Nat) (os:List LObj) (H:Heap),distinct l=true->ypd0 H.n l=true->∀ (i:Nat) (o:LObj),i<l.length->os[i]?=some o->(H.puts (l.zip os)).get (at_ l i)=o
 | [],_,_,_,_,i,_,hi,_=>by simp at hi
 | x::xs,[],_,_,_,i,_,_,ho=>by simp at ho
 | x::xs,p::ps,H,hd,hb,i,o,hi,ho=>by
  show (bif Nat.blt x H.n then (H.put x p).puts (xs.zip ps) else H.puts (xs.zip ps)).get _=_;have hb':=hb;simp only [ypd0,Bool.and_eq_true] at hb';rw [hb'.1];simp only [cond_true];have hd':=hd;simp only [distinct,Bool.and_eq_true,List.all_eq_true,Bool.not_eq_true'] at hd';cases i with
  | zero =>
   simp only [List.getElem?_cons_zero,Option.some.injEq] at ho;subst ho;show ((H.put x p).puts (xs.zip ps)).get x=p;rw [yth0 _ _ _ fun u hu=>?_,Heap.get_put_same];have:=(List.of_mem_zip (show (u.1,u.2)∈xs.zip ps from hu)).1;exact Ne.symm (yxb0 (hd'.1 _ this))
  | succ i =>
   exact ypi1 xs ps (H.put x p) hd'.2 (by rw [Heap.n_put];exact hb'.2) i o (by simpa using hi) (by simpa using ho)
theorem upd_n (H:Heap) (us:List (Nat × LObj)) (ns:List LObj):(H.upd us ns).n=H.n+ns.length:=by
 unfold Heap.upd;rw [yos0,yfu1]
theorem yqi1 (H:Heap) (us:List (Nat × LObj)) (ns:List LObj) {j:Nat} (h:j<H.n):(H.upd us ns).get j=(H.puts us).get j:=by
 unfold Heap.upd;rw [yig0,if_neg (by rw [yfu1];omega)]
theorem yib2 (H:Heap) (us:List (Nat × LObj)) (ns:List LObj) {j:Nat} (h:j<ns.length):(H.upd us ns).get (H.n+j)=ns[j]:=by
 unfold Heap.upd;rw [yig0,yfu1,if_pos (by omega),dif_pos (by omega)]
 congr 1;omega
theorem yiu2 {P:Program} {C:Con} {l:List Nat} {H:Heap} {args:List LV} (h:C.holds P) (hf:C.fit l H.n=true) (hx:yid0 (at_ l) C.xs args) (ho:objL (at_ l) H C.os 0) :
  HT P C.g args H (yyt1 (C.map l H.n) C.e) (H.upd (C.us l H.n) (C.ns l H.n)):=by
 simp only [Con.fit,Bool.and_eq_true] at hf;obtain ⟨⟨⟨⟨⟨⟨h1,h2⟩,h3⟩,h4⟩,h5⟩,h6⟩,h7⟩:=hf;have h1:=beqN h1;have h2:C.os.length<=C.os'.length:=Nat.le_of_ble_eq_true h2;have hw:Within (at_ l) (Heap.of C.os) H:=yps0 (fun i j hi hj e=>ykg0 h3 i j (by omega) (by omega) e) (fun i hi=>ylj0 h4 i (by omega)) (ysn0 h5) ho
 have hlen:(C.us l H.n).length=C.os.length:=by
  simp [Con.us,yzg0,List.length_zip];omega
 have hns:(C.ns l H.n).length=C.os'.length-C.os.length:=by simp [Con.ns,yzg0]
 refine HT.frame h hw hx (by rw [of_n];exact yan0 h6) ⟨?_,?_,?_⟩ ?_
 .rw [upd_n,of_n,of_n,hns]
 .intro i hi;rw [of_n] at hi;rw [of_n,yje0 _ i hi];have hlt:=yjg0 h7 i C.os'[i] (by simp [hi])
  have key:(H.upd (C.us l H.n) (C.ns l H.n)).get (over (at_ l) C.os.length H.n i)=ykk0 (C.map l H.n) C.os'[i]:=by
   unfold over;split
   .rename_i hlt2;rw [yqi1 _ _ _ (ylj0 h4 i (by omega))];refine ypi1 l _ H h3 h4 i _ (by omega) ?_;rw [ypl0,List.getElem?_take,if_pos hlt2,List.getElem?_eq_getElem hi];rfl
   .rename_i hge;rw [yib2 _ _ _ (by rw [hns];omega)]
    have:(C.ns l H.n)[i-C.os.length]?=some (ykk0 (C.map l H.n) C.os'[i]):=by
     rw [Con.ns,ypl0,List.getElem?_drop,show C.os.length+(i-C.os.length)=i by omega,List.getElem?_eq_getElem hi];rfl
    obtain ⟨hb,he⟩:=List.getElem?_eq_some_iff.1 this;exact he
  rw [key];exact yqs0 _ hlt
 .intro j hj hno;rw [yqi1 _ _ _ hj];refine yth0 _ _ _ fun u hu e=>?_
  have hm:=(List.of_mem_zip (show (u.1,u.2)∈l.zip _ from hu)).1;rw [e] at hm;obtain ⟨i,hi,he⟩:=List.mem_iff_getElem.1 hm;refine hno i (by rw [of_n];omega) ?_;simp [at_,List.getD_eq_getElem?_getD,hi,he]
 .rw [of_n];cases C.e with
  | ret v=>exact yud0 _ v
  | pan v=>exact yud0 _ v
theorem ysq0:∀ (os:List LObj) (i:Nat) (H:Heap),i+os.length<=H.n->∀ (j:Nat) (o:LObj),os[j]?=some o->(H.puts (ydo0 os i)).get (i+j)=o
 | [],_,_,_,j,_,ho=>by simp at ho
 | x::xs,i,H,hn,j,o,ho=>by
  show (bif Nat.blt i H.n then (H.put i x).puts (ydo0 xs (i+1)) else H.puts (ydo0 xs (i+1))).get _=_;have:Nat.blt i H.n=true:=bltN.2 (by simp at hn;omega);rw [this];simp only [cond_true];cases j with
  | zero =>
   simp only [List.getElem?_cons_zero,Option.some.injEq] at ho;subst ho;rw [yth0 _ _ _ fun u hu=>?_]
   .exact Heap.get_put_same _ _ _
   .have:∀ (l:List LObj) (k:Nat),u∈ydo0 l k->k<=u.1:=by
     intro l
     induction l with
     | nil=>intro k h;cases h
     | cons y ys ih =>
      intro k h;rcases List.mem_cons.1 h with h | h
      .subst h;exact Nat.le_refl _
      .have:=ih _ h;omega
    have:=this xs (i+1) hu;omega
  | succ j =>
   have:=ysq0 xs (i+1) (H.put i x) (by rw [Heap.n_put];simp at hn;omega) j o (by simpa using ho);rw [show i+(j+1)=i+1+j by omega];exact this
theorem yqm2 {P:Program} {c:Code} {C:LCon} {f:Fr} {H:Heap} (h:C.holds P c f.fn f.n) (hf:C.fit f H.n=true) (hL:frL id f C.L) (ho:objL id H C.os 0) :
  CT P c f H C.x (Fr.ofL f.fn f.n C.L' [] none) (H.upd (ydo0 (C.os'.take H.n) 0) (C.os'.drop H.n)):=by
 simp only [LCon.fit,Bool.and_eq_true] at hf;obtain ⟨⟨⟨⟨⟨⟨h1,h2⟩,h3⟩,h4⟩,h5⟩,h6⟩,h7⟩:=hf;have h1:=beqN h1;have h2:H.n<=C.os'.length:=Nat.le_of_ble_eq_true h2;have hm:f.marks=[]:=by cases hh:f.marks with | nil=>rfl | cons _ _=>rw [hh] at h6;cases h6
 have hr:f.round=none:=by cases hh:f.round with | none=>rfl | some _=>rw [hh] at h7;cases h7
 have hw:Within id (Heap.of C.os) H:=yps0 (fun i j _ _ e=>e) (fun i hi=>by show i<H.n;omega) (ysn0 (by rw [h1];exact h3)) ho;have hct:=CT.more h hw (by rw [of_n];exact h1) (yns0 rfl rfl hm hr hL) (ydu1 (by rw [of_n,h1];exact ylo0 h5));have hn' : (H.upd (ydo0 (C.os'.take H.n) 0) (C.os'.drop H.n)).n=C.os'.length:=by rw [upd_n];simp;omega
 have hget:∀ i (hi:i<C.os'.length),(H.upd (ydo0 (C.os'.take H.n) 0) (C.os'.drop H.n)).get i=C.os'[i]:=by
  intro i hi;by_cases hin:i<H.n
  .rw [yqi1 _ _ _ hin];have:=ysq0 (C.os'.take H.n) 0 H (by simp;omega) i C.os'[i] (by rw [List.getElem?_take,if_pos hin,List.getElem?_eq_getElem hi]);simpa using this
  .have:=yib2 H (ydo0 (C.os'.take H.n) 0) (C.os'.drop H.n) (j:=i-H.n) (by simp;omega);rw [show H.n+(i-H.n)=i by omega] at this;rw [this];simp [show H.n+(i-H.n)=i by omega]
 refine fun J w b tmps ds k cs hs hfr=>?_
 obtain ⟨J',w',tmps',ds',g1,g2,g3,g4⟩:=hct J w b tmps ds k cs hs hfr
 have hw2:Within id (H.upd (ydo0 (C.os'.take H.n) 0) (C.os'.drop H.n)) (Heap.of C.os'):=by
  refine ⟨fun i j _ _ e=>e,fun i hi=>by rw [hn'] at hi;rw [of_n];exact hi,fun i hi=>?_,fun i hi=>?_⟩
  .rw [hn'] at hi ⊢;rw [hget i hi];exact yrk0 (yjg0 h4 i _ (by simp [hi]))
  .rw [hn'] at hi;rw [hget i hi];show yva0 id C.os'[i] ((Heap.of C.os').get i);rw [yje0 _ i hi];exact yuz0 (yjg0 h4 i _ (by simp [hi]))
 refine ⟨J',w',tmps',ds',g1.keep hw2 (by rw [hn'];exact h2) (fun _ _=>rfl),?_,?_,g4⟩
 .rw [hn',<- of_n];exact g2
 .rw [hn',<- of_n];exact g3
end Go.Proofs.YtnpbgnjiihecgaaGreat.Ev
namespace Go.Proofs.YtnpbgnjiihecgaaGreat.Ev
open Go
def Blind (H1 H1' : Heap) (i:Nat):Prop:=i<H1.n/\H1.get i=.dead/\H1'.get i=.dead
structure Behind2 (U:Nat->Nat) (H1 H1' H H' : Heap):Prop where
 n:H'.n=H.n+(H1'.n-H1.n)
 obj:∀ i,i<H1'.n->¬ Blind H1 H1' i->eqObj (over U H1.n H.n) (H1'.get i) (H'.get (over U H1.n H.n i))
 rest:∀ j,j<H.n->(∀ i,i<H1.n->U i=j->Blind H1 H1' i)->H'.get j=H.get j
theorem Blind.owns {H1 H1' : Heap} {i:Nat} (h:Blind H1 H1' i):(H1.get i).owns=false/\(H1.get i).sits=false:=by rw [h.2.1];exact ⟨rfl,rfl⟩
theorem yri1 {U:Nat->Nat} {H1 H1' H H' : Heap} (hlt:∀ i,i<H1.n->U i<H.n) (hn:H'.n=H.n+(H1'.n-H1.n)):∀ i,i<H1'.n->over U H1.n H.n i<H'.n:=fun i hi=>by
 rw [hn];unfold over;split
 .have:=hlt i ‹_›;omega
 .omega
theorem Moved.frame {J:Nat->RB} {w w' : World} {U:Nat->Nat} {H H' H1 H1' : Heap} {J1' : Nat->RB} (hw:Within U H1 H) (hb:Behind2 U H1 H1' H H') (hs:Sat J H w) (hm:Moved (J∘U) H1 w J1' H1' w') :
  ∃ J',Moved J H w J' H' w'/\∀ i,i<H1'.n->(J'∘over U H1.n H.n) i=J1' i:=by
 have hmore:=hm.more
 let J' : Nat->RB:=fun j=>if j<H.n then J j else J1' (H1.n+(j-H.n))
 have hlt:=yri1 (H1':=H1') hw.lt hb.n
 have hJ:∀ i,i<H1'.n->(J'∘over U H1.n H.n) i=J1' i:=fun i hi=>by
  show J' (over U H1.n H.n i)=J1' i;unfold over;split
  .rename_i h1;have:=hw.lt i h1;simp only [J',this,if_true];exact (hm.ext i h1).symm
  .rename_i h1;simp only [J'];rw [if_neg (by omega)]
   congr 1;omega
 have hext:Ext H1'.n J1' (J'∘over U H1.n H.n):=fun i hi=>hJ i hi
 have cases_:∀ j,j<H'.n->(∃ i,i<H1'.n/\¬ Blind H1 H1' i/\j=over U H1.n H.n i)\/(j<H.n/\(∀ i,i<H1.n->U i=j->Blind H1 H1' i)):=fun j hj=>by
  by_cases hjn:j<H.n
  .by_cases hex:∃ i,i<H1.n/\U i=j/\¬ Blind H1 H1' i
   .obtain ⟨i,hi,hij,hbl⟩:=hex;exact .inl ⟨i,by omega,hbl,by unfold over;rw [if_pos hi,hij]⟩
   .refine .inr ⟨hjn,fun i hi e=>?_⟩;by_cases hbl:Blind H1 H1' i
    .exact hbl
    .exact absurd ⟨i,hi,e,hbl⟩ hex
  .refine .inl ⟨H1.n+(j-H.n),by rw [hb.n] at hj;omega,fun h=>by have:=h.1;omega,?_⟩;unfold over;rw [if_neg (by omega)];omega
 have hold:∀ j,j<H.n->J' j=J j:=fun j hj=>by simp only [J',hj,if_true]
 have hblk:∀ i,i<H1'.n->(J' (over U H1.n H.n i)).blk=(J1' i).blk:=fun i hi=>by rw [show J' (over U H1.n H.n i)=J1' i from hJ i hi]
 have noOwn:∀ {j:Nat},(∀ i,i<H1.n->U i=j->Blind H1 H1' i)->∀ i,i<H1.n->(H1.get i).owns=true->U i≠j:=fun hno i hi ho e=>by
  rw [(hno i hi e).owns.1] at ho;cases ho
 have noSit:∀ {j:Nat},(∀ i,i<H1.n->U i=j->Blind H1 H1' i)->∀ i,i<H1.n->(H1.get i).sits=true->U i≠j:=fun hno i hi ho e=>by
  rw [(hno i hi e).owns.2] at ho;cases ho
 have restSame:∀ j,j<H.n->(∀ i,i<H1.n->U i=j->Blind H1 H1' i)->(H.get j).sits=true->w'.heap[(J j).blk]?=w.heap[(J j).blk]?:=fun j hj hn hsj =>
  hm.block _ (hs.inside j hj hsj) fun i hi hio e=>hs.apart (U i) j (hw.lt i hi) hj (noOwn hn i hi hio) ((ywa0 (hw.obj i hi)).1 hio) hsj e
 have hS:Sat J' H' w':=by
  refine ⟨?_,?_,?_,?_⟩
  .intro j hj;rcases cases_ j hj with ⟨i,hi,hbl,rfl⟩ | ⟨hjn,hno⟩
   .exact yoi1 hlt (hb.obj i hi hbl) (hm.sat.wf i hi)
   .rw [hb.rest j hjn hno];exact ync0 (by rw [hb.n];omega) (hs.wf j hjn)
  .intro j hj;rcases cases_ j hj with ⟨i,hi,hbl,rfl⟩ | ⟨hjn,hno⟩
   .have:=hm.sat.obj i hi;rw [<- show J' (over U H1.n H.n i)=J1' i from hJ i hi] at this;exact ykc1 (hb.obj i hi hbl) (this.ext hext (hm.sat.wf i hi))
   .rw [hb.rest j hjn hno,hold j hjn];exact ((hs.obj j hjn).world fun hsj=>restSame j hjn hno hsj).ext (fun k hk=>hold k hk) (hs.wf j hjn)
  .intro a b ha hb' hne hao hbs;rcases cases_ a ha with ⟨i,hi,hbl,rfl⟩ | ⟨han,hano⟩
   .rw [<- (yoc0 (hb.obj i hi hbl)).1] at hao;rcases cases_ b hb' with ⟨j,hj,hbl2,rfl⟩ | ⟨hbn,hbno⟩
    .rw [<- (yoc0 (hb.obj j hj hbl2)).2] at hbs;rw [hblk i hi,hblk j hj];exact hm.sat.apart i j hi hj (fun e=>hne (by rw [e])) hao hbs
    .rw [hb.rest b hbn hbno] at hbs;rw [hblk i hi,hold b hbn];rcases hm.owned i hi hao with h | ⟨i2,hi2,hio,he2⟩
     .have:=hs.inside b hbn hbs;omega
     .rw [he2];exact hs.apart (U i2) b (hw.lt i2 hi2) hbn (noOwn hbno i2 hi2 hio) ((ywa0 (hw.obj i2 hi2)).1 hio) hbs
   .rw [hb.rest a han hano] at hao;rcases cases_ b hb' with ⟨j,hj,hbl2,rfl⟩ | ⟨hbn,hbno⟩
    .rw [<- (yoc0 (hb.obj j hj hbl2)).2] at hbs;rw [hblk j hj,hold a han];rcases hm.sits j hj hbs with h | ⟨j2,hj2,hjs,he2⟩
     .have:=hs.inside a han (LObj.sits_of_owns hao);omega
     .rw [he2];exact hs.apart a (U j2) han (hw.lt j2 hj2) (fun e=>noSit hano j2 hj2 hjs e.symm) hao ((ywa0 (hw.obj j2 hj2)).2 hjs)
    .rw [hb.rest b hbn hbno] at hbs;rw [hold a han,hold b hbn];exact hs.apart a b han hbn hne hao hbs
  .intro j hj hsj;rcases cases_ j hj with ⟨i,hi,hbl,rfl⟩ | ⟨hjn,hno⟩
   .rw [<- (yoc0 (hb.obj i hi hbl)).2] at hsj;rw [hblk i hi];exact hm.sat.inside i hi hsj
   .rw [hb.rest j hjn hno] at hsj;rw [hold j hjn];have:=hs.inside j hjn hsj;have:=hm.size;omega
 refine ⟨J',⟨hm.os,hm.tape,hm.output,hm.size,?_,?_,?_,by rw [hb.n];omega,fun i hi=>hold i hi,hS⟩,hJ⟩
 .intro b hbs hno;exact hm.block b hbs fun i hi hio e=>hno (U i) (hw.lt i hi) ((ywa0 (hw.obj i hi)).1 hio) e
 .intro j hj hjo;rcases cases_ j hj with ⟨i,hi,hbl,rfl⟩ | ⟨hjn,hno⟩
  .rw [<- (yoc0 (hb.obj i hi hbl)).1] at hjo;rw [hblk i hi];rcases hm.owned i hi hjo with h | ⟨i2,hi2,hio,he2⟩
   .exact .inl h
   .exact .inr ⟨U i2,hw.lt i2 hi2,(ywa0 (hw.obj i2 hi2)).1 hio,he2⟩
  .rw [hb.rest j hjn hno] at hjo;exact .inr ⟨j,hjn,hjo,by rw [hold j hjn]⟩
 .intro j hj hjo;rcases cases_ j hj with ⟨i,hi,hbl,rfl⟩ | ⟨hjn,hno⟩
  .rw [<- (yoc0 (hb.obj i hi hbl)).2] at hjo;rw [hblk i hi];rcases hm.sits i hi hjo with h | ⟨i2,hi2,hio,he2⟩
   .exact .inl h
   .exact .inr ⟨U i2,hw.lt i2 hi2,(ywa0 (hw.obj i2 hi2)).2 hio,he2⟩
  .rw [hb.rest j hjn hno] at hjo;exact .inr ⟨j,hjn,hjo,by rw [hold j hjn]⟩
theorem HT.frame2 {P:Program} {g:FuncId} {xs xs1:List LV} {H H' H1 H1' : Heap} {e e1:LEnd} (h:HT P g xs1 H1 e1 H1') {U:Nat->Nat} (hw:Within U H1 H) (hx:yid0 U xs1 xs) (hlx1:lts H1.n xs1) (hb:Behind2 U H1 H1' H H')
  (he:yjk0 (over U H1.n H.n) e1 e):HT P g xs H e H':=by
 intro J w hs hlx cs;obtain ⟨e',w',fr,⟨J1',he',hm,hle⟩,h2,h3,h4⟩:=h (J∘U) w (hw.sat hs) hlx1 cs;rw [<- yld0 J hx] at h2;obtain ⟨J',hM,hJ⟩:=Moved.frame hw hb hs hm;have hext:Ext H1'.n J1' (J'∘over U H1.n H.n):=fun i hi=>hJ i hi
 refine ⟨e',w',fr,⟨J',?_,hM,ydx0 (yri1 (H1':=H1') hw.lt hb.n) he hle⟩,h2,h3,h4⟩;rw [he',yri0 J' he];cases e1 with
 | ret v=>simp only [yml0];rw [yjh0 hext v hle]
 | pan v=>simp only [yml0];rw [yjh0 hext v hle]
theorem GT.frame {P:Program} {c:List Item->List Item} {f f1 f' f1' : Fr} {H H' H1 H1' : Heap} {x x1:LX} (h:GT P c f1 H1 x1 f1' H1') {U:Nat->Nat} (hw:Within U H1 H) (hf:sameFr U f1 f) (hwf:wfFr H1.n f1) (hb:Behind2 U H1 H1' H H')
  (hx:sameX (over U H1.n H.n) x1 x) (hlx:ltX H1'.n x1->ltX H'.n x) (hf' : ∀ i,sameV (over U H1.n H.n) (f1'.t.get .junk i) (f'.t.get .junk i)) (hn' : f'.n=f1'.n/\f'.fn=f1'.fn/\f'.marks=[]/\f1'.marks=[]/\f'.round=none/\f1'.round=none) :
  GT P c f H x f' H':=by
 intro J w b tmps ds k cs hs hfr;obtain ⟨J1',w',tmps',ds',hm,hr,hlx1,hE⟩:=h (J∘U) w b tmps ds k cs (hw.sat hs) (hfr.same hf hwf);obtain ⟨J',hM,hJ⟩:=Moved.frame hw hb hs hm;have hext:Ext H1'.n J1' (J'∘over U H1.n H.n):=fun i hi=>hJ i hi
 obtain ⟨e1,e2,e3,e4,e5,e6⟩:=hn';refine ⟨J',w',tmps',ds',hM,?_,hlx hlx1,?_⟩
 .refine ⟨fun i=>yrh0 (yri1 (H1':=H1') hw.lt hb.n) (hf' i) (hr.wf i),?_,?_,?_,?_,?_,?_,?_⟩
  .rw [e3];intro d hd;cases hd
  .rw [e5];intro l hl;cases hl
  .rw [e2];exact hr.fn
  .rw [e1];exact hr.size
  .intro i;rcases hr.t i with h | h
   .left;have:=hf' i;rw [h] at this;cases hh:f'.t.get .junk i <;> rw [hh] at this <;> simp only [sameV] at this
   .right;rw [h,yed0 J' (hf' i),yjh0 hext _ (hr.wf i)]
  .rw [e3];have:=hr.ds;rw [e4] at this;exact this
  .rw [e5];have:=hr.round;rw [e6] at this;exact this
 .cases x1 with
  | normal=>cases x <;> simp only [sameX] at hx;exact hE
  | exit id =>
   cases x <;> simp only [sameX] at hx;subst hx;exact hE
  | ret=>cases x <;> simp only [sameX] at hx;exact hE
  | pan v =>
   cases x <;> simp only [sameX] at hx;rename_i v';obtain ⟨k',hS⟩:=hE;refine ⟨k',?_⟩;rw [yed0 J' hx,yjh0 hext v hlx1];exact hS
theorem CT.gt {P:Program} {c:Code} {f f' : Fr} {H H' : Heap} {x:LX} : CT P c f H x f' H'↔GT P (fun k=>.code c::k) f H x f' H':=Iff.rfl
theorem CT.frame {P:Program} {c:Code} {f f1 f' f1' : Fr} {H H' H1 H1' : Heap} {x x1:LX} (h:CT P c f1 H1 x1 f1' H1') {U:Nat->Nat} (hw:Within U H1 H) (hf:sameFr U f1 f) (hwf:wfFr H1.n f1) (hb:Behind2 U H1 H1' H H')
  (hx:sameX (over U H1.n H.n) x1 x) (hlx:ltX H1'.n x1->ltX H'.n x) (hf' : ∀ i,sameV (over U H1.n H.n) (f1'.t.get .junk i) (f'.t.get .junk i)) (hn' : f'.n=f1'.n/\f'.fn=f1'.fn/\f'.marks=[]/\f1'.marks=[]/\f'.round=none/\f1'.round=none) :
  CT P c f H x f' H' :=
 GT.frame (c:=fun k=>.code c::k) h hw hf hwf hb hx hlx hf' hn'
end Go.Proofs.YtnpbgnjiihecgaaGreat.Ev
