/- From a contract to what a row asks: the law returns true, and what its arguments name is as it was. Contracts of loops. The evaluator with contracts: a call whose contract is known is not walked. The evaluator with contracts: code; loops. -/
import Derived.Test.YtnpbgnjiihecgaaGreatLh
import Derived.ProofKit
noncomputable section
namespace Go.Proofs.YtnpbgnjiihecgaaGreat.Ev
open Go Go.ChangeShapes Go.ChangeAt Go.RowKit
section
variable {H:Type} {enc:TypeId × Value->H} {P:Program}
theorem ydn0 (hl:laidOutB P=true) {W W' : World} (hb:Below W.heap.size W W'):∀ (ts:List TypeId) (vs:List Value) (ds:List (DataW H)) (ps:List MemPlace),(∀ t,t∈ts->P.readableRec t=true/\t<P.types.size) ->
  DataW.TrodAll enc P W 0 (fun _=>true) true ts vs ds ps->(∀ x,x∈ps->x.block<W.heap.size)->DataW.TrodAll enc P W' 0 (fun b=>decide (b<W.heap.size)) true ts vs ds ps
 | [],_,_,_,_,h,_=>by
  obtain ⟨rfl,rfl,rfl⟩:=trodAll_nil h;simp [DataW.TrodAll]
 | t::ts,_,_,_,ht,h,hp=>by
  obtain ⟨v,vs1,d,ds1,a,b,rfl,rfl,rfl,h1,h2⟩:=trodAll_cons h;have h3:=Below.trod hl (ht t (by simp)).1 (ht t (by simp)).2 h1 hb (fun x hx=>hp x (by simp [hx]));have h4:=ydn0 hl hb ts vs1 ds1 b (fun t' h'=>ht t' (by simp [h'])) h2 (fun x hx=>hp x (by simp [hx]));exact ⟨a,b,h3,h4,rfl⟩
theorem ymt0 (hl:laidOutB P=true) {f:Func} {s:ChangeSpec} {apart:Bool} {W W' : World} {args:Array Value} {ds gs:List (DataW H)} {before:List MemPlace} {tb:TypeId}
  (hres:f.resultTypes=#[tb]) (hb:P.underlying tb=some .bool) (hts:∀ t,t∈f.params.toList->P.readableRec t=true/\t<P.types.size)
  (hW:DataW.Whole enc P f.params.toList s.vars apart W args.toList ds gs before) (hv:s.vars=[]) (hfn:s.fn H (ds++gs)={ results:=[.lit (.bool true)],args:=ds }) (hbel:Below W.heap.size W W') :
  s.post enc P f apart true false false W args (.bool true) W':=by
 have hlt:=hW.lt;obtain ⟨p,q,hA,hV,hps,hnf,hnd⟩:=id hW;rw [hv] at hV;obtain ⟨rfl,rfl⟩:=trodVars_none hV;refine ⟨ds,[],before,[],before,[],hW,?_,?_,?_,World.keptBut_mono (fun x hx=>⟨hx,.inr (.inl hx)⟩) (hbel.frame (·∈before)),fun h=>by cases h⟩
 .rw [hfn,hres];exact trodAll_mk1 (shut_bool hb true)
 .rw [hfn];have:before=p:=by simpa using hps
  rw [this];exact ydn0 hl hbel _ _ _ _ hts hA (fun x hx=>hlt x (by rw [this];exact hx))
 .rw [hfn,hv];simp [DataW.TrodVars]
end
theorem yvo0 {P:Program} {g:FuncId} {xs:List LV} {H H' : Heap} (h:HT P g xs H (.ret (.bool true)) H') {J:Nat->RB} {W:World} (hs:Sat J H W) (hl:lts H.n xs) (hown:∀ i,i<H.n->(H.get i).owns=false) :
  Calls P g (decs J xs).toArray W fun e W'=>e=.returned (.bool true)/\Below W.heap.size W W':=by
 intro cs;obtain ⟨e,w',fr,⟨J',he,hm,_⟩,h2,h3,h4⟩:=h J W hs hl cs;refine ⟨e,w',fr,⟨he,hm.os,hm.tape,hm.output,hm.size,fun b hb=>hm.block b hb fun i hi ho=>?_⟩,h2,h3,h4⟩;rw [hown i hi] at ho;cases ho
def rb0:RB:=⟨0,0,0,default,0⟩
theorem Sat.nil (J:Nat->RB) (W:World):Sat J Heap.nil W:=⟨fun _ h=>absurd h (Nat.not_lt_zero _),fun _ h=>absurd h (Nat.not_lt_zero _),fun _ _ h=>absurd h (Nat.not_lt_zero _),fun _ h=>absurd h (Nat.not_lt_zero _)⟩
end Go.Proofs.YtnpbgnjiihecgaaGreat.Ev
namespace Go.Proofs.YtnpbgnjiihecgaaGreat.Ev
open Go
theorem yub2 {P:Program} {c:Code} (F:Nat->Fr) (G:Nat->Heap) {x:LX} {f' : Fr} {H' : Heap} (hx:x≠.normal):∀ (m i:Nat),(∀ j,i<=j->j<i+m->CT P c (F j) (G j) .normal (F (j+1)) (G (j+1)))->CT P c (F (i+m)) (G (i+m)) x f' H' ->
  ∀ (J:Nat->RB) (w:World) (b:Frame) (tmps:Array Value) (ds:List Deferred) (k:List Item) (cs:List Frame),Sat J (G i) w->FRel J (G i).n (F i) b tmps ds ->
  ∃ J' w' tmps' ds',Moved J (G i) w J' H' w'/\FRel J' H'.n f' b tmps' ds'/\ltX H'.n x/\Ends P (lone (yga0 b tmps ds (.code c::.inLoop c::k)) cs w) b k cs J' tmps' ds' w' x
 | 0,i,_,hl=>fun J w b tmps ds k cs hs hf=>by
  obtain ⟨J',w',tmps',ds',h1,h2,h3,h4⟩:=hl J w b tmps ds (.inLoop c::k) cs hs hf;exact ⟨J',w',tmps',ds',h1,h2,h3,h4.under hx fun _ _=>by rfl⟩
 | m+1,i,hr,hl=>fun J w b tmps ds k cs hs hf=>by
  obtain ⟨J1,w1,tmps1,ds1,h1,h2,_,h4⟩:=hr i (Nat.le_refl _) (by omega) J w b tmps ds (.inLoop c::k) cs hs hf;obtain ⟨J2,w2,tmps2,ds2,h5,h6,h7,h8⟩:=yub2 F G hx m (i+1) (fun j h1 h2=>hr j (by omega) (by omega)) (by rw [show i+1+m=i+(m+1) by omega];exact hl) J1 w1 b tmps1 ds1 k cs h1.sat h2;exact ⟨J2,w2,tmps2,ds2,h1.trans h5,h6,h7,h8.of_steps (Steps.trans h4 (.one ygt0))⟩
theorem CT.loop {P:Program} {c:Code} (F:Nat->Fr) (G:Nat->Heap) {x:LX} {f' : Fr} {H' : Heap} (hx:x≠.normal) (m:Nat) (hr:∀ j,j<m->CT P c (F j) (G j) .normal (F (j+1)) (G (j+1))) (hl:CT P c (F m) (G m) x f' H') :
  CT P (.loop c) (F 0) (G 0) x f' H':=by
 intro J w b tmps ds k cs hs hf;obtain ⟨J',w',tmps',ds',h1,h2,h3,h4⟩:=yub2 F G hx m 0 (fun j _ h=>hr j (by omega)) (by rw [Nat.zero_add];exact hl) J w b tmps ds k cs hs hf;exact ⟨J',w',tmps',ds',h1,h2,h3,h4.of_steps (.one ysj1)⟩
end Go.Proofs.YtnpbgnjiihecgaaGreat.Ev
namespace Go.Proofs.YtnpbgnjiihecgaaGreat.Ev
open Go
abbrev Pol:=FuncId->List LV->Heap->Option (Con × List Nat)
def you2 (P:Program) (g:FuncId) (args:List LV) (H:Heap) (s:S) (C:Con) (l:List Nat):R (LEnd × Heap) :=
 bc (hasBody P g&&Nat.beq g C.g&&C.fit l H.n) (.ok (yyt1 (C.map l H.n) C.e,H.upd (C.us l H.n) (C.ns l H.n)) ⟨s.ds,C.holds P/\yid0 (at_ l) C.xs args/\objL (at_ l) H C.os 0/\s.ob⟩) (.bad 52)
def evPF (P:Program) (pol:Pol) (lf:Nat) (call:CallF):CallF:=fun fn args H s =>
 match fn with
 | .func g=>match pol g args H with
  | some p=>you2 P g args H s p.1 p.2
  | none=>evFn P (evC P call lf) fn args H s
 | fn=>evFn P (evC P call lf) fn args H s
def evP (P:Program) (pol:Pol) (lf:Nat) (k:Nat):CallF :=
 @Nat.rec (fun _=>CallF) (fun _ _ _ _=>.bad 30) (fun _ call=>evPF P pol lf call) k
variable {P:Program}
theorem ycf2 (hg:Good P) {g:FuncId} {args:List LV} {H:Heap} {e:LEnd} {H' : Heap} (h:HT P g args H e H') (hb:hasBody P g=true) (J:Nat->RB) (w:World) (c:Frame) (cs:List Frame) (hs:Sat J H w) (hl:lts H.n args) :
  ∃ nx fr0 J' w',(invoke (.fn (decFn J (.func g)) #[]) (decs J args).toArray).run P w=.ok nx w/\ydj0 P nx=some fr0/\Moved J H w J' H' w'/\ltEnd H'.n e/\Steps P (lone fr0 (c::cs) w) (lone (yxh0 J' c e) cs w'):=by
 obtain ⟨e',w',fr,⟨J',he,hm,hle⟩,hst,hfn,hlv⟩:=h J w hs hl (c::cs);subst he;refine ⟨.enter g (decs J args).toArray,_,J',w',?_,rfl,hm,hle,?_⟩
 .simp only [invoke,decFn,Array.append_empty];exact ypj0 hg hb _ w
 .cases e with
  | ret v=>exact Steps.trans hst (.one (step_leave_returned hlv))
  | pan v=>exact Steps.trans hst (.one (step_leave_panicked hlv))
def runF (P:Program) (pol:Pol) (lf k:Nat) (g:FuncId) (args:List LV) (H:Heap) (ds:List Dir):R (LEnd × Heap):=evFn P (evC P (evP P pol lf k) lf) (.func g) args H ⟨ds,True⟩
end Go.Proofs.YtnpbgnjiihecgaaGreat.Ev
namespace Go.Proofs.YtnpbgnjiihecgaaGreat.Ev
open Go
variable {P:Program}
end Go.Proofs.YtnpbgnjiihecgaaGreat.Ev
end
