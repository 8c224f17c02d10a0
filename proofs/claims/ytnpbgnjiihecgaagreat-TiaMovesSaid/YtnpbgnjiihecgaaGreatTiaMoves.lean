/- The law TiaMoves returns true: a strobe of HMOVE ahead of any clock of a line puts each thing ahead of where it would be by what the table tells for that clock and its nibble; its conditions: none. -/
import Derived.Test.YtnpbgnjiihecgaaGreatRows
import Derived.Test.YtnpbgnjiihecgaaGreatPkD
import Derived.Test.YtnpbgnjiihecgaaGreatArg
import Derived.Lib.SmallJoins
namespace Go.Proofs.YtnpbgnjiihecgaaGreat
open Go.ChangeShapes Go.ChangeAt Go.RowKit Go.Joins Go.WideShapes Go.Deep
theorem Tryz.own:ownKnob Tryz.prog.godebug=none:=by kernel_rfl
theorem Tryz.laidOut:laidOutB Tryz.prog=true:=by kernel_rfl
theorem cells_1:Tryz.prog.cellsOf 3=1:=by kernel_rfl
theorem cells_2:Tryz.prog.cellsOf 62=1:=by kernel_rfl
theorem cells_3:Tryz.prog.cellsOf 5=1:=by kernel_rfl
theorem cells_4:Tryz.prog.cellsOf 64=5:=by kernel_rfl
theorem len_5 {Z:Type} {l:List Z} (h:l.length=5):∃ c0 c1 c2 c3 c4,l=[c0,c1,c2,c3,c4]:=by
 match l,h with
 | [c0,c1,c2,c3,c4],_=>exact ⟨_,_,_,_,_,rfl⟩
theorem open_0 {H:Type} {enc:TypeId × Value->H} {w:World} {spare:Nat->Bool} {held:Bool} (n:Nat) (cs:List Value) (x:DataW H × List MemPlace) (h:DataW.trod enc Tryz.prog w 0 spare held n 64 cs=some x):∃ a:Ev.S.Act21,((0<=a.steps/\a.steps<=65535)/\0<=a.v/\a.v<=255)/\cs=Ev.decs (fun _=>Ev.rb0) (Ev.flatF Ev.S.yja1 (Ev.S.yid1 a)):=by
 obtain ⟨xs,m,rfl,_,hl,hxs,hf⟩:=DataW.trod_struct Tryz.underlying64 h
 rw [cells_4] at hl
 obtain ⟨c0,c1,c2,c3,c4,rfl⟩:=len_5 hl
 simp only [List.size_toArray,List.length_cons,List.length_nil] at hxs
 have f0:DataW.trod enc Tryz.prog w 0 spare held m 3 (([c0,c1,c2,c3,c4].drop 0).take (Tryz.prog.cellsOf 3))=xs[0]?:=hf 0 _ rfl
 rw [List.getElem?_eq_getElem (by omega)] at f0
 simp only [cells_1,List.drop,List.take] at f0
 obtain ⟨k0,e0,_,wk0⟩:=DataW.trod_int Tryz.underlying3 f0
 have f1:DataW.trod enc Tryz.prog w 0 spare held m 62 (([c0,c1,c2,c3,c4].drop 1).take (Tryz.prog.cellsOf 62))=xs[1]?:=hf 1 _ rfl
 rw [List.getElem?_eq_getElem (by omega)] at f1
 simp only [cells_2,List.drop,List.take] at f1
 obtain ⟨k1,e1,_,wk1⟩:=DataW.trod_int Tryz.underlying62 f1
 have f2:DataW.trod enc Tryz.prog w 0 spare held m 62 (([c0,c1,c2,c3,c4].drop 2).take (Tryz.prog.cellsOf 62))=xs[2]?:=hf 2 _ rfl
 rw [List.getElem?_eq_getElem (by omega)] at f2
 simp only [cells_2,List.drop,List.take] at f2
 obtain ⟨k2,e2,_,wk2⟩:=DataW.trod_int Tryz.underlying62 f2
 have f3:DataW.trod enc Tryz.prog w 0 spare held m 5 (([c0,c1,c2,c3,c4].drop 3).take (Tryz.prog.cellsOf 5))=xs[3]?:=hf 3 _ rfl
 rw [List.getElem?_eq_getElem (by omega)] at f3
 simp only [cells_3,List.drop,List.take] at f3
 obtain ⟨k3,e3,_,wk3⟩:=DataW.trod_int Tryz.underlying5 f3
 have f4:DataW.trod enc Tryz.prog w 0 spare held m 3 (([c0,c1,c2,c3,c4].drop 4).take (Tryz.prog.cellsOf 3))=xs[4]?:=hf 4 _ rfl
 rw [List.getElem?_eq_getElem (by omega)] at f4
 simp only [cells_1,List.drop,List.take] at f4
 obtain ⟨k4,e4,_,wk4⟩:=DataW.trod_int Tryz.underlying3 f4
 injection e0 with e0
 subst e0
 injection e1 with e1
 subst e1
 injection e2 with e2
 subst e2
 injection e3 with e3
 subst e3
 injection e4 with e4
 subst e4
 simp [Lit.wf,IntKind.min,IntKind.max,IntKind.signed,IntKind.bits] at wk1
 simp [Lit.wf,IntKind.min,IntKind.max,IntKind.signed,IntKind.bits] at wk2
 simp [Lit.wf,IntKind.min,IntKind.max,IntKind.signed,IntKind.bits] at wk3
 exact ⟨⟨k0,k1,k2,k3,k4⟩,by simp only;omega,rfl⟩
theorem tiaMoves_callsN (W:World) (x0:Int) (hl0:0<=x0) (hu0:x0<=255) (x1:Int) (hl1:0<=x1) (hu1:x1<=255):Calls Tryz.prog 9 #[.int .u8 x0,.int .u8 x1,.slice none 0 0] W fun e W'=>e=.returned (.bool true)/\Below W.heap.size W W' :=
 Ev.yvp0 (J:=fun _=>Ev.rb0) (Ev.tm_N x0 hl0 hu0 x1 hl1 hu1) (Ev.Sat.nil _ _) ⟨trivial,trivial,trivial,trivial⟩ (fun _ hi=>absurd hi (Nat.not_lt_zero _))
theorem tiaMoves_callsE (W:World) (x0:Int) (hl0:0<=x0) (hu0:x0<=255) (x1:Int) (hl1:0<=x1) (hu1:x1<=255) (a2:Addr) (cap2:Nat):Calls Tryz.prog 9 #[.int .u8 x0,.int .u8 x1,.slice (some a2) 0 cap2] W fun e W'=>e=.returned (.bool true)/\Below W.heap.size W W' :=
 Ev.yvp0 (J:=Ev.rhoOf [⟨⟨0,0,0,a2,cap2⟩,.empty⟩]) (Ev.tm_E x0 hl0 hu0 x1 hl1 hu1) (Ev.Sat.args (w:=W) (rs:=[⟨⟨0,0,0,a2,cap2⟩,.empty⟩]) (fun r hr=>by
  simp only [List.mem_cons,List.not_mem_nil,or_false] at hr
  rcases hr with rfl
  ·exact .inl rfl
  )).1 ⟨trivial,trivial,(by show 0<1;decide),trivial⟩ (Ev.Sat.args (w:=W) (rs:=[⟨⟨0,0,0,a2,cap2⟩,.empty⟩]) (fun r hr=>by
  simp only [List.mem_cons,List.not_mem_nil,or_false] at hr
  rcases hr with rfl
  ·exact .inl rfl
  )).2
theorem tiaMoves_callsS (W:World) (x0:Int) (hl0:0<=x0) (hu0:x0<=255) (x1:Int) (hl1:0<=x1) (hu1:x1<=255) (blk2 off2 cap2:Nat) (l2:List Ev.S.Act21) (hg2:∀ a,a∈l2->(0<=a.steps/\a.steps<=65535)/\0<=a.v/\a.v<=255) (hb2:blk2<W.heap.size) (hc2:∀ j x,(Ev.flatF Ev.S.yja1 (l2.flatMap Ev.S.yid1))[j]?=some x->W.cell? ⟨blk2,off2+j,none⟩=some (Ev.dec (fun _=>Ev.rb0) x)):Calls Tryz.prog 9 #[.int .u8 x0,.int .u8 x1,.slice (some ⟨blk2,off2,none⟩) l2.length cap2] W fun e W'=>e=.returned (.bool true)/\Below W.heap.size W W' :=
 Ev.yvp0 (J:=Ev.rhoOf [⟨⟨blk2,off2,cap2,default,0⟩,.flat Ev.S.yja1 64 .ro (l2.flatMap Ev.S.yid1)⟩]) (Ev.tm_S x0 hl0 hu0 x1 hl1 hu1 l2 cap2 64 hg2) (Ev.Sat.args (w:=W) (rs:=[⟨⟨blk2,off2,cap2,default,0⟩,.flat Ev.S.yja1 64 .ro (l2.flatMap Ev.S.yid1)⟩]) (fun r hr=>by
  simp only [List.mem_cons,List.not_mem_nil,or_false] at hr
  rcases hr with rfl
  ·exact .inr ⟨_,_,_,rfl,hb2,hc2⟩
  )).1 ⟨trivial,trivial,(by show 0<1;decide),trivial⟩ (Ev.Sat.args (w:=W) (rs:=[⟨⟨blk2,off2,cap2,default,0⟩,.flat Ev.S.yja1 64 .ro (l2.flatMap Ev.S.yid1)⟩]) (fun r hr=>by
  simp only [List.mem_cons,List.not_mem_nil,or_false] at hr
  rcases hr with rfl
  ·exact .inr ⟨_,_,_,rfl,hb2,hc2⟩
  )).2
set_option maxRecDepth 100000 in
theorem tiaMoves_lifted (os:Os) (started:os.Started) (H:Type) (enc:TypeId × Value->H) :
  ReturnsInHanded {} Tryz.checked os 9 .any (Rows.tiaMovesSpec.pre6 enc Tryz.prog Tryz.f9 Rows.tiaMovesRow.domain false) (Rows.tiaMovesSpec.post enc Tryz.prog Tryz.f9 false true false false):=by
 refine returnsInHanded_of_change (C:=Tryz.checked) Tryz.own started (by kernel_rfl) Tryz.func9
  (ChangeSpec.witness6 (enc:=enc) (C:=Tryz.checked) false ⟨#[],#[.int .u8 0,.int .u8 0,.slice none 0 0],[]⟩ 8 (by kernel_rfl) (by kernel_rfl) (by kernel_rfl) (by kernel_rfl)) ?_
 intro W base args ds gs before hval0 hW hcnd _
 have hval:∀ (j:Nat) t v,Tryz.f9.params[j]?=some t->args[j]?=some v->Value.okWide Tryz.prog W .any base t v:=hval0
 have hW':=hW
 obtain ⟨p,q,hA0,hV,rfl,hfz,hnd⟩:=hW
 have hA:DataW.TrodAll enc Tryz.prog W 0 (fun _=>true) true Tryz.f9.params.toList args.toList ds p:=hA0
 rw [Tryz.params9] at hA hval
 obtain ⟨v0,v1,v2,d0,d1,d2,p0,p1,p2,rfl,rfl,rfl,h0,h1,h2⟩:=trodAll_three hA
 obtain ⟨rfl,rfl⟩:=trodVars_none hV
 obtain ⟨x0,rfl,rfl,rfl,w0⟩:=open_int Tryz.underlying5 (hval 0 5 v0 rfl rfl) h0
 simp [Lit.wf,IntKind.min,IntKind.max,IntKind.signed,IntKind.bits] at w0
 obtain ⟨x1,rfl,rfl,rfl,w1⟩:=open_int Tryz.underlying5 (hval 1 5 v1 rfl rfl) h1
 simp [Lit.wf,IntKind.min,IntKind.max,IntKind.signed,IntKind.bits] at w1
 have s2:=Ev.yhv1 (ks:=Ev.S.yja1) Ev.S.yid1 (fun a=>(0<=a.steps/\a.steps<=65535)/\0<=a.v/\a.v<=255) Tryz.underlying22 cells_4 (fun _=>rfl) (by decide) open_0 (hval 2 22 v2 rfl rfl) h2
 rcases s2 with rfl | ⟨a2,cap2,rfl⟩ | ⟨blk2,off2,cap2,l2,_,hg2,hb2,_,_,rfl,hc2⟩
 ·refine (tiaMoves_callsN W x0 (by omega) (by omega) x1 (by omega) (by omega)).mono fun e W' ⟨he,hb⟩=>⟨_,he,?_⟩
  exact Ev.ysu0 Tryz.laidOut (tb:=4) (by kernel_rfl) (by kernel_rfl) (of_decide_eq_true (by kernel_rfl)) hW' rfl rfl hb
 ·refine (tiaMoves_callsE W x0 (by omega) (by omega) x1 (by omega) (by omega) a2 cap2).mono fun e W' ⟨he,hb⟩=>⟨_,he,?_⟩
  exact Ev.ysu0 Tryz.laidOut (tb:=4) (by kernel_rfl) (by kernel_rfl) (of_decide_eq_true (by kernel_rfl)) hW' rfl rfl hb
 ·refine (tiaMoves_callsS W x0 (by omega) (by omega) x1 (by omega) (by omega) blk2 off2 cap2 l2 hg2 hb2 hc2).mono fun e W' ⟨he,hb⟩=>⟨_,he,?_⟩
  exact Ev.ysu0 Tryz.laidOut (tb:=4) (by kernel_rfl) (by kernel_rfl) (of_decide_eq_true (by kernel_rfl)) hW' rfl rfl hb
set_option maxRecDepth 100000 in
theorem tiaMoves_holds:Rows.TiaMovesSaid :=
 OpenClaim.holds_of_wide 9 Tryz.f9 rfl rfl rfl rfl rfl rfl rfl ⟨rfl,rfl,rfl,rfl,rfl⟩ rfl rfl rfl rfl rfl (by kernel_rfl) Tryz.func9 (by kernel_rfl)
  (of_decide_eq_true (by kernel_rfl)) (by unfold Func.isWrapper;first | (rw [if_pos (by decide +kernel)];kernel_rfl) | (rw [if_neg (by decide +kernel)];exact ⟨rfl,rfl⟩))
  (fun os started H enc _=>tiaMoves_lifted os started H enc)
end Go.Proofs.YtnpbgnjiihecgaaGreat
