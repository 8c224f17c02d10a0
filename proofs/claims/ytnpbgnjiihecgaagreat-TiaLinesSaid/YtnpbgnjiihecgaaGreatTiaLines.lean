/- The law TiaLines returns true: of a line on which nothing is written, nor on the two ahead, each pixel is a function of the registers and the five counts, and the pairs that have met behind it are those ahead and those of its pixels; its conditions: none. -/
import Derived.Test.YtnpbgnjiihecgaaGreatRows
import Derived.Test.YtnpbgnjiihecgaaGreatPkD
import Derived.Test.YtnpbgnjiihecgaaGreatArg
import Derived.Lib.SmallJoins
namespace Go.Proofs.YtnpbgnjiihecgaaGreat
open Go.ChangeShapes Go.ChangeAt Go.RowKit Go.Joins Go.WideShapes Go.Deep
theorem Tryz.own:ownKnob Tryz.prog.godebug=none:=by kernel_rfl
theorem Tryz.laidOut:laidOutB Tryz.prog=true:=by kernel_rfl
theorem cells_1:Tryz.prog.cellsOf 3=1:=by kernel_rfl
theorem cells_2:Tryz.prog.cellsOf 62=1:=by kernel_rfl
theorem cells_3:Tryz.prog.cellsOf 5=1:=by kernel_rfl
theorem cells_4:Tryz.prog.cellsOf 64=5:=by kernel_rfl
theorem len_5 {Z:Type} {l:List Z} (h:l.length=5):∃ c0 c1 c2 c3 c4,l=[c0,c1,c2,c3,c4]:=by
 match l,h with
 | [c0,c1,c2,c3,c4],_=>exact ⟨_,_,_,_,_,rfl⟩
theorem open_0 {H:Type} {enc:TypeId × Value->H} {w:World} {spare:Nat->Bool} {held:Bool} (n:Nat) (cs:List Value) (x:DataW H × List MemPlace) (h:DataW.trod enc Tryz.prog w 0 spare held n 64 cs=some x):∃ a:Ev.S.Act21,((0<=a.steps/\a.steps<=65535)/\0<=a.v/\a.v<=255)/\cs=Ev.decs (fun _=>Ev.rb0) (Ev.flatF Ev.S.ygz0 (Ev.S.ycc1 a)):=by
 obtain ⟨xs,m,rfl,_,hl,hxs,hf⟩:=DataW.trod_struct Tryz.underlying64 h
 rw [cells_4] at hl
 obtain ⟨c0,c1,c2,c3,c4,rfl⟩:=len_5 hl
 simp only [List.size_toArray,List.length_cons,List.length_nil] at hxs
 have f0:DataW.trod enc Tryz.prog w 0 spare held m 3 (([c0,c1,c2,c3,c4].drop 0).take (Tryz.prog.cellsOf 3))=xs[0]?:=hf 0 _ rfl
 rw [List.getElem?_eq_getElem (by omega)] at f0
 simp only [cells_1,List.drop,List.take] at f0
 obtain ⟨k0,e0,_,wk0⟩:=DataW.trod_int Tryz.underlying3 f0
 have f1:DataW.trod enc Tryz.prog w 0 spare held m 62 (([c0,c1,c2,c3,c4].drop 1).take (Tryz.prog.cellsOf 62))=xs[1]?:=hf 1 _ rfl
 rw [List.getElem?_eq_getElem (by omega)] at f1
 simp only [cells_2,List.drop,List.take] at f1
 obtain ⟨k1,e1,_,wk1⟩:=DataW.trod_int Tryz.underlying62 f1
 have f2:DataW.trod enc Tryz.prog w 0 spare held m 62 (([c0,c1,c2,c3,c4].drop 2).take (Tryz.prog.cellsOf 62))=xs[2]?:=hf 2 _ rfl
 rw [List.getElem?_eq_getElem (by omega)] at f2
 simp only [cells_2,List.drop,List.take] at f2
 obtain ⟨k2,e2,_,wk2⟩:=DataW.trod_int Tryz.underlying62 f2
 have f3:DataW.trod enc Tryz.prog w 0 spare held m 5 (([c0,c1,c2,c3,c4].drop 3).take (Tryz.prog.cellsOf 5))=xs[3]?:=hf 3 _ rfl
 rw [List.getElem?_eq_getElem (by omega)] at f3
 simp only [cells_3,List.drop,List.take] at f3
 obtain ⟨k3,e3,_,wk3⟩:=DataW.trod_int Tryz.underlying5 f3
 have f4:DataW.trod enc Tryz.prog w 0 spare held m 3 (([c0,c1,c2,c3,c4].drop 4).take (Tryz.prog.cellsOf 3))=xs[4]?:=hf 4 _ rfl
 rw [List.getElem?_eq_getElem (by omega)] at f4
 simp only [cells_1,List.drop,List.take] at f4
 obtain ⟨k4,e4,_,wk4⟩:=DataW.trod_int Tryz.underlying3 f4
 injection e0 with e0
 subst e0
 injection e1 with e1
 subst e1
 injection e2 with e2
 subst e2
 injection e3 with e3
 subst e3
 injection e4 with e4
 subst e4
 simp [Lit.wf,IntKind.min,IntKind.max,IntKind.signed,IntKind.bits] at wk1
 simp [Lit.wf,IntKind.min,IntKind.max,IntKind.signed,IntKind.bits] at wk2
 simp [Lit.wf,IntKind.min,IntKind.max,IntKind.signed,IntKind.bits] at wk3
 exact ⟨⟨k0,k1,k2,k3,k4⟩,by simp only;omega,rfl⟩
theorem tiaLines_callsN (W:World) (x0:Int) (hl0:0<=x0) (hu0:x0<=255):Calls Tryz.prog 3 #[.int .u8 x0,.slice none 0 0] W fun e W'=>e=.returned (.bool true)/\Below W.heap.size W W' :=
 Ev.yvo0 (J:=fun _=>Ev.rb0) (Ev.tl_N x0 hl0 hu0) (Ev.Sat.nil _ _) ⟨trivial,trivial,trivial⟩ (fun _ hi=>absurd hi (Nat.not_lt_zero _))
theorem tiaLines_callsE (W:World) (x0:Int) (hl0:0<=x0) (hu0:x0<=255) (a1:Addr) (cap1:Nat):Calls Tryz.prog 3 #[.int .u8 x0,.slice (some a1) 0 cap1] W fun e W'=>e=.returned (.bool true)/\Below W.heap.size W W' :=
 Ev.yvo0 (J:=Ev.rhoOf [⟨⟨0,0,0,a1,cap1⟩,.empty⟩]) (Ev.tl_E x0 hl0 hu0) (Ev.Sat.args (w:=W) (rs:=[⟨⟨0,0,0,a1,cap1⟩,.empty⟩]) (fun r hr=>by
  simp only [List.mem_cons,List.not_mem_nil,or_false] at hr
  rcases hr with rfl
  ·exact .inl rfl
  )).1 ⟨trivial,(by show 0<1;decide),trivial⟩ (Ev.Sat.args (w:=W) (rs:=[⟨⟨0,0,0,a1,cap1⟩,.empty⟩]) (fun r hr=>by
  simp only [List.mem_cons,List.not_mem_nil,or_false] at hr
  rcases hr with rfl
  ·exact .inl rfl
  )).2
theorem tiaLines_callsS (W:World) (x0:Int) (hl0:0<=x0) (hu0:x0<=255) (blk1 off1 cap1:Nat) (l1:List Ev.S.Act21) (hg1:∀ a,a∈l1->(0<=a.steps/\a.steps<=65535)/\0<=a.v/\a.v<=255) (hb1:blk1<W.heap.size) (hc1:∀ j x,(Ev.flatF Ev.S.ygz0 (l1.flatMap Ev.S.ycc1))[j]?=some x->W.cell? ⟨blk1,off1+j,none⟩=some (Ev.dec (fun _=>Ev.rb0) x)):Calls Tryz.prog 3 #[.int .u8 x0,.slice (some ⟨blk1,off1,none⟩) l1.length cap1] W fun e W'=>e=.returned (.bool true)/\Below W.heap.size W W' :=
 Ev.yvo0 (J:=Ev.rhoOf [⟨⟨blk1,off1,cap1,default,0⟩,.flat Ev.S.ygz0 64 .ro (l1.flatMap Ev.S.ycc1)⟩]) (Ev.tl_S x0 hl0 hu0 l1 cap1 64 hg1) (Ev.Sat.args (w:=W) (rs:=[⟨⟨blk1,off1,cap1,default,0⟩,.flat Ev.S.ygz0 64 .ro (l1.flatMap Ev.S.ycc1)⟩]) (fun r hr=>by
  simp only [List.mem_cons,List.not_mem_nil,or_false] at hr
  rcases hr with rfl
  ·exact .inr ⟨_,_,_,rfl,hb1,hc1⟩
  )).1 ⟨trivial,(by show 0<1;decide),trivial⟩ (Ev.Sat.args (w:=W) (rs:=[⟨⟨blk1,off1,cap1,default,0⟩,.flat Ev.S.ygz0 64 .ro (l1.flatMap Ev.S.ycc1)⟩]) (fun r hr=>by
  simp only [List.mem_cons,List.not_mem_nil,or_false] at hr
  rcases hr with rfl
  ·exact .inr ⟨_,_,_,rfl,hb1,hc1⟩
  )).2
set_option maxRecDepth 100000 in
theorem tiaLines_lifted (os:Os) (started:os.Started) (H:Type) (enc:TypeId × Value->H) :
  ReturnsInHanded {} Tryz.checked os 3 .any (Rows.tiaLinesSpec.pre6 enc Tryz.prog Tryz.f3 Rows.tiaLinesRow.domain false) (Rows.tiaLinesSpec.post enc Tryz.prog Tryz.f3 false true false false):=by
 refine returnsInHanded_of_change (C:=Tryz.checked) Tryz.own started (by kernel_rfl) Tryz.func3
  (ChangeSpec.witness6 (enc:=enc) (C:=Tryz.checked) false ⟨#[],#[.int .u8 0,.slice none 0 0],[]⟩ 8 (by kernel_rfl) (by kernel_rfl) (by kernel_rfl) (by kernel_rfl)) ?_
 intro W base args ds gs before hval0 hW hcnd _
 have hval:∀ (j:Nat) t v,Tryz.f3.params[j]?=some t->args[j]?=some v->Value.okWide Tryz.prog W .any base t v:=hval0
 have hW':=hW
 obtain ⟨p,q,hA0,hV,rfl,hfz,hnd⟩:=hW
 have hA:DataW.TrodAll enc Tryz.prog W 0 (fun _=>true) true Tryz.f3.params.toList args.toList ds p:=hA0
 rw [Tryz.params3] at hA hval
 obtain ⟨v0,v1,d0,d1,p0,p1,rfl,rfl,rfl,h0,h1⟩:=trodAll_two hA
 obtain ⟨rfl,rfl⟩:=trodVars_none hV
 obtain ⟨x0,rfl,rfl,rfl,w0⟩:=open_int Tryz.underlying5 (hval 0 5 v0 rfl rfl) h0
 simp [Lit.wf,IntKind.min,IntKind.max,IntKind.signed,IntKind.bits] at w0
 have s1:=Ev.ywt1 (ks:=Ev.S.ygz0) Ev.S.ycc1 (fun a=>(0<=a.steps/\a.steps<=65535)/\0<=a.v/\a.v<=255) Tryz.underlying22 cells_4 (fun _=>rfl) (by decide) open_0 (hval 1 22 v1 rfl rfl) h1
 rcases s1 with rfl | ⟨a1,cap1,rfl⟩ | ⟨blk1,off1,cap1,l1,_,hg1,hb1,_,_,rfl,hc1⟩
 ·refine (tiaLines_callsN W x0 (by omega) (by omega)).mono fun e W' ⟨he,hb⟩=>⟨_,he,?_⟩
  exact Ev.ymt0 Tryz.laidOut (tb:=4) (by kernel_rfl) (by kernel_rfl) (of_decide_eq_true (by kernel_rfl)) hW' rfl rfl hb
 ·refine (tiaLines_callsE W x0 (by omega) (by omega) a1 cap1).mono fun e W' ⟨he,hb⟩=>⟨_,he,?_⟩
  exact Ev.ymt0 Tryz.laidOut (tb:=4) (by kernel_rfl) (by kernel_rfl) (of_decide_eq_true (by kernel_rfl)) hW' rfl rfl hb
 ·refine (tiaLines_callsS W x0 (by omega) (by omega) blk1 off1 cap1 l1 hg1 hb1 hc1).mono fun e W' ⟨he,hb⟩=>⟨_,he,?_⟩
  exact Ev.ymt0 Tryz.laidOut (tb:=4) (by kernel_rfl) (by kernel_rfl) (of_decide_eq_true (by kernel_rfl)) hW' rfl rfl hb
set_option maxRecDepth 100000 in
theorem tiaLines_holds:Rows.TiaLinesSaid :=
 OpenClaim.holds_of_wide 3 Tryz.f3 rfl rfl rfl rfl rfl rfl rfl ⟨rfl,rfl,rfl,rfl,rfl⟩ rfl rfl rfl rfl rfl (by kernel_rfl) Tryz.func3 (by kernel_rfl)
  (of_decide_eq_true (by kernel_rfl)) (by unfold Func.isWrapper;first | (rw [if_pos (by decide +kernel)];kernel_rfl) | (rw [if_neg (by decide +kernel)];exact ⟨rfl,rfl⟩))
  (fun os started H enc _=>tiaLines_lifted os started H enc)
end Go.Proofs.YtnpbgnjiihecgaaGreat
