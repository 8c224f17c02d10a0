/- Contracts, proved: Trd. Contracts, proved: Tww. Contracts, proved: Tqa. Contracts, proved: Tqb. Contracts, proved: Tqc. Contracts, proved: Tqd. Contracts, proved: Tqe. Contracts, proved: Tqf. -/
import Derived.Test.YtnpbgnjiihecgaaGreatPkA
import Derived.Test.YtnpbgnjiihecgaaGreatPkB
import Derived.Test.YtnpbgnjiihecgaaGreatArg
namespace Go.Proofs.YtnpbgnjiihecgaaGreat.Ev
open Go
set_option linter.unusedVariables false
set_option linter.unusedSimpArgs false
set_option maxRecDepth 100000
set_option maxHeartbeats 1000000
namespace S
theorem adf_rng (addr:Int):0≤adf addr∧adf addr < 16:=by
 unfold adf
 rw [K.andK_eq]
 have h:(BitVec.ofInt IntKind.u16.bits addr &&& BitVec.ofInt IntKind.u16.bits 15).toNat≤15:=by
  rw [BitVec.toNat_and]
  exact Nat.le_trans Nat.and_le_right (by decide)
 generalize (BitVec.ofInt IntKind.u16.bits addr &&& BitVec.ofInt IntKind.u16.bits 15).toNat=n at h
 have e:IntKind.u16.wrap (n:Int)=n:=by
  rw [← K.wrapK_eq,wrapK_u16]; omega
 rw [e,wrapK_i64]; omega
theorem u16_1 {x:Int} (h0:0≤x) (h1:x < 65536):andK .u16 x 1=x % 2:=by
 obtain ⟨n,rfl⟩:=Int.eq_ofNat_of_zero_le h0
 rw [K.andK_eq]
 have hn:n < 65536:=by omega
 have e1:BitVec.ofInt IntKind.u16.bits (n:Int)=BitVec.ofNat 16 n:=by
  apply BitVec.eq_of_toNat_eq; simp [IntKind.bits]
 have e2:BitVec.ofInt IntKind.u16.bits 1=BitVec.ofNat 16 1:=rfl
 rw [e1,e2,← K.wrapK_eq,wrapK_u16]
 have e3:(BitVec.ofNat 16 n &&& BitVec.ofNat 16 1).toNat=n % 2:=by
  rw [BitVec.toNat_and,BitVec.toNat_ofNat,BitVec.toNat_ofNat,Nat.mod_eq_of_lt (by omega:n < 2 ^ 16)]
  exact Nat.and_one_is_mod n
 have e4:((BitVec.ofNat 16 n &&& BitVec.ofNat 16 1).toNat:Int)=(n:Int) % 2:=by rw [e3]; omega
 refine (congrArg (· % 65536) e4).trans ?_
 show (n:Int) % 2 % 65536=(n:Int) % 2
 omega
theorem t_bit {met:Int} (h:inR met 65536=true) (k:Nat):andK .u16 (met.fdiv (2 ^ k)) 1=met / 2 ^ k % 2:=by
 have h1:=inR_iff.1 h
 have hp:(0:Int) < 2 ^ k:=Int.pow_pos (by decide)
 rw [fd h1.1]
 have a:=Int.ediv_nonneg h1.1 (Int.le_of_lt hp)
 have b:met / 2 ^ k≤met:=Int.ediv_le_self _ h1.1
 exact u16_1 a (by omega)
theorem t_two {a b:Int} (ha:a=0∨a=1) (hb:b=0∨b=1):wrapK .u8 (orK .u16 (wrapK .u16 (a * 2 ^ 7)) (wrapK .u16 (b * 2 ^ 6)))=128 * a + 64 * b:=by
 rcases ha with rfl | rfl <;> rcases hb with rfl | rfl <;> decide
theorem m2 (x:Int):x % 2=0∨x % 2=1:=by omega
end S
theorem fTell0_run (met:Int):K.bodyF (envL []) (K.runF (envL []) 30) 111 [.int .u16 met,.int .i64 0] (Heap.of []) Hint.auto (K.endC K.openE 0 ⟨.ret (.int .u8 (S.tell met 0)),[],[]⟩) =
  ((S.tell met (0:Int)=wrapK .u8 (orK .u16 (wrapK .u16 (andK .u16 (Int.fdiv met (2 ^ 0)) 1 * 2 ^ 7)) (wrapK .u16 (andK .u16 (Int.fdiv met (2 ^ 1)) 1 * 2 ^ 6)))∧True)):=by kernel_rfl
theorem fTell0_con (met:Int) (h0:S.inR met 65536=true)  : HTr Tryz.prog 111 [.int .u16 met,.int .i64 0] [] ⟨.ret (.int .u8 (S.tell met 0)),[],[]⟩:=by
 refine K.con_of_run good (A:=envL []) (envL_ok ?_) K.openE_ok (k:=30) (cast (fTell0_run met).symm ?_)
 ·intro p hp; cases hp
 ·have b:=S.t_bit h0
  have c1:S.tell met 0=128 * (met / 2 ^ 0 % 2) + 64 * (met / 2 ^ 1 % 2):=rfl
  simp only [b,c1]
  refine ⟨?_,trivial⟩
  exact (S.t_two (S.m2 _) (S.m2 _)).symm
theorem fTell1_run (met:Int):K.bodyF (envL []) (K.runF (envL []) 30) 111 [.int .u16 met,.int .i64 1] (Heap.of []) Hint.auto (K.endC K.openE 0 ⟨.ret (.int .u8 (S.tell met 1)),[],[]⟩) =
  ((S.tell met (1:Int)=wrapK .u8 (orK .u16 (wrapK .u16 (andK .u16 (Int.fdiv met (2 ^ 2)) 1 * 2 ^ 7)) (wrapK .u16 (andK .u16 (Int.fdiv met (2 ^ 3)) 1 * 2 ^ 6)))∧True)):=by kernel_rfl
theorem fTell1_con (met:Int) (h0:S.inR met 65536=true)  : HTr Tryz.prog 111 [.int .u16 met,.int .i64 1] [] ⟨.ret (.int .u8 (S.tell met 1)),[],[]⟩:=by
 refine K.con_of_run good (A:=envL []) (envL_ok ?_) K.openE_ok (k:=30) (cast (fTell1_run met).symm ?_)
 ·intro p hp; cases hp
 ·have b:=S.t_bit h0
  have c1:S.tell met 1=128 * (met / 2 ^ 2 % 2) + 64 * (met / 2 ^ 3 % 2):=rfl
  simp only [b,c1]
  refine ⟨?_,trivial⟩
  exact (S.t_two (S.m2 _) (S.m2 _)).symm
theorem fTell2_run (met:Int):K.bodyF (envL []) (K.runF (envL []) 30) 111 [.int .u16 met,.int .i64 2] (Heap.of []) Hint.auto (K.endC K.openE 0 ⟨.ret (.int .u8 (S.tell met 2)),[],[]⟩) =
  ((S.tell met (2:Int)=wrapK .u8 (orK .u16 (wrapK .u16 (andK .u16 (Int.fdiv met (2 ^ 4)) 1 * 2 ^ 7)) (wrapK .u16 (andK .u16 (Int.fdiv met (2 ^ 5)) 1 * 2 ^ 6)))∧True)):=by kernel_rfl
theorem fTell2_con (met:Int) (h0:S.inR met 65536=true)  : HTr Tryz.prog 111 [.int .u16 met,.int .i64 2] [] ⟨.ret (.int .u8 (S.tell met 2)),[],[]⟩:=by
 refine K.con_of_run good (A:=envL []) (envL_ok ?_) K.openE_ok (k:=30) (cast (fTell2_run met).symm ?_)
 ·intro p hp; cases hp
 ·have b:=S.t_bit h0
  have c1:S.tell met 2=128 * (met / 2 ^ 4 % 2) + 64 * (met / 2 ^ 5 % 2):=rfl
  simp only [b,c1]
  refine ⟨?_,trivial⟩
  exact (S.t_two (S.m2 _) (S.m2 _)).symm
theorem fTell3_run (met:Int):K.bodyF (envL []) (K.runF (envL []) 30) 111 [.int .u16 met,.int .i64 3] (Heap.of []) Hint.auto (K.endC K.openE 0 ⟨.ret (.int .u8 (S.tell met 3)),[],[]⟩) =
  ((S.tell met (3:Int)=wrapK .u8 (orK .u16 (wrapK .u16 (andK .u16 (Int.fdiv met (2 ^ 6)) 1 * 2 ^ 7)) (wrapK .u16 (andK .u16 (Int.fdiv met (2 ^ 7)) 1 * 2 ^ 6)))∧True)):=by kernel_rfl
theorem fTell3_con (met:Int) (h0:S.inR met 65536=true)  : HTr Tryz.prog 111 [.int .u16 met,.int .i64 3] [] ⟨.ret (.int .u8 (S.tell met 3)),[],[]⟩:=by
 refine K.con_of_run good (A:=envL []) (envL_ok ?_) K.openE_ok (k:=30) (cast (fTell3_run met).symm ?_)
 ·intro p hp; cases hp
 ·have b:=S.t_bit h0
  have c1:S.tell met 3=128 * (met / 2 ^ 6 % 2) + 64 * (met / 2 ^ 7 % 2):=rfl
  simp only [b,c1]
  refine ⟨?_,trivial⟩
  exact (S.t_two (S.m2 _) (S.m2 _)).symm
theorem fTell4_run (met:Int):K.bodyF (envL []) (K.runF (envL []) 30) 111 [.int .u16 met,.int .i64 4] (Heap.of []) Hint.auto (K.endC K.openE 0 ⟨.ret (.int .u8 (S.tell met 4)),[],[]⟩) =
  ((S.tell met (4:Int)=wrapK .u8 (orK .u16 (wrapK .u16 (andK .u16 (Int.fdiv met (2 ^ 8)) 1 * 2 ^ 7)) (wrapK .u16 (andK .u16 (Int.fdiv met (2 ^ 9)) 1 * 2 ^ 6)))∧True)):=by kernel_rfl
theorem fTell4_con (met:Int) (h0:S.inR met 65536=true)  : HTr Tryz.prog 111 [.int .u16 met,.int .i64 4] [] ⟨.ret (.int .u8 (S.tell met 4)),[],[]⟩:=by
 refine K.con_of_run good (A:=envL []) (envL_ok ?_) K.openE_ok (k:=30) (cast (fTell4_run met).symm ?_)
 ·intro p hp; cases hp
 ·have b:=S.t_bit h0
  have c1:S.tell met 4=128 * (met / 2 ^ 8 % 2) + 64 * (met / 2 ^ 9 % 2):=rfl
  simp only [b,c1]
  refine ⟨?_,trivial⟩
  exact (S.t_two (S.m2 _) (S.m2 _)).symm
theorem fTell5_run (met:Int):K.bodyF (envL []) (K.runF (envL []) 30) 111 [.int .u16 met,.int .i64 5] (Heap.of []) Hint.auto (K.endC K.openE 0 ⟨.ret (.int .u8 (S.tell met 5)),[],[]⟩) =
  ((S.tell met (5:Int)=wrapK .u8 (orK .u16 (wrapK .u16 (andK .u16 (Int.fdiv met (2 ^ 10)) 1 * 2 ^ 7)) (wrapK .u16 (andK .u16 (Int.fdiv met (2 ^ 11)) 1 * 2 ^ 6)))∧True)):=by kernel_rfl
theorem fTell5_con (met:Int) (h0:S.inR met 65536=true)  : HTr Tryz.prog 111 [.int .u16 met,.int .i64 5] [] ⟨.ret (.int .u8 (S.tell met 5)),[],[]⟩:=by
 refine K.con_of_run good (A:=envL []) (envL_ok ?_) K.openE_ok (k:=30) (cast (fTell5_run met).symm ?_)
 ·intro p hp; cases hp
 ·have b:=S.t_bit h0
  have c1:S.tell met 5=128 * (met / 2 ^ 10 % 2) + 64 * (met / 2 ^ 11 % 2):=rfl
  simp only [b,c1]
  refine ⟨?_,trivial⟩
  exact (S.t_two (S.m2 _) (S.m2 _)).symm
theorem fTell6_run (met:Int):K.bodyF (envL []) (K.runF (envL []) 30) 111 [.int .u16 met,.int .i64 6] (Heap.of []) Hint.auto (K.endC K.openE 0 ⟨.ret (.int .u8 (S.tell met 6)),[],[]⟩) =
  ((S.tell met (6:Int)=wrapK .u8 (orK .u16 (wrapK .u16 (andK .u16 (Int.fdiv met (2 ^ 12)) 1 * 2 ^ 7)) (wrapK .u16 (0 * 2 ^ 6)))∧True)):=by kernel_rfl
theorem fTell6_con (met:Int) (h0:S.inR met 65536=true)  : HTr Tryz.prog 111 [.int .u16 met,.int .i64 6] [] ⟨.ret (.int .u8 (S.tell met 6)),[],[]⟩:=by
 refine K.con_of_run good (A:=envL []) (envL_ok ?_) K.openE_ok (k:=30) (cast (fTell6_run met).symm ?_)
 ·intro p hp; cases hp
 ·have b:=S.t_bit h0
  have c1:S.tell met 6=128 * (met / 2 ^ 12 % 2):=rfl
  simp only [b,c1]
  refine ⟨?_,trivial⟩
  have h:=(S.t_two (S.m2 (met / 2 ^ 12)) (.inl rfl)).symm
  rw [show (64:Int) * 0=0 from rfl,Int.add_zero] at h
  exact h
theorem fTell7_run (met:Int):K.bodyF (envL []) (K.runF (envL []) 30) 111 [.int .u16 met,.int .i64 7] (Heap.of []) Hint.auto (K.endC K.openE 0 ⟨.ret (.int .u8 (S.tell met 7)),[],[]⟩) =
  ((S.tell met (7:Int)=wrapK .u8 (orK .u16 (wrapK .u16 (andK .u16 (Int.fdiv met (2 ^ 13)) 1 * 2 ^ 7)) (wrapK .u16 (andK .u16 (Int.fdiv met (2 ^ 14)) 1 * 2 ^ 6)))∧True)):=by kernel_rfl
theorem fTell7_con (met:Int) (h0:S.inR met 65536=true)  : HTr Tryz.prog 111 [.int .u16 met,.int .i64 7] [] ⟨.ret (.int .u8 (S.tell met 7)),[],[]⟩:=by
 refine K.con_of_run good (A:=envL []) (envL_ok ?_) K.openE_ok (k:=30) (cast (fTell7_run met).symm ?_)
 ·intro p hp; cases hp
 ·have b:=S.t_bit h0
  have c1:S.tell met 7=128 * (met / 2 ^ 13 % 2) + 64 * (met / 2 ^ 14 % 2):=rfl
  simp only [b,c1]
  refine ⟨?_,trivial⟩
  exact (S.t_two (S.m2 _) (S.m2 _)).symm
theorem fTell_con (met r:Int) (h0:S.an (S.inR r 8) (S.inR met 65536)=true):HT Tryz.prog 111 [.int .u16 met,.int .i64 r] (Heap.of []) (.ret (.int .u8 (S.tell met r))) (Heap.of (K.chg [] []++[])):=by
 obtain ⟨h1,h2⟩:=S.an_iff.1 h0
 have h3:=S.inR_iff.1 h1
 rcases (by omega:r=0∨r=1∨r=2∨r=3∨r=4∨r=5∨r=6∨r=7) with rfl | rfl | rfl | rfl | rfl | rfl | rfl | rfl
 ·exact fTell0_con met h2
 ·exact fTell1_con met h2
 ·exact fTell2_con met h2
 ·exact fTell3_con met h2
 ·exact fTell4_con met h2
 ·exact fTell5_con met h2
 ·exact fTell6_con met h2
 ·exact fTell7_con met h2
theorem fTell_ok:fTellE.ok Tryz.prog 111:=by
 intro xs os b r h h3
 unfold fTellE at h
 simp only at h
 split at h
 ·injection h with h; injection h with h1 h2; subst h1; subst h2
  exact fTell_con _ _ h3
 ·cases h
theorem kRead_run (c:S.Chip) (addr bus:Int):K.bodyF (kReadVz) (K.runF (kReadVz) 30) 30 [.ptr 0 0,.int .u16 addr,.int .u8 bus] (Heap.of (S.hp0 c)) Hint.auto (K.endC K.openE 40 ⟨.ret (.int .u8 (S.readV c addr bus)),[],[]⟩) =
  (bc (ltI (S.adf addr) 8) (bc (S.an (S.inR (S.adf addr) 8) (S.inR c.met 65536)) (S.readV c addr bus=orK .u8 (S.tell c.met (S.adf addr)) (andK .u8 bus 63)∧True) False) (bc (ltI (S.adf addr) 14) (bc (S.an (S.inR (wrapK .i64 (wrapK .i64 (andK .u16 addr 15) - 8)) 6) (S.okP c.po.v0 c.po.v1 c.po.v2 c.po.v3 c.po.charge)) (bc (S.pkHigh (wrapK .i64 (wrapK .i64 (andK .u16 addr 15) - 8)) c.po.v0 c.po.v1 c.po.v2 c.po.v3 c.po.charge c.po.dumped c.po.h0 c.po.l0 c.po.h1 c.po.l1 c.po.latched) (S.readV c addr bus=orK .u8 bus 128∧True) (S.readV c addr bus=IntKind.wrap .u8 ↑(BitVec.toNat (BitVec.ofInt 8 bus &&& ~~~BitVec.ofInt 8 128))∧True)) False) (S.readV c addr bus=bus∧True))):=by kernel_rfl
theorem kRead_con (c:S.Chip) (addr bus:Int) (h0:S.okQ c=true)  : HTr Tryz.prog 30 [.ptr 0 0,.int .u16 addr,.int .u8 bus] (S.hp0 c) ⟨.ret (.int .u8 (S.readV c addr bus)),[],[]⟩:=by
 refine K.con_of_run good (A:=kReadVz) (envL_ok ?_) K.openE_ok (k:=30) (cast (kRead_run c addr bus).symm ?_)
 ·intro p hp; simp only [List.mem_cons,List.not_mem_nil,or_false] at hp; rcases hp with rfl | rfl; exact fTell_ok; exact kHigh_ok
 ·obtain ⟨hc,hm⟩:=S.an_iff.1 h0
  obtain ⟨pb,pp,pt,pd,pv,pw⟩:=S.okC_iff.1 hc
  have r:=S.adf_rng addr
  have m:=S.inR_iff.1 hm
  have m2:S.inR c.met 65536=true:=S.inR_iff.2 (by omega)
  have ea:wrapK .i64 (andK .u16 addr 15)=S.adf addr:=rfl
  simp only [ea,m2,pp,S.readV]
  cases h8:ltI (S.adf addr) 8 with
  | true =>
   have i8:S.inR (S.adf addr) 8=true:=S.inR_iff.2 ⟨r.1,ltI_true.1 h8⟩
   simp only [i8,S.an,bc_true,and_self]
  | false =>
   have r8:=ltI_false.1 h8
   cases h14:ltI (S.adf addr) 14 with
   | true =>
    have r14:=ltI_true.1 h14
    have w:wrapK .i64 (S.adf addr - 8)=S.adf addr - 8:=by rw [wrapK_i64]; omega
    have i6:S.inR (S.adf addr - 8) 6=true:=S.inR_iff.2 (by omega)
    simp only [w,i6,S.an,bc_true,bc_false]
    cases S.pkHigh (S.adf addr - 8) c.po.v0 c.po.v1 c.po.v2 c.po.v3 c.po.charge c.po.dumped c.po.h0 c.po.l0 c.po.h1 c.po.l1 c.po.latched <;> simp only [bc_true,bc_false,S.clr,and_self]
   | false=>simp only [bc_false,and_self]
theorem kRead_ok:kReadE.ok Tryz.prog 30:=by
 intro xs os b r h h3
 unfold kReadE at h
 simp only at h
 split at h
 ·obtain ⟨c,rfl,q⟩:=S.onChip_some h
  clear h
  injection q with h; injection h with h1 h2; subst h1; subst h2
  exact kRead_con _ _ _ h3
 ·cases h
theorem kInC_run (c:S.Chip) (n v:Int):K.bodyF (envL [(110,kInE)]) (K.runF (envL [(110,kInE)]) 30) 29 [.ptr 0 0,.int .i64 n,.int .u8 v] (Heap.of (S.hp0 c)) Hint.auto (K.endC K.openE 40 ⟨.ret (.tup []),[(39,.cells 182 .exact [.int .u8 (S.inC n v c).po.v0,.int .u8 (S.inC n v c).po.v1,.int .u8 (S.inC n v c).po.v2,.int .u8 (S.inC n v c).po.v3,.int .i64 (S.inC n v c).po.charge,.bool (S.inC n v c).po.dumped,.bool (S.inC n v c).po.h0,.bool (S.inC n v c).po.l0,.bool (S.inC n v c).po.h1,.bool (S.inC n v c).po.l1,.bool (S.inC n v c).po.latched])],[]⟩) =
  ((S.Po.v0 (S.Chip.po (S.inC n v c))=S.pkV n v 0 c.po.v0∧(S.Po.v1 (S.Chip.po (S.inC n v c))=S.pkV n v 1 c.po.v1∧(S.Po.v2 (S.Chip.po (S.inC n v c))=S.pkV n v 2 c.po.v2∧(S.Po.v3 (S.Chip.po (S.inC n v c))=S.pkV n v 3 c.po.v3∧(S.Po.charge (S.Chip.po (S.inC n v c))=c.po.charge∧(S.Po.dumped (S.Chip.po (S.inC n v c))=c.po.dumped∧(S.Po.h0 (S.Chip.po (S.inC n v c))=S.pkH n v 4 c.po.h0∧(S.Po.l0 (S.Chip.po (S.inC n v c))=S.pkL n v 4 c.po.latched c.po.l0 c.po.h0∧(S.Po.h1 (S.Chip.po (S.inC n v c))=S.pkH n v 5 c.po.h1∧(S.Po.l1 (S.Chip.po (S.inC n v c))=S.pkL n v 5 c.po.latched c.po.l1 c.po.h1∧(S.Po.latched (S.Chip.po (S.inC n v c))=c.po.latched∧True)))))))))))):=by kernel_rfl
theorem kInC_con (c:S.Chip) (n v:Int)  : HTr Tryz.prog 29 [.ptr 0 0,.int .i64 n,.int .u8 v] (S.hp0 c) ⟨.ret (.tup []),[(39,.cells 182 .exact [.int .u8 (S.inC n v c).po.v0,.int .u8 (S.inC n v c).po.v1,.int .u8 (S.inC n v c).po.v2,.int .u8 (S.inC n v c).po.v3,.int .i64 (S.inC n v c).po.charge,.bool (S.inC n v c).po.dumped,.bool (S.inC n v c).po.h0,.bool (S.inC n v c).po.l0,.bool (S.inC n v c).po.h1,.bool (S.inC n v c).po.l1,.bool (S.inC n v c).po.latched])],[]⟩:=by
 refine K.con_of_run good (A:=envL [(110,kInE)]) (envL_ok ?_) K.openE_ok (k:=30) (cast (kInC_run c n v).symm ?_)
 ·intro p hp; simp only [List.mem_cons,List.not_mem_nil,or_false] at hp; rcases hp with rfl; exact kIn_ok
 ·exact ⟨rfl,rfl,rfl,rfl,rfl,rfl,rfl,rfl,rfl,rfl,rfl,trivial⟩
theorem kCounts_run (c:S.Chip):K.bodyF (envL [(58,tCountE)]) (K.runF (envL [(58,tCountE)]) 30) 16 [.ptr 0 0] (Heap.of (S.hp0 c)) Hint.auto (K.endC K.openE 40 ⟨.ret (.agg [.int .i64 (S.cnt c.t0),.int .i64 (S.cnt c.t1),.int .i64 (S.cnt c.t2),.int .i64 (S.cnt c.t3),.int .i64 (S.cnt c.t4)]),[],[]⟩) =
  (bc (S.okPm c.t0.a 4 45 40 c.t0.s) (bc (S.okPm c.t1.a 4 45 40 c.t1.s) (bc (S.okPm c.t2.a 4 45 40 c.t2.s) (bc (S.okPm c.t3.a 4 45 40 c.t3.s) (bc (S.okPm c.t4.a 4 45 40 c.t4.s) (S.cnt c.t0=S.plc c.t0.a c.t0.s∧(S.cnt c.t1=S.plc c.t1.a c.t1.s∧(S.cnt c.t2=S.plc c.t2.a c.t2.s∧(S.cnt c.t3=S.plc c.t3.a c.t3.s∧(S.cnt c.t4=S.plc c.t4.a c.t4.s∧True))))) False) False) False) False) False):=by kernel_rfl
theorem kCounts_con (c:S.Chip) (h0:S.okC c=true)  : HTr Tryz.prog 16 [.ptr 0 0] (S.hp0 c) ⟨.ret (.agg [.int .i64 (S.cnt c.t0),.int .i64 (S.cnt c.t1),.int .i64 (S.cnt c.t2),.int .i64 (S.cnt c.t3),.int .i64 (S.cnt c.t4)]),[],[]⟩:=by
 refine K.con_of_run good (A:=envL [(58,tCountE)]) (envL_ok ?_) K.openE_ok (k:=30) (cast (kCounts_run c).symm ?_)
 ·intro p hp; simp only [List.mem_cons,List.not_mem_nil,or_false] at hp; rcases hp with rfl; exact tCount_ok
 ·obtain ⟨pb,pp,pt,pd,pv,pw⟩:=S.okC_iff.1 h0
  obtain ⟨_,_,a0,a1,a2,a3,a4⟩:=S.okTs_iff.1 pt
  have p0:=(S.an_iff.1 a0).1
  have p1:=(S.an_iff.1 a1).1
  have p2:=(S.an_iff.1 a2).1
  have p3:=(S.an_iff.1 a3).1
  have p4:=(S.an_iff.1 a4).1
  simp only [p0,p1,p2,p3,p4,bc_true,S.cnt,and_self]
theorem kCounts_ok:kCountsE.ok Tryz.prog 16:=by
 intro xs os b r h h3
 unfold kCountsE at h
 simp only at h
 split at h
 ·obtain ⟨c,rfl,q⟩:=S.onChip_some h
  clear h
  injection q with h; injection h with h1 h2; subst h1; subst h2
  exact kCounts_con _ h3
 ·cases h
theorem kNewC_run (k:Int):K.bodyF (kNewCVz) (K.runF (kNewCVz) 30) 18 [.int .i64 k] (Heap.of []) Hint.auto (K.endC K.openE 0 ⟨.ret (.ptr 0 0),[],(S.hp0 (S.newC k))⟩) =
  (bc (S.inR k 228) ((0:Nat)=0∧((0:Nat)=0∧((0:Nat)=0∧((0:Nat)=0∧((0:Nat)=0∧((0:Nat)=0∧((0:Nat)=0∧((0:Nat)=0∧((0:Nat)=0∧((0:Nat)=0∧((0:Nat)=0∧(S.R8.x0 (S.Chip.r0 (S.newC k))=(0:Int)∧(S.R8.x1 (S.Chip.r0 (S.newC k))=(0:Int)∧(S.R8.x2 (S.Chip.r0 (S.newC k))=(0:Int)∧(S.R8.x3 (S.Chip.r0 (S.newC k))=(0:Int)∧(S.R8.x4 (S.Chip.r0 (S.newC k))=(0:Int)∧(S.R8.x5 (S.Chip.r0 (S.newC k))=(0:Int)∧(S.R8.x6 (S.Chip.r0 (S.newC k))=(0:Int)∧(S.R8.x7 (S.Chip.r0 (S.newC k))=(0:Int)∧(S.R8.x0 (S.Chip.r1 (S.newC k))=(0:Int)∧(S.R8.x1 (S.Chip.r1 (S.newC k))=(0:Int)∧(S.R8.x2 (S.Chip.r1 (S.newC k))=(0:Int)∧(S.R8.x3 (S.Chip.r1 (S.newC k))=(0:Int)∧(S.R8.x4 (S.Chip.r1 (S.newC k))=(0:Int)∧(S.R8.x5 (S.Chip.r1 (S.newC k))=(0:Int)∧(S.R8.x6 (S.Chip.r1 (S.newC k))=(0:Int)∧(S.R8.x7 (S.Chip.r1 (S.newC k))=(0:Int)∧(S.R8.x0 (S.Chip.r2 (S.newC k))=(0:Int)∧(S.R8.x1 (S.Chip.r2 (S.newC k))=(0:Int)∧(S.R8.x2 (S.Chip.r2 (S.newC k))=(0:Int)∧(S.R8.x3 (S.Chip.r2 (S.newC k))=(0:Int)∧(S.R8.x4 (S.Chip.r2 (S.newC k))=(0:Int)∧(S.R8.x5 (S.Chip.r2 (S.newC k))=(0:Int)∧(S.R8.x6 (S.Chip.r2 (S.newC k))=(0:Int)∧(S.R8.x7 (S.Chip.r2 (S.newC k))=(0:Int)∧(S.R8.x0 (S.Chip.r3 (S.newC k))=(0:Int)∧(S.R8.x1 (S.Chip.r3 (S.newC k))=(0:Int)∧(S.R8.x2 (S.Chip.r3 (S.newC k))=(0:Int)∧(S.R8.x3 (S.Chip.r3 (S.newC k))=(0:Int)∧(S.R8.x4 (S.Chip.r3 (S.newC k))=(0:Int)∧(S.R8.x5 (S.Chip.r3 (S.newC k))=(0:Int)∧(S.R8.x6 (S.Chip.r3 (S.newC k))=(0:Int)∧(S.R8.x7 (S.Chip.r3 (S.newC k))=(0:Int)∧(S.R8.x0 (S.Chip.r4 (S.newC k))=(0:Int)∧(S.R8.x1 (S.Chip.r4 (S.newC k))=(0:Int)∧(S.R8.x2 (S.Chip.r4 (S.newC k))=(0:Int)∧(S.R8.x3 (S.Chip.r4 (S.newC k))=(0:Int)∧(S.R8.x4 (S.Chip.r4 (S.newC k))=(0:Int)∧(S.R8.x5 (S.Chip.r4 (S.newC k))=(0:Int)∧(S.R8.x6 (S.Chip.r4 (S.newC k))=(0:Int)∧(S.R8.x7 (S.Chip.r4 (S.newC k))=(0:Int)∧(S.R8.x0 (S.Chip.r5 (S.newC k))=(0:Int)∧(S.R8.x1 (S.Chip.r5 (S.newC k))=(0:Int)∧(S.R8.x2 (S.Chip.r5 (S.newC k))=(0:Int)∧(S.R8.x3 (S.Chip.r5 (S.newC k))=(0:Int)∧(S.R8.x4 (S.Chip.r5 (S.newC k))=(0:Int)∧(S.R8.x5 (S.Chip.r5 (S.newC k))=(0:Int)∧(S.R8.x6 (S.Chip.r5 (S.newC k))=(0:Int)∧(S.R8.x7 (S.Chip.r5 (S.newC k))=(0:Int)∧(S.R8.x0 (S.Chip.r6 (S.newC k))=(0:Int)∧(S.R8.x1 (S.Chip.r6 (S.newC k))=(0:Int)∧(S.R8.x2 (S.Chip.r6 (S.newC k))=(0:Int)∧(S.R8.x3 (S.Chip.r6 (S.newC k))=(0:Int)∧(S.R8.x4 (S.Chip.r6 (S.newC k))=(0:Int)∧(S.R8.x5 (S.Chip.r6 (S.newC k))=(0:Int)∧(S.R8.x6 (S.Chip.r6 (S.newC k))=(0:Int)∧(S.R8.x7 (S.Chip.r6 (S.newC k))=(0:Int)∧(S.R8.x0 (S.Chip.r7 (S.newC k))=(0:Int)∧(S.R8.x1 (S.Chip.r7 (S.newC k))=(0:Int)∧(S.R8.x2 (S.Chip.r7 (S.newC k))=(0:Int)∧(S.R8.x3 (S.Chip.r7 (S.newC k))=(0:Int)∧(S.R8.x4 (S.Chip.r7 (S.newC k))=(0:Int)∧(S.R8.x5 (S.Chip.r7 (S.newC k))=(0:Int)∧(S.R8.x6 (S.Chip.r7 (S.newC k))=(0:Int)∧(S.R8.x7 (S.Chip.r7 (S.newC k))=(0:Int)∧(S.Chip.g00 (S.newC k)=(0:Int)∧(S.Chip.g01 (S.newC k)=(0:Int)∧(S.Chip.g10 (S.newC k)=(0:Int)∧(S.Chip.g11 (S.newC k)=(0:Int)∧(S.Chip.b0 (S.newC k)=false∧(S.Chip.b1 (S.newC k)=false∧(S.Chip.met (S.newC k)=(0:Int)∧(S.Chip.wait (S.newC k)=false∧((0:Nat)=0∧((0:Nat)=0∧(S.Chip.late (S.newC k)=false∧(S.Chip.ba (S.newC k)=k % 4∧((4:Int)=4∧((0:Nat)=0∧((20:Int)=S.st 56∧((57:Int)=57∧(S.Chip.bs (S.newC k)=S.st (k / 4)∧((6:Int)=6∧((1:Int)=1∧(S.Chip.mc (S.newC k)=(16:Int)∧(S.Chip.mg (S.newC k)=(0:Int)∧(S.Chip.mm (S.newC k)=(0:Int)∧((0:Nat)=0∧(S.Th.line (S.Chip.t0 (S.newC k))=(0:Int)∧(S.Th.scan (S.Chip.t0 (S.newC k))=(255:Int)∧((0:Nat)=0∧((0:Nat)=0∧(S.Th.a (S.Chip.t0 (S.newC k))=(0:Int)∧((4:Int)=4∧((0:Nat)=0∧((45:Int)=S.st 39∧((40:Int)=40∧(S.Th.s (S.Chip.t0 (S.newC k))=(0:Int)∧((6:Int)=6∧((1:Int)=1∧((0:Nat)=0∧(S.Th.line (S.Chip.t1 (S.newC k))=(0:Int)∧(S.Th.scan (S.Chip.t1 (S.newC k))=(255:Int)∧((0:Nat)=0∧((0:Nat)=0∧(S.Th.a (S.Chip.t1 (S.newC k))=(0:Int)∧((4:Int)=4∧((0:Nat)=0∧((45:Int)=S.st 39∧((40:Int)=40∧(S.Th.s (S.Chip.t1 (S.newC k))=(0:Int)∧((6:Int)=6∧((1:Int)=1∧((0:Nat)=0∧(S.Th.line (S.Chip.t2 (S.newC k))=(0:Int)∧(S.Th.scan (S.Chip.t2 (S.newC k))=(255:Int)∧((0:Nat)=0∧((0:Nat)=0∧(S.Th.a (S.Chip.t2 (S.newC k))=(0:Int)∧((4:Int)=4∧((0:Nat)=0∧((45:Int)=S.st 39∧((40:Int)=40∧(S.Th.s (S.Chip.t2 (S.newC k))=(0:Int)∧((6:Int)=6∧((1:Int)=1∧((0:Nat)=0∧(S.Th.line (S.Chip.t3 (S.newC k))=(0:Int)∧(S.Th.scan (S.Chip.t3 (S.newC k))=(255:Int)∧((0:Nat)=0∧((0:Nat)=0∧(S.Th.a (S.Chip.t3 (S.newC k))=(0:Int)∧((4:Int)=4∧((0:Nat)=0∧((45:Int)=S.st 39∧((40:Int)=40∧(S.Th.s (S.Chip.t3 (S.newC k))=(0:Int)∧((6:Int)=6∧((1:Int)=1∧((0:Nat)=0∧(S.Th.line (S.Chip.t4 (S.newC k))=(0:Int)∧(S.Th.scan (S.Chip.t4 (S.newC k))=(255:Int)∧((0:Nat)=0∧((0:Nat)=0∧(S.Th.a (S.Chip.t4 (S.newC k))=(0:Int)∧((4:Int)=4∧((0:Nat)=0∧((45:Int)=S.st 39∧((40:Int)=40∧(S.Th.s (S.Chip.t4 (S.newC k))=(0:Int)∧((6:Int)=6∧((1:Int)=1∧(S.Vo.control (S.Chip.v0 (S.newC k))=(0:Int)∧(S.Vo.rate (S.Chip.v0 (S.newC k))=(0:Int)∧(S.Vo.volume (S.Chip.v0 (S.newC k))=(0:Int)∧((0:Nat)=0∧((0:Nat)=0∧((0:Nat)=0∧(S.Vo.count (S.Chip.v0 (S.newC k))=(0:Int)∧(S.Vo.high (S.Chip.v0 (S.newC k))=false∧(S.Vo.f4 (S.Chip.v0 (S.newC k))=(0:Int)∧((4:Int)=4∧((1:Int)=1∧(S.Vo.f5 (S.Chip.v0 (S.newC k))=(0:Int)∧((5:Int)=5∧((2:Int)=2∧(S.Vo.f9 (S.Chip.v0 (S.newC k))=(0:Int)∧((9:Int)=9∧((4:Int)=4∧(S.Vo.control (S.Chip.v1 (S.newC k))=(0:Int)∧(S.Vo.rate (S.Chip.v1 (S.newC k))=(0:Int)∧(S.Vo.volume (S.Chip.v1 (S.newC k))=(0:Int)∧((0:Nat)=0∧((0:Nat)=0∧((0:Nat)=0∧(S.Vo.count (S.Chip.v1 (S.newC k))=(0:Int)∧(S.Vo.high (S.Chip.v1 (S.newC k))=false∧(S.Vo.f4 (S.Chip.v1 (S.newC k))=(0:Int)∧((4:Int)=4∧((1:Int)=1∧(S.Vo.f5 (S.Chip.v1 (S.newC k))=(0:Int)∧((5:Int)=5∧((2:Int)=2∧(S.Vo.f9 (S.Chip.v1 (S.newC k))=(0:Int)∧((9:Int)=9∧((4:Int)=4∧(S.Po.v0 (S.Chip.po (S.newC k))=(0:Int)∧(S.Po.v1 (S.Chip.po (S.newC k))=(0:Int)∧(S.Po.v2 (S.Chip.po (S.newC k))=(0:Int)∧(S.Po.v3 (S.Chip.po (S.newC k))=(0:Int)∧(S.Po.charge (S.Chip.po (S.newC k))=(0:Int)∧(S.Po.dumped (S.Chip.po (S.newC k))=false∧(S.Po.h0 (S.Chip.po (S.newC k))=true∧(S.Po.l0 (S.Chip.po (S.newC k))=true∧(S.Po.h1 (S.Chip.po (S.newC k))=true∧(S.Po.l1 (S.Chip.po (S.newC k))=true∧(S.Po.latched (S.Chip.po (S.newC k))=false∧True))))))))))))))))))))))))))))))))))))))))))))))))))))))))))))))))))))))))))))))))))))))))))))))))))))))))))))))))))))))))))))))))))))))))))))))))))))))))))))))))))))))))))))))))))))))))))))))))))))))))))))))) False):=by kernel_rfl
theorem kNewC_con (k:Int) (h0:S.inR k 228=true)  : HTr Tryz.prog 18 [.int .i64 k] [] ⟨.ret (.ptr 0 0),[],(S.hp0 (S.newC k))⟩:=by
 refine K.con_of_run good (A:=kNewCVz) (envL_ok ?_) K.openE_ok (k:=30) (cast (kNewC_run k).symm ?_)
 ·intro p hp; simp only [List.mem_cons,List.not_mem_nil,or_false] at hp; rcases hp with rfl | rfl | rfl | rfl | rfl; exact bNew_ok; exact mNew_ok; exact kNew_ok; exact tNew_ok; exact vNew_ok
 ·have s39:S.st 39=45:=rfl
  have s56:S.st 56=20:=rfl
  simp only [h0,bc_true,S.newC,S.th0,S.vo0,s39,s56,and_self]
theorem kNewC_ok:kNewCE.ok Tryz.prog 18:=by
 intro xs os b r h h3
 unfold kNewCE at h
 simp only at h
 split at h
 ·injection h with h; injection h with h1 h2; subst h1; subst h2
  exact kNewC_con _ h3
 ·cases h
end Go.Proofs.YtnpbgnjiihecgaaGreat.Ev
namespace Go.Proofs.YtnpbgnjiihecgaaGreat.Ev
open Go
set_option linter.unusedVariables false
set_option linter.unusedSimpArgs false
set_option maxRecDepth 100000
set_option maxHeartbeats 1000000

theorem bWords_run (b:Bool) (a d l n s:Int):K.bodyF (bWordsVz) (K.runF (bWordsVz) 30) 32 [.ptr 0 0] (Heap.of (bWordsOz b a d l n s)) Hint.auto (K.endC K.openE 4 ⟨.ret (.agg [.int .i64 (S.plc a s),.int .i64 (bc b 1 0)]),[],[]⟩) =
  (bc (S.isSt s) (bc (b) (S.plc a s=wrapK .i64 (wrapK .i64 (4 * S.ix s) + a)∧(bc b 1 (0:Int)=(1:Int)∧True)) (S.plc a s=wrapK .i64 (wrapK .i64 (4 * S.ix s) + a)∧(bc b 1 (0:Int)=0∧True))) False):=by kernel_rfl
theorem bWords_con (b:Bool) (a d l n s:Int) (h0:S.okBm a s d l n=true)  : HTr Tryz.prog 32 [.ptr 0 0] (bWordsOz b a d l n s) ⟨.ret (.agg [.int .i64 (S.plc a s),.int .i64 (bc b 1 0)]),[],[]⟩:=by
 refine K.con_of_run good (A:=bWordsVz) (envL_ok ?_) K.openE_ok (k:=30) (cast (bWords_run b a d l n s).symm ?_)
 ·intro p hp; simp only [List.mem_cons,List.not_mem_nil,or_false] at hp; rcases hp with rfl | rfl; exact dCount_ok; exact cCount_ok
 ·obtain ⟨ha,hs,rfl,rfl,rfl,hx0,hx1⟩:=S.okBm_iff h0
  repeat' (first | (refine bcI (fun _=>?_) (fun _=>?_)) | (refine And.intro ?_ ?_))
  all_goals first | rfl | trivial | (simp_all only [notB_true,notB_false,notB_t,notB_f,S.an,bc_true,bc_false,reduceCtorEq,Bool.false_eq_true,Bool.true_eq_false]; done) | (simp_all only [notB_true,notB_false,notB_t,notB_f,S.an,S.inR,bc_true,bc_false,reduceCtorEq,Bool.false_eq_true,Bool.true_eq_false]; done) | (simp only [S.inR_no,S.inR_iff,S.plc,ltI_true,ltI_false,eqI_true,eqI_false,wrapK_i64,wrapK_u8] at *; omega) | skip
  all_goals skip
theorem bWords_ok:bWordsE.ok Tryz.prog 32:=by
 intro xs os b r h h3
 unfold bWordsE at h
 simp only at h
 split at h
 ·injection h with h; injection h with h1 h2; subst h1; subst h2
  exact bWords_con _ _ _ _ _ _ h3
 ·cases h
theorem kOne2_run (b:Bool):K.bodyF (envL []) (K.runF (envL []) 30) 38 [.bool b] (Heap.of []) Hint.auto (K.endC K.openE 0 ⟨.ret (.int .i64 (bc b 1 0)),[],[]⟩) =
  (bc (b) (bc b 1 (0:Int)=(1:Int)∧True) (bc b 1 (0:Int)=0∧True)):=by kernel_rfl
theorem kOne2_con (b:Bool)  : HTr Tryz.prog 38 [.bool b] [] ⟨.ret (.int .i64 (bc b 1 0)),[],[]⟩:=by
 refine K.con_of_run good (A:=envL []) (envL_ok ?_) K.openE_ok (k:=30) (cast (kOne2_run b).symm ?_)
 ·intro p hp; cases hp
 ·cases b <;> simp only [bc_true,bc_false,and_self]
theorem kOne2_ok:kOne2E.ok Tryz.prog 38:=by
 intro xs os b r h h3
 unfold kOne2E at h
 simp only at h
 split at h
 ·injection h with h; injection h with h1 h2; subst h1; subst h2
  exact kOne2_con _
 ·cases h
theorem kWordsC_run (c:S.Chip):K.bodyF (kWordsCVz) (K.runF (kWordsCVz) 30) 13 [.ptr 0 0] (Heap.of (S.hp0 c)) Hint.auto (K.endC K.openE 40 (kWordsR c)) =
  (bc (S.okBm c.ba c.bs 4 20 57) (bc (S.okP c.po.v0 c.po.v1 c.po.v2 c.po.v3 c.po.charge) (bc (S.okPm c.t0.a 4 45 40 c.t0.s) (bc (S.okPm c.t1.a 4 45 40 c.t1.s) (bc (S.okPm c.t2.a 4 45 40 c.t2.s) (bc (S.okPm c.t3.a 4 45 40 c.t3.s) (bc (S.okPm c.t4.a 4 45 40 c.t4.s) (bc (S.okV c.v0.control c.v0.rate c.v0.volume c.v0.f4 c.v0.f5 c.v0.f9 c.v0.count) (bc (S.okV c.v1.control c.v1.rate c.v1.volume c.v1.f4 c.v1.f5 c.v1.f9 c.v1.count) ((0:Nat)=0∧((81:Nat)=81∧(Cap.rest (0:Nat)=Cap.rest 0∧(S.plc c.ba c.bs=S.plc c.ba c.bs∧(bc c.late 1 (0:Int)=bc c.late 1 0∧(c.mc=c.mc∧(c.mg=c.mg∧(wrapK .i64 c.mm=wrapK .i64 c.mm∧(S.cnt c.t0=S.plc c.t0.a c.t0.s∧(S.young c.t0.line c.t0.scan=S.young c.t0.line c.t0.scan∧(S.elder c.t0.line c.t0.scan=S.elder c.t0.line c.t0.scan∧(S.cnt c.t1=S.plc c.t1.a c.t1.s∧(S.young c.t1.line c.t1.scan=S.young c.t1.line c.t1.scan∧(S.elder c.t1.line c.t1.scan=S.elder c.t1.line c.t1.scan∧(S.cnt c.t2=S.plc c.t2.a c.t2.s∧(S.young c.t2.line c.t2.scan=S.young c.t2.line c.t2.scan∧(S.elder c.t2.line c.t2.scan=S.elder c.t2.line c.t2.scan∧(S.cnt c.t3=S.plc c.t3.a c.t3.s∧(S.young c.t3.line c.t3.scan=S.young c.t3.line c.t3.scan∧(S.elder c.t3.line c.t3.scan=S.elder c.t3.line c.t3.scan∧(S.cnt c.t4=S.plc c.t4.a c.t4.s∧(S.young c.t4.line c.t4.scan=S.young c.t4.line c.t4.scan∧(S.elder c.t4.line c.t4.scan=S.elder c.t4.line c.t4.scan∧(c.v0.control=c.v0.control∧(c.v0.rate=c.v0.rate∧(c.v0.volume=c.v0.volume∧(c.v0.f4=c.v0.f4∧(c.v0.f5=c.v0.f5∧(c.v0.f9=c.v0.f9∧(c.v0.count=c.v0.count∧(bc c.v0.high 1 (0:Int)=bc c.v0.high 1 0∧(c.v1.control=c.v1.control∧(c.v1.rate=c.v1.rate∧(c.v1.volume=c.v1.volume∧(c.v1.f4=c.v1.f4∧(c.v1.f5=c.v1.f5∧(c.v1.f9=c.v1.f9∧(c.v1.count=c.v1.count∧(bc c.v1.high 1 (0:Int)=bc c.v1.high 1 0∧(c.po.v0=c.po.v0∧(c.po.v1=c.po.v1∧(c.po.v2=c.po.v2∧(c.po.v3=c.po.v3∧(c.po.charge=c.po.charge∧(bc c.po.dumped 1 (0:Int)=bc c.po.dumped 1 0∧(bc c.po.h0 1 (0:Int)=bc c.po.h0 1 0∧(bc c.po.h1 1 (0:Int)=bc c.po.h1 1 0∧(bc c.po.latched 1 (0:Int)=bc c.po.latched 1 0∧(bc c.po.l0 1 (0:Int)=bc c.po.l0 1 0∧(bc c.po.l1 1 (0:Int)=bc c.po.l1 1 0∧(wrapK .i64 c.r0.x0=wrapK .i64 c.r0.x0∧(wrapK .i64 c.r0.x1=wrapK .i64 c.r0.x1∧(wrapK .i64 c.r0.x4=wrapK .i64 c.r0.x4∧(wrapK .i64 c.r0.x5=wrapK .i64 c.r0.x5∧(wrapK .i64 c.r0.x6=wrapK .i64 c.r0.x6∧(wrapK .i64 c.r0.x7=wrapK .i64 c.r0.x7∧(wrapK .i64 c.r1.x0=wrapK .i64 c.r1.x0∧(wrapK .i64 c.r1.x1=wrapK .i64 c.r1.x1∧(wrapK .i64 c.r1.x2=wrapK .i64 c.r1.x2∧(wrapK .i64 c.r1.x3=wrapK .i64 c.r1.x3∧(wrapK .i64 c.r1.x4=wrapK .i64 c.r1.x4∧(wrapK .i64 c.r1.x5=wrapK .i64 c.r1.x5∧(wrapK .i64 c.r1.x6=wrapK .i64 c.r1.x6∧(wrapK .i64 c.r1.x7=wrapK .i64 c.r1.x7∧(wrapK .i64 c.g00=wrapK .i64 c.g00∧(wrapK .i64 c.g01=wrapK .i64 c.g01∧(wrapK .i64 c.g10=wrapK .i64 c.g10∧(wrapK .i64 c.g11=wrapK .i64 c.g11∧(wrapK .i64 c.r3.x5=wrapK .i64 c.r3.x5∧(wrapK .i64 c.r3.x6=wrapK .i64 c.r3.x6∧(bc c.b0 1 (0:Int)=bc c.b0 1 0∧(bc c.b1 1 (0:Int)=bc c.b1 1 0∧(wrapK .i64 c.r4.x0=wrapK .i64 c.r4.x0∧(wrapK .i64 c.r4.x1=wrapK .i64 c.r4.x1∧(wrapK .i64 c.r4.x2=wrapK .i64 c.r4.x2∧(wrapK .i64 c.r4.x3=wrapK .i64 c.r4.x3∧(wrapK .i64 c.r4.x4=wrapK .i64 c.r4.x4∧(wrapK .i64 c.r4.x5=wrapK .i64 c.r4.x5∧(wrapK .i64 c.r4.x6=wrapK .i64 c.r4.x6∧(wrapK .i64 c.r4.x7=wrapK .i64 c.r4.x7∧(wrapK .i64 c.r5.x0=wrapK .i64 c.r5.x0∧(wrapK .i64 c.r5.x1=wrapK .i64 c.r5.x1∧(wrapK .i64 c.met=wrapK .i64 c.met∧(bc c.wait 1 (0:Int)=bc c.wait 1 0∧True)))))))))))))))))))))))))))))))))))))))))))))))))))))))))))))))))))))))))))))))))))) False) False) False) False) False) False) False) False) False):=by kernel_rfl
theorem kWordsC_con (c:S.Chip) (h0:S.okC c=true)  : HTr Tryz.prog 13 [.ptr 0 0] (S.hp0 c) (kWordsR c):=by
 refine K.con_of_run good (A:=kWordsCVz) (envL_ok ?_) K.openE_ok (k:=30) (cast (kWordsC_run c).symm ?_)
 ·intro p hp; simp only [List.mem_cons,List.not_mem_nil,or_false] at hp; rcases hp with rfl | rfl | rfl | rfl | rfl | rfl; exact bWords_ok; exact mWords_ok; exact kWords_ok; exact tWords_ok; exact vWords_ok; exact kOne2_ok
 ·obtain ⟨pb,pp,pt,pd,pv,pw⟩:=S.okC_iff.1 h0
  obtain ⟨_,_,a0,a1,a2,a3,a4⟩:=S.okTs_iff.1 pt
  have p0:=(S.an_iff.1 a0).1
  have p1:=(S.an_iff.1 a1).1
  have p2:=(S.an_iff.1 a2).1
  have p3:=(S.an_iff.1 a3).1
  have p4:=(S.an_iff.1 a4).1
  have pv0:S.okV c.v0.control c.v0.rate c.v0.volume c.v0.f4 c.v0.f5 c.v0.f9 c.v0.count=true:=pv
  have pv1:S.okV c.v1.control c.v1.rate c.v1.volume c.v1.f4 c.v1.f5 c.v1.f9 c.v1.count=true:=pw
  simp only [pb,pp,p0,p1,p2,p3,p4,pv0,pv1,bc_true,S.cnt,and_self]
theorem kWordsD_con (c:S.Chip) (h0:S.okC c=true):HT Tryz.prog 13 [.ptr 0 0] (Heap.of (S.hp0 c)) (.ret (.slice 40 0 81 (.rest 0))) (Heap.of (S.hp0 c++[.cells 3 (.grow 1) (.int .i64 (S.wd c 0)::.int .i64 (S.wd c 1)::.int .i64 (S.wd c 2)::.int .i64 (S.wd c 3)::.int .i64 (S.wd c 4)::.int .i64 (S.wd c 5)::.int .i64 (S.wd c 6)::.int .i64 (S.wd c 7)::.int .i64 (S.wd c 8)::.int .i64 (S.wd c 9)::.int .i64 (S.wd c 10)::.int .i64 (S.wd c 11)::.int .i64 (S.wd c 12)::.int .i64 (S.wd c 13)::.int .i64 (S.wd c 14)::.int .i64 (S.wd c 15)::.int .i64 (S.wd c 16)::.int .i64 (S.wd c 17)::.int .i64 (S.wd c 18)::.int .i64 (S.wd c 19)::.int .i64 (S.wd c 20)::.int .i64 (S.wd c 21)::.int .i64 (S.wd c 22)::.int .i64 (S.wd c 23)::.int .i64 (S.wd c 24)::.int .i64 (S.wd c 25)::.int .i64 (S.wd c 26)::.int .i64 (S.wd c 27)::.int .i64 (S.wd c 28)::.int .i64 (S.wd c 29)::.int .i64 (S.wd c 30)::.int .i64 (S.wd c 31)::.int .i64 (S.wd c 32)::.int .i64 (S.wd c 33)::.int .i64 (S.wd c 34)::.int .i64 (S.wd c 35)::.int .i64 (S.wd c 36)::.int .i64 (S.wd c 37)::.int .i64 (S.wd c 38)::.int .i64 (S.wd c 39)::.int .i64 (S.wd c 40)::.int .i64 (S.wd c 41)::.int .i64 (S.wd c 42)::.int .i64 (S.wd c 43)::.int .i64 (S.wd c 44)::.int .i64 (S.wd c 45)::.int .i64 (S.wd c 46)::.int .i64 (S.wd c 47)::.int .i64 (S.wd c 48)::.int .i64 (S.wd c 49)::.int .i64 (S.wd c 50)::.int .i64 (S.wd c 51)::.int .i64 (S.wd c 52)::.int .i64 (S.wd c 53)::.int .i64 (S.wd c 54)::.int .i64 (S.wd c 55)::.int .i64 (S.wd c 56)::.int .i64 (S.wd c 57)::.int .i64 (S.wd c 58)::.int .i64 (S.wd c 59)::.int .i64 (S.wd c 60)::.int .i64 (S.wd c 61)::.int .i64 (S.wd c 62)::.int .i64 (S.wd c 63)::.int .i64 (S.wd c 64)::.int .i64 (S.wd c 65)::.int .i64 (S.wd c 66)::.int .i64 (S.wd c 67)::.int .i64 (S.wd c 68)::.int .i64 (S.wd c 69)::.int .i64 (S.wd c 70)::.int .i64 (S.wd c 71)::.int .i64 (S.wd c 72)::.int .i64 (S.wd c 73)::.int .i64 (S.wd c 74)::.int .i64 (S.wd c 75)::.int .i64 (S.wd c 76)::.int .i64 (S.wd c 77)::.int .i64 (S.wd c 78)::.int .i64 (S.wd c 79)::.int .i64 (S.wd c 80)::[])])):=cast (by kernel_rfl) (kWordsC_con c h0)
theorem kWordsD_ok:kWordsDE.ok Tryz.prog 13:=by
 intro xs os b r h h3
 unfold kWordsDE at h
 simp only at h
 split at h
 ·obtain ⟨c,rfl,q⟩:=S.onChip_some h
  clear h
  injection q with h; injection h with h1 h2; subst h1; subst h2
  exact kWordsD_con _ h3
 ·cases h
end Go.Proofs.YtnpbgnjiihecgaaGreat.Ev
namespace Go.Proofs.YtnpbgnjiihecgaaGreat.Ev
open Go
set_option linter.unusedVariables false
set_option linter.unusedSimpArgs false
set_option maxRecDepth 100000
set_option maxHeartbeats 1000000
namespace S
theorem bcP {b:Bool} {x y:Int} {P:Int→Prop} (h1:P x) (h2:P y):P (bc b x y):=by cases b <;> assumption
theorem okBm_ex {a s:Int} (h:okBm a s 4 20 57=true):∃ n,0≤n∧n < 228∧a=n % 4∧s=st (n / 4):=by
 obtain ⟨ha,hs,_,_,_,h0,h1⟩:=okBm_iff h
 obtain ⟨i,i0,i1,rfl⟩:=isSt_ex hs
 rw [ix_st i0 i1] at h0 h1
 exact ⟨4 * i + a,by omega,by omega,by omega,by rw [show (4 * i + a) / 4=i by omega]⟩
theorem bm_ok2 {n:Int} (h0:0≤n) (h1:n < 228):okBm (n % 4) (st (n / 4)) 4 20 57=true:=bm_ok h0 h1
theorem okBm_step {a s:Int} (h:okBm a s 4 20 57=true):okBm (bc (ltI (a + 1) 4) (a + 1) 0) (bc (ltI (a + 1) 4) s (bc (eqI s 20) 0 (nx s))) 4 20 57=true:=by
 obtain ⟨n,h0,h1,rfl,rfl⟩:=okBm_ex h
 rw [bm_a h0 h1,show bc (ltI (n % 4 + 1) 4) (st (n / 4)) (bc (eqI (st (n / 4)) 20) 0 (nx (st (n / 4))))=st (((n + 1) % 228) / 4) from bm_s h0 h1]
 exact bm_ok2 (by omega) (by omega)
theorem okT_tick {q:Int} {t:Th} (w:Bool) (h:okT t=true):okT (tkT w q t)=true:=by
 cases w with
 | false=>exact h
 | true =>
  obtain ⟨h1,h2⟩:=an_iff.1 h
  obtain ⟨m,m0,m1,ha,hs,_⟩:=okPm_iff h1
  show okT (tk1 q t)=true
  unfold okT tk1
  rw [an_iff]
  refine ⟨?_,tick_ok _ h2⟩
  obtain ⟨e1,e2⟩:=pl_tick m0 m1
  show okPm (bc (ltI (t.a + 1) 4) (t.a + 1) 0) 4 (st 39) 40 (bc (ltI (t.a + 1) 4) t.s (bc (eqI t.s (st 39)) 0 (nx t.s)))=true
  rw [ha,hs,e1,e2]
  have:=nxp_rng m0 m1
  exact okPm_of this.1 this.2
theorem okT_th {t:Th} (h:okT t=true):okTh t.line t.scan=true:=(an_iff.1 h).2
theorem meet_rng (p0 p1 m0 m1 bl pf:Bool):0≤meet p0 p1 m0 m1 bl pf∧meet p0 p1 m0 m1 bl pf < 32768:=by
 cases p0 <;> cases p1 <;> cases m0 <;> cases m1 <;> cases bl <;> cases pf <;> decide
theorem or15 {a b:Int} (ha:0≤a∧a < 32768) (hb:0≤b∧b < 32768):0≤orK .u16 a b∧orK .u16 a b < 32768:=by
 obtain ⟨n,rfl⟩:=Int.eq_ofNat_of_zero_le ha.1
 obtain ⟨m,rfl⟩:=Int.eq_ofNat_of_zero_le hb.1
 have hn:n < 2 ^ 15:=by have:=ha.2; omega
 have hm:m < 2 ^ 15:=by have:=hb.2; omega
 have e1:Nat.blt n 65536=true:=Nat.ble_eq_true_of_le (by omega)
 have e2:Nat.blt m 65536=true:=Nat.ble_eq_true_of_le (by omega)
 have e:orK .u16 (n:Int) (m:Int)=((n ||| m:Nat):Int):=by
  show bc (Nat.blt n 65536) (bc (Nat.blt m 65536) (Int.ofNat (Nat.lor n m)) _) _=_
  rw [e1,e2]; rfl
 rw [e]
 have:=Nat.or_lt_two_pow hn hm
 omega
theorem okVo_t {v:Vo} (w:Bool) (h:okVo v=true):okVo (voT w v)=true:=by
 cases w with
 | false=>exact h
 | true =>
  show okVo (vo1 v)=true
  unfold okVo at h ⊢
  rw [okV_iff] at h ⊢
  obtain ⟨⟨hc,hr,hv⟩,⟨h4,h5⟩,h9,hn⟩:=h
  refine ⟨⟨hc,hr,hv⟩,⟨?_,?_⟩,?_,?_⟩
  ·show 0≤vF4 _ _ _ _ _∧vF4 _ _ _ _ _ < 16
   unfold vF4
   refine bcP (P:=fun x=>0≤x∧x < 16) ?_ h4
   unfold n4; omega
  ·show 0≤vF5 _ _ _ _∧vF5 _ _ _ _ < 32
   unfold vF5
   refine bcP (P:=fun x=>0≤x∧x < 32) ?_ h5
   unfold n5; omega
  ·show 0≤vF9 _ _ _ _ _∧vF9 _ _ _ _ _ < 512
   unfold vF9
   refine bcP (P:=fun x=>0≤x∧x < 512) ?_ h9
   unfold n9; omega
  ·show 0≤vCount _ _ _∧vCount _ _ _ < 96
   unfold vCount
   cases hb:vBeat v.control v.rate v.count with
   | true=>rw [bc_true]; omega
   | false =>
    rw [bc_false]
    unfold vBeat at hb
    rw [notB_false,ltI_true] at hb
    have:vLen v.control v.rate≤96:=by
     unfold vLen
     refine bcP (P:=fun x=>x≤96) ?_ ?_ <;> omega
    omega
theorem okQ_step {c:Chip} (h:okQ c=true):okQ (stepC c)=true:=by
 obtain ⟨h1,h2⟩:=an_iff.1 h
 obtain ⟨pb,pp,pt,pd,pv,pw⟩:=okC_iff.1 h1
 obtain ⟨q0,q1,a0,a1,a2,a3,a4⟩:=okTs_iff.1 pt
 obtain ⟨y0,y1,m0,m1,⟨k0,k1⟩,v2,g0,g1,g2⟩:=okDt_iff.1 pd
 unfold okQ
 rw [an_iff,okC_iff]
 have t0:=fun w q=>okT_tick (q:=q) w a0
 have t1:=fun w q=>okT_tick (q:=q) w a1
 have t2:=fun w q=>okT_tick (q:=q) w a2
 have t3:=fun w q=>okT_tick (q:=q) w a3
 have t4:=fun w q=>okT_tick (q:=q) w a4
 refine ⟨⟨okBm_step pb,?_,okTs_iff.2 ⟨q0,q1,t0 _ _,t1 _ _,t2 _ _,t3 _ _,t4 _ _⟩,okDt_iff.2 ⟨?_,?_,?_,?_,⟨k0,okT_th (t4 _ _)⟩,v2,g0,g1,g2⟩,okVo_t _ pv,okVo_t _ pw⟩,?_⟩
 ·rw [okP_iff] at pp ⊢
  obtain ⟨x1,x2,x3⟩:=pp
  refine ⟨x1,x2,?_⟩
  show 0≤bc (sBeg c.ba c.bs) (pkC c.po.charge c.po.dumped) c.po.charge∧bc (sBeg c.ba c.bs) (pkC c.po.charge c.po.dumped) c.po.charge < 512
  refine bcP (P:=fun x=>0≤x∧x < 512) ?_ x3
  unfold pkC
  refine bcP (P:=fun x=>0≤x∧x < 512) x3 ?_
  cases hl:ltI (c.po.charge + 1) 511 with
  | true=>rw [bc_true]; have:=ltI_true.1 hl; omega
  | false=>rw [bc_false]; omega
 ·unfold okY at y0 ⊢
  simp only [an_iff] at y0 ⊢
  exact ⟨y0.1,y0.2.1,y0.2.2.1,okT_th (t0 _ _)⟩
 ·unfold okY at y1 ⊢
  simp only [an_iff] at y1 ⊢
  exact ⟨y1.1,y1.2.1,y1.2.2.1,okT_th (t1 _ _)⟩
 ·unfold okM at m0 ⊢
  rw [an_iff] at m0 ⊢
  exact ⟨m0.1,okT_th (t2 _ _)⟩
 ·unfold okM at m1 ⊢
  rw [an_iff] at m1 ⊢
  exact ⟨m1.1,okT_th (t3 _ _)⟩
 ·rw [inR_iff] at h2 ⊢
  refine bcP (P:=fun x=>0≤x∧x < 32768) h2 (or15 h2 ?_)
  exact meet_rng _ _ _ _ _ _
theorem and15_u8:∀ i:Fin 256,inR (andK .u8 ((i.val:Nat):Int) 15) 16=true∧inR (andK .u8 ((i.val:Nat):Int) 31) 32=true:=by decide +kernel
theorem u8_fin {v:Int} (h:inR v 256=true):∃ i:Fin 256,v=((i.val:Nat):Int):=by
 have h1:=inR_iff.1 h
 exact ⟨⟨v.toNat,by omega⟩,by show v=((v.toNat:Nat):Int); omega⟩
theorem rgP {a j v old:Int} {P:Int→Prop} (h1:P v) (h2:P old):P (rg a j v old):=by unfold rg; exact bcP h1 h2
theorem okT_put {a j:Int} {t:Th} (h:okT t=true):okT { t with a:=rg a j 0 t.a,s:=rg a j 0 t.s }=true:=by
 unfold okT at h ⊢
 rw [an_iff] at h ⊢
 refine ⟨?_,h.2⟩
 show okPm (rg a j 0 t.a) 4 45 40 (rg a j 0 t.s)=true
 unfold rg
 cases eqI a j with
 | true=>exact okPm_of (m:=0) (by decide) (by decide)
 | false=>exact h.1
theorem okT_free {g:Bool} {nus:Int} {u t:Th} (hu:pl u=true) (h:okT t=true):okT { t with a:=bc g (frM nus u % 4) t.a,s:=bc g (st (frM nus u / 4)) t.s }=true:=by
 unfold okT at h ⊢
 rw [an_iff] at h ⊢
 refine ⟨?_,h.2⟩
 cases g with
 | true=>have:=inR_iff.1 (frM_rng nus u); exact okPm_of this.1 this.2
 | false=>exact h.1
theorem okVo_put {a j1 j2 j3 v:Int} {o:Vo} (hv:inR v 256=true) (h:okVo o=true):okVo { o with control:=rg a j1 (andK .u8 v 15) o.control,rate:=rg a j2 (andK .u8 v 31) o.rate,volume:=rg a j3 (andK .u8 v 15) o.volume }=true:=by
 obtain ⟨i,rfl⟩:=u8_fin hv
 obtain ⟨c1,c2⟩:=and15_u8 i
 rw [inR_iff] at c1 c2
 unfold okVo at h ⊢
 rw [okV_iff] at h ⊢
 obtain ⟨⟨hc,hr,hv⟩,h2⟩:=h
 exact ⟨⟨rgP (P:=fun x=>0≤x∧x < 16) c1 hc,rgP (P:=fun x=>0≤x∧x < 32) c2 hr,rgP (P:=fun x=>0≤x∧x < 16) c1 hv⟩,h2⟩
theorem inRg {a j v old:Int} (h1:inR v 256=true) (h2:inR old 256=true):inR (rg a j v old) 256=true:=rgP (P:=fun x=>inR x 256=true) h1 h2
theorem okQ_store {c:Chip} {addr v:Int} (hv:inR v 256=true) (h:okQ c=true):okQ (storeC addr v c)=true:=by
 obtain ⟨h1,h2⟩:=an_iff.1 h
 obtain ⟨pb,pp,pt,pd,pv,pw⟩:=okC_iff.1 h1
 obtain ⟨q0,q1,a0,a1,a2,a3,a4⟩:=okTs_iff.1 pt
 obtain ⟨y0,y1,m0,m1,⟨k0,k1⟩,v2,g0,g1,g2⟩:=okDt_iff.1 pd
 unfold okY at y0 y1
 simp only [an_iff] at y0 y1
 unfold okM at m0 m1
 rw [an_iff] at m0 m1
 unfold okQ
 rw [an_iff,okC_iff]
 have z:inR 0 256=true:=rfl
 have r0:=fun j=>inRg (a:=adr addr) (j:=j) hv q0
 have r1:=fun j=>inRg (a:=adr addr) (j:=j) hv q1
 have pl0:pl c.t0=true:=(an_iff.1 a0).1
 have pl1:pl c.t1=true:=(an_iff.1 a1).1
 refine ⟨⟨?_,?_,okTs_iff.2 ⟨r0 _,r1 _,okT_put a0,okT_put a1,okT_free pl0 (okT_put a2),okT_free pl1 (okT_put a3),okT_put a4⟩,
  okDt_iff.2 ⟨?_,?_,?_,?_,⟨inRg hv k0,k1⟩,inRg hv v2,inRg hv g0,inRg hv g1,inRg hv g2⟩,okVo_put hv pv,okVo_put hv pw⟩,?_⟩
 ·show okBm (rg (adr addr) 3 0 c.ba) (rg (adr addr) 3 0 c.bs) 4 20 57=true
  unfold rg
  cases eqI (adr addr) 3 with
  | true=>exact bm_ok2 (n:=0) (by decide) (by decide)
  | false=>exact pb
 ·rw [okP_iff] at pp ⊢
  obtain ⟨x1,x2,x3⟩:=pp
  exact ⟨x1,x2,rgP (P:=fun x=>0≤x∧x < 512) (bcP (P:=fun x=>0≤x∧x < 512) (by decide) x3) x3⟩
 ·unfold okY
  simp only [an_iff]
  exact ⟨inRg hv y0.1,inRg hv y0.2.1,inRg y0.2.1 y0.2.2.1,y0.2.2.2⟩
 ·unfold okY
  simp only [an_iff]
  exact ⟨inRg hv y1.1,inRg hv y1.2.1,inRg y1.2.1 y1.2.2.1,y1.2.2.2⟩
 ·unfold okM
  rw [an_iff]
  exact ⟨r0 _,m0.2⟩
 ·unfold okM
  rw [an_iff]
  exact ⟨r1 _,m1.2⟩
 ·rw [inR_iff] at h2 ⊢
  exact rgP (P:=fun x=>0≤x∧x < 32768) (by decide) h2
theorem okQ_in {c:Chip} {n v:Int} (hv:inR v 256=true) (h:okQ c=true):okQ (inC n v c)=true:=by
 obtain ⟨h1,h2⟩:=an_iff.1 h
 obtain ⟨pb,pp,pt,pd,pv,pw⟩:=okC_iff.1 h1
 unfold okQ
 rw [an_iff,okC_iff]
 refine ⟨⟨pb,?_,pt,pd,pv,pw⟩,h2⟩
 rw [inR_iff] at hv
 rw [okP_iff] at pp ⊢
 obtain ⟨⟨x0,x1⟩,⟨x2,x3⟩,x4⟩:=pp
 exact ⟨⟨bcP (P:=fun x=>0≤x∧x < 256) hv x0,bcP (P:=fun x=>0≤x∧x < 256) hv x1⟩,⟨bcP (P:=fun x=>0≤x∧x < 256) hv x2,bcP (P:=fun x=>0≤x∧x < 256) hv x3⟩,x4⟩
theorem okQ_new {k:Int} (h:inR k 228=true):okQ (newC k)=true:=by
 have h1:=inR_iff.1 h
 unfold okQ
 rw [an_iff,okC_iff]
 refine ⟨⟨bm_ok2 h1.1 h1.2,rfl,?_,?_,rfl,rfl⟩,rfl⟩
 ·kernel_rfl
 ·kernel_rfl
theorem okQ_go {n:Nat} : ∀ {c:Chip},okQ c=true→okQ (goC n c)=true:=by
 induction n with
 | zero=>exact fun h=>h
 | succ n ih=>exact fun h=>ih (okQ_step h)
theorem okQ_C {c:Chip} (h:okQ c=true):okC c=true:=(an_iff.1 h).1
end S
end Go.Proofs.YtnpbgnjiihecgaaGreat.Ev
namespace Go.Proofs.YtnpbgnjiihecgaaGreat.Ev
open Go
set_option linter.unusedVariables false
set_option linter.unusedSimpArgs false
set_option maxRecDepth 100000
set_option maxHeartbeats 1000000
namespace S
theorem eqC_of {a b:Chip} {r:Prop} (h:a=b):eqC a b r=r:=by
 subst h
 unfold eqC
 simp only [eq_self,true_and]
theorem go_lt {n i:Int} (c:Chip) (h:i < n):goC (n - i).toNat c=goC (n - (i + 1)).toNat (stepC c):=by
 rw [show (n - i).toNat=(n - (i + 1)).toNat + 1 by omega]; rfl
theorem go_ge {n i:Int} (c:Chip) (h:n≤i):goC (n - i).toNat c=c:=by
 rw [show (n - i).toNat=0 by omega]; rfl
end S
theorem st_run (c:S.Chip) (n i:Int):K.RunL (envL [(14,kStepE)]) K.openE 30 12 12 (inner (inner (blkOf 12 0))) stEB [(0,.ptr 0 0),(1,.int .i64 n),(4,.int .i64 i)] (S.hp0 c) Hint.auto ⟨.exit 0,[],(hpCh (S.goC (n - i).toNat c)),[]⟩ =
  (bc (ltI i n) (bc (S.okC c) (bc (S.an (S.okQ (S.stepC c)) (S.an (S.inR n 1000) (S.inR (wrapK .i64 (i + 1)) 1000))) (st_T (S.stepC c) n (wrapK .i64 (i + 1))∧(S.eqC (S.goC (Int.toNat (n - i)) c) (S.goC (Int.toNat (n - wrapK .i64 (i + 1))) (S.stepC c)) True)) False) False) (S.eqC (S.goC (Int.toNat (n - i)) c) c True)):=by kernel_rfl
theorem st_con (c:S.Chip) (n i:Int) (h0:S.okQ c=true) (h1:S.inR n 1000=true) (h2:S.inR i 1000=true) (IH:i < n→S.okQ (S.stepC c)=true→st_T (S.stepC c) n (i + 1)):GTr Tryz.prog (inner (inner (blkOf 12 0))) 12 12 [(0,.ptr 0 0),(1,.int .i64 n),(4,.int .i64 i)] (S.hp0 c) ⟨.exit 0,[],(hpCh (S.goC (n - i).toNat c)),[]⟩:=by
 refine K.loop_of_run good (A:=envL [(14,kStepE)]) (envL_ok ?_) K.openE_ok (k:=30) (ent:=stEB) (cast (st_run c n i).symm ?_)
 ·intro p hp; simp only [List.mem_cons,List.not_mem_nil,or_false] at hp; rcases hp with rfl; exact kStep_ok
 ·have b1:=S.inR_iff.1 h1
  have b2:=S.inR_iff.1 h2
  have w:i < 999→wrapK .i64 (i + 1)=i + 1:=fun _=>by rw [wrapK_i64]; omega
  cases hl:ltI i n with
  | false =>
   rw [bc_false,S.eqC_of (S.go_ge c (ltI_false.1 hl))]
   trivial
  | true =>
   have hi:=ltI_true.1 hl
   have b3:S.inR (i + 1) 1000=true:=S.inR_iff.2 (by omega)
   have hq:=S.okQ_step h0
   rw [w (by omega),hq,h1,b3,S.okQ_C h0,bc_true,bc_true,S.eqC_of (S.go_lt c hi)]
   exact ⟨IH hi hq,trivial⟩
theorem st_lok:∀ (k:Nat) (c:S.Chip) (n i:Int),S.okQ c=true→S.inR n 1000=true→S.inR i 1000=true→(n - i).toNat=k→st_T c n i:=by
 intro k
 induction k with
 | zero =>
  intro c n i h0 h1 h2 hk
  exact st_con c n i h0 h1 h2 fun hi _=>by omega
 | succ k ih =>
  intro c n i h0 h1 h2 hk
  exact st_con c n i h0 h1 h2 fun hi hq=>ih _ n (i + 1) hq h1 (S.inR_iff.2 (by have:=S.inR_iff.1 h1; have:=S.inR_iff.1 h2; omega)) (by omega)
theorem st_blk (c:S.Chip) (n i:Int) (h0:S.okQ c=true) (h1:S.inR n 1000=true) (h2:S.inR i 1000=true):K.BOk Tryz.prog 12 12 (blkOf 12 0) [0,1,4] [.ptr 0 0,.int .i64 n,.int .i64 i] (S.hp0 c) ⟨.normal,[],(hpCh (S.goC (n - i).toNat c)),[]⟩:=by
 have hb:blkOf 12 0=.block 0 (.loop (inner (inner (blkOf 12 0)))):=by kernel_rfl
 unfold K.BOk
 rw [hb]
 exact K.CT.block (K.GT.loop (st_lok _ c n i h0 h1 h2 rfl))
theorem kSteps_run (c:S.Chip) (n:Int):K.bodyF (envB [] (fun g id=>bc (Nat.beq g 12) (bc (Nat.beq id 0) (some stBB) (none)) (none))) (K.runF (envB [] (fun g id=>bc (Nat.beq g 12) (bc (Nat.beq id 0) (some stBB) (none)) (none))) 30) 12 [.ptr 0 0,.int .i64 n] (Heap.of (S.hp0 c)) Hint.auto (K.endC K.openE 40 ⟨.ret (.tup []),(hpCh (S.goC n.toNat c)),[]⟩) =
  (bc (S.an (S.okQ c) (S.an (S.inR n 1000) (S.inR 0 1000))) (st_B c n 0∧(S.eqC (S.goC (Int.toNat n) c) (S.goC (Int.toNat (n - 0)) c) True)) False):=by kernel_rfl
theorem kSteps_con (c:S.Chip) (n:Int) (h0:S.an (S.okQ c) (S.inR n 1000)=true)  : HTr Tryz.prog 12 [.ptr 0 0,.int .i64 n] (S.hp0 c) ⟨.ret (.tup []),(hpCh (S.goC n.toNat c)),[]⟩:=by
 refine K.con_of_run good (A:=envB [] (fun g id=>bc (Nat.beq g 12) (bc (Nat.beq id 0) (some stBB) (none)) (none))) (envB_ok ?_) K.openE_ok (k:=30) (cast (kSteps_run c n).symm ?_)
 ·intro p hp; cases hp
 ·obtain ⟨h1,h2⟩:=S.an_iff.1 h0
  have z:S.inR 0 1000=true:=rfl
  have e0:(n - 0).toNat=n.toNat:=by rw [Int.sub_zero]
  have B:=st_blk c n 0 h1 h2 z
  rw [h1,h2,z,e0,S.eqC_of rfl]
  exact ⟨B,trivial⟩
theorem kSteps_ok:kStepsE.ok Tryz.prog 12:=by
 intro xs os b r h h3
 unfold kStepsE at h
 simp only at h
 split at h
 ·obtain ⟨c,rfl,q⟩:=S.onChip_some h
  clear h
  injection q with h; injection h with h1 h2; subst h1; subst h2
  exact kSteps_con _ _ h3
 ·cases h
end Go.Proofs.YtnpbgnjiihecgaaGreat.Ev
namespace Go.Proofs.YtnpbgnjiihecgaaGreat.Ev
open Go
set_option linter.unusedVariables false
set_option linter.unusedSimpArgs false
set_option maxRecDepth 100000
set_option maxHeartbeats 1000000
namespace S
theorem stn_rng {st:Int} (h:inR st 65536=true):inR (stn st) 500=true:=by
 have h1:=inR_iff.1 h
 unfold stn
 rw [show wrapK .i64 st=st by rw [wrapK_i64]; omega,Int.tmod_eq_emod_of_nonneg h1.1,inR_iff]
 omega
theorem did_0 {kd st ad v m:Int} {c:Chip} (h:orb (eqI (kk7 kd) 0) (eqI (kk7 kd) 1)=true):didC kd st ad v m c=goC (stn st).toNat c:=by unfold didC; rw [h]
theorem did_5 {kd st ad v m:Int} {c:Chip} (h:orb (eqI (kk7 kd) 0) (eqI (kk7 kd) 1)=false) (h5:eqI (kk7 kd) 5=true):didC kd st ad v m c=c:=by unfold didC; rw [h]; simp only [h5]
theorem did_6 {kd st ad v m:Int} {c:Chip} (h:orb (eqI (kk7 kd) 0) (eqI (kk7 kd) 1)=false) (h5:eqI (kk7 kd) 5=false) (h6:eqI (kk7 kd) 6=true):didC kd st ad v m c=inC m v c:=by unfold didC; rw [h]; simp only [h5,h6]
theorem did_2 {kd st ad v m:Int} {c:Chip} (h:orb (eqI (kk7 kd) 0) (eqI (kk7 kd) 1)=false) (h5:eqI (kk7 kd) 5=false) (h6:eqI (kk7 kd) 6=false):didC kd st ad v m c=storeC ad v c:=by unfold didC; rw [h]; simp only [h5,h6]
theorem okQ_did {kd st ad v m:Int} {c:Chip} (hv:inR v 256=true) (h:okQ c=true):okQ (didC kd st ad v m c)=true:=by
 unfold didC
 split
 ·exact okQ_go h
 ·split
  ·exact h
  ·split
   ·exact okQ_in hv h
   ·exact okQ_store hv h
end S
theorem kInD_con (c:S.Chip) (n v:Int):HT Tryz.prog 29 [.ptr 0 0,.int .i64 n,.int .u8 v] (Heap.of (S.hp0 c)) (.ret (.tup [])) (Heap.of (K.chg (S.hp0 c) (hpCh (S.inC n v c))++[])):=cast (by kernel_rfl) (kInC_con c n v)
theorem kInD_ok:kInDE.ok Tryz.prog 29:=by
 intro xs os b r h h3
 unfold kInDE at h
 simp only at h
 split at h
 ·obtain ⟨c,rfl,q⟩:=S.onChip_some h
  clear h
  injection q with h; injection h with h1 h2; subst h1; subst h2
  exact kInD_con _ _ _
 ·cases h
theorem di_run (c:S.Chip) (kd st ad v m i:Int):K.RunL (envL [(14,kStepE)]) K.openE 30 27 45 (inner (inner (blkOf 27 1))) diEB [(0,.ptr 0 0),(3,.ptr 40 0),(4,.int .i64 i)] (S.hp0 c++[.cells 64 .exact [.int .i64 kd,.int .u16 st,.int .u16 ad,.int .u8 v,.int .i64 m]]) Hint.auto ⟨.exit 1,[],(hpCh (S.goC (S.stn st - i).toNat c)),[]⟩ =
  (bc (ltI i (Int.tmod (wrapK .i64 st) 500)) (bc (S.okC c) (bc (S.an (S.okQ (S.stepC c)) (S.an (S.inR st 65536) (S.inR (wrapK .i64 (i + 1)) 1000))) (di_T (S.stepC c) kd st ad v m (wrapK .i64 (i + 1))∧(S.eqC (S.goC (Int.toNat (S.stn st - i)) c) (S.goC (Int.toNat (S.stn st - wrapK .i64 (i + 1))) (S.stepC c)) True)) False) False) (S.eqC (S.goC (Int.toNat (S.stn st - i)) c) c True)):=by kernel_rfl
theorem di_con (c:S.Chip) (kd st ad v m i:Int) (h0:S.okQ c=true) (h1:S.inR st 65536=true) (h2:S.inR i 1000=true) (IH:i < S.stn st→S.okQ (S.stepC c)=true→di_T (S.stepC c) kd st ad v m (i + 1)):GTr Tryz.prog (inner (inner (blkOf 27 1))) 27 45 [(0,.ptr 0 0),(3,.ptr 40 0),(4,.int .i64 i)] (S.hp0 c++[.cells 64 .exact [.int .i64 kd,.int .u16 st,.int .u16 ad,.int .u8 v,.int .i64 m]]) ⟨.exit 1,[],(hpCh (S.goC (S.stn st - i).toNat c)),[]⟩:=by
 refine K.loop_of_run good (A:=envL [(14,kStepE)]) (envL_ok ?_) K.openE_ok (k:=30) (ent:=diEB) (cast (di_run c kd st ad v m i).symm ?_)
 ·intro p hp; simp only [List.mem_cons,List.not_mem_nil,or_false] at hp; rcases hp with rfl; exact kStep_ok
 ·have b1:=S.inR_iff.1 (S.stn_rng h1)
  have b2:=S.inR_iff.1 h2
  have w:i < 999→wrapK .i64 (i + 1)=i + 1:=fun _=>by rw [wrapK_i64]; omega
  have es:Int.tmod (wrapK .i64 st) 500=S.stn st:=rfl
  rw [es]
  cases hl:ltI i (S.stn st) with
  | false =>
   rw [bc_false,S.eqC_of (S.go_ge c (ltI_false.1 hl))]
   trivial
  | true =>
   have hi:=ltI_true.1 hl
   have b3:S.inR (i + 1) 1000=true:=S.inR_iff.2 (by omega)
   have hq:=S.okQ_step h0
   rw [w (by omega),hq,h1,b3,S.okQ_C h0,bc_true,bc_true,S.eqC_of (S.go_lt c hi)]
   exact ⟨IH hi hq,trivial⟩
theorem di_lok:∀ (k:Nat) (c:S.Chip) (kd st ad v m i:Int),S.okQ c=true→S.inR st 65536=true→S.inR i 1000=true→(S.stn st - i).toNat=k→di_T c kd st ad v m i:=by
 intro k
 induction k with
 | zero =>
  intro c kd st ad v m i h0 h1 h2 hk
  exact di_con c kd st ad v m i h0 h1 h2 fun hi _=>by omega
 | succ k ih =>
  intro c kd st ad v m i h0 h1 h2 hk
  exact di_con c kd st ad v m i h0 h1 h2 fun hi hq=>ih _ kd st ad v m (i + 1) hq h1 (S.inR_iff.2 (by have:=S.inR_iff.1 (S.stn_rng h1); have:=S.inR_iff.1 h2; omega)) (by omega)
theorem di_blk (c:S.Chip) (kd st ad v m i:Int) (h0:S.okQ c=true) (h1:S.inR st 65536=true) (h2:S.inR i 1000=true):di_B c kd st ad v m i:=by
 have hb:blkOf 27 1=.block 1 (.loop (inner (inner (blkOf 27 1)))):=by kernel_rfl
 unfold di_B K.BOk
 rw [hb]
 exact K.CT.block (K.GT.loop (di_lok _ c kd st ad v m i h0 h1 h2 rfl))
theorem kDid_run (c:S.Chip) (kd st ad v m:Int):K.bodyF (kDidVz) (K.runF (kDidVz) 30) 27 [.ptr 0 0,.agg [.int .i64 kd,.int .u16 st,.int .u16 ad,.int .u8 v,.int .i64 m]] (Heap.of (S.hp0 c)) (.skip 3 (.fork (.skip 0 (.take true .auto)) .auto)) (K.endC K.openE 40 ⟨.ret (.tup []),(hpCh (S.didC kd st ad v m c)),[]⟩) =
  (bc (eqI (Int.tmod (wrapK .i64 (Int.tmod kd 7 + 7)) 7) 0) (eqI (Int.tmod (wrapK .i64 (Int.tmod kd 7 + 7)) 7) (0:Int)=true∧(bc (S.an (S.okQ c) (S.an (S.inR st 65536) (S.inR 0 1000))) (di_B c kd st ad v m 0∧(S.eqC (S.didC kd st ad v m c) (S.goC (Int.toNat (S.stn st - 0)) c) True)) False)) (bc (eqI (Int.tmod (wrapK .i64 (Int.tmod kd 7 + 7)) 7) 1) (bc (S.an (S.okQ c) (S.an (S.inR st 65536) (S.inR 0 1000))) (di_B c kd st ad v m 0∧(S.eqC (S.didC kd st ad v m c) (S.goC (Int.toNat (S.stn st - 0)) c) True)) False) (bc (eqI (Int.tmod (wrapK .i64 (Int.tmod kd 7 + 7)) 7) 5) (bc (S.okQ c) (S.eqC (S.didC kd st ad v m c) c True) False) (bc (eqI (Int.tmod (wrapK .i64 (Int.tmod kd 7 + 7)) 7) 6) (S.eqC (S.didC kd st ad v m c) (S.inC m v c) True) (bc (S.okC c) (S.eqC (S.didC kd st ad v m c) (S.storeC ad v c) True) False))))):=by kernel_rfl
theorem kDid_con (c:S.Chip) (kd st ad v m:Int) (h0:S.an (S.okQ c) (S.an (S.inR st 65536) (S.inR v 256))=true)  : HTr Tryz.prog 27 [.ptr 0 0,.agg [.int .i64 kd,.int .u16 st,.int .u16 ad,.int .u8 v,.int .i64 m]] (S.hp0 c) ⟨.ret (.tup []),(hpCh (S.didC kd st ad v m c)),[]⟩:=by
 refine K.con_of_run good (A:=kDidVz) (envB_ok ?_) K.openE_ok (k:=30) (cast (kDid_run c kd st ad v m).symm ?_)
 ·intro p hp; simp only [List.mem_cons,List.not_mem_nil,or_false] at hp; rcases hp with rfl | rfl | rfl; exact kRead_ok; exact kInD_ok; exact kStore_ok
 ·obtain ⟨h1,h2⟩:=S.an_iff.1 h0
  obtain ⟨h3,h4⟩:=S.an_iff.1 h2
  have ek:Int.tmod (wrapK .i64 (Int.tmod kd 7 + 7)) 7=S.kk7 kd:=rfl
  have z:S.inR 0 1000=true:=rfl
  have e0:(S.stn st - 0).toNat=(S.stn st).toNat:=by rw [Int.sub_zero]
  have B:=di_blk c kd st ad v m 0 h1 h3 z
  simp only [ek,h1,S.okQ_C h1,h3,z,e0,bc_true,S.an]
  cases k0:eqI (S.kk7 kd) 0 with
  | true =>
   simp only [bc_true,true_and]
   rw [S.eqC_of (S.did_0 (by rw [k0]; rfl))]
   exact ⟨B,trivial⟩
  | false =>
   cases k1:eqI (S.kk7 kd) 1 with
   | true =>
    simp only [bc_true,bc_false]
    rw [S.eqC_of (S.did_0 (by rw [k0,k1]; rfl))]
    exact ⟨B,trivial⟩
   | false =>
    have ko:S.orb (eqI (S.kk7 kd) 0) (eqI (S.kk7 kd) 1)=false:=by rw [k0,k1]; rfl
    cases k5:eqI (S.kk7 kd) 5 with
    | true =>
     simp only [bc_true,bc_false]
     rw [S.eqC_of (S.did_5 ko k5)]
     trivial
    | false =>
     cases k6:eqI (S.kk7 kd) 6 with
     | true =>
      simp only [bc_true,bc_false]
      rw [S.eqC_of (S.did_6 ko k5 k6)]
      trivial
     | false =>
      simp only [bc_true,bc_false]
      rw [S.eqC_of (S.did_2 ko k5 k6)]
      trivial
theorem kDid_ok:kDidE.ok Tryz.prog 27:=by
 intro xs os b r h h3
 unfold kDidE at h
 simp only at h
 split at h
 ·obtain ⟨c,rfl,q⟩:=S.onChip_some h
  clear h
  injection q with h; injection h with h1 h2; subst h1; subst h2
  exact kDid_con _ _ _ _ _ _ h3
 ·cases h
end Go.Proofs.YtnpbgnjiihecgaaGreat.Ev
namespace Go.Proofs.YtnpbgnjiihecgaaGreat.Ev
open Go
set_option linter.unusedVariables false
set_option linter.unusedSimpArgs false
set_option maxRecDepth 100000
set_option maxHeartbeats 1000000
namespace S
theorem okActs21_at:∀ (i:Nat) (vs:List LV),okActs21 vs=true→i * 5 < vs.length→inR (intOf (K.atV vs (i * 5 + 1))) 65536=true∧inR (intOf (K.atV vs (i * 5 + 3))) 256=true
 | 0,vs,h,hl=>by
  match vs,h,hl with
  | _::t::_::c::_::r,h,_ =>
   simp only [okActs21,an_iff] at h
   exact h.1
  | [_],h,_=>simp [okActs21] at h
  | [_,_],h,_=>simp [okActs21] at h
  | [_,_,_],h,_=>simp [okActs21] at h
  | [_,_,_,_],h,_=>simp [okActs21] at h
 | i + 1,vs,h,hl=>by
  match vs,h,hl with
  | _::t::_::c::_::r,h,hl =>
   simp only [okActs21,an_iff] at h
   have:=okActs21_at i r h.2 (by simp at hl; omega)
   have e:∀ x a b c d e,K.atV (a::b::c::d::e::r) ((i + 1) * 5 + x)=K.atV r (i * 5 + x):=by
    intro x a b c d e
    unfold K.atV
    rw [show (i + 1) * 5 + x=(i * 5 + x) + 1 + 1 + 1 + 1 + 1 by omega]
    rfl
   rw [e,e]; exact this
  | [_],_,hl=>simp at hl
  | [_,_],h,_=>simp [okActs21] at h
  | [_,_,_],h,_=>simp [okActs21] at h
  | [_,_,_,_],h,_=>simp [okActs21] at h
theorem okVs21_iff {vs:List LV} {L:Nat} : okVs21 vs L=true↔okActs21 vs=true∧lenL vs=L * 5:=by
 unfold okVs21
 rw [an_iff]
 constructor
 ·exact fun h=>⟨h.1,Nat.eq_of_beq_eq_true h.2⟩
 ·exact fun h=>⟨h.1,by rw [h.2]; exact Nat.beq_refl _⟩
theorem v21_rng {vs:List LV} {L:Nat} {i:Int} (h:okVs21 vs L=true) (h0:0≤i) (h1:i < L):inR (av vs i 1) 65536=true∧inR (av vs i 3) 256=true:=by
 obtain ⟨h,hl⟩:=okVs21_iff.1 h
 unfold av
 rw [K.lenL_eq] at hl
 rw [Nat.zero_add]
 exact okActs21_at i.toNat vs h (by omega)
theorem okVs21_of (l:List Act21) (hl:∀ a,a∈l→(0≤a.steps∧a.steps≤65535)∧0≤a.v∧a.v≤255):okVs21 (acts21 l) l.length=true:=by
 have hlen:lenL (acts21 l)=l.length * 5:=by rw [K.lenL_eq]; exact flatMap_length _ 5 (fun _=>rfl) l
 refine okVs21_iff.2 ⟨?_,hlen⟩
 clear hlen
 induction l with
 | nil=>rfl
 | cons a l ih =>
  show an (an (inR a.steps 65536) (inR a.v 256)) (okActs21 (acts21 l))=true
  have:=hl a (by simp)
  rw [ih fun b hb=>hl b (by simp [hb]),inR_iff.2 ⟨this.1.1,(by omega:a.steps < 65536)⟩,inR_iff.2 ⟨this.2.1,(by omega:a.v < 256)⟩]; rfl
theorem okQ_act {vs:List LV} {L:Nat} {i:Int} {c:Chip} (h:okVs21 vs L=true) (h0:0≤i) (h1:i < L) (hc:okQ c=true):okQ (actC vs i c)=true:=okQ_did (v21_rng h h0 h1).2 hc
theorem cl228_rng {k:Int} (h:inR k 256=true):inR (cl228 k) 228=true:=by
 have h1:=inR_iff.1 h
 unfold cl228
 rw [show wrapK .i64 k=k by rw [wrapK_i64]; omega,Int.tmod_eq_emod_of_nonneg h1.1,inR_iff]
 omega
theorem eqD_of {a b:Chip} {r:Prop} (h:a=b):eqD a b r=r:=by
 subst h
 unfold eqD
 simp only [eq_self,true_and]
theorem okVs21_nil:okVs21 [] 0=true:=rfl
theorem made_lt {L:Nat} {i:Int} (vs:List LV) (c:Chip) (h:i < L):madeC vs ((L:Int) - i).toNat i c=madeC vs ((L:Int) - (i + 1)).toNat (i + 1) (actC vs i c):=by
 rw [show ((L:Int) - i).toNat=((L:Int) - (i + 1)).toNat + 1 by omega]; rfl
theorem made_ge {L:Nat} {i:Int} (vs:List LV) (c:Chip) (h:(L:Int)≤i):madeC vs ((L:Int) - i).toNat i c=c:=by
 rw [show ((L:Int) - i).toNat=0 by omega]; rfl
end S
theorem md_run (et L q:Nat) (w:Own) (vs:List LV) (c:S.Chip) (i:Int):K.RunL (envL [(27,kDidE)]) K.openE 30 11 24 (inner (inner (blkOf 11 0))) mdEB [(5,.ptr 0 0),(1,.slice 40 0 L (.known q)),(6,.int .i64 i)] (S.hp0 c++[.flat [.i .i64,.i .u16,.i .u16,.i .u8,.i .i64] et w vs]) Hint.auto ⟨.exit 0,[(5,.ptr 0 0)],(hpCh (S.madeC vs (L - i).toNat i c)),[]⟩ =
  (bc (ltI i ↑L) (bc (ltI i 0) False (bc (ltI i ↑L) (bc (Nat.ble (0 + Int.toNat i * 5 + 5) (lenL vs)) (K.kindAt [CK.i .i64,CK.i .u16,CK.i .u16,CK.i .u8,CK.i .i64] (0 + Int.toNat i * 5)=CK.i .i64∧(K.kindAt [CK.i .i64,CK.i .u16,CK.i .u16,CK.i .u8,CK.i .i64] (0 + Int.toNat i * 5 + 1)=CK.i .u16∧(K.kindAt [CK.i .i64,CK.i .u16,CK.i .u16,CK.i .u8,CK.i .i64] (0 + Int.toNat i * 5 + 1 + 1)=CK.i .u16∧(K.kindAt [CK.i .i64,CK.i .u16,CK.i .u16,CK.i .u8,CK.i .i64] (0 + Int.toNat i * 5 + 1 + 1 + 1)=CK.i .u8∧(K.kindAt [CK.i .i64,CK.i .u16,CK.i .u16,CK.i .u8,CK.i .i64] (0 + Int.toNat i * 5 + 1 + 1 + 1 + 1)=CK.i .i64∧(bc (S.an (S.okQ c) (S.an (S.inR (intOf (K.atV vs (0 + Int.toNat i * 5 + 1))) 65536) (S.inR (intOf (K.atV vs (0 + Int.toNat i * 5 + 1 + 1 + 1))) 256))) (bc (S.an (S.okQ (S.didC (intOf (K.atV vs (0 + Int.toNat i * 5))) (intOf (K.atV vs (0 + Int.toNat i * 5 + 1))) (intOf (K.atV vs (0 + Int.toNat i * 5 + 1 + 1))) (intOf (K.atV vs (0 + Int.toNat i * 5 + 1 + 1 + 1))) (intOf (K.atV vs (0 + Int.toNat i * 5 + 1 + 1 + 1 + 1))) c)) (S.an (S.okVs21 vs L) (S.an (S.inR (wrapK .i64 (i + 1)) 1000) (notB (ltI 900 ↑L))))) (md_T et L q w vs (S.didC (intOf (K.atV vs (0 + Int.toNat i * 5))) (intOf (K.atV vs (0 + Int.toNat i * 5 + 1))) (intOf (K.atV vs (0 + Int.toNat i * 5 + 1 + 1))) (intOf (K.atV vs (0 + Int.toNat i * 5 + 1 + 1 + 1))) (intOf (K.atV vs (0 + Int.toNat i * 5 + 1 + 1 + 1 + 1))) c) (wrapK .i64 (i + 1))∧((0:Nat)=0∧(S.eqC (S.madeC vs (Int.toNat (↑L - i)) i c) (S.madeC vs (Int.toNat (↑L - wrapK .i64 (i + 1))) (wrapK .i64 (i + 1)) (S.didC (intOf (K.atV vs (0 + Int.toNat i * 5))) (intOf (K.atV vs (0 + Int.toNat i * 5 + 1))) (intOf (K.atV vs (0 + Int.toNat i * 5 + 1 + 1))) (intOf (K.atV vs (0 + Int.toNat i * 5 + 1 + 1 + 1))) (intOf (K.atV vs (0 + Int.toNat i * 5 + 1 + 1 + 1 + 1))) c)) True))) False) False)))))) False) False)) ((0:Nat)=0∧(S.eqC (S.madeC vs (Int.toNat (↑L - i)) i c) c True))):=by kernel_rfl
theorem md_con (et L q:Nat) (w:Own) (vs:List LV) (c:S.Chip) (i:Int) (h0:S.okQ c=true) (h1:S.okVs21 vs L=true) (h2:S.inR i 1000=true) (h3:(L:Int)≤900) (IH:i < L→S.okQ (S.actC vs i c)=true→md_T et L q w vs (S.actC vs i c) (i + 1)):GTr Tryz.prog (inner (inner (blkOf 11 0))) 11 24 [(5,.ptr 0 0),(1,.slice 40 0 L (.known q)),(6,.int .i64 i)] (S.hp0 c++[.flat [.i .i64,.i .u16,.i .u16,.i .u8,.i .i64] et w vs]) ⟨.exit 0,[(5,.ptr 0 0)],(hpCh (S.madeC vs (L - i).toNat i c)),[]⟩:=by
 refine K.loop_of_run good (A:=envL [(27,kDidE)]) (envL_ok ?_) K.openE_ok (k:=30) (ent:=mdEB) (cast (md_run et L q w vs c i).symm ?_)
 ·intro p hp; simp only [List.mem_cons,List.not_mem_nil,or_false] at hp; rcases hp with rfl; exact kDid_ok
 ·have b2:=S.inR_iff.1 h2
  have w:i < 999→wrapK .i64 (i + 1)=i + 1:=fun _=>by rw [wrapK_i64]; omega
  cases hl:ltI i L with
  | false =>
   simp only [bc_false,S.eqC_of (S.made_ge vs c (ltI_false.1 hl)),and_self]
  | true =>
   have hi:=ltI_true.1 hl
   have hv:=(S.okVs21_iff.1 h1).2
   have e0:ltI i 0=false:=ltI_false.2 b2.1
   have bl:Nat.ble (0 + Int.toNat i * 5 + 5) (lenL vs)=true:=Nat.ble_eq_true_of_le (by rw [hv]; omega)
   have k0:K.kindAt [.i .i64,.i .u16,.i .u16,.i .u8,.i .i64] (0 + Int.toNat i * 5)=.i .i64:=by rw [Nat.zero_add]; exact kindAt_rows [.i .i64,.i .u16,.i .u16,.i .u8,.i .i64] i.toNat 0
   have k1:K.kindAt [.i .i64,.i .u16,.i .u16,.i .u8,.i .i64] (0 + Int.toNat i * 5 + 1)=.i .u16:=by rw [Nat.zero_add]; exact kindAt_rows [.i .i64,.i .u16,.i .u16,.i .u8,.i .i64] i.toNat 1
   have k2:K.kindAt [.i .i64,.i .u16,.i .u16,.i .u8,.i .i64] (0 + Int.toNat i * 5 + 1 + 1)=.i .u16:=by rw [Nat.zero_add]; exact kindAt_rows [.i .i64,.i .u16,.i .u16,.i .u8,.i .i64] i.toNat 2
   have k3:K.kindAt [.i .i64,.i .u16,.i .u16,.i .u8,.i .i64] (0 + Int.toNat i * 5 + 1 + 1 + 1)=.i .u8:=by rw [Nat.zero_add]; exact kindAt_rows [.i .i64,.i .u16,.i .u16,.i .u8,.i .i64] i.toNat 3
   have k4:K.kindAt [.i .i64,.i .u16,.i .u16,.i .u8,.i .i64] (0 + Int.toNat i * 5 + 1 + 1 + 1 + 1)=.i .i64:=by rw [Nat.zero_add]; exact kindAt_rows [.i .i64,.i .u16,.i .u16,.i .u8,.i .i64] i.toNat 4
   have ea:S.didC (intOf (K.atV vs (0 + Int.toNat i * 5))) (intOf (K.atV vs (0 + Int.toNat i * 5 + 1))) (intOf (K.atV vs (0 + Int.toNat i * 5 + 1 + 1))) (intOf (K.atV vs (0 + Int.toNat i * 5 + 1 + 1 + 1))) (intOf (K.atV vs (0 + Int.toNat i * 5 + 1 + 1 + 1 + 1))) c=S.actC vs i c:=rfl
   obtain ⟨r1,r3⟩:=S.v21_rng h1 b2.1 hi
   have r1:S.inR (intOf (K.atV vs (0 + Int.toNat i * 5 + 1))) 65536=true:=r1
   have r3:S.inR (intOf (K.atV vs (0 + Int.toNat i * 5 + 1 + 1 + 1))) 256=true:=r3
   have hq:=S.okQ_act h1 b2.1 hi h0
   have b3:S.inR (i + 1) 1000=true:=S.inR_iff.2 (by omega)
   have hL:notB (ltI 900 L)=true:=by rw [ltI_false.2 (by omega)]; rfl
   have ih:=IH hi hq
   simp only [e0,bl,k0,k1,k2,k3,k4,r1,r3,h0,S.an,w (by omega),ea,hq,h1,b3,hL,bc_true,bc_false,true_and,S.eqC_of (S.made_lt vs c hi)]
   simp only [ih,and_self]
theorem md_lok (et L q:Nat) (w:Own) (vs:List LV) (h1:S.okVs21 vs L=true) (h3:(L:Int)≤900):∀ (k:Nat) (c:S.Chip) (i:Int),S.okQ c=true→S.inR i 1000=true→(L - i).toNat=k→md_T et L q w vs c i:=by
 intro k
 induction k with
 | zero =>
  intro c i h0 h2 hk
  exact md_con et L q w vs c i h0 h1 h2 h3 fun hi _=>by omega
 | succ k ih =>
  intro c i h0 h2 hk
  exact md_con et L q w vs c i h0 h1 h2 h3 fun hi hq=>ih _ (i + 1) hq (S.inR_iff.2 (by have:=S.inR_iff.1 h2; omega)) (by omega)
theorem md_blk (et L q:Nat) (w:Own) (vs:List LV) (h1:S.okVs21 vs L=true) (h3:(L:Int)≤900) (c:S.Chip) (i:Int) (h0:S.okQ c=true) (h2:S.inR i 1000=true):md_B et L q w vs c i:=by
 have hb:blkOf 11 0=.block 0 (.loop (inner (inner (blkOf 11 0)))):=by kernel_rfl
 unfold md_B K.BOk
 rw [hb]
 exact K.CT.block (K.GT.loop (md_lok et L q w vs h1 h3 _ c i h0 h2 rfl))
theorem mkN_run (k:Int):K.bodyF (envL [(18,kNewCE)]) (K.runF (envL [(18,kNewCE)]) 30) 11 [.int .u8 k,.nils] (Heap.of []) Hint.auto (K.endC K.openE 0 ⟨.ret (.ptr 0 0),[],(S.hpP 0 (S.mkC [] 0 k))⟩) =
  (bc (S.inR (Int.tmod (wrapK .i64 k) 228) 228) ((0:Nat)=0∧(S.eqD (S.mkC [] 0 k) (S.newC (Int.tmod (wrapK .i64 k) 228)) True)) False):=by kernel_rfl
theorem mkN_con (k:Int) (h0:S.inR k 256=true)  : HTr Tryz.prog 11 [.int .u8 k,.nils] [] ⟨.ret (.ptr 0 0),[],(S.hpP 0 (S.mkC [] 0 k))⟩:=by
 refine K.con_of_run good (A:=envL [(18,kNewCE)]) (envL_ok ?_) K.openE_ok (k:=30) (cast (mkN_run k).symm ?_)
 ·intro p hp; simp only [List.mem_cons,List.not_mem_nil,or_false] at hp; rcases hp with rfl; exact kNewC_ok
 ·have hk:S.inR k 256=true:=h0
  have ek:Int.tmod (wrapK .i64 k) 228=S.cl228 k:=rfl
  have e:S.mkC [] 0 k=S.newC (S.cl228 k):=rfl
  simp only [ek,S.cl228_rng hk,bc_true,S.eqD_of e,and_self]
theorem mkE_run (k:Int):K.bodyF (envL [(18,kNewCE)]) (K.runF (envL [(18,kNewCE)]) 30) 11 [.int .u8 k,.emp 0] (Heap.of [.empty]) Hint.auto (K.endC K.openE 1 ⟨.ret (.ptr 1 0),[],(S.hpP 1 (S.mkC [] 0 k))⟩) =
  (bc (S.inR (Int.tmod (wrapK .i64 k) 228) 228) ((0:Nat)=0∧(S.eqD (S.mkC [] 0 k) (S.newC (Int.tmod (wrapK .i64 k) 228)) True)) False):=by kernel_rfl
theorem mkE_con (k:Int) (h0:S.inR k 256=true)  : HTr Tryz.prog 11 [.int .u8 k,.emp 0] [.empty] ⟨.ret (.ptr 1 0),[],(S.hpP 1 (S.mkC [] 0 k))⟩:=by
 refine K.con_of_run good (A:=envL [(18,kNewCE)]) (envL_ok ?_) K.openE_ok (k:=30) (cast (mkE_run k).symm ?_)
 ·intro p hp; simp only [List.mem_cons,List.not_mem_nil,or_false] at hp; rcases hp with rfl; exact kNewC_ok
 ·have hk:S.inR k 256=true:=h0
  have ek:Int.tmod (wrapK .i64 k) 228=S.cl228 k:=rfl
  have e:S.mkC [] 0 k=S.newC (S.cl228 k):=rfl
  simp only [ek,S.cl228_rng hk,bc_true,S.eqD_of e,and_self]
theorem mkS_run (et L q:Nat) (w:Own) (vs:List LV) (k:Int):K.bodyF (envB [(18,kNewCE)] (fun g id=>bc (Nat.beq g 11) (bc (Nat.beq id 0) (some mdBB) (none)) (none))) (K.runF (envB [(18,kNewCE)] (fun g id=>bc (Nat.beq g 11) (bc (Nat.beq id 0) (some mdBB) (none)) (none))) 30) 11 [.int .u8 k,.slice 0 0 L (.known q)] (Heap.of [.flat [.i .i64,.i .u16,.i .u16,.i .u8,.i .i64] et w vs]) Hint.auto (K.endC K.openE 1 ⟨.ret (.ptr 1 0),[],(S.hpP 1 (S.mkC vs L k))⟩) =
  (bc (S.inR (Int.tmod (wrapK .i64 k) 228) 228) (bc (S.an (S.okQ (S.newC (Int.tmod (wrapK .i64 k) 228))) (S.an (S.okVs21 vs L) (S.an (S.inR 0 1000) (notB (ltI 900 ↑L))))) (md_B et L q w vs (S.newC (Int.tmod (wrapK .i64 k) 228)) 0∧((0:Nat)=0∧(S.eqD (S.mkC vs L k) (S.madeC vs (Int.toNat (↑L - 0)) 0 (S.newC (Int.tmod (wrapK .i64 k) 228))) True))) False) False):=by kernel_rfl
theorem mkS_con (et L q:Nat) (w:Own) (vs:List LV) (k:Int) (h0:S.an (S.inR k 256) (S.an (S.okVs21 vs L) (notB (ltI 900 L)))=true)  : HTr Tryz.prog 11 [.int .u8 k,.slice 0 0 L (.known q)] [.flat [.i .i64,.i .u16,.i .u16,.i .u8,.i .i64] et w vs] ⟨.ret (.ptr 1 0),[],(S.hpP 1 (S.mkC vs L k))⟩:=by
 refine K.con_of_run good (A:=envB [(18,kNewCE)] (fun g id=>bc (Nat.beq g 11) (bc (Nat.beq id 0) (some mdBB) (none)) (none))) (envB_ok ?_) K.openE_ok (k:=30) (cast (mkS_run et L q w vs k).symm ?_)
 ·intro p hp; simp only [List.mem_cons,List.not_mem_nil,or_false] at hp; rcases hp with rfl; exact kNewC_ok
 ·obtain ⟨hk,h1⟩:=S.an_iff.1 h0
  obtain ⟨hv,h2⟩:=S.an_iff.1 h1
  have hL:=ltI_false.1 ((notB_true).1 h2)
  have ek:Int.tmod (wrapK .i64 k) 228=S.cl228 k:=rfl
  have z:S.inR 0 1000=true:=rfl
  have hq:=S.okQ_new (S.cl228_rng hk)
  have B:=md_blk et L q w vs hv hL (S.newC (S.cl228 k)) 0 hq z
  have e:S.mkC vs L k=S.madeC vs (Int.toNat ((L:Int) - 0)) 0 (S.newC (S.cl228 k)):=by rw [Int.sub_zero]; rfl
  simp only [ek,S.cl228_rng hk,hq,hv,z,h2,S.an,bc_true,S.eqD_of e,true_and,and_true]
  exact B

theorem mkA_ok:mkAE.ok Tryz.prog 11:=by
 intro xs os b r h h3
 unfold mkAE at h
 simp only at h
 split at h
 ·injection h with h; injection h with h1 h2; subst h1; subst h2
  exact mkN_con _ h3
 ·injection h with h; injection h with h1 h2; subst h1; subst h2
  exact mkE_con _ h3
 ·injection h with h; injection h with h1 h2; subst h1; subst h2
  exact mkS_con _ _ _ _ _ _ h3
 ·cases h
end Go.Proofs.YtnpbgnjiihecgaaGreat.Ev
namespace Go.Proofs.YtnpbgnjiihecgaaGreat.Ev
open Go
set_option linter.unusedVariables false
set_option linter.unusedSimpArgs false
set_option maxRecDepth 100000
set_option maxHeartbeats 1000000
namespace S
theorem pos_ex {c:Chip} (h:okC c=true):0≤pos c∧pos c < 228∧c.ba=pos c % 4∧c.bs=st (pos c / 4):=by
 obtain ⟨n,h0,h1,ha,hs⟩:=okBm_ex (okC_iff.1 h).1
 have e:pos c=n:=by unfold pos; rw [ha,hs,bm_plc h0 h1]
 rw [e]; exact ⟨h0,h1,ha,hs⟩
theorem pos_step {c:Chip} (h:okC c=true):pos (stepC c)=(pos c + 1) % 228:=by
 obtain ⟨h0,h1,ha,hs⟩:=pos_ex h
 show plc (bc (ltI (c.ba + 1) 4) (c.ba + 1) 0) (bc (ltI (c.ba + 1) 4) c.bs (bc (eqI c.bs 20) 0 (nx c.bs)))=_
 rw [ha,hs,bm_a h0 h1,show bc (ltI (pos c % 4 + 1) 4) (st (pos c / 4)) (bc (eqI (st (pos c / 4)) 20) 0 (nx (st (pos c / 4))))=st (((pos c + 1) % 228) / 4) from bm_s h0 h1,bm_plc (by omega) (by omega)]
theorem beg_eq {c:Chip} (h:okC c=true):sBeg c.ba c.bs=eqI (pos c) 0:=by
 obtain ⟨h0,h1,ha,hs⟩:=pos_ex h
 rw [Bool.eq_iff_iff,eqI_true]
 unfold sBeg
 rw [an_iff,eqI_true,eqI_true,ha,hs]
 constructor
 ·rintro ⟨e1,e2⟩
  have:=st_inj (i:=pos c / 4) (j:=0) (by omega) (by omega) (by decide) (by decide) (by rw [e2,st0])
  omega
 ·intro e
  rw [e]
  exact ⟨rfl,st0⟩
theorem ix_eq {c:Chip} (h:okC c=true):ix c.bs=pos c / 4:=by
 obtain ⟨h0,h1,ha,hs⟩:=pos_ex h
 rw [hs,ix_st (by omega) (by omega)]
theorem late_step {c:Chip} (h:okC c=true):(stepC c).late=bc (eqI (pos c) 0) false c.late:=by
 show sLate c.ba c.bs c.late=_
 unfold sLate
 rw [beg_eq h]
theorem okZ_Q {c:Chip} (h:okZ c=true):okQ c=true:=(an_iff.1 h).1
theorem okZ_C {c:Chip} (h:okZ c=true):okC c=true:=okQ_C (okZ_Q h)
theorem okZ_m {c:Chip} (h:okZ c=true):(0≤c.mc∧c.mc < 17)∧0≤c.mg∧c.mg < 4:=by
 have:=(an_iff.1 h).2
 rw [an_iff,inR_iff,inR_iff] at this
 exact this
theorem mAct_iff {mc mg k:Int} (hk:0≤k):mAct mc mg k=true↔mc < 16∧3≤mg∧k % 4=0:=by
 unfold mAct
 rw [an_iff,an_iff,ltI_true,notB_true,ltI_false,eqI_true,Int.tmod_eq_emod_of_nonneg hk]
theorem mLast_iff {mc:Int} (h0:0≤mc) (h1:mc < 17):mLast mc=true↔mc=15:=by
 unfold mLast
 rw [eqI_true,show wrapK .i64 (mc + 1)=mc + 1 by rw [wrapK_i64]; omega]
 omega
theorem mC_eq {mc mg k:Int} (h0:0≤mc) (h1:mc < 17) (hk:0≤k):mC mc mg k=if mc < 16∧3≤mg∧k % 4=0 then mc + 1 else mc:=by
 unfold mC
 cases h:mAct mc mg k with
 | true=>rw [if_pos ((mAct_iff hk).1 h),bc_true,wrapK_i64]; omega
 | false=>rw [if_neg (fun e=>by rw [(mAct_iff hk).2 e] at h; cases h),bc_false]
theorem mG_eq {mc mg k:Int} (h0:0≤mc) (h1:mc < 17) (g0:0≤mg) (g1:mg < 4) (hk:0≤k):mG mc mg k=if mc < 16 then (if mg < 3 then mg + 1 else if k % 4=0∧mc=15 then 0 else mg) else mg:=by
 unfold mG
 by_cases a:mc < 16
 ·rw [ltI_true.2 a,bc_true,if_pos a]
  by_cases b:mg < 3
  ·rw [ltI_true.2 b,bc_true,if_pos b,wrapK_i64]; omega
  ·rw [ltI_false.2 (by omega),bc_false,if_neg b]
   cases h:an (eqI (k.tmod 4) 0) (mLast mc) with
   | true =>
    rw [an_iff,eqI_true,Int.tmod_eq_emod_of_nonneg hk,mLast_iff h0 h1] at h
    rw [if_pos h,bc_true]
   | false =>
    rw [if_neg,bc_false]
    intro e
    rw [show an (eqI (k.tmod 4) 0) (mLast mc)=true by rw [an_iff,eqI_true,Int.tmod_eq_emod_of_nonneg hk,mLast_iff h0 h1]; exact e] at h
    cases h
 ·rw [ltI_false.2 (by omega),bc_false,if_neg a]
theorem mc_step {c:Chip} (h:okZ c=true):(stepC c).mc=if c.mc < 16∧3≤c.mg∧pos c % 4=0 then c.mc + 1 else c.mc:=by
 obtain ⟨⟨h0,h1⟩,g0,g1⟩:=okZ_m h
 exact mC_eq h0 h1 (pos_ex (okZ_C h)).1
theorem mg_step {c:Chip} (h:okZ c=true):(stepC c).mg=if c.mc < 16 then (if c.mg < 3 then c.mg + 1 else if pos c % 4=0∧c.mc=15 then 0 else c.mg) else c.mg:=by
 obtain ⟨⟨h0,h1⟩,g0,g1⟩:=okZ_m h
 exact mG_eq h0 h1 g0 g1 (pos_ex (okZ_C h)).1
theorem okZ_step {c:Chip} (h:okZ c=true):okZ (stepC c)=true:=by
 obtain ⟨⟨h0,h1⟩,g0,g1⟩:=okZ_m h
 unfold okZ
 rw [an_iff,an_iff,inR_iff,inR_iff,mc_step h,mg_step h]
 refine ⟨okQ_step (okZ_Q h),?_,?_⟩
 ·split <;> omega
 ·split
  ·split
   ·omega
   ·split <;> omega
  ·omega
theorem okZ_go {n:Nat} : ∀ {c:Chip},okZ c=true→okZ (goC n c)=true:=by
 induction n with
 | zero=>exact fun h=>h
 | succ n ih=>exact fun h=>ih (okZ_step h)
theorem mu_step {c:Chip} (h:okZ c=true):mu (stepC c)=if 0 < mu c then mu c - 1 else 0:=by
 obtain ⟨⟨h0,h1⟩,g0,g1⟩:=okZ_m h
 obtain ⟨p0,p1,_,_⟩:=pos_ex (okZ_C h)
 have ep:=pos_step (okZ_C h)
 unfold mu
 rw [mc_step h,mg_step h,ep]
 by_cases a:c.mc < 16
 ·by_cases b:c.mg < 3
  ·simp only [a,b,if_true,true_and]
   rw [if_neg (show ¬ (3≤c.mg∧pos c % 4=0) by omega)]
   simp only [a,if_true]
   split <;> omega
  ·have g:c.mg=3:=by omega
   simp only [a,b,if_true,if_false,true_and]
   by_cases d:pos c % 4=0
   ·by_cases e:c.mc=15
    ·simp only [d,e,and_self,and_true,if_true]
     rw [if_pos (show 3≤c.mg by omega)]
     rw [if_neg (by omega)]
     split <;> omega
    ·simp only [d,e,and_self,and_true,and_false,if_true,if_false]
     rw [if_pos (show 3≤c.mg by omega)]
     rw [if_pos (show c.mc + 1 < 16 by omega)]
     split <;> omega
   ·simp only [d,and_false,false_and,if_false,a,if_true]
    split <;> omega
 ·simp only [a,if_false,false_and,Int.lt_irrefl]
theorem mu_nn {c:Chip} (h:okZ c=true):0≤mu c∧mu c≤67:=by
 obtain ⟨⟨h0,h1⟩,g0,g1⟩:=okZ_m h
 unfold mu
 split <;> omega
theorem mu_go:∀ (n:Nat) {c:Chip},okZ c=true→mu (goC n c)=if (n:Int) < mu c then mu c - n else 0
 | 0,c,h=>by
  have:=mu_nn h
  show mu c=_
  split <;> omega
 | n + 1,c,h=>by
  have e:=mu_go n (okZ_step h)
  have:=mu_nn h
  have s:=mu_step h
  show mu (goC n (stepC c))=_
  rw [e,s]
  push_cast
  by_cases a:0 < mu c
  ·rw [if_pos a]
   split <;> split <;> omega
  ·rw [if_neg a]
   split <;> split <;> omega
theorem mc_go {n:Nat} {c:Chip} (h:okZ c=true) (hn:67≤n):(goC n c).mc=16:=by
 have e:=mu_go n h
 have:=mu_nn h
 rw [if_neg (by omega)] at e
 obtain ⟨⟨h0,h1⟩,g0,g1⟩:=okZ_m (okZ_go (n:=n) h)
 unfold mu at e
 split at e
 ·omega
 ·omega
theorem la_step {c:Chip} (h:okZ c=true):la (stepC c)=if 0 < la c then la c - 1 else 0:=by
 obtain ⟨p0,p1,_,_⟩:=pos_ex (okZ_C h)
 have ep:=pos_step (okZ_C h)
 unfold la
 rw [late_step (okZ_C h),ep]
 cases hl:c.late with
 | false=>cases eqI (pos c) 0 <;> simp [bc_true,bc_false]
 | true =>
  by_cases e:pos c=0
  ·rw [eqI_true.2 e,bc_true]; simp; omega
  ·rw [eqI_false.2 e,bc_false]; simp; omega
theorem la_nn {c:Chip} (h:okZ c=true):0≤la c∧la c≤228:=by
 unfold la
 split <;> omega
theorem la_go:∀ (n:Nat) {c:Chip},okZ c=true→la (goC n c)=if (n:Int) < la c then la c - n else 0
 | 0,c,h=>by
  have:=la_nn h
  show la c=_
  split <;> omega
 | n + 1,c,h=>by
  have e:=la_go n (okZ_step h)
  have:=la_nn h
  have s:=la_step h
  show la (goC n (stepC c))=_
  rw [e,s]
  push_cast
  by_cases a:0 < la c
  ·rw [if_pos a]
   split <;> split <;> omega
  ·rw [if_neg a]
   split <;> split <;> omega
theorem still_go {n:Nat} {c:Chip} (h:okZ c=true) (hn:228≤n):still (goC n c):=by
 refine ⟨?_,mc_go h (by omega)⟩
 have e:=la_go n h
 have:=la_nn h
 have p:=pos_ex (okZ_C (okZ_go (n:=n) h))
 rw [if_neg (by omega)] at e
 unfold la at e
 split at e
 ·omega
 ·rename_i hl
  cases hb:(goC n c).late with
  | false=>rfl
  | true=>exact absurd hb hl
theorem still_step {c:Chip} (h:okZ c=true) (hs:still c):still (stepC c):=by
 obtain ⟨h1,h2⟩:=hs
 refine ⟨?_,?_⟩
 ·rw [late_step (okZ_C h),h1]; cases eqI (pos c) 0 <;> rfl
 ·rw [mc_step h,h2,if_neg (by omega)]
theorem dark_still {c:Chip} (h:okZ c=true) (hs:still c):sDark c.ba c.bs c.late=ltI (pos c) 68:=by
 have p:=pos_ex (okZ_C h)
 have:sLate c.ba c.bs c.late=false:=by unfold sLate; rw [hs.1]; cases sBeg c.ba c.bs <;> rfl
 unfold sDark
 rw [this,bc_false,ix_eq (okZ_C h),Bool.eq_iff_iff,ltI_true,ltI_true]
 omega
theorem act_still {c:Chip} (hs:still c) (k:Int):mAct c.mc c.mg k=false:=by
 unfold mAct
 rw [hs.2]
 rfl
theorem thing_still {c:Chip} (h:okZ c=true) (hs:still c):(stepC c).t0=tkT (notB (ltI (pos c) 68)) c.r0.x4 c.t0∧(stepC c).t1=tkT (notB (ltI (pos c) 68)) c.r0.x5 c.t1∧(stepC c).t2=tkT (notB (ltI (pos c) 68)) c.r0.x4 c.t2∧(stepC c).t3=tkT (notB (ltI (pos c) 68)) c.r0.x5 c.t3∧(stepC c).t4=tkT (notB (ltI (pos c) 68)) 0 c.t4:=by
 have hd:=dark_still h hs
 have ha:=act_still hs (plc c.ba c.bs)
 have e:∀ x:Bool,bc (sDark c.ba c.bs c.late) (an (mAct c.mc c.mg (plc c.ba c.bs)) x) true=notB (ltI (pos c) 68):=fun x=>by
  rw [hd,ha,an_f rfl]; rfl
 refine ⟨?_,?_,?_,?_,?_⟩
 ·show tkT (bc (sDark c.ba c.bs c.late) (an (mAct c.mc c.mg (plc c.ba c.bs)) _) true) _ _=_
  rw [e]
 ·show tkT (bc (sDark c.ba c.bs c.late) (an (mAct c.mc c.mg (plc c.ba c.bs)) _) true) _ _=_
  rw [e]
 ·show tkT (bc (sDark c.ba c.bs c.late) (an (mAct c.mc c.mg (plc c.ba c.bs)) _) true) _ _=_
  rw [e]
 ·show tkT (bc (sDark c.ba c.bs c.late) (an (mAct c.mc c.mg (plc c.ba c.bs)) _) true) _ _=_
  rw [e]
 ·show tkT (bc (sDark c.ba c.bs c.late) (an (mAct c.mc c.mg (plc c.ba c.bs)) _) true) _ _=_
  rw [e]
theorem cnt_rng {t:Th} (h:okT t=true):0≤cnt t∧cnt t < 160:=plc_rng (t:=t) (an_iff.1 h).1
theorem cnt_tick {q:Int} {t:Th} (h:okT t=true):cnt (tk1 q t)=(cnt t + 1) % 160:=by
 obtain ⟨h1,h2⟩:=an_iff.1 h
 obtain ⟨m,m0,m1,ha,hs,_⟩:=okPm_iff h1
 obtain ⟨e1,e2⟩:=pl_tick m0 m1
 have ec:cnt t=m:=by unfold cnt; rw [ha,hs,pl_plc m0 m1]
 show plc (bc (ltI (t.a + 1) 4) (t.a + 1) 0) (bc (ltI (t.a + 1) 4) t.s (bc (eqI t.s (st 39)) 0 (nx t.s)))=_
 have:=nxp_rng m0 m1
 rw [ha,hs,e1,e2,pl_plc this.1 this.2,ec,nxp_eq m0 m1]
theorem phi_eq {c:Chip} {t:Th} {q:Int} (h:okZ c=true) (ht:okT t=true):(cnt (tkT (notB (ltI (pos c) 68)) q t) - seenN (pos (stepC c))) % 160=(cnt t - seenN (pos c)) % 160:=by
 obtain ⟨p0,p1,_,_⟩:=pos_ex (okZ_C h)
 have hc:=cnt_rng ht
 rw [pos_step (okZ_C h)]
 unfold seenN
 by_cases a:pos c < 68
 ·rw [ltI_true.2 a]
  show (cnt t - _) % 160=_
  rw [if_pos a]
  split <;> omega
 ·rw [ltI_false.2 (by omega)]
  show (cnt (tk1 q t) - _) % 160=_
  rw [cnt_tick ht,if_neg a]
  split <;> omega
theorem okT_of {c:Chip} (h:okZ c=true):okT c.t0=true∧okT c.t1=true∧okT c.t2=true∧okT c.t3=true∧okT c.t4=true :=
 (okTs_iff.1 (okC_iff.1 (okZ_C h)).2.2.1).2.2
noncomputable def phis (c:Chip):Int × Int × Int × Int × Int:=(phi c c.t0,phi c c.t1,phi c c.t2,phi c c.t3,phi c c.t4)
theorem phis_step {c:Chip} (h:okZ c=true) (hs:still c):phis (stepC c)=phis c:=by
 obtain ⟨e0,e1,e2,e3,e4⟩:=thing_still h hs
 obtain ⟨a0,a1,a2,a3,a4⟩:=okT_of h
 unfold phis phi
 rw [e0,e1,e2,e3,e4,phi_eq h a0,phi_eq h a1,phi_eq h a2,phi_eq h a3,phi_eq h a4]
theorem phis_go:∀ (n:Nat) {c:Chip},okZ c=true→still c→phis (goC n c)=phis c
 | 0,_,_,_=>rfl
 | n + 1,c,h,hs=>(phis_go n (okZ_step h) (still_step h hs)).trans (phis_step h hs)
theorem pos_go:∀ (n:Nat) {c:Chip},okZ c=true→pos (goC n c)=(pos c + n) % 228
 | 0,c,h=>by
  have:=pos_ex (okZ_C h)
  show pos c=_
  omega
 | n + 1,c,h=>by
  show pos (goC n (stepC c))=_
  rw [pos_go n (okZ_step h),pos_step (okZ_C h)]
  push_cast
  omega
theorem cnt_of {c d:Chip} {t u:Th} (hp:pos d=pos c) (ht:okT t=true) (hu:okT u=true) (h:phi d u=phi c t):cnt u=cnt t:=by
 have a:=cnt_rng ht
 have b:=cnt_rng hu
 unfold phi at h
 rw [hp] at h
 omega
theorem cnt_go {c:Chip} (h:okZ c=true) (hs:still c):cnt (goC 456 c).t0=cnt c.t0∧cnt (goC 456 c).t1=cnt c.t1∧cnt (goC 456 c).t2=cnt c.t2∧cnt (goC 456 c).t3=cnt c.t3∧cnt (goC 456 c).t4=cnt c.t4:=by
 have p:=pos_go 456 h
 have q:=pos_ex (okZ_C h)
 have hp:pos (goC 456 c)=pos c:=by rw [p]; omega
 have e:=phis_go 456 h hs
 unfold phis at e
 obtain ⟨a0,a1,a2,a3,a4⟩:=okT_of h
 obtain ⟨b0,b1,b2,b3,b4⟩:=okT_of (okZ_go (n:=456) h)
 injection e with e0 e
 injection e with e1 e
 injection e with e2 e
 injection e with e3 e4
 exact ⟨cnt_of hp a0 b0 e0,cnt_of hp a1 b1 e1,cnt_of hp a2 b2 e2,cnt_of hp a3 b3 e3,cnt_of hp a4 b4 e4⟩
theorem okZ_store {c:Chip} {addr v:Int} (hv:inR v 256=true) (h:okZ c=true):okZ (storeC addr v c)=true:=by
 obtain ⟨⟨h0,h1⟩,g0,g1⟩:=okZ_m h
 unfold okZ
 rw [an_iff,an_iff,inR_iff,inR_iff]
 exact ⟨okQ_store hv (okZ_Q h),rgP (P:=fun x=>0≤x∧x < 17) (by decide) ⟨h0,h1⟩,rgP (P:=fun x=>0≤x∧x < 4) (by decide) ⟨g0,g1⟩⟩
theorem okZ_in {c:Chip} {n v:Int} (hv:inR v 256=true) (h:okZ c=true):okZ (inC n v c)=true:=by
 unfold okZ
 rw [an_iff]
 exact ⟨okQ_in hv (okZ_Q h),(an_iff.1 h).2⟩
theorem okZ_new {k:Int} (h:inR k 228=true):okZ (newC k)=true:=by
 unfold okZ
 rw [an_iff]
 exact ⟨okQ_new h,rfl⟩
theorem okZ_did {kd st ad v m:Int} {c:Chip} (hv:inR v 256=true) (h:okZ c=true):okZ (didC kd st ad v m c)=true:=by
 unfold didC
 split
 ·exact okZ_go h
 ·split
  ·exact h
  ·split
   ·exact okZ_in hv h
   ·exact okZ_store hv h
theorem okZ_made {vs:List LV} {L:Nat} (h:okVs21 vs L=true):∀ (k:Nat) (i:Int) (c:Chip),0≤i→i + k≤L→okZ c=true→okZ (madeC vs k i c)=true
 | 0,_,_,_,_,hc=>hc
 | k + 1,i,c,h0,h1,hc=>okZ_made h k (i + 1) _ (by omega) (by omega) (okZ_did (v21_rng h h0 (by omega)).2 hc)
theorem okZ_mk {vs:List LV} {L:Nat} {k:Int} (h:okVs21 vs L=true) (hk:inR k 256=true):okZ (mkC vs L k)=true :=
 okZ_made h L 0 _ (by decide) (by omega) (okZ_new (cl228_rng hk))
theorem lev_rng {v:Vo} (h:okVo v=true):0≤lev v∧lev v < 16:=by
 unfold okVo at h
 rw [okV_iff] at h
 unfold lev vLevel
 exact bcP (P:=fun x=>0≤x∧x < 16) (by decide) h.1.2.2
theorem qOk_of {c:Chip} (h:okC c=true):qOk c=true:=by
 obtain ⟨pb,pp,pt,pd,pv,pw⟩:=okC_iff.1 h
 have p:=pos_ex h
 have l0:=lev_rng (okVo_t (vAt (plc c.ba c.bs)) pv)
 have l1:=lev_rng (okVo_t (vAt (plc c.ba c.bs)) pw)
 have e1:ltI 30 (dAud c)=false:=by
  rw [ltI_false]
  show wrapK .u8 (wrapK .u8 (0 + lev (voT (vAt (plc c.ba c.bs)) c.v0)) + lev (voT (vAt (plc c.ba c.bs)) c.v1))≤30
  rw [wrapK_u8,wrapK_u8]
  omega
 have e2:ltI (dClk c) 0=false:=ltI_false.2 p.1
 have e3:ltI 227 (dClk c)=false:=ltI_false.2 (by have:dClk c=pos c:=rfl; omega)
 have e4:an (dBlank c) (notB (eqI (dPix c) 0))=false:=by
  cases hb:dBlank c with
  | false=>rfl
  | true =>
   have:dPix c=0:=by
    show bc (dBlank c) 0 _=0
    rw [hb]; rfl
   rw [this]; rfl
 unfold qOk
 rw [e1,e2,e3,e4]; rfl
end S
end Go.Proofs.YtnpbgnjiihecgaaGreat.Ev
namespace Go.Proofs.YtnpbgnjiihecgaaGreat.Ev
open Go
set_option linter.unusedVariables false
set_option linter.unusedSimpArgs false
set_option maxRecDepth 100000
set_option maxHeartbeats 1000000
namespace S
theorem q4 {c:Chip} (h:okC c=true):ltI 30 (dAud c)=false∧an (dBlank c) (notB (eqI (dPix c) 0))=false∧ltI (dClk c) 0=false∧ltI 227 (dClk c)=false:=by
 have q:=qOk_of h
 unfold qOk at q
 cases h1:ltI 30 (dAud c) with
 | true=>rw [h1] at q; cases q
 | false =>
  cases h2:an (dBlank c) (notB (eqI (dPix c) 0)) with
  | true=>rw [h1,h2] at q; cases q
  | false =>
   cases h3:ltI (dClk c) 0 with
   | true=>rw [h1,h2,h3] at q; cases q
   | false =>
    cases h4:ltI 227 (dClk c) with
    | true=>rw [h1,h2,h3,h4] at q; cases q
    | false=>exact ⟨rfl,rfl,rfl,rfl⟩
theorem wd_2 (c:Chip):wd c 2=c.mc:=rfl
theorem quiet {c:Chip} (h:okZ c=true):∃ c1 c2,goC 456 c=c1∧goC 456 c1=c2∧okQ c=true∧okQ c1=true∧okQ c2=true∧(cnt c2.t0=cnt c1.t0∧cnt c2.t1=cnt c1.t1∧cnt c2.t2=cnt c1.t2∧cnt c2.t3=cnt c1.t3∧cnt c2.t4=cnt c1.t4)∧wd c2 2=16:=by
 have h1:=okZ_go (n:=456) h
 have h2:=okZ_go (n:=456) h1
 exact ⟨_,_,rfl,rfl,okZ_Q h,okZ_Q h1,okZ_Q h2,cnt_go h1 (still_go h (by decide)),(wd_2 _).trans (mc_go h1 (by decide))⟩
end S
theorem kAwk_run:K.bodyF (envL []) (K.runF (envL []) 40) 17 [] (Heap.of []) .auto (K.endC K.shutE 0 ⟨.ret (.bool true),[],[]⟩)=True:=by kernel_rfl
theorem kAwk_con:HT Tryz.prog 17 [] (Heap.of []) (⟨.ret (.bool true),[],[]⟩ : K.CRes).e (Heap.of (K.chg [] (⟨.ret (.bool true),[],[]⟩ : K.CRes).ch++(⟨.ret (.bool true),[],[]⟩ : K.CRes).new)):=by
 refine K.con_of_eq (A:=envL []) (E:=K.shutE) (k:=40) (g:=17) (xs:=[]) (os:=[]) (r:=⟨.ret (.bool true),[],[]⟩) (h:=.auto) good (envL_ok ?_) K.shutE_ok (kAwk_run)
 intro p hp; cases hp
theorem kAwk_ok:kAwkE.ok Tryz.prog 17:=by
 intro xs os b r h h3
 unfold kAwkE at h
 simp only at h
 split at h
 ·injection h with h; injection h with h1 h2; subst h1; subst h2
  exact kAwk_con
 ·cases h
theorem qu_run (c:S.Chip) (a0 a1 a2 a3 a4 i:Int):K.RunL (envL [(14,kStepE)]) K.openE 30 4 68 (inner (inner (blkOf 4 0))) quEB [(5,.ptr 0 0),(7,.int .i64 i),(6,.ptr 40 0)] (S.hp0 c++[.cells 35 .exact [.int .i64 a0,.int .i64 a1,.int .i64 a2,.int .i64 a3,.int .i64 a4]]) Hint.auto ⟨.exit 0,[(5,.ptr 0 0),(6,.ptr 40 0)],(hpCh (S.goC (456 - i).toNat c)),[]⟩ =
  (bc (ltI i 456) (bc (S.okC c) (bc (ltI 30 (S.dAud c)) False (bc (S.dBlank c) (bc (notB (eqI (S.dPix c) 0)) False (bc (ltI (S.dClk c) 0) False (bc (ltI 227 (S.dClk c)) False (bc (S.an (S.okQ (S.stepC c)) (S.inR (wrapK .i64 (i + 1)) 1000)) (qu_T (S.stepC c) a0 a1 a2 a3 a4 (wrapK .i64 (i + 1))∧((0:Nat)=0∧((0:Nat)=0∧(S.eqC (S.goC (Int.toNat (456 - i)) c) (S.goC (Int.toNat (456 - wrapK .i64 (i + 1))) (S.stepC c)) True)))) False)))) (bc (ltI (S.dClk c) 0) False (bc (ltI 227 (S.dClk c)) False (bc (S.an (S.okQ (S.stepC c)) (S.inR (wrapK .i64 (i + 1)) 1000)) (qu_T (S.stepC c) a0 a1 a2 a3 a4 (wrapK .i64 (i + 1))∧((0:Nat)=0∧((0:Nat)=0∧(S.eqC (S.goC (Int.toNat (456 - i)) c) (S.goC (Int.toNat (456 - wrapK .i64 (i + 1))) (S.stepC c)) True)))) False))))) False) ((0:Nat)=0∧((0:Nat)=0∧(S.eqC (S.goC (Int.toNat (456 - i)) c) c True)))):=by kernel_rfl
theorem qu_con (c:S.Chip) (a0 a1 a2 a3 a4 i:Int) (h0:S.okQ c=true) (h2:S.inR i 1000=true) (IH:i < 456→S.okQ (S.stepC c)=true→qu_T (S.stepC c) a0 a1 a2 a3 a4 (i + 1)):GTr Tryz.prog (inner (inner (blkOf 4 0))) 4 68 [(5,.ptr 0 0),(7,.int .i64 i),(6,.ptr 40 0)] (S.hp0 c++[.cells 35 .exact [.int .i64 a0,.int .i64 a1,.int .i64 a2,.int .i64 a3,.int .i64 a4]]) ⟨.exit 0,[(5,.ptr 0 0),(6,.ptr 40 0)],(hpCh (S.goC (456 - i).toNat c)),[]⟩:=by
 refine K.loop_of_run good (A:=envL [(14,kStepE)]) (envL_ok ?_) K.openE_ok (k:=30) (ent:=quEB) (cast (qu_run c a0 a1 a2 a3 a4 i).symm ?_)
 ·intro p hp; simp only [List.mem_cons,List.not_mem_nil,or_false] at hp; rcases hp with rfl; exact kStep_ok
 ·have b2:=S.inR_iff.1 h2
  have w:i < 999→wrapK .i64 (i + 1)=i + 1:=fun _=>by rw [wrapK_i64]; omega
  cases hl:ltI i 456 with
  | false =>
   simp only [bc_false,S.eqC_of (S.go_ge c (ltI_false.1 hl)),and_self]
  | true =>
   have hi:=ltI_true.1 hl
   have hC:=S.okQ_C h0
   obtain ⟨e1,e2,e3,e4⟩:=S.q4 hC
   have b3:S.inR (i + 1) 1000=true:=S.inR_iff.2 (by omega)
   have hq:=S.okQ_step h0
   have ih:=IH hi hq
   simp only [hC,e1,e3,e4,w (by omega),hq,b3,S.an,bc_true,bc_false,S.eqC_of (S.go_lt c hi),ih,and_self]
   cases hb:S.dBlank c with
   | false=>trivial
   | true =>
    rw [hb] at e2
    have e2:notB (eqI (S.dPix c) 0)=false:=e2
    rw [e2]
    trivial
theorem qu_lok (a0 a1 a2 a3 a4:Int):∀ (k:Nat) (c:S.Chip) (i:Int),S.okQ c=true→S.inR i 1000=true→(456 - i).toNat=k→qu_T c a0 a1 a2 a3 a4 i:=by
 intro k
 induction k with
 | zero =>
  intro c i h0 h2 hk
  exact qu_con c a0 a1 a2 a3 a4 i h0 h2 fun hi _=>by omega
 | succ k ih =>
  intro c i h0 h2 hk
  exact qu_con c a0 a1 a2 a3 a4 i h0 h2 fun hi hq=>ih _ (i + 1) hq (S.inR_iff.2 (by have:=S.inR_iff.1 h2; omega)) (by omega)
theorem qu_blk (c:S.Chip) (a0 a1 a2 a3 a4 i:Int) (h0:S.okQ c=true) (h2:S.inR i 1000=true):qu_B c a0 a1 a2 a3 a4 i:=by
 have hb:blkOf 4 0=.block 0 (.loop (inner (inner (blkOf 4 0)))):=by kernel_rfl
 unfold qu_B K.BOk
 rw [hb]
 exact K.CT.block (K.GT.loop (qu_lok a0 a1 a2 a3 a4 _ c i h0 h2 rfl))
theorem qtN_run (k:Int):K.bodyF (qtNVz) (K.runF (qtNVz) 30) 4 [.int .u8 k,.nils] (Heap.of []) Hint.auto (K.endC K.openE 0 ⟨.ret (.bool true),[],[]⟩) =
  (bc (S.inR k 256) (bc (S.an (S.okQ (S.mkC [] 0 k)) (S.inR 456 1000)) (bc (S.okC (S.goC 456 (S.mkC [] 0 k))) (bc (S.an (S.okQ (S.goC 456 (S.mkC [] 0 k))) (S.inR 0 1000)) (qu_B (S.goC 456 (S.mkC [] 0 k)) (S.cnt (S.Chip.t0 (S.goC 456 (S.mkC [] 0 k)))) (S.cnt (S.Chip.t1 (S.goC 456 (S.mkC [] 0 k)))) (S.cnt (S.Chip.t2 (S.goC 456 (S.mkC [] 0 k)))) (S.cnt (S.Chip.t3 (S.goC 456 (S.mkC [] 0 k)))) (S.cnt (S.Chip.t4 (S.goC 456 (S.mkC [] 0 k)))) 0∧(bc (S.okC (S.goC 456 (S.goC 456 (S.mkC [] 0 k)))) (bc (S.okC (S.goC 456 (S.goC 456 (S.mkC [] 0 k)))) (bc (S.cnt (S.Chip.t0 (S.goC 456 (S.goC 456 (S.mkC [] 0 k)))) == S.cnt (S.Chip.t0 (S.goC 456 (S.mkC [] 0 k)))&&(S.cnt (S.Chip.t1 (S.goC 456 (S.goC 456 (S.mkC [] 0 k)))) == S.cnt (S.Chip.t1 (S.goC 456 (S.mkC [] 0 k)))&&(S.cnt (S.Chip.t2 (S.goC 456 (S.goC 456 (S.mkC [] 0 k)))) == S.cnt (S.Chip.t2 (S.goC 456 (S.mkC [] 0 k)))&&(S.cnt (S.Chip.t3 (S.goC 456 (S.goC 456 (S.mkC [] 0 k)))) == S.cnt (S.Chip.t3 (S.goC 456 (S.mkC [] 0 k)))&&(S.cnt (S.Chip.t4 (S.goC 456 (S.goC 456 (S.mkC [] 0 k)))) == S.cnt (S.Chip.t4 (S.goC 456 (S.mkC [] 0 k)))&&true))))) (true=true∧True) (true=false∧True)) False) False)) False) False) False) False):=by kernel_rfl
theorem qtN_con (k:Int) (h0:S.inR k 256=true)  : HTr Tryz.prog 4 [.int .u8 k,.nils] [] ⟨.ret (.bool true),[],[]⟩:=by
 refine K.con_of_run good (A:=qtNVz) (envB_ok ?_) K.openE_ok (k:=30) (cast (qtN_run k).symm ?_)
 ·intro p hp; simp only [List.mem_cons,List.not_mem_nil,or_false] at hp; rcases hp with rfl | rfl | rfl | rfl | rfl; exact mkA_ok; exact kSteps_ok; exact kCounts_ok; exact kWordsD_ok; exact kAwk_ok
 ·have hk:S.inR k 256=true:=h0
  have hz:=S.okZ_mk S.okVs21_nil hk
  obtain ⟨d1,d2,g1,g2,hq,hq1,hq2,⟨c0,c1,c2,c3,c4⟩,hm⟩:=S.quiet hz
  have z1:S.inR 456 1000=true:=rfl
  have z2:S.inR 0 1000=true:=rfl
  have B:=qu_blk d1 (S.cnt d1.t0) (S.cnt d1.t1) (S.cnt d1.t2) (S.cnt d1.t3) (S.cnt d1.t4) 0 hq1 z2
  simp only [hk,hq,g1,g2,hq1,S.okQ_C hq1,S.okQ_C hq2,z1,z2,S.an,bc_true,c0,c1,c2,c3,c4,beq_self_eq_true,Bool.and_true,hm,bc_false]
  exact ⟨B,by simp only [S.eqI_self,bc_true,and_self]⟩
theorem qtE_run (k:Int):K.bodyF (qtEVz) (K.runF (qtEVz) 30) 4 [.int .u8 k,.emp 0] (Heap.of [.empty]) Hint.auto (K.endC K.openE 1 ⟨.ret (.bool true),[],[]⟩) =
  (bc (S.inR k 256) (bc (S.an (S.okQ (S.mkC [] 0 k)) (S.inR 456 1000)) (bc (S.okC (S.goC 456 (S.mkC [] 0 k))) (bc (S.an (S.okQ (S.goC 456 (S.mkC [] 0 k))) (S.inR 0 1000)) (qu_B (S.goC 456 (S.mkC [] 0 k)) (S.cnt (S.Chip.t0 (S.goC 456 (S.mkC [] 0 k)))) (S.cnt (S.Chip.t1 (S.goC 456 (S.mkC [] 0 k)))) (S.cnt (S.Chip.t2 (S.goC 456 (S.mkC [] 0 k)))) (S.cnt (S.Chip.t3 (S.goC 456 (S.mkC [] 0 k)))) (S.cnt (S.Chip.t4 (S.goC 456 (S.mkC [] 0 k)))) 0∧(bc (S.okC (S.goC 456 (S.goC 456 (S.mkC [] 0 k)))) (bc (S.okC (S.goC 456 (S.goC 456 (S.mkC [] 0 k)))) (bc (S.cnt (S.Chip.t0 (S.goC 456 (S.goC 456 (S.mkC [] 0 k)))) == S.cnt (S.Chip.t0 (S.goC 456 (S.mkC [] 0 k)))&&(S.cnt (S.Chip.t1 (S.goC 456 (S.goC 456 (S.mkC [] 0 k)))) == S.cnt (S.Chip.t1 (S.goC 456 (S.mkC [] 0 k)))&&(S.cnt (S.Chip.t2 (S.goC 456 (S.goC 456 (S.mkC [] 0 k)))) == S.cnt (S.Chip.t2 (S.goC 456 (S.mkC [] 0 k)))&&(S.cnt (S.Chip.t3 (S.goC 456 (S.goC 456 (S.mkC [] 0 k)))) == S.cnt (S.Chip.t3 (S.goC 456 (S.mkC [] 0 k)))&&(S.cnt (S.Chip.t4 (S.goC 456 (S.goC 456 (S.mkC [] 0 k)))) == S.cnt (S.Chip.t4 (S.goC 456 (S.mkC [] 0 k)))&&true))))) (true=true∧True) (true=false∧True)) False) False)) False) False) False) False):=by kernel_rfl
theorem qtE_con (k:Int) (h0:S.inR k 256=true)  : HTr Tryz.prog 4 [.int .u8 k,.emp 0] [.empty] ⟨.ret (.bool true),[],[]⟩:=by
 refine K.con_of_run good (A:=qtEVz) (envB_ok ?_) K.openE_ok (k:=30) (cast (qtE_run k).symm ?_)
 ·intro p hp; simp only [List.mem_cons,List.not_mem_nil,or_false] at hp; rcases hp with rfl | rfl | rfl | rfl | rfl; exact mkA_ok; exact kSteps_ok; exact kCounts_ok; exact kWordsD_ok; exact kAwk_ok
 ·have hk:S.inR k 256=true:=h0
  have hz:=S.okZ_mk S.okVs21_nil hk
  obtain ⟨d1,d2,g1,g2,hq,hq1,hq2,⟨c0,c1,c2,c3,c4⟩,hm⟩:=S.quiet hz
  have z1:S.inR 456 1000=true:=rfl
  have z2:S.inR 0 1000=true:=rfl
  have B:=qu_blk d1 (S.cnt d1.t0) (S.cnt d1.t1) (S.cnt d1.t2) (S.cnt d1.t3) (S.cnt d1.t4) 0 hq1 z2
  simp only [hk,hq,g1,g2,hq1,S.okQ_C hq1,S.okQ_C hq2,z1,z2,S.an,bc_true,c0,c1,c2,c3,c4,beq_self_eq_true,Bool.and_true,hm,bc_false]
  exact ⟨B,by simp only [S.eqI_self,bc_true,and_self]⟩
theorem qtS_run (et L q:Nat) (w:Own) (vs:List LV) (k:Int):K.bodyF (qtSVz) (K.runF (qtSVz) 30) 4 [.int .u8 k,.slice 0 0 L (.known q)] (Heap.of [.flat [.i .i64,.i .u16,.i .u16,.i .u8,.i .i64] et w vs]) Hint.auto (K.endC K.openE 1 ⟨.ret (.bool true),[],[]⟩) =
  (bc (notB (notB (ltI 16 ↑L))) (true=true∧True) (bc (S.an (S.inR k 256) (S.an (S.okVs21 vs L) (notB (ltI 900 ↑L)))) (bc (S.an (S.okQ (S.mkC vs L k)) (S.inR 456 1000)) (bc (S.okC (S.goC 456 (S.mkC vs L k))) (bc (S.an (S.okQ (S.goC 456 (S.mkC vs L k))) (S.inR 0 1000)) (qu_B (S.goC 456 (S.mkC vs L k)) (S.cnt (S.Chip.t0 (S.goC 456 (S.mkC vs L k)))) (S.cnt (S.Chip.t1 (S.goC 456 (S.mkC vs L k)))) (S.cnt (S.Chip.t2 (S.goC 456 (S.mkC vs L k)))) (S.cnt (S.Chip.t3 (S.goC 456 (S.mkC vs L k)))) (S.cnt (S.Chip.t4 (S.goC 456 (S.mkC vs L k)))) 0∧(bc (S.okC (S.goC 456 (S.goC 456 (S.mkC vs L k)))) (bc (S.okC (S.goC 456 (S.goC 456 (S.mkC vs L k)))) (bc (S.cnt (S.Chip.t0 (S.goC 456 (S.goC 456 (S.mkC vs L k)))) == S.cnt (S.Chip.t0 (S.goC 456 (S.mkC vs L k)))&&(S.cnt (S.Chip.t1 (S.goC 456 (S.goC 456 (S.mkC vs L k)))) == S.cnt (S.Chip.t1 (S.goC 456 (S.mkC vs L k)))&&(S.cnt (S.Chip.t2 (S.goC 456 (S.goC 456 (S.mkC vs L k)))) == S.cnt (S.Chip.t2 (S.goC 456 (S.mkC vs L k)))&&(S.cnt (S.Chip.t3 (S.goC 456 (S.goC 456 (S.mkC vs L k)))) == S.cnt (S.Chip.t3 (S.goC 456 (S.mkC vs L k)))&&(S.cnt (S.Chip.t4 (S.goC 456 (S.goC 456 (S.mkC vs L k)))) == S.cnt (S.Chip.t4 (S.goC 456 (S.mkC vs L k)))&&true))))) (bc (eqI (S.wd (S.goC 456 (S.goC 456 (S.mkC vs L k))) 2) 16) (true=true∧True) (true=false∧True)) (true=false∧True)) False) False)) False) False) False) False)):=by kernel_rfl
theorem qtS_con (et L q:Nat) (w:Own) (vs:List LV) (k:Int) (h0:S.an (S.inR k 256) (S.an (S.okVs21 vs L) true)=true)  : HTr Tryz.prog 4 [.int .u8 k,.slice 0 0 L (.known q)] [.flat [.i .i64,.i .u16,.i .u16,.i .u8,.i .i64] et w vs] ⟨.ret (.bool true),[],[]⟩:=by
 refine K.con_of_run good (A:=qtSVz) (envB_ok ?_) K.openE_ok (k:=30) (cast (qtS_run et L q w vs k).symm ?_)
 ·intro p hp; simp only [List.mem_cons,List.not_mem_nil,or_false] at hp; rcases hp with rfl | rfl | rfl | rfl | rfl; exact mkA_ok; exact kSteps_ok; exact kCounts_ok; exact kWordsD_ok; exact kAwk_ok
 ·obtain ⟨hk,h1⟩:=S.an_iff.1 h0
  obtain ⟨hv,_⟩:=S.an_iff.1 h1
  by_cases hL:16 < (L:Int)
  ·simp only [ltI_true.2 hL,notB_t,notB_f,bc_true,bc_false,and_self,not_true,not_false_eq_true]
  have hz:=S.okZ_mk hv hk
  have l16:ltI 16 L=false:=ltI_false.2 (by omega)
  have l9:notB (ltI 900 L)=true:=by rw [ltI_false.2 (by omega)]; rfl
  obtain ⟨d1,d2,g1,g2,hq,hq1,hq2,⟨c0,c1,c2,c3,c4⟩,hm⟩:=S.quiet hz
  have z1:S.inR 456 1000=true:=rfl
  have z2:S.inR 0 1000=true:=rfl
  have B:=qu_blk d1 (S.cnt d1.t0) (S.cnt d1.t1) (S.cnt d1.t2) (S.cnt d1.t3) (S.cnt d1.t4) 0 hq1 z2
  simp only [hk,hq,g1,g2,hq1,S.okQ_C hq1,S.okQ_C hq2,z1,z2,S.an,bc_true,c0,c1,c2,c3,c4,beq_self_eq_true,Bool.and_true,hm,l16,l9,hv,notB_t,notB_f,bc_false]
  exact ⟨B,by simp only [S.eqI_self,bc_true,and_self]⟩
theorem qt_N (k:Int) (hl:0≤k) (hu:k≤255):HT Tryz.prog 4 [.int .u8 k,.nils] (Heap.of []) (.ret (.bool true)) (Heap.of []):=qtN_con k (S.inR_iff.2 ⟨hl,by omega⟩)
theorem qt_E (k:Int) (hl:0≤k) (hu:k≤255):HT Tryz.prog 4 [.int .u8 k,.emp 0] (Heap.of [.empty]) (.ret (.bool true)) (Heap.of [.empty]):=qtE_con k (S.inR_iff.2 ⟨hl,by omega⟩)
theorem qt_S (k:Int) (hl:0≤k) (hu:k≤255) (l:List S.Act21) (q et:Nat) (hg:∀ a,a∈l→(0≤a.steps∧a.steps≤65535)∧0≤a.v∧a.v≤255):HT Tryz.prog 4 [.int .u8 k,.slice 0 0 l.length (.known q)] (Heap.of [.flat S.act21K et .ro (S.acts21 l)]) (.ret (.bool true)) (Heap.of [.flat S.act21K et .ro (S.acts21 l)]) :=
 qtS_con et l.length q .ro (S.acts21 l) k (S.an_t2 (S.inR_iff.2 ⟨hl,by omega⟩) (S.an_t2 (S.okVs21_of l hg) rfl))
end Go.Proofs.YtnpbgnjiihecgaaGreat.Ev
