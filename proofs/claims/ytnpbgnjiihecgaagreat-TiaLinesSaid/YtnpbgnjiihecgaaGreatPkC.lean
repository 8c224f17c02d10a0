/- Contracts, proved: Tso. Contracts, proved: Trd. Contracts, proved: Tww. Contracts, proved: Tqa. Contracts, proved: Tqb. Contracts, proved: Tqc. Contracts, proved: Tqd. Contracts, proved: Tqe. Contracts, proved: Tsx. Contracts, proved: Tsy. Contracts, proved: Tsz. Contracts, proved: Tcp. Contracts, proved: Tqs. Contracts, proved: Tms. Contracts, proved: Tmt. Contracts, proved: Tmv. Contracts, proved: Tla. Contracts, proved: Tlb. Contracts, proved: Tlg. Contracts, proved: Tlh. Contracts, proved: Tlk. Contracts, proved: Tlo. Contracts, proved: Tlp. -/
import Derived.Test.YtnpbgnjiihecgaaGreatPkA
import Derived.Test.YtnpbgnjiihecgaaGreatPkB
import Derived.Test.YtnpbgnjiihecgaaGreatArg
set_option linter.unusedVariables false
set_option linter.unusedSimpArgs false
set_option maxRecDepth 100000
set_option maxHeartbeats 1000000
namespace Go.Proofs.YtnpbgnjiihecgaaGreat.Ev
open Go
namespace S
theorem rg_t (a v old:Int):rg a a v old=v:=by unfold rg;rw [ykm0];rfl
theorem rg_f {a j:Int} (v old:Int) (h:a≠j):rg a j v old=old:=by unfold rg;rw [ysa0.2 h];rfl
theorem rb_t (a:Int) (v old:Bool):rb a a v old=v:=by unfold rb;rw [ykm0];rfl
theorem rb_f {a j:Int} (v old:Bool) (h:a≠j):rb a j v old=old:=by unfold rb;rw [ysa0.2 h];rfl
theorem frW_f {a j:Int} (was v:Int) (h:a≠j):frW a j was v=false:=by unfold frW;rw [ysa0.2 h];rfl
theorem frW_t (a was v:Int):frW a a was v=an (hb .u8 was 2) (notB (hb .u8 v 2)):=by unfold frW;rw [ykm0];rfl
theorem ymr2 (addr:Int):0<=adr addr/\adr addr<64:=by
 unfold adr;rw [K.yny0]
 have h:(BitVec.ofInt IntKind.u16.bits addr &&& BitVec.ofInt IntKind.u16.bits 63).toNat<=63:=by
  rw [BitVec.toNat_and];exact Nat.le_trans Nat.and_le_right (by decide)
 generalize (BitVec.ofInt IntKind.u16.bits addr &&& BitVec.ofInt IntKind.u16.bits 63).toNat=n at h
 have e:IntKind.u16.wrap (n:Int)=n:=by
  rw [<- K.yqd0,yvf0];omega
 rw [e,yia0];omega
theorem ynr2 (addr:Int):(bc (eqI (adr addr) 0) true (bc (eqI (adr addr) 1) true (bc (eqI (adr addr) 2) true (bc (eqI (adr addr) 3) true (bc (eqI (adr addr) 4) true (bc (eqI (adr addr) 5) true (bc (eqI (adr addr) 6) true (bc (eqI (adr addr) 7) true (bc (eqI (adr addr) 8) true (bc (eqI (adr addr) 9) true (bc (eqI (adr addr) 10) true (bc (eqI (adr addr) 11) true (bc (eqI (adr addr) 12) true (bc (eqI (adr addr) 13) true (bc (eqI (adr addr) 14) true (bc (eqI (adr addr) 15) true (bc (eqI (adr addr) 16) true (bc (eqI (adr addr) 17) true (bc (eqI (adr addr) 18) true (bc (eqI (adr addr) 19) true (bc (eqI (adr addr) 20) true (bc (eqI (adr addr) 21) true (bc (eqI (adr addr) 22) true (bc (eqI (adr addr) 23) true (bc (eqI (adr addr) 24) true (bc (eqI (adr addr) 25) true (bc (eqI (adr addr) 26) true (bc (eqI (adr addr) 27) true (bc (eqI (adr addr) 28) true (bc (eqI (adr addr) 29) true (bc (eqI (adr addr) 30) true (bc (eqI (adr addr) 31) true (bc (eqI (adr addr) 32) true (bc (eqI (adr addr) 33) true (bc (eqI (adr addr) 34) true (bc (eqI (adr addr) 35) true (bc (eqI (adr addr) 36) true (bc (eqI (adr addr) 37) true (bc (eqI (adr addr) 38) true (bc (eqI (adr addr) 39) true (bc (eqI (adr addr) 40) true (bc (eqI (adr addr) 41) true (bc (eqI (adr addr) 42) true (bc (eqI (adr addr) 43) true (bc (eqI (adr addr) 44) true (bc (eqI (adr addr) 45) true (bc (eqI (adr addr) 46) true (bc (eqI (adr addr) 47) true (bc (eqI (adr addr) 48) true (bc (eqI (adr addr) 49) true (bc (eqI (adr addr) 50) true (bc (eqI (adr addr) 51) true (bc (eqI (adr addr) 52) true (bc (eqI (adr addr) 53) true (bc (eqI (adr addr) 54) true (bc (eqI (adr addr) 55) true (bc (eqI (adr addr) 56) true (bc (eqI (adr addr) 57) true (bc (eqI (adr addr) 58) true (bc (eqI (adr addr) 59) true (bc (eqI (adr addr) 60) true (bc (eqI (adr addr) 61) true (bc (eqI (adr addr) 62) true (bc (eqI (adr addr) 63) true false))))))))))))))))))))))))))))))))))))))))))))))))))))))))))))))))=true:=by
 have h:=ymr2 addr;obtain ⟨i,hi⟩ : ∃ i:Fin 64,adr addr=((i.val:Nat):Int):=⟨⟨(adr addr).toNat,by omega⟩,by show adr addr=(((adr addr).toNat:Nat):Int);omega⟩;rw [hi];clear hi h;revert i;decide +kernel
end S
def ykz0 (c:S.Chip) (addr v:Int) (r:Prop):Prop :=
 (0:Nat)=0/\(0:Nat)=0/\(0:Nat)=0/\(0:Nat)=0/\(0:Nat)=0/\(0:Nat)=0/\(0:Nat)=0/\(0:Nat)=0/\(0:Nat)=0/\(0:Nat)=0/\r
def yye1 (c:S.Chip) (addr v:Int) (r:Prop):Prop :=
 S.rg (S.adr addr) 0 v c.r0.x0=v/\S.rg (S.adr addr) 1 v c.r0.x1=c.r0.x1/\c.r0.x2=c.r0.x2/\c.r0.x3=c.r0.x3/\S.rg (S.adr addr) 4 v c.r0.x4=c.r0.x4/\S.rg (S.adr addr) 5 v c.r0.x5=c.r0.x5/\S.rg (S.adr addr) 6 v c.r0.x6=c.r0.x6/\S.rg (S.adr addr) 7 v c.r0.x7=c.r0.x7/\r
def ywr0 (c:S.Chip) (addr v:Int) (r:Prop):Prop :=
 S.rg (S.adr addr) 8 v c.r1.x0=c.r1.x0/\S.rg (S.adr addr) 9 v c.r1.x1=c.r1.x1/\S.rg (S.adr addr) 10 v c.r1.x2=c.r1.x2/\S.rg (S.adr addr) 11 v c.r1.x3=c.r1.x3/\S.rg (S.adr addr) 12 v c.r1.x4=c.r1.x4/\S.rg (S.adr addr) 13 v c.r1.x5=c.r1.x5/\S.rg (S.adr addr) 14 v c.r1.x6=c.r1.x6/\S.rg (S.adr addr) 15 v c.r1.x7=c.r1.x7/\r
def yxr0 (c:S.Chip) (addr v:Int) (r:Prop):Prop :=
 c.r2.x0=c.r2.x0/\c.r2.x1=c.r2.x1/\c.r2.x2=c.r2.x2/\c.r2.x3=c.r2.x3/\c.r2.x4=c.r2.x4/\c.r2.x5=c.r2.x5/\c.r2.x6=c.r2.x6/\c.r2.x7=c.r2.x7/\r
def yyr0 (c:S.Chip) (addr v:Int) (r:Prop):Prop :=
 c.r3.x0=c.r3.x0/\c.r3.x1=c.r3.x1/\c.r3.x2=c.r3.x2/\c.r3.x3=c.r3.x3/\c.r3.x4=c.r3.x4/\S.rg (S.adr addr) 29 v c.r3.x5=c.r3.x5/\S.rg (S.adr addr) 30 v c.r3.x6=c.r3.x6/\c.r3.x7=c.r3.x7/\r
def yzr0 (c:S.Chip) (addr v:Int) (r:Prop):Prop :=
 S.rg (S.adr addr) 43 0 (S.rg (S.adr addr) 32 v c.r4.x0)=c.r4.x0/\S.rg (S.adr addr) 43 0 (S.rg (S.adr addr) 33 v c.r4.x1)=c.r4.x1/\S.rg (S.adr addr) 43 0 (S.rg (S.adr addr) 34 v c.r4.x2)=c.r4.x2/\S.rg (S.adr addr) 43 0 (S.rg (S.adr addr) 35 v c.r4.x3)=c.r4.x3/\S.rg (S.adr addr) 43 0 (S.rg (S.adr addr) 36 v c.r4.x4)=c.r4.x4/\S.rg (S.adr addr) 37 v c.r4.x5=c.r4.x5/\S.rg (S.adr addr) 38 v c.r4.x6=c.r4.x6/\S.rg (S.adr addr) 39 v c.r4.x7=c.r4.x7/\r
def yas0 (c:S.Chip) (addr v:Int) (r:Prop):Prop :=
 S.rg (S.adr addr) 40 v c.r5.x0=c.r5.x0/\S.rg (S.adr addr) 41 v c.r5.x1=c.r5.x1/\c.r5.x2=c.r5.x2/\c.r5.x3=c.r5.x3/\c.r5.x4=c.r5.x4/\c.r5.x5=c.r5.x5/\c.r5.x6=c.r5.x6/\c.r5.x7=c.r5.x7/\r
def yin0 (c:S.Chip) (addr v:Int) (r:Prop):Prop :=
 c.r6.x0=c.r6.x0/\c.r6.x1=c.r6.x1/\c.r6.x2=c.r6.x2/\c.r6.x3=c.r6.x3/\c.r6.x4=c.r6.x4/\c.r6.x5=c.r6.x5/\c.r6.x6=c.r6.x6/\c.r6.x7=c.r6.x7/\c.r7.x0=c.r7.x0/\c.r7.x1=c.r7.x1/\c.r7.x2=c.r7.x2/\c.r7.x3=c.r7.x3/\c.r7.x4=c.r7.x4/\c.r7.x5=c.r7.x5/\c.r7.x6=c.r7.x6/\c.r7.x7=c.r7.x7/\r
def yjn0 (c:S.Chip) (addr v:Int) (r:Prop):Prop :=
 S.rg (S.adr addr) 27 v c.g00=c.g00/\S.rg (S.adr addr) 28 c.g00 c.g01=c.g01/\S.rg (S.adr addr) 28 v c.g10=c.g10/\S.rg (S.adr addr) 27 c.g10 c.g11=c.g11/\S.rb (S.adr addr) 31 (S.hb .u8 v 2) c.b0=c.b0/\S.rb (S.adr addr) 28 c.b0 c.b1=c.b1/\S.rg (S.adr addr) 44 0 c.met=c.met/\S.rb (S.adr addr) 2 true c.wait=c.wait/\(0:Nat)=0/\(0:Nat)=0/\r
def ykn0 (c:S.Chip) (addr v:Int) (r:Prop):Prop :=
 S.rb (S.adr addr) 42 true c.late=c.late/\S.rg (S.adr addr) 3 0 c.ba=c.ba/\(4:Int)=4/\S.rg (S.adr addr) 3 0 c.bs=c.bs/\(6:Int)=6/\(1:Int)=1/\r
def yni0 (c:S.Chip) (addr v:Int) (r:Prop):Prop :=
 S.rg (S.adr addr) 42 0 c.mc=c.mc/\S.rg (S.adr addr) 42 0 c.mg=c.mg/\S.rg (S.adr addr) 42 31 c.mm=c.mm/\r
def yoi0 (c:S.Chip) (addr v:Int) (r:Prop):Prop :=
 S.rg (S.adr addr) 16 0 c.t0.a=c.t0.a/\(4:Int)=4/\S.rg (S.adr addr) 16 0 c.t0.s=c.t0.s/\(6:Int)=6/\(1:Int)=1/\r
def ypi0 (c:S.Chip) (addr v:Int) (r:Prop):Prop :=
 S.rg (S.adr addr) 17 0 c.t1.a=c.t1.a/\(4:Int)=4/\S.rg (S.adr addr) 17 0 c.t1.s=c.t1.s/\(6:Int)=6/\(1:Int)=1/\r
def yxj0 (c:S.Chip) (addr v:Int) (r:Prop):Prop :=
 bc (S.frW (S.adr addr) 40 c.r5.x0 v) (S.frM c.r0.x4 c.t0 % 4) (S.rg (S.adr addr) 18 0 c.t2.a)=c.t2.a/\(4:Int)=4/\bc (S.frW (S.adr addr) 40 c.r5.x0 v) (S.st (S.frM c.r0.x4 c.t0 / 4)) (S.rg (S.adr addr) 18 0 c.t2.s)=c.t2.s/\(6:Int)=6/\(1:Int)=1/\r
def ylm0 (c:S.Chip) (addr v:Int) (r:Prop):Prop :=
 bc (S.frW (S.adr addr) 41 c.r5.x1 v) (S.frM c.r0.x5 c.t1 % 4) (S.rg (S.adr addr) 19 0 c.t3.a)=c.t3.a/\(4:Int)=4/\bc (S.frW (S.adr addr) 41 c.r5.x1 v) (S.st (S.frM c.r0.x5 c.t1 / 4)) (S.rg (S.adr addr) 19 0 c.t3.s)=c.t3.s/\(6:Int)=6/\(1:Int)=1/\r
def ymm0 (c:S.Chip) (addr v:Int) (r:Prop):Prop :=
 S.rg (S.adr addr) 20 0 c.t4.a=c.t4.a/\(4:Int)=4/\S.rg (S.adr addr) 20 0 c.t4.s=c.t4.s/\(6:Int)=6/\(1:Int)=1/\r
def ynm0 (c:S.Chip) (addr v:Int) (r:Prop):Prop :=
 S.rg (S.adr addr) 21 (andK .u8 v 15) c.v0.ytw2=c.v0.ytw2/\S.rg (S.adr addr) 23 (andK .u8 v 31) c.v0.rate=c.v0.rate/\S.rg (S.adr addr) 25 (andK .u8 v 15) c.v0.yxw2=c.v0.yxw2/\(0:Nat)=0/\(0:Nat)=0/\(0:Nat)=0/\c.v0.count=c.v0.count/\c.v0.high=c.v0.high/\r
def yom0 (c:S.Chip) (addr v:Int) (r:Prop):Prop :=
 S.rg (S.adr addr) 22 (andK .u8 v 15) c.v1.ytw2=c.v1.ytw2/\S.rg (S.adr addr) 24 (andK .u8 v 31) c.v1.rate=c.v1.rate/\S.rg (S.adr addr) 26 (andK .u8 v 15) c.v1.yxw2=c.v1.yxw2/\(0:Nat)=0/\(0:Nat)=0/\(0:Nat)=0/\c.v1.count=c.v1.count/\c.v1.high=c.v1.high/\r
def ypp0 (c:S.Chip) (addr v:Int) (r:Prop):Prop :=
 c.po.v0=c.po.v0/\c.po.v1=c.po.v1/\c.po.v2=c.po.v2/\c.po.v3=c.po.v3/\S.rg (S.adr addr) 1 (bc (S.hb .u8 v 128) 0 c.po.yvw2) c.po.yvw2=c.po.yvw2/\S.rb (S.adr addr) 1 (S.hb .u8 v 128) c.po.yww2=c.po.yww2/\c.po.h0=c.po.h0/\S.rb (S.adr addr) 1 (S.see (S.hb .u8 v 64) c.po.l0 c.po.h0) c.po.l0=c.po.l0/\c.po.h1=c.po.h1/\S.rb (S.adr addr) 1 (S.see (S.hb .u8 v 64) c.po.l1 c.po.h1) c.po.l1=c.po.l1/\S.rb (S.adr addr) 1 (S.hb .u8 v 64) c.po.yuw2=c.po.yuw2/\r
def ytu0 (c:S.Chip) (addr v:Int) (r:Prop):Prop :=
 S.rg (S.adr addr) 0 v c.r0.x0=c.r0.x0/\S.rg (S.adr addr) 1 v c.r0.x1=v/\c.r0.x2=c.r0.x2/\c.r0.x3=c.r0.x3/\S.rg (S.adr addr) 4 v c.r0.x4=c.r0.x4/\S.rg (S.adr addr) 5 v c.r0.x5=c.r0.x5/\S.rg (S.adr addr) 6 v c.r0.x6=c.r0.x6/\S.rg (S.adr addr) 7 v c.r0.x7=c.r0.x7/\r
def yuu0 (c:S.Chip) (addr v:Int) (r:Prop):Prop :=
 c.po.v0=c.po.v0/\c.po.v1=c.po.v1/\c.po.v2=c.po.v2/\c.po.v3=c.po.v3/\S.rg (S.adr addr) 1 (bc (S.hb .u8 v 128) 0 c.po.yvw2) c.po.yvw2=bc (notB (eqI (andK .u8 v 128) 0)) 0 c.po.yvw2/\S.rb (S.adr addr) 1 (S.hb .u8 v 128) c.po.yww2=notB (eqI (andK .u8 v 128) 0)/\c.po.h0=c.po.h0/\S.rb (S.adr addr) 1 (S.see (S.hb .u8 v 64) c.po.l0 c.po.h0) c.po.l0=S.see (notB (eqI (andK .u8 v 64) 0)) c.po.l0 c.po.h0/\c.po.h1=c.po.h1/\S.rb (S.adr addr) 1 (S.see (S.hb .u8 v 64) c.po.l1 c.po.h1) c.po.l1=S.see (notB (eqI (andK .u8 v 64) 0)) c.po.l1 c.po.h1/\S.rb (S.adr addr) 1 (S.hb .u8 v 64) c.po.yuw2=notB (eqI (andK .u8 v 64) 0)/\r
def yqp0 (c:S.Chip) (addr v:Int) (r:Prop):Prop :=
 S.rg (S.adr addr) 0 v c.r0.x0=c.r0.x0/\S.rg (S.adr addr) 1 v c.r0.x1=c.r0.x1/\c.r0.x2=c.r0.x2/\c.r0.x3=c.r0.x3/\S.rg (S.adr addr) 4 v c.r0.x4=c.r0.x4/\S.rg (S.adr addr) 5 v c.r0.x5=c.r0.x5/\S.rg (S.adr addr) 6 v c.r0.x6=c.r0.x6/\S.rg (S.adr addr) 7 v c.r0.x7=c.r0.x7/\r
def yvu0 (c:S.Chip) (addr v:Int) (r:Prop):Prop :=
 S.rg (S.adr addr) 27 v c.g00=c.g00/\S.rg (S.adr addr) 28 c.g00 c.g01=c.g01/\S.rg (S.adr addr) 28 v c.g10=c.g10/\S.rg (S.adr addr) 27 c.g10 c.g11=c.g11/\S.rb (S.adr addr) 31 (S.hb .u8 v 2) c.b0=c.b0/\S.rb (S.adr addr) 28 c.b0 c.b1=c.b1/\S.rg (S.adr addr) 44 0 c.met=c.met/\S.rb (S.adr addr) 2 true c.wait=true/\(0:Nat)=0/\(0:Nat)=0/\r
def ywu0 (c:S.Chip) (addr v:Int) (r:Prop):Prop :=
 S.rb (S.adr addr) 42 true c.late=c.late/\S.rg (S.adr addr) 3 0 c.ba=(0:Int)/\(4:Int)=4/\S.rg (S.adr addr) 3 0 c.bs=(0:Int)/\(6:Int)=6/\(1:Int)=1/\r
def yxu0 (c:S.Chip) (addr v:Int) (r:Prop):Prop :=
 S.rg (S.adr addr) 0 v c.r0.x0=c.r0.x0/\S.rg (S.adr addr) 1 v c.r0.x1=c.r0.x1/\c.r0.x2=c.r0.x2/\c.r0.x3=c.r0.x3/\S.rg (S.adr addr) 4 v c.r0.x4=v/\S.rg (S.adr addr) 5 v c.r0.x5=c.r0.x5/\S.rg (S.adr addr) 6 v c.r0.x6=c.r0.x6/\S.rg (S.adr addr) 7 v c.r0.x7=c.r0.x7/\r
def yyu0 (c:S.Chip) (addr v:Int) (r:Prop):Prop :=
 S.rg (S.adr addr) 0 v c.r0.x0=c.r0.x0/\S.rg (S.adr addr) 1 v c.r0.x1=c.r0.x1/\c.r0.x2=c.r0.x2/\c.r0.x3=c.r0.x3/\S.rg (S.adr addr) 4 v c.r0.x4=c.r0.x4/\S.rg (S.adr addr) 5 v c.r0.x5=v/\S.rg (S.adr addr) 6 v c.r0.x6=c.r0.x6/\S.rg (S.adr addr) 7 v c.r0.x7=c.r0.x7/\r
def yzu0 (c:S.Chip) (addr v:Int) (r:Prop):Prop :=
 S.rg (S.adr addr) 0 v c.r0.x0=c.r0.x0/\S.rg (S.adr addr) 1 v c.r0.x1=c.r0.x1/\c.r0.x2=c.r0.x2/\c.r0.x3=c.r0.x3/\S.rg (S.adr addr) 4 v c.r0.x4=c.r0.x4/\S.rg (S.adr addr) 5 v c.r0.x5=c.r0.x5/\S.rg (S.adr addr) 6 v c.r0.x6=v/\S.rg (S.adr addr) 7 v c.r0.x7=c.r0.x7/\r
def yav0 (c:S.Chip) (addr v:Int) (r:Prop):Prop :=
 S.rg (S.adr addr) 0 v c.r0.x0=c.r0.x0/\S.rg (S.adr addr) 1 v c.r0.x1=c.r0.x1/\c.r0.x2=c.r0.x2/\c.r0.x3=c.r0.x3/\S.rg (S.adr addr) 4 v c.r0.x4=c.r0.x4/\S.rg (S.adr addr) 5 v c.r0.x5=c.r0.x5/\S.rg (S.adr addr) 6 v c.r0.x6=c.r0.x6/\S.rg (S.adr addr) 7 v c.r0.x7=v/\r
def ybv0 (c:S.Chip) (addr v:Int) (r:Prop):Prop :=
 S.rg (S.adr addr) 8 v c.r1.x0=v/\S.rg (S.adr addr) 9 v c.r1.x1=c.r1.x1/\S.rg (S.adr addr) 10 v c.r1.x2=c.r1.x2/\S.rg (S.adr addr) 11 v c.r1.x3=c.r1.x3/\S.rg (S.adr addr) 12 v c.r1.x4=c.r1.x4/\S.rg (S.adr addr) 13 v c.r1.x5=c.r1.x5/\S.rg (S.adr addr) 14 v c.r1.x6=c.r1.x6/\S.rg (S.adr addr) 15 v c.r1.x7=c.r1.x7/\r
def ycv0 (c:S.Chip) (addr v:Int) (r:Prop):Prop :=
 S.rg (S.adr addr) 8 v c.r1.x0=c.r1.x0/\S.rg (S.adr addr) 9 v c.r1.x1=v/\S.rg (S.adr addr) 10 v c.r1.x2=c.r1.x2/\S.rg (S.adr addr) 11 v c.r1.x3=c.r1.x3/\S.rg (S.adr addr) 12 v c.r1.x4=c.r1.x4/\S.rg (S.adr addr) 13 v c.r1.x5=c.r1.x5/\S.rg (S.adr addr) 14 v c.r1.x6=c.r1.x6/\S.rg (S.adr addr) 15 v c.r1.x7=c.r1.x7/\r
def ydv0 (c:S.Chip) (addr v:Int) (r:Prop):Prop :=
 S.rg (S.adr addr) 8 v c.r1.x0=c.r1.x0/\S.rg (S.adr addr) 9 v c.r1.x1=c.r1.x1/\S.rg (S.adr addr) 10 v c.r1.x2=v/\S.rg (S.adr addr) 11 v c.r1.x3=c.r1.x3/\S.rg (S.adr addr) 12 v c.r1.x4=c.r1.x4/\S.rg (S.adr addr) 13 v c.r1.x5=c.r1.x5/\S.rg (S.adr addr) 14 v c.r1.x6=c.r1.x6/\S.rg (S.adr addr) 15 v c.r1.x7=c.r1.x7/\r
def yev0 (c:S.Chip) (addr v:Int) (r:Prop):Prop :=
 S.rg (S.adr addr) 8 v c.r1.x0=c.r1.x0/\S.rg (S.adr addr) 9 v c.r1.x1=c.r1.x1/\S.rg (S.adr addr) 10 v c.r1.x2=c.r1.x2/\S.rg (S.adr addr) 11 v c.r1.x3=v/\S.rg (S.adr addr) 12 v c.r1.x4=c.r1.x4/\S.rg (S.adr addr) 13 v c.r1.x5=c.r1.x5/\S.rg (S.adr addr) 14 v c.r1.x6=c.r1.x6/\S.rg (S.adr addr) 15 v c.r1.x7=c.r1.x7/\r
def yfv0 (c:S.Chip) (addr v:Int) (r:Prop):Prop :=
 S.rg (S.adr addr) 8 v c.r1.x0=c.r1.x0/\S.rg (S.adr addr) 9 v c.r1.x1=c.r1.x1/\S.rg (S.adr addr) 10 v c.r1.x2=c.r1.x2/\S.rg (S.adr addr) 11 v c.r1.x3=c.r1.x3/\S.rg (S.adr addr) 12 v c.r1.x4=v/\S.rg (S.adr addr) 13 v c.r1.x5=c.r1.x5/\S.rg (S.adr addr) 14 v c.r1.x6=c.r1.x6/\S.rg (S.adr addr) 15 v c.r1.x7=c.r1.x7/\r
def ygv0 (c:S.Chip) (addr v:Int) (r:Prop):Prop :=
 S.rg (S.adr addr) 8 v c.r1.x0=c.r1.x0/\S.rg (S.adr addr) 9 v c.r1.x1=c.r1.x1/\S.rg (S.adr addr) 10 v c.r1.x2=c.r1.x2/\S.rg (S.adr addr) 11 v c.r1.x3=c.r1.x3/\S.rg (S.adr addr) 12 v c.r1.x4=c.r1.x4/\S.rg (S.adr addr) 13 v c.r1.x5=v/\S.rg (S.adr addr) 14 v c.r1.x6=c.r1.x6/\S.rg (S.adr addr) 15 v c.r1.x7=c.r1.x7/\r
def yhv0 (c:S.Chip) (addr v:Int) (r:Prop):Prop :=
 S.rg (S.adr addr) 8 v c.r1.x0=c.r1.x0/\S.rg (S.adr addr) 9 v c.r1.x1=c.r1.x1/\S.rg (S.adr addr) 10 v c.r1.x2=c.r1.x2/\S.rg (S.adr addr) 11 v c.r1.x3=c.r1.x3/\S.rg (S.adr addr) 12 v c.r1.x4=c.r1.x4/\S.rg (S.adr addr) 13 v c.r1.x5=c.r1.x5/\S.rg (S.adr addr) 14 v c.r1.x6=v/\S.rg (S.adr addr) 15 v c.r1.x7=c.r1.x7/\r
def yiv0 (c:S.Chip) (addr v:Int) (r:Prop):Prop :=
 S.rg (S.adr addr) 8 v c.r1.x0=c.r1.x0/\S.rg (S.adr addr) 9 v c.r1.x1=c.r1.x1/\S.rg (S.adr addr) 10 v c.r1.x2=c.r1.x2/\S.rg (S.adr addr) 11 v c.r1.x3=c.r1.x3/\S.rg (S.adr addr) 12 v c.r1.x4=c.r1.x4/\S.rg (S.adr addr) 13 v c.r1.x5=c.r1.x5/\S.rg (S.adr addr) 14 v c.r1.x6=c.r1.x6/\S.rg (S.adr addr) 15 v c.r1.x7=v/\r
def yjv0 (c:S.Chip) (addr v:Int) (r:Prop):Prop :=
 S.rg (S.adr addr) 16 0 c.t0.a=bc (S.inR 0 160) (0 % 4) c.t0.a/\(4:Int)=4/\S.rg (S.adr addr) 16 0 c.t0.s=bc (S.inR 0 160) (S.st (0 / 4:Int)) c.t0.s/\(6:Int)=6/\(1:Int)=1/\r
def ykv0 (c:S.Chip) (addr v:Int) (r:Prop):Prop :=
 S.rg (S.adr addr) 17 0 c.t1.a=bc (S.inR 0 160) (0 % 4) c.t1.a/\(4:Int)=4/\S.rg (S.adr addr) 17 0 c.t1.s=bc (S.inR 0 160) (S.st (0 / 4:Int)) c.t1.s/\(6:Int)=6/\(1:Int)=1/\r
def ylv0 (c:S.Chip) (addr v:Int) (r:Prop):Prop :=
 bc (S.frW (S.adr addr) 40 c.r5.x0 v) (S.frM c.r0.x4 c.t0 % 4) (S.rg (S.adr addr) 18 0 c.t2.a)=bc (S.inR 0 160) (0 % 4) c.t2.a/\(4:Int)=4/\bc (S.frW (S.adr addr) 40 c.r5.x0 v) (S.st (S.frM c.r0.x4 c.t0 / 4)) (S.rg (S.adr addr) 18 0 c.t2.s)=bc (S.inR 0 160) (S.st (0 / 4:Int)) c.t2.s/\(6:Int)=6/\(1:Int)=1/\r
def ymv0 (c:S.Chip) (addr v:Int) (r:Prop):Prop :=
 bc (S.frW (S.adr addr) 41 c.r5.x1 v) (S.frM c.r0.x5 c.t1 % 4) (S.rg (S.adr addr) 19 0 c.t3.a)=bc (S.inR 0 160) (0 % 4) c.t3.a/\(4:Int)=4/\bc (S.frW (S.adr addr) 41 c.r5.x1 v) (S.st (S.frM c.r0.x5 c.t1 / 4)) (S.rg (S.adr addr) 19 0 c.t3.s)=bc (S.inR 0 160) (S.st (0 / 4:Int)) c.t3.s/\(6:Int)=6/\(1:Int)=1/\r
def ynv0 (c:S.Chip) (addr v:Int) (r:Prop):Prop :=
 S.rg (S.adr addr) 20 0 c.t4.a=bc (S.inR 0 160) (0 % 4) c.t4.a/\(4:Int)=4/\S.rg (S.adr addr) 20 0 c.t4.s=bc (S.inR 0 160) (S.st (0 / 4:Int)) c.t4.s/\(6:Int)=6/\(1:Int)=1/\r
def yov0 (c:S.Chip) (addr v:Int) (r:Prop):Prop :=
 S.rg (S.adr addr) 21 (andK .u8 v 15) c.v0.ytw2=andK .u8 v 15/\S.rg (S.adr addr) 23 (andK .u8 v 31) c.v0.rate=c.v0.rate/\S.rg (S.adr addr) 25 (andK .u8 v 15) c.v0.yxw2=c.v0.yxw2/\(0:Nat)=0/\(0:Nat)=0/\(0:Nat)=0/\c.v0.count=c.v0.count/\c.v0.high=c.v0.high/\r
def ypv0 (c:S.Chip) (addr v:Int) (r:Prop):Prop :=
 S.rg (S.adr addr) 22 (andK .u8 v 15) c.v1.ytw2=andK .u8 v 15/\S.rg (S.adr addr) 24 (andK .u8 v 31) c.v1.rate=c.v1.rate/\S.rg (S.adr addr) 26 (andK .u8 v 15) c.v1.yxw2=c.v1.yxw2/\(0:Nat)=0/\(0:Nat)=0/\(0:Nat)=0/\c.v1.count=c.v1.count/\c.v1.high=c.v1.high/\r
def yqv0 (c:S.Chip) (addr v:Int) (r:Prop):Prop :=
 S.rg (S.adr addr) 21 (andK .u8 v 15) c.v0.ytw2=c.v0.ytw2/\S.rg (S.adr addr) 23 (andK .u8 v 31) c.v0.rate=andK .u8 v 31/\S.rg (S.adr addr) 25 (andK .u8 v 15) c.v0.yxw2=c.v0.yxw2/\(0:Nat)=0/\(0:Nat)=0/\(0:Nat)=0/\c.v0.count=c.v0.count/\c.v0.high=c.v0.high/\r
def yrv0 (c:S.Chip) (addr v:Int) (r:Prop):Prop :=
 S.rg (S.adr addr) 22 (andK .u8 v 15) c.v1.ytw2=c.v1.ytw2/\S.rg (S.adr addr) 24 (andK .u8 v 31) c.v1.rate=andK .u8 v 31/\S.rg (S.adr addr) 26 (andK .u8 v 15) c.v1.yxw2=c.v1.yxw2/\(0:Nat)=0/\(0:Nat)=0/\(0:Nat)=0/\c.v1.count=c.v1.count/\c.v1.high=c.v1.high/\r
def ysv0 (c:S.Chip) (addr v:Int) (r:Prop):Prop :=
 S.rg (S.adr addr) 21 (andK .u8 v 15) c.v0.ytw2=c.v0.ytw2/\S.rg (S.adr addr) 23 (andK .u8 v 31) c.v0.rate=c.v0.rate/\S.rg (S.adr addr) 25 (andK .u8 v 15) c.v0.yxw2=andK .u8 v 15/\(0:Nat)=0/\(0:Nat)=0/\(0:Nat)=0/\c.v0.count=c.v0.count/\c.v0.high=c.v0.high/\r
def ytv0 (c:S.Chip) (addr v:Int) (r:Prop):Prop :=
 S.rg (S.adr addr) 22 (andK .u8 v 15) c.v1.ytw2=c.v1.ytw2/\S.rg (S.adr addr) 24 (andK .u8 v 31) c.v1.rate=c.v1.rate/\S.rg (S.adr addr) 26 (andK .u8 v 15) c.v1.yxw2=andK .u8 v 15/\(0:Nat)=0/\(0:Nat)=0/\(0:Nat)=0/\c.v1.count=c.v1.count/\c.v1.high=c.v1.high/\r
def yuv0 (c:S.Chip) (addr v:Int) (r:Prop):Prop :=
 S.rg (S.adr addr) 27 v c.g00=v/\S.rg (S.adr addr) 28 c.g00 c.g01=c.g01/\S.rg (S.adr addr) 28 v c.g10=c.g10/\S.rg (S.adr addr) 27 c.g10 c.g11=c.g10/\S.rb (S.adr addr) 31 (S.hb .u8 v 2) c.b0=c.b0/\S.rb (S.adr addr) 28 c.b0 c.b1=c.b1/\S.rg (S.adr addr) 44 0 c.met=c.met/\S.rb (S.adr addr) 2 true c.wait=c.wait/\(0:Nat)=0/\(0:Nat)=0/\r
def yvv0 (c:S.Chip) (addr v:Int) (r:Prop):Prop :=
 S.rg (S.adr addr) 27 v c.g00=c.g00/\S.rg (S.adr addr) 28 c.g00 c.g01=c.g00/\S.rg (S.adr addr) 28 v c.g10=v/\S.rg (S.adr addr) 27 c.g10 c.g11=c.g11/\S.rb (S.adr addr) 31 (S.hb .u8 v 2) c.b0=c.b0/\S.rb (S.adr addr) 28 c.b0 c.b1=c.b0/\S.rg (S.adr addr) 44 0 c.met=c.met/\S.rb (S.adr addr) 2 true c.wait=c.wait/\(0:Nat)=0/\(0:Nat)=0/\r
def ywv0 (c:S.Chip) (addr v:Int) (r:Prop):Prop :=
 c.r3.x0=c.r3.x0/\c.r3.x1=c.r3.x1/\c.r3.x2=c.r3.x2/\c.r3.x3=c.r3.x3/\c.r3.x4=c.r3.x4/\S.rg (S.adr addr) 29 v c.r3.x5=v/\S.rg (S.adr addr) 30 v c.r3.x6=c.r3.x6/\c.r3.x7=c.r3.x7/\r
def yxv0 (c:S.Chip) (addr v:Int) (r:Prop):Prop :=
 c.r3.x0=c.r3.x0/\c.r3.x1=c.r3.x1/\c.r3.x2=c.r3.x2/\c.r3.x3=c.r3.x3/\c.r3.x4=c.r3.x4/\S.rg (S.adr addr) 29 v c.r3.x5=c.r3.x5/\S.rg (S.adr addr) 30 v c.r3.x6=v/\c.r3.x7=c.r3.x7/\r
def yyv0 (c:S.Chip) (addr v:Int) (r:Prop):Prop :=
 S.rg (S.adr addr) 27 v c.g00=c.g00/\S.rg (S.adr addr) 28 c.g00 c.g01=c.g01/\S.rg (S.adr addr) 28 v c.g10=c.g10/\S.rg (S.adr addr) 27 c.g10 c.g11=c.g11/\S.rb (S.adr addr) 31 (S.hb .u8 v 2) c.b0=notB (eqI (andK .u8 v 2) 0)/\S.rb (S.adr addr) 28 c.b0 c.b1=c.b1/\S.rg (S.adr addr) 44 0 c.met=c.met/\S.rb (S.adr addr) 2 true c.wait=c.wait/\(0:Nat)=0/\(0:Nat)=0/\r
def yzv0 (c:S.Chip) (addr v:Int) (r:Prop):Prop :=
 S.rg (S.adr addr) 43 0 (S.rg (S.adr addr) 32 v c.r4.x0)=v/\S.rg (S.adr addr) 43 0 (S.rg (S.adr addr) 33 v c.r4.x1)=c.r4.x1/\S.rg (S.adr addr) 43 0 (S.rg (S.adr addr) 34 v c.r4.x2)=c.r4.x2/\S.rg (S.adr addr) 43 0 (S.rg (S.adr addr) 35 v c.r4.x3)=c.r4.x3/\S.rg (S.adr addr) 43 0 (S.rg (S.adr addr) 36 v c.r4.x4)=c.r4.x4/\S.rg (S.adr addr) 37 v c.r4.x5=c.r4.x5/\S.rg (S.adr addr) 38 v c.r4.x6=c.r4.x6/\S.rg (S.adr addr) 39 v c.r4.x7=c.r4.x7/\r
def yaw0 (c:S.Chip) (addr v:Int) (r:Prop):Prop :=
 S.rg (S.adr addr) 43 0 (S.rg (S.adr addr) 32 v c.r4.x0)=c.r4.x0/\S.rg (S.adr addr) 43 0 (S.rg (S.adr addr) 33 v c.r4.x1)=v/\S.rg (S.adr addr) 43 0 (S.rg (S.adr addr) 34 v c.r4.x2)=c.r4.x2/\S.rg (S.adr addr) 43 0 (S.rg (S.adr addr) 35 v c.r4.x3)=c.r4.x3/\S.rg (S.adr addr) 43 0 (S.rg (S.adr addr) 36 v c.r4.x4)=c.r4.x4/\S.rg (S.adr addr) 37 v c.r4.x5=c.r4.x5/\S.rg (S.adr addr) 38 v c.r4.x6=c.r4.x6/\S.rg (S.adr addr) 39 v c.r4.x7=c.r4.x7/\r
def ybw0 (c:S.Chip) (addr v:Int) (r:Prop):Prop :=
 S.rg (S.adr addr) 43 0 (S.rg (S.adr addr) 32 v c.r4.x0)=c.r4.x0/\S.rg (S.adr addr) 43 0 (S.rg (S.adr addr) 33 v c.r4.x1)=c.r4.x1/\S.rg (S.adr addr) 43 0 (S.rg (S.adr addr) 34 v c.r4.x2)=v/\S.rg (S.adr addr) 43 0 (S.rg (S.adr addr) 35 v c.r4.x3)=c.r4.x3/\S.rg (S.adr addr) 43 0 (S.rg (S.adr addr) 36 v c.r4.x4)=c.r4.x4/\S.rg (S.adr addr) 37 v c.r4.x5=c.r4.x5/\S.rg (S.adr addr) 38 v c.r4.x6=c.r4.x6/\S.rg (S.adr addr) 39 v c.r4.x7=c.r4.x7/\r
def ycw0 (c:S.Chip) (addr v:Int) (r:Prop):Prop :=
 S.rg (S.adr addr) 43 0 (S.rg (S.adr addr) 32 v c.r4.x0)=c.r4.x0/\S.rg (S.adr addr) 43 0 (S.rg (S.adr addr) 33 v c.r4.x1)=c.r4.x1/\S.rg (S.adr addr) 43 0 (S.rg (S.adr addr) 34 v c.r4.x2)=c.r4.x2/\S.rg (S.adr addr) 43 0 (S.rg (S.adr addr) 35 v c.r4.x3)=v/\S.rg (S.adr addr) 43 0 (S.rg (S.adr addr) 36 v c.r4.x4)=c.r4.x4/\S.rg (S.adr addr) 37 v c.r4.x5=c.r4.x5/\S.rg (S.adr addr) 38 v c.r4.x6=c.r4.x6/\S.rg (S.adr addr) 39 v c.r4.x7=c.r4.x7/\r
def ydw0 (c:S.Chip) (addr v:Int) (r:Prop):Prop :=
 S.rg (S.adr addr) 43 0 (S.rg (S.adr addr) 32 v c.r4.x0)=c.r4.x0/\S.rg (S.adr addr) 43 0 (S.rg (S.adr addr) 33 v c.r4.x1)=c.r4.x1/\S.rg (S.adr addr) 43 0 (S.rg (S.adr addr) 34 v c.r4.x2)=c.r4.x2/\S.rg (S.adr addr) 43 0 (S.rg (S.adr addr) 35 v c.r4.x3)=c.r4.x3/\S.rg (S.adr addr) 43 0 (S.rg (S.adr addr) 36 v c.r4.x4)=v/\S.rg (S.adr addr) 37 v c.r4.x5=c.r4.x5/\S.rg (S.adr addr) 38 v c.r4.x6=c.r4.x6/\S.rg (S.adr addr) 39 v c.r4.x7=c.r4.x7/\r
def yew0 (c:S.Chip) (addr v:Int) (r:Prop):Prop :=
 S.rg (S.adr addr) 43 0 (S.rg (S.adr addr) 32 v c.r4.x0)=c.r4.x0/\S.rg (S.adr addr) 43 0 (S.rg (S.adr addr) 33 v c.r4.x1)=c.r4.x1/\S.rg (S.adr addr) 43 0 (S.rg (S.adr addr) 34 v c.r4.x2)=c.r4.x2/\S.rg (S.adr addr) 43 0 (S.rg (S.adr addr) 35 v c.r4.x3)=c.r4.x3/\S.rg (S.adr addr) 43 0 (S.rg (S.adr addr) 36 v c.r4.x4)=c.r4.x4/\S.rg (S.adr addr) 37 v c.r4.x5=v/\S.rg (S.adr addr) 38 v c.r4.x6=c.r4.x6/\S.rg (S.adr addr) 39 v c.r4.x7=c.r4.x7/\r
def yfw0 (c:S.Chip) (addr v:Int) (r:Prop):Prop :=
 S.rg (S.adr addr) 43 0 (S.rg (S.adr addr) 32 v c.r4.x0)=c.r4.x0/\S.rg (S.adr addr) 43 0 (S.rg (S.adr addr) 33 v c.r4.x1)=c.r4.x1/\S.rg (S.adr addr) 43 0 (S.rg (S.adr addr) 34 v c.r4.x2)=c.r4.x2/\S.rg (S.adr addr) 43 0 (S.rg (S.adr addr) 35 v c.r4.x3)=c.r4.x3/\S.rg (S.adr addr) 43 0 (S.rg (S.adr addr) 36 v c.r4.x4)=c.r4.x4/\S.rg (S.adr addr) 37 v c.r4.x5=c.r4.x5/\S.rg (S.adr addr) 38 v c.r4.x6=v/\S.rg (S.adr addr) 39 v c.r4.x7=c.r4.x7/\r
def ygw0 (c:S.Chip) (addr v:Int) (r:Prop):Prop :=
 S.rg (S.adr addr) 43 0 (S.rg (S.adr addr) 32 v c.r4.x0)=c.r4.x0/\S.rg (S.adr addr) 43 0 (S.rg (S.adr addr) 33 v c.r4.x1)=c.r4.x1/\S.rg (S.adr addr) 43 0 (S.rg (S.adr addr) 34 v c.r4.x2)=c.r4.x2/\S.rg (S.adr addr) 43 0 (S.rg (S.adr addr) 35 v c.r4.x3)=c.r4.x3/\S.rg (S.adr addr) 43 0 (S.rg (S.adr addr) 36 v c.r4.x4)=c.r4.x4/\S.rg (S.adr addr) 37 v c.r4.x5=c.r4.x5/\S.rg (S.adr addr) 38 v c.r4.x6=c.r4.x6/\S.rg (S.adr addr) 39 v c.r4.x7=v/\r
def ypm0 (c:S.Chip) (addr v:Int) (r:Prop):Prop :=
 S.rg (S.adr addr) 40 v c.r5.x0=v/\S.rg (S.adr addr) 41 v c.r5.x1=c.r5.x1/\c.r5.x2=c.r5.x2/\c.r5.x3=c.r5.x3/\c.r5.x4=c.r5.x4/\c.r5.x5=c.r5.x5/\c.r5.x6=c.r5.x6/\c.r5.x7=c.r5.x7/\r
def yhw0 (c:S.Chip) (addr v:Int) (r:Prop):Prop :=
 bc (S.frW (S.adr addr) 40 c.r5.x0 v) (S.frM c.r0.x4 c.t0 % 4) (S.rg (S.adr addr) 18 0 c.t2.a)=S.frM c.r0.x4 c.t0 % 4/\(4:Int)=4/\bc (S.frW (S.adr addr) 40 c.r5.x0 v) (S.st (S.frM c.r0.x4 c.t0 / 4)) (S.rg (S.adr addr) 18 0 c.t2.s)=S.st (S.frM c.r0.x4 c.t0 / 4)/\(6:Int)=6/\(1:Int)=1/\r
def yqm0 (c:S.Chip) (addr v:Int) (r:Prop):Prop :=
 S.rg (S.adr addr) 40 v c.r5.x0=c.r5.x0/\S.rg (S.adr addr) 41 v c.r5.x1=v/\c.r5.x2=c.r5.x2/\c.r5.x3=c.r5.x3/\c.r5.x4=c.r5.x4/\c.r5.x5=c.r5.x5/\c.r5.x6=c.r5.x6/\c.r5.x7=c.r5.x7/\r
def yiw0 (c:S.Chip) (addr v:Int) (r:Prop):Prop :=
 bc (S.frW (S.adr addr) 41 c.r5.x1 v) (S.frM c.r0.x5 c.t1 % 4) (S.rg (S.adr addr) 19 0 c.t3.a)=S.frM c.r0.x5 c.t1 % 4/\(4:Int)=4/\bc (S.frW (S.adr addr) 41 c.r5.x1 v) (S.st (S.frM c.r0.x5 c.t1 / 4)) (S.rg (S.adr addr) 19 0 c.t3.s)=S.st (S.frM c.r0.x5 c.t1 / 4)/\(6:Int)=6/\(1:Int)=1/\r
def yjw0 (c:S.Chip) (addr v:Int) (r:Prop):Prop :=
 S.rb (S.adr addr) 42 true c.late=true/\S.rg (S.adr addr) 3 0 c.ba=c.ba/\(4:Int)=4/\S.rg (S.adr addr) 3 0 c.bs=c.bs/\(6:Int)=6/\(1:Int)=1/\r
def ykw0 (c:S.Chip) (addr v:Int) (r:Prop):Prop :=
 S.rg (S.adr addr) 42 0 c.mc=(0:Int)/\S.rg (S.adr addr) 42 0 c.mg=(0:Int)/\S.rg (S.adr addr) 42 31 c.mm=(31:Int)/\r
def ylw0 (c:S.Chip) (addr v:Int) (r:Prop):Prop :=
 S.rg (S.adr addr) 43 0 (S.rg (S.adr addr) 32 v c.r4.x0)=(0:Int)/\S.rg (S.adr addr) 43 0 (S.rg (S.adr addr) 33 v c.r4.x1)=(0:Int)/\S.rg (S.adr addr) 43 0 (S.rg (S.adr addr) 34 v c.r4.x2)=(0:Int)/\S.rg (S.adr addr) 43 0 (S.rg (S.adr addr) 35 v c.r4.x3)=(0:Int)/\S.rg (S.adr addr) 43 0 (S.rg (S.adr addr) 36 v c.r4.x4)=(0:Int)/\S.rg (S.adr addr) 37 v c.r4.x5=c.r4.x5/\S.rg (S.adr addr) 38 v c.r4.x6=c.r4.x6/\S.rg (S.adr addr) 39 v c.r4.x7=c.r4.x7/\r
def ymw0 (c:S.Chip) (addr v:Int) (r:Prop):Prop :=
 S.rg (S.adr addr) 27 v c.g00=c.g00/\S.rg (S.adr addr) 28 c.g00 c.g01=c.g01/\S.rg (S.adr addr) 28 v c.g10=c.g10/\S.rg (S.adr addr) 27 c.g10 c.g11=c.g11/\S.rb (S.adr addr) 31 (S.hb .u8 v 2) c.b0=c.b0/\S.rb (S.adr addr) 28 c.b0 c.b1=c.b1/\S.rg (S.adr addr) 44 0 c.met=(0:Int)/\S.rb (S.adr addr) 2 true c.wait=c.wait/\(0:Nat)=0/\(0:Nat)=0/\r
def yfj0 (c:S.Chip) (addr v:Int) (r:Prop):Prop:=(ykz0 c addr v r)
def ykh0 (c:S.Chip) (addr v:Int) (r:Prop):Prop:=yfj0 c addr v (yqp0 c addr v r)
def yze1 (c:S.Chip) (addr v:Int) (r:Prop):Prop:=ykh0 c addr v (ywr0 c addr v r)
def ybs0 (c:S.Chip) (addr v:Int) (r:Prop):Prop:=yze1 c addr v (yxr0 c addr v r)
def yrg0 (c:S.Chip) (addr v:Int) (r:Prop):Prop:=ybs0 c addr v (yyr0 c addr v r)
def ygj0 (c:S.Chip) (addr v:Int) (r:Prop):Prop:=yrg0 c addr v (yzr0 c addr v r)
def yaf1 (c:S.Chip) (addr v:Int) (r:Prop):Prop:=ygj0 c addr v (yas0 c addr v r)
def ygl0 (c:S.Chip) (addr v:Int) (r:Prop):Prop:=yaf1 c addr v (yin0 c addr v r)
def ycs0 (c:S.Chip) (addr v:Int) (r:Prop):Prop:=ygl0 c addr v (yjn0 c addr v r)
def ynw0 (c:S.Chip) (addr v:Int) (r:Prop):Prop:=ycs0 c addr v (ykn0 c addr v r)
def yrp0 (c:S.Chip) (addr v:Int) (r:Prop):Prop:=ynw0 c addr v (yni0 c addr v r)
def ysp0 (c:S.Chip) (addr v:Int) (r:Prop):Prop:=yrp0 c addr v (yoi0 c addr v r)
def ytp0 (c:S.Chip) (addr v:Int) (r:Prop):Prop:=ysp0 c addr v (ypi0 c addr v r)
def yup0 (c:S.Chip) (addr v:Int) (r:Prop):Prop:=ytp0 c addr v (yxj0 c addr v r)
def yvp0 (c:S.Chip) (addr v:Int) (r:Prop):Prop:=yup0 c addr v (ylm0 c addr v r)
def yyj0 (c:S.Chip) (addr v:Int) (r:Prop):Prop:=yvp0 c addr v (ymm0 c addr v r)
def yzj0 (c:S.Chip) (addr v:Int) (r:Prop):Prop:=yyj0 c addr v (ynm0 c addr v r)
def yow0 (c:S.Chip) (addr v:Int) (r:Prop):Prop:=yzj0 c addr v (yom0 c addr v r)
def yhc1 (c:S.Chip) (addr v:Int) (r:Prop):Prop:=yow0 c addr v (ypp0 c addr v r)
def yak0 (c:S.Chip) (addr v:Int) (r:Prop):Prop:=ypp0 c addr v r
def ybk0 (c:S.Chip) (addr v:Int) (r:Prop):Prop:=yom0 c addr v (yak0 c addr v r)
def ywp0 (c:S.Chip) (addr v:Int) (r:Prop):Prop:=ynm0 c addr v (ybk0 c addr v r)
def yrm0 (c:S.Chip) (addr v:Int) (r:Prop):Prop:=ymm0 c addr v (ywp0 c addr v r)
def ysm0 (c:S.Chip) (addr v:Int) (r:Prop):Prop:=ylm0 c addr v (yrm0 c addr v r)
def yxp0 (c:S.Chip) (addr v:Int) (r:Prop):Prop:=yxj0 c addr v (ysm0 c addr v r)
def yyp0 (c:S.Chip) (addr v:Int) (r:Prop):Prop:=ypi0 c addr v (yxp0 c addr v r)
def yzp0 (c:S.Chip) (addr v:Int) (r:Prop):Prop:=yoi0 c addr v (yyp0 c addr v r)
def yaq0 (c:S.Chip) (addr v:Int) (r:Prop):Prop:=yni0 c addr v (yzp0 c addr v r)
def yhl0 (c:S.Chip) (addr v:Int) (r:Prop):Prop:=ykn0 c addr v (yaq0 c addr v r)
def ybf1 (c:S.Chip) (addr v:Int) (r:Prop):Prop:=yjn0 c addr v (yhl0 c addr v r)
def yln0 (c:S.Chip) (addr v:Int) (r:Prop):Prop:=yin0 c addr v (ybf1 c addr v r)
def ysg0 (c:S.Chip) (addr v:Int) (r:Prop):Prop:=yas0 c addr v (yln0 c addr v r)
def yds0 (c:S.Chip) (addr v:Int) (r:Prop):Prop:=yzr0 c addr v (ysg0 c addr v r)
def ycf1 (c:S.Chip) (addr v:Int) (r:Prop):Prop:=yyr0 c addr v (yds0 c addr v r)
def ylh0 (c:S.Chip) (addr v:Int) (r:Prop):Prop:=yxr0 c addr v (ycf1 c addr v r)
def yil0 (c:S.Chip) (addr v:Int) (r:Prop):Prop:=ywr0 c addr v (ylh0 c addr v r)
def ydf1 (c:S.Chip) (addr v:Int) (r:Prop):Prop:=yqp0 c addr v (yil0 c addr v r)
def yhd0 (c:S.Chip) (addr v:Int) (r:Prop):Prop:=ykz0 c addr v (ydf1 c addr v r)
theorem yal2 (c:S.Chip) (addr v:Int):K.bodyF (yzh2) (K.runF (yzh2) 30) 28 [.ptr 0 0,.int .u16 addr,.int .u8 v] (Heap.of (S.hp0 c)) (.skip 1 (.st [.int .i64 0,.int .i64 1,.int .i64 2,.int .i64 3,.int .i64 4,.int .i64 5,.int .i64 6,.int .i64 7,.int .i64 8,.int .i64 9,.int .i64 10,.int .i64 11,.int .i64 12,.int .i64 13,.int .i64 14,.int .i64 15,.int .i64 16,.int .i64 17,.int .i64 18,.int .i64 19,.int .i64 20,.int .i64 21,.int .i64 22,.int .i64 23,.int .i64 24,.int .i64 25,.int .i64 26,.int .i64 27,.int .i64 28,.int .i64 29,.int .i64 30,.int .i64 31,.int .i64 32,.int .i64 33,.int .i64 34,.int .i64 35,.int .i64 36,.int .i64 37,.int .i64 38,.int .i64 39,.int .i64 40,.int .i64 41,.int .i64 42,.int .i64 43,.int .i64 44,.int .i64 45,.int .i64 46,.int .i64 47,.int .i64 48,.int .i64 49,.int .i64 50,.int .i64 51,.int .i64 52,.int .i64 53,.int .i64 54,.int .i64 55,.int .i64 56,.int .i64 57,.int .i64 58,.int .i64 59,.int .i64 60,.int .i64 61,.int .i64 62,.int .i64 63] .auto)) (K.endC K.openE 40 (kStoR c addr v)) =
  (bc (eqI (S.adr addr) 0) (yfj0 c addr v (yye1 c addr v (yil0 c addr v True))) (bc (eqI (S.adr addr) 1) (yfj0 c addr v (ytu0 c addr v (ywr0 c addr v (yxr0 c addr v (yyr0 c addr v (yzr0 c addr v (yas0 c addr v (yin0 c addr v (yjn0 c addr v (ykn0 c addr v (yni0 c addr v (yoi0 c addr v (ypi0 c addr v (yxj0 c addr v (ylm0 c addr v (ymm0 c addr v (ynm0 c addr v (yom0 c addr v (yuu0 c addr v True))))))))))))))))))) (bc (eqI (S.adr addr) 2) (ygl0 c addr v (yvu0 c addr v (yhl0 c addr v True))) (bc (eqI (S.adr addr) 3) (bc (S.okBm c.ba c.bs 4 20 57) (ycs0 c addr v (ywu0 c addr v (yaq0 c addr v True))) False) (bc (eqI (S.adr addr) 4) (yfj0 c addr v (yxu0 c addr v (yil0 c addr v True))) (bc (eqI (S.adr addr) 5) (yfj0 c addr v (yyu0 c addr v (yil0 c addr v True))) (bc (eqI (S.adr addr) 6) (yfj0 c addr v (yzu0 c addr v (yil0 c addr v True))) (bc (eqI (S.adr addr) 7) (yfj0 c addr v (yav0 c addr v (yil0 c addr v True))) (bc (eqI (S.adr addr) 8) (ykh0 c addr v (ybv0 c addr v (ylh0 c addr v True))) (bc (eqI (S.adr addr) 9) (ykh0 c addr v (ycv0 c addr v (ylh0 c addr v True))) (bc (eqI (S.adr addr) 10) (ykh0 c addr v (ydv0 c addr v (ylh0 c addr v True))) (bc (eqI (S.adr addr) 11) (ykh0 c addr v (yev0 c addr v (ylh0 c addr v True))) (bc (eqI (S.adr addr) 12) (ykh0 c addr v (yfv0 c addr v (ylh0 c addr v True))) (bc (eqI (S.adr addr) 13) (ykh0 c addr v (ygv0 c addr v (ylh0 c addr v True))) (bc (eqI (S.adr addr) 14) (ykh0 c addr v (yhv0 c addr v (ylh0 c addr v True))) (bc (eqI (S.adr addr) 15) (ykh0 c addr v (yiv0 c addr v (ylh0 c addr v True))) (bc (eqI (S.adr addr) 16) (bc (S.okPm c.t0.a 4 45 40 c.t0.s) (yrp0 c addr v (yjv0 c addr v (yyp0 c addr v True))) False) (bc (eqI (S.adr addr) 17) (bc (S.okPm c.t1.a 4 45 40 c.t1.s) (ysp0 c addr v (ykv0 c addr v (yxp0 c addr v True))) False) (bc (eqI (S.adr addr) 18) (bc (S.okPm c.t2.a 4 45 40 c.t2.s) (ytp0 c addr v (ylv0 c addr v (ysm0 c addr v True))) False) (bc (eqI (S.adr addr) 19) (bc (S.okPm c.t3.a 4 45 40 c.t3.s) (yup0 c addr v (ymv0 c addr v (yrm0 c addr v True))) False) (bc (eqI (S.adr addr) 20) (bc (S.okPm c.t4.a 4 45 40 c.t4.s) (yvp0 c addr v (ynv0 c addr v (ywp0 c addr v True))) False) (bc (eqI (S.adr addr) 21) (yyj0 c addr v (yov0 c addr v (ybk0 c addr v True))) (bc (eqI (S.adr addr) 22) (yzj0 c addr v (ypv0 c addr v (yak0 c addr v True))) (bc (eqI (S.adr addr) 23) (yyj0 c addr v (yqv0 c addr v (ybk0 c addr v True))) (bc (eqI (S.adr addr) 24) (yzj0 c addr v (yrv0 c addr v (yak0 c addr v True))) (bc (eqI (S.adr addr) 25) (yyj0 c addr v (ysv0 c addr v (ybk0 c addr v True))) (bc (eqI (S.adr addr) 26) (yzj0 c addr v (ytv0 c addr v (yak0 c addr v True))) (bc (eqI (S.adr addr) 27) (ygl0 c addr v (yuv0 c addr v (yhl0 c addr v True))) (bc (eqI (S.adr addr) 28) (ygl0 c addr v (yvv0 c addr v (yhl0 c addr v True))) (bc (eqI (S.adr addr) 29) (ybs0 c addr v (ywv0 c addr v (yds0 c addr v True))) (bc (eqI (S.adr addr) 30) (ybs0 c addr v (yxv0 c addr v (yds0 c addr v True))) (bc (eqI (S.adr addr) 31) (ygl0 c addr v (yyv0 c addr v (yhl0 c addr v True))) (bc (eqI (S.adr addr) 32) (yrg0 c addr v (yzv0 c addr v (ysg0 c addr v True))) (bc (eqI (S.adr addr) 33) (yrg0 c addr v (yaw0 c addr v (ysg0 c addr v True))) (bc (eqI (S.adr addr) 34) (yrg0 c addr v (ybw0 c addr v (ysg0 c addr v True))) (bc (eqI (S.adr addr) 35) (yrg0 c addr v (ycw0 c addr v (ysg0 c addr v True))) (bc (eqI (S.adr addr) 36) (yrg0 c addr v (ydw0 c addr v (ysg0 c addr v True))) (bc (eqI (S.adr addr) 37) (yrg0 c addr v (yew0 c addr v (ysg0 c addr v True))) (bc (eqI (S.adr addr) 38) (yrg0 c addr v (yfw0 c addr v (ysg0 c addr v True))) (bc (eqI (S.adr addr) 39) (yrg0 c addr v (ygw0 c addr v (ysg0 c addr v True))) (bc (eqI (S.adr addr) 40) (bc (notB (eqI (andK .u8 c.r5.x0 2) 0)) (bc (eqI (andK .u8 v 2) 0) (bc (S.an (S.pl c.t0) (S.pl c.t2)) (ygj0 c addr v (ypm0 c addr v (yin0 c addr v (yjn0 c addr v (ykn0 c addr v (yni0 c addr v (yoi0 c addr v (ypi0 c addr v (yhw0 c addr v (ysm0 c addr v True)))))))))) False) (ygj0 c addr v (ypm0 c addr v (yln0 c addr v True)))) (ygj0 c addr v (ypm0 c addr v (yln0 c addr v True)))) (bc (eqI (S.adr addr) 41) (bc (notB (eqI (andK .u8 c.r5.x1 2) 0)) (bc (eqI (andK .u8 v 2) 0) (bc (S.an (S.pl c.t1) (S.pl c.t3)) (ygj0 c addr v (yqm0 c addr v (yin0 c addr v (yjn0 c addr v (ykn0 c addr v (yni0 c addr v (yoi0 c addr v (ypi0 c addr v (yxj0 c addr v (yiw0 c addr v (yrm0 c addr v True))))))))))) False) (ygj0 c addr v (yqm0 c addr v (yln0 c addr v True)))) (ygj0 c addr v (yqm0 c addr v (yln0 c addr v True)))) (bc (eqI (S.adr addr) 42) (bc (S.okBm c.ba c.bs 4 20 57) (ycs0 c addr v (yjw0 c addr v (ykw0 c addr v (yzp0 c addr v True)))) False) (bc (eqI (S.adr addr) 43) (yrg0 c addr v (ylw0 c addr v (ysg0 c addr v True))) (bc (eqI (S.adr addr) 44) (ygl0 c addr v (ymw0 c addr v (yhl0 c addr v True))) (bc (eqI (S.adr addr) 45) (yhd0 c addr v True) (bc (eqI (S.adr addr) 46) (yhd0 c addr v True) (bc (eqI (S.adr addr) 47) (yhd0 c addr v True) (bc (eqI (S.adr addr) 48) (yhd0 c addr v True) (bc (eqI (S.adr addr) 49) (yhd0 c addr v True) (bc (eqI (S.adr addr) 50) (yhd0 c addr v True) (bc (eqI (S.adr addr) 51) (yhd0 c addr v True) (bc (eqI (S.adr addr) 52) (yhd0 c addr v True) (bc (eqI (S.adr addr) 53) (yhd0 c addr v True) (bc (eqI (S.adr addr) 54) (yhd0 c addr v True) (bc (eqI (S.adr addr) 55) (yhd0 c addr v True) (bc (eqI (S.adr addr) 56) (yhd0 c addr v True) (bc (eqI (S.adr addr) 57) (yhd0 c addr v True) (bc (eqI (S.adr addr) 58) (yhd0 c addr v True) (bc (eqI (S.adr addr) 59) (yhd0 c addr v True) (bc (eqI (S.adr addr) 60) (yhd0 c addr v True) (bc (eqI (S.adr addr) 61) (yhd0 c addr v True) (bc (eqI (S.adr addr) 62) (yhd0 c addr v True) (bc (eqI (S.adr addr) 63) (yhd0 c addr v True) False)))))))))))))))))))))))))))))))))))))))))))))))))))))))))))))))):=by kernel_rfl
theorem ybl2 (c:S.Chip) (addr v:Int) (h0:S.okC c=true)  : HTr Tryz.prog 28 [.ptr 0 0,.int .u16 addr,.int .u8 v] (S.hp0 c) (kStoR c addr v):=by
 refine K.yba0 good (A:=yzh2) (yha0 ?_) K.yda0 (k:=30) (cast (yal2 c addr v).symm ?_)
 .intro p hp;simp only [List.mem_cons,List.not_mem_nil,or_false] at hp;rcases hp with rfl | rfl | rfl | rfl | rfl | rfl | rfl | rfl | rfl | rfl;exact ywj2;exact yiy1;exact yda2;exact ywp1;exact yph1;exact ykk2;exact yxq1;exact yzk2;exact yop1;exact yok2
 .obtain ⟨pb,pp,pt,pd,pv,pw⟩:=S.ywf0.1 h0;obtain ⟨_,_,a0,a1,a2,a3,a4⟩:=S.yhh0.1 pt;have p0:=(S.yma0.1 a0).1;have p1:=(S.yma0.1 a1).1;have p2:=(S.yma0.1 a2).1;have p3:=(S.yma0.1 a3).1;have p4:=(S.yma0.1 a4).1;have k0:S.an (S.pl c.t0) (S.pl c.t2)=true:=S.an_t2 p0 p2;have k1:S.an (S.pl c.t1) (S.pl c.t3)=true:=S.an_t2 p1 p3;have z1:S.inR 0 160=true:=rfl;have z2:S.st (0 / 4)=0:=S.st0;have hf:∀ k x n,notB (eqI (andK k x n) 0)=S.hb k x n:=fun _ _ _=>rfl
  have hg:∀ k x n,eqI (andK k x n) 0=notB (S.hb k x n):=fun k x n=>by unfold S.hb;cases eqI (andK k x n) 0 <;> rfl
  simp only [pb,p0,p1,p2,p3,p4,k0,k1,bc_true];clear pb pp pt pd pv pw a0 a1 a2 a3 a4 p0 p1 p2 p3 p4 k0 k1 h0;have hany:=S.ynr2 addr;refine bcI (fun e=>?_) fun n0=>bcI (fun e=>?_) fun n1=>bcI (fun e=>?_) fun n2=>bcI (fun e=>?_) fun n3=>bcI (fun e=>?_) fun n4=>bcI (fun e=>?_) fun n5=>bcI (fun e=>?_) fun n6=>bcI (fun e=>?_) fun n7=>bcI (fun e=>?_) fun n8=>bcI (fun e=>?_) fun n9=>bcI (fun e=>?_) fun n10=>bcI (fun e=>?_) fun n11=>bcI (fun e=>?_) fun n12=>bcI (fun e=>?_) fun n13=>bcI (fun e=>?_) fun n14=>bcI (fun e=>?_) fun n15=>bcI (fun e=>?_) fun n16=>bcI (fun e=>?_) fun n17=>bcI (fun e=>?_) fun n18=>bcI (fun e=>?_) fun n19=>bcI (fun e=>?_) fun n20=>bcI (fun e=>?_) fun n21=>bcI (fun e=>?_) fun n22=>bcI (fun e=>?_) fun n23=>bcI (fun e=>?_) fun n24=>bcI (fun e=>?_) fun n25=>bcI (fun e=>?_) fun n26=>bcI (fun e=>?_) fun n27=>bcI (fun e=>?_) fun n28=>bcI (fun e=>?_) fun n29=>bcI (fun e=>?_) fun n30=>bcI (fun e=>?_) fun n31=>bcI (fun e=>?_) fun n32=>bcI (fun e=>?_) fun n33=>bcI (fun e=>?_) fun n34=>bcI (fun e=>?_) fun n35=>bcI (fun e=>?_) fun n36=>bcI (fun e=>?_) fun n37=>bcI (fun e=>?_) fun n38=>bcI (fun e=>?_) fun n39=>bcI (fun e=>?_) fun n40=>bcI (fun e=>?_) fun n41=>bcI (fun e=>?_) fun n42=>bcI (fun e=>?_) fun n43=>bcI (fun e=>?_) fun n44=>bcI (fun e=>?_) fun n45=>bcI (fun e=>?_) fun n46=>bcI (fun e=>?_) fun n47=>bcI (fun e=>?_) fun n48=>bcI (fun e=>?_) fun n49=>bcI (fun e=>?_) fun n50=>bcI (fun e=>?_) fun n51=>bcI (fun e=>?_) fun n52=>bcI (fun e=>?_) fun n53=>bcI (fun e=>?_) fun n54=>bcI (fun e=>?_) fun n55=>bcI (fun e=>?_) fun n56=>bcI (fun e=>?_) fun n57=>bcI (fun e=>?_) fun n58=>bcI (fun e=>?_) fun n59=>bcI (fun e=>?_) fun n60=>bcI (fun e=>?_) fun n61=>bcI (fun e=>?_) fun n62=>bcI (fun e=>?_) fun n63=>?z
  case z=>simp only [n0,n1,n2,n3,n4,n5,n6,n7,n8,n9,n10,n11,n12,n13,n14,n15,n16,n17,n18,n19,n20,n21,n22,n23,n24,n25,n26,n27,n28,n29,n30,n31,n32,n33,n34,n35,n36,n37,n38,n39,n40,n41,n42,n43,n44,n45,n46,n47,n48,n49,n50,n51,n52,n53,n54,n55,n56,n57,n58,n59,n60,n61,n62,n63,bc_false,Bool.false_eq_true] at hany
  all_goals (have q:=ypa0.1 e;clear e hany)
  all_goals first
   | (simp only [ykz0,yye1,ywr0,yxr0,yyr0,yzr0,yas0,yin0,yjn0,ykn0,yni0,yoi0,ypi0,yxj0,ylm0,ymm0,ynm0,yom0,ypp0,ytu0,yuu0,yqp0,yvu0,ywu0,yxu0,yyu0,yzu0,yav0,ybv0,ycv0,ydv0,yev0,yfv0,ygv0,yhv0,yiv0,yjv0,ykv0,ylv0,ymv0,ynv0,yov0,ypv0,yqv0,yrv0,ysv0,ytv0,yuv0,yvv0,ywv0,yxv0,yyv0,yzv0,yaw0,ybw0,ycw0,ydw0,yew0,yfw0,ygw0,ypm0,yhw0,yqm0,yiw0,yjw0,ykw0,ylw0,ymw0,yfj0,ykh0,yze1,ybs0,yrg0,ygj0,yaf1,ygl0,ycs0,ynw0,yrp0,ysp0,ytp0,yup0,yvp0,yyj0,yzj0,yow0,yhc1,yhd0,ydf1,yil0,ylh0,ycf1,yds0,ysg0,yln0,ybf1,yhl0,yaq0,yzp0,yyp0,yxp0,ysm0,yrm0,ywp0,ybk0,yak0,q,S.rg_t,S.rb_t,S.rg_f,S.rb_f,S.frW_t,S.frW_f,ne_eq,S.hb,z1,z2,S.st0,bc_true,bc_false,and_self,true_and,and_true,eq_self,not_false_eq_true,Int.reduceEq,Int.reduceMod,Int.reduceDiv];done)
   | (simp only [hf, hg, bc_true]
      generalize hA:S.hb .u8 c.r5.x0 2=bA;generalize hB:S.hb .u8 v 2=bB;simp only [ykz0,yye1,ywr0,yxr0,yyr0,yzr0,yas0,yin0,yjn0,ykn0,yni0,yoi0,ypi0,yxj0,ylm0,ymm0,ynm0,yom0,ypp0,ytu0,yuu0,yqp0,yvu0,ywu0,yxu0,yyu0,yzu0,yav0,ybv0,ycv0,ydv0,yev0,yfv0,ygv0,yhv0,yiv0,yjv0,ykv0,ylv0,ymv0,ynv0,yov0,ypv0,yqv0,yrv0,ysv0,ytv0,yuv0,yvv0,ywv0,yxv0,yyv0,yzv0,yaw0,ybw0,ycw0,ydw0,yew0,yfw0,ygw0,ypm0,yhw0,yqm0,yiw0,yjw0,ykw0,ylw0,ymw0,yfj0,ykh0,yze1,ybs0,yrg0,ygj0,yaf1,ygl0,ycs0,ynw0,yrp0,ysp0,ytp0,yup0,yvp0,yyj0,yzj0,yow0,yhc1,yhd0,ydf1,yil0,ylh0,ycf1,yds0,ysg0,yln0,ybf1,yhl0,yaq0,yzp0,yyp0,yxp0,ysm0,yrm0,ywp0,ybk0,yak0,q,S.rg_t,S.rb_t,S.rg_f,S.rb_f,S.frW_t,S.frW_f,ne_eq,hA,hB,not_false_eq_true,Int.reduceEq];cases bA <;> cases bB <;> simp only [S.an,ydb0,ycb0,bc_true,bc_false,and_self,true_and,and_true,eq_self,not_false_eq_true,Int.reduceEq]
      done)
   | (simp only [hf, hg, bc_true]
      generalize hA:S.hb .u8 c.r5.x1 2=bA;generalize hB:S.hb .u8 v 2=bB;simp only [ykz0,yye1,ywr0,yxr0,yyr0,yzr0,yas0,yin0,yjn0,ykn0,yni0,yoi0,ypi0,yxj0,ylm0,ymm0,ynm0,yom0,ypp0,ytu0,yuu0,yqp0,yvu0,ywu0,yxu0,yyu0,yzu0,yav0,ybv0,ycv0,ydv0,yev0,yfv0,ygv0,yhv0,yiv0,yjv0,ykv0,ylv0,ymv0,ynv0,yov0,ypv0,yqv0,yrv0,ysv0,ytv0,yuv0,yvv0,ywv0,yxv0,yyv0,yzv0,yaw0,ybw0,ycw0,ydw0,yew0,yfw0,ygw0,ypm0,yhw0,yqm0,yiw0,yjw0,ykw0,ylw0,ymw0,yfj0,ykh0,yze1,ybs0,yrg0,ygj0,yaf1,ygl0,ycs0,ynw0,yrp0,ysp0,ytp0,yup0,yvp0,yyj0,yzj0,yow0,yhc1,yhd0,ydf1,yil0,ylh0,ycf1,yds0,ysg0,yln0,ybf1,yhl0,yaq0,yzp0,yyp0,yxp0,ysm0,yrm0,ywp0,ybk0,yak0,q,S.rg_t,S.rb_t,S.rg_f,S.rb_f,S.frW_t,S.frW_f,ne_eq,hA,hB,not_false_eq_true,Int.reduceEq]
      cases bA <;> cases bB <;> simp only [S.an,ydb0,ycb0,bc_true,bc_false,and_self,true_and,and_true,eq_self,not_false_eq_true,Int.reduceEq])
theorem yds1 (c:S.Chip) (addr v:Int) (h0:S.okC c=true):HT Tryz.prog 28 [.ptr 0 0,.int .u16 addr,.int .u8 v] (Heap.of (S.hp0 c)) (.ret (.tup [])) (Heap.of (K.chg (S.hp0 c) (hpCh (S.ynu0 addr v c))++[])):=cast (by kernel_rfl) (ybl2 c addr v h0)
theorem yea2:yto1.ok Tryz.prog 28:=by
 intro xs os b r h h3;unfold yto1 at h;simp only at h;split at h
 .obtain ⟨c,rfl,q⟩:=S.yrb0 h;clear h;injection q with h;injection h with h1 h2;subst h1;subst h2;exact yds1 _ _ _ h3
 .cases h
namespace S
theorem yor2 (addr:Int):0<=adf addr/\adf addr<16:=by
 unfold adf;rw [K.yny0]
 have h:(BitVec.ofInt IntKind.u16.bits addr &&& BitVec.ofInt IntKind.u16.bits 15).toNat<=15:=by
  rw [BitVec.toNat_and];exact Nat.le_trans Nat.and_le_right (by decide)
 generalize (BitVec.ofInt IntKind.u16.bits addr &&& BitVec.ofInt IntKind.u16.bits 15).toNat=n at h
 have e:IntKind.u16.wrap (n:Int)=n:=by
  rw [<- K.yqd0,yvf0];omega
 rw [e,yia0];omega
theorem u16_1 {x:Int} (h0:0<=x) (h1:x<65536):andK .u16 x 1=x % 2:=by
 obtain ⟨n,rfl⟩:=Int.eq_ofNat_of_zero_le h0;rw [K.yny0];have hn:n<65536:=by omega
 have e1:BitVec.ofInt IntKind.u16.bits (n:Int)=BitVec.ofNat 16 n:=by
  apply BitVec.eq_of_toNat_eq;simp [IntKind.bits]
 have e2:BitVec.ofInt IntKind.u16.bits 1=BitVec.ofNat 16 1:=rfl;rw [e1,e2,<- K.yqd0,yvf0]
 have e3:(BitVec.ofNat 16 n &&& BitVec.ofNat 16 1).toNat=n % 2:=by
  rw [BitVec.toNat_and,BitVec.toNat_ofNat,BitVec.toNat_ofNat,Nat.mod_eq_of_lt (by omega:n<2 ^ 16)];exact Nat.and_one_is_mod n
 have e4:((BitVec.ofNat 16 n &&& BitVec.ofNat 16 1).toNat:Int)=(n:Int) % 2:=by rw [e3];omega
 refine (congrArg (· % 65536) e4).trans ?_;show (n:Int) % 2 % 65536=(n:Int) % 2;omega
theorem t_bit {met:Int} (h:inR met 65536=true) (k:Nat):andK .u16 (met.fdiv (2 ^ k)) 1=met / 2 ^ k % 2:=by
 have h1:=yea0.1 h;have hp:(0:Int)<2 ^ k:=Int.pow_pos (by decide);rw [fd h1.1];have a:=Int.ediv_nonneg h1.1 (Int.le_of_lt hp);have b:met / 2 ^ k<=met:=Int.ediv_le_self _ h1.1;exact u16_1 a (by omega)
theorem t_two {a b:Int} (ha:a=0\/a=1) (hb:b=0\/b=1):wrapK .u8 (orK .u16 (wrapK .u16 (a*2 ^ 7)) (wrapK .u16 (b*2 ^ 6)))=128*a+64*b:=by
 rcases ha with rfl | rfl <;> rcases hb with rfl | rfl <;> decide
theorem m2 (x:Int):x % 2=0\/x % 2=1:=by omega
end S
theorem yes1 (met:Int):K.bodyF (envL []) (K.runF (envL []) 30) 111 [.int .u16 met,.int .i64 0] (Heap.of []) Hint.auto (K.endC K.openE 0 ⟨.ret (.int .u8 (S.tell met 0)),[],[]⟩) =
  ((S.tell met (0:Int)=wrapK .u8 (orK .u16 (wrapK .u16 (andK .u16 (Int.fdiv met (2 ^ 0)) 1*2 ^ 7)) (wrapK .u16 (andK .u16 (Int.fdiv met (2 ^ 1)) 1*2 ^ 6)))/\True)):=by kernel_rfl
theorem yfs1 (met:Int) (h0:S.inR met 65536=true)  : HTr Tryz.prog 111 [.int .u16 met,.int .i64 0] [] ⟨.ret (.int .u8 (S.tell met 0)),[],[]⟩:=by
 refine K.yba0 good (A:=envL []) (yha0 ?_) K.yda0 (k:=30) (cast (yes1 met).symm ?_)
 .intro p hp;cases hp
 .have b:=S.t_bit h0;have c1:S.tell met 0=128*(met / 2 ^ 0 % 2)+64*(met / 2 ^ 1 % 2):=rfl;simp only [b,c1];refine ⟨?_,trivial⟩;exact (S.t_two (S.m2 _) (S.m2 _)).symm
theorem ygs1 (met:Int):K.bodyF (envL []) (K.runF (envL []) 30) 111 [.int .u16 met,.int .i64 1] (Heap.of []) Hint.auto (K.endC K.openE 0 ⟨.ret (.int .u8 (S.tell met 1)),[],[]⟩) =
  ((S.tell met (1:Int)=wrapK .u8 (orK .u16 (wrapK .u16 (andK .u16 (Int.fdiv met (2 ^ 2)) 1*2 ^ 7)) (wrapK .u16 (andK .u16 (Int.fdiv met (2 ^ 3)) 1*2 ^ 6)))/\True)):=by kernel_rfl
theorem yhs1 (met:Int) (h0:S.inR met 65536=true)  : HTr Tryz.prog 111 [.int .u16 met,.int .i64 1] [] ⟨.ret (.int .u8 (S.tell met 1)),[],[]⟩:=by
 refine K.yba0 good (A:=envL []) (yha0 ?_) K.yda0 (k:=30) (cast (ygs1 met).symm ?_)
 .intro p hp;cases hp
 .have b:=S.t_bit h0;have c1:S.tell met 1=128*(met / 2 ^ 2 % 2)+64*(met / 2 ^ 3 % 2):=rfl;simp only [b,c1];refine ⟨?_,trivial⟩;exact (S.t_two (S.m2 _) (S.m2 _)).symm
theorem yis1 (met:Int):K.bodyF (envL []) (K.runF (envL []) 30) 111 [.int .u16 met,.int .i64 2] (Heap.of []) Hint.auto (K.endC K.openE 0 ⟨.ret (.int .u8 (S.tell met 2)),[],[]⟩) =
  ((S.tell met (2:Int)=wrapK .u8 (orK .u16 (wrapK .u16 (andK .u16 (Int.fdiv met (2 ^ 4)) 1*2 ^ 7)) (wrapK .u16 (andK .u16 (Int.fdiv met (2 ^ 5)) 1*2 ^ 6)))/\True)):=by kernel_rfl
theorem yjs1 (met:Int) (h0:S.inR met 65536=true)  : HTr Tryz.prog 111 [.int .u16 met,.int .i64 2] [] ⟨.ret (.int .u8 (S.tell met 2)),[],[]⟩:=by
 refine K.yba0 good (A:=envL []) (yha0 ?_) K.yda0 (k:=30) (cast (yis1 met).symm ?_)
 .intro p hp;cases hp
 .have b:=S.t_bit h0;have c1:S.tell met 2=128*(met / 2 ^ 4 % 2)+64*(met / 2 ^ 5 % 2):=rfl;simp only [b,c1];refine ⟨?_,trivial⟩;exact (S.t_two (S.m2 _) (S.m2 _)).symm
theorem yks1 (met:Int):K.bodyF (envL []) (K.runF (envL []) 30) 111 [.int .u16 met,.int .i64 3] (Heap.of []) Hint.auto (K.endC K.openE 0 ⟨.ret (.int .u8 (S.tell met 3)),[],[]⟩) =
  ((S.tell met (3:Int)=wrapK .u8 (orK .u16 (wrapK .u16 (andK .u16 (Int.fdiv met (2 ^ 6)) 1*2 ^ 7)) (wrapK .u16 (andK .u16 (Int.fdiv met (2 ^ 7)) 1*2 ^ 6)))/\True)):=by kernel_rfl
theorem yls1 (met:Int) (h0:S.inR met 65536=true)  : HTr Tryz.prog 111 [.int .u16 met,.int .i64 3] [] ⟨.ret (.int .u8 (S.tell met 3)),[],[]⟩:=by
 refine K.yba0 good (A:=envL []) (yha0 ?_) K.yda0 (k:=30) (cast (yks1 met).symm ?_)
 .intro p hp;cases hp
 .have b:=S.t_bit h0;have c1:S.tell met 3=128*(met / 2 ^ 6 % 2)+64*(met / 2 ^ 7 % 2):=rfl;simp only [b,c1];refine ⟨?_,trivial⟩;exact (S.t_two (S.m2 _) (S.m2 _)).symm
theorem yms1 (met:Int):K.bodyF (envL []) (K.runF (envL []) 30) 111 [.int .u16 met,.int .i64 4] (Heap.of []) Hint.auto (K.endC K.openE 0 ⟨.ret (.int .u8 (S.tell met 4)),[],[]⟩) =
  ((S.tell met (4:Int)=wrapK .u8 (orK .u16 (wrapK .u16 (andK .u16 (Int.fdiv met (2 ^ 8)) 1*2 ^ 7)) (wrapK .u16 (andK .u16 (Int.fdiv met (2 ^ 9)) 1*2 ^ 6)))/\True)):=by kernel_rfl
theorem yns1 (met:Int) (h0:S.inR met 65536=true)  : HTr Tryz.prog 111 [.int .u16 met,.int .i64 4] [] ⟨.ret (.int .u8 (S.tell met 4)),[],[]⟩:=by
 refine K.yba0 good (A:=envL []) (yha0 ?_) K.yda0 (k:=30) (cast (yms1 met).symm ?_)
 .intro p hp;cases hp
 .have b:=S.t_bit h0;have c1:S.tell met 4=128*(met / 2 ^ 8 % 2)+64*(met / 2 ^ 9 % 2):=rfl;simp only [b,c1];refine ⟨?_,trivial⟩;exact (S.t_two (S.m2 _) (S.m2 _)).symm
theorem yos1 (met:Int):K.bodyF (envL []) (K.runF (envL []) 30) 111 [.int .u16 met,.int .i64 5] (Heap.of []) Hint.auto (K.endC K.openE 0 ⟨.ret (.int .u8 (S.tell met 5)),[],[]⟩) =
  ((S.tell met (5:Int)=wrapK .u8 (orK .u16 (wrapK .u16 (andK .u16 (Int.fdiv met (2 ^ 10)) 1*2 ^ 7)) (wrapK .u16 (andK .u16 (Int.fdiv met (2 ^ 11)) 1*2 ^ 6)))/\True)):=by kernel_rfl
theorem yps1 (met:Int) (h0:S.inR met 65536=true)  : HTr Tryz.prog 111 [.int .u16 met,.int .i64 5] [] ⟨.ret (.int .u8 (S.tell met 5)),[],[]⟩:=by
 refine K.yba0 good (A:=envL []) (yha0 ?_) K.yda0 (k:=30) (cast (yos1 met).symm ?_)
 .intro p hp;cases hp
 .have b:=S.t_bit h0;have c1:S.tell met 5=128*(met / 2 ^ 10 % 2)+64*(met / 2 ^ 11 % 2):=rfl;simp only [b,c1];refine ⟨?_,trivial⟩;exact (S.t_two (S.m2 _) (S.m2 _)).symm
theorem yqs1 (met:Int):K.bodyF (envL []) (K.runF (envL []) 30) 111 [.int .u16 met,.int .i64 6] (Heap.of []) Hint.auto (K.endC K.openE 0 ⟨.ret (.int .u8 (S.tell met 6)),[],[]⟩) =
  ((S.tell met (6:Int)=wrapK .u8 (orK .u16 (wrapK .u16 (andK .u16 (Int.fdiv met (2 ^ 12)) 1*2 ^ 7)) (wrapK .u16 (0*2 ^ 6)))/\True)):=by kernel_rfl
theorem yrs1 (met:Int) (h0:S.inR met 65536=true)  : HTr Tryz.prog 111 [.int .u16 met,.int .i64 6] [] ⟨.ret (.int .u8 (S.tell met 6)),[],[]⟩:=by
 refine K.yba0 good (A:=envL []) (yha0 ?_) K.yda0 (k:=30) (cast (yqs1 met).symm ?_)
 .intro p hp;cases hp
 .have b:=S.t_bit h0;have c1:S.tell met 6=128*(met / 2 ^ 12 % 2):=rfl;simp only [b,c1];refine ⟨?_,trivial⟩;have h:=(S.t_two (S.m2 (met / 2 ^ 12)) (.inl rfl)).symm;rw [show (64:Int)*0=0 from rfl,Int.add_zero] at h;exact h
theorem yss1 (met:Int):K.bodyF (envL []) (K.runF (envL []) 30) 111 [.int .u16 met,.int .i64 7] (Heap.of []) Hint.auto (K.endC K.openE 0 ⟨.ret (.int .u8 (S.tell met 7)),[],[]⟩) =
  ((S.tell met (7:Int)=wrapK .u8 (orK .u16 (wrapK .u16 (andK .u16 (Int.fdiv met (2 ^ 13)) 1*2 ^ 7)) (wrapK .u16 (andK .u16 (Int.fdiv met (2 ^ 14)) 1*2 ^ 6)))/\True)):=by kernel_rfl
theorem yts1 (met:Int) (h0:S.inR met 65536=true)  : HTr Tryz.prog 111 [.int .u16 met,.int .i64 7] [] ⟨.ret (.int .u8 (S.tell met 7)),[],[]⟩:=by
 refine K.yba0 good (A:=envL []) (yha0 ?_) K.yda0 (k:=30) (cast (yss1 met).symm ?_)
 .intro p hp;cases hp
 .have b:=S.t_bit h0;have c1:S.tell met 7=128*(met / 2 ^ 13 % 2)+64*(met / 2 ^ 14 % 2):=rfl;simp only [b,c1];refine ⟨?_,trivial⟩;exact (S.t_two (S.m2 _) (S.m2 _)).symm
theorem yfa2 (met r:Int) (h0:S.an (S.inR r 8) (S.inR met 65536)=true):HT Tryz.prog 111 [.int .u16 met,.int .i64 r] (Heap.of []) (.ret (.int .u8 (S.tell met r))) (Heap.of (K.chg [] []++[])):=by
 obtain ⟨h1,h2⟩:=S.yma0.1 h0;have h3:=S.yea0.1 h1;rcases (by omega:r=0\/r=1\/r=2\/r=3\/r=4\/r=5\/r=6\/r=7) with rfl | rfl | rfl | rfl | rfl | rfl | rfl | rfl
 .exact yfs1 met h2
 .exact yhs1 met h2
 .exact yjs1 met h2
 .exact yls1 met h2
 .exact yns1 met h2
 .exact yps1 met h2
 .exact yrs1 met h2
 .exact yts1 met h2
theorem ycl2:yai2.ok Tryz.prog 111:=by
 intro xs os b r h h3;unfold yai2 at h;simp only at h;split at h
 .injection h with h;injection h with h1 h2;subst h1;subst h2;exact yfa2 _ _ h3
 .cases h
theorem yga2 (c:S.Chip) (addr bus:Int):K.bodyF (yuo1) (K.runF (yuo1) 30) 30 [.ptr 0 0,.int .u16 addr,.int .u8 bus] (Heap.of (S.hp0 c)) Hint.auto (K.endC K.openE 40 ⟨.ret (.int .u8 (S.readV c addr bus)),[],[]⟩) =
  (bc (ltI (S.adf addr) 8) (bc (S.an (S.inR (S.adf addr) 8) (S.inR c.met 65536)) (S.readV c addr bus=orK .u8 (S.tell c.met (S.adf addr)) (andK .u8 bus 63)/\True) False) (bc (ltI (S.adf addr) 14) (bc (S.an (S.inR (wrapK .i64 (wrapK .i64 (andK .u16 addr 15)-8)) 6) (S.okP c.po.v0 c.po.v1 c.po.v2 c.po.v3 c.po.yvw2)) (bc (S.ytc0 (wrapK .i64 (wrapK .i64 (andK .u16 addr 15)-8)) c.po.v0 c.po.v1 c.po.v2 c.po.v3 c.po.yvw2 c.po.yww2 c.po.h0 c.po.l0 c.po.h1 c.po.l1 c.po.yuw2) (S.readV c addr bus=orK .u8 bus 128/\True) (S.readV c addr bus=IntKind.wrap .u8 ↑(BitVec.toNat (BitVec.ofInt 8 bus &&& ~~~BitVec.ofInt 8 128))/\True)) False) (S.readV c addr bus=bus/\True))):=by kernel_rfl
theorem yha2 (c:S.Chip) (addr bus:Int) (h0:S.okQ c=true)  : HTr Tryz.prog 30 [.ptr 0 0,.int .u16 addr,.int .u8 bus] (S.hp0 c) ⟨.ret (.int .u8 (S.readV c addr bus)),[],[]⟩:=by
 refine K.yba0 good (A:=yuo1) (yha0 ?_) K.yda0 (k:=30) (cast (yga2 c addr bus).symm ?_)
 .intro p hp;simp only [List.mem_cons,List.not_mem_nil,or_false] at hp;rcases hp with rfl | rfl;exact ycl2;exact yxj2
 .obtain ⟨hc,hm⟩:=S.yma0.1 h0;obtain ⟨pb,pp,pt,pd,pv,pw⟩:=S.ywf0.1 hc;have r:=S.yor2 addr;have m:=S.yea0.1 hm;have m2:S.inR c.met 65536=true:=S.yea0.2 (by omega);have ea:wrapK .i64 (andK .u16 addr 15)=S.adf addr:=rfl;simp only [ea,m2,pp,S.readV];cases h8:ltI (S.adf addr) 8 with
  | true =>
   have i8:S.inR (S.adf addr) 8=true:=S.yea0.2 ⟨r.1,yja0.1 h8⟩;simp only [i8,S.an,bc_true,and_self]
  | false =>
   have r8:=yfa0.1 h8;cases h14:ltI (S.adf addr) 14 with
   | true =>
    have r14:=yja0.1 h14;have w:wrapK .i64 (S.adf addr-8)=S.adf addr-8:=by rw [yia0];omega
    have i6:S.inR (S.adf addr-8) 6=true:=S.yea0.2 (by omega);simp only [w,i6,S.an,bc_true,bc_false];cases S.ytc0 (S.adf addr-8) c.po.v0 c.po.v1 c.po.v2 c.po.v3 c.po.yvw2 c.po.yww2 c.po.h0 c.po.l0 c.po.h1 c.po.l1 c.po.yuw2 <;> simp only [bc_true,bc_false,S.clr,and_self]
   | false=>simp only [bc_false,and_self]
theorem ydl2:ybi2.ok Tryz.prog 30:=by
 intro xs os b r h h3;unfold ybi2 at h;simp only at h;split at h
 .obtain ⟨c,rfl,q⟩:=S.yrb0 h;clear h;injection q with h;injection h with h1 h2;subst h1;subst h2;exact yha2 _ _ _ h3
 .cases h
theorem yel2 (c:S.Chip) (n v:Int):K.bodyF (envL [(110,kInE)]) (K.runF (envL [(110,kInE)]) 30) 29 [.ptr 0 0,.int .i64 n,.int .u8 v] (Heap.of (S.hp0 c)) Hint.auto (K.endC K.openE 40 ⟨.ret (.tup []),[(39,.cells 182 .exact [.int .u8 (S.inC n v c).po.v0,.int .u8 (S.inC n v c).po.v1,.int .u8 (S.inC n v c).po.v2,.int .u8 (S.inC n v c).po.v3,.int .i64 (S.inC n v c).po.yvw2,.bool (S.inC n v c).po.yww2,.bool (S.inC n v c).po.h0,.bool (S.inC n v c).po.l0,.bool (S.inC n v c).po.h1,.bool (S.inC n v c).po.l1,.bool (S.inC n v c).po.yuw2])],[]⟩) =
  ((S.Po.v0 (S.Chip.po (S.inC n v c))=S.pkV n v 0 c.po.v0/\(S.Po.v1 (S.Chip.po (S.inC n v c))=S.pkV n v 1 c.po.v1/\(S.Po.v2 (S.Chip.po (S.inC n v c))=S.pkV n v 2 c.po.v2/\(S.Po.v3 (S.Chip.po (S.inC n v c))=S.pkV n v 3 c.po.v3/\(S.Po.yvw2 (S.Chip.po (S.inC n v c))=c.po.yvw2/\(S.Po.yww2 (S.Chip.po (S.inC n v c))=c.po.yww2/\(S.Po.h0 (S.Chip.po (S.inC n v c))=S.pkH n v 4 c.po.h0/\(S.Po.l0 (S.Chip.po (S.inC n v c))=S.pkL n v 4 c.po.yuw2 c.po.l0 c.po.h0/\(S.Po.h1 (S.Chip.po (S.inC n v c))=S.pkH n v 5 c.po.h1/\(S.Po.l1 (S.Chip.po (S.inC n v c))=S.pkL n v 5 c.po.yuw2 c.po.l1 c.po.h1/\(S.Po.yuw2 (S.Chip.po (S.inC n v c))=c.po.yuw2/\True)))))))))))):=by kernel_rfl
theorem yfl2 (c:S.Chip) (n v:Int)  : HTr Tryz.prog 29 [.ptr 0 0,.int .i64 n,.int .u8 v] (S.hp0 c) ⟨.ret (.tup []),[(39,.cells 182 .exact [.int .u8 (S.inC n v c).po.v0,.int .u8 (S.inC n v c).po.v1,.int .u8 (S.inC n v c).po.v2,.int .u8 (S.inC n v c).po.v3,.int .i64 (S.inC n v c).po.yvw2,.bool (S.inC n v c).po.yww2,.bool (S.inC n v c).po.h0,.bool (S.inC n v c).po.l0,.bool (S.inC n v c).po.h1,.bool (S.inC n v c).po.l1,.bool (S.inC n v c).po.yuw2])],[]⟩:=by
 refine K.yba0 good (A:=envL [(110,kInE)]) (yha0 ?_) K.yda0 (k:=30) (cast (yel2 c n v).symm ?_)
 .intro p hp;simp only [List.mem_cons,List.not_mem_nil,or_false] at hp;rcases hp with rfl;exact ywu2
 .exact ⟨rfl,rfl,rfl,rfl,rfl,rfl,rfl,rfl,rfl,rfl,rfl,trivial⟩
theorem ysh1 (c:S.Chip):K.bodyF (envL [(58,ygn0)]) (K.runF (envL [(58,ygn0)]) 30) 16 [.ptr 0 0] (Heap.of (S.hp0 c)) Hint.auto (K.endC K.openE 40 ⟨.ret (.agg [.int .i64 (S.cnt c.t0),.int .i64 (S.cnt c.t1),.int .i64 (S.cnt c.t2),.int .i64 (S.cnt c.t3),.int .i64 (S.cnt c.t4)]),[],[]⟩) =
  (bc (S.okPm c.t0.a 4 45 40 c.t0.s) (bc (S.okPm c.t1.a 4 45 40 c.t1.s) (bc (S.okPm c.t2.a 4 45 40 c.t2.s) (bc (S.okPm c.t3.a 4 45 40 c.t3.s) (bc (S.okPm c.t4.a 4 45 40 c.t4.s) (S.cnt c.t0=S.plc c.t0.a c.t0.s/\(S.cnt c.t1=S.plc c.t1.a c.t1.s/\(S.cnt c.t2=S.plc c.t2.a c.t2.s/\(S.cnt c.t3=S.plc c.t3.a c.t3.s/\(S.cnt c.t4=S.plc c.t4.a c.t4.s/\True))))) False) False) False) False) False):=by kernel_rfl
theorem yth1 (c:S.Chip) (h0:S.okC c=true)  : HTr Tryz.prog 16 [.ptr 0 0] (S.hp0 c) ⟨.ret (.agg [.int .i64 (S.cnt c.t0),.int .i64 (S.cnt c.t1),.int .i64 (S.cnt c.t2),.int .i64 (S.cnt c.t3),.int .i64 (S.cnt c.t4)]),[],[]⟩:=by
 refine K.yba0 good (A:=envL [(58,ygn0)]) (yha0 ?_) K.yda0 (k:=30) (cast (ysh1 c).symm ?_)
 .intro p hp;simp only [List.mem_cons,List.not_mem_nil,or_false] at hp;rcases hp with rfl;exact yxn0
 .obtain ⟨pb,pp,pt,pd,pv,pw⟩:=S.ywf0.1 h0;obtain ⟨_,_,a0,a1,a2,a3,a4⟩:=S.yhh0.1 pt;have p0:=(S.yma0.1 a0).1;have p1:=(S.yma0.1 a1).1;have p2:=(S.yma0.1 a2).1;have p3:=(S.yma0.1 a3).1;have p4:=(S.yma0.1 a4).1;simp only [p0,p1,p2,p3,p4,bc_true,S.cnt,and_self]
theorem ybq0:ylp0.ok Tryz.prog 16:=by
 intro xs os b r h h3;unfold ylp0 at h;simp only at h;split at h
 .obtain ⟨c,rfl,q⟩:=S.yrb0 h;clear h;injection q with h;injection h with h1 h2;subst h1;subst h2;exact yth1 _ h3
 .cases h
theorem yia2 (k:Int):K.bodyF (yvo1) (K.runF (yvo1) 30) 18 [.int .i64 k] (Heap.of []) Hint.auto (K.endC K.openE 0 ⟨.ret (.ptr 0 0),[],(S.hp0 (S.newC k))⟩) =
  (bc (S.inR k 228) ((0:Nat)=0/\((0:Nat)=0/\((0:Nat)=0/\((0:Nat)=0/\((0:Nat)=0/\((0:Nat)=0/\((0:Nat)=0/\((0:Nat)=0/\((0:Nat)=0/\((0:Nat)=0/\((0:Nat)=0/\(S.R8.x0 (S.Chip.r0 (S.newC k))=(0:Int)/\(S.R8.x1 (S.Chip.r0 (S.newC k))=(0:Int)/\(S.R8.x2 (S.Chip.r0 (S.newC k))=(0:Int)/\(S.R8.x3 (S.Chip.r0 (S.newC k))=(0:Int)/\(S.R8.x4 (S.Chip.r0 (S.newC k))=(0:Int)/\(S.R8.x5 (S.Chip.r0 (S.newC k))=(0:Int)/\(S.R8.x6 (S.Chip.r0 (S.newC k))=(0:Int)/\(S.R8.x7 (S.Chip.r0 (S.newC k))=(0:Int)/\(S.R8.x0 (S.Chip.r1 (S.newC k))=(0:Int)/\(S.R8.x1 (S.Chip.r1 (S.newC k))=(0:Int)/\(S.R8.x2 (S.Chip.r1 (S.newC k))=(0:Int)/\(S.R8.x3 (S.Chip.r1 (S.newC k))=(0:Int)/\(S.R8.x4 (S.Chip.r1 (S.newC k))=(0:Int)/\(S.R8.x5 (S.Chip.r1 (S.newC k))=(0:Int)/\(S.R8.x6 (S.Chip.r1 (S.newC k))=(0:Int)/\(S.R8.x7 (S.Chip.r1 (S.newC k))=(0:Int)/\(S.R8.x0 (S.Chip.r2 (S.newC k))=(0:Int)/\(S.R8.x1 (S.Chip.r2 (S.newC k))=(0:Int)/\(S.R8.x2 (S.Chip.r2 (S.newC k))=(0:Int)/\(S.R8.x3 (S.Chip.r2 (S.newC k))=(0:Int)/\(S.R8.x4 (S.Chip.r2 (S.newC k))=(0:Int)/\(S.R8.x5 (S.Chip.r2 (S.newC k))=(0:Int)/\(S.R8.x6 (S.Chip.r2 (S.newC k))=(0:Int)/\(S.R8.x7 (S.Chip.r2 (S.newC k))=(0:Int)/\(S.R8.x0 (S.Chip.r3 (S.newC k))=(0:Int)/\(S.R8.x1 (S.Chip.r3 (S.newC k))=(0:Int)/\(S.R8.x2 (S.Chip.r3 (S.newC k))=(0:Int)/\(S.R8.x3 (S.Chip.r3 (S.newC k))=(0:Int)/\(S.R8.x4 (S.Chip.r3 (S.newC k))=(0:Int)/\(S.R8.x5 (S.Chip.r3 (S.newC k))=(0:Int)/\(S.R8.x6 (S.Chip.r3 (S.newC k))=(0:Int)/\(S.R8.x7 (S.Chip.r3 (S.newC k))=(0:Int)/\(S.R8.x0 (S.Chip.r4 (S.newC k))=(0:Int)/\(S.R8.x1 (S.Chip.r4 (S.newC k))=(0:Int)/\(S.R8.x2 (S.Chip.r4 (S.newC k))=(0:Int)/\(S.R8.x3 (S.Chip.r4 (S.newC k))=(0:Int)/\(S.R8.x4 (S.Chip.r4 (S.newC k))=(0:Int)/\(S.R8.x5 (S.Chip.r4 (S.newC k))=(0:Int)/\(S.R8.x6 (S.Chip.r4 (S.newC k))=(0:Int)/\(S.R8.x7 (S.Chip.r4 (S.newC k))=(0:Int)/\(S.R8.x0 (S.Chip.r5 (S.newC k))=(0:Int)/\(S.R8.x1 (S.Chip.r5 (S.newC k))=(0:Int)/\(S.R8.x2 (S.Chip.r5 (S.newC k))=(0:Int)/\(S.R8.x3 (S.Chip.r5 (S.newC k))=(0:Int)/\(S.R8.x4 (S.Chip.r5 (S.newC k))=(0:Int)/\(S.R8.x5 (S.Chip.r5 (S.newC k))=(0:Int)/\(S.R8.x6 (S.Chip.r5 (S.newC k))=(0:Int)/\(S.R8.x7 (S.Chip.r5 (S.newC k))=(0:Int)/\(S.R8.x0 (S.Chip.r6 (S.newC k))=(0:Int)/\(S.R8.x1 (S.Chip.r6 (S.newC k))=(0:Int)/\(S.R8.x2 (S.Chip.r6 (S.newC k))=(0:Int)/\(S.R8.x3 (S.Chip.r6 (S.newC k))=(0:Int)/\(S.R8.x4 (S.Chip.r6 (S.newC k))=(0:Int)/\(S.R8.x5 (S.Chip.r6 (S.newC k))=(0:Int)/\(S.R8.x6 (S.Chip.r6 (S.newC k))=(0:Int)/\(S.R8.x7 (S.Chip.r6 (S.newC k))=(0:Int)/\(S.R8.x0 (S.Chip.r7 (S.newC k))=(0:Int)/\(S.R8.x1 (S.Chip.r7 (S.newC k))=(0:Int)/\(S.R8.x2 (S.Chip.r7 (S.newC k))=(0:Int)/\(S.R8.x3 (S.Chip.r7 (S.newC k))=(0:Int)/\(S.R8.x4 (S.Chip.r7 (S.newC k))=(0:Int)/\(S.R8.x5 (S.Chip.r7 (S.newC k))=(0:Int)/\(S.R8.x6 (S.Chip.r7 (S.newC k))=(0:Int)/\(S.R8.x7 (S.Chip.r7 (S.newC k))=(0:Int)/\(S.Chip.g00 (S.newC k)=(0:Int)/\(S.Chip.g01 (S.newC k)=(0:Int)/\(S.Chip.g10 (S.newC k)=(0:Int)/\(S.Chip.g11 (S.newC k)=(0:Int)/\(S.Chip.b0 (S.newC k)=false/\(S.Chip.b1 (S.newC k)=false/\(S.Chip.met (S.newC k)=(0:Int)/\(S.Chip.wait (S.newC k)=false/\((0:Nat)=0/\((0:Nat)=0/\(S.Chip.late (S.newC k)=false/\(S.Chip.ba (S.newC k)=k % 4/\((4:Int)=4/\((0:Nat)=0/\((20:Int)=S.st 56/\((57:Int)=57/\(S.Chip.bs (S.newC k)=S.st (k / 4)/\((6:Int)=6/\((1:Int)=1/\(S.Chip.mc (S.newC k)=(16:Int)/\(S.Chip.mg (S.newC k)=(0:Int)/\(S.Chip.mm (S.newC k)=(0:Int)/\((0:Nat)=0/\(S.Th.I (S.Chip.t0 (S.newC k))=(0:Int)/\(S.Th.scan (S.Chip.t0 (S.newC k))=(255:Int)/\((0:Nat)=0/\((0:Nat)=0/\(S.Th.a (S.Chip.t0 (S.newC k))=(0:Int)/\((4:Int)=4/\((0:Nat)=0/\((45:Int)=S.st 39/\((40:Int)=40/\(S.Th.s (S.Chip.t0 (S.newC k))=(0:Int)/\((6:Int)=6/\((1:Int)=1/\((0:Nat)=0/\(S.Th.I (S.Chip.t1 (S.newC k))=(0:Int)/\(S.Th.scan (S.Chip.t1 (S.newC k))=(255:Int)/\((0:Nat)=0/\((0:Nat)=0/\(S.Th.a (S.Chip.t1 (S.newC k))=(0:Int)/\((4:Int)=4/\((0:Nat)=0/\((45:Int)=S.st 39/\((40:Int)=40/\(S.Th.s (S.Chip.t1 (S.newC k))=(0:Int)/\((6:Int)=6/\((1:Int)=1/\((0:Nat)=0/\(S.Th.I (S.Chip.t2 (S.newC k))=(0:Int)/\(S.Th.scan (S.Chip.t2 (S.newC k))=(255:Int)/\((0:Nat)=0/\((0:Nat)=0/\(S.Th.a (S.Chip.t2 (S.newC k))=(0:Int)/\((4:Int)=4/\((0:Nat)=0/\((45:Int)=S.st 39/\((40:Int)=40/\(S.Th.s (S.Chip.t2 (S.newC k))=(0:Int)/\((6:Int)=6/\((1:Int)=1/\((0:Nat)=0/\(S.Th.I (S.Chip.t3 (S.newC k))=(0:Int)/\(S.Th.scan (S.Chip.t3 (S.newC k))=(255:Int)/\((0:Nat)=0/\((0:Nat)=0/\(S.Th.a (S.Chip.t3 (S.newC k))=(0:Int)/\((4:Int)=4/\((0:Nat)=0/\((45:Int)=S.st 39/\((40:Int)=40/\(S.Th.s (S.Chip.t3 (S.newC k))=(0:Int)/\((6:Int)=6/\((1:Int)=1/\((0:Nat)=0/\(S.Th.I (S.Chip.t4 (S.newC k))=(0:Int)/\(S.Th.scan (S.Chip.t4 (S.newC k))=(255:Int)/\((0:Nat)=0/\((0:Nat)=0/\(S.Th.a (S.Chip.t4 (S.newC k))=(0:Int)/\((4:Int)=4/\((0:Nat)=0/\((45:Int)=S.st 39/\((40:Int)=40/\(S.Th.s (S.Chip.t4 (S.newC k))=(0:Int)/\((6:Int)=6/\((1:Int)=1/\(S.Vo.ytw2 (S.Chip.v0 (S.newC k))=(0:Int)/\(S.Vo.rate (S.Chip.v0 (S.newC k))=(0:Int)/\(S.Vo.yxw2 (S.Chip.v0 (S.newC k))=(0:Int)/\((0:Nat)=0/\((0:Nat)=0/\((0:Nat)=0/\(S.Vo.count (S.Chip.v0 (S.newC k))=(0:Int)/\(S.Vo.high (S.Chip.v0 (S.newC k))=false/\(S.Vo.f4 (S.Chip.v0 (S.newC k))=(0:Int)/\((4:Int)=4/\((1:Int)=1/\(S.Vo.f5 (S.Chip.v0 (S.newC k))=(0:Int)/\((5:Int)=5/\((2:Int)=2/\(S.Vo.f9 (S.Chip.v0 (S.newC k))=(0:Int)/\((9:Int)=9/\((4:Int)=4/\(S.Vo.ytw2 (S.Chip.v1 (S.newC k))=(0:Int)/\(S.Vo.rate (S.Chip.v1 (S.newC k))=(0:Int)/\(S.Vo.yxw2 (S.Chip.v1 (S.newC k))=(0:Int)/\((0:Nat)=0/\((0:Nat)=0/\((0:Nat)=0/\(S.Vo.count (S.Chip.v1 (S.newC k))=(0:Int)/\(S.Vo.high (S.Chip.v1 (S.newC k))=false/\(S.Vo.f4 (S.Chip.v1 (S.newC k))=(0:Int)/\((4:Int)=4/\((1:Int)=1/\(S.Vo.f5 (S.Chip.v1 (S.newC k))=(0:Int)/\((5:Int)=5/\((2:Int)=2/\(S.Vo.f9 (S.Chip.v1 (S.newC k))=(0:Int)/\((9:Int)=9/\((4:Int)=4/\(S.Po.v0 (S.Chip.po (S.newC k))=(0:Int)/\(S.Po.v1 (S.Chip.po (S.newC k))=(0:Int)/\(S.Po.v2 (S.Chip.po (S.newC k))=(0:Int)/\(S.Po.v3 (S.Chip.po (S.newC k))=(0:Int)/\(S.Po.yvw2 (S.Chip.po (S.newC k))=(0:Int)/\(S.Po.yww2 (S.Chip.po (S.newC k))=false/\(S.Po.h0 (S.Chip.po (S.newC k))=true/\(S.Po.l0 (S.Chip.po (S.newC k))=true/\(S.Po.h1 (S.Chip.po (S.newC k))=true/\(S.Po.l1 (S.Chip.po (S.newC k))=true/\(S.Po.yuw2 (S.Chip.po (S.newC k))=false/\True))))))))))))))))))))))))))))))))))))))))))))))))))))))))))))))))))))))))))))))))))))))))))))))))))))))))))))))))))))))))))))))))))))))))))))))))))))))))))))))))))))))))))))))))))))))))))))))))))))))))))))))) False):=by kernel_rfl
theorem yja2 (k:Int) (h0:S.inR k 228=true)  : HTr Tryz.prog 18 [.int .i64 k] [] ⟨.ret (.ptr 0 0),[],(S.hp0 (S.newC k))⟩:=by
 refine K.yba0 good (A:=yvo1) (yha0 ?_) K.yda0 (k:=30) (cast (yia2 k).symm ?_)
 .intro p hp;simp only [List.mem_cons,List.not_mem_nil,or_false] at hp;rcases hp with rfl | rfl | rfl | rfl | rfl;exact yjr2;exact yqq2;exact yyq2;exact yvq2;exact ygr2
 .have s39:S.st 39=45:=rfl;have s56:S.st 56=20:=rfl;simp only [h0,bc_true,S.newC,S.th0,S.vo0,s39,s56,and_self]
theorem yic1:ymp0.ok Tryz.prog 18:=by
 intro xs os b r h h3;unfold ymp0 at h;simp only at h;split at h
 .injection h with h;injection h with h1 h2;subst h1;subst h2;exact yja2 _ h3
 .cases h
theorem yus1 (b:Bool) (a d l n s:Int):K.bodyF (ybc1) (K.runF (ybc1) 30) 32 [.ptr 0 0] (Heap.of (ywo1 b a d l n s)) Hint.auto (K.endC K.openE 4 ⟨.ret (.agg [.int .i64 (S.plc a s),.int .i64 (bc b 1 0)]),[],[]⟩) =
  (bc (S.isSt s) (bc (b) (S.plc a s=wrapK .i64 (wrapK .i64 (4*S.ix s)+a)/\(bc b 1 (0:Int)=(1:Int)/\True)) (S.plc a s=wrapK .i64 (wrapK .i64 (4*S.ix s)+a)/\(bc b 1 (0:Int)=0/\True))) False):=by kernel_rfl
theorem yvs1 (b:Bool) (a d l n s:Int) (h0:S.okBm a s d l n=true)  : HTr Tryz.prog 32 [.ptr 0 0] (ywo1 b a d l n s) ⟨.ret (.agg [.int .i64 (S.plc a s),.int .i64 (bc b 1 0)]),[],[]⟩:=by
 refine K.yba0 good (A:=ybc1) (yha0 ?_) K.yda0 (k:=30) (cast (yus1 b a d l n s).symm ?_)
 .intro p hp;simp only [List.mem_cons,List.not_mem_nil,or_false] at hp;rcases hp with rfl | rfl;exact ycl0;exact ydl0
 .obtain ⟨ha,hs,rfl,rfl,rfl,hx0,hx1⟩:=S.ygh0 h0
  repeat' (first | (refine bcI (fun _=>?_) (fun _=>?_)) | (refine And.intro ?_ ?_))
  all_goals first | rfl | trivial | (simp_all only [yab0,yib0,ydb0,ycb0,S.an,bc_true,bc_false,reduceCtorEq,Bool.false_eq_true,Bool.true_eq_false];done) | (simp_all only [yab0,yib0,ydb0,ycb0,S.an,S.inR,bc_true,bc_false,reduceCtorEq,Bool.false_eq_true,Bool.true_eq_false];done) | (simp only [S.ylq0,S.yea0,S.plc,yja0,yfa0,ypa0,ysa0,yia0,ywd0] at *;omega) | skip
  all_goals skip
theorem yka2:yxo1.ok Tryz.prog 32:=by
 intro xs os b r h h3;unfold yxo1 at h;simp only at h;split at h
 .injection h with h;injection h with h1 h2;subst h1;subst h2;exact yvs1 _ _ _ _ _ _ h3
 .cases h
theorem yla2 (b:Bool):K.bodyF (envL []) (K.runF (envL []) 30) 38 [.bool b] (Heap.of []) Hint.auto (K.endC K.openE 0 ⟨.ret (.int .i64 (bc b 1 0)),[],[]⟩) =
  (bc (b) (bc b 1 (0:Int)=(1:Int)/\True) (bc b 1 (0:Int)=0/\True)):=by kernel_rfl
theorem yma2 (b:Bool)  : HTr Tryz.prog 38 [.bool b] [] ⟨.ret (.int .i64 (bc b 1 0)),[],[]⟩:=by
 refine K.yba0 good (A:=envL []) (yha0 ?_) K.yda0 (k:=30) (cast (yla2 b).symm ?_)
 .intro p hp;cases hp
 .cases b <;> simp only [bc_true,bc_false,and_self]
theorem ygl2:yci2.ok Tryz.prog 38:=by
 intro xs os b r h h3;unfold yci2 at h;simp only at h;split at h
 .injection h with h;injection h with h1 h2;subst h1;subst h2;exact yma2 _
 .cases h
theorem yuh1 (c:S.Chip):K.bodyF (you0) (K.runF (you0) 30) 13 [.ptr 0 0] (Heap.of (S.hp0 c)) Hint.auto (K.endC K.openE 40 (ytc2 c)) =
  (bc (S.okBm c.ba c.bs 4 20 57) (bc (S.okP c.po.v0 c.po.v1 c.po.v2 c.po.v3 c.po.yvw2) (bc (S.okPm c.t0.a 4 45 40 c.t0.s) (bc (S.okPm c.t1.a 4 45 40 c.t1.s) (bc (S.okPm c.t2.a 4 45 40 c.t2.s) (bc (S.okPm c.t3.a 4 45 40 c.t3.s) (bc (S.okPm c.t4.a 4 45 40 c.t4.s) (bc (S.okV c.v0.ytw2 c.v0.rate c.v0.yxw2 c.v0.f4 c.v0.f5 c.v0.f9 c.v0.count) (bc (S.okV c.v1.ytw2 c.v1.rate c.v1.yxw2 c.v1.f4 c.v1.f5 c.v1.f9 c.v1.count) ((0:Nat)=0/\((81:Nat)=81/\(Cap.rest (0:Nat)=Cap.rest 0/\(S.plc c.ba c.bs=S.plc c.ba c.bs/\(bc c.late 1 (0:Int)=bc c.late 1 0/\(c.mc=c.mc/\(c.mg=c.mg/\(wrapK .i64 c.mm=wrapK .i64 c.mm/\(S.cnt c.t0=S.plc c.t0.a c.t0.s/\(S.young c.t0.I c.t0.scan=S.young c.t0.I c.t0.scan/\(S.elder c.t0.I c.t0.scan=S.elder c.t0.I c.t0.scan/\(S.cnt c.t1=S.plc c.t1.a c.t1.s/\(S.young c.t1.I c.t1.scan=S.young c.t1.I c.t1.scan/\(S.elder c.t1.I c.t1.scan=S.elder c.t1.I c.t1.scan/\(S.cnt c.t2=S.plc c.t2.a c.t2.s/\(S.young c.t2.I c.t2.scan=S.young c.t2.I c.t2.scan/\(S.elder c.t2.I c.t2.scan=S.elder c.t2.I c.t2.scan/\(S.cnt c.t3=S.plc c.t3.a c.t3.s/\(S.young c.t3.I c.t3.scan=S.young c.t3.I c.t3.scan/\(S.elder c.t3.I c.t3.scan=S.elder c.t3.I c.t3.scan/\(S.cnt c.t4=S.plc c.t4.a c.t4.s/\(S.young c.t4.I c.t4.scan=S.young c.t4.I c.t4.scan/\(S.elder c.t4.I c.t4.scan=S.elder c.t4.I c.t4.scan/\(c.v0.ytw2=c.v0.ytw2/\(c.v0.rate=c.v0.rate/\(c.v0.yxw2=c.v0.yxw2/\(c.v0.f4=c.v0.f4/\(c.v0.f5=c.v0.f5/\(c.v0.f9=c.v0.f9/\(c.v0.count=c.v0.count/\(bc c.v0.high 1 (0:Int)=bc c.v0.high 1 0/\(c.v1.ytw2=c.v1.ytw2/\(c.v1.rate=c.v1.rate/\(c.v1.yxw2=c.v1.yxw2/\(c.v1.f4=c.v1.f4/\(c.v1.f5=c.v1.f5/\(c.v1.f9=c.v1.f9/\(c.v1.count=c.v1.count/\(bc c.v1.high 1 (0:Int)=bc c.v1.high 1 0/\(c.po.v0=c.po.v0/\(c.po.v1=c.po.v1/\(c.po.v2=c.po.v2/\(c.po.v3=c.po.v3/\(c.po.yvw2=c.po.yvw2/\(bc c.po.yww2 1 (0:Int)=bc c.po.yww2 1 0/\(bc c.po.h0 1 (0:Int)=bc c.po.h0 1 0/\(bc c.po.h1 1 (0:Int)=bc c.po.h1 1 0/\(bc c.po.yuw2 1 (0:Int)=bc c.po.yuw2 1 0/\(bc c.po.l0 1 (0:Int)=bc c.po.l0 1 0/\(bc c.po.l1 1 (0:Int)=bc c.po.l1 1 0/\(wrapK .i64 c.r0.x0=wrapK .i64 c.r0.x0/\(wrapK .i64 c.r0.x1=wrapK .i64 c.r0.x1/\(wrapK .i64 c.r0.x4=wrapK .i64 c.r0.x4/\(wrapK .i64 c.r0.x5=wrapK .i64 c.r0.x5/\(wrapK .i64 c.r0.x6=wrapK .i64 c.r0.x6/\(wrapK .i64 c.r0.x7=wrapK .i64 c.r0.x7/\(wrapK .i64 c.r1.x0=wrapK .i64 c.r1.x0/\(wrapK .i64 c.r1.x1=wrapK .i64 c.r1.x1/\(wrapK .i64 c.r1.x2=wrapK .i64 c.r1.x2/\(wrapK .i64 c.r1.x3=wrapK .i64 c.r1.x3/\(wrapK .i64 c.r1.x4=wrapK .i64 c.r1.x4/\(wrapK .i64 c.r1.x5=wrapK .i64 c.r1.x5/\(wrapK .i64 c.r1.x6=wrapK .i64 c.r1.x6/\(wrapK .i64 c.r1.x7=wrapK .i64 c.r1.x7/\(wrapK .i64 c.g00=wrapK .i64 c.g00/\(wrapK .i64 c.g01=wrapK .i64 c.g01/\(wrapK .i64 c.g10=wrapK .i64 c.g10/\(wrapK .i64 c.g11=wrapK .i64 c.g11/\(wrapK .i64 c.r3.x5=wrapK .i64 c.r3.x5/\(wrapK .i64 c.r3.x6=wrapK .i64 c.r3.x6/\(bc c.b0 1 (0:Int)=bc c.b0 1 0/\(bc c.b1 1 (0:Int)=bc c.b1 1 0/\(wrapK .i64 c.r4.x0=wrapK .i64 c.r4.x0/\(wrapK .i64 c.r4.x1=wrapK .i64 c.r4.x1/\(wrapK .i64 c.r4.x2=wrapK .i64 c.r4.x2/\(wrapK .i64 c.r4.x3=wrapK .i64 c.r4.x3/\(wrapK .i64 c.r4.x4=wrapK .i64 c.r4.x4/\(wrapK .i64 c.r4.x5=wrapK .i64 c.r4.x5/\(wrapK .i64 c.r4.x6=wrapK .i64 c.r4.x6/\(wrapK .i64 c.r4.x7=wrapK .i64 c.r4.x7/\(wrapK .i64 c.r5.x0=wrapK .i64 c.r5.x0/\(wrapK .i64 c.r5.x1=wrapK .i64 c.r5.x1/\(wrapK .i64 c.met=wrapK .i64 c.met/\(bc c.wait 1 (0:Int)=bc c.wait 1 0/\True)))))))))))))))))))))))))))))))))))))))))))))))))))))))))))))))))))))))))))))))))))) False) False) False) False) False) False) False) False) False):=by kernel_rfl
theorem yvh1 (c:S.Chip) (h0:S.okC c=true)  : HTr Tryz.prog 13 [.ptr 0 0] (S.hp0 c) (ytc2 c):=by
 refine K.yba0 good (A:=you0) (yha0 ?_) K.yda0 (k:=30) (cast (yuh1 c).symm ?_)
 .intro p hp;simp only [List.mem_cons,List.not_mem_nil,or_false] at hp;rcases hp with rfl | rfl | rfl | rfl | rfl | rfl;exact yka2;exact yxx1;exact yky1;exact ycy1;exact yvy1;exact ygl2
 .obtain ⟨pb,pp,pt,pd,pv,pw⟩:=S.ywf0.1 h0;obtain ⟨_,_,a0,a1,a2,a3,a4⟩:=S.yhh0.1 pt;have p0:=(S.yma0.1 a0).1;have p1:=(S.yma0.1 a1).1;have p2:=(S.yma0.1 a2).1;have p3:=(S.yma0.1 a3).1;have p4:=(S.yma0.1 a4).1;have pv0:S.okV c.v0.ytw2 c.v0.rate c.v0.yxw2 c.v0.f4 c.v0.f5 c.v0.f9 c.v0.count=true:=pv;have pv1:S.okV c.v1.ytw2 c.v1.rate c.v1.yxw2 c.v1.f4 c.v1.f5 c.v1.f9 c.v1.count=true:=pw;simp only [pb,pp,p0,p1,p2,p3,p4,pv0,pv1,bc_true,S.cnt,and_self]
theorem ywh1 (c:S.Chip) (h0:S.okC c=true):HT Tryz.prog 13 [.ptr 0 0] (Heap.of (S.hp0 c)) (.ret (.slice 40 0 81 (.rest 0))) (Heap.of (S.hp0 c++[.cells 3 (.grow 1) (.int .i64 (S.wd c 0)::.int .i64 (S.wd c 1)::.int .i64 (S.wd c 2)::.int .i64 (S.wd c 3)::.int .i64 (S.wd c 4)::.int .i64 (S.wd c 5)::.int .i64 (S.wd c 6)::.int .i64 (S.wd c 7)::.int .i64 (S.wd c 8)::.int .i64 (S.wd c 9)::.int .i64 (S.wd c 10)::.int .i64 (S.wd c 11)::.int .i64 (S.wd c 12)::.int .i64 (S.wd c 13)::.int .i64 (S.wd c 14)::.int .i64 (S.wd c 15)::.int .i64 (S.wd c 16)::.int .i64 (S.wd c 17)::.int .i64 (S.wd c 18)::.int .i64 (S.wd c 19)::.int .i64 (S.wd c 20)::.int .i64 (S.wd c 21)::.int .i64 (S.wd c 22)::.int .i64 (S.wd c 23)::.int .i64 (S.wd c 24)::.int .i64 (S.wd c 25)::.int .i64 (S.wd c 26)::.int .i64 (S.wd c 27)::.int .i64 (S.wd c 28)::.int .i64 (S.wd c 29)::.int .i64 (S.wd c 30)::.int .i64 (S.wd c 31)::.int .i64 (S.wd c 32)::.int .i64 (S.wd c 33)::.int .i64 (S.wd c 34)::.int .i64 (S.wd c 35)::.int .i64 (S.wd c 36)::.int .i64 (S.wd c 37)::.int .i64 (S.wd c 38)::.int .i64 (S.wd c 39)::.int .i64 (S.wd c 40)::.int .i64 (S.wd c 41)::.int .i64 (S.wd c 42)::.int .i64 (S.wd c 43)::.int .i64 (S.wd c 44)::.int .i64 (S.wd c 45)::.int .i64 (S.wd c 46)::.int .i64 (S.wd c 47)::.int .i64 (S.wd c 48)::.int .i64 (S.wd c 49)::.int .i64 (S.wd c 50)::.int .i64 (S.wd c 51)::.int .i64 (S.wd c 52)::.int .i64 (S.wd c 53)::.int .i64 (S.wd c 54)::.int .i64 (S.wd c 55)::.int .i64 (S.wd c 56)::.int .i64 (S.wd c 57)::.int .i64 (S.wd c 58)::.int .i64 (S.wd c 59)::.int .i64 (S.wd c 60)::.int .i64 (S.wd c 61)::.int .i64 (S.wd c 62)::.int .i64 (S.wd c 63)::.int .i64 (S.wd c 64)::.int .i64 (S.wd c 65)::.int .i64 (S.wd c 66)::.int .i64 (S.wd c 67)::.int .i64 (S.wd c 68)::.int .i64 (S.wd c 69)::.int .i64 (S.wd c 70)::.int .i64 (S.wd c 71)::.int .i64 (S.wd c 72)::.int .i64 (S.wd c 73)::.int .i64 (S.wd c 74)::.int .i64 (S.wd c 75)::.int .i64 (S.wd c 76)::.int .i64 (S.wd c 77)::.int .i64 (S.wd c 78)::.int .i64 (S.wd c 79)::.int .i64 (S.wd c 80)::[])])):=cast (by kernel_rfl) (yvh1 c h0)
theorem yjl0:yjm0.ok Tryz.prog 13:=by
 intro xs os b r h h3;unfold yjm0 at h;simp only at h;split at h
 .obtain ⟨c,rfl,q⟩:=S.yrb0 h;clear h;injection q with h;injection h with h1 h2;subst h1;subst h2;exact ywh1 _ h3
 .cases h
namespace S
theorem bcP {b:Bool} {x y:Int} {P:Int->Prop} (h1:P x) (h2:P y):P (bc b x y):=by cases b <;> assumption
theorem ykd2 {a s:Int} (h:okBm a s 4 20 57=true):∃ n,0<=n/\n<228/\a=n % 4/\s=st (n / 4):=by
 obtain ⟨ha,hs,_,_,_,h0,h1⟩:=ygh0 h;obtain ⟨i,i0,i1,rfl⟩:=ype1 hs;rw [ix_st i0 i1] at h0 h1;exact ⟨4*i+a,by omega,by omega,by omega,by rw [show (4*i+a) / 4=i by omega]⟩
theorem yhl2 {n:Int} (h0:0<=n) (h1:n<228):okBm (n % 4) (st (n / 4)) 4 20 57=true:=bm_ok h0 h1
theorem yna2 {a s:Int} (h:okBm a s 4 20 57=true):okBm (bc (ltI (a+1) 4) (a+1) 0) (bc (ltI (a+1) 4) s (bc (eqI s 20) 0 (nx s))) 4 20 57=true:=by
 obtain ⟨n,h0,h1,rfl,rfl⟩:=ykd2 h;rw [bm_a h0 h1,show bc (ltI (n % 4+1) 4) (st (n / 4)) (bc (eqI (st (n / 4)) 20) 0 (nx (st (n / 4))))=st (((n+1) % 228) / 4) from bm_s h0 h1];exact yhl2 (by omega) (by omega)
theorem ycq0 {q:Int} {t:Th} (w:Bool) (h:okT t=true):okT (tkT w q t)=true:=by
 cases w with
 | false=>exact h
 | true =>
  obtain ⟨h1,h2⟩:=yma0.1 h;obtain ⟨m,m0,m1,ha,hs,_⟩:=yji0 h1;show okT (tk1 q t)=true;unfold okT tk1;rw [yma0];refine ⟨?_,yuq2 _ h2⟩;obtain ⟨e1,e2⟩:=ysp1 m0 m1;show okPm (bc (ltI (t.a+1) 4) (t.a+1) 0) 4 (st 39) 40 (bc (ltI (t.a+1) 4) t.s (bc (eqI t.s (st 39)) 0 (nx t.s)))=true;rw [ha,hs,e1,e2];have:=yrp1 m0 m1;exact yiz0 this.1 this.2
theorem yws1 {t:Th} (h:okT t=true):okTh t.I t.scan=true:=(yma0.1 h).2
theorem yil2 (p0 p1 m0 m1 bl pf:Bool):0<=meet p0 p1 m0 m1 bl pf/\meet p0 p1 m0 m1 bl pf<32768:=by
 cases p0 <;> cases p1 <;> cases m0 <;> cases m1 <;> cases bl <;> cases pf <;> decide
theorem or15 {a b:Int} (ha:0<=a/\a<32768) (hb:0<=b/\b<32768):0<=orK .u16 a b/\orK .u16 a b<32768:=by
 obtain ⟨n,rfl⟩:=Int.eq_ofNat_of_zero_le ha.1;obtain ⟨m,rfl⟩:=Int.eq_ofNat_of_zero_le hb.1;have hn:n<2 ^ 15:=by have:=ha.2;omega
 have hm:m<2 ^ 15:=by have:=hb.2;omega
 have e1:Nat.blt n 65536=true:=Nat.ble_eq_true_of_le (by omega);have e2:Nat.blt m 65536=true:=Nat.ble_eq_true_of_le (by omega)
 have e:orK .u16 (n:Int) (m:Int)=((n ||| m:Nat):Int):=by
  show bc (Nat.blt n 65536) (bc (Nat.blt m 65536) (Int.ofNat (Nat.lor n m)) _) _=_;rw [e1,e2];rfl
 rw [e];have:=Nat.or_lt_two_pow hn hm;omega
theorem ypr2 {v:Vo} (w:Bool) (h:okVo v=true):okVo (voT w v)=true:=by
 cases w with
 | false=>exact h
 | true =>
  show okVo (vo1 v)=true;unfold okVo at h ⊢;rw [yue1] at h ⊢;obtain ⟨⟨hc,hr,hv⟩,⟨h4,h5⟩,h9,hn⟩:=h;refine ⟨⟨hc,hr,hv⟩,⟨?_,?_⟩,?_,?_⟩
  .show 0<=vF4 _ _ _ _ _/\vF4 _ _ _ _ _<16;unfold vF4;refine bcP (P:=fun x=>0<=x/\x<16) ?_ h4;unfold n4;omega
  .show 0<=vF5 _ _ _ _/\vF5 _ _ _ _<32;unfold vF5;refine bcP (P:=fun x=>0<=x/\x<32) ?_ h5;unfold n5;omega
  .show 0<=vF9 _ _ _ _ _/\vF9 _ _ _ _ _<512;unfold vF9;refine bcP (P:=fun x=>0<=x/\x<512) ?_ h9;unfold n9;omega
  .show 0<=yqc0 _ _ _/\yqc0 _ _ _<96;unfold yqc0;cases hb:vBeat v.ytw2 v.rate v.count with
   | true=>rw [bc_true];omega
   | false =>
    rw [bc_false];unfold vBeat at hb;rw [yib0,yja0] at hb
    have:vLen v.ytw2 v.rate<=96:=by
     unfold vLen;refine bcP (P:=fun x=>x<=96) ?_ ?_ <;> omega
    omega
theorem yck0 {c:Chip} (h:okQ c=true):okQ (stepC c)=true:=by
 obtain ⟨h1,h2⟩:=yma0.1 h;obtain ⟨pb,pp,pt,pd,pv,pw⟩:=ywf0.1 h1;obtain ⟨q0,q1,a0,a1,a2,a3,a4⟩:=yhh0.1 pt;obtain ⟨y0,y1,m0,m1,⟨k0,k1⟩,v2,g0,g1,g2⟩:=yop0.1 pd;unfold okQ;rw [yma0,ywf0];have t0:=fun w q=>ycq0 (q:=q) w a0
 have t1:=fun w q=>ycq0 (q:=q) w a1
 have t2:=fun w q=>ycq0 (q:=q) w a2
 have t3:=fun w q=>ycq0 (q:=q) w a3
 have t4:=fun w q=>ycq0 (q:=q) w a4
 refine ⟨⟨yna2 pb,?_,yhh0.2 ⟨q0,q1,t0 _ _,t1 _ _,t2 _ _,t3 _ _,t4 _ _⟩,yop0.2 ⟨?_,?_,?_,?_,⟨k0,yws1 (t4 _ _)⟩,v2,g0,g1,g2⟩,ypr2 _ pv,ypr2 _ pw⟩,?_⟩
 .rw [yki0] at pp ⊢;obtain ⟨x1,x2,x3⟩:=pp;refine ⟨x1,x2,?_⟩;show 0<=bc (sBeg c.ba c.bs) (pkC c.po.yvw2 c.po.yww2) c.po.yvw2/\bc (sBeg c.ba c.bs) (pkC c.po.yvw2 c.po.yww2) c.po.yvw2<512;refine bcP (P:=fun x=>0<=x/\x<512) ?_ x3;unfold pkC;refine bcP (P:=fun x=>0<=x/\x<512) x3 ?_;cases hl:ltI (c.po.yvw2+1) 511 with
  | true=>rw [bc_true];have:=yja0.1 hl;omega
  | false=>rw [bc_false];omega
 .unfold okY at y0 ⊢;simp only [yma0] at y0 ⊢;exact ⟨y0.1,y0.2.1,y0.2.2.1,yws1 (t0 _ _)⟩
 .unfold okY at y1 ⊢;simp only [yma0] at y1 ⊢;exact ⟨y1.1,y1.2.1,y1.2.2.1,yws1 (t1 _ _)⟩
 .unfold okM at m0 ⊢;rw [yma0] at m0 ⊢;exact ⟨m0.1,yws1 (t2 _ _)⟩
 .unfold okM at m1 ⊢;rw [yma0] at m1 ⊢;exact ⟨m1.1,yws1 (t3 _ _)⟩
 .rw [yea0] at h2 ⊢;refine bcP (P:=fun x=>0<=x/\x<32768) h2 (or15 h2 ?_);exact yil2 _ _ _ _ _ _
theorem yjl2:∀ i:Fin 256,inR (andK .u8 ((i.val:Nat):Int) 15) 16=true/\inR (andK .u8 ((i.val:Nat):Int) 31) 32=true:=by decide +kernel
theorem ybv2 {v:Int} (h:inR v 256=true):∃ i:Fin 256,v=((i.val:Nat):Int):=by
 have h1:=yea0.1 h;exact ⟨⟨v.toNat,by omega⟩,by show v=((v.toNat:Nat):Int);omega⟩
theorem rgP {a j v old:Int} {P:Int->Prop} (h1:P v) (h2:P old):P (rg a j v old):=by unfold rg;exact bcP h1 h2
theorem ylz0 {a j:Int} {t:Th} (h:okT t=true):okT { t with a:=rg a j 0 t.a,s:=rg a j 0 t.s }=true:=by
 unfold okT at h ⊢;rw [yma0] at h ⊢;refine ⟨?_,h.2⟩;show okPm (rg a j 0 t.a) 4 45 40 (rg a j 0 t.s)=true;unfold rg;cases eqI a j with
 | true=>exact yiz0 (m:=0) (by decide) (by decide)
 | false=>exact h.1
theorem yxs1 {g:Bool} {nus:Int} {u t:Th} (hu:pl u=true) (h:okT t=true):okT { t with a:=bc g (frM nus u % 4) t.a,s:=bc g (st (frM nus u / 4)) t.s }=true:=by
 unfold okT at h ⊢;rw [yma0] at h ⊢;refine ⟨?_,h.2⟩;cases g with
 | true=>have:=yea0.1 (ywr1 nus u);exact yiz0 this.1 this.2
 | false=>exact h.1
theorem yys1 {a j1 j2 j3 v:Int} {o:Vo} (hv:inR v 256=true) (h:okVo o=true):okVo { o with ytw2:=rg a j1 (andK .u8 v 15) o.ytw2,rate:=rg a j2 (andK .u8 v 31) o.rate,yxw2:=rg a j3 (andK .u8 v 15) o.yxw2 }=true:=by
 obtain ⟨i,rfl⟩:=ybv2 hv;obtain ⟨c1,c2⟩:=yjl2 i;rw [yea0] at c1 c2;unfold okVo at h ⊢;rw [yue1] at h ⊢;obtain ⟨⟨hc,hr,hv⟩,h2⟩:=h;exact ⟨⟨rgP (P:=fun x=>0<=x/\x<16) c1 hc,rgP (P:=fun x=>0<=x/\x<32) c2 hr,rgP (P:=fun x=>0<=x/\x<16) c1 hv⟩,h2⟩
theorem inRg {a j v old:Int} (h1:inR v 256=true) (h2:inR old 256=true):inR (rg a j v old) 256=true:=rgP (P:=fun x=>inR x 256=true) h1 h2
theorem yef1 {c:Chip} {addr v:Int} (hv:inR v 256=true) (h:okQ c=true):okQ (ynu0 addr v c)=true:=by
 obtain ⟨h1,h2⟩:=yma0.1 h;obtain ⟨pb,pp,pt,pd,pv,pw⟩:=ywf0.1 h1;obtain ⟨q0,q1,a0,a1,a2,a3,a4⟩:=yhh0.1 pt;obtain ⟨y0,y1,m0,m1,⟨k0,k1⟩,v2,g0,g1,g2⟩:=yop0.1 pd;unfold okY at y0 y1;simp only [yma0] at y0 y1;unfold okM at m0 m1;rw [yma0] at m0 m1;unfold okQ;rw [yma0,ywf0];have z:inR 0 256=true:=rfl;have r0:=fun j=>inRg (a:=adr addr) (j:=j) hv q0
 have r1:=fun j=>inRg (a:=adr addr) (j:=j) hv q1
 have pl0:pl c.t0=true:=(yma0.1 a0).1;have pl1:pl c.t1=true:=(yma0.1 a1).1
 refine ⟨⟨?_,?_,yhh0.2 ⟨r0 _,r1 _,ylz0 a0,ylz0 a1,yxs1 pl0 (ylz0 a2),yxs1 pl1 (ylz0 a3),ylz0 a4⟩,
  yop0.2 ⟨?_,?_,?_,?_,⟨inRg hv k0,k1⟩,inRg hv v2,inRg hv g0,inRg hv g1,inRg hv g2⟩,yys1 hv pv,yys1 hv pw⟩,?_⟩
 .show okBm (rg (adr addr) 3 0 c.ba) (rg (adr addr) 3 0 c.bs) 4 20 57=true;unfold rg;cases eqI (adr addr) 3 with
  | true=>exact yhl2 (n:=0) (by decide) (by decide)
  | false=>exact pb
 .rw [yki0] at pp ⊢;obtain ⟨x1,x2,x3⟩:=pp;exact ⟨x1,x2,rgP (P:=fun x=>0<=x/\x<512) (bcP (P:=fun x=>0<=x/\x<512) (by decide) x3) x3⟩
 .unfold okY;simp only [yma0];exact ⟨inRg hv y0.1,inRg hv y0.2.1,inRg y0.2.1 y0.2.2.1,y0.2.2.2⟩
 .unfold okY;simp only [yma0];exact ⟨inRg hv y1.1,inRg hv y1.2.1,inRg y1.2.1 y1.2.2.1,y1.2.2.2⟩
 .unfold okM;rw [yma0];exact ⟨r0 _,m0.2⟩
 .unfold okM;rw [yma0];exact ⟨r1 _,m1.2⟩
 .rw [yea0] at h2 ⊢;exact rgP (P:=fun x=>0<=x/\x<32768) (by decide) h2
theorem yqr2 {c:Chip} {n v:Int} (hv:inR v 256=true) (h:okQ c=true):okQ (inC n v c)=true:=by
 obtain ⟨h1,h2⟩:=yma0.1 h;obtain ⟨pb,pp,pt,pd,pv,pw⟩:=ywf0.1 h1;unfold okQ;rw [yma0,ywf0];refine ⟨⟨pb,?_,pt,pd,pv,pw⟩,h2⟩;rw [yea0] at hv;rw [yki0] at pp ⊢;obtain ⟨⟨x0,x1⟩,⟨x2,x3⟩,x4⟩:=pp;exact ⟨⟨bcP (P:=fun x=>0<=x/\x<256) hv x0,bcP (P:=fun x=>0<=x/\x<256) hv x1⟩,⟨bcP (P:=fun x=>0<=x/\x<256) hv x2,bcP (P:=fun x=>0<=x/\x<256) hv x3⟩,x4⟩
theorem yld2 {k:Int} (h:inR k 228=true):okQ (newC k)=true:=by
 have h1:=yea0.1 h;unfold okQ;rw [yma0,ywf0];refine ⟨⟨yhl2 h1.1 h1.2,rfl,?_,?_,rfl,rfl⟩,rfl⟩
 .kernel_rfl
 .kernel_rfl
theorem ycv2 {n:Nat} : ∀ {c:Chip},okQ c=true->okQ (goC n c)=true:=by
 induction n with
 | zero=>exact fun h=>h
 | succ n ih=>exact fun h=>ih (yck0 h)
theorem okQ_C {c:Chip} (h:okQ c=true):okC c=true:=(yma0.1 h).1
end S
namespace S
theorem yyi0 {a b:Chip} {r:Prop} (h:a=b):eqC a b r=r:=by
 subst h;unfold eqC;simp only [eq_self,true_and]
theorem go_lt {n i:Int} (c:Chip) (h:i<n):goC (n-i).toNat c=goC (n-(i+1)).toNat (stepC c):=by
 rw [show (n-i).toNat=(n-(i+1)).toNat+1 by omega];rfl
theorem go_ge {n i:Int} (c:Chip) (h:n<=i):goC (n-i).toNat c=c:=by
 rw [show (n-i).toNat=0 by omega];rfl
end S
theorem ydv2 (c:S.Chip) (n i:Int):K.RunL (envL [(14,ymu0)]) K.openE 30 12 12 (inner (inner (blkOf 12 0))) stEB [(0,.ptr 0 0),(1,.int .i64 n),(4,.int .i64 i)] (S.hp0 c) Hint.auto ⟨.exit 0,[],(hpCh (S.goC (n-i).toNat c)),[]⟩ =
  (bc (ltI i n) (bc (S.okC c) (bc (S.an (S.okQ (S.stepC c)) (S.an (S.inR n 1000) (S.inR (wrapK .i64 (i+1)) 1000))) (st_T (S.stepC c) n (wrapK .i64 (i+1))/\(S.eqC (S.goC (Int.toNat (n-i)) c) (S.goC (Int.toNat (n-wrapK .i64 (i+1))) (S.stepC c)) True)) False) False) (S.eqC (S.goC (Int.toNat (n-i)) c) c True)):=by kernel_rfl
theorem yrr2 (c:S.Chip) (n i:Int) (h0:S.okQ c=true) (h1:S.inR n 1000=true) (h2:S.inR i 1000=true) (IH:i<n->S.okQ (S.stepC c)=true->st_T (S.stepC c) n (i+1)):GTr Tryz.prog (inner (inner (blkOf 12 0))) 12 12 [(0,.ptr 0 0),(1,.int .i64 n),(4,.int .i64 i)] (S.hp0 c) ⟨.exit 0,[],(hpCh (S.goC (n-i).toNat c)),[]⟩:=by
 refine K.ykb0 good (A:=envL [(14,ymu0)]) (yha0 ?_) K.yda0 (k:=30) (ent:=stEB) (cast (ydv2 c n i).symm ?_)
 .intro p hp;simp only [List.mem_cons,List.not_mem_nil,or_false] at hp;rcases hp with rfl;exact ysu0
 .have b1:=S.yea0.1 h1;have b2:=S.yea0.1 h2;have w:i<999->wrapK .i64 (i+1)=i+1:=fun _=>by rw [yia0];omega
  cases hl:ltI i n with
  | false =>
   rw [bc_false,S.yyi0 (S.go_ge c (yfa0.1 hl))];trivial
  | true =>
   have hi:=yja0.1 hl;have b3:S.inR (i+1) 1000=true:=S.yea0.2 (by omega);have hq:=S.yck0 h0;rw [w (by omega),hq,h1,b3,S.okQ_C h0,bc_true,bc_true,S.yyi0 (S.go_lt c hi)];exact ⟨IH hi hq,trivial⟩
theorem yev2:∀ (k:Nat) (c:S.Chip) (n i:Int),S.okQ c=true->S.inR n 1000=true->S.inR i 1000=true->(n-i).toNat=k->st_T c n i:=by
 intro k
 induction k with
 | zero =>
  intro c n i h0 h1 h2 hk;exact yrr2 c n i h0 h1 h2 fun hi _=>by omega
 | succ k ih =>
  intro c n i h0 h1 h2 hk;exact yrr2 c n i h0 h1 h2 fun hi hq=>ih _ n (i+1) hq h1 (S.yea0.2 (by have:=S.yea0.1 h1;have:=S.yea0.1 h2;omega)) (by omega)
theorem yfv2 (c:S.Chip) (n i:Int) (h0:S.okQ c=true) (h1:S.inR n 1000=true) (h2:S.inR i 1000=true):K.BOk Tryz.prog 12 12 (blkOf 12 0) [0,1,4] [.ptr 0 0,.int .i64 n,.int .i64 i] (S.hp0 c) ⟨.normal,[],(hpCh (S.goC (n-i).toNat c)),[]⟩:=by
 have hb:blkOf 12 0=.block 0 (.loop (inner (inner (blkOf 12 0)))):=by kernel_rfl
 unfold K.BOk;rw [hb];exact K.CT.block (K.GT.loop (yev2 _ c n i h0 h1 h2 rfl))
theorem yzs1 (c:S.Chip) (n:Int):K.bodyF (envB [] (fun g id=>bc (Nat.beq g 12) (bc (Nat.beq id 0) (some stBB) (none)) (none))) (K.runF (envB [] (fun g id=>bc (Nat.beq g 12) (bc (Nat.beq id 0) (some stBB) (none)) (none))) 30) 12 [.ptr 0 0,.int .i64 n] (Heap.of (S.hp0 c)) Hint.auto (K.endC K.openE 40 ⟨.ret (.tup []),(hpCh (S.goC n.toNat c)),[]⟩) =
  (bc (S.an (S.okQ c) (S.an (S.inR n 1000) (S.inR 0 1000))) (st_B c n 0/\(S.eqC (S.goC (Int.toNat n) c) (S.goC (Int.toNat (n-0)) c) True)) False):=by kernel_rfl
theorem yat1 (c:S.Chip) (n:Int) (h0:S.an (S.okQ c) (S.inR n 1000)=true)  : HTr Tryz.prog 12 [.ptr 0 0,.int .i64 n] (S.hp0 c) ⟨.ret (.tup []),(hpCh (S.goC n.toNat c)),[]⟩:=by
 refine K.yba0 good (A:=envB [] (fun g id=>bc (Nat.beq g 12) (bc (Nat.beq id 0) (some stBB) (none)) (none))) (yaj0 ?_) K.yda0 (k:=30) (cast (yzs1 c n).symm ?_)
 .intro p hp;cases hp
 .obtain ⟨h1,h2⟩:=S.yma0.1 h0;have z:S.inR 0 1000=true:=rfl;have e0:(n-0).toNat=n.toNat:=by rw [Int.sub_zero]
  have B:=yfv2 c n 0 h1 h2 z;rw [h1,h2,z,e0,S.yyi0 rfl];exact ⟨B,trivial⟩
theorem ypw0:yfz0.ok Tryz.prog 12:=by
 intro xs os b r h h3;unfold yfz0 at h;simp only at h;split at h
 .obtain ⟨c,rfl,q⟩:=S.yrb0 h;clear h;injection q with h;injection h with h1 h2;subst h1;subst h2;exact yat1 _ _ h3
 .cases h
namespace S
theorem ymd2 {st:Int} (h:inR st 65536=true):inR (stn st) 500=true:=by
 have h1:=yea0.1 h;unfold stn;rw [show wrapK .i64 st=st by rw [yia0];omega,Int.tmod_eq_emod_of_nonneg h1.1,yea0];omega
theorem did_0 {kd st ad v m:Int} {c:Chip} (h:orb (eqI (kk7 kd) 0) (eqI (kk7 kd) 1)=true):didC kd st ad v m c=goC (stn st).toNat c:=by unfold didC;rw [h]
theorem did_5 {kd st ad v m:Int} {c:Chip} (h:orb (eqI (kk7 kd) 0) (eqI (kk7 kd) 1)=false) (h5:eqI (kk7 kd) 5=true):didC kd st ad v m c=c:=by unfold didC;rw [h];simp only [h5]
theorem did_6 {kd st ad v m:Int} {c:Chip} (h:orb (eqI (kk7 kd) 0) (eqI (kk7 kd) 1)=false) (h5:eqI (kk7 kd) 5=false) (h6:eqI (kk7 kd) 6=true):didC kd st ad v m c=inC m v c:=by unfold didC;rw [h];simp only [h5,h6]
theorem did_2 {kd st ad v m:Int} {c:Chip} (h:orb (eqI (kk7 kd) 0) (eqI (kk7 kd) 1)=false) (h5:eqI (kk7 kd) 5=false) (h6:eqI (kk7 kd) 6=false):didC kd st ad v m c=ynu0 ad v c:=by unfold didC;rw [h];simp only [h5,h6]
theorem ysr2 {kd st ad v m:Int} {c:Chip} (hv:inR v 256=true) (h:okQ c=true):okQ (didC kd st ad v m c)=true:=by
 unfold didC;split
 .exact ycv2 h
 .split
  .exact h
  .split
   .exact yqr2 hv h
   .exact yef1 hv h
end S
theorem ykl2 (c:S.Chip) (n v:Int):HT Tryz.prog 29 [.ptr 0 0,.int .i64 n,.int .u8 v] (Heap.of (S.hp0 c)) (.ret (.tup [])) (Heap.of (K.chg (S.hp0 c) (hpCh (S.inC n v c))++[])):=cast (by kernel_rfl) (yfl2 c n v)
theorem ytr2:kInDE.ok Tryz.prog 29:=by
 intro xs os b r h h3;unfold kInDE at h;simp only at h;split at h
 .obtain ⟨c,rfl,q⟩:=S.yrb0 h;clear h;injection q with h;injection h with h1 h2;subst h1;subst h2;exact ykl2 _ _ _
 .cases h
theorem ygv2 (c:S.Chip) (kd st ad v m i:Int):K.RunL (envL [(14,ymu0)]) K.openE 30 27 45 (inner (inner (blkOf 27 1))) diEB [(0,.ptr 0 0),(3,.ptr 40 0),(4,.int .i64 i)] (S.hp0 c++[.cells 64 .exact [.int .i64 kd,.int .u16 st,.int .u16 ad,.int .u8 v,.int .i64 m]]) Hint.auto ⟨.exit 1,[],(hpCh (S.goC (S.stn st-i).toNat c)),[]⟩ =
  (bc (ltI i (Int.tmod (wrapK .i64 st) 500)) (bc (S.okC c) (bc (S.an (S.okQ (S.stepC c)) (S.an (S.inR st 65536) (S.inR (wrapK .i64 (i+1)) 1000))) (di_T (S.stepC c) kd st ad v m (wrapK .i64 (i+1))/\(S.eqC (S.goC (Int.toNat (S.stn st-i)) c) (S.goC (Int.toNat (S.stn st-wrapK .i64 (i+1))) (S.stepC c)) True)) False) False) (S.eqC (S.goC (Int.toNat (S.stn st-i)) c) c True)):=by kernel_rfl
theorem yur2 (c:S.Chip) (kd st ad v m i:Int) (h0:S.okQ c=true) (h1:S.inR st 65536=true) (h2:S.inR i 1000=true) (IH:i<S.stn st->S.okQ (S.stepC c)=true->di_T (S.stepC c) kd st ad v m (i+1)):GTr Tryz.prog (inner (inner (blkOf 27 1))) 27 45 [(0,.ptr 0 0),(3,.ptr 40 0),(4,.int .i64 i)] (S.hp0 c++[.cells 64 .exact [.int .i64 kd,.int .u16 st,.int .u16 ad,.int .u8 v,.int .i64 m]]) ⟨.exit 1,[],(hpCh (S.goC (S.stn st-i).toNat c)),[]⟩:=by
 refine K.ykb0 good (A:=envL [(14,ymu0)]) (yha0 ?_) K.yda0 (k:=30) (ent:=diEB) (cast (ygv2 c kd st ad v m i).symm ?_)
 .intro p hp;simp only [List.mem_cons,List.not_mem_nil,or_false] at hp;rcases hp with rfl;exact ysu0
 .have b1:=S.yea0.1 (S.ymd2 h1);have b2:=S.yea0.1 h2;have w:i<999->wrapK .i64 (i+1)=i+1:=fun _=>by rw [yia0];omega
  have es:Int.tmod (wrapK .i64 st) 500=S.stn st:=rfl;rw [es];cases hl:ltI i (S.stn st) with
  | false =>
   rw [bc_false,S.yyi0 (S.go_ge c (yfa0.1 hl))];trivial
  | true =>
   have hi:=yja0.1 hl;have b3:S.inR (i+1) 1000=true:=S.yea0.2 (by omega);have hq:=S.yck0 h0;rw [w (by omega),hq,h1,b3,S.okQ_C h0,bc_true,bc_true,S.yyi0 (S.go_lt c hi)];exact ⟨IH hi hq,trivial⟩
theorem yhv2:∀ (k:Nat) (c:S.Chip) (kd st ad v m i:Int),S.okQ c=true->S.inR st 65536=true->S.inR i 1000=true->(S.stn st-i).toNat=k->di_T c kd st ad v m i:=by
 intro k
 induction k with
 | zero =>
  intro c kd st ad v m i h0 h1 h2 hk;exact yur2 c kd st ad v m i h0 h1 h2 fun hi _=>by omega
 | succ k ih =>
  intro c kd st ad v m i h0 h1 h2 hk;exact yur2 c kd st ad v m i h0 h1 h2 fun hi hq=>ih _ kd st ad v m (i+1) hq h1 (S.yea0.2 (by have:=S.yea0.1 (S.ymd2 h1);have:=S.yea0.1 h2;omega)) (by omega)
theorem yiv2 (c:S.Chip) (kd st ad v m i:Int) (h0:S.okQ c=true) (h1:S.inR st 65536=true) (h2:S.inR i 1000=true):di_B c kd st ad v m i:=by
 have hb:blkOf 27 1=.block 1 (.loop (inner (inner (blkOf 27 1)))):=by kernel_rfl
 unfold di_B K.BOk;rw [hb];exact K.CT.block (K.GT.loop (yhv2 _ c kd st ad v m i h0 h1 h2 rfl))
theorem yll2 (c:S.Chip) (kd st ad v m:Int):K.bodyF (ydi2) (K.runF (ydi2) 30) 27 [.ptr 0 0,.agg [.int .i64 kd,.int .u16 st,.int .u16 ad,.int .u8 v,.int .i64 m]] (Heap.of (S.hp0 c)) (.skip 3 (.fork (.skip 0 (.take true .auto)) .auto)) (K.endC K.openE 40 ⟨.ret (.tup []),(hpCh (S.didC kd st ad v m c)),[]⟩) =
  (bc (eqI (Int.tmod (wrapK .i64 (Int.tmod kd 7+7)) 7) 0) (eqI (Int.tmod (wrapK .i64 (Int.tmod kd 7+7)) 7) (0:Int)=true/\(bc (S.an (S.okQ c) (S.an (S.inR st 65536) (S.inR 0 1000))) (di_B c kd st ad v m 0/\(S.eqC (S.didC kd st ad v m c) (S.goC (Int.toNat (S.stn st-0)) c) True)) False)) (bc (eqI (Int.tmod (wrapK .i64 (Int.tmod kd 7+7)) 7) 1) (bc (S.an (S.okQ c) (S.an (S.inR st 65536) (S.inR 0 1000))) (di_B c kd st ad v m 0/\(S.eqC (S.didC kd st ad v m c) (S.goC (Int.toNat (S.stn st-0)) c) True)) False) (bc (eqI (Int.tmod (wrapK .i64 (Int.tmod kd 7+7)) 7) 5) (bc (S.okQ c) (S.eqC (S.didC kd st ad v m c) c True) False) (bc (eqI (Int.tmod (wrapK .i64 (Int.tmod kd 7+7)) 7) 6) (S.eqC (S.didC kd st ad v m c) (S.inC m v c) True) (bc (S.okC c) (S.eqC (S.didC kd st ad v m c) (S.ynu0 ad v c) True) False))))):=by kernel_rfl
theorem yml2 (c:S.Chip) (kd st ad v m:Int) (h0:S.an (S.okQ c) (S.an (S.inR st 65536) (S.inR v 256))=true)  : HTr Tryz.prog 27 [.ptr 0 0,.agg [.int .i64 kd,.int .u16 st,.int .u16 ad,.int .u8 v,.int .i64 m]] (S.hp0 c) ⟨.ret (.tup []),(hpCh (S.didC kd st ad v m c)),[]⟩:=by
 refine K.yba0 good (A:=ydi2) (yaj0 ?_) K.yda0 (k:=30) (cast (yll2 c kd st ad v m).symm ?_)
 .intro p hp;simp only [List.mem_cons,List.not_mem_nil,or_false] at hp;rcases hp with rfl | rfl | rfl;exact ydl2;exact ytr2;exact yea2
 .obtain ⟨h1,h2⟩:=S.yma0.1 h0;obtain ⟨h3,h4⟩:=S.yma0.1 h2;have ek:Int.tmod (wrapK .i64 (Int.tmod kd 7+7)) 7=S.kk7 kd:=rfl;have z:S.inR 0 1000=true:=rfl;have e0:(S.stn st-0).toNat=(S.stn st).toNat:=by rw [Int.sub_zero]
  have B:=yiv2 c kd st ad v m 0 h1 h3 z;simp only [ek,h1,S.okQ_C h1,h3,z,e0,bc_true,S.an];cases k0:eqI (S.kk7 kd) 0 with
  | true =>
   simp only [bc_true,true_and];rw [S.yyi0 (S.did_0 (by rw [k0];rfl))];exact ⟨B,trivial⟩
  | false =>
   cases k1:eqI (S.kk7 kd) 1 with
   | true =>
    simp only [bc_true,bc_false];rw [S.yyi0 (S.did_0 (by rw [k0,k1];rfl))];exact ⟨B,trivial⟩
   | false =>
    have ko:S.orb (eqI (S.kk7 kd) 0) (eqI (S.kk7 kd) 1)=false:=by rw [k0,k1];rfl
    cases k5:eqI (S.kk7 kd) 5 with
    | true =>
     simp only [bc_true,bc_false];rw [S.yyi0 (S.did_5 ko k5)];trivial
    | false =>
     cases k6:eqI (S.kk7 kd) 6 with
     | true =>
      simp only [bc_true,bc_false];rw [S.yyi0 (S.did_6 ko k5 k6)];trivial
     | false =>
      simp only [bc_true,bc_false];rw [S.yyi0 (S.did_2 ko k5 k6)];trivial
theorem yvr2:kDidE.ok Tryz.prog 27:=by
 intro xs os b r h h3;unfold kDidE at h;simp only at h;split at h
 .obtain ⟨c,rfl,q⟩:=S.yrb0 h;clear h;injection q with h;injection h with h1 h2;subst h1;subst h2;exact yml2 _ _ _ _ _ _ h3
 .cases h
namespace S
theorem yes0:∀ (i:Nat) (vs:List LV),yxd0 vs=true->i*5<vs.length->inR (intOf (K.atV vs (i*5+1))) 65536=true/\inR (intOf (K.atV vs (i*5+3))) 256=true
 | 0,vs,h,hl=>by
  match vs,h,hl with
  | _::t::_::c::_::r,h,_ =>
   simp only [yxd0,yma0] at h;exact h.1
  | [_],h,_=>simp [yxd0] at h
  | [_,_],h,_=>simp [yxd0] at h
  | [_,_,_],h,_=>simp [yxd0] at h
  | [_,_,_,_],h,_=>simp [yxd0] at h
 | i+1,vs,h,hl=>by
  match vs,h,hl with
  | _::t::_::c::_::r,h,hl =>
   simp only [yxd0,yma0] at h;have:=yes0 i r h.2 (by simp at hl;omega)
   have e:∀ x a b c d e,K.atV (a::b::c::d::e::r) ((i+1)*5+x)=K.atV r (i*5+x):=by
    intro x a b c d e;unfold K.atV;rw [show (i+1)*5+x=(i*5+x)+1+1+1+1+1 by omega];rfl
   rw [e,e];exact this
  | [_],_,hl=>simp at hl
  | [_,_],h,_=>simp [yxd0] at h
  | [_,_,_],h,_=>simp [yxd0] at h
  | [_,_,_,_],h,_=>simp [yxd0] at h
theorem ydq0 {vs:List LV} {L:Nat} : yfh0 vs L=true↔yxd0 vs=true/\lenL vs=L*5:=by
 unfold yfh0;rw [yma0];constructor
 .exact fun h=>⟨h.1,Nat.eq_of_beq_eq_true h.2⟩
 .exact fun h=>⟨h.1,by rw [h.2];exact Nat.beq_refl _⟩
theorem ybt1 {vs:List LV} {L:Nat} {i:Int} (h:yfh0 vs L=true) (h0:0<=i) (h1:i<L):inR (av vs i 1) 65536=true/\inR (av vs i 3) 256=true:=by
 obtain ⟨h,hl⟩:=ydq0.1 h;unfold av;rw [K.lenL_eq] at hl;rw [Nat.zero_add];exact yes0 i.toNat vs h (by omega)
theorem yoa2 (l:List Act21) (hl:∀ a,a∈l->(0<=a.steps/\a.steps<=65535)/\0<=a.v/\a.v<=255):yfh0 (yjh1 l) l.length=true:=by
 have hlen:lenL (yjh1 l)=l.length*5:=by rw [K.lenL_eq];exact ytg0 _ 5 (fun _=>rfl) l
 refine ydq0.2 ⟨?_,hlen⟩;clear hlen
 induction l with
 | nil=>rfl
 | cons a l ih =>
  show an (an (inR a.steps 65536) (inR a.v 256)) (yxd0 (yjh1 l))=true;have:=hl a (by simp);rw [ih fun b hb=>hl b (by simp [hb]),yea0.2 ⟨this.1.1,(by omega:a.steps<65536)⟩,yea0.2 ⟨this.2.1,(by omega:a.v<256)⟩];rfl
theorem ywr2 {vs:List LV} {L:Nat} {i:Int} {c:Chip} (h:yfh0 vs L=true) (h0:0<=i) (h1:i<L) (hc:okQ c=true):okQ (actC vs i c)=true:=ysr2 (ybt1 h h0 h1).2 hc
theorem ykl0 {k:Int} (h:inR k 256=true):inR (cl228 k) 228=true:=by
 have h1:=yea0.1 h;unfold cl228;rw [show wrapK .i64 k=k by rw [yia0];omega,Int.tmod_eq_emod_of_nonneg h1.1,yea0];omega
theorem ynl2 {a b:Chip} {r:Prop} (h:a=b):eqD a b r=r:=by
 subst h;unfold eqD;simp only [eq_self,true_and]
theorem ymz0:yfh0 [] 0=true:=rfl
theorem yxr2 {L:Nat} {i:Int} (vs:List LV) (c:Chip) (h:i<L):madeC vs ((L:Int)-i).toNat i c=madeC vs ((L:Int)-(i+1)).toNat (i+1) (actC vs i c):=by
 rw [show ((L:Int)-i).toNat=((L:Int)-(i+1)).toNat+1 by omega];rfl
theorem yyr2 {L:Nat} {i:Int} (vs:List LV) (c:Chip) (h:(L:Int)<=i):madeC vs ((L:Int)-i).toNat i c=c:=by
 rw [show ((L:Int)-i).toNat=0 by omega];rfl
end S
theorem yjv2 (et L q:Nat) (w:Own) (vs:List LV) (c:S.Chip) (i:Int):K.RunL (envL [(27,kDidE)]) K.openE 30 11 24 (inner (inner (blkOf 11 0))) mdEB [(5,.ptr 0 0),(1,.slice 40 0 L (.known q)),(6,.int .i64 i)] (S.hp0 c++[.flat [.i .i64,.i .u16,.i .u16,.i .u8,.i .i64] et w vs]) Hint.auto ⟨.exit 0,[(5,.ptr 0 0)],(hpCh (S.madeC vs (L-i).toNat i c)),[]⟩ =
  (bc (ltI i ↑L) (bc (ltI i 0) False (bc (ltI i ↑L) (bc (Nat.ble (0+Int.toNat i*5+5) (lenL vs)) (K.ypf0 [CK.i .i64,CK.i .u16,CK.i .u16,CK.i .u8,CK.i .i64] (0+Int.toNat i*5)=CK.i .i64/\(K.ypf0 [CK.i .i64,CK.i .u16,CK.i .u16,CK.i .u8,CK.i .i64] (0+Int.toNat i*5+1)=CK.i .u16/\(K.ypf0 [CK.i .i64,CK.i .u16,CK.i .u16,CK.i .u8,CK.i .i64] (0+Int.toNat i*5+1+1)=CK.i .u16/\(K.ypf0 [CK.i .i64,CK.i .u16,CK.i .u16,CK.i .u8,CK.i .i64] (0+Int.toNat i*5+1+1+1)=CK.i .u8/\(K.ypf0 [CK.i .i64,CK.i .u16,CK.i .u16,CK.i .u8,CK.i .i64] (0+Int.toNat i*5+1+1+1+1)=CK.i .i64/\(bc (S.an (S.okQ c) (S.an (S.inR (intOf (K.atV vs (0+Int.toNat i*5+1))) 65536) (S.inR (intOf (K.atV vs (0+Int.toNat i*5+1+1+1))) 256))) (bc (S.an (S.okQ (S.didC (intOf (K.atV vs (0+Int.toNat i*5))) (intOf (K.atV vs (0+Int.toNat i*5+1))) (intOf (K.atV vs (0+Int.toNat i*5+1+1))) (intOf (K.atV vs (0+Int.toNat i*5+1+1+1))) (intOf (K.atV vs (0+Int.toNat i*5+1+1+1+1))) c)) (S.an (S.yfh0 vs L) (S.an (S.inR (wrapK .i64 (i+1)) 1000) (notB (ltI 900 ↑L))))) (md_T et L q w vs (S.didC (intOf (K.atV vs (0+Int.toNat i*5))) (intOf (K.atV vs (0+Int.toNat i*5+1))) (intOf (K.atV vs (0+Int.toNat i*5+1+1))) (intOf (K.atV vs (0+Int.toNat i*5+1+1+1))) (intOf (K.atV vs (0+Int.toNat i*5+1+1+1+1))) c) (wrapK .i64 (i+1))/\((0:Nat)=0/\(S.eqC (S.madeC vs (Int.toNat (↑L-i)) i c) (S.madeC vs (Int.toNat (↑L-wrapK .i64 (i+1))) (wrapK .i64 (i+1)) (S.didC (intOf (K.atV vs (0+Int.toNat i*5))) (intOf (K.atV vs (0+Int.toNat i*5+1))) (intOf (K.atV vs (0+Int.toNat i*5+1+1))) (intOf (K.atV vs (0+Int.toNat i*5+1+1+1))) (intOf (K.atV vs (0+Int.toNat i*5+1+1+1+1))) c)) True))) False) False)))))) False) False)) ((0:Nat)=0/\(S.eqC (S.madeC vs (Int.toNat (↑L-i)) i c) c True))):=by kernel_rfl
theorem yzr2 (et L q:Nat) (w:Own) (vs:List LV) (c:S.Chip) (i:Int) (h0:S.okQ c=true) (h1:S.yfh0 vs L=true) (h2:S.inR i 1000=true) (h3:(L:Int)<=900) (IH:i<L->S.okQ (S.actC vs i c)=true->md_T et L q w vs (S.actC vs i c) (i+1)):GTr Tryz.prog (inner (inner (blkOf 11 0))) 11 24 [(5,.ptr 0 0),(1,.slice 40 0 L (.known q)),(6,.int .i64 i)] (S.hp0 c++[.flat [.i .i64,.i .u16,.i .u16,.i .u8,.i .i64] et w vs]) ⟨.exit 0,[(5,.ptr 0 0)],(hpCh (S.madeC vs (L-i).toNat i c)),[]⟩:=by
 refine K.ykb0 good (A:=envL [(27,kDidE)]) (yha0 ?_) K.yda0 (k:=30) (ent:=mdEB) (cast (yjv2 et L q w vs c i).symm ?_)
 .intro p hp;simp only [List.mem_cons,List.not_mem_nil,or_false] at hp;rcases hp with rfl;exact yvr2
 .have b2:=S.yea0.1 h2;have w:i<999->wrapK .i64 (i+1)=i+1:=fun _=>by rw [yia0];omega
  cases hl:ltI i L with
  | false =>
   simp only [bc_false,S.yyi0 (S.yyr2 vs c (yfa0.1 hl)),and_self]
  | true =>
   have hi:=yja0.1 hl;have hv:=(S.ydq0.1 h1).2;have e0:ltI i 0=false:=yfa0.2 b2.1;have bl:Nat.ble (0+Int.toNat i*5+5) (lenL vs)=true:=Nat.ble_eq_true_of_le (by rw [hv];omega);have k0:K.ypf0 [.i .i64,.i .u16,.i .u16,.i .u8,.i .i64] (0+Int.toNat i*5)=.i .i64:=by rw [Nat.zero_add];exact yeg0 [.i .i64,.i .u16,.i .u16,.i .u8,.i .i64] i.toNat 0
   have k1:K.ypf0 [.i .i64,.i .u16,.i .u16,.i .u8,.i .i64] (0+Int.toNat i*5+1)=.i .u16:=by rw [Nat.zero_add];exact yeg0 [.i .i64,.i .u16,.i .u16,.i .u8,.i .i64] i.toNat 1
   have k2:K.ypf0 [.i .i64,.i .u16,.i .u16,.i .u8,.i .i64] (0+Int.toNat i*5+1+1)=.i .u16:=by rw [Nat.zero_add];exact yeg0 [.i .i64,.i .u16,.i .u16,.i .u8,.i .i64] i.toNat 2
   have k3:K.ypf0 [.i .i64,.i .u16,.i .u16,.i .u8,.i .i64] (0+Int.toNat i*5+1+1+1)=.i .u8:=by rw [Nat.zero_add];exact yeg0 [.i .i64,.i .u16,.i .u16,.i .u8,.i .i64] i.toNat 3
   have k4:K.ypf0 [.i .i64,.i .u16,.i .u16,.i .u8,.i .i64] (0+Int.toNat i*5+1+1+1+1)=.i .i64:=by rw [Nat.zero_add];exact yeg0 [.i .i64,.i .u16,.i .u16,.i .u8,.i .i64] i.toNat 4
   have ea:S.didC (intOf (K.atV vs (0+Int.toNat i*5))) (intOf (K.atV vs (0+Int.toNat i*5+1))) (intOf (K.atV vs (0+Int.toNat i*5+1+1))) (intOf (K.atV vs (0+Int.toNat i*5+1+1+1))) (intOf (K.atV vs (0+Int.toNat i*5+1+1+1+1))) c=S.actC vs i c:=rfl;obtain ⟨r1,r3⟩:=S.ybt1 h1 b2.1 hi;have r1:S.inR (intOf (K.atV vs (0+Int.toNat i*5+1))) 65536=true:=r1;have r3:S.inR (intOf (K.atV vs (0+Int.toNat i*5+1+1+1))) 256=true:=r3;have hq:=S.ywr2 h1 b2.1 hi h0;have b3:S.inR (i+1) 1000=true:=S.yea0.2 (by omega);have hL:notB (ltI 900 L)=true:=by rw [yfa0.2 (by omega)];rfl
   have ih:=IH hi hq;simp only [e0,bl,k0,k1,k2,k3,k4,r1,r3,h0,S.an,w (by omega),ea,hq,h1,b3,hL,bc_true,bc_false,true_and,S.yyi0 (S.yxr2 vs c hi)];simp only [ih,and_self]
theorem ykv2 (et L q:Nat) (w:Own) (vs:List LV) (h1:S.yfh0 vs L=true) (h3:(L:Int)<=900):∀ (k:Nat) (c:S.Chip) (i:Int),S.okQ c=true->S.inR i 1000=true->(L-i).toNat=k->md_T et L q w vs c i:=by
 intro k
 induction k with
 | zero =>
  intro c i h0 h2 hk;exact yzr2 et L q w vs c i h0 h1 h2 h3 fun hi _=>by omega
 | succ k ih =>
  intro c i h0 h2 hk;exact yzr2 et L q w vs c i h0 h1 h2 h3 fun hi hq=>ih _ (i+1) hq (S.yea0.2 (by have:=S.yea0.1 h2;omega)) (by omega)
theorem ylv2 (et L q:Nat) (w:Own) (vs:List LV) (h1:S.yfh0 vs L=true) (h3:(L:Int)<=900) (c:S.Chip) (i:Int) (h0:S.okQ c=true) (h2:S.inR i 1000=true):md_B et L q w vs c i:=by
 have hb:blkOf 11 0=.block 0 (.loop (inner (inner (blkOf 11 0)))):=by kernel_rfl
 unfold md_B K.BOk;rw [hb];exact K.CT.block (K.GT.loop (ykv2 et L q w vs h1 h3 _ c i h0 h2 rfl))
theorem yas2 (k:Int):K.bodyF (envL [(18,ymp0)]) (K.runF (envL [(18,ymp0)]) 30) 11 [.int .u8 k,.nils] (Heap.of []) Hint.auto (K.endC K.openE 0 ⟨.ret (.ptr 0 0),[],(S.hpP 0 (S.mkC [] 0 k))⟩) =
  (bc (S.inR (Int.tmod (wrapK .i64 k) 228) 228) ((0:Nat)=0/\(S.eqD (S.mkC [] 0 k) (S.newC (Int.tmod (wrapK .i64 k) 228)) True)) False):=by kernel_rfl
theorem ybs2 (k:Int) (h0:S.inR k 256=true)  : HTr Tryz.prog 11 [.int .u8 k,.nils] [] ⟨.ret (.ptr 0 0),[],(S.hpP 0 (S.mkC [] 0 k))⟩:=by
 refine K.yba0 good (A:=envL [(18,ymp0)]) (yha0 ?_) K.yda0 (k:=30) (cast (yas2 k).symm ?_)
 .intro p hp;simp only [List.mem_cons,List.not_mem_nil,or_false] at hp;rcases hp with rfl;exact yic1
 .have hk:S.inR k 256=true:=h0;have ek:Int.tmod (wrapK .i64 k) 228=S.cl228 k:=rfl;have e:S.mkC [] 0 k=S.newC (S.cl228 k):=rfl;simp only [ek,S.ykl0 hk,bc_true,S.ynl2 e,and_self]
theorem ycs2 (k:Int):K.bodyF (envL [(18,ymp0)]) (K.runF (envL [(18,ymp0)]) 30) 11 [.int .u8 k,.emp 0] (Heap.of [.empty]) Hint.auto (K.endC K.openE 1 ⟨.ret (.ptr 1 0),[],(S.hpP 1 (S.mkC [] 0 k))⟩) =
  (bc (S.inR (Int.tmod (wrapK .i64 k) 228) 228) ((0:Nat)=0/\(S.eqD (S.mkC [] 0 k) (S.newC (Int.tmod (wrapK .i64 k) 228)) True)) False):=by kernel_rfl
theorem yds2 (k:Int) (h0:S.inR k 256=true)  : HTr Tryz.prog 11 [.int .u8 k,.emp 0] [.empty] ⟨.ret (.ptr 1 0),[],(S.hpP 1 (S.mkC [] 0 k))⟩:=by
 refine K.yba0 good (A:=envL [(18,ymp0)]) (yha0 ?_) K.yda0 (k:=30) (cast (ycs2 k).symm ?_)
 .intro p hp;simp only [List.mem_cons,List.not_mem_nil,or_false] at hp;rcases hp with rfl;exact yic1
 .have hk:S.inR k 256=true:=h0;have ek:Int.tmod (wrapK .i64 k) 228=S.cl228 k:=rfl;have e:S.mkC [] 0 k=S.newC (S.cl228 k):=rfl;simp only [ek,S.ykl0 hk,bc_true,S.ynl2 e,and_self]
theorem yes2 (et L q:Nat) (w:Own) (vs:List LV) (k:Int):K.bodyF (envB [(18,ymp0)] (fun g id=>bc (Nat.beq g 11) (bc (Nat.beq id 0) (some mdBB) (none)) (none))) (K.runF (envB [(18,ymp0)] (fun g id=>bc (Nat.beq g 11) (bc (Nat.beq id 0) (some mdBB) (none)) (none))) 30) 11 [.int .u8 k,.slice 0 0 L (.known q)] (Heap.of [.flat [.i .i64,.i .u16,.i .u16,.i .u8,.i .i64] et w vs]) Hint.auto (K.endC K.openE 1 ⟨.ret (.ptr 1 0),[],(S.hpP 1 (S.mkC vs L k))⟩) =
  (bc (S.inR (Int.tmod (wrapK .i64 k) 228) 228) (bc (S.an (S.okQ (S.newC (Int.tmod (wrapK .i64 k) 228))) (S.an (S.yfh0 vs L) (S.an (S.inR 0 1000) (notB (ltI 900 ↑L))))) (md_B et L q w vs (S.newC (Int.tmod (wrapK .i64 k) 228)) 0/\((0:Nat)=0/\(S.eqD (S.mkC vs L k) (S.madeC vs (Int.toNat (↑L-0)) 0 (S.newC (Int.tmod (wrapK .i64 k) 228))) True))) False) False):=by kernel_rfl
theorem yfs2 (et L q:Nat) (w:Own) (vs:List LV) (k:Int) (h0:S.an (S.inR k 256) (S.an (S.yfh0 vs L) (notB (ltI 900 L)))=true)  : HTr Tryz.prog 11 [.int .u8 k,.slice 0 0 L (.known q)] [.flat [.i .i64,.i .u16,.i .u16,.i .u8,.i .i64] et w vs] ⟨.ret (.ptr 1 0),[],(S.hpP 1 (S.mkC vs L k))⟩:=by
 refine K.yba0 good (A:=envB [(18,ymp0)] (fun g id=>bc (Nat.beq g 11) (bc (Nat.beq id 0) (some mdBB) (none)) (none))) (yaj0 ?_) K.yda0 (k:=30) (cast (yes2 et L q w vs k).symm ?_)
 .intro p hp;simp only [List.mem_cons,List.not_mem_nil,or_false] at hp;rcases hp with rfl;exact yic1
 .obtain ⟨hk,h1⟩:=S.yma0.1 h0;obtain ⟨hv,h2⟩:=S.yma0.1 h1;have hL:=yfa0.1 ((yab0).1 h2);have ek:Int.tmod (wrapK .i64 k) 228=S.cl228 k:=rfl;have z:S.inR 0 1000=true:=rfl;have hq:=S.yld2 (S.ykl0 hk);have B:=ylv2 et L q w vs hv hL (S.newC (S.cl228 k)) 0 hq z;have e:S.mkC vs L k=S.madeC vs (Int.toNat ((L:Int)-0)) 0 (S.newC (S.cl228 k)):=by rw [Int.sub_zero];rfl
  simp only [ek,S.ykl0 hk,hq,hv,z,h2,S.an,bc_true,S.ynl2 e,true_and,and_true];exact B
theorem yol2:mkAE.ok Tryz.prog 11:=by
 intro xs os b r h h3;unfold mkAE at h;simp only at h;split at h
 .injection h with h;injection h with h1 h2;subst h1;subst h2;exact ybs2 _ h3
 .injection h with h;injection h with h1 h2;subst h1;subst h2;exact yds2 _ h3
 .injection h with h;injection h with h1 h2;subst h1;subst h2;exact yfs2 _ _ _ _ _ _ h3
 .cases h
namespace S
theorem ynh0 {c:Chip} (h:okC c=true):0<=pos c/\pos c<228/\c.ba=pos c % 4/\c.bs=st (pos c / 4):=by
 obtain ⟨n,h0,h1,ha,hs⟩:=ykd2 (ywf0.1 h).1;have e:pos c=n:=by unfold pos;rw [ha,hs,yir2 h0 h1]
 rw [e];exact ⟨h0,h1,ha,hs⟩
theorem ytm0 {c:Chip} (h:okC c=true):pos (stepC c)=(pos c+1) % 228:=by
 obtain ⟨h0,h1,ha,hs⟩:=ynh0 h;show plc (bc (ltI (c.ba+1) 4) (c.ba+1) 0) (bc (ltI (c.ba+1) 4) c.bs (bc (eqI c.bs 20) 0 (nx c.bs)))=_;rw [ha,hs,bm_a h0 h1,show bc (ltI (pos c % 4+1) 4) (st (pos c / 4)) (bc (eqI (st (pos c / 4)) 20) 0 (nx (st (pos c / 4))))=st (((pos c+1) % 228) / 4) from bm_s h0 h1,yir2 (by omega) (by omega)]
theorem ygs2 {c:Chip} (h:okC c=true):sBeg c.ba c.bs=eqI (pos c) 0:=by
 obtain ⟨h0,h1,ha,hs⟩:=ynh0 h;rw [Bool.eq_iff_iff,ypa0];unfold sBeg;rw [yma0,ypa0,ypa0,ha,hs];constructor
 .rintro ⟨e1,e2⟩
  have:=yex1 (i:=pos c / 4) (j:=0) (by omega) (by omega) (by decide) (by decide) (by rw [e2,st0]);omega
 .intro e;rw [e];exact ⟨rfl,st0⟩
theorem ix_eq {c:Chip} (h:okC c=true):ix c.bs=pos c / 4:=by
 obtain ⟨h0,h1,ha,hs⟩:=ynh0 h;rw [hs,ix_st (by omega) (by omega)]
theorem yff1 {c:Chip} (h:okC c=true):(stepC c).late=bc (eqI (pos c) 0) false c.late:=by
 show sLate c.ba c.bs c.late=_;unfold sLate;rw [ygs2 h]
theorem okZ_Q {c:Chip} (h:okZ c=true):okQ c=true:=(yma0.1 h).1
theorem okZ_C {c:Chip} (h:okZ c=true):okC c=true:=okQ_C (okZ_Q h)
theorem okZ_m {c:Chip} (h:okZ c=true):(0<=c.mc/\c.mc<17)/\0<=c.mg/\c.mg<4:=by
 have:=(yma0.1 h).2;rw [yma0,yea0,yea0] at this;exact this
theorem yqw0 {mc mg k:Int} (hk:0<=k):mAct mc mg k=true↔mc<16/\3<=mg/\k % 4=0:=by
 unfold mAct;rw [yma0,yma0,yja0,yab0,yfa0,ypa0,Int.tmod_eq_emod_of_nonneg hk]
theorem yyn0 {mc:Int} (h0:0<=mc) (h1:mc<17):mLast mc=true↔mc=15:=by
 unfold mLast;rw [ypa0,show wrapK .i64 (mc+1)=mc+1 by rw [yia0];omega];omega
theorem mC_eq {mc mg k:Int} (h0:0<=mc) (h1:mc<17) (hk:0<=k):mC mc mg k=if mc<16/\3<=mg/\k % 4=0 then mc+1 else mc:=by
 unfold mC;cases h:mAct mc mg k with
 | true=>rw [if_pos ((yqw0 hk).1 h),bc_true,yia0];omega
 | false=>rw [if_neg (fun e=>by rw [(yqw0 hk).2 e] at h;cases h),bc_false]
theorem mG_eq {mc mg k:Int} (h0:0<=mc) (h1:mc<17) (g0:0<=mg) (g1:mg<4) (hk:0<=k):mG mc mg k=if mc<16 then (if mg<3 then mg+1 else if k % 4=0/\mc=15 then 0 else mg) else mg:=by
 unfold mG;by_cases a:mc<16
 .rw [yja0.2 a,bc_true,if_pos a];by_cases b:mg<3
  .rw [yja0.2 b,bc_true,if_pos b,yia0];omega
  .rw [yfa0.2 (by omega),bc_false,if_neg b];cases h:an (eqI (k.tmod 4) 0) (mLast mc) with
   | true =>
    rw [yma0,ypa0,Int.tmod_eq_emod_of_nonneg hk,yyn0 h0 h1] at h;rw [if_pos h,bc_true]
   | false =>
    rw [if_neg,bc_false];intro e;rw [show an (eqI (k.tmod 4) 0) (mLast mc)=true by rw [yma0,ypa0,Int.tmod_eq_emod_of_nonneg hk,yyn0 h0 h1];exact e] at h;cases h
 .rw [yfa0.2 (by omega),bc_false,if_neg a]
theorem yct1 {c:Chip} (h:okZ c=true):(stepC c).mc=if c.mc<16/\3<=c.mg/\pos c % 4=0 then c.mc+1 else c.mc:=by
 obtain ⟨⟨h0,h1⟩,g0,g1⟩:=okZ_m h;exact mC_eq h0 h1 (ynh0 (okZ_C h)).1
theorem ynd2 {c:Chip} (h:okZ c=true):(stepC c).mg=if c.mc<16 then (if c.mg<3 then c.mg+1 else if pos c % 4=0/\c.mc=15 then 0 else c.mg) else c.mg:=by
 obtain ⟨⟨h0,h1⟩,g0,g1⟩:=okZ_m h;exact mG_eq h0 h1 g0 g1 (ynh0 (okZ_C h)).1
theorem ynf0 {c:Chip} (h:okZ c=true):okZ (stepC c)=true:=by
 obtain ⟨⟨h0,h1⟩,g0,g1⟩:=okZ_m h;unfold okZ;rw [yma0,yma0,yea0,yea0,yct1 h,ynd2 h];refine ⟨yck0 (okZ_Q h),?_,?_⟩
 .split <;> omega
 .split
  .split
   .omega
   .split <;> omega
  .omega
theorem yzi0 {n:Nat} : ∀ {c:Chip},okZ c=true->okZ (goC n c)=true:=by
 induction n with
 | zero=>exact fun h=>h
 | succ n ih=>exact fun h=>ih (ynf0 h)
theorem yhs2 {c:Chip} (h:okZ c=true):mu (stepC c)=if 0<mu c then mu c-1 else 0:=by
 obtain ⟨⟨h0,h1⟩,g0,g1⟩:=okZ_m h;obtain ⟨p0,p1,_,_⟩:=ynh0 (okZ_C h);have ep:=ytm0 (okZ_C h);unfold mu;rw [yct1 h,ynd2 h,ep];by_cases a:c.mc<16
 .by_cases b:c.mg<3
  .simp only [a,b,if_true,true_and];rw [if_neg (show ¬ (3<=c.mg/\pos c % 4=0) by omega)];simp only [a,if_true];split <;> omega
  .have g:c.mg=3:=by omega
   simp only [a,b,if_true,if_false,true_and];by_cases d:pos c % 4=0
   .by_cases e:c.mc=15
    .simp only [d,e,and_self,and_true,if_true];rw [if_pos (show 3<=c.mg by omega)];rw [if_neg (by omega)];split <;> omega
    .simp only [d,e,and_self,and_true,and_false,if_true,if_false];rw [if_pos (show 3<=c.mg by omega)];rw [if_pos (show c.mc+1<16 by omega)];split <;> omega
   .simp only [d,and_false,false_and,if_false,a,if_true];split <;> omega
 .simp only [a,if_false,false_and,Int.lt_irrefl]
theorem mu_nn {c:Chip} (h:okZ c=true):0<=mu c/\mu c<=67:=by
 obtain ⟨⟨h0,h1⟩,g0,g1⟩:=okZ_m h;unfold mu;split <;> omega
theorem mu_go:∀ (n:Nat) {c:Chip},okZ c=true->mu (goC n c)=if (n:Int)<mu c then mu c-n else 0
 | 0,c,h=>by
  have:=mu_nn h;show mu c=_;split <;> omega
 | n+1,c,h=>by
  have e:=mu_go n (ynf0 h);have:=mu_nn h;have s:=yhs2 h;show mu (goC n (stepC c))=_;rw [e,s];push_cast;by_cases a:0<mu c
  .rw [if_pos a];split <;> split <;> omega
  .rw [if_neg a];split <;> split <;> omega
theorem mc_go {n:Nat} {c:Chip} (h:okZ c=true) (hn:67<=n):(goC n c).mc=16:=by
 have e:=mu_go n h;have:=mu_nn h;rw [if_neg (by omega)] at e;obtain ⟨⟨h0,h1⟩,g0,g1⟩:=okZ_m (yzi0 (n:=n) h);unfold mu at e;split at e
 .omega
 .omega
theorem yis2 {c:Chip} (h:okZ c=true):la (stepC c)=if 0<la c then la c-1 else 0:=by
 obtain ⟨p0,p1,_,_⟩:=ynh0 (okZ_C h);have ep:=ytm0 (okZ_C h);unfold la;rw [yff1 (okZ_C h),ep];cases hl:c.late with
 | false=>cases eqI (pos c) 0 <;> simp [bc_true,bc_false]
 | true =>
  by_cases e:pos c=0
  .rw [ypa0.2 e,bc_true];simp;omega
  .rw [ysa0.2 e,bc_false];simp;omega
theorem la_nn {c:Chip} (h:okZ c=true):0<=la c/\la c<=228:=by
 unfold la;split <;> omega
theorem la_go:∀ (n:Nat) {c:Chip},okZ c=true->la (goC n c)=if (n:Int)<la c then la c-n else 0
 | 0,c,h=>by
  have:=la_nn h;show la c=_;split <;> omega
 | n+1,c,h=>by
  have e:=la_go n (ynf0 h);have:=la_nn h;have s:=yis2 h;show la (goC n (stepC c))=_;rw [e,s];push_cast;by_cases a:0<la c
  .rw [if_pos a];split <;> split <;> omega
  .rw [if_neg a];split <;> split <;> omega
theorem ydt1 {n:Nat} {c:Chip} (h:okZ c=true) (hn:228<=n):still (goC n c):=by
 refine ⟨?_,mc_go h (by omega)⟩;have e:=la_go n h;have:=la_nn h;have p:=ynh0 (okZ_C (yzi0 (n:=n) h));rw [if_neg (by omega)] at e;unfold la at e;split at e
 .omega
 .rename_i hl;cases hb:(goC n c).late with
  | false=>rfl
  | true=>exact absurd hb hl
theorem yll0 {c:Chip} (h:okZ c=true) (hs:still c):still (stepC c):=by
 obtain ⟨h1,h2⟩:=hs;refine ⟨?_,?_⟩
 .rw [yff1 (okZ_C h),h1];cases eqI (pos c) 0 <;> rfl
 .rw [yct1 h,h2,if_neg (by omega)]
theorem yeq0 {c:Chip} (h:okZ c=true) (hs:still c):sDark c.ba c.bs c.late=ltI (pos c) 68:=by
 have p:=ynh0 (okZ_C h);have:sLate c.ba c.bs c.late=false:=by unfold sLate;rw [hs.1];cases sBeg c.ba c.bs <;> rfl
 unfold sDark;rw [this,bc_false,ix_eq (okZ_C h),Bool.eq_iff_iff,yja0,yja0];omega
theorem ypa2 {c:Chip} (hs:still c) (k:Int):mAct c.mc c.mg k=false:=by
 unfold mAct;rw [hs.2];rfl
theorem yhj0 {t:Th} (h:okT t=true):0<=cnt t/\cnt t<160:=yjd2 (t:=t) (yma0.1 h).1
theorem yet1 {q:Int} {t:Th} (h:okT t=true):cnt (tk1 q t)=(cnt t+1) % 160:=by
 obtain ⟨h1,h2⟩:=yma0.1 h;obtain ⟨m,m0,m1,ha,hs,_⟩:=yji0 h1;obtain ⟨e1,e2⟩:=ysp1 m0 m1;have ec:cnt t=m:=by unfold cnt;rw [ha,hs,yec1 m0 m1]
 show plc (bc (ltI (t.a+1) 4) (t.a+1) 0) (bc (ltI (t.a+1) 4) t.s (bc (eqI t.s (st 39)) 0 (nx t.s)))=_;have:=yrp1 m0 m1;rw [ha,hs,e1,e2,yec1 this.1 this.2,ec,yyx1 m0 m1]
theorem ymv2 {c:Chip} {t:Th} {q:Int} (h:okZ c=true) (ht:okT t=true):(cnt (tkT (notB (ltI (pos c) 68)) q t)-seenN (pos (stepC c))) % 160=(cnt t-seenN (pos c)) % 160:=by
 obtain ⟨p0,p1,_,_⟩:=ynh0 (okZ_C h);have hc:=yhj0 ht;rw [ytm0 (okZ_C h)];unfold seenN;by_cases a:pos c<68
 .rw [yja0.2 a];show (cnt t-_) % 160=_;rw [if_pos a];split <;> omega
 .rw [yfa0.2 (by omega)];show (cnt (tk1 q t)-_) % 160=_;rw [yet1 ht,if_neg a];split <;> omega
theorem ynv2 {c:Chip} (h:okZ c=true):okT c.t0=true/\okT c.t1=true/\okT c.t2=true/\okT c.t3=true/\okT c.t4=true :=
 (yhh0.1 (ywf0.1 (okZ_C h)).2.2.1).2.2
theorem yxh1:∀ (n:Nat) {c:Chip},okZ c=true->pos (goC n c)=(pos c+n) % 228
 | 0,c,h=>by
  have:=ynh0 (okZ_C h);show pos c=_;omega
 | n+1,c,h=>by
  show pos (goC n (stepC c))=_;rw [yxh1 n (ynf0 h),ytm0 (okZ_C h)];push_cast;omega
theorem yqa2 {c:Chip} {addr v:Int} (hv:inR v 256=true) (h:okZ c=true):okZ (ynu0 addr v c)=true:=by
 obtain ⟨⟨h0,h1⟩,g0,g1⟩:=okZ_m h;unfold okZ;rw [yma0,yma0,yea0,yea0];exact ⟨yef1 hv (okZ_Q h),rgP (P:=fun x=>0<=x/\x<17) (by decide) ⟨h0,h1⟩,rgP (P:=fun x=>0<=x/\x<4) (by decide) ⟨g0,g1⟩⟩
theorem yov2 {c:Chip} {n v:Int} (hv:inR v 256=true) (h:okZ c=true):okZ (inC n v c)=true:=by
 unfold okZ;rw [yma0];exact ⟨yqr2 hv (okZ_Q h),(yma0.1 h).2⟩
theorem yjs2 {k:Int} (h:inR k 228=true):okZ (newC k)=true:=by
 unfold okZ;rw [yma0];exact ⟨yld2 h,rfl⟩
end S
namespace S
end S
namespace S
end S
namespace S
theorem yod2:∀ (ws:List LV) (j:Nat),allI ws=true->j<ws.length->ws[j]?=some (.int .i64 (intOf (K.atV ws j)))
 | [],j,_,h=>by simp at h
 | v::ws,0,h,_=>by
  have h:=(yma0.1 h).1;unfold isI at h;split at h
  .rfl
  .cases h
 | v::ws,j+1,h,hl=>by
  have:=yod2 ws j (yma0.1 h).2 (by simpa using hl);simpa [K.atV] using this
theorem ws_eq {ws:List LV} (h:allI ws=true) (hl:lenL ws=81):ws=(List.range 81).map fun j=>.int .i64 (Wof ws j):=by
 rw [Ev.lenL_eq] at hl;apply List.ext_getElem?;intro j;by_cases hj:j<81
 .rw [yod2 ws j h (by omega),List.getElem?_map,List.getElem?_range hj];rfl
 .rw [List.getElem?_eq_none (by omega),List.getElem?_eq_none (by simp;omega)]
end S
namespace S
theorem yft1 {a b:Bool} : eqB2 a b=true↔a=b:=by cases a <;> cases b <;> decide
theorem yee0 {c:Chip} : okS c=true↔okZ c=true/\okG c=true/\okPt c.po=true/\okMt c.mc c.mg c.mm=true:=by
 unfold okS;simp only [yma0]
theorem yks2:∀ (i:Fin 32) (k:Fin 5),inR (clr ((i.val:Nat):Int) (2 ^ k.val)) 32=true:=by decide +kernel
theorem ygt1 {n mc m:Int} (k:Fin 5) (h:inR m 32=true):inR (mo (2 ^ k.val) n mc m) 32=true:=by
 have h1:=yea0.1 h;unfold mo;refine bcP (P:=fun x=>inR x 32=true) ?_ h;have:=yks2 ⟨m.toNat,by omega⟩ k
 rwa [show (((⟨m.toNat,by omega⟩ : Fin 32).val:Nat):Int)=m from Int.toNat_of_nonneg h1.1] at this
theorem yls2 {n0 n1 n2 n3 n4 mc m:Int} (h:inR m 32=true):inR (mo5 n0 n1 n2 n3 n4 mc m) 32=true:=by
 unfold mo5 mo4 mo3 mo2 mo1;exact ygt1 4 (ygt1 3 (ygt1 2 (ygt1 1 (ygt1 0 h))))
theorem yht1 {mc mg mm:Int} : okMt mc mg mm=true↔inR mm 32=true/\(mc=16->mg=0/\mm=0):=by
 unfold okMt;rw [yma0];refine and_congr Iff.rfl ?_;by_cases e:mc=16
 .rw [ypa0.2 e];show an (eqI mg 0) (eqI mm 0)=true↔_;rw [yma0,ypa0,ypa0];exact ⟨fun h _=>h,fun h=>h e⟩
 .rw [ysa0.2 e];exact ⟨fun _ h=>absurd h e,fun _=>rfl⟩
theorem yra2 {mc mg mm k n0 n1 n2 n3 n4:Int} (h0:0<=mc) (h1:mc<17) (g0:0<=mg) (g1:mg<4) (hk:0<=k) (h:okMt mc mg mm=true):okMt (mC mc mg k) (mG mc mg k) (mM mc mg mm k n0 n1 n2 n3 n4)=true:=by
 rw [yht1] at h ⊢;rw [mC_eq h0 h1 hk,mG_eq h0 h1 g0 g1 hk];unfold mM;cases ha:mAct mc mg k with
 | false =>
  have na:¬ (mc<16/\3<=mg/\k % 4=0):=fun e=>by rw [(yqw0 hk).2 e] at ha;cases ha
  rw [bc_false,if_neg na];refine ⟨h.1,fun e=>?_⟩;rw [if_neg (by omega)];exact h.2 e
 | true =>
  have a:=(yqw0 hk).1 ha;rw [bc_true,if_pos a];cases hl:mLast mc with
  | false =>
   have nl:mc≠15:=fun e=>by rw [(yyn0 h0 h1).2 e] at hl;cases hl
   rw [bc_false];exact ⟨yls2 h.1,fun e=>by omega⟩
  | true =>
   have l:=(yyn0 h0 h1).1 hl;rw [bc_true];refine ⟨rfl,fun _=>⟨?_,rfl⟩⟩;rw [if_pos a.1,if_neg (by omega),if_pos ⟨a.2.2,l⟩]
theorem yjc1 {p:Po} : okPt p=true↔(p.yww2=true->p.yvw2=0)/\see p.yuw2 p.l0 p.h0=p.l0/\see p.yuw2 p.l1 p.h1=p.l1:=by
 unfold okPt;rw [yma0,yma0,yft1,yft1];refine and_congr ?_ Iff.rfl;cases p.yww2 with
 | false=>exact ⟨fun _ h=>(by cases h),fun _=>rfl⟩
 | true =>
  by_cases e:p.yvw2=0
  .rw [ypa0.2 e];exact ⟨fun _ _=>e,fun _=>rfl⟩
  .rw [ysa0.2 e];exact ⟨fun h=>(by cases h),fun h=>absurd (h rfl) e⟩
theorem ygf1 (b l h:Bool):see b (see b l h) h=see b l h:=by cases b <;> cases l <;> cases h <;> rfl
theorem ypl2 {c:Chip} (h:okG c=true):okG (stepC c)=true:=h
theorem yql2 {c:Chip} (h:okS c=true):okS (stepC c)=true:=by
 obtain ⟨hz,hg,hp,hm⟩:=yee0.1 h;obtain ⟨⟨h0,h1⟩,g0,g1⟩:=okZ_m hz;refine yee0.2 ⟨ynf0 hz,ypl2 hg,?_,yra2 h0 h1 g0 g1 (ynh0 (okZ_C hz)).1 hm⟩;rw [yjc1] at hp ⊢;refine ⟨fun hd=>?_,hp.2⟩;have hd:c.po.yww2=true:=hd;show bc (sBeg c.ba c.bs) (pkC c.po.yvw2 c.po.yww2) c.po.yvw2=0;have e:=hp.1 hd;unfold pkC;rw [hd,e];cases sBeg c.ba c.bs <;> rfl
theorem ysa2 {c:Chip} {addr v:Int} (hv:inR v 256=true) (h:okG c=true):okG (ynu0 addr v c)=true:=by
 unfold okG at h ⊢;simp only [yma0] at h ⊢;obtain ⟨q0,q1,q2,q3,q4,q5,q6,q7,q8,q9,q10,q11,q12,q13,q14,q15,q16,q17,q18,q19,q20,q21,q22,q23,q24,q25,q26,q27,q28,q29⟩:=h;have z:inR 0 256=true:=rfl;exact ⟨inRg hv q0,inRg hv q1,inRg hv q2,inRg hv q3,inRg hv q4,inRg hv q5,inRg hv q6,inRg hv q7,inRg hv q8,inRg hv q9,inRg hv q10,inRg hv q11,inRg hv q12,inRg hv q13,inRg hv q14,inRg hv q15,inRg z (inRg hv q16),inRg z (inRg hv q17),inRg z (inRg hv q18),inRg z (inRg hv q19),inRg z (inRg hv q20),inRg hv q21,inRg hv q22,inRg hv q23,inRg hv q24,inRg hv q25,inRg hv q26,inRg q26 q27,inRg hv q28,inRg q28 q29⟩
theorem yta2 {c:Chip} {addr v:Int} (hv:inR v 256=true) (h:okS c=true):okS (ynu0 addr v c)=true:=by
 obtain ⟨hz,hg,hp,hm⟩:=yee0.1 h;refine yee0.2 ⟨yqa2 hv hz,ysa2 hv hg,?_,?_⟩
 .rw [yjc1] at hp ⊢;show (rb (adr addr) 1 (hb .u8 v 128) c.po.yww2=true->rg (adr addr) 1 (bc (hb .u8 v 128) 0 c.po.yvw2) c.po.yvw2=0)/\see (rb (adr addr) 1 (hb .u8 v 64) c.po.yuw2) (rb (adr addr) 1 (see (hb .u8 v 64) c.po.l0 c.po.h0) c.po.l0) c.po.h0=rb (adr addr) 1 (see (hb .u8 v 64) c.po.l0 c.po.h0) c.po.l0/\see (rb (adr addr) 1 (hb .u8 v 64) c.po.yuw2) (rb (adr addr) 1 (see (hb .u8 v 64) c.po.l1 c.po.h1) c.po.l1) c.po.h1=rb (adr addr) 1 (see (hb .u8 v 64) c.po.l1 c.po.h1) c.po.l1;unfold rb rg;cases eqI (adr addr) 1 with
  | false=>exact hp
  | true =>
   refine ⟨fun hd=>?_,ygf1 _ _ _,ygf1 _ _ _⟩;have hd:hb .u8 v 128=true:=hd;rw [hd];rfl
 .rw [yht1] at hm ⊢;show inR (rg (adr addr) 42 31 c.mm) 32=true/\(rg (adr addr) 42 0 c.mc=16->rg (adr addr) 42 0 c.mg=0/\rg (adr addr) 42 31 c.mm=0);unfold rg;cases eqI (adr addr) 42 with
  | false=>exact hm
  | true=>exact ⟨rfl,fun e=>absurd (show (0:Int)=16 from e) (by decide)⟩
theorem ypv2 {c:Chip} {n v:Int} (hv:inR v 256=true) (h:okS c=true):okS (inC n v c)=true:=by
 obtain ⟨hz,hg,hp,hm⟩:=yee0.1 h;refine yee0.2 ⟨yov2 hv hz,hg,?_,hm⟩;rw [yjc1] at hp ⊢;refine ⟨hp.1,?_,?_⟩
 .show see c.po.yuw2 (pkL n v 4 c.po.yuw2 c.po.l0 c.po.h0) (pkH n v 4 c.po.h0)=pkL n v 4 c.po.yuw2 c.po.l0 c.po.h0;unfold pkL;cases ho:orb (eqI n 4) (eqI n 5) with
  | true=>exact ygf1 _ _ _
  | false =>
   have e:eqI n 4=false:=by cases h4:eqI n 4 with
    | false=>rfl
    | true=>rw [h4] at ho;cases ho
   have:pkH n v 4 c.po.h0=c.po.h0:=by unfold pkH;rw [e];rfl
   rw [this];exact hp.2.1
 .show see c.po.yuw2 (pkL n v 5 c.po.yuw2 c.po.l1 c.po.h1) (pkH n v 5 c.po.h1)=pkL n v 5 c.po.yuw2 c.po.l1 c.po.h1;unfold pkL;cases ho:orb (eqI n 4) (eqI n 5) with
  | true=>exact ygf1 _ _ _
  | false =>
   have e:eqI n 5=false:=by cases h4:eqI n 5 with
    | false=>rfl
    | true=>rw [h4] at ho;revert ho;cases eqI n 4 <;> (intro h;cases h)
   have:pkH n v 5 c.po.h1=c.po.h1:=by unfold pkH;rw [e];rfl
   rw [this];exact hp.2.2
theorem yms2 {k:Int} (h:inR k 228=true):okS (newC k)=true :=
 yee0.2 ⟨yjs2 h,rfl,rfl,rfl⟩
theorem yrl2 {n:Nat} : ∀ {c:Chip},okS c=true->okS (goC n c)=true:=by
 induction n with
 | zero=>exact fun h=>h
 | succ n ih=>exact fun h=>ih (yql2 h)
theorem yns2 {kd st ad v m:Int} {c:Chip} (hv:inR v 256=true) (h:okS c=true):okS (didC kd st ad v m c)=true:=by
 unfold didC;split
 .exact yrl2 h
 .split
  .exact h
  .split
   .exact ypv2 hv h
   .exact yta2 hv h
theorem yit1 {vs:List LV} {L:Nat} (h:yfh0 vs L=true):∀ (k:Nat) (i:Int) (c:Chip),0<=i->i+k<=L->okS c=true->okS (madeC vs k i c)=true
 | 0,_,_,_,_,hc=>hc
 | k+1,i,c,h0,h1,hc=>yit1 h k (i+1) _ (by omega) (by omega) (yns2 (ybt1 h h0 (by omega)).2 hc)
theorem ysl2 {vs:List LV} {L:Nat} {k:Int} (h:yfh0 vs L=true) (hk:inR k 256=true):okS (mkC vs L k)=true :=
 yit1 h L 0 _ (by decide) (by omega) (yms2 (ykl0 hk))
end S
namespace S
end S
namespace S
end S
namespace S
theorem yjt1 (k:Fin 5) (c:Chip):tO k (stepC c)=tkT (bc (sDark c.ba c.bs c.late) (mvO k c) true) (qO k c) (tO k c) :=
 match k with
 | 0=>rfl
 | 1=>rfl
 | 2=>rfl
 | 3=>rfl
 | 4=>rfl
theorem okT_O (k:Fin 5) {c:Chip} (h:okZ c=true):okT (tO k c)=true:=by
 obtain ⟨a0,a1,a2,a3,a4⟩:=ynv2 h
 exact (match k with
 | 0=>a0
 | 1=>a1
 | 2=>a2
 | 3=>a3
 | 4=>a4)
theorem yos2 {c:Chip} (h:okZ c=true):sDark c.ba c.bs c.late=true↔pos c<68\/(c.late=true/\pos c≠0/\pos c<76):=by
 have p:=ynh0 (okZ_C h);unfold sDark sLate;rw [ygs2 (okZ_C h),ix_eq (okZ_C h)];by_cases e:pos c=0
 .rw [ypa0.2 e,bc_true,bc_false,yja0];omega
 .rw [ysa0.2 e,bc_false];cases c.late
  .rw [bc_false,yja0];simp;omega
  .rw [bc_true,yja0];simp;omega
end S
namespace S
theorem yqv2 (u:Int) (c:Chip):0<=(u-pos c) % 228/\(u-pos c) % 228<228:=by omega
theorem yps2 {u:Int} {c:Chip} (h:okZ c=true) (h0:0<=u) (h1:u<228):pos (wtC u c)=u:=by
 unfold wtC wtN;rw [yxh1 _ h];have:=ynh0 (okZ_C h);omega
theorem wtC_z {u:Int} {c:Chip} (h:pos c=u):wtC u c=c:=by
 unfold wtC wtN;rw [h,show ((u-u) % 228).toNat=0 by omega];rfl
theorem wtC_s {u:Int} {c:Chip} (h:okC c=true) (h0:0<=u) (h1:u<228) (hn:pos c≠u):wtC u c=wtC u (stepC c)/\(u-pos c) % 228=(u-pos (stepC c)) % 228+1:=by
 have p:=ynh0 h;have e:=ytm0 h;have q:(u-pos c) % 228=(u-pos (stepC c)) % 228+1:=by rw [e];omega
 refine ⟨?_,q⟩;unfold wtC wtN;rw [q,show ((u-pos (stepC c)) % 228+1).toNat=((u-pos (stepC c)) % 228).toNat+1 by omega];rfl
theorem ypd2:∀ (n:Nat) {c:Chip},okZ c=true->still c->still (goC n c)
 | 0,_,_,h=>h
 | n+1,_,h,hs=>ypd2 n (ynf0 h) (yll0 h hs)
end S
theorem ytl2:K.bodyF (envL []) (K.runF (envL []) 40) 17 [] (Heap.of []) .auto (K.endC K.shutE 0 ⟨.ret (.bool true),[],[]⟩)=True:=by kernel_rfl
theorem yul2:HT Tryz.prog 17 [] (Heap.of []) (⟨.ret (.bool true),[],[]⟩ : K.CRes).e (Heap.of (K.chg [] (⟨.ret (.bool true),[],[]⟩ : K.CRes).ch++(⟨.ret (.bool true),[],[]⟩ : K.CRes).new)):=by
 refine K.ybx1 (A:=envL []) (E:=K.shutE) (k:=40) (g:=17) (xs:=[]) (os:=[]) (r:=⟨.ret (.bool true),[],[]⟩) (h:=.auto) good (yha0 ?_) K.ygi0 (ytl2);intro p hp;cases hp
theorem ykt1:kAwkE.ok Tryz.prog 17:=by
 intro xs os b r h h3;unfold kAwkE at h;simp only at h;split at h
 .injection h with h;injection h with h1 h2;subst h1;subst h2;exact yul2
 .cases h
namespace S
theorem stT:∀ (q:Fin 8) (n:Fin 160),tline (lineT ((q.val:Nat):Int) ((n.val:Nat):Int)) (yya0 ((q.val:Nat):Int) (nxp ((n.val:Nat):Int)))=lineT ((q.val:Nat):Int) (nxp ((n.val:Nat):Int))/\tscan (lineT ((q.val:Nat):Int) ((n.val:Nat):Int)) (scanT ((q.val:Nat):Int) ((n.val:Nat):Int))=scanT ((q.val:Nat):Int) (nxp ((n.val:Nat):Int)):=by decide +kernel
theorem st7:∀ (q:Fin 8),ltI (lineT ((q.val:Nat):Int) 7) 128=false/\scanT ((q.val:Nat):Int) 8=8:=by decide +kernel
theorem yvl2:∀ (q:Fin 8) (n:Fin 160) (l:Fin 3),dot (young (lineT ((q.val:Nat):Int) ((n.val:Nat):Int)) (scanT ((q.val:Nat):Int) ((n.val:Nat):Int))) (elder (lineT ((q.val:Nat):Int) ((n.val:Nat):Int)) (scanT ((q.val:Nat):Int) ((n.val:Nat):Int))) (((l.val:Nat):Int)+4)=dEnd (((l.val:Nat):Int)+4) (dGo ((q.val:Nat):Int) ((n.val:Nat):Int) 0 (1000,1000)):=by decide +kernel
theorem yua2 (q n:Int):0<=lineT q n/\lineT q n<256:=by
 have b:∀ (x:Bool) (k:Int),0<=k->0<=bc x k 0/\bc x k 0<=k:=fun x k hk=>by cases x <;> simp [bc_true,bc_false,hk]
 unfold lineT;have b0:=b (yya0 q ((n-0) % 160)) 1 (by decide);have b1:=b (yya0 q ((n-1) % 160)) 2 (by decide);have b2:=b (yya0 q ((n-2) % 160)) 4 (by decide);have b3:=b (yya0 q ((n-3) % 160)) 8 (by decide);have b4:=b (yya0 q ((n-4) % 160)) 16 (by decide);have b5:=b (yya0 q ((n-5) % 160)) 32 (by decide);have b6:=b (yya0 q ((n-6) % 160)) 64 (by decide);have b7:=b (yya0 q ((n-7) % 160)) 128 (by decide);omega
theorem stT_i {q n:Int} (hn:0<=n/\n<160):tline (lineT (q % 8) n) (yya0 (q % 8) (nxp n))=lineT (q % 8) (nxp n)/\tscan (lineT (q % 8) n) (scanT (q % 8) n)=scanT (q % 8) (nxp n):=by
 have e:=stT ⟨(q % 8).toNat,by omega⟩ ⟨n.toNat,by omega⟩
 rwa [show (((⟨(q % 8).toNat,by omega⟩ : Fin 8).val:Nat):Int)=q % 8 from Int.toNat_of_nonneg (by omega),show (((⟨n.toNat,by omega⟩ : Fin 160).val:Nat):Int)=n from Int.toNat_of_nonneg hn.1] at e
theorem yhf1 {q:Int} {t:Th} (h:okT t=true):cnt (tk1 q t)=nxp (cnt t):=by
 have r:=yhj0 h;rw [yet1 h,yyx1 r.1 r.2]
theorem yqs2 {q:Int} {t:Th} (ht:okT t=true) (h:full q t):full q (tk1 q t):=by
 have r:=yhj0 ht;obtain ⟨e1,e2⟩:=stT_i (q:=q) r;obtain ⟨h1,h2⟩:=h;unfold full;rw [yhf1 ht];refine ⟨?_,?_⟩
 .show tline t.I (yya0 (q % 8) (nxp (cnt t)))=_;rw [h1,e1]
 .show tscan t.I t.scan=_;rw [h1,h2,e2]
theorem yrs2 {q:Int} {t:Th} (ht:okT t=true) (h:t.I=lineT (q % 8) (cnt t)) (h7:cnt t=7):full q (tk1 q t):=by
 have r:=yhj0 ht;obtain ⟨e1,_⟩:=stT_i (q:=q) r;have s7:=st7 ⟨(q % 8).toNat,by omega⟩;rw [show (((⟨(q % 8).toNat,by omega⟩ : Fin 8).val:Nat):Int)=q % 8 from Int.toNat_of_nonneg (by omega)] at s7;unfold full;rw [yhf1 ht];refine ⟨?_,?_⟩
 .show tline t.I (yya0 (q % 8) (nxp (cnt t)))=_;rw [h,e1]
 .show tscan t.I t.scan=_;rw [h,h7];unfold tscan;rw [s7.1,bc_false];exact s7.2.symm
theorem ywl2 {M q:Int} {t:Th} (hM:M=1\/M=2\/M=4\/M=8\/M=16\/M=32\/M=64\/M=128) (ht:okT t=true) (h:agree M q t):agree (2*M) q (tk1 q t):=by
 have r:=yhj0 ht;obtain ⟨e1,_⟩:=stT_i (q:=q) r;unfold agree at *;rw [yhf1 ht,<- e1];show (tline t.I (yya0 (q % 8) (nxp (cnt t)))-_) % _=0;unfold tline;generalize bc (yya0 (q % 8) (nxp (cnt t))) (1:Int) 0=z;generalize lineT (q % 8) (cnt t)=y at *;rcases hM with rfl | rfl | rfl | rfl | rfl | rfl | rfl | rfl <;> omega
theorem yva2 {q:Int} {t:Th} (ht:okT t=true):agree 256 q t↔t.I=lineT (q % 8) (cnt t):=by
 have r:=yua2 (q % 8) (cnt t);have l:=yea0.1 (yma0.1 (yma0.1 ht).2).1;unfold agree;omega
theorem yss2 {q:Int} {t:Th} (ht:okT t=true) (h:t.I=lineT (q % 8) (cnt t)):(tk1 q t).I=lineT (q % 8) (cnt (tk1 q t)):=by
 have r:=yhj0 ht;obtain ⟨e1,_⟩:=stT_i (q:=q) r;rw [yhf1 ht];show tline t.I (yya0 (q % 8) (nxp (cnt t)))=_;rw [h,e1]
theorem ynz0 (k:Fin 5) (c:Chip):qO k (stepC c)=qO k c :=
 match k with
 | 0=>rfl
 | 1=>rfl
 | 2=>rfl
 | 3=>rfl
 | 4=>rfl
theorem qO_go (k:Fin 5):∀ (n:Nat) (c:Chip),qO k (goC n c)=qO k c
 | 0,_=>rfl
 | n+1,c=>(qO_go k n (stepC c)).trans (ynz0 k c)
theorem yij0:∀ (a b:Nat) (c:Chip),goC (a+b) c=goC b (goC a c)
 | 0,b,c=>by rw [Nat.zero_add];rfl
 | a+1,b,c=>by
  rw [show a+1+b=(a+b)+1 by omega];exact yij0 a b (stepC c)
theorem yrv2 (k:Fin 5) {c:Chip} (h:okZ c=true) (hp:76<=pos c):tO k (stepC c)=tk1 (qO k c) (tO k c):=by
 have d:sDark c.ba c.bs c.late=false:=by
  cases hd:sDark c.ba c.bs c.late with
  | false=>rfl
  | true=>rcases (yos2 h).1 hd with a | a <;> omega
 rw [yjt1,d,bc_false];rfl
theorem ylt1 (k:Fin 5) {c:Chip} (h:okZ c=true) (hs:still c):tO k (stepC c)=tkT (notB (ltI (pos c) 68)) (qO k c) (tO k c):=by
 rw [yjt1,yeq0 h hs]
 have:mvO k c=false:=by
  have a:=ypa2 hs
  exact (match k with
 | 0=>by show an (mAct _ _ _) _=false;rw [a];rfl
 | 1=>by show an (mAct _ _ _) _=false;rw [a];rfl
 | 2=>by show an (mAct _ _ _) _=false;rw [a];rfl
 | 3=>by show an (mAct _ _ _) _=false;rw [a];rfl
 | 4=>by show an (mAct _ _ _) _=false;rw [a];rfl)
 rw [this];cases ltI (pos c) 68 <;> rfl
theorem tk_or (k:Fin 5) (c:Chip):tO k (stepC c)=tO k c\/tO k (stepC c)=tk1 (qO k c) (tO k c):=by
 rw [yjt1];cases bc (sDark c.ba c.bs c.late) (mvO k c) true
 .exact Or.inl rfl
 .exact Or.inr rfl
theorem ywa2 (k:Fin 5) {c:Chip} (h:okZ c=true) (hl:(tO k c).I=lineT (qO k c % 8) (cnt (tO k c))):(tO k (stepC c)).I=lineT (qO k (stepC c) % 8) (cnt (tO k (stepC c))):=by
 rw [ynz0];rcases tk_or k c with e | e <;> rw [e]
 .exact hl
 .exact yss2 (okT_O k h) hl
theorem yqd2 (k:Fin 5):∀ (n:Nat) {c:Chip},okZ c=true->(tO k c).I=lineT (qO k c % 8) (cnt (tO k c))->(tO k (goC n c)).I=lineT (qO k (goC n c) % 8) (cnt (tO k (goC n c)))
 | 0,_,_,hl=>hl
 | n+1,_,h,hl=>yqd2 k n (ynf0 h) (ywa2 k h hl)
theorem yxa2 (k:Fin 5) {c:Chip} (h:okZ c=true) (hf:full (qO k c) (tO k c)):full (qO k (stepC c)) (tO k (stepC c)):=by
 rw [ynz0];rcases tk_or k c with e | e <;> rw [e]
 .exact hf
 .exact yqs2 (okT_O k h) hf
theorem ymt1 (k:Fin 5):∀ (n:Nat) {c:Chip},okZ c=true->full (qO k c) (tO k c)->full (qO k (goC n c)) (tO k (goC n c))
 | 0,_,_,hf=>hf
 | n+1,_,h,hf=>ymt1 k n (ynf0 h) (yxa2 k h hf)
theorem yya2 (k:Fin 5) {c:Chip} {M:Int} (hM:M=1\/M=2\/M=4\/M=8\/M=16\/M=32\/M=64\/M=128) (h:okZ c=true) (hp:76<=pos c) (ha:agree M (qO k c) (tO k c)):agree (2*M) (qO k (stepC c)) (tO k (stepC c)):=by
 rw [ynz0,yrv2 k h hp];exact ywl2 hM (okT_O k h) ha
theorem eight (k:Fin 5) {c:Chip} (h:okZ c=true) (hp:76<=pos c) (hq:pos c<=220):(tO k (goC 8 c)).I=lineT (qO k (goC 8 c) % 8) (cnt (tO k (goC 8 c))):=by
 have ok:∀ n,okZ (goC n c)=true:=fun n=>yzi0 h
 have ps:∀ n:Nat,n<=7->76<=pos (goC n c):=fun n hn=>by rw [yxh1 n h];omega
 have nx:∀ n,goC (n+1) c=stepC (goC n c):=fun n=>yij0 n 1 c
 have g:∀ (n:Nat) (M:Int),n<=7->(M=1\/M=2\/M=4\/M=8\/M=16\/M=32\/M=64\/M=128)->agree M (qO k (goC n c)) (tO k (goC n c))->agree (2*M) (qO k (goC (n+1) c)) (tO k (goC (n+1) c)):=fun n M hn hM ha=>by
  rw [nx];exact yya2 k hM (ok n) (ps n hn) ha
 have a0:agree 1 (qO k (goC 0 c)) (tO k (goC 0 c)):=by unfold agree;omega
 have a1:=g 0 1 (by omega) (by omega) a0;have a2:=g 1 2 (by omega) (by omega) a1;have a3:=g 2 4 (by omega) (by omega) a2;have a4:=g 3 8 (by omega) (by omega) a3;have a5:=g 4 16 (by omega) (by omega) a4;have a6:=g 5 32 (by omega) (by omega) a5;have a7:=g 6 64 (by omega) (by omega) a6;have a8:=g 7 128 (by omega) (by omega) a7;exact (yva2 (okT_O k (ok 8))).1 a8
theorem yts2 (k:Fin 5) {c:Chip} (h:okZ c=true) {n:Nat} (hn:92<=n):(tO k (goC n c)).I=lineT (qO k (goC n c) % 8) (cnt (tO k (goC n c))):=by
 have p:=ynh0 (okZ_C h)
 have m:∃ m:Nat,m<=84/\76<=pos (goC m c)/\pos (goC m c)<=220:=by
  by_cases a:76<=pos c/\pos c<=220
  .exact ⟨0,by omega,a⟩
  .refine ⟨((76-pos c) % 228).toNat,by omega,?_⟩;rw [yxh1 _ h];omega
 obtain ⟨m,m1,m2,m3⟩:=m;rw [show n=m+(8+(n-m-8)) by omega,yij0,yij0];exact yqd2 k _ (yzi0 (yzi0 h)) (eight k (yzi0 h) m2 m3)
theorem ynt1 (k:Fin 5):∀ (n:Nat) {c:Chip},okZ c=true->still c->phi (goC n c) (tO k (goC n c))=phi c (tO k c)
 | 0,_,_,_=>rfl
 | n+1,c,h,hs=>by
  rw [show goC (n+1) c=goC n (stepC c) from rfl,ynt1 k n (ynf0 h) (yll0 h hs),ylt1 k h hs];exact ymv2 h (okT_O k h)
theorem yrw0:∀ (n:Nat) {c:Chip},okZ c=true->still c->still (goC n c)
 | 0,_,_,h=>h
 | n+1,_,h,hs=>yrw0 n (ynf0 h) (yll0 h hs)
theorem settled (k:Fin 5) {c:Chip} (h:okZ c=true) {n:Nat} (hn:456<=n):full (qO k (goC n c)) (tO k (goC n c)):=by
 have h1:okZ (goC 228 c)=true:=yzi0 h;have s1:still (goC 228 c):=ydt1 h (by decide);have p:=ynh0 (okZ_C h1)
 have hj:∃ j:Nat,j<228/\68<=pos (goC j (goC 228 c))/\cnt (tO k (goC j (goC 228 c)))=7:=by
  refine ⟨((68+(7-phi (goC 228 c) (tO k (goC 228 c))) % 160-pos (goC 228 c)) % 228).toNat,by omega,?_⟩;have e1:=ynt1 k (((68+(7-phi (goC 228 c) (tO k (goC 228 c))) % 160-pos (goC 228 c)) % 228).toNat) h1 s1;have e2:=yxh1 (((68+(7-phi (goC 228 c) (tO k (goC 228 c))) % 160-pos (goC 228 c)) % 228).toNat) h1;have r:=yhj0 (okT_O k (yzi0 (n:=((68+(7-phi (goC 228 c) (tO k (goC 228 c))) % 160-pos (goC 228 c)) % 228).toNat) h1));generalize goC ((68+(7-phi (goC 228 c) (tO k (goC 228 c))) % 160-pos (goC 228 c)) % 228).toNat (goC 228 c)=d at *;have e3:pos d=68+(7-phi (goC 228 c) (tO k (goC 228 c))) % 160:=by omega
  refine ⟨by omega,?_⟩;generalize phi (goC 228 c) (tO k (goC 228 c))=f at *;have e4:(cnt (tO k d)-seenN (pos d)) % 160=f:=e1;unfold seenN at e4;rw [if_neg (by omega)] at e4;omega
 obtain ⟨j,j1,j2,j3⟩:=hj;rw [show n=228+(j+(1+(n-229-j))) by omega,yij0,yij0,yij0];have h2:okZ (goC j (goC 228 c))=true:=yzi0 h1;have s2:still (goC j (goC 228 c)):=yrw0 j h1 s1
 have l:(tO k (goC j (goC 228 c))).I=lineT (qO k (goC j (goC 228 c)) % 8) (cnt (tO k (goC j (goC 228 c)))):=by
  rw [<- yij0];exact yts2 k h (by omega)
 refine ymt1 k _ (yzi0 h2) ?_;show full (qO k (stepC _)) (tO k (stepC _));rw [ynz0,ylt1 k h2 s2,yfa0.2 (by omega)];exact yrs2 (okT_O k h2) l j3
theorem yxl2 {q l:Int} {t:Th} (ht:okT t=true) (h:full q t) (hl:l=4\/l=5\/l=6):dotT t l=dlV q (cnt t) l:=by
 have r:=yhj0 ht;obtain ⟨h1,h2⟩:=h
 have key:∀ i:Fin 3,dot (young (lineT (q % 8) (cnt t)) (scanT (q % 8) (cnt t))) (elder (lineT (q % 8) (cnt t)) (scanT (q % 8) (cnt t))) (((i.val:Nat):Int)+4)=dEnd (((i.val:Nat):Int)+4) (dGo (q % 8) (cnt t) 0 (1000,1000)):=fun i=>by
  have e:=yvl2 ⟨(q % 8).toNat,by omega⟩ ⟨(cnt t).toNat,by omega⟩ i
  rwa [show (((⟨(q % 8).toNat,by omega⟩ : Fin 8).val:Nat):Int)=q % 8 from Int.toNat_of_nonneg (by omega),show (((⟨(cnt t).toNat,by omega⟩ : Fin 160).val:Nat):Int)=cnt t from Int.toNat_of_nonneg r.1] at e
 unfold dotT dlV;rw [h1,h2];rcases hl with rfl | rfl | rfl
 .exact key 0
 .exact key 1
 .exact key 2
theorem dGo_s {q n s:Int} {x:Int × Int} (h0:0<=s) (h1:s<160):dGo q n s x=dGo q n (s+1) (dAt q n s x):=by
 have i:∀ (p:Int) (y:Int × Int),p≠s->dIf q n s p y=dIf q n (s+1) p y:=fun p y hp=>by
  unfold dIf;by_cases a:p<s
  .rw [yja0.2 a,yja0.2 (by omega)]
  .rw [yfa0.2 (by omega),yfa0.2 (by omega)]
 have e:∀ y,dIf q n s s y=dAt q n s y:=fun y=>by unfold dIf;rw [yfa0.2 (by omega),bc_false]
 have e2:∀ y,dIf q n (s+1) s y=y:=fun y=>by unfold dIf;rw [yja0.2 (by omega),bc_true]
 have f:∀ (p:Int) (y:Int × Int),p<s->dIf q n s p y=y:=fun p y hp=>by unfold dIf;rw [yja0.2 hp,bc_true]
 have f2:∀ (p:Int) (y:Int × Int),p<s->dIf q n (s+1) p y=y:=fun p y hp=>by unfold dIf;rw [yja0.2 (by omega),bc_true]
 unfold dGo;by_cases a0:s=0
 .subst a0;rw [e,e2,i 16 _ (by decide),i 32 _ (by decide),i 64 _ (by decide)]
 .rw [f 0 _ (by omega),f2 0 _ (by omega)];by_cases a1:s=16
  .subst a1;rw [e,e2,i 32 _ (by decide),i 64 _ (by decide)]
  .by_cases a2:s=32
   .subst a2;rw [f 16 _ (by decide),f2 16 _ (by decide),e,e2,i 64 _ (by decide)]
   .by_cases a3:s=64
    .subst a3;rw [f 16 _ (by decide),f2 16 _ (by decide),f 32 _ (by decide),f2 32 _ (by decide),e,e2]
    .have ns:yya0 q s=false:=by
      unfold yya0;rw [ysa0.2 a0,ysa0.2 a1,ysa0.2 a2,ysa0.2 a3];have z:∀ b:Bool,bc b false false=false:=fun b=>by cases b <;> rfl
      simp only [orb,an,z,bc_false]
     have ea:dAt q n s x=x:=by unfold dAt;rw [ns,bc_false]
     rw [ea,i 16 _ (Ne.symm a1),i 32 _ (Ne.symm a2),i 64 _ (Ne.symm a3)]
theorem dGo_e {q n s:Int} {x:Int × Int} (h:160<=s):dGo q n s x=x:=by
 have f:∀ (p:Int) (y:Int × Int),p<s->dIf q n s p y=y:=fun p y hp=>by unfold dIf;rw [yja0.2 hp,bc_true]
 unfold dGo;rw [f 0 _ (by omega),f 16 _ (by omega),f 32 _ (by omega),f 64 _ (by omega)]
end S
namespace S
noncomputable def hasB (b p:Int):Bool:=eqI (Int.tmod (wrapK .i64 (Int.tdiv b p)) 2) 1
theorem ysv2:∀ (b:Fin 256) (k:Fin 8),hasB ((b.val:Nat):Int) (2 ^ k.val)=hb .u8 ((b.val:Nat):Int) (2 ^ k.val):=by decide +kernel
theorem ytv2:∀ (b:Fin 256) (k:Fin 8),gBit ((b.val:Nat):Int) ((k.val:Nat):Int)=hasB ((b.val:Nat):Int) (2 ^ k.val)/\gBit (rev8 ((b.val:Nat):Int)) ((k.val:Nat):Int)=hasB ((b.val:Nat):Int) (2 ^ (7-k.val)):=by decide +kernel
theorem yuv2:∀ b:Fin 256,eqI (andK .u8 ((b.val:Nat):Int) 6) 2=an (hb .u8 ((b.val:Nat):Int) 2) (notB (hb .u8 ((b.val:Nat):Int) 4)):=by decide +kernel
theorem yvv2:∀ (b:Fin 256) (k:Fin 8),rev8 ((b.val:Nat):Int) / 2 ^ k.val % 2=((b.val:Nat):Int) / 2 ^ (7-k.val) % 2:=by decide +kernel
theorem rv_of {b:Int} (k:Fin 8) (h:inR b 256=true):rev8 b / 2 ^ k.val % 2=b / 2 ^ (7-k.val) % 2:=by
 have h1:=yea0.1 h;have e:=yvv2 ⟨b.toNat,by omega⟩ k
 rwa [show (((⟨b.toNat,by omega⟩ : Fin 256).val:Nat):Int)=b from Int.toNat_of_nonneg h1.1] at e
theorem hb_of {b:Int} (k:Fin 8) (h:inR b 256=true):hasB b (2 ^ k.val)=hb .u8 b (2 ^ k.val):=by
 have h1:=yea0.1 h;have e:=ysv2 ⟨b.toNat,by omega⟩ k
 rwa [show (((⟨b.toNat,by omega⟩ : Fin 256).val:Nat):Int)=b from Int.toNat_of_nonneg h1.1] at e
theorem gb_of {b n:Int} (h:inR b 256=true) (h0:0<=n) (h8:n<8):gBit b n=hasB b (2 ^ n.toNat)/\gBit (rev8 b) n=hasB b (2 ^ (7-n).toNat):=by
 have h1:=yea0.1 h;have e:=ytv2 ⟨b.toNat,by omega⟩ ⟨n.toNat,by omega⟩;rw [show (((⟨b.toNat,by omega⟩ : Fin 256).val:Nat):Int)=b from Int.toNat_of_nonneg h1.1,show (((⟨n.toNat,by omega⟩ : Fin 8).val:Nat):Int)=n from Int.toNat_of_nonneg h0] at e;rw [show (7-n).toNat=7-n.toNat by omega];exact e
theorem c6_of {b:Int} (h:inR b 256=true):eqI (andK .u8 b 6) 2=an (hb .u8 b 2) (notB (hb .u8 b 4)):=by
 have h1:=yea0.1 h;have e:=yuv2 ⟨b.toNat,by omega⟩
 rwa [show (((⟨b.toNat,by omega⟩ : Fin 256).val:Nat):Int)=b from Int.toNat_of_nonneg h1.1] at e
theorem p2 (n:Int):eqI ((2:Int) ^ n.toNat) 0=false:=ysa0.2 (fun h=>by have:(0:Int)<2 ^ n.toNat:=Int.pow_pos (by decide);omega)
theorem u32_1 {x:Int} (h0:0<=x) (h1:x<4294967296):andK .u32 x 1=x % 2:=by
 obtain ⟨n,rfl⟩:=Int.eq_ofNat_of_zero_le h0;rw [K.yny0]
 have e1:BitVec.ofInt IntKind.u32.bits (n:Int)=BitVec.ofNat 32 n:=by
  apply BitVec.eq_of_toNat_eq;simp [IntKind.bits]
 have e2:BitVec.ofInt IntKind.u32.bits 1=BitVec.ofNat 32 1:=rfl;rw [e1,e2,<- K.yqd0,yke1]
 have e3:(BitVec.ofNat 32 n &&& BitVec.ofNat 32 1).toNat=n % 2:=by
  rw [BitVec.toNat_and,BitVec.toNat_ofNat,BitVec.toNat_ofNat,Nat.mod_eq_of_lt (by omega:n<2 ^ 32)];exact Nat.and_one_is_mod n
 have e4:((BitVec.ofNat 32 n &&& BitVec.ofNat 32 1).toNat:Int)=(n:Int) % 2:=by rw [e3];omega
 refine (congrArg (· % 4294967296) e4).trans ?_;show (n:Int) % 2 % 4294967296=(n:Int) % 2;omega
theorem or32 {a b:Int} {k:Nat} (ha:0<=a) (hk:a<2 ^ k) (hb:0<=b) (hl:a+b*2 ^ k<4294967296):orK .u32 a (b*2 ^ k)=a+b*2 ^ k:=by
 obtain ⟨x,rfl⟩:=Int.eq_ofNat_of_zero_le ha;obtain ⟨y,rfl⟩:=Int.eq_ofNat_of_zero_le hb;have e:((y:Int)*2 ^ k)=((y*2 ^ k:Nat):Int):=by push_cast;rfl
 have hx:x<2 ^ k:=by
  have:((x:Int))<((2 ^ k:Nat):Int):=by push_cast;exact hk
  exact Int.ofNat_lt.1 this
 have hl2:x+y*2 ^ k<4294967296:=by
  have:((x+y*2 ^ k:Nat):Int)<4294967296:=by push_cast;exact hl
  omega
 rw [e];show bc (Nat.blt x (limK .u32)) (bc (Nat.blt (y*2 ^ k) (limK .u32)) (Int.ofNat (Nat.lor x (y*2 ^ k))) _) _=_;have l1:Nat.blt x (limK .u32)=true:=by rw [Nat.blt_eq];show x<4294967296;omega
 have l2:Nat.blt (y*2 ^ k) (limK .u32)=true:=by rw [Nat.blt_eq];show y*2 ^ k<4294967296;omega
 rw [l1,l2,bc_true,bc_true];show ((x ||| y*2 ^ k:Nat):Int)=_;rw [Nat.or_comm,Nat.mul_comm y,<- Nat.two_pow_add_eq_or_of_lt hx];push_cast;rw [Int.add_comm]
theorem ywv2 {a b d:Int} (ha:inR a 256=true) (hb:inR b 256=true) (hd:inR d 256=true):rowI a b d=a / 16+rev8 b*16+d*4096:=by
 have a1:=yea0.1 ha;have d1:=yea0.1 hd;have r1:=yck2 (b:=b);have e1:orK .u32 (a / 16) (rev8 b*16)=a / 16+rev8 b*16:=or32 (k:=4) (by omega) (by omega) r1.1 (by omega);unfold rowI;rw [e1];exact or32 (k:=12) (by omega) (by omega) d1.1 (by omega)
theorem has_eq {v p:Int} (h:inR v 256=true) (hp:1<=p):hasB v p=eqI (v / p % 2) 1:=by
 have h1:=yea0.1 h;have q0:0<=v / p:=Int.ediv_nonneg h1.1 (by omega);have q1:v / p<=v:=Int.ediv_le_self _ h1.1;unfold hasB;rw [Int.tdiv_eq_ediv_of_nonneg h1.1,show wrapK .i64 (v / p)=v / p by rw [yia0];omega,Int.tmod_eq_emod_of_nonneg q0]
theorem eq1 (x:Int):notB (eqI (x % 2) 0)=eqI (x % 2) 1:=by
 rcases (by omega:x % 2=0\/x % 2=1) with h | h <;> rw [h] <;> rfl
theorem yus2 {a b d n:Int} (ha:inR a 256=true) (hb:inR b 256=true) (hd:inR d 256=true) (h0:0<=n) (h1:n<20):notB (eqI (andK .u32 ((rowI a b d).fdiv (2 ^ min n.toNat 32)) 1) 0)=bc (ltI n 4) (hasB a (2 ^ (n+4).toNat)) (bc (ltI n 12) (hasB b (2 ^ (11-n).toNat)) (hasB d (2 ^ (n-12).toNat))):=by
 have a1:=yea0.1 ha;have b1:=yea0.1 hb;have d1:=yea0.1 hd;have r1:=yck2 (b:=b);have pp:∀ m:Nat,(1:Int)<=2 ^ m:=fun m=>Int.pow_pos (by decide)
 rw [ywv2 ha hb hd,has_eq ha (pp _),has_eq hb (pp _),has_eq hd (pp _),fd (by omega)];have s0:0<=a / 16+rev8 b*16+d*4096:=by omega
 have s1:a / 16+rev8 b*16+d*4096<1048576:=by omega
 rw [u32_1 (Int.ediv_nonneg s0 (by have:=pp (min n.toNat 32);omega)) (by have:=Int.ediv_le_self (2 ^ min n.toNat 32) s0;omega),eq1];rcases (by omega:n=0\/n=1\/n=2\/n=3\/n=4\/n=5\/n=6\/n=7\/n=8\/n=9\/n=10\/n=11\/n=12\/n=13\/n=14\/n=15\/n=16\/n=17\/n=18\/n=19) with rfl | rfl | rfl | rfl | rfl | rfl | rfl | rfl | rfl | rfl | rfl | rfl | rfl | rfl | rfl | rfl | rfl | rfl | rfl | rfl
 .show eqI ((a / 16+rev8 b*16+d*4096) / 1 % 2) 1=eqI (a / 16 % 2) 1;refine congrArg (fun z=>eqI z 1) ?_;generalize rev8 b=R at *;omega
 .show eqI ((a / 16+rev8 b*16+d*4096) / 2 % 2) 1=eqI (a / 32 % 2) 1;refine congrArg (fun z=>eqI z 1) ?_;generalize rev8 b=R at *;omega
 .show eqI ((a / 16+rev8 b*16+d*4096) / 4 % 2) 1=eqI (a / 64 % 2) 1;refine congrArg (fun z=>eqI z 1) ?_;generalize rev8 b=R at *;omega
 .show eqI ((a / 16+rev8 b*16+d*4096) / 8 % 2) 1=eqI (a / 128 % 2) 1;refine congrArg (fun z=>eqI z 1) ?_;generalize rev8 b=R at *;omega
 .show eqI ((a / 16+rev8 b*16+d*4096) / 16 % 2) 1=eqI (b / 128 % 2) 1;refine congrArg (fun z=>eqI z 1) ?_;have rv:rev8 b / 1 % 2=b / 128 % 2:=rv_of 0 hb;rw [<- rv];generalize rev8 b=R at *;omega
 .show eqI ((a / 16+rev8 b*16+d*4096) / 32 % 2) 1=eqI (b / 64 % 2) 1;refine congrArg (fun z=>eqI z 1) ?_;have rv:rev8 b / 2 % 2=b / 64 % 2:=rv_of 1 hb;rw [<- rv];generalize rev8 b=R at *;omega
 .show eqI ((a / 16+rev8 b*16+d*4096) / 64 % 2) 1=eqI (b / 32 % 2) 1;refine congrArg (fun z=>eqI z 1) ?_;have rv:rev8 b / 4 % 2=b / 32 % 2:=rv_of 2 hb;rw [<- rv];generalize rev8 b=R at *;omega
 .show eqI ((a / 16+rev8 b*16+d*4096) / 128 % 2) 1=eqI (b / 16 % 2) 1;refine congrArg (fun z=>eqI z 1) ?_;have rv:rev8 b / 8 % 2=b / 16 % 2:=rv_of 3 hb;rw [<- rv];generalize rev8 b=R at *;omega
 .show eqI ((a / 16+rev8 b*16+d*4096) / 256 % 2) 1=eqI (b / 8 % 2) 1;refine congrArg (fun z=>eqI z 1) ?_;have rv:rev8 b / 16 % 2=b / 8 % 2:=rv_of 4 hb;rw [<- rv];generalize rev8 b=R at *;omega
 .show eqI ((a / 16+rev8 b*16+d*4096) / 512 % 2) 1=eqI (b / 4 % 2) 1;refine congrArg (fun z=>eqI z 1) ?_;have rv:rev8 b / 32 % 2=b / 4 % 2:=rv_of 5 hb;rw [<- rv];generalize rev8 b=R at *;omega
 .show eqI ((a / 16+rev8 b*16+d*4096) / 1024 % 2) 1=eqI (b / 2 % 2) 1;refine congrArg (fun z=>eqI z 1) ?_;have rv:rev8 b / 64 % 2=b / 2 % 2:=rv_of 6 hb;rw [<- rv];generalize rev8 b=R at *;omega
 .show eqI ((a / 16+rev8 b*16+d*4096) / 2048 % 2) 1=eqI (b / 1 % 2) 1;refine congrArg (fun z=>eqI z 1) ?_;have rv:rev8 b / 128 % 2=b / 1 % 2:=rv_of 7 hb;rw [<- rv];generalize rev8 b=R at *;omega
 .show eqI ((a / 16+rev8 b*16+d*4096) / 4096 % 2) 1=eqI (d / 1 % 2) 1;refine congrArg (fun z=>eqI z 1) ?_;generalize rev8 b=R at *;omega
 .show eqI ((a / 16+rev8 b*16+d*4096) / 8192 % 2) 1=eqI (d / 2 % 2) 1;refine congrArg (fun z=>eqI z 1) ?_;generalize rev8 b=R at *;omega
 .show eqI ((a / 16+rev8 b*16+d*4096) / 16384 % 2) 1=eqI (d / 4 % 2) 1;refine congrArg (fun z=>eqI z 1) ?_;generalize rev8 b=R at *;omega
 .show eqI ((a / 16+rev8 b*16+d*4096) / 32768 % 2) 1=eqI (d / 8 % 2) 1;refine congrArg (fun z=>eqI z 1) ?_;generalize rev8 b=R at *;omega
 .show eqI ((a / 16+rev8 b*16+d*4096) / 65536 % 2) 1=eqI (d / 16 % 2) 1;refine congrArg (fun z=>eqI z 1) ?_;generalize rev8 b=R at *;omega
 .show eqI ((a / 16+rev8 b*16+d*4096) / 131072 % 2) 1=eqI (d / 32 % 2) 1;refine congrArg (fun z=>eqI z 1) ?_;generalize rev8 b=R at *;omega
 .show eqI ((a / 16+rev8 b*16+d*4096) / 262144 % 2) 1=eqI (d / 64 % 2) 1;refine congrArg (fun z=>eqI z 1) ?_;generalize rev8 b=R at *;omega
 .show eqI ((a / 16+rev8 b*16+d*4096) / 524288 % 2) 1=eqI (d / 128 % 2) 1;refine congrArg (fun z=>eqI z 1) ?_;generalize rev8 b=R at *;omega
end S
theorem yza2:K.conjN 15 (fun j=>K.bodyF (envL []) (K.runF (envL []) 30) 132 [.int .i64 (Int.ofNat j)] (Heap.of []) .auto (K.endC K.shutE 0 ⟨.ret (.int .i64 (2 ^ (Int.ofNat j).toNat)),[],[]⟩))=K.trueN 15:=by kernel_rfl
theorem yyl2 (n:Int) (h0:S.inR n 15=true):HT Tryz.prog 132 [.int .i64 n] (Heap.of []) (.ret (.int .i64 (2 ^ n.toNat))) (Heap.of []):=by
 have h1:=S.yea0.1 h0;have h:=K.yip0 yza2 n.toNat (by omega);simp only [show Int.ofNat n.toNat=n from Int.toNat_of_nonneg h1.1] at h;refine K.yba0 good (yha0 ?_) K.ygi0 h;intro p hp;cases hp
theorem yrd2:rPowE.ok Tryz.prog 132:=by
 intro xs os b r h h3;unfold rPowE at h;simp only at h;split at h
 .injection h with h;injection h with h1 h2;subst h1;subst h2;exact yyl2 _ h3
 .cases h
theorem yot1 (b:Int) (mirror:Bool) (w0 d:Int):K.bodyF (envL [(132,rPowE)]) (K.runF (envL [(132,rPowE)]) 30) 52 [.int .i64 b,.bool mirror,.int .i64 w0,.int .i64 d] (Heap.of []) (.skip 0 (.fork .auto (.skip 2 (.fork .auto (.skip 2 (.fork .auto (.skip 2 (.fork .auto (.skip 0 (.take false .auto)))))))))) (K.endC K.openE 0 ⟨.ret (.bool (S.graph b mirror w0 d)),[],[]⟩) =
  (bc (ltI w0 1) (S.graph b mirror w0 d=false/\True) (bc (ltI d 0) (S.graph b mirror w0 d=false/\True) (bc (eqI w0 0) False (bc (ltI 7 (wrapK .i64 (Int.tdiv d w0))) (S.graph b mirror w0 d=false/\True) (eqI w0 (0:Int)=false/\bc (mirror) (bc (S.inR (wrapK .i64 (Int.tdiv d w0)) 15) (bc (eqI (2 ^ Int.toNat (wrapK .i64 (Int.tdiv d w0))) 0) False (S.graph b mirror w0 d=eqI (Int.tmod (wrapK .i64 (Int.tdiv b (2 ^ Int.toNat (wrapK .i64 (Int.tdiv d w0))))) 2) 1/\True)) False) (bc (S.inR (wrapK .i64 (7-wrapK .i64 (Int.tdiv d w0))) 15) (bc (eqI (2 ^ Int.toNat (wrapK .i64 (7-wrapK .i64 (Int.tdiv d w0)))) 0) False (S.graph b mirror w0 d=eqI (Int.tmod (wrapK .i64 (Int.tdiv b (2 ^ Int.toNat (wrapK .i64 (7-wrapK .i64 (Int.tdiv d w0)))))) 2) 1/\True)) False)))))):=by kernel_rfl
theorem ypt1 (b:Int) (mirror:Bool) (w0 d:Int) (h0:S.an (S.inR b 256) (S.an (S.inR w0 5) (ltI d 1000))=true)  : HTr Tryz.prog 52 [.int .i64 b,.bool mirror,.int .i64 w0,.int .i64 d] [] ⟨.ret (.bool (S.graph b mirror w0 d)),[],[]⟩:=by
 refine K.yba0 good (A:=envL [(132,rPowE)]) (yha0 ?_) K.yda0 (k:=30) (cast (yot1 b mirror w0 d).symm ?_)
 .intro p hp;simp only [List.mem_cons,List.not_mem_nil,or_false] at hp;rcases hp with rfl;exact yrd2
 .obtain ⟨hb,h1⟩:=S.yma0.1 h0;obtain ⟨hw,hd⟩:=S.yma0.1 h1;have w:=S.yea0.1 hw;have d2:=yja0.1 hd;have hh:∀ x p:Int,eqI (Int.tmod (wrapK .i64 (Int.tdiv x p)) 2) 1=S.hasB x p:=fun _ _=>rfl
  by_cases h1:w0<1
  .have:=yja0.2 h1;simp only [S.graph,this,bc_true,and_self]
  by_cases h2:d<0
  .simp only [S.graph,yfa0.2 (Int.not_lt.1 h1),yja0.2 h2,bc_true,bc_false,and_self]
  have e1:=yfa0.2 (Int.not_lt.1 h1);have e2:=yfa0.2 (Int.not_lt.1 h2);have e3:eqI w0 0=false:=ysa0.2 (by omega);have q0:0<=d / w0:=Int.ediv_nonneg (by omega) (by omega);have q1:d / w0<=d:=Int.ediv_le_self _ (by omega);have q:wrapK .i64 (d.tdiv w0)=d / w0:=by rw [Int.tdiv_eq_ediv_of_nonneg (by omega),yia0];omega
  by_cases h7:7<d / w0
  .have e7:=yja0.2 h7;have e8:ltI (d / w0) 8=false:=yfa0.2 (by omega);simp only [e1,e2,e3,q,e7,e8,S.graph,S.an,bc_true,bc_false,and_self]
  have e7:=yfa0.2 (Int.not_lt.1 h7);have e8:ltI (d / w0) 8=true:=yja0.2 (by omega);obtain ⟨g1,g2⟩:=S.gb_of hb q0 (by omega);have w7:wrapK .i64 (7-d / w0)=7-d / w0:=by rw [yia0];omega
  have i1:S.inR (d / w0) 15=true:=S.yea0.2 (by omega);have i2:S.inR (7-d / w0) 15=true:=S.yea0.2 (by omega);simp only [e1,e2,e3,q,e7,e8,w7,i1,i2,S.p2,hh,S.graph,S.an,bc_true,bc_false];cases mirror
  .simp only [bc_false,g2,and_self]
  .simp only [bc_true,g1,and_self]
theorem ysw0:yhz0.ok Tryz.prog 52:=by
 intro xs os b r h h3;unfold yhz0 at h;simp only at h;split at h
 .injection h with h;injection h with h1 h2;subst h1;subst h2;exact ypt1 _ _ _ _ h3
 .cases h
theorem yzl2 (a b d ytw2 x:Int):K.bodyF (envL [(132,rPowE)]) (K.runF (envL [(132,rPowE)]) 30) 55 [.agg [.int .u8 a,.int .u8 b,.int .u8 d],.int .i64 ytw2,.int .i64 x] (Heap.of []) Hint.auto (K.endC K.openE 0 ⟨.ret (.bool (S.lit a b d ytw2 x)),[],[]⟩) =
  (bc (ltI x 0) (S.lit a b d ytw2 x=false/\True) (bc (ltI 159 x) (S.lit a b d ytw2 x=false/\True) (bc (notB (ltI (wrapK .i64 (Int.tdiv x 4)) 20)) (bc (eqI (Int.tmod ytw2 2) 1) (bc (ltI (wrapK .i64 (19-wrapK .i64 (wrapK .i64 (Int.tdiv x 4)-20))) 4) (bc (S.inR (wrapK .i64 (wrapK .i64 (19-wrapK .i64 (wrapK .i64 (Int.tdiv x 4)-20))+4)) 15) (bc (eqI (2 ^ Int.toNat (wrapK .i64 (wrapK .i64 (19-wrapK .i64 (wrapK .i64 (Int.tdiv x 4)-20))+4))) 0) False (S.lit a b d ytw2 x=eqI (Int.tmod (wrapK .i64 (Int.tdiv (wrapK .i64 a) (2 ^ Int.toNat (wrapK .i64 (wrapK .i64 (19-wrapK .i64 (wrapK .i64 (Int.tdiv x 4)-20))+4))))) 2) 1/\True)) False) (bc (ltI (wrapK .i64 (19-wrapK .i64 (wrapK .i64 (Int.tdiv x 4)-20))) 12) (bc (S.inR (wrapK .i64 (11-wrapK .i64 (19-wrapK .i64 (wrapK .i64 (Int.tdiv x 4)-20)))) 15) (bc (eqI (2 ^ Int.toNat (wrapK .i64 (11-wrapK .i64 (19-wrapK .i64 (wrapK .i64 (Int.tdiv x 4)-20))))) 0) False (S.lit a b d ytw2 x=eqI (Int.tmod (wrapK .i64 (Int.tdiv (wrapK .i64 b) (2 ^ Int.toNat (wrapK .i64 (11-wrapK .i64 (19-wrapK .i64 (wrapK .i64 (Int.tdiv x 4)-20))))))) 2) 1/\True)) False) (bc (S.inR (wrapK .i64 (wrapK .i64 (19-wrapK .i64 (wrapK .i64 (Int.tdiv x 4)-20))-12)) 15) (bc (eqI (2 ^ Int.toNat (wrapK .i64 (wrapK .i64 (19-wrapK .i64 (wrapK .i64 (Int.tdiv x 4)-20))-12))) 0) False (S.lit a b d ytw2 x=eqI (Int.tmod (wrapK .i64 (Int.tdiv (wrapK .i64 d) (2 ^ Int.toNat (wrapK .i64 (wrapK .i64 (19-wrapK .i64 (wrapK .i64 (Int.tdiv x 4)-20))-12))))) 2) 1/\True)) False))) (bc (ltI (wrapK .i64 (wrapK .i64 (Int.tdiv x 4)-20)) 4) (bc (S.inR (wrapK .i64 (wrapK .i64 (wrapK .i64 (Int.tdiv x 4)-20)+4)) 15) (bc (eqI (2 ^ Int.toNat (wrapK .i64 (wrapK .i64 (wrapK .i64 (Int.tdiv x 4)-20)+4))) 0) False (S.lit a b d ytw2 x=eqI (Int.tmod (wrapK .i64 (Int.tdiv (wrapK .i64 a) (2 ^ Int.toNat (wrapK .i64 (wrapK .i64 (wrapK .i64 (Int.tdiv x 4)-20)+4))))) 2) 1/\True)) False) (bc (ltI (wrapK .i64 (wrapK .i64 (Int.tdiv x 4)-20)) 12) (bc (S.inR (wrapK .i64 (11-wrapK .i64 (wrapK .i64 (Int.tdiv x 4)-20))) 15) (bc (eqI (2 ^ Int.toNat (wrapK .i64 (11-wrapK .i64 (wrapK .i64 (Int.tdiv x 4)-20)))) 0) False (S.lit a b d ytw2 x=eqI (Int.tmod (wrapK .i64 (Int.tdiv (wrapK .i64 b) (2 ^ Int.toNat (wrapK .i64 (11-wrapK .i64 (wrapK .i64 (Int.tdiv x 4)-20)))))) 2) 1/\True)) False) (bc (S.inR (wrapK .i64 (wrapK .i64 (wrapK .i64 (Int.tdiv x 4)-20)-12)) 15) (bc (eqI (2 ^ Int.toNat (wrapK .i64 (wrapK .i64 (wrapK .i64 (Int.tdiv x 4)-20)-12))) 0) False (S.lit a b d ytw2 x=eqI (Int.tmod (wrapK .i64 (Int.tdiv (wrapK .i64 d) (2 ^ Int.toNat (wrapK .i64 (wrapK .i64 (wrapK .i64 (Int.tdiv x 4)-20)-12))))) 2) 1/\True)) False)))) (bc (ltI (wrapK .i64 (Int.tdiv x 4)) 4) (bc (S.inR (wrapK .i64 (wrapK .i64 (Int.tdiv x 4)+4)) 15) (bc (eqI (2 ^ Int.toNat (wrapK .i64 (wrapK .i64 (Int.tdiv x 4)+4))) 0) False (S.lit a b d ytw2 x=eqI (Int.tmod (wrapK .i64 (Int.tdiv (wrapK .i64 a) (2 ^ Int.toNat (wrapK .i64 (wrapK .i64 (Int.tdiv x 4)+4))))) 2) 1/\True)) False) (bc (ltI (wrapK .i64 (Int.tdiv x 4)) 12) (bc (S.inR (wrapK .i64 (11-wrapK .i64 (Int.tdiv x 4))) 15) (bc (eqI (2 ^ Int.toNat (wrapK .i64 (11-wrapK .i64 (Int.tdiv x 4)))) 0) False (S.lit a b d ytw2 x=eqI (Int.tmod (wrapK .i64 (Int.tdiv (wrapK .i64 b) (2 ^ Int.toNat (wrapK .i64 (11-wrapK .i64 (Int.tdiv x 4)))))) 2) 1/\True)) False) (bc (S.inR (wrapK .i64 (wrapK .i64 (Int.tdiv x 4)-12)) 15) (bc (eqI (2 ^ Int.toNat (wrapK .i64 (wrapK .i64 (Int.tdiv x 4)-12))) 0) False (S.lit a b d ytw2 x=eqI (Int.tmod (wrapK .i64 (Int.tdiv (wrapK .i64 d) (2 ^ Int.toNat (wrapK .i64 (wrapK .i64 (Int.tdiv x 4)-12))))) 2) 1/\True)) False)))))):=by kernel_rfl
theorem yam2 (a b d ytw2 x:Int) (h0:S.an (S.inR a 256) (S.an (S.inR b 256) (S.an (S.inR d 256) (S.an (S.inR ytw2 256) (S.inR x 160))))=true)  : HTr Tryz.prog 55 [.agg [.int .u8 a,.int .u8 b,.int .u8 d],.int .i64 ytw2,.int .i64 x] [] ⟨.ret (.bool (S.lit a b d ytw2 x)),[],[]⟩:=by
 refine K.yba0 good (A:=envL [(132,rPowE)]) (yha0 ?_) K.yda0 (k:=30) (cast (yzl2 a b d ytw2 x).symm ?_)
 .intro p hp;simp only [List.mem_cons,List.not_mem_nil,or_false] at hp;rcases hp with rfl;exact yrd2
 .simp only [S.yma0] at h0;obtain ⟨ha,hb,hd,hc,hx⟩:=h0;have a1:=S.yea0.1 ha;have b1:=S.yea0.1 hb;have d1:=S.yea0.1 hd;have x1:=S.yea0.1 hx;have c1:=S.yea0.1 hc;have hh:∀ x p:Int,eqI (Int.tmod (wrapK .i64 (Int.tdiv x p)) 2) 1=S.hasB x p:=fun _ _=>rfl
  have i:∀ y:Int,-1000<=y->y<=1000->wrapK .i64 y=y:=fun y p q=>by rw [yia0];omega
  have e1:ltI x 0=false:=yfa0.2 x1.1;have e2:ltI 159 x=false:=yfa0.2 (by omega);have q:Int.tdiv x 4=x / 4:=Int.tdiv_eq_ediv_of_nonneg x1.1
  have hm:eqI (Int.tmod ytw2 2) 1=S.hb .u8 ytw2 1:=by
   have e:S.hasB ytw2 1=S.hb .u8 ytw2 1:=S.hb_of 0 hc;rw [<- e,S.has_eq hc (by decide),Int.tmod_eq_emod_of_nonneg c1.1,Int.ediv_one]
  have ex:eqI (S.litN ytw2 x) (S.litN ytw2 x)=true:=S.ykm0 _
  have L:∀ n,S.litN ytw2 x=n->0<=n->n<20->S.lit a b d ytw2 x=bc (ltI n 4) (S.hasB a (2 ^ (n+4).toNat)) (bc (ltI n 12) (S.hasB b (2 ^ (11-n).toNat)) (S.hasB d (2 ^ (n-12).toNat))):=fun n en n0 n1=>by
   unfold S.lit;rw [hx,bc_true,en];exact S.yus2 ha hb hd n0 n1
  have fin:∀ n,S.litN ytw2 x=n->0<=n->n<20->bc (ltI n 4) (bc (S.inR (n+4) 15) (S.lit a b d ytw2 x=S.hasB a (2 ^ (n+4).toNat)/\True) False) (bc (ltI n 12) (bc (S.inR (11-n) 15) (S.lit a b d ytw2 x=S.hasB b (2 ^ (11-n).toNat)/\True) False) (bc (S.inR (n-12) 15) (S.lit a b d ytw2 x=S.hasB d (2 ^ (n-12).toNat)/\True) False)):=fun n en n0 n1=>by
   have l:=L n en n0 n1;cases h4:ltI n 4 with
   | true =>
    have:=yja0.1 h4;rw [h4,bc_true] at l;rw [bc_true,S.yea0.2 (show 0<=n+4/\n+4<15 by omega),bc_true];exact ⟨l,trivial⟩
   | false =>
    have:=yfa0.1 h4;rw [h4,bc_false] at l;rw [bc_false];cases h12:ltI n 12 with
    | true =>
     have:=yja0.1 h12;rw [h12,bc_true] at l;rw [bc_true,S.yea0.2 (show 0<=11-n/\11-n<15 by omega),bc_true];exact ⟨l,trivial⟩
    | false =>
     have:=yfa0.1 h12;rw [h12,bc_false] at l;rw [bc_false,S.yea0.2 (show 0<=n-12/\n-12<15 by omega),bc_true];exact ⟨l,trivial⟩
  rw [e1,e2,bc_false,bc_false];simp only [q,hm,hh,S.p2,bc_false];by_cases h20:x / 4<20
  .simp only [i (x / 4) (by omega) (by omega),yja0.2 h20,ydb0,bc_false,i (x / 4+4) (by omega) (by omega),i (11-x / 4) (by omega) (by omega),i (x / 4-12) (by omega) (by omega),i a (by omega) (by omega),i b (by omega) (by omega),i d (by omega) (by omega)];refine fin (x / 4) ?_ (by omega) h20;unfold S.litN;rw [yja0.2 (show x<80 by omega),ydb0,S.an,bc_false,bc_false];omega
  .have h80:ltI x 80=false:=yfa0.2 (by omega);have r1:x % 80 / 4=x / 4-20:=by omega
   have en:S.litN ytw2 x=bc (S.hb .u8 ytw2 1) (19-(x / 4-20)) (x / 4-20):=by
    unfold S.litN;rw [h80,ycb0,r1];rfl
   simp only [i (x / 4) (by omega) (by omega),yfa0.2 (Int.not_lt.1 h20),ycb0,bc_true,i (x / 4-20) (by omega) (by omega),i (19-(x / 4-20)) (by omega) (by omega),i (19-(x / 4-20)+4) (by omega) (by omega),i (11-(19-(x / 4-20))) (by omega) (by omega),i (19-(x / 4-20)-12) (by omega) (by omega),i (x / 4-20+4) (by omega) (by omega),i (11-(x / 4-20)) (by omega) (by omega),i (x / 4-20-12) (by omega) (by omega),i a (by omega) (by omega),i b (by omega) (by omega),i d (by omega) (by omega)];cases hc1:S.hb .u8 ytw2 1 with
   | true =>
    rw [hc1,bc_true] at en;rw [bc_true];exact fin _ en (by omega) (by omega)
   | false =>
    rw [hc1,bc_false] at en;rw [bc_false];exact fin _ en (by omega) (by omega)
theorem yvs2:rLitE.ok Tryz.prog 55:=by
 intro xs os b r h h3;unfold rLitE at h;simp only at h;split at h
 .injection h with h;injection h with h1 h2;subst h1;subst h2;exact yam2 _ _ _ _ _ h3
 .cases h
theorem yab2 (p0 p1 m0 m1 bl pf:Bool) (ytw2 x:Int):K.bodyF (envL []) (K.runF (envL []) 30) 56 [.agg [.bool p0,.bool p1,.bool m0,.bool m1,.bool bl,.bool pf],.int .i64 ytw2,.int .i64 x] (Heap.of []) (.skip 2 (.fork (.skip 5 (.fork .auto (.skip 7 (.fork .auto (.skip 3 (.fork .auto (.skip 5 (.fork .auto (.skip 3 (.fork .auto (.skip 5 (.fork .auto (.skip 3 (.take false (.skip 3 (.take false .auto)))))))))))))))) .auto)) (K.endC K.openE 0 ⟨.ret (.int .i64 (S.seen p0 p1 m0 m1 bl pf ytw2 x)),[],[]⟩) =
  (bc (eqI (Int.tmod (wrapK .i64 (Int.tdiv ytw2 4)) 2) 1) (bc (bl) (S.seen p0 p1 m0 m1 bl pf ytw2 x=(2:Int)/\True) (bc (pf) (S.seen p0 p1 m0 m1 bl pf ytw2 x=(2:Int)/\True) (bc (p0) (S.seen p0 p1 m0 m1 bl pf ytw2 x=(0:Int)/\True) (bc (m0) (S.seen p0 p1 m0 m1 bl pf ytw2 x=(0:Int)/\True) (bc (p1) (S.seen p0 p1 m0 m1 bl pf ytw2 x=(1:Int)/\True) (bc (m1) (S.seen p0 p1 m0 m1 bl pf ytw2 x=(1:Int)/\True) (bl=false/\(pf=false/\(S.seen p0 p1 m0 m1 bl pf ytw2 x=(3:Int)/\True))))))))) (bc (p0) (S.seen p0 p1 m0 m1 bl pf ytw2 x=(0:Int)/\True) (bc (m0) (S.seen p0 p1 m0 m1 bl pf ytw2 x=(0:Int)/\True) (bc (p1) (S.seen p0 p1 m0 m1 bl pf ytw2 x=(1:Int)/\True) (bc (m1) (S.seen p0 p1 m0 m1 bl pf ytw2 x=(1:Int)/\True) (bc (bl) (S.seen p0 p1 m0 m1 bl pf ytw2 x=(2:Int)/\True) (bc (pf) (bc (eqI (Int.tmod (wrapK .i64 (Int.tdiv ytw2 2)) 2) 1) (bc (notB (eqI (Int.tmod (wrapK .i64 (Int.tdiv ytw2 4)) 2) 1)) (bc (ltI x 80) (S.seen p0 p1 m0 m1 bl pf ytw2 x=(0:Int)/\True) (S.seen p0 p1 m0 m1 bl pf ytw2 x=(1:Int)/\True)) (S.seen p0 p1 m0 m1 bl pf ytw2 x=(2:Int)/\True)) (S.seen p0 p1 m0 m1 bl pf ytw2 x=(2:Int)/\True)) (S.seen p0 p1 m0 m1 bl pf ytw2 x=(3:Int)/\True)))))))):=by kernel_rfl
theorem ybb2 (p0 p1 m0 m1 bl pf:Bool) (ytw2 x:Int) (h0:S.inR ytw2 256=true)  : HTr Tryz.prog 56 [.agg [.bool p0,.bool p1,.bool m0,.bool m1,.bool bl,.bool pf],.int .i64 ytw2,.int .i64 x] [] ⟨.ret (.int .i64 (S.seen p0 p1 m0 m1 bl pf ytw2 x)),[],[]⟩:=by
 refine K.yba0 good (A:=envL []) (yha0 ?_) K.yda0 (k:=30) (cast (yab2 p0 p1 m0 m1 bl pf ytw2 x).symm ?_)
 .intro p hp;cases hp
 .have h4:eqI (Int.tmod (wrapK .i64 (Int.tdiv ytw2 4)) 2) 1=S.hb .u8 ytw2 4:=S.hb_of 2 h0;have h2:eqI (Int.tmod (wrapK .i64 (Int.tdiv ytw2 2)) 2) 1=S.hb .u8 ytw2 2:=S.hb_of 1 h0;rw [h4,h2];unfold S.seen;rw [S.c6_of h0];cases S.hb .u8 ytw2 4 <;> cases p0 <;> cases m0 <;> cases p1 <;> cases m1 <;> cases bl <;> cases pf <;> simp only [S.orb,S.an,ydb0,ycb0,bc_true,bc_false,and_self]
  all_goals cases S.hb .u8 ytw2 2 <;> cases ltI x 80 <;> simp only [bc_true,bc_false,and_self]
theorem ybm2:yei2.ok Tryz.prog 56:=by
 intro xs os b r h h3;unfold yei2 at h;simp only at h;split at h
 .injection h with h;injection h with h1 h2;subst h1;subst h2;exact ybb2 _ _ _ _ _ _ _ _ h3
 .cases h
theorem yqt1:K.conjN 64 (fun j=>K.bodyF (envL []) (K.runF (envL []) 30) 57 [.agg [.bool (S.tb j 0),.bool (S.tb j 1),.bool (S.tb j 2),.bool (S.tb j 3),.bool (S.tb j 4),.bool (S.tb j 5)]] (Heap.of []) .auto (K.endC K.shutE 0 ⟨.ret (.int .i64 (S.meet (S.tb j 0) (S.tb j 1) (S.tb j 2) (S.tb j 3) (S.tb j 4) (S.tb j 5))),[],[]⟩))=K.trueN 64:=by kernel_rfl
theorem ycb2 (p0 p1 m0 m1 bl pf:Bool):HT Tryz.prog 57 [.agg [.bool p0,.bool p1,.bool m0,.bool m1,.bool bl,.bool pf]] (Heap.of []) (.ret (.int .i64 (S.meet p0 p1 m0 m1 bl pf))) (Heap.of []):=by
 have key:∀ j,j<64->HT Tryz.prog 57 [.agg [.bool (S.tb j 0),.bool (S.tb j 1),.bool (S.tb j 2),.bool (S.tb j 3),.bool (S.tb j 4),.bool (S.tb j 5)]] (Heap.of []) (.ret (.int .i64 (S.meet (S.tb j 0) (S.tb j 1) (S.tb j 2) (S.tb j 3) (S.tb j 4) (S.tb j 5)))) (Heap.of []):=fun j hj=>by
  refine K.yba0 good (yha0 ?_) K.ygi0 (K.yip0 yqt1 j hj);intro p hp;cases hp
 have hb:∀ p0 p1 m0 m1 bl pf:Bool,∃ j,j<64/\S.tb j 0=p0/\S.tb j 1=p1/\S.tb j 2=m0/\S.tb j 3=m1/\S.tb j 4=bl/\S.tb j 5=pf:=fun p0 p1 m0 m1 bl pf=>⟨(bc p0 1 0:Nat)+bc p1 2 0+bc m0 4 0+bc m1 8 0+bc bl 16 0+bc pf 32 0,by cases p0 <;> cases p1 <;> cases m0 <;> cases m1 <;> cases bl <;> cases pf <;> exact ⟨by decide,rfl,rfl,rfl,rfl,rfl,rfl⟩⟩
 obtain ⟨j,hj,h0,h1,h2,h3,h4,h5⟩:=hb p0 p1 m0 m1 bl pf;have:=key j hj;rw [h0,h1,h2,h3,h4,h5] at this;exact this
theorem ycm2:yfi2.ok Tryz.prog 57:=by
 intro xs os b r h h3;unfold yfi2 at h;simp only at h;split at h
 .injection h with h;injection h with h1 h2;subst h1;subst h2;exact ycb2 _ _ _ _ _ _
 .cases h
namespace S
theorem ydk0 {n q ld s b c:Int} : okDl n q ld s b c=true↔(0<=n/\n<160)/\inR q 256=true/\inR ld 8=true/\(0<=s/\s<161)/\(0<=b/\b<1001)/\0<=c/\c<1001:=by
 unfold okDl;simp only [yma0,yea0]
theorem yrt1 {q n p:Int} {x:Int × Int} (h:(0<=x.1/\x.1<1001)/\0<=x.2/\x.2<1001):(0<=(dAt q n p x).1/\(dAt q n p x).1<1001)/\0<=(dAt q n p x).2/\(dAt q n p x).2<1001:=by
 have u:∀ (a:Int) (y:Int × Int),0<=a->a<1001->(0<=y.1/\y.1<1001)/\0<=y.2/\y.2<1001->(0<=(dUp a y).1/\(dUp a y).1<1001)/\0<=(dUp a y).2/\(dUp a y).2<1001:=fun a y h0 h1 hy=>by
  unfold dUp;cases ltI a y.1
  .cases ltI a y.2
   .exact hy
   .exact ⟨hy.1,h0,h1⟩
  .exact ⟨⟨h0,h1⟩,hy.1⟩
 unfold dAt;cases yya0 q p
 .exact h
 .exact u _ _ (by omega) (by omega) (u _ _ (by omega) (by omega) h)
theorem ysd2 {q n s:Int} {x:Int × Int} (h:(0<=x.1/\x.1<1001)/\0<=x.2/\x.2<1001):(0<=(dGo q n s x).1/\(dGo q n s x).1<1001)/\0<=(dGo q n s x).2/\(dGo q n s x).2<1001:=by
 have i:∀ (p:Int) (y:Int × Int),(0<=y.1/\y.1<1001)/\0<=y.2/\y.2<1001->(0<=(dIf q n s p y).1/\(dIf q n s p y).1<1001)/\0<=(dIf q n s p y).2/\(dIf q n s p y).2<1001:=fun p y hy=>by
  unfold dIf;cases ltI p s
  .exact yrt1 hy
  .exact hy
 exact i _ _ (i _ _ (i _ _ (i _ _ h)))
end S
theorem yxv2 (n q ld s b c:Int):K.RunL (envL [(133,yme1)]) K.openE 30 54 50 (inner (inner (blkOf 54 0))) dlEB [(9,.int .i64 s),(7,.int .i64 b),(8,.int .i64 c),(0,.int .i64 n),(1,.int .i64 q),(2,.int .i64 ld)] [] Hint.auto (dlRz n q ld s b c) =
  (bc (ltI s 160) (bc (notB (ltI q 0)) (bc (notB (S.yya0 (q % 8) s)) (dl_Q n q ld s b c b c) (bc (ltI (wrapK .i64 (Int.tmod (wrapK .i64 (wrapK .i64 (n-s)+160)) 160+wrapK .i64 (160*0))) b) (bc (ltI (wrapK .i64 (Int.tmod (wrapK .i64 (wrapK .i64 (n-s)+160)) 160+wrapK .i64 (160*1))) (wrapK .i64 (Int.tmod (wrapK .i64 (wrapK .i64 (n-s)+160)) 160+wrapK .i64 (160*0)))) (dl_Q n q ld s b c (wrapK .i64 (Int.tmod (wrapK .i64 (wrapK .i64 (n-s)+160)) 160+wrapK .i64 (160*1))) (wrapK .i64 (Int.tmod (wrapK .i64 (wrapK .i64 (n-s)+160)) 160+wrapK .i64 (160*0)))) (bc (ltI (wrapK .i64 (Int.tmod (wrapK .i64 (wrapK .i64 (n-s)+160)) 160+wrapK .i64 (160*1))) b) (dl_Q n q ld s b c (wrapK .i64 (Int.tmod (wrapK .i64 (wrapK .i64 (n-s)+160)) 160+wrapK .i64 (160*0))) (wrapK .i64 (Int.tmod (wrapK .i64 (wrapK .i64 (n-s)+160)) 160+wrapK .i64 (160*1)))) (dl_Q n q ld s b c (wrapK .i64 (Int.tmod (wrapK .i64 (wrapK .i64 (n-s)+160)) 160+wrapK .i64 (160*0))) b))) (bc (ltI (wrapK .i64 (Int.tmod (wrapK .i64 (wrapK .i64 (n-s)+160)) 160+wrapK .i64 (160*0))) c) (bc (ltI (wrapK .i64 (Int.tmod (wrapK .i64 (wrapK .i64 (n-s)+160)) 160+wrapK .i64 (160*1))) b) (dl_Q n q ld s b c (wrapK .i64 (Int.tmod (wrapK .i64 (wrapK .i64 (n-s)+160)) 160+wrapK .i64 (160*1))) b) (bc (ltI (wrapK .i64 (Int.tmod (wrapK .i64 (wrapK .i64 (n-s)+160)) 160+wrapK .i64 (160*1))) (wrapK .i64 (Int.tmod (wrapK .i64 (wrapK .i64 (n-s)+160)) 160+wrapK .i64 (160*0)))) (dl_Q n q ld s b c b (wrapK .i64 (Int.tmod (wrapK .i64 (wrapK .i64 (n-s)+160)) 160+wrapK .i64 (160*1)))) (dl_Q n q ld s b c b (wrapK .i64 (Int.tmod (wrapK .i64 (wrapK .i64 (n-s)+160)) 160+wrapK .i64 (160*0)))))) (bc (ltI (wrapK .i64 (Int.tmod (wrapK .i64 (wrapK .i64 (n-s)+160)) 160+wrapK .i64 (160*1))) b) (dl_Q n q ld s b c (wrapK .i64 (Int.tmod (wrapK .i64 (wrapK .i64 (n-s)+160)) 160+wrapK .i64 (160*1))) b) (bc (ltI (wrapK .i64 (Int.tmod (wrapK .i64 (wrapK .i64 (n-s)+160)) 160+wrapK .i64 (160*1))) c) (dl_Q n q ld s b c b (wrapK .i64 (Int.tmod (wrapK .i64 (wrapK .i64 (n-s)+160)) 160+wrapK .i64 (160*1)))) (dl_Q n q ld s b c b c)))))) False) (Prod.fst (S.dGo (q % 8) n s (b,c))=b/\(Prod.snd (S.dGo (q % 8) n s (b,c))=c/\(ld=ld/\True)))):=by kernel_rfl
theorem yws2 (n q ld s b c:Int) (h0:S.okDl n q ld s b c=true) (IH:s<160->∀ b2 c2,(b2,c2)=S.dAt (q % 8) n s (b,c)->dl_T n q ld (s+1) b2 c2):GTr Tryz.prog (inner (inner (blkOf 54 0))) 54 50 [(9,.int .i64 s),(7,.int .i64 b),(8,.int .i64 c),(0,.int .i64 n),(1,.int .i64 q),(2,.int .i64 ld)] [] (dlRz n q ld s b c):=by
 refine K.ykb0 good (A:=envL [(133,yme1)]) (yha0 ?_) K.yda0 (k:=30) (ent:=dlEB) (cast (yxv2 n q ld s b c).symm ?_)
 .intro p hp;simp only [List.mem_cons,List.not_mem_nil,or_false] at hp;rcases hp with rfl;exact ydy1
 .obtain ⟨n1,hq,hld,s1,b1,c1⟩:=S.ydk0.1 h0;have q1:=S.yea0.1 hq;cases hl:ltI s 160 with
  | false =>
   have:=yfa0.1 hl;rw [bc_false,S.dGo_e this];exact ⟨rfl,rfl,rfl,trivial⟩
  | true =>
   have hs:=yja0.1 hl;have w1:wrapK .i64 (s+1)=s+1:=by rw [yia0];omega
   have fin:∀ b2 c2,S.dAt (q % 8) n s (b,c)=(b2,c2)->dl_Q n q ld s b c b2 c2:=by
    intro b2 c2 e;have r:=S.yrt1 (q:=q % 8) (n:=n) (p:=s) (x:=(b,c)) ⟨b1,c1⟩;rw [e] at r;have t:=IH hs b2 c2 e.symm;unfold dl_Q;rw [w1,S.dGo_s s1.1 hs,e,S.ydk0.2 ⟨n1,hq,hld,⟨by omega,by omega⟩,r.1,r.2⟩,bc_true];exact ⟨t,rfl,rfl,rfl,trivial⟩
   have a0:Int.tmod (wrapK .i64 (wrapK .i64 (n-s)+160)) 160=(n-s) % 160:=by
    have:wrapK .i64 (n-s)=n-s:=by rw [yia0];omega
    rw [this,show wrapK .i64 (n-s+160)=n-s+160 by rw [yia0];omega,Int.tmod_eq_emod_of_nonneg (by omega)];omega
   have m0:wrapK .i64 (160*0)=0:=rfl;have m1:wrapK .i64 (160*1)=160:=rfl;have v0:wrapK .i64 ((n-s) % 160+0)=(n-s) % 160:=by rw [yia0];omega
   have v1:wrapK .i64 ((n-s) % 160+160)=(n-s) % 160+160:=by rw [yia0];omega
   rw [bc_true,yfa0.2 q1.1,ycb0,bc_true];cases hst:S.yya0 (q % 8) s with
   | false =>
    rw [ycb0,bc_true];exact fin _ _ (by unfold S.dAt;rw [hst,bc_false])
   | true =>
    have u:∀ p:Int × Int,S.dUp ((n-s) % 160+160) (S.dUp ((n-s) % 160) (b,c))=p->S.dAt (q % 8) n s (b,c)=p:=fun p h=>by
     unfold S.dAt;rw [hst,bc_true];exact h
    rw [ydb0,bc_false];simp only [a0,m0,m1,v0,v1];cases t1:ltI ((n-s) % 160) b with
    | true =>
     have d0:S.dUp ((n-s) % 160) (b,c)=((n-s) % 160,b):=by unfold S.dUp;rw [t1,bc_true]
     rw [bc_true];cases t2:ltI ((n-s) % 160+160) ((n-s) % 160) with
     | true=>rw [yja0] at t2;omega
     | false =>
      rw [bc_false];cases t3:ltI ((n-s) % 160+160) b with
      | true=>exact fin _ _ (u _ (by rw [d0];unfold S.dUp;rw [t2,bc_false,t3,bc_true]))
      | false=>exact fin _ _ (u _ (by rw [d0];unfold S.dUp;rw [t2,bc_false,t3,bc_false]))
    | false =>
     rw [bc_false];cases t4:ltI ((n-s) % 160) c with
     | true =>
      have d0:S.dUp ((n-s) % 160) (b,c)=(b,(n-s) % 160):=by unfold S.dUp;rw [t1,bc_false,t4,bc_true]
      rw [bc_true];cases t2:ltI ((n-s) % 160+160) b with
      | true=>exact fin _ _ (u _ (by rw [d0];unfold S.dUp;rw [t2,bc_true]))
      | false =>
       rw [bc_false];cases t3:ltI ((n-s) % 160+160) ((n-s) % 160) with
       | true=>exact fin _ _ (u _ (by rw [d0];unfold S.dUp;rw [t2,bc_false,t3,bc_true]))
       | false=>exact fin _ _ (u _ (by rw [d0];unfold S.dUp;rw [t2,bc_false,t3,bc_false]))
     | false =>
      have d0:S.dUp ((n-s) % 160) (b,c)=(b,c):=by unfold S.dUp;rw [t1,bc_false,t4,bc_false]
      rw [bc_false];cases t2:ltI ((n-s) % 160+160) b with
      | true=>exact fin _ _ (u _ (by rw [d0];unfold S.dUp;rw [t2,bc_true]))
      | false =>
       rw [bc_false];cases t3:ltI ((n-s) % 160+160) c with
       | true=>exact fin _ _ (u _ (by rw [d0];unfold S.dUp;rw [t2,bc_false,t3,bc_true]))
       | false=>exact fin _ _ (u _ (by rw [d0];unfold S.dUp;rw [t2,bc_false,t3,bc_false]))
theorem yyv2 (n q ld:Int):∀ (j:Nat) (s b c:Int),S.okDl n q ld s b c=true->(160-s).toNat=j->dl_T n q ld s b c:=by
 intro j
 induction j with
 | zero =>
  intro s b c h0 hj;exact yws2 n q ld s b c h0 fun hs=>by omega
 | succ j ih =>
  intro s b c h0 hj;obtain ⟨n1,hq,hld,s1,b1,c1⟩:=S.ydk0.1 h0;refine yws2 n q ld s b c h0 fun hs b2 c2 e=>?_
  have r:=S.yrt1 (q:=q % 8) (n:=n) (p:=s) (x:=(b,c)) ⟨b1,c1⟩;rw [<- e] at r;exact ih (s+1) b2 c2 (S.ydk0.2 ⟨n1,hq,hld,⟨by omega,by omega⟩,r.1,r.2⟩) (by omega)
theorem yzv2 (n q ld s b c:Int) (h0:S.okDl n q ld s b c=true):dl_B n q ld s b c:=by
 have hb:blkOf 54 0=.block 0 (.loop (inner (inner (blkOf 54 0)))):=by kernel_rfl
 unfold dl_B K.BOk;rw [hb];exact K.CT.block (K.GT.loop (yyv2 n q ld _ s b c h0 rfl))
theorem yxs2 (n q ld:Int):K.bodyF (envB [] (fun g id=>bc (Nat.beq g 54) (bc (Nat.beq id 0) (some dlBB) (none)) (none))) (K.runF (envB [] (fun g id=>bc (Nat.beq g 54) (bc (Nat.beq id 0) (some dlBB) (none)) (none))) 30) 54 [.int .i64 n,.int .i64 q,.int .i64 ld] (Heap.of []) Hint.auto (K.endC K.openE 0 ⟨.ret (.int .i64 (S.dlV q n ld)),[],[]⟩) =
  (bc (S.okDl n q ld 0 1000 1000) (dl_B n q ld 0 1000 1000/\(bc (notB (ltI (Prod.fst (S.dGo (q % 8) n 0 (1000,1000))) ld)) (S.dlV q n ld=wrapK .i64 (Prod.fst (S.dGo (q % 8) n 0 (1000,1000))-ld)/\True) (S.dlV q n ld=wrapK .i64 (Prod.snd (S.dGo (q % 8) n 0 (1000,1000))-ld)/\True))) False):=by kernel_rfl
theorem yys2 (n q ld:Int) (h0:S.okDl n q ld 0 0 0=true)  : HTr Tryz.prog 54 [.int .i64 n,.int .i64 q,.int .i64 ld] [] ⟨.ret (.int .i64 (S.dlV q n ld)),[],[]⟩:=by
 refine K.yba0 good (A:=envB [] (fun g id=>bc (Nat.beq g 54) (bc (Nat.beq id 0) (some dlBB) (none)) (none))) (yaj0 ?_) K.yda0 (k:=30) (cast (yxs2 n q ld).symm ?_)
 .intro p hp;cases hp
 .obtain ⟨n1,hq,hld,_,_,_⟩:=S.ydk0.1 h0;have l1:=S.yea0.1 hld;have p0:S.okDl n q ld 0 1000 1000=true:=S.ydk0.2 ⟨n1,hq,hld,by decide,by decide,by decide⟩;have r:=S.ysd2 (q:=q % 8) (n:=n) (s:=0) (x:=(1000,1000)) (by decide);have B:=yzv2 n q ld 0 1000 1000 p0;rw [p0,bc_true];refine ⟨B,?_⟩;have e:S.dlV q n ld=bc (ltI (S.dGo (q % 8) n 0 (1000,1000)).1 ld) ((S.dGo (q % 8) n 0 (1000,1000)).2-ld) ((S.dGo (q % 8) n 0 (1000,1000)).1-ld):=rfl;have w1:wrapK .i64 ((S.dGo (q % 8) n 0 (1000,1000)).1-ld)=(S.dGo (q % 8) n 0 (1000,1000)).1-ld:=by rw [yia0];omega
  have w2:wrapK .i64 ((S.dGo (q % 8) n 0 (1000,1000)).2-ld)=(S.dGo (q % 8) n 0 (1000,1000)).2-ld:=by rw [yia0];omega
  rw [e,w1,w2];cases ltI (S.dGo (q % 8) n 0 (1000,1000)).1 ld
  .exact ⟨rfl,trivial⟩
  .exact ⟨rfl,trivial⟩
theorem ydb2:rDlE.ok Tryz.prog 54:=by
 intro xs os b r h h3;unfold rDlE at h;simp only at h;split at h
 .injection h with h;injection h with h1 h2;subst h1;subst h2;exact yys2 _ _ _ h3
 .cases h
namespace S
theorem yzs2:∀ b:Fin 256,wid ((b.val:Nat):Int)=bc (eqI (((b.val:Nat):Int) % 8) 5) 2 (bc (eqI (((b.val:Nat):Int) % 8) 7) 4 1)/\brd ((b.val:Nat):Int)=bc (eqI (((b.val:Nat):Int) / 16 % 4) 0) 1 (bc (eqI (((b.val:Nat):Int) / 16 % 4) 1) 2 (bc (eqI (((b.val:Nat):Int) / 16 % 4) 2) 4 8))/\eqI (wrapK .i64 (andK .u8 ((b.val:Nat):Int) 1)) 0=eqI (((b.val:Nat):Int) % 2) 0:=by decide +kernel
theorem yst1 {b:Int} (h:inR b 256=true):wid b=bc (eqI (b % 8) 5) 2 (bc (eqI (b % 8) 7) 4 1)/\brd b=bc (eqI (b / 16 % 4) 0) 1 (bc (eqI (b / 16 % 4) 1) 2 (bc (eqI (b / 16 % 4) 2) 4 8))/\eqI (wrapK .i64 (andK .u8 b 1)) 0=eqI (b % 2) 0:=by
 have h1:=yea0.1 h;have e:=yzs2 ⟨b.toNat,by omega⟩
 rwa [show (((⟨b.toNat,by omega⟩ : Fin 256).val:Nat):Int)=b from Int.toNat_of_nonneg h1.1] at e
theorem ytd2 (b:Int):inR (wid b) 5=true:=by
 unfold wid;cases eqI (andK .u8 b 7) 5
 .cases eqI (andK .u8 b 7) 7 <;> rfl
 .rfl
theorem ytt1 {v a b:Int} (ha:inR a 256=true) (hb:inR b 256=true):inR (gsel v a b) 256=true:=by
 unfold gsel;cases eqI (wrapK .i64 (andK .u8 v 1)) 0
 .exact hb
 .exact ha
theorem at_tm {n x:Int} (hn:inR n 160=true) (hx:inR x 160=true):Int.tmod (wrapK .i64 (n+x)) 160=at160 n x/\inR (at160 n x) 160=true:=by
 have h1:=yea0.1 hn;have h2:=yea0.1 hx;refine ⟨?_,yea0.2 (by unfold at160;omega)⟩;rw [yia0,show (n+x+9223372036854775808) % 18446744073709551616-9223372036854775808=n+x by omega,Int.tmod_eq_emod_of_nonneg (by omega)];rfl
theorem dl_ok {n q l:Int} (hn:inR n 160=true) (hq:inR q 256=true) (hl:inR l 8=true):okDl n q l 0 0 0=true:=ydk0.2 ⟨yea0.1 hn,hq,hl,by decide,by decide,by decide⟩
theorem dl_lt {n q l:Int} (hl:4<=l):ltI (dlV q n l) 1000=true:=by
 have r:=ysd2 (q:=q % 8) (n:=n) (s:=0) (x:=(1000,1000)) (by decide);rw [yja0];show bc (ltI (dGo (q % 8) n 0 (1000,1000)).1 l) ((dGo (q % 8) n 0 (1000,1000)).2-l) ((dGo (q % 8) n 0 (1000,1000)).1-l)<1000;cases ltI (dGo (q % 8) n 0 (1000,1000)).1 l
 .show (dGo (q % 8) n 0 (1000,1000)).1-l<1000;omega
 .show (dGo (q % 8) n 0 (1000,1000)).2-l<1000;omega
end S
theorem yat2 {r:Int} (h:S.inR r 256=true):ltI (Int.tmod r 8) 0=false/\ltI (Int.tmod r 8) 8=true/\T.partOf 3 [.int .i64 1,.int .i64 1,.int .i64 1,.int .i64 1,.int .i64 1,.int .i64 2,.int .i64 1,.int .i64 4] (0+(Int.tmod r 8).toNat*1)=some (.int .i64 (S.wid r)):=by
 have h1:=S.yea0.1 h;rw [(S.yst1 h).1,Int.tmod_eq_emod_of_nonneg h1.1];rcases (by omega:r % 8=0\/r % 8=1\/r % 8=2\/r % 8=3\/r % 8=4\/r % 8=5\/r % 8=6\/r % 8=7) with e | e | e | e | e | e | e | e <;> rw [e] <;> exact ⟨rfl,rfl,rfl⟩
theorem ydm2 {r:Int} (h:S.inR r 256=true):ltI (Int.tmod (wrapK .i64 (Int.tdiv r 16)) 4) 0=false/\ltI (Int.tmod (wrapK .i64 (Int.tdiv r 16)) 4) 4=true/\T.partOf 3 [.int .i64 1,.int .i64 2,.int .i64 4,.int .i64 8] (0+(Int.tmod (wrapK .i64 (Int.tdiv r 16)) 4).toNat*1)=some (.int .i64 (S.brd r)):=by
 have h1:=S.yea0.1 h;have e1:wrapK .i64 (r / 16)=r / 16:=by rw [yia0];omega
 rw [(S.yst1 h).2.1,Int.tdiv_eq_ediv_of_nonneg h1.1,e1,Int.tmod_eq_emod_of_nonneg (by omega)];rcases (by omega:r / 16 % 4=0\/r / 16 % 4=1\/r / 16 % 4=2\/r / 16 % 4=3) with e | e | e | e <;> rw [e] <;> exact ⟨rfl,rfl,rfl⟩
theorem lw_g0 {W:Nat->Int} (h:S.inR (W 74) 256=true):ltI (wrapK .i64 (wrapK .i64 (61+wrapK .i64 (2*0))+Int.tmod (W 74) 2)) 0=false/\ltI (wrapK .i64 (wrapK .i64 (61+wrapK .i64 (2*0))+Int.tmod (W 74) 2)) 81=true/\T.partOf 3 (S.wLz W) (0+((wrapK .i64 (wrapK .i64 (61+wrapK .i64 (2*0))+Int.tmod (W 74) 2))).toNat*1)=some (.int .i64 (S.gsel (W 74) (W 61) (W 62))):=by
 have h1:=S.yea0.1 h;unfold S.gsel;rw [(S.yst1 h).2.2,Int.tmod_eq_emod_of_nonneg h1.1];rcases (by omega:W 74 % 2=0\/W 74 % 2=1) with e | e <;> rw [e] <;> exact ⟨rfl,rfl,rfl⟩
theorem lw_g1 {W:Nat->Int} (h:S.inR (W 75) 256=true):ltI (wrapK .i64 (wrapK .i64 (61+wrapK .i64 (2*1))+Int.tmod (W 75) 2)) 0=false/\ltI (wrapK .i64 (wrapK .i64 (61+wrapK .i64 (2*1))+Int.tmod (W 75) 2)) 81=true/\T.partOf 3 (S.wLz W) (0+((wrapK .i64 (wrapK .i64 (61+wrapK .i64 (2*1))+Int.tmod (W 75) 2))).toNat*1)=some (.int .i64 (S.gsel (W 75) (W 63) (W 64))):=by
 have h1:=S.yea0.1 h;unfold S.gsel;rw [(S.yst1 h).2.2,Int.tmod_eq_emod_of_nonneg h1.1];rcases (by omega:W 75 % 2=0\/W 75 % 2=1) with e | e <;> rw [e] <;> exact ⟨rfl,rfl,rfl⟩
theorem ybt2 (W:Nat->Int) (n0 n1 n2 n3 n4 met x:Int) (vs us:List LV):K.RunL (ln0Vz) K.openE 30 15 191 (inner (inner (blkOf 15 2))) (lnE1B W) [(0,.slice 0 0 81 (.rest 0)),(3,.ptr 1 0),(8,.ptr 2 0),(9,.ptr 3 0),(10,.ptr 4 0),(13,.ptr 5 0),(6,.ptr 6 0),(4,.ptr 7 0),(7,.int .i64 met),(11,.int .i64 (W 55)),(12,.int .i64 x),(14,.int .i64 0)] (ln0Oz W n0 n1 n2 n3 n4 met x vs us) (.skip 5 (.fork .auto (.skip 1 (.vp (.int .i64 (S.wid (W 49))) (.fork (.skip 4 (.fork .auto (.skip 1 (.vp (.int .i64 (S.gsel (W 74) (W 61) (W 62))) (.skip 30 (.fork (.skip 12 (.fork (.skip 2 (.fork (.skip 11 (.fork .auto (.skip 2 (.vp (.int .i64 (S.brd (W 49))) .auto)))) .auto)) .auto)) .auto)))))) (.skip 4 (.fork .auto (.skip 1 (.vp (.int .i64 (S.gsel (W 74) (W 61) (W 62))) (.skip 30 (.fork (.skip 12 (.fork (.skip 2 (.fork (.skip 11 (.fork .auto (.skip 2 (.vp (.int .i64 (S.brd (W 49))) .auto)))) .auto)) .auto)) .auto))))))))))) (ln0Rz W n0 n1 n2 n3 n4 met x vs us) =
  (bc (ltI (Int.tmod (W 49) 8) 0) False (bc (ltI (Int.tmod (W 49) 8) ↑8) (T.partOf 3 [LV.int .i64 1,LV.int .i64 1,LV.int .i64 1,LV.int .i64 1,LV.int .i64 1,LV.int .i64 2,LV.int .i64 1,LV.int .i64 4] (0+Int.toNat (Int.tmod (W 49) 8)*1)=some (LV.int .i64 (S.wid (W 49)))/\(bc (ltI 1 (S.wid (W 49))) (bc (ltI (wrapK .i64 (wrapK .i64 (61+wrapK .i64 (2*0))+Int.tmod (W 74) 2)) 0) False (bc (ltI (wrapK .i64 (wrapK .i64 (61+wrapK .i64 (2*0))+Int.tmod (W 74) 2)) ↑81) (T.partOf 3 (S.wLz W) (0+Int.toNat (wrapK .i64 (wrapK .i64 (61+wrapK .i64 (2*0))+Int.tmod (W 74) 2))*1)=some (LV.int .i64 (S.gsel (W 74) (W 61) (W 62)))/\(bc (S.okDl (Int.tmod (wrapK .i64 (n0+x)) 160) (W 49) 6 0 0 0) (bc (S.an (S.inR (S.gsel (W 74) (W 61) (W 62)) 256) (S.an (S.inR (S.wid (W 49)) 5) (ltI (S.dlV (W 49) (Int.tmod (wrapK .i64 (n0+x)) 160) 6) 1000))) (bc (S.okDl (Int.tmod (wrapK .i64 (n2+x)) 160) (W 49) 4 0 0 0) (bc (eqI (Int.tmod (wrapK .i64 (Int.tdiv (W 65) 2)) 2) 1) (bc (notB (eqI (Int.tmod (wrapK .i64 (Int.tdiv (W 77) 2)) 2) 1)) (bc (notB (ltI (S.dlV (W 49) (Int.tmod (wrapK .i64 (n2+x)) 160) 4) 0)) (bc (ltI (Int.tmod (wrapK .i64 (Int.tdiv (W 49) 16)) 4) 0) False (bc (ltI (Int.tmod (wrapK .i64 (Int.tdiv (W 49) 16)) 4) ↑4) (T.partOf 3 [LV.int .i64 1,LV.int .i64 2,LV.int .i64 4,LV.int .i64 8] (0+Int.toNat (Int.tmod (wrapK .i64 (Int.tdiv (W 49) 16)) 4)*1)=some (LV.int .i64 (S.brd (W 49)))/\(lnQ0 W n0 n1 n2 n3 n4 met x vs us  (S.graph (S.gsel (W 74) (W 61) (W 62)) (eqI (Int.tmod (wrapK .i64 (Int.tdiv (W 56) 8)) 2) 1) (S.wid (W 49)) (S.dlV (W 49) (Int.tmod (wrapK .i64 (n0+x)) 160) 6)) (ltI (S.dlV (W 49) (Int.tmod (wrapK .i64 (n2+x)) 160) 4) (S.brd (W 49))))) False)) (lnQ0 W n0 n1 n2 n3 n4 met x vs us  (S.graph (S.gsel (W 74) (W 61) (W 62)) (eqI (Int.tmod (wrapK .i64 (Int.tdiv (W 56) 8)) 2) 1) (S.wid (W 49)) (S.dlV (W 49) (Int.tmod (wrapK .i64 (n0+x)) 160) 6)) false)) (lnQ0 W n0 n1 n2 n3 n4 met x vs us  (S.graph (S.gsel (W 74) (W 61) (W 62)) (eqI (Int.tmod (wrapK .i64 (Int.tdiv (W 56) 8)) 2) 1) (S.wid (W 49)) (S.dlV (W 49) (Int.tmod (wrapK .i64 (n0+x)) 160) 6)) false)) (lnQ0 W n0 n1 n2 n3 n4 met x vs us  (S.graph (S.gsel (W 74) (W 61) (W 62)) (eqI (Int.tmod (wrapK .i64 (Int.tdiv (W 56) 8)) 2) 1) (S.wid (W 49)) (S.dlV (W 49) (Int.tmod (wrapK .i64 (n0+x)) 160) 6)) false)) False) False) False)) False)) (bc (ltI (wrapK .i64 (wrapK .i64 (61+wrapK .i64 (2*0))+Int.tmod (W 74) 2)) 0) False (bc (ltI (wrapK .i64 (wrapK .i64 (61+wrapK .i64 (2*0))+Int.tmod (W 74) 2)) ↑81) (T.partOf 3 (S.wLz W) (0+Int.toNat (wrapK .i64 (wrapK .i64 (61+wrapK .i64 (2*0))+Int.tmod (W 74) 2))*1)=some (LV.int .i64 (S.gsel (W 74) (W 61) (W 62)))/\(bc (S.okDl (Int.tmod (wrapK .i64 (n0+x)) 160) (W 49) 5 0 0 0) (bc (S.an (S.inR (S.gsel (W 74) (W 61) (W 62)) 256) (S.an (S.inR (S.wid (W 49)) 5) (ltI (S.dlV (W 49) (Int.tmod (wrapK .i64 (n0+x)) 160) 5) 1000))) (bc (S.okDl (Int.tmod (wrapK .i64 (n2+x)) 160) (W 49) 4 0 0 0) (bc (eqI (Int.tmod (wrapK .i64 (Int.tdiv (W 65) 2)) 2) 1) (bc (notB (eqI (Int.tmod (wrapK .i64 (Int.tdiv (W 77) 2)) 2) 1)) (bc (notB (ltI (S.dlV (W 49) (Int.tmod (wrapK .i64 (n2+x)) 160) 4) 0)) (bc (ltI (Int.tmod (wrapK .i64 (Int.tdiv (W 49) 16)) 4) 0) False (bc (ltI (Int.tmod (wrapK .i64 (Int.tdiv (W 49) 16)) 4) ↑4) (T.partOf 3 [LV.int .i64 1,LV.int .i64 2,LV.int .i64 4,LV.int .i64 8] (0+Int.toNat (Int.tmod (wrapK .i64 (Int.tdiv (W 49) 16)) 4)*1)=some (LV.int .i64 (S.brd (W 49)))/\(lnQ0 W n0 n1 n2 n3 n4 met x vs us  (S.graph (S.gsel (W 74) (W 61) (W 62)) (eqI (Int.tmod (wrapK .i64 (Int.tdiv (W 56) 8)) 2) 1) (S.wid (W 49)) (S.dlV (W 49) (Int.tmod (wrapK .i64 (n0+x)) 160) 5)) (ltI (S.dlV (W 49) (Int.tmod (wrapK .i64 (n2+x)) 160) 4) (S.brd (W 49))))) False)) (lnQ0 W n0 n1 n2 n3 n4 met x vs us  (S.graph (S.gsel (W 74) (W 61) (W 62)) (eqI (Int.tmod (wrapK .i64 (Int.tdiv (W 56) 8)) 2) 1) (S.wid (W 49)) (S.dlV (W 49) (Int.tmod (wrapK .i64 (n0+x)) 160) 5)) false)) (lnQ0 W n0 n1 n2 n3 n4 met x vs us  (S.graph (S.gsel (W 74) (W 61) (W 62)) (eqI (Int.tmod (wrapK .i64 (Int.tdiv (W 56) 8)) 2) 1) (S.wid (W 49)) (S.dlV (W 49) (Int.tmod (wrapK .i64 (n0+x)) 160) 5)) false)) (lnQ0 W n0 n1 n2 n3 n4 met x vs us  (S.graph (S.gsel (W 74) (W 61) (W 62)) (eqI (Int.tmod (wrapK .i64 (Int.tdiv (W 56) 8)) 2) 1) (S.wid (W 49)) (S.dlV (W 49) (Int.tmod (wrapK .i64 (n0+x)) 160) 5)) false)) False) False) False)) False)))) False)):=by kernel_rfl
theorem yct2 (W:Nat->Int) (n0 n1 n2 n3 n4 met x:Int) (vs us:List LV) (hW:S.okLw W=true) (hN:S.okN5 n0 n1 n2 n3 n4=true) (hx:S.inR x 160=true) (IH:∀ p m,ln_T1 W n0 n1 n2 n3 n4 met x vs us p m):GTr Tryz.prog (inner (inner (blkOf 15 2))) 15 191 [(0,.slice 0 0 81 (.rest 0)),(3,.ptr 1 0),(8,.ptr 2 0),(9,.ptr 3 0),(10,.ptr 4 0),(13,.ptr 5 0),(6,.ptr 6 0),(4,.ptr 7 0),(7,.int .i64 met),(11,.int .i64 (W 55)),(12,.int .i64 x),(14,.int .i64 0)] (ln0Oz W n0 n1 n2 n3 n4 met x vs us) (ln0Rz W n0 n1 n2 n3 n4 met x vs us):=by
 refine K.ykb0 good (A:=ln0Vz) (yha0 ?_) K.yda0 (k:=30) (ent:=(lnE1B W)) (cast (ybt2 W n0 n1 n2 n3 n4 met x vs us).symm ?_)
 .intro p hp;simp only [List.mem_cons,List.not_mem_nil,or_false] at hp;rcases hp with rfl | rfl;exact ydb2;exact ysw0
 .unfold S.okLw at hW;have hW0:S.okLw W=true:=hW;simp only [S.yma0] at hW;obtain ⟨w49,w50,w51,w52,w53,w54,w55,w56,w57,w58,w59,w60,w61,w62,w63,w64,w65,w66,w74,w75,w76,w77,w78⟩:=hW;have hN0:=hN;unfold S.okN5 at hN;simp only [S.yma0] at hN;obtain ⟨k0,k1,k2,k3,k4⟩:=hN;obtain ⟨a1,a2,a3⟩:=yat2 w49;obtain ⟨g1,g2,g3⟩:=lw_g0 w74;obtain ⟨b1,b2,b3⟩:=ydm2 w49;obtain ⟨t1,i1⟩:=S.at_tm k0 hx;obtain ⟨t2,i2⟩:=S.at_tm k2 hx
  have fin:∀ p m,S.lP W 0 (S.at160 n0 x)=p->S.lM W 0 (S.at160 n2 x)=m->lnQ0 W n0 n1 n2 n3 n4 met x vs us p m:=by
   intro p m ep em;unfold lnQ0;rw [hW0,hN0,hx,show S.an true (S.an true true)=true from rfl,bc_true];exact ⟨IH p m,rfl,rfl,rfl,rfl,rfl,rfl,rfl,rfl,rfl,rfl,rfl,rfl,rfl,ep,rfl,em,rfl,rfl,rfl,trivial⟩
  have h8:eqI (Int.tmod (wrapK .i64 (Int.tdiv (W 56) 8)) 2) 1=S.hb .u8 (W 56) 8:=S.hb_of 3 w56;have he:eqI (Int.tmod (wrapK .i64 (Int.tdiv (W 65) 2)) 2) 1=S.hb .u8 (W 65) 2:=S.hb_of 1 w65;have hr:eqI (Int.tmod (wrapK .i64 (Int.tdiv (W 77) 2)) 2) 1=S.hb .u8 (W 77) 2:=S.hb_of 1 w77;have c1:=S.dl_ok (l:=6) i1 w49 rfl;have c2:=S.dl_ok (l:=5) i1 w49 rfl;have c3:=S.dl_ok (l:=4) i2 w49 rfl
  have d1:∀ l:Int,4<=l->S.an (S.inR (S.gsel (W 74) (W 61) (W 62)) 256) (S.an (S.inR (S.wid (W 49)) 5) (ltI (S.dlV (W 49) (S.at160 n0 x) l) 1000))=true:=fun l hl=>by
   rw [S.ytt1 w61 w62,S.ytd2,S.dl_lt hl];rfl
  have eP:∀ b l,ltI 1 (S.wid (W 49))=b->bc b 6 5=l->S.lP W 0 (S.at160 n0 x)=S.graph (S.gsel (W 74) (W 61) (W 62)) (S.hb .u8 (W 56) 8) (S.wid (W 49)) (S.dlV (W 49) (S.at160 n0 x) l):=fun b l e1 e2=>by
   subst e1;subst e2;rfl
  have eM:S.lM W 0 (S.at160 n2 x)=S.an (S.hb .u8 (W 65) 2) (S.an (notB (S.hb .u8 (W 77) 2)) (S.an (notB (ltI (S.dlV (W 49) (S.at160 n2 x) 4) 0)) (ltI (S.dlV (W 49) (S.at160 n2 x) 4) (S.brd (W 49))))):=rfl;rw [a1,bc_false,a2,bc_true];refine ⟨a3,?_⟩;cases hA:ltI 1 (S.wid (W 49))
  all_goals
   first | rw [bc_true] | rw [bc_false]
   rw [g1,bc_false,g2,bc_true];refine ⟨g3,?_⟩;rw [t1,t2,h8,he,hr]
   first | rw [c1,d1 6 (by decide)] | rw [c2,d1 5 (by decide)]
   rw [c3,bc_true,bc_true,bc_true,b1,b2];have e0:=eP _ _ hA rfl;cases hE:S.hb .u8 (W 65) 2
   .rw [bc_false];exact fin _ _ e0 (by rw [eM,hE];rfl)
   .rw [bc_true];cases hR:S.hb .u8 (W 77) 2
    .rw [ycb0,bc_true];cases hD:ltI (S.dlV (W 49) (S.at160 n2 x) 4) 0
     .rw [ycb0,bc_true,bc_false,bc_true];refine ⟨b3,?_⟩;exact fin _ _ e0 (by rw [eM,hE,hR,hD];rfl)
     .rw [ydb0,bc_false];exact fin _ _ e0 (by rw [eM,hE,hR,hD];rfl)
    .rw [ydb0,bc_false];exact fin _ _ e0 (by rw [eM,hE,hR];rfl)
theorem ydt2 (W:Nat->Int) (n0 n1 n2 n3 n4 met x:Int) (vs us:List LV) (p0 m0:Bool):K.RunL (ln1Vz) K.openE 30 15 191 (inner (inner (blkOf 15 2))) (lnE2B W) [(0,.slice 0 0 81 (.rest 0)),(3,.ptr 1 0),(8,.ptr 2 0),(9,.ptr 3 0),(10,.ptr 4 0),(13,.ptr 5 0),(6,.ptr 6 0),(4,.ptr 7 0),(7,.int .i64 met),(11,.int .i64 (W 55)),(12,.int .i64 x),(14,.int .i64 1)] (ln1Oz W n0 n1 n2 n3 n4 met x vs us p0 m0) (.skip 5 (.fork .auto (.skip 1 (.vp (.int .i64 (S.wid (W 50))) (.fork (.skip 4 (.fork .auto (.skip 1 (.vp (.int .i64 (S.gsel (W 75) (W 63) (W 64))) (.skip 30 (.fork (.skip 12 (.fork (.skip 2 (.fork (.skip 11 (.fork .auto (.skip 2 (.vp (.int .i64 (S.brd (W 50))) .auto)))) .auto)) .auto)) .auto)))))) (.skip 4 (.fork .auto (.skip 1 (.vp (.int .i64 (S.gsel (W 75) (W 63) (W 64))) (.skip 30 (.fork (.skip 12 (.fork (.skip 2 (.fork (.skip 11 (.fork .auto (.skip 2 (.vp (.int .i64 (S.brd (W 50))) .auto)))) .auto)) .auto)) .auto))))))))))) (ln1Rz W n0 n1 n2 n3 n4 met x vs us p0 m0) =
  (bc (ltI (Int.tmod (W 50) 8) 0) False (bc (ltI (Int.tmod (W 50) 8) ↑8) (T.partOf 3 [LV.int .i64 1,LV.int .i64 1,LV.int .i64 1,LV.int .i64 1,LV.int .i64 1,LV.int .i64 2,LV.int .i64 1,LV.int .i64 4] (0+Int.toNat (Int.tmod (W 50) 8)*1)=some (LV.int .i64 (S.wid (W 50)))/\(bc (ltI 1 (S.wid (W 50))) (bc (ltI (wrapK .i64 (wrapK .i64 (61+wrapK .i64 (2*1))+Int.tmod (W 75) 2)) 0) False (bc (ltI (wrapK .i64 (wrapK .i64 (61+wrapK .i64 (2*1))+Int.tmod (W 75) 2)) ↑81) (T.partOf 3 (S.wLz W) (0+Int.toNat (wrapK .i64 (wrapK .i64 (61+wrapK .i64 (2*1))+Int.tmod (W 75) 2))*1)=some (LV.int .i64 (S.gsel (W 75) (W 63) (W 64)))/\(bc (S.okDl (Int.tmod (wrapK .i64 (n1+x)) 160) (W 50) 6 0 0 0) (bc (S.an (S.inR (S.gsel (W 75) (W 63) (W 64)) 256) (S.an (S.inR (S.wid (W 50)) 5) (ltI (S.dlV (W 50) (Int.tmod (wrapK .i64 (n1+x)) 160) 6) 1000))) (bc (S.okDl (Int.tmod (wrapK .i64 (n3+x)) 160) (W 50) 4 0 0 0) (bc (eqI (Int.tmod (wrapK .i64 (Int.tdiv (W 66) 2)) 2) 1) (bc (notB (eqI (Int.tmod (wrapK .i64 (Int.tdiv (W 78) 2)) 2) 1)) (bc (notB (ltI (S.dlV (W 50) (Int.tmod (wrapK .i64 (n3+x)) 160) 4) 0)) (bc (ltI (Int.tmod (wrapK .i64 (Int.tdiv (W 50) 16)) 4) 0) False (bc (ltI (Int.tmod (wrapK .i64 (Int.tdiv (W 50) 16)) 4) ↑4) (T.partOf 3 [LV.int .i64 1,LV.int .i64 2,LV.int .i64 4,LV.int .i64 8] (0+Int.toNat (Int.tmod (wrapK .i64 (Int.tdiv (W 50) 16)) 4)*1)=some (LV.int .i64 (S.brd (W 50)))/\(lnQ1 W n0 n1 n2 n3 n4 met x vs us p0 m0 (S.graph (S.gsel (W 75) (W 63) (W 64)) (eqI (Int.tmod (wrapK .i64 (Int.tdiv (W 57) 8)) 2) 1) (S.wid (W 50)) (S.dlV (W 50) (Int.tmod (wrapK .i64 (n1+x)) 160) 6)) (ltI (S.dlV (W 50) (Int.tmod (wrapK .i64 (n3+x)) 160) 4) (S.brd (W 50))))) False)) (lnQ1 W n0 n1 n2 n3 n4 met x vs us p0 m0 (S.graph (S.gsel (W 75) (W 63) (W 64)) (eqI (Int.tmod (wrapK .i64 (Int.tdiv (W 57) 8)) 2) 1) (S.wid (W 50)) (S.dlV (W 50) (Int.tmod (wrapK .i64 (n1+x)) 160) 6)) false)) (lnQ1 W n0 n1 n2 n3 n4 met x vs us p0 m0 (S.graph (S.gsel (W 75) (W 63) (W 64)) (eqI (Int.tmod (wrapK .i64 (Int.tdiv (W 57) 8)) 2) 1) (S.wid (W 50)) (S.dlV (W 50) (Int.tmod (wrapK .i64 (n1+x)) 160) 6)) false)) (lnQ1 W n0 n1 n2 n3 n4 met x vs us p0 m0 (S.graph (S.gsel (W 75) (W 63) (W 64)) (eqI (Int.tmod (wrapK .i64 (Int.tdiv (W 57) 8)) 2) 1) (S.wid (W 50)) (S.dlV (W 50) (Int.tmod (wrapK .i64 (n1+x)) 160) 6)) false)) False) False) False)) False)) (bc (ltI (wrapK .i64 (wrapK .i64 (61+wrapK .i64 (2*1))+Int.tmod (W 75) 2)) 0) False (bc (ltI (wrapK .i64 (wrapK .i64 (61+wrapK .i64 (2*1))+Int.tmod (W 75) 2)) ↑81) (T.partOf 3 (S.wLz W) (0+Int.toNat (wrapK .i64 (wrapK .i64 (61+wrapK .i64 (2*1))+Int.tmod (W 75) 2))*1)=some (LV.int .i64 (S.gsel (W 75) (W 63) (W 64)))/\(bc (S.okDl (Int.tmod (wrapK .i64 (n1+x)) 160) (W 50) 5 0 0 0) (bc (S.an (S.inR (S.gsel (W 75) (W 63) (W 64)) 256) (S.an (S.inR (S.wid (W 50)) 5) (ltI (S.dlV (W 50) (Int.tmod (wrapK .i64 (n1+x)) 160) 5) 1000))) (bc (S.okDl (Int.tmod (wrapK .i64 (n3+x)) 160) (W 50) 4 0 0 0) (bc (eqI (Int.tmod (wrapK .i64 (Int.tdiv (W 66) 2)) 2) 1) (bc (notB (eqI (Int.tmod (wrapK .i64 (Int.tdiv (W 78) 2)) 2) 1)) (bc (notB (ltI (S.dlV (W 50) (Int.tmod (wrapK .i64 (n3+x)) 160) 4) 0)) (bc (ltI (Int.tmod (wrapK .i64 (Int.tdiv (W 50) 16)) 4) 0) False (bc (ltI (Int.tmod (wrapK .i64 (Int.tdiv (W 50) 16)) 4) ↑4) (T.partOf 3 [LV.int .i64 1,LV.int .i64 2,LV.int .i64 4,LV.int .i64 8] (0+Int.toNat (Int.tmod (wrapK .i64 (Int.tdiv (W 50) 16)) 4)*1)=some (LV.int .i64 (S.brd (W 50)))/\(lnQ1 W n0 n1 n2 n3 n4 met x vs us p0 m0 (S.graph (S.gsel (W 75) (W 63) (W 64)) (eqI (Int.tmod (wrapK .i64 (Int.tdiv (W 57) 8)) 2) 1) (S.wid (W 50)) (S.dlV (W 50) (Int.tmod (wrapK .i64 (n1+x)) 160) 5)) (ltI (S.dlV (W 50) (Int.tmod (wrapK .i64 (n3+x)) 160) 4) (S.brd (W 50))))) False)) (lnQ1 W n0 n1 n2 n3 n4 met x vs us p0 m0 (S.graph (S.gsel (W 75) (W 63) (W 64)) (eqI (Int.tmod (wrapK .i64 (Int.tdiv (W 57) 8)) 2) 1) (S.wid (W 50)) (S.dlV (W 50) (Int.tmod (wrapK .i64 (n1+x)) 160) 5)) false)) (lnQ1 W n0 n1 n2 n3 n4 met x vs us p0 m0 (S.graph (S.gsel (W 75) (W 63) (W 64)) (eqI (Int.tmod (wrapK .i64 (Int.tdiv (W 57) 8)) 2) 1) (S.wid (W 50)) (S.dlV (W 50) (Int.tmod (wrapK .i64 (n1+x)) 160) 5)) false)) (lnQ1 W n0 n1 n2 n3 n4 met x vs us p0 m0 (S.graph (S.gsel (W 75) (W 63) (W 64)) (eqI (Int.tmod (wrapK .i64 (Int.tdiv (W 57) 8)) 2) 1) (S.wid (W 50)) (S.dlV (W 50) (Int.tmod (wrapK .i64 (n1+x)) 160) 5)) false)) False) False) False)) False)))) False)):=by kernel_rfl
theorem yet2 (W:Nat->Int) (n0 n1 n2 n3 n4 met x:Int) (vs us:List LV) (p0 m0:Bool) (hW:S.okLw W=true) (hN:S.okN5 n0 n1 n2 n3 n4=true) (hx:S.inR x 160=true) (IH:∀ p m,ln_T2 W n0 n1 n2 n3 n4 met x vs us p0 p m0 m):GTr Tryz.prog (inner (inner (blkOf 15 2))) 15 191 [(0,.slice 0 0 81 (.rest 0)),(3,.ptr 1 0),(8,.ptr 2 0),(9,.ptr 3 0),(10,.ptr 4 0),(13,.ptr 5 0),(6,.ptr 6 0),(4,.ptr 7 0),(7,.int .i64 met),(11,.int .i64 (W 55)),(12,.int .i64 x),(14,.int .i64 1)] (ln1Oz W n0 n1 n2 n3 n4 met x vs us p0 m0) (ln1Rz W n0 n1 n2 n3 n4 met x vs us p0 m0):=by
 refine K.ykb0 good (A:=ln1Vz) (yha0 ?_) K.yda0 (k:=30) (ent:=(lnE2B W)) (cast (ydt2 W n0 n1 n2 n3 n4 met x vs us p0 m0).symm ?_)
 .intro p hp;simp only [List.mem_cons,List.not_mem_nil,or_false] at hp;rcases hp with rfl | rfl;exact ydb2;exact ysw0
 .unfold S.okLw at hW;have hW0:S.okLw W=true:=hW;simp only [S.yma0] at hW;obtain ⟨w49,w50,w51,w52,w53,w54,w55,w56,w57,w58,w59,w60,w61,w62,w63,w64,w65,w66,w74,w75,w76,w77,w78⟩:=hW;have hN0:=hN;unfold S.okN5 at hN;simp only [S.yma0] at hN;obtain ⟨k0,k1,k2,k3,k4⟩:=hN;obtain ⟨a1,a2,a3⟩:=yat2 w50;obtain ⟨g1,g2,g3⟩:=lw_g1 w75;obtain ⟨b1,b2,b3⟩:=ydm2 w50;obtain ⟨t1,i1⟩:=S.at_tm k1 hx;obtain ⟨t2,i2⟩:=S.at_tm k3 hx
  have fin:∀ p m,S.lP W 1 (S.at160 n1 x)=p->S.lM W 1 (S.at160 n3 x)=m->lnQ1 W n0 n1 n2 n3 n4 met x vs us p0 m0 p m:=by
   intro p m ep em;unfold lnQ1;rw [hW0,hN0,hx,show S.an true (S.an true true)=true from rfl,bc_true];exact ⟨IH p m,rfl,rfl,rfl,rfl,rfl,rfl,rfl,rfl,rfl,rfl,rfl,rfl,rfl,rfl,ep,rfl,em,rfl,rfl,trivial⟩
  have h8:eqI (Int.tmod (wrapK .i64 (Int.tdiv (W 57) 8)) 2) 1=S.hb .u8 (W 57) 8:=S.hb_of 3 w57;have he:eqI (Int.tmod (wrapK .i64 (Int.tdiv (W 66) 2)) 2) 1=S.hb .u8 (W 66) 2:=S.hb_of 1 w66;have hr:eqI (Int.tmod (wrapK .i64 (Int.tdiv (W 78) 2)) 2) 1=S.hb .u8 (W 78) 2:=S.hb_of 1 w78;have c1:=S.dl_ok (l:=6) i1 w50 rfl;have c2:=S.dl_ok (l:=5) i1 w50 rfl;have c3:=S.dl_ok (l:=4) i2 w50 rfl
  have d1:∀ l:Int,4<=l->S.an (S.inR (S.gsel (W 75) (W 63) (W 64)) 256) (S.an (S.inR (S.wid (W 50)) 5) (ltI (S.dlV (W 50) (S.at160 n1 x) l) 1000))=true:=fun l hl=>by
   rw [S.ytt1 w63 w64,S.ytd2,S.dl_lt hl];rfl
  have eP:∀ b l,ltI 1 (S.wid (W 50))=b->bc b 6 5=l->S.lP W 1 (S.at160 n1 x)=S.graph (S.gsel (W 75) (W 63) (W 64)) (S.hb .u8 (W 57) 8) (S.wid (W 50)) (S.dlV (W 50) (S.at160 n1 x) l):=fun b l e1 e2=>by
   subst e1;subst e2;rfl
  have eM:S.lM W 1 (S.at160 n3 x)=S.an (S.hb .u8 (W 66) 2) (S.an (notB (S.hb .u8 (W 78) 2)) (S.an (notB (ltI (S.dlV (W 50) (S.at160 n3 x) 4) 0)) (ltI (S.dlV (W 50) (S.at160 n3 x) 4) (S.brd (W 50))))):=rfl;rw [a1,bc_false,a2,bc_true];refine ⟨a3,?_⟩;cases hA:ltI 1 (S.wid (W 50))
  all_goals
   first | rw [bc_true] | rw [bc_false]
   rw [g1,bc_false,g2,bc_true];refine ⟨g3,?_⟩;rw [t1,t2,h8,he,hr]
   first | rw [c1,d1 6 (by decide)] | rw [c2,d1 5 (by decide)]
   rw [c3,bc_true,bc_true,bc_true,b1,b2];have e0:=eP _ _ hA rfl;cases hE:S.hb .u8 (W 66) 2
   .rw [bc_false];exact fin _ _ e0 (by rw [eM,hE];rfl)
   .rw [bc_true];cases hR:S.hb .u8 (W 78) 2
    .rw [ycb0,bc_true];cases hD:ltI (S.dlV (W 50) (S.at160 n3 x) 4) 0
     .rw [ycb0,bc_true,bc_false,bc_true];refine ⟨b3,?_⟩;exact fin _ _ e0 (by rw [eM,hE,hR,hD];rfl)
     .rw [ydb0,bc_false];exact fin _ _ e0 (by rw [eM,hE,hR,hD];rfl)
    .rw [ydb0,bc_false];exact fin _ _ e0 (by rw [eM,hE,hR];rfl)
theorem yft2 (W:Nat->Int) (n0 n1 n2 n3 n4 met x:Int) (vs us:List LV) (p0 p1 m0 m1:Bool):K.RunL (ln2Vz) K.openE 30 15 191 (inner (inner (blkOf 15 2))) (lnE2B W) [(0,.slice 0 0 81 (.rest 0)),(3,.ptr 1 0),(8,.ptr 2 0),(9,.ptr 3 0),(10,.ptr 4 0),(13,.ptr 5 0),(6,.ptr 6 0),(4,.ptr 7 0),(7,.int .i64 met),(11,.int .i64 (W 55)),(12,.int .i64 x),(14,.int .i64 2)] (ln2Oz W n0 n1 n2 n3 n4 met x vs us p0 p1 m0 m1) .auto (ln2Rz W n0 n1 n2 n3 n4 met x vs us p0 p1 m0 m1) =
  ((0:Nat)=0/\((81:Nat)=81/\(Cap.rest (0:Nat)=Cap.rest 0/\((0:Nat)=0/\((0:Nat)=0/\((0:Nat)=0/\((0:Nat)=0/\((0:Nat)=0/\((0:Nat)=0/\((0:Nat)=0/\(met=met/\(W (55:Nat)=W 55/\(x=x/\(p0=p0/\(p1=p1/\(m0=m0/\(m1=m1/\(false=false/\(false=false/\True))))))))))))))))))):=by kernel_rfl
theorem ygt2 (W:Nat->Int) (n0 n1 n2 n3 n4 met x:Int) (vs us:List LV) (p0 p1 m0 m1:Bool)  : GTr Tryz.prog (inner (inner (blkOf 15 2))) 15 191 [(0,.slice 0 0 81 (.rest 0)),(3,.ptr 1 0),(8,.ptr 2 0),(9,.ptr 3 0),(10,.ptr 4 0),(13,.ptr 5 0),(6,.ptr 6 0),(4,.ptr 7 0),(7,.int .i64 met),(11,.int .i64 (W 55)),(12,.int .i64 x),(14,.int .i64 2)] (ln2Oz W n0 n1 n2 n3 n4 met x vs us p0 p1 m0 m1) (ln2Rz W n0 n1 n2 n3 n4 met x vs us p0 p1 m0 m1):=by
 refine K.ykb0 good (A:=ln2Vz) (yha0 ?_) K.yda0 (k:=30) (ent:=(lnE2B W)) (cast (yft2 W n0 n1 n2 n3 n4 met x vs us p0 p1 m0 m1).symm ?_)
 .intro p hp;simp only [List.mem_cons,List.not_mem_nil,or_false] at hp;rcases hp with rfl | rfl;exact ydb2;exact ysw0
 .exact ⟨rfl,rfl,rfl,rfl,rfl,rfl,rfl,rfl,rfl,rfl,rfl,rfl,rfl,rfl,rfl,rfl,rfl,rfl,rfl,trivial⟩
theorem yaw2 (W:Nat->Int) (n0 n1 n2 n3 n4 met x:Int) (vs us:List LV) (hW:S.okLw W=true) (hN:S.okN5 n0 n1 n2 n3 n4=true) (hx:S.inR x 160=true):ln_B W n0 n1 n2 n3 n4 met x vs us:=by
 have hb:blkOf 15 2=.block 2 (.loop (inner (inner (blkOf 15 2)))):=by kernel_rfl
 unfold ln_B K.BOk;rw [hb];exact K.CT.block (K.GT.loop (yct2 W n0 n1 n2 n3 n4 met x vs us hW hN hx fun p m=>yet2 W n0 n1 n2 n3 n4 met x vs us p m hW hN hx fun p1 m1=>ygt2 W n0 n1 n2 n3 n4 met x vs us p p1 m m1))
namespace S
theorem yud2 {k a b c d:Int} (ha:inR a 256=true) (hb:inR b 256=true) (hc:inR c 256=true) (hd:inR d 256=true):inR (col4 k a b c d) 256=true:=by
 unfold col4;exact bcP (P:=fun x=>inR x 256=true) ha (bcP (P:=fun x=>inR x 256=true) hb (bcP (P:=fun x=>inR x 256=true) hc hd))
theorem half2 {c:Int} (h:inR c 256=true):wrapK .i64 (wrapK .i64 (Int.tdiv c 2)*2)=c / 2*2:=by
 have h1:=yea0.1 h;have e:wrapK .i64 (c / 2)=c / 2:=by rw [yia0];omega
 rw [Int.tdiv_eq_ediv_of_nonneg h1.1,e,yia0];omega
theorem u8_id {v:Int} (h:inR v 256=true):wrapK .u8 v=v:=by
 have h1:=yea0.1 h;rw [ywd0];omega
end S
theorem lw_b {W:Nat->Int} (h:S.inR (W 76) 256=true):ltI (wrapK .i64 (67+Int.tmod (W 76) 2)) 0=false/\ltI (wrapK .i64 (67+Int.tmod (W 76) 2)) 81=true/\T.partOf 3 (S.wLz W) (0+(wrapK .i64 (67+Int.tmod (W 76) 2)).toNat*1)=some (.int .i64 (S.gsel (W 76) (W 67) (W 68))):=by
 have h1:=S.yea0.1 h;unfold S.gsel;rw [(S.yst1 h).2.2,Int.tmod_eq_emod_of_nonneg h1.1];rcases (by omega:W 76 % 2=0\/W 76 % 2=1) with e | e <;> rw [e] <;> exact ⟨rfl,rfl,rfl⟩
theorem lw_s {W:Nat->Int} {s:Int} (h:s=0\/s=1\/s=2\/s=3):ltI (wrapK .i64 (51+s)) 0=false/\ltI (wrapK .i64 (51+s)) 81=true/\T.partOf 3 (S.wLz W) (0+(wrapK .i64 (51+s)).toNat*1)=some (.int .i64 (S.col4 s (W 51) (W 52) (W 53) (W 54))):=by
 rcases h with rfl | rfl | rfl | rfl <;> exact ⟨rfl,rfl,rfl⟩
theorem ybw2 (W:Nat->Int) (n0 n1 n2 n3 n4 met x:Int) (vs us:List LV) (bl:Bool) (hW:S.okLw W=true) (hN:S.okN5 n0 n1 n2 n3 n4=true) (hx:S.inR x 160=true) (hv:lenL vs=160) (IH:∀ vs2,lenL vs2=160->vs2=yua0 vs (0+x.toNat*1) [.int .i64 (S.lPx W n0 n1 n2 n3 n4 x)]->lx_T W n0 n1 n2 n3 n4 (orK .i64 met (S.lMt W n0 n1 n2 n3 n4 x)) (x+1) vs2 us) (hb:S.lB W (S.at160 n4 x)=bl):lxQ W n0 n1 n2 n3 n4 met x vs us bl:=by
 have hW0:=hW;unfold S.okLw at hW;simp only [S.yma0] at hW;obtain ⟨w49,w50,w51,w52,w53,w54,w55,w56,w57,w58,w59,w60,w61,w62,w63,w64,w65,w66,w74,w75,w76,w77,w78⟩:=hW;have hN0:=hN;unfold S.okN5 at hN;simp only [S.yma0] at hN;obtain ⟨k0,k1,k2,k3,k4⟩:=hN;have x1:=S.yea0.1 hx;have w1:wrapK .i64 (x+1)=x+1:=by rw [yia0];omega
 have hs:S.seen (S.lP W 0 (S.at160 n0 x)) (S.lP W 1 (S.at160 n1 x)) (S.lM W 0 (S.at160 n2 x)) (S.lM W 1 (S.at160 n3 x)) bl (S.lit (W 58) (W 59) (W 60) (W 55) x) (W 55) x=S.lSn W n0 n1 n2 n3 n4 x:=by rw [<- hb];rfl
 have hm:S.meet (S.lP W 0 (S.at160 n0 x)) (S.lP W 1 (S.at160 n1 x)) (S.lM W 0 (S.at160 n2 x)) (S.lM W 1 (S.at160 n3 x)) bl (S.lit (W 58) (W 59) (W 60) (W 55) x)=S.lMt W n0 n1 n2 n3 n4 x:=by rw [<- hb];rfl
 have hv2:lenL (yua0 vs (0+x.toNat*1) [.int .i64 (S.lPx W n0 n1 n2 n3 n4 x)])=160:=by
  rw [Ev.lenL_eq] at hv ⊢;rw [yac0 _ _ _ (by simp;omega)];exact hv
 obtain ⟨s1,s2,s3⟩:=lw_s (W:=W) (S.yyc2 (S.lP W 0 (S.at160 n0 x)) (S.lP W 1 (S.at160 n1 x)) (S.lM W 0 (S.at160 n2 x)) (S.lM W 1 (S.at160 n3 x)) bl (S.lit (W 58) (W 59) (W 60) (W 55) x) (W 55) x);rw [hs] at s1 s2 s3;have hp:wrapK .i64 (wrapK .i64 (Int.tdiv (S.col4 (S.lSn W n0 n1 n2 n3 n4 x) (W 51) (W 52) (W 53) (W 54)) 2)*2)=S.lPx W n0 n1 n2 n3 n4 x:=S.half2 (S.yud2 w51 w52 w53 w54);have hk:(160-x).toNat=(160-(x+1)).toNat+1:=by omega
 have y1:S.inR (x+1) 161=true:=S.yea0.2 (by omega);unfold lxQ;rw [S.u8_id w58,S.u8_id w59,S.u8_id w60,w58,w59,w60,w55,hx,show S.an true (S.an true (S.an true (S.an true true)))=true from rfl,bc_true,bc_true,hs,s1,bc_false,s2,bc_true];refine ⟨s3,?_⟩;rw [hp,hm,w1,yfa0.2 x1.1,bc_false,yja0.2 x1.2,bc_true,show Nat.ble (0+x.toNat*1+1) (lenL vs)=true by rw [hv];exact Nat.ble_eq_true_of_le (by omega),bc_true,hW0,hN0,y1,hv2,show S.an true (S.an true (S.an true (Nat.beq 160 160)))=true from rfl,bc_true,hk];exact ⟨IH _ hv2 rfl,rfl,rfl,rfl,rfl,trivial⟩
theorem ycw2 (W:Nat->Int) (n0 n1 n2 n3 n4 met x:Int) (vs us:List LV):K.RunL ((lxVz W)) K.openE 30 15 191 (inner (inner (blkOf 15 0))) (lxEB W) [(0,.slice 0 0 81 (.rest 0)),(3,.ptr 1 0),(8,.ptr 2 0),(9,.ptr 3 0),(10,.ptr 4 0),(6,.ptr 5 0),(4,.ptr 6 0),(7,.int .i64 met),(11,.int .i64 (W 55)),(12,.int .i64 x)] (lxOz W n0 n1 n2 n3 n4 met x vs us) (.fork (.skip 10 (.fork .auto (.skip 1 (.vp (.int .i64 (S.gsel (W 76) (W 67) (W 68))) (.fork (.skip 2 (.fork (.skip 6 (.fork .auto (.skip 2 (.vp (.int .i64 (S.brd (W 55))) (.skip 23 (.fork .auto (.skip 1 (.vp (.int .i64 (S.col4 (S.lSn W n0 n1 n2 n3 n4 x) (W 51) (W 52) (W 53) (W 54))) .auto)))))))) (.skip 28 (.fork .auto (.skip 1 (.vp (.int .i64 (S.col4 (S.lSn W n0 n1 n2 n3 n4 x) (W 51) (W 52) (W 53) (W 54))) .auto)))))) (.skip 31 (.fork .auto (.skip 1 (.vp (.int .i64 (S.col4 (S.lSn W n0 n1 n2 n3 n4 x) (W 51) (W 52) (W 53) (W 54))) .auto))))))))) .auto) (lxRz W n0 n1 n2 n3 n4 met x vs us) =
  (bc (ltI x 160) (bc (S.an (S.okLw W) (S.an (S.okN5 n0 n1 n2 n3 n4) (S.inR x 160))) (ln_B W n0 n1 n2 n3 n4 met x vs us/\(bc (S.okDl (Int.tmod (wrapK .i64 (n4+x)) 160) 0 4 0 0 0) (bc (ltI (wrapK .i64 (67+Int.tmod (W 76) 2)) 0) False (bc (ltI (wrapK .i64 (67+Int.tmod (W 76) 2)) ↑81) (T.partOf 3 (S.wLz W) (0+Int.toNat (wrapK .i64 (67+Int.tmod (W 76) 2))*1)=some (LV.int .i64 (S.gsel (W 76) (W 67) (W 68)))/\(bc (eqI (S.gsel (W 76) (W 67) (W 68)) 1) (bc (notB (ltI (S.dlV 0 (Int.tmod (wrapK .i64 (n4+x)) 160) 4) 0)) (bc (ltI (Int.tmod (wrapK .i64 (Int.tdiv (W 55) 16)) 4) 0) False (bc (ltI (Int.tmod (wrapK .i64 (Int.tdiv (W 55) 16)) 4) ↑4) (T.partOf 3 [LV.int .i64 1,LV.int .i64 2,LV.int .i64 4,LV.int .i64 8] (0+Int.toNat (Int.tmod (wrapK .i64 (Int.tdiv (W 55) 16)) 4)*1)=some (LV.int .i64 (S.brd (W 55)))/\(lxQ W n0 n1 n2 n3 n4 met x vs us (ltI (S.dlV 0 (Int.tmod (wrapK .i64 (n4+x)) 160) 4) (S.brd (W 55))))) False)) (lxQ W n0 n1 n2 n3 n4 met x vs us false)) (lxQ W n0 n1 n2 n3 n4 met x vs us false))) False)) False)) False) ((0:Nat)=0/\((0:Nat)=0/\(S.lnM W n0 n1 n2 n3 n4 (Int.toNat (160-x)) x met=met/\(S.lnV W n0 n1 n2 n3 n4 (Int.toNat (160-x)) x vs=vs/\True))))):=by kernel_rfl
theorem yht2 (W:Nat->Int) (n0 n1 n2 n3 n4 met x:Int) (vs us:List LV) (hW:S.okLw W=true) (hN:S.okN5 n0 n1 n2 n3 n4=true) (hx:S.inR x 161=true) (hv:lenL vs=160) (IH:x<160->∀ vs2,lenL vs2=160->vs2=yua0 vs (0+x.toNat*1) [.int .i64 (S.lPx W n0 n1 n2 n3 n4 x)]->lx_T W n0 n1 n2 n3 n4 (orK .i64 met (S.lMt W n0 n1 n2 n3 n4 x)) (x+1) vs2 us):GTr Tryz.prog (inner (inner (blkOf 15 0))) 15 191 [(0,.slice 0 0 81 (.rest 0)),(3,.ptr 1 0),(8,.ptr 2 0),(9,.ptr 3 0),(10,.ptr 4 0),(6,.ptr 5 0),(4,.ptr 6 0),(7,.int .i64 met),(11,.int .i64 (W 55)),(12,.int .i64 x)] (lxOz W n0 n1 n2 n3 n4 met x vs us) (lxRz W n0 n1 n2 n3 n4 met x vs us):=by
 refine K.ykb0 good (A:=(lxVz W)) (yaj0 ?_) K.yda0 (k:=30) (ent:=(lxEB W)) (cast (ycw2 W n0 n1 n2 n3 n4 met x vs us).symm ?_)
 .intro p hp;simp only [List.mem_cons,List.not_mem_nil,or_false] at hp;rcases hp with rfl | rfl | rfl | rfl;exact ydb2;exact yvs2;exact ybm2;exact ycm2
 .have hW0:=hW;unfold S.okLw at hW;simp only [S.yma0] at hW;obtain ⟨w49,w50,w51,w52,w53,w54,w55,w56,w57,w58,w59,w60,w61,w62,w63,w64,w65,w66,w74,w75,w76,w77,w78⟩:=hW;have hN0:=hN;unfold S.okN5 at hN;simp only [S.yma0] at hN;obtain ⟨k0,k1,k2,k3,k4⟩:=hN;have x1:=S.yea0.1 hx;cases hl:ltI x 160 with
  | false =>
   have:=yfa0.1 hl;rw [bc_false,show (160-x).toNat=0 by omega];exact ⟨rfl,rfl,rfl,rfl,trivial⟩
  | true =>
   have hi:=yja0.1 hl;have hx2:S.inR x 160=true:=S.yea0.2 (by omega);obtain ⟨t1,i1⟩:=S.at_tm k4 hx2;obtain ⟨g1,g2,g3⟩:=lw_b w76;obtain ⟨b1,b2,b3⟩:=ydm2 w55;have c3:=S.dl_ok (l:=4) (q:=0) i1 rfl rfl;have fin:∀ bl,S.lB W (S.at160 n4 x)=bl->lxQ W n0 n1 n2 n3 n4 met x vs us bl:=fun bl e=>ybw2 W n0 n1 n2 n3 n4 met x vs us bl hW0 hN0 hx2 hv (IH hi) e
   have eB:S.lB W (S.at160 n4 x)=S.an (eqI (S.gsel (W 76) (W 67) (W 68)) 1) (S.an (notB (ltI (S.dlV 0 (S.at160 n4 x) 4) 0)) (ltI (S.dlV 0 (S.at160 n4 x) 4) (S.brd (W 55)))):=rfl;rw [bc_true,hW0,hN0,hx2,show S.an true (S.an true true)=true from rfl,bc_true];refine ⟨yaw2 W n0 n1 n2 n3 n4 met x vs us hW0 hN0 hx2,?_⟩;rw [t1,c3,bc_true,g1,bc_false,g2,bc_true];refine ⟨g3,?_⟩;cases hE:eqI (S.gsel (W 76) (W 67) (W 68)) 1
   .rw [bc_false];exact fin _ (by rw [eB,hE];rfl)
   .rw [bc_true];cases hD:ltI (S.dlV 0 (S.at160 n4 x) 4) 0
    .rw [ycb0,bc_true,b1,bc_false,b2,bc_true];refine ⟨b3,?_⟩;exact fin _ (by rw [eB,hE,hD];rfl)
    .rw [ydb0,bc_false];exact fin _ (by rw [eB,hE,hD];rfl)
theorem ydw2 (W:Nat->Int) (n0 n1 n2 n3 n4:Int) (us:List LV) (hW:S.okLw W=true) (hN:S.okN5 n0 n1 n2 n3 n4=true):∀ (j:Nat) (met x:Int) (vs:List LV),S.inR x 161=true->lenL vs=160->(160-x).toNat=j->lx_T W n0 n1 n2 n3 n4 met x vs us:=by
 intro j
 induction j with
 | zero =>
  intro met x vs hx hv hj;exact yht2 W n0 n1 n2 n3 n4 met x vs us hW hN hx hv fun hi=>by omega
 | succ j ih =>
  intro met x vs hx hv hj;have x1:=S.yea0.1 hx;refine yht2 W n0 n1 n2 n3 n4 met x vs us hW hN hx hv fun hi vs2 hv2 _=>ih _ (x+1) vs2 (S.yea0.2 (by omega)) hv2 (by omega)
theorem yew2 (W:Nat->Int) (n0 n1 n2 n3 n4 met x:Int) (vs us:List LV) (hW:S.okLw W=true) (hN:S.okN5 n0 n1 n2 n3 n4=true) (hx:S.inR x 161=true) (hv:lenL vs=160):lx_B W n0 n1 n2 n3 n4 met x vs us:=by
 have hb:blkOf 15 0=.block 0 (.loop (inner (inner (blkOf 15 0)))):=by kernel_rfl
 unfold lx_B K.BOk;rw [hb];exact K.CT.block (K.GT.loop (ydw2 W n0 n1 n2 n3 n4 us hW hN _ met x vs hx hv rfl))
theorem yvd2 {V:List LV} {r:Prop} (h:r):∀ k j,fEqN V r k j
 | 0,_=>h
 | k+1,j=>⟨rfl,yvd2 h k (j+1)⟩
theorem ywd2 (W:Nat->Int) (n0 n1 n2 n3 n4:Int):∀ (k:Nat) (x:Nat) (vs:List LV),x+k<=vs.length->(S.lnV W n0 n1 n2 n3 n4 k ((x:Nat):Int) vs).length=vs.length
 | 0,_,_,_=>rfl
 | k+1,x,vs,h=>by
  have l:(yua0 vs (0+((x:Nat):Int).toNat*1) [.int .i64 (S.lPx W n0 n1 n2 n3 n4 ((x:Nat):Int))]).length=vs.length:=yac0 _ _ _ (by simp;omega);have i:=ywd2 W n0 n1 n2 n3 n4 k (x+1) (yua0 vs (0+((x:Nat):Int).toNat*1) [.int .i64 (S.lPx W n0 n1 n2 n3 n4 ((x:Nat):Int))]) (by rw [l];omega);show (S.lnV W n0 n1 n2 n3 n4 k (((x:Nat):Int)+1) _).length=_;rw [show ((x:Nat):Int)+1=((x+1:Nat):Int) by push_cast;rfl,i,l]
theorem yit2 (W:Nat->Int) (n0 n1 n2 n3 n4:Int):∀ (k:Nat) (x:Nat) (vs:List LV) (j:Nat),x+k=vs.length->j<vs.length->K.atV (S.lnV W n0 n1 n2 n3 n4 k ((x:Nat):Int) vs) j=if j<x then K.atV vs j else .int .i64 (S.lPx W n0 n1 n2 n3 n4 ((j:Nat):Int))
 | 0,x,vs,j,h,hj=>by rw [if_pos (by omega)];rfl
 | k+1,x,vs,j,h,hj=>by
  have l:(yua0 vs (0+((x:Nat):Int).toNat*1) [.int .i64 (S.lPx W n0 n1 n2 n3 n4 ((x:Nat):Int))]).length=vs.length:=yac0 _ _ _ (by simp;omega);have i:=yit2 W n0 n1 n2 n3 n4 k (x+1) (yua0 vs (0+((x:Nat):Int).toNat*1) [.int .i64 (S.lPx W n0 n1 n2 n3 n4 ((x:Nat):Int))]) j (by rw [l];omega) (by rw [l];exact hj);show K.atV (S.lnV W n0 n1 n2 n3 n4 k (((x:Nat):Int)+1) _) j=_;rw [show ((x:Nat):Int)+1=((x+1:Nat):Int) by push_cast;rfl,i]
  have e:yua0 vs (0+((x:Nat):Int).toNat*1) [.int .i64 (S.lPx W n0 n1 n2 n3 n4 ((x:Nat):Int))]=vs.set x (.int .i64 (S.lPx W n0 n1 n2 n3 n4 ((x:Nat):Int))):=by
   rw [yho0,yjs0,show 0+((x:Nat):Int).toNat*1=x by simp];rfl
  rw [e];by_cases a:j<x
  .rw [if_pos a,if_pos (by omega)];unfold K.atV;rw [List.getD_eq_getElem?_getD,List.getD_eq_getElem?_getD,List.getElem?_set_ne (by omega)]
  .rw [if_neg a];by_cases b:j=x
   .subst b;rw [if_pos (by omega)];unfold K.atV;rw [List.getD_eq_getElem?_getD,List.getElem?_set_self hj];rfl
   .rw [if_neg (by omega)]
theorem yjt2 (W:Nat->Int) (n0 n1 n2 n3 n4:Int) {V:List LV} (h:∀ j,j<160->K.atV V j=.int .i64 (S.lPx W n0 n1 n2 n3 n4 ((j:Nat):Int))):∀ (k j:Nat),j+k<=160->fLN V k j=pxN W n0 n1 n2 n3 n4 k j
 | 0,_,_=>rfl
 | k+1,j,hj=>by
  show .int .i64 (intOf (K.atV V j))::fLN V k (j+1)=.int .i64 _::pxN W n0 n1 n2 n3 n4 k (j+1);rw [h j (by omega),yjt2 W n0 n1 n2 n3 n4 h k (j+1) (by omega)];rfl
theorem yfw2 (W:Nat->Int) (n0 n1 n2 n3 n4:Int):fLN (S.lnV W n0 n1 n2 n3 n4 160 0 zLz) 160 0=pxN W n0 n1 n2 n3 n4 160 0:=by
 refine yjt2 W n0 n1 n2 n3 n4 (fun j hj=>?_) 160 0 (by omega);have e:=yit2 W n0 n1 n2 n3 n4 160 0 zLz j rfl hj;rw [if_neg (by omega)] at e;exact e
theorem yem2 (W:Nat->Int) (n0 n1 n2 n3 n4:Int) (V:List LV) (M:Int):K.bodyF (envB [] (fun g id=>bc (Nat.beq g 15) (bc (Nat.beq id 0) (some (lxVB W V M)) (none)) (none))) (K.runF (envB [] (fun g id=>bc (Nat.beq g 15) (bc (Nat.beq id 0) (some (lxVB W V M)) (none)) (none))) 30) 15 [.slice 0 0 81 (.rest 0),.agg [.int .i64 n0,.int .i64 n1,.int .i64 n2,.int .i64 n3,.int .i64 n4]] (Heap.of [.cells 3 (.grow 1) (S.wLz W)]) Hint.auto (K.endC K.openE 1 ⟨.ret (.tup [.agg (fLN V 160 0),.int .i64 M]),[],[]⟩) =
  (bc (S.an (S.okLw W) (S.an (S.okN5 n0 n1 n2 n3 n4) (S.an (S.inR 0 161) (Nat.beq 160 160)))) (lxV_B W n0 n1 n2 n3 n4 0 0 zLz zLz V M/\(bc (Nat.ble 160 (lenL V)) (fEqN V (M=M/\True) 160 0) False)) False):=by kernel_rfl
theorem yfm2 (W:Nat->Int) (n0 n1 n2 n3 n4:Int) (V:List LV) (M:Int) (h0:S.an (S.okLw W) (S.okN5 n0 n1 n2 n3 n4)=true) (hV:V=S.lnV W n0 n1 n2 n3 n4 (Int.toNat (160-0)) 0 zLz) (hM:M=S.lnM W n0 n1 n2 n3 n4 (Int.toNat (160-0)) 0 0):HTr Tryz.prog 15 [.slice 0 0 81 (.rest 0),.agg [.int .i64 n0,.int .i64 n1,.int .i64 n2,.int .i64 n3,.int .i64 n4]] [.cells 3 (.grow 1) (S.wLz W)] ⟨.ret (.tup [.agg (fLN V 160 0),.int .i64 M]),[],[]⟩:=by
 refine K.yba0 good (A:=envB [] (fun g id=>bc (Nat.beq g 15) (bc (Nat.beq id 0) (some (lxVB W V M)) (none)) (none))) (yaj0 ?_) K.yda0 (k:=30) (cast (yem2 W n0 n1 n2 n3 n4 V M).symm ?_)
 .intro p hp;cases hp
 .obtain ⟨hW,hN⟩:=S.yma0.1 h0
  have hV2:lenL V=160:=by
   rw [hV,Ev.lenL_eq];exact ywd2 W n0 n1 n2 n3 n4 160 0 zLz (Nat.le_refl 160)
  have B:lxV_B W n0 n1 n2 n3 n4 0 0 zLz zLz V M:=by
   rw [hV,hM];exact yew2 W n0 n1 n2 n3 n4 0 0 zLz zLz hW hN rfl rfl
  rw [hW,hN,show S.an true (S.an true (S.an (S.inR 0 161) (Nat.beq 160 160)))=true from rfl,bc_true];refine ⟨B,?_⟩;rw [hV2,show Nat.ble 160 160=true from rfl,bc_true];exact yvd2 ⟨rfl,trivial⟩ 160 0
theorem ykt2 (W:Nat->Int) (n0 n1 n2 n3 n4:Int) (h0:S.an (S.okLw W) (S.okN5 n0 n1 n2 n3 n4)=true):HTr Tryz.prog 15 [.slice 0 0 81 (.rest 0),.agg [.int .i64 n0,.int .i64 n1,.int .i64 n2,.int .i64 n3,.int .i64 n4]] [.cells 3 (.grow 1) (S.wLz W)] ⟨.ret (.tup [.agg (pxN W n0 n1 n2 n3 n4 160 0),.int .i64 (S.lnM W n0 n1 n2 n3 n4 160 0 0)]),[],[]⟩:=by
 have h:=yfm2 W n0 n1 n2 n3 n4 _ _ h0 rfl rfl;rw [<- yfw2];exact h
theorem ygw2 (W:Nat->Int):S.wLz W=(List.range 81).map fun j=>.int .i64 (W j):=by kernel_rfl
theorem ygm2:kLwE.ok Tryz.prog 15:=by
 intro xs os b r h h3;unfold kLwE at h;simp only at h;split at h
 .split at h
  .rename_i t ws;cases hc:S.an (Nat.beq t 3) (S.an (S.allI ws) (Nat.beq (lenL ws) 81)) with
   | false=>rw [hc,bc_false] at h;cases h
   | true =>
    rw [hc,bc_true] at h;simp only [S.yma0] at hc;obtain ⟨a,d,e⟩:=hc;have a:=Nat.eq_of_beq_eq_true a;subst a;injection h with h;injection h with h1 h2;subst h1;subst h2;have key:=ykt2 (S.Wof ws) _ _ _ _ _ h3;rw [ygw2,<- S.ws_eq d (Nat.eq_of_beq_eq_true e)] at key;exact key
  .cases h
 .cases h
namespace S
theorem yhm2 (v:Int):inR (clr v 1) 256=true:=by
 unfold clr;rw [yea0,<- K.yqd0,ywd0];omega
theorem yhw2 (c:Chip):inR (pv c) 256=true:=yhm2 _
end S
theorem yiw2 (c:S.Chip) (i:Int):K.RunL (wlVz) K.openE 30 3 118 (inner (inner (blkOf 3 0))) wlEB [(5,.ptr 0 0),(6,.int .i64 i)] (S.hp0 c) Hint.auto ⟨.exit 0,[(5,.ptr 0 0)],(hpCh (S.wtC 68 c)),[]⟩ =
  (bc (ltI i 228) (bc (S.okC c) (bc (S.okC c) (bc (notB (eqI (S.wd c 0) 68)) (bc (S.okC c) (bc (S.an (S.okQ (S.stepC c)) (S.an (notB (ltI (wrapK .i64 (i+1)) 0)) (notB (ltI 228 (wrapK .i64 (i+1)+(68-S.pos (S.stepC c)) % 228))))) (wl_T (S.stepC c) (wrapK .i64 (i+1))/\((0:Nat)=0/\(S.eqC (S.wtC 68 c) (S.wtC 68 (S.stepC c)) True))) False) False) ((0:Nat)=0/\(S.eqC (S.wtC 68 c) c True))) False) False) ((0:Nat)=0/\(S.eqC (S.wtC 68 c) c True))):=by kernel_rfl
theorem ylt2 (c:S.Chip) (i:Int) (h0:S.okQ c=true) (h2:0<=i) (h3:i+(68-S.pos c) % 228<=228) (IH:S.pos c≠68->wl_T (S.stepC c) (i+1)):GTr Tryz.prog (inner (inner (blkOf 3 0))) 3 118 [(5,.ptr 0 0),(6,.int .i64 i)] (S.hp0 c) ⟨.exit 0,[(5,.ptr 0 0)],(hpCh (S.wtC 68 c)),[]⟩:=by
 refine K.ykb0 good (A:=wlVz) (yha0 ?_) K.yda0 (k:=30) (ent:=wlEB) (cast (yiw2 c i).symm ?_)
 .intro p hp;simp only [List.mem_cons,List.not_mem_nil,or_false] at hp;rcases hp with rfl | rfl;exact ysu0;exact yjl0
 .have hC:=S.okQ_C h0;have e0:S.wd c 0=S.pos c:=rfl;have r:=S.yqv2 68 c
  have fin:S.pos c=68->((0:Nat)=0/\S.eqC (S.wtC 68 c) c True):=fun e=>by
   rw [S.yyi0 (S.wtC_z e)];exact ⟨rfl,trivial⟩
  have p:=S.ynh0 hC;cases hl:ltI i 228 with
  | false =>
   have:=yfa0.1 hl;rw [bc_false];exact fin (by omega)
  | true =>
   have hi:=yja0.1 hl;rw [bc_true,hC,bc_true,bc_true,e0];by_cases e:S.pos c=68
   .rw [ypa0.2 e,ydb0,bc_false];exact fin e
   .obtain ⟨w1,w2⟩:=S.wtC_s (u:=68) hC (by decide) (by decide) e;have w:wrapK .i64 (i+1)=i+1:=by rw [yia0];omega
    rw [ysa0.2 e,ycb0,bc_true,bc_true,w,S.yck0 h0,show notB (ltI (i+1) 0)=true by rw [yab0,yfa0];omega,show notB (ltI 228 (i+1+(68-S.pos (S.stepC c)) % 228))=true by rw [yab0,yfa0];omega,S.yyi0 w1];exact ⟨IH e,rfl,trivial⟩
theorem yjw2:∀ (j:Nat) (c:S.Chip) (i:Int),S.okQ c=true->0<=i->i+(68-S.pos c) % 228<=228->((68-S.pos c) % 228).toNat=j->wl_T c i:=by
 intro j
 induction j with
 | zero =>
  intro c i h0 h2 h3 hj;exact ylt2 c i h0 h2 h3 fun e=>by have:=S.wtC_s (u:=68) (S.okQ_C h0) (by decide) (by decide) e;omega
 | succ j ih =>
  intro c i h0 h2 h3 hj;refine ylt2 c i h0 h2 h3 fun e=>?_
  obtain ⟨w1,w2⟩:=S.wtC_s (u:=68) (S.okQ_C h0) (by decide) (by decide) e;exact ih _ (i+1) (S.yck0 h0) (by omega) (by omega) (by omega)
theorem ykw2 (c:S.Chip) (i:Int) (h0:S.okQ c=true) (h2:0<=i) (h3:i+(68-S.pos c) % 228<=228):wl_B c i:=by
 have hb:blkOf 3 0=.block 0 (.loop (inner (inner (blkOf 3 0)))):=by kernel_rfl
 unfold wl_B K.BOk;rw [hb];exact K.CT.block (K.GT.loop (yjw2 _ c i h0 h2 h3 rfl))
theorem ylw2 (W:Nat->Int) (mt:Int) (vs:List LV) (c:S.Chip) (x:Int):K.RunL (envL [(14,ymu0)]) K.openE 30 3 118 (inner (inner (blkOf 3 2))) lqEB [(5,.ptr 0 0),(7,.slice 40 0 81 (.rest 0)),(8,.ptr 41 0),(9,.int .i64 mt),(10,.int .i64 x)] (S.hp0 c++[.cells 3 (.grow 1) (S.wLz W),.flat [.i .i64] 32 .exact vs]) Hint.auto ⟨.exit 2,[(5,.ptr 0 0),(7,.slice 40 0 81 (.rest 0)),(9,.int .i64 mt)],(hpCh (S.goC (160-x).toNat c)),[]⟩ =
  (bc (ltI x 160) (bc (S.okC c) (bc (eqI (Int.tmod (wrapK .i64 (Int.tdiv (W 48) 2)) 2) 0) (bc (ltI x 0) False (bc (ltI x ↑160) (bc (Nat.ble (0+Int.toNat x*1+1) (lenL vs)) (bc (notB (eqI (wrapK .i64 (S.dPix c)) (intOf (K.atV vs (0+Int.toNat x*1))))) False (bc (eqI (Int.tmod (wrapK .i64 (Int.tdiv (W 48) 2)) 2) 1) (bc (notB (eqI (S.dPix c) 0)) False (bc (notB (eqI (S.dClk c) (wrapK .i64 (68+x)))) False (bc (S.an (S.okQ (S.stepC c)) (S.inR (wrapK .i64 (x+1)) 161)) (lq_T W mt vs (S.stepC c) (wrapK .i64 (x+1))/\((0:Nat)=0/\((0:Nat)=0/\((81:Nat)=81/\(Cap.rest (0:Nat)=Cap.rest 0/\(mt=mt/\(S.eqC (S.goC (Int.toNat (160-x)) c) (S.goC (Int.toNat (160-wrapK .i64 (x+1))) (S.stepC c)) True))))))) False))) (bc (notB (eqI (S.dClk c) (wrapK .i64 (68+x)))) False (bc (S.an (S.okQ (S.stepC c)) (S.inR (wrapK .i64 (x+1)) 161)) (lq_T W mt vs (S.stepC c) (wrapK .i64 (x+1))/\((0:Nat)=0/\((0:Nat)=0/\((81:Nat)=81/\(Cap.rest (0:Nat)=Cap.rest 0/\(mt=mt/\(S.eqC (S.goC (Int.toNat (160-x)) c) (S.goC (Int.toNat (160-wrapK .i64 (x+1))) (S.stepC c)) True))))))) False)))) False) False)) (bc (eqI (Int.tmod (wrapK .i64 (Int.tdiv (W 48) 2)) 2) 1) (bc (notB (eqI (S.dPix c) 0)) False (bc (notB (eqI (S.dClk c) (wrapK .i64 (68+x)))) False (bc (S.an (S.okQ (S.stepC c)) (S.inR (wrapK .i64 (x+1)) 161)) (lq_T W mt vs (S.stepC c) (wrapK .i64 (x+1))/\((0:Nat)=0/\((0:Nat)=0/\((81:Nat)=81/\(Cap.rest (0:Nat)=Cap.rest 0/\(mt=mt/\(S.eqC (S.goC (Int.toNat (160-x)) c) (S.goC (Int.toNat (160-wrapK .i64 (x+1))) (S.stepC c)) True))))))) False))) (bc (notB (eqI (S.dClk c) (wrapK .i64 (68+x)))) False (bc (S.an (S.okQ (S.stepC c)) (S.inR (wrapK .i64 (x+1)) 161)) (lq_T W mt vs (S.stepC c) (wrapK .i64 (x+1))/\((0:Nat)=0/\((0:Nat)=0/\((81:Nat)=81/\(Cap.rest (0:Nat)=Cap.rest 0/\(mt=mt/\(S.eqC (S.goC (Int.toNat (160-x)) c) (S.goC (Int.toNat (160-wrapK .i64 (x+1))) (S.stepC c)) True))))))) False)))) False) ((0:Nat)=0/\((0:Nat)=0/\((81:Nat)=81/\(Cap.rest (0:Nat)=Cap.rest 0/\(mt=mt/\(S.eqC (S.goC (Int.toNat (160-x)) c) c True))))))):=by kernel_rfl
theorem ymt2 (W:Nat->Int) (mt:Int) (vs:List LV) (c:S.Chip) (x:Int) (h0:S.LnOk W vs c x) (IH:x<160->S.LnOk W vs (S.stepC c) (x+1)->lq_T W mt vs (S.stepC c) (x+1)):GTr Tryz.prog (inner (inner (blkOf 3 2))) 3 118 [(5,.ptr 0 0),(7,.slice 40 0 81 (.rest 0)),(8,.ptr 41 0),(9,.int .i64 mt),(10,.int .i64 x)] (S.hp0 c++[.cells 3 (.grow 1) (S.wLz W),.flat [.i .i64] 32 .exact vs]) ⟨.exit 2,[(5,.ptr 0 0),(7,.slice 40 0 81 (.rest 0)),(9,.int .i64 mt)],(hpCh (S.goC (160-x).toNat c)),[]⟩:=by
 refine K.ykb0 good (A:=envL [(14,ymu0)]) (yha0 ?_) K.yda0 (k:=30) (ent:=lqEB) (cast (ylw2 W mt vs c x).symm ?_)
 .intro p hp;simp only [List.mem_cons,List.not_mem_nil,or_false] at hp;rcases hp with rfl;exact ysu0
 .obtain ⟨ok,st,x0,x1,ps,⟨vb,vr⟩,len,px⟩:=h0;have hC:=S.okZ_C ok;cases hl:ltI x 160 with
  | false =>
   have:=yfa0.1 hl;rw [bc_false,show (160-x).toNat=0 by omega,S.yyi0 (a:=S.goC 0 c) (b:=c) rfl];exact ⟨rfl,rfl,rfl,rfl,rfl,trivial⟩
  | true =>
   have hi:=yja0.1 hl;have hw:S.inR (W 48) 256=true:=by rw [vb];exact vr
   have hb1:eqI (Int.tmod (wrapK .i64 (Int.tdiv (W 48) 2)) 2) 1=S.hb .u8 c.r0.x1 2:=by rw [<- vb];exact S.hb_of 1 hw
   have dk:=S.yeq0 ok st;rw [ps,yfa0.2 (by omega)] at dk
   have eD:S.dPix c=bc (S.hb .u8 c.r0.x1 2) 0 (S.pv c):=by
    show bc (S.orb (S.sDark c.ba c.bs c.late) (S.hb .u8 c.r0.x1 2)) 0 (S.pv c)=_;rw [dk];rfl
   have eC:eqI (S.dClk c) (wrapK .i64 (68+x))=true:=by
    rw [ypa0];show S.pos c=_;rw [ps,yia0];omega
   have w1:wrapK .i64 (x+1)=x+1:=by rw [yia0];omega
   have nx:S.LnOk W vs (S.stepC c) (x+1):=by
    refine ⟨S.ynf0 ok,S.yll0 ok st,by omega,by omega,?_,⟨vb,vr⟩,len,fun k hk=>?_⟩
    .rw [S.ytm0 hC,ps];omega
    .have:=px (k+1) (by push_cast;omega);rw [show x+((k+1:Nat):Int)=x+1+(k:Int) by push_cast;omega] at this;exact this
   have g1:S.inR (x+1) 161=true:=S.yea0.2 (by omega)
   have fin:bc (S.an (S.okQ (S.stepC c)) (S.inR (x+1) 161)) (lq_T W mt vs (S.stepC c) (x+1)/\((0:Nat)=0/\((0:Nat)=0/\((81:Nat)=81/\(Cap.rest (0:Nat)=Cap.rest (0:Nat)/\(mt=mt/\(S.eqC (S.goC (160-x).toNat c) (S.goC (160-(x+1)).toNat (S.stepC c)) True))))))) False:=by
    rw [S.yck0 (S.okZ_Q ok),g1,show S.an true true=true from rfl,bc_true,S.yyi0 (S.go_lt c hi)];exact ⟨IH hi nx,rfl,rfl,rfl,rfl,rfl,trivial⟩
   rw [bc_true,hC,bc_true,w1]
   have v01:Int.tmod (wrapK .i64 (Int.tdiv (W 48) 2)) 2=0\/Int.tmod (wrapK .i64 (Int.tdiv (W 48) 2)) 2=1:=by
    have h1:=S.yea0.1 hw;have e1:wrapK .i64 (W 48 / 2)=W 48 / 2:=by rw [yia0];omega
    rw [Int.tdiv_eq_ediv_of_nonneg h1.1,e1,Int.tmod_eq_emod_of_nonneg (by omega)];omega
   rcases v01 with v | v
   .rw [v] at hb1 ⊢;have hf:S.hb .u8 c.r0.x1 2=false:=hb1.symm;have pr:=px 0 (by omega);have pc:S.inR (S.pv c) 256=true:=S.yhw2 c;have p1:=S.yea0.1 pc
    have eV:eqI (wrapK .i64 (S.dPix c)) (intOf (K.atV vs (0+x.toNat*1)))=true:=by
     rw [eD,hf,bc_false,ypa0,yia0,show 0+x.toNat*1=(x+((0:Nat):Int)).toNat by omega,pr];show _=S.pv c;omega
    rw [show eqI 0 0=true from rfl,bc_true,yfa0.2 x0,bc_false,bc_true,show Nat.ble (0+x.toNat*1+1) (lenL vs)=true by rw [len];exact Nat.ble_eq_true_of_le (by omega),bc_true,eV,ydb0,bc_false,show eqI 0 1=false from rfl,bc_false,eC,ydb0,bc_false];exact fin
   .rw [v] at hb1 ⊢;have hf:S.hb .u8 c.r0.x1 2=true:=hb1.symm;have e0:eqI (S.dPix c) 0=true:=by rw [eD,hf,bc_true];rfl
    rw [show eqI 1 0=false from rfl,bc_false,show eqI 1 1=true from rfl,bc_true,e0,ydb0,bc_false,eC,ydb0,bc_false];exact fin
theorem ymw2 (W:Nat->Int) (mt:Int) (vs:List LV):∀ (j:Nat) (c:S.Chip) (x:Int),S.LnOk W vs c x->(160-x).toNat=j->lq_T W mt vs c x:=by
 intro j
 induction j with
 | zero =>
  intro c x h0 hj;exact ymt2 W mt vs c x h0 fun hi _=>by omega
 | succ j ih =>
  intro c x h0 hj;exact ymt2 W mt vs c x h0 fun hi h1=>ih _ (x+1) h1 (by omega)
theorem yim2 (W:Nat->Int) (mt:Int) (vs:List LV) (c:S.Chip) (x:Int) (h0:S.LnOk W vs c x):lq_B W mt vs c x:=by
 have hb:blkOf 3 2=.block 2 (.loop (inner (inner (blkOf 3 2)))):=by kernel_rfl
 unfold lq_B K.BOk;rw [hb];exact K.CT.block (K.GT.loop (ymw2 W mt vs _ c x h0 rfl))
end Go.Proofs.YtnpbgnjiihecgaaGreat.Ev
