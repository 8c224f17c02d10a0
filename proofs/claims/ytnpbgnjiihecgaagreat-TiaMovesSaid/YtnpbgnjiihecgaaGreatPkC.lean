/- Contracts, proved: Tso. Contracts, proved: Trd. Contracts, proved: Tww. Contracts, proved: Tqa. Contracts, proved: Tqb. Contracts, proved: Tqc. Contracts, proved: Tqd. Contracts, proved: Tqe. Contracts, proved: Tsx. Contracts, proved: Tsy. Contracts, proved: Tsz. Contracts, proved: Tcp. Contracts, proved: Tqs. Contracts, proved: Tms. Contracts, proved: Tmt. -/
import Derived.Test.YtnpbgnjiihecgaaGreatPkA
import Derived.Test.YtnpbgnjiihecgaaGreatPkB
import Derived.Test.YtnpbgnjiihecgaaGreatArg
set_option linter.unusedVariables false
set_option linter.unusedSimpArgs false
set_option maxRecDepth 100000
set_option maxHeartbeats 1000000
namespace Go.Proofs.YtnpbgnjiihecgaaGreat.Ev
open Go
namespace S
theorem rg_t (a v old:Int):rg a a v old=v:=by unfold rg;rw [ymq0];rfl
theorem rg_f {a j:Int} (v old:Int) (h:a≠j):rg a j v old=old:=by unfold rg;rw [ycb0.2 h];rfl
theorem rb_t (a:Int) (v old:Bool):rb a a v old=v:=by unfold rb;rw [ymq0];rfl
theorem rb_f {a j:Int} (v old:Bool) (h:a≠j):rb a j v old=old:=by unfold rb;rw [ycb0.2 h];rfl
theorem frW_f {a j:Int} (was v:Int) (h:a≠j):frW a j was v=false:=by unfold frW;rw [ycb0.2 h];rfl
theorem frW_t (a was v:Int):frW a a was v=an (hb .u8 was 2) (notB (hb .u8 v 2)):=by unfold frW;rw [ymq0];rfl
theorem yys2 (addr:Int):0<=adr addr/\adr addr<64:=by
 unfold adr;rw [K.ydf1]
 have h:(BitVec.ofInt IntKind.u16.bits addr &&& BitVec.ofInt IntKind.u16.bits 63).toNat<=63:=by
  rw [BitVec.toNat_and];exact Nat.le_trans Nat.and_le_right (by decide)
 generalize (BitVec.ofInt IntKind.u16.bits addr &&& BitVec.ofInt IntKind.u16.bits 63).toNat=n at h
 have e:IntKind.u16.wrap (n:Int)=n:=by
  rw [<- K.yce0,yve0];omega
 rw [e,yja0];omega
theorem yzs2 (addr:Int):(bc (eqI (adr addr) 0) true (bc (eqI (adr addr) 1) true (bc (eqI (adr addr) 2) true (bc (eqI (adr addr) 3) true (bc (eqI (adr addr) 4) true (bc (eqI (adr addr) 5) true (bc (eqI (adr addr) 6) true (bc (eqI (adr addr) 7) true (bc (eqI (adr addr) 8) true (bc (eqI (adr addr) 9) true (bc (eqI (adr addr) 10) true (bc (eqI (adr addr) 11) true (bc (eqI (adr addr) 12) true (bc (eqI (adr addr) 13) true (bc (eqI (adr addr) 14) true (bc (eqI (adr addr) 15) true (bc (eqI (adr addr) 16) true (bc (eqI (adr addr) 17) true (bc (eqI (adr addr) 18) true (bc (eqI (adr addr) 19) true (bc (eqI (adr addr) 20) true (bc (eqI (adr addr) 21) true (bc (eqI (adr addr) 22) true (bc (eqI (adr addr) 23) true (bc (eqI (adr addr) 24) true (bc (eqI (adr addr) 25) true (bc (eqI (adr addr) 26) true (bc (eqI (adr addr) 27) true (bc (eqI (adr addr) 28) true (bc (eqI (adr addr) 29) true (bc (eqI (adr addr) 30) true (bc (eqI (adr addr) 31) true (bc (eqI (adr addr) 32) true (bc (eqI (adr addr) 33) true (bc (eqI (adr addr) 34) true (bc (eqI (adr addr) 35) true (bc (eqI (adr addr) 36) true (bc (eqI (adr addr) 37) true (bc (eqI (adr addr) 38) true (bc (eqI (adr addr) 39) true (bc (eqI (adr addr) 40) true (bc (eqI (adr addr) 41) true (bc (eqI (adr addr) 42) true (bc (eqI (adr addr) 43) true (bc (eqI (adr addr) 44) true (bc (eqI (adr addr) 45) true (bc (eqI (adr addr) 46) true (bc (eqI (adr addr) 47) true (bc (eqI (adr addr) 48) true (bc (eqI (adr addr) 49) true (bc (eqI (adr addr) 50) true (bc (eqI (adr addr) 51) true (bc (eqI (adr addr) 52) true (bc (eqI (adr addr) 53) true (bc (eqI (adr addr) 54) true (bc (eqI (adr addr) 55) true (bc (eqI (adr addr) 56) true (bc (eqI (adr addr) 57) true (bc (eqI (adr addr) 58) true (bc (eqI (adr addr) 59) true (bc (eqI (adr addr) 60) true (bc (eqI (adr addr) 61) true (bc (eqI (adr addr) 62) true (bc (eqI (adr addr) 63) true false))))))))))))))))))))))))))))))))))))))))))))))))))))))))))))))))=true:=by
 have h:=yys2 addr;obtain ⟨i,hi⟩ : ∃ i:Fin 64,adr addr=((i.val:Nat):Int):=⟨⟨(adr addr).toNat,by omega⟩,by show adr addr=(((adr addr).toNat:Nat):Int);omega⟩;rw [hi];clear hi h;revert i;decide +kernel
end S
def yoa1 (c:S.Chip) (addr v:Int) (r:Prop):Prop :=
 (0:Nat)=0/\(0:Nat)=0/\(0:Nat)=0/\(0:Nat)=0/\(0:Nat)=0/\(0:Nat)=0/\(0:Nat)=0/\(0:Nat)=0/\(0:Nat)=0/\(0:Nat)=0/\r
def ykg1 (c:S.Chip) (addr v:Int) (r:Prop):Prop :=
 S.rg (S.adr addr) 0 v c.r0.x0=v/\S.rg (S.adr addr) 1 v c.r0.x1=c.r0.x1/\c.r0.x2=c.r0.x2/\c.r0.x3=c.r0.x3/\S.rg (S.adr addr) 4 v c.r0.x4=c.r0.x4/\S.rg (S.adr addr) 5 v c.r0.x5=c.r0.x5/\S.rg (S.adr addr) 6 v c.r0.x6=c.r0.x6/\S.rg (S.adr addr) 7 v c.r0.x7=c.r0.x7/\r
def ybt0 (c:S.Chip) (addr v:Int) (r:Prop):Prop :=
 S.rg (S.adr addr) 8 v c.r1.x0=c.r1.x0/\S.rg (S.adr addr) 9 v c.r1.x1=c.r1.x1/\S.rg (S.adr addr) 10 v c.r1.x2=c.r1.x2/\S.rg (S.adr addr) 11 v c.r1.x3=c.r1.x3/\S.rg (S.adr addr) 12 v c.r1.x4=c.r1.x4/\S.rg (S.adr addr) 13 v c.r1.x5=c.r1.x5/\S.rg (S.adr addr) 14 v c.r1.x6=c.r1.x6/\S.rg (S.adr addr) 15 v c.r1.x7=c.r1.x7/\r
def yct0 (c:S.Chip) (addr v:Int) (r:Prop):Prop :=
 c.r2.x0=c.r2.x0/\c.r2.x1=c.r2.x1/\c.r2.x2=c.r2.x2/\c.r2.x3=c.r2.x3/\c.r2.x4=c.r2.x4/\c.r2.x5=c.r2.x5/\c.r2.x6=c.r2.x6/\c.r2.x7=c.r2.x7/\r
def ydt0 (c:S.Chip) (addr v:Int) (r:Prop):Prop :=
 c.r3.x0=c.r3.x0/\c.r3.x1=c.r3.x1/\c.r3.x2=c.r3.x2/\c.r3.x3=c.r3.x3/\c.r3.x4=c.r3.x4/\S.rg (S.adr addr) 29 v c.r3.x5=c.r3.x5/\S.rg (S.adr addr) 30 v c.r3.x6=c.r3.x6/\c.r3.x7=c.r3.x7/\r
def yet0 (c:S.Chip) (addr v:Int) (r:Prop):Prop :=
 S.rg (S.adr addr) 43 0 (S.rg (S.adr addr) 32 v c.r4.x0)=c.r4.x0/\S.rg (S.adr addr) 43 0 (S.rg (S.adr addr) 33 v c.r4.x1)=c.r4.x1/\S.rg (S.adr addr) 43 0 (S.rg (S.adr addr) 34 v c.r4.x2)=c.r4.x2/\S.rg (S.adr addr) 43 0 (S.rg (S.adr addr) 35 v c.r4.x3)=c.r4.x3/\S.rg (S.adr addr) 43 0 (S.rg (S.adr addr) 36 v c.r4.x4)=c.r4.x4/\S.rg (S.adr addr) 37 v c.r4.x5=c.r4.x5/\S.rg (S.adr addr) 38 v c.r4.x6=c.r4.x6/\S.rg (S.adr addr) 39 v c.r4.x7=c.r4.x7/\r
def yft0 (c:S.Chip) (addr v:Int) (r:Prop):Prop :=
 S.rg (S.adr addr) 40 v c.r5.x0=c.r5.x0/\S.rg (S.adr addr) 41 v c.r5.x1=c.r5.x1/\c.r5.x2=c.r5.x2/\c.r5.x3=c.r5.x3/\c.r5.x4=c.r5.x4/\c.r5.x5=c.r5.x5/\c.r5.x6=c.r5.x6/\c.r5.x7=c.r5.x7/\r
def yeo0 (c:S.Chip) (addr v:Int) (r:Prop):Prop :=
 c.r6.x0=c.r6.x0/\c.r6.x1=c.r6.x1/\c.r6.x2=c.r6.x2/\c.r6.x3=c.r6.x3/\c.r6.x4=c.r6.x4/\c.r6.x5=c.r6.x5/\c.r6.x6=c.r6.x6/\c.r6.x7=c.r6.x7/\c.r7.x0=c.r7.x0/\c.r7.x1=c.r7.x1/\c.r7.x2=c.r7.x2/\c.r7.x3=c.r7.x3/\c.r7.x4=c.r7.x4/\c.r7.x5=c.r7.x5/\c.r7.x6=c.r7.x6/\c.r7.x7=c.r7.x7/\r
def yfo0 (c:S.Chip) (addr v:Int) (r:Prop):Prop :=
 S.rg (S.adr addr) 27 v c.g00=c.g00/\S.rg (S.adr addr) 28 c.g00 c.g01=c.g01/\S.rg (S.adr addr) 28 v c.g10=c.g10/\S.rg (S.adr addr) 27 c.g10 c.g11=c.g11/\S.rb (S.adr addr) 31 (S.hb .u8 v 2) c.b0=c.b0/\S.rb (S.adr addr) 28 c.b0 c.b1=c.b1/\S.rg (S.adr addr) 44 0 c.met=c.met/\S.rb (S.adr addr) 2 true c.wait=c.wait/\(0:Nat)=0/\(0:Nat)=0/\r
def ygo0 (c:S.Chip) (addr v:Int) (r:Prop):Prop :=
 S.rb (S.adr addr) 42 true c.late=c.late/\S.rg (S.adr addr) 3 0 c.ba=c.ba/\(4:Int)=4/\S.rg (S.adr addr) 3 0 c.bs=c.bs/\(6:Int)=6/\(1:Int)=1/\r
def yej0 (c:S.Chip) (addr v:Int) (r:Prop):Prop :=
 S.rg (S.adr addr) 42 0 c.mc=c.mc/\S.rg (S.adr addr) 42 0 c.mg=c.mg/\S.rg (S.adr addr) 42 31 c.mm=c.mm/\r
def yfj0 (c:S.Chip) (addr v:Int) (r:Prop):Prop :=
 S.rg (S.adr addr) 16 0 c.t0.a=c.t0.a/\(4:Int)=4/\S.rg (S.adr addr) 16 0 c.t0.s=c.t0.s/\(6:Int)=6/\(1:Int)=1/\r
def ygj0 (c:S.Chip) (addr v:Int) (r:Prop):Prop :=
 S.rg (S.adr addr) 17 0 c.t1.a=c.t1.a/\(4:Int)=4/\S.rg (S.adr addr) 17 0 c.t1.s=c.t1.s/\(6:Int)=6/\(1:Int)=1/\r
def ypk0 (c:S.Chip) (addr v:Int) (r:Prop):Prop :=
 bc (S.frW (S.adr addr) 40 c.r5.x0 v) (S.frM c.r0.x4 c.t0 % 4) (S.rg (S.adr addr) 18 0 c.t2.a)=c.t2.a/\(4:Int)=4/\bc (S.frW (S.adr addr) 40 c.r5.x0 v) (S.st (S.frM c.r0.x4 c.t0 / 4)) (S.rg (S.adr addr) 18 0 c.t2.s)=c.t2.s/\(6:Int)=6/\(1:Int)=1/\r
def yfn0 (c:S.Chip) (addr v:Int) (r:Prop):Prop :=
 bc (S.frW (S.adr addr) 41 c.r5.x1 v) (S.frM c.r0.x5 c.t1 % 4) (S.rg (S.adr addr) 19 0 c.t3.a)=c.t3.a/\(4:Int)=4/\bc (S.frW (S.adr addr) 41 c.r5.x1 v) (S.st (S.frM c.r0.x5 c.t1 / 4)) (S.rg (S.adr addr) 19 0 c.t3.s)=c.t3.s/\(6:Int)=6/\(1:Int)=1/\r
def ygn0 (c:S.Chip) (addr v:Int) (r:Prop):Prop :=
 S.rg (S.adr addr) 20 0 c.t4.a=c.t4.a/\(4:Int)=4/\S.rg (S.adr addr) 20 0 c.t4.s=c.t4.s/\(6:Int)=6/\(1:Int)=1/\r
def yhn0 (c:S.Chip) (addr v:Int) (r:Prop):Prop :=
 S.rg (S.adr addr) 21 (andK .u8 v 15) c.v0.ykx2=c.v0.ykx2/\S.rg (S.adr addr) 23 (andK .u8 v 31) c.v0.I=c.v0.I/\S.rg (S.adr addr) 25 (andK .u8 v 15) c.v0.yox2=c.v0.yox2/\(0:Nat)=0/\(0:Nat)=0/\(0:Nat)=0/\c.v0.count=c.v0.count/\c.v0.high=c.v0.high/\r
def yin0 (c:S.Chip) (addr v:Int) (r:Prop):Prop :=
 S.rg (S.adr addr) 22 (andK .u8 v 15) c.v1.ykx2=c.v1.ykx2/\S.rg (S.adr addr) 24 (andK .u8 v 31) c.v1.I=c.v1.I/\S.rg (S.adr addr) 26 (andK .u8 v 15) c.v1.yox2=c.v1.yox2/\(0:Nat)=0/\(0:Nat)=0/\(0:Nat)=0/\c.v1.count=c.v1.count/\c.v1.high=c.v1.high/\r
def ynq0 (c:S.Chip) (addr v:Int) (r:Prop):Prop :=
 c.po.v0=c.po.v0/\c.po.v1=c.po.v1/\c.po.v2=c.po.v2/\c.po.v3=c.po.v3/\S.rg (S.adr addr) 1 (bc (S.hb .u8 v 128) 0 c.po.ymx2) c.po.ymx2=c.po.ymx2/\S.rb (S.adr addr) 1 (S.hb .u8 v 128) c.po.ynx2=c.po.ynx2/\c.po.h0=c.po.h0/\S.rb (S.adr addr) 1 (S.see (S.hb .u8 v 64) c.po.l0 c.po.h0) c.po.l0=c.po.l0/\c.po.h1=c.po.h1/\S.rb (S.adr addr) 1 (S.see (S.hb .u8 v 64) c.po.l1 c.po.h1) c.po.l1=c.po.l1/\S.rb (S.adr addr) 1 (S.hb .u8 v 64) c.po.ylx2=c.po.ylx2/\r
def ywv0 (c:S.Chip) (addr v:Int) (r:Prop):Prop :=
 S.rg (S.adr addr) 0 v c.r0.x0=c.r0.x0/\S.rg (S.adr addr) 1 v c.r0.x1=v/\c.r0.x2=c.r0.x2/\c.r0.x3=c.r0.x3/\S.rg (S.adr addr) 4 v c.r0.x4=c.r0.x4/\S.rg (S.adr addr) 5 v c.r0.x5=c.r0.x5/\S.rg (S.adr addr) 6 v c.r0.x6=c.r0.x6/\S.rg (S.adr addr) 7 v c.r0.x7=c.r0.x7/\r
def yxv0 (c:S.Chip) (addr v:Int) (r:Prop):Prop :=
 c.po.v0=c.po.v0/\c.po.v1=c.po.v1/\c.po.v2=c.po.v2/\c.po.v3=c.po.v3/\S.rg (S.adr addr) 1 (bc (S.hb .u8 v 128) 0 c.po.ymx2) c.po.ymx2=bc (notB (eqI (andK .u8 v 128) 0)) 0 c.po.ymx2/\S.rb (S.adr addr) 1 (S.hb .u8 v 128) c.po.ynx2=notB (eqI (andK .u8 v 128) 0)/\c.po.h0=c.po.h0/\S.rb (S.adr addr) 1 (S.see (S.hb .u8 v 64) c.po.l0 c.po.h0) c.po.l0=S.see (notB (eqI (andK .u8 v 64) 0)) c.po.l0 c.po.h0/\c.po.h1=c.po.h1/\S.rb (S.adr addr) 1 (S.see (S.hb .u8 v 64) c.po.l1 c.po.h1) c.po.l1=S.see (notB (eqI (andK .u8 v 64) 0)) c.po.l1 c.po.h1/\S.rb (S.adr addr) 1 (S.hb .u8 v 64) c.po.ylx2=notB (eqI (andK .u8 v 64) 0)/\r
def yoq0 (c:S.Chip) (addr v:Int) (r:Prop):Prop :=
 S.rg (S.adr addr) 0 v c.r0.x0=c.r0.x0/\S.rg (S.adr addr) 1 v c.r0.x1=c.r0.x1/\c.r0.x2=c.r0.x2/\c.r0.x3=c.r0.x3/\S.rg (S.adr addr) 4 v c.r0.x4=c.r0.x4/\S.rg (S.adr addr) 5 v c.r0.x5=c.r0.x5/\S.rg (S.adr addr) 6 v c.r0.x6=c.r0.x6/\S.rg (S.adr addr) 7 v c.r0.x7=c.r0.x7/\r
def yyv0 (c:S.Chip) (addr v:Int) (r:Prop):Prop :=
 S.rg (S.adr addr) 27 v c.g00=c.g00/\S.rg (S.adr addr) 28 c.g00 c.g01=c.g01/\S.rg (S.adr addr) 28 v c.g10=c.g10/\S.rg (S.adr addr) 27 c.g10 c.g11=c.g11/\S.rb (S.adr addr) 31 (S.hb .u8 v 2) c.b0=c.b0/\S.rb (S.adr addr) 28 c.b0 c.b1=c.b1/\S.rg (S.adr addr) 44 0 c.met=c.met/\S.rb (S.adr addr) 2 true c.wait=true/\(0:Nat)=0/\(0:Nat)=0/\r
def yzv0 (c:S.Chip) (addr v:Int) (r:Prop):Prop :=
 S.rb (S.adr addr) 42 true c.late=c.late/\S.rg (S.adr addr) 3 0 c.ba=(0:Int)/\(4:Int)=4/\S.rg (S.adr addr) 3 0 c.bs=(0:Int)/\(6:Int)=6/\(1:Int)=1/\r
def yaw0 (c:S.Chip) (addr v:Int) (r:Prop):Prop :=
 S.rg (S.adr addr) 0 v c.r0.x0=c.r0.x0/\S.rg (S.adr addr) 1 v c.r0.x1=c.r0.x1/\c.r0.x2=c.r0.x2/\c.r0.x3=c.r0.x3/\S.rg (S.adr addr) 4 v c.r0.x4=v/\S.rg (S.adr addr) 5 v c.r0.x5=c.r0.x5/\S.rg (S.adr addr) 6 v c.r0.x6=c.r0.x6/\S.rg (S.adr addr) 7 v c.r0.x7=c.r0.x7/\r
def ybw0 (c:S.Chip) (addr v:Int) (r:Prop):Prop :=
 S.rg (S.adr addr) 0 v c.r0.x0=c.r0.x0/\S.rg (S.adr addr) 1 v c.r0.x1=c.r0.x1/\c.r0.x2=c.r0.x2/\c.r0.x3=c.r0.x3/\S.rg (S.adr addr) 4 v c.r0.x4=c.r0.x4/\S.rg (S.adr addr) 5 v c.r0.x5=v/\S.rg (S.adr addr) 6 v c.r0.x6=c.r0.x6/\S.rg (S.adr addr) 7 v c.r0.x7=c.r0.x7/\r
def ycw0 (c:S.Chip) (addr v:Int) (r:Prop):Prop :=
 S.rg (S.adr addr) 0 v c.r0.x0=c.r0.x0/\S.rg (S.adr addr) 1 v c.r0.x1=c.r0.x1/\c.r0.x2=c.r0.x2/\c.r0.x3=c.r0.x3/\S.rg (S.adr addr) 4 v c.r0.x4=c.r0.x4/\S.rg (S.adr addr) 5 v c.r0.x5=c.r0.x5/\S.rg (S.adr addr) 6 v c.r0.x6=v/\S.rg (S.adr addr) 7 v c.r0.x7=c.r0.x7/\r
def ydw0 (c:S.Chip) (addr v:Int) (r:Prop):Prop :=
 S.rg (S.adr addr) 0 v c.r0.x0=c.r0.x0/\S.rg (S.adr addr) 1 v c.r0.x1=c.r0.x1/\c.r0.x2=c.r0.x2/\c.r0.x3=c.r0.x3/\S.rg (S.adr addr) 4 v c.r0.x4=c.r0.x4/\S.rg (S.adr addr) 5 v c.r0.x5=c.r0.x5/\S.rg (S.adr addr) 6 v c.r0.x6=c.r0.x6/\S.rg (S.adr addr) 7 v c.r0.x7=v/\r
def yew0 (c:S.Chip) (addr v:Int) (r:Prop):Prop :=
 S.rg (S.adr addr) 8 v c.r1.x0=v/\S.rg (S.adr addr) 9 v c.r1.x1=c.r1.x1/\S.rg (S.adr addr) 10 v c.r1.x2=c.r1.x2/\S.rg (S.adr addr) 11 v c.r1.x3=c.r1.x3/\S.rg (S.adr addr) 12 v c.r1.x4=c.r1.x4/\S.rg (S.adr addr) 13 v c.r1.x5=c.r1.x5/\S.rg (S.adr addr) 14 v c.r1.x6=c.r1.x6/\S.rg (S.adr addr) 15 v c.r1.x7=c.r1.x7/\r
def yfw0 (c:S.Chip) (addr v:Int) (r:Prop):Prop :=
 S.rg (S.adr addr) 8 v c.r1.x0=c.r1.x0/\S.rg (S.adr addr) 9 v c.r1.x1=v/\S.rg (S.adr addr) 10 v c.r1.x2=c.r1.x2/\S.rg (S.adr addr) 11 v c.r1.x3=c.r1.x3/\S.rg (S.adr addr) 12 v c.r1.x4=c.r1.x4/\S.rg (S.adr addr) 13 v c.r1.x5=c.r1.x5/\S.rg (S.adr addr) 14 v c.r1.x6=c.r1.x6/\S.rg (S.adr addr) 15 v c.r1.x7=c.r1.x7/\r
def ygw0 (c:S.Chip) (addr v:Int) (r:Prop):Prop :=
 S.rg (S.adr addr) 8 v c.r1.x0=c.r1.x0/\S.rg (S.adr addr) 9 v c.r1.x1=c.r1.x1/\S.rg (S.adr addr) 10 v c.r1.x2=v/\S.rg (S.adr addr) 11 v c.r1.x3=c.r1.x3/\S.rg (S.adr addr) 12 v c.r1.x4=c.r1.x4/\S.rg (S.adr addr) 13 v c.r1.x5=c.r1.x5/\S.rg (S.adr addr) 14 v c.r1.x6=c.r1.x6/\S.rg (S.adr addr) 15 v c.r1.x7=c.r1.x7/\r
def yhw0 (c:S.Chip) (addr v:Int) (r:Prop):Prop :=
 S.rg (S.adr addr) 8 v c.r1.x0=c.r1.x0/\S.rg (S.adr addr) 9 v c.r1.x1=c.r1.x1/\S.rg (S.adr addr) 10 v c.r1.x2=c.r1.x2/\S.rg (S.adr addr) 11 v c.r1.x3=v/\S.rg (S.adr addr) 12 v c.r1.x4=c.r1.x4/\S.rg (S.adr addr) 13 v c.r1.x5=c.r1.x5/\S.rg (S.adr addr) 14 v c.r1.x6=c.r1.x6/\S.rg (S.adr addr) 15 v c.r1.x7=c.r1.x7/\r
def yiw0 (c:S.Chip) (addr v:Int) (r:Prop):Prop :=
 S.rg (S.adr addr) 8 v c.r1.x0=c.r1.x0/\S.rg (S.adr addr) 9 v c.r1.x1=c.r1.x1/\S.rg (S.adr addr) 10 v c.r1.x2=c.r1.x2/\S.rg (S.adr addr) 11 v c.r1.x3=c.r1.x3/\S.rg (S.adr addr) 12 v c.r1.x4=v/\S.rg (S.adr addr) 13 v c.r1.x5=c.r1.x5/\S.rg (S.adr addr) 14 v c.r1.x6=c.r1.x6/\S.rg (S.adr addr) 15 v c.r1.x7=c.r1.x7/\r
def yjw0 (c:S.Chip) (addr v:Int) (r:Prop):Prop :=
 S.rg (S.adr addr) 8 v c.r1.x0=c.r1.x0/\S.rg (S.adr addr) 9 v c.r1.x1=c.r1.x1/\S.rg (S.adr addr) 10 v c.r1.x2=c.r1.x2/\S.rg (S.adr addr) 11 v c.r1.x3=c.r1.x3/\S.rg (S.adr addr) 12 v c.r1.x4=c.r1.x4/\S.rg (S.adr addr) 13 v c.r1.x5=v/\S.rg (S.adr addr) 14 v c.r1.x6=c.r1.x6/\S.rg (S.adr addr) 15 v c.r1.x7=c.r1.x7/\r
def ykw0 (c:S.Chip) (addr v:Int) (r:Prop):Prop :=
 S.rg (S.adr addr) 8 v c.r1.x0=c.r1.x0/\S.rg (S.adr addr) 9 v c.r1.x1=c.r1.x1/\S.rg (S.adr addr) 10 v c.r1.x2=c.r1.x2/\S.rg (S.adr addr) 11 v c.r1.x3=c.r1.x3/\S.rg (S.adr addr) 12 v c.r1.x4=c.r1.x4/\S.rg (S.adr addr) 13 v c.r1.x5=c.r1.x5/\S.rg (S.adr addr) 14 v c.r1.x6=v/\S.rg (S.adr addr) 15 v c.r1.x7=c.r1.x7/\r
def ylw0 (c:S.Chip) (addr v:Int) (r:Prop):Prop :=
 S.rg (S.adr addr) 8 v c.r1.x0=c.r1.x0/\S.rg (S.adr addr) 9 v c.r1.x1=c.r1.x1/\S.rg (S.adr addr) 10 v c.r1.x2=c.r1.x2/\S.rg (S.adr addr) 11 v c.r1.x3=c.r1.x3/\S.rg (S.adr addr) 12 v c.r1.x4=c.r1.x4/\S.rg (S.adr addr) 13 v c.r1.x5=c.r1.x5/\S.rg (S.adr addr) 14 v c.r1.x6=c.r1.x6/\S.rg (S.adr addr) 15 v c.r1.x7=v/\r
def ymw0 (c:S.Chip) (addr v:Int) (r:Prop):Prop :=
 S.rg (S.adr addr) 16 0 c.t0.a=bc (S.inR 0 160) (0 % 4) c.t0.a/\(4:Int)=4/\S.rg (S.adr addr) 16 0 c.t0.s=bc (S.inR 0 160) (S.st (0 / 4:Int)) c.t0.s/\(6:Int)=6/\(1:Int)=1/\r
def ynw0 (c:S.Chip) (addr v:Int) (r:Prop):Prop :=
 S.rg (S.adr addr) 17 0 c.t1.a=bc (S.inR 0 160) (0 % 4) c.t1.a/\(4:Int)=4/\S.rg (S.adr addr) 17 0 c.t1.s=bc (S.inR 0 160) (S.st (0 / 4:Int)) c.t1.s/\(6:Int)=6/\(1:Int)=1/\r
def yow0 (c:S.Chip) (addr v:Int) (r:Prop):Prop :=
 bc (S.frW (S.adr addr) 40 c.r5.x0 v) (S.frM c.r0.x4 c.t0 % 4) (S.rg (S.adr addr) 18 0 c.t2.a)=bc (S.inR 0 160) (0 % 4) c.t2.a/\(4:Int)=4/\bc (S.frW (S.adr addr) 40 c.r5.x0 v) (S.st (S.frM c.r0.x4 c.t0 / 4)) (S.rg (S.adr addr) 18 0 c.t2.s)=bc (S.inR 0 160) (S.st (0 / 4:Int)) c.t2.s/\(6:Int)=6/\(1:Int)=1/\r
def ypw0 (c:S.Chip) (addr v:Int) (r:Prop):Prop :=
 bc (S.frW (S.adr addr) 41 c.r5.x1 v) (S.frM c.r0.x5 c.t1 % 4) (S.rg (S.adr addr) 19 0 c.t3.a)=bc (S.inR 0 160) (0 % 4) c.t3.a/\(4:Int)=4/\bc (S.frW (S.adr addr) 41 c.r5.x1 v) (S.st (S.frM c.r0.x5 c.t1 / 4)) (S.rg (S.adr addr) 19 0 c.t3.s)=bc (S.inR 0 160) (S.st (0 / 4:Int)) c.t3.s/\(6:Int)=6/\(1:Int)=1/\r
def yqw0 (c:S.Chip) (addr v:Int) (r:Prop):Prop :=
 S.rg (S.adr addr) 20 0 c.t4.a=bc (S.inR 0 160) (0 % 4) c.t4.a/\(4:Int)=4/\S.rg (S.adr addr) 20 0 c.t4.s=bc (S.inR 0 160) (S.st (0 / 4:Int)) c.t4.s/\(6:Int)=6/\(1:Int)=1/\r
def yrw0 (c:S.Chip) (addr v:Int) (r:Prop):Prop :=
 S.rg (S.adr addr) 21 (andK .u8 v 15) c.v0.ykx2=andK .u8 v 15/\S.rg (S.adr addr) 23 (andK .u8 v 31) c.v0.I=c.v0.I/\S.rg (S.adr addr) 25 (andK .u8 v 15) c.v0.yox2=c.v0.yox2/\(0:Nat)=0/\(0:Nat)=0/\(0:Nat)=0/\c.v0.count=c.v0.count/\c.v0.high=c.v0.high/\r
def ysw0 (c:S.Chip) (addr v:Int) (r:Prop):Prop :=
 S.rg (S.adr addr) 22 (andK .u8 v 15) c.v1.ykx2=andK .u8 v 15/\S.rg (S.adr addr) 24 (andK .u8 v 31) c.v1.I=c.v1.I/\S.rg (S.adr addr) 26 (andK .u8 v 15) c.v1.yox2=c.v1.yox2/\(0:Nat)=0/\(0:Nat)=0/\(0:Nat)=0/\c.v1.count=c.v1.count/\c.v1.high=c.v1.high/\r
def ytw0 (c:S.Chip) (addr v:Int) (r:Prop):Prop :=
 S.rg (S.adr addr) 21 (andK .u8 v 15) c.v0.ykx2=c.v0.ykx2/\S.rg (S.adr addr) 23 (andK .u8 v 31) c.v0.I=andK .u8 v 31/\S.rg (S.adr addr) 25 (andK .u8 v 15) c.v0.yox2=c.v0.yox2/\(0:Nat)=0/\(0:Nat)=0/\(0:Nat)=0/\c.v0.count=c.v0.count/\c.v0.high=c.v0.high/\r
def yuw0 (c:S.Chip) (addr v:Int) (r:Prop):Prop :=
 S.rg (S.adr addr) 22 (andK .u8 v 15) c.v1.ykx2=c.v1.ykx2/\S.rg (S.adr addr) 24 (andK .u8 v 31) c.v1.I=andK .u8 v 31/\S.rg (S.adr addr) 26 (andK .u8 v 15) c.v1.yox2=c.v1.yox2/\(0:Nat)=0/\(0:Nat)=0/\(0:Nat)=0/\c.v1.count=c.v1.count/\c.v1.high=c.v1.high/\r
def yvw0 (c:S.Chip) (addr v:Int) (r:Prop):Prop :=
 S.rg (S.adr addr) 21 (andK .u8 v 15) c.v0.ykx2=c.v0.ykx2/\S.rg (S.adr addr) 23 (andK .u8 v 31) c.v0.I=c.v0.I/\S.rg (S.adr addr) 25 (andK .u8 v 15) c.v0.yox2=andK .u8 v 15/\(0:Nat)=0/\(0:Nat)=0/\(0:Nat)=0/\c.v0.count=c.v0.count/\c.v0.high=c.v0.high/\r
def yww0 (c:S.Chip) (addr v:Int) (r:Prop):Prop :=
 S.rg (S.adr addr) 22 (andK .u8 v 15) c.v1.ykx2=c.v1.ykx2/\S.rg (S.adr addr) 24 (andK .u8 v 31) c.v1.I=c.v1.I/\S.rg (S.adr addr) 26 (andK .u8 v 15) c.v1.yox2=andK .u8 v 15/\(0:Nat)=0/\(0:Nat)=0/\(0:Nat)=0/\c.v1.count=c.v1.count/\c.v1.high=c.v1.high/\r
def yxw0 (c:S.Chip) (addr v:Int) (r:Prop):Prop :=
 S.rg (S.adr addr) 27 v c.g00=v/\S.rg (S.adr addr) 28 c.g00 c.g01=c.g01/\S.rg (S.adr addr) 28 v c.g10=c.g10/\S.rg (S.adr addr) 27 c.g10 c.g11=c.g10/\S.rb (S.adr addr) 31 (S.hb .u8 v 2) c.b0=c.b0/\S.rb (S.adr addr) 28 c.b0 c.b1=c.b1/\S.rg (S.adr addr) 44 0 c.met=c.met/\S.rb (S.adr addr) 2 true c.wait=c.wait/\(0:Nat)=0/\(0:Nat)=0/\r
def yyw0 (c:S.Chip) (addr v:Int) (r:Prop):Prop :=
 S.rg (S.adr addr) 27 v c.g00=c.g00/\S.rg (S.adr addr) 28 c.g00 c.g01=c.g00/\S.rg (S.adr addr) 28 v c.g10=v/\S.rg (S.adr addr) 27 c.g10 c.g11=c.g11/\S.rb (S.adr addr) 31 (S.hb .u8 v 2) c.b0=c.b0/\S.rb (S.adr addr) 28 c.b0 c.b1=c.b0/\S.rg (S.adr addr) 44 0 c.met=c.met/\S.rb (S.adr addr) 2 true c.wait=c.wait/\(0:Nat)=0/\(0:Nat)=0/\r
def yzw0 (c:S.Chip) (addr v:Int) (r:Prop):Prop :=
 c.r3.x0=c.r3.x0/\c.r3.x1=c.r3.x1/\c.r3.x2=c.r3.x2/\c.r3.x3=c.r3.x3/\c.r3.x4=c.r3.x4/\S.rg (S.adr addr) 29 v c.r3.x5=v/\S.rg (S.adr addr) 30 v c.r3.x6=c.r3.x6/\c.r3.x7=c.r3.x7/\r
def yax0 (c:S.Chip) (addr v:Int) (r:Prop):Prop :=
 c.r3.x0=c.r3.x0/\c.r3.x1=c.r3.x1/\c.r3.x2=c.r3.x2/\c.r3.x3=c.r3.x3/\c.r3.x4=c.r3.x4/\S.rg (S.adr addr) 29 v c.r3.x5=c.r3.x5/\S.rg (S.adr addr) 30 v c.r3.x6=v/\c.r3.x7=c.r3.x7/\r
def ybx0 (c:S.Chip) (addr v:Int) (r:Prop):Prop :=
 S.rg (S.adr addr) 27 v c.g00=c.g00/\S.rg (S.adr addr) 28 c.g00 c.g01=c.g01/\S.rg (S.adr addr) 28 v c.g10=c.g10/\S.rg (S.adr addr) 27 c.g10 c.g11=c.g11/\S.rb (S.adr addr) 31 (S.hb .u8 v 2) c.b0=notB (eqI (andK .u8 v 2) 0)/\S.rb (S.adr addr) 28 c.b0 c.b1=c.b1/\S.rg (S.adr addr) 44 0 c.met=c.met/\S.rb (S.adr addr) 2 true c.wait=c.wait/\(0:Nat)=0/\(0:Nat)=0/\r
def ycx0 (c:S.Chip) (addr v:Int) (r:Prop):Prop :=
 S.rg (S.adr addr) 43 0 (S.rg (S.adr addr) 32 v c.r4.x0)=v/\S.rg (S.adr addr) 43 0 (S.rg (S.adr addr) 33 v c.r4.x1)=c.r4.x1/\S.rg (S.adr addr) 43 0 (S.rg (S.adr addr) 34 v c.r4.x2)=c.r4.x2/\S.rg (S.adr addr) 43 0 (S.rg (S.adr addr) 35 v c.r4.x3)=c.r4.x3/\S.rg (S.adr addr) 43 0 (S.rg (S.adr addr) 36 v c.r4.x4)=c.r4.x4/\S.rg (S.adr addr) 37 v c.r4.x5=c.r4.x5/\S.rg (S.adr addr) 38 v c.r4.x6=c.r4.x6/\S.rg (S.adr addr) 39 v c.r4.x7=c.r4.x7/\r
def ydx0 (c:S.Chip) (addr v:Int) (r:Prop):Prop :=
 S.rg (S.adr addr) 43 0 (S.rg (S.adr addr) 32 v c.r4.x0)=c.r4.x0/\S.rg (S.adr addr) 43 0 (S.rg (S.adr addr) 33 v c.r4.x1)=v/\S.rg (S.adr addr) 43 0 (S.rg (S.adr addr) 34 v c.r4.x2)=c.r4.x2/\S.rg (S.adr addr) 43 0 (S.rg (S.adr addr) 35 v c.r4.x3)=c.r4.x3/\S.rg (S.adr addr) 43 0 (S.rg (S.adr addr) 36 v c.r4.x4)=c.r4.x4/\S.rg (S.adr addr) 37 v c.r4.x5=c.r4.x5/\S.rg (S.adr addr) 38 v c.r4.x6=c.r4.x6/\S.rg (S.adr addr) 39 v c.r4.x7=c.r4.x7/\r
def yex0 (c:S.Chip) (addr v:Int) (r:Prop):Prop :=
 S.rg (S.adr addr) 43 0 (S.rg (S.adr addr) 32 v c.r4.x0)=c.r4.x0/\S.rg (S.adr addr) 43 0 (S.rg (S.adr addr) 33 v c.r4.x1)=c.r4.x1/\S.rg (S.adr addr) 43 0 (S.rg (S.adr addr) 34 v c.r4.x2)=v/\S.rg (S.adr addr) 43 0 (S.rg (S.adr addr) 35 v c.r4.x3)=c.r4.x3/\S.rg (S.adr addr) 43 0 (S.rg (S.adr addr) 36 v c.r4.x4)=c.r4.x4/\S.rg (S.adr addr) 37 v c.r4.x5=c.r4.x5/\S.rg (S.adr addr) 38 v c.r4.x6=c.r4.x6/\S.rg (S.adr addr) 39 v c.r4.x7=c.r4.x7/\r
def yfx0 (c:S.Chip) (addr v:Int) (r:Prop):Prop :=
 S.rg (S.adr addr) 43 0 (S.rg (S.adr addr) 32 v c.r4.x0)=c.r4.x0/\S.rg (S.adr addr) 43 0 (S.rg (S.adr addr) 33 v c.r4.x1)=c.r4.x1/\S.rg (S.adr addr) 43 0 (S.rg (S.adr addr) 34 v c.r4.x2)=c.r4.x2/\S.rg (S.adr addr) 43 0 (S.rg (S.adr addr) 35 v c.r4.x3)=v/\S.rg (S.adr addr) 43 0 (S.rg (S.adr addr) 36 v c.r4.x4)=c.r4.x4/\S.rg (S.adr addr) 37 v c.r4.x5=c.r4.x5/\S.rg (S.adr addr) 38 v c.r4.x6=c.r4.x6/\S.rg (S.adr addr) 39 v c.r4.x7=c.r4.x7/\r
def ygx0 (c:S.Chip) (addr v:Int) (r:Prop):Prop :=
 S.rg (S.adr addr) 43 0 (S.rg (S.adr addr) 32 v c.r4.x0)=c.r4.x0/\S.rg (S.adr addr) 43 0 (S.rg (S.adr addr) 33 v c.r4.x1)=c.r4.x1/\S.rg (S.adr addr) 43 0 (S.rg (S.adr addr) 34 v c.r4.x2)=c.r4.x2/\S.rg (S.adr addr) 43 0 (S.rg (S.adr addr) 35 v c.r4.x3)=c.r4.x3/\S.rg (S.adr addr) 43 0 (S.rg (S.adr addr) 36 v c.r4.x4)=v/\S.rg (S.adr addr) 37 v c.r4.x5=c.r4.x5/\S.rg (S.adr addr) 38 v c.r4.x6=c.r4.x6/\S.rg (S.adr addr) 39 v c.r4.x7=c.r4.x7/\r
def yhx0 (c:S.Chip) (addr v:Int) (r:Prop):Prop :=
 S.rg (S.adr addr) 43 0 (S.rg (S.adr addr) 32 v c.r4.x0)=c.r4.x0/\S.rg (S.adr addr) 43 0 (S.rg (S.adr addr) 33 v c.r4.x1)=c.r4.x1/\S.rg (S.adr addr) 43 0 (S.rg (S.adr addr) 34 v c.r4.x2)=c.r4.x2/\S.rg (S.adr addr) 43 0 (S.rg (S.adr addr) 35 v c.r4.x3)=c.r4.x3/\S.rg (S.adr addr) 43 0 (S.rg (S.adr addr) 36 v c.r4.x4)=c.r4.x4/\S.rg (S.adr addr) 37 v c.r4.x5=v/\S.rg (S.adr addr) 38 v c.r4.x6=c.r4.x6/\S.rg (S.adr addr) 39 v c.r4.x7=c.r4.x7/\r
def yix0 (c:S.Chip) (addr v:Int) (r:Prop):Prop :=
 S.rg (S.adr addr) 43 0 (S.rg (S.adr addr) 32 v c.r4.x0)=c.r4.x0/\S.rg (S.adr addr) 43 0 (S.rg (S.adr addr) 33 v c.r4.x1)=c.r4.x1/\S.rg (S.adr addr) 43 0 (S.rg (S.adr addr) 34 v c.r4.x2)=c.r4.x2/\S.rg (S.adr addr) 43 0 (S.rg (S.adr addr) 35 v c.r4.x3)=c.r4.x3/\S.rg (S.adr addr) 43 0 (S.rg (S.adr addr) 36 v c.r4.x4)=c.r4.x4/\S.rg (S.adr addr) 37 v c.r4.x5=c.r4.x5/\S.rg (S.adr addr) 38 v c.r4.x6=v/\S.rg (S.adr addr) 39 v c.r4.x7=c.r4.x7/\r
def yjx0 (c:S.Chip) (addr v:Int) (r:Prop):Prop :=
 S.rg (S.adr addr) 43 0 (S.rg (S.adr addr) 32 v c.r4.x0)=c.r4.x0/\S.rg (S.adr addr) 43 0 (S.rg (S.adr addr) 33 v c.r4.x1)=c.r4.x1/\S.rg (S.adr addr) 43 0 (S.rg (S.adr addr) 34 v c.r4.x2)=c.r4.x2/\S.rg (S.adr addr) 43 0 (S.rg (S.adr addr) 35 v c.r4.x3)=c.r4.x3/\S.rg (S.adr addr) 43 0 (S.rg (S.adr addr) 36 v c.r4.x4)=c.r4.x4/\S.rg (S.adr addr) 37 v c.r4.x5=c.r4.x5/\S.rg (S.adr addr) 38 v c.r4.x6=c.r4.x6/\S.rg (S.adr addr) 39 v c.r4.x7=v/\r
def yjn0 (c:S.Chip) (addr v:Int) (r:Prop):Prop :=
 S.rg (S.adr addr) 40 v c.r5.x0=v/\S.rg (S.adr addr) 41 v c.r5.x1=c.r5.x1/\c.r5.x2=c.r5.x2/\c.r5.x3=c.r5.x3/\c.r5.x4=c.r5.x4/\c.r5.x5=c.r5.x5/\c.r5.x6=c.r5.x6/\c.r5.x7=c.r5.x7/\r
def ykx0 (c:S.Chip) (addr v:Int) (r:Prop):Prop :=
 bc (S.frW (S.adr addr) 40 c.r5.x0 v) (S.frM c.r0.x4 c.t0 % 4) (S.rg (S.adr addr) 18 0 c.t2.a)=S.frM c.r0.x4 c.t0 % 4/\(4:Int)=4/\bc (S.frW (S.adr addr) 40 c.r5.x0 v) (S.st (S.frM c.r0.x4 c.t0 / 4)) (S.rg (S.adr addr) 18 0 c.t2.s)=S.st (S.frM c.r0.x4 c.t0 / 4)/\(6:Int)=6/\(1:Int)=1/\r
def ykn0 (c:S.Chip) (addr v:Int) (r:Prop):Prop :=
 S.rg (S.adr addr) 40 v c.r5.x0=c.r5.x0/\S.rg (S.adr addr) 41 v c.r5.x1=v/\c.r5.x2=c.r5.x2/\c.r5.x3=c.r5.x3/\c.r5.x4=c.r5.x4/\c.r5.x5=c.r5.x5/\c.r5.x6=c.r5.x6/\c.r5.x7=c.r5.x7/\r
def ylx0 (c:S.Chip) (addr v:Int) (r:Prop):Prop :=
 bc (S.frW (S.adr addr) 41 c.r5.x1 v) (S.frM c.r0.x5 c.t1 % 4) (S.rg (S.adr addr) 19 0 c.t3.a)=S.frM c.r0.x5 c.t1 % 4/\(4:Int)=4/\bc (S.frW (S.adr addr) 41 c.r5.x1 v) (S.st (S.frM c.r0.x5 c.t1 / 4)) (S.rg (S.adr addr) 19 0 c.t3.s)=S.st (S.frM c.r0.x5 c.t1 / 4)/\(6:Int)=6/\(1:Int)=1/\r
def ymx0 (c:S.Chip) (addr v:Int) (r:Prop):Prop :=
 S.rb (S.adr addr) 42 true c.late=true/\S.rg (S.adr addr) 3 0 c.ba=c.ba/\(4:Int)=4/\S.rg (S.adr addr) 3 0 c.bs=c.bs/\(6:Int)=6/\(1:Int)=1/\r
def ynx0 (c:S.Chip) (addr v:Int) (r:Prop):Prop :=
 S.rg (S.adr addr) 42 0 c.mc=(0:Int)/\S.rg (S.adr addr) 42 0 c.mg=(0:Int)/\S.rg (S.adr addr) 42 31 c.mm=(31:Int)/\r
def yox0 (c:S.Chip) (addr v:Int) (r:Prop):Prop :=
 S.rg (S.adr addr) 43 0 (S.rg (S.adr addr) 32 v c.r4.x0)=(0:Int)/\S.rg (S.adr addr) 43 0 (S.rg (S.adr addr) 33 v c.r4.x1)=(0:Int)/\S.rg (S.adr addr) 43 0 (S.rg (S.adr addr) 34 v c.r4.x2)=(0:Int)/\S.rg (S.adr addr) 43 0 (S.rg (S.adr addr) 35 v c.r4.x3)=(0:Int)/\S.rg (S.adr addr) 43 0 (S.rg (S.adr addr) 36 v c.r4.x4)=(0:Int)/\S.rg (S.adr addr) 37 v c.r4.x5=c.r4.x5/\S.rg (S.adr addr) 38 v c.r4.x6=c.r4.x6/\S.rg (S.adr addr) 39 v c.r4.x7=c.r4.x7/\r
def ypx0 (c:S.Chip) (addr v:Int) (r:Prop):Prop :=
 S.rg (S.adr addr) 27 v c.g00=c.g00/\S.rg (S.adr addr) 28 c.g00 c.g01=c.g01/\S.rg (S.adr addr) 28 v c.g10=c.g10/\S.rg (S.adr addr) 27 c.g10 c.g11=c.g11/\S.rb (S.adr addr) 31 (S.hb .u8 v 2) c.b0=c.b0/\S.rb (S.adr addr) 28 c.b0 c.b1=c.b1/\S.rg (S.adr addr) 44 0 c.met=(0:Int)/\S.rb (S.adr addr) 2 true c.wait=c.wait/\(0:Nat)=0/\(0:Nat)=0/\r
def yxj0 (c:S.Chip) (addr v:Int) (r:Prop):Prop:=(yoa1 c addr v r)
def yei0 (c:S.Chip) (addr v:Int) (r:Prop):Prop:=yxj0 c addr v (yoq0 c addr v r)
def ylg1 (c:S.Chip) (addr v:Int) (r:Prop):Prop:=yei0 c addr v (ybt0 c addr v r)
def ygt0 (c:S.Chip) (addr v:Int) (r:Prop):Prop:=ylg1 c addr v (yct0 c addr v r)
def ydh0 (c:S.Chip) (addr v:Int) (r:Prop):Prop:=ygt0 c addr v (ydt0 c addr v r)
def yyj0 (c:S.Chip) (addr v:Int) (r:Prop):Prop:=ydh0 c addr v (yet0 c addr v r)
def ymg1 (c:S.Chip) (addr v:Int) (r:Prop):Prop:=yyj0 c addr v (yft0 c addr v r)
def ywl0 (c:S.Chip) (addr v:Int) (r:Prop):Prop:=ymg1 c addr v (yeo0 c addr v r)
def yht0 (c:S.Chip) (addr v:Int) (r:Prop):Prop:=ywl0 c addr v (yfo0 c addr v r)
def yqx0 (c:S.Chip) (addr v:Int) (r:Prop):Prop:=yht0 c addr v (ygo0 c addr v r)
def ypq0 (c:S.Chip) (addr v:Int) (r:Prop):Prop:=yqx0 c addr v (yej0 c addr v r)
def yqq0 (c:S.Chip) (addr v:Int) (r:Prop):Prop:=ypq0 c addr v (yfj0 c addr v r)
def yrq0 (c:S.Chip) (addr v:Int) (r:Prop):Prop:=yqq0 c addr v (ygj0 c addr v r)
def ysq0 (c:S.Chip) (addr v:Int) (r:Prop):Prop:=yrq0 c addr v (ypk0 c addr v r)
def ytq0 (c:S.Chip) (addr v:Int) (r:Prop):Prop:=ysq0 c addr v (yfn0 c addr v r)
def yqk0 (c:S.Chip) (addr v:Int) (r:Prop):Prop:=ytq0 c addr v (ygn0 c addr v r)
def yrk0 (c:S.Chip) (addr v:Int) (r:Prop):Prop:=yqk0 c addr v (yhn0 c addr v r)
def yrx0 (c:S.Chip) (addr v:Int) (r:Prop):Prop:=yrk0 c addr v (yin0 c addr v r)
def yod1 (c:S.Chip) (addr v:Int) (r:Prop):Prop:=yrx0 c addr v (ynq0 c addr v r)
def ysk0 (c:S.Chip) (addr v:Int) (r:Prop):Prop:=ynq0 c addr v r
def ytk0 (c:S.Chip) (addr v:Int) (r:Prop):Prop:=yin0 c addr v (ysk0 c addr v r)
def yuq0 (c:S.Chip) (addr v:Int) (r:Prop):Prop:=yhn0 c addr v (ytk0 c addr v r)
def yln0 (c:S.Chip) (addr v:Int) (r:Prop):Prop:=ygn0 c addr v (yuq0 c addr v r)
def ymn0 (c:S.Chip) (addr v:Int) (r:Prop):Prop:=yfn0 c addr v (yln0 c addr v r)
def yvq0 (c:S.Chip) (addr v:Int) (r:Prop):Prop:=ypk0 c addr v (ymn0 c addr v r)
def ywq0 (c:S.Chip) (addr v:Int) (r:Prop):Prop:=ygj0 c addr v (yvq0 c addr v r)
def yxq0 (c:S.Chip) (addr v:Int) (r:Prop):Prop:=yfj0 c addr v (ywq0 c addr v r)
def yyq0 (c:S.Chip) (addr v:Int) (r:Prop):Prop:=yej0 c addr v (yxq0 c addr v r)
def yxl0 (c:S.Chip) (addr v:Int) (r:Prop):Prop:=ygo0 c addr v (yyq0 c addr v r)
def yng1 (c:S.Chip) (addr v:Int) (r:Prop):Prop:=yfo0 c addr v (yxl0 c addr v r)
def yho0 (c:S.Chip) (addr v:Int) (r:Prop):Prop:=yeo0 c addr v (yng1 c addr v r)
def yeh0 (c:S.Chip) (addr v:Int) (r:Prop):Prop:=yft0 c addr v (yho0 c addr v r)
def yit0 (c:S.Chip) (addr v:Int) (r:Prop):Prop:=yet0 c addr v (yeh0 c addr v r)
def yog1 (c:S.Chip) (addr v:Int) (r:Prop):Prop:=ydt0 c addr v (yit0 c addr v r)
def yfi0 (c:S.Chip) (addr v:Int) (r:Prop):Prop:=yct0 c addr v (yog1 c addr v r)
def yyl0 (c:S.Chip) (addr v:Int) (r:Prop):Prop:=ybt0 c addr v (yfi0 c addr v r)
def ypg1 (c:S.Chip) (addr v:Int) (r:Prop):Prop:=yoq0 c addr v (yyl0 c addr v r)
def yod0 (c:S.Chip) (addr v:Int) (r:Prop):Prop:=yoa1 c addr v (ypg1 c addr v r)
theorem yrm2 (c:S.Chip) (addr v:Int):K.bodyF (ylj2) (K.runF (ylj2) 30) 28 [.ptr 0 0,.int .u16 addr,.int .u8 v] (Heap.of (S.hp0 c)) (.skip 1 (.st [.int .i64 0,.int .i64 1,.int .i64 2,.int .i64 3,.int .i64 4,.int .i64 5,.int .i64 6,.int .i64 7,.int .i64 8,.int .i64 9,.int .i64 10,.int .i64 11,.int .i64 12,.int .i64 13,.int .i64 14,.int .i64 15,.int .i64 16,.int .i64 17,.int .i64 18,.int .i64 19,.int .i64 20,.int .i64 21,.int .i64 22,.int .i64 23,.int .i64 24,.int .i64 25,.int .i64 26,.int .i64 27,.int .i64 28,.int .i64 29,.int .i64 30,.int .i64 31,.int .i64 32,.int .i64 33,.int .i64 34,.int .i64 35,.int .i64 36,.int .i64 37,.int .i64 38,.int .i64 39,.int .i64 40,.int .i64 41,.int .i64 42,.int .i64 43,.int .i64 44,.int .i64 45,.int .i64 46,.int .i64 47,.int .i64 48,.int .i64 49,.int .i64 50,.int .i64 51,.int .i64 52,.int .i64 53,.int .i64 54,.int .i64 55,.int .i64 56,.int .i64 57,.int .i64 58,.int .i64 59,.int .i64 60,.int .i64 61,.int .i64 62,.int .i64 63] .auto)) (K.endC K.openE 40 (kStoR c addr v)) =
  (bc (eqI (S.adr addr) 0) (yxj0 c addr v (ykg1 c addr v (yyl0 c addr v True))) (bc (eqI (S.adr addr) 1) (yxj0 c addr v (ywv0 c addr v (ybt0 c addr v (yct0 c addr v (ydt0 c addr v (yet0 c addr v (yft0 c addr v (yeo0 c addr v (yfo0 c addr v (ygo0 c addr v (yej0 c addr v (yfj0 c addr v (ygj0 c addr v (ypk0 c addr v (yfn0 c addr v (ygn0 c addr v (yhn0 c addr v (yin0 c addr v (yxv0 c addr v True))))))))))))))))))) (bc (eqI (S.adr addr) 2) (ywl0 c addr v (yyv0 c addr v (yxl0 c addr v True))) (bc (eqI (S.adr addr) 3) (bc (S.okBm c.ba c.bs 4 20 57) (yht0 c addr v (yzv0 c addr v (yyq0 c addr v True))) False) (bc (eqI (S.adr addr) 4) (yxj0 c addr v (yaw0 c addr v (yyl0 c addr v True))) (bc (eqI (S.adr addr) 5) (yxj0 c addr v (ybw0 c addr v (yyl0 c addr v True))) (bc (eqI (S.adr addr) 6) (yxj0 c addr v (ycw0 c addr v (yyl0 c addr v True))) (bc (eqI (S.adr addr) 7) (yxj0 c addr v (ydw0 c addr v (yyl0 c addr v True))) (bc (eqI (S.adr addr) 8) (yei0 c addr v (yew0 c addr v (yfi0 c addr v True))) (bc (eqI (S.adr addr) 9) (yei0 c addr v (yfw0 c addr v (yfi0 c addr v True))) (bc (eqI (S.adr addr) 10) (yei0 c addr v (ygw0 c addr v (yfi0 c addr v True))) (bc (eqI (S.adr addr) 11) (yei0 c addr v (yhw0 c addr v (yfi0 c addr v True))) (bc (eqI (S.adr addr) 12) (yei0 c addr v (yiw0 c addr v (yfi0 c addr v True))) (bc (eqI (S.adr addr) 13) (yei0 c addr v (yjw0 c addr v (yfi0 c addr v True))) (bc (eqI (S.adr addr) 14) (yei0 c addr v (ykw0 c addr v (yfi0 c addr v True))) (bc (eqI (S.adr addr) 15) (yei0 c addr v (ylw0 c addr v (yfi0 c addr v True))) (bc (eqI (S.adr addr) 16) (bc (S.okPm c.t0.a 4 45 40 c.t0.s) (ypq0 c addr v (ymw0 c addr v (ywq0 c addr v True))) False) (bc (eqI (S.adr addr) 17) (bc (S.okPm c.t1.a 4 45 40 c.t1.s) (yqq0 c addr v (ynw0 c addr v (yvq0 c addr v True))) False) (bc (eqI (S.adr addr) 18) (bc (S.okPm c.t2.a 4 45 40 c.t2.s) (yrq0 c addr v (yow0 c addr v (ymn0 c addr v True))) False) (bc (eqI (S.adr addr) 19) (bc (S.okPm c.t3.a 4 45 40 c.t3.s) (ysq0 c addr v (ypw0 c addr v (yln0 c addr v True))) False) (bc (eqI (S.adr addr) 20) (bc (S.okPm c.t4.a 4 45 40 c.t4.s) (ytq0 c addr v (yqw0 c addr v (yuq0 c addr v True))) False) (bc (eqI (S.adr addr) 21) (yqk0 c addr v (yrw0 c addr v (ytk0 c addr v True))) (bc (eqI (S.adr addr) 22) (yrk0 c addr v (ysw0 c addr v (ysk0 c addr v True))) (bc (eqI (S.adr addr) 23) (yqk0 c addr v (ytw0 c addr v (ytk0 c addr v True))) (bc (eqI (S.adr addr) 24) (yrk0 c addr v (yuw0 c addr v (ysk0 c addr v True))) (bc (eqI (S.adr addr) 25) (yqk0 c addr v (yvw0 c addr v (ytk0 c addr v True))) (bc (eqI (S.adr addr) 26) (yrk0 c addr v (yww0 c addr v (ysk0 c addr v True))) (bc (eqI (S.adr addr) 27) (ywl0 c addr v (yxw0 c addr v (yxl0 c addr v True))) (bc (eqI (S.adr addr) 28) (ywl0 c addr v (yyw0 c addr v (yxl0 c addr v True))) (bc (eqI (S.adr addr) 29) (ygt0 c addr v (yzw0 c addr v (yit0 c addr v True))) (bc (eqI (S.adr addr) 30) (ygt0 c addr v (yax0 c addr v (yit0 c addr v True))) (bc (eqI (S.adr addr) 31) (ywl0 c addr v (ybx0 c addr v (yxl0 c addr v True))) (bc (eqI (S.adr addr) 32) (ydh0 c addr v (ycx0 c addr v (yeh0 c addr v True))) (bc (eqI (S.adr addr) 33) (ydh0 c addr v (ydx0 c addr v (yeh0 c addr v True))) (bc (eqI (S.adr addr) 34) (ydh0 c addr v (yex0 c addr v (yeh0 c addr v True))) (bc (eqI (S.adr addr) 35) (ydh0 c addr v (yfx0 c addr v (yeh0 c addr v True))) (bc (eqI (S.adr addr) 36) (ydh0 c addr v (ygx0 c addr v (yeh0 c addr v True))) (bc (eqI (S.adr addr) 37) (ydh0 c addr v (yhx0 c addr v (yeh0 c addr v True))) (bc (eqI (S.adr addr) 38) (ydh0 c addr v (yix0 c addr v (yeh0 c addr v True))) (bc (eqI (S.adr addr) 39) (ydh0 c addr v (yjx0 c addr v (yeh0 c addr v True))) (bc (eqI (S.adr addr) 40) (bc (notB (eqI (andK .u8 c.r5.x0 2) 0)) (bc (eqI (andK .u8 v 2) 0) (bc (S.an (S.pl c.t0) (S.pl c.t2)) (yyj0 c addr v (yjn0 c addr v (yeo0 c addr v (yfo0 c addr v (ygo0 c addr v (yej0 c addr v (yfj0 c addr v (ygj0 c addr v (ykx0 c addr v (ymn0 c addr v True)))))))))) False) (yyj0 c addr v (yjn0 c addr v (yho0 c addr v True)))) (yyj0 c addr v (yjn0 c addr v (yho0 c addr v True)))) (bc (eqI (S.adr addr) 41) (bc (notB (eqI (andK .u8 c.r5.x1 2) 0)) (bc (eqI (andK .u8 v 2) 0) (bc (S.an (S.pl c.t1) (S.pl c.t3)) (yyj0 c addr v (ykn0 c addr v (yeo0 c addr v (yfo0 c addr v (ygo0 c addr v (yej0 c addr v (yfj0 c addr v (ygj0 c addr v (ypk0 c addr v (ylx0 c addr v (yln0 c addr v True))))))))))) False) (yyj0 c addr v (ykn0 c addr v (yho0 c addr v True)))) (yyj0 c addr v (ykn0 c addr v (yho0 c addr v True)))) (bc (eqI (S.adr addr) 42) (bc (S.okBm c.ba c.bs 4 20 57) (yht0 c addr v (ymx0 c addr v (ynx0 c addr v (yxq0 c addr v True)))) False) (bc (eqI (S.adr addr) 43) (ydh0 c addr v (yox0 c addr v (yeh0 c addr v True))) (bc (eqI (S.adr addr) 44) (ywl0 c addr v (ypx0 c addr v (yxl0 c addr v True))) (bc (eqI (S.adr addr) 45) (yod0 c addr v True) (bc (eqI (S.adr addr) 46) (yod0 c addr v True) (bc (eqI (S.adr addr) 47) (yod0 c addr v True) (bc (eqI (S.adr addr) 48) (yod0 c addr v True) (bc (eqI (S.adr addr) 49) (yod0 c addr v True) (bc (eqI (S.adr addr) 50) (yod0 c addr v True) (bc (eqI (S.adr addr) 51) (yod0 c addr v True) (bc (eqI (S.adr addr) 52) (yod0 c addr v True) (bc (eqI (S.adr addr) 53) (yod0 c addr v True) (bc (eqI (S.adr addr) 54) (yod0 c addr v True) (bc (eqI (S.adr addr) 55) (yod0 c addr v True) (bc (eqI (S.adr addr) 56) (yod0 c addr v True) (bc (eqI (S.adr addr) 57) (yod0 c addr v True) (bc (eqI (S.adr addr) 58) (yod0 c addr v True) (bc (eqI (S.adr addr) 59) (yod0 c addr v True) (bc (eqI (S.adr addr) 60) (yod0 c addr v True) (bc (eqI (S.adr addr) 61) (yod0 c addr v True) (bc (eqI (S.adr addr) 62) (yod0 c addr v True) (bc (eqI (S.adr addr) 63) (yod0 c addr v True) False)))))))))))))))))))))))))))))))))))))))))))))))))))))))))))))))):=by kernel_rfl
theorem ysm2 (c:S.Chip) (addr v:Int) (h0:S.okC c=true)  : HTr Tryz.prog 28 [.ptr 0 0,.int .u16 addr,.int .u8 v] (S.hp0 c) (kStoR c addr v):=by
 refine K.yca0 good (A:=ylj2) (yha0 ?_) K.yea0 (k:=30) (cast (yrm2 c addr v).symm ?_)
 .intro p hp;simp only [List.mem_cons,List.not_mem_nil,or_false] at hp;rcases hp with rfl | rfl | rfl | rfl | rfl | rfl | rfl | rfl | rfl | rfl;exact ynl2;exact yvz1;exact yqb2;exact ykr1;exact yaj1;exact yam2;exact yjs1;exact yqm2;exact yma1;exact yfm2
 .obtain ⟨pb,pp,pt,pd,pv,pw⟩:=S.ygf0.1 h0;obtain ⟨_,_,a0,a1,a2,a3,a4⟩:=S.yog0.1 pt;have p0:=(S.yla0.1 a0).1;have p1:=(S.yla0.1 a1).1;have p2:=(S.yla0.1 a2).1;have p3:=(S.yla0.1 a3).1;have p4:=(S.yla0.1 a4).1;have k0:S.an (S.pl c.t0) (S.pl c.t2)=true:=S.an_t2 p0 p2;have k1:S.an (S.pl c.t1) (S.pl c.t3)=true:=S.an_t2 p1 p3;have z1:S.inR 0 160=true:=rfl;have z2:S.st (0 / 4)=0:=S.st0;have hf:∀ k x n,notB (eqI (andK k x n) 0)=S.hb k x n:=fun _ _ _=>rfl
  have hg:∀ k x n,eqI (andK k x n) 0=notB (S.hb k x n):=fun k x n=>by unfold S.hb;cases eqI (andK k x n) 0 <;> rfl
  simp only [pb,p0,p1,p2,p3,p4,k0,k1,bc_true];clear pb pp pt pd pv pw a0 a1 a2 a3 a4 p0 p1 p2 p3 p4 k0 k1 h0;have hany:=S.yzs2 addr;refine bcI (fun e=>?_) fun n0=>bcI (fun e=>?_) fun n1=>bcI (fun e=>?_) fun n2=>bcI (fun e=>?_) fun n3=>bcI (fun e=>?_) fun n4=>bcI (fun e=>?_) fun n5=>bcI (fun e=>?_) fun n6=>bcI (fun e=>?_) fun n7=>bcI (fun e=>?_) fun n8=>bcI (fun e=>?_) fun n9=>bcI (fun e=>?_) fun n10=>bcI (fun e=>?_) fun n11=>bcI (fun e=>?_) fun n12=>bcI (fun e=>?_) fun n13=>bcI (fun e=>?_) fun n14=>bcI (fun e=>?_) fun n15=>bcI (fun e=>?_) fun n16=>bcI (fun e=>?_) fun n17=>bcI (fun e=>?_) fun n18=>bcI (fun e=>?_) fun n19=>bcI (fun e=>?_) fun n20=>bcI (fun e=>?_) fun n21=>bcI (fun e=>?_) fun n22=>bcI (fun e=>?_) fun n23=>bcI (fun e=>?_) fun n24=>bcI (fun e=>?_) fun n25=>bcI (fun e=>?_) fun n26=>bcI (fun e=>?_) fun n27=>bcI (fun e=>?_) fun n28=>bcI (fun e=>?_) fun n29=>bcI (fun e=>?_) fun n30=>bcI (fun e=>?_) fun n31=>bcI (fun e=>?_) fun n32=>bcI (fun e=>?_) fun n33=>bcI (fun e=>?_) fun n34=>bcI (fun e=>?_) fun n35=>bcI (fun e=>?_) fun n36=>bcI (fun e=>?_) fun n37=>bcI (fun e=>?_) fun n38=>bcI (fun e=>?_) fun n39=>bcI (fun e=>?_) fun n40=>bcI (fun e=>?_) fun n41=>bcI (fun e=>?_) fun n42=>bcI (fun e=>?_) fun n43=>bcI (fun e=>?_) fun n44=>bcI (fun e=>?_) fun n45=>bcI (fun e=>?_) fun n46=>bcI (fun e=>?_) fun n47=>bcI (fun e=>?_) fun n48=>bcI (fun e=>?_) fun n49=>bcI (fun e=>?_) fun n50=>bcI (fun e=>?_) fun n51=>bcI (fun e=>?_) fun n52=>bcI (fun e=>?_) fun n53=>bcI (fun e=>?_) fun n54=>bcI (fun e=>?_) fun n55=>bcI (fun e=>?_) fun n56=>bcI (fun e=>?_) fun n57=>bcI (fun e=>?_) fun n58=>bcI (fun e=>?_) fun n59=>bcI (fun e=>?_) fun n60=>bcI (fun e=>?_) fun n61=>bcI (fun e=>?_) fun n62=>bcI (fun e=>?_) fun n63=>?z
  case z=>simp only [n0,n1,n2,n3,n4,n5,n6,n7,n8,n9,n10,n11,n12,n13,n14,n15,n16,n17,n18,n19,n20,n21,n22,n23,n24,n25,n26,n27,n28,n29,n30,n31,n32,n33,n34,n35,n36,n37,n38,n39,n40,n41,n42,n43,n44,n45,n46,n47,n48,n49,n50,n51,n52,n53,n54,n55,n56,n57,n58,n59,n60,n61,n62,n63,bc_false,Bool.false_eq_true] at hany
  all_goals (have q:=ypa0.1 e;clear e hany)
  all_goals first
   | (simp only [yoa1,ykg1,ybt0,yct0,ydt0,yet0,yft0,yeo0,yfo0,ygo0,yej0,yfj0,ygj0,ypk0,yfn0,ygn0,yhn0,yin0,ynq0,ywv0,yxv0,yoq0,yyv0,yzv0,yaw0,ybw0,ycw0,ydw0,yew0,yfw0,ygw0,yhw0,yiw0,yjw0,ykw0,ylw0,ymw0,ynw0,yow0,ypw0,yqw0,yrw0,ysw0,ytw0,yuw0,yvw0,yww0,yxw0,yyw0,yzw0,yax0,ybx0,ycx0,ydx0,yex0,yfx0,ygx0,yhx0,yix0,yjx0,yjn0,ykx0,ykn0,ylx0,ymx0,ynx0,yox0,ypx0,yxj0,yei0,ylg1,ygt0,ydh0,yyj0,ymg1,ywl0,yht0,yqx0,ypq0,yqq0,yrq0,ysq0,ytq0,yqk0,yrk0,yrx0,yod1,yod0,ypg1,yyl0,yfi0,yog1,yit0,yeh0,yho0,yng1,yxl0,yyq0,yxq0,ywq0,yvq0,ymn0,yln0,yuq0,ytk0,ysk0,q,S.rg_t,S.rb_t,S.rg_f,S.rb_f,S.frW_t,S.frW_f,ne_eq,S.hb,z1,z2,S.st0,bc_true,bc_false,and_self,true_and,and_true,eq_self,not_false_eq_true,Int.reduceEq,Int.reduceMod,Int.reduceDiv];done)
   | (simp only [hf, hg, bc_true]
      generalize hA:S.hb .u8 c.r5.x0 2=bA;generalize hB:S.hb .u8 v 2=bB;simp only [yoa1,ykg1,ybt0,yct0,ydt0,yet0,yft0,yeo0,yfo0,ygo0,yej0,yfj0,ygj0,ypk0,yfn0,ygn0,yhn0,yin0,ynq0,ywv0,yxv0,yoq0,yyv0,yzv0,yaw0,ybw0,ycw0,ydw0,yew0,yfw0,ygw0,yhw0,yiw0,yjw0,ykw0,ylw0,ymw0,ynw0,yow0,ypw0,yqw0,yrw0,ysw0,ytw0,yuw0,yvw0,yww0,yxw0,yyw0,yzw0,yax0,ybx0,ycx0,ydx0,yex0,yfx0,ygx0,yhx0,yix0,yjx0,yjn0,ykx0,ykn0,ylx0,ymx0,ynx0,yox0,ypx0,yxj0,yei0,ylg1,ygt0,ydh0,yyj0,ymg1,ywl0,yht0,yqx0,ypq0,yqq0,yrq0,ysq0,ytq0,yqk0,yrk0,yrx0,yod1,yod0,ypg1,yyl0,yfi0,yog1,yit0,yeh0,yho0,yng1,yxl0,yyq0,yxq0,ywq0,yvq0,ymn0,yln0,yuq0,ytk0,ysk0,q,S.rg_t,S.rb_t,S.rg_f,S.rb_f,S.frW_t,S.frW_f,ne_eq,hA,hB,not_false_eq_true,Int.reduceEq];cases bA <;> cases bB <;> simp only [S.an,yra0,yqa0,bc_true,bc_false,and_self,true_and,and_true,eq_self,not_false_eq_true,Int.reduceEq]
      done)
   | (simp only [hf, hg, bc_true]
      generalize hA:S.hb .u8 c.r5.x1 2=bA;generalize hB:S.hb .u8 v 2=bB;simp only [yoa1,ykg1,ybt0,yct0,ydt0,yet0,yft0,yeo0,yfo0,ygo0,yej0,yfj0,ygj0,ypk0,yfn0,ygn0,yhn0,yin0,ynq0,ywv0,yxv0,yoq0,yyv0,yzv0,yaw0,ybw0,ycw0,ydw0,yew0,yfw0,ygw0,yhw0,yiw0,yjw0,ykw0,ylw0,ymw0,ynw0,yow0,ypw0,yqw0,yrw0,ysw0,ytw0,yuw0,yvw0,yww0,yxw0,yyw0,yzw0,yax0,ybx0,ycx0,ydx0,yex0,yfx0,ygx0,yhx0,yix0,yjx0,yjn0,ykx0,ykn0,ylx0,ymx0,ynx0,yox0,ypx0,yxj0,yei0,ylg1,ygt0,ydh0,yyj0,ymg1,ywl0,yht0,yqx0,ypq0,yqq0,yrq0,ysq0,ytq0,yqk0,yrk0,yrx0,yod1,yod0,ypg1,yyl0,yfi0,yog1,yit0,yeh0,yho0,yng1,yxl0,yyq0,yxq0,ywq0,yvq0,ymn0,yln0,yuq0,ytk0,ysk0,q,S.rg_t,S.rb_t,S.rg_f,S.rb_f,S.frW_t,S.frW_f,ne_eq,hA,hB,not_false_eq_true,Int.reduceEq]
      cases bA <;> cases bB <;> simp only [S.an,yra0,yqa0,bc_true,bc_false,and_self,true_and,and_true,eq_self,not_false_eq_true,Int.reduceEq])
theorem ypt1 (c:S.Chip) (addr v:Int) (h0:S.okC c=true):HT Tryz.prog 28 [.ptr 0 0,.int .u16 addr,.int .u8 v] (Heap.of (S.hp0 c)) (.ret (.tup [])) (Heap.of (K.chg (S.hp0 c) (hpCh (S.yvb0 addr v c))++[])):=cast (by kernel_rfl) (ysm2 c addr v h0)
theorem yyo0:yxs0.ok Tryz.prog 28:=by
 intro xs os b r h h3;unfold yxs0 at h;simp only at h;split at h
 .obtain ⟨c,rfl,q⟩:=S.ylb0 h;clear h;injection q with h;injection h with h1 h2;subst h1;subst h2;exact ypt1 _ _ _ h3
 .cases h
namespace S
theorem yat2 (addr:Int):0<=adf addr/\adf addr<16:=by
 unfold adf;rw [K.ydf1]
 have h:(BitVec.ofInt IntKind.u16.bits addr &&& BitVec.ofInt IntKind.u16.bits 15).toNat<=15:=by
  rw [BitVec.toNat_and];exact Nat.le_trans Nat.and_le_right (by decide)
 generalize (BitVec.ofInt IntKind.u16.bits addr &&& BitVec.ofInt IntKind.u16.bits 15).toNat=n at h
 have e:IntKind.u16.wrap (n:Int)=n:=by
  rw [<- K.yce0,yve0];omega
 rw [e,yja0];omega
theorem u16_1 {x:Int} (h0:0<=x) (h1:x<65536):andK .u16 x 1=x % 2:=by
 obtain ⟨n,rfl⟩:=Int.eq_ofNat_of_zero_le h0;rw [K.ydf1];have hn:n<65536:=by omega
 have e1:BitVec.ofInt IntKind.u16.bits (n:Int)=BitVec.ofNat 16 n:=by
  apply BitVec.eq_of_toNat_eq;simp [IntKind.bits]
 have e2:BitVec.ofInt IntKind.u16.bits 1=BitVec.ofNat 16 1:=rfl;rw [e1,e2,<- K.yce0,yve0]
 have e3:(BitVec.ofNat 16 n &&& BitVec.ofNat 16 1).toNat=n % 2:=by
  rw [BitVec.toNat_and,BitVec.toNat_ofNat,BitVec.toNat_ofNat,Nat.mod_eq_of_lt (by omega:n<2 ^ 16)];exact Nat.and_one_is_mod n
 have e4:((BitVec.ofNat 16 n &&& BitVec.ofNat 16 1).toNat:Int)=(n:Int) % 2:=by rw [e3];omega
 refine (congrArg (· % 65536) e4).trans ?_;show (n:Int) % 2 % 65536=(n:Int) % 2;omega
theorem t_bit {met:Int} (h:inR met 65536=true) (k:Nat):andK .u16 (met.fdiv (2 ^ k)) 1=met / 2 ^ k % 2:=by
 have h1:=yga0.1 h;have hp:(0:Int)<2 ^ k:=Int.pow_pos (by decide);rw [fd h1.1];have a:=Int.ediv_nonneg h1.1 (Int.le_of_lt hp);have b:met / 2 ^ k<=met:=Int.ediv_le_self _ h1.1;exact u16_1 a (by omega)
theorem t_two {a b:Int} (ha:a=0\/a=1) (hb:b=0\/b=1):wrapK .u8 (orK .u16 (wrapK .u16 (a*2 ^ 7)) (wrapK .u16 (b*2 ^ 6)))=128*a+64*b:=by
 rcases ha with rfl | rfl <;> rcases hb with rfl | rfl <;> decide
theorem m2 (x:Int):x % 2=0\/x % 2=1:=by omega
end S
theorem yqt1 (met:Int):K.bodyF (envL []) (K.runF (envL []) 30) 111 [.int .u16 met,.int .i64 0] (Heap.of []) Hint.auto (K.endC K.openE 0 ⟨.ret (.int .u8 (S.tell met 0)),[],[]⟩) =
  ((S.tell met (0:Int)=wrapK .u8 (orK .u16 (wrapK .u16 (andK .u16 (Int.fdiv met (2 ^ 0)) 1*2 ^ 7)) (wrapK .u16 (andK .u16 (Int.fdiv met (2 ^ 1)) 1*2 ^ 6)))/\True)):=by kernel_rfl
theorem yrt1 (met:Int) (h0:S.inR met 65536=true)  : HTr Tryz.prog 111 [.int .u16 met,.int .i64 0] [] ⟨.ret (.int .u8 (S.tell met 0)),[],[]⟩:=by
 refine K.yca0 good (A:=envL []) (yha0 ?_) K.yea0 (k:=30) (cast (yqt1 met).symm ?_)
 .intro p hp;cases hp
 .have b:=S.t_bit h0;have c1:S.tell met 0=128*(met / 2 ^ 0 % 2)+64*(met / 2 ^ 1 % 2):=rfl;simp only [b,c1];refine ⟨?_,trivial⟩;exact (S.t_two (S.m2 _) (S.m2 _)).symm
theorem yst1 (met:Int):K.bodyF (envL []) (K.runF (envL []) 30) 111 [.int .u16 met,.int .i64 1] (Heap.of []) Hint.auto (K.endC K.openE 0 ⟨.ret (.int .u8 (S.tell met 1)),[],[]⟩) =
  ((S.tell met (1:Int)=wrapK .u8 (orK .u16 (wrapK .u16 (andK .u16 (Int.fdiv met (2 ^ 2)) 1*2 ^ 7)) (wrapK .u16 (andK .u16 (Int.fdiv met (2 ^ 3)) 1*2 ^ 6)))/\True)):=by kernel_rfl
theorem ytt1 (met:Int) (h0:S.inR met 65536=true)  : HTr Tryz.prog 111 [.int .u16 met,.int .i64 1] [] ⟨.ret (.int .u8 (S.tell met 1)),[],[]⟩:=by
 refine K.yca0 good (A:=envL []) (yha0 ?_) K.yea0 (k:=30) (cast (yst1 met).symm ?_)
 .intro p hp;cases hp
 .have b:=S.t_bit h0;have c1:S.tell met 1=128*(met / 2 ^ 2 % 2)+64*(met / 2 ^ 3 % 2):=rfl;simp only [b,c1];refine ⟨?_,trivial⟩;exact (S.t_two (S.m2 _) (S.m2 _)).symm
theorem yut1 (met:Int):K.bodyF (envL []) (K.runF (envL []) 30) 111 [.int .u16 met,.int .i64 2] (Heap.of []) Hint.auto (K.endC K.openE 0 ⟨.ret (.int .u8 (S.tell met 2)),[],[]⟩) =
  ((S.tell met (2:Int)=wrapK .u8 (orK .u16 (wrapK .u16 (andK .u16 (Int.fdiv met (2 ^ 4)) 1*2 ^ 7)) (wrapK .u16 (andK .u16 (Int.fdiv met (2 ^ 5)) 1*2 ^ 6)))/\True)):=by kernel_rfl
theorem yvt1 (met:Int) (h0:S.inR met 65536=true)  : HTr Tryz.prog 111 [.int .u16 met,.int .i64 2] [] ⟨.ret (.int .u8 (S.tell met 2)),[],[]⟩:=by
 refine K.yca0 good (A:=envL []) (yha0 ?_) K.yea0 (k:=30) (cast (yut1 met).symm ?_)
 .intro p hp;cases hp
 .have b:=S.t_bit h0;have c1:S.tell met 2=128*(met / 2 ^ 4 % 2)+64*(met / 2 ^ 5 % 2):=rfl;simp only [b,c1];refine ⟨?_,trivial⟩;exact (S.t_two (S.m2 _) (S.m2 _)).symm
theorem ywt1 (met:Int):K.bodyF (envL []) (K.runF (envL []) 30) 111 [.int .u16 met,.int .i64 3] (Heap.of []) Hint.auto (K.endC K.openE 0 ⟨.ret (.int .u8 (S.tell met 3)),[],[]⟩) =
  ((S.tell met (3:Int)=wrapK .u8 (orK .u16 (wrapK .u16 (andK .u16 (Int.fdiv met (2 ^ 6)) 1*2 ^ 7)) (wrapK .u16 (andK .u16 (Int.fdiv met (2 ^ 7)) 1*2 ^ 6)))/\True)):=by kernel_rfl
theorem yxt1 (met:Int) (h0:S.inR met 65536=true)  : HTr Tryz.prog 111 [.int .u16 met,.int .i64 3] [] ⟨.ret (.int .u8 (S.tell met 3)),[],[]⟩:=by
 refine K.yca0 good (A:=envL []) (yha0 ?_) K.yea0 (k:=30) (cast (ywt1 met).symm ?_)
 .intro p hp;cases hp
 .have b:=S.t_bit h0;have c1:S.tell met 3=128*(met / 2 ^ 6 % 2)+64*(met / 2 ^ 7 % 2):=rfl;simp only [b,c1];refine ⟨?_,trivial⟩;exact (S.t_two (S.m2 _) (S.m2 _)).symm
theorem yyt1 (met:Int):K.bodyF (envL []) (K.runF (envL []) 30) 111 [.int .u16 met,.int .i64 4] (Heap.of []) Hint.auto (K.endC K.openE 0 ⟨.ret (.int .u8 (S.tell met 4)),[],[]⟩) =
  ((S.tell met (4:Int)=wrapK .u8 (orK .u16 (wrapK .u16 (andK .u16 (Int.fdiv met (2 ^ 8)) 1*2 ^ 7)) (wrapK .u16 (andK .u16 (Int.fdiv met (2 ^ 9)) 1*2 ^ 6)))/\True)):=by kernel_rfl
theorem yzt1 (met:Int) (h0:S.inR met 65536=true)  : HTr Tryz.prog 111 [.int .u16 met,.int .i64 4] [] ⟨.ret (.int .u8 (S.tell met 4)),[],[]⟩:=by
 refine K.yca0 good (A:=envL []) (yha0 ?_) K.yea0 (k:=30) (cast (yyt1 met).symm ?_)
 .intro p hp;cases hp
 .have b:=S.t_bit h0;have c1:S.tell met 4=128*(met / 2 ^ 8 % 2)+64*(met / 2 ^ 9 % 2):=rfl;simp only [b,c1];refine ⟨?_,trivial⟩;exact (S.t_two (S.m2 _) (S.m2 _)).symm
theorem yau1 (met:Int):K.bodyF (envL []) (K.runF (envL []) 30) 111 [.int .u16 met,.int .i64 5] (Heap.of []) Hint.auto (K.endC K.openE 0 ⟨.ret (.int .u8 (S.tell met 5)),[],[]⟩) =
  ((S.tell met (5:Int)=wrapK .u8 (orK .u16 (wrapK .u16 (andK .u16 (Int.fdiv met (2 ^ 10)) 1*2 ^ 7)) (wrapK .u16 (andK .u16 (Int.fdiv met (2 ^ 11)) 1*2 ^ 6)))/\True)):=by kernel_rfl
theorem ybu1 (met:Int) (h0:S.inR met 65536=true)  : HTr Tryz.prog 111 [.int .u16 met,.int .i64 5] [] ⟨.ret (.int .u8 (S.tell met 5)),[],[]⟩:=by
 refine K.yca0 good (A:=envL []) (yha0 ?_) K.yea0 (k:=30) (cast (yau1 met).symm ?_)
 .intro p hp;cases hp
 .have b:=S.t_bit h0;have c1:S.tell met 5=128*(met / 2 ^ 10 % 2)+64*(met / 2 ^ 11 % 2):=rfl;simp only [b,c1];refine ⟨?_,trivial⟩;exact (S.t_two (S.m2 _) (S.m2 _)).symm
theorem ycu1 (met:Int):K.bodyF (envL []) (K.runF (envL []) 30) 111 [.int .u16 met,.int .i64 6] (Heap.of []) Hint.auto (K.endC K.openE 0 ⟨.ret (.int .u8 (S.tell met 6)),[],[]⟩) =
  ((S.tell met (6:Int)=wrapK .u8 (orK .u16 (wrapK .u16 (andK .u16 (Int.fdiv met (2 ^ 12)) 1*2 ^ 7)) (wrapK .u16 (0*2 ^ 6)))/\True)):=by kernel_rfl
theorem ydu1 (met:Int) (h0:S.inR met 65536=true)  : HTr Tryz.prog 111 [.int .u16 met,.int .i64 6] [] ⟨.ret (.int .u8 (S.tell met 6)),[],[]⟩:=by
 refine K.yca0 good (A:=envL []) (yha0 ?_) K.yea0 (k:=30) (cast (ycu1 met).symm ?_)
 .intro p hp;cases hp
 .have b:=S.t_bit h0;have c1:S.tell met 6=128*(met / 2 ^ 12 % 2):=rfl;simp only [b,c1];refine ⟨?_,trivial⟩;have h:=(S.t_two (S.m2 (met / 2 ^ 12)) (.inl rfl)).symm;rw [show (64:Int)*0=0 from rfl,Int.add_zero] at h;exact h
theorem yeu1 (met:Int):K.bodyF (envL []) (K.runF (envL []) 30) 111 [.int .u16 met,.int .i64 7] (Heap.of []) Hint.auto (K.endC K.openE 0 ⟨.ret (.int .u8 (S.tell met 7)),[],[]⟩) =
  ((S.tell met (7:Int)=wrapK .u8 (orK .u16 (wrapK .u16 (andK .u16 (Int.fdiv met (2 ^ 13)) 1*2 ^ 7)) (wrapK .u16 (andK .u16 (Int.fdiv met (2 ^ 14)) 1*2 ^ 6)))/\True)):=by kernel_rfl
theorem yfu1 (met:Int) (h0:S.inR met 65536=true)  : HTr Tryz.prog 111 [.int .u16 met,.int .i64 7] [] ⟨.ret (.int .u8 (S.tell met 7)),[],[]⟩:=by
 refine K.yca0 good (A:=envL []) (yha0 ?_) K.yea0 (k:=30) (cast (yeu1 met).symm ?_)
 .intro p hp;cases hp
 .have b:=S.t_bit h0;have c1:S.tell met 7=128*(met / 2 ^ 13 % 2)+64*(met / 2 ^ 14 % 2):=rfl;simp only [b,c1];refine ⟨?_,trivial⟩;exact (S.t_two (S.m2 _) (S.m2 _)).symm
theorem yrb2 (met r:Int) (h0:S.an (S.inR r 8) (S.inR met 65536)=true):HT Tryz.prog 111 [.int .u16 met,.int .i64 r] (Heap.of []) (.ret (.int .u8 (S.tell met r))) (Heap.of (K.chg [] []++[])):=by
 obtain ⟨h1,h2⟩:=S.yla0.1 h0;have h3:=S.yga0.1 h1;rcases (by omega:r=0\/r=1\/r=2\/r=3\/r=4\/r=5\/r=6\/r=7) with rfl | rfl | rfl | rfl | rfl | rfl | rfl | rfl
 .exact yrt1 met h2
 .exact ytt1 met h2
 .exact yvt1 met h2
 .exact yxt1 met h2
 .exact yzt1 met h2
 .exact ybu1 met h2
 .exact ydu1 met h2
 .exact yfu1 met h2
theorem ytm2:ymj2.ok Tryz.prog 111:=by
 intro xs os b r h h3;unfold ymj2 at h;simp only at h;split at h
 .injection h with h;injection h with h1 h2;subst h1;subst h2;exact yrb2 _ _ h3
 .cases h
theorem ysb2 (c:S.Chip) (addr bus:Int):K.bodyF (yfq1) (K.runF (yfq1) 30) 30 [.ptr 0 0,.int .u16 addr,.int .u8 bus] (Heap.of (S.hp0 c)) Hint.auto (K.endC K.openE 40 ⟨.ret (.int .u8 (S.readV c addr bus)),[],[]⟩) =
  (bc (ltI (S.adf addr) 8) (bc (S.an (S.inR (S.adf addr) 8) (S.inR c.met 65536)) (S.readV c addr bus=orK .u8 (S.tell c.met (S.adf addr)) (andK .u8 bus 63)/\True) False) (bc (ltI (S.adf addr) 14) (bc (S.an (S.inR (wrapK .i64 (wrapK .i64 (andK .u16 addr 15)-8)) 6) (S.okP c.po.v0 c.po.v1 c.po.v2 c.po.v3 c.po.ymx2)) (bc (S.yxc0 (wrapK .i64 (wrapK .i64 (andK .u16 addr 15)-8)) c.po.v0 c.po.v1 c.po.v2 c.po.v3 c.po.ymx2 c.po.ynx2 c.po.h0 c.po.l0 c.po.h1 c.po.l1 c.po.ylx2) (S.readV c addr bus=orK .u8 bus 128/\True) (S.readV c addr bus=IntKind.wrap .u8 ↑(BitVec.toNat (BitVec.ofInt 8 bus &&& ~~~BitVec.ofInt 8 128))/\True)) False) (S.readV c addr bus=bus/\True))):=by kernel_rfl
theorem ytb2 (c:S.Chip) (addr bus:Int) (h0:S.okQ c=true)  : HTr Tryz.prog 30 [.ptr 0 0,.int .u16 addr,.int .u8 bus] (S.hp0 c) ⟨.ret (.int .u8 (S.readV c addr bus)),[],[]⟩:=by
 refine K.yca0 good (A:=yfq1) (yha0 ?_) K.yea0 (k:=30) (cast (ysb2 c addr bus).symm ?_)
 .intro p hp;simp only [List.mem_cons,List.not_mem_nil,or_false] at hp;rcases hp with rfl | rfl;exact ytm2;exact yol2
 .obtain ⟨hc,hm⟩:=S.yla0.1 h0;obtain ⟨pb,pp,pt,pd,pv,pw⟩:=S.ygf0.1 hc;have r:=S.yat2 addr;have m:=S.yga0.1 hm;have m2:S.inR c.met 65536=true:=S.yga0.2 (by omega);have ea:wrapK .i64 (andK .u16 addr 15)=S.adf addr:=rfl;simp only [ea,m2,pp,S.readV];cases h8:ltI (S.adf addr) 8 with
  | true =>
   have i8:S.inR (S.adf addr) 8=true:=S.yga0.2 ⟨r.1,yia0.1 h8⟩;simp only [i8,S.an,bc_true,and_self]
  | false =>
   have r8:=yba0.1 h8;cases h14:ltI (S.adf addr) 14 with
   | true =>
    have r14:=yia0.1 h14;have w:wrapK .i64 (S.adf addr-8)=S.adf addr-8:=by rw [yja0];omega
    have i6:S.inR (S.adf addr-8) 6=true:=S.yga0.2 (by omega);simp only [w,i6,S.an,bc_true,bc_false];cases S.yxc0 (S.adf addr-8) c.po.v0 c.po.v1 c.po.v2 c.po.v3 c.po.ymx2 c.po.ynx2 c.po.h0 c.po.l0 c.po.h1 c.po.l1 c.po.ylx2 <;> simp only [bc_true,bc_false,S.clr,and_self]
   | false=>simp only [bc_false,and_self]
theorem yum2:ynj2.ok Tryz.prog 30:=by
 intro xs os b r h h3;unfold ynj2 at h;simp only at h;split at h
 .obtain ⟨c,rfl,q⟩:=S.ylb0 h;clear h;injection q with h;injection h with h1 h2;subst h1;subst h2;exact ytb2 _ _ _ h3
 .cases h
theorem yvm2 (c:S.Chip) (n v:Int):K.bodyF (envL [(110,kInE)]) (K.runF (envL [(110,kInE)]) 30) 29 [.ptr 0 0,.int .i64 n,.int .u8 v] (Heap.of (S.hp0 c)) Hint.auto (K.endC K.openE 40 ⟨.ret (.tup []),[(39,.cells 182 .exact [.int .u8 (S.inC n v c).po.v0,.int .u8 (S.inC n v c).po.v1,.int .u8 (S.inC n v c).po.v2,.int .u8 (S.inC n v c).po.v3,.int .i64 (S.inC n v c).po.ymx2,.bool (S.inC n v c).po.ynx2,.bool (S.inC n v c).po.h0,.bool (S.inC n v c).po.l0,.bool (S.inC n v c).po.h1,.bool (S.inC n v c).po.l1,.bool (S.inC n v c).po.ylx2])],[]⟩) =
  ((S.Po.v0 (S.Chip.po (S.inC n v c))=S.pkV n v 0 c.po.v0/\(S.Po.v1 (S.Chip.po (S.inC n v c))=S.pkV n v 1 c.po.v1/\(S.Po.v2 (S.Chip.po (S.inC n v c))=S.pkV n v 2 c.po.v2/\(S.Po.v3 (S.Chip.po (S.inC n v c))=S.pkV n v 3 c.po.v3/\(S.Po.ymx2 (S.Chip.po (S.inC n v c))=c.po.ymx2/\(S.Po.ynx2 (S.Chip.po (S.inC n v c))=c.po.ynx2/\(S.Po.h0 (S.Chip.po (S.inC n v c))=S.pkH n v 4 c.po.h0/\(S.Po.l0 (S.Chip.po (S.inC n v c))=S.pkL n v 4 c.po.ylx2 c.po.l0 c.po.h0/\(S.Po.h1 (S.Chip.po (S.inC n v c))=S.pkH n v 5 c.po.h1/\(S.Po.l1 (S.Chip.po (S.inC n v c))=S.pkL n v 5 c.po.ylx2 c.po.l1 c.po.h1/\(S.Po.ylx2 (S.Chip.po (S.inC n v c))=c.po.ylx2/\True)))))))))))):=by kernel_rfl
theorem ywm2 (c:S.Chip) (n v:Int)  : HTr Tryz.prog 29 [.ptr 0 0,.int .i64 n,.int .u8 v] (S.hp0 c) ⟨.ret (.tup []),[(39,.cells 182 .exact [.int .u8 (S.inC n v c).po.v0,.int .u8 (S.inC n v c).po.v1,.int .u8 (S.inC n v c).po.v2,.int .u8 (S.inC n v c).po.v3,.int .i64 (S.inC n v c).po.ymx2,.bool (S.inC n v c).po.ynx2,.bool (S.inC n v c).po.h0,.bool (S.inC n v c).po.l0,.bool (S.inC n v c).po.h1,.bool (S.inC n v c).po.l1,.bool (S.inC n v c).po.ylx2])],[]⟩:=by
 refine K.yca0 good (A:=envL [(110,kInE)]) (yha0 ?_) K.yea0 (k:=30) (cast (yvm2 c n v).symm ?_)
 .intro p hp;simp only [List.mem_cons,List.not_mem_nil,or_false] at hp;rcases hp with rfl;exact yyv2
 .exact ⟨rfl,rfl,rfl,rfl,rfl,rfl,rfl,rfl,rfl,rfl,rfl,trivial⟩
theorem ydj1 (c:S.Chip):K.bodyF (envL [(58,yco0)]) (K.runF (envL [(58,yco0)]) 30) 16 [.ptr 0 0] (Heap.of (S.hp0 c)) Hint.auto (K.endC K.openE 40 ⟨.ret (.agg [.int .i64 (S.cnt c.t0),.int .i64 (S.cnt c.t1),.int .i64 (S.cnt c.t2),.int .i64 (S.cnt c.t3),.int .i64 (S.cnt c.t4)]),[],[]⟩) =
  (bc (S.okPm c.t0.a 4 45 40 c.t0.s) (bc (S.okPm c.t1.a 4 45 40 c.t1.s) (bc (S.okPm c.t2.a 4 45 40 c.t2.s) (bc (S.okPm c.t3.a 4 45 40 c.t3.s) (bc (S.okPm c.t4.a 4 45 40 c.t4.s) (S.cnt c.t0=S.plc c.t0.a c.t0.s/\(S.cnt c.t1=S.plc c.t1.a c.t1.s/\(S.cnt c.t2=S.plc c.t2.a c.t2.s/\(S.cnt c.t3=S.plc c.t3.a c.t3.s/\(S.cnt c.t4=S.plc c.t4.a c.t4.s/\True))))) False) False) False) False) False):=by kernel_rfl
theorem yej1 (c:S.Chip) (h0:S.okC c=true)  : HTr Tryz.prog 16 [.ptr 0 0] (S.hp0 c) ⟨.ret (.agg [.int .i64 (S.cnt c.t0),.int .i64 (S.cnt c.t1),.int .i64 (S.cnt c.t2),.int .i64 (S.cnt c.t3),.int .i64 (S.cnt c.t4)]),[],[]⟩:=by
 refine K.yca0 good (A:=envL [(58,yco0)]) (yha0 ?_) K.yea0 (k:=30) (cast (ydj1 c).symm ?_)
 .intro p hp;simp only [List.mem_cons,List.not_mem_nil,or_false] at hp;rcases hp with rfl;exact yxo0
 .obtain ⟨pb,pp,pt,pd,pv,pw⟩:=S.ygf0.1 h0;obtain ⟨_,_,a0,a1,a2,a3,a4⟩:=S.yog0.1 pt;have p0:=(S.yla0.1 a0).1;have p1:=(S.yla0.1 a1).1;have p2:=(S.yla0.1 a2).1;have p3:=(S.yla0.1 a3).1;have p4:=(S.yla0.1 a4).1;simp only [p0,p1,p2,p3,p4,bc_true,S.cnt,and_self]
theorem yzq0:ykq0.ok Tryz.prog 16:=by
 intro xs os b r h h3;unfold ykq0 at h;simp only at h;split at h
 .obtain ⟨c,rfl,q⟩:=S.ylb0 h;clear h;injection q with h;injection h with h1 h2;subst h1;subst h2;exact yej1 _ h3
 .cases h
theorem yub2 (k:Int):K.bodyF (ygq1) (K.runF (ygq1) 30) 18 [.int .i64 k] (Heap.of []) Hint.auto (K.endC K.openE 0 ⟨.ret (.ptr 0 0),[],(S.hp0 (S.newC k))⟩) =
  (bc (S.inR k 228) ((0:Nat)=0/\((0:Nat)=0/\((0:Nat)=0/\((0:Nat)=0/\((0:Nat)=0/\((0:Nat)=0/\((0:Nat)=0/\((0:Nat)=0/\((0:Nat)=0/\((0:Nat)=0/\((0:Nat)=0/\(S.R8.x0 (S.Chip.r0 (S.newC k))=(0:Int)/\(S.R8.x1 (S.Chip.r0 (S.newC k))=(0:Int)/\(S.R8.x2 (S.Chip.r0 (S.newC k))=(0:Int)/\(S.R8.x3 (S.Chip.r0 (S.newC k))=(0:Int)/\(S.R8.x4 (S.Chip.r0 (S.newC k))=(0:Int)/\(S.R8.x5 (S.Chip.r0 (S.newC k))=(0:Int)/\(S.R8.x6 (S.Chip.r0 (S.newC k))=(0:Int)/\(S.R8.x7 (S.Chip.r0 (S.newC k))=(0:Int)/\(S.R8.x0 (S.Chip.r1 (S.newC k))=(0:Int)/\(S.R8.x1 (S.Chip.r1 (S.newC k))=(0:Int)/\(S.R8.x2 (S.Chip.r1 (S.newC k))=(0:Int)/\(S.R8.x3 (S.Chip.r1 (S.newC k))=(0:Int)/\(S.R8.x4 (S.Chip.r1 (S.newC k))=(0:Int)/\(S.R8.x5 (S.Chip.r1 (S.newC k))=(0:Int)/\(S.R8.x6 (S.Chip.r1 (S.newC k))=(0:Int)/\(S.R8.x7 (S.Chip.r1 (S.newC k))=(0:Int)/\(S.R8.x0 (S.Chip.r2 (S.newC k))=(0:Int)/\(S.R8.x1 (S.Chip.r2 (S.newC k))=(0:Int)/\(S.R8.x2 (S.Chip.r2 (S.newC k))=(0:Int)/\(S.R8.x3 (S.Chip.r2 (S.newC k))=(0:Int)/\(S.R8.x4 (S.Chip.r2 (S.newC k))=(0:Int)/\(S.R8.x5 (S.Chip.r2 (S.newC k))=(0:Int)/\(S.R8.x6 (S.Chip.r2 (S.newC k))=(0:Int)/\(S.R8.x7 (S.Chip.r2 (S.newC k))=(0:Int)/\(S.R8.x0 (S.Chip.r3 (S.newC k))=(0:Int)/\(S.R8.x1 (S.Chip.r3 (S.newC k))=(0:Int)/\(S.R8.x2 (S.Chip.r3 (S.newC k))=(0:Int)/\(S.R8.x3 (S.Chip.r3 (S.newC k))=(0:Int)/\(S.R8.x4 (S.Chip.r3 (S.newC k))=(0:Int)/\(S.R8.x5 (S.Chip.r3 (S.newC k))=(0:Int)/\(S.R8.x6 (S.Chip.r3 (S.newC k))=(0:Int)/\(S.R8.x7 (S.Chip.r3 (S.newC k))=(0:Int)/\(S.R8.x0 (S.Chip.r4 (S.newC k))=(0:Int)/\(S.R8.x1 (S.Chip.r4 (S.newC k))=(0:Int)/\(S.R8.x2 (S.Chip.r4 (S.newC k))=(0:Int)/\(S.R8.x3 (S.Chip.r4 (S.newC k))=(0:Int)/\(S.R8.x4 (S.Chip.r4 (S.newC k))=(0:Int)/\(S.R8.x5 (S.Chip.r4 (S.newC k))=(0:Int)/\(S.R8.x6 (S.Chip.r4 (S.newC k))=(0:Int)/\(S.R8.x7 (S.Chip.r4 (S.newC k))=(0:Int)/\(S.R8.x0 (S.Chip.r5 (S.newC k))=(0:Int)/\(S.R8.x1 (S.Chip.r5 (S.newC k))=(0:Int)/\(S.R8.x2 (S.Chip.r5 (S.newC k))=(0:Int)/\(S.R8.x3 (S.Chip.r5 (S.newC k))=(0:Int)/\(S.R8.x4 (S.Chip.r5 (S.newC k))=(0:Int)/\(S.R8.x5 (S.Chip.r5 (S.newC k))=(0:Int)/\(S.R8.x6 (S.Chip.r5 (S.newC k))=(0:Int)/\(S.R8.x7 (S.Chip.r5 (S.newC k))=(0:Int)/\(S.R8.x0 (S.Chip.r6 (S.newC k))=(0:Int)/\(S.R8.x1 (S.Chip.r6 (S.newC k))=(0:Int)/\(S.R8.x2 (S.Chip.r6 (S.newC k))=(0:Int)/\(S.R8.x3 (S.Chip.r6 (S.newC k))=(0:Int)/\(S.R8.x4 (S.Chip.r6 (S.newC k))=(0:Int)/\(S.R8.x5 (S.Chip.r6 (S.newC k))=(0:Int)/\(S.R8.x6 (S.Chip.r6 (S.newC k))=(0:Int)/\(S.R8.x7 (S.Chip.r6 (S.newC k))=(0:Int)/\(S.R8.x0 (S.Chip.r7 (S.newC k))=(0:Int)/\(S.R8.x1 (S.Chip.r7 (S.newC k))=(0:Int)/\(S.R8.x2 (S.Chip.r7 (S.newC k))=(0:Int)/\(S.R8.x3 (S.Chip.r7 (S.newC k))=(0:Int)/\(S.R8.x4 (S.Chip.r7 (S.newC k))=(0:Int)/\(S.R8.x5 (S.Chip.r7 (S.newC k))=(0:Int)/\(S.R8.x6 (S.Chip.r7 (S.newC k))=(0:Int)/\(S.R8.x7 (S.Chip.r7 (S.newC k))=(0:Int)/\(S.Chip.g00 (S.newC k)=(0:Int)/\(S.Chip.g01 (S.newC k)=(0:Int)/\(S.Chip.g10 (S.newC k)=(0:Int)/\(S.Chip.g11 (S.newC k)=(0:Int)/\(S.Chip.b0 (S.newC k)=false/\(S.Chip.b1 (S.newC k)=false/\(S.Chip.met (S.newC k)=(0:Int)/\(S.Chip.wait (S.newC k)=false/\((0:Nat)=0/\((0:Nat)=0/\(S.Chip.late (S.newC k)=false/\(S.Chip.ba (S.newC k)=k % 4/\((4:Int)=4/\((0:Nat)=0/\((20:Int)=S.st 56/\((57:Int)=57/\(S.Chip.bs (S.newC k)=S.st (k / 4)/\((6:Int)=6/\((1:Int)=1/\(S.Chip.mc (S.newC k)=(16:Int)/\(S.Chip.mg (S.newC k)=(0:Int)/\(S.Chip.mm (S.newC k)=(0:Int)/\((0:Nat)=0/\(S.Th.M (S.Chip.t0 (S.newC k))=(0:Int)/\(S.Th.scan (S.Chip.t0 (S.newC k))=(255:Int)/\((0:Nat)=0/\((0:Nat)=0/\(S.Th.a (S.Chip.t0 (S.newC k))=(0:Int)/\((4:Int)=4/\((0:Nat)=0/\((45:Int)=S.st 39/\((40:Int)=40/\(S.Th.s (S.Chip.t0 (S.newC k))=(0:Int)/\((6:Int)=6/\((1:Int)=1/\((0:Nat)=0/\(S.Th.M (S.Chip.t1 (S.newC k))=(0:Int)/\(S.Th.scan (S.Chip.t1 (S.newC k))=(255:Int)/\((0:Nat)=0/\((0:Nat)=0/\(S.Th.a (S.Chip.t1 (S.newC k))=(0:Int)/\((4:Int)=4/\((0:Nat)=0/\((45:Int)=S.st 39/\((40:Int)=40/\(S.Th.s (S.Chip.t1 (S.newC k))=(0:Int)/\((6:Int)=6/\((1:Int)=1/\((0:Nat)=0/\(S.Th.M (S.Chip.t2 (S.newC k))=(0:Int)/\(S.Th.scan (S.Chip.t2 (S.newC k))=(255:Int)/\((0:Nat)=0/\((0:Nat)=0/\(S.Th.a (S.Chip.t2 (S.newC k))=(0:Int)/\((4:Int)=4/\((0:Nat)=0/\((45:Int)=S.st 39/\((40:Int)=40/\(S.Th.s (S.Chip.t2 (S.newC k))=(0:Int)/\((6:Int)=6/\((1:Int)=1/\((0:Nat)=0/\(S.Th.M (S.Chip.t3 (S.newC k))=(0:Int)/\(S.Th.scan (S.Chip.t3 (S.newC k))=(255:Int)/\((0:Nat)=0/\((0:Nat)=0/\(S.Th.a (S.Chip.t3 (S.newC k))=(0:Int)/\((4:Int)=4/\((0:Nat)=0/\((45:Int)=S.st 39/\((40:Int)=40/\(S.Th.s (S.Chip.t3 (S.newC k))=(0:Int)/\((6:Int)=6/\((1:Int)=1/\((0:Nat)=0/\(S.Th.M (S.Chip.t4 (S.newC k))=(0:Int)/\(S.Th.scan (S.Chip.t4 (S.newC k))=(255:Int)/\((0:Nat)=0/\((0:Nat)=0/\(S.Th.a (S.Chip.t4 (S.newC k))=(0:Int)/\((4:Int)=4/\((0:Nat)=0/\((45:Int)=S.st 39/\((40:Int)=40/\(S.Th.s (S.Chip.t4 (S.newC k))=(0:Int)/\((6:Int)=6/\((1:Int)=1/\(S.Vo.ykx2 (S.Chip.v0 (S.newC k))=(0:Int)/\(S.Vo.I (S.Chip.v0 (S.newC k))=(0:Int)/\(S.Vo.yox2 (S.Chip.v0 (S.newC k))=(0:Int)/\((0:Nat)=0/\((0:Nat)=0/\((0:Nat)=0/\(S.Vo.count (S.Chip.v0 (S.newC k))=(0:Int)/\(S.Vo.high (S.Chip.v0 (S.newC k))=false/\(S.Vo.f4 (S.Chip.v0 (S.newC k))=(0:Int)/\((4:Int)=4/\((1:Int)=1/\(S.Vo.f5 (S.Chip.v0 (S.newC k))=(0:Int)/\((5:Int)=5/\((2:Int)=2/\(S.Vo.f9 (S.Chip.v0 (S.newC k))=(0:Int)/\((9:Int)=9/\((4:Int)=4/\(S.Vo.ykx2 (S.Chip.v1 (S.newC k))=(0:Int)/\(S.Vo.I (S.Chip.v1 (S.newC k))=(0:Int)/\(S.Vo.yox2 (S.Chip.v1 (S.newC k))=(0:Int)/\((0:Nat)=0/\((0:Nat)=0/\((0:Nat)=0/\(S.Vo.count (S.Chip.v1 (S.newC k))=(0:Int)/\(S.Vo.high (S.Chip.v1 (S.newC k))=false/\(S.Vo.f4 (S.Chip.v1 (S.newC k))=(0:Int)/\((4:Int)=4/\((1:Int)=1/\(S.Vo.f5 (S.Chip.v1 (S.newC k))=(0:Int)/\((5:Int)=5/\((2:Int)=2/\(S.Vo.f9 (S.Chip.v1 (S.newC k))=(0:Int)/\((9:Int)=9/\((4:Int)=4/\(S.Po.v0 (S.Chip.po (S.newC k))=(0:Int)/\(S.Po.v1 (S.Chip.po (S.newC k))=(0:Int)/\(S.Po.v2 (S.Chip.po (S.newC k))=(0:Int)/\(S.Po.v3 (S.Chip.po (S.newC k))=(0:Int)/\(S.Po.ymx2 (S.Chip.po (S.newC k))=(0:Int)/\(S.Po.ynx2 (S.Chip.po (S.newC k))=false/\(S.Po.h0 (S.Chip.po (S.newC k))=true/\(S.Po.l0 (S.Chip.po (S.newC k))=true/\(S.Po.h1 (S.Chip.po (S.newC k))=true/\(S.Po.l1 (S.Chip.po (S.newC k))=true/\(S.Po.ylx2 (S.Chip.po (S.newC k))=false/\True))))))))))))))))))))))))))))))))))))))))))))))))))))))))))))))))))))))))))))))))))))))))))))))))))))))))))))))))))))))))))))))))))))))))))))))))))))))))))))))))))))))))))))))))))))))))))))))))))))))))))))))) False):=by kernel_rfl
theorem yvb2 (k:Int) (h0:S.inR k 228=true)  : HTr Tryz.prog 18 [.int .i64 k] [] ⟨.ret (.ptr 0 0),[],(S.hp0 (S.newC k))⟩:=by
 refine K.yca0 good (A:=ygq1) (yha0 ?_) K.yea0 (k:=30) (cast (yub2 k).symm ?_)
 .intro p hp;simp only [List.mem_cons,List.not_mem_nil,or_false] at hp;rcases hp with rfl | rfl | rfl | rfl | rfl;exact yus2;exact yoe2;exact yks2;exact yhs2;exact yss2
 .have s39:S.st 39=45:=rfl;have s56:S.st 56=20:=rfl;simp only [h0,bc_true,S.newC,S.th0,S.vo0,s39,s56,and_self]
theorem yar0:ydn0.ok Tryz.prog 18:=by
 intro xs os b r h h3;unfold ydn0 at h;simp only at h;split at h
 .injection h with h;injection h with h1 h2;subst h1;subst h2;exact yvb2 _ h3
 .cases h
theorem ygu1 (b:Bool) (a d l n s:Int):K.bodyF (yhd1) (K.runF (yhd1) 30) 32 [.ptr 0 0] (Heap.of (yhq1 b a d l n s)) Hint.auto (K.endC K.openE 4 ⟨.ret (.agg [.int .i64 (S.plc a s),.int .i64 (bc b 1 0)]),[],[]⟩) =
  (bc (S.isSt s) (bc (b) (S.plc a s=wrapK .i64 (wrapK .i64 (4*S.ix s)+a)/\(bc b 1 (0:Int)=(1:Int)/\True)) (S.plc a s=wrapK .i64 (wrapK .i64 (4*S.ix s)+a)/\(bc b 1 (0:Int)=0/\True))) False):=by kernel_rfl
theorem yhu1 (b:Bool) (a d l n s:Int) (h0:S.okBm a s d l n=true)  : HTr Tryz.prog 32 [.ptr 0 0] (yhq1 b a d l n s) ⟨.ret (.agg [.int .i64 (S.plc a s),.int .i64 (bc b 1 0)]),[],[]⟩:=by
 refine K.yca0 good (A:=yhd1) (yha0 ?_) K.yea0 (k:=30) (cast (ygu1 b a d l n s).symm ?_)
 .intro p hp;simp only [List.mem_cons,List.not_mem_nil,or_false] at hp;rcases hp with rfl | rfl;exact ytl0;exact yul0
 .obtain ⟨ha,hs,rfl,rfl,rfl,hx0,hx1⟩:=S.yng0 h0
  repeat' (first | (refine bcI (fun _=>?_) (fun _=>?_)) | (refine And.intro ?_ ?_))
  all_goals first | rfl | trivial | (simp_all only [yua0,yjb0,yra0,yqa0,S.an,bc_true,bc_false,reduceCtorEq,Bool.false_eq_true,Bool.true_eq_false];done) | (simp_all only [yua0,yjb0,yra0,yqa0,S.an,S.inR,bc_true,bc_false,reduceCtorEq,Bool.false_eq_true,Bool.true_eq_false];done) | (simp only [S.ynr0,S.yga0,S.plc,yia0,yba0,ypa0,ycb0,yja0,ywc0] at *;omega) | skip
  all_goals skip
theorem ywb2:yiq1.ok Tryz.prog 32:=by
 intro xs os b r h h3;unfold yiq1 at h;simp only at h;split at h
 .injection h with h;injection h with h1 h2;subst h1;subst h2;exact yhu1 _ _ _ _ _ _ h3
 .cases h
theorem yxb2 (b:Bool):K.bodyF (envL []) (K.runF (envL []) 30) 38 [.bool b] (Heap.of []) Hint.auto (K.endC K.openE 0 ⟨.ret (.int .i64 (bc b 1 0)),[],[]⟩) =
  (bc (b) (bc b 1 (0:Int)=(1:Int)/\True) (bc b 1 (0:Int)=0/\True)):=by kernel_rfl
theorem yyb2 (b:Bool)  : HTr Tryz.prog 38 [.bool b] [] ⟨.ret (.int .i64 (bc b 1 0)),[],[]⟩:=by
 refine K.yca0 good (A:=envL []) (yha0 ?_) K.yea0 (k:=30) (cast (yxb2 b).symm ?_)
 .intro p hp;cases hp
 .cases b <;> simp only [bc_true,bc_false,and_self]
theorem yxm2:yoj2.ok Tryz.prog 38:=by
 intro xs os b r h h3;unfold yoj2 at h;simp only at h;split at h
 .injection h with h;injection h with h1 h2;subst h1;subst h2;exact yyb2 _
 .cases h
theorem yfj1 (c:S.Chip):K.bodyF (ytv0) (K.runF (ytv0) 30) 13 [.ptr 0 0] (Heap.of (S.hp0 c)) Hint.auto (K.endC K.openE 40 (yje2 c)) =
  (bc (S.okBm c.ba c.bs 4 20 57) (bc (S.okP c.po.v0 c.po.v1 c.po.v2 c.po.v3 c.po.ymx2) (bc (S.okPm c.t0.a 4 45 40 c.t0.s) (bc (S.okPm c.t1.a 4 45 40 c.t1.s) (bc (S.okPm c.t2.a 4 45 40 c.t2.s) (bc (S.okPm c.t3.a 4 45 40 c.t3.s) (bc (S.okPm c.t4.a 4 45 40 c.t4.s) (bc (S.okV c.v0.ykx2 c.v0.I c.v0.yox2 c.v0.f4 c.v0.f5 c.v0.f9 c.v0.count) (bc (S.okV c.v1.ykx2 c.v1.I c.v1.yox2 c.v1.f4 c.v1.f5 c.v1.f9 c.v1.count) ((0:Nat)=0/\((81:Nat)=81/\(Cap.rest (0:Nat)=Cap.rest 0/\(S.plc c.ba c.bs=S.plc c.ba c.bs/\(bc c.late 1 (0:Int)=bc c.late 1 0/\(c.mc=c.mc/\(c.mg=c.mg/\(wrapK .i64 c.mm=wrapK .i64 c.mm/\(S.cnt c.t0=S.plc c.t0.a c.t0.s/\(S.young c.t0.M c.t0.scan=S.young c.t0.M c.t0.scan/\(S.elder c.t0.M c.t0.scan=S.elder c.t0.M c.t0.scan/\(S.cnt c.t1=S.plc c.t1.a c.t1.s/\(S.young c.t1.M c.t1.scan=S.young c.t1.M c.t1.scan/\(S.elder c.t1.M c.t1.scan=S.elder c.t1.M c.t1.scan/\(S.cnt c.t2=S.plc c.t2.a c.t2.s/\(S.young c.t2.M c.t2.scan=S.young c.t2.M c.t2.scan/\(S.elder c.t2.M c.t2.scan=S.elder c.t2.M c.t2.scan/\(S.cnt c.t3=S.plc c.t3.a c.t3.s/\(S.young c.t3.M c.t3.scan=S.young c.t3.M c.t3.scan/\(S.elder c.t3.M c.t3.scan=S.elder c.t3.M c.t3.scan/\(S.cnt c.t4=S.plc c.t4.a c.t4.s/\(S.young c.t4.M c.t4.scan=S.young c.t4.M c.t4.scan/\(S.elder c.t4.M c.t4.scan=S.elder c.t4.M c.t4.scan/\(c.v0.ykx2=c.v0.ykx2/\(c.v0.I=c.v0.I/\(c.v0.yox2=c.v0.yox2/\(c.v0.f4=c.v0.f4/\(c.v0.f5=c.v0.f5/\(c.v0.f9=c.v0.f9/\(c.v0.count=c.v0.count/\(bc c.v0.high 1 (0:Int)=bc c.v0.high 1 0/\(c.v1.ykx2=c.v1.ykx2/\(c.v1.I=c.v1.I/\(c.v1.yox2=c.v1.yox2/\(c.v1.f4=c.v1.f4/\(c.v1.f5=c.v1.f5/\(c.v1.f9=c.v1.f9/\(c.v1.count=c.v1.count/\(bc c.v1.high 1 (0:Int)=bc c.v1.high 1 0/\(c.po.v0=c.po.v0/\(c.po.v1=c.po.v1/\(c.po.v2=c.po.v2/\(c.po.v3=c.po.v3/\(c.po.ymx2=c.po.ymx2/\(bc c.po.ynx2 1 (0:Int)=bc c.po.ynx2 1 0/\(bc c.po.h0 1 (0:Int)=bc c.po.h0 1 0/\(bc c.po.h1 1 (0:Int)=bc c.po.h1 1 0/\(bc c.po.ylx2 1 (0:Int)=bc c.po.ylx2 1 0/\(bc c.po.l0 1 (0:Int)=bc c.po.l0 1 0/\(bc c.po.l1 1 (0:Int)=bc c.po.l1 1 0/\(wrapK .i64 c.r0.x0=wrapK .i64 c.r0.x0/\(wrapK .i64 c.r0.x1=wrapK .i64 c.r0.x1/\(wrapK .i64 c.r0.x4=wrapK .i64 c.r0.x4/\(wrapK .i64 c.r0.x5=wrapK .i64 c.r0.x5/\(wrapK .i64 c.r0.x6=wrapK .i64 c.r0.x6/\(wrapK .i64 c.r0.x7=wrapK .i64 c.r0.x7/\(wrapK .i64 c.r1.x0=wrapK .i64 c.r1.x0/\(wrapK .i64 c.r1.x1=wrapK .i64 c.r1.x1/\(wrapK .i64 c.r1.x2=wrapK .i64 c.r1.x2/\(wrapK .i64 c.r1.x3=wrapK .i64 c.r1.x3/\(wrapK .i64 c.r1.x4=wrapK .i64 c.r1.x4/\(wrapK .i64 c.r1.x5=wrapK .i64 c.r1.x5/\(wrapK .i64 c.r1.x6=wrapK .i64 c.r1.x6/\(wrapK .i64 c.r1.x7=wrapK .i64 c.r1.x7/\(wrapK .i64 c.g00=wrapK .i64 c.g00/\(wrapK .i64 c.g01=wrapK .i64 c.g01/\(wrapK .i64 c.g10=wrapK .i64 c.g10/\(wrapK .i64 c.g11=wrapK .i64 c.g11/\(wrapK .i64 c.r3.x5=wrapK .i64 c.r3.x5/\(wrapK .i64 c.r3.x6=wrapK .i64 c.r3.x6/\(bc c.b0 1 (0:Int)=bc c.b0 1 0/\(bc c.b1 1 (0:Int)=bc c.b1 1 0/\(wrapK .i64 c.r4.x0=wrapK .i64 c.r4.x0/\(wrapK .i64 c.r4.x1=wrapK .i64 c.r4.x1/\(wrapK .i64 c.r4.x2=wrapK .i64 c.r4.x2/\(wrapK .i64 c.r4.x3=wrapK .i64 c.r4.x3/\(wrapK .i64 c.r4.x4=wrapK .i64 c.r4.x4/\(wrapK .i64 c.r4.x5=wrapK .i64 c.r4.x5/\(wrapK .i64 c.r4.x6=wrapK .i64 c.r4.x6/\(wrapK .i64 c.r4.x7=wrapK .i64 c.r4.x7/\(wrapK .i64 c.r5.x0=wrapK .i64 c.r5.x0/\(wrapK .i64 c.r5.x1=wrapK .i64 c.r5.x1/\(wrapK .i64 c.met=wrapK .i64 c.met/\(bc c.wait 1 (0:Int)=bc c.wait 1 0/\True)))))))))))))))))))))))))))))))))))))))))))))))))))))))))))))))))))))))))))))))))))) False) False) False) False) False) False) False) False) False):=by kernel_rfl
theorem ygj1 (c:S.Chip) (h0:S.okC c=true)  : HTr Tryz.prog 13 [.ptr 0 0] (S.hp0 c) (yje2 c):=by
 refine K.yca0 good (A:=ytv0) (yha0 ?_) K.yea0 (k:=30) (cast (yfj1 c).symm ?_)
 .intro p hp;simp only [List.mem_cons,List.not_mem_nil,or_false] at hp;rcases hp with rfl | rfl | rfl | rfl | rfl | rfl;exact ywb2;exact ymz1;exact yxz1;exact yqz1;exact yia2;exact yxm2
 .obtain ⟨pb,pp,pt,pd,pv,pw⟩:=S.ygf0.1 h0;obtain ⟨_,_,a0,a1,a2,a3,a4⟩:=S.yog0.1 pt;have p0:=(S.yla0.1 a0).1;have p1:=(S.yla0.1 a1).1;have p2:=(S.yla0.1 a2).1;have p3:=(S.yla0.1 a3).1;have p4:=(S.yla0.1 a4).1;have pv0:S.okV c.v0.ykx2 c.v0.I c.v0.yox2 c.v0.f4 c.v0.f5 c.v0.f9 c.v0.count=true:=pv;have pv1:S.okV c.v1.ykx2 c.v1.I c.v1.yox2 c.v1.f4 c.v1.f5 c.v1.f9 c.v1.count=true:=pw;simp only [pb,pp,p0,p1,p2,p3,p4,pv0,pv1,bc_true,S.cnt,and_self]
theorem yhj1 (c:S.Chip) (h0:S.okC c=true):HT Tryz.prog 13 [.ptr 0 0] (Heap.of (S.hp0 c)) (.ret (.slice 40 0 81 (.rest 0))) (Heap.of (S.hp0 c++[.cells 3 (.grow 1) (.int .i64 (S.wd c 0)::.int .i64 (S.wd c 1)::.int .i64 (S.wd c 2)::.int .i64 (S.wd c 3)::.int .i64 (S.wd c 4)::.int .i64 (S.wd c 5)::.int .i64 (S.wd c 6)::.int .i64 (S.wd c 7)::.int .i64 (S.wd c 8)::.int .i64 (S.wd c 9)::.int .i64 (S.wd c 10)::.int .i64 (S.wd c 11)::.int .i64 (S.wd c 12)::.int .i64 (S.wd c 13)::.int .i64 (S.wd c 14)::.int .i64 (S.wd c 15)::.int .i64 (S.wd c 16)::.int .i64 (S.wd c 17)::.int .i64 (S.wd c 18)::.int .i64 (S.wd c 19)::.int .i64 (S.wd c 20)::.int .i64 (S.wd c 21)::.int .i64 (S.wd c 22)::.int .i64 (S.wd c 23)::.int .i64 (S.wd c 24)::.int .i64 (S.wd c 25)::.int .i64 (S.wd c 26)::.int .i64 (S.wd c 27)::.int .i64 (S.wd c 28)::.int .i64 (S.wd c 29)::.int .i64 (S.wd c 30)::.int .i64 (S.wd c 31)::.int .i64 (S.wd c 32)::.int .i64 (S.wd c 33)::.int .i64 (S.wd c 34)::.int .i64 (S.wd c 35)::.int .i64 (S.wd c 36)::.int .i64 (S.wd c 37)::.int .i64 (S.wd c 38)::.int .i64 (S.wd c 39)::.int .i64 (S.wd c 40)::.int .i64 (S.wd c 41)::.int .i64 (S.wd c 42)::.int .i64 (S.wd c 43)::.int .i64 (S.wd c 44)::.int .i64 (S.wd c 45)::.int .i64 (S.wd c 46)::.int .i64 (S.wd c 47)::.int .i64 (S.wd c 48)::.int .i64 (S.wd c 49)::.int .i64 (S.wd c 50)::.int .i64 (S.wd c 51)::.int .i64 (S.wd c 52)::.int .i64 (S.wd c 53)::.int .i64 (S.wd c 54)::.int .i64 (S.wd c 55)::.int .i64 (S.wd c 56)::.int .i64 (S.wd c 57)::.int .i64 (S.wd c 58)::.int .i64 (S.wd c 59)::.int .i64 (S.wd c 60)::.int .i64 (S.wd c 61)::.int .i64 (S.wd c 62)::.int .i64 (S.wd c 63)::.int .i64 (S.wd c 64)::.int .i64 (S.wd c 65)::.int .i64 (S.wd c 66)::.int .i64 (S.wd c 67)::.int .i64 (S.wd c 68)::.int .i64 (S.wd c 69)::.int .i64 (S.wd c 70)::.int .i64 (S.wd c 71)::.int .i64 (S.wd c 72)::.int .i64 (S.wd c 73)::.int .i64 (S.wd c 74)::.int .i64 (S.wd c 75)::.int .i64 (S.wd c 76)::.int .i64 (S.wd c 77)::.int .i64 (S.wd c 78)::.int .i64 (S.wd c 79)::.int .i64 (S.wd c 80)::[])])):=cast (by kernel_rfl) (ygj1 c h0)
theorem yhj0:ymk0.ok Tryz.prog 13:=by
 intro xs os b r h h3;unfold ymk0 at h;simp only at h;split at h
 .obtain ⟨c,rfl,q⟩:=S.ylb0 h;clear h;injection q with h;injection h with h1 h2;subst h1;subst h2;exact yhj1 _ h3
 .cases h
namespace S
theorem bcP {b:Bool} {x y:Int} {P:Int->Prop} (h1:P x) (h2:P y):P (bc b x y):=by cases b <;> assumption
theorem ydf2 {a s:Int} (h:okBm a s 4 20 57=true):∃ n,0<=n/\n<228/\a=n % 4/\s=st (n / 4):=by
 obtain ⟨ha,hs,_,_,_,h0,h1⟩:=yng0 h;obtain ⟨i,i0,i1,rfl⟩:=yag1 hs;rw [ix_st i0 i1] at h0 h1;exact ⟨4*i+a,by omega,by omega,by omega,by rw [show (4*i+a) / 4=i by omega]⟩
theorem yzb2 {n:Int} (h0:0<=n) (h1:n<228):okBm (n % 4) (st (n / 4)) 4 20 57=true:=bm_ok h0 h1
theorem yac2 {a s:Int} (h:okBm a s 4 20 57=true):okBm (bc (ltI (a+1) 4) (a+1) 0) (bc (ltI (a+1) 4) s (bc (eqI s 20) 0 (nx s))) 4 20 57=true:=by
 obtain ⟨n,h0,h1,rfl,rfl⟩:=ydf2 h;rw [bm_a h0 h1,show bc (ltI (n % 4+1) 4) (st (n / 4)) (bc (eqI (st (n / 4)) 20) 0 (nx (st (n / 4))))=st (((n+1) % 228) / 4) from bm_s h0 h1];exact yzb2 (by omega) (by omega)
theorem ybr0 {q:Int} {t:Th} (w:Bool) (h:okT t=true):okT (tkT w q t)=true:=by
 cases w with
 | false=>exact h
 | true =>
  obtain ⟨h1,h2⟩:=yla0.1 h;obtain ⟨m,m0,m1,ha,hs,_⟩:=ysh0 h1;show okT (tk1 q t)=true;unfold okT tk1;rw [yla0];refine ⟨?_,yes2 _ h2⟩;obtain ⟨e1,e2⟩:=ygr1 m0 m1;show okPm (bc (ltI (t.a+1) 4) (t.a+1) 0) 4 (st 39) 40 (bc (ltI (t.a+1) 4) t.s (bc (eqI t.s (st 39)) 0 (nx t.s)))=true;rw [ha,hs,e1,e2];have:=yfr1 m0 m1;exact yzs0 this.1 this.2
theorem ycr0 {t:Th} (h:okT t=true):okTh t.M t.scan=true:=(yla0.1 h).2
theorem yym2 (p0 p1 m0 m1 bl pf:Bool):0<=meet p0 p1 m0 m1 bl pf/\meet p0 p1 m0 m1 bl pf<32768:=by
 cases p0 <;> cases p1 <;> cases m0 <;> cases m1 <;> cases bl <;> cases pf <;> decide
theorem or15 {a b:Int} (ha:0<=a/\a<32768) (hb:0<=b/\b<32768):0<=orK .u16 a b/\orK .u16 a b<32768:=by
 obtain ⟨n,rfl⟩:=Int.eq_ofNat_of_zero_le ha.1;obtain ⟨m,rfl⟩:=Int.eq_ofNat_of_zero_le hb.1;have hn:n<2 ^ 15:=by have:=ha.2;omega
 have hm:m<2 ^ 15:=by have:=hb.2;omega
 have e1:Nat.blt n 65536=true:=Nat.ble_eq_true_of_le (by omega);have e2:Nat.blt m 65536=true:=Nat.ble_eq_true_of_le (by omega)
 have e:orK .u16 (n:Int) (m:Int)=((n ||| m:Nat):Int):=by
  show bc (Nat.blt n 65536) (bc (Nat.blt m 65536) (Int.ofNat (Nat.lor n m)) _) _=_;rw [e1,e2];rfl
 rw [e];have:=Nat.or_lt_two_pow hn hm;omega
theorem ybt2 {v:Vo} (w:Bool) (h:okVo v=true):okVo (voT w v)=true:=by
 cases w with
 | false=>exact h
 | true =>
  show okVo (vo1 v)=true;unfold okVo at h ⊢;rw [yat0] at h ⊢;obtain ⟨⟨hc,hr,hv⟩,⟨h4,h5⟩,h9,hn⟩:=h;refine ⟨⟨hc,hr,hv⟩,⟨?_,?_⟩,?_,?_⟩
  .show 0<=vF4 _ _ _ _ _/\vF4 _ _ _ _ _<16;unfold vF4;refine bcP (P:=fun x=>0<=x/\x<16) ?_ h4;unfold n4;omega
  .show 0<=vF5 _ _ _ _/\vF5 _ _ _ _<32;unfold vF5;refine bcP (P:=fun x=>0<=x/\x<32) ?_ h5;unfold n5;omega
  .show 0<=vF9 _ _ _ _ _/\vF9 _ _ _ _ _<512;unfold vF9;refine bcP (P:=fun x=>0<=x/\x<512) ?_ h9;unfold n9;omega
  .show 0<=yrc0 _ _ _/\yrc0 _ _ _<96;unfold yrc0;cases hb:vBeat v.ykx2 v.I v.count with
   | true=>rw [bc_true];omega
   | false =>
    rw [bc_false];unfold vBeat at hb;rw [yjb0,yia0] at hb
    have:vLen v.ykx2 v.I<=96:=by
     unfold vLen;refine bcP (P:=fun x=>x<=96) ?_ ?_ <;> omega
    omega
theorem ynn0 {c:Chip} (h:okQ c=true):okQ (stepC c)=true:=by
 obtain ⟨h1,h2⟩:=yla0.1 h;obtain ⟨pb,pp,pt,pd,pv,pw⟩:=ygf0.1 h1;obtain ⟨q0,q1,a0,a1,a2,a3,a4⟩:=yog0.1 pt;obtain ⟨y0,y1,m0,m1,⟨k0,k1⟩,v2,g0,g1,g2⟩:=yen0.1 pd;unfold okQ;rw [yla0,ygf0];have t0:=fun w q=>ybr0 (q:=q) w a0
 have t1:=fun w q=>ybr0 (q:=q) w a1
 have t2:=fun w q=>ybr0 (q:=q) w a2
 have t3:=fun w q=>ybr0 (q:=q) w a3
 have t4:=fun w q=>ybr0 (q:=q) w a4
 refine ⟨⟨yac2 pb,?_,yog0.2 ⟨q0,q1,t0 _ _,t1 _ _,t2 _ _,t3 _ _,t4 _ _⟩,yen0.2 ⟨?_,?_,?_,?_,⟨k0,ycr0 (t4 _ _)⟩,v2,g0,g1,g2⟩,ybt2 _ pv,ybt2 _ pw⟩,?_⟩
 .rw [ych0] at pp ⊢;obtain ⟨x1,x2,x3⟩:=pp;refine ⟨x1,x2,?_⟩;show 0<=bc (sBeg c.ba c.bs) (pkC c.po.ymx2 c.po.ynx2) c.po.ymx2/\bc (sBeg c.ba c.bs) (pkC c.po.ymx2 c.po.ynx2) c.po.ymx2<512;refine bcP (P:=fun x=>0<=x/\x<512) ?_ x3;unfold pkC;refine bcP (P:=fun x=>0<=x/\x<512) x3 ?_;cases hl:ltI (c.po.ymx2+1) 511 with
  | true=>rw [bc_true];have:=yia0.1 hl;omega
  | false=>rw [bc_false];omega
 .unfold okY at y0 ⊢;simp only [yla0] at y0 ⊢;exact ⟨y0.1,y0.2.1,y0.2.2.1,ycr0 (t0 _ _)⟩
 .unfold okY at y1 ⊢;simp only [yla0] at y1 ⊢;exact ⟨y1.1,y1.2.1,y1.2.2.1,ycr0 (t1 _ _)⟩
 .unfold okM at m0 ⊢;rw [yla0] at m0 ⊢;exact ⟨m0.1,ycr0 (t2 _ _)⟩
 .unfold okM at m1 ⊢;rw [yla0] at m1 ⊢;exact ⟨m1.1,ycr0 (t3 _ _)⟩
 .rw [yga0] at h2 ⊢;refine bcP (P:=fun x=>0<=x/\x<32768) h2 (or15 h2 ?_);exact yym2 _ _ _ _ _ _
theorem yzm2:∀ i:Fin 256,inR (andK .u8 ((i.val:Nat):Int) 15) 16=true/\inR (andK .u8 ((i.val:Nat):Int) 31) 32=true:=by decide +kernel
theorem yew2 {v:Int} (h:inR v 256=true):∃ i:Fin 256,v=((i.val:Nat):Int):=by
 have h1:=yga0.1 h;exact ⟨⟨v.toNat,by omega⟩,by show v=((v.toNat:Nat):Int);omega⟩
theorem rgP {a j v old:Int} {P:Int->Prop} (h1:P v) (h2:P old):P (rg a j v old):=by unfold rg;exact bcP h1 h2
theorem ypa1 {a j:Int} {t:Th} (h:okT t=true):okT { t with a:=rg a j 0 t.a,s:=rg a j 0 t.s }=true:=by
 unfold okT at h ⊢;rw [yla0] at h ⊢;refine ⟨?_,h.2⟩;show okPm (rg a j 0 t.a) 4 45 40 (rg a j 0 t.s)=true;unfold rg;cases eqI a j with
 | true=>exact yzs0 (m:=0) (by decide) (by decide)
 | false=>exact h.1
theorem yiu1 {g:Bool} {nus:Int} {u t:Th} (hu:pl u=true) (h:okT t=true):okT { t with a:=bc g (frM nus u % 4) t.a,s:=bc g (st (frM nus u / 4)) t.s }=true:=by
 unfold okT at h ⊢;rw [yla0] at h ⊢;refine ⟨?_,h.2⟩;cases g with
 | true=>have:=yga0.1 (yit1 nus u);exact yzs0 this.1 this.2
 | false=>exact h.1
theorem yju1 {a j1 j2 j3 v:Int} {o:Vo} (hv:inR v 256=true) (h:okVo o=true):okVo { o with ykx2:=rg a j1 (andK .u8 v 15) o.ykx2,I:=rg a j2 (andK .u8 v 31) o.I,yox2:=rg a j3 (andK .u8 v 15) o.yox2 }=true:=by
 obtain ⟨i,rfl⟩:=yew2 hv;obtain ⟨c1,c2⟩:=yzm2 i;rw [yga0] at c1 c2;unfold okVo at h ⊢;rw [yat0] at h ⊢;obtain ⟨⟨hc,hr,hv⟩,h2⟩:=h;exact ⟨⟨rgP (P:=fun x=>0<=x/\x<16) c1 hc,rgP (P:=fun x=>0<=x/\x<32) c2 hr,rgP (P:=fun x=>0<=x/\x<16) c1 hv⟩,h2⟩
theorem inRg {a j v old:Int} (h1:inR v 256=true) (h2:inR old 256=true):inR (rg a j v old) 256=true:=rgP (P:=fun x=>inR x 256=true) h1 h2
theorem yqg1 {c:Chip} {addr v:Int} (hv:inR v 256=true) (h:okQ c=true):okQ (yvb0 addr v c)=true:=by
 obtain ⟨h1,h2⟩:=yla0.1 h;obtain ⟨pb,pp,pt,pd,pv,pw⟩:=ygf0.1 h1;obtain ⟨q0,q1,a0,a1,a2,a3,a4⟩:=yog0.1 pt;obtain ⟨y0,y1,m0,m1,⟨k0,k1⟩,v2,g0,g1,g2⟩:=yen0.1 pd;unfold okY at y0 y1;simp only [yla0] at y0 y1;unfold okM at m0 m1;rw [yla0] at m0 m1;unfold okQ;rw [yla0,ygf0];have z:inR 0 256=true:=rfl;have r0:=fun j=>inRg (a:=adr addr) (j:=j) hv q0
 have r1:=fun j=>inRg (a:=adr addr) (j:=j) hv q1
 have pl0:pl c.t0=true:=(yla0.1 a0).1;have pl1:pl c.t1=true:=(yla0.1 a1).1
 refine ⟨⟨?_,?_,yog0.2 ⟨r0 _,r1 _,ypa1 a0,ypa1 a1,yiu1 pl0 (ypa1 a2),yiu1 pl1 (ypa1 a3),ypa1 a4⟩,
  yen0.2 ⟨?_,?_,?_,?_,⟨inRg hv k0,k1⟩,inRg hv v2,inRg hv g0,inRg hv g1,inRg hv g2⟩,yju1 hv pv,yju1 hv pw⟩,?_⟩
 .show okBm (rg (adr addr) 3 0 c.ba) (rg (adr addr) 3 0 c.bs) 4 20 57=true;unfold rg;cases eqI (adr addr) 3 with
  | true=>exact yzb2 (n:=0) (by decide) (by decide)
  | false=>exact pb
 .rw [ych0] at pp ⊢;obtain ⟨x1,x2,x3⟩:=pp;exact ⟨x1,x2,rgP (P:=fun x=>0<=x/\x<512) (bcP (P:=fun x=>0<=x/\x<512) (by decide) x3) x3⟩
 .unfold okY;simp only [yla0];exact ⟨inRg hv y0.1,inRg hv y0.2.1,inRg y0.2.1 y0.2.2.1,y0.2.2.2⟩
 .unfold okY;simp only [yla0];exact ⟨inRg hv y1.1,inRg hv y1.2.1,inRg y1.2.1 y1.2.2.1,y1.2.2.2⟩
 .unfold okM;rw [yla0];exact ⟨r0 _,m0.2⟩
 .unfold okM;rw [yla0];exact ⟨r1 _,m1.2⟩
 .rw [yga0] at h2 ⊢;exact rgP (P:=fun x=>0<=x/\x<32768) (by decide) h2
theorem yct2 {c:Chip} {n v:Int} (hv:inR v 256=true) (h:okQ c=true):okQ (inC n v c)=true:=by
 obtain ⟨h1,h2⟩:=yla0.1 h;obtain ⟨pb,pp,pt,pd,pv,pw⟩:=ygf0.1 h1;unfold okQ;rw [yla0,ygf0];refine ⟨⟨pb,?_,pt,pd,pv,pw⟩,h2⟩;rw [yga0] at hv;rw [ych0] at pp ⊢;obtain ⟨⟨x0,x1⟩,⟨x2,x3⟩,x4⟩:=pp;exact ⟨⟨bcP (P:=fun x=>0<=x/\x<256) hv x0,bcP (P:=fun x=>0<=x/\x<256) hv x1⟩,⟨bcP (P:=fun x=>0<=x/\x<256) hv x2,bcP (P:=fun x=>0<=x/\x<256) hv x3⟩,x4⟩
theorem yef2 {k:Int} (h:inR k 228=true):okQ (newC k)=true:=by
 have h1:=yga0.1 h;unfold okQ;rw [yla0,ygf0];refine ⟨⟨yzb2 h1.1 h1.2,rfl,?_,?_,rfl,rfl⟩,rfl⟩
 .kernel_rfl
 .kernel_rfl
theorem yfw2 {n:Nat} : ∀ {c:Chip},okQ c=true->okQ (goC n c)=true:=by
 induction n with
 | zero=>exact fun h=>h
 | succ n ih=>exact fun h=>ih (ynn0 h)
theorem okQ_C {c:Chip} (h:okQ c=true):okC c=true:=(yla0.1 h).1
end S
namespace S
theorem ypd1 {Z:Type} {p:Nat} {os:List LObj} {k:Chip->List LObj->Option Z} {r:Z} (h:yys0 p os k=some r):∃ c rest,os=hpP p c++rest/\k c rest=some r:=by
 obtain ⟨c,h1,h2⟩:=ylb0 h;exact ⟨c,List.drop 40 os,by rw [<- h1,List.take_append_drop],h2⟩
theorem yzl0 {a b:Chip} {r:Prop} (h:a=b):eqC a b r=r:=by
 subst h;unfold eqC;simp only [eq_self,true_and]
theorem go_lt {n i:Int} (c:Chip) (h:i<n):goC (n-i).toNat c=goC (n-(i+1)).toNat (stepC c):=by
 rw [show (n-i).toNat=(n-(i+1)).toNat+1 by omega];rfl
theorem go_ge {n i:Int} (c:Chip) (h:n<=i):goC (n-i).toNat c=c:=by
 rw [show (n-i).toNat=0 by omega];rfl
end S
theorem ygw2 (c:S.Chip) (n i:Int):K.RunL (envL [(14,ydd1)]) K.openE 30 12 12 (inner (inner (blkOf 12 0))) stEB [(0,.ptr 0 0),(1,.int .i64 n),(4,.int .i64 i)] (S.hp0 c) Hint.auto ⟨.exit 0,[],(hpCh (S.goC (n-i).toNat c)),[]⟩ =
  (bc (ltI i n) (bc (S.okC c) (bc (S.an (S.okQ (S.stepC c)) (S.an (S.inR n 1000) (S.inR (wrapK .i64 (i+1)) 1000))) (st_T (S.stepC c) n (wrapK .i64 (i+1))/\(S.eqC (S.goC (Int.toNat (n-i)) c) (S.goC (Int.toNat (n-wrapK .i64 (i+1))) (S.stepC c)) True)) False) False) (S.eqC (S.goC (Int.toNat (n-i)) c) c True)):=by kernel_rfl
theorem ydt2 (c:S.Chip) (n i:Int) (h0:S.okQ c=true) (h1:S.inR n 1000=true) (h2:S.inR i 1000=true) (IH:i<n->S.okQ (S.stepC c)=true->st_T (S.stepC c) n (i+1)):GTr Tryz.prog (inner (inner (blkOf 12 0))) 12 12 [(0,.ptr 0 0),(1,.int .i64 n),(4,.int .i64 i)] (S.hp0 c) ⟨.exit 0,[],(hpCh (S.goC (n-i).toNat c)),[]⟩:=by
 refine K.ygc0 good (A:=envL [(14,ydd1)]) (yha0 ?_) K.yea0 (k:=30) (ent:=stEB) (cast (ygw2 c n i).symm ?_)
 .intro p hp;simp only [List.mem_cons,List.not_mem_nil,or_false] at hp;rcases hp with rfl;exact ynd1
 .have b1:=S.yga0.1 h1;have b2:=S.yga0.1 h2;have w:i<999->wrapK .i64 (i+1)=i+1:=fun _=>by rw [yja0];omega
  cases hl:ltI i n with
  | false =>
   rw [bc_false,S.yzl0 (S.go_ge c (yba0.1 hl))];trivial
  | true =>
   have hi:=yia0.1 hl;have b3:S.inR (i+1) 1000=true:=S.yga0.2 (by omega);have hq:=S.ynn0 h0;rw [w (by omega),hq,h1,b3,S.okQ_C h0,bc_true,bc_true,S.yzl0 (S.go_lt c hi)];exact ⟨IH hi hq,trivial⟩
theorem yhw2:∀ (k:Nat) (c:S.Chip) (n i:Int),S.okQ c=true->S.inR n 1000=true->S.inR i 1000=true->(n-i).toNat=k->st_T c n i:=by
 intro k
 induction k with
 | zero =>
  intro c n i h0 h1 h2 hk;exact ydt2 c n i h0 h1 h2 fun hi _=>by omega
 | succ k ih =>
  intro c n i h0 h1 h2 hk;exact ydt2 c n i h0 h1 h2 fun hi hq=>ih _ n (i+1) hq h1 (S.yga0.2 (by have:=S.yga0.1 h1;have:=S.yga0.1 h2;omega)) (by omega)
theorem yiw2 (c:S.Chip) (n i:Int) (h0:S.okQ c=true) (h1:S.inR n 1000=true) (h2:S.inR i 1000=true):K.BOk Tryz.prog 12 12 (blkOf 12 0) [0,1,4] [.ptr 0 0,.int .i64 n,.int .i64 i] (S.hp0 c) ⟨.normal,[],(hpCh (S.goC (n-i).toNat c)),[]⟩:=by
 have hb:blkOf 12 0=.block 0 (.loop (inner (inner (blkOf 12 0)))):=by kernel_rfl
 unfold K.BOk;rw [hb];exact K.CT.block (K.GT.loop (yhw2 _ c n i h0 h1 h2 rfl))
theorem yku1 (c:S.Chip) (n:Int):K.bodyF (envB [] (fun g id=>bc (Nat.beq g 12) (bc (Nat.beq id 0) (some stBB) (none)) (none))) (K.runF (envB [] (fun g id=>bc (Nat.beq g 12) (bc (Nat.beq id 0) (some stBB) (none)) (none))) 30) 12 [.ptr 0 0,.int .i64 n] (Heap.of (S.hp0 c)) Hint.auto (K.endC K.openE 40 ⟨.ret (.tup []),(hpCh (S.goC n.toNat c)),[]⟩) =
  (bc (S.an (S.okQ c) (S.an (S.inR n 1000) (S.inR 0 1000))) (st_B c n 0/\(S.eqC (S.goC (Int.toNat n) c) (S.goC (Int.toNat (n-0)) c) True)) False):=by kernel_rfl
theorem ylu1 (c:S.Chip) (n:Int) (h0:S.an (S.okQ c) (S.inR n 1000)=true)  : HTr Tryz.prog 12 [.ptr 0 0,.int .i64 n] (S.hp0 c) ⟨.ret (.tup []),(hpCh (S.goC n.toNat c)),[]⟩:=by
 refine K.yca0 good (A:=envB [] (fun g id=>bc (Nat.beq g 12) (bc (Nat.beq id 0) (some stBB) (none)) (none))) (yrn0 ?_) K.yea0 (k:=30) (cast (yku1 c n).symm ?_)
 .intro p hp;cases hp
 .obtain ⟨h1,h2⟩:=S.yla0.1 h0;have z:S.inR 0 1000=true:=rfl;have e0:(n-0).toNat=n.toNat:=by rw [Int.sub_zero]
  have B:=yiw2 c n 0 h1 h2 z;rw [h1,h2,z,e0,S.yzl0 rfl];exact ⟨B,trivial⟩
theorem ysx0:yia1.ok Tryz.prog 12:=by
 intro xs os b r h h3;unfold yia1 at h;simp only at h;split at h
 .obtain ⟨c,rfl,q⟩:=S.ylb0 h;clear h;injection q with h;injection h with h1 h2;subst h1;subst h2;exact ylu1 _ _ h3
 .cases h
namespace S
theorem yff2 {st:Int} (h:inR st 65536=true):inR (stn st) 500=true:=by
 have h1:=yga0.1 h;unfold stn;rw [show wrapK .i64 st=st by rw [yja0];omega,Int.tmod_eq_emod_of_nonneg h1.1,yga0];omega
theorem did_0 {kd st ad v m:Int} {c:Chip} (h:orb (eqI (kk7 kd) 0) (eqI (kk7 kd) 1)=true):didC kd st ad v m c=goC (stn st).toNat c:=by unfold didC;rw [h]
theorem did_5 {kd st ad v m:Int} {c:Chip} (h:orb (eqI (kk7 kd) 0) (eqI (kk7 kd) 1)=false) (h5:eqI (kk7 kd) 5=true):didC kd st ad v m c=c:=by unfold didC;rw [h];simp only [h5]
theorem did_6 {kd st ad v m:Int} {c:Chip} (h:orb (eqI (kk7 kd) 0) (eqI (kk7 kd) 1)=false) (h5:eqI (kk7 kd) 5=false) (h6:eqI (kk7 kd) 6=true):didC kd st ad v m c=inC m v c:=by unfold didC;rw [h];simp only [h5,h6]
theorem did_2 {kd st ad v m:Int} {c:Chip} (h:orb (eqI (kk7 kd) 0) (eqI (kk7 kd) 1)=false) (h5:eqI (kk7 kd) 5=false) (h6:eqI (kk7 kd) 6=false):didC kd st ad v m c=yvb0 ad v c:=by unfold didC;rw [h];simp only [h5,h6]
theorem yet2 {kd st ad v m:Int} {c:Chip} (hv:inR v 256=true) (h:okQ c=true):okQ (didC kd st ad v m c)=true:=by
 unfold didC;split
 .exact yfw2 h
 .split
  .exact h
  .split
   .exact yct2 hv h
   .exact yqg1 hv h
end S
theorem yan2 (c:S.Chip) (n v:Int):HT Tryz.prog 29 [.ptr 0 0,.int .i64 n,.int .u8 v] (Heap.of (S.hp0 c)) (.ret (.tup [])) (Heap.of (K.chg (S.hp0 c) (hpCh (S.inC n v c))++[])):=cast (by kernel_rfl) (ywm2 c n v)
theorem yft2:kInDE.ok Tryz.prog 29:=by
 intro xs os b r h h3;unfold kInDE at h;simp only at h;split at h
 .obtain ⟨c,rfl,q⟩:=S.ylb0 h;clear h;injection q with h;injection h with h1 h2;subst h1;subst h2;exact yan2 _ _ _
 .cases h
theorem yjw2 (c:S.Chip) (kd st ad v m i:Int):K.RunL (envL [(14,ydd1)]) K.openE 30 27 45 (inner (inner (blkOf 27 1))) diEB [(0,.ptr 0 0),(3,.ptr 40 0),(4,.int .i64 i)] (S.hp0 c++[.cells 64 .exact [.int .i64 kd,.int .u16 st,.int .u16 ad,.int .u8 v,.int .i64 m]]) Hint.auto ⟨.exit 1,[],(hpCh (S.goC (S.stn st-i).toNat c)),[]⟩ =
  (bc (ltI i (Int.tmod (wrapK .i64 st) 500)) (bc (S.okC c) (bc (S.an (S.okQ (S.stepC c)) (S.an (S.inR st 65536) (S.inR (wrapK .i64 (i+1)) 1000))) (di_T (S.stepC c) kd st ad v m (wrapK .i64 (i+1))/\(S.eqC (S.goC (Int.toNat (S.stn st-i)) c) (S.goC (Int.toNat (S.stn st-wrapK .i64 (i+1))) (S.stepC c)) True)) False) False) (S.eqC (S.goC (Int.toNat (S.stn st-i)) c) c True)):=by kernel_rfl
theorem ygt2 (c:S.Chip) (kd st ad v m i:Int) (h0:S.okQ c=true) (h1:S.inR st 65536=true) (h2:S.inR i 1000=true) (IH:i<S.stn st->S.okQ (S.stepC c)=true->di_T (S.stepC c) kd st ad v m (i+1)):GTr Tryz.prog (inner (inner (blkOf 27 1))) 27 45 [(0,.ptr 0 0),(3,.ptr 40 0),(4,.int .i64 i)] (S.hp0 c++[.cells 64 .exact [.int .i64 kd,.int .u16 st,.int .u16 ad,.int .u8 v,.int .i64 m]]) ⟨.exit 1,[],(hpCh (S.goC (S.stn st-i).toNat c)),[]⟩:=by
 refine K.ygc0 good (A:=envL [(14,ydd1)]) (yha0 ?_) K.yea0 (k:=30) (ent:=diEB) (cast (yjw2 c kd st ad v m i).symm ?_)
 .intro p hp;simp only [List.mem_cons,List.not_mem_nil,or_false] at hp;rcases hp with rfl;exact ynd1
 .have b1:=S.yga0.1 (S.yff2 h1);have b2:=S.yga0.1 h2;have w:i<999->wrapK .i64 (i+1)=i+1:=fun _=>by rw [yja0];omega
  have es:Int.tmod (wrapK .i64 st) 500=S.stn st:=rfl;rw [es];cases hl:ltI i (S.stn st) with
  | false =>
   rw [bc_false,S.yzl0 (S.go_ge c (yba0.1 hl))];trivial
  | true =>
   have hi:=yia0.1 hl;have b3:S.inR (i+1) 1000=true:=S.yga0.2 (by omega);have hq:=S.ynn0 h0;rw [w (by omega),hq,h1,b3,S.okQ_C h0,bc_true,bc_true,S.yzl0 (S.go_lt c hi)];exact ⟨IH hi hq,trivial⟩
theorem ykw2:∀ (k:Nat) (c:S.Chip) (kd st ad v m i:Int),S.okQ c=true->S.inR st 65536=true->S.inR i 1000=true->(S.stn st-i).toNat=k->di_T c kd st ad v m i:=by
 intro k
 induction k with
 | zero =>
  intro c kd st ad v m i h0 h1 h2 hk;exact ygt2 c kd st ad v m i h0 h1 h2 fun hi _=>by omega
 | succ k ih =>
  intro c kd st ad v m i h0 h1 h2 hk;exact ygt2 c kd st ad v m i h0 h1 h2 fun hi hq=>ih _ kd st ad v m (i+1) hq h1 (S.yga0.2 (by have:=S.yga0.1 (S.yff2 h1);have:=S.yga0.1 h2;omega)) (by omega)
theorem ylw2 (c:S.Chip) (kd st ad v m i:Int) (h0:S.okQ c=true) (h1:S.inR st 65536=true) (h2:S.inR i 1000=true):di_B c kd st ad v m i:=by
 have hb:blkOf 27 1=.block 1 (.loop (inner (inner (blkOf 27 1)))):=by kernel_rfl
 unfold di_B K.BOk;rw [hb];exact K.CT.block (K.GT.loop (ykw2 _ c kd st ad v m i h0 h1 h2 rfl))
theorem ybn2 (c:S.Chip) (kd st ad v m:Int):K.bodyF (ypj2) (K.runF (ypj2) 30) 27 [.ptr 0 0,.agg [.int .i64 kd,.int .u16 st,.int .u16 ad,.int .u8 v,.int .i64 m]] (Heap.of (S.hp0 c)) (.skip 3 (.fork (.skip 0 (.take true .auto)) .auto)) (K.endC K.openE 40 ⟨.ret (.tup []),(hpCh (S.didC kd st ad v m c)),[]⟩) =
  (bc (eqI (Int.tmod (wrapK .i64 (Int.tmod kd 7+7)) 7) 0) (eqI (Int.tmod (wrapK .i64 (Int.tmod kd 7+7)) 7) (0:Int)=true/\(bc (S.an (S.okQ c) (S.an (S.inR st 65536) (S.inR 0 1000))) (di_B c kd st ad v m 0/\(S.eqC (S.didC kd st ad v m c) (S.goC (Int.toNat (S.stn st-0)) c) True)) False)) (bc (eqI (Int.tmod (wrapK .i64 (Int.tmod kd 7+7)) 7) 1) (bc (S.an (S.okQ c) (S.an (S.inR st 65536) (S.inR 0 1000))) (di_B c kd st ad v m 0/\(S.eqC (S.didC kd st ad v m c) (S.goC (Int.toNat (S.stn st-0)) c) True)) False) (bc (eqI (Int.tmod (wrapK .i64 (Int.tmod kd 7+7)) 7) 5) (bc (S.okQ c) (S.eqC (S.didC kd st ad v m c) c True) False) (bc (eqI (Int.tmod (wrapK .i64 (Int.tmod kd 7+7)) 7) 6) (S.eqC (S.didC kd st ad v m c) (S.inC m v c) True) (bc (S.okC c) (S.eqC (S.didC kd st ad v m c) (S.yvb0 ad v c) True) False))))):=by kernel_rfl
theorem ycn2 (c:S.Chip) (kd st ad v m:Int) (h0:S.an (S.okQ c) (S.an (S.inR st 65536) (S.inR v 256))=true)  : HTr Tryz.prog 27 [.ptr 0 0,.agg [.int .i64 kd,.int .u16 st,.int .u16 ad,.int .u8 v,.int .i64 m]] (S.hp0 c) ⟨.ret (.tup []),(hpCh (S.didC kd st ad v m c)),[]⟩:=by
 refine K.yca0 good (A:=ypj2) (yrn0 ?_) K.yea0 (k:=30) (cast (ybn2 c kd st ad v m).symm ?_)
 .intro p hp;simp only [List.mem_cons,List.not_mem_nil,or_false] at hp;rcases hp with rfl | rfl | rfl;exact yum2;exact yft2;exact yyo0
 .obtain ⟨h1,h2⟩:=S.yla0.1 h0;obtain ⟨h3,h4⟩:=S.yla0.1 h2;have ek:Int.tmod (wrapK .i64 (Int.tmod kd 7+7)) 7=S.kk7 kd:=rfl;have z:S.inR 0 1000=true:=rfl;have e0:(S.stn st-0).toNat=(S.stn st).toNat:=by rw [Int.sub_zero]
  have B:=ylw2 c kd st ad v m 0 h1 h3 z;simp only [ek,h1,S.okQ_C h1,h3,z,e0,bc_true,S.an];cases k0:eqI (S.kk7 kd) 0 with
  | true =>
   simp only [bc_true,true_and];rw [S.yzl0 (S.did_0 (by rw [k0];rfl))];exact ⟨B,trivial⟩
  | false =>
   cases k1:eqI (S.kk7 kd) 1 with
   | true =>
    simp only [bc_true,bc_false];rw [S.yzl0 (S.did_0 (by rw [k0,k1];rfl))];exact ⟨B,trivial⟩
   | false =>
    have ko:S.orb (eqI (S.kk7 kd) 0) (eqI (S.kk7 kd) 1)=false:=by rw [k0,k1];rfl
    cases k5:eqI (S.kk7 kd) 5 with
    | true =>
     simp only [bc_true,bc_false];rw [S.yzl0 (S.did_5 ko k5)];trivial
    | false =>
     cases k6:eqI (S.kk7 kd) 6 with
     | true =>
      simp only [bc_true,bc_false];rw [S.yzl0 (S.did_6 ko k5 k6)];trivial
     | false =>
      simp only [bc_true,bc_false];rw [S.yzl0 (S.did_2 ko k5 k6)];trivial
theorem yht2:kDidE.ok Tryz.prog 27:=by
 intro xs os b r h h3;unfold kDidE at h;simp only at h;split at h
 .obtain ⟨c,rfl,q⟩:=S.ylb0 h;clear h;injection q with h;injection h with h1 h2;subst h1;subst h2;exact ycn2 _ _ _ _ _ _ h3
 .cases h
namespace S
theorem yjt0:∀ (i:Nat) (vs:List LV),yde0 vs=true->i*5<vs.length->inR (intOf (K.atV vs (i*5+1))) 65536=true/\inR (intOf (K.atV vs (i*5+3))) 256=true
 | 0,vs,h,hl=>by
  match vs,h,hl with
  | _::t::_::c::_::r,h,_ =>
   simp only [yde0,yla0] at h;exact h.1
  | [_],h,_=>simp [yde0] at h
  | [_,_],h,_=>simp [yde0] at h
  | [_,_,_],h,_=>simp [yde0] at h
  | [_,_,_,_],h,_=>simp [yde0] at h
 | i+1,vs,h,hl=>by
  match vs,h,hl with
  | _::t::_::c::_::r,h,hl =>
   simp only [yde0,yla0] at h;have:=yjt0 i r h.2 (by simp at hl;omega)
   have e:∀ x a b c d e,K.atV (a::b::c::d::e::r) ((i+1)*5+x)=K.atV r (i*5+x):=by
    intro x a b c d e;unfold K.atV;rw [show (i+1)*5+x=(i*5+x)+1+1+1+1+1 by omega];rfl
   rw [e,e];exact this
  | [_],_,hl=>simp at hl
  | [_,_],h,_=>simp [yde0] at h
  | [_,_,_],h,_=>simp [yde0] at h
  | [_,_,_,_],h,_=>simp [yde0] at h
theorem ydr0 {vs:List LV} {L:Nat} : yrh0 vs L=true↔yde0 vs=true/\lenL vs=L*5:=by
 unfold yrh0;rw [yla0];constructor
 .exact fun h=>⟨h.1,Nat.eq_of_beq_eq_true h.2⟩
 .exact fun h=>⟨h.1,by rw [h.2];exact Nat.beq_refl _⟩
theorem ymu1 {vs:List LV} {L:Nat} {i:Int} (h:yrh0 vs L=true) (h0:0<=i) (h1:i<L):inR (av vs i 1) 65536=true/\inR (av vs i 3) 256=true:=by
 obtain ⟨h,hl⟩:=ydr0.1 h;unfold av;rw [K.lenL_eq] at hl;rw [Nat.zero_add];exact yjt0 i.toNat vs h (by omega)
theorem ybc2 (l:List Act21) (hl:∀ a,a∈l->(0<=a.steps/\a.steps<=65535)/\0<=a.v/\a.v<=255):yrh0 (yui1 l) l.length=true:=by
 have hlen:lenL (yui1 l)=l.length*5:=by rw [K.lenL_eq];exact yfh0 _ 5 (fun _=>rfl) l
 refine ydr0.2 ⟨?_,hlen⟩;clear hlen
 induction l with
 | nil=>rfl
 | cons a l ih =>
  show an (an (inR a.steps 65536) (inR a.v 256)) (yde0 (yui1 l))=true;have:=hl a (by simp);rw [ih fun b hb=>hl b (by simp [hb]),yga0.2 ⟨this.1.1,(by omega:a.steps<65536)⟩,yga0.2 ⟨this.2.1,(by omega:a.v<256)⟩];rfl
theorem yit2 {vs:List LV} {L:Nat} {i:Int} {c:Chip} (h:yrh0 vs L=true) (h0:0<=i) (h1:i<L) (hc:okQ c=true):okQ (actC vs i c)=true:=yet2 (ymu1 h h0 h1).2 hc
theorem yam0 {k:Int} (h:inR k 256=true):inR (cl228 k) 228=true:=by
 have h1:=yga0.1 h;unfold cl228;rw [show wrapK .i64 k=k by rw [yja0];omega,Int.tmod_eq_emod_of_nonneg h1.1,yga0];omega
theorem ycc2 {a b:Chip} {r:Prop} (h:a=b):eqD a b r=r:=by
 subst h;unfold eqD;simp only [eq_self,true_and]
theorem yqa1:yrh0 [] 0=true:=rfl
theorem yjt2 {L:Nat} {i:Int} (vs:List LV) (c:Chip) (h:i<L):madeC vs ((L:Int)-i).toNat i c=madeC vs ((L:Int)-(i+1)).toNat (i+1) (actC vs i c):=by
 rw [show ((L:Int)-i).toNat=((L:Int)-(i+1)).toNat+1 by omega];rfl
theorem ykt2 {L:Nat} {i:Int} (vs:List LV) (c:Chip) (h:(L:Int)<=i):madeC vs ((L:Int)-i).toNat i c=c:=by
 rw [show ((L:Int)-i).toNat=0 by omega];rfl
end S
theorem ymw2 (et L q:Nat) (w:Own) (vs:List LV) (c:S.Chip) (i:Int):K.RunL (envL [(27,kDidE)]) K.openE 30 11 24 (inner (inner (blkOf 11 0))) mdEB [(5,.ptr 0 0),(1,.slice 40 0 L (.known q)),(6,.int .i64 i)] (S.hp0 c++[.flat [.i .i64,.i .u16,.i .u16,.i .u8,.i .i64] et w vs]) Hint.auto ⟨.exit 0,[(5,.ptr 0 0)],(hpCh (S.madeC vs (L-i).toNat i c)),[]⟩ =
  (bc (ltI i ↑L) (bc (ltI i 0) False (bc (ltI i ↑L) (bc (Nat.ble (0+Int.toNat i*5+5) (lenL vs)) (K.yzf0 [CK.i .i64,CK.i .u16,CK.i .u16,CK.i .u8,CK.i .i64] (0+Int.toNat i*5)=CK.i .i64/\(K.yzf0 [CK.i .i64,CK.i .u16,CK.i .u16,CK.i .u8,CK.i .i64] (0+Int.toNat i*5+1)=CK.i .u16/\(K.yzf0 [CK.i .i64,CK.i .u16,CK.i .u16,CK.i .u8,CK.i .i64] (0+Int.toNat i*5+1+1)=CK.i .u16/\(K.yzf0 [CK.i .i64,CK.i .u16,CK.i .u16,CK.i .u8,CK.i .i64] (0+Int.toNat i*5+1+1+1)=CK.i .u8/\(K.yzf0 [CK.i .i64,CK.i .u16,CK.i .u16,CK.i .u8,CK.i .i64] (0+Int.toNat i*5+1+1+1+1)=CK.i .i64/\(bc (S.an (S.okQ c) (S.an (S.inR (intOf (K.atV vs (0+Int.toNat i*5+1))) 65536) (S.inR (intOf (K.atV vs (0+Int.toNat i*5+1+1+1))) 256))) (bc (S.an (S.okQ (S.didC (intOf (K.atV vs (0+Int.toNat i*5))) (intOf (K.atV vs (0+Int.toNat i*5+1))) (intOf (K.atV vs (0+Int.toNat i*5+1+1))) (intOf (K.atV vs (0+Int.toNat i*5+1+1+1))) (intOf (K.atV vs (0+Int.toNat i*5+1+1+1+1))) c)) (S.an (S.yrh0 vs L) (S.an (S.inR (wrapK .i64 (i+1)) 1000) (notB (ltI 900 ↑L))))) (md_T et L q w vs (S.didC (intOf (K.atV vs (0+Int.toNat i*5))) (intOf (K.atV vs (0+Int.toNat i*5+1))) (intOf (K.atV vs (0+Int.toNat i*5+1+1))) (intOf (K.atV vs (0+Int.toNat i*5+1+1+1))) (intOf (K.atV vs (0+Int.toNat i*5+1+1+1+1))) c) (wrapK .i64 (i+1))/\((0:Nat)=0/\(S.eqC (S.madeC vs (Int.toNat (↑L-i)) i c) (S.madeC vs (Int.toNat (↑L-wrapK .i64 (i+1))) (wrapK .i64 (i+1)) (S.didC (intOf (K.atV vs (0+Int.toNat i*5))) (intOf (K.atV vs (0+Int.toNat i*5+1))) (intOf (K.atV vs (0+Int.toNat i*5+1+1))) (intOf (K.atV vs (0+Int.toNat i*5+1+1+1))) (intOf (K.atV vs (0+Int.toNat i*5+1+1+1+1))) c)) True))) False) False)))))) False) False)) ((0:Nat)=0/\(S.eqC (S.madeC vs (Int.toNat (↑L-i)) i c) c True))):=by kernel_rfl
theorem ylt2 (et L q:Nat) (w:Own) (vs:List LV) (c:S.Chip) (i:Int) (h0:S.okQ c=true) (h1:S.yrh0 vs L=true) (h2:S.inR i 1000=true) (h3:(L:Int)<=900) (IH:i<L->S.okQ (S.actC vs i c)=true->md_T et L q w vs (S.actC vs i c) (i+1)):GTr Tryz.prog (inner (inner (blkOf 11 0))) 11 24 [(5,.ptr 0 0),(1,.slice 40 0 L (.known q)),(6,.int .i64 i)] (S.hp0 c++[.flat [.i .i64,.i .u16,.i .u16,.i .u8,.i .i64] et w vs]) ⟨.exit 0,[(5,.ptr 0 0)],(hpCh (S.madeC vs (L-i).toNat i c)),[]⟩:=by
 refine K.ygc0 good (A:=envL [(27,kDidE)]) (yha0 ?_) K.yea0 (k:=30) (ent:=mdEB) (cast (ymw2 et L q w vs c i).symm ?_)
 .intro p hp;simp only [List.mem_cons,List.not_mem_nil,or_false] at hp;rcases hp with rfl;exact yht2
 .have b2:=S.yga0.1 h2;have w:i<999->wrapK .i64 (i+1)=i+1:=fun _=>by rw [yja0];omega
  cases hl:ltI i L with
  | false =>
   simp only [bc_false,S.yzl0 (S.ykt2 vs c (yba0.1 hl)),and_self]
  | true =>
   have hi:=yia0.1 hl;have hv:=(S.ydr0.1 h1).2;have e0:ltI i 0=false:=yba0.2 b2.1;have bl:Nat.ble (0+Int.toNat i*5+5) (lenL vs)=true:=Nat.ble_eq_true_of_le (by rw [hv];omega);have k0:K.yzf0 [.i .i64,.i .u16,.i .u16,.i .u8,.i .i64] (0+Int.toNat i*5)=.i .i64:=by rw [Nat.zero_add];exact ypg0 [.i .i64,.i .u16,.i .u16,.i .u8,.i .i64] i.toNat 0
   have k1:K.yzf0 [.i .i64,.i .u16,.i .u16,.i .u8,.i .i64] (0+Int.toNat i*5+1)=.i .u16:=by rw [Nat.zero_add];exact ypg0 [.i .i64,.i .u16,.i .u16,.i .u8,.i .i64] i.toNat 1
   have k2:K.yzf0 [.i .i64,.i .u16,.i .u16,.i .u8,.i .i64] (0+Int.toNat i*5+1+1)=.i .u16:=by rw [Nat.zero_add];exact ypg0 [.i .i64,.i .u16,.i .u16,.i .u8,.i .i64] i.toNat 2
   have k3:K.yzf0 [.i .i64,.i .u16,.i .u16,.i .u8,.i .i64] (0+Int.toNat i*5+1+1+1)=.i .u8:=by rw [Nat.zero_add];exact ypg0 [.i .i64,.i .u16,.i .u16,.i .u8,.i .i64] i.toNat 3
   have k4:K.yzf0 [.i .i64,.i .u16,.i .u16,.i .u8,.i .i64] (0+Int.toNat i*5+1+1+1+1)=.i .i64:=by rw [Nat.zero_add];exact ypg0 [.i .i64,.i .u16,.i .u16,.i .u8,.i .i64] i.toNat 4
   have ea:S.didC (intOf (K.atV vs (0+Int.toNat i*5))) (intOf (K.atV vs (0+Int.toNat i*5+1))) (intOf (K.atV vs (0+Int.toNat i*5+1+1))) (intOf (K.atV vs (0+Int.toNat i*5+1+1+1))) (intOf (K.atV vs (0+Int.toNat i*5+1+1+1+1))) c=S.actC vs i c:=rfl;obtain ⟨r1,r3⟩:=S.ymu1 h1 b2.1 hi;have r1:S.inR (intOf (K.atV vs (0+Int.toNat i*5+1))) 65536=true:=r1;have r3:S.inR (intOf (K.atV vs (0+Int.toNat i*5+1+1+1))) 256=true:=r3;have hq:=S.yit2 h1 b2.1 hi h0;have b3:S.inR (i+1) 1000=true:=S.yga0.2 (by omega);have hL:notB (ltI 900 L)=true:=by rw [yba0.2 (by omega)];rfl
   have ih:=IH hi hq;simp only [e0,bl,k0,k1,k2,k3,k4,r1,r3,h0,S.an,w (by omega),ea,hq,h1,b3,hL,bc_true,bc_false,true_and,S.yzl0 (S.yjt2 vs c hi)];simp only [ih,and_self]
theorem ynw2 (et L q:Nat) (w:Own) (vs:List LV) (h1:S.yrh0 vs L=true) (h3:(L:Int)<=900):∀ (k:Nat) (c:S.Chip) (i:Int),S.okQ c=true->S.inR i 1000=true->(L-i).toNat=k->md_T et L q w vs c i:=by
 intro k
 induction k with
 | zero =>
  intro c i h0 h2 hk;exact ylt2 et L q w vs c i h0 h1 h2 h3 fun hi _=>by omega
 | succ k ih =>
  intro c i h0 h2 hk;exact ylt2 et L q w vs c i h0 h1 h2 h3 fun hi hq=>ih _ (i+1) hq (S.yga0.2 (by have:=S.yga0.1 h2;omega)) (by omega)
theorem yow2 (et L q:Nat) (w:Own) (vs:List LV) (h1:S.yrh0 vs L=true) (h3:(L:Int)<=900) (c:S.Chip) (i:Int) (h0:S.okQ c=true) (h2:S.inR i 1000=true):md_B et L q w vs c i:=by
 have hb:blkOf 11 0=.block 0 (.loop (inner (inner (blkOf 11 0)))):=by kernel_rfl
 unfold md_B K.BOk;rw [hb];exact K.CT.block (K.GT.loop (ynw2 et L q w vs h1 h3 _ c i h0 h2 rfl))
theorem ymt2 (k:Int):K.bodyF (envL [(18,ydn0)]) (K.runF (envL [(18,ydn0)]) 30) 11 [.int .u8 k,.nils] (Heap.of []) Hint.auto (K.endC K.openE 0 ⟨.ret (.ptr 0 0),[],(S.hpP 0 (S.mkC [] 0 k))⟩) =
  (bc (S.inR (Int.tmod (wrapK .i64 k) 228) 228) ((0:Nat)=0/\(S.eqD (S.mkC [] 0 k) (S.newC (Int.tmod (wrapK .i64 k) 228)) True)) False):=by kernel_rfl
theorem ynt2 (k:Int) (h0:S.inR k 256=true)  : HTr Tryz.prog 11 [.int .u8 k,.nils] [] ⟨.ret (.ptr 0 0),[],(S.hpP 0 (S.mkC [] 0 k))⟩:=by
 refine K.yca0 good (A:=envL [(18,ydn0)]) (yha0 ?_) K.yea0 (k:=30) (cast (ymt2 k).symm ?_)
 .intro p hp;simp only [List.mem_cons,List.not_mem_nil,or_false] at hp;rcases hp with rfl;exact yar0
 .have hk:S.inR k 256=true:=h0;have ek:Int.tmod (wrapK .i64 k) 228=S.cl228 k:=rfl;have e:S.mkC [] 0 k=S.newC (S.cl228 k):=rfl;simp only [ek,S.yam0 hk,bc_true,S.ycc2 e,and_self]
theorem yot2 (k:Int):K.bodyF (envL [(18,ydn0)]) (K.runF (envL [(18,ydn0)]) 30) 11 [.int .u8 k,.emp 0] (Heap.of [.empty]) Hint.auto (K.endC K.openE 1 ⟨.ret (.ptr 1 0),[],(S.hpP 1 (S.mkC [] 0 k))⟩) =
  (bc (S.inR (Int.tmod (wrapK .i64 k) 228) 228) ((0:Nat)=0/\(S.eqD (S.mkC [] 0 k) (S.newC (Int.tmod (wrapK .i64 k) 228)) True)) False):=by kernel_rfl
theorem ypt2 (k:Int) (h0:S.inR k 256=true)  : HTr Tryz.prog 11 [.int .u8 k,.emp 0] [.empty] ⟨.ret (.ptr 1 0),[],(S.hpP 1 (S.mkC [] 0 k))⟩:=by
 refine K.yca0 good (A:=envL [(18,ydn0)]) (yha0 ?_) K.yea0 (k:=30) (cast (yot2 k).symm ?_)
 .intro p hp;simp only [List.mem_cons,List.not_mem_nil,or_false] at hp;rcases hp with rfl;exact yar0
 .have hk:S.inR k 256=true:=h0;have ek:Int.tmod (wrapK .i64 k) 228=S.cl228 k:=rfl;have e:S.mkC [] 0 k=S.newC (S.cl228 k):=rfl;simp only [ek,S.yam0 hk,bc_true,S.ycc2 e,and_self]
theorem yqt2 (et L q:Nat) (w:Own) (vs:List LV) (k:Int):K.bodyF (envB [(18,ydn0)] (fun g id=>bc (Nat.beq g 11) (bc (Nat.beq id 0) (some mdBB) (none)) (none))) (K.runF (envB [(18,ydn0)] (fun g id=>bc (Nat.beq g 11) (bc (Nat.beq id 0) (some mdBB) (none)) (none))) 30) 11 [.int .u8 k,.slice 0 0 L (.known q)] (Heap.of [.flat [.i .i64,.i .u16,.i .u16,.i .u8,.i .i64] et w vs]) Hint.auto (K.endC K.openE 1 ⟨.ret (.ptr 1 0),[],(S.hpP 1 (S.mkC vs L k))⟩) =
  (bc (S.inR (Int.tmod (wrapK .i64 k) 228) 228) (bc (S.an (S.okQ (S.newC (Int.tmod (wrapK .i64 k) 228))) (S.an (S.yrh0 vs L) (S.an (S.inR 0 1000) (notB (ltI 900 ↑L))))) (md_B et L q w vs (S.newC (Int.tmod (wrapK .i64 k) 228)) 0/\((0:Nat)=0/\(S.eqD (S.mkC vs L k) (S.madeC vs (Int.toNat (↑L-0)) 0 (S.newC (Int.tmod (wrapK .i64 k) 228))) True))) False) False):=by kernel_rfl
theorem yrt2 (et L q:Nat) (w:Own) (vs:List LV) (k:Int) (h0:S.an (S.inR k 256) (S.an (S.yrh0 vs L) (notB (ltI 900 L)))=true)  : HTr Tryz.prog 11 [.int .u8 k,.slice 0 0 L (.known q)] [.flat [.i .i64,.i .u16,.i .u16,.i .u8,.i .i64] et w vs] ⟨.ret (.ptr 1 0),[],(S.hpP 1 (S.mkC vs L k))⟩:=by
 refine K.yca0 good (A:=envB [(18,ydn0)] (fun g id=>bc (Nat.beq g 11) (bc (Nat.beq id 0) (some mdBB) (none)) (none))) (yrn0 ?_) K.yea0 (k:=30) (cast (yqt2 et L q w vs k).symm ?_)
 .intro p hp;simp only [List.mem_cons,List.not_mem_nil,or_false] at hp;rcases hp with rfl;exact yar0
 .obtain ⟨hk,h1⟩:=S.yla0.1 h0;obtain ⟨hv,h2⟩:=S.yla0.1 h1;have hL:=yba0.1 ((yua0).1 h2);have ek:Int.tmod (wrapK .i64 k) 228=S.cl228 k:=rfl;have z:S.inR 0 1000=true:=rfl;have hq:=S.yef2 (S.yam0 hk);have B:=yow2 et L q w vs hv hL (S.newC (S.cl228 k)) 0 hq z;have e:S.mkC vs L k=S.madeC vs (Int.toNat ((L:Int)-0)) 0 (S.newC (S.cl228 k)):=by rw [Int.sub_zero];rfl
  simp only [ek,S.yam0 hk,hq,hv,z,h2,S.an,bc_true,S.ycc2 e,true_and,and_true];exact B
theorem ydn2:mkAE.ok Tryz.prog 11:=by
 intro xs os b r h h3;unfold mkAE at h;simp only at h;split at h
 .injection h with h;injection h with h1 h2;subst h1;subst h2;exact ynt2 _ h3
 .injection h with h;injection h with h1 h2;subst h1;subst h2;exact ypt2 _ h3
 .injection h with h;injection h with h1 h2;subst h1;subst h2;exact yrt2 _ _ _ _ _ _ h3
 .cases h
namespace S
theorem yvf0 {c:Chip} (h:okC c=true):0<=pos c/\pos c<228/\c.ba=pos c % 4/\c.bs=st (pos c / 4):=by
 obtain ⟨n,h0,h1,ha,hs⟩:=ydf2 (ygf0.1 h).1;have e:pos c=n:=by unfold pos;rw [ha,hs,ydm2 h0 h1]
 rw [e];exact ⟨h0,h1,ha,hs⟩
theorem yuk0 {c:Chip} (h:okC c=true):pos (stepC c)=(pos c+1) % 228:=by
 obtain ⟨h0,h1,ha,hs⟩:=yvf0 h;show plc (bc (ltI (c.ba+1) 4) (c.ba+1) 0) (bc (ltI (c.ba+1) 4) c.bs (bc (eqI c.bs 20) 0 (nx c.bs)))=_;rw [ha,hs,bm_a h0 h1,show bc (ltI (pos c % 4+1) 4) (st (pos c / 4)) (bc (eqI (st (pos c / 4)) 20) 0 (nx (st (pos c / 4))))=st (((pos c+1) % 228) / 4) from bm_s h0 h1,ydm2 (by omega) (by omega)]
theorem yst2 {c:Chip} (h:okC c=true):sBeg c.ba c.bs=eqI (pos c) 0:=by
 obtain ⟨h0,h1,ha,hs⟩:=yvf0 h;rw [Bool.eq_iff_iff,ypa0];unfold sBeg;rw [yla0,ypa0,ypa0,ha,hs];constructor
 .rintro ⟨e1,e2⟩
  have:=yty1 (i:=pos c / 4) (j:=0) (by omega) (by omega) (by decide) (by decide) (by rw [e2,st0]);omega
 .intro e;rw [e];exact ⟨rfl,st0⟩
theorem ix_eq {c:Chip} (h:okC c=true):ix c.bs=pos c / 4:=by
 obtain ⟨h0,h1,ha,hs⟩:=yvf0 h;rw [hs,ix_st (by omega) (by omega)]
theorem ytx0 {c:Chip} (h:okC c=true):(stepC c).late=bc (eqI (pos c) 0) false c.late:=by
 show sLate c.ba c.bs c.late=_;unfold sLate;rw [yst2 h]
theorem okZ_Q {c:Chip} (h:okZ c=true):okQ c=true:=(yla0.1 h).1
theorem okZ_C {c:Chip} (h:okZ c=true):okC c=true:=okQ_C (okZ_Q h)
theorem okZ_m {c:Chip} (h:okZ c=true):(0<=c.mc/\c.mc<17)/\0<=c.mg/\c.mg<4:=by
 have:=(yla0.1 h).2;rw [yla0,yga0,yga0] at this;exact this
theorem yux0 {mc mg k:Int} (hk:0<=k):mAct mc mg k=true↔mc<16/\3<=mg/\k % 4=0:=by
 unfold mAct;rw [yla0,yla0,yia0,yua0,yba0,ypa0,Int.tmod_eq_emod_of_nonneg hk]
theorem yzo0 {mc:Int} (h0:0<=mc) (h1:mc<17):mLast mc=true↔mc=15:=by
 unfold mLast;rw [ypa0,show wrapK .i64 (mc+1)=mc+1 by rw [yja0];omega];omega
theorem mC_eq {mc mg k:Int} (h0:0<=mc) (h1:mc<17) (hk:0<=k):mC mc mg k=if mc<16/\3<=mg/\k % 4=0 then mc+1 else mc:=by
 unfold mC;cases h:mAct mc mg k with
 | true=>rw [if_pos ((yux0 hk).1 h),bc_true,yja0];omega
 | false=>rw [if_neg (fun e=>by rw [(yux0 hk).2 e] at h;cases h),bc_false]
theorem mG_eq {mc mg k:Int} (h0:0<=mc) (h1:mc<17) (g0:0<=mg) (g1:mg<4) (hk:0<=k):mG mc mg k=if mc<16 then (if mg<3 then mg+1 else if k % 4=0/\mc=15 then 0 else mg) else mg:=by
 unfold mG;by_cases a:mc<16
 .rw [yia0.2 a,bc_true,if_pos a];by_cases b:mg<3
  .rw [yia0.2 b,bc_true,if_pos b,yja0];omega
  .rw [yba0.2 (by omega),bc_false,if_neg b];cases h:an (eqI (k.tmod 4) 0) (mLast mc) with
   | true =>
    rw [yla0,ypa0,Int.tmod_eq_emod_of_nonneg hk,yzo0 h0 h1] at h;rw [if_pos h,bc_true]
   | false =>
    rw [if_neg,bc_false];intro e;rw [show an (eqI (k.tmod 4) 0) (mLast mc)=true by rw [yla0,ypa0,Int.tmod_eq_emod_of_nonneg hk,yzo0 h0 h1];exact e] at h;cases h
 .rw [yba0.2 (by omega),bc_false,if_neg a]
theorem yrg1 {c:Chip} (h:okZ c=true):(stepC c).mc=if c.mc<16/\3<=c.mg/\pos c % 4=0 then c.mc+1 else c.mc:=by
 obtain ⟨⟨h0,h1⟩,g0,g1⟩:=okZ_m h;exact mC_eq h0 h1 (yvf0 (okZ_C h)).1
theorem ynu1 {c:Chip} (h:okZ c=true):(stepC c).mg=if c.mc<16 then (if c.mg<3 then c.mg+1 else if pos c % 4=0/\c.mc=15 then 0 else c.mg) else c.mg:=by
 obtain ⟨⟨h0,h1⟩,g0,g1⟩:=okZ_m h;exact mG_eq h0 h1 g0 g1 (yvf0 (okZ_C h)).1
theorem yij0 {c:Chip} (h:okZ c=true):okZ (stepC c)=true:=by
 obtain ⟨⟨h0,h1⟩,g0,g1⟩:=okZ_m h;unfold okZ;rw [yla0,yla0,yga0,yga0,yrg1 h,ynu1 h];refine ⟨ynn0 (okZ_Q h),?_,?_⟩
 .split <;> omega
 .split
  .split
   .omega
   .split <;> omega
  .omega
theorem yra1 {n:Nat} : ∀ {c:Chip},okZ c=true->okZ (goC n c)=true:=by
 induction n with
 | zero=>exact fun h=>h
 | succ n ih=>exact fun h=>ih (yij0 h)
theorem ytt2 {c:Chip} (h:okZ c=true):mu (stepC c)=if 0<mu c then mu c-1 else 0:=by
 obtain ⟨⟨h0,h1⟩,g0,g1⟩:=okZ_m h;obtain ⟨p0,p1,_,_⟩:=yvf0 (okZ_C h);have ep:=yuk0 (okZ_C h);unfold mu;rw [yrg1 h,ynu1 h,ep];by_cases a:c.mc<16
 .by_cases b:c.mg<3
  .simp only [a,b,if_true,true_and];rw [if_neg (show ¬ (3<=c.mg/\pos c % 4=0) by omega)];simp only [a,if_true];split <;> omega
  .have g:c.mg=3:=by omega
   simp only [a,b,if_true,if_false,true_and];by_cases d:pos c % 4=0
   .by_cases e:c.mc=15
    .simp only [d,e,and_self,and_true,if_true];rw [if_pos (show 3<=c.mg by omega)];rw [if_neg (by omega)];split <;> omega
    .simp only [d,e,and_self,and_true,and_false,if_true,if_false];rw [if_pos (show 3<=c.mg by omega)];rw [if_pos (show c.mc+1<16 by omega)];split <;> omega
   .simp only [d,and_false,false_and,if_false,a,if_true];split <;> omega
 .simp only [a,if_false,false_and,Int.lt_irrefl]
theorem mu_nn {c:Chip} (h:okZ c=true):0<=mu c/\mu c<=67:=by
 obtain ⟨⟨h0,h1⟩,g0,g1⟩:=okZ_m h;unfold mu;split <;> omega
theorem mu_go:∀ (n:Nat) {c:Chip},okZ c=true->mu (goC n c)=if (n:Int)<mu c then mu c-n else 0
 | 0,c,h=>by
  have:=mu_nn h;show mu c=_;split <;> omega
 | n+1,c,h=>by
  have e:=mu_go n (yij0 h);have:=mu_nn h;have s:=ytt2 h;show mu (goC n (stepC c))=_;rw [e,s];push_cast;by_cases a:0<mu c
  .rw [if_pos a];split <;> split <;> omega
  .rw [if_neg a];split <;> split <;> omega
theorem mc_go {n:Nat} {c:Chip} (h:okZ c=true) (hn:67<=n):(goC n c).mc=16:=by
 have e:=mu_go n h;have:=mu_nn h;rw [if_neg (by omega)] at e;obtain ⟨⟨h0,h1⟩,g0,g1⟩:=okZ_m (yra1 (n:=n) h);unfold mu at e;split at e
 .omega
 .omega
theorem yut2 {c:Chip} (h:okZ c=true):la (stepC c)=if 0<la c then la c-1 else 0:=by
 obtain ⟨p0,p1,_,_⟩:=yvf0 (okZ_C h);have ep:=yuk0 (okZ_C h);unfold la;rw [ytx0 (okZ_C h),ep];cases hl:c.late with
 | false=>cases eqI (pos c) 0 <;> simp [bc_true,bc_false]
 | true =>
  by_cases e:pos c=0
  .rw [ypa0.2 e,bc_true];simp;omega
  .rw [ycb0.2 e,bc_false];simp;omega
theorem la_nn {c:Chip} (h:okZ c=true):0<=la c/\la c<=228:=by
 unfold la;split <;> omega
theorem la_go:∀ (n:Nat) {c:Chip},okZ c=true->la (goC n c)=if (n:Int)<la c then la c-n else 0
 | 0,c,h=>by
  have:=la_nn h;show la c=_;split <;> omega
 | n+1,c,h=>by
  have e:=la_go n (yij0 h);have:=la_nn h;have s:=yut2 h;show la (goC n (stepC c))=_;rw [e,s];push_cast;by_cases a:0<la c
  .rw [if_pos a];split <;> split <;> omega
  .rw [if_neg a];split <;> split <;> omega
theorem yen2 {n:Nat} {c:Chip} (h:okZ c=true) (hn:228<=n):still (goC n c):=by
 refine ⟨?_,mc_go h (by omega)⟩;have e:=la_go n h;have:=la_nn h;have p:=yvf0 (okZ_C (yra1 (n:=n) h));rw [if_neg (by omega)] at e;unfold la at e;split at e
 .omega
 .rename_i hl;cases hb:(goC n c).late with
  | false=>rfl
  | true=>exact absurd hb hl
theorem ysa1 {c:Chip} (h:okZ c=true) (hs:still c):still (stepC c):=by
 obtain ⟨h1,h2⟩:=hs;refine ⟨?_,?_⟩
 .rw [ytx0 (okZ_C h),h1];cases eqI (pos c) 0 <;> rfl
 .rw [yrg1 h,h2,if_neg (by omega)]
theorem you1 {c:Chip} (h:okZ c=true) (hs:still c):sDark c.ba c.bs c.late=ltI (pos c) 68:=by
 have p:=yvf0 (okZ_C h);have:sLate c.ba c.bs c.late=false:=by unfold sLate;rw [hs.1];cases sBeg c.ba c.bs <;> rfl
 unfold sDark;rw [this,bc_false,ix_eq (okZ_C h),Bool.eq_iff_iff,yia0,yia0];omega
theorem ydc2 {c:Chip} (hs:still c) (k:Int):mAct c.mc c.mg k=false:=by
 unfold mAct;rw [hs.2];rfl
theorem yij1 {c:Chip} (h:okZ c=true) (hs:still c):(stepC c).t0=tkT (notB (ltI (pos c) 68)) c.r0.x4 c.t0/\(stepC c).t1=tkT (notB (ltI (pos c) 68)) c.r0.x5 c.t1/\(stepC c).t2=tkT (notB (ltI (pos c) 68)) c.r0.x4 c.t2/\(stepC c).t3=tkT (notB (ltI (pos c) 68)) c.r0.x5 c.t3/\(stepC c).t4=tkT (notB (ltI (pos c) 68)) 0 c.t4:=by
 have hd:=you1 h hs;have ha:=ydc2 hs (plc c.ba c.bs)
 have e:∀ x:Bool,bc (sDark c.ba c.bs c.late) (an (mAct c.mc c.mg (plc c.ba c.bs)) x) true=notB (ltI (pos c) 68):=fun x=>by
  rw [hd,ha,an_f rfl];rfl
 refine ⟨?_,?_,?_,?_,?_⟩
 .show tkT (bc (sDark c.ba c.bs c.late) (an (mAct c.mc c.mg (plc c.ba c.bs)) _) true) _ _=_;rw [e]
 .show tkT (bc (sDark c.ba c.bs c.late) (an (mAct c.mc c.mg (plc c.ba c.bs)) _) true) _ _=_;rw [e]
 .show tkT (bc (sDark c.ba c.bs c.late) (an (mAct c.mc c.mg (plc c.ba c.bs)) _) true) _ _=_;rw [e]
 .show tkT (bc (sDark c.ba c.bs c.late) (an (mAct c.mc c.mg (plc c.ba c.bs)) _) true) _ _=_;rw [e]
 .show tkT (bc (sDark c.ba c.bs c.late) (an (mAct c.mc c.mg (plc c.ba c.bs)) _) true) _ _=_;rw [e]
theorem ybm0 {t:Th} (h:okT t=true):0<=cnt t/\cnt t<160:=ycf2 (t:=t) (yla0.1 h).1
theorem ypu1 {q:Int} {t:Th} (h:okT t=true):cnt (tk1 q t)=(cnt t+1) % 160:=by
 obtain ⟨h1,h2⟩:=yla0.1 h;obtain ⟨m,m0,m1,ha,hs,_⟩:=ysh0 h1;obtain ⟨e1,e2⟩:=ygr1 m0 m1;have ec:cnt t=m:=by unfold cnt;rw [ha,hs,yla1 m0 m1]
 show plc (bc (ltI (t.a+1) 4) (t.a+1) 0) (bc (ltI (t.a+1) 4) t.s (bc (eqI t.s (st 39)) 0 (nx t.s)))=_;have:=yfr1 m0 m1;rw [ha,hs,e1,e2,yla1 this.1 this.2,ec,ygk2 m0 m1]
theorem yqu1 {c:Chip} {t:Th} {q:Int} (h:okZ c=true) (ht:okT t=true):(cnt (tkT (notB (ltI (pos c) 68)) q t)-seenN (pos (stepC c))) % 160=(cnt t-seenN (pos c)) % 160:=by
 obtain ⟨p0,p1,_,_⟩:=yvf0 (okZ_C h);have hc:=ybm0 ht;rw [yuk0 (okZ_C h)];unfold seenN;by_cases a:pos c<68
 .rw [yia0.2 a];show (cnt t-_) % 160=_;rw [if_pos a];split <;> omega
 .rw [yba0.2 (by omega)];show (cnt (tk1 q t)-_) % 160=_;rw [ypu1 ht,if_neg a];split <;> omega
theorem yjj1 {c:Chip} (h:okZ c=true):okT c.t0=true/\okT c.t1=true/\okT c.t2=true/\okT c.t3=true/\okT c.t4=true :=
 (yog0.1 (ygf0.1 (okZ_C h)).2.2.1).2.2
noncomputable def phis (c:Chip):Int × Int × Int × Int × Int:=(phi c c.t0,phi c c.t1,phi c c.t2,phi c c.t3,phi c c.t4)
theorem yec2 {c:Chip} (h:okZ c=true) (hs:still c):phis (stepC c)=phis c:=by
 obtain ⟨e0,e1,e2,e3,e4⟩:=yij1 h hs;obtain ⟨a0,a1,a2,a3,a4⟩:=yjj1 h;unfold phis phi;rw [e0,e1,e2,e3,e4,yqu1 h a0,yqu1 h a1,yqu1 h a2,yqu1 h a3,yqu1 h a4]
theorem ygf2:∀ (n:Nat) {c:Chip},okZ c=true->still c->phis (goC n c)=phis c
 | 0,_,_,_=>rfl
 | n+1,c,h,hs=>(ygf2 n (yij0 h) (ysa1 h hs)).trans (yec2 h hs)
theorem yru1:∀ (n:Nat) {c:Chip},okZ c=true->pos (goC n c)=(pos c+n) % 228
 | 0,c,h=>by
  have:=yvf0 (okZ_C h);show pos c=_;omega
 | n+1,c,h=>by
  show pos (goC n (stepC c))=_;rw [yru1 n (yij0 h),yuk0 (okZ_C h)];push_cast;omega
theorem ysu1 {c d:Chip} {t u:Th} (hp:pos d=pos c) (ht:okT t=true) (hu:okT u=true) (h:phi d u=phi c t):cnt u=cnt t:=by
 have a:=ybm0 ht;have b:=ybm0 hu;unfold phi at h;rw [hp] at h;omega
theorem ypw2 {c:Chip} (h:okZ c=true) (hs:still c):cnt (goC 456 c).t0=cnt c.t0/\cnt (goC 456 c).t1=cnt c.t1/\cnt (goC 456 c).t2=cnt c.t2/\cnt (goC 456 c).t3=cnt c.t3/\cnt (goC 456 c).t4=cnt c.t4:=by
 have p:=yru1 456 h;have q:=yvf0 (okZ_C h);have hp:pos (goC 456 c)=pos c:=by rw [p];omega
 have e:=ygf2 456 h hs;unfold phis at e;obtain ⟨a0,a1,a2,a3,a4⟩:=yjj1 h;obtain ⟨b0,b1,b2,b3,b4⟩:=yjj1 (yra1 (n:=456) h);injection e with e0 e;injection e with e1 e;injection e with e2 e;injection e with e3 e4;exact ⟨ysu1 hp a0 b0 e0,ysu1 hp a1 b1 e1,ysu1 hp a2 b2 e2,ysu1 hp a3 b3 e3,ysu1 hp a4 b4 e4⟩
theorem ypj0 {c:Chip} {addr v:Int} (hv:inR v 256=true) (h:okZ c=true):okZ (yvb0 addr v c)=true:=by
 obtain ⟨⟨h0,h1⟩,g0,g1⟩:=okZ_m h;unfold okZ;rw [yla0,yla0,yga0,yga0];exact ⟨yqg1 hv (okZ_Q h),rgP (P:=fun x=>0<=x/\x<17) (by decide) ⟨h0,h1⟩,rgP (P:=fun x=>0<=x/\x<4) (by decide) ⟨g0,g1⟩⟩
theorem yqw2 {c:Chip} {n v:Int} (hv:inR v 256=true) (h:okZ c=true):okZ (inC n v c)=true:=by
 unfold okZ;rw [yla0];exact ⟨yct2 hv (okZ_Q h),(yla0.1 h).2⟩
theorem yvt2 {k:Int} (h:inR k 228=true):okZ (newC k)=true:=by
 unfold okZ;rw [yla0];exact ⟨yef2 h,rfl⟩
end S
namespace S
theorem yva0 {w n:Int} : rng w n=true↔0<=w/\w<=n:=by
 unfold rng;rw [yla0,yua0,yua0,yba0,yba0]
theorem rng_l {w n:Int} (h:ltI w 0=true):rng w n=false:=by unfold rng;rw [h];rfl
theorem rng_h {w n:Int} (h:ltI n w=true):rng w n=false:=by unfold rng;rw [h];cases ltI w 0 <;> rfl
theorem rng_t {w n:Int} (h:ltI w 0=false) (h2:ltI n w=false):rng w n=true:=by unfold rng;rw [h,h2];rfl
theorem an_f2 (a:Bool):an a false=false:=by cases a <;> rfl
end S
def yth0 (b:Bool) (a d l n s:Int) (w0 w1:Int) (r:Prop):Prop :=
 bc (S.sOkB w0 w1) 0 (6:Int)=6/\(0:Nat)=0/\(0:Nat)=0/\bc (S.sOkB w0 w1) (eqI w1 1) b=b/\bc (S.sOkB w0 w1) (w0 % 4) a=a/\d=d/\bc (S.sOkB w0 w1) (S.st (w0 / 4)) s=s/\(6:Int)=6/\(1:Int)=1/\r
def yon0 (b:Bool) (a d l n s:Int) (w0 w1:Int) (r:Prop):Prop :=
 bc (S.sOkB w0 w1) 0 (6:Int)=(0:Int)/\(0:Nat)=0/\(0:Nat)=0/\bc (S.sOkB w0 w1) (eqI w1 1) b=eqI w1 1/\bc (S.sOkB w0 w1) (w0 % 4) a=bc (S.inR (Int.tmod w0 4) d) (Int.tmod w0 4) a/\d=d/\bc (S.sOkB w0 w1) (S.st (w0 / 4)) s=bc (S.inR (wrapK .i64 (Int.tdiv w0 4)) n) (S.st (wrapK .i64 (Int.tdiv w0 4))) s/\(6:Int)=6/\(1:Int)=1/\r
theorem yfc2 (b:Bool) (a d l n s:Int) (w0 w1:Int):K.bodyF (ykq1) (K.runF (ykq1) 30) 80 [.ptr 0 0,.agg [.int .i64 w0,.int .i64 w1]] (Heap.of (yke2 b a d l n s w0 w1)) Hint.auto (K.endC K.openE 4 (yjq1 b a d l n s w0 w1)) =
  (bc (notB (ltI w0 0)) (bc (notB (notB (ltI 227 w0))) (yth0 b a d l n s w0 w1 True) (bc (notB (ltI w1 0)) (bc (notB (notB (ltI 1 w1))) (yth0 b a d l n s w0 w1 True) (bc (ltI n 64) (yon0 b a d l n s w0 w1 True) False)) (yth0 b a d l n s w0 w1 True))) (yth0 b a d l n s w0 w1 True)):=by kernel_rfl
theorem ygc2 (b:Bool) (a d l n s:Int) (w0 w1:Int) (h0:S.okBm a s d l n=true)  : HTr Tryz.prog 80 [.ptr 0 0,.agg [.int .i64 w0,.int .i64 w1]] (yke2 b a d l n s w0 w1) (yjq1 b a d l n s w0 w1):=by
 refine K.yca0 good (A:=ykq1) (yha0 ?_) K.yea0 (k:=30) (cast (yfc2 b a d l n s w0 w1).symm ?_)
 .intro p hp;simp only [List.mem_cons,List.not_mem_nil,or_false] at hp;rcases hp with rfl | rfl;exact ybg1;exact ycg1
 .obtain ⟨ha,hs,rfl,rfl,rfl,hx0,hx1⟩:=S.yng0 h0;cases hl_w0:ltI w0 0 with
  | true =>
   have r:=S.rng_l (n:=227) hl_w0;simp only [yth0,yon0,S.sOkB,r,S.an_f2,S.an_f rfl,yra0,yqa0,bc_true,bc_false,and_self]
  | false =>
  cases hh_w0:ltI 227 w0 with
  | true =>
   have r:=S.rng_h hh_w0;simp only [yth0,yon0,S.sOkB,r,S.an_f2,S.an_f rfl,yra0,yqa0,bc_true,bc_false,and_self]
  | false =>
  have r_w0:=S.rng_t hl_w0 hh_w0;cases hl_w1:ltI w1 0 with
  | true =>
   have r:=S.rng_l (n:=1) hl_w1;simp only [yth0,yon0,S.sOkB,r,S.an_f2,S.an_f rfl,yra0,yqa0,bc_true,bc_false,and_self]
  | false =>
  cases hh_w1:ltI 1 w1 with
  | true =>
   have r:=S.rng_h hh_w1;simp only [yth0,yon0,S.sOkB,r,S.an_f2,S.an_f rfl,yra0,yqa0,bc_true,bc_false,and_self]
  | false =>
  have r_w1:=S.rng_t hl_w1 hh_w1;have a:=S.yva0.1 r_w0;have e1:Int.tmod w0 4=w0 % 4:=Int.tmod_eq_emod_of_nonneg a.1;have e2:wrapK .i64 (Int.tdiv w0 4)=w0 / 4:=by rw [Int.tdiv_eq_ediv_of_nonneg a.1,yja0];omega
  have e3:S.inR (w0 % 4) 4=true:=S.yga0.2 (by omega);have e4:S.inR (w0 / 4) 57=true:=S.yga0.2 (by omega);have e5:ltI 57 64=true:=rfl;simp only [yth0,yon0,S.sOkB,r_w0,r_w1,S.an,e1,e2,e3,e4,e5,yra0,yqa0,bc_true,bc_false,and_self]
theorem yfn2:ysj2.ok Tryz.prog 80:=by
 intro xs os b r h h3;unfold ysj2 at h;simp only at h;split at h
 .injection h with h;injection h with h1 h2;subst h1;subst h2;exact ygc2 _ _ _ _ _ _ _ _ h3
 .cases h
def ywf0 (mc mg mm w0 w1 w2:Int) (r:Prop):Prop :=
 bc (S.sOkM w0 w1 w2) 0 (6:Int)=6/\bc (S.sOkM w0 w1 w2) w0 mc=mc/\bc (S.sOkM w0 w1 w2) w1 mg=mg/\bc (S.sOkM w0 w1 w2) w2 mm=mm/\r
def ycm0 (mc mg mm w0 w1 w2:Int) (r:Prop):Prop :=
 bc (S.sOkM w0 w1 w2) 0 (6:Int)=(0:Int)/\bc (S.sOkM w0 w1 w2) w0 mc=w0/\bc (S.sOkM w0 w1 w2) w1 mg=w1/\bc (S.sOkM w0 w1 w2) w2 mm=wrapK .u8 w2/\r
theorem ygn2 (mc mg mm w0 w1 w2:Int):K.bodyF (envL []) (K.runF (envL []) 30) 82 [.ptr 0 0,.agg [.int .i64 w0,.int .i64 w1,.int .i64 w2]] (Heap.of [.cells 176 .exact [.int .i64 mc,.int .i64 mg,.int .u8 mm]]) Hint.auto (K.endC K.openE 1 (yqj2 mc mg mm w0 w1 w2)) =
  (bc (ltI w0 0) (ywf0 mc mg mm w0 w1 w2 True) (bc (ltI 16 w0) (ywf0 mc mg mm w0 w1 w2 True) (bc (ltI w1 0) (ywf0 mc mg mm w0 w1 w2 True) (bc (ltI 3 w1) (ywf0 mc mg mm w0 w1 w2 True) (bc (ltI w2 0) (ywf0 mc mg mm w0 w1 w2 True) (bc (ltI 31 w2) (ywf0 mc mg mm w0 w1 w2 True) (bc (eqI w0 16) (bc (notB (eqI w1 0)) (ywf0 mc mg mm w0 w1 w2 True) (bc (notB (eqI w2 0)) (ywf0 mc mg mm w0 w1 w2 True) (ycm0 mc mg mm w0 w1 w2 True))) (ycm0 mc mg mm w0 w1 w2 True)))))))):=by kernel_rfl
theorem yhn2 (mc mg mm w0 w1 w2:Int)  : HTr Tryz.prog 82 [.ptr 0 0,.agg [.int .i64 w0,.int .i64 w1,.int .i64 w2]] [.cells 176 .exact [.int .i64 mc,.int .i64 mg,.int .u8 mm]] (yqj2 mc mg mm w0 w1 w2):=by
 refine K.yca0 good (A:=envL []) (yha0 ?_) K.yea0 (k:=30) (cast (ygn2 mc mg mm w0 w1 w2).symm ?_)
 .intro p hp;cases hp
 .cases hl_w0:ltI w0 0 with
  | true =>
   have r:=S.rng_l (n:=16) hl_w0;simp only [ywf0,ycm0,S.sOkM,r,S.an_f2,S.an_f rfl,bc_true,bc_false,and_self]
  | false =>
  cases hh_w0:ltI 16 w0 with
  | true =>
   have r:=S.rng_h hh_w0;simp only [ywf0,ycm0,S.sOkM,r,S.an_f2,S.an_f rfl,bc_true,bc_false,and_self]
  | false =>
  have r_w0:=S.rng_t hl_w0 hh_w0;cases hl_w1:ltI w1 0 with
  | true =>
   have r:=S.rng_l (n:=3) hl_w1;simp only [ywf0,ycm0,S.sOkM,r,S.an_f2,S.an_f rfl,bc_true,bc_false,and_self]
  | false =>
  cases hh_w1:ltI 3 w1 with
  | true =>
   have r:=S.rng_h hh_w1;simp only [ywf0,ycm0,S.sOkM,r,S.an_f2,S.an_f rfl,bc_true,bc_false,and_self]
  | false =>
  have r_w1:=S.rng_t hl_w1 hh_w1;cases hl_w2:ltI w2 0 with
  | true =>
   have r:=S.rng_l (n:=31) hl_w2;simp only [ywf0,ycm0,S.sOkM,r,S.an_f2,S.an_f rfl,bc_true,bc_false,and_self]
  | false =>
  cases hh_w2:ltI 31 w2 with
  | true =>
   have r:=S.rng_h hh_w2;simp only [ywf0,ycm0,S.sOkM,r,S.an_f2,S.an_f rfl,bc_true,bc_false,and_self]
  | false =>
  have r_w2:=S.rng_t hl_w2 hh_w2;have a2:=S.yva0.1 r_w2;have e2:wrapK .u8 w2=w2:=by rw [ywc0];omega
  simp only [ywf0,ycm0,S.sOkM,r_w0,r_w1,r_w2,e2,S.an,bc_true,bc_false];cases eqI w0 16 <;> cases eqI w1 0 <;> cases eqI w2 0 <;> simp only [S.orb,S.an,yra0,yqa0,bc_true,bc_false,and_self]
theorem ywt2:xMotE.ok Tryz.prog 82:=by
 intro xs os b r h h3;unfold xMotE at h;simp only at h;split at h
 .injection h with h;injection h with h1 h2;subst h1;subst h2;exact yhn2 _ _ _ _ _ _
 .cases h
def ymd0 (ykx2 I yox2 f4 f5 f9 count:Int) (high:Bool) (w0 w1 w2 w3 w4 w5 w6 w7:Int) (r:Prop):Prop :=
 bc (S.sOkV w0 w1 w2 w3 w4 w5 w6 w7) 0 (6:Int)=6/\bc (S.sOkV w0 w1 w2 w3 w4 w5 w6 w7) w0 ykx2=ykx2/\bc (S.sOkV w0 w1 w2 w3 w4 w5 w6 w7) w1 I=I/\bc (S.sOkV w0 w1 w2 w3 w4 w5 w6 w7) w2 yox2=yox2/\(0:Nat)=0/\(0:Nat)=0/\(0:Nat)=0/\bc (S.sOkV w0 w1 w2 w3 w4 w5 w6 w7) w6 count=count/\bc (S.sOkV w0 w1 w2 w3 w4 w5 w6 w7) (eqI w7 1) high=high/\bc (S.sOkV w0 w1 w2 w3 w4 w5 w6 w7) w3 f4=f4/\(4:Int)=4/\(1:Int)=1/\bc (S.sOkV w0 w1 w2 w3 w4 w5 w6 w7) w4 f5=f5/\(5:Int)=5/\(2:Int)=2/\bc (S.sOkV w0 w1 w2 w3 w4 w5 w6 w7) w5 f9=f9/\(9:Int)=9/\(4:Int)=4/\r
def yuh0 (ykx2 I yox2 f4 f5 f9 count:Int) (high:Bool) (w0 w1 w2 w3 w4 w5 w6 w7:Int) (r:Prop):Prop :=
 bc (S.sOkV w0 w1 w2 w3 w4 w5 w6 w7) 0 (6:Int)=(0:Int)/\bc (S.sOkV w0 w1 w2 w3 w4 w5 w6 w7) w0 ykx2=wrapK .u8 w0/\bc (S.sOkV w0 w1 w2 w3 w4 w5 w6 w7) w1 I=wrapK .u8 w1/\bc (S.sOkV w0 w1 w2 w3 w4 w5 w6 w7) w2 yox2=wrapK .u8 w2/\(0:Nat)=0/\(0:Nat)=0/\(0:Nat)=0/\bc (S.sOkV w0 w1 w2 w3 w4 w5 w6 w7) w6 count=w6/\bc (S.sOkV w0 w1 w2 w3 w4 w5 w6 w7) (eqI w7 1) high=eqI w7 1/\bc (S.sOkV w0 w1 w2 w3 w4 w5 w6 w7) w3 f4=f4/\(4:Int)=4/\(1:Int)=1/\bc (S.sOkV w0 w1 w2 w3 w4 w5 w6 w7) w4 f5=f5/\(5:Int)=5/\(2:Int)=2/\bc (S.sOkV w0 w1 w2 w3 w4 w5 w6 w7) w5 f9=f9/\(9:Int)=9/\(4:Int)=4/\r
def yvh0 (ykx2 I yox2 f4 f5 f9 count:Int) (high:Bool) (w0 w1 w2 w3 w4 w5 w6 w7:Int) (r:Prop):Prop :=
 bc (S.sOkV w0 w1 w2 w3 w4 w5 w6 w7) 0 (6:Int)=(0:Int)/\bc (S.sOkV w0 w1 w2 w3 w4 w5 w6 w7) w0 ykx2=wrapK .u8 w0/\bc (S.sOkV w0 w1 w2 w3 w4 w5 w6 w7) w1 I=wrapK .u8 w1/\bc (S.sOkV w0 w1 w2 w3 w4 w5 w6 w7) w2 yox2=wrapK .u8 w2/\(0:Nat)=0/\(0:Nat)=0/\(0:Nat)=0/\bc (S.sOkV w0 w1 w2 w3 w4 w5 w6 w7) w6 count=w6/\bc (S.sOkV w0 w1 w2 w3 w4 w5 w6 w7) (eqI w7 1) high=eqI w7 1/\bc (S.sOkV w0 w1 w2 w3 w4 w5 w6 w7) w3 f4=f4/\(4:Int)=4/\(1:Int)=1/\bc (S.sOkV w0 w1 w2 w3 w4 w5 w6 w7) w4 f5=f5/\(5:Int)=5/\(2:Int)=2/\bc (S.sOkV w0 w1 w2 w3 w4 w5 w6 w7) w5 f9=wrapK .u16 w5/\(9:Int)=9/\(4:Int)=4/\r
def ywh0 (ykx2 I yox2 f4 f5 f9 count:Int) (high:Bool) (w0 w1 w2 w3 w4 w5 w6 w7:Int) (r:Prop):Prop :=
 bc (S.sOkV w0 w1 w2 w3 w4 w5 w6 w7) 0 (6:Int)=(0:Int)/\bc (S.sOkV w0 w1 w2 w3 w4 w5 w6 w7) w0 ykx2=wrapK .u8 w0/\bc (S.sOkV w0 w1 w2 w3 w4 w5 w6 w7) w1 I=wrapK .u8 w1/\bc (S.sOkV w0 w1 w2 w3 w4 w5 w6 w7) w2 yox2=wrapK .u8 w2/\(0:Nat)=0/\(0:Nat)=0/\(0:Nat)=0/\bc (S.sOkV w0 w1 w2 w3 w4 w5 w6 w7) w6 count=w6/\bc (S.sOkV w0 w1 w2 w3 w4 w5 w6 w7) (eqI w7 1) high=eqI w7 1/\bc (S.sOkV w0 w1 w2 w3 w4 w5 w6 w7) w3 f4=f4/\(4:Int)=4/\(1:Int)=1/\bc (S.sOkV w0 w1 w2 w3 w4 w5 w6 w7) w4 f5=wrapK .u8 w4/\(5:Int)=5/\(2:Int)=2/\bc (S.sOkV w0 w1 w2 w3 w4 w5 w6 w7) w5 f9=f9/\(9:Int)=9/\(4:Int)=4/\r
def yxh0 (ykx2 I yox2 f4 f5 f9 count:Int) (high:Bool) (w0 w1 w2 w3 w4 w5 w6 w7:Int) (r:Prop):Prop :=
 bc (S.sOkV w0 w1 w2 w3 w4 w5 w6 w7) 0 (6:Int)=(0:Int)/\bc (S.sOkV w0 w1 w2 w3 w4 w5 w6 w7) w0 ykx2=wrapK .u8 w0/\bc (S.sOkV w0 w1 w2 w3 w4 w5 w6 w7) w1 I=wrapK .u8 w1/\bc (S.sOkV w0 w1 w2 w3 w4 w5 w6 w7) w2 yox2=wrapK .u8 w2/\(0:Nat)=0/\(0:Nat)=0/\(0:Nat)=0/\bc (S.sOkV w0 w1 w2 w3 w4 w5 w6 w7) w6 count=w6/\bc (S.sOkV w0 w1 w2 w3 w4 w5 w6 w7) (eqI w7 1) high=eqI w7 1/\bc (S.sOkV w0 w1 w2 w3 w4 w5 w6 w7) w3 f4=f4/\(4:Int)=4/\(1:Int)=1/\bc (S.sOkV w0 w1 w2 w3 w4 w5 w6 w7) w4 f5=wrapK .u8 w4/\(5:Int)=5/\(2:Int)=2/\bc (S.sOkV w0 w1 w2 w3 w4 w5 w6 w7) w5 f9=wrapK .u16 w5/\(9:Int)=9/\(4:Int)=4/\r
def yyh0 (ykx2 I yox2 f4 f5 f9 count:Int) (high:Bool) (w0 w1 w2 w3 w4 w5 w6 w7:Int) (r:Prop):Prop :=
 bc (S.sOkV w0 w1 w2 w3 w4 w5 w6 w7) 0 (6:Int)=(0:Int)/\bc (S.sOkV w0 w1 w2 w3 w4 w5 w6 w7) w0 ykx2=wrapK .u8 w0/\bc (S.sOkV w0 w1 w2 w3 w4 w5 w6 w7) w1 I=wrapK .u8 w1/\bc (S.sOkV w0 w1 w2 w3 w4 w5 w6 w7) w2 yox2=wrapK .u8 w2/\(0:Nat)=0/\(0:Nat)=0/\(0:Nat)=0/\bc (S.sOkV w0 w1 w2 w3 w4 w5 w6 w7) w6 count=w6/\bc (S.sOkV w0 w1 w2 w3 w4 w5 w6 w7) (eqI w7 1) high=eqI w7 1/\bc (S.sOkV w0 w1 w2 w3 w4 w5 w6 w7) w3 f4=wrapK .u8 w3/\(4:Int)=4/\(1:Int)=1/\bc (S.sOkV w0 w1 w2 w3 w4 w5 w6 w7) w4 f5=f5/\(5:Int)=5/\(2:Int)=2/\bc (S.sOkV w0 w1 w2 w3 w4 w5 w6 w7) w5 f9=f9/\(9:Int)=9/\(4:Int)=4/\r
def yzh0 (ykx2 I yox2 f4 f5 f9 count:Int) (high:Bool) (w0 w1 w2 w3 w4 w5 w6 w7:Int) (r:Prop):Prop :=
 bc (S.sOkV w0 w1 w2 w3 w4 w5 w6 w7) 0 (6:Int)=(0:Int)/\bc (S.sOkV w0 w1 w2 w3 w4 w5 w6 w7) w0 ykx2=wrapK .u8 w0/\bc (S.sOkV w0 w1 w2 w3 w4 w5 w6 w7) w1 I=wrapK .u8 w1/\bc (S.sOkV w0 w1 w2 w3 w4 w5 w6 w7) w2 yox2=wrapK .u8 w2/\(0:Nat)=0/\(0:Nat)=0/\(0:Nat)=0/\bc (S.sOkV w0 w1 w2 w3 w4 w5 w6 w7) w6 count=w6/\bc (S.sOkV w0 w1 w2 w3 w4 w5 w6 w7) (eqI w7 1) high=eqI w7 1/\bc (S.sOkV w0 w1 w2 w3 w4 w5 w6 w7) w3 f4=wrapK .u8 w3/\(4:Int)=4/\(1:Int)=1/\bc (S.sOkV w0 w1 w2 w3 w4 w5 w6 w7) w4 f5=f5/\(5:Int)=5/\(2:Int)=2/\bc (S.sOkV w0 w1 w2 w3 w4 w5 w6 w7) w5 f9=wrapK .u16 w5/\(9:Int)=9/\(4:Int)=4/\r
def yai0 (ykx2 I yox2 f4 f5 f9 count:Int) (high:Bool) (w0 w1 w2 w3 w4 w5 w6 w7:Int) (r:Prop):Prop :=
 bc (S.sOkV w0 w1 w2 w3 w4 w5 w6 w7) 0 (6:Int)=(0:Int)/\bc (S.sOkV w0 w1 w2 w3 w4 w5 w6 w7) w0 ykx2=wrapK .u8 w0/\bc (S.sOkV w0 w1 w2 w3 w4 w5 w6 w7) w1 I=wrapK .u8 w1/\bc (S.sOkV w0 w1 w2 w3 w4 w5 w6 w7) w2 yox2=wrapK .u8 w2/\(0:Nat)=0/\(0:Nat)=0/\(0:Nat)=0/\bc (S.sOkV w0 w1 w2 w3 w4 w5 w6 w7) w6 count=w6/\bc (S.sOkV w0 w1 w2 w3 w4 w5 w6 w7) (eqI w7 1) high=eqI w7 1/\bc (S.sOkV w0 w1 w2 w3 w4 w5 w6 w7) w3 f4=wrapK .u8 w3/\(4:Int)=4/\(1:Int)=1/\bc (S.sOkV w0 w1 w2 w3 w4 w5 w6 w7) w4 f5=wrapK .u8 w4/\(5:Int)=5/\(2:Int)=2/\bc (S.sOkV w0 w1 w2 w3 w4 w5 w6 w7) w5 f9=f9/\(9:Int)=9/\(4:Int)=4/\r
def ybi0 (ykx2 I yox2 f4 f5 f9 count:Int) (high:Bool) (w0 w1 w2 w3 w4 w5 w6 w7:Int) (r:Prop):Prop :=
 bc (S.sOkV w0 w1 w2 w3 w4 w5 w6 w7) 0 (6:Int)=(0:Int)/\bc (S.sOkV w0 w1 w2 w3 w4 w5 w6 w7) w0 ykx2=wrapK .u8 w0/\bc (S.sOkV w0 w1 w2 w3 w4 w5 w6 w7) w1 I=wrapK .u8 w1/\bc (S.sOkV w0 w1 w2 w3 w4 w5 w6 w7) w2 yox2=wrapK .u8 w2/\(0:Nat)=0/\(0:Nat)=0/\(0:Nat)=0/\bc (S.sOkV w0 w1 w2 w3 w4 w5 w6 w7) w6 count=w6/\bc (S.sOkV w0 w1 w2 w3 w4 w5 w6 w7) (eqI w7 1) high=eqI w7 1/\bc (S.sOkV w0 w1 w2 w3 w4 w5 w6 w7) w3 f4=wrapK .u8 w3/\(4:Int)=4/\(1:Int)=1/\bc (S.sOkV w0 w1 w2 w3 w4 w5 w6 w7) w4 f5=wrapK .u8 w4/\(5:Int)=5/\(2:Int)=2/\bc (S.sOkV w0 w1 w2 w3 w4 w5 w6 w7) w5 f9=wrapK .u16 w5/\(9:Int)=9/\(4:Int)=4/\r
theorem yxt2 (ykx2 I yox2 f4 f5 f9 count:Int) (high:Bool) (w0 w1 w2 w3 w4 w5 w6 w7:Int):K.bodyF (envL []) (K.runF (envL []) 30) 84 [.ptr 0 0,.agg [.int .i64 w0,.int .i64 w1,.int .i64 w2,.int .i64 w3,.int .i64 w4,.int .i64 w5,.int .i64 w6,.int .i64 w7]] (Heap.of (xVoOz ykx2 I yox2 f4 f5 f9 count high w0 w1 w2 w3 w4 w5 w6 w7)) Hint.auto (K.endC K.openE 4 (xVoRz ykx2 I yox2 f4 f5 f9 count high w0 w1 w2 w3 w4 w5 w6 w7)) =
  (bc (ltI w0 0) (ymd0 ykx2 I yox2 f4 f5 f9 count high w0 w1 w2 w3 w4 w5 w6 w7 True) (bc (ltI 15 w0) (ymd0 ykx2 I yox2 f4 f5 f9 count high w0 w1 w2 w3 w4 w5 w6 w7 True) (bc (ltI w1 0) (ymd0 ykx2 I yox2 f4 f5 f9 count high w0 w1 w2 w3 w4 w5 w6 w7 True) (bc (ltI 31 w1) (ymd0 ykx2 I yox2 f4 f5 f9 count high w0 w1 w2 w3 w4 w5 w6 w7 True) (bc (ltI w2 0) (ymd0 ykx2 I yox2 f4 f5 f9 count high w0 w1 w2 w3 w4 w5 w6 w7 True) (bc (ltI 15 w2) (ymd0 ykx2 I yox2 f4 f5 f9 count high w0 w1 w2 w3 w4 w5 w6 w7 True) (bc (ltI w3 0) (ymd0 ykx2 I yox2 f4 f5 f9 count high w0 w1 w2 w3 w4 w5 w6 w7 True) (bc (ltI 15 w3) (ymd0 ykx2 I yox2 f4 f5 f9 count high w0 w1 w2 w3 w4 w5 w6 w7 True) (bc (ltI w4 0) (ymd0 ykx2 I yox2 f4 f5 f9 count high w0 w1 w2 w3 w4 w5 w6 w7 True) (bc (ltI 31 w4) (ymd0 ykx2 I yox2 f4 f5 f9 count high w0 w1 w2 w3 w4 w5 w6 w7 True) (bc (ltI w5 0) (ymd0 ykx2 I yox2 f4 f5 f9 count high w0 w1 w2 w3 w4 w5 w6 w7 True) (bc (ltI 511 w5) (ymd0 ykx2 I yox2 f4 f5 f9 count high w0 w1 w2 w3 w4 w5 w6 w7 True) (bc (ltI w6 0) (ymd0 ykx2 I yox2 f4 f5 f9 count high w0 w1 w2 w3 w4 w5 w6 w7 True) (bc (ltI 95 w6) (ymd0 ykx2 I yox2 f4 f5 f9 count high w0 w1 w2 w3 w4 w5 w6 w7 True) (bc (ltI w7 0) (ymd0 ykx2 I yox2 f4 f5 f9 count high w0 w1 w2 w3 w4 w5 w6 w7 True) (bc (ltI 1 w7) (ymd0 ykx2 I yox2 f4 f5 f9 count high w0 w1 w2 w3 w4 w5 w6 w7 True) (bc (notB (eqI (Int.fdiv (wrapK .i64 (wrapK .u8 w3)) (2 ^ 4)) 0)) (bc (notB (eqI (Int.fdiv (wrapK .i64 (wrapK .u8 w4)) (2 ^ 5)) 0)) (bc (notB (eqI (Int.fdiv (wrapK .i64 (wrapK .u16 w5)) (2 ^ 9)) 0)) (yuh0 ykx2 I yox2 f4 f5 f9 count high w0 w1 w2 w3 w4 w5 w6 w7 True) (yvh0 ykx2 I yox2 f4 f5 f9 count high w0 w1 w2 w3 w4 w5 w6 w7 True)) (bc (notB (eqI (Int.fdiv (wrapK .i64 (wrapK .u16 w5)) (2 ^ 9)) 0)) (ywh0 ykx2 I yox2 f4 f5 f9 count high w0 w1 w2 w3 w4 w5 w6 w7 True) (yxh0 ykx2 I yox2 f4 f5 f9 count high w0 w1 w2 w3 w4 w5 w6 w7 True))) (bc (notB (eqI (Int.fdiv (wrapK .i64 (wrapK .u8 w4)) (2 ^ 5)) 0)) (bc (notB (eqI (Int.fdiv (wrapK .i64 (wrapK .u16 w5)) (2 ^ 9)) 0)) (yyh0 ykx2 I yox2 f4 f5 f9 count high w0 w1 w2 w3 w4 w5 w6 w7 True) (yzh0 ykx2 I yox2 f4 f5 f9 count high w0 w1 w2 w3 w4 w5 w6 w7 True)) (bc (notB (eqI (Int.fdiv (wrapK .i64 (wrapK .u16 w5)) (2 ^ 9)) 0)) (yai0 ykx2 I yox2 f4 f5 f9 count high w0 w1 w2 w3 w4 w5 w6 w7 True) (ybi0 ykx2 I yox2 f4 f5 f9 count high w0 w1 w2 w3 w4 w5 w6 w7 True)))))))))))))))))))):=by kernel_rfl
theorem yyt2 (ykx2 I yox2 f4 f5 f9 count:Int) (high:Bool) (w0 w1 w2 w3 w4 w5 w6 w7:Int)  : HTr Tryz.prog 84 [.ptr 0 0,.agg [.int .i64 w0,.int .i64 w1,.int .i64 w2,.int .i64 w3,.int .i64 w4,.int .i64 w5,.int .i64 w6,.int .i64 w7]] (xVoOz ykx2 I yox2 f4 f5 f9 count high w0 w1 w2 w3 w4 w5 w6 w7) (xVoRz ykx2 I yox2 f4 f5 f9 count high w0 w1 w2 w3 w4 w5 w6 w7):=by
 refine K.yca0 good (A:=envL []) (yha0 ?_) K.yea0 (k:=30) (cast (yxt2 ykx2 I yox2 f4 f5 f9 count high w0 w1 w2 w3 w4 w5 w6 w7).symm ?_)
 .intro p hp;cases hp
 .cases hl_w0:ltI w0 0 with
  | true =>
   have r:=S.rng_l (n:=15) hl_w0;simp only [ymd0,yuh0,yvh0,ywh0,yxh0,yyh0,yzh0,yai0,ybi0,S.sOkV,r, S.an_f2,S.an_f rfl,bc_true,bc_false,and_self]
  | false =>
  cases hh_w0:ltI 15 w0 with
  | true =>
   have r:=S.rng_h hh_w0;simp only [ymd0,yuh0,yvh0,ywh0,yxh0,yyh0,yzh0,yai0,ybi0,S.sOkV,r, S.an_f2,S.an_f rfl,bc_true,bc_false,and_self]
  | false =>
  have r_w0:=S.rng_t hl_w0 hh_w0;simp only [bc_false];cases hl_w1:ltI w1 0 with
  | true =>
   have r:=S.rng_l (n:=31) hl_w1;simp only [ymd0,yuh0,yvh0,ywh0,yxh0,yyh0,yzh0,yai0,ybi0,S.sOkV,r, S.an_f2,S.an_f rfl,bc_true,bc_false,and_self]
  | false =>
  cases hh_w1:ltI 31 w1 with
  | true =>
   have r:=S.rng_h hh_w1;simp only [ymd0,yuh0,yvh0,ywh0,yxh0,yyh0,yzh0,yai0,ybi0,S.sOkV,r, S.an_f2,S.an_f rfl,bc_true,bc_false,and_self]
  | false =>
  have r_w1:=S.rng_t hl_w1 hh_w1;simp only [bc_false];cases hl_w2:ltI w2 0 with
  | true =>
   have r:=S.rng_l (n:=15) hl_w2;simp only [ymd0,yuh0,yvh0,ywh0,yxh0,yyh0,yzh0,yai0,ybi0,S.sOkV,r, S.an_f2,S.an_f rfl,bc_true,bc_false,and_self]
  | false =>
  cases hh_w2:ltI 15 w2 with
  | true =>
   have r:=S.rng_h hh_w2;simp only [ymd0,yuh0,yvh0,ywh0,yxh0,yyh0,yzh0,yai0,ybi0,S.sOkV,r, S.an_f2,S.an_f rfl,bc_true,bc_false,and_self]
  | false =>
  have r_w2:=S.rng_t hl_w2 hh_w2;simp only [bc_false];cases hl_w3:ltI w3 0 with
  | true =>
   have r:=S.rng_l (n:=15) hl_w3;simp only [ymd0,yuh0,yvh0,ywh0,yxh0,yyh0,yzh0,yai0,ybi0,S.sOkV,r, S.an_f2,S.an_f rfl,bc_true,bc_false,and_self]
  | false =>
  cases hh_w3:ltI 15 w3 with
  | true =>
   have r:=S.rng_h hh_w3;simp only [ymd0,yuh0,yvh0,ywh0,yxh0,yyh0,yzh0,yai0,ybi0,S.sOkV,r, S.an_f2,S.an_f rfl,bc_true,bc_false,and_self]
  | false =>
  have r_w3:=S.rng_t hl_w3 hh_w3;simp only [bc_false];cases hl_w4:ltI w4 0 with
  | true =>
   have r:=S.rng_l (n:=31) hl_w4;simp only [ymd0,yuh0,yvh0,ywh0,yxh0,yyh0,yzh0,yai0,ybi0,S.sOkV,r, S.an_f2,S.an_f rfl,bc_true,bc_false,and_self]
  | false =>
  cases hh_w4:ltI 31 w4 with
  | true =>
   have r:=S.rng_h hh_w4;simp only [ymd0,yuh0,yvh0,ywh0,yxh0,yyh0,yzh0,yai0,ybi0,S.sOkV,r, S.an_f2,S.an_f rfl,bc_true,bc_false,and_self]
  | false =>
  have r_w4:=S.rng_t hl_w4 hh_w4;simp only [bc_false];cases hl_w5:ltI w5 0 with
  | true =>
   have r:=S.rng_l (n:=511) hl_w5;simp only [ymd0,yuh0,yvh0,ywh0,yxh0,yyh0,yzh0,yai0,ybi0,S.sOkV,r, S.an_f2,S.an_f rfl,bc_true,bc_false,and_self]
  | false =>
  cases hh_w5:ltI 511 w5 with
  | true =>
   have r:=S.rng_h hh_w5;simp only [ymd0,yuh0,yvh0,ywh0,yxh0,yyh0,yzh0,yai0,ybi0,S.sOkV,r, S.an_f2,S.an_f rfl,bc_true,bc_false,and_self]
  | false =>
  have r_w5:=S.rng_t hl_w5 hh_w5;simp only [bc_false];cases hl_w6:ltI w6 0 with
  | true =>
   have r:=S.rng_l (n:=95) hl_w6;simp only [ymd0,yuh0,yvh0,ywh0,yxh0,yyh0,yzh0,yai0,ybi0,S.sOkV,r, S.an_f2,S.an_f rfl,bc_true,bc_false,and_self]
  | false =>
  cases hh_w6:ltI 95 w6 with
  | true =>
   have r:=S.rng_h hh_w6;simp only [ymd0,yuh0,yvh0,ywh0,yxh0,yyh0,yzh0,yai0,ybi0,S.sOkV,r, S.an_f2,S.an_f rfl,bc_true,bc_false,and_self]
  | false =>
  have r_w6:=S.rng_t hl_w6 hh_w6;simp only [bc_false];cases hl_w7:ltI w7 0 with
  | true =>
   have r:=S.rng_l (n:=1) hl_w7;simp only [ymd0,yuh0,yvh0,ywh0,yxh0,yyh0,yzh0,yai0,ybi0,S.sOkV,r, S.an_f2,S.an_f rfl,bc_true,bc_false,and_self]
  | false =>
  cases hh_w7:ltI 1 w7 with
  | true =>
   have r:=S.rng_h hh_w7;simp only [ymd0,yuh0,yvh0,ywh0,yxh0,yyh0,yzh0,yai0,ybi0,S.sOkV,r, S.an_f2,S.an_f rfl,bc_true,bc_false,and_self]
  | false =>
  have r_w7:=S.rng_t hl_w7 hh_w7;simp only [bc_false];have a0:=S.yva0.1 r_w0;have a1:=S.yva0.1 r_w1;have a2:=S.yva0.1 r_w2;have a3:=S.yva0.1 r_w3;have a4:=S.yva0.1 r_w4;have a5:=S.yva0.1 r_w5;have a6:=S.yva0.1 r_w6;have a7:=S.yva0.1 r_w7;have ok:S.sOkV w0 w1 w2 w3 w4 w5 w6 w7=true:=by simp only [ymd0,yuh0,yvh0,ywh0,yxh0,yyh0,yzh0,yai0,ybi0,S.sOkV,r_w0,r_w1,r_w2,r_w3,r_w4,r_w5,r_w6,r_w7,S.an,bc_true]
  have u:∀ x:Int,0<=x->x<256->wrapK .u8 x=x:=fun x _ _=>by rw [ywc0];omega
  have u5:wrapK .u16 w5=w5:=by rw [yve0];omega
  have i:∀ x:Int,0<=x->x<65536->wrapK .i64 x=x:=fun x _ _=>by rw [yja0];omega
  have z3:eqI (w3.fdiv (2 ^ 4)) 0=true:=by rw [S.fd a3.1,ypa0];show w3 / 16=0;omega
  have z4:eqI (w4.fdiv (2 ^ 5)) 0=true:=by rw [S.fd a4.1,ypa0];show w4 / 32=0;omega
  have z5:eqI (w5.fdiv (2 ^ 9)) 0=true:=by rw [S.fd a5.1,ypa0];show w5 / 512=0;omega
  simp only [ymd0,yuh0,yvh0,ywh0,yxh0,yyh0,yzh0,yai0,ybi0,ok,u w0 (by omega) (by omega),u w1 (by omega) (by omega),u w2 (by omega) (by omega),u w3 (by omega) (by omega),u w4 (by omega) (by omega),u5,i w3 (by omega) (by omega),i w4 (by omega) (by omega),i w5 (by omega) (by omega),z3,z4,z5,yra0,bc_true,bc_false,and_self]
theorem yrw2:xVoE.ok Tryz.prog 84:=by
 intro xs os b r h h3;unfold xVoE at h;simp only at h;split at h
 .injection h with h;injection h with h1 h2;subst h1;subst h2;exact yyt2 _ _ _ _ _ _ _ _ _ _ _ _ _ _ _ _
 .cases h
def yhi0 (M scan a d l n s w0 w1 w2:Int) (r:Prop):Prop :=
 bc (S.okW w0 w1 w2) 0 (6:Int)=6/\(0:Nat)=0/\bc (S.okW w0 w1 w2) (S.sline w1 w2) M=M/\bc (S.okW w0 w1 w2) (S.sscan w1 w2) scan=scan/\bc (S.okW w0 w1 w2) (w0 % 4) a=a/\d=d/\bc (S.okW w0 w1 w2) (S.st (w0 / 4)) s=s/\(6:Int)=6/\(1:Int)=1/\r
def yer0 (M scan a d l n s w0 w1 w2:Int) (r:Prop):Prop :=
 notB (ltI w1 w2)=true/\r
def yoo0 (M scan a d l n s w0 w1 w2:Int) (r:Prop):Prop :=
 bc (S.okW w0 w1 w2) 0 (6:Int)=(0:Int)/\(0:Nat)=0/\bc (S.okW w0 w1 w2) (S.sline w1 w2) M=orK .u16 (orK .u16 0 (wrapK .u16 (1*2 ^ min (Int.toNat w2) 16))) (wrapK .u16 (1*2 ^ min (Int.toNat w1) 16))/\bc (S.okW w0 w1 w2) (S.sscan w1 w2) scan=(255:Int)/\bc (S.okW w0 w1 w2) (w0 % 4) a=bc (S.inR w0 160) (w0 % 4) a/\d=d/\bc (S.okW w0 w1 w2) (S.st (w0 / 4)) s=bc (S.inR w0 160) (S.st (w0 / 4)) s/\(6:Int)=6/\(1:Int)=1/\r
def ydm0 (M scan a d l n s w0 w1 w2:Int) (r:Prop):Prop :=
 ltI w1 (8:Int)=true/\ltI w1 (0:Int)=false/\r
def ypo0 (M scan a d l n s w0 w1 w2:Int) (r:Prop):Prop :=
 bc (S.okW w0 w1 w2) 0 (6:Int)=(0:Int)/\(0:Nat)=0/\bc (S.okW w0 w1 w2) (S.sline w1 w2) M=orK .u16 0 (wrapK .u16 (1*2 ^ min (Int.toNat w1) 16))/\bc (S.okW w0 w1 w2) (S.sscan w1 w2) scan=w2/\bc (S.okW w0 w1 w2) (w0 % 4) a=bc (S.inR w0 160) (w0 % 4) a/\d=d/\bc (S.okW w0 w1 w2) (S.st (w0 / 4)) s=bc (S.inR w0 160) (S.st (w0 / 4)) s/\(6:Int)=6/\(1:Int)=1/\r
def yqo0 (M scan a d l n s w0 w1 w2:Int) (r:Prop):Prop :=
 bc (S.okW w0 w1 w2) 0 (6:Int)=(0:Int)/\(0:Nat)=0/\bc (S.okW w0 w1 w2) (S.sline w1 w2) M=orK .u16 0 (wrapK .u16 (1*2 ^ min (Int.toNat w2) 16))/\bc (S.okW w0 w1 w2) (S.sscan w1 w2) scan=w1/\bc (S.okW w0 w1 w2) (w0 % 4) a=bc (S.inR w0 160) (w0 % 4) a/\d=d/\bc (S.okW w0 w1 w2) (S.st (w0 / 4)) s=bc (S.inR w0 160) (S.st (w0 / 4)) s/\(6:Int)=6/\(1:Int)=1/\r
def yem0 (M scan a d l n s w0 w1 w2:Int) (r:Prop):Prop :=
 ltI w1 (8:Int)=false/\r
def yro0 (M scan a d l n s w0 w1 w2:Int) (r:Prop):Prop :=
 bc (S.okW w0 w1 w2) 0 (6:Int)=(0:Int)/\(0:Nat)=0/\bc (S.okW w0 w1 w2) (S.sline w1 w2) M=(0:Int)/\bc (S.okW w0 w1 w2) (S.sscan w1 w2) scan=w1/\bc (S.okW w0 w1 w2) (w0 % 4) a=bc (S.inR w0 160) (w0 % 4) a/\d=d/\bc (S.okW w0 w1 w2) (S.st (w0 / 4)) s=bc (S.inR w0 160) (S.st (w0 / 4)) s/\(6:Int)=6/\(1:Int)=1/\r
theorem yzt2 (M scan a d l n s w0 w1 w2:Int):K.bodyF (envL [(162,pSetE)]) (K.runF (envL [(162,pSetE)]) 30) 83 [.ptr 0 0,.agg [.int .i64 w0,.int .i64 w1,.int .i64 w2]] (Heap.of (xThOz M scan a d l n s w0 w1 w2)) (.skip 10 (.fork .auto (.skip 6 (.fork .auto (.skip 2 (.fork .auto (.skip 2 (.fork .auto (.skip 2 (.fork .auto (.skip 0 (.fork (.skip 3 (.fork (.skip 0 (.take true .auto)) (.skip 0 (.fork (.skip 2 (.fork .auto (.skip 9 (.fork (.skip 1 (.fork .auto (.skip 3 (.take true (.skip 1 (.take false .auto)))))) (.skip 3 (.take true (.skip 1 (.take false .auto)))))))) (.skip 12 (.fork (.skip 1 (.fork .auto (.skip 3 (.take true (.skip 1 (.take false .auto)))))) (.skip 3 (.take true (.skip 1 (.take false .auto)))))))))) (.skip 4 (.fork (.skip 2 (.fork .auto (.skip 9 (.fork (.skip 1 (.fork .auto (.skip 3 (.take false .auto)))) (.skip 3 (.take false .auto)))))) (.skip 12 (.fork (.skip 1 (.fork .auto (.skip 3 (.take false .auto)))) (.skip 3 (.take false .auto)))))))))))))))))) (K.endC K.openE 5 (xThRz M scan a d l n s w0 w1 w2)) =
  (bc (ltI w0 0) (yhi0 M scan a d l n s w0 w1 w2 True) (bc (notB (ltI w0 160)) (yhi0 M scan a d l n s w0 w1 w2 True) (bc (ltI w1 0) (yhi0 M scan a d l n s w0 w1 w2 True) (bc (ltI 255 w1) (yhi0 M scan a d l n s w0 w1 w2 True) (bc (ltI 255 w2) (yhi0 M scan a d l n s w0 w1 w2 True) (bc (ltI w1 8) (bc (notB (ltI w1 w2)) (yer0 M scan a d l n s w0 w1 w2 (yhi0 M scan a d l n s w0 w1 w2 True)) (bc (notB (ltI w1 8)) (bc (notB (eqI w2 255)) (yhi0 M scan a d l n s w0 w1 w2 True) (bc (S.okPl a s d n) (bc (ltI w2 8) (bc (ltI w2 0) False (ydm0 M scan a d l n s w0 w1 w2 (yoo0 M scan a d l n s w0 w1 w2 True))) (ydm0 M scan a d l n s w0 w1 w2 (ypo0 M scan a d l n s w0 w1 w2 True))) False)) (bc (S.okPl a s d n) (bc (ltI w2 8) (bc (ltI w2 0) False (ydm0 M scan a d l n s w0 w1 w2 (yoo0 M scan a d l n s w0 w1 w2 True))) (ydm0 M scan a d l n s w0 w1 w2 (ypo0 M scan a d l n s w0 w1 w2 True))) False))) (bc (notB (ltI w1 8)) (bc (notB (eqI w2 255)) (yhi0 M scan a d l n s w0 w1 w2 True) (bc (S.okPl a s d n) (bc (ltI w2 8) (bc (ltI w2 0) False (yem0 M scan a d l n s w0 w1 w2 (yqo0 M scan a d l n s w0 w1 w2 True))) (yem0 M scan a d l n s w0 w1 w2 (yro0 M scan a d l n s w0 w1 w2 True))) False)) (bc (S.okPl a s d n) (bc (ltI w2 8) (bc (ltI w2 0) False (yem0 M scan a d l n s w0 w1 w2 (yqo0 M scan a d l n s w0 w1 w2 True))) (yem0 M scan a d l n s w0 w1 w2 (yro0 M scan a d l n s w0 w1 w2 True))) False)))))))):=by kernel_rfl
theorem yau2 (M scan a d l n s w0 w1 w2:Int) (h0:S.okPm a d l n s=true)  : HTr Tryz.prog 83 [.ptr 0 0,.agg [.int .i64 w0,.int .i64 w1,.int .i64 w2]] (xThOz M scan a d l n s w0 w1 w2) (xThRz M scan a d l n s w0 w1 w2):=by
 refine K.yca0 good (A:=envL [(162,pSetE)]) (yha0 ?_) K.yea0 (k:=30) (cast (yzt2 M scan a d l n s w0 w1 w2).symm ?_)
 .intro p hp;simp only [List.mem_cons,List.not_mem_nil,or_false] at hp;rcases hp with rfl;exact yne2
 .obtain ⟨m0,hm0,hm1,rfl,rfl,rfl,rfl,rfl⟩:=S.ysh0 h0;simp only [S.pl_ok hm0 hm1,bc_true];cases a1:ltI w0 0 with
  | true =>
   have b:=yia0.1 a1
   have e:S.okW w0 w1 w2=false:=by
    rw [Bool.eq_false_iff];intro hw;rw [S.yeg0] at hw;omega
   simp only [yhi0,yer0,yoo0,ydm0,ypo0,yqo0,yem0,yro0,e,yra0,yqa0,bc_true,bc_false,and_self]
  | false =>
  cases a2:ltI w0 160 with
  | false =>
   have b:=yba0.1 a2
   have e:S.okW w0 w1 w2=false:=by
    rw [Bool.eq_false_iff];intro hw;rw [S.yeg0] at hw;omega
   simp only [yhi0,yer0,yoo0,ydm0,ypo0,yqo0,yem0,yro0,e,yra0,yqa0,bc_true,bc_false,and_self]
  | true =>
  cases a3:ltI w1 0 with
  | true =>
   have b:=yia0.1 a3
   have e:S.okW w0 w1 w2=false:=by
    rw [Bool.eq_false_iff];intro hw;rw [S.yeg0] at hw;omega
   simp only [yhi0,yer0,yoo0,ydm0,ypo0,yqo0,yem0,yro0,e,yra0,yqa0,bc_true,bc_false,and_self]
  | false =>
  cases a4:ltI 255 w1 with
  | true =>
   have b:=yia0.1 a4
   have e:S.okW w0 w1 w2=false:=by
    rw [Bool.eq_false_iff];intro hw;rw [S.yeg0] at hw;omega
   simp only [yhi0,yer0,yoo0,ydm0,ypo0,yqo0,yem0,yro0,e,yra0,yqa0,bc_true,bc_false,and_self]
  | false =>
  cases a5:ltI 255 w2 with
  | true =>
   have b:=yia0.1 a5
   have e:S.okW w0 w1 w2=false:=by
    rw [Bool.eq_false_iff];intro hw;rw [S.yeg0] at hw;omega
   simp only [yhi0,yer0,yoo0,ydm0,ypo0,yqo0,yem0,yro0,e,yra0,yqa0,bc_true,bc_false,and_self]
  | false =>
  have b1:=yba0.1 a1;have b2:=yia0.1 a2;have b3:=yba0.1 a3;have b4:=yba0.1 a4;have b5:=yba0.1 a5;have ei:S.inR w0 160=true:=S.yga0.2 ⟨b1,b2⟩;cases a6:ltI w1 8 with
  | true =>
   have b6:=yia0.1 a6;cases a7:ltI w1 w2 with
   | false =>
    have b:=yba0.1 a7
    have e:S.okW w0 w1 w2=false:=by
     rw [Bool.eq_false_iff];intro hw;rw [S.yeg0] at hw;omega
    simp only [yhi0,yer0,yoo0,ydm0,ypo0,yqo0,yem0,yro0,e,a3,a6,a7,yra0,yqa0,bc_true,bc_false,and_self]
   | true =>
    have b7:=yia0.1 a7;have e:S.okW w0 w1 w2=true:=by rw [S.yeg0];omega
    have hw:=S.yeg0.1 e;have a9:ltI w2 0=false:=yba0.2 (by omega);cases a8:ltI w2 8 with
    | true =>
     obtain ⟨s1,s2⟩:=S.setA hw b6 (yia0.1 a8);simp only [yhi0,yer0,yoo0,ydm0,ypo0,yqo0,yem0,yro0,e,a3,a6,a7,a8,ei,a9,s1,s2,yra0,yqa0,bc_true,bc_false,and_self]
    | false =>
     obtain ⟨s1,s2⟩:=S.setB hw b6 (yba0.1 a8);simp only [yhi0,yer0,yoo0,ydm0,ypo0,yqo0,yem0,yro0,e,a3,a6,a7,a8,ei,a9,s1,s2,yra0,yqa0,bc_true,bc_false,and_self]
  | false =>
   have b6:=yba0.1 a6;cases a7:eqI w2 255 with
   | false =>
    have b:=ycb0.1 a7
    have e:S.okW w0 w1 w2=false:=by
     rw [Bool.eq_false_iff];intro hw;rw [S.yeg0] at hw;omega
    simp only [yhi0,yer0,yoo0,ydm0,ypo0,yqo0,yem0,yro0,e,a3,a6,a7,yra0,yqa0,bc_true,bc_false,and_self]
   | true =>
    have b7:=ypa0.1 a7;have e:S.okW w0 w1 w2=true:=by rw [S.yeg0];omega
    have hw:=S.yeg0.1 e;have a8:ltI w2 8=false:=yba0.2 (by omega);obtain ⟨s1,s2⟩:=S.setC hw b6;simp only [yhi0,yer0,yoo0,ydm0,ypo0,yqo0,yem0,yro0,e,a3,a6,a7,ei,a8,s1,s2,yra0,yqa0,bc_true,bc_false,and_self]
theorem ysw2:xThE.ok Tryz.prog 83:=by
 intro xs os b r h h3;unfold xThE at h;simp only at h;split at h
 .injection h with h;injection h with h1 h2;subst h1;subst h2;exact yau2 _ _ _ _ _ _ _ _ _ _ h3
 .cases h
def ybb0 (v0 v1 v2 v3 ymx2:Int) (ynx2 f0 l0 f1 l1 ylx2:Bool) (w0 w1 w2 w3 w4 w5 w6 w7 w8 w9 w10:Int) (r:Prop):Prop :=
 bc (S.sOkP w0 w1 w2 w3 w4 w5 w6 w7 w8 w9 w10) 0 (6:Int)=6/\bc (S.sOkP w0 w1 w2 w3 w4 w5 w6 w7 w8 w9 w10) w0 v0=v0/\bc (S.sOkP w0 w1 w2 w3 w4 w5 w6 w7 w8 w9 w10) w1 v1=v1/\bc (S.sOkP w0 w1 w2 w3 w4 w5 w6 w7 w8 w9 w10) w2 v2=v2/\bc (S.sOkP w0 w1 w2 w3 w4 w5 w6 w7 w8 w9 w10) w3 v3=v3/\bc (S.sOkP w0 w1 w2 w3 w4 w5 w6 w7 w8 w9 w10) w4 ymx2=ymx2/\bc (S.sOkP w0 w1 w2 w3 w4 w5 w6 w7 w8 w9 w10) (eqI w5 1) ynx2=ynx2/\bc (S.sOkP w0 w1 w2 w3 w4 w5 w6 w7 w8 w9 w10) (eqI w6 1) f0=f0/\bc (S.sOkP w0 w1 w2 w3 w4 w5 w6 w7 w8 w9 w10) (eqI w9 1) l0=l0/\bc (S.sOkP w0 w1 w2 w3 w4 w5 w6 w7 w8 w9 w10) (eqI w7 1) f1=f1/\bc (S.sOkP w0 w1 w2 w3 w4 w5 w6 w7 w8 w9 w10) (eqI w10 1) l1=l1/\bc (S.sOkP w0 w1 w2 w3 w4 w5 w6 w7 w8 w9 w10) (eqI w8 1) ylx2=ylx2/\r
def ysc0 (v0 v1 v2 v3 ymx2:Int) (ynx2 f0 l0 f1 l1 ylx2:Bool) (w0 w1 w2 w3 w4 w5 w6 w7 w8 w9 w10:Int) (r:Prop):Prop :=
 bc (S.sOkP w0 w1 w2 w3 w4 w5 w6 w7 w8 w9 w10) 0 (6:Int)=(0:Int)/\bc (S.sOkP w0 w1 w2 w3 w4 w5 w6 w7 w8 w9 w10) w0 v0=wrapK .u8 w0/\bc (S.sOkP w0 w1 w2 w3 w4 w5 w6 w7 w8 w9 w10) w1 v1=wrapK .u8 w1/\bc (S.sOkP w0 w1 w2 w3 w4 w5 w6 w7 w8 w9 w10) w2 v2=wrapK .u8 w2/\bc (S.sOkP w0 w1 w2 w3 w4 w5 w6 w7 w8 w9 w10) w3 v3=wrapK .u8 w3/\bc (S.sOkP w0 w1 w2 w3 w4 w5 w6 w7 w8 w9 w10) w4 ymx2=w4/\bc (S.sOkP w0 w1 w2 w3 w4 w5 w6 w7 w8 w9 w10) (eqI w5 1) ynx2=eqI w5 1/\bc (S.sOkP w0 w1 w2 w3 w4 w5 w6 w7 w8 w9 w10) (eqI w6 1) f0=eqI w6 1/\bc (S.sOkP w0 w1 w2 w3 w4 w5 w6 w7 w8 w9 w10) (eqI w9 1) l0=S.see (eqI w8 1) (eqI w9 1) (eqI w6 1)/\bc (S.sOkP w0 w1 w2 w3 w4 w5 w6 w7 w8 w9 w10) (eqI w7 1) f1=eqI w7 1/\bc (S.sOkP w0 w1 w2 w3 w4 w5 w6 w7 w8 w9 w10) (eqI w10 1) l1=S.see (eqI w8 1) (eqI w10 1) (eqI w7 1)/\bc (S.sOkP w0 w1 w2 w3 w4 w5 w6 w7 w8 w9 w10) (eqI w8 1) ylx2=eqI w8 1/\r
theorem yin2 (v0 v1 v2 v3 ymx2:Int) (ynx2 f0 l0 f1 l1 ylx2:Bool) (w0 w1 w2 w3 w4 w5 w6 w7 w8 w9 w10:Int):K.bodyF (envL [(166,kSeeE)]) (K.runF (envL [(166,kSeeE)]) 30) 85 [.ptr 0 0,.agg [.int .i64 w0,.int .i64 w1,.int .i64 w2,.int .i64 w3,.int .i64 w4,.int .i64 w5,.int .i64 w6,.int .i64 w7,.int .i64 w8,.int .i64 w9,.int .i64 w10]] (Heap.of (yhr2 v0 v1 v2 v3 ymx2 ynx2 f0 l0 f1 l1 ylx2 w0 w1 w2 w3 w4 w5 w6 w7 w8 w9 w10)) Hint.auto (K.endC K.openE 1 (yrj2 v0 v1 v2 v3 ymx2 ynx2 f0 l0 f1 l1 ylx2 w0 w1 w2 w3 w4 w5 w6 w7 w8 w9 w10)) =
  (bc (ltI w0 0) (ybb0 v0 v1 v2 v3 ymx2 ynx2 f0 l0 f1 l1 ylx2 w0 w1 w2 w3 w4 w5 w6 w7 w8 w9 w10 True) (bc (ltI 255 w0) (ybb0 v0 v1 v2 v3 ymx2 ynx2 f0 l0 f1 l1 ylx2 w0 w1 w2 w3 w4 w5 w6 w7 w8 w9 w10 True) (bc (ltI w1 0) (ybb0 v0 v1 v2 v3 ymx2 ynx2 f0 l0 f1 l1 ylx2 w0 w1 w2 w3 w4 w5 w6 w7 w8 w9 w10 True) (bc (ltI 255 w1) (ybb0 v0 v1 v2 v3 ymx2 ynx2 f0 l0 f1 l1 ylx2 w0 w1 w2 w3 w4 w5 w6 w7 w8 w9 w10 True) (bc (ltI w2 0) (ybb0 v0 v1 v2 v3 ymx2 ynx2 f0 l0 f1 l1 ylx2 w0 w1 w2 w3 w4 w5 w6 w7 w8 w9 w10 True) (bc (ltI 255 w2) (ybb0 v0 v1 v2 v3 ymx2 ynx2 f0 l0 f1 l1 ylx2 w0 w1 w2 w3 w4 w5 w6 w7 w8 w9 w10 True) (bc (ltI w3 0) (ybb0 v0 v1 v2 v3 ymx2 ynx2 f0 l0 f1 l1 ylx2 w0 w1 w2 w3 w4 w5 w6 w7 w8 w9 w10 True) (bc (ltI 255 w3) (ybb0 v0 v1 v2 v3 ymx2 ynx2 f0 l0 f1 l1 ylx2 w0 w1 w2 w3 w4 w5 w6 w7 w8 w9 w10 True) (bc (ltI w4 0) (ybb0 v0 v1 v2 v3 ymx2 ynx2 f0 l0 f1 l1 ylx2 w0 w1 w2 w3 w4 w5 w6 w7 w8 w9 w10 True) (bc (ltI 511 w4) (ybb0 v0 v1 v2 v3 ymx2 ynx2 f0 l0 f1 l1 ylx2 w0 w1 w2 w3 w4 w5 w6 w7 w8 w9 w10 True) (bc (ltI w5 0) (ybb0 v0 v1 v2 v3 ymx2 ynx2 f0 l0 f1 l1 ylx2 w0 w1 w2 w3 w4 w5 w6 w7 w8 w9 w10 True) (bc (ltI 1 w5) (ybb0 v0 v1 v2 v3 ymx2 ynx2 f0 l0 f1 l1 ylx2 w0 w1 w2 w3 w4 w5 w6 w7 w8 w9 w10 True) (bc (ltI w6 0) (ybb0 v0 v1 v2 v3 ymx2 ynx2 f0 l0 f1 l1 ylx2 w0 w1 w2 w3 w4 w5 w6 w7 w8 w9 w10 True) (bc (ltI 1 w6) (ybb0 v0 v1 v2 v3 ymx2 ynx2 f0 l0 f1 l1 ylx2 w0 w1 w2 w3 w4 w5 w6 w7 w8 w9 w10 True) (bc (ltI w7 0) (ybb0 v0 v1 v2 v3 ymx2 ynx2 f0 l0 f1 l1 ylx2 w0 w1 w2 w3 w4 w5 w6 w7 w8 w9 w10 True) (bc (ltI 1 w7) (ybb0 v0 v1 v2 v3 ymx2 ynx2 f0 l0 f1 l1 ylx2 w0 w1 w2 w3 w4 w5 w6 w7 w8 w9 w10 True) (bc (ltI w8 0) (ybb0 v0 v1 v2 v3 ymx2 ynx2 f0 l0 f1 l1 ylx2 w0 w1 w2 w3 w4 w5 w6 w7 w8 w9 w10 True) (bc (ltI 1 w8) (ybb0 v0 v1 v2 v3 ymx2 ynx2 f0 l0 f1 l1 ylx2 w0 w1 w2 w3 w4 w5 w6 w7 w8 w9 w10 True) (bc (ltI w9 0) (ybb0 v0 v1 v2 v3 ymx2 ynx2 f0 l0 f1 l1 ylx2 w0 w1 w2 w3 w4 w5 w6 w7 w8 w9 w10 True) (bc (ltI 1 w9) (ybb0 v0 v1 v2 v3 ymx2 ynx2 f0 l0 f1 l1 ylx2 w0 w1 w2 w3 w4 w5 w6 w7 w8 w9 w10 True) (bc (ltI w10 0) (ybb0 v0 v1 v2 v3 ymx2 ynx2 f0 l0 f1 l1 ylx2 w0 w1 w2 w3 w4 w5 w6 w7 w8 w9 w10 True) (bc (ltI 1 w10) (ybb0 v0 v1 v2 v3 ymx2 ynx2 f0 l0 f1 l1 ylx2 w0 w1 w2 w3 w4 w5 w6 w7 w8 w9 w10 True) (bc (eqI w5 1) (bc (notB (eqI w4 0)) (ybb0 v0 v1 v2 v3 ymx2 ynx2 f0 l0 f1 l1 ylx2 w0 w1 w2 w3 w4 w5 w6 w7 w8 w9 w10 True) (bc (!(eqI w6 (1:Int) == eqI w6 1&&(S.see (eqI w8 1) (eqI w9 1) (eqI w6 1) == eqI w9 1&&true))) (ybb0 v0 v1 v2 v3 ymx2 ynx2 f0 l0 f1 l1 ylx2 w0 w1 w2 w3 w4 w5 w6 w7 w8 w9 w10 True) (bc (!(eqI w7 (1:Int) == eqI w7 1&&(S.see (eqI w8 1) (eqI w10 1) (eqI w7 1) == eqI w10 1&&true))) (ybb0 v0 v1 v2 v3 ymx2 ynx2 f0 l0 f1 l1 ylx2 w0 w1 w2 w3 w4 w5 w6 w7 w8 w9 w10 True) (ysc0 v0 v1 v2 v3 ymx2 ynx2 f0 l0 f1 l1 ylx2 w0 w1 w2 w3 w4 w5 w6 w7 w8 w9 w10 True)))) (bc (!(eqI w6 (1:Int) == eqI w6 1&&(S.see (eqI w8 1) (eqI w9 1) (eqI w6 1) == eqI w9 1&&true))) (ybb0 v0 v1 v2 v3 ymx2 ynx2 f0 l0 f1 l1 ylx2 w0 w1 w2 w3 w4 w5 w6 w7 w8 w9 w10 True) (bc (!(eqI w7 (1:Int) == eqI w7 1&&(S.see (eqI w8 1) (eqI w10 1) (eqI w7 1) == eqI w10 1&&true))) (ybb0 v0 v1 v2 v3 ymx2 ynx2 f0 l0 f1 l1 ylx2 w0 w1 w2 w3 w4 w5 w6 w7 w8 w9 w10 True) (ysc0 v0 v1 v2 v3 ymx2 ynx2 f0 l0 f1 l1 ylx2 w0 w1 w2 w3 w4 w5 w6 w7 w8 w9 w10 True)))))))))))))))))))))))))):=by kernel_rfl
theorem yjn2 (v0 v1 v2 v3 ymx2:Int) (ynx2 f0 l0 f1 l1 ylx2:Bool) (w0 w1 w2 w3 w4 w5 w6 w7 w8 w9 w10:Int)  : HTr Tryz.prog 85 [.ptr 0 0,.agg [.int .i64 w0,.int .i64 w1,.int .i64 w2,.int .i64 w3,.int .i64 w4,.int .i64 w5,.int .i64 w6,.int .i64 w7,.int .i64 w8,.int .i64 w9,.int .i64 w10]] (yhr2 v0 v1 v2 v3 ymx2 ynx2 f0 l0 f1 l1 ylx2 w0 w1 w2 w3 w4 w5 w6 w7 w8 w9 w10) (yrj2 v0 v1 v2 v3 ymx2 ynx2 f0 l0 f1 l1 ylx2 w0 w1 w2 w3 w4 w5 w6 w7 w8 w9 w10):=by
 refine K.yca0 good (A:=envL [(166,kSeeE)]) (yha0 ?_) K.yea0 (k:=30) (cast (yin2 v0 v1 v2 v3 ymx2 ynx2 f0 l0 f1 l1 ylx2 w0 w1 w2 w3 w4 w5 w6 w7 w8 w9 w10).symm ?_)
 .intro p hp;simp only [List.mem_cons,List.not_mem_nil,or_false] at hp;rcases hp with rfl;exact ywj0
 .cases hl_w0:ltI w0 0 with
  | true =>
   have r:=S.rng_l (n:=255) hl_w0;simp only [ybb0,ysc0,S.sOkP,r,S.an_f2,S.an_f rfl,yra0,yqa0,bc_true,bc_false,and_self]
  | false =>
  cases hh_w0:ltI 255 w0 with
  | true =>
   have r:=S.rng_h hh_w0;simp only [ybb0,ysc0,S.sOkP,r,S.an_f2,S.an_f rfl,yra0,yqa0,bc_true,bc_false,and_self]
  | false =>
  have r_w0:=S.rng_t hl_w0 hh_w0
  (try simp only [yra0,yqa0,bc_true,bc_false])
  cases hl_w1:ltI w1 0 with
  | true =>
   have r:=S.rng_l (n:=255) hl_w1;simp only [ybb0,ysc0,S.sOkP,r,S.an_f2,S.an_f rfl,yra0,yqa0,bc_true,bc_false,and_self]
  | false =>
  cases hh_w1:ltI 255 w1 with
  | true =>
   have r:=S.rng_h hh_w1;simp only [ybb0,ysc0,S.sOkP,r,S.an_f2,S.an_f rfl,yra0,yqa0,bc_true,bc_false,and_self]
  | false =>
  have r_w1:=S.rng_t hl_w1 hh_w1
  (try simp only [yra0,yqa0,bc_true,bc_false])
  cases hl_w2:ltI w2 0 with
  | true =>
   have r:=S.rng_l (n:=255) hl_w2;simp only [ybb0,ysc0,S.sOkP,r,S.an_f2,S.an_f rfl,yra0,yqa0,bc_true,bc_false,and_self]
  | false =>
  cases hh_w2:ltI 255 w2 with
  | true =>
   have r:=S.rng_h hh_w2;simp only [ybb0,ysc0,S.sOkP,r,S.an_f2,S.an_f rfl,yra0,yqa0,bc_true,bc_false,and_self]
  | false =>
  have r_w2:=S.rng_t hl_w2 hh_w2
  (try simp only [yra0,yqa0,bc_true,bc_false])
  cases hl_w3:ltI w3 0 with
  | true =>
   have r:=S.rng_l (n:=255) hl_w3;simp only [ybb0,ysc0,S.sOkP,r,S.an_f2,S.an_f rfl,yra0,yqa0,bc_true,bc_false,and_self]
  | false =>
  cases hh_w3:ltI 255 w3 with
  | true =>
   have r:=S.rng_h hh_w3;simp only [ybb0,ysc0,S.sOkP,r,S.an_f2,S.an_f rfl,yra0,yqa0,bc_true,bc_false,and_self]
  | false =>
  have r_w3:=S.rng_t hl_w3 hh_w3
  (try simp only [yra0,yqa0,bc_true,bc_false])
  cases hl_w4:ltI w4 0 with
  | true =>
   have r:=S.rng_l (n:=511) hl_w4;simp only [ybb0,ysc0,S.sOkP,r,S.an_f2,S.an_f rfl,yra0,yqa0,bc_true,bc_false,and_self]
  | false =>
  cases hh_w4:ltI 511 w4 with
  | true =>
   have r:=S.rng_h hh_w4;simp only [ybb0,ysc0,S.sOkP,r,S.an_f2,S.an_f rfl,yra0,yqa0,bc_true,bc_false,and_self]
  | false =>
  have r_w4:=S.rng_t hl_w4 hh_w4
  (try simp only [yra0,yqa0,bc_true,bc_false])
  cases hl_w5:ltI w5 0 with
  | true =>
   have r:=S.rng_l (n:=1) hl_w5;simp only [ybb0,ysc0,S.sOkP,r,S.an_f2,S.an_f rfl,yra0,yqa0,bc_true,bc_false,and_self]
  | false =>
  cases hh_w5:ltI 1 w5 with
  | true =>
   have r:=S.rng_h hh_w5;simp only [ybb0,ysc0,S.sOkP,r,S.an_f2,S.an_f rfl,yra0,yqa0,bc_true,bc_false,and_self]
  | false =>
  have r_w5:=S.rng_t hl_w5 hh_w5
  (try simp only [yra0,yqa0,bc_true,bc_false])
  cases hl_w6:ltI w6 0 with
  | true =>
   have r:=S.rng_l (n:=1) hl_w6;simp only [ybb0,ysc0,S.sOkP,r,S.an_f2,S.an_f rfl,yra0,yqa0,bc_true,bc_false,and_self]
  | false =>
  cases hh_w6:ltI 1 w6 with
  | true =>
   have r:=S.rng_h hh_w6;simp only [ybb0,ysc0,S.sOkP,r,S.an_f2,S.an_f rfl,yra0,yqa0,bc_true,bc_false,and_self]
  | false =>
  have r_w6:=S.rng_t hl_w6 hh_w6
  (try simp only [yra0,yqa0,bc_true,bc_false])
  cases hl_w7:ltI w7 0 with
  | true =>
   have r:=S.rng_l (n:=1) hl_w7;simp only [ybb0,ysc0,S.sOkP,r,S.an_f2,S.an_f rfl,yra0,yqa0,bc_true,bc_false,and_self]
  | false =>
  cases hh_w7:ltI 1 w7 with
  | true =>
   have r:=S.rng_h hh_w7;simp only [ybb0,ysc0,S.sOkP,r,S.an_f2,S.an_f rfl,yra0,yqa0,bc_true,bc_false,and_self]
  | false =>
  have r_w7:=S.rng_t hl_w7 hh_w7
  (try simp only [yra0,yqa0,bc_true,bc_false])
  cases hl_w8:ltI w8 0 with
  | true =>
   have r:=S.rng_l (n:=1) hl_w8;simp only [ybb0,ysc0,S.sOkP,r,S.an_f2,S.an_f rfl,yra0,yqa0,bc_true,bc_false,and_self]
  | false =>
  cases hh_w8:ltI 1 w8 with
  | true =>
   have r:=S.rng_h hh_w8;simp only [ybb0,ysc0,S.sOkP,r,S.an_f2,S.an_f rfl,yra0,yqa0,bc_true,bc_false,and_self]
  | false =>
  have r_w8:=S.rng_t hl_w8 hh_w8
  (try simp only [yra0,yqa0,bc_true,bc_false])
  cases hl_w9:ltI w9 0 with
  | true =>
   have r:=S.rng_l (n:=1) hl_w9;simp only [ybb0,ysc0,S.sOkP,r,S.an_f2,S.an_f rfl,yra0,yqa0,bc_true,bc_false,and_self]
  | false =>
  cases hh_w9:ltI 1 w9 with
  | true =>
   have r:=S.rng_h hh_w9;simp only [ybb0,ysc0,S.sOkP,r,S.an_f2,S.an_f rfl,yra0,yqa0,bc_true,bc_false,and_self]
  | false =>
  have r_w9:=S.rng_t hl_w9 hh_w9
  (try simp only [yra0,yqa0,bc_true,bc_false])
  cases hl_w10:ltI w10 0 with
  | true =>
   have r:=S.rng_l (n:=1) hl_w10;simp only [ybb0,ysc0,S.sOkP,r,S.an_f2,S.an_f rfl,yra0,yqa0,bc_true,bc_false,and_self]
  | false =>
  cases hh_w10:ltI 1 w10 with
  | true =>
   have r:=S.rng_h hh_w10;simp only [ybb0,ysc0,S.sOkP,r,S.an_f2,S.an_f rfl,yra0,yqa0,bc_true,bc_false,and_self]
  | false =>
  have r_w10:=S.rng_t hl_w10 hh_w10
  (try simp only [yra0,yqa0,bc_true,bc_false])
  have u:∀ x:Int,S.rng x 255=true->wrapK .u8 x=x:=fun x h=>by have:=S.yva0.1 h;rw [ywc0];omega
  simp only [ybb0,ysc0,S.sOkP,r_w0,r_w1,r_w2,r_w3,r_w4,r_w5,r_w6,r_w7,r_w8,r_w9,r_w10,u w0 r_w0,u w1 r_w1,u w2 r_w2,u w3 r_w3,S.an,bc_true,beq_self_eq_true,Bool.and_true,Bool.true_and];generalize eqI w4 0=e4;generalize eqI w5 1=e5;generalize eqI w6 1=e6;generalize eqI w7 1=e7;generalize eqI w8 1=e8;generalize eqI w9 1=e9;generalize eqI w10 1=e10;cases e5 <;> (try simp only [yra0,yqa0,bc_true,bc_false]) <;> (try (cases e4 <;> simp only [yra0,yqa0,bc_true,bc_false,and_self])) <;> cases e8 <;> cases e6 <;> cases e9 <;> cases e7 <;> cases e10 <;> simp [S.see,S.an,S.eqB2,yra0,yqa0,bc_true,bc_false]
theorem ybu2:xPotE.ok Tryz.prog 85:=by
 intro xs os b r h h3;unfold xPotE at h;simp only at h;split at h
 .injection h with h;injection h with h1 h2;subst h1;subst h2;exact yjn2 _ _ _ _ _ _ _ _ _ _ _ _ _ _ _ _ _ _ _ _ _ _
 .cases h
namespace S
theorem flen (vs:List LV):lenL (flatF [.i .i64] vs)=lenL vs:=by rw [Ev.lenL_eq,Ev.lenL_eq,ykd0]
theorem orb_t (b:Bool):orb true b=true:=rfl
theorem ytu1 (b:Bool):orb false b=b:=rfl
end S
theorem yhc2 (o l:Nat) (cp:Cap) (wr:Bool) (ob:LObj) (e:Int):K.bodyF (envL []) (K.runF (envL []) 30) 79 [.ptr 0 0,.int .i64 e] (Heap.of [.cells 143 .exact [.slice 1 o l cp,.bool wr],ob]) Hint.auto (K.endC K.openE 2 ⟨.ret (.tup []),[(0,.cells 143 .exact [.slice 1 o l cp,.bool (S.orb wr (notB (eqI e 0)))])],[]⟩) =
  (bc (wr) (o=o/\(l=l/\(cp=cp/\(S.orb wr (notB (eqI e 0))=true/\True)))) (o=o/\(l=l/\(cp=cp/\(S.orb wr (notB (eqI e 0))=notB (eqI e 0)/\True))))):=by kernel_rfl
theorem yic2 (o l:Nat) (cp:Cap) (wr:Bool) (ob:LObj) (e:Int)  : HTr Tryz.prog 79 [.ptr 0 0,.int .i64 e] [.cells 143 .exact [.slice 1 o l cp,.bool wr],ob] ⟨.ret (.tup []),[(0,.cells 143 .exact [.slice 1 o l cp,.bool (S.orb wr (notB (eqI e 0)))])],[]⟩:=by
 refine K.yca0 good (A:=envL []) (yha0 ?_) K.yea0 (k:=30) (cast (yhc2 o l cp wr ob e).symm ?_)
 .intro p hp;cases hp
 .cases wr <;> simp only [S.orb,bc_true,bc_false,and_self]
theorem ykn2:ytj2.ok Tryz.prog 79:=by
 intro xs os b r h h3;unfold ytj2 at h;simp only at h;split at h
 .injection h with h;injection h with h1 h2;subst h1;subst h2;exact yic2 _ _ _ _ _ _
 .cases h
theorem yjc2 (et o l:Nat) (vs:List LV) (wr:Bool) (m:Int):K.bodyF (envL []) (K.runF (envL []) 30) 86 [.ptr 0 0,.int .i64 m] (Heap.of [.cells 143 .exact [.slice 1 o (l+2) (.rest o),.bool wr],.flat [.i .i64] et (.grow 1) vs]) Hint.auto (K.endC K.openE 2 (yle2 et o l vs wr m)) =
  (bc (Nat.beq o (o*1)) (bc (Nat.ble (o+(l+2)*1) (lenL (flatF [CK.i .i64] vs))) (bc (Nat.ble (l+2) (l+2)) (bc (Nat.beq o (o*1)) (bc (Nat.ble (o+(l+2)*1) (lenL (flatF [CK.i .i64] vs))) (bc (Nat.ble (o+0+1) (lenL vs)) (bc (wr) (intOf (K.atV vs o)=intOf (K.atV vs (o+0))/\(o+(1:Nat)=o+1/\(l+(1:Nat)=l+2-1/\(Cap.rest (o+1)=Cap.rest (o+1)/\(S.orb wr (S.orb (ltI (intOf (K.atV vs o)) 0) (ltI m (intOf (K.atV vs o))))=true/\True))))) (bc (ltI (intOf (K.atV vs (o+0))) 0) (intOf (K.atV vs o)=intOf (K.atV vs (o+0))/\(o+(1:Nat)=o+1/\(l+(1:Nat)=l+2-1/\(Cap.rest (o+1)=Cap.rest (o+1)/\(S.orb wr (S.orb (ltI (intOf (K.atV vs o)) 0) (ltI m (intOf (K.atV vs o))))=true/\True))))) (intOf (K.atV vs o)=intOf (K.atV vs (o+0))/\(o+(1:Nat)=o+1/\(l+(1:Nat)=l+2-1/\(Cap.rest (o+1)=Cap.rest (o+1)/\(S.orb wr (S.orb (ltI (intOf (K.atV vs o)) 0) (ltI m (intOf (K.atV vs o))))=ltI m (intOf (K.atV vs (o+0)))/\True))))))) False) False) False) False) False) False):=by kernel_rfl
theorem ykc2 (et o l:Nat) (vs:List LV) (wr:Bool) (m:Int) (h0:S.an (Nat.ble (o+(l+2)) (lenL vs)) (Nat.beq et 3)=true)  : HTr Tryz.prog 86 [.ptr 0 0,.int .i64 m] [.cells 143 .exact [.slice 1 o (l+2) (.rest o),.bool wr],.flat [.i .i64] et (.grow 1) vs] (yle2 et o l vs wr m):=by
 refine K.yca0 good (A:=envL []) (yha0 ?_) K.yea0 (k:=30) (cast (yjc2 et o l vs wr m).symm ?_)
 .intro p hp;cases hp
 .obtain ⟨h1,h2⟩:=S.yla0.1 h0;have h1:=Nat.le_of_ble_eq_true h1;have e1:Nat.beq o (o*1)=true:=by rw [Nat.mul_one];exact Nat.beq_refl _
  have e2:Nat.ble (o+(l+2)*1) (lenL vs)=true:=Nat.ble_eq_true_of_le (by omega);have e4:Nat.ble (o+0+1) (lenL vs)=true:=Nat.ble_eq_true_of_le (by omega);simp only [S.flen,e1,e2,e4,bc_true,Nat.add_zero,true_and,show Nat.ble (l+2) (l+2)=true from Nat.ble_eq_true_of_le (Nat.le_refl _),show l+2-1=l+1 from rfl];cases wr <;> simp only [S.orb_t,S.ytu1,bc_true,bc_false,true_and,and_true];cases ltI (intOf (K.atV vs o)) 0 <;> simp only [S.orb_t,S.ytu1,bc_true,bc_false,and_self]
theorem ylc2 (et o:Nat) (vs:List LV) (wr:Bool) (m:Int):K.bodyF (envL []) (K.runF (envL []) 30) 86 [.ptr 0 0,.int .i64 m] (Heap.of [.cells 143 .exact [.slice 1 o 1 (.rest o),.bool wr],.flat [.i .i64] et (.grow 1) vs]) Hint.auto (K.endC K.openE 2 ⟨.ret (.int .i64 (intOf (K.atV vs o))),[(0,.cells 143 .exact [.emp 2,.bool (S.orb wr (S.orb (ltI (intOf (K.atV vs o)) 0) (ltI m (intOf (K.atV vs o)))))])],[.empty]⟩) =
  (bc (Nat.beq o (o*1)) (bc (Nat.ble (o+1) (lenL (flatF [CK.i .i64] vs))) (bc (Nat.beq o (o*1)) (bc (Nat.ble (o+1) (lenL (flatF [CK.i .i64] vs))) (bc (Nat.ble (o+0+1) (lenL vs)) (bc (wr) (intOf (K.atV vs o)=intOf (K.atV vs (o+0))/\(S.orb wr (S.orb (ltI (intOf (K.atV vs o)) 0) (ltI m (intOf (K.atV vs o))))=true/\True)) (bc (ltI (intOf (K.atV vs (o+0))) 0) (intOf (K.atV vs o)=intOf (K.atV vs (o+0))/\(S.orb wr (S.orb (ltI (intOf (K.atV vs o)) 0) (ltI m (intOf (K.atV vs o))))=true/\True)) (intOf (K.atV vs o)=intOf (K.atV vs (o+0))/\(S.orb wr (S.orb (ltI (intOf (K.atV vs o)) 0) (ltI m (intOf (K.atV vs o))))=ltI m (intOf (K.atV vs (o+0)))/\True)))) False) False) False) False) False):=by kernel_rfl
theorem ymc2 (et o:Nat) (vs:List LV) (wr:Bool) (m:Int) (h0:S.an (Nat.ble (o+1) (lenL vs)) (Nat.beq et 3)=true)  : HTr Tryz.prog 86 [.ptr 0 0,.int .i64 m] [.cells 143 .exact [.slice 1 o 1 (.rest o),.bool wr],.flat [.i .i64] et (.grow 1) vs] ⟨.ret (.int .i64 (intOf (K.atV vs o))),[(0,.cells 143 .exact [.emp 2,.bool (S.orb wr (S.orb (ltI (intOf (K.atV vs o)) 0) (ltI m (intOf (K.atV vs o)))))])],[.empty]⟩:=by
 refine K.yca0 good (A:=envL []) (yha0 ?_) K.yea0 (k:=30) (cast (ylc2 et o vs wr m).symm ?_)
 .intro p hp;cases hp
 .obtain ⟨h1,h2⟩:=S.yla0.1 h0;have h1:=Nat.le_of_ble_eq_true h1;have e1:Nat.beq o (o*1)=true:=by rw [Nat.mul_one];exact Nat.beq_refl _
  have e2:Nat.ble (o+1) (lenL vs)=true:=Nat.ble_eq_true_of_le (by omega);have e4:Nat.ble (o+0+1) (lenL vs)=true:=Nat.ble_eq_true_of_le (by omega);simp only [S.flen,e1,e2,e4,bc_true,Nat.add_zero,true_and];cases wr <;> simp only [S.orb_t,S.ytu1,bc_true,bc_false,true_and,and_true];cases ltI (intOf (K.atV vs o)) 0 <;> simp only [S.orb_t,S.ytu1,bc_true,bc_false,and_self]
theorem ycu2 (t o2 et o l:Nat) (vs:List LV) (wr:Bool) (m:Int) (h:S.an (Nat.beq t 143) (S.an (Nat.beq o2 o) (S.an (Nat.ble (o+(l+2)) (lenL vs)) (Nat.beq et 3)))=true):HT Tryz.prog 86 [.ptr 0 0,.int .i64 m] (Heap.of [.cells t .exact [.slice 1 o (l+2) (.rest o2),.bool wr],.flat [.i .i64] et (.grow 1) vs]) (.ret (.int .i64 (intOf (K.atV vs o)))) (Heap.of (K.chg [.cells t .exact [.slice 1 o (l+2) (.rest o2),.bool wr],.flat [.i .i64] et (.grow 1) vs] [(0,.cells 143 .exact [.slice 1 (o+1) (l+1) (.rest (o+1)),.bool (S.orb wr (S.orb (ltI (intOf (K.atV vs o)) 0) (ltI m (intOf (K.atV vs o)))))])]++[])):=by
 obtain ⟨a,h2⟩:=S.yla0.1 h;obtain ⟨b,h3⟩:=S.yla0.1 h2;have a:=Nat.eq_of_beq_eq_true a;have b:=Nat.eq_of_beq_eq_true b;subst a;subst b;exact ykc2 et o2 l vs wr m h3
theorem ydu2 (t o2 et o:Nat) (vs:List LV) (wr:Bool) (m:Int) (h:S.an (Nat.beq t 143) (S.an (Nat.beq o2 o) (S.an (Nat.ble (o+1) (lenL vs)) (Nat.beq et 3)))=true):HT Tryz.prog 86 [.ptr 0 0,.int .i64 m] (Heap.of [.cells t .exact [.slice 1 o 1 (.rest o2),.bool wr],.flat [.i .i64] et (.grow 1) vs]) (.ret (.int .i64 (intOf (K.atV vs o)))) (Heap.of (K.chg [.cells t .exact [.slice 1 o 1 (.rest o2),.bool wr],.flat [.i .i64] et (.grow 1) vs] [(0,.cells 143 .exact [.emp 2,.bool (S.orb wr (S.orb (ltI (intOf (K.atV vs o)) 0) (ltI m (intOf (K.atV vs o)))))])]++[.empty])):=by
 obtain ⟨a,h2⟩:=S.yla0.1 h;obtain ⟨b,h3⟩:=S.yla0.1 h2;have a:=Nat.eq_of_beq_eq_true a;have b:=Nat.eq_of_beq_eq_true b;subst a;subst b;exact ymc2 et o2 vs wr m h3
theorem yeu2:kNumE.ok Tryz.prog 86:=by
 intro xs os b r h h3;unfold kNumE at h;simp only at h;split at h
 .injection h with h;injection h with h1 h2;subst h1;subst h2;exact ydu2 _ _ _ _ _ _ _ h3
 .injection h with h;injection h with h1 h2;subst h1;subst h2;exact ycu2 _ _ _ _ _ _ _ _ h3
 .cases h
theorem yln2 (c:S.Chip) (W:Nat->Int):K.bodyF (yvj2) (K.runF (yvj2) 30) 24 [.ptr 0 0,.slice 40 0 81 (.rest 0)] (Heap.of (ysy1 c W)) Hint.auto (K.endC K.openE 41 (yuj2 c W)) =
  (bc (S.orb (S.orb (S.orb (S.orb (S.orb (S.orb (S.orb (S.orb (S.orb (S.orb (S.orb (S.orb (S.orb (S.orb (S.orb (S.orb (S.orb (S.orb (S.orb (S.orb (S.orb (S.orb (S.orb (S.orb (S.orb (S.orb (S.orb (S.orb (S.orb (S.orb (S.orb (S.orb (S.orb (S.orb (S.orb (S.orb (S.orb (S.orb (S.orb (S.orb (S.orb (S.orb (S.orb (S.orb false (notB (eqI (bc (S.sOkB (W 0) (W 1)) 0 6) 0))) (notB (eqI (bc (S.sOkM (W 2) (W 3) (W 4)) 0 6) 0))) (notB (eqI (bc (S.okW (W 5) (W 6) (W 7)) 0 6) 0))) (notB (eqI (bc (S.okW (W 8) (W 9) (W 10)) 0 6) 0))) (notB (eqI (bc (S.okW (W 11) (W 12) (W 13)) 0 6) 0))) (notB (eqI (bc (S.okW (W 14) (W 15) (W 16)) 0 6) 0))) (notB (eqI (bc (S.okW (W 17) (W 18) (W 19)) 0 6) 0))) (notB (eqI (bc (S.sOkV (W 20) (W 21) (W 22) (W 23) (W 24) (W 25) (W 26) (W 27)) 0 6) 0))) (notB (eqI (bc (S.sOkV (W 28) (W 29) (W 30) (W 31) (W 32) (W 33) (W 34) (W 35)) 0 6) 0))) (notB (eqI (bc (S.sOkP (W 36) (W 37) (W 38) (W 39) (W 40) (W 41) (W 42) (W 43) (W 44) (W 45) (W 46)) 0 6) 0))) (S.orb (ltI (W 47) 0) (ltI 255 (W 47)))) (S.orb (ltI (W 48) 0) (ltI 255 (W 48)))) (S.orb (ltI (W 49) 0) (ltI 255 (W 49)))) (S.orb (ltI (W 50) 0) (ltI 255 (W 50)))) (S.orb (ltI (W 51) 0) (ltI 255 (W 51)))) (S.orb (ltI (W 52) 0) (ltI 255 (W 52)))) (S.orb (ltI (W 53) 0) (ltI 255 (W 53)))) (S.orb (ltI (W 54) 0) (ltI 255 (W 54)))) (S.orb (ltI (W 55) 0) (ltI 255 (W 55)))) (S.orb (ltI (W 56) 0) (ltI 255 (W 56)))) (S.orb (ltI (W 57) 0) (ltI 255 (W 57)))) (S.orb (ltI (W 58) 0) (ltI 255 (W 58)))) (S.orb (ltI (W 59) 0) (ltI 255 (W 59)))) (S.orb (ltI (W 60) 0) (ltI 255 (W 60)))) (S.orb (ltI (W 61) 0) (ltI 255 (W 61)))) (S.orb (ltI (W 62) 0) (ltI 255 (W 62)))) (S.orb (ltI (W 63) 0) (ltI 255 (W 63)))) (S.orb (ltI (W 64) 0) (ltI 255 (W 64)))) (S.orb (ltI (W 65) 0) (ltI 255 (W 65)))) (S.orb (ltI (W 66) 0) (ltI 255 (W 66)))) (S.orb (ltI (W 67) 0) (ltI 1 (W 67)))) (S.orb (ltI (W 68) 0) (ltI 1 (W 68)))) (S.orb (ltI (W 69) 0) (ltI 255 (W 69)))) (S.orb (ltI (W 70) 0) (ltI 255 (W 70)))) (S.orb (ltI (W 71) 0) (ltI 255 (W 71)))) (S.orb (ltI (W 72) 0) (ltI 255 (W 72)))) (S.orb (ltI (W 73) 0) (ltI 255 (W 73)))) (S.orb (ltI (W 74) 0) (ltI 255 (W 74)))) (S.orb (ltI (W 75) 0) (ltI 255 (W 75)))) (S.orb (ltI (W 76) 0) (ltI 255 (W 76)))) (S.orb (ltI (W 77) 0) (ltI 255 (W 77)))) (S.orb (ltI (W 78) 0) (ltI 255 (W 78)))) (S.orb (ltI (W 79) 0) (ltI 32767 (W 79)))) (S.orb (ltI (W 80) 0) (ltI 1 (W 80)))) False ((0:Int)=0/\((0:Nat)=0/\((0:Nat)=0/\((0:Nat)=0/\((0:Nat)=0/\((0:Nat)=0/\((0:Nat)=0/\((0:Nat)=0/\((0:Nat)=0/\((0:Nat)=0/\((0:Nat)=0/\(S.R8.x0 (S.Chip.r0 (S.ofW W))=wrapK .u8 (W 47)/\(S.R8.x1 (S.Chip.r0 (S.ofW W))=wrapK .u8 (W 48)/\(S.R8.x2 (S.Chip.r0 (S.ofW W))=S.R8.x2 (S.Chip.r0 (S.newC 0))/\(S.R8.x3 (S.Chip.r0 (S.ofW W))=S.R8.x3 (S.Chip.r0 (S.newC 0))/\(S.R8.x4 (S.Chip.r0 (S.ofW W))=wrapK .u8 (W 49)/\(S.R8.x5 (S.Chip.r0 (S.ofW W))=wrapK .u8 (W 50)/\(S.R8.x6 (S.Chip.r0 (S.ofW W))=wrapK .u8 (W 51)/\(S.R8.x7 (S.Chip.r0 (S.ofW W))=wrapK .u8 (W 52)/\(S.R8.x0 (S.Chip.r1 (S.ofW W))=wrapK .u8 (W 53)/\(S.R8.x1 (S.Chip.r1 (S.ofW W))=wrapK .u8 (W 54)/\(S.R8.x2 (S.Chip.r1 (S.ofW W))=wrapK .u8 (W 55)/\(S.R8.x3 (S.Chip.r1 (S.ofW W))=wrapK .u8 (W 56)/\(S.R8.x4 (S.Chip.r1 (S.ofW W))=wrapK .u8 (W 57)/\(S.R8.x5 (S.Chip.r1 (S.ofW W))=wrapK .u8 (W 58)/\(S.R8.x6 (S.Chip.r1 (S.ofW W))=wrapK .u8 (W 59)/\(S.R8.x7 (S.Chip.r1 (S.ofW W))=wrapK .u8 (W 60)/\(S.R8.x0 (S.Chip.r2 (S.ofW W))=S.R8.x0 (S.Chip.r2 (S.newC 0))/\(S.R8.x1 (S.Chip.r2 (S.ofW W))=S.R8.x1 (S.Chip.r2 (S.newC 0))/\(S.R8.x2 (S.Chip.r2 (S.ofW W))=S.R8.x2 (S.Chip.r2 (S.newC 0))/\(S.R8.x3 (S.Chip.r2 (S.ofW W))=S.R8.x3 (S.Chip.r2 (S.newC 0))/\(S.R8.x4 (S.Chip.r2 (S.ofW W))=S.R8.x4 (S.Chip.r2 (S.newC 0))/\(S.R8.x5 (S.Chip.r2 (S.ofW W))=S.R8.x5 (S.Chip.r2 (S.newC 0))/\(S.R8.x6 (S.Chip.r2 (S.ofW W))=S.R8.x6 (S.Chip.r2 (S.newC 0))/\(S.R8.x7 (S.Chip.r2 (S.ofW W))=S.R8.x7 (S.Chip.r2 (S.newC 0))/\(S.R8.x0 (S.Chip.r3 (S.ofW W))=S.R8.x0 (S.Chip.r3 (S.newC 0))/\(S.R8.x1 (S.Chip.r3 (S.ofW W))=S.R8.x1 (S.Chip.r3 (S.newC 0))/\(S.R8.x2 (S.Chip.r3 (S.ofW W))=S.R8.x2 (S.Chip.r3 (S.newC 0))/\(S.R8.x3 (S.Chip.r3 (S.ofW W))=S.R8.x3 (S.Chip.r3 (S.newC 0))/\(S.R8.x4 (S.Chip.r3 (S.ofW W))=S.R8.x4 (S.Chip.r3 (S.newC 0))/\(S.R8.x5 (S.Chip.r3 (S.ofW W))=wrapK .u8 (W 65)/\(S.R8.x6 (S.Chip.r3 (S.ofW W))=wrapK .u8 (W 66)/\(S.R8.x7 (S.Chip.r3 (S.ofW W))=S.R8.x7 (S.Chip.r3 (S.newC 0))/\(S.R8.x0 (S.Chip.r4 (S.ofW W))=wrapK .u8 (W 69)/\(S.R8.x1 (S.Chip.r4 (S.ofW W))=wrapK .u8 (W 70)/\(S.R8.x2 (S.Chip.r4 (S.ofW W))=wrapK .u8 (W 71)/\(S.R8.x3 (S.Chip.r4 (S.ofW W))=wrapK .u8 (W 72)/\(S.R8.x4 (S.Chip.r4 (S.ofW W))=wrapK .u8 (W 73)/\(S.R8.x5 (S.Chip.r4 (S.ofW W))=wrapK .u8 (W 74)/\(S.R8.x6 (S.Chip.r4 (S.ofW W))=wrapK .u8 (W 75)/\(S.R8.x7 (S.Chip.r4 (S.ofW W))=wrapK .u8 (W 76)/\(S.R8.x0 (S.Chip.r5 (S.ofW W))=wrapK .u8 (W 77)/\(S.R8.x1 (S.Chip.r5 (S.ofW W))=wrapK .u8 (W 78)/\(S.R8.x2 (S.Chip.r5 (S.ofW W))=S.R8.x2 (S.Chip.r5 (S.newC 0))/\(S.R8.x3 (S.Chip.r5 (S.ofW W))=S.R8.x3 (S.Chip.r5 (S.newC 0))/\(S.R8.x4 (S.Chip.r5 (S.ofW W))=S.R8.x4 (S.Chip.r5 (S.newC 0))/\(S.R8.x5 (S.Chip.r5 (S.ofW W))=S.R8.x5 (S.Chip.r5 (S.newC 0))/\(S.R8.x6 (S.Chip.r5 (S.ofW W))=S.R8.x6 (S.Chip.r5 (S.newC 0))/\(S.R8.x7 (S.Chip.r5 (S.ofW W))=S.R8.x7 (S.Chip.r5 (S.newC 0))/\(S.R8.x0 (S.Chip.r6 (S.ofW W))=S.R8.x0 (S.Chip.r6 (S.newC 0))/\(S.R8.x1 (S.Chip.r6 (S.ofW W))=S.R8.x1 (S.Chip.r6 (S.newC 0))/\(S.R8.x2 (S.Chip.r6 (S.ofW W))=S.R8.x2 (S.Chip.r6 (S.newC 0))/\(S.R8.x3 (S.Chip.r6 (S.ofW W))=S.R8.x3 (S.Chip.r6 (S.newC 0))/\(S.R8.x4 (S.Chip.r6 (S.ofW W))=S.R8.x4 (S.Chip.r6 (S.newC 0))/\(S.R8.x5 (S.Chip.r6 (S.ofW W))=S.R8.x5 (S.Chip.r6 (S.newC 0))/\(S.R8.x6 (S.Chip.r6 (S.ofW W))=S.R8.x6 (S.Chip.r6 (S.newC 0))/\(S.R8.x7 (S.Chip.r6 (S.ofW W))=S.R8.x7 (S.Chip.r6 (S.newC 0))/\(S.R8.x0 (S.Chip.r7 (S.ofW W))=S.R8.x0 (S.Chip.r7 (S.newC 0))/\(S.R8.x1 (S.Chip.r7 (S.ofW W))=S.R8.x1 (S.Chip.r7 (S.newC 0))/\(S.R8.x2 (S.Chip.r7 (S.ofW W))=S.R8.x2 (S.Chip.r7 (S.newC 0))/\(S.R8.x3 (S.Chip.r7 (S.ofW W))=S.R8.x3 (S.Chip.r7 (S.newC 0))/\(S.R8.x4 (S.Chip.r7 (S.ofW W))=S.R8.x4 (S.Chip.r7 (S.newC 0))/\(S.R8.x5 (S.Chip.r7 (S.ofW W))=S.R8.x5 (S.Chip.r7 (S.newC 0))/\(S.R8.x6 (S.Chip.r7 (S.ofW W))=S.R8.x6 (S.Chip.r7 (S.newC 0))/\(S.R8.x7 (S.Chip.r7 (S.ofW W))=S.R8.x7 (S.Chip.r7 (S.newC 0))/\(S.Chip.g00 (S.ofW W)=wrapK .u8 (W 61)/\(S.Chip.g01 (S.ofW W)=wrapK .u8 (W 62)/\(S.Chip.g10 (S.ofW W)=wrapK .u8 (W 63)/\(S.Chip.g11 (S.ofW W)=wrapK .u8 (W 64)/\(S.Chip.b0 (S.ofW W)=eqI (W 67) 1/\(S.Chip.b1 (S.ofW W)=eqI (W 68) 1/\(S.Chip.met (S.ofW W)=wrapK .u16 (W 79)/\(S.Chip.wait (S.ofW W)=eqI (W 80) 1/\((0:Nat)=0/\((0:Nat)=0/\(S.Chip.late (S.ofW W)=bc (S.sOkB (W 0) (W 1)) (eqI (W 1) 1) (S.Chip.late (S.newC 0))/\(S.Chip.ba (S.ofW W)=bc (S.sOkB (W 0) (W 1)) (W 0 % 4) (S.Chip.ba (S.newC 0))/\((4:Int)=4/\((0:Nat)=0/\((20:Int)=20/\((57:Int)=57/\(S.Chip.bs (S.ofW W)=bc (S.sOkB (W 0) (W 1)) (S.st (W 0 / 4)) (S.Chip.bs (S.newC 0))/\((6:Int)=6/\((1:Int)=1/\(S.Chip.mc (S.ofW W)=bc (S.sOkM (W 2) (W 3) (W 4)) (W 2) (S.Chip.mc (S.newC 0))/\(S.Chip.mg (S.ofW W)=bc (S.sOkM (W 2) (W 3) (W 4)) (W 3) (S.Chip.mg (S.newC 0))/\(S.Chip.mm (S.ofW W)=bc (S.sOkM (W 2) (W 3) (W 4)) (W 4) (S.Chip.mm (S.newC 0))/\((0:Nat)=0/\(S.Th.M (S.Chip.t0 (S.ofW W))=bc (S.okW (W 5) (W 6) (W 7)) (S.sline (W 6) (W 7)) (S.Th.M (S.Chip.t0 (S.newC 0)))/\(S.Th.scan (S.Chip.t0 (S.ofW W))=bc (S.okW (W 5) (W 6) (W 7)) (S.sscan (W 6) (W 7)) (S.Th.scan (S.Chip.t0 (S.newC 0)))/\((0:Nat)=0/\((0:Nat)=0/\(S.Th.a (S.Chip.t0 (S.ofW W))=bc (S.okW (W 5) (W 6) (W 7)) (W 5 % 4) (S.Th.a (S.Chip.t0 (S.newC 0)))/\((4:Int)=4/\((0:Nat)=0/\((45:Int)=45/\((40:Int)=40/\(S.Th.s (S.Chip.t0 (S.ofW W))=bc (S.okW (W 5) (W 6) (W 7)) (S.st (W 5 / 4)) (S.Th.s (S.Chip.t0 (S.newC 0)))/\((6:Int)=6/\((1:Int)=1/\((0:Nat)=0/\(S.Th.M (S.Chip.t1 (S.ofW W))=bc (S.okW (W 8) (W 9) (W 10)) (S.sline (W 9) (W 10)) (S.Th.M (S.Chip.t1 (S.newC 0)))/\(S.Th.scan (S.Chip.t1 (S.ofW W))=bc (S.okW (W 8) (W 9) (W 10)) (S.sscan (W 9) (W 10)) (S.Th.scan (S.Chip.t1 (S.newC 0)))/\((0:Nat)=0/\((0:Nat)=0/\(S.Th.a (S.Chip.t1 (S.ofW W))=bc (S.okW (W 8) (W 9) (W 10)) (W 8 % 4) (S.Th.a (S.Chip.t1 (S.newC 0)))/\((4:Int)=4/\((0:Nat)=0/\((45:Int)=45/\((40:Int)=40/\(S.Th.s (S.Chip.t1 (S.ofW W))=bc (S.okW (W 8) (W 9) (W 10)) (S.st (W 8 / 4)) (S.Th.s (S.Chip.t1 (S.newC 0)))/\((6:Int)=6/\((1:Int)=1/\((0:Nat)=0/\(S.Th.M (S.Chip.t2 (S.ofW W))=bc (S.okW (W 11) (W 12) (W 13)) (S.sline (W 12) (W 13)) (S.Th.M (S.Chip.t2 (S.newC 0)))/\(S.Th.scan (S.Chip.t2 (S.ofW W))=bc (S.okW (W 11) (W 12) (W 13)) (S.sscan (W 12) (W 13)) (S.Th.scan (S.Chip.t2 (S.newC 0)))/\((0:Nat)=0/\((0:Nat)=0/\(S.Th.a (S.Chip.t2 (S.ofW W))=bc (S.okW (W 11) (W 12) (W 13)) (W 11 % 4) (S.Th.a (S.Chip.t2 (S.newC 0)))/\((4:Int)=4/\((0:Nat)=0/\((45:Int)=45/\((40:Int)=40/\(S.Th.s (S.Chip.t2 (S.ofW W))=bc (S.okW (W 11) (W 12) (W 13)) (S.st (W 11 / 4)) (S.Th.s (S.Chip.t2 (S.newC 0)))/\((6:Int)=6/\((1:Int)=1/\((0:Nat)=0/\(S.Th.M (S.Chip.t3 (S.ofW W))=bc (S.okW (W 14) (W 15) (W 16)) (S.sline (W 15) (W 16)) (S.Th.M (S.Chip.t3 (S.newC 0)))/\(S.Th.scan (S.Chip.t3 (S.ofW W))=bc (S.okW (W 14) (W 15) (W 16)) (S.sscan (W 15) (W 16)) (S.Th.scan (S.Chip.t3 (S.newC 0)))/\((0:Nat)=0/\((0:Nat)=0/\(S.Th.a (S.Chip.t3 (S.ofW W))=bc (S.okW (W 14) (W 15) (W 16)) (W 14 % 4) (S.Th.a (S.Chip.t3 (S.newC 0)))/\((4:Int)=4/\((0:Nat)=0/\((45:Int)=45/\((40:Int)=40/\(S.Th.s (S.Chip.t3 (S.ofW W))=bc (S.okW (W 14) (W 15) (W 16)) (S.st (W 14 / 4)) (S.Th.s (S.Chip.t3 (S.newC 0)))/\((6:Int)=6/\((1:Int)=1/\((0:Nat)=0/\(S.Th.M (S.Chip.t4 (S.ofW W))=bc (S.okW (W 17) (W 18) (W 19)) (S.sline (W 18) (W 19)) (S.Th.M (S.Chip.t4 (S.newC 0)))/\(S.Th.scan (S.Chip.t4 (S.ofW W))=bc (S.okW (W 17) (W 18) (W 19)) (S.sscan (W 18) (W 19)) (S.Th.scan (S.Chip.t4 (S.newC 0)))/\((0:Nat)=0/\((0:Nat)=0/\(S.Th.a (S.Chip.t4 (S.ofW W))=bc (S.okW (W 17) (W 18) (W 19)) (W 17 % 4) (S.Th.a (S.Chip.t4 (S.newC 0)))/\((4:Int)=4/\((0:Nat)=0/\((45:Int)=45/\((40:Int)=40/\(S.Th.s (S.Chip.t4 (S.ofW W))=bc (S.okW (W 17) (W 18) (W 19)) (S.st (W 17 / 4)) (S.Th.s (S.Chip.t4 (S.newC 0)))/\((6:Int)=6/\((1:Int)=1/\(S.Vo.ykx2 (S.Chip.v0 (S.ofW W))=bc (S.sOkV (W 20) (W 21) (W 22) (W 23) (W 24) (W 25) (W 26) (W 27)) (W 20) (S.Vo.ykx2 (S.Chip.v0 (S.newC 0)))/\(S.Vo.I (S.Chip.v0 (S.ofW W))=bc (S.sOkV (W 20) (W 21) (W 22) (W 23) (W 24) (W 25) (W 26) (W 27)) (W 21) (S.Vo.I (S.Chip.v0 (S.newC 0)))/\(S.Vo.yox2 (S.Chip.v0 (S.ofW W))=bc (S.sOkV (W 20) (W 21) (W 22) (W 23) (W 24) (W 25) (W 26) (W 27)) (W 22) (S.Vo.yox2 (S.Chip.v0 (S.newC 0)))/\((0:Nat)=0/\((0:Nat)=0/\((0:Nat)=0/\(S.Vo.count (S.Chip.v0 (S.ofW W))=bc (S.sOkV (W 20) (W 21) (W 22) (W 23) (W 24) (W 25) (W 26) (W 27)) (W 26) (S.Vo.count (S.Chip.v0 (S.newC 0)))/\(S.Vo.high (S.Chip.v0 (S.ofW W))=bc (S.sOkV (W 20) (W 21) (W 22) (W 23) (W 24) (W 25) (W 26) (W 27)) (eqI (W 27) 1) (S.Vo.high (S.Chip.v0 (S.newC 0)))/\(S.Vo.f4 (S.Chip.v0 (S.ofW W))=bc (S.sOkV (W 20) (W 21) (W 22) (W 23) (W 24) (W 25) (W 26) (W 27)) (W 23) (S.Vo.f4 (S.Chip.v0 (S.newC 0)))/\((4:Int)=4/\((1:Int)=1/\(S.Vo.f5 (S.Chip.v0 (S.ofW W))=bc (S.sOkV (W 20) (W 21) (W 22) (W 23) (W 24) (W 25) (W 26) (W 27)) (W 24) (S.Vo.f5 (S.Chip.v0 (S.newC 0)))/\((5:Int)=5/\((2:Int)=2/\(S.Vo.f9 (S.Chip.v0 (S.ofW W))=bc (S.sOkV (W 20) (W 21) (W 22) (W 23) (W 24) (W 25) (W 26) (W 27)) (W 25) (S.Vo.f9 (S.Chip.v0 (S.newC 0)))/\((9:Int)=9/\((4:Int)=4/\(S.Vo.ykx2 (S.Chip.v1 (S.ofW W))=bc (S.sOkV (W 28) (W 29) (W 30) (W 31) (W 32) (W 33) (W 34) (W 35)) (W 28) (S.Vo.ykx2 (S.Chip.v1 (S.newC 0)))/\(S.Vo.I (S.Chip.v1 (S.ofW W))=bc (S.sOkV (W 28) (W 29) (W 30) (W 31) (W 32) (W 33) (W 34) (W 35)) (W 29) (S.Vo.I (S.Chip.v1 (S.newC 0)))/\(S.Vo.yox2 (S.Chip.v1 (S.ofW W))=bc (S.sOkV (W 28) (W 29) (W 30) (W 31) (W 32) (W 33) (W 34) (W 35)) (W 30) (S.Vo.yox2 (S.Chip.v1 (S.newC 0)))/\((0:Nat)=0/\((0:Nat)=0/\((0:Nat)=0/\(S.Vo.count (S.Chip.v1 (S.ofW W))=bc (S.sOkV (W 28) (W 29) (W 30) (W 31) (W 32) (W 33) (W 34) (W 35)) (W 34) (S.Vo.count (S.Chip.v1 (S.newC 0)))/\(S.Vo.high (S.Chip.v1 (S.ofW W))=bc (S.sOkV (W 28) (W 29) (W 30) (W 31) (W 32) (W 33) (W 34) (W 35)) (eqI (W 35) 1) (S.Vo.high (S.Chip.v1 (S.newC 0)))/\(S.Vo.f4 (S.Chip.v1 (S.ofW W))=bc (S.sOkV (W 28) (W 29) (W 30) (W 31) (W 32) (W 33) (W 34) (W 35)) (W 31) (S.Vo.f4 (S.Chip.v1 (S.newC 0)))/\((4:Int)=4/\((1:Int)=1/\(S.Vo.f5 (S.Chip.v1 (S.ofW W))=bc (S.sOkV (W 28) (W 29) (W 30) (W 31) (W 32) (W 33) (W 34) (W 35)) (W 32) (S.Vo.f5 (S.Chip.v1 (S.newC 0)))/\((5:Int)=5/\((2:Int)=2/\(S.Vo.f9 (S.Chip.v1 (S.ofW W))=bc (S.sOkV (W 28) (W 29) (W 30) (W 31) (W 32) (W 33) (W 34) (W 35)) (W 33) (S.Vo.f9 (S.Chip.v1 (S.newC 0)))/\((9:Int)=9/\((4:Int)=4/\(S.Po.v0 (S.Chip.po (S.ofW W))=bc (S.sOkP (W 36) (W 37) (W 38) (W 39) (W 40) (W 41) (W 42) (W 43) (W 44) (W 45) (W 46)) (W 36) (S.Po.v0 (S.Chip.po (S.newC 0)))/\(S.Po.v1 (S.Chip.po (S.ofW W))=bc (S.sOkP (W 36) (W 37) (W 38) (W 39) (W 40) (W 41) (W 42) (W 43) (W 44) (W 45) (W 46)) (W 37) (S.Po.v1 (S.Chip.po (S.newC 0)))/\(S.Po.v2 (S.Chip.po (S.ofW W))=bc (S.sOkP (W 36) (W 37) (W 38) (W 39) (W 40) (W 41) (W 42) (W 43) (W 44) (W 45) (W 46)) (W 38) (S.Po.v2 (S.Chip.po (S.newC 0)))/\(S.Po.v3 (S.Chip.po (S.ofW W))=bc (S.sOkP (W 36) (W 37) (W 38) (W 39) (W 40) (W 41) (W 42) (W 43) (W 44) (W 45) (W 46)) (W 39) (S.Po.v3 (S.Chip.po (S.newC 0)))/\(S.Po.ymx2 (S.Chip.po (S.ofW W))=bc (S.sOkP (W 36) (W 37) (W 38) (W 39) (W 40) (W 41) (W 42) (W 43) (W 44) (W 45) (W 46)) (W 40) (S.Po.ymx2 (S.Chip.po (S.newC 0)))/\(S.Po.ynx2 (S.Chip.po (S.ofW W))=bc (S.sOkP (W 36) (W 37) (W 38) (W 39) (W 40) (W 41) (W 42) (W 43) (W 44) (W 45) (W 46)) (eqI (W 41) 1) (S.Po.ynx2 (S.Chip.po (S.newC 0)))/\(S.Po.h0 (S.Chip.po (S.ofW W))=bc (S.sOkP (W 36) (W 37) (W 38) (W 39) (W 40) (W 41) (W 42) (W 43) (W 44) (W 45) (W 46)) (eqI (W 42) 1) (S.Po.h0 (S.Chip.po (S.newC 0)))/\(S.Po.l0 (S.Chip.po (S.ofW W))=bc (S.sOkP (W 36) (W 37) (W 38) (W 39) (W 40) (W 41) (W 42) (W 43) (W 44) (W 45) (W 46)) (eqI (W 45) 1) (S.Po.l0 (S.Chip.po (S.newC 0)))/\(S.Po.h1 (S.Chip.po (S.ofW W))=bc (S.sOkP (W 36) (W 37) (W 38) (W 39) (W 40) (W 41) (W 42) (W 43) (W 44) (W 45) (W 46)) (eqI (W 43) 1) (S.Po.h1 (S.Chip.po (S.newC 0)))/\(S.Po.l1 (S.Chip.po (S.ofW W))=bc (S.sOkP (W 36) (W 37) (W 38) (W 39) (W 40) (W 41) (W 42) (W 43) (W 44) (W 45) (W 46)) (eqI (W 46) 1) (S.Po.l1 (S.Chip.po (S.newC 0)))/\(S.Po.ylx2 (S.Chip.po (S.ofW W))=bc (S.sOkP (W 36) (W 37) (W 38) (W 39) (W 40) (W 41) (W 42) (W 43) (W 44) (W 45) (W 46)) (eqI (W 44) 1) (S.Po.ylx2 (S.Chip.po (S.newC 0)))/\True)))))))))))))))))))))))))))))))))))))))))))))))))))))))))))))))))))))))))))))))))))))))))))))))))))))))))))))))))))))))))))))))))))))))))))))))))))))))))))))))))))))))))))))))))))))))))))))))))))))))))))))))):=by kernel_rfl
theorem ymn2 (c:S.Chip) (W:Nat->Int) (h0:S.setOk W=true)  : HTr Tryz.prog 24 [.ptr 0 0,.slice 40 0 81 (.rest 0)] (ysy1 c W) (yuj2 c W):=by
 refine K.yca0 good (A:=yvj2) (yha0 ?_) K.yea0 (k:=30) (cast (yln2 c W).symm ?_)
 .intro p hp;simp only [List.mem_cons,List.not_mem_nil,or_false] at hp;rcases hp with rfl | rfl | rfl | rfl | rfl | rfl | rfl | rfl;exact yar0;exact yfn2;exact ywt2;exact ysw2;exact yrw2;exact ybu2;exact ykn2;exact yeu2
 .unfold S.setOk at h0;simp only [S.yla0] at h0;obtain ⟨q0,q1,q2,q3,q4,q5,q6,q7,q8,q9,q10,q11,q12,q13,q14,q15,q16,q17,q18,q19,q20,q21,q22,q23,q24,q25,q26,q27,q28,q29,q30,q31,q32,q33,q34,q35,q36,q37,q38,q39,q40,q41,q42,q43⟩:=h0;have l47:=(S.yva0.1 q10);have a47:ltI (W 47) 0=false:=yba0.2 l47.1;have b47:ltI 255 (W 47)=false:=yba0.2 l47.2;have l48:=(S.yva0.1 q11);have a48:ltI (W 48) 0=false:=yba0.2 l48.1;have b48:ltI 255 (W 48)=false:=yba0.2 l48.2;have l49:=(S.yva0.1 q12);have a49:ltI (W 49) 0=false:=yba0.2 l49.1;have b49:ltI 255 (W 49)=false:=yba0.2 l49.2;have l50:=(S.yva0.1 q13);have a50:ltI (W 50) 0=false:=yba0.2 l50.1;have b50:ltI 255 (W 50)=false:=yba0.2 l50.2;have l51:=(S.yva0.1 q14);have a51:ltI (W 51) 0=false:=yba0.2 l51.1;have b51:ltI 255 (W 51)=false:=yba0.2 l51.2;have l52:=(S.yva0.1 q15);have a52:ltI (W 52) 0=false:=yba0.2 l52.1;have b52:ltI 255 (W 52)=false:=yba0.2 l52.2;have l53:=(S.yva0.1 q16);have a53:ltI (W 53) 0=false:=yba0.2 l53.1;have b53:ltI 255 (W 53)=false:=yba0.2 l53.2;have l54:=(S.yva0.1 q17);have a54:ltI (W 54) 0=false:=yba0.2 l54.1;have b54:ltI 255 (W 54)=false:=yba0.2 l54.2;have l55:=(S.yva0.1 q18);have a55:ltI (W 55) 0=false:=yba0.2 l55.1;have b55:ltI 255 (W 55)=false:=yba0.2 l55.2;have l56:=(S.yva0.1 q19);have a56:ltI (W 56) 0=false:=yba0.2 l56.1;have b56:ltI 255 (W 56)=false:=yba0.2 l56.2;have l57:=(S.yva0.1 q20);have a57:ltI (W 57) 0=false:=yba0.2 l57.1;have b57:ltI 255 (W 57)=false:=yba0.2 l57.2;have l58:=(S.yva0.1 q21);have a58:ltI (W 58) 0=false:=yba0.2 l58.1;have b58:ltI 255 (W 58)=false:=yba0.2 l58.2;have l59:=(S.yva0.1 q22);have a59:ltI (W 59) 0=false:=yba0.2 l59.1;have b59:ltI 255 (W 59)=false:=yba0.2 l59.2;have l60:=(S.yva0.1 q23);have a60:ltI (W 60) 0=false:=yba0.2 l60.1;have b60:ltI 255 (W 60)=false:=yba0.2 l60.2;have l61:=(S.yva0.1 q24);have a61:ltI (W 61) 0=false:=yba0.2 l61.1;have b61:ltI 255 (W 61)=false:=yba0.2 l61.2;have l62:=(S.yva0.1 q25);have a62:ltI (W 62) 0=false:=yba0.2 l62.1;have b62:ltI 255 (W 62)=false:=yba0.2 l62.2;have l63:=(S.yva0.1 q26);have a63:ltI (W 63) 0=false:=yba0.2 l63.1;have b63:ltI 255 (W 63)=false:=yba0.2 l63.2;have l64:=(S.yva0.1 q27);have a64:ltI (W 64) 0=false:=yba0.2 l64.1;have b64:ltI 255 (W 64)=false:=yba0.2 l64.2;have l65:=(S.yva0.1 q28);have a65:ltI (W 65) 0=false:=yba0.2 l65.1;have b65:ltI 255 (W 65)=false:=yba0.2 l65.2;have l66:=(S.yva0.1 q29);have a66:ltI (W 66) 0=false:=yba0.2 l66.1;have b66:ltI 255 (W 66)=false:=yba0.2 l66.2;have l69:=(S.yva0.1 q30);have a69:ltI (W 69) 0=false:=yba0.2 l69.1;have b69:ltI 255 (W 69)=false:=yba0.2 l69.2;have l70:=(S.yva0.1 q31);have a70:ltI (W 70) 0=false:=yba0.2 l70.1;have b70:ltI 255 (W 70)=false:=yba0.2 l70.2;have l71:=(S.yva0.1 q32);have a71:ltI (W 71) 0=false:=yba0.2 l71.1;have b71:ltI 255 (W 71)=false:=yba0.2 l71.2;have l72:=(S.yva0.1 q33);have a72:ltI (W 72) 0=false:=yba0.2 l72.1;have b72:ltI 255 (W 72)=false:=yba0.2 l72.2;have l73:=(S.yva0.1 q34);have a73:ltI (W 73) 0=false:=yba0.2 l73.1;have b73:ltI 255 (W 73)=false:=yba0.2 l73.2;have l74:=(S.yva0.1 q35);have a74:ltI (W 74) 0=false:=yba0.2 l74.1;have b74:ltI 255 (W 74)=false:=yba0.2 l74.2;have l75:=(S.yva0.1 q36);have a75:ltI (W 75) 0=false:=yba0.2 l75.1;have b75:ltI 255 (W 75)=false:=yba0.2 l75.2;have l76:=(S.yva0.1 q37);have a76:ltI (W 76) 0=false:=yba0.2 l76.1;have b76:ltI 255 (W 76)=false:=yba0.2 l76.2;have l77:=(S.yva0.1 q38);have a77:ltI (W 77) 0=false:=yba0.2 l77.1;have b77:ltI 255 (W 77)=false:=yba0.2 l77.2;have l78:=(S.yva0.1 q39);have a78:ltI (W 78) 0=false:=yba0.2 l78.1;have b78:ltI 255 (W 78)=false:=yba0.2 l78.2;have l67:=(S.yva0.1 q40);have a67:ltI (W 67) 0=false:=yba0.2 l67.1;have b67:ltI 1 (W 67)=false:=yba0.2 l67.2;have l68:=(S.yva0.1 q41);have a68:ltI (W 68) 0=false:=yba0.2 l68.1;have b68:ltI 1 (W 68)=false:=yba0.2 l68.2;have l79:=(S.yva0.1 q42);have a79:ltI (W 79) 0=false:=yba0.2 l79.1;have b79:ltI 32767 (W 79)=false:=yba0.2 l79.2;have l80:=(S.yva0.1 q43);have a80:ltI (W 80) 0=false:=yba0.2 l80.1;have b80:ltI 1 (W 80)=false:=yba0.2 l80.2;have e00:eqI 0 0=true:=rfl;have k0:S.inR 0 228=true:=rfl;simp only [q0,q1,q2,q3,q4,q5,q6,q7,q8,q9,a47,b47,a48,b48,a49,b49,a50,b50,a51,b51,a52,b52,a53,b53,a54,b54,a55,b55,a56,b56,a57,b57,a58,b58,a59,b59,a60,b60,a61,b61,a62,b62,a63,b63,a64,b64,a65,b65,a66,b66,a69,b69,a70,b70,a71,b71,a72,b72,a73,b73,a74,b74,a75,b75,a76,b76,a77,b77,a78,b78,a67,b67,a68,b68,a79,b79,a80,b80,k0,e00,bc_true,bc_false,yra0,yqa0,S.ytu1,S.newC,S.th0,S.vo0,S.an,S.ofW,and_self,true_and,and_true]
namespace S
theorem yhf2:∀ (ws:List LV) (j:Nat),allI ws=true->j<ws.length->ws[j]?=some (.int .i64 (intOf (K.atV ws j)))
 | [],j,_,h=>by simp at h
 | v::ws,0,h,_=>by
  have h:=(yla0.1 h).1;unfold isI at h;split at h
  .rfl
  .cases h
 | v::ws,j+1,h,hl=>by
  have:=yhf2 ws j (yla0.1 h).2 (by simpa using hl);simpa [K.atV] using this
theorem ws_eq {ws:List LV} (h:allI ws=true) (hl:lenL ws=81):ws=(List.range 81).map fun j=>.int .i64 (Wof ws j):=by
 rw [Ev.lenL_eq] at hl;apply List.ext_getElem?;intro j;by_cases hj:j<81
 .rw [yhf2 ws j h (by omega),List.getElem?_map,List.getElem?_range hj];rfl
 .rw [List.getElem?_eq_none (by omega),List.getElem?_eq_none (by simp;omega)]
end S
theorem ync2 (c:S.Chip) (W:Nat->Int):ysy1 c W=S.hpP 0 c++[.cells 3 (.grow 1) ((List.range 81).map fun j=>.int .i64 (W j))]:=by kernel_rfl
theorem yfu2:kSetE.ok Tryz.prog 24:=by
 intro xs os b r h h3;unfold kSetE at h;simp only at h;split at h
 .obtain ⟨c,rest,rfl,q⟩:=S.ypd1 h;clear h;split at q
  .rename_i t ws;cases hc:S.an (Nat.beq t 3) (S.an (S.allI ws) (Nat.beq (lenL ws) 81)) with
   | false=>rw [hc,bc_false] at q;cases q
   | true =>
    rw [hc,bc_true] at q;obtain ⟨a,hc⟩:=S.yla0.1 hc;obtain ⟨d,e⟩:=S.yla0.1 hc;have a:=Nat.eq_of_beq_eq_true a;subst a;injection q with h;injection h with h1 h2;subst h1;subst h2;have key:=ymn2 c (S.Wof ws) h3
    have eo:ysy1 c (S.Wof ws)=S.hpP 0 c++[.cells 3 (.grow 1) ws]:=by
     rw [ync2,<- S.ws_eq d (Nat.eq_of_beq_eq_true e)]
    unfold HTr at key;rw [eo] at key;exact key
  .cases q
 .cases h
theorem yoc2 (c:S.Chip):K.bodyF (ymq1) (K.runF (ymq1) 30) 26 [.ptr 0 0] (Heap.of (S.hp0 c)) Hint.auto (K.endC K.openE 40 ⟨.ret (.ptr 40 0),[],(S.hpP 40 (S.cpC c))⟩) =
  (bc (S.okC c) (bc (S.setOk (S.Wof (wList c))) ((0:Nat)=0/\(S.eqD (S.cpC c) (S.ofW (S.Wof (wList c))) True)) False) False):=by kernel_rfl
theorem ypc2 (c:S.Chip) (h0:S.an (S.okC c) (S.setOk (S.wd c))=true)  : HTr Tryz.prog 26 [.ptr 0 0] (S.hp0 c) ⟨.ret (.ptr 40 0),[],(S.hpP 40 (S.cpC c))⟩:=by
 refine K.yca0 good (A:=ymq1) (yha0 ?_) K.yea0 (k:=30) (cast (yoc2 c).symm ?_)
 .intro p hp;simp only [List.mem_cons,List.not_mem_nil,or_false] at hp;rcases hp with rfl | rfl | rfl;exact yar0;exact yhj0;exact yfu2
 .obtain ⟨h1,h2⟩:=S.yla0.1 h0;have e1:S.setOk (S.Wof (wList c))=S.setOk (S.wd c):=by kernel_rfl
  have e2:S.cpC c=S.ofW (S.Wof (wList c)):=by kernel_rfl
  have k0:S.inR 0 228=true:=rfl;simp only [h1,e1,h2,k0,bc_true,S.ycc2 e2,and_self]
theorem yqd1:ylq1.ok Tryz.prog 26:=by
 intro xs os b r h h3;unfold ylq1 at h;simp only at h;split at h
 .obtain ⟨c,rfl,q⟩:=S.ylb0 h;clear h;injection q with h;injection h with h1 h2;subst h1;subst h2;exact ypc2 _ h3
 .cases h
namespace S
theorem yuu1 {a b:Bool} : eqB2 a b=true↔a=b:=by cases a <;> cases b <;> decide
theorem ygg0 {c:Chip} : okS c=true↔okZ c=true/\okG c=true/\okPt c.po=true/\okMt c.mc c.mg c.mm=true:=by
 unfold okS;simp only [yla0]
theorem ygu2:∀ (i:Fin 32) (k:Fin 5),inR (clr ((i.val:Nat):Int) (2 ^ k.val)) 32=true:=by decide +kernel
theorem yhd0 {n mc m:Int} (k:Fin 5) (h:inR m 32=true):inR (mo (2 ^ k.val) n mc m) 32=true:=by
 have h1:=yga0.1 h;unfold mo;refine bcP (P:=fun x=>inR x 32=true) ?_ h;have:=ygu2 ⟨m.toNat,by omega⟩ k
 rwa [show (((⟨m.toNat,by omega⟩ : Fin 32).val:Nat):Int)=m from Int.toNat_of_nonneg h1.1] at this
theorem yvu1 {n0 n1 n2 n3 n4 mc m:Int} (h:inR m 32=true):inR (mo5 n0 n1 n2 n3 n4 mc m) 32=true:=by
 unfold mo5 mo4 mo3 mo2 mo1;exact yhd0 4 (yhd0 3 (yhd0 2 (yhd0 1 (yhd0 0 h))))
theorem yrd1 {mc mg mm:Int} : okMt mc mg mm=true↔inR mm 32=true/\(mc=16->mg=0/\mm=0):=by
 unfold okMt;rw [yla0];refine and_congr Iff.rfl ?_;by_cases e:mc=16
 .rw [ypa0.2 e];show an (eqI mg 0) (eqI mm 0)=true↔_;rw [yla0,ypa0,ypa0];exact ⟨fun h _=>h,fun h=>h e⟩
 .rw [ycb0.2 e];exact ⟨fun _ h=>absurd h e,fun _=>rfl⟩
theorem yqc2 {mc mg mm k n0 n1 n2 n3 n4:Int} (h0:0<=mc) (h1:mc<17) (g0:0<=mg) (g1:mg<4) (hk:0<=k) (h:okMt mc mg mm=true):okMt (mC mc mg k) (mG mc mg k) (mM mc mg mm k n0 n1 n2 n3 n4)=true:=by
 rw [yrd1] at h ⊢;rw [mC_eq h0 h1 hk,mG_eq h0 h1 g0 g1 hk];unfold mM;cases ha:mAct mc mg k with
 | false =>
  have na:¬ (mc<16/\3<=mg/\k % 4=0):=fun e=>by rw [(yux0 hk).2 e] at ha;cases ha
  rw [bc_false,if_neg na];refine ⟨h.1,fun e=>?_⟩;rw [if_neg (by omega)];exact h.2 e
 | true =>
  have a:=(yux0 hk).1 ha;rw [bc_true,if_pos a];cases hl:mLast mc with
  | false =>
   have nl:mc≠15:=fun e=>by rw [(yzo0 h0 h1).2 e] at hl;cases hl
   rw [bc_false];exact ⟨yvu1 h.1,fun e=>by omega⟩
  | true =>
   have l:=(yzo0 h0 h1).1 hl;rw [bc_true];refine ⟨rfl,fun _=>⟨?_,rfl⟩⟩;rw [if_pos a.1,if_neg (by omega),if_pos ⟨a.2.2,l⟩]
theorem ysd1 {p:Po} : okPt p=true↔(p.ynx2=true->p.ymx2=0)/\see p.ylx2 p.l0 p.h0=p.l0/\see p.ylx2 p.l1 p.h1=p.l1:=by
 unfold okPt;rw [yla0,yla0,yuu1,yuu1];refine and_congr ?_ Iff.rfl;cases p.ynx2 with
 | false=>exact ⟨fun _ h=>(by cases h),fun _=>rfl⟩
 | true =>
  by_cases e:p.ymx2=0
  .rw [ypa0.2 e];exact ⟨fun _ _=>e,fun _=>rfl⟩
  .rw [ycb0.2 e];exact ⟨fun h=>(by cases h),fun h=>absurd (h rfl) e⟩
theorem ysg1 (b l h:Bool):see b (see b l h) h=see b l h:=by cases b <;> cases l <;> cases h <;> rfl
theorem ynn2 {c:Chip} (h:okG c=true):okG (stepC c)=true:=h
theorem yon2 {c:Chip} (h:okS c=true):okS (stepC c)=true:=by
 obtain ⟨hz,hg,hp,hm⟩:=ygg0.1 h;obtain ⟨⟨h0,h1⟩,g0,g1⟩:=okZ_m hz;refine ygg0.2 ⟨yij0 hz,ynn2 hg,?_,yqc2 h0 h1 g0 g1 (yvf0 (okZ_C hz)).1 hm⟩;rw [ysd1] at hp ⊢;refine ⟨fun hd=>?_,hp.2⟩;have hd:c.po.ynx2=true:=hd;show bc (sBeg c.ba c.bs) (pkC c.po.ymx2 c.po.ynx2) c.po.ymx2=0;have e:=hp.1 hd;unfold pkC;rw [hd,e];cases sBeg c.ba c.bs <;> rfl
theorem yrc2 {c:Chip} {addr v:Int} (hv:inR v 256=true) (h:okG c=true):okG (yvb0 addr v c)=true:=by
 unfold okG at h ⊢;simp only [yla0] at h ⊢;obtain ⟨q0,q1,q2,q3,q4,q5,q6,q7,q8,q9,q10,q11,q12,q13,q14,q15,q16,q17,q18,q19,q20,q21,q22,q23,q24,q25,q26,q27,q28,q29⟩:=h;have z:inR 0 256=true:=rfl;exact ⟨inRg hv q0,inRg hv q1,inRg hv q2,inRg hv q3,inRg hv q4,inRg hv q5,inRg hv q6,inRg hv q7,inRg hv q8,inRg hv q9,inRg hv q10,inRg hv q11,inRg hv q12,inRg hv q13,inRg hv q14,inRg hv q15,inRg z (inRg hv q16),inRg z (inRg hv q17),inRg z (inRg hv q18),inRg z (inRg hv q19),inRg z (inRg hv q20),inRg hv q21,inRg hv q22,inRg hv q23,inRg hv q24,inRg hv q25,inRg hv q26,inRg q26 q27,inRg hv q28,inRg q28 q29⟩
theorem ysc2 {c:Chip} {addr v:Int} (hv:inR v 256=true) (h:okS c=true):okS (yvb0 addr v c)=true:=by
 obtain ⟨hz,hg,hp,hm⟩:=ygg0.1 h;refine ygg0.2 ⟨ypj0 hv hz,yrc2 hv hg,?_,?_⟩
 .rw [ysd1] at hp ⊢;show (rb (adr addr) 1 (hb .u8 v 128) c.po.ynx2=true->rg (adr addr) 1 (bc (hb .u8 v 128) 0 c.po.ymx2) c.po.ymx2=0)/\see (rb (adr addr) 1 (hb .u8 v 64) c.po.ylx2) (rb (adr addr) 1 (see (hb .u8 v 64) c.po.l0 c.po.h0) c.po.l0) c.po.h0=rb (adr addr) 1 (see (hb .u8 v 64) c.po.l0 c.po.h0) c.po.l0/\see (rb (adr addr) 1 (hb .u8 v 64) c.po.ylx2) (rb (adr addr) 1 (see (hb .u8 v 64) c.po.l1 c.po.h1) c.po.l1) c.po.h1=rb (adr addr) 1 (see (hb .u8 v 64) c.po.l1 c.po.h1) c.po.l1;unfold rb rg;cases eqI (adr addr) 1 with
  | false=>exact hp
  | true =>
   refine ⟨fun hd=>?_,ysg1 _ _ _,ysg1 _ _ _⟩;have hd:hb .u8 v 128=true:=hd;rw [hd];rfl
 .rw [yrd1] at hm ⊢;show inR (rg (adr addr) 42 31 c.mm) 32=true/\(rg (adr addr) 42 0 c.mc=16->rg (adr addr) 42 0 c.mg=0/\rg (adr addr) 42 31 c.mm=0);unfold rg;cases eqI (adr addr) 42 with
  | false=>exact hm
  | true=>exact ⟨rfl,fun e=>absurd (show (0:Int)=16 from e) (by decide)⟩
theorem ytw2 {c:Chip} {n v:Int} (hv:inR v 256=true) (h:okS c=true):okS (inC n v c)=true:=by
 obtain ⟨hz,hg,hp,hm⟩:=ygg0.1 h;refine ygg0.2 ⟨yqw2 hv hz,hg,?_,hm⟩;rw [ysd1] at hp ⊢;refine ⟨hp.1,?_,?_⟩
 .show see c.po.ylx2 (pkL n v 4 c.po.ylx2 c.po.l0 c.po.h0) (pkH n v 4 c.po.h0)=pkL n v 4 c.po.ylx2 c.po.l0 c.po.h0;unfold pkL;cases ho:orb (eqI n 4) (eqI n 5) with
  | true=>exact ysg1 _ _ _
  | false =>
   have e:eqI n 4=false:=by cases h4:eqI n 4 with
    | false=>rfl
    | true=>rw [h4] at ho;cases ho
   have:pkH n v 4 c.po.h0=c.po.h0:=by unfold pkH;rw [e];rfl
   rw [this];exact hp.2.1
 .show see c.po.ylx2 (pkL n v 5 c.po.ylx2 c.po.l1 c.po.h1) (pkH n v 5 c.po.h1)=pkL n v 5 c.po.ylx2 c.po.l1 c.po.h1;unfold pkL;cases ho:orb (eqI n 4) (eqI n 5) with
  | true=>exact ysg1 _ _ _
  | false =>
   have e:eqI n 5=false:=by cases h4:eqI n 5 with
    | false=>rfl
    | true=>rw [h4] at ho;revert ho;cases eqI n 4 <;> (intro h;cases h)
   have:pkH n v 5 c.po.h1=c.po.h1:=by unfold pkH;rw [e];rfl
   rw [this];exact hp.2.2
theorem yhu2 {k:Int} (h:inR k 228=true):okS (newC k)=true :=
 ygg0.2 ⟨yvt2 h,rfl,rfl,rfl⟩
theorem ytc2 {n:Nat} : ∀ {c:Chip},okS c=true->okS (goC n c)=true:=by
 induction n with
 | zero=>exact fun h=>h
 | succ n ih=>exact fun h=>ih (yon2 h)
theorem yiu2 {kd st ad v m:Int} {c:Chip} (hv:inR v 256=true) (h:okS c=true):okS (didC kd st ad v m c)=true:=by
 unfold didC;split
 .exact ytc2 h
 .split
  .exact h
  .split
   .exact ytw2 hv h
   .exact ysc2 hv h
theorem ywu1 {vs:List LV} {L:Nat} (h:yrh0 vs L=true):∀ (k:Nat) (i:Int) (c:Chip),0<=i->i+k<=L->okS c=true->okS (madeC vs k i c)=true
 | 0,_,_,_,_,hc=>hc
 | k+1,i,c,h0,h1,hc=>ywu1 h k (i+1) _ (by omega) (by omega) (yiu2 (ymu1 h h0 (by omega)).2 hc)
theorem ypn2 {vs:List LV} {L:Nat} {k:Int} (h:yrh0 vs L=true) (hk:inR k 256=true):okS (mkC vs L k)=true :=
 ywu1 h L 0 _ (by decide) (by omega) (yhu2 (yam0 hk))
theorem u8_in (x:Int):inR (wrapK .u8 x) 256=true:=by rw [yga0,ywc0];omega
theorem okT_w {m y e:Int} (h:okW m y e=true):okT ⟨m % 4,st (m / 4),sline y e,sscan y e⟩=true:=by
 have hw:=yeg0.1 h;unfold okT;rw [yla0];exact ⟨yzs0 hw.1.1 hw.1.2,(ykk2 h).2.2⟩
theorem yju2 {a b c d e f g:Int} {x h:Bool} {w7:Int} (q:sOkV a b c d e f g w7=true):okVo ⟨a,b,c,d,e,f,g,h⟩=true:=by
 unfold sOkV at q;simp only [yla0,yva0] at q;unfold okVo;rw [yat0];show ((0<=a/\a<16)/\(0<=b/\b<32)/\0<=c/\c<16)/\((0<=d/\d<16)/\0<=e/\e<32)/\(0<=f/\f<512)/\0<=g/\g<96;omega
theorem yku2 {W:Nat->Int} (h:setOk W=true):okQ (ofW W)=true:=by
 unfold setOk at h;simp only [yla0] at h;obtain ⟨hb,hm,t0,t1,t2,t3,t4,v0,v1,hp,_,_,_,_,_,_,_,_,_,_,_,_,_,_,_,_,_,_,_,_,_,_,_,_,_,_,_,_,_,_,q67,q68,q79,q80⟩:=h;obtain ⟨hb,_⟩:=yla0.1 hb;have b:=yva0.1 hb;have k0:=okT_w t0;have k1:=okT_w t1;have k2:=okT_w t2;have k3:=okT_w t3;have k4:=okT_w t4;have m:=yva0.1 q79;unfold okQ;rw [yla0,ygf0];refine ⟨⟨yzb2 (n:=W 0) b.1 (by omega),?_,yog0.2 ⟨u8_in _,u8_in _,k0,k1,k2,k3,k4⟩,yen0.2 ⟨?_,?_,?_,?_,⟨u8_in _,ycr0 k4⟩,u8_in _,u8_in _,u8_in _,u8_in _⟩,yju2 (x:=true) v0,yju2 (x:=true) v1⟩,?_⟩
 .unfold sOkP at hp;simp only [yla0,yva0] at hp;rw [ych0];show ((0<=W 36/\W 36<256)/\0<=W 37/\W 37<256)/\((0<=W 38/\W 38<256)/\0<=W 39/\W 39<256)/\0<=W 40/\W 40<512;omega
 .unfold okY;simp only [yla0];exact ⟨u8_in _,u8_in _,u8_in _,ycr0 k0⟩
 .unfold okY;simp only [yla0];exact ⟨u8_in _,u8_in _,u8_in _,ycr0 k1⟩
 .unfold okM;rw [yla0];exact ⟨u8_in _,ycr0 k2⟩
 .unfold okM;rw [yla0];exact ⟨u8_in _,ycr0 k3⟩
 .rw [yga0];show 0<=wrapK .u16 (W 79)/\wrapK .u16 (W 79)<32768;rw [yve0];omega
end S
namespace S
theorem ye_ok {M scan:Int} (h0:8<=scan) (h1:scan<256):(0<=young M scan/\young M scan<=255)/\elder M scan<=255/\(young M scan<8->young M scan<elder M scan)/\(8<=young M scan->elder M scan=255):=by
 unfold young elder;generalize bit 0 M=b0;generalize bit 1 M=b1;generalize bit 2 M=b2;generalize bit 3 M=b3;generalize bit 4 M=b4;generalize bit 5 M=b5;generalize bit 6 M=b6;generalize bit 7 M=b7;cases b0 <;> cases b1 <;> cases b2 <;> cases b3 <;> cases b4 <;> cases b5 <;> cases b6 <;> cases b7 <;> simp only [bc_true,bc_false] <;> refine ⟨⟨by omega,by omega⟩,by first | omega | trivial,fun _=>by first | omega | trivial,fun _=>by first | omega | trivial⟩
theorem yxu1 {t:Th} (h:okT t=true):okW (cnt t) (young t.M t.scan) (elder t.M t.scan)=true:=by
 have hc:=ybm0 h;obtain ⟨_,s0,s1⟩:=ynk0.1 (ycr0 h);have y:=ye_ok (M:=t.M) s0 s1;rw [yeg0];exact ⟨hc,y.1,y.2.1,y.2.2.1,y.2.2.2⟩
theorem ykt0 (b:Bool):rng (bc b 1 0) 1=true:=by cases b <;> rfl
theorem yuw2 (b:Bool):eqI (bc b 1 0) 1=b:=by cases b <;> rfl
theorem yvw2 {x n m:Int} (h:inR x m=true) (e:m<=n+1):rng x n=true:=by
 have:=yga0.1 h;exact yva0.2 ⟨this.1,by omega⟩
theorem w_reg {x:Int} (h:inR x 256=true):rng (wrapK .i64 x) 255=true:=by
 have:=yga0.1 h;rw [show wrapK .i64 x=x by rw [yja0];omega];exact yvw2 h (by decide)
theorem vo_ok {v:Vo} (h:okVo v=true):sOkV v.ykx2 v.I v.yox2 v.f4 v.f5 v.f9 v.count (bc v.high 1 0)=true:=by
 unfold okVo at h;obtain ⟨⟨hc,hr,hv⟩,⟨h4,h5⟩,h9,hn⟩:=yat0.1 h;unfold sOkV;simp only [yla0,yva0];exact ⟨⟨hc.1,by omega⟩,⟨hr.1,by omega⟩,⟨hv.1,by omega⟩,⟨h4.1,by omega⟩,⟨h5.1,by omega⟩,⟨h9.1,by omega⟩,⟨hn.1,by omega⟩,yva0.1 (ykt0 _)⟩
theorem po_ok {p:Po} (h:okPt p=true) (h2:okP p.v0 p.v1 p.v2 p.v3 p.ymx2=true):sOkP p.v0 p.v1 p.v2 p.v3 p.ymx2 (bc p.ynx2 1 0) (bc p.h0 1 0) (bc p.h1 1 0) (bc p.ylx2 1 0) (bc p.l0 1 0) (bc p.l1 1 0)=true:=by
 obtain ⟨⟨a0,a1⟩,⟨a2,a3⟩,a4⟩:=ych0.1 h2;unfold okPt at h;obtain ⟨p1,p2⟩:=yla0.1 h;unfold sOkP;simp only [yuw2,ykt0,yla0];exact ⟨⟨yva0.2 ⟨a0.1,by omega⟩,yva0.2 ⟨a1.1,by omega⟩,yva0.2 ⟨a2.1,by omega⟩,yva0.2 ⟨a3.1,by omega⟩⟩,yva0.2 ⟨a4.1,by omega⟩,⟨trivial,trivial,trivial,trivial,trivial,trivial⟩,p1,yla0.1 p2⟩
theorem mt_ok {mc mg mm:Int} (h0:0<=mc/\mc<17) (h1:0<=mg/\mg<4) (h:okMt mc mg mm=true):sOkM mc mg (wrapK .i64 mm)=true:=by
 obtain ⟨hm,h3⟩:=yla0.1 h;have m:=yga0.1 hm;rw [show wrapK .i64 mm=mm by rw [yja0];omega];unfold sOkM;simp only [yla0];exact ⟨⟨yva0.2 ⟨h0.1,by omega⟩,yva0.2 ⟨h1.1,by omega⟩,yva0.2 ⟨m.1,by omega⟩⟩,h3⟩
theorem yyu1 {c:Chip} (h:okS c=true):setOk (wd c)=true:=by
 obtain ⟨hz,hg,hp,hm⟩:=ygg0.1 h;obtain ⟨m0,m1⟩:=okZ_m hz;obtain ⟨pb,pp,pt,pd,pv,pw⟩:=ygf0.1 (okZ_C hz);obtain ⟨a0,a1,a2,a3,a4⟩:=yjj1 hz;have hq:=(yla0.1 (okZ_Q hz)).2;have p:=yvf0 (okZ_C hz);unfold okG at hg;simp only [yla0] at hg;obtain ⟨q0,q1,q2,q3,q4,q5,q6,q7,q8,q9,q10,q11,q12,q13,q14,q15,q16,q17,q18,q19,q20,q21,q22,q23,q24,q25,q26,q27,q28,q29⟩:=hg;have mt:=yga0.1 hq;unfold setOk;simp only [yla0];exact ⟨yla0.2 ⟨yva0.2 ⟨p.1,Int.lt_add_one_iff.1 p.2.1⟩,ykt0 _⟩,mt_ok m0 m1 hm,yxu1 a0,yxu1 a1,yxu1 a2,yxu1 a3,yxu1 a4,vo_ok pv,vo_ok pw,po_ok hp pp,w_reg q0,w_reg q1,w_reg q4,w_reg q5,w_reg q6,w_reg q7,w_reg q8,w_reg q9,w_reg q10,w_reg q11,w_reg q12,w_reg q13,w_reg q14,w_reg q15,w_reg q26,w_reg q27,w_reg q28,w_reg q29,w_reg q2,w_reg q3,w_reg q16,w_reg q17,w_reg q18,w_reg q19,w_reg q20,w_reg q21,w_reg q22,w_reg q23,w_reg q24,w_reg q25,ykt0 _,ykt0 _,yva0.2 (show 0<=wrapK .i64 c.met/\wrapK .i64 c.met<=32767 by rw [show wrapK .i64 c.met=c.met by rw [yja0];omega];omega),ykt0 _⟩
end S
namespace S
theorem yxf0 {s:Ms} : okMs s=true↔(0<=s.mc/\s.mc<17)/\(0<=s.mg/\s.mg<4)/\(0<=s.k/\s.k+msMu s<=400)/\-20<=s.o/\s.o+msMu s<=100:=by
 unfold okMs;simp only [yla0,yga0,yua0,yba0]
theorem tm_eq {k:Int} (h:0<=k):k.tmod 228=k % 228:=Int.tmod_eq_emod_of_nonneg h
theorem yfr0 {s:Ms} (h:(0<=s.mc/\s.mc<17)/\(0<=s.mg/\s.mg<4)):0<=msMu s/\msMu s<=67:=by
 unfold msMu;split <;> omega
theorem yuc2 {lt:Bool} {n:Int} {s:Ms} (h:(0<=s.mc/\s.mc<17)/\(0<=s.mg/\s.mg<4)) (hk:0<=s.k):(msN lt n s).mc=if s.mc<16/\3<=s.mg/\s.k % 4=0 then s.mc+1 else s.mc:=by
 show mC _ _ _=_;rw [tm_eq hk,mC_eq h.1.1 h.1.2 (by omega),show s.k % 228 % 4=s.k % 4 by omega]
theorem yqn2 {lt:Bool} {n:Int} {s:Ms} (h:(0<=s.mc/\s.mc<17)/\(0<=s.mg/\s.mg<4)) (hk:0<=s.k):(msN lt n s).mg=if s.mc<16 then (if s.mg<3 then s.mg+1 else if s.k % 4=0/\s.mc=15 then 0 else s.mg) else s.mg:=by
 show mG _ _ _=_;rw [tm_eq hk,mG_eq h.1.1 h.1.2 h.2.1 h.2.2 (by omega),show s.k % 228 % 4=s.k % 4 by omega]
theorem yif2 {lt:Bool} {n:Int} {s:Ms} (h:(0<=s.mc/\s.mc<17)/\(0<=s.mg/\s.mg<4)) (hk:0<=s.k):(0<=(msN lt n s).mc/\(msN lt n s).mc<17)/\(0<=(msN lt n s).mg/\(msN lt n s).mg<4):=by
 rw [yuc2 h hk,yqn2 h hk];refine ⟨?_,?_⟩
 .split <;> omega
 .split
  .split
   .omega
   .split <;> omega
  .omega
theorem yzu1 {lt:Bool} {n:Int} {s:Ms} (h:(0<=s.mc/\s.mc<17)/\(0<=s.mg/\s.mg<4)) (hk:0<=s.k):msMu (msN lt n s)=if s.mc<16 then msMu s-1 else 0:=by
 obtain ⟨⟨h0,h1⟩,g0,g1⟩:=h;unfold msMu;rw [yuc2 ⟨⟨h0,h1⟩,g0,g1⟩ hk,yqn2 ⟨⟨h0,h1⟩,g0,g1⟩ hk,show (msN lt n s).k=s.k+1 from rfl];by_cases a:s.mc<16
 .by_cases b:s.mg<3
  .simp only [a,b,if_true,true_and];rw [if_neg (show ¬ (3<=s.mg/\s.k % 4=0) by omega)];simp only [a,if_true];omega
  .have g:s.mg=3:=by omega
   simp only [a,b,if_true,if_false,true_and];by_cases d:s.k % 4=0
   .by_cases e:s.mc=15
    .simp only [d,e,and_self,and_true,if_true];rw [if_pos (show 3<=s.mg by omega)];rw [if_neg (by omega)];omega
    .simp only [d,e,and_self,and_true,and_false,if_true,if_false];rw [if_pos (show 3<=s.mg by omega)];rw [if_pos (show s.mc+1<16 by omega)];omega
   .simp only [d,and_false,false_and,if_false,a,if_true];omega
 .simp only [a,if_false,false_and]
theorem ygr0 {s:Ms} (h:(0<=s.mc/\s.mc<17)/\(0<=s.mg/\s.mg<4)) (hm:s.mc<16):0<msMu s:=by
 unfold msMu;rw [if_pos hm];omega
theorem yrn2 {lt:Bool} {n:Int} {s:Ms} (h:okMs s=true) (hm:s.mc<16):okMs (msN lt n s)=true:=by
 obtain ⟨h1,h2,h3,h4⟩:=yxf0.1 h;have m:=yzu1 (lt:=lt) (n:=n) ⟨h1,h2⟩ h3.1;rw [if_pos hm] at m;have r:=yif2 (lt:=lt) (n:=n) ⟨h1,h2⟩ h3.1;rw [yxf0,m];have e1:(msN lt n s).k=s.k+1:=rfl
 have e2:(msN lt n s).o=s.o\/(msN lt n s).o=s.o+1:=by
  show bc _ (s.o+1) s.o=_\/bc _ (s.o+1) s.o=_;cases an (msMv n s) (msDk lt s.k)
  .exact Or.inl rfl
  .exact Or.inr rfl
 refine ⟨r.1,r.2,⟨by omega,by omega⟩,?_⟩;rcases e2 with e | e <;> rw [e] <;> omega
theorem yjf2 {lt:Bool} {n:Int} {s:Ms} (h:okMs s=true) (hm:s.mc<16):msEnd lt n s=msEnd lt n (msN lt n s):=by
 obtain ⟨h1,h2,h3,h4⟩:=yxf0.1 h;have m:=yzu1 (lt:=lt) (n:=n) ⟨h1,h2⟩ h3.1;rw [if_pos hm] at m;have p:=ygr0 ⟨h1,h2⟩ hm;unfold msEnd;rw [m,show (msMu s).toNat=(msMu s-1).toNat+1 by omega];rfl
theorem ykf2 {u:Int} (h:0<=u) : -8<=msO u/\msO u<=0:=by
 unfold msO;cases a:msLt u
 .show (-8:Int)<=0/\(0:Int)<=0;decide
 .have:=(yla0.1 a).2;rw [yia0] at this;cases b:ltI (76-u) 8
  .show (-8:Int)<=-8/\(-8:Int)<=0;decide
  .rw [yia0] at b;simp only [bc_true];omega
theorem ylt0 {lt:Bool} {n:Int} {s:Ms} (hm:¬ s.mc<16):msEnd lt n s=s:=by
 unfold msEnd msMu;rw [if_neg hm];rfl
end S
theorem yww2 (lt:Bool) (n k o mc mg mm:Int):K.RunL (msVz) K.openE 30 31 60 (inner (inner (blkOf 31 0))) msEB [(7,.ptr 0 0),(8,.int .i64 k),(6,.int .i64 o),(5,.bool lt),(1,.int .u8 n)] [.cells 176 .exact [.int .i64 mc,.int .i64 mg,.int .u8 mm]] Hint.auto (msRz lt n k o mc mg mm) =
  (bc (ltI mc 16) (bc (ltI (Int.tmod k 228) 68) (bc (S.an (S.mAct mc mg (Int.tmod k 228)) (S.hb .u8 (S.mo 1 n mc mm) 1)) (ms_Q lt n k o mc mg mm (wrapK .i64 (o+1))) (ms_Q lt n k o mc mg mm o)) (bc (lt) (bc (S.an (S.mAct mc mg (Int.tmod k 228)) (S.hb .u8 (S.mo 1 n mc mm) 1)) (bc (ltI k 76) (ms_Q lt n k o mc mg mm (wrapK .i64 (o+1))) (ms_Q lt n k o mc mg mm o)) (ms_Q lt n k o mc mg mm o)) (bc (S.an (S.mAct mc mg (Int.tmod k 228)) (S.hb .u8 (S.mo 1 n mc mm) 1)) (ms_Q lt n k o mc mg mm o) (ms_Q lt n k o mc mg mm o)))) (S.Ms.o (S.msEnd lt n { k:=k,o:=o,mc:=mc,mg:=mg,mm:=mm })=o/\(S.Ms.mc (S.msEnd lt n { k:=k,o:=o,mc:=mc,mg:=mg,mm:=mm })=mc/\(S.Ms.mg (S.msEnd lt n { k:=k,o:=o,mc:=mc,mg:=mg,mm:=mm })=mg/\(S.Ms.mm (S.msEnd lt n { k:=k,o:=o,mc:=mc,mg:=mg,mm:=mm })=mm/\True))))):=by kernel_rfl
theorem ylu2 (lt:Bool) (n k o mc mg mm:Int) (h0:S.okMs ⟨k,o,mc,mg,mm⟩=true) (IH:mc<16->∀ o2,o2=(S.msN lt n ⟨k,o,mc,mg,mm⟩).o->ms_T lt n (S.msN lt n ⟨k,o,mc,mg,mm⟩).k o2 (S.msN lt n ⟨k,o,mc,mg,mm⟩).mc (S.msN lt n ⟨k,o,mc,mg,mm⟩).mg (S.msN lt n ⟨k,o,mc,mg,mm⟩).mm):GTr Tryz.prog (inner (inner (blkOf 31 0))) 31 60 [(7,.ptr 0 0),(8,.int .i64 k),(6,.int .i64 o),(5,.bool lt),(1,.int .u8 n)] [.cells 176 .exact [.int .i64 mc,.int .i64 mg,.int .u8 mm]] (msRz lt n k o mc mg mm):=by
 refine K.ygc0 good (A:=msVz) (yha0 ?_) K.yea0 (k:=30) (ent:=msEB) (cast (yww2 lt n k o mc mg mm).symm ?_)
 .intro p hp;simp only [List.mem_cons,List.not_mem_nil,or_false] at hp;rcases hp with rfl | rfl;exact ybr1;exact ycr1
 .obtain ⟨g1,g2,g3,g4⟩:=S.yxf0.1 h0;have g3:0<=k/\k+S.msMu ⟨k,o,mc,mg,mm⟩<=400:=g3;have g4 : -20<=o/\o+S.msMu ⟨k,o,mc,mg,mm⟩<=100:=g4;cases hm:ltI mc 16 with
  | false =>
   have hi:=yba0.1 hm;rw [bc_false,S.ylt0 (s:=⟨k,o,mc,mg,mm⟩) (by show ¬ mc<16;omega)];exact ⟨rfl,rfl,rfl,rfl,trivial⟩
  | true =>
   have hi:=yia0.1 hm;have p:=S.yfr0 (s:=⟨k,o,mc,mg,mm⟩) ⟨g1,g2⟩;have w1:wrapK .i64 (k+1)=k+1:=by rw [yja0];omega
   have w2:wrapK .i64 (o+1)=o+1:=by rw [yja0];omega
   have fin:∀ o2,o2=(S.msN lt n ⟨k,o,mc,mg,mm⟩).o->ms_Q lt n k o mc mg mm o2:=by
    intro o2 e;have e2:S.msN lt n ⟨k,o,mc,mg,mm⟩=⟨k+1,o2,S.mC mc mg (Int.tmod k 228),S.mG mc mg (Int.tmod k 228),S.mM mc mg mm (Int.tmod k 228) n 0 0 0 0⟩:=by rw [e];rfl
    have q:=S.yrn2 (lt:=lt) (n:=n) h0 hi;have t:=IH hi o2 e;unfold ms_Q;rw [w1,S.yjf2 h0 hi,e2] at *;rw [q,bc_true];exact ⟨t,rfl,rfl,rfl,rfl,trivial⟩
   have v:∀ a b:Bool,S.an (S.mAct mc mg (Int.tmod k 228)) (S.hb .u8 (S.mo 1 n mc mm) 1)=a->S.orb (ltI (Int.tmod k 228) 68) (S.an lt (ltI k 76))=b->(S.msN lt n ⟨k,o,mc,mg,mm⟩).o=bc (S.an a b) (o+1) o:=by
    intro a b e1 e2;subst e1;subst e2;rfl
   rw [bc_true,w2];cases a2:S.an (S.mAct mc mg (Int.tmod k 228)) (S.hb .u8 (S.mo 1 n mc mm) 1) <;> cases a1:ltI (Int.tmod k 228) 68 <;> cases hlt:lt <;> cases a3:ltI k 76 <;> subst hlt <;> simp only [bc_true,bc_false] <;> exact fin _ (by have t:=v _ _ a2 rfl;rw [a1,a3] at t;exact t.symm)
theorem yxw2:∀ (j:Nat) (lt:Bool) (n k o mc mg mm:Int),S.okMs ⟨k,o,mc,mg,mm⟩=true->(S.msMu ⟨k,o,mc,mg,mm⟩).toNat=j->ms_T lt n k o mc mg mm:=by
 intro j
 induction j with
 | zero =>
  intro lt n k o mc mg mm h0 hj;obtain ⟨g1,g2,g3,g4⟩:=S.yxf0.1 h0;exact ylu2 lt n k o mc mg mm h0 fun hm=>by have:=S.ygr0 (s:=⟨k,o,mc,mg,mm⟩) ⟨g1,g2⟩ hm;omega
 | succ j ih =>
  intro lt n k o mc mg mm h0 hj;obtain ⟨g1,g2,g3,g4⟩:=S.yxf0.1 h0;refine ylu2 lt n k o mc mg mm h0 fun hm o2 e=>?_
  subst e;refine ih lt n _ _ _ _ _ (S.yrn2 h0 hm) ?_;have m:=S.yzu1 (lt:=lt) (n:=n) (s:=⟨k,o,mc,mg,mm⟩) ⟨g1,g2⟩ g3.1;have hm2:(⟨k,o,mc,mg,mm⟩ : S.Ms).mc<16:=hm;rw [if_pos hm2] at m;have m:S.msMu ⟨(S.msN lt n ⟨k,o,mc,mg,mm⟩).k,(S.msN lt n ⟨k,o,mc,mg,mm⟩).o,(S.msN lt n ⟨k,o,mc,mg,mm⟩).mc,(S.msN lt n ⟨k,o,mc,mg,mm⟩).mg,(S.msN lt n ⟨k,o,mc,mg,mm⟩).mm⟩=_:=m;rw [m];omega
theorem yyw2 (lt:Bool) (n k o mc mg mm:Int) (h0:S.okMs ⟨k,o,mc,mg,mm⟩=true):ms_B lt n k o mc mg mm:=by
 have hb:blkOf 31 0=.block 0 (.loop (inner (inner (blkOf 31 0)))):=by kernel_rfl
 unfold ms_B K.BOk;rw [hb];exact K.CT.block (K.GT.loop (yxw2 _ lt n k o mc mg mm h0 rfl))
theorem yav1 (u n:Int):K.bodyF (yjd1) (K.runF (yjd1) 30) 31 [.int .i64 u,.int .u8 n] (Heap.of []) Hint.auto (K.endC K.openE 0 ⟨.ret (.int .i64 (S.shV u n)),[],[]⟩) =
  (bc (ltI u 0) (S.shV u n=(0:Int)/\True) (bc (notB (ltI u 228)) (S.shV u n=(0:Int)/\True) (bc (ltI 0 u) (bc (ltI u 76) (bc (S.okMs { k:=u,o:=IntKind.wrap .i64 (0-if 8<wrapK .i64 (76-u) then 8 else wrapK .i64 (76-u)),mc:=(0:Int),mg:=(0:Int),mm:=(31:Int) }) (ms_B (ltI u 76) n u (IntKind.wrap .i64 (0-if 8<wrapK .i64 (76-u) then 8 else wrapK .i64 (76-u))) 0 0 31/\(S.shV u n=S.Ms.o (S.msEnd (ltI u 76) n { k:=u,o:=IntKind.wrap .i64 (0-if 8<wrapK .i64 (76-u) then 8 else wrapK .i64 (76-u)),mc:=(0:Int),mg:=(0:Int),mm:=(31:Int) })/\True)) False) (bc (S.okMs { k:=u,o:=(0:Int),mc:=(0:Int),mg:=(0:Int),mm:=(31:Int) }) (ms_B (ltI u 76) n u 0 0 0 31/\(S.shV u n=S.Ms.o (S.msEnd (ltI u 76) n { k:=u,o:=(0:Int),mc:=(0:Int),mg:=(0:Int),mm:=(31:Int) })/\True)) False)) (bc (S.okMs { k:=u,o:=(0:Int),mc:=(0:Int),mg:=(0:Int),mm:=(31:Int) }) (ms_B false n u 0 0 0 31/\(S.shV u n=S.Ms.o (S.msEnd false n { k:=u,o:=(0:Int),mc:=(0:Int),mg:=(0:Int),mm:=(31:Int) })/\True)) False)))):=by kernel_rfl
theorem ybv1 (u n:Int) (h0:S.inR u 228=true)  : HTr Tryz.prog 31 [.int .i64 u,.int .u8 n] [] ⟨.ret (.int .i64 (S.shV u n)),[],[]⟩:=by
 refine K.yca0 good (A:=yjd1) (yrn0 ?_) K.yea0 (k:=30) (cast (yav1 u n).symm ?_)
 .intro p hp;simp only [List.mem_cons,List.not_mem_nil,or_false] at hp;rcases hp with rfl | rfl;exact yoe2;exact yma1
 .obtain ⟨u0,u1⟩:=S.yga0.1 h0
  have p0:S.okMs ⟨u,S.msO u,0,0,31⟩=true:=by
   rw [S.yxf0];have m:=S.yfr0 (s:=⟨u,S.msO u,0,0,31⟩) ⟨by show (0:Int)<=0/\(0:Int)<17;decide,by show (0:Int)<=0/\(0:Int)<4;decide⟩;have b:=S.ykf2 u0;refine ⟨by show (0:Int)<=0/\(0:Int)<17;decide,by show (0:Int)<=0/\(0:Int)<4;decide,⟨u0,?_⟩,?_,?_⟩
   .show u+_<=400;omega
   .show -20<=S.msO u;omega
   .show S.msO u+_<=100;omega
  rw [yba0.2 u0,bc_false,yia0.2 u1,yra0,bc_false]
  have fin:∀ (lt:Bool) (o:Int),S.msLt u=lt->S.msO u=o->bc (S.okMs ⟨u,o,0,0,31⟩) (ms_B lt n u o 0 0 31/\S.shV u n=S.Ms.o (S.msEnd lt n ⟨u,o,0,0,31⟩)/\True) False:=by
   intro lt o e1 e2;subst e1;subst e2;rw [p0,bc_true];exact ⟨yyw2 _ _ _ _ _ _ _ p0,rfl,trivial⟩
  cases a1:ltI 0 u with
  | false=>exact fin _ _ (by unfold S.msLt;rw [a1];rfl) (by unfold S.msO S.msLt;rw [a1];rfl)
  | true =>
   cases a2:ltI u 76 with
   | false=>exact fin _ _ (by unfold S.msLt;rw [a1,a2];rfl) (by unfold S.msO S.msLt;rw [a1,a2];rfl)
   | true =>
    have i1:=yia0.1 a1;have i2:=yia0.1 a2;have w:wrapK .i64 (76-u)=76-u:=by rw [yja0];omega
    refine fin _ _ (by unfold S.msLt;rw [a1,a2];rfl) ?_;unfold S.msO S.msLt;rw [a1,a2,w];rw [<- K.yce0,yja0];show 0-bc (ltI (76-u) 8) (76-u) 8=_;by_cases h8:8<76-u
    .rw [if_pos h8,yba0.2 (by omega),bc_false];rfl
    .rw [if_neg h8];by_cases h9:76-u=8
     .rw [h9];rfl
     .rw [yia0.2 (by omega),bc_true];omega
theorem yvx0:yka1.ok Tryz.prog 31:=by
 intro xs os b r h h3;unfold yka1 at h;simp only at h;split at h
 .injection h with h;injection h with h1 h2;subst h1;subst h2;exact ybv1 _ _ h3
 .cases h
namespace S
theorem ymu2:∀ (m:Fin 32) (i k:Fin 5) (e:Bool),hb .u8 (bc (an (hb .u8 ((m.val:Nat):Int) (2 ^ i.val)) e) (clr ((m.val:Nat):Int) (2 ^ i.val)) ((m.val:Nat):Int)) (2 ^ k.val)=if i=k then an (hb .u8 ((m.val:Nat):Int) (2 ^ k.val)) (notB e) else hb .u8 ((m.val:Nat):Int) (2 ^ k.val):=by decide +kernel
theorem yef0 {n mc m:Int} (i k:Fin 5) (h:inR m 32=true):hb .u8 (mo (2 ^ i.val) n mc m) (2 ^ k.val)=if i=k then an (hb .u8 m (2 ^ k.val)) (notB (mEnd n mc)) else hb .u8 m (2 ^ k.val):=by
 have h1:=yga0.1 h;have e:=ymu2 ⟨m.toNat,by omega⟩ i k (mEnd n mc)
 rwa [show (((⟨m.toNat,by omega⟩ : Fin 32).val:Nat):Int)=m from Int.toNat_of_nonneg h1.1] at e
theorem bk0 {n0 n1 n2 n3 n4 mc m:Int} (h:inR m 32=true):hb .u8 (mo 1 n0 mc m) 1=an (hb .u8 m 1) (notB (mEnd n0 mc)):=by
 have e:=yef0 (n:=n0) (mc:=mc) 0 0 h;rw [if_pos rfl] at e;refine e.trans (congrArg (fun x=>an x _) ?_);exact rfl
theorem bk1 {n0 n1 n2 n3 n4 mc m:Int} (h:inR m 32=true):hb .u8 (mo 2 n1 mc (mo 1 n0 mc m)) 2=an (hb .u8 m 2) (notB (mEnd n1 mc)):=by
 have r0:inR (mo 1 n0 mc m) 32=true:=yhd0 0 h;have e:=yef0 (n:=n1) (mc:=mc) 1 1 r0;rw [if_pos rfl] at e;refine e.trans (congrArg (fun x=>an x _) ?_);exact (((yef0 (n:=n0) (mc:=mc) 0 1 h).trans (if_neg (by decide))).trans rfl)
theorem bk2 {n0 n1 n2 n3 n4 mc m:Int} (h:inR m 32=true):hb .u8 (mo 4 n2 mc (mo 2 n1 mc (mo 1 n0 mc m))) 4=an (hb .u8 m 4) (notB (mEnd n2 mc)):=by
 have r0:inR (mo 1 n0 mc m) 32=true:=yhd0 0 h;have r1:inR (mo 2 n1 mc (mo 1 n0 mc m)) 32=true:=yhd0 1 r0;have e:=yef0 (n:=n2) (mc:=mc) 2 2 r1;rw [if_pos rfl] at e;refine e.trans (congrArg (fun x=>an x _) ?_);exact (((yef0 (n:=n1) (mc:=mc) 1 2 r0).trans (if_neg (by decide))).trans (((yef0 (n:=n0) (mc:=mc) 0 2 h).trans (if_neg (by decide))).trans rfl))
theorem bk3 {n0 n1 n2 n3 n4 mc m:Int} (h:inR m 32=true):hb .u8 (mo 8 n3 mc (mo 4 n2 mc (mo 2 n1 mc (mo 1 n0 mc m)))) 8=an (hb .u8 m 8) (notB (mEnd n3 mc)):=by
 have r0:inR (mo 1 n0 mc m) 32=true:=yhd0 0 h;have r1:inR (mo 2 n1 mc (mo 1 n0 mc m)) 32=true:=yhd0 1 r0;have r2:inR (mo 4 n2 mc (mo 2 n1 mc (mo 1 n0 mc m))) 32=true:=yhd0 2 r1;have e:=yef0 (n:=n3) (mc:=mc) 3 3 r2;rw [if_pos rfl] at e;refine e.trans (congrArg (fun x=>an x _) ?_);exact (((yef0 (n:=n2) (mc:=mc) 2 3 r1).trans (if_neg (by decide))).trans (((yef0 (n:=n1) (mc:=mc) 1 3 r0).trans (if_neg (by decide))).trans (((yef0 (n:=n0) (mc:=mc) 0 3 h).trans (if_neg (by decide))).trans rfl)))
theorem bk4 {n0 n1 n2 n3 n4 mc m:Int} (h:inR m 32=true):hb .u8 (mo 16 n4 mc (mo 8 n3 mc (mo 4 n2 mc (mo 2 n1 mc (mo 1 n0 mc m))))) 16=an (hb .u8 m 16) (notB (mEnd n4 mc)):=by
 have r0:inR (mo 1 n0 mc m) 32=true:=yhd0 0 h;have r1:inR (mo 2 n1 mc (mo 1 n0 mc m)) 32=true:=yhd0 1 r0;have r2:inR (mo 4 n2 mc (mo 2 n1 mc (mo 1 n0 mc m))) 32=true:=yhd0 2 r1;have r3:inR (mo 8 n3 mc (mo 4 n2 mc (mo 2 n1 mc (mo 1 n0 mc m)))) 32=true:=yhd0 3 r2;have e:=yef0 (n:=n4) (mc:=mc) 4 4 r3;rw [if_pos rfl] at e;refine e.trans (congrArg (fun x=>an x _) ?_);exact (((yef0 (n:=n3) (mc:=mc) 3 4 r2).trans (if_neg (by decide))).trans (((yef0 (n:=n2) (mc:=mc) 2 4 r1).trans (if_neg (by decide))).trans (((yef0 (n:=n1) (mc:=mc) 1 4 r0).trans (if_neg (by decide))).trans (((yef0 (n:=n0) (mc:=mc) 0 4 h).trans (if_neg (by decide))).trans rfl))))
theorem b5_0 {n0 n1 n2 n3 n4 mc m:Int} (h:inR m 32=true):hb .u8 (mo5 n0 n1 n2 n3 n4 mc m) 1=an (hb .u8 m 1) (notB (mEnd n0 mc)):=by
 unfold mo5 mo4 mo3 mo2 mo1;have r0:inR (mo 1 n0 mc m) 32=true:=yhd0 0 h;have r1:inR (mo 2 n1 mc (mo 1 n0 mc m)) 32=true:=yhd0 1 r0;have r2:inR (mo 4 n2 mc (mo 2 n1 mc (mo 1 n0 mc m))) 32=true:=yhd0 2 r1;have r3:inR (mo 8 n3 mc (mo 4 n2 mc (mo 2 n1 mc (mo 1 n0 mc m)))) 32=true:=yhd0 3 r2;exact (((yef0 (n:=n4) (mc:=mc) 4 0 r3).trans (if_neg (by decide))).trans (((yef0 (n:=n3) (mc:=mc) 3 0 r2).trans (if_neg (by decide))).trans (((yef0 (n:=n2) (mc:=mc) 2 0 r1).trans (if_neg (by decide))).trans (((yef0 (n:=n1) (mc:=mc) 1 0 r0).trans (if_neg (by decide))).trans (bk0 (n0:=n0) (n1:=n1) (n2:=n2) (n3:=n3) (n4:=n4) h)))))
theorem b5_1 {n0 n1 n2 n3 n4 mc m:Int} (h:inR m 32=true):hb .u8 (mo5 n0 n1 n2 n3 n4 mc m) 2=an (hb .u8 m 2) (notB (mEnd n1 mc)):=by
 unfold mo5 mo4 mo3 mo2 mo1;have r0:inR (mo 1 n0 mc m) 32=true:=yhd0 0 h;have r1:inR (mo 2 n1 mc (mo 1 n0 mc m)) 32=true:=yhd0 1 r0;have r2:inR (mo 4 n2 mc (mo 2 n1 mc (mo 1 n0 mc m))) 32=true:=yhd0 2 r1;have r3:inR (mo 8 n3 mc (mo 4 n2 mc (mo 2 n1 mc (mo 1 n0 mc m)))) 32=true:=yhd0 3 r2;exact (((yef0 (n:=n4) (mc:=mc) 4 1 r3).trans (if_neg (by decide))).trans (((yef0 (n:=n3) (mc:=mc) 3 1 r2).trans (if_neg (by decide))).trans (((yef0 (n:=n2) (mc:=mc) 2 1 r1).trans (if_neg (by decide))).trans (bk1 (n0:=n0) (n1:=n1) (n2:=n2) (n3:=n3) (n4:=n4) h))))
theorem b5_2 {n0 n1 n2 n3 n4 mc m:Int} (h:inR m 32=true):hb .u8 (mo5 n0 n1 n2 n3 n4 mc m) 4=an (hb .u8 m 4) (notB (mEnd n2 mc)):=by
 unfold mo5 mo4 mo3 mo2 mo1;have r0:inR (mo 1 n0 mc m) 32=true:=yhd0 0 h;have r1:inR (mo 2 n1 mc (mo 1 n0 mc m)) 32=true:=yhd0 1 r0;have r2:inR (mo 4 n2 mc (mo 2 n1 mc (mo 1 n0 mc m))) 32=true:=yhd0 2 r1;have r3:inR (mo 8 n3 mc (mo 4 n2 mc (mo 2 n1 mc (mo 1 n0 mc m)))) 32=true:=yhd0 3 r2;exact (((yef0 (n:=n4) (mc:=mc) 4 2 r3).trans (if_neg (by decide))).trans (((yef0 (n:=n3) (mc:=mc) 3 2 r2).trans (if_neg (by decide))).trans (bk2 (n0:=n0) (n1:=n1) (n2:=n2) (n3:=n3) (n4:=n4) h)))
theorem b5_3 {n0 n1 n2 n3 n4 mc m:Int} (h:inR m 32=true):hb .u8 (mo5 n0 n1 n2 n3 n4 mc m) 8=an (hb .u8 m 8) (notB (mEnd n3 mc)):=by
 unfold mo5 mo4 mo3 mo2 mo1;have r0:inR (mo 1 n0 mc m) 32=true:=yhd0 0 h;have r1:inR (mo 2 n1 mc (mo 1 n0 mc m)) 32=true:=yhd0 1 r0;have r2:inR (mo 4 n2 mc (mo 2 n1 mc (mo 1 n0 mc m))) 32=true:=yhd0 2 r1;have r3:inR (mo 8 n3 mc (mo 4 n2 mc (mo 2 n1 mc (mo 1 n0 mc m)))) 32=true:=yhd0 3 r2;exact (((yef0 (n:=n4) (mc:=mc) 4 3 r3).trans (if_neg (by decide))).trans (bk3 (n0:=n0) (n1:=n1) (n2:=n2) (n3:=n3) (n4:=n4) h))
theorem b5_4 {n0 n1 n2 n3 n4 mc m:Int} (h:inR m 32=true):hb .u8 (mo5 n0 n1 n2 n3 n4 mc m) 16=an (hb .u8 m 16) (notB (mEnd n4 mc)):=by
 unfold mo5 mo4 mo3 mo2 mo1;have r0:inR (mo 1 n0 mc m) 32=true:=yhd0 0 h;have r1:inR (mo 2 n1 mc (mo 1 n0 mc m)) 32=true:=yhd0 1 r0;have r2:inR (mo 4 n2 mc (mo 2 n1 mc (mo 1 n0 mc m))) 32=true:=yhd0 2 r1;have r3:inR (mo 8 n3 mc (mo 4 n2 mc (mo 2 n1 mc (mo 1 n0 mc m)))) 32=true:=yhd0 3 r2;exact (bk4 (n0:=n0) (n1:=n1) (n2:=n2) (n3:=n3) (n4:=n4) h)
theorem yzw2 (k:Fin 5) {c:Chip} (h:inR c.mm 32=true):mvO k c=an (mAct c.mc c.mg (pos c)) (an (hb .u8 c.mm (2 ^ k.val)) (notB (mEnd (hO k c) c.mc))) :=
 match k with
 | 0=>congrArg (an _) (bk0 (n0:=nib c.r4.x0) (n1:=nib c.r4.x1) (n2:=nib c.r4.x2) (n3:=nib c.r4.x3) (n4:=nib c.r4.x4) h)
 | 1=>congrArg (an _) (bk1 (n0:=nib c.r4.x0) (n1:=nib c.r4.x1) (n2:=nib c.r4.x2) (n3:=nib c.r4.x3) (n4:=nib c.r4.x4) h)
 | 2=>congrArg (an _) (bk2 (n0:=nib c.r4.x0) (n1:=nib c.r4.x1) (n2:=nib c.r4.x2) (n3:=nib c.r4.x3) (n4:=nib c.r4.x4) h)
 | 3=>congrArg (an _) (bk3 (n0:=nib c.r4.x0) (n1:=nib c.r4.x1) (n2:=nib c.r4.x2) (n3:=nib c.r4.x3) (n4:=nib c.r4.x4) h)
 | 4=>congrArg (an _) (bk4 (n0:=nib c.r4.x0) (n1:=nib c.r4.x1) (n2:=nib c.r4.x2) (n3:=nib c.r4.x3) (n4:=nib c.r4.x4) h)
theorem yax2 (k:Fin 5) {c:Chip} (h:inR c.mm 32=true):hb .u8 (stepC c).mm (2 ^ k.val)=bc (mAct c.mc c.mg (pos c)) (bc (mLast c.mc) false (an (hb .u8 c.mm (2 ^ k.val)) (notB (mEnd (hO k c) c.mc)))) (hb .u8 c.mm (2 ^ k.val)):=by
 have e:(stepC c).mm=bc (mAct c.mc c.mg (pos c)) (bc (mLast c.mc) 0 (mo5 (nib c.r4.x0) (nib c.r4.x1) (nib c.r4.x2) (nib c.r4.x3) (nib c.r4.x4) c.mc c.mm)) c.mm:=rfl;rw [e];cases mAct c.mc c.mg (pos c) with
 | false=>rfl
 | true =>
  cases mLast c.mc with
  | true=>exact (by decide:∀ k:Fin 5,hb .u8 0 (2 ^ k.val)=false) k
  | false=>exact (match k with
 | 0=>b5_0 h
  | 1=>b5_1 h
  | 2=>b5_2 h
  | 3=>b5_3 h
  | 4=>b5_4 h)
theorem ynu2 (k:Fin 5) (c:Chip):tO k (stepC c)=tkT (bc (sDark c.ba c.bs c.late) (mvO k c) true) (qO k c) (tO k c) :=
 match k with
 | 0=>rfl
 | 1=>rfl
 | 2=>rfl
 | 3=>rfl
 | 4=>rfl
theorem you2 (k:Fin 5) (c:Chip):hO k (stepC c)=hO k c :=
 match k with
 | 0=>rfl
 | 1=>rfl
 | 2=>rfl
 | 3=>rfl
 | 4=>rfl
theorem okT_O (k:Fin 5) {c:Chip} (h:okZ c=true):okT (tO k c)=true:=by
 obtain ⟨a0,a1,a2,a3,a4⟩:=yjj1 h
 exact (match k with
 | 0=>a0
 | 1=>a1
 | 2=>a2
 | 3=>a3
 | 4=>a4)
theorem ypu2 {c:Chip} (h:inR c.mm 32=true):inR (stepC c).mm 32=true:=by
 show inR (bc (mAct c.mc c.mg (pos c)) (bc (mLast c.mc) 0 (mo5 (nib c.r4.x0) (nib c.r4.x1) (nib c.r4.x2) (nib c.r4.x3) (nib c.r4.x4) c.mc c.mm)) c.mm) 32=true;exact bcP (P:=fun x=>inR x 32=true) (bcP (P:=fun x=>inR x 32=true) rfl (yvu1 h)) h
theorem yqu2 {c:Chip} (h:okZ c=true):sDark c.ba c.bs c.late=true↔pos c<68\/(c.late=true/\pos c≠0/\pos c<76):=by
 have p:=yvf0 (okZ_C h);unfold sDark sLate;rw [yst2 (okZ_C h),ix_eq (okZ_C h)];by_cases e:pos c=0
 .rw [ypa0.2 e,bc_true,bc_false,yia0];omega
 .rw [ycb0.2 e,bc_false];cases c.late
  .rw [bc_false,yia0];simp;omega
  .rw [bc_true,yia0];simp;omega
theorem ybx2 {c:Chip} {t:Th} {q:Int} (b:Bool) (h:okZ c=true) (ht:okT t=true):(phi (stepC c) (tkT b q t)-phi c t-bc b 1 0+(if pos c<68 then 0 else 1)) % 160=0:=by
 obtain ⟨p0,p1,_,_⟩:=yvf0 (okZ_C h);have hc:=ybm0 ht;unfold phi;rw [yuk0 (okZ_C h)]
 have e:cnt (tkT b q t)=(cnt t+bc b 1 0) % 160:=by
  cases b
  .show cnt t=(cnt t+0) % 160;omega
  .exact ypu1 ht
 rw [e];generalize bc b (1:Int) 0=z;generalize cnt t=y at *;generalize pos c=p at *;unfold seenN;split <;> (try split) <;> (try split) <;> omega
theorem ycv1 {lt:Bool} {k:Int} (h:0<=k):msDk lt k=true↔k % 228<68\/(lt=true/\k<76):=by
 unfold msDk;rw [tm_eq h];cases lt
 .show orb (ltI (k % 228) 68) false=true↔_;cases a:ltI (k % 228) 68
  .rw [yba0] at a;simp [orb,bc_false];omega
  .rw [yia0] at a;simp [orb,bc_true];omega
 .show orb (ltI (k % 228) 68) (ltI k 76)=true↔_;cases a:ltI (k % 228) 68
  .rw [yba0] at a;show ltI k 76=true↔_;rw [yia0];simp;omega
  .rw [yia0] at a;simp [orb,bc_true];omega
theorem ytd1 {u:Int} : msLt u=true↔0<u/\u<76:=by
 unfold msLt;rw [yla0,yia0,yia0]
theorem ycx2 {k:Fin 5} {u:Int} {d c:Chip} {s:Ms} (hu:0<=u) (hu2:u<228) (g:Goes k u d c s):Goes k u d (stepC c) (msN (msLt u) (hO k d) s):=by
 obtain ⟨ok,mr,sr,emc,emg,bit,k0,ps,lt,hm,ph⟩:=g;have hk:0<=s.k:=by omega
 obtain ⟨p0,p1,_,_⟩:=yvf0 (okZ_C ok);obtain ⟨⟨m0,m1⟩,g0,g1⟩:=okZ_m ok;have rr:(0<=s.mc/\s.mc<17)/\(0<=s.mg/\s.mg<4):=by rw [<- emc,<- emg];exact ⟨⟨m0,m1⟩,g0,g1⟩
 have hp4:pos c % 4=s.k % 4:=by omega
 have hact:mAct c.mc c.mg (pos c)=mAct s.mc s.mg (s.k.tmod 228):=by rw [emc,emg,ps,tm_eq hk]
 have hmv:mvO k c=msMv (hO k d) s:=by
  rw [yzw2 k mr,hact,bit,hm,emc];unfold msMv;rw [show hb .u8 (mo 1 (hO k d) s.mc s.mm) 1=_ from bk0 (n0:=hO k d) (n1:=0) (n2:=0) (n3:=0) (n4:=0) sr]
 have hdk:sDark c.ba c.bs c.late=msDk (msLt u) s.k:=by
  rw [Bool.eq_iff_iff,yqu2 ok,ycv1 hk,ytd1,lt,ps];omega
 have ho:(msN (msLt u) (hO k d) s).o=s.o+bc (an (msMv (hO k d) s) (msDk (msLt u) s.k)) 1 0:=by
  show bc (an (msMv (hO k d) s) (msDk (msLt u) s.k)) (s.o+1) s.o=_;cases an (msMv (hO k d) s) (msDk (msLt u) s.k)
  .show s.o=s.o+0;omega
  .rfl
 refine ⟨yij0 ok,ypu2 mr,?_,?_,?_,?_,?_,?_,?_,?_,?_⟩
 .show inR (bc (mAct _ _ _) (bc (mLast s.mc) 0 (mo5 _ _ _ _ _ s.mc s.mm)) s.mm) 32=true;exact bcP (P:=fun x=>inR x 32=true) (bcP (P:=fun x=>inR x 32=true) rfl (yvu1 sr)) sr
 .rw [yrg1 ok,yuc2 rr hk,emc,emg,hp4]
 .rw [ynu1 ok,yqn2 rr hk,emc,emg,hp4]
 .rw [yax2 k mr,hact,bit,hm,emc];show _=hb .u8 (bc (mAct s.mc s.mg (s.k.tmod 228)) (bc (mLast s.mc) 0 (mo5 (hO k d) 0 0 0 0 s.mc s.mm)) s.mm) 1;cases mAct s.mc s.mg (s.k.tmod 228)
  .rfl
  .cases mLast s.mc
   .exact (b5_0 sr).symm
   .rfl
 .show u<=s.k+1;omega
 .rw [yuk0 (okZ_C ok),ps];show _=(s.k+1) % 228;omega
 .rw [ytx0 (okZ_C ok)];show _↔(u=0/\s.k+1=0)\/(0<u/\s.k+1<=228);by_cases e:pos c=0
  .rw [ypa0.2 e,bc_true];simp;omega
  .rw [ycb0.2 e,bc_false,lt];omega
 .rw [you2,hm]
 .have e:=ybx2 (q:=qO k c) (bc (sDark c.ba c.bs c.late) (mvO k c) true) ok (okT_O k ok);rw [<- ynu2,hdk,hmv] at e;rw [ho];show (_-_-_+(corF (msLt u) (s.k+1)-_)) % 160=0;have hd:=ycv1 (lt:=msLt u) hk;have hl:=ytd1 (u:=u)
  have ec:corF (msLt u) (s.k+1)=corF (msLt u) s.k+(if msLt u=true/\68<=s.k/\s.k<76 then 1 else 0):=by
   unfold corF;split
   .rename_i hlt;simp only [hlt,true_and];split <;> split <;> split <;> omega
   .rename_i hlt;rw [if_neg (by intro h;exact hlt h.1)];rfl
  rw [ec];cases a:msDk (msLt u) s.k with
  | false =>
   have na:¬ (s.k % 228<68\/(msLt u=true/\s.k<76)):=fun h=>by rw [hd.2 h] at a;cases a
   rw [a,bc_false,bc_true] at e;rw [show an (msMv (hO k d) s) false=false by cases msMv (hO k d) s <;> rfl,bc_false];rw [if_neg (show ¬ pos c<68 by omega)] at e;rw [if_neg (by intro h;exact na (Or.inr ⟨h.1,h.2.2⟩))];omega
  | true =>
   have ya:=hd.1 a;rw [a,bc_true] at e;rw [show an (msMv (hO k d) s) true=msMv (hO k d) s by cases msMv (hO k d) s <;> rfl];generalize bc (msMv (hO k d) s) (1:Int) 0=z at *;by_cases b:pos c<68
   .rw [if_pos b] at e;rw [if_neg (by intro h;have:=hl.1 h.1;omega)];omega
   .rw [if_neg b] at e
    have y2:msLt u=true/\s.k<76:=by
     rcases ya with h | h
     .omega
     .exact h
    rw [if_pos ⟨y2.1,by omega,y2.2⟩];omega
theorem yru2 {k:Fin 5} {u:Int} {d:Chip} (hu:0<=u) (hu2:u<228):∀ (n:Nat) {c:Chip} {s:Ms},Goes k u d c s->Goes k u d (goC n c) (msGo (msLt u) (hO k d) n s)
 | 0,_,_,g=>g
 | n+1,_,_,g=>yru2 hu hu2 n (ycx2 hu hu2 g)
theorem ysu2 {lt:Bool} {m:Int} : ∀ (n:Nat) (s:Ms),(msGo lt m n s).k=s.k+n
 | 0,s=>by show s.k=s.k+((0:Nat):Int);omega
 | n+1,s=>by
  show (msGo lt m n (msN lt m s)).k=_;rw [ysu2 n,show (msN lt m s).k=s.k+1 from rfl];push_cast;omega
theorem ydx2 {lt:Bool} {m:Int} {s:Ms} (h:¬ s.mc<16):(msN lt m s).o=s.o:=by
 show bc (an (an (mAct s.mc s.mg _) _) _) _ _=_;rw [show mAct s.mc s.mg (s.k.tmod 228)=false by unfold mAct;rw [yba0.2 (by omega)];rfl];rfl
theorem ysn2 {lt:Bool} {m:Int} : ∀ (n:Nat) (s:Ms),(0<=s.mc/\s.mc<17)/\(0<=s.mg/\s.mg<4)->0<=s.k->msMu s<=n->(msGo lt m n s).o=(msEnd lt m s).o
 | 0,s,h,hk,hn=>by
  have p:=yfr0 h;rw [ylt0 (fun hm=>by have:=ygr0 h hm;omega)];rfl
 | n+1,s,h,hk,hn=>by
  have r:=yif2 (lt:=lt) (n:=m) h hk;have u:=yzu1 (lt:=lt) (n:=m) h hk;have p:=yfr0 h;show (msGo lt m n (msN lt m s)).o=_;by_cases hm:s.mc<16
  .rw [if_pos hm] at u;have q:=ygr0 h hm;rw [ysn2 n _ r (by show 0<=s.k+1;omega) (by omega)];unfold msEnd;rw [u,show (msMu s).toNat=(msMu s-1).toNat+1 by omega];rfl
  .rw [if_neg hm] at u;rw [ysn2 n _ r (by show 0<=s.k+1;omega) (by omega),ylt0 hm];have e:(msN lt m s).mc=s.mc:=by rw [yuc2 h hk,if_neg (by omega)]
   rw [ylt0 (by rw [e];exact hm),ydx2 hm]
theorem ytu2 {u:Int} (h0:0<=u):msO u+(76*bc (msLt u) 1 0-corF (msLt u) u)=0:=by
 have hl:=ytd1 (u:=u);unfold msO corF;cases a:msLt u with
 | false=>simp [bc_false]
 | true =>
  have:=hl.1 a;rw [bc_true,bc_true,if_pos rfl];cases b:ltI (76-u) 8
  .rw [yba0] at b;rw [bc_false];split <;> (try split) <;> omega
  .rw [yia0] at b;rw [bc_true];split <;> (try split) <;> omega
theorem ykj1 (k:Fin 5) {c:Chip} {v:Int} (hv:inR v 256=true) (h:okZ c=true):Goes k (pos c) (yvb0 42 v c) (yvb0 42 v c) ⟨pos c,msO (pos c),0,0,31⟩:=by
 have p:=yvf0 (okZ_C h);have ok:=ypj0 (addr:=42) hv h;have hp:pos (yvb0 42 v c)=pos c:=rfl;refine ⟨ok,rfl,rfl,rfl,rfl,?_,Int.le_refl _,?_,?_,rfl,?_⟩
 .exact (by decide:∀ k:Fin 5,hb .u8 31 (2 ^ k.val)=hb .u8 31 1) k
 .show pos c=pos c % 228;omega
 .rw [show (yvb0 42 v c).late=true from rfl];show _↔(pos c=0/\pos c=0)\/(0<pos c/\pos c<=228);simp;omega
 .show (phi (yvb0 42 v c) (tO k (yvb0 42 v c))-phi (yvb0 42 v c) (tO k (yvb0 42 v c))-(msO (pos c)-msO (pos c))+(corF (msLt (pos c)) (pos c)-corF (msLt (pos c)) (pos c))) % 160=0;omega
theorem ydv1 (k:Fin 5) {c:Chip} {v:Int} : tO k (yvb0 42 v c)=tO k c/\hO k (yvb0 42 v c)=hO k c :=
 match k with
 | 0=>⟨rfl,rfl⟩
 | 1=>⟨rfl,rfl⟩
 | 2=>⟨rfl,rfl⟩
 | 3=>⟨rfl,rfl⟩
 | 4=>⟨rfl,rfl⟩
theorem moves (k:Fin 5) {c:Chip} {v:Int} (hv:inR v 256=true) (h:okZ c=true):(cnt (tO k (goC 456 (yvb0 42 v c)))-cnt (tO k c)-shV (pos c) (hO k c)) % 160=0:=by
 have p:=yvf0 (okZ_C h);have g:=yru2 p.1 p.2.1 456 (ykj1 k hv h);have ph:=g.ph;have e1:(msGo (msLt (pos c)) (hO k (yvb0 42 v c)) 456 ⟨pos c,msO (pos c),0,0,31⟩).k=pos c+456:=ysu2 (lt:=msLt (pos c)) (m:=hO k (yvb0 42 v c)) 456 ⟨pos c,msO (pos c),0,0,31⟩;have r0:(0<=(0:Int)/\(0:Int)<17)/\(0<=(0:Int)/\(0:Int)<4):=by decide
 have mu:=yfr0 (s:=⟨pos c,msO (pos c),0,0,31⟩) r0;have e2:=ysn2 (lt:=msLt (pos c)) (m:=hO k (yvb0 42 v c)) 456 ⟨pos c,msO (pos c),0,0,31⟩ r0 p.1 (by omega);have eo:(msEnd (msLt (pos c)) (hO k (yvb0 42 v c)) ⟨pos c,msO (pos c),0,0,31⟩).o=shV (pos c) (hO k c):=by rw [(ydv1 k).2];rfl
 rw [e2,eo] at ph
 have ec:corF (msLt (pos c)) (msGo (msLt (pos c)) (hO k (yvb0 42 v c)) 456 ⟨pos c,msO (pos c),0,0,31⟩).k=76*bc (msLt (pos c)) 1 0:=by
  rw [e1];unfold corF;cases msLt (pos c)
  .rfl
  .rw [if_pos rfl];show (if pos c+456<68 then _ else _)=(76:Int)*1;rw [if_neg (by omega),if_neg (by omega)];rfl
 have m:=ytu2 p.1;rw [ec] at ph;have hp:=yru1 456 g.ok
 have q1:pos (goC 456 (yvb0 42 v c))=pos c:=by
  rw [yru1 456 (ypj0 (addr:=42) hv h),show pos (yvb0 42 v c)=pos c from rfl];omega
 unfold phi at ph;rw [q1,show pos (yvb0 42 v c)=pos c from rfl,(ydv1 k).1] at ph;omega
theorem ylf2 {c:Chip} (h:okS c=true) (hl:c.late=false) (hm:c.mc=16):okZ (cpC c)=true/\still (cpC c)/\pos (cpC c)=pos c/\∀ k:Fin 5,cnt (tO k (cpC c))=cnt (tO k c):=by
 obtain ⟨hz,_,_,hmt⟩:=ygg0.1 h;have ho:=yyu1 h;have p:=yvf0 (okZ_C hz);have hq:okQ (cpC c)=true:=yku2 ho;have emc:(cpC c).mc=16:=hm;have emg:(cpC c).mg=0:=((yrd1.1 hmt).2 hm).1;refine ⟨?_,⟨?_,emc⟩,?_,?_⟩
 .unfold okZ;rw [yla0,emc,emg];exact ⟨hq,rfl⟩
 .show eqI (bc c.late 1 0) 1=false;rw [hl];rfl
 .show plc (pos c % 4) (st (pos c / 4))=pos c;exact ydm2 p.1 p.2.1
 .intro k;have r:∀ t:Th,okT t=true->plc (cnt t % 4) (st (cnt t / 4))=cnt t:=fun t ht=>yla1 (ybm0 ht).1 (ybm0 ht).2
  obtain ⟨a0,a1,a2,a3,a4⟩:=yjj1 hz
  exact (match k with
 | 0=>r _ a0
 | 1=>r _ a1
 | 2=>r _ a2
 | 3=>r _ a3
 | 4=>r _ a4)
theorem yud1 (k:Fin 5) {c:Chip} (h:okZ c=true) (hs:still c):cnt (tO k (goC 456 c))=cnt (tO k c):=by
 obtain ⟨c0,c1,c2,c3,c4⟩:=ypw2 h hs
 exact (match k with
 | 0=>c0
 | 1=>c1
 | 2=>c2
 | 3=>c3
 | 4=>c4)
end S
end Go.Proofs.YtnpbgnjiihecgaaGreat.Ev
