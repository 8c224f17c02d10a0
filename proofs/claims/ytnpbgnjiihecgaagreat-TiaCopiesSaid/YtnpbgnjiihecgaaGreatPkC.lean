/- Contracts, proved: Tso. Contracts, proved: Trd. Contracts, proved: Tww. Contracts, proved: Tqa. Contracts, proved: Tqb. Contracts, proved: Tqc. Contracts, proved: Tqd. Contracts, proved: Tqe. Contracts, proved: Tsx. Contracts, proved: Tsy. Contracts, proved: Tsz. Contracts, proved: Tcp. Contracts, proved: Tqs. Contracts, proved: Tcq. -/
import Derived.Test.YtnpbgnjiihecgaaGreatPkA
import Derived.Test.YtnpbgnjiihecgaaGreatPkB
import Derived.Test.YtnpbgnjiihecgaaGreatArg
set_option linter.unusedVariables false
set_option linter.unusedSimpArgs false
set_option maxRecDepth 100000
set_option maxHeartbeats 1000000
namespace Go.Proofs.YtnpbgnjiihecgaaGreat.Ev
open Go
namespace S
theorem rg_t (a v old:Int):rg a a v old=v:=by unfold rg;rw [ykn0];rfl
theorem rg_f {a j:Int} (v old:Int) (h:a≠j):rg a j v old=old:=by unfold rg;rw [ykb0.2 h];rfl
theorem rb_t (a:Int) (v old:Bool):rb a a v old=v:=by unfold rb;rw [ykn0];rfl
theorem rb_f {a j:Int} (v old:Bool) (h:a≠j):rb a j v old=old:=by unfold rb;rw [ykb0.2 h];rfl
theorem frW_f {a j:Int} (was v:Int) (h:a≠j):frW a j was v=false:=by unfold frW;rw [ykb0.2 h];rfl
theorem frW_t (a was v:Int):frW a a was v=an (hb .u8 was 2) (notB (hb .u8 v 2)):=by unfold frW;rw [ykn0];rfl
theorem yjs2 (addr:Int):0<=adr addr/\adr addr<64:=by
 unfold adr;rw [K.yne1]
 have h:(BitVec.ofInt IntKind.u16.bits addr &&& BitVec.ofInt IntKind.u16.bits 63).toNat<=63:=by
  rw [BitVec.toNat_and];exact Nat.le_trans Nat.and_le_right (by decide)
 generalize (BitVec.ofInt IntKind.u16.bits addr &&& BitVec.ofInt IntKind.u16.bits 63).toNat=n at h
 have e:IntKind.u16.wrap (n:Int)=n:=by
  rw [<- K.yye0,yaf0];omega
 rw [e,yma0];omega
theorem yks2 (addr:Int):(bc (eqI (adr addr) 0) true (bc (eqI (adr addr) 1) true (bc (eqI (adr addr) 2) true (bc (eqI (adr addr) 3) true (bc (eqI (adr addr) 4) true (bc (eqI (adr addr) 5) true (bc (eqI (adr addr) 6) true (bc (eqI (adr addr) 7) true (bc (eqI (adr addr) 8) true (bc (eqI (adr addr) 9) true (bc (eqI (adr addr) 10) true (bc (eqI (adr addr) 11) true (bc (eqI (adr addr) 12) true (bc (eqI (adr addr) 13) true (bc (eqI (adr addr) 14) true (bc (eqI (adr addr) 15) true (bc (eqI (adr addr) 16) true (bc (eqI (adr addr) 17) true (bc (eqI (adr addr) 18) true (bc (eqI (adr addr) 19) true (bc (eqI (adr addr) 20) true (bc (eqI (adr addr) 21) true (bc (eqI (adr addr) 22) true (bc (eqI (adr addr) 23) true (bc (eqI (adr addr) 24) true (bc (eqI (adr addr) 25) true (bc (eqI (adr addr) 26) true (bc (eqI (adr addr) 27) true (bc (eqI (adr addr) 28) true (bc (eqI (adr addr) 29) true (bc (eqI (adr addr) 30) true (bc (eqI (adr addr) 31) true (bc (eqI (adr addr) 32) true (bc (eqI (adr addr) 33) true (bc (eqI (adr addr) 34) true (bc (eqI (adr addr) 35) true (bc (eqI (adr addr) 36) true (bc (eqI (adr addr) 37) true (bc (eqI (adr addr) 38) true (bc (eqI (adr addr) 39) true (bc (eqI (adr addr) 40) true (bc (eqI (adr addr) 41) true (bc (eqI (adr addr) 42) true (bc (eqI (adr addr) 43) true (bc (eqI (adr addr) 44) true (bc (eqI (adr addr) 45) true (bc (eqI (adr addr) 46) true (bc (eqI (adr addr) 47) true (bc (eqI (adr addr) 48) true (bc (eqI (adr addr) 49) true (bc (eqI (adr addr) 50) true (bc (eqI (adr addr) 51) true (bc (eqI (adr addr) 52) true (bc (eqI (adr addr) 53) true (bc (eqI (adr addr) 54) true (bc (eqI (adr addr) 55) true (bc (eqI (adr addr) 56) true (bc (eqI (adr addr) 57) true (bc (eqI (adr addr) 58) true (bc (eqI (adr addr) 59) true (bc (eqI (adr addr) 60) true (bc (eqI (adr addr) 61) true (bc (eqI (adr addr) 62) true (bc (eqI (adr addr) 63) true false))))))))))))))))))))))))))))))))))))))))))))))))))))))))))))))))=true:=by
 have h:=yjs2 addr;obtain ⟨i,hi⟩ : ∃ i:Fin 64,adr addr=((i.val:Nat):Int):=⟨⟨(adr addr).toNat,by omega⟩,by show adr addr=(((adr addr).toNat:Nat):Int);omega⟩
 rw [hi];clear hi h;revert i;decide +kernel
end S
def yga1 (c:S.Chip) (addr v:Int) (r:Prop):Prop :=
 (0:Nat)=0/\(0:Nat)=0/\(0:Nat)=0/\(0:Nat)=0/\(0:Nat)=0/\(0:Nat)=0/\(0:Nat)=0/\(0:Nat)=0/\(0:Nat)=0/\(0:Nat)=0/\r
def yuf1 (c:S.Chip) (addr v:Int) (r:Prop):Prop :=
 S.rg (S.adr addr) 0 v c.r0.x0=v/\S.rg (S.adr addr) 1 v c.r0.x1=c.r0.x1/\c.r0.x2=c.r0.x2/\c.r0.x3=c.r0.x3/\S.rg (S.adr addr) 4 v c.r0.x4=c.r0.x4/\S.rg (S.adr addr) 5 v c.r0.x5=c.r0.x5/\S.rg (S.adr addr) 6 v c.r0.x6=c.r0.x6/\S.rg (S.adr addr) 7 v c.r0.x7=c.r0.x7/\r
def yys0 (c:S.Chip) (addr v:Int) (r:Prop):Prop :=
 S.rg (S.adr addr) 8 v c.r1.x0=c.r1.x0/\S.rg (S.adr addr) 9 v c.r1.x1=c.r1.x1/\S.rg (S.adr addr) 10 v c.r1.x2=c.r1.x2/\S.rg (S.adr addr) 11 v c.r1.x3=c.r1.x3/\S.rg (S.adr addr) 12 v c.r1.x4=c.r1.x4/\S.rg (S.adr addr) 13 v c.r1.x5=c.r1.x5/\S.rg (S.adr addr) 14 v c.r1.x6=c.r1.x6/\S.rg (S.adr addr) 15 v c.r1.x7=c.r1.x7/\r
def yzs0 (c:S.Chip) (addr v:Int) (r:Prop):Prop :=
 c.r2.x0=c.r2.x0/\c.r2.x1=c.r2.x1/\c.r2.x2=c.r2.x2/\c.r2.x3=c.r2.x3/\c.r2.x4=c.r2.x4/\c.r2.x5=c.r2.x5/\c.r2.x6=c.r2.x6/\c.r2.x7=c.r2.x7/\r
def yat0 (c:S.Chip) (addr v:Int) (r:Prop):Prop :=
 c.r3.x0=c.r3.x0/\c.r3.x1=c.r3.x1/\c.r3.x2=c.r3.x2/\c.r3.x3=c.r3.x3/\c.r3.x4=c.r3.x4/\S.rg (S.adr addr) 29 v c.r3.x5=c.r3.x5/\S.rg (S.adr addr) 30 v c.r3.x6=c.r3.x6/\c.r3.x7=c.r3.x7/\r
def ybt0 (c:S.Chip) (addr v:Int) (r:Prop):Prop :=
 S.rg (S.adr addr) 43 0 (S.rg (S.adr addr) 32 v c.r4.x0)=c.r4.x0/\S.rg (S.adr addr) 43 0 (S.rg (S.adr addr) 33 v c.r4.x1)=c.r4.x1/\S.rg (S.adr addr) 43 0 (S.rg (S.adr addr) 34 v c.r4.x2)=c.r4.x2/\S.rg (S.adr addr) 43 0 (S.rg (S.adr addr) 35 v c.r4.x3)=c.r4.x3/\S.rg (S.adr addr) 43 0 (S.rg (S.adr addr) 36 v c.r4.x4)=c.r4.x4/\S.rg (S.adr addr) 37 v c.r4.x5=c.r4.x5/\S.rg (S.adr addr) 38 v c.r4.x6=c.r4.x6/\S.rg (S.adr addr) 39 v c.r4.x7=c.r4.x7/\r
def yct0 (c:S.Chip) (addr v:Int) (r:Prop):Prop :=
 S.rg (S.adr addr) 40 v c.r5.x0=c.r5.x0/\S.rg (S.adr addr) 41 v c.r5.x1=c.r5.x1/\c.r5.x2=c.r5.x2/\c.r5.x3=c.r5.x3/\c.r5.x4=c.r5.x4/\c.r5.x5=c.r5.x5/\c.r5.x6=c.r5.x6/\c.r5.x7=c.r5.x7/\r
def yio0 (c:S.Chip) (addr v:Int) (r:Prop):Prop :=
 c.r6.x0=c.r6.x0/\c.r6.x1=c.r6.x1/\c.r6.x2=c.r6.x2/\c.r6.x3=c.r6.x3/\c.r6.x4=c.r6.x4/\c.r6.x5=c.r6.x5/\c.r6.x6=c.r6.x6/\c.r6.x7=c.r6.x7/\c.r7.x0=c.r7.x0/\c.r7.x1=c.r7.x1/\c.r7.x2=c.r7.x2/\c.r7.x3=c.r7.x3/\c.r7.x4=c.r7.x4/\c.r7.x5=c.r7.x5/\c.r7.x6=c.r7.x6/\c.r7.x7=c.r7.x7/\r
def yjo0 (c:S.Chip) (addr v:Int) (r:Prop):Prop :=
 S.rg (S.adr addr) 27 v c.g00=c.g00/\S.rg (S.adr addr) 28 c.g00 c.g01=c.g01/\S.rg (S.adr addr) 28 v c.g10=c.g10/\S.rg (S.adr addr) 27 c.g10 c.g11=c.g11/\S.rb (S.adr addr) 31 (S.hb .u8 v 2) c.b0=c.b0/\S.rb (S.adr addr) 28 c.b0 c.b1=c.b1/\S.rg (S.adr addr) 44 0 c.met=c.met/\S.rb (S.adr addr) 2 true c.wait=c.wait/\(0:Nat)=0/\(0:Nat)=0/\r
def yko0 (c:S.Chip) (addr v:Int) (r:Prop):Prop :=
 S.rb (S.adr addr) 42 true c.late=c.late/\S.rg (S.adr addr) 3 0 c.ba=c.ba/\(4:Int)=4/\S.rg (S.adr addr) 3 0 c.bs=c.bs/\(6:Int)=6/\(1:Int)=1/\r
def ynj0 (c:S.Chip) (addr v:Int) (r:Prop):Prop :=
 S.rg (S.adr addr) 42 0 c.mc=c.mc/\S.rg (S.adr addr) 42 0 c.mg=c.mg/\S.rg (S.adr addr) 42 31 c.mm=c.mm/\r
def yoj0 (c:S.Chip) (addr v:Int) (r:Prop):Prop :=
 S.rg (S.adr addr) 16 0 c.t0.a=c.t0.a/\(4:Int)=4/\S.rg (S.adr addr) 16 0 c.t0.s=c.t0.s/\(6:Int)=6/\(1:Int)=1/\r
def ypj0 (c:S.Chip) (addr v:Int) (r:Prop):Prop :=
 S.rg (S.adr addr) 17 0 c.t1.a=c.t1.a/\(4:Int)=4/\S.rg (S.adr addr) 17 0 c.t1.s=c.t1.s/\(6:Int)=6/\(1:Int)=1/\r
def yvk0 (c:S.Chip) (addr v:Int) (r:Prop):Prop :=
 bc (S.frW (S.adr addr) 40 c.r5.x0 v) (S.frM c.r0.x4 c.t0 % 4) (S.rg (S.adr addr) 18 0 c.t2.a)=c.t2.a/\(4:Int)=4/\bc (S.frW (S.adr addr) 40 c.r5.x0 v) (S.st (S.frM c.r0.x4 c.t0 / 4)) (S.rg (S.adr addr) 18 0 c.t2.s)=c.t2.s/\(6:Int)=6/\(1:Int)=1/\r
def ymn0 (c:S.Chip) (addr v:Int) (r:Prop):Prop :=
 bc (S.frW (S.adr addr) 41 c.r5.x1 v) (S.frM c.r0.x5 c.t1 % 4) (S.rg (S.adr addr) 19 0 c.t3.a)=c.t3.a/\(4:Int)=4/\bc (S.frW (S.adr addr) 41 c.r5.x1 v) (S.st (S.frM c.r0.x5 c.t1 / 4)) (S.rg (S.adr addr) 19 0 c.t3.s)=c.t3.s/\(6:Int)=6/\(1:Int)=1/\r
def ynn0 (c:S.Chip) (addr v:Int) (r:Prop):Prop :=
 S.rg (S.adr addr) 20 0 c.t4.a=c.t4.a/\(4:Int)=4/\S.rg (S.adr addr) 20 0 c.t4.s=c.t4.s/\(6:Int)=6/\(1:Int)=1/\r
def yon0 (c:S.Chip) (addr v:Int) (r:Prop):Prop :=
 S.rg (S.adr addr) 21 (andK .u8 v 15) c.v0.ynv2=c.v0.ynv2/\S.rg (S.adr addr) 23 (andK .u8 v 31) c.v0.rate=c.v0.rate/\S.rg (S.adr addr) 25 (andK .u8 v 15) c.v0.yrv2=c.v0.yrv2/\(0:Nat)=0/\(0:Nat)=0/\(0:Nat)=0/\c.v0.count=c.v0.count/\c.v0.high=c.v0.high/\r
def ypn0 (c:S.Chip) (addr v:Int) (r:Prop):Prop :=
 S.rg (S.adr addr) 22 (andK .u8 v 15) c.v1.ynv2=c.v1.ynv2/\S.rg (S.adr addr) 24 (andK .u8 v 31) c.v1.rate=c.v1.rate/\S.rg (S.adr addr) 26 (andK .u8 v 15) c.v1.yrv2=c.v1.yrv2/\(0:Nat)=0/\(0:Nat)=0/\(0:Nat)=0/\c.v1.count=c.v1.count/\c.v1.high=c.v1.high/\r
def yoq0 (c:S.Chip) (addr v:Int) (r:Prop):Prop :=
 c.po.v0=c.po.v0/\c.po.v1=c.po.v1/\c.po.v2=c.po.v2/\c.po.v3=c.po.v3/\S.rg (S.adr addr) 1 (bc (S.hb .u8 v 128) 0 c.po.ypv2) c.po.ypv2=c.po.ypv2/\S.rb (S.adr addr) 1 (S.hb .u8 v 128) c.po.yqv2=c.po.yqv2/\c.po.h0=c.po.h0/\S.rb (S.adr addr) 1 (S.see (S.hb .u8 v 64) c.po.l0 c.po.h0) c.po.l0=c.po.l0/\c.po.h1=c.po.h1/\S.rb (S.adr addr) 1 (S.see (S.hb .u8 v 64) c.po.l1 c.po.h1) c.po.l1=c.po.l1/\S.rb (S.adr addr) 1 (S.hb .u8 v 64) c.po.yov2=c.po.yov2/\r
def ysv0 (c:S.Chip) (addr v:Int) (r:Prop):Prop :=
 S.rg (S.adr addr) 0 v c.r0.x0=c.r0.x0/\S.rg (S.adr addr) 1 v c.r0.x1=v/\c.r0.x2=c.r0.x2/\c.r0.x3=c.r0.x3/\S.rg (S.adr addr) 4 v c.r0.x4=c.r0.x4/\S.rg (S.adr addr) 5 v c.r0.x5=c.r0.x5/\S.rg (S.adr addr) 6 v c.r0.x6=c.r0.x6/\S.rg (S.adr addr) 7 v c.r0.x7=c.r0.x7/\r
def ytv0 (c:S.Chip) (addr v:Int) (r:Prop):Prop :=
 c.po.v0=c.po.v0/\c.po.v1=c.po.v1/\c.po.v2=c.po.v2/\c.po.v3=c.po.v3/\S.rg (S.adr addr) 1 (bc (S.hb .u8 v 128) 0 c.po.ypv2) c.po.ypv2=bc (notB (eqI (andK .u8 v 128) 0)) 0 c.po.ypv2/\S.rb (S.adr addr) 1 (S.hb .u8 v 128) c.po.yqv2=notB (eqI (andK .u8 v 128) 0)/\c.po.h0=c.po.h0/\S.rb (S.adr addr) 1 (S.see (S.hb .u8 v 64) c.po.l0 c.po.h0) c.po.l0=S.see (notB (eqI (andK .u8 v 64) 0)) c.po.l0 c.po.h0/\c.po.h1=c.po.h1/\S.rb (S.adr addr) 1 (S.see (S.hb .u8 v 64) c.po.l1 c.po.h1) c.po.l1=S.see (notB (eqI (andK .u8 v 64) 0)) c.po.l1 c.po.h1/\S.rb (S.adr addr) 1 (S.hb .u8 v 64) c.po.yov2=notB (eqI (andK .u8 v 64) 0)/\r
def ypq0 (c:S.Chip) (addr v:Int) (r:Prop):Prop :=
 S.rg (S.adr addr) 0 v c.r0.x0=c.r0.x0/\S.rg (S.adr addr) 1 v c.r0.x1=c.r0.x1/\c.r0.x2=c.r0.x2/\c.r0.x3=c.r0.x3/\S.rg (S.adr addr) 4 v c.r0.x4=c.r0.x4/\S.rg (S.adr addr) 5 v c.r0.x5=c.r0.x5/\S.rg (S.adr addr) 6 v c.r0.x6=c.r0.x6/\S.rg (S.adr addr) 7 v c.r0.x7=c.r0.x7/\r
def yuv0 (c:S.Chip) (addr v:Int) (r:Prop):Prop :=
 S.rg (S.adr addr) 27 v c.g00=c.g00/\S.rg (S.adr addr) 28 c.g00 c.g01=c.g01/\S.rg (S.adr addr) 28 v c.g10=c.g10/\S.rg (S.adr addr) 27 c.g10 c.g11=c.g11/\S.rb (S.adr addr) 31 (S.hb .u8 v 2) c.b0=c.b0/\S.rb (S.adr addr) 28 c.b0 c.b1=c.b1/\S.rg (S.adr addr) 44 0 c.met=c.met/\S.rb (S.adr addr) 2 true c.wait=true/\(0:Nat)=0/\(0:Nat)=0/\r
def yvv0 (c:S.Chip) (addr v:Int) (r:Prop):Prop :=
 S.rb (S.adr addr) 42 true c.late=c.late/\S.rg (S.adr addr) 3 0 c.ba=(0:Int)/\(4:Int)=4/\S.rg (S.adr addr) 3 0 c.bs=(0:Int)/\(6:Int)=6/\(1:Int)=1/\r
def ywv0 (c:S.Chip) (addr v:Int) (r:Prop):Prop :=
 S.rg (S.adr addr) 0 v c.r0.x0=c.r0.x0/\S.rg (S.adr addr) 1 v c.r0.x1=c.r0.x1/\c.r0.x2=c.r0.x2/\c.r0.x3=c.r0.x3/\S.rg (S.adr addr) 4 v c.r0.x4=v/\S.rg (S.adr addr) 5 v c.r0.x5=c.r0.x5/\S.rg (S.adr addr) 6 v c.r0.x6=c.r0.x6/\S.rg (S.adr addr) 7 v c.r0.x7=c.r0.x7/\r
def yxv0 (c:S.Chip) (addr v:Int) (r:Prop):Prop :=
 S.rg (S.adr addr) 0 v c.r0.x0=c.r0.x0/\S.rg (S.adr addr) 1 v c.r0.x1=c.r0.x1/\c.r0.x2=c.r0.x2/\c.r0.x3=c.r0.x3/\S.rg (S.adr addr) 4 v c.r0.x4=c.r0.x4/\S.rg (S.adr addr) 5 v c.r0.x5=v/\S.rg (S.adr addr) 6 v c.r0.x6=c.r0.x6/\S.rg (S.adr addr) 7 v c.r0.x7=c.r0.x7/\r
def yyv0 (c:S.Chip) (addr v:Int) (r:Prop):Prop :=
 S.rg (S.adr addr) 0 v c.r0.x0=c.r0.x0/\S.rg (S.adr addr) 1 v c.r0.x1=c.r0.x1/\c.r0.x2=c.r0.x2/\c.r0.x3=c.r0.x3/\S.rg (S.adr addr) 4 v c.r0.x4=c.r0.x4/\S.rg (S.adr addr) 5 v c.r0.x5=c.r0.x5/\S.rg (S.adr addr) 6 v c.r0.x6=v/\S.rg (S.adr addr) 7 v c.r0.x7=c.r0.x7/\r
def yzv0 (c:S.Chip) (addr v:Int) (r:Prop):Prop :=
 S.rg (S.adr addr) 0 v c.r0.x0=c.r0.x0/\S.rg (S.adr addr) 1 v c.r0.x1=c.r0.x1/\c.r0.x2=c.r0.x2/\c.r0.x3=c.r0.x3/\S.rg (S.adr addr) 4 v c.r0.x4=c.r0.x4/\S.rg (S.adr addr) 5 v c.r0.x5=c.r0.x5/\S.rg (S.adr addr) 6 v c.r0.x6=c.r0.x6/\S.rg (S.adr addr) 7 v c.r0.x7=v/\r
def yaw0 (c:S.Chip) (addr v:Int) (r:Prop):Prop :=
 S.rg (S.adr addr) 8 v c.r1.x0=v/\S.rg (S.adr addr) 9 v c.r1.x1=c.r1.x1/\S.rg (S.adr addr) 10 v c.r1.x2=c.r1.x2/\S.rg (S.adr addr) 11 v c.r1.x3=c.r1.x3/\S.rg (S.adr addr) 12 v c.r1.x4=c.r1.x4/\S.rg (S.adr addr) 13 v c.r1.x5=c.r1.x5/\S.rg (S.adr addr) 14 v c.r1.x6=c.r1.x6/\S.rg (S.adr addr) 15 v c.r1.x7=c.r1.x7/\r
def ybw0 (c:S.Chip) (addr v:Int) (r:Prop):Prop :=
 S.rg (S.adr addr) 8 v c.r1.x0=c.r1.x0/\S.rg (S.adr addr) 9 v c.r1.x1=v/\S.rg (S.adr addr) 10 v c.r1.x2=c.r1.x2/\S.rg (S.adr addr) 11 v c.r1.x3=c.r1.x3/\S.rg (S.adr addr) 12 v c.r1.x4=c.r1.x4/\S.rg (S.adr addr) 13 v c.r1.x5=c.r1.x5/\S.rg (S.adr addr) 14 v c.r1.x6=c.r1.x6/\S.rg (S.adr addr) 15 v c.r1.x7=c.r1.x7/\r
def ycw0 (c:S.Chip) (addr v:Int) (r:Prop):Prop :=
 S.rg (S.adr addr) 8 v c.r1.x0=c.r1.x0/\S.rg (S.adr addr) 9 v c.r1.x1=c.r1.x1/\S.rg (S.adr addr) 10 v c.r1.x2=v/\S.rg (S.adr addr) 11 v c.r1.x3=c.r1.x3/\S.rg (S.adr addr) 12 v c.r1.x4=c.r1.x4/\S.rg (S.adr addr) 13 v c.r1.x5=c.r1.x5/\S.rg (S.adr addr) 14 v c.r1.x6=c.r1.x6/\S.rg (S.adr addr) 15 v c.r1.x7=c.r1.x7/\r
def ydw0 (c:S.Chip) (addr v:Int) (r:Prop):Prop :=
 S.rg (S.adr addr) 8 v c.r1.x0=c.r1.x0/\S.rg (S.adr addr) 9 v c.r1.x1=c.r1.x1/\S.rg (S.adr addr) 10 v c.r1.x2=c.r1.x2/\S.rg (S.adr addr) 11 v c.r1.x3=v/\S.rg (S.adr addr) 12 v c.r1.x4=c.r1.x4/\S.rg (S.adr addr) 13 v c.r1.x5=c.r1.x5/\S.rg (S.adr addr) 14 v c.r1.x6=c.r1.x6/\S.rg (S.adr addr) 15 v c.r1.x7=c.r1.x7/\r
def yew0 (c:S.Chip) (addr v:Int) (r:Prop):Prop :=
 S.rg (S.adr addr) 8 v c.r1.x0=c.r1.x0/\S.rg (S.adr addr) 9 v c.r1.x1=c.r1.x1/\S.rg (S.adr addr) 10 v c.r1.x2=c.r1.x2/\S.rg (S.adr addr) 11 v c.r1.x3=c.r1.x3/\S.rg (S.adr addr) 12 v c.r1.x4=v/\S.rg (S.adr addr) 13 v c.r1.x5=c.r1.x5/\S.rg (S.adr addr) 14 v c.r1.x6=c.r1.x6/\S.rg (S.adr addr) 15 v c.r1.x7=c.r1.x7/\r
def yfw0 (c:S.Chip) (addr v:Int) (r:Prop):Prop :=
 S.rg (S.adr addr) 8 v c.r1.x0=c.r1.x0/\S.rg (S.adr addr) 9 v c.r1.x1=c.r1.x1/\S.rg (S.adr addr) 10 v c.r1.x2=c.r1.x2/\S.rg (S.adr addr) 11 v c.r1.x3=c.r1.x3/\S.rg (S.adr addr) 12 v c.r1.x4=c.r1.x4/\S.rg (S.adr addr) 13 v c.r1.x5=v/\S.rg (S.adr addr) 14 v c.r1.x6=c.r1.x6/\S.rg (S.adr addr) 15 v c.r1.x7=c.r1.x7/\r
def ygw0 (c:S.Chip) (addr v:Int) (r:Prop):Prop :=
 S.rg (S.adr addr) 8 v c.r1.x0=c.r1.x0/\S.rg (S.adr addr) 9 v c.r1.x1=c.r1.x1/\S.rg (S.adr addr) 10 v c.r1.x2=c.r1.x2/\S.rg (S.adr addr) 11 v c.r1.x3=c.r1.x3/\S.rg (S.adr addr) 12 v c.r1.x4=c.r1.x4/\S.rg (S.adr addr) 13 v c.r1.x5=c.r1.x5/\S.rg (S.adr addr) 14 v c.r1.x6=v/\S.rg (S.adr addr) 15 v c.r1.x7=c.r1.x7/\r
def yhw0 (c:S.Chip) (addr v:Int) (r:Prop):Prop :=
 S.rg (S.adr addr) 8 v c.r1.x0=c.r1.x0/\S.rg (S.adr addr) 9 v c.r1.x1=c.r1.x1/\S.rg (S.adr addr) 10 v c.r1.x2=c.r1.x2/\S.rg (S.adr addr) 11 v c.r1.x3=c.r1.x3/\S.rg (S.adr addr) 12 v c.r1.x4=c.r1.x4/\S.rg (S.adr addr) 13 v c.r1.x5=c.r1.x5/\S.rg (S.adr addr) 14 v c.r1.x6=c.r1.x6/\S.rg (S.adr addr) 15 v c.r1.x7=v/\r
def yiw0 (c:S.Chip) (addr v:Int) (r:Prop):Prop :=
 S.rg (S.adr addr) 16 0 c.t0.a=bc (S.inR 0 160) (0 % 4) c.t0.a/\(4:Int)=4/\S.rg (S.adr addr) 16 0 c.t0.s=bc (S.inR 0 160) (S.st (0 / 4:Int)) c.t0.s/\(6:Int)=6/\(1:Int)=1/\r
def yjw0 (c:S.Chip) (addr v:Int) (r:Prop):Prop :=
 S.rg (S.adr addr) 17 0 c.t1.a=bc (S.inR 0 160) (0 % 4) c.t1.a/\(4:Int)=4/\S.rg (S.adr addr) 17 0 c.t1.s=bc (S.inR 0 160) (S.st (0 / 4:Int)) c.t1.s/\(6:Int)=6/\(1:Int)=1/\r
def ykw0 (c:S.Chip) (addr v:Int) (r:Prop):Prop :=
 bc (S.frW (S.adr addr) 40 c.r5.x0 v) (S.frM c.r0.x4 c.t0 % 4) (S.rg (S.adr addr) 18 0 c.t2.a)=bc (S.inR 0 160) (0 % 4) c.t2.a/\(4:Int)=4/\bc (S.frW (S.adr addr) 40 c.r5.x0 v) (S.st (S.frM c.r0.x4 c.t0 / 4)) (S.rg (S.adr addr) 18 0 c.t2.s)=bc (S.inR 0 160) (S.st (0 / 4:Int)) c.t2.s/\(6:Int)=6/\(1:Int)=1/\r
def ylw0 (c:S.Chip) (addr v:Int) (r:Prop):Prop :=
 bc (S.frW (S.adr addr) 41 c.r5.x1 v) (S.frM c.r0.x5 c.t1 % 4) (S.rg (S.adr addr) 19 0 c.t3.a)=bc (S.inR 0 160) (0 % 4) c.t3.a/\(4:Int)=4/\bc (S.frW (S.adr addr) 41 c.r5.x1 v) (S.st (S.frM c.r0.x5 c.t1 / 4)) (S.rg (S.adr addr) 19 0 c.t3.s)=bc (S.inR 0 160) (S.st (0 / 4:Int)) c.t3.s/\(6:Int)=6/\(1:Int)=1/\r
def ymw0 (c:S.Chip) (addr v:Int) (r:Prop):Prop :=
 S.rg (S.adr addr) 20 0 c.t4.a=bc (S.inR 0 160) (0 % 4) c.t4.a/\(4:Int)=4/\S.rg (S.adr addr) 20 0 c.t4.s=bc (S.inR 0 160) (S.st (0 / 4:Int)) c.t4.s/\(6:Int)=6/\(1:Int)=1/\r
def ynw0 (c:S.Chip) (addr v:Int) (r:Prop):Prop :=
 S.rg (S.adr addr) 21 (andK .u8 v 15) c.v0.ynv2=andK .u8 v 15/\S.rg (S.adr addr) 23 (andK .u8 v 31) c.v0.rate=c.v0.rate/\S.rg (S.adr addr) 25 (andK .u8 v 15) c.v0.yrv2=c.v0.yrv2/\(0:Nat)=0/\(0:Nat)=0/\(0:Nat)=0/\c.v0.count=c.v0.count/\c.v0.high=c.v0.high/\r
def yow0 (c:S.Chip) (addr v:Int) (r:Prop):Prop :=
 S.rg (S.adr addr) 22 (andK .u8 v 15) c.v1.ynv2=andK .u8 v 15/\S.rg (S.adr addr) 24 (andK .u8 v 31) c.v1.rate=c.v1.rate/\S.rg (S.adr addr) 26 (andK .u8 v 15) c.v1.yrv2=c.v1.yrv2/\(0:Nat)=0/\(0:Nat)=0/\(0:Nat)=0/\c.v1.count=c.v1.count/\c.v1.high=c.v1.high/\r
def ypw0 (c:S.Chip) (addr v:Int) (r:Prop):Prop :=
 S.rg (S.adr addr) 21 (andK .u8 v 15) c.v0.ynv2=c.v0.ynv2/\S.rg (S.adr addr) 23 (andK .u8 v 31) c.v0.rate=andK .u8 v 31/\S.rg (S.adr addr) 25 (andK .u8 v 15) c.v0.yrv2=c.v0.yrv2/\(0:Nat)=0/\(0:Nat)=0/\(0:Nat)=0/\c.v0.count=c.v0.count/\c.v0.high=c.v0.high/\r
def yqw0 (c:S.Chip) (addr v:Int) (r:Prop):Prop :=
 S.rg (S.adr addr) 22 (andK .u8 v 15) c.v1.ynv2=c.v1.ynv2/\S.rg (S.adr addr) 24 (andK .u8 v 31) c.v1.rate=andK .u8 v 31/\S.rg (S.adr addr) 26 (andK .u8 v 15) c.v1.yrv2=c.v1.yrv2/\(0:Nat)=0/\(0:Nat)=0/\(0:Nat)=0/\c.v1.count=c.v1.count/\c.v1.high=c.v1.high/\r
def yrw0 (c:S.Chip) (addr v:Int) (r:Prop):Prop :=
 S.rg (S.adr addr) 21 (andK .u8 v 15) c.v0.ynv2=c.v0.ynv2/\S.rg (S.adr addr) 23 (andK .u8 v 31) c.v0.rate=c.v0.rate/\S.rg (S.adr addr) 25 (andK .u8 v 15) c.v0.yrv2=andK .u8 v 15/\(0:Nat)=0/\(0:Nat)=0/\(0:Nat)=0/\c.v0.count=c.v0.count/\c.v0.high=c.v0.high/\r
def ysw0 (c:S.Chip) (addr v:Int) (r:Prop):Prop :=
 S.rg (S.adr addr) 22 (andK .u8 v 15) c.v1.ynv2=c.v1.ynv2/\S.rg (S.adr addr) 24 (andK .u8 v 31) c.v1.rate=c.v1.rate/\S.rg (S.adr addr) 26 (andK .u8 v 15) c.v1.yrv2=andK .u8 v 15/\(0:Nat)=0/\(0:Nat)=0/\(0:Nat)=0/\c.v1.count=c.v1.count/\c.v1.high=c.v1.high/\r
def ytw0 (c:S.Chip) (addr v:Int) (r:Prop):Prop :=
 S.rg (S.adr addr) 27 v c.g00=v/\S.rg (S.adr addr) 28 c.g00 c.g01=c.g01/\S.rg (S.adr addr) 28 v c.g10=c.g10/\S.rg (S.adr addr) 27 c.g10 c.g11=c.g10/\S.rb (S.adr addr) 31 (S.hb .u8 v 2) c.b0=c.b0/\S.rb (S.adr addr) 28 c.b0 c.b1=c.b1/\S.rg (S.adr addr) 44 0 c.met=c.met/\S.rb (S.adr addr) 2 true c.wait=c.wait/\(0:Nat)=0/\(0:Nat)=0/\r
def yuw0 (c:S.Chip) (addr v:Int) (r:Prop):Prop :=
 S.rg (S.adr addr) 27 v c.g00=c.g00/\S.rg (S.adr addr) 28 c.g00 c.g01=c.g00/\S.rg (S.adr addr) 28 v c.g10=v/\S.rg (S.adr addr) 27 c.g10 c.g11=c.g11/\S.rb (S.adr addr) 31 (S.hb .u8 v 2) c.b0=c.b0/\S.rb (S.adr addr) 28 c.b0 c.b1=c.b0/\S.rg (S.adr addr) 44 0 c.met=c.met/\S.rb (S.adr addr) 2 true c.wait=c.wait/\(0:Nat)=0/\(0:Nat)=0/\r
def yvw0 (c:S.Chip) (addr v:Int) (r:Prop):Prop :=
 c.r3.x0=c.r3.x0/\c.r3.x1=c.r3.x1/\c.r3.x2=c.r3.x2/\c.r3.x3=c.r3.x3/\c.r3.x4=c.r3.x4/\S.rg (S.adr addr) 29 v c.r3.x5=v/\S.rg (S.adr addr) 30 v c.r3.x6=c.r3.x6/\c.r3.x7=c.r3.x7/\r
def yww0 (c:S.Chip) (addr v:Int) (r:Prop):Prop :=
 c.r3.x0=c.r3.x0/\c.r3.x1=c.r3.x1/\c.r3.x2=c.r3.x2/\c.r3.x3=c.r3.x3/\c.r3.x4=c.r3.x4/\S.rg (S.adr addr) 29 v c.r3.x5=c.r3.x5/\S.rg (S.adr addr) 30 v c.r3.x6=v/\c.r3.x7=c.r3.x7/\r
def yxw0 (c:S.Chip) (addr v:Int) (r:Prop):Prop :=
 S.rg (S.adr addr) 27 v c.g00=c.g00/\S.rg (S.adr addr) 28 c.g00 c.g01=c.g01/\S.rg (S.adr addr) 28 v c.g10=c.g10/\S.rg (S.adr addr) 27 c.g10 c.g11=c.g11/\S.rb (S.adr addr) 31 (S.hb .u8 v 2) c.b0=notB (eqI (andK .u8 v 2) 0)/\S.rb (S.adr addr) 28 c.b0 c.b1=c.b1/\S.rg (S.adr addr) 44 0 c.met=c.met/\S.rb (S.adr addr) 2 true c.wait=c.wait/\(0:Nat)=0/\(0:Nat)=0/\r
def yyw0 (c:S.Chip) (addr v:Int) (r:Prop):Prop :=
 S.rg (S.adr addr) 43 0 (S.rg (S.adr addr) 32 v c.r4.x0)=v/\S.rg (S.adr addr) 43 0 (S.rg (S.adr addr) 33 v c.r4.x1)=c.r4.x1/\S.rg (S.adr addr) 43 0 (S.rg (S.adr addr) 34 v c.r4.x2)=c.r4.x2/\S.rg (S.adr addr) 43 0 (S.rg (S.adr addr) 35 v c.r4.x3)=c.r4.x3/\S.rg (S.adr addr) 43 0 (S.rg (S.adr addr) 36 v c.r4.x4)=c.r4.x4/\S.rg (S.adr addr) 37 v c.r4.x5=c.r4.x5/\S.rg (S.adr addr) 38 v c.r4.x6=c.r4.x6/\S.rg (S.adr addr) 39 v c.r4.x7=c.r4.x7/\r
def yzw0 (c:S.Chip) (addr v:Int) (r:Prop):Prop :=
 S.rg (S.adr addr) 43 0 (S.rg (S.adr addr) 32 v c.r4.x0)=c.r4.x0/\S.rg (S.adr addr) 43 0 (S.rg (S.adr addr) 33 v c.r4.x1)=v/\S.rg (S.adr addr) 43 0 (S.rg (S.adr addr) 34 v c.r4.x2)=c.r4.x2/\S.rg (S.adr addr) 43 0 (S.rg (S.adr addr) 35 v c.r4.x3)=c.r4.x3/\S.rg (S.adr addr) 43 0 (S.rg (S.adr addr) 36 v c.r4.x4)=c.r4.x4/\S.rg (S.adr addr) 37 v c.r4.x5=c.r4.x5/\S.rg (S.adr addr) 38 v c.r4.x6=c.r4.x6/\S.rg (S.adr addr) 39 v c.r4.x7=c.r4.x7/\r
def yax0 (c:S.Chip) (addr v:Int) (r:Prop):Prop :=
 S.rg (S.adr addr) 43 0 (S.rg (S.adr addr) 32 v c.r4.x0)=c.r4.x0/\S.rg (S.adr addr) 43 0 (S.rg (S.adr addr) 33 v c.r4.x1)=c.r4.x1/\S.rg (S.adr addr) 43 0 (S.rg (S.adr addr) 34 v c.r4.x2)=v/\S.rg (S.adr addr) 43 0 (S.rg (S.adr addr) 35 v c.r4.x3)=c.r4.x3/\S.rg (S.adr addr) 43 0 (S.rg (S.adr addr) 36 v c.r4.x4)=c.r4.x4/\S.rg (S.adr addr) 37 v c.r4.x5=c.r4.x5/\S.rg (S.adr addr) 38 v c.r4.x6=c.r4.x6/\S.rg (S.adr addr) 39 v c.r4.x7=c.r4.x7/\r
def ybx0 (c:S.Chip) (addr v:Int) (r:Prop):Prop :=
 S.rg (S.adr addr) 43 0 (S.rg (S.adr addr) 32 v c.r4.x0)=c.r4.x0/\S.rg (S.adr addr) 43 0 (S.rg (S.adr addr) 33 v c.r4.x1)=c.r4.x1/\S.rg (S.adr addr) 43 0 (S.rg (S.adr addr) 34 v c.r4.x2)=c.r4.x2/\S.rg (S.adr addr) 43 0 (S.rg (S.adr addr) 35 v c.r4.x3)=v/\S.rg (S.adr addr) 43 0 (S.rg (S.adr addr) 36 v c.r4.x4)=c.r4.x4/\S.rg (S.adr addr) 37 v c.r4.x5=c.r4.x5/\S.rg (S.adr addr) 38 v c.r4.x6=c.r4.x6/\S.rg (S.adr addr) 39 v c.r4.x7=c.r4.x7/\r
def ycx0 (c:S.Chip) (addr v:Int) (r:Prop):Prop :=
 S.rg (S.adr addr) 43 0 (S.rg (S.adr addr) 32 v c.r4.x0)=c.r4.x0/\S.rg (S.adr addr) 43 0 (S.rg (S.adr addr) 33 v c.r4.x1)=c.r4.x1/\S.rg (S.adr addr) 43 0 (S.rg (S.adr addr) 34 v c.r4.x2)=c.r4.x2/\S.rg (S.adr addr) 43 0 (S.rg (S.adr addr) 35 v c.r4.x3)=c.r4.x3/\S.rg (S.adr addr) 43 0 (S.rg (S.adr addr) 36 v c.r4.x4)=v/\S.rg (S.adr addr) 37 v c.r4.x5=c.r4.x5/\S.rg (S.adr addr) 38 v c.r4.x6=c.r4.x6/\S.rg (S.adr addr) 39 v c.r4.x7=c.r4.x7/\r
def ydx0 (c:S.Chip) (addr v:Int) (r:Prop):Prop :=
 S.rg (S.adr addr) 43 0 (S.rg (S.adr addr) 32 v c.r4.x0)=c.r4.x0/\S.rg (S.adr addr) 43 0 (S.rg (S.adr addr) 33 v c.r4.x1)=c.r4.x1/\S.rg (S.adr addr) 43 0 (S.rg (S.adr addr) 34 v c.r4.x2)=c.r4.x2/\S.rg (S.adr addr) 43 0 (S.rg (S.adr addr) 35 v c.r4.x3)=c.r4.x3/\S.rg (S.adr addr) 43 0 (S.rg (S.adr addr) 36 v c.r4.x4)=c.r4.x4/\S.rg (S.adr addr) 37 v c.r4.x5=v/\S.rg (S.adr addr) 38 v c.r4.x6=c.r4.x6/\S.rg (S.adr addr) 39 v c.r4.x7=c.r4.x7/\r
def yex0 (c:S.Chip) (addr v:Int) (r:Prop):Prop :=
 S.rg (S.adr addr) 43 0 (S.rg (S.adr addr) 32 v c.r4.x0)=c.r4.x0/\S.rg (S.adr addr) 43 0 (S.rg (S.adr addr) 33 v c.r4.x1)=c.r4.x1/\S.rg (S.adr addr) 43 0 (S.rg (S.adr addr) 34 v c.r4.x2)=c.r4.x2/\S.rg (S.adr addr) 43 0 (S.rg (S.adr addr) 35 v c.r4.x3)=c.r4.x3/\S.rg (S.adr addr) 43 0 (S.rg (S.adr addr) 36 v c.r4.x4)=c.r4.x4/\S.rg (S.adr addr) 37 v c.r4.x5=c.r4.x5/\S.rg (S.adr addr) 38 v c.r4.x6=v/\S.rg (S.adr addr) 39 v c.r4.x7=c.r4.x7/\r
def yfx0 (c:S.Chip) (addr v:Int) (r:Prop):Prop :=
 S.rg (S.adr addr) 43 0 (S.rg (S.adr addr) 32 v c.r4.x0)=c.r4.x0/\S.rg (S.adr addr) 43 0 (S.rg (S.adr addr) 33 v c.r4.x1)=c.r4.x1/\S.rg (S.adr addr) 43 0 (S.rg (S.adr addr) 34 v c.r4.x2)=c.r4.x2/\S.rg (S.adr addr) 43 0 (S.rg (S.adr addr) 35 v c.r4.x3)=c.r4.x3/\S.rg (S.adr addr) 43 0 (S.rg (S.adr addr) 36 v c.r4.x4)=c.r4.x4/\S.rg (S.adr addr) 37 v c.r4.x5=c.r4.x5/\S.rg (S.adr addr) 38 v c.r4.x6=c.r4.x6/\S.rg (S.adr addr) 39 v c.r4.x7=v/\r
def yqn0 (c:S.Chip) (addr v:Int) (r:Prop):Prop :=
 S.rg (S.adr addr) 40 v c.r5.x0=v/\S.rg (S.adr addr) 41 v c.r5.x1=c.r5.x1/\c.r5.x2=c.r5.x2/\c.r5.x3=c.r5.x3/\c.r5.x4=c.r5.x4/\c.r5.x5=c.r5.x5/\c.r5.x6=c.r5.x6/\c.r5.x7=c.r5.x7/\r
def ygx0 (c:S.Chip) (addr v:Int) (r:Prop):Prop :=
 bc (S.frW (S.adr addr) 40 c.r5.x0 v) (S.frM c.r0.x4 c.t0 % 4) (S.rg (S.adr addr) 18 0 c.t2.a)=S.frM c.r0.x4 c.t0 % 4/\(4:Int)=4/\bc (S.frW (S.adr addr) 40 c.r5.x0 v) (S.st (S.frM c.r0.x4 c.t0 / 4)) (S.rg (S.adr addr) 18 0 c.t2.s)=S.st (S.frM c.r0.x4 c.t0 / 4)/\(6:Int)=6/\(1:Int)=1/\r
def yrn0 (c:S.Chip) (addr v:Int) (r:Prop):Prop :=
 S.rg (S.adr addr) 40 v c.r5.x0=c.r5.x0/\S.rg (S.adr addr) 41 v c.r5.x1=v/\c.r5.x2=c.r5.x2/\c.r5.x3=c.r5.x3/\c.r5.x4=c.r5.x4/\c.r5.x5=c.r5.x5/\c.r5.x6=c.r5.x6/\c.r5.x7=c.r5.x7/\r
def yhx0 (c:S.Chip) (addr v:Int) (r:Prop):Prop :=
 bc (S.frW (S.adr addr) 41 c.r5.x1 v) (S.frM c.r0.x5 c.t1 % 4) (S.rg (S.adr addr) 19 0 c.t3.a)=S.frM c.r0.x5 c.t1 % 4/\(4:Int)=4/\bc (S.frW (S.adr addr) 41 c.r5.x1 v) (S.st (S.frM c.r0.x5 c.t1 / 4)) (S.rg (S.adr addr) 19 0 c.t3.s)=S.st (S.frM c.r0.x5 c.t1 / 4)/\(6:Int)=6/\(1:Int)=1/\r
def yix0 (c:S.Chip) (addr v:Int) (r:Prop):Prop :=
 S.rb (S.adr addr) 42 true c.late=true/\S.rg (S.adr addr) 3 0 c.ba=c.ba/\(4:Int)=4/\S.rg (S.adr addr) 3 0 c.bs=c.bs/\(6:Int)=6/\(1:Int)=1/\r
def yjx0 (c:S.Chip) (addr v:Int) (r:Prop):Prop :=
 S.rg (S.adr addr) 42 0 c.mc=(0:Int)/\S.rg (S.adr addr) 42 0 c.mg=(0:Int)/\S.rg (S.adr addr) 42 31 c.mm=(31:Int)/\r
def ykx0 (c:S.Chip) (addr v:Int) (r:Prop):Prop :=
 S.rg (S.adr addr) 43 0 (S.rg (S.adr addr) 32 v c.r4.x0)=(0:Int)/\S.rg (S.adr addr) 43 0 (S.rg (S.adr addr) 33 v c.r4.x1)=(0:Int)/\S.rg (S.adr addr) 43 0 (S.rg (S.adr addr) 34 v c.r4.x2)=(0:Int)/\S.rg (S.adr addr) 43 0 (S.rg (S.adr addr) 35 v c.r4.x3)=(0:Int)/\S.rg (S.adr addr) 43 0 (S.rg (S.adr addr) 36 v c.r4.x4)=(0:Int)/\S.rg (S.adr addr) 37 v c.r4.x5=c.r4.x5/\S.rg (S.adr addr) 38 v c.r4.x6=c.r4.x6/\S.rg (S.adr addr) 39 v c.r4.x7=c.r4.x7/\r
def ylx0 (c:S.Chip) (addr v:Int) (r:Prop):Prop :=
 S.rg (S.adr addr) 27 v c.g00=c.g00/\S.rg (S.adr addr) 28 c.g00 c.g01=c.g01/\S.rg (S.adr addr) 28 v c.g10=c.g10/\S.rg (S.adr addr) 27 c.g10 c.g11=c.g11/\S.rb (S.adr addr) 31 (S.hb .u8 v 2) c.b0=c.b0/\S.rb (S.adr addr) 28 c.b0 c.b1=c.b1/\S.rg (S.adr addr) 44 0 c.met=(0:Int)/\S.rb (S.adr addr) 2 true c.wait=c.wait/\(0:Nat)=0/\(0:Nat)=0/\r
def yek0 (c:S.Chip) (addr v:Int) (r:Prop):Prop:=(yga1 c addr v r)
def yli0 (c:S.Chip) (addr v:Int) (r:Prop):Prop:=yek0 c addr v (ypq0 c addr v r)
def yvf1 (c:S.Chip) (addr v:Int) (r:Prop):Prop:=yli0 c addr v (yys0 c addr v r)
def ydt0 (c:S.Chip) (addr v:Int) (r:Prop):Prop:=yvf1 c addr v (yzs0 c addr v r)
def yfh0 (c:S.Chip) (addr v:Int) (r:Prop):Prop:=ydt0 c addr v (yat0 c addr v r)
def yfk0 (c:S.Chip) (addr v:Int) (r:Prop):Prop:=yfh0 c addr v (ybt0 c addr v r)
def ywf1 (c:S.Chip) (addr v:Int) (r:Prop):Prop:=yfk0 c addr v (yct0 c addr v r)
def ybm0 (c:S.Chip) (addr v:Int) (r:Prop):Prop:=ywf1 c addr v (yio0 c addr v r)
def yet0 (c:S.Chip) (addr v:Int) (r:Prop):Prop:=ybm0 c addr v (yjo0 c addr v r)
def ymx0 (c:S.Chip) (addr v:Int) (r:Prop):Prop:=yet0 c addr v (yko0 c addr v r)
def yqq0 (c:S.Chip) (addr v:Int) (r:Prop):Prop:=ymx0 c addr v (ynj0 c addr v r)
def yrq0 (c:S.Chip) (addr v:Int) (r:Prop):Prop:=yqq0 c addr v (yoj0 c addr v r)
def ysq0 (c:S.Chip) (addr v:Int) (r:Prop):Prop:=yrq0 c addr v (ypj0 c addr v r)
def ytq0 (c:S.Chip) (addr v:Int) (r:Prop):Prop:=ysq0 c addr v (yvk0 c addr v r)
def yuq0 (c:S.Chip) (addr v:Int) (r:Prop):Prop:=ytq0 c addr v (ymn0 c addr v r)
def ywk0 (c:S.Chip) (addr v:Int) (r:Prop):Prop:=yuq0 c addr v (ynn0 c addr v r)
def yxk0 (c:S.Chip) (addr v:Int) (r:Prop):Prop:=ywk0 c addr v (yon0 c addr v r)
def ynx0 (c:S.Chip) (addr v:Int) (r:Prop):Prop:=yxk0 c addr v (ypn0 c addr v r)
def yad1 (c:S.Chip) (addr v:Int) (r:Prop):Prop:=ynx0 c addr v (yoq0 c addr v r)
def yyk0 (c:S.Chip) (addr v:Int) (r:Prop):Prop:=yoq0 c addr v r
def yzk0 (c:S.Chip) (addr v:Int) (r:Prop):Prop:=ypn0 c addr v (yyk0 c addr v r)
def yvq0 (c:S.Chip) (addr v:Int) (r:Prop):Prop:=yon0 c addr v (yzk0 c addr v r)
def ysn0 (c:S.Chip) (addr v:Int) (r:Prop):Prop:=ynn0 c addr v (yvq0 c addr v r)
def ytn0 (c:S.Chip) (addr v:Int) (r:Prop):Prop:=ymn0 c addr v (ysn0 c addr v r)
def ywq0 (c:S.Chip) (addr v:Int) (r:Prop):Prop:=yvk0 c addr v (ytn0 c addr v r)
def yxq0 (c:S.Chip) (addr v:Int) (r:Prop):Prop:=ypj0 c addr v (ywq0 c addr v r)
def yyq0 (c:S.Chip) (addr v:Int) (r:Prop):Prop:=yoj0 c addr v (yxq0 c addr v r)
def yzq0 (c:S.Chip) (addr v:Int) (r:Prop):Prop:=ynj0 c addr v (yyq0 c addr v r)
def ycm0 (c:S.Chip) (addr v:Int) (r:Prop):Prop:=yko0 c addr v (yzq0 c addr v r)
def yxf1 (c:S.Chip) (addr v:Int) (r:Prop):Prop:=yjo0 c addr v (ycm0 c addr v r)
def ylo0 (c:S.Chip) (addr v:Int) (r:Prop):Prop:=yio0 c addr v (yxf1 c addr v r)
def ygh0 (c:S.Chip) (addr v:Int) (r:Prop):Prop:=yct0 c addr v (ylo0 c addr v r)
def yft0 (c:S.Chip) (addr v:Int) (r:Prop):Prop:=ybt0 c addr v (ygh0 c addr v r)
def yyf1 (c:S.Chip) (addr v:Int) (r:Prop):Prop:=yat0 c addr v (yft0 c addr v r)
def ymi0 (c:S.Chip) (addr v:Int) (r:Prop):Prop:=yzs0 c addr v (yyf1 c addr v r)
def ydm0 (c:S.Chip) (addr v:Int) (r:Prop):Prop:=yys0 c addr v (ymi0 c addr v r)
def yzf1 (c:S.Chip) (addr v:Int) (r:Prop):Prop:=ypq0 c addr v (ydm0 c addr v r)
def ypd0 (c:S.Chip) (addr v:Int) (r:Prop):Prop:=yga1 c addr v (yzf1 c addr v r)
theorem yml2 (c:S.Chip) (addr v:Int):K.bodyF (yvh2) (K.runF (yvh2) 30) 28 [.ptr 0 0,.int .u16 addr,.int .u8 v] (Heap.of (S.hp0 c)) (.skip 1 (.st [.int .i64 0,.int .i64 1,.int .i64 2,.int .i64 3,.int .i64 4,.int .i64 5,.int .i64 6,.int .i64 7,.int .i64 8,.int .i64 9,.int .i64 10,.int .i64 11,.int .i64 12,.int .i64 13,.int .i64 14,.int .i64 15,.int .i64 16,.int .i64 17,.int .i64 18,.int .i64 19,.int .i64 20,.int .i64 21,.int .i64 22,.int .i64 23,.int .i64 24,.int .i64 25,.int .i64 26,.int .i64 27,.int .i64 28,.int .i64 29,.int .i64 30,.int .i64 31,.int .i64 32,.int .i64 33,.int .i64 34,.int .i64 35,.int .i64 36,.int .i64 37,.int .i64 38,.int .i64 39,.int .i64 40,.int .i64 41,.int .i64 42,.int .i64 43,.int .i64 44,.int .i64 45,.int .i64 46,.int .i64 47,.int .i64 48,.int .i64 49,.int .i64 50,.int .i64 51,.int .i64 52,.int .i64 53,.int .i64 54,.int .i64 55,.int .i64 56,.int .i64 57,.int .i64 58,.int .i64 59,.int .i64 60,.int .i64 61,.int .i64 62,.int .i64 63] .auto)) (K.endC K.openE 40 (kStoR c addr v)) =
  (bc (eqI (S.adr addr) 0) (yek0 c addr v (yuf1 c addr v (ydm0 c addr v True))) (bc (eqI (S.adr addr) 1) (yek0 c addr v (ysv0 c addr v (yys0 c addr v (yzs0 c addr v (yat0 c addr v (ybt0 c addr v (yct0 c addr v (yio0 c addr v (yjo0 c addr v (yko0 c addr v (ynj0 c addr v (yoj0 c addr v (ypj0 c addr v (yvk0 c addr v (ymn0 c addr v (ynn0 c addr v (yon0 c addr v (ypn0 c addr v (ytv0 c addr v True))))))))))))))))))) (bc (eqI (S.adr addr) 2) (ybm0 c addr v (yuv0 c addr v (ycm0 c addr v True))) (bc (eqI (S.adr addr) 3) (bc (S.okBm c.ba c.bs 4 20 57) (yet0 c addr v (yvv0 c addr v (yzq0 c addr v True))) False) (bc (eqI (S.adr addr) 4) (yek0 c addr v (ywv0 c addr v (ydm0 c addr v True))) (bc (eqI (S.adr addr) 5) (yek0 c addr v (yxv0 c addr v (ydm0 c addr v True))) (bc (eqI (S.adr addr) 6) (yek0 c addr v (yyv0 c addr v (ydm0 c addr v True))) (bc (eqI (S.adr addr) 7) (yek0 c addr v (yzv0 c addr v (ydm0 c addr v True))) (bc (eqI (S.adr addr) 8) (yli0 c addr v (yaw0 c addr v (ymi0 c addr v True))) (bc (eqI (S.adr addr) 9) (yli0 c addr v (ybw0 c addr v (ymi0 c addr v True))) (bc (eqI (S.adr addr) 10) (yli0 c addr v (ycw0 c addr v (ymi0 c addr v True))) (bc (eqI (S.adr addr) 11) (yli0 c addr v (ydw0 c addr v (ymi0 c addr v True))) (bc (eqI (S.adr addr) 12) (yli0 c addr v (yew0 c addr v (ymi0 c addr v True))) (bc (eqI (S.adr addr) 13) (yli0 c addr v (yfw0 c addr v (ymi0 c addr v True))) (bc (eqI (S.adr addr) 14) (yli0 c addr v (ygw0 c addr v (ymi0 c addr v True))) (bc (eqI (S.adr addr) 15) (yli0 c addr v (yhw0 c addr v (ymi0 c addr v True))) (bc (eqI (S.adr addr) 16) (bc (S.okPm c.t0.a 4 45 40 c.t0.s) (yqq0 c addr v (yiw0 c addr v (yxq0 c addr v True))) False) (bc (eqI (S.adr addr) 17) (bc (S.okPm c.t1.a 4 45 40 c.t1.s) (yrq0 c addr v (yjw0 c addr v (ywq0 c addr v True))) False) (bc (eqI (S.adr addr) 18) (bc (S.okPm c.t2.a 4 45 40 c.t2.s) (ysq0 c addr v (ykw0 c addr v (ytn0 c addr v True))) False) (bc (eqI (S.adr addr) 19) (bc (S.okPm c.t3.a 4 45 40 c.t3.s) (ytq0 c addr v (ylw0 c addr v (ysn0 c addr v True))) False) (bc (eqI (S.adr addr) 20) (bc (S.okPm c.t4.a 4 45 40 c.t4.s) (yuq0 c addr v (ymw0 c addr v (yvq0 c addr v True))) False) (bc (eqI (S.adr addr) 21) (ywk0 c addr v (ynw0 c addr v (yzk0 c addr v True))) (bc (eqI (S.adr addr) 22) (yxk0 c addr v (yow0 c addr v (yyk0 c addr v True))) (bc (eqI (S.adr addr) 23) (ywk0 c addr v (ypw0 c addr v (yzk0 c addr v True))) (bc (eqI (S.adr addr) 24) (yxk0 c addr v (yqw0 c addr v (yyk0 c addr v True))) (bc (eqI (S.adr addr) 25) (ywk0 c addr v (yrw0 c addr v (yzk0 c addr v True))) (bc (eqI (S.adr addr) 26) (yxk0 c addr v (ysw0 c addr v (yyk0 c addr v True))) (bc (eqI (S.adr addr) 27) (ybm0 c addr v (ytw0 c addr v (ycm0 c addr v True))) (bc (eqI (S.adr addr) 28) (ybm0 c addr v (yuw0 c addr v (ycm0 c addr v True))) (bc (eqI (S.adr addr) 29) (ydt0 c addr v (yvw0 c addr v (yft0 c addr v True))) (bc (eqI (S.adr addr) 30) (ydt0 c addr v (yww0 c addr v (yft0 c addr v True))) (bc (eqI (S.adr addr) 31) (ybm0 c addr v (yxw0 c addr v (ycm0 c addr v True))) (bc (eqI (S.adr addr) 32) (yfh0 c addr v (yyw0 c addr v (ygh0 c addr v True))) (bc (eqI (S.adr addr) 33) (yfh0 c addr v (yzw0 c addr v (ygh0 c addr v True))) (bc (eqI (S.adr addr) 34) (yfh0 c addr v (yax0 c addr v (ygh0 c addr v True))) (bc (eqI (S.adr addr) 35) (yfh0 c addr v (ybx0 c addr v (ygh0 c addr v True))) (bc (eqI (S.adr addr) 36) (yfh0 c addr v (ycx0 c addr v (ygh0 c addr v True))) (bc (eqI (S.adr addr) 37) (yfh0 c addr v (ydx0 c addr v (ygh0 c addr v True))) (bc (eqI (S.adr addr) 38) (yfh0 c addr v (yex0 c addr v (ygh0 c addr v True))) (bc (eqI (S.adr addr) 39) (yfh0 c addr v (yfx0 c addr v (ygh0 c addr v True))) (bc (eqI (S.adr addr) 40) (bc (notB (eqI (andK .u8 c.r5.x0 2) 0)) (bc (eqI (andK .u8 v 2) 0) (bc (S.an (S.pl c.t0) (S.pl c.t2)) (yfk0 c addr v (yqn0 c addr v (yio0 c addr v (yjo0 c addr v (yko0 c addr v (ynj0 c addr v (yoj0 c addr v (ypj0 c addr v (ygx0 c addr v (ytn0 c addr v True)))))))))) False) (yfk0 c addr v (yqn0 c addr v (ylo0 c addr v True)))) (yfk0 c addr v (yqn0 c addr v (ylo0 c addr v True)))) (bc (eqI (S.adr addr) 41) (bc (notB (eqI (andK .u8 c.r5.x1 2) 0)) (bc (eqI (andK .u8 v 2) 0) (bc (S.an (S.pl c.t1) (S.pl c.t3)) (yfk0 c addr v (yrn0 c addr v (yio0 c addr v (yjo0 c addr v (yko0 c addr v (ynj0 c addr v (yoj0 c addr v (ypj0 c addr v (yvk0 c addr v (yhx0 c addr v (ysn0 c addr v True))))))))))) False) (yfk0 c addr v (yrn0 c addr v (ylo0 c addr v True)))) (yfk0 c addr v (yrn0 c addr v (ylo0 c addr v True)))) (bc (eqI (S.adr addr) 42) (bc (S.okBm c.ba c.bs 4 20 57) (yet0 c addr v (yix0 c addr v (yjx0 c addr v (yyq0 c addr v True)))) False) (bc (eqI (S.adr addr) 43) (yfh0 c addr v (ykx0 c addr v (ygh0 c addr v True))) (bc (eqI (S.adr addr) 44) (ybm0 c addr v (ylx0 c addr v (ycm0 c addr v True))) (bc (eqI (S.adr addr) 45) (ypd0 c addr v True) (bc (eqI (S.adr addr) 46) (ypd0 c addr v True) (bc (eqI (S.adr addr) 47) (ypd0 c addr v True) (bc (eqI (S.adr addr) 48) (ypd0 c addr v True) (bc (eqI (S.adr addr) 49) (ypd0 c addr v True) (bc (eqI (S.adr addr) 50) (ypd0 c addr v True) (bc (eqI (S.adr addr) 51) (ypd0 c addr v True) (bc (eqI (S.adr addr) 52) (ypd0 c addr v True) (bc (eqI (S.adr addr) 53) (ypd0 c addr v True) (bc (eqI (S.adr addr) 54) (ypd0 c addr v True) (bc (eqI (S.adr addr) 55) (ypd0 c addr v True) (bc (eqI (S.adr addr) 56) (ypd0 c addr v True) (bc (eqI (S.adr addr) 57) (ypd0 c addr v True) (bc (eqI (S.adr addr) 58) (ypd0 c addr v True) (bc (eqI (S.adr addr) 59) (ypd0 c addr v True) (bc (eqI (S.adr addr) 60) (ypd0 c addr v True) (bc (eqI (S.adr addr) 61) (ypd0 c addr v True) (bc (eqI (S.adr addr) 62) (ypd0 c addr v True) (bc (eqI (S.adr addr) 63) (ypd0 c addr v True) False)))))))))))))))))))))))))))))))))))))))))))))))))))))))))))))))):=by kernel_rfl
theorem ynl2 (c:S.Chip) (addr v:Int) (h0:S.okC c=true)  : HTr Tryz.prog 28 [.ptr 0 0,.int .u16 addr,.int .u8 v] (S.hp0 c) (kStoR c addr v):=by
 refine K.yca0 good (A:=yvh2) (yga0 ?_) K.yea0 (k:=30) (cast (yml2 c addr v).symm ?_)
 .intro p hp;simp only [List.mem_cons,List.not_mem_nil,or_false] at hp;rcases hp with rfl | rfl | rfl | rfl | rfl | rfl | rfl | rfl | rfl | rfl;exact yik2;exact yhy1;exact yca2;exact ynq1;exact yii1;exact yvk2;exact ymr1;exact yll2;exact yhq1;exact yzk2
 .obtain ⟨pb,pp,pt,pd,pv,pw⟩:=S.ybg0.1 h0;obtain ⟨_,_,a0,a1,a2,a3,a4⟩:=S.yuh0.1 pt;have p0:=(S.yia0.1 a0).1;have p1:=(S.yia0.1 a1).1;have p2:=(S.yia0.1 a2).1;have p3:=(S.yia0.1 a3).1;have p4:=(S.yia0.1 a4).1;have k0:S.an (S.pl c.t0) (S.pl c.t2)=true:=S.an_t2 p0 p2;have k1:S.an (S.pl c.t1) (S.pl c.t3)=true:=S.an_t2 p1 p3;have z1:S.inR 0 160=true:=rfl;have z2:S.st (0 / 4)=0:=S.st0;have hf:∀ k x n,notB (eqI (andK k x n) 0)=S.hb k x n:=fun _ _ _=>rfl
  have hg:∀ k x n,eqI (andK k x n) 0=notB (S.hb k x n):=fun k x n=>by unfold S.hb;cases eqI (andK k x n) 0 <;> rfl
  simp only [pb,p0,p1,p2,p3,p4,k0,k1,bc_true];clear pb pp pt pd pv pw a0 a1 a2 a3 a4 p0 p1 p2 p3 p4 k0 k1 h0;have hany:=S.yks2 addr;refine bcI (fun e=>?_) fun n0=>bcI (fun e=>?_) fun n1=>bcI (fun e=>?_) fun n2=>bcI (fun e=>?_) fun n3=>bcI (fun e=>?_) fun n4=>bcI (fun e=>?_) fun n5=>bcI (fun e=>?_) fun n6=>bcI (fun e=>?_) fun n7=>bcI (fun e=>?_) fun n8=>bcI (fun e=>?_) fun n9=>bcI (fun e=>?_) fun n10=>bcI (fun e=>?_) fun n11=>bcI (fun e=>?_) fun n12=>bcI (fun e=>?_) fun n13=>bcI (fun e=>?_) fun n14=>bcI (fun e=>?_) fun n15=>bcI (fun e=>?_) fun n16=>bcI (fun e=>?_) fun n17=>bcI (fun e=>?_) fun n18=>bcI (fun e=>?_) fun n19=>bcI (fun e=>?_) fun n20=>bcI (fun e=>?_) fun n21=>bcI (fun e=>?_) fun n22=>bcI (fun e=>?_) fun n23=>bcI (fun e=>?_) fun n24=>bcI (fun e=>?_) fun n25=>bcI (fun e=>?_) fun n26=>bcI (fun e=>?_) fun n27=>bcI (fun e=>?_) fun n28=>bcI (fun e=>?_) fun n29=>bcI (fun e=>?_) fun n30=>bcI (fun e=>?_) fun n31=>bcI (fun e=>?_) fun n32=>bcI (fun e=>?_) fun n33=>bcI (fun e=>?_) fun n34=>bcI (fun e=>?_) fun n35=>bcI (fun e=>?_) fun n36=>bcI (fun e=>?_) fun n37=>bcI (fun e=>?_) fun n38=>bcI (fun e=>?_) fun n39=>bcI (fun e=>?_) fun n40=>bcI (fun e=>?_) fun n41=>bcI (fun e=>?_) fun n42=>bcI (fun e=>?_) fun n43=>bcI (fun e=>?_) fun n44=>bcI (fun e=>?_) fun n45=>bcI (fun e=>?_) fun n46=>bcI (fun e=>?_) fun n47=>bcI (fun e=>?_) fun n48=>bcI (fun e=>?_) fun n49=>bcI (fun e=>?_) fun n50=>bcI (fun e=>?_) fun n51=>bcI (fun e=>?_) fun n52=>bcI (fun e=>?_) fun n53=>bcI (fun e=>?_) fun n54=>bcI (fun e=>?_) fun n55=>bcI (fun e=>?_) fun n56=>bcI (fun e=>?_) fun n57=>bcI (fun e=>?_) fun n58=>bcI (fun e=>?_) fun n59=>bcI (fun e=>?_) fun n60=>bcI (fun e=>?_) fun n61=>bcI (fun e=>?_) fun n62=>bcI (fun e=>?_) fun n63=>?z
  case z=>simp only [n0,n1,n2,n3,n4,n5,n6,n7,n8,n9,n10,n11,n12,n13,n14,n15,n16,n17,n18,n19,n20,n21,n22,n23,n24,n25,n26,n27,n28,n29,n30,n31,n32,n33,n34,n35,n36,n37,n38,n39,n40,n41,n42,n43,n44,n45,n46,n47,n48,n49,n50,n51,n52,n53,n54,n55,n56,n57,n58,n59,n60,n61,n62,n63,bc_false,Bool.false_eq_true] at hany
  all_goals (have q:=ysa0.1 e;clear e hany)
  all_goals first
   | (simp only [yga1,yuf1,yys0,yzs0,yat0,ybt0,yct0,yio0,yjo0,yko0,ynj0,yoj0,ypj0,yvk0,ymn0,ynn0,yon0,ypn0,yoq0,ysv0,ytv0,ypq0,yuv0,yvv0,ywv0,yxv0,yyv0,yzv0,yaw0,ybw0,ycw0,ydw0,yew0,yfw0,ygw0,yhw0,yiw0,yjw0,ykw0,ylw0,ymw0,ynw0,yow0,ypw0,yqw0,yrw0,ysw0,ytw0,yuw0,yvw0,yww0,yxw0,yyw0,yzw0,yax0,ybx0,ycx0,ydx0,yex0,yfx0,yqn0,ygx0,yrn0,yhx0,yix0,yjx0,ykx0,ylx0,yek0,yli0,yvf1,ydt0,yfh0,yfk0,ywf1,ybm0,yet0,ymx0,yqq0,yrq0,ysq0,ytq0,yuq0,ywk0,yxk0,ynx0,yad1,ypd0,yzf1,ydm0,ymi0,yyf1,yft0,ygh0,ylo0,yxf1,ycm0,yzq0,yyq0,yxq0,ywq0,ytn0,ysn0,yvq0,yzk0,yyk0,q,S.rg_t,S.rb_t,S.rg_f,S.rb_f,S.frW_t,S.frW_f,ne_eq,S.hb,z1,z2,S.st0,bc_true,bc_false,and_self,true_and,and_true,eq_self,not_false_eq_true,Int.reduceEq,Int.reduceMod,Int.reduceDiv];done)
   | (simp only [hf, hg, bc_true]
      generalize hA:S.hb .u8 c.r5.x0 2=bA;generalize hB:S.hb .u8 v 2=bB;simp only [yga1,yuf1,yys0,yzs0,yat0,ybt0,yct0,yio0,yjo0,yko0,ynj0,yoj0,ypj0,yvk0,ymn0,ynn0,yon0,ypn0,yoq0,ysv0,ytv0,ypq0,yuv0,yvv0,ywv0,yxv0,yyv0,yzv0,yaw0,ybw0,ycw0,ydw0,yew0,yfw0,ygw0,yhw0,yiw0,yjw0,ykw0,ylw0,ymw0,ynw0,yow0,ypw0,yqw0,yrw0,ysw0,ytw0,yuw0,yvw0,yww0,yxw0,yyw0,yzw0,yax0,ybx0,ycx0,ydx0,yex0,yfx0,yqn0,ygx0,yrn0,yhx0,yix0,yjx0,ykx0,ylx0,yek0,yli0,yvf1,ydt0,yfh0,yfk0,ywf1,ybm0,yet0,ymx0,yqq0,yrq0,ysq0,ytq0,yuq0,ywk0,yxk0,ynx0,yad1,ypd0,yzf1,ydm0,ymi0,yyf1,yft0,ygh0,ylo0,yxf1,ycm0,yzq0,yyq0,yxq0,ywq0,ytn0,ysn0,yvq0,yzk0,yyk0,q,S.rg_t,S.rb_t,S.rg_f,S.rb_f,S.frW_t,S.frW_f,ne_eq,hA,hB,not_false_eq_true,Int.reduceEq];cases bA <;> cases bB <;> simp only [S.an,yoa0,yna0,bc_true,bc_false,and_self,true_and,and_true,eq_self,not_false_eq_true,Int.reduceEq]
      done)
   | (simp only [hf, hg, bc_true]
      generalize hA:S.hb .u8 c.r5.x1 2=bA;generalize hB:S.hb .u8 v 2=bB;simp only [yga1,yuf1,yys0,yzs0,yat0,ybt0,yct0,yio0,yjo0,yko0,ynj0,yoj0,ypj0,yvk0,ymn0,ynn0,yon0,ypn0,yoq0,ysv0,ytv0,ypq0,yuv0,yvv0,ywv0,yxv0,yyv0,yzv0,yaw0,ybw0,ycw0,ydw0,yew0,yfw0,ygw0,yhw0,yiw0,yjw0,ykw0,ylw0,ymw0,ynw0,yow0,ypw0,yqw0,yrw0,ysw0,ytw0,yuw0,yvw0,yww0,yxw0,yyw0,yzw0,yax0,ybx0,ycx0,ydx0,yex0,yfx0,yqn0,ygx0,yrn0,yhx0,yix0,yjx0,ykx0,ylx0,yek0,yli0,yvf1,ydt0,yfh0,yfk0,ywf1,ybm0,yet0,ymx0,yqq0,yrq0,ysq0,ytq0,yuq0,ywk0,yxk0,ynx0,yad1,ypd0,yzf1,ydm0,ymi0,yyf1,yft0,ygh0,ylo0,yxf1,ycm0,yzq0,yyq0,yxq0,ywq0,ytn0,ysn0,yvq0,yzk0,yyk0,q,S.rg_t,S.rb_t,S.rg_f,S.rb_f,S.frW_t,S.frW_f,ne_eq,hA,hB,not_false_eq_true,Int.reduceEq]
      cases bA <;> cases bB <;> simp only [S.an,yoa0,yna0,bc_true,bc_false,and_self,true_and,and_true,eq_self,not_false_eq_true,Int.reduceEq])
theorem yss1 (c:S.Chip) (addr v:Int) (h0:S.okC c=true):HT Tryz.prog 28 [.ptr 0 0,.int .u16 addr,.int .u8 v] (Heap.of (S.hp0 c)) (.ret (.tup [])) (Heap.of (K.chg (S.hp0 c) (hpCh (S.ynv0 addr v c))++[])):=cast (by kernel_rfl) (ynl2 c addr v h0)
theorem yda2:ykp1.ok Tryz.prog 28:=by
 intro xs os b r h h3;unfold ykp1 at h;simp only at h;split at h
 .obtain ⟨c,rfl,q⟩:=S.yrb0 h;clear h;injection q with h;injection h with h1 h2;subst h1;subst h2;exact yss1 _ _ _ h3
 .cases h
namespace S
theorem yls2 (addr:Int):0<=adf addr/\adf addr<16:=by
 unfold adf;rw [K.yne1]
 have h:(BitVec.ofInt IntKind.u16.bits addr &&& BitVec.ofInt IntKind.u16.bits 15).toNat<=15:=by
  rw [BitVec.toNat_and];exact Nat.le_trans Nat.and_le_right (by decide)
 generalize (BitVec.ofInt IntKind.u16.bits addr &&& BitVec.ofInt IntKind.u16.bits 15).toNat=n at h
 have e:IntKind.u16.wrap (n:Int)=n:=by
  rw [<- K.yye0,yaf0];omega
 rw [e,yma0];omega
theorem u16_1 {x:Int} (h0:0<=x) (h1:x<65536):andK .u16 x 1=x % 2:=by
 obtain ⟨n,rfl⟩:=Int.eq_ofNat_of_zero_le h0;rw [K.yne1];have hn:n<65536:=by omega
 have e1:BitVec.ofInt IntKind.u16.bits (n:Int)=BitVec.ofNat 16 n:=by
  apply BitVec.eq_of_toNat_eq;simp [IntKind.bits]
 have e2:BitVec.ofInt IntKind.u16.bits 1=BitVec.ofNat 16 1:=rfl;rw [e1,e2,<- K.yye0,yaf0]
 have e3:(BitVec.ofNat 16 n &&& BitVec.ofNat 16 1).toNat=n % 2:=by
  rw [BitVec.toNat_and,BitVec.toNat_ofNat,BitVec.toNat_ofNat,Nat.mod_eq_of_lt (by omega:n<2 ^ 16)]
  exact Nat.and_one_is_mod n
 have e4:((BitVec.ofNat 16 n &&& BitVec.ofNat 16 1).toNat:Int)=(n:Int) % 2:=by rw [e3];omega
 refine (congrArg (· % 65536) e4).trans ?_;show (n:Int) % 2 % 65536=(n:Int) % 2;omega
theorem t_bit {met:Int} (h:inR met 65536=true) (k:Nat):andK .u16 (met.fdiv (2 ^ k)) 1=met / 2 ^ k % 2:=by
 have h1:=yha0.1 h;have hp:(0:Int)<2 ^ k:=Int.pow_pos (by decide)
 rw [fd h1.1];have a:=Int.ediv_nonneg h1.1 (Int.le_of_lt hp);have b:met / 2 ^ k<=met:=Int.ediv_le_self _ h1.1;exact u16_1 a (by omega)
theorem t_two {a b:Int} (ha:a=0\/a=1) (hb:b=0\/b=1):wrapK .u8 (orK .u16 (wrapK .u16 (a*2 ^ 7)) (wrapK .u16 (b*2 ^ 6)))=128*a+64*b:=by
 rcases ha with rfl | rfl <;> rcases hb with rfl | rfl <;> decide
theorem m2 (x:Int):x % 2=0\/x % 2=1:=by omega
end S
theorem yts1 (met:Int):K.bodyF (envL []) (K.runF (envL []) 30) 111 [.int .u16 met,.int .i64 0] (Heap.of []) Hint.auto (K.endC K.openE 0 ⟨.ret (.int .u8 (S.tell met 0)),[],[]⟩) =
  ((S.tell met (0:Int)=wrapK .u8 (orK .u16 (wrapK .u16 (andK .u16 (Int.fdiv met (2 ^ 0)) 1*2 ^ 7)) (wrapK .u16 (andK .u16 (Int.fdiv met (2 ^ 1)) 1*2 ^ 6)))/\True)):=by kernel_rfl
theorem yus1 (met:Int) (h0:S.inR met 65536=true)  : HTr Tryz.prog 111 [.int .u16 met,.int .i64 0] [] ⟨.ret (.int .u8 (S.tell met 0)),[],[]⟩:=by
 refine K.yca0 good (A:=envL []) (yga0 ?_) K.yea0 (k:=30) (cast (yts1 met).symm ?_)
 .intro p hp;cases hp
 .have b:=S.t_bit h0;have c1:S.tell met 0=128*(met / 2 ^ 0 % 2)+64*(met / 2 ^ 1 % 2):=rfl;simp only [b,c1];refine ⟨?_,trivial⟩;exact (S.t_two (S.m2 _) (S.m2 _)).symm
theorem yvs1 (met:Int):K.bodyF (envL []) (K.runF (envL []) 30) 111 [.int .u16 met,.int .i64 1] (Heap.of []) Hint.auto (K.endC K.openE 0 ⟨.ret (.int .u8 (S.tell met 1)),[],[]⟩) =
  ((S.tell met (1:Int)=wrapK .u8 (orK .u16 (wrapK .u16 (andK .u16 (Int.fdiv met (2 ^ 2)) 1*2 ^ 7)) (wrapK .u16 (andK .u16 (Int.fdiv met (2 ^ 3)) 1*2 ^ 6)))/\True)):=by kernel_rfl
theorem yws1 (met:Int) (h0:S.inR met 65536=true)  : HTr Tryz.prog 111 [.int .u16 met,.int .i64 1] [] ⟨.ret (.int .u8 (S.tell met 1)),[],[]⟩:=by
 refine K.yca0 good (A:=envL []) (yga0 ?_) K.yea0 (k:=30) (cast (yvs1 met).symm ?_)
 .intro p hp;cases hp
 .have b:=S.t_bit h0;have c1:S.tell met 1=128*(met / 2 ^ 2 % 2)+64*(met / 2 ^ 3 % 2):=rfl;simp only [b,c1];refine ⟨?_,trivial⟩;exact (S.t_two (S.m2 _) (S.m2 _)).symm
theorem yxs1 (met:Int):K.bodyF (envL []) (K.runF (envL []) 30) 111 [.int .u16 met,.int .i64 2] (Heap.of []) Hint.auto (K.endC K.openE 0 ⟨.ret (.int .u8 (S.tell met 2)),[],[]⟩) =
  ((S.tell met (2:Int)=wrapK .u8 (orK .u16 (wrapK .u16 (andK .u16 (Int.fdiv met (2 ^ 4)) 1*2 ^ 7)) (wrapK .u16 (andK .u16 (Int.fdiv met (2 ^ 5)) 1*2 ^ 6)))/\True)):=by kernel_rfl
theorem yys1 (met:Int) (h0:S.inR met 65536=true)  : HTr Tryz.prog 111 [.int .u16 met,.int .i64 2] [] ⟨.ret (.int .u8 (S.tell met 2)),[],[]⟩:=by
 refine K.yca0 good (A:=envL []) (yga0 ?_) K.yea0 (k:=30) (cast (yxs1 met).symm ?_)
 .intro p hp;cases hp
 .have b:=S.t_bit h0;have c1:S.tell met 2=128*(met / 2 ^ 4 % 2)+64*(met / 2 ^ 5 % 2):=rfl;simp only [b,c1];refine ⟨?_,trivial⟩;exact (S.t_two (S.m2 _) (S.m2 _)).symm
theorem yzs1 (met:Int):K.bodyF (envL []) (K.runF (envL []) 30) 111 [.int .u16 met,.int .i64 3] (Heap.of []) Hint.auto (K.endC K.openE 0 ⟨.ret (.int .u8 (S.tell met 3)),[],[]⟩) =
  ((S.tell met (3:Int)=wrapK .u8 (orK .u16 (wrapK .u16 (andK .u16 (Int.fdiv met (2 ^ 6)) 1*2 ^ 7)) (wrapK .u16 (andK .u16 (Int.fdiv met (2 ^ 7)) 1*2 ^ 6)))/\True)):=by kernel_rfl
theorem yat1 (met:Int) (h0:S.inR met 65536=true)  : HTr Tryz.prog 111 [.int .u16 met,.int .i64 3] [] ⟨.ret (.int .u8 (S.tell met 3)),[],[]⟩:=by
 refine K.yca0 good (A:=envL []) (yga0 ?_) K.yea0 (k:=30) (cast (yzs1 met).symm ?_)
 .intro p hp;cases hp
 .have b:=S.t_bit h0;have c1:S.tell met 3=128*(met / 2 ^ 6 % 2)+64*(met / 2 ^ 7 % 2):=rfl;simp only [b,c1];refine ⟨?_,trivial⟩;exact (S.t_two (S.m2 _) (S.m2 _)).symm
theorem ybt1 (met:Int):K.bodyF (envL []) (K.runF (envL []) 30) 111 [.int .u16 met,.int .i64 4] (Heap.of []) Hint.auto (K.endC K.openE 0 ⟨.ret (.int .u8 (S.tell met 4)),[],[]⟩) =
  ((S.tell met (4:Int)=wrapK .u8 (orK .u16 (wrapK .u16 (andK .u16 (Int.fdiv met (2 ^ 8)) 1*2 ^ 7)) (wrapK .u16 (andK .u16 (Int.fdiv met (2 ^ 9)) 1*2 ^ 6)))/\True)):=by kernel_rfl
theorem yct1 (met:Int) (h0:S.inR met 65536=true)  : HTr Tryz.prog 111 [.int .u16 met,.int .i64 4] [] ⟨.ret (.int .u8 (S.tell met 4)),[],[]⟩:=by
 refine K.yca0 good (A:=envL []) (yga0 ?_) K.yea0 (k:=30) (cast (ybt1 met).symm ?_)
 .intro p hp;cases hp
 .have b:=S.t_bit h0;have c1:S.tell met 4=128*(met / 2 ^ 8 % 2)+64*(met / 2 ^ 9 % 2):=rfl;simp only [b,c1];refine ⟨?_,trivial⟩;exact (S.t_two (S.m2 _) (S.m2 _)).symm
theorem ydt1 (met:Int):K.bodyF (envL []) (K.runF (envL []) 30) 111 [.int .u16 met,.int .i64 5] (Heap.of []) Hint.auto (K.endC K.openE 0 ⟨.ret (.int .u8 (S.tell met 5)),[],[]⟩) =
  ((S.tell met (5:Int)=wrapK .u8 (orK .u16 (wrapK .u16 (andK .u16 (Int.fdiv met (2 ^ 10)) 1*2 ^ 7)) (wrapK .u16 (andK .u16 (Int.fdiv met (2 ^ 11)) 1*2 ^ 6)))/\True)):=by kernel_rfl
theorem yet1 (met:Int) (h0:S.inR met 65536=true)  : HTr Tryz.prog 111 [.int .u16 met,.int .i64 5] [] ⟨.ret (.int .u8 (S.tell met 5)),[],[]⟩:=by
 refine K.yca0 good (A:=envL []) (yga0 ?_) K.yea0 (k:=30) (cast (ydt1 met).symm ?_)
 .intro p hp;cases hp
 .have b:=S.t_bit h0;have c1:S.tell met 5=128*(met / 2 ^ 10 % 2)+64*(met / 2 ^ 11 % 2):=rfl;simp only [b,c1];refine ⟨?_,trivial⟩;exact (S.t_two (S.m2 _) (S.m2 _)).symm
theorem yft1 (met:Int):K.bodyF (envL []) (K.runF (envL []) 30) 111 [.int .u16 met,.int .i64 6] (Heap.of []) Hint.auto (K.endC K.openE 0 ⟨.ret (.int .u8 (S.tell met 6)),[],[]⟩) =
  ((S.tell met (6:Int)=wrapK .u8 (orK .u16 (wrapK .u16 (andK .u16 (Int.fdiv met (2 ^ 12)) 1*2 ^ 7)) (wrapK .u16 (0*2 ^ 6)))/\True)):=by kernel_rfl
theorem ygt1 (met:Int) (h0:S.inR met 65536=true)  : HTr Tryz.prog 111 [.int .u16 met,.int .i64 6] [] ⟨.ret (.int .u8 (S.tell met 6)),[],[]⟩:=by
 refine K.yca0 good (A:=envL []) (yga0 ?_) K.yea0 (k:=30) (cast (yft1 met).symm ?_)
 .intro p hp;cases hp
 .have b:=S.t_bit h0;have c1:S.tell met 6=128*(met / 2 ^ 12 % 2):=rfl;simp only [b,c1];refine ⟨?_,trivial⟩;have h:=(S.t_two (S.m2 (met / 2 ^ 12)) (.inl rfl)).symm;rw [show (64:Int)*0=0 from rfl,Int.add_zero] at h
  exact h
theorem yht1 (met:Int):K.bodyF (envL []) (K.runF (envL []) 30) 111 [.int .u16 met,.int .i64 7] (Heap.of []) Hint.auto (K.endC K.openE 0 ⟨.ret (.int .u8 (S.tell met 7)),[],[]⟩) =
  ((S.tell met (7:Int)=wrapK .u8 (orK .u16 (wrapK .u16 (andK .u16 (Int.fdiv met (2 ^ 13)) 1*2 ^ 7)) (wrapK .u16 (andK .u16 (Int.fdiv met (2 ^ 14)) 1*2 ^ 6)))/\True)):=by kernel_rfl
theorem yit1 (met:Int) (h0:S.inR met 65536=true)  : HTr Tryz.prog 111 [.int .u16 met,.int .i64 7] [] ⟨.ret (.int .u8 (S.tell met 7)),[],[]⟩:=by
 refine K.yca0 good (A:=envL []) (yga0 ?_) K.yea0 (k:=30) (cast (yht1 met).symm ?_)
 .intro p hp;cases hp
 .have b:=S.t_bit h0;have c1:S.tell met 7=128*(met / 2 ^ 13 % 2)+64*(met / 2 ^ 14 % 2):=rfl;simp only [b,c1];refine ⟨?_,trivial⟩;exact (S.t_two (S.m2 _) (S.m2 _)).symm
theorem yea2 (met r:Int) (h0:S.an (S.inR r 8) (S.inR met 65536)=true):HT Tryz.prog 111 [.int .u16 met,.int .i64 r] (Heap.of []) (.ret (.int .u8 (S.tell met r))) (Heap.of (K.chg [] []++[])):=by
 obtain ⟨h1,h2⟩:=S.yia0.1 h0;have h3:=S.yha0.1 h1;rcases (by omega:r=0\/r=1\/r=2\/r=3\/r=4\/r=5\/r=6\/r=7) with rfl | rfl | rfl | rfl | rfl | rfl | rfl | rfl
 .exact yus1 met h2
 .exact yws1 met h2
 .exact yys1 met h2
 .exact yat1 met h2
 .exact yct1 met h2
 .exact yet1 met h2
 .exact ygt1 met h2
 .exact yit1 met h2
theorem yol2:ywh2.ok Tryz.prog 111:=by
 intro xs os b r h h3;unfold ywh2 at h;simp only at h;split at h
 .injection h with h;injection h with h1 h2;subst h1;subst h2;exact yea2 _ _ h3
 .cases h
theorem yfa2 (c:S.Chip) (addr bus:Int):K.bodyF (ylp1) (K.runF (ylp1) 30) 30 [.ptr 0 0,.int .u16 addr,.int .u8 bus] (Heap.of (S.hp0 c)) Hint.auto (K.endC K.openE 40 ⟨.ret (.int .u8 (S.readV c addr bus)),[],[]⟩) =
  (bc (ltI (S.adf addr) 8) (bc (S.an (S.inR (S.adf addr) 8) (S.inR c.met 65536)) (S.readV c addr bus=orK .u8 (S.tell c.met (S.adf addr)) (andK .u8 bus 63)/\True) False) (bc (ltI (S.adf addr) 14) (bc (S.an (S.inR (wrapK .i64 (wrapK .i64 (andK .u16 addr 15)-8)) 6) (S.okP c.po.v0 c.po.v1 c.po.v2 c.po.v3 c.po.ypv2)) (bc (S.yyc0 (wrapK .i64 (wrapK .i64 (andK .u16 addr 15)-8)) c.po.v0 c.po.v1 c.po.v2 c.po.v3 c.po.ypv2 c.po.yqv2 c.po.h0 c.po.l0 c.po.h1 c.po.l1 c.po.yov2) (S.readV c addr bus=orK .u8 bus 128/\True) (S.readV c addr bus=IntKind.wrap .u8 ↑(BitVec.toNat (BitVec.ofInt 8 bus &&& ~~~BitVec.ofInt 8 128))/\True)) False) (S.readV c addr bus=bus/\True))):=by kernel_rfl
theorem yga2 (c:S.Chip) (addr bus:Int) (h0:S.okQ c=true)  : HTr Tryz.prog 30 [.ptr 0 0,.int .u16 addr,.int .u8 bus] (S.hp0 c) ⟨.ret (.int .u8 (S.readV c addr bus)),[],[]⟩:=by
 refine K.yca0 good (A:=ylp1) (yga0 ?_) K.yea0 (k:=30) (cast (yfa2 c addr bus).symm ?_)
 .intro p hp;simp only [List.mem_cons,List.not_mem_nil,or_false] at hp;rcases hp with rfl | rfl;exact yol2;exact yjk2
 .obtain ⟨hc,hm⟩:=S.yia0.1 h0;obtain ⟨pb,pp,pt,pd,pv,pw⟩:=S.ybg0.1 hc;have r:=S.yls2 addr;have m:=S.yha0.1 hm;have m2:S.inR c.met 65536=true:=S.yha0.2 (by omega)
  have ea:wrapK .i64 (andK .u16 addr 15)=S.adf addr:=rfl;simp only [ea,m2,pp,S.readV];cases h8:ltI (S.adf addr) 8 with
  | true =>
   have i8:S.inR (S.adf addr) 8=true:=S.yha0.2 ⟨r.1,yka0.1 h8⟩;simp only [i8,S.an,bc_true,and_self]
  | false =>
   have r8:=yba0.1 h8;cases h14:ltI (S.adf addr) 14 with
   | true =>
    have r14:=yka0.1 h14;have w:wrapK .i64 (S.adf addr-8)=S.adf addr-8:=by rw [yma0];omega
    have i6:S.inR (S.adf addr-8) 6=true:=S.yha0.2 (by omega)
    simp only [w,i6,S.an,bc_true,bc_false];cases S.yyc0 (S.adf addr-8) c.po.v0 c.po.v1 c.po.v2 c.po.v3 c.po.ypv2 c.po.yqv2 c.po.h0 c.po.l0 c.po.h1 c.po.l1 c.po.yov2 <;> simp only [bc_true,bc_false,S.clr,and_self]
   | false=>simp only [bc_false,and_self]
theorem ypl2:yxh2.ok Tryz.prog 30:=by
 intro xs os b r h h3;unfold yxh2 at h;simp only at h;split at h
 .obtain ⟨c,rfl,q⟩:=S.yrb0 h;clear h;injection q with h;injection h with h1 h2;subst h1;subst h2;exact yga2 _ _ _ h3
 .cases h
theorem yql2 (c:S.Chip) (n v:Int):K.bodyF (envL [(110,kInE)]) (K.runF (envL [(110,kInE)]) 30) 29 [.ptr 0 0,.int .i64 n,.int .u8 v] (Heap.of (S.hp0 c)) Hint.auto (K.endC K.openE 40 ⟨.ret (.tup []),[(39,.cells 182 .exact [.int .u8 (S.inC n v c).po.v0,.int .u8 (S.inC n v c).po.v1,.int .u8 (S.inC n v c).po.v2,.int .u8 (S.inC n v c).po.v3,.int .i64 (S.inC n v c).po.ypv2,.bool (S.inC n v c).po.yqv2,.bool (S.inC n v c).po.h0,.bool (S.inC n v c).po.l0,.bool (S.inC n v c).po.h1,.bool (S.inC n v c).po.l1,.bool (S.inC n v c).po.yov2])],[]⟩) =
  ((S.Po.v0 (S.Chip.po (S.inC n v c))=S.pkV n v 0 c.po.v0/\(S.Po.v1 (S.Chip.po (S.inC n v c))=S.pkV n v 1 c.po.v1/\(S.Po.v2 (S.Chip.po (S.inC n v c))=S.pkV n v 2 c.po.v2/\(S.Po.v3 (S.Chip.po (S.inC n v c))=S.pkV n v 3 c.po.v3/\(S.Po.ypv2 (S.Chip.po (S.inC n v c))=c.po.ypv2/\(S.Po.yqv2 (S.Chip.po (S.inC n v c))=c.po.yqv2/\(S.Po.h0 (S.Chip.po (S.inC n v c))=S.pkH n v 4 c.po.h0/\(S.Po.l0 (S.Chip.po (S.inC n v c))=S.pkL n v 4 c.po.yov2 c.po.l0 c.po.h0/\(S.Po.h1 (S.Chip.po (S.inC n v c))=S.pkH n v 5 c.po.h1/\(S.Po.l1 (S.Chip.po (S.inC n v c))=S.pkL n v 5 c.po.yov2 c.po.l1 c.po.h1/\(S.Po.yov2 (S.Chip.po (S.inC n v c))=c.po.yov2/\True)))))))))))):=by kernel_rfl
theorem yrl2 (c:S.Chip) (n v:Int)  : HTr Tryz.prog 29 [.ptr 0 0,.int .i64 n,.int .u8 v] (S.hp0 c) ⟨.ret (.tup []),[(39,.cells 182 .exact [.int .u8 (S.inC n v c).po.v0,.int .u8 (S.inC n v c).po.v1,.int .u8 (S.inC n v c).po.v2,.int .u8 (S.inC n v c).po.v3,.int .i64 (S.inC n v c).po.ypv2,.bool (S.inC n v c).po.yqv2,.bool (S.inC n v c).po.h0,.bool (S.inC n v c).po.l0,.bool (S.inC n v c).po.h1,.bool (S.inC n v c).po.l1,.bool (S.inC n v c).po.yov2])],[]⟩:=by
 refine K.yca0 good (A:=envL [(110,kInE)]) (yga0 ?_) K.yea0 (k:=30) (cast (yql2 c n v).symm ?_)
 .intro p hp;simp only [List.mem_cons,List.not_mem_nil,or_false] at hp;rcases hp with rfl;exact you2
 .exact ⟨rfl,rfl,rfl,rfl,rfl,rfl,rfl,rfl,rfl,rfl,rfl,trivial⟩
theorem yha2 (k:Int):K.bodyF (ymp1) (K.runF (ymp1) 30) 18 [.int .i64 k] (Heap.of []) Hint.auto (K.endC K.openE 0 ⟨.ret (.ptr 0 0),[],(S.hp0 (S.newC k))⟩) =
  (bc (S.inR k 228) ((0:Nat)=0/\((0:Nat)=0/\((0:Nat)=0/\((0:Nat)=0/\((0:Nat)=0/\((0:Nat)=0/\((0:Nat)=0/\((0:Nat)=0/\((0:Nat)=0/\((0:Nat)=0/\((0:Nat)=0/\(S.R8.x0 (S.Chip.r0 (S.newC k))=(0:Int)/\(S.R8.x1 (S.Chip.r0 (S.newC k))=(0:Int)/\(S.R8.x2 (S.Chip.r0 (S.newC k))=(0:Int)/\(S.R8.x3 (S.Chip.r0 (S.newC k))=(0:Int)/\(S.R8.x4 (S.Chip.r0 (S.newC k))=(0:Int)/\(S.R8.x5 (S.Chip.r0 (S.newC k))=(0:Int)/\(S.R8.x6 (S.Chip.r0 (S.newC k))=(0:Int)/\(S.R8.x7 (S.Chip.r0 (S.newC k))=(0:Int)/\(S.R8.x0 (S.Chip.r1 (S.newC k))=(0:Int)/\(S.R8.x1 (S.Chip.r1 (S.newC k))=(0:Int)/\(S.R8.x2 (S.Chip.r1 (S.newC k))=(0:Int)/\(S.R8.x3 (S.Chip.r1 (S.newC k))=(0:Int)/\(S.R8.x4 (S.Chip.r1 (S.newC k))=(0:Int)/\(S.R8.x5 (S.Chip.r1 (S.newC k))=(0:Int)/\(S.R8.x6 (S.Chip.r1 (S.newC k))=(0:Int)/\(S.R8.x7 (S.Chip.r1 (S.newC k))=(0:Int)/\(S.R8.x0 (S.Chip.r2 (S.newC k))=(0:Int)/\(S.R8.x1 (S.Chip.r2 (S.newC k))=(0:Int)/\(S.R8.x2 (S.Chip.r2 (S.newC k))=(0:Int)/\(S.R8.x3 (S.Chip.r2 (S.newC k))=(0:Int)/\(S.R8.x4 (S.Chip.r2 (S.newC k))=(0:Int)/\(S.R8.x5 (S.Chip.r2 (S.newC k))=(0:Int)/\(S.R8.x6 (S.Chip.r2 (S.newC k))=(0:Int)/\(S.R8.x7 (S.Chip.r2 (S.newC k))=(0:Int)/\(S.R8.x0 (S.Chip.r3 (S.newC k))=(0:Int)/\(S.R8.x1 (S.Chip.r3 (S.newC k))=(0:Int)/\(S.R8.x2 (S.Chip.r3 (S.newC k))=(0:Int)/\(S.R8.x3 (S.Chip.r3 (S.newC k))=(0:Int)/\(S.R8.x4 (S.Chip.r3 (S.newC k))=(0:Int)/\(S.R8.x5 (S.Chip.r3 (S.newC k))=(0:Int)/\(S.R8.x6 (S.Chip.r3 (S.newC k))=(0:Int)/\(S.R8.x7 (S.Chip.r3 (S.newC k))=(0:Int)/\(S.R8.x0 (S.Chip.r4 (S.newC k))=(0:Int)/\(S.R8.x1 (S.Chip.r4 (S.newC k))=(0:Int)/\(S.R8.x2 (S.Chip.r4 (S.newC k))=(0:Int)/\(S.R8.x3 (S.Chip.r4 (S.newC k))=(0:Int)/\(S.R8.x4 (S.Chip.r4 (S.newC k))=(0:Int)/\(S.R8.x5 (S.Chip.r4 (S.newC k))=(0:Int)/\(S.R8.x6 (S.Chip.r4 (S.newC k))=(0:Int)/\(S.R8.x7 (S.Chip.r4 (S.newC k))=(0:Int)/\(S.R8.x0 (S.Chip.r5 (S.newC k))=(0:Int)/\(S.R8.x1 (S.Chip.r5 (S.newC k))=(0:Int)/\(S.R8.x2 (S.Chip.r5 (S.newC k))=(0:Int)/\(S.R8.x3 (S.Chip.r5 (S.newC k))=(0:Int)/\(S.R8.x4 (S.Chip.r5 (S.newC k))=(0:Int)/\(S.R8.x5 (S.Chip.r5 (S.newC k))=(0:Int)/\(S.R8.x6 (S.Chip.r5 (S.newC k))=(0:Int)/\(S.R8.x7 (S.Chip.r5 (S.newC k))=(0:Int)/\(S.R8.x0 (S.Chip.r6 (S.newC k))=(0:Int)/\(S.R8.x1 (S.Chip.r6 (S.newC k))=(0:Int)/\(S.R8.x2 (S.Chip.r6 (S.newC k))=(0:Int)/\(S.R8.x3 (S.Chip.r6 (S.newC k))=(0:Int)/\(S.R8.x4 (S.Chip.r6 (S.newC k))=(0:Int)/\(S.R8.x5 (S.Chip.r6 (S.newC k))=(0:Int)/\(S.R8.x6 (S.Chip.r6 (S.newC k))=(0:Int)/\(S.R8.x7 (S.Chip.r6 (S.newC k))=(0:Int)/\(S.R8.x0 (S.Chip.r7 (S.newC k))=(0:Int)/\(S.R8.x1 (S.Chip.r7 (S.newC k))=(0:Int)/\(S.R8.x2 (S.Chip.r7 (S.newC k))=(0:Int)/\(S.R8.x3 (S.Chip.r7 (S.newC k))=(0:Int)/\(S.R8.x4 (S.Chip.r7 (S.newC k))=(0:Int)/\(S.R8.x5 (S.Chip.r7 (S.newC k))=(0:Int)/\(S.R8.x6 (S.Chip.r7 (S.newC k))=(0:Int)/\(S.R8.x7 (S.Chip.r7 (S.newC k))=(0:Int)/\(S.Chip.g00 (S.newC k)=(0:Int)/\(S.Chip.g01 (S.newC k)=(0:Int)/\(S.Chip.g10 (S.newC k)=(0:Int)/\(S.Chip.g11 (S.newC k)=(0:Int)/\(S.Chip.b0 (S.newC k)=false/\(S.Chip.b1 (S.newC k)=false/\(S.Chip.met (S.newC k)=(0:Int)/\(S.Chip.wait (S.newC k)=false/\((0:Nat)=0/\((0:Nat)=0/\(S.Chip.late (S.newC k)=false/\(S.Chip.ba (S.newC k)=k % 4/\((4:Int)=4/\((0:Nat)=0/\((20:Int)=S.st 56/\((57:Int)=57/\(S.Chip.bs (S.newC k)=S.st (k / 4)/\((6:Int)=6/\((1:Int)=1/\(S.Chip.mc (S.newC k)=(16:Int)/\(S.Chip.mg (S.newC k)=(0:Int)/\(S.Chip.mm (S.newC k)=(0:Int)/\((0:Nat)=0/\(S.Th.line (S.Chip.t0 (S.newC k))=(0:Int)/\(S.Th.scan (S.Chip.t0 (S.newC k))=(255:Int)/\((0:Nat)=0/\((0:Nat)=0/\(S.Th.a (S.Chip.t0 (S.newC k))=(0:Int)/\((4:Int)=4/\((0:Nat)=0/\((45:Int)=S.st 39/\((40:Int)=40/\(S.Th.s (S.Chip.t0 (S.newC k))=(0:Int)/\((6:Int)=6/\((1:Int)=1/\((0:Nat)=0/\(S.Th.line (S.Chip.t1 (S.newC k))=(0:Int)/\(S.Th.scan (S.Chip.t1 (S.newC k))=(255:Int)/\((0:Nat)=0/\((0:Nat)=0/\(S.Th.a (S.Chip.t1 (S.newC k))=(0:Int)/\((4:Int)=4/\((0:Nat)=0/\((45:Int)=S.st 39/\((40:Int)=40/\(S.Th.s (S.Chip.t1 (S.newC k))=(0:Int)/\((6:Int)=6/\((1:Int)=1/\((0:Nat)=0/\(S.Th.line (S.Chip.t2 (S.newC k))=(0:Int)/\(S.Th.scan (S.Chip.t2 (S.newC k))=(255:Int)/\((0:Nat)=0/\((0:Nat)=0/\(S.Th.a (S.Chip.t2 (S.newC k))=(0:Int)/\((4:Int)=4/\((0:Nat)=0/\((45:Int)=S.st 39/\((40:Int)=40/\(S.Th.s (S.Chip.t2 (S.newC k))=(0:Int)/\((6:Int)=6/\((1:Int)=1/\((0:Nat)=0/\(S.Th.line (S.Chip.t3 (S.newC k))=(0:Int)/\(S.Th.scan (S.Chip.t3 (S.newC k))=(255:Int)/\((0:Nat)=0/\((0:Nat)=0/\(S.Th.a (S.Chip.t3 (S.newC k))=(0:Int)/\((4:Int)=4/\((0:Nat)=0/\((45:Int)=S.st 39/\((40:Int)=40/\(S.Th.s (S.Chip.t3 (S.newC k))=(0:Int)/\((6:Int)=6/\((1:Int)=1/\((0:Nat)=0/\(S.Th.line (S.Chip.t4 (S.newC k))=(0:Int)/\(S.Th.scan (S.Chip.t4 (S.newC k))=(255:Int)/\((0:Nat)=0/\((0:Nat)=0/\(S.Th.a (S.Chip.t4 (S.newC k))=(0:Int)/\((4:Int)=4/\((0:Nat)=0/\((45:Int)=S.st 39/\((40:Int)=40/\(S.Th.s (S.Chip.t4 (S.newC k))=(0:Int)/\((6:Int)=6/\((1:Int)=1/\(S.Vo.ynv2 (S.Chip.v0 (S.newC k))=(0:Int)/\(S.Vo.rate (S.Chip.v0 (S.newC k))=(0:Int)/\(S.Vo.yrv2 (S.Chip.v0 (S.newC k))=(0:Int)/\((0:Nat)=0/\((0:Nat)=0/\((0:Nat)=0/\(S.Vo.count (S.Chip.v0 (S.newC k))=(0:Int)/\(S.Vo.high (S.Chip.v0 (S.newC k))=false/\(S.Vo.f4 (S.Chip.v0 (S.newC k))=(0:Int)/\((4:Int)=4/\((1:Int)=1/\(S.Vo.f5 (S.Chip.v0 (S.newC k))=(0:Int)/\((5:Int)=5/\((2:Int)=2/\(S.Vo.f9 (S.Chip.v0 (S.newC k))=(0:Int)/\((9:Int)=9/\((4:Int)=4/\(S.Vo.ynv2 (S.Chip.v1 (S.newC k))=(0:Int)/\(S.Vo.rate (S.Chip.v1 (S.newC k))=(0:Int)/\(S.Vo.yrv2 (S.Chip.v1 (S.newC k))=(0:Int)/\((0:Nat)=0/\((0:Nat)=0/\((0:Nat)=0/\(S.Vo.count (S.Chip.v1 (S.newC k))=(0:Int)/\(S.Vo.high (S.Chip.v1 (S.newC k))=false/\(S.Vo.f4 (S.Chip.v1 (S.newC k))=(0:Int)/\((4:Int)=4/\((1:Int)=1/\(S.Vo.f5 (S.Chip.v1 (S.newC k))=(0:Int)/\((5:Int)=5/\((2:Int)=2/\(S.Vo.f9 (S.Chip.v1 (S.newC k))=(0:Int)/\((9:Int)=9/\((4:Int)=4/\(S.Po.v0 (S.Chip.po (S.newC k))=(0:Int)/\(S.Po.v1 (S.Chip.po (S.newC k))=(0:Int)/\(S.Po.v2 (S.Chip.po (S.newC k))=(0:Int)/\(S.Po.v3 (S.Chip.po (S.newC k))=(0:Int)/\(S.Po.ypv2 (S.Chip.po (S.newC k))=(0:Int)/\(S.Po.yqv2 (S.Chip.po (S.newC k))=false/\(S.Po.h0 (S.Chip.po (S.newC k))=true/\(S.Po.l0 (S.Chip.po (S.newC k))=true/\(S.Po.h1 (S.Chip.po (S.newC k))=true/\(S.Po.l1 (S.Chip.po (S.newC k))=true/\(S.Po.yov2 (S.Chip.po (S.newC k))=false/\True))))))))))))))))))))))))))))))))))))))))))))))))))))))))))))))))))))))))))))))))))))))))))))))))))))))))))))))))))))))))))))))))))))))))))))))))))))))))))))))))))))))))))))))))))))))))))))))))))))))))))))))) False):=by kernel_rfl
theorem yia2 (k:Int) (h0:S.inR k 228=true)  : HTr Tryz.prog 18 [.int .i64 k] [] ⟨.ret (.ptr 0 0),[],(S.hp0 (S.newC k))⟩:=by
 refine K.yca0 good (A:=ymp1) (yga0 ?_) K.yea0 (k:=30) (cast (yha2 k).symm ?_)
 .intro p hp;simp only [List.mem_cons,List.not_mem_nil,or_false] at hp;rcases hp with rfl | rfl | rfl | rfl | rfl;exact yfs2;exact ykr2;exact yvr2;exact ysr2;exact yds2
 .have s39:S.st 39=45:=rfl;have s56:S.st 56=20:=rfl;simp only [h0,bc_true,S.newC,S.th0,S.vo0,s39,s56,and_self]
theorem yar0:yjn0.ok Tryz.prog 18:=by
 intro xs os b r h h3;unfold yjn0 at h;simp only at h;split at h
 .injection h with h;injection h with h1 h2;subst h1;subst h2;exact yia2 _ h3
 .cases h

theorem yjt1 (b:Bool) (a d l n s:Int):K.bodyF (ywc1) (K.runF (ywc1) 30) 32 [.ptr 0 0] (Heap.of (ynp1 b a d l n s)) Hint.auto (K.endC K.openE 4 ⟨.ret (.agg [.int .i64 (S.plc a s),.int .i64 (bc b 1 0)]),[],[]⟩) =
  (bc (S.isSt s) (bc (b) (S.plc a s=wrapK .i64 (wrapK .i64 (4*S.ix s)+a)/\(bc b 1 (0:Int)=(1:Int)/\True)) (S.plc a s=wrapK .i64 (wrapK .i64 (4*S.ix s)+a)/\(bc b 1 (0:Int)=0/\True))) False):=by kernel_rfl
theorem ykt1 (b:Bool) (a d l n s:Int) (h0:S.okBm a s d l n=true)  : HTr Tryz.prog 32 [.ptr 0 0] (ynp1 b a d l n s) ⟨.ret (.agg [.int .i64 (S.plc a s),.int .i64 (bc b 1 0)]),[],[]⟩:=by
 refine K.yca0 good (A:=ywc1) (yga0 ?_) K.yea0 (k:=30) (cast (yjt1 b a d l n s).symm ?_)
 .intro p hp;simp only [List.mem_cons,List.not_mem_nil,or_false] at hp;rcases hp with rfl | rfl;exact yyl0;exact yzl0
 .obtain ⟨ha,hs,rfl,rfl,rfl,hx0,hx1⟩:=S.yrg0 h0
  repeat' (first | (refine bcI (fun _=>?_) (fun _=>?_)) | (refine And.intro ?_ ?_))
  all_goals first | rfl | trivial | (simp_all only [yab0,yib0,yoa0,yna0,S.an,bc_true,bc_false,reduceCtorEq,Bool.false_eq_true,Bool.true_eq_false];done) | (simp_all only [yab0,yib0,yoa0,yna0,S.an,S.inR,bc_true,bc_false,reduceCtorEq,Bool.false_eq_true,Bool.true_eq_false];done) | (simp only [S.ylr0,S.yha0,S.plc,yka0,yba0,ysa0,ykb0,yma0,yrd0] at *;omega) | skip
  all_goals skip
theorem yja2:yop1.ok Tryz.prog 32:=by
 intro xs os b r h h3;unfold yop1 at h;simp only at h;split at h
 .injection h with h;injection h with h1 h2;subst h1;subst h2;exact ykt1 _ _ _ _ _ _ h3
 .cases h
theorem yka2 (b:Bool):K.bodyF (envL []) (K.runF (envL []) 30) 38 [.bool b] (Heap.of []) Hint.auto (K.endC K.openE 0 ⟨.ret (.int .i64 (bc b 1 0)),[],[]⟩) =
  (bc (b) (bc b 1 (0:Int)=(1:Int)/\True) (bc b 1 (0:Int)=0/\True)):=by kernel_rfl
theorem yla2 (b:Bool)  : HTr Tryz.prog 38 [.bool b] [] ⟨.ret (.int .i64 (bc b 1 0)),[],[]⟩:=by
 refine K.yca0 good (A:=envL []) (yga0 ?_) K.yea0 (k:=30) (cast (yka2 b).symm ?_)
 .intro p hp;cases hp
 .cases b <;> simp only [bc_true,bc_false,and_self]
theorem ysl2:yyh2.ok Tryz.prog 38:=by
 intro xs os b r h h3;unfold yyh2 at h;simp only at h;split at h
 .injection h with h;injection h with h1 h2;subst h1;subst h2;exact yla2 _
 .cases h
theorem yli1 (c:S.Chip):K.bodyF (yov0) (K.runF (yov0) 30) 13 [.ptr 0 0] (Heap.of (S.hp0 c)) Hint.auto (K.endC K.openE 40 (yuc2 c)) =
  (bc (S.okBm c.ba c.bs 4 20 57) (bc (S.okP c.po.v0 c.po.v1 c.po.v2 c.po.v3 c.po.ypv2) (bc (S.okPm c.t0.a 4 45 40 c.t0.s) (bc (S.okPm c.t1.a 4 45 40 c.t1.s) (bc (S.okPm c.t2.a 4 45 40 c.t2.s) (bc (S.okPm c.t3.a 4 45 40 c.t3.s) (bc (S.okPm c.t4.a 4 45 40 c.t4.s) (bc (S.okV c.v0.ynv2 c.v0.rate c.v0.yrv2 c.v0.f4 c.v0.f5 c.v0.f9 c.v0.count) (bc (S.okV c.v1.ynv2 c.v1.rate c.v1.yrv2 c.v1.f4 c.v1.f5 c.v1.f9 c.v1.count) ((0:Nat)=0/\((81:Nat)=81/\(Cap.rest (0:Nat)=Cap.rest 0/\(S.plc c.ba c.bs=S.plc c.ba c.bs/\(bc c.late 1 (0:Int)=bc c.late 1 0/\(c.mc=c.mc/\(c.mg=c.mg/\(wrapK .i64 c.mm=wrapK .i64 c.mm/\(S.cnt c.t0=S.plc c.t0.a c.t0.s/\(S.young c.t0.line c.t0.scan=S.young c.t0.line c.t0.scan/\(S.elder c.t0.line c.t0.scan=S.elder c.t0.line c.t0.scan/\(S.cnt c.t1=S.plc c.t1.a c.t1.s/\(S.young c.t1.line c.t1.scan=S.young c.t1.line c.t1.scan/\(S.elder c.t1.line c.t1.scan=S.elder c.t1.line c.t1.scan/\(S.cnt c.t2=S.plc c.t2.a c.t2.s/\(S.young c.t2.line c.t2.scan=S.young c.t2.line c.t2.scan/\(S.elder c.t2.line c.t2.scan=S.elder c.t2.line c.t2.scan/\(S.cnt c.t3=S.plc c.t3.a c.t3.s/\(S.young c.t3.line c.t3.scan=S.young c.t3.line c.t3.scan/\(S.elder c.t3.line c.t3.scan=S.elder c.t3.line c.t3.scan/\(S.cnt c.t4=S.plc c.t4.a c.t4.s/\(S.young c.t4.line c.t4.scan=S.young c.t4.line c.t4.scan/\(S.elder c.t4.line c.t4.scan=S.elder c.t4.line c.t4.scan/\(c.v0.ynv2=c.v0.ynv2/\(c.v0.rate=c.v0.rate/\(c.v0.yrv2=c.v0.yrv2/\(c.v0.f4=c.v0.f4/\(c.v0.f5=c.v0.f5/\(c.v0.f9=c.v0.f9/\(c.v0.count=c.v0.count/\(bc c.v0.high 1 (0:Int)=bc c.v0.high 1 0/\(c.v1.ynv2=c.v1.ynv2/\(c.v1.rate=c.v1.rate/\(c.v1.yrv2=c.v1.yrv2/\(c.v1.f4=c.v1.f4/\(c.v1.f5=c.v1.f5/\(c.v1.f9=c.v1.f9/\(c.v1.count=c.v1.count/\(bc c.v1.high 1 (0:Int)=bc c.v1.high 1 0/\(c.po.v0=c.po.v0/\(c.po.v1=c.po.v1/\(c.po.v2=c.po.v2/\(c.po.v3=c.po.v3/\(c.po.ypv2=c.po.ypv2/\(bc c.po.yqv2 1 (0:Int)=bc c.po.yqv2 1 0/\(bc c.po.h0 1 (0:Int)=bc c.po.h0 1 0/\(bc c.po.h1 1 (0:Int)=bc c.po.h1 1 0/\(bc c.po.yov2 1 (0:Int)=bc c.po.yov2 1 0/\(bc c.po.l0 1 (0:Int)=bc c.po.l0 1 0/\(bc c.po.l1 1 (0:Int)=bc c.po.l1 1 0/\(wrapK .i64 c.r0.x0=wrapK .i64 c.r0.x0/\(wrapK .i64 c.r0.x1=wrapK .i64 c.r0.x1/\(wrapK .i64 c.r0.x4=wrapK .i64 c.r0.x4/\(wrapK .i64 c.r0.x5=wrapK .i64 c.r0.x5/\(wrapK .i64 c.r0.x6=wrapK .i64 c.r0.x6/\(wrapK .i64 c.r0.x7=wrapK .i64 c.r0.x7/\(wrapK .i64 c.r1.x0=wrapK .i64 c.r1.x0/\(wrapK .i64 c.r1.x1=wrapK .i64 c.r1.x1/\(wrapK .i64 c.r1.x2=wrapK .i64 c.r1.x2/\(wrapK .i64 c.r1.x3=wrapK .i64 c.r1.x3/\(wrapK .i64 c.r1.x4=wrapK .i64 c.r1.x4/\(wrapK .i64 c.r1.x5=wrapK .i64 c.r1.x5/\(wrapK .i64 c.r1.x6=wrapK .i64 c.r1.x6/\(wrapK .i64 c.r1.x7=wrapK .i64 c.r1.x7/\(wrapK .i64 c.g00=wrapK .i64 c.g00/\(wrapK .i64 c.g01=wrapK .i64 c.g01/\(wrapK .i64 c.g10=wrapK .i64 c.g10/\(wrapK .i64 c.g11=wrapK .i64 c.g11/\(wrapK .i64 c.r3.x5=wrapK .i64 c.r3.x5/\(wrapK .i64 c.r3.x6=wrapK .i64 c.r3.x6/\(bc c.b0 1 (0:Int)=bc c.b0 1 0/\(bc c.b1 1 (0:Int)=bc c.b1 1 0/\(wrapK .i64 c.r4.x0=wrapK .i64 c.r4.x0/\(wrapK .i64 c.r4.x1=wrapK .i64 c.r4.x1/\(wrapK .i64 c.r4.x2=wrapK .i64 c.r4.x2/\(wrapK .i64 c.r4.x3=wrapK .i64 c.r4.x3/\(wrapK .i64 c.r4.x4=wrapK .i64 c.r4.x4/\(wrapK .i64 c.r4.x5=wrapK .i64 c.r4.x5/\(wrapK .i64 c.r4.x6=wrapK .i64 c.r4.x6/\(wrapK .i64 c.r4.x7=wrapK .i64 c.r4.x7/\(wrapK .i64 c.r5.x0=wrapK .i64 c.r5.x0/\(wrapK .i64 c.r5.x1=wrapK .i64 c.r5.x1/\(wrapK .i64 c.met=wrapK .i64 c.met/\(bc c.wait 1 (0:Int)=bc c.wait 1 0/\True)))))))))))))))))))))))))))))))))))))))))))))))))))))))))))))))))))))))))))))))))))) False) False) False) False) False) False) False) False) False):=by kernel_rfl
theorem ymi1 (c:S.Chip) (h0:S.okC c=true)  : HTr Tryz.prog 13 [.ptr 0 0] (S.hp0 c) (yuc2 c):=by
 refine K.yca0 good (A:=yov0) (yga0 ?_) K.yea0 (k:=30) (cast (yli1 c).symm ?_)
 .intro p hp;simp only [List.mem_cons,List.not_mem_nil,or_false] at hp;rcases hp with rfl | rfl | rfl | rfl | rfl | rfl;exact yja2;exact yyx1;exact yjy1;exact ycy1;exact yuy1;exact ysl2
 .obtain ⟨pb,pp,pt,pd,pv,pw⟩:=S.ybg0.1 h0;obtain ⟨_,_,a0,a1,a2,a3,a4⟩:=S.yuh0.1 pt;have p0:=(S.yia0.1 a0).1;have p1:=(S.yia0.1 a1).1;have p2:=(S.yia0.1 a2).1;have p3:=(S.yia0.1 a3).1;have p4:=(S.yia0.1 a4).1;have pv0:S.okV c.v0.ynv2 c.v0.rate c.v0.yrv2 c.v0.f4 c.v0.f5 c.v0.f9 c.v0.count=true:=pv;have pv1:S.okV c.v1.ynv2 c.v1.rate c.v1.yrv2 c.v1.f4 c.v1.f5 c.v1.f9 c.v1.count=true:=pw;simp only [pb,pp,p0,p1,p2,p3,p4,pv0,pv1,bc_true,S.cnt,and_self]
theorem yni1 (c:S.Chip) (h0:S.okC c=true):HT Tryz.prog 13 [.ptr 0 0] (Heap.of (S.hp0 c)) (.ret (.slice 40 0 81 (.rest 0))) (Heap.of (S.hp0 c++[.cells 3 (.grow 1) (.int .i64 (S.wd c 0)::.int .i64 (S.wd c 1)::.int .i64 (S.wd c 2)::.int .i64 (S.wd c 3)::.int .i64 (S.wd c 4)::.int .i64 (S.wd c 5)::.int .i64 (S.wd c 6)::.int .i64 (S.wd c 7)::.int .i64 (S.wd c 8)::.int .i64 (S.wd c 9)::.int .i64 (S.wd c 10)::.int .i64 (S.wd c 11)::.int .i64 (S.wd c 12)::.int .i64 (S.wd c 13)::.int .i64 (S.wd c 14)::.int .i64 (S.wd c 15)::.int .i64 (S.wd c 16)::.int .i64 (S.wd c 17)::.int .i64 (S.wd c 18)::.int .i64 (S.wd c 19)::.int .i64 (S.wd c 20)::.int .i64 (S.wd c 21)::.int .i64 (S.wd c 22)::.int .i64 (S.wd c 23)::.int .i64 (S.wd c 24)::.int .i64 (S.wd c 25)::.int .i64 (S.wd c 26)::.int .i64 (S.wd c 27)::.int .i64 (S.wd c 28)::.int .i64 (S.wd c 29)::.int .i64 (S.wd c 30)::.int .i64 (S.wd c 31)::.int .i64 (S.wd c 32)::.int .i64 (S.wd c 33)::.int .i64 (S.wd c 34)::.int .i64 (S.wd c 35)::.int .i64 (S.wd c 36)::.int .i64 (S.wd c 37)::.int .i64 (S.wd c 38)::.int .i64 (S.wd c 39)::.int .i64 (S.wd c 40)::.int .i64 (S.wd c 41)::.int .i64 (S.wd c 42)::.int .i64 (S.wd c 43)::.int .i64 (S.wd c 44)::.int .i64 (S.wd c 45)::.int .i64 (S.wd c 46)::.int .i64 (S.wd c 47)::.int .i64 (S.wd c 48)::.int .i64 (S.wd c 49)::.int .i64 (S.wd c 50)::.int .i64 (S.wd c 51)::.int .i64 (S.wd c 52)::.int .i64 (S.wd c 53)::.int .i64 (S.wd c 54)::.int .i64 (S.wd c 55)::.int .i64 (S.wd c 56)::.int .i64 (S.wd c 57)::.int .i64 (S.wd c 58)::.int .i64 (S.wd c 59)::.int .i64 (S.wd c 60)::.int .i64 (S.wd c 61)::.int .i64 (S.wd c 62)::.int .i64 (S.wd c 63)::.int .i64 (S.wd c 64)::.int .i64 (S.wd c 65)::.int .i64 (S.wd c 66)::.int .i64 (S.wd c 67)::.int .i64 (S.wd c 68)::.int .i64 (S.wd c 69)::.int .i64 (S.wd c 70)::.int .i64 (S.wd c 71)::.int .i64 (S.wd c 72)::.int .i64 (S.wd c 73)::.int .i64 (S.wd c 74)::.int .i64 (S.wd c 75)::.int .i64 (S.wd c 76)::.int .i64 (S.wd c 77)::.int .i64 (S.wd c 78)::.int .i64 (S.wd c 79)::.int .i64 (S.wd c 80)::[])])):=cast (by kernel_rfl) (ymi1 c h0)
theorem yyd0:ykf0.ok Tryz.prog 13:=by
 intro xs os b r h h3;unfold ykf0 at h;simp only at h;split at h
 .obtain ⟨c,rfl,q⟩:=S.yrb0 h;clear h;injection q with h;injection h with h1 h2;subst h1;subst h2;exact yni1 _ h3
 .cases h
namespace S
theorem bcP {b:Bool} {x y:Int} {P:Int->Prop} (h1:P x) (h2:P y):P (bc b x y):=by cases b <;> assumption
theorem ypd2 {a s:Int} (h:okBm a s 4 20 57=true):∃ n,0<=n/\n<228/\a=n % 4/\s=st (n / 4):=by
 obtain ⟨ha,hs,_,_,_,h0,h1⟩:=yrg0 h;obtain ⟨i,i0,i1,rfl⟩:=ykf1 hs;rw [ix_st i0 i1] at h0 h1;exact ⟨4*i+a,by omega,by omega,by omega,by rw [show (4*i+a) / 4=i by omega]⟩
theorem yma2 {n:Int} (h0:0<=n) (h1:n<228):okBm (n % 4) (st (n / 4)) 4 20 57=true:=bm_ok h0 h1
theorem yna2 {a s:Int} (h:okBm a s 4 20 57=true):okBm (bc (ltI (a+1) 4) (a+1) 0) (bc (ltI (a+1) 4) s (bc (eqI s 20) 0 (nx s))) 4 20 57=true:=by
 obtain ⟨n,h0,h1,rfl,rfl⟩:=ypd2 h;rw [bm_a h0 h1,show bc (ltI (n % 4+1) 4) (st (n / 4)) (bc (eqI (st (n / 4)) 20) 0 (nx (st (n / 4))))=st (((n+1) % 228) / 4) from bm_s h0 h1]
 exact yma2 (by omega) (by omega)
theorem ybr0 {q:Int} {t:Th} (w:Bool) (h:okT t=true):okT (tkT w q t)=true:=by
 cases w with
 | false=>exact h
 | true =>
  obtain ⟨h1,h2⟩:=yia0.1 h;obtain ⟨m,m0,m1,ha,hs,_⟩:=ykj0 h1;show okT (tk1 q t)=true;unfold okT tk1;rw [yia0];refine ⟨?_,ypr2 _ h2⟩;obtain ⟨e1,e2⟩:=yad2 m0 m1;show okPm (bc (ltI (t.a+1) 4) (t.a+1) 0) 4 (st 39) 40 (bc (ltI (t.a+1) 4) t.s (bc (eqI t.s (st 39)) 0 (nx t.s)))=true;rw [ha,hs,e1,e2];have:=yzc2 m0 m1;exact yws0 this.1 this.2
theorem ycr0 {t:Th} (h:okT t=true):okTh t.line t.scan=true:=(yia0.1 h).2
theorem ytl2 (p0 p1 m0 m1 bl pf:Bool):0<=meet p0 p1 m0 m1 bl pf/\meet p0 p1 m0 m1 bl pf<32768:=by
 cases p0 <;> cases p1 <;> cases m0 <;> cases m1 <;> cases bl <;> cases pf <;> decide
theorem or15 {a b:Int} (ha:0<=a/\a<32768) (hb:0<=b/\b<32768):0<=orK .u16 a b/\orK .u16 a b<32768:=by
 obtain ⟨n,rfl⟩:=Int.eq_ofNat_of_zero_le ha.1;obtain ⟨m,rfl⟩:=Int.eq_ofNat_of_zero_le hb.1;have hn:n<2 ^ 15:=by have:=ha.2;omega
 have hm:m<2 ^ 15:=by have:=hb.2;omega
 have e1:Nat.blt n 65536=true:=Nat.ble_eq_true_of_le (by omega)
 have e2:Nat.blt m 65536=true:=Nat.ble_eq_true_of_le (by omega)
 have e:orK .u16 (n:Int) (m:Int)=((n ||| m:Nat):Int):=by
  show bc (Nat.blt n 65536) (bc (Nat.blt m 65536) (Int.ofNat (Nat.lor n m)) _) _=_;rw [e1,e2];rfl
 rw [e];have:=Nat.or_lt_two_pow hn hm;omega
theorem yms2 {v:Vo} (w:Bool) (h:okVo v=true):okVo (voT w v)=true:=by
 cases w with
 | false=>exact h
 | true =>
  show okVo (vo1 v)=true;unfold okVo at h ⊢;rw [yxs0] at h ⊢;obtain ⟨⟨hc,hr,hv⟩,⟨h4,h5⟩,h9,hn⟩:=h;refine ⟨⟨hc,hr,hv⟩,⟨?_,?_⟩,?_,?_⟩
  .show 0<=vF4 _ _ _ _ _/\vF4 _ _ _ _ _<16;unfold vF4;refine bcP (P:=fun x=>0<=x/\x<16) ?_ h4
   unfold n4;omega
  .show 0<=vF5 _ _ _ _/\vF5 _ _ _ _<32;unfold vF5;refine bcP (P:=fun x=>0<=x/\x<32) ?_ h5
   unfold n5;omega
  .show 0<=vF9 _ _ _ _ _/\vF9 _ _ _ _ _<512;unfold vF9;refine bcP (P:=fun x=>0<=x/\x<512) ?_ h9
   unfold n9;omega
  .show 0<=yqc0 _ _ _/\yqc0 _ _ _<96;unfold yqc0;cases hb:vBeat v.ynv2 v.rate v.count with
   | true=>rw [bc_true];omega
   | false =>
    rw [bc_false];unfold vBeat at hb;rw [yib0,yka0] at hb
    have:vLen v.ynv2 v.rate<=96:=by
     unfold vLen;refine bcP (P:=fun x=>x<=96) ?_ ?_ <;> omega
    omega
theorem ybd1 {c:Chip} (h:okQ c=true):okQ (stepC c)=true:=by
 obtain ⟨h1,h2⟩:=yia0.1 h;obtain ⟨pb,pp,pt,pd,pv,pw⟩:=ybg0.1 h1;obtain ⟨q0,q1,a0,a1,a2,a3,a4⟩:=yuh0.1 pt;obtain ⟨y0,y1,m0,m1,⟨k0,k1⟩,v2,g0,g1,g2⟩:=yln0.1 pd;unfold okQ;rw [yia0,ybg0];have t0:=fun w q=>ybr0 (q:=q) w a0
 have t1:=fun w q=>ybr0 (q:=q) w a1
 have t2:=fun w q=>ybr0 (q:=q) w a2
 have t3:=fun w q=>ybr0 (q:=q) w a3
 have t4:=fun w q=>ybr0 (q:=q) w a4
 refine ⟨⟨yna2 pb,?_,yuh0.2 ⟨q0,q1,t0 _ _,t1 _ _,t2 _ _,t3 _ _,t4 _ _⟩,yln0.2 ⟨?_,?_,?_,?_,⟨k0,ycr0 (t4 _ _)⟩,v2,g0,g1,g2⟩,yms2 _ pv,yms2 _ pw⟩,?_⟩
 .rw [yeh0] at pp ⊢;obtain ⟨x1,x2,x3⟩:=pp;refine ⟨x1,x2,?_⟩;show 0<=bc (sBeg c.ba c.bs) (pkC c.po.ypv2 c.po.yqv2) c.po.ypv2/\bc (sBeg c.ba c.bs) (pkC c.po.ypv2 c.po.yqv2) c.po.ypv2<512;refine bcP (P:=fun x=>0<=x/\x<512) ?_ x3
  unfold pkC;refine bcP (P:=fun x=>0<=x/\x<512) x3 ?_
  cases hl:ltI (c.po.ypv2+1) 511 with
  | true=>rw [bc_true];have:=yka0.1 hl;omega
  | false=>rw [bc_false];omega
 .unfold okY at y0 ⊢;simp only [yia0] at y0 ⊢;exact ⟨y0.1,y0.2.1,y0.2.2.1,ycr0 (t0 _ _)⟩
 .unfold okY at y1 ⊢;simp only [yia0] at y1 ⊢;exact ⟨y1.1,y1.2.1,y1.2.2.1,ycr0 (t1 _ _)⟩
 .unfold okM at m0 ⊢;rw [yia0] at m0 ⊢;exact ⟨m0.1,ycr0 (t2 _ _)⟩
 .unfold okM at m1 ⊢;rw [yia0] at m1 ⊢;exact ⟨m1.1,ycr0 (t3 _ _)⟩
 .rw [yha0] at h2 ⊢;refine bcP (P:=fun x=>0<=x/\x<32768) h2 (or15 h2 ?_)
  exact ytl2 _ _ _ _ _ _
theorem yul2:∀ i:Fin 256,inR (andK .u8 ((i.val:Nat):Int) 15) 16=true/\inR (andK .u8 ((i.val:Nat):Int) 31) 32=true:=by decide +kernel
theorem yvu2 {v:Int} (h:inR v 256=true):∃ i:Fin 256,v=((i.val:Nat):Int):=by
 have h1:=yha0.1 h;exact ⟨⟨v.toNat,by omega⟩,by show v=((v.toNat:Nat):Int);omega⟩
theorem rgP {a j v old:Int} {P:Int->Prop} (h1:P v) (h2:P old):P (rg a j v old):=by unfold rg;exact bcP h1 h2
theorem yha1 {a j:Int} {t:Th} (h:okT t=true):okT { t with a:=rg a j 0 t.a,s:=rg a j 0 t.s }=true:=by
 unfold okT at h ⊢;rw [yia0] at h ⊢;refine ⟨?_,h.2⟩;show okPm (rg a j 0 t.a) 4 45 40 (rg a j 0 t.s)=true;unfold rg;cases eqI a j with
 | true=>exact yws0 (m:=0) (by decide) (by decide)
 | false=>exact h.1
theorem ylt1 {g:Bool} {nus:Int} {u t:Th} (hu:pl u=true) (h:okT t=true):okT { t with a:=bc g (frM nus u % 4) t.a,s:=bc g (st (frM nus u / 4)) t.s }=true:=by
 unfold okT at h ⊢;rw [yia0] at h ⊢;refine ⟨?_,h.2⟩;cases g with
 | true=>have:=yha0.1 (yls1 nus u);exact yws0 this.1 this.2
 | false=>exact h.1
theorem ymt1 {a j1 j2 j3 v:Int} {o:Vo} (hv:inR v 256=true) (h:okVo o=true):okVo { o with ynv2:=rg a j1 (andK .u8 v 15) o.ynv2,rate:=rg a j2 (andK .u8 v 31) o.rate,yrv2:=rg a j3 (andK .u8 v 15) o.yrv2 }=true:=by
 obtain ⟨i,rfl⟩:=yvu2 hv;obtain ⟨c1,c2⟩:=yul2 i;rw [yha0] at c1 c2;unfold okVo at h ⊢;rw [yxs0] at h ⊢;obtain ⟨⟨hc,hr,hv⟩,h2⟩:=h;exact ⟨⟨rgP (P:=fun x=>0<=x/\x<16) c1 hc,rgP (P:=fun x=>0<=x/\x<32) c2 hr,rgP (P:=fun x=>0<=x/\x<16) c1 hv⟩,h2⟩
theorem inRg {a j v old:Int} (h1:inR v 256=true) (h2:inR old 256=true):inR (rg a j v old) 256=true:=rgP (P:=fun x=>inR x 256=true) h1 h2
theorem yag1 {c:Chip} {addr v:Int} (hv:inR v 256=true) (h:okQ c=true):okQ (ynv0 addr v c)=true:=by
 obtain ⟨h1,h2⟩:=yia0.1 h;obtain ⟨pb,pp,pt,pd,pv,pw⟩:=ybg0.1 h1;obtain ⟨q0,q1,a0,a1,a2,a3,a4⟩:=yuh0.1 pt;obtain ⟨y0,y1,m0,m1,⟨k0,k1⟩,v2,g0,g1,g2⟩:=yln0.1 pd;unfold okY at y0 y1;simp only [yia0] at y0 y1;unfold okM at m0 m1;rw [yia0] at m0 m1;unfold okQ;rw [yia0,ybg0];have z:inR 0 256=true:=rfl;have r0:=fun j=>inRg (a:=adr addr) (j:=j) hv q0
 have r1:=fun j=>inRg (a:=adr addr) (j:=j) hv q1
 have pl0:pl c.t0=true:=(yia0.1 a0).1;have pl1:pl c.t1=true:=(yia0.1 a1).1
 refine ⟨⟨?_,?_,yuh0.2 ⟨r0 _,r1 _,yha1 a0,yha1 a1,ylt1 pl0 (yha1 a2),ylt1 pl1 (yha1 a3),yha1 a4⟩,
  yln0.2 ⟨?_,?_,?_,?_,⟨inRg hv k0,k1⟩,inRg hv v2,inRg hv g0,inRg hv g1,inRg hv g2⟩,ymt1 hv pv,ymt1 hv pw⟩,?_⟩
 .show okBm (rg (adr addr) 3 0 c.ba) (rg (adr addr) 3 0 c.bs) 4 20 57=true;unfold rg;cases eqI (adr addr) 3 with
  | true=>exact yma2 (n:=0) (by decide) (by decide)
  | false=>exact pb
 .rw [yeh0] at pp ⊢;obtain ⟨x1,x2,x3⟩:=pp;exact ⟨x1,x2,rgP (P:=fun x=>0<=x/\x<512) (bcP (P:=fun x=>0<=x/\x<512) (by decide) x3) x3⟩
 .unfold okY;simp only [yia0];exact ⟨inRg hv y0.1,inRg hv y0.2.1,inRg y0.2.1 y0.2.2.1,y0.2.2.2⟩
 .unfold okY;simp only [yia0];exact ⟨inRg hv y1.1,inRg hv y1.2.1,inRg y1.2.1 y1.2.2.1,y1.2.2.2⟩
 .unfold okM;rw [yia0];exact ⟨r0 _,m0.2⟩
 .unfold okM;rw [yia0];exact ⟨r1 _,m1.2⟩
 .rw [yha0] at h2 ⊢;exact rgP (P:=fun x=>0<=x/\x<32768) (by decide) h2
theorem yns2 {c:Chip} {n v:Int} (hv:inR v 256=true) (h:okQ c=true):okQ (inC n v c)=true:=by
 obtain ⟨h1,h2⟩:=yia0.1 h;obtain ⟨pb,pp,pt,pd,pv,pw⟩:=ybg0.1 h1;unfold okQ;rw [yia0,ybg0];refine ⟨⟨pb,?_,pt,pd,pv,pw⟩,h2⟩;rw [yha0] at hv;rw [yeh0] at pp ⊢;obtain ⟨⟨x0,x1⟩,⟨x2,x3⟩,x4⟩:=pp;exact ⟨⟨bcP (P:=fun x=>0<=x/\x<256) hv x0,bcP (P:=fun x=>0<=x/\x<256) hv x1⟩,⟨bcP (P:=fun x=>0<=x/\x<256) hv x2,bcP (P:=fun x=>0<=x/\x<256) hv x3⟩,x4⟩
theorem yqd2 {k:Int} (h:inR k 228=true):okQ (newC k)=true:=by
 have h1:=yha0.1 h;unfold okQ;rw [yia0,ybg0];refine ⟨⟨yma2 h1.1 h1.2,rfl,?_,?_,rfl,rfl⟩,rfl⟩
 .kernel_rfl
 .kernel_rfl
theorem ywu2 {n:Nat} : ∀ {c:Chip},okQ c=true->okQ (goC n c)=true:=by
 induction n with
 | zero=>exact fun h=>h
 | succ n ih=>exact fun h=>ih (ybd1 h)
theorem okQ_C {c:Chip} (h:okQ c=true):okC c=true:=(yia0.1 h).1
end S
namespace S
theorem ycd1 {α:Type} {p:Nat} {os:List LObj} {k:Chip->List LObj->Option α} {r:α} (h:yki0 p os k=some r):∃ c rest,os=hpP p c++rest/\k c rest=some r:=by
 obtain ⟨c,h1,h2⟩:=yrb0 h;exact ⟨c,List.drop 40 os,by rw [<- h1,List.take_append_drop],h2⟩
theorem ydr0 {a b:Chip} {r:Prop} (h:a=b):eqC a b r=r:=by
 subst h;unfold eqC;simp only [eq_self,true_and]
theorem go_lt {n i:Int} (c:Chip) (h:i<n):goC (n-i).toNat c=goC (n-(i+1)).toNat (stepC c):=by
 rw [show (n-i).toNat=(n-(i+1)).toNat+1 by omega];rfl
theorem go_ge {n i:Int} (c:Chip) (h:n<=i):goC (n-i).toNat c=c:=by
 rw [show (n-i).toNat=0 by omega];rfl
end S
namespace S
theorem yrd2 {st:Int} (h:inR st 65536=true):inR (stn st) 500=true:=by
 have h1:=yha0.1 h;unfold stn;rw [show wrapK .i64 st=st by rw [yma0];omega,Int.tmod_eq_emod_of_nonneg h1.1,yha0]
 omega
theorem did_0 {kd st ad v m:Int} {c:Chip} (h:orb (eqI (kk7 kd) 0) (eqI (kk7 kd) 1)=true):didC kd st ad v m c=goC (stn st).toNat c:=by unfold didC;rw [h]
theorem did_5 {kd st ad v m:Int} {c:Chip} (h:orb (eqI (kk7 kd) 0) (eqI (kk7 kd) 1)=false) (h5:eqI (kk7 kd) 5=true):didC kd st ad v m c=c:=by unfold didC;rw [h];simp only [h5]
theorem did_6 {kd st ad v m:Int} {c:Chip} (h:orb (eqI (kk7 kd) 0) (eqI (kk7 kd) 1)=false) (h5:eqI (kk7 kd) 5=false) (h6:eqI (kk7 kd) 6=true):didC kd st ad v m c=inC m v c:=by unfold didC;rw [h];simp only [h5,h6]
theorem did_2 {kd st ad v m:Int} {c:Chip} (h:orb (eqI (kk7 kd) 0) (eqI (kk7 kd) 1)=false) (h5:eqI (kk7 kd) 5=false) (h6:eqI (kk7 kd) 6=false):didC kd st ad v m c=ynv0 ad v c:=by unfold didC;rw [h];simp only [h5,h6]
theorem yos2 {kd st ad v m:Int} {c:Chip} (hv:inR v 256=true) (h:okQ c=true):okQ (didC kd st ad v m c)=true:=by
 unfold didC;split
 .exact ywu2 h
 .split
  .exact h
  .split
   .exact yns2 hv h
   .exact yag1 hv h
end S
theorem yvl2 (c:S.Chip) (n v:Int):HT Tryz.prog 29 [.ptr 0 0,.int .i64 n,.int .u8 v] (Heap.of (S.hp0 c)) (.ret (.tup [])) (Heap.of (K.chg (S.hp0 c) (hpCh (S.inC n v c))++[])):=cast (by kernel_rfl) (yrl2 c n v)
theorem yps2:kInDE.ok Tryz.prog 29:=by
 intro xs os b r h h3;unfold kInDE at h;simp only at h;split at h
 .obtain ⟨c,rfl,q⟩:=S.yrb0 h;clear h;injection q with h;injection h with h1 h2;subst h1;subst h2;exact yvl2 _ _ _
 .cases h
theorem yxu2 (c:S.Chip) (kd st ad v m i:Int):K.RunL (envL [(14,ydx1)]) K.openE 30 27 45 (inner (inner (blkOf 27 1))) diEB [(0,.ptr 0 0),(3,.ptr 40 0),(4,.int .i64 i)] (S.hp0 c++[.cells 64 .exact [.int .i64 kd,.int .u16 st,.int .u16 ad,.int .u8 v,.int .i64 m]]) Hint.auto ⟨.exit 1,[],(hpCh (S.goC (S.stn st-i).toNat c)),[]⟩ =
  (bc (ltI i (Int.tmod (wrapK .i64 st) 500)) (bc (S.okC c) (bc (S.an (S.okQ (S.stepC c)) (S.an (S.inR st 65536) (S.inR (wrapK .i64 (i+1)) 1000))) (di_T (S.stepC c) kd st ad v m (wrapK .i64 (i+1))/\(S.eqC (S.goC (Int.toNat (S.stn st-i)) c) (S.goC (Int.toNat (S.stn st-wrapK .i64 (i+1))) (S.stepC c)) True)) False) False) (S.eqC (S.goC (Int.toNat (S.stn st-i)) c) c True)):=by kernel_rfl
theorem yqs2 (c:S.Chip) (kd st ad v m i:Int) (h0:S.okQ c=true) (h1:S.inR st 65536=true) (h2:S.inR i 1000=true) (IH:i<S.stn st->S.okQ (S.stepC c)=true->di_T (S.stepC c) kd st ad v m (i+1)):GTr Tryz.prog (inner (inner (blkOf 27 1))) 27 45 [(0,.ptr 0 0),(3,.ptr 40 0),(4,.int .i64 i)] (S.hp0 c++[.cells 64 .exact [.int .i64 kd,.int .u16 st,.int .u16 ad,.int .u8 v,.int .i64 m]]) ⟨.exit 1,[],(hpCh (S.goC (S.stn st-i).toNat c)),[]⟩:=by
 refine K.ymd0 good (A:=envL [(14,ydx1)]) (yga0 ?_) K.yea0 (k:=30) (ent:=diEB) (cast (yxu2 c kd st ad v m i).symm ?_)
 .intro p hp;simp only [List.mem_cons,List.not_mem_nil,or_false] at hp;rcases hp with rfl;exact ykl2
 .have b1:=S.yha0.1 (S.yrd2 h1);have b2:=S.yha0.1 h2;have w:i<999->wrapK .i64 (i+1)=i+1:=fun _=>by rw [yma0];omega
  have es:Int.tmod (wrapK .i64 st) 500=S.stn st:=rfl;rw [es];cases hl:ltI i (S.stn st) with
  | false =>
   rw [bc_false,S.ydr0 (S.go_ge c (yba0.1 hl))];trivial
  | true =>
   have hi:=yka0.1 hl;have b3:S.inR (i+1) 1000=true:=S.yha0.2 (by omega)
   have hq:=S.ybd1 h0;rw [w (by omega),hq,h1,b3,S.okQ_C h0,bc_true,bc_true,S.ydr0 (S.go_lt c hi)]
   exact ⟨IH hi hq,trivial⟩
theorem yyu2:∀ (k:Nat) (c:S.Chip) (kd st ad v m i:Int),S.okQ c=true->S.inR st 65536=true->S.inR i 1000=true->(S.stn st-i).toNat=k->di_T c kd st ad v m i:=by
 intro k
 induction k with
 | zero =>
  intro c kd st ad v m i h0 h1 h2 hk;exact yqs2 c kd st ad v m i h0 h1 h2 fun hi _=>by omega
 | succ k ih =>
  intro c kd st ad v m i h0 h1 h2 hk;exact yqs2 c kd st ad v m i h0 h1 h2 fun hi hq=>ih _ kd st ad v m (i+1) hq h1 (S.yha0.2 (by have:=S.yha0.1 (S.yrd2 h1);have:=S.yha0.1 h2;omega)) (by omega)
theorem yzu2 (c:S.Chip) (kd st ad v m i:Int) (h0:S.okQ c=true) (h1:S.inR st 65536=true) (h2:S.inR i 1000=true):di_B c kd st ad v m i:=by
 have hb:blkOf 27 1=.block 1 (.loop (inner (inner (blkOf 27 1)))):=by kernel_rfl
 unfold di_B K.BOk;rw [hb];exact K.CT.block (K.GT.loop (yyu2 _ c kd st ad v m i h0 h1 h2 rfl))
theorem ywl2 (c:S.Chip) (kd st ad v m:Int):K.bodyF (yzh2) (K.runF (yzh2) 30) 27 [.ptr 0 0,.agg [.int .i64 kd,.int .u16 st,.int .u16 ad,.int .u8 v,.int .i64 m]] (Heap.of (S.hp0 c)) (.skip 3 (.fork (.skip 0 (.take true .auto)) .auto)) (K.endC K.openE 40 ⟨.ret (.tup []),(hpCh (S.didC kd st ad v m c)),[]⟩) =
  (bc (eqI (Int.tmod (wrapK .i64 (Int.tmod kd 7+7)) 7) 0) (eqI (Int.tmod (wrapK .i64 (Int.tmod kd 7+7)) 7) (0:Int)=true/\(bc (S.an (S.okQ c) (S.an (S.inR st 65536) (S.inR 0 1000))) (di_B c kd st ad v m 0/\(S.eqC (S.didC kd st ad v m c) (S.goC (Int.toNat (S.stn st-0)) c) True)) False)) (bc (eqI (Int.tmod (wrapK .i64 (Int.tmod kd 7+7)) 7) 1) (bc (S.an (S.okQ c) (S.an (S.inR st 65536) (S.inR 0 1000))) (di_B c kd st ad v m 0/\(S.eqC (S.didC kd st ad v m c) (S.goC (Int.toNat (S.stn st-0)) c) True)) False) (bc (eqI (Int.tmod (wrapK .i64 (Int.tmod kd 7+7)) 7) 5) (bc (S.okQ c) (S.eqC (S.didC kd st ad v m c) c True) False) (bc (eqI (Int.tmod (wrapK .i64 (Int.tmod kd 7+7)) 7) 6) (S.eqC (S.didC kd st ad v m c) (S.inC m v c) True) (bc (S.okC c) (S.eqC (S.didC kd st ad v m c) (S.ynv0 ad v c) True) False))))):=by kernel_rfl
theorem yxl2 (c:S.Chip) (kd st ad v m:Int) (h0:S.an (S.okQ c) (S.an (S.inR st 65536) (S.inR v 256))=true)  : HTr Tryz.prog 27 [.ptr 0 0,.agg [.int .i64 kd,.int .u16 st,.int .u16 ad,.int .u8 v,.int .i64 m]] (S.hp0 c) ⟨.ret (.tup []),(hpCh (S.didC kd st ad v m c)),[]⟩:=by
 refine K.yca0 good (A:=yzh2) (ynr0 ?_) K.yea0 (k:=30) (cast (ywl2 c kd st ad v m).symm ?_)
 .intro p hp;simp only [List.mem_cons,List.not_mem_nil,or_false] at hp;rcases hp with rfl | rfl | rfl;exact ypl2;exact yps2;exact yda2
 .obtain ⟨h1,h2⟩:=S.yia0.1 h0;obtain ⟨h3,h4⟩:=S.yia0.1 h2;have ek:Int.tmod (wrapK .i64 (Int.tmod kd 7+7)) 7=S.kk7 kd:=rfl;have z:S.inR 0 1000=true:=rfl;have e0:(S.stn st-0).toNat=(S.stn st).toNat:=by rw [Int.sub_zero]
  have B:=yzu2 c kd st ad v m 0 h1 h3 z;simp only [ek,h1,S.okQ_C h1,h3,z,e0,bc_true,S.an];cases k0:eqI (S.kk7 kd) 0 with
  | true =>
   simp only [bc_true,true_and];rw [S.ydr0 (S.did_0 (by rw [k0];rfl))]
   exact ⟨B,trivial⟩
  | false =>
   cases k1:eqI (S.kk7 kd) 1 with
   | true =>
    simp only [bc_true,bc_false];rw [S.ydr0 (S.did_0 (by rw [k0,k1];rfl))]
    exact ⟨B,trivial⟩
   | false =>
    have ko:S.orb (eqI (S.kk7 kd) 0) (eqI (S.kk7 kd) 1)=false:=by rw [k0,k1];rfl
    cases k5:eqI (S.kk7 kd) 5 with
    | true =>
     simp only [bc_true,bc_false];rw [S.ydr0 (S.did_5 ko k5)];trivial
    | false =>
     cases k6:eqI (S.kk7 kd) 6 with
     | true =>
      simp only [bc_true,bc_false];rw [S.ydr0 (S.did_6 ko k5 k6)];trivial
     | false =>
      simp only [bc_true,bc_false];rw [S.ydr0 (S.did_2 ko k5 k6)];trivial
theorem ysd2:kDidE.ok Tryz.prog 27:=by
 intro xs os b r h h3;unfold kDidE at h;simp only at h;split at h
 .obtain ⟨c,rfl,q⟩:=S.yrb0 h;clear h;injection q with h;injection h with h1 h2;subst h1;subst h2;exact yxl2 _ _ _ _ _ _ h3
 .cases h
namespace S
theorem ygt0:∀ (i:Nat) (vs:List LV),yge0 vs=true->i*5<vs.length->inR (intOf (K.atV vs (i*5+1))) 65536=true/\inR (intOf (K.atV vs (i*5+3))) 256=true
 | 0,vs,h,hl=>by
  match vs,h,hl with
  | _::t::_::c::_::r,h,_ =>
   simp only [yge0,yia0] at h;exact h.1
  | [_],h,_=>simp [yge0] at h
  | [_,_],h,_=>simp [yge0] at h
  | [_,_,_],h,_=>simp [yge0] at h
  | [_,_,_,_],h,_=>simp [yge0] at h
 | i+1,vs,h,hl=>by
  match vs,h,hl with
  | _::t::_::c::_::r,h,hl =>
   simp only [yge0,yia0] at h;have:=ygt0 i r h.2 (by simp at hl;omega)
   have e:∀ x a b c d e,K.atV (a::b::c::d::e::r) ((i+1)*5+x)=K.atV r (i*5+x):=by
    intro x a b c d e;unfold K.atV;rw [show (i+1)*5+x=(i*5+x)+1+1+1+1+1 by omega]
    rfl
   rw [e,e];exact this
  | [_],_,hl=>simp at hl
  | [_,_],h,_=>simp [yge0] at h
  | [_,_,_],h,_=>simp [yge0] at h
  | [_,_,_,_],h,_=>simp [yge0] at h
theorem yem0 {vs:List LV} {L:Nat} : ywc0 vs L=true↔yge0 vs=true/\lenL vs=L*5:=by
 unfold ywc0;rw [yia0];constructor
 .exact fun h=>⟨h.1,Nat.eq_of_beq_eq_true h.2⟩
 .exact fun h=>⟨h.1,by rw [h.2];exact Nat.beq_refl _⟩
theorem ybg1 {vs:List LV} {L:Nat} {i:Int} (h:ywc0 vs L=true) (h0:0<=i) (h1:i<L):inR (av vs i 1) 65536=true/\inR (av vs i 3) 256=true:=by
 obtain ⟨h,hl⟩:=yem0.1 h;unfold av;rw [K.lenL_eq] at hl;rw [Nat.zero_add];exact ygt0 i.toNat vs h (by omega)
theorem ywj0 (l:List Act21) (hl:∀ a,a∈l->(0<=a.steps/\a.steps<=65535)/\0<=a.v/\a.v<=255):ywc0 (yqg0 l) l.length=true:=by
 have hlen:lenL (yqg0 l)=l.length*5:=by rw [K.lenL_eq];exact yih0 _ 5 (fun _=>rfl) l
 refine yem0.2 ⟨?_,hlen⟩;clear hlen
 induction l with
 | nil=>rfl
 | cons a l ih =>
  show an (an (inR a.steps 65536) (inR a.v 256)) (yge0 (yqg0 l))=true;have:=hl a (by simp)
  rw [ih fun b hb=>hl b (by simp [hb]),yha0.2 ⟨this.1.1,(by omega:a.steps<65536)⟩,yha0.2 ⟨this.2.1,(by omega:a.v<256)⟩];rfl
theorem ynt1 {vs:List LV} {L:Nat} {i:Int} {c:Chip} (h:ywc0 vs L=true) (h0:0<=i) (h1:i<L) (hc:okQ c=true):okQ (actC vs i c)=true:=yos2 (ybg1 h h0 h1).2 hc
theorem yfm0 {k:Int} (h:inR k 256=true):inR (cl228 k) 228=true:=by
 have h1:=yha0.1 h;unfold cl228;rw [show wrapK .i64 k=k by rw [yma0];omega,Int.tmod_eq_emod_of_nonneg h1.1,yha0]
 omega
theorem yox0 {vs:List LV} {L:Nat} (h:ywc0 vs L=true):∀ (k:Nat) (i:Int) (c:Chip),0<=i->i+k<=L->okQ c=true->okQ (madeC vs k i c)=true
 | 0,_,_,_,_,hc=>hc
 | k+1,i,c,h0,h1,hc=>yox0 h k (i+1) _ (by omega) (by omega) (ynt1 h h0 (by omega) hc)
theorem yoa2 {a b:Chip} {r:Prop} (h:a=b):eqD a b r=r:=by
 subst h;unfold eqD;simp only [eq_self,true_and]
theorem yhh0:ywc0 [] 0=true:=rfl
theorem ytd2 {L:Nat} {i:Int} (vs:List LV) (c:Chip) (h:i<L):madeC vs ((L:Int)-i).toNat i c=madeC vs ((L:Int)-(i+1)).toNat (i+1) (actC vs i c):=by
 rw [show ((L:Int)-i).toNat=((L:Int)-(i+1)).toNat+1 by omega];rfl
theorem yud2 {L:Nat} {i:Int} (vs:List LV) (c:Chip) (h:(L:Int)<=i):madeC vs ((L:Int)-i).toNat i c=c:=by
 rw [show ((L:Int)-i).toNat=0 by omega];rfl
end S
theorem yav2 (et L q:Nat) (w:Own) (vs:List LV) (c:S.Chip) (i:Int):K.RunL (envL [(27,kDidE)]) K.openE 30 11 24 (inner (inner (blkOf 11 0))) mdEB [(5,.ptr 0 0),(1,.slice 40 0 L (.known q)),(6,.int .i64 i)] (S.hp0 c++[.flat [.i .i64,.i .u16,.i .u16,.i .u8,.i .i64] et w vs]) Hint.auto ⟨.exit 0,[(5,.ptr 0 0)],(hpCh (S.madeC vs (L-i).toNat i c)),[]⟩ =
  (bc (ltI i ↑L) (bc (ltI i 0) False (bc (ltI i ↑L) (bc (Nat.ble (0+Int.toNat i*5+5) (lenL vs)) (K.ytc0 [CK.i .i64,CK.i .u16,CK.i .u16,CK.i .u8,CK.i .i64] (0+Int.toNat i*5)=CK.i .i64/\(K.ytc0 [CK.i .i64,CK.i .u16,CK.i .u16,CK.i .u8,CK.i .i64] (0+Int.toNat i*5+1)=CK.i .u16/\(K.ytc0 [CK.i .i64,CK.i .u16,CK.i .u16,CK.i .u8,CK.i .i64] (0+Int.toNat i*5+1+1)=CK.i .u16/\(K.ytc0 [CK.i .i64,CK.i .u16,CK.i .u16,CK.i .u8,CK.i .i64] (0+Int.toNat i*5+1+1+1)=CK.i .u8/\(K.ytc0 [CK.i .i64,CK.i .u16,CK.i .u16,CK.i .u8,CK.i .i64] (0+Int.toNat i*5+1+1+1+1)=CK.i .i64/\(bc (S.an (S.okQ c) (S.an (S.inR (intOf (K.atV vs (0+Int.toNat i*5+1))) 65536) (S.inR (intOf (K.atV vs (0+Int.toNat i*5+1+1+1))) 256))) (bc (S.an (S.okQ (S.didC (intOf (K.atV vs (0+Int.toNat i*5))) (intOf (K.atV vs (0+Int.toNat i*5+1))) (intOf (K.atV vs (0+Int.toNat i*5+1+1))) (intOf (K.atV vs (0+Int.toNat i*5+1+1+1))) (intOf (K.atV vs (0+Int.toNat i*5+1+1+1+1))) c)) (S.an (S.ywc0 vs L) (S.an (S.inR (wrapK .i64 (i+1)) 1000) (notB (ltI 900 ↑L))))) (md_T et L q w vs (S.didC (intOf (K.atV vs (0+Int.toNat i*5))) (intOf (K.atV vs (0+Int.toNat i*5+1))) (intOf (K.atV vs (0+Int.toNat i*5+1+1))) (intOf (K.atV vs (0+Int.toNat i*5+1+1+1))) (intOf (K.atV vs (0+Int.toNat i*5+1+1+1+1))) c) (wrapK .i64 (i+1))/\((0:Nat)=0/\(S.eqC (S.madeC vs (Int.toNat (↑L-i)) i c) (S.madeC vs (Int.toNat (↑L-wrapK .i64 (i+1))) (wrapK .i64 (i+1)) (S.didC (intOf (K.atV vs (0+Int.toNat i*5))) (intOf (K.atV vs (0+Int.toNat i*5+1))) (intOf (K.atV vs (0+Int.toNat i*5+1+1))) (intOf (K.atV vs (0+Int.toNat i*5+1+1+1))) (intOf (K.atV vs (0+Int.toNat i*5+1+1+1+1))) c)) True))) False) False)))))) False) False)) ((0:Nat)=0/\(S.eqC (S.madeC vs (Int.toNat (↑L-i)) i c) c True))):=by kernel_rfl
theorem yrs2 (et L q:Nat) (w:Own) (vs:List LV) (c:S.Chip) (i:Int) (h0:S.okQ c=true) (h1:S.ywc0 vs L=true) (h2:S.inR i 1000=true) (h3:(L:Int)<=900) (IH:i<L->S.okQ (S.actC vs i c)=true->md_T et L q w vs (S.actC vs i c) (i+1)):GTr Tryz.prog (inner (inner (blkOf 11 0))) 11 24 [(5,.ptr 0 0),(1,.slice 40 0 L (.known q)),(6,.int .i64 i)] (S.hp0 c++[.flat [.i .i64,.i .u16,.i .u16,.i .u8,.i .i64] et w vs]) ⟨.exit 0,[(5,.ptr 0 0)],(hpCh (S.madeC vs (L-i).toNat i c)),[]⟩:=by
 refine K.ymd0 good (A:=envL [(27,kDidE)]) (yga0 ?_) K.yea0 (k:=30) (ent:=mdEB) (cast (yav2 et L q w vs c i).symm ?_)
 .intro p hp;simp only [List.mem_cons,List.not_mem_nil,or_false] at hp;rcases hp with rfl;exact ysd2
 .have b2:=S.yha0.1 h2;have w:i<999->wrapK .i64 (i+1)=i+1:=fun _=>by rw [yma0];omega
  cases hl:ltI i L with
  | false =>
   simp only [bc_false,S.ydr0 (S.yud2 vs c (yba0.1 hl)),and_self]
  | true =>
   have hi:=yka0.1 hl;have hv:=(S.yem0.1 h1).2;have e0:ltI i 0=false:=yba0.2 b2.1;have bl:Nat.ble (0+Int.toNat i*5+5) (lenL vs)=true:=Nat.ble_eq_true_of_le (by rw [hv];omega)
   have k0:K.ytc0 [.i .i64,.i .u16,.i .u16,.i .u8,.i .i64] (0+Int.toNat i*5)=.i .i64:=by rw [Nat.zero_add];exact ysc0 [.i .i64,.i .u16,.i .u16,.i .u8,.i .i64] i.toNat 0
   have k1:K.ytc0 [.i .i64,.i .u16,.i .u16,.i .u8,.i .i64] (0+Int.toNat i*5+1)=.i .u16:=by rw [Nat.zero_add];exact ysc0 [.i .i64,.i .u16,.i .u16,.i .u8,.i .i64] i.toNat 1
   have k2:K.ytc0 [.i .i64,.i .u16,.i .u16,.i .u8,.i .i64] (0+Int.toNat i*5+1+1)=.i .u16:=by rw [Nat.zero_add];exact ysc0 [.i .i64,.i .u16,.i .u16,.i .u8,.i .i64] i.toNat 2
   have k3:K.ytc0 [.i .i64,.i .u16,.i .u16,.i .u8,.i .i64] (0+Int.toNat i*5+1+1+1)=.i .u8:=by rw [Nat.zero_add];exact ysc0 [.i .i64,.i .u16,.i .u16,.i .u8,.i .i64] i.toNat 3
   have k4:K.ytc0 [.i .i64,.i .u16,.i .u16,.i .u8,.i .i64] (0+Int.toNat i*5+1+1+1+1)=.i .i64:=by rw [Nat.zero_add];exact ysc0 [.i .i64,.i .u16,.i .u16,.i .u8,.i .i64] i.toNat 4
   have ea:S.didC (intOf (K.atV vs (0+Int.toNat i*5))) (intOf (K.atV vs (0+Int.toNat i*5+1))) (intOf (K.atV vs (0+Int.toNat i*5+1+1))) (intOf (K.atV vs (0+Int.toNat i*5+1+1+1))) (intOf (K.atV vs (0+Int.toNat i*5+1+1+1+1))) c=S.actC vs i c:=rfl;obtain ⟨r1,r3⟩:=S.ybg1 h1 b2.1 hi;have r1:S.inR (intOf (K.atV vs (0+Int.toNat i*5+1))) 65536=true:=r1;have r3:S.inR (intOf (K.atV vs (0+Int.toNat i*5+1+1+1))) 256=true:=r3;have hq:=S.ynt1 h1 b2.1 hi h0;have b3:S.inR (i+1) 1000=true:=S.yha0.2 (by omega)
   have hL:notB (ltI 900 L)=true:=by rw [yba0.2 (by omega)];rfl
   have ih:=IH hi hq;simp only [e0,bl,k0,k1,k2,k3,k4,r1,r3,h0,S.an,w (by omega),ea,hq,h1,b3,hL,bc_true,bc_false,true_and,S.ydr0 (S.ytd2 vs c hi)]
   simp only [ih,and_self]
theorem ybv2 (et L q:Nat) (w:Own) (vs:List LV) (h1:S.ywc0 vs L=true) (h3:(L:Int)<=900):∀ (k:Nat) (c:S.Chip) (i:Int),S.okQ c=true->S.inR i 1000=true->(L-i).toNat=k->md_T et L q w vs c i:=by
 intro k
 induction k with
 | zero =>
  intro c i h0 h2 hk;exact yrs2 et L q w vs c i h0 h1 h2 h3 fun hi _=>by omega
 | succ k ih =>
  intro c i h0 h2 hk;exact yrs2 et L q w vs c i h0 h1 h2 h3 fun hi hq=>ih _ (i+1) hq (S.yha0.2 (by have:=S.yha0.1 h2;omega)) (by omega)
theorem ycv2 (et L q:Nat) (w:Own) (vs:List LV) (h1:S.ywc0 vs L=true) (h3:(L:Int)<=900) (c:S.Chip) (i:Int) (h0:S.okQ c=true) (h2:S.inR i 1000=true):md_B et L q w vs c i:=by
 have hb:blkOf 11 0=.block 0 (.loop (inner (inner (blkOf 11 0)))):=by kernel_rfl
 unfold md_B K.BOk;rw [hb];exact K.CT.block (K.GT.loop (ybv2 et L q w vs h1 h3 _ c i h0 h2 rfl))
theorem yss2 (k:Int):K.bodyF (envL [(18,yjn0)]) (K.runF (envL [(18,yjn0)]) 30) 11 [.int .u8 k,.nils] (Heap.of []) Hint.auto (K.endC K.openE 0 ⟨.ret (.ptr 0 0),[],(S.hpP 0 (S.mkC [] 0 k))⟩) =
  (bc (S.inR (Int.tmod (wrapK .i64 k) 228) 228) ((0:Nat)=0/\(S.eqD (S.mkC [] 0 k) (S.newC (Int.tmod (wrapK .i64 k) 228)) True)) False):=by kernel_rfl
theorem yts2 (k:Int) (h0:S.inR k 256=true)  : HTr Tryz.prog 11 [.int .u8 k,.nils] [] ⟨.ret (.ptr 0 0),[],(S.hpP 0 (S.mkC [] 0 k))⟩:=by
 refine K.yca0 good (A:=envL [(18,yjn0)]) (yga0 ?_) K.yea0 (k:=30) (cast (yss2 k).symm ?_)
 .intro p hp;simp only [List.mem_cons,List.not_mem_nil,or_false] at hp;rcases hp with rfl;exact yar0
 .have hk:S.inR k 256=true:=h0;have ek:Int.tmod (wrapK .i64 k) 228=S.cl228 k:=rfl;have e:S.mkC [] 0 k=S.newC (S.cl228 k):=rfl;simp only [ek,S.yfm0 hk,bc_true,S.yoa2 e,and_self]
theorem yus2 (k:Int):K.bodyF (envL [(18,yjn0)]) (K.runF (envL [(18,yjn0)]) 30) 11 [.int .u8 k,.emp 0] (Heap.of [.empty]) Hint.auto (K.endC K.openE 1 ⟨.ret (.ptr 1 0),[],(S.hpP 1 (S.mkC [] 0 k))⟩) =
  (bc (S.inR (Int.tmod (wrapK .i64 k) 228) 228) ((0:Nat)=0/\(S.eqD (S.mkC [] 0 k) (S.newC (Int.tmod (wrapK .i64 k) 228)) True)) False):=by kernel_rfl
theorem yvs2 (k:Int) (h0:S.inR k 256=true)  : HTr Tryz.prog 11 [.int .u8 k,.emp 0] [.empty] ⟨.ret (.ptr 1 0),[],(S.hpP 1 (S.mkC [] 0 k))⟩:=by
 refine K.yca0 good (A:=envL [(18,yjn0)]) (yga0 ?_) K.yea0 (k:=30) (cast (yus2 k).symm ?_)
 .intro p hp;simp only [List.mem_cons,List.not_mem_nil,or_false] at hp;rcases hp with rfl;exact yar0
 .have hk:S.inR k 256=true:=h0;have ek:Int.tmod (wrapK .i64 k) 228=S.cl228 k:=rfl;have e:S.mkC [] 0 k=S.newC (S.cl228 k):=rfl;simp only [ek,S.yfm0 hk,bc_true,S.yoa2 e,and_self]
theorem yws2 (et L q:Nat) (w:Own) (vs:List LV) (k:Int):K.bodyF (envB [(18,yjn0)] (fun g id=>bc (Nat.beq g 11) (bc (Nat.beq id 0) (some mdBB) (none)) (none))) (K.runF (envB [(18,yjn0)] (fun g id=>bc (Nat.beq g 11) (bc (Nat.beq id 0) (some mdBB) (none)) (none))) 30) 11 [.int .u8 k,.slice 0 0 L (.known q)] (Heap.of [.flat [.i .i64,.i .u16,.i .u16,.i .u8,.i .i64] et w vs]) Hint.auto (K.endC K.openE 1 ⟨.ret (.ptr 1 0),[],(S.hpP 1 (S.mkC vs L k))⟩) =
  (bc (S.inR (Int.tmod (wrapK .i64 k) 228) 228) (bc (S.an (S.okQ (S.newC (Int.tmod (wrapK .i64 k) 228))) (S.an (S.ywc0 vs L) (S.an (S.inR 0 1000) (notB (ltI 900 ↑L))))) (md_B et L q w vs (S.newC (Int.tmod (wrapK .i64 k) 228)) 0/\((0:Nat)=0/\(S.eqD (S.mkC vs L k) (S.madeC vs (Int.toNat (↑L-0)) 0 (S.newC (Int.tmod (wrapK .i64 k) 228))) True))) False) False):=by kernel_rfl
theorem yxs2 (et L q:Nat) (w:Own) (vs:List LV) (k:Int) (h0:S.an (S.inR k 256) (S.an (S.ywc0 vs L) (notB (ltI 900 L)))=true)  : HTr Tryz.prog 11 [.int .u8 k,.slice 0 0 L (.known q)] [.flat [.i .i64,.i .u16,.i .u16,.i .u8,.i .i64] et w vs] ⟨.ret (.ptr 1 0),[],(S.hpP 1 (S.mkC vs L k))⟩:=by
 refine K.yca0 good (A:=envB [(18,yjn0)] (fun g id=>bc (Nat.beq g 11) (bc (Nat.beq id 0) (some mdBB) (none)) (none))) (ynr0 ?_) K.yea0 (k:=30) (cast (yws2 et L q w vs k).symm ?_)
 .intro p hp;simp only [List.mem_cons,List.not_mem_nil,or_false] at hp;rcases hp with rfl;exact yar0
 .obtain ⟨hk,h1⟩:=S.yia0.1 h0;obtain ⟨hv,h2⟩:=S.yia0.1 h1;have hL:=yba0.1 ((yab0).1 h2);have ek:Int.tmod (wrapK .i64 k) 228=S.cl228 k:=rfl;have z:S.inR 0 1000=true:=rfl;have hq:=S.yqd2 (S.yfm0 hk);have B:=ycv2 et L q w vs hv hL (S.newC (S.cl228 k)) 0 hq z;have e:S.mkC vs L k=S.madeC vs (Int.toNat ((L:Int)-0)) 0 (S.newC (S.cl228 k)):=by rw [Int.sub_zero];rfl
  simp only [ek,S.yfm0 hk,hq,hv,z,h2,S.an,bc_true,S.yoa2 e,true_and,and_true];exact B

theorem ypx0:mkAE.ok Tryz.prog 11:=by
 intro xs os b r h h3;unfold mkAE at h;simp only at h;split at h
 .injection h with h;injection h with h1 h2;subst h1;subst h2;exact yts2 _ h3
 .injection h with h;injection h with h1 h2;subst h1;subst h2;exact yvs2 _ h3
 .injection h with h;injection h with h1 h2;subst h1;subst h2;exact yxs2 _ _ _ _ _ _ h3
 .cases h
namespace S
theorem ypa2 {c:Chip} (h:okC c=true):0<=pos c/\pos c<228/\c.ba=pos c % 4/\c.bs=st (pos c / 4):=by
 obtain ⟨n,h0,h1,ha,hs⟩:=ypd2 (ybg0.1 h).1;have e:pos c=n:=by unfold pos;rw [ha,hs,ysu2 h0 h1]
 rw [e];exact ⟨h0,h1,ha,hs⟩
theorem okZ_Q {c:Chip} (h:okZ c=true):okQ c=true:=(yia0.1 h).1
theorem okZ_C {c:Chip} (h:okZ c=true):okC c=true:=okQ_C (okZ_Q h)
theorem okZ_m {c:Chip} (h:okZ c=true):(0<=c.mc/\c.mc<17)/\0<=c.mg/\c.mg<4:=by
 have:=(yia0.1 h).2;rw [yia0,yha0,yha0] at this;exact this
theorem yqx0 {mc mg k:Int} (hk:0<=k):mAct mc mg k=true↔mc<16/\3<=mg/\k % 4=0:=by
 unfold mAct;rw [yia0,yia0,yka0,yab0,yba0,ysa0,Int.tmod_eq_emod_of_nonneg hk]
theorem ybp0 {mc:Int} (h0:0<=mc) (h1:mc<17):mLast mc=true↔mc=15:=by
 unfold mLast;rw [ysa0,show wrapK .i64 (mc+1)=mc+1 by rw [yma0];omega]
 omega
theorem mC_eq {mc mg k:Int} (h0:0<=mc) (h1:mc<17) (hk:0<=k):mC mc mg k=if mc<16/\3<=mg/\k % 4=0 then mc+1 else mc:=by
 unfold mC;cases h:mAct mc mg k with
 | true=>rw [if_pos ((yqx0 hk).1 h),bc_true,yma0];omega
 | false=>rw [if_neg (fun e=>by rw [(yqx0 hk).2 e] at h;cases h),bc_false]
theorem mG_eq {mc mg k:Int} (h0:0<=mc) (h1:mc<17) (g0:0<=mg) (g1:mg<4) (hk:0<=k):mG mc mg k=if mc<16 then (if mg<3 then mg+1 else if k % 4=0/\mc=15 then 0 else mg) else mg:=by
 unfold mG;by_cases a:mc<16
 .rw [yka0.2 a,bc_true,if_pos a];by_cases b:mg<3
  .rw [yka0.2 b,bc_true,if_pos b,yma0];omega
  .rw [yba0.2 (by omega),bc_false,if_neg b]
   cases h:an (eqI (k.tmod 4) 0) (mLast mc) with
   | true =>
    rw [yia0,ysa0,Int.tmod_eq_emod_of_nonneg hk,ybp0 h0 h1] at h;rw [if_pos h,bc_true]
   | false =>
    rw [if_neg,bc_false];intro e;rw [show an (eqI (k.tmod 4) 0) (mLast mc)=true by rw [yia0,ysa0,Int.tmod_eq_emod_of_nonneg hk,ybp0 h0 h1];exact e] at h
    cases h
 .rw [yba0.2 (by omega),bc_false,if_neg a]
theorem yys2 {c:Chip} (h:okZ c=true):(stepC c).mc=if c.mc<16/\3<=c.mg/\pos c % 4=0 then c.mc+1 else c.mc:=by
 obtain ⟨⟨h0,h1⟩,g0,g1⟩:=okZ_m h;exact mC_eq h0 h1 (ypa2 (okZ_C h)).1
theorem yzs2 {c:Chip} (h:okZ c=true):(stepC c).mg=if c.mc<16 then (if c.mg<3 then c.mg+1 else if pos c % 4=0/\c.mc=15 then 0 else c.mg) else c.mg:=by
 obtain ⟨⟨h0,h1⟩,g0,g1⟩:=okZ_m h;exact mG_eq h0 h1 g0 g1 (ypa2 (okZ_C h)).1
theorem yyl2 {c:Chip} (h:okZ c=true):okZ (stepC c)=true:=by
 obtain ⟨⟨h0,h1⟩,g0,g1⟩:=okZ_m h;unfold okZ;rw [yia0,yia0,yha0,yha0,yys2 h,yzs2 h];refine ⟨ybd1 (okZ_Q h),?_,?_⟩
 .split <;> omega
 .split
  .split
   .omega
   .split <;> omega
  .omega
theorem yat2 {t:Th} (h:okT t=true):0<=cnt t/\cnt t<160:=yod2 (t:=t) (yia0.1 h).1
theorem ydv2 {c:Chip} (h:okZ c=true):okT c.t0=true/\okT c.t1=true/\okT c.t2=true/\okT c.t3=true/\okT c.t4=true :=
 (yuh0.1 (ybg0.1 (okZ_C h)).2.2.1).2.2
theorem yqa2 {c:Chip} {addr v:Int} (hv:inR v 256=true) (h:okZ c=true):okZ (ynv0 addr v c)=true:=by
 obtain ⟨⟨h0,h1⟩,g0,g1⟩:=okZ_m h;unfold okZ;rw [yia0,yia0,yha0,yha0];exact ⟨yag1 hv (okZ_Q h),rgP (P:=fun x=>0<=x/\x<17) (by decide) ⟨h0,h1⟩,rgP (P:=fun x=>0<=x/\x<4) (by decide) ⟨g0,g1⟩⟩
theorem yev2 {c:Chip} {n v:Int} (hv:inR v 256=true) (h:okZ c=true):okZ (inC n v c)=true:=by
 unfold okZ;rw [yia0];exact ⟨yns2 hv (okZ_Q h),(yia0.1 h).2⟩
theorem ybt2 {k:Int} (h:inR k 228=true):okZ (newC k)=true:=by
 unfold okZ;rw [yia0];exact ⟨yqd2 h,rfl⟩
end S
namespace S
theorem yua0 {w n:Int} : rng w n=true↔0<=w/\w<=n:=by
 unfold rng;rw [yia0,yab0,yab0,yba0,yba0]
theorem rng_l {w n:Int} (h:ltI w 0=true):rng w n=false:=by unfold rng;rw [h];rfl
theorem rng_h {w n:Int} (h:ltI n w=true):rng w n=false:=by unfold rng;rw [h];cases ltI w 0 <;> rfl
theorem rng_t {w n:Int} (h:ltI w 0=false) (h2:ltI n w=false):rng w n=true:=by unfold rng;rw [h,h2];rfl
theorem an_f2 (a:Bool):an a false=false:=by cases a <;> rfl
end S
def yvh0 (b:Bool) (a d l n s:Int) (w0 w1:Int) (r:Prop):Prop :=
 bc (S.sOkB w0 w1) 0 (6:Int)=6/\(0:Nat)=0/\(0:Nat)=0/\bc (S.sOkB w0 w1) (eqI w1 1) b=b/\bc (S.sOkB w0 w1) (w0 % 4) a=a/\d=d/\bc (S.sOkB w0 w1) (S.st (w0 / 4)) s=s/\(6:Int)=6/\(1:Int)=1/\r
def yun0 (b:Bool) (a d l n s:Int) (w0 w1:Int) (r:Prop):Prop :=
 bc (S.sOkB w0 w1) 0 (6:Int)=(0:Int)/\(0:Nat)=0/\(0:Nat)=0/\bc (S.sOkB w0 w1) (eqI w1 1) b=eqI w1 1/\bc (S.sOkB w0 w1) (w0 % 4) a=bc (S.inR (Int.tmod w0 4) d) (Int.tmod w0 4) a/\d=d/\bc (S.sOkB w0 w1) (S.st (w0 / 4)) s=bc (S.inR (wrapK .i64 (Int.tdiv w0 4)) n) (S.st (wrapK .i64 (Int.tdiv w0 4))) s/\(6:Int)=6/\(1:Int)=1/\r
theorem yra2 (b:Bool) (a d l n s:Int) (w0 w1:Int):K.bodyF (yqp1) (K.runF (yqp1) 30) 80 [.ptr 0 0,.agg [.int .i64 w0,.int .i64 w1]] (Heap.of (yvc2 b a d l n s w0 w1)) Hint.auto (K.endC K.openE 4 (ypp1 b a d l n s w0 w1)) =
  (bc (notB (ltI w0 0)) (bc (notB (notB (ltI 227 w0))) (yvh0 b a d l n s w0 w1 True) (bc (notB (ltI w1 0)) (bc (notB (notB (ltI 1 w1))) (yvh0 b a d l n s w0 w1 True) (bc (ltI n 64) (yun0 b a d l n s w0 w1 True) False)) (yvh0 b a d l n s w0 w1 True))) (yvh0 b a d l n s w0 w1 True)):=by kernel_rfl
theorem ysa2 (b:Bool) (a d l n s:Int) (w0 w1:Int) (h0:S.okBm a s d l n=true)  : HTr Tryz.prog 80 [.ptr 0 0,.agg [.int .i64 w0,.int .i64 w1]] (yvc2 b a d l n s w0 w1) (ypp1 b a d l n s w0 w1):=by
 refine K.yca0 good (A:=yqp1) (yga0 ?_) K.yea0 (k:=30) (cast (yra2 b a d l n s w0 w1).symm ?_)
 .intro p hp;simp only [List.mem_cons,List.not_mem_nil,or_false] at hp;rcases hp with rfl | rfl;exact ylf1;exact ymf1
 .obtain ⟨ha,hs,rfl,rfl,rfl,hx0,hx1⟩:=S.yrg0 h0;cases hl_w0:ltI w0 0 with
  | true =>
   have r:=S.rng_l (n:=227) hl_w0;simp only [yvh0,yun0,S.sOkB,r,S.an_f2,S.an_f rfl,yoa0,yna0,bc_true,bc_false,and_self]
  | false =>
  cases hh_w0:ltI 227 w0 with
  | true =>
   have r:=S.rng_h hh_w0;simp only [yvh0,yun0,S.sOkB,r,S.an_f2,S.an_f rfl,yoa0,yna0,bc_true,bc_false,and_self]
  | false =>
  have r_w0:=S.rng_t hl_w0 hh_w0;cases hl_w1:ltI w1 0 with
  | true =>
   have r:=S.rng_l (n:=1) hl_w1;simp only [yvh0,yun0,S.sOkB,r,S.an_f2,S.an_f rfl,yoa0,yna0,bc_true,bc_false,and_self]
  | false =>
  cases hh_w1:ltI 1 w1 with
  | true =>
   have r:=S.rng_h hh_w1;simp only [yvh0,yun0,S.sOkB,r,S.an_f2,S.an_f rfl,yoa0,yna0,bc_true,bc_false,and_self]
  | false =>
  have r_w1:=S.rng_t hl_w1 hh_w1;have a:=S.yua0.1 r_w0;have e1:Int.tmod w0 4=w0 % 4:=Int.tmod_eq_emod_of_nonneg a.1;have e2:wrapK .i64 (Int.tdiv w0 4)=w0 / 4:=by rw [Int.tdiv_eq_ediv_of_nonneg a.1,yma0];omega
  have e3:S.inR (w0 % 4) 4=true:=S.yha0.2 (by omega)
  have e4:S.inR (w0 / 4) 57=true:=S.yha0.2 (by omega)
  have e5:ltI 57 64=true:=rfl;simp only [yvh0,yun0,S.sOkB,r_w0,r_w1,S.an,e1,e2,e3,e4,e5,yoa0,yna0,bc_true,bc_false,and_self]
theorem yzl2:yci2.ok Tryz.prog 80:=by
 intro xs os b r h h3;unfold yci2 at h;simp only at h;split at h
 .injection h with h;injection h with h1 h2;subst h1;subst h2;exact ysa2 _ _ _ _ _ _ _ _ h3
 .cases h
def ycg0 (mc mg mm w0 w1 w2:Int) (r:Prop):Prop :=
 bc (S.sOkM w0 w1 w2) 0 (6:Int)=6/\bc (S.sOkM w0 w1 w2) w0 mc=mc/\bc (S.sOkM w0 w1 w2) w1 mg=mg/\bc (S.sOkM w0 w1 w2) w2 mm=mm/\r
def ygm0 (mc mg mm w0 w1 w2:Int) (r:Prop):Prop :=
 bc (S.sOkM w0 w1 w2) 0 (6:Int)=(0:Int)/\bc (S.sOkM w0 w1 w2) w0 mc=w0/\bc (S.sOkM w0 w1 w2) w1 mg=w1/\bc (S.sOkM w0 w1 w2) w2 mm=wrapK .u8 w2/\r
theorem yam2 (mc mg mm w0 w1 w2:Int):K.bodyF (envL []) (K.runF (envL []) 30) 82 [.ptr 0 0,.agg [.int .i64 w0,.int .i64 w1,.int .i64 w2]] (Heap.of [.cells 176 .exact [.int .i64 mc,.int .i64 mg,.int .u8 mm]]) Hint.auto (K.endC K.openE 1 (yai2 mc mg mm w0 w1 w2)) =
  (bc (ltI w0 0) (ycg0 mc mg mm w0 w1 w2 True) (bc (ltI 16 w0) (ycg0 mc mg mm w0 w1 w2 True) (bc (ltI w1 0) (ycg0 mc mg mm w0 w1 w2 True) (bc (ltI 3 w1) (ycg0 mc mg mm w0 w1 w2 True) (bc (ltI w2 0) (ycg0 mc mg mm w0 w1 w2 True) (bc (ltI 31 w2) (ycg0 mc mg mm w0 w1 w2 True) (bc (eqI w0 16) (bc (notB (eqI w1 0)) (ycg0 mc mg mm w0 w1 w2 True) (bc (notB (eqI w2 0)) (ycg0 mc mg mm w0 w1 w2 True) (ygm0 mc mg mm w0 w1 w2 True))) (ygm0 mc mg mm w0 w1 w2 True)))))))):=by kernel_rfl
theorem ybm2 (mc mg mm w0 w1 w2:Int)  : HTr Tryz.prog 82 [.ptr 0 0,.agg [.int .i64 w0,.int .i64 w1,.int .i64 w2]] [.cells 176 .exact [.int .i64 mc,.int .i64 mg,.int .u8 mm]] (yai2 mc mg mm w0 w1 w2):=by
 refine K.yca0 good (A:=envL []) (yga0 ?_) K.yea0 (k:=30) (cast (yam2 mc mg mm w0 w1 w2).symm ?_)
 .intro p hp;cases hp
 .cases hl_w0:ltI w0 0 with
  | true =>
   have r:=S.rng_l (n:=16) hl_w0;simp only [ycg0,ygm0,S.sOkM,r,S.an_f2,S.an_f rfl,bc_true,bc_false,and_self]
  | false =>
  cases hh_w0:ltI 16 w0 with
  | true =>
   have r:=S.rng_h hh_w0;simp only [ycg0,ygm0,S.sOkM,r,S.an_f2,S.an_f rfl,bc_true,bc_false,and_self]
  | false =>
  have r_w0:=S.rng_t hl_w0 hh_w0;cases hl_w1:ltI w1 0 with
  | true =>
   have r:=S.rng_l (n:=3) hl_w1;simp only [ycg0,ygm0,S.sOkM,r,S.an_f2,S.an_f rfl,bc_true,bc_false,and_self]
  | false =>
  cases hh_w1:ltI 3 w1 with
  | true =>
   have r:=S.rng_h hh_w1;simp only [ycg0,ygm0,S.sOkM,r,S.an_f2,S.an_f rfl,bc_true,bc_false,and_self]
  | false =>
  have r_w1:=S.rng_t hl_w1 hh_w1;cases hl_w2:ltI w2 0 with
  | true =>
   have r:=S.rng_l (n:=31) hl_w2;simp only [ycg0,ygm0,S.sOkM,r,S.an_f2,S.an_f rfl,bc_true,bc_false,and_self]
  | false =>
  cases hh_w2:ltI 31 w2 with
  | true =>
   have r:=S.rng_h hh_w2;simp only [ycg0,ygm0,S.sOkM,r,S.an_f2,S.an_f rfl,bc_true,bc_false,and_self]
  | false =>
  have r_w2:=S.rng_t hl_w2 hh_w2;have a2:=S.yua0.1 r_w2;have e2:wrapK .u8 w2=w2:=by rw [yrd0];omega
  simp only [ycg0,ygm0,S.sOkM,r_w0,r_w1,r_w2,e2,S.an,bc_true,bc_false];cases eqI w0 16 <;> cases eqI w1 0 <;> cases eqI w2 0 <;> simp only [S.orb,S.an,yoa0,yna0,bc_true,bc_false,and_self]
theorem yct2:xMotE.ok Tryz.prog 82:=by
 intro xs os b r h h3;unfold xMotE at h;simp only at h;split at h
 .injection h with h;injection h with h1 h2;subst h1;subst h2;exact ybm2 _ _ _ _ _ _
 .cases h
def ynd0 (ynv2 rate yrv2 f4 f5 f9 count:Int) (high:Bool) (w0 w1 w2 w3 w4 w5 w6 w7:Int) (r:Prop):Prop :=
 bc (S.sOkV w0 w1 w2 w3 w4 w5 w6 w7) 0 (6:Int)=6/\bc (S.sOkV w0 w1 w2 w3 w4 w5 w6 w7) w0 ynv2=ynv2/\bc (S.sOkV w0 w1 w2 w3 w4 w5 w6 w7) w1 rate=rate/\bc (S.sOkV w0 w1 w2 w3 w4 w5 w6 w7) w2 yrv2=yrv2/\(0:Nat)=0/\(0:Nat)=0/\(0:Nat)=0/\bc (S.sOkV w0 w1 w2 w3 w4 w5 w6 w7) w6 count=count/\bc (S.sOkV w0 w1 w2 w3 w4 w5 w6 w7) (eqI w7 1) high=high/\bc (S.sOkV w0 w1 w2 w3 w4 w5 w6 w7) w3 f4=f4/\(4:Int)=4/\(1:Int)=1/\bc (S.sOkV w0 w1 w2 w3 w4 w5 w6 w7) w4 f5=f5/\(5:Int)=5/\(2:Int)=2/\bc (S.sOkV w0 w1 w2 w3 w4 w5 w6 w7) w5 f9=f9/\(9:Int)=9/\(4:Int)=4/\r
def ywh0 (ynv2 rate yrv2 f4 f5 f9 count:Int) (high:Bool) (w0 w1 w2 w3 w4 w5 w6 w7:Int) (r:Prop):Prop :=
 bc (S.sOkV w0 w1 w2 w3 w4 w5 w6 w7) 0 (6:Int)=(0:Int)/\bc (S.sOkV w0 w1 w2 w3 w4 w5 w6 w7) w0 ynv2=wrapK .u8 w0/\bc (S.sOkV w0 w1 w2 w3 w4 w5 w6 w7) w1 rate=wrapK .u8 w1/\bc (S.sOkV w0 w1 w2 w3 w4 w5 w6 w7) w2 yrv2=wrapK .u8 w2/\(0:Nat)=0/\(0:Nat)=0/\(0:Nat)=0/\bc (S.sOkV w0 w1 w2 w3 w4 w5 w6 w7) w6 count=w6/\bc (S.sOkV w0 w1 w2 w3 w4 w5 w6 w7) (eqI w7 1) high=eqI w7 1/\bc (S.sOkV w0 w1 w2 w3 w4 w5 w6 w7) w3 f4=f4/\(4:Int)=4/\(1:Int)=1/\bc (S.sOkV w0 w1 w2 w3 w4 w5 w6 w7) w4 f5=f5/\(5:Int)=5/\(2:Int)=2/\bc (S.sOkV w0 w1 w2 w3 w4 w5 w6 w7) w5 f9=f9/\(9:Int)=9/\(4:Int)=4/\r
def yxh0 (ynv2 rate yrv2 f4 f5 f9 count:Int) (high:Bool) (w0 w1 w2 w3 w4 w5 w6 w7:Int) (r:Prop):Prop :=
 bc (S.sOkV w0 w1 w2 w3 w4 w5 w6 w7) 0 (6:Int)=(0:Int)/\bc (S.sOkV w0 w1 w2 w3 w4 w5 w6 w7) w0 ynv2=wrapK .u8 w0/\bc (S.sOkV w0 w1 w2 w3 w4 w5 w6 w7) w1 rate=wrapK .u8 w1/\bc (S.sOkV w0 w1 w2 w3 w4 w5 w6 w7) w2 yrv2=wrapK .u8 w2/\(0:Nat)=0/\(0:Nat)=0/\(0:Nat)=0/\bc (S.sOkV w0 w1 w2 w3 w4 w5 w6 w7) w6 count=w6/\bc (S.sOkV w0 w1 w2 w3 w4 w5 w6 w7) (eqI w7 1) high=eqI w7 1/\bc (S.sOkV w0 w1 w2 w3 w4 w5 w6 w7) w3 f4=f4/\(4:Int)=4/\(1:Int)=1/\bc (S.sOkV w0 w1 w2 w3 w4 w5 w6 w7) w4 f5=f5/\(5:Int)=5/\(2:Int)=2/\bc (S.sOkV w0 w1 w2 w3 w4 w5 w6 w7) w5 f9=wrapK .u16 w5/\(9:Int)=9/\(4:Int)=4/\r
def yyh0 (ynv2 rate yrv2 f4 f5 f9 count:Int) (high:Bool) (w0 w1 w2 w3 w4 w5 w6 w7:Int) (r:Prop):Prop :=
 bc (S.sOkV w0 w1 w2 w3 w4 w5 w6 w7) 0 (6:Int)=(0:Int)/\bc (S.sOkV w0 w1 w2 w3 w4 w5 w6 w7) w0 ynv2=wrapK .u8 w0/\bc (S.sOkV w0 w1 w2 w3 w4 w5 w6 w7) w1 rate=wrapK .u8 w1/\bc (S.sOkV w0 w1 w2 w3 w4 w5 w6 w7) w2 yrv2=wrapK .u8 w2/\(0:Nat)=0/\(0:Nat)=0/\(0:Nat)=0/\bc (S.sOkV w0 w1 w2 w3 w4 w5 w6 w7) w6 count=w6/\bc (S.sOkV w0 w1 w2 w3 w4 w5 w6 w7) (eqI w7 1) high=eqI w7 1/\bc (S.sOkV w0 w1 w2 w3 w4 w5 w6 w7) w3 f4=f4/\(4:Int)=4/\(1:Int)=1/\bc (S.sOkV w0 w1 w2 w3 w4 w5 w6 w7) w4 f5=wrapK .u8 w4/\(5:Int)=5/\(2:Int)=2/\bc (S.sOkV w0 w1 w2 w3 w4 w5 w6 w7) w5 f9=f9/\(9:Int)=9/\(4:Int)=4/\r
def yzh0 (ynv2 rate yrv2 f4 f5 f9 count:Int) (high:Bool) (w0 w1 w2 w3 w4 w5 w6 w7:Int) (r:Prop):Prop :=
 bc (S.sOkV w0 w1 w2 w3 w4 w5 w6 w7) 0 (6:Int)=(0:Int)/\bc (S.sOkV w0 w1 w2 w3 w4 w5 w6 w7) w0 ynv2=wrapK .u8 w0/\bc (S.sOkV w0 w1 w2 w3 w4 w5 w6 w7) w1 rate=wrapK .u8 w1/\bc (S.sOkV w0 w1 w2 w3 w4 w5 w6 w7) w2 yrv2=wrapK .u8 w2/\(0:Nat)=0/\(0:Nat)=0/\(0:Nat)=0/\bc (S.sOkV w0 w1 w2 w3 w4 w5 w6 w7) w6 count=w6/\bc (S.sOkV w0 w1 w2 w3 w4 w5 w6 w7) (eqI w7 1) high=eqI w7 1/\bc (S.sOkV w0 w1 w2 w3 w4 w5 w6 w7) w3 f4=f4/\(4:Int)=4/\(1:Int)=1/\bc (S.sOkV w0 w1 w2 w3 w4 w5 w6 w7) w4 f5=wrapK .u8 w4/\(5:Int)=5/\(2:Int)=2/\bc (S.sOkV w0 w1 w2 w3 w4 w5 w6 w7) w5 f9=wrapK .u16 w5/\(9:Int)=9/\(4:Int)=4/\r
def yai0 (ynv2 rate yrv2 f4 f5 f9 count:Int) (high:Bool) (w0 w1 w2 w3 w4 w5 w6 w7:Int) (r:Prop):Prop :=
 bc (S.sOkV w0 w1 w2 w3 w4 w5 w6 w7) 0 (6:Int)=(0:Int)/\bc (S.sOkV w0 w1 w2 w3 w4 w5 w6 w7) w0 ynv2=wrapK .u8 w0/\bc (S.sOkV w0 w1 w2 w3 w4 w5 w6 w7) w1 rate=wrapK .u8 w1/\bc (S.sOkV w0 w1 w2 w3 w4 w5 w6 w7) w2 yrv2=wrapK .u8 w2/\(0:Nat)=0/\(0:Nat)=0/\(0:Nat)=0/\bc (S.sOkV w0 w1 w2 w3 w4 w5 w6 w7) w6 count=w6/\bc (S.sOkV w0 w1 w2 w3 w4 w5 w6 w7) (eqI w7 1) high=eqI w7 1/\bc (S.sOkV w0 w1 w2 w3 w4 w5 w6 w7) w3 f4=wrapK .u8 w3/\(4:Int)=4/\(1:Int)=1/\bc (S.sOkV w0 w1 w2 w3 w4 w5 w6 w7) w4 f5=f5/\(5:Int)=5/\(2:Int)=2/\bc (S.sOkV w0 w1 w2 w3 w4 w5 w6 w7) w5 f9=f9/\(9:Int)=9/\(4:Int)=4/\r
def ybi0 (ynv2 rate yrv2 f4 f5 f9 count:Int) (high:Bool) (w0 w1 w2 w3 w4 w5 w6 w7:Int) (r:Prop):Prop :=
 bc (S.sOkV w0 w1 w2 w3 w4 w5 w6 w7) 0 (6:Int)=(0:Int)/\bc (S.sOkV w0 w1 w2 w3 w4 w5 w6 w7) w0 ynv2=wrapK .u8 w0/\bc (S.sOkV w0 w1 w2 w3 w4 w5 w6 w7) w1 rate=wrapK .u8 w1/\bc (S.sOkV w0 w1 w2 w3 w4 w5 w6 w7) w2 yrv2=wrapK .u8 w2/\(0:Nat)=0/\(0:Nat)=0/\(0:Nat)=0/\bc (S.sOkV w0 w1 w2 w3 w4 w5 w6 w7) w6 count=w6/\bc (S.sOkV w0 w1 w2 w3 w4 w5 w6 w7) (eqI w7 1) high=eqI w7 1/\bc (S.sOkV w0 w1 w2 w3 w4 w5 w6 w7) w3 f4=wrapK .u8 w3/\(4:Int)=4/\(1:Int)=1/\bc (S.sOkV w0 w1 w2 w3 w4 w5 w6 w7) w4 f5=f5/\(5:Int)=5/\(2:Int)=2/\bc (S.sOkV w0 w1 w2 w3 w4 w5 w6 w7) w5 f9=wrapK .u16 w5/\(9:Int)=9/\(4:Int)=4/\r
def yci0 (ynv2 rate yrv2 f4 f5 f9 count:Int) (high:Bool) (w0 w1 w2 w3 w4 w5 w6 w7:Int) (r:Prop):Prop :=
 bc (S.sOkV w0 w1 w2 w3 w4 w5 w6 w7) 0 (6:Int)=(0:Int)/\bc (S.sOkV w0 w1 w2 w3 w4 w5 w6 w7) w0 ynv2=wrapK .u8 w0/\bc (S.sOkV w0 w1 w2 w3 w4 w5 w6 w7) w1 rate=wrapK .u8 w1/\bc (S.sOkV w0 w1 w2 w3 w4 w5 w6 w7) w2 yrv2=wrapK .u8 w2/\(0:Nat)=0/\(0:Nat)=0/\(0:Nat)=0/\bc (S.sOkV w0 w1 w2 w3 w4 w5 w6 w7) w6 count=w6/\bc (S.sOkV w0 w1 w2 w3 w4 w5 w6 w7) (eqI w7 1) high=eqI w7 1/\bc (S.sOkV w0 w1 w2 w3 w4 w5 w6 w7) w3 f4=wrapK .u8 w3/\(4:Int)=4/\(1:Int)=1/\bc (S.sOkV w0 w1 w2 w3 w4 w5 w6 w7) w4 f5=wrapK .u8 w4/\(5:Int)=5/\(2:Int)=2/\bc (S.sOkV w0 w1 w2 w3 w4 w5 w6 w7) w5 f9=f9/\(9:Int)=9/\(4:Int)=4/\r
def ydi0 (ynv2 rate yrv2 f4 f5 f9 count:Int) (high:Bool) (w0 w1 w2 w3 w4 w5 w6 w7:Int) (r:Prop):Prop :=
 bc (S.sOkV w0 w1 w2 w3 w4 w5 w6 w7) 0 (6:Int)=(0:Int)/\bc (S.sOkV w0 w1 w2 w3 w4 w5 w6 w7) w0 ynv2=wrapK .u8 w0/\bc (S.sOkV w0 w1 w2 w3 w4 w5 w6 w7) w1 rate=wrapK .u8 w1/\bc (S.sOkV w0 w1 w2 w3 w4 w5 w6 w7) w2 yrv2=wrapK .u8 w2/\(0:Nat)=0/\(0:Nat)=0/\(0:Nat)=0/\bc (S.sOkV w0 w1 w2 w3 w4 w5 w6 w7) w6 count=w6/\bc (S.sOkV w0 w1 w2 w3 w4 w5 w6 w7) (eqI w7 1) high=eqI w7 1/\bc (S.sOkV w0 w1 w2 w3 w4 w5 w6 w7) w3 f4=wrapK .u8 w3/\(4:Int)=4/\(1:Int)=1/\bc (S.sOkV w0 w1 w2 w3 w4 w5 w6 w7) w4 f5=wrapK .u8 w4/\(5:Int)=5/\(2:Int)=2/\bc (S.sOkV w0 w1 w2 w3 w4 w5 w6 w7) w5 f9=wrapK .u16 w5/\(9:Int)=9/\(4:Int)=4/\r
theorem ydt2 (ynv2 rate yrv2 f4 f5 f9 count:Int) (high:Bool) (w0 w1 w2 w3 w4 w5 w6 w7:Int):K.bodyF (envL []) (K.runF (envL []) 30) 84 [.ptr 0 0,.agg [.int .i64 w0,.int .i64 w1,.int .i64 w2,.int .i64 w3,.int .i64 w4,.int .i64 w5,.int .i64 w6,.int .i64 w7]] (Heap.of (xVoOz ynv2 rate yrv2 f4 f5 f9 count high w0 w1 w2 w3 w4 w5 w6 w7)) Hint.auto (K.endC K.openE 4 (xVoRz ynv2 rate yrv2 f4 f5 f9 count high w0 w1 w2 w3 w4 w5 w6 w7)) =
  (bc (ltI w0 0) (ynd0 ynv2 rate yrv2 f4 f5 f9 count high w0 w1 w2 w3 w4 w5 w6 w7 True) (bc (ltI 15 w0) (ynd0 ynv2 rate yrv2 f4 f5 f9 count high w0 w1 w2 w3 w4 w5 w6 w7 True) (bc (ltI w1 0) (ynd0 ynv2 rate yrv2 f4 f5 f9 count high w0 w1 w2 w3 w4 w5 w6 w7 True) (bc (ltI 31 w1) (ynd0 ynv2 rate yrv2 f4 f5 f9 count high w0 w1 w2 w3 w4 w5 w6 w7 True) (bc (ltI w2 0) (ynd0 ynv2 rate yrv2 f4 f5 f9 count high w0 w1 w2 w3 w4 w5 w6 w7 True) (bc (ltI 15 w2) (ynd0 ynv2 rate yrv2 f4 f5 f9 count high w0 w1 w2 w3 w4 w5 w6 w7 True) (bc (ltI w3 0) (ynd0 ynv2 rate yrv2 f4 f5 f9 count high w0 w1 w2 w3 w4 w5 w6 w7 True) (bc (ltI 15 w3) (ynd0 ynv2 rate yrv2 f4 f5 f9 count high w0 w1 w2 w3 w4 w5 w6 w7 True) (bc (ltI w4 0) (ynd0 ynv2 rate yrv2 f4 f5 f9 count high w0 w1 w2 w3 w4 w5 w6 w7 True) (bc (ltI 31 w4) (ynd0 ynv2 rate yrv2 f4 f5 f9 count high w0 w1 w2 w3 w4 w5 w6 w7 True) (bc (ltI w5 0) (ynd0 ynv2 rate yrv2 f4 f5 f9 count high w0 w1 w2 w3 w4 w5 w6 w7 True) (bc (ltI 511 w5) (ynd0 ynv2 rate yrv2 f4 f5 f9 count high w0 w1 w2 w3 w4 w5 w6 w7 True) (bc (ltI w6 0) (ynd0 ynv2 rate yrv2 f4 f5 f9 count high w0 w1 w2 w3 w4 w5 w6 w7 True) (bc (ltI 95 w6) (ynd0 ynv2 rate yrv2 f4 f5 f9 count high w0 w1 w2 w3 w4 w5 w6 w7 True) (bc (ltI w7 0) (ynd0 ynv2 rate yrv2 f4 f5 f9 count high w0 w1 w2 w3 w4 w5 w6 w7 True) (bc (ltI 1 w7) (ynd0 ynv2 rate yrv2 f4 f5 f9 count high w0 w1 w2 w3 w4 w5 w6 w7 True) (bc (notB (eqI (Int.fdiv (wrapK .i64 (wrapK .u8 w3)) (2 ^ 4)) 0)) (bc (notB (eqI (Int.fdiv (wrapK .i64 (wrapK .u8 w4)) (2 ^ 5)) 0)) (bc (notB (eqI (Int.fdiv (wrapK .i64 (wrapK .u16 w5)) (2 ^ 9)) 0)) (ywh0 ynv2 rate yrv2 f4 f5 f9 count high w0 w1 w2 w3 w4 w5 w6 w7 True) (yxh0 ynv2 rate yrv2 f4 f5 f9 count high w0 w1 w2 w3 w4 w5 w6 w7 True)) (bc (notB (eqI (Int.fdiv (wrapK .i64 (wrapK .u16 w5)) (2 ^ 9)) 0)) (yyh0 ynv2 rate yrv2 f4 f5 f9 count high w0 w1 w2 w3 w4 w5 w6 w7 True) (yzh0 ynv2 rate yrv2 f4 f5 f9 count high w0 w1 w2 w3 w4 w5 w6 w7 True))) (bc (notB (eqI (Int.fdiv (wrapK .i64 (wrapK .u8 w4)) (2 ^ 5)) 0)) (bc (notB (eqI (Int.fdiv (wrapK .i64 (wrapK .u16 w5)) (2 ^ 9)) 0)) (yai0 ynv2 rate yrv2 f4 f5 f9 count high w0 w1 w2 w3 w4 w5 w6 w7 True) (ybi0 ynv2 rate yrv2 f4 f5 f9 count high w0 w1 w2 w3 w4 w5 w6 w7 True)) (bc (notB (eqI (Int.fdiv (wrapK .i64 (wrapK .u16 w5)) (2 ^ 9)) 0)) (yci0 ynv2 rate yrv2 f4 f5 f9 count high w0 w1 w2 w3 w4 w5 w6 w7 True) (ydi0 ynv2 rate yrv2 f4 f5 f9 count high w0 w1 w2 w3 w4 w5 w6 w7 True)))))))))))))))))))):=by kernel_rfl
theorem yet2 (ynv2 rate yrv2 f4 f5 f9 count:Int) (high:Bool) (w0 w1 w2 w3 w4 w5 w6 w7:Int)  : HTr Tryz.prog 84 [.ptr 0 0,.agg [.int .i64 w0,.int .i64 w1,.int .i64 w2,.int .i64 w3,.int .i64 w4,.int .i64 w5,.int .i64 w6,.int .i64 w7]] (xVoOz ynv2 rate yrv2 f4 f5 f9 count high w0 w1 w2 w3 w4 w5 w6 w7) (xVoRz ynv2 rate yrv2 f4 f5 f9 count high w0 w1 w2 w3 w4 w5 w6 w7):=by
 refine K.yca0 good (A:=envL []) (yga0 ?_) K.yea0 (k:=30) (cast (ydt2 ynv2 rate yrv2 f4 f5 f9 count high w0 w1 w2 w3 w4 w5 w6 w7).symm ?_)
 .intro p hp;cases hp
 .cases hl_w0:ltI w0 0 with
  | true =>
   have r:=S.rng_l (n:=15) hl_w0;simp only [ynd0,ywh0,yxh0,yyh0,yzh0,yai0,ybi0,yci0,ydi0,S.sOkV,r, S.an_f2,S.an_f rfl,bc_true,bc_false,and_self]
  | false =>
  cases hh_w0:ltI 15 w0 with
  | true =>
   have r:=S.rng_h hh_w0;simp only [ynd0,ywh0,yxh0,yyh0,yzh0,yai0,ybi0,yci0,ydi0,S.sOkV,r, S.an_f2,S.an_f rfl,bc_true,bc_false,and_self]
  | false =>
  have r_w0:=S.rng_t hl_w0 hh_w0;simp only [bc_false];cases hl_w1:ltI w1 0 with
  | true =>
   have r:=S.rng_l (n:=31) hl_w1;simp only [ynd0,ywh0,yxh0,yyh0,yzh0,yai0,ybi0,yci0,ydi0,S.sOkV,r, S.an_f2,S.an_f rfl,bc_true,bc_false,and_self]
  | false =>
  cases hh_w1:ltI 31 w1 with
  | true =>
   have r:=S.rng_h hh_w1;simp only [ynd0,ywh0,yxh0,yyh0,yzh0,yai0,ybi0,yci0,ydi0,S.sOkV,r, S.an_f2,S.an_f rfl,bc_true,bc_false,and_self]
  | false =>
  have r_w1:=S.rng_t hl_w1 hh_w1;simp only [bc_false];cases hl_w2:ltI w2 0 with
  | true =>
   have r:=S.rng_l (n:=15) hl_w2;simp only [ynd0,ywh0,yxh0,yyh0,yzh0,yai0,ybi0,yci0,ydi0,S.sOkV,r, S.an_f2,S.an_f rfl,bc_true,bc_false,and_self]
  | false =>
  cases hh_w2:ltI 15 w2 with
  | true =>
   have r:=S.rng_h hh_w2;simp only [ynd0,ywh0,yxh0,yyh0,yzh0,yai0,ybi0,yci0,ydi0,S.sOkV,r, S.an_f2,S.an_f rfl,bc_true,bc_false,and_self]
  | false =>
  have r_w2:=S.rng_t hl_w2 hh_w2;simp only [bc_false];cases hl_w3:ltI w3 0 with
  | true =>
   have r:=S.rng_l (n:=15) hl_w3;simp only [ynd0,ywh0,yxh0,yyh0,yzh0,yai0,ybi0,yci0,ydi0,S.sOkV,r, S.an_f2,S.an_f rfl,bc_true,bc_false,and_self]
  | false =>
  cases hh_w3:ltI 15 w3 with
  | true =>
   have r:=S.rng_h hh_w3;simp only [ynd0,ywh0,yxh0,yyh0,yzh0,yai0,ybi0,yci0,ydi0,S.sOkV,r, S.an_f2,S.an_f rfl,bc_true,bc_false,and_self]
  | false =>
  have r_w3:=S.rng_t hl_w3 hh_w3;simp only [bc_false];cases hl_w4:ltI w4 0 with
  | true =>
   have r:=S.rng_l (n:=31) hl_w4;simp only [ynd0,ywh0,yxh0,yyh0,yzh0,yai0,ybi0,yci0,ydi0,S.sOkV,r, S.an_f2,S.an_f rfl,bc_true,bc_false,and_self]
  | false =>
  cases hh_w4:ltI 31 w4 with
  | true =>
   have r:=S.rng_h hh_w4;simp only [ynd0,ywh0,yxh0,yyh0,yzh0,yai0,ybi0,yci0,ydi0,S.sOkV,r, S.an_f2,S.an_f rfl,bc_true,bc_false,and_self]
  | false =>
  have r_w4:=S.rng_t hl_w4 hh_w4;simp only [bc_false];cases hl_w5:ltI w5 0 with
  | true =>
   have r:=S.rng_l (n:=511) hl_w5;simp only [ynd0,ywh0,yxh0,yyh0,yzh0,yai0,ybi0,yci0,ydi0,S.sOkV,r, S.an_f2,S.an_f rfl,bc_true,bc_false,and_self]
  | false =>
  cases hh_w5:ltI 511 w5 with
  | true =>
   have r:=S.rng_h hh_w5;simp only [ynd0,ywh0,yxh0,yyh0,yzh0,yai0,ybi0,yci0,ydi0,S.sOkV,r, S.an_f2,S.an_f rfl,bc_true,bc_false,and_self]
  | false =>
  have r_w5:=S.rng_t hl_w5 hh_w5;simp only [bc_false];cases hl_w6:ltI w6 0 with
  | true =>
   have r:=S.rng_l (n:=95) hl_w6;simp only [ynd0,ywh0,yxh0,yyh0,yzh0,yai0,ybi0,yci0,ydi0,S.sOkV,r, S.an_f2,S.an_f rfl,bc_true,bc_false,and_self]
  | false =>
  cases hh_w6:ltI 95 w6 with
  | true =>
   have r:=S.rng_h hh_w6;simp only [ynd0,ywh0,yxh0,yyh0,yzh0,yai0,ybi0,yci0,ydi0,S.sOkV,r, S.an_f2,S.an_f rfl,bc_true,bc_false,and_self]
  | false =>
  have r_w6:=S.rng_t hl_w6 hh_w6;simp only [bc_false];cases hl_w7:ltI w7 0 with
  | true =>
   have r:=S.rng_l (n:=1) hl_w7;simp only [ynd0,ywh0,yxh0,yyh0,yzh0,yai0,ybi0,yci0,ydi0,S.sOkV,r, S.an_f2,S.an_f rfl,bc_true,bc_false,and_self]
  | false =>
  cases hh_w7:ltI 1 w7 with
  | true =>
   have r:=S.rng_h hh_w7;simp only [ynd0,ywh0,yxh0,yyh0,yzh0,yai0,ybi0,yci0,ydi0,S.sOkV,r, S.an_f2,S.an_f rfl,bc_true,bc_false,and_self]
  | false =>
  have r_w7:=S.rng_t hl_w7 hh_w7;simp only [bc_false];have a0:=S.yua0.1 r_w0;have a1:=S.yua0.1 r_w1;have a2:=S.yua0.1 r_w2;have a3:=S.yua0.1 r_w3;have a4:=S.yua0.1 r_w4;have a5:=S.yua0.1 r_w5;have a6:=S.yua0.1 r_w6;have a7:=S.yua0.1 r_w7;have ok:S.sOkV w0 w1 w2 w3 w4 w5 w6 w7=true:=by simp only [ynd0,ywh0,yxh0,yyh0,yzh0,yai0,ybi0,yci0,ydi0,S.sOkV,r_w0,r_w1,r_w2,r_w3,r_w4,r_w5,r_w6,r_w7,S.an,bc_true]
  have u:∀ x:Int,0<=x->x<256->wrapK .u8 x=x:=fun x _ _=>by rw [yrd0];omega
  have u5:wrapK .u16 w5=w5:=by rw [yaf0];omega
  have i:∀ x:Int,0<=x->x<65536->wrapK .i64 x=x:=fun x _ _=>by rw [yma0];omega
  have z3:eqI (w3.fdiv (2 ^ 4)) 0=true:=by rw [S.fd a3.1,ysa0];show w3 / 16=0;omega
  have z4:eqI (w4.fdiv (2 ^ 5)) 0=true:=by rw [S.fd a4.1,ysa0];show w4 / 32=0;omega
  have z5:eqI (w5.fdiv (2 ^ 9)) 0=true:=by rw [S.fd a5.1,ysa0];show w5 / 512=0;omega
  simp only [ynd0,ywh0,yxh0,yyh0,yzh0,yai0,ybi0,yci0,ydi0,ok,u w0 (by omega) (by omega),u w1 (by omega) (by omega),u w2 (by omega) (by omega),u w3 (by omega) (by omega),u w4 (by omega) (by omega),u5,i w3 (by omega) (by omega),i w4 (by omega) (by omega),i w5 (by omega) (by omega),z3,z4,z5,yoa0,bc_true,bc_false,and_self]
theorem yfv2:xVoE.ok Tryz.prog 84:=by
 intro xs os b r h h3;unfold xVoE at h;simp only at h;split at h
 .injection h with h;injection h with h1 h2;subst h1;subst h2;exact yet2 _ _ _ _ _ _ _ _ _ _ _ _ _ _ _ _
 .cases h
def yoi0 (line scan a d l n s w0 w1 w2:Int) (r:Prop):Prop :=
 bc (S.okW w0 w1 w2) 0 (6:Int)=6/\(0:Nat)=0/\bc (S.okW w0 w1 w2) (S.sline w1 w2) line=line/\bc (S.okW w0 w1 w2) (S.sscan w1 w2) scan=scan/\bc (S.okW w0 w1 w2) (w0 % 4) a=a/\d=d/\bc (S.okW w0 w1 w2) (S.st (w0 / 4)) s=s/\(6:Int)=6/\(1:Int)=1/\r
def yer0 (line scan a d l n s w0 w1 w2:Int) (r:Prop):Prop :=
 notB (ltI w1 w2)=true/\r
def yhm0 (line scan a d l n s w0 w1 w2:Int) (r:Prop):Prop :=
 ltI w1 (8:Int)=true/\ltI w1 (0:Int)=false/\r
def yso0 (line scan a d l n s w0 w1 w2:Int) (r:Prop):Prop :=
 bc (S.okW w0 w1 w2) 0 (6:Int)=(0:Int)/\(0:Nat)=0/\bc (S.okW w0 w1 w2) (S.sline w1 w2) line=orK .u16 (orK .u16 0 (wrapK .u16 (1*2 ^ min (Int.toNat w2) 16))) (wrapK .u16 (1*2 ^ min (Int.toNat w1) 16))/\bc (S.okW w0 w1 w2) (S.sscan w1 w2) scan=(255:Int)/\bc (S.okW w0 w1 w2) (w0 % 4) a=bc (S.inR w0 160) (w0 % 4) a/\d=d/\bc (S.okW w0 w1 w2) (S.st (w0 / 4)) s=bc (S.inR w0 160) (S.st (w0 / 4)) s/\(6:Int)=6/\(1:Int)=1/\r
def yto0 (line scan a d l n s w0 w1 w2:Int) (r:Prop):Prop :=
 bc (S.okW w0 w1 w2) 0 (6:Int)=(0:Int)/\(0:Nat)=0/\bc (S.okW w0 w1 w2) (S.sline w1 w2) line=orK .u16 0 (wrapK .u16 (1*2 ^ min (Int.toNat w1) 16))/\bc (S.okW w0 w1 w2) (S.sscan w1 w2) scan=w2/\bc (S.okW w0 w1 w2) (w0 % 4) a=bc (S.inR w0 160) (w0 % 4) a/\d=d/\bc (S.okW w0 w1 w2) (S.st (w0 / 4)) s=bc (S.inR w0 160) (S.st (w0 / 4)) s/\(6:Int)=6/\(1:Int)=1/\r
def yim0 (line scan a d l n s w0 w1 w2:Int) (r:Prop):Prop :=
 ltI w1 (8:Int)=false/\r
def yuo0 (line scan a d l n s w0 w1 w2:Int) (r:Prop):Prop :=
 bc (S.okW w0 w1 w2) 0 (6:Int)=(0:Int)/\(0:Nat)=0/\bc (S.okW w0 w1 w2) (S.sline w1 w2) line=orK .u16 0 (wrapK .u16 (1*2 ^ min (Int.toNat w2) 16))/\bc (S.okW w0 w1 w2) (S.sscan w1 w2) scan=w1/\bc (S.okW w0 w1 w2) (w0 % 4) a=bc (S.inR w0 160) (w0 % 4) a/\d=d/\bc (S.okW w0 w1 w2) (S.st (w0 / 4)) s=bc (S.inR w0 160) (S.st (w0 / 4)) s/\(6:Int)=6/\(1:Int)=1/\r
def yvo0 (line scan a d l n s w0 w1 w2:Int) (r:Prop):Prop :=
 bc (S.okW w0 w1 w2) 0 (6:Int)=(0:Int)/\(0:Nat)=0/\bc (S.okW w0 w1 w2) (S.sline w1 w2) line=(0:Int)/\bc (S.okW w0 w1 w2) (S.sscan w1 w2) scan=w1/\bc (S.okW w0 w1 w2) (w0 % 4) a=bc (S.inR w0 160) (w0 % 4) a/\d=d/\bc (S.okW w0 w1 w2) (S.st (w0 / 4)) s=bc (S.inR w0 160) (S.st (w0 / 4)) s/\(6:Int)=6/\(1:Int)=1/\r
theorem yft2 (line scan a d l n s w0 w1 w2:Int):K.bodyF (envL [(162,pSetE)]) (K.runF (envL [(162,pSetE)]) 30) 83 [.ptr 0 0,.agg [.int .i64 w0,.int .i64 w1,.int .i64 w2]] (Heap.of (xThOz line scan a d l n s w0 w1 w2)) (.skip 10 (.fork .auto (.skip 6 (.fork .auto (.skip 2 (.fork .auto (.skip 2 (.fork .auto (.skip 2 (.fork .auto (.skip 0 (.fork (.skip 3 (.fork (.skip 0 (.take true .auto)) (.skip 0 (.fork (.skip 2 (.fork .auto (.skip 9 (.fork (.skip 1 (.fork .auto (.skip 3 (.take true (.skip 1 (.take false .auto)))))) (.skip 3 (.take true (.skip 1 (.take false .auto)))))))) (.skip 12 (.fork (.skip 1 (.fork .auto (.skip 3 (.take true (.skip 1 (.take false .auto)))))) (.skip 3 (.take true (.skip 1 (.take false .auto)))))))))) (.skip 4 (.fork (.skip 2 (.fork .auto (.skip 9 (.fork (.skip 1 (.fork .auto (.skip 3 (.take false .auto)))) (.skip 3 (.take false .auto)))))) (.skip 12 (.fork (.skip 1 (.fork .auto (.skip 3 (.take false .auto)))) (.skip 3 (.take false .auto)))))))))))))))))) (K.endC K.openE 5 (xThRz line scan a d l n s w0 w1 w2)) =
  (bc (ltI w0 0) (yoi0 line scan a d l n s w0 w1 w2 True) (bc (notB (ltI w0 160)) (yoi0 line scan a d l n s w0 w1 w2 True) (bc (ltI w1 0) (yoi0 line scan a d l n s w0 w1 w2 True) (bc (ltI 255 w1) (yoi0 line scan a d l n s w0 w1 w2 True) (bc (ltI 255 w2) (yoi0 line scan a d l n s w0 w1 w2 True) (bc (ltI w1 8) (bc (notB (ltI w1 w2)) (yer0 line scan a d l n s w0 w1 w2 (yoi0 line scan a d l n s w0 w1 w2 True)) (bc (notB (ltI w1 8)) (bc (notB (eqI w2 255)) (yoi0 line scan a d l n s w0 w1 w2 True) (bc (S.okPl a s d n) (bc (ltI w2 8) (bc (ltI w2 0) False (yhm0 line scan a d l n s w0 w1 w2 (yso0 line scan a d l n s w0 w1 w2 True))) (yhm0 line scan a d l n s w0 w1 w2 (yto0 line scan a d l n s w0 w1 w2 True))) False)) (bc (S.okPl a s d n) (bc (ltI w2 8) (bc (ltI w2 0) False (yhm0 line scan a d l n s w0 w1 w2 (yso0 line scan a d l n s w0 w1 w2 True))) (yhm0 line scan a d l n s w0 w1 w2 (yto0 line scan a d l n s w0 w1 w2 True))) False))) (bc (notB (ltI w1 8)) (bc (notB (eqI w2 255)) (yoi0 line scan a d l n s w0 w1 w2 True) (bc (S.okPl a s d n) (bc (ltI w2 8) (bc (ltI w2 0) False (yim0 line scan a d l n s w0 w1 w2 (yuo0 line scan a d l n s w0 w1 w2 True))) (yim0 line scan a d l n s w0 w1 w2 (yvo0 line scan a d l n s w0 w1 w2 True))) False)) (bc (S.okPl a s d n) (bc (ltI w2 8) (bc (ltI w2 0) False (yim0 line scan a d l n s w0 w1 w2 (yuo0 line scan a d l n s w0 w1 w2 True))) (yim0 line scan a d l n s w0 w1 w2 (yvo0 line scan a d l n s w0 w1 w2 True))) False)))))))):=by kernel_rfl
theorem ygt2 (line scan a d l n s w0 w1 w2:Int) (h0:S.okPm a d l n s=true)  : HTr Tryz.prog 83 [.ptr 0 0,.agg [.int .i64 w0,.int .i64 w1,.int .i64 w2]] (xThOz line scan a d l n s w0 w1 w2) (xThRz line scan a d l n s w0 w1 w2):=by
 refine K.yca0 good (A:=envL [(162,pSetE)]) (yga0 ?_) K.yea0 (k:=30) (cast (yft2 line scan a d l n s w0 w1 w2).symm ?_)
 .intro p hp;simp only [List.mem_cons,List.not_mem_nil,or_false] at hp;rcases hp with rfl;exact yyc2
 .obtain ⟨m0,hm0,hm1,rfl,rfl,rfl,rfl,rfl⟩:=S.ykj0 h0;simp only [S.pl_ok hm0 hm1,bc_true];cases a1:ltI w0 0 with
  | true =>
   have b:=yka0.1 a1
   have e:S.okW w0 w1 w2=false:=by
    rw [Bool.eq_false_iff];intro hw;rw [S.yig0] at hw;omega
   simp only [yoi0,yer0,yhm0,yso0,yto0,yim0,yuo0,yvo0,e,yoa0,yna0,bc_true,bc_false,and_self]
  | false =>
  cases a2:ltI w0 160 with
  | false =>
   have b:=yba0.1 a2
   have e:S.okW w0 w1 w2=false:=by
    rw [Bool.eq_false_iff];intro hw;rw [S.yig0] at hw;omega
   simp only [yoi0,yer0,yhm0,yso0,yto0,yim0,yuo0,yvo0,e,yoa0,yna0,bc_true,bc_false,and_self]
  | true =>
  cases a3:ltI w1 0 with
  | true =>
   have b:=yka0.1 a3
   have e:S.okW w0 w1 w2=false:=by
    rw [Bool.eq_false_iff];intro hw;rw [S.yig0] at hw;omega
   simp only [yoi0,yer0,yhm0,yso0,yto0,yim0,yuo0,yvo0,e,yoa0,yna0,bc_true,bc_false,and_self]
  | false =>
  cases a4:ltI 255 w1 with
  | true =>
   have b:=yka0.1 a4
   have e:S.okW w0 w1 w2=false:=by
    rw [Bool.eq_false_iff];intro hw;rw [S.yig0] at hw;omega
   simp only [yoi0,yer0,yhm0,yso0,yto0,yim0,yuo0,yvo0,e,yoa0,yna0,bc_true,bc_false,and_self]
  | false =>
  cases a5:ltI 255 w2 with
  | true =>
   have b:=yka0.1 a5
   have e:S.okW w0 w1 w2=false:=by
    rw [Bool.eq_false_iff];intro hw;rw [S.yig0] at hw;omega
   simp only [yoi0,yer0,yhm0,yso0,yto0,yim0,yuo0,yvo0,e,yoa0,yna0,bc_true,bc_false,and_self]
  | false =>
  have b1:=yba0.1 a1;have b2:=yka0.1 a2;have b3:=yba0.1 a3;have b4:=yba0.1 a4;have b5:=yba0.1 a5;have ei:S.inR w0 160=true:=S.yha0.2 ⟨b1,b2⟩;cases a6:ltI w1 8 with
  | true =>
   have b6:=yka0.1 a6;cases a7:ltI w1 w2 with
   | false =>
    have b:=yba0.1 a7
    have e:S.okW w0 w1 w2=false:=by
     rw [Bool.eq_false_iff];intro hw;rw [S.yig0] at hw;omega
    simp only [yoi0,yer0,yhm0,yso0,yto0,yim0,yuo0,yvo0,e,a3,a6,a7,yoa0,yna0,bc_true,bc_false,and_self]
   | true =>
    have b7:=yka0.1 a7;have e:S.okW w0 w1 w2=true:=by rw [S.yig0];omega
    have hw:=S.yig0.1 e;have a9:ltI w2 0=false:=yba0.2 (by omega)
    cases a8:ltI w2 8 with
    | true =>
     obtain ⟨s1,s2⟩:=S.setA hw b6 (yka0.1 a8);simp only [yoi0,yer0,yhm0,yso0,yto0,yim0,yuo0,yvo0,e,a3,a6,a7,a8,ei,a9,s1,s2,yoa0,yna0,bc_true,bc_false,and_self]
    | false =>
     obtain ⟨s1,s2⟩:=S.setB hw b6 (yba0.1 a8);simp only [yoi0,yer0,yhm0,yso0,yto0,yim0,yuo0,yvo0,e,a3,a6,a7,a8,ei,a9,s1,s2,yoa0,yna0,bc_true,bc_false,and_self]
  | false =>
   have b6:=yba0.1 a6;cases a7:eqI w2 255 with
   | false =>
    have b:=ykb0.1 a7
    have e:S.okW w0 w1 w2=false:=by
     rw [Bool.eq_false_iff];intro hw;rw [S.yig0] at hw;omega
    simp only [yoi0,yer0,yhm0,yso0,yto0,yim0,yuo0,yvo0,e,a3,a6,a7,yoa0,yna0,bc_true,bc_false,and_self]
   | true =>
    have b7:=ysa0.1 a7;have e:S.okW w0 w1 w2=true:=by rw [S.yig0];omega
    have hw:=S.yig0.1 e;have a8:ltI w2 8=false:=yba0.2 (by omega)
    obtain ⟨s1,s2⟩:=S.setC hw b6;simp only [yoi0,yer0,yhm0,yso0,yto0,yim0,yuo0,yvo0,e,a3,a6,a7,ei,a8,s1,s2,yoa0,yna0,bc_true,bc_false,and_self]
theorem ygv2:xThE.ok Tryz.prog 83:=by
 intro xs os b r h h3;unfold xThE at h;simp only at h;split at h
 .injection h with h;injection h with h1 h2;subst h1;subst h2;exact ygt2 _ _ _ _ _ _ _ _ _ _ h3
 .cases h
def ybb0 (v0 v1 v2 v3 ypv2:Int) (yqv2 f0 l0 f1 l1 yov2:Bool) (w0 w1 w2 w3 w4 w5 w6 w7 w8 w9 w10:Int) (r:Prop):Prop :=
 bc (S.sOkP w0 w1 w2 w3 w4 w5 w6 w7 w8 w9 w10) 0 (6:Int)=6/\bc (S.sOkP w0 w1 w2 w3 w4 w5 w6 w7 w8 w9 w10) w0 v0=v0/\bc (S.sOkP w0 w1 w2 w3 w4 w5 w6 w7 w8 w9 w10) w1 v1=v1/\bc (S.sOkP w0 w1 w2 w3 w4 w5 w6 w7 w8 w9 w10) w2 v2=v2/\bc (S.sOkP w0 w1 w2 w3 w4 w5 w6 w7 w8 w9 w10) w3 v3=v3/\bc (S.sOkP w0 w1 w2 w3 w4 w5 w6 w7 w8 w9 w10) w4 ypv2=ypv2/\bc (S.sOkP w0 w1 w2 w3 w4 w5 w6 w7 w8 w9 w10) (eqI w5 1) yqv2=yqv2/\bc (S.sOkP w0 w1 w2 w3 w4 w5 w6 w7 w8 w9 w10) (eqI w6 1) f0=f0/\bc (S.sOkP w0 w1 w2 w3 w4 w5 w6 w7 w8 w9 w10) (eqI w9 1) l0=l0/\bc (S.sOkP w0 w1 w2 w3 w4 w5 w6 w7 w8 w9 w10) (eqI w7 1) f1=f1/\bc (S.sOkP w0 w1 w2 w3 w4 w5 w6 w7 w8 w9 w10) (eqI w10 1) l1=l1/\bc (S.sOkP w0 w1 w2 w3 w4 w5 w6 w7 w8 w9 w10) (eqI w8 1) yov2=yov2/\r
def yrc0 (v0 v1 v2 v3 ypv2:Int) (yqv2 f0 l0 f1 l1 yov2:Bool) (w0 w1 w2 w3 w4 w5 w6 w7 w8 w9 w10:Int) (r:Prop):Prop :=
 bc (S.sOkP w0 w1 w2 w3 w4 w5 w6 w7 w8 w9 w10) 0 (6:Int)=(0:Int)/\bc (S.sOkP w0 w1 w2 w3 w4 w5 w6 w7 w8 w9 w10) w0 v0=wrapK .u8 w0/\bc (S.sOkP w0 w1 w2 w3 w4 w5 w6 w7 w8 w9 w10) w1 v1=wrapK .u8 w1/\bc (S.sOkP w0 w1 w2 w3 w4 w5 w6 w7 w8 w9 w10) w2 v2=wrapK .u8 w2/\bc (S.sOkP w0 w1 w2 w3 w4 w5 w6 w7 w8 w9 w10) w3 v3=wrapK .u8 w3/\bc (S.sOkP w0 w1 w2 w3 w4 w5 w6 w7 w8 w9 w10) w4 ypv2=w4/\bc (S.sOkP w0 w1 w2 w3 w4 w5 w6 w7 w8 w9 w10) (eqI w5 1) yqv2=eqI w5 1/\bc (S.sOkP w0 w1 w2 w3 w4 w5 w6 w7 w8 w9 w10) (eqI w6 1) f0=eqI w6 1/\bc (S.sOkP w0 w1 w2 w3 w4 w5 w6 w7 w8 w9 w10) (eqI w9 1) l0=S.see (eqI w8 1) (eqI w9 1) (eqI w6 1)/\bc (S.sOkP w0 w1 w2 w3 w4 w5 w6 w7 w8 w9 w10) (eqI w7 1) f1=eqI w7 1/\bc (S.sOkP w0 w1 w2 w3 w4 w5 w6 w7 w8 w9 w10) (eqI w10 1) l1=S.see (eqI w8 1) (eqI w10 1) (eqI w7 1)/\bc (S.sOkP w0 w1 w2 w3 w4 w5 w6 w7 w8 w9 w10) (eqI w8 1) yov2=eqI w8 1/\r
theorem ycm2 (v0 v1 v2 v3 ypv2:Int) (yqv2 f0 l0 f1 l1 yov2:Bool) (w0 w1 w2 w3 w4 w5 w6 w7 w8 w9 w10:Int):K.bodyF (envL [(166,kSeeE)]) (K.runF (envL [(166,kSeeE)]) 30) 85 [.ptr 0 0,.agg [.int .i64 w0,.int .i64 w1,.int .i64 w2,.int .i64 w3,.int .i64 w4,.int .i64 w5,.int .i64 w6,.int .i64 w7,.int .i64 w8,.int .i64 w9,.int .i64 w10]] (Heap.of (yqq2 v0 v1 v2 v3 ypv2 yqv2 f0 l0 f1 l1 yov2 w0 w1 w2 w3 w4 w5 w6 w7 w8 w9 w10)) Hint.auto (K.endC K.openE 1 (ybi2 v0 v1 v2 v3 ypv2 yqv2 f0 l0 f1 l1 yov2 w0 w1 w2 w3 w4 w5 w6 w7 w8 w9 w10)) =
  (bc (ltI w0 0) (ybb0 v0 v1 v2 v3 ypv2 yqv2 f0 l0 f1 l1 yov2 w0 w1 w2 w3 w4 w5 w6 w7 w8 w9 w10 True) (bc (ltI 255 w0) (ybb0 v0 v1 v2 v3 ypv2 yqv2 f0 l0 f1 l1 yov2 w0 w1 w2 w3 w4 w5 w6 w7 w8 w9 w10 True) (bc (ltI w1 0) (ybb0 v0 v1 v2 v3 ypv2 yqv2 f0 l0 f1 l1 yov2 w0 w1 w2 w3 w4 w5 w6 w7 w8 w9 w10 True) (bc (ltI 255 w1) (ybb0 v0 v1 v2 v3 ypv2 yqv2 f0 l0 f1 l1 yov2 w0 w1 w2 w3 w4 w5 w6 w7 w8 w9 w10 True) (bc (ltI w2 0) (ybb0 v0 v1 v2 v3 ypv2 yqv2 f0 l0 f1 l1 yov2 w0 w1 w2 w3 w4 w5 w6 w7 w8 w9 w10 True) (bc (ltI 255 w2) (ybb0 v0 v1 v2 v3 ypv2 yqv2 f0 l0 f1 l1 yov2 w0 w1 w2 w3 w4 w5 w6 w7 w8 w9 w10 True) (bc (ltI w3 0) (ybb0 v0 v1 v2 v3 ypv2 yqv2 f0 l0 f1 l1 yov2 w0 w1 w2 w3 w4 w5 w6 w7 w8 w9 w10 True) (bc (ltI 255 w3) (ybb0 v0 v1 v2 v3 ypv2 yqv2 f0 l0 f1 l1 yov2 w0 w1 w2 w3 w4 w5 w6 w7 w8 w9 w10 True) (bc (ltI w4 0) (ybb0 v0 v1 v2 v3 ypv2 yqv2 f0 l0 f1 l1 yov2 w0 w1 w2 w3 w4 w5 w6 w7 w8 w9 w10 True) (bc (ltI 511 w4) (ybb0 v0 v1 v2 v3 ypv2 yqv2 f0 l0 f1 l1 yov2 w0 w1 w2 w3 w4 w5 w6 w7 w8 w9 w10 True) (bc (ltI w5 0) (ybb0 v0 v1 v2 v3 ypv2 yqv2 f0 l0 f1 l1 yov2 w0 w1 w2 w3 w4 w5 w6 w7 w8 w9 w10 True) (bc (ltI 1 w5) (ybb0 v0 v1 v2 v3 ypv2 yqv2 f0 l0 f1 l1 yov2 w0 w1 w2 w3 w4 w5 w6 w7 w8 w9 w10 True) (bc (ltI w6 0) (ybb0 v0 v1 v2 v3 ypv2 yqv2 f0 l0 f1 l1 yov2 w0 w1 w2 w3 w4 w5 w6 w7 w8 w9 w10 True) (bc (ltI 1 w6) (ybb0 v0 v1 v2 v3 ypv2 yqv2 f0 l0 f1 l1 yov2 w0 w1 w2 w3 w4 w5 w6 w7 w8 w9 w10 True) (bc (ltI w7 0) (ybb0 v0 v1 v2 v3 ypv2 yqv2 f0 l0 f1 l1 yov2 w0 w1 w2 w3 w4 w5 w6 w7 w8 w9 w10 True) (bc (ltI 1 w7) (ybb0 v0 v1 v2 v3 ypv2 yqv2 f0 l0 f1 l1 yov2 w0 w1 w2 w3 w4 w5 w6 w7 w8 w9 w10 True) (bc (ltI w8 0) (ybb0 v0 v1 v2 v3 ypv2 yqv2 f0 l0 f1 l1 yov2 w0 w1 w2 w3 w4 w5 w6 w7 w8 w9 w10 True) (bc (ltI 1 w8) (ybb0 v0 v1 v2 v3 ypv2 yqv2 f0 l0 f1 l1 yov2 w0 w1 w2 w3 w4 w5 w6 w7 w8 w9 w10 True) (bc (ltI w9 0) (ybb0 v0 v1 v2 v3 ypv2 yqv2 f0 l0 f1 l1 yov2 w0 w1 w2 w3 w4 w5 w6 w7 w8 w9 w10 True) (bc (ltI 1 w9) (ybb0 v0 v1 v2 v3 ypv2 yqv2 f0 l0 f1 l1 yov2 w0 w1 w2 w3 w4 w5 w6 w7 w8 w9 w10 True) (bc (ltI w10 0) (ybb0 v0 v1 v2 v3 ypv2 yqv2 f0 l0 f1 l1 yov2 w0 w1 w2 w3 w4 w5 w6 w7 w8 w9 w10 True) (bc (ltI 1 w10) (ybb0 v0 v1 v2 v3 ypv2 yqv2 f0 l0 f1 l1 yov2 w0 w1 w2 w3 w4 w5 w6 w7 w8 w9 w10 True) (bc (eqI w5 1) (bc (notB (eqI w4 0)) (ybb0 v0 v1 v2 v3 ypv2 yqv2 f0 l0 f1 l1 yov2 w0 w1 w2 w3 w4 w5 w6 w7 w8 w9 w10 True) (bc (!(eqI w6 (1:Int) == eqI w6 1&&(S.see (eqI w8 1) (eqI w9 1) (eqI w6 1) == eqI w9 1&&true))) (ybb0 v0 v1 v2 v3 ypv2 yqv2 f0 l0 f1 l1 yov2 w0 w1 w2 w3 w4 w5 w6 w7 w8 w9 w10 True) (bc (!(eqI w7 (1:Int) == eqI w7 1&&(S.see (eqI w8 1) (eqI w10 1) (eqI w7 1) == eqI w10 1&&true))) (ybb0 v0 v1 v2 v3 ypv2 yqv2 f0 l0 f1 l1 yov2 w0 w1 w2 w3 w4 w5 w6 w7 w8 w9 w10 True) (yrc0 v0 v1 v2 v3 ypv2 yqv2 f0 l0 f1 l1 yov2 w0 w1 w2 w3 w4 w5 w6 w7 w8 w9 w10 True)))) (bc (!(eqI w6 (1:Int) == eqI w6 1&&(S.see (eqI w8 1) (eqI w9 1) (eqI w6 1) == eqI w9 1&&true))) (ybb0 v0 v1 v2 v3 ypv2 yqv2 f0 l0 f1 l1 yov2 w0 w1 w2 w3 w4 w5 w6 w7 w8 w9 w10 True) (bc (!(eqI w7 (1:Int) == eqI w7 1&&(S.see (eqI w8 1) (eqI w10 1) (eqI w7 1) == eqI w10 1&&true))) (ybb0 v0 v1 v2 v3 ypv2 yqv2 f0 l0 f1 l1 yov2 w0 w1 w2 w3 w4 w5 w6 w7 w8 w9 w10 True) (yrc0 v0 v1 v2 v3 ypv2 yqv2 f0 l0 f1 l1 yov2 w0 w1 w2 w3 w4 w5 w6 w7 w8 w9 w10 True)))))))))))))))))))))))))):=by kernel_rfl
theorem ydm2 (v0 v1 v2 v3 ypv2:Int) (yqv2 f0 l0 f1 l1 yov2:Bool) (w0 w1 w2 w3 w4 w5 w6 w7 w8 w9 w10:Int)  : HTr Tryz.prog 85 [.ptr 0 0,.agg [.int .i64 w0,.int .i64 w1,.int .i64 w2,.int .i64 w3,.int .i64 w4,.int .i64 w5,.int .i64 w6,.int .i64 w7,.int .i64 w8,.int .i64 w9,.int .i64 w10]] (yqq2 v0 v1 v2 v3 ypv2 yqv2 f0 l0 f1 l1 yov2 w0 w1 w2 w3 w4 w5 w6 w7 w8 w9 w10) (ybi2 v0 v1 v2 v3 ypv2 yqv2 f0 l0 f1 l1 yov2 w0 w1 w2 w3 w4 w5 w6 w7 w8 w9 w10):=by
 refine K.yca0 good (A:=envL [(166,kSeeE)]) (yga0 ?_) K.yea0 (k:=30) (cast (ycm2 v0 v1 v2 v3 ypv2 yqv2 f0 l0 f1 l1 yov2 w0 w1 w2 w3 w4 w5 w6 w7 w8 w9 w10).symm ?_)
 .intro p hp;simp only [List.mem_cons,List.not_mem_nil,or_false] at hp;rcases hp with rfl;exact ydk0
 .cases hl_w0:ltI w0 0 with
  | true =>
   have r:=S.rng_l (n:=255) hl_w0;simp only [ybb0,yrc0,S.sOkP,r,S.an_f2,S.an_f rfl,yoa0,yna0,bc_true,bc_false,and_self]
  | false =>
  cases hh_w0:ltI 255 w0 with
  | true =>
   have r:=S.rng_h hh_w0;simp only [ybb0,yrc0,S.sOkP,r,S.an_f2,S.an_f rfl,yoa0,yna0,bc_true,bc_false,and_self]
  | false =>
  have r_w0:=S.rng_t hl_w0 hh_w0
  (try simp only [yoa0,yna0,bc_true,bc_false])
  cases hl_w1:ltI w1 0 with
  | true =>
   have r:=S.rng_l (n:=255) hl_w1;simp only [ybb0,yrc0,S.sOkP,r,S.an_f2,S.an_f rfl,yoa0,yna0,bc_true,bc_false,and_self]
  | false =>
  cases hh_w1:ltI 255 w1 with
  | true =>
   have r:=S.rng_h hh_w1;simp only [ybb0,yrc0,S.sOkP,r,S.an_f2,S.an_f rfl,yoa0,yna0,bc_true,bc_false,and_self]
  | false =>
  have r_w1:=S.rng_t hl_w1 hh_w1
  (try simp only [yoa0,yna0,bc_true,bc_false])
  cases hl_w2:ltI w2 0 with
  | true =>
   have r:=S.rng_l (n:=255) hl_w2;simp only [ybb0,yrc0,S.sOkP,r,S.an_f2,S.an_f rfl,yoa0,yna0,bc_true,bc_false,and_self]
  | false =>
  cases hh_w2:ltI 255 w2 with
  | true =>
   have r:=S.rng_h hh_w2;simp only [ybb0,yrc0,S.sOkP,r,S.an_f2,S.an_f rfl,yoa0,yna0,bc_true,bc_false,and_self]
  | false =>
  have r_w2:=S.rng_t hl_w2 hh_w2
  (try simp only [yoa0,yna0,bc_true,bc_false])
  cases hl_w3:ltI w3 0 with
  | true =>
   have r:=S.rng_l (n:=255) hl_w3;simp only [ybb0,yrc0,S.sOkP,r,S.an_f2,S.an_f rfl,yoa0,yna0,bc_true,bc_false,and_self]
  | false =>
  cases hh_w3:ltI 255 w3 with
  | true =>
   have r:=S.rng_h hh_w3;simp only [ybb0,yrc0,S.sOkP,r,S.an_f2,S.an_f rfl,yoa0,yna0,bc_true,bc_false,and_self]
  | false =>
  have r_w3:=S.rng_t hl_w3 hh_w3
  (try simp only [yoa0,yna0,bc_true,bc_false])
  cases hl_w4:ltI w4 0 with
  | true =>
   have r:=S.rng_l (n:=511) hl_w4;simp only [ybb0,yrc0,S.sOkP,r,S.an_f2,S.an_f rfl,yoa0,yna0,bc_true,bc_false,and_self]
  | false =>
  cases hh_w4:ltI 511 w4 with
  | true =>
   have r:=S.rng_h hh_w4;simp only [ybb0,yrc0,S.sOkP,r,S.an_f2,S.an_f rfl,yoa0,yna0,bc_true,bc_false,and_self]
  | false =>
  have r_w4:=S.rng_t hl_w4 hh_w4
  (try simp only [yoa0,yna0,bc_true,bc_false])
  cases hl_w5:ltI w5 0 with
  | true =>
   have r:=S.rng_l (n:=1) hl_w5;simp only [ybb0,yrc0,S.sOkP,r,S.an_f2,S.an_f rfl,yoa0,yna0,bc_true,bc_false,and_self]
  | false =>
  cases hh_w5:ltI 1 w5 with
  | true =>
   have r:=S.rng_h hh_w5;simp only [ybb0,yrc0,S.sOkP,r,S.an_f2,S.an_f rfl,yoa0,yna0,bc_true,bc_false,and_self]
  | false =>
  have r_w5:=S.rng_t hl_w5 hh_w5
  (try simp only [yoa0,yna0,bc_true,bc_false])
  cases hl_w6:ltI w6 0 with
  | true =>
   have r:=S.rng_l (n:=1) hl_w6;simp only [ybb0,yrc0,S.sOkP,r,S.an_f2,S.an_f rfl,yoa0,yna0,bc_true,bc_false,and_self]
  | false =>
  cases hh_w6:ltI 1 w6 with
  | true =>
   have r:=S.rng_h hh_w6;simp only [ybb0,yrc0,S.sOkP,r,S.an_f2,S.an_f rfl,yoa0,yna0,bc_true,bc_false,and_self]
  | false =>
  have r_w6:=S.rng_t hl_w6 hh_w6
  (try simp only [yoa0,yna0,bc_true,bc_false])
  cases hl_w7:ltI w7 0 with
  | true =>
   have r:=S.rng_l (n:=1) hl_w7;simp only [ybb0,yrc0,S.sOkP,r,S.an_f2,S.an_f rfl,yoa0,yna0,bc_true,bc_false,and_self]
  | false =>
  cases hh_w7:ltI 1 w7 with
  | true =>
   have r:=S.rng_h hh_w7;simp only [ybb0,yrc0,S.sOkP,r,S.an_f2,S.an_f rfl,yoa0,yna0,bc_true,bc_false,and_self]
  | false =>
  have r_w7:=S.rng_t hl_w7 hh_w7
  (try simp only [yoa0,yna0,bc_true,bc_false])
  cases hl_w8:ltI w8 0 with
  | true =>
   have r:=S.rng_l (n:=1) hl_w8;simp only [ybb0,yrc0,S.sOkP,r,S.an_f2,S.an_f rfl,yoa0,yna0,bc_true,bc_false,and_self]
  | false =>
  cases hh_w8:ltI 1 w8 with
  | true =>
   have r:=S.rng_h hh_w8;simp only [ybb0,yrc0,S.sOkP,r,S.an_f2,S.an_f rfl,yoa0,yna0,bc_true,bc_false,and_self]
  | false =>
  have r_w8:=S.rng_t hl_w8 hh_w8
  (try simp only [yoa0,yna0,bc_true,bc_false])
  cases hl_w9:ltI w9 0 with
  | true =>
   have r:=S.rng_l (n:=1) hl_w9;simp only [ybb0,yrc0,S.sOkP,r,S.an_f2,S.an_f rfl,yoa0,yna0,bc_true,bc_false,and_self]
  | false =>
  cases hh_w9:ltI 1 w9 with
  | true =>
   have r:=S.rng_h hh_w9;simp only [ybb0,yrc0,S.sOkP,r,S.an_f2,S.an_f rfl,yoa0,yna0,bc_true,bc_false,and_self]
  | false =>
  have r_w9:=S.rng_t hl_w9 hh_w9
  (try simp only [yoa0,yna0,bc_true,bc_false])
  cases hl_w10:ltI w10 0 with
  | true =>
   have r:=S.rng_l (n:=1) hl_w10;simp only [ybb0,yrc0,S.sOkP,r,S.an_f2,S.an_f rfl,yoa0,yna0,bc_true,bc_false,and_self]
  | false =>
  cases hh_w10:ltI 1 w10 with
  | true =>
   have r:=S.rng_h hh_w10;simp only [ybb0,yrc0,S.sOkP,r,S.an_f2,S.an_f rfl,yoa0,yna0,bc_true,bc_false,and_self]
  | false =>
  have r_w10:=S.rng_t hl_w10 hh_w10
  (try simp only [yoa0,yna0,bc_true,bc_false])
  have u:∀ x:Int,S.rng x 255=true->wrapK .u8 x=x:=fun x h=>by have:=S.yua0.1 h;rw [yrd0];omega
  simp only [ybb0,yrc0,S.sOkP,r_w0,r_w1,r_w2,r_w3,r_w4,r_w5,r_w6,r_w7,r_w8,r_w9,r_w10,u w0 r_w0,u w1 r_w1,u w2 r_w2,u w3 r_w3,S.an,bc_true,beq_self_eq_true,Bool.and_true,Bool.true_and];generalize eqI w4 0=e4;generalize eqI w5 1=e5;generalize eqI w6 1=e6;generalize eqI w7 1=e7;generalize eqI w8 1=e8;generalize eqI w9 1=e9;generalize eqI w10 1=e10;cases e5 <;> (try simp only [yoa0,yna0,bc_true,bc_false]) <;> (try (cases e4 <;> simp only [yoa0,yna0,bc_true,bc_false,and_self])) <;> cases e8 <;> cases e6 <;> cases e9 <;> cases e7 <;> cases e10 <;> simp [S.see,S.an,S.eqB2,yoa0,yna0,bc_true,bc_false]
theorem yht2:xPotE.ok Tryz.prog 85:=by
 intro xs os b r h h3;unfold xPotE at h;simp only at h;split at h
 .injection h with h;injection h with h1 h2;subst h1;subst h2;exact ydm2 _ _ _ _ _ _ _ _ _ _ _ _ _ _ _ _ _ _ _ _ _ _
 .cases h
namespace S
theorem flen (vs:List LV):lenL (flatF [.i .i64] vs)=lenL vs:=by rw [Ev.lenL_eq,Ev.lenL_eq,ykd0]
theorem orb_t (b:Bool):orb true b=true:=rfl
theorem yot1 (b:Bool):orb false b=b:=rfl
end S
theorem yta2 (o l:Nat) (cp:Cap) (wr:Bool) (ob:LObj) (e:Int):K.bodyF (envL []) (K.runF (envL []) 30) 79 [.ptr 0 0,.int .i64 e] (Heap.of [.cells 143 .exact [.slice 1 o l cp,.bool wr],ob]) Hint.auto (K.endC K.openE 2 ⟨.ret (.tup []),[(0,.cells 143 .exact [.slice 1 o l cp,.bool (S.orb wr (notB (eqI e 0)))])],[]⟩) =
  (bc (wr) (o=o/\(l=l/\(cp=cp/\(S.orb wr (notB (eqI e 0))=true/\True)))) (o=o/\(l=l/\(cp=cp/\(S.orb wr (notB (eqI e 0))=notB (eqI e 0)/\True))))):=by kernel_rfl
theorem yua2 (o l:Nat) (cp:Cap) (wr:Bool) (ob:LObj) (e:Int)  : HTr Tryz.prog 79 [.ptr 0 0,.int .i64 e] [.cells 143 .exact [.slice 1 o l cp,.bool wr],ob] ⟨.ret (.tup []),[(0,.cells 143 .exact [.slice 1 o l cp,.bool (S.orb wr (notB (eqI e 0)))])],[]⟩:=by
 refine K.yca0 good (A:=envL []) (yga0 ?_) K.yea0 (k:=30) (cast (yta2 o l cp wr ob e).symm ?_)
 .intro p hp;cases hp
 .cases wr <;> simp only [S.orb,bc_true,bc_false,and_self]
theorem yem2:ydi2.ok Tryz.prog 79:=by
 intro xs os b r h h3;unfold ydi2 at h;simp only at h;split at h
 .injection h with h;injection h with h1 h2;subst h1;subst h2;exact yua2 _ _ _ _ _ _
 .cases h
theorem yva2 (et o l:Nat) (vs:List LV) (wr:Bool) (m:Int):K.bodyF (envL []) (K.runF (envL []) 30) 86 [.ptr 0 0,.int .i64 m] (Heap.of [.cells 143 .exact [.slice 1 o (l+2) (.rest o),.bool wr],.flat [.i .i64] et (.grow 1) vs]) Hint.auto (K.endC K.openE 2 (ywc2 et o l vs wr m)) =
  (bc (Nat.beq o (o*1)) (bc (Nat.ble (o+(l+2)*1) (lenL (flatF [CK.i .i64] vs))) (bc (Nat.ble (l+2) (l+2)) (bc (Nat.beq o (o*1)) (bc (Nat.ble (o+(l+2)*1) (lenL (flatF [CK.i .i64] vs))) (bc (Nat.ble (o+0+1) (lenL vs)) (bc (wr) (intOf (K.atV vs o)=intOf (K.atV vs (o+0))/\(o+(1:Nat)=o+1/\(l+(1:Nat)=l+2-1/\(Cap.rest (o+1)=Cap.rest (o+1)/\(S.orb wr (S.orb (ltI (intOf (K.atV vs o)) 0) (ltI m (intOf (K.atV vs o))))=true/\True))))) (bc (ltI (intOf (K.atV vs (o+0))) 0) (intOf (K.atV vs o)=intOf (K.atV vs (o+0))/\(o+(1:Nat)=o+1/\(l+(1:Nat)=l+2-1/\(Cap.rest (o+1)=Cap.rest (o+1)/\(S.orb wr (S.orb (ltI (intOf (K.atV vs o)) 0) (ltI m (intOf (K.atV vs o))))=true/\True))))) (intOf (K.atV vs o)=intOf (K.atV vs (o+0))/\(o+(1:Nat)=o+1/\(l+(1:Nat)=l+2-1/\(Cap.rest (o+1)=Cap.rest (o+1)/\(S.orb wr (S.orb (ltI (intOf (K.atV vs o)) 0) (ltI m (intOf (K.atV vs o))))=ltI m (intOf (K.atV vs (o+0)))/\True))))))) False) False) False) False) False) False):=by kernel_rfl
theorem ywa2 (et o l:Nat) (vs:List LV) (wr:Bool) (m:Int) (h0:S.an (Nat.ble (o+(l+2)) (lenL vs)) (Nat.beq et 3)=true)  : HTr Tryz.prog 86 [.ptr 0 0,.int .i64 m] [.cells 143 .exact [.slice 1 o (l+2) (.rest o),.bool wr],.flat [.i .i64] et (.grow 1) vs] (ywc2 et o l vs wr m):=by
 refine K.yca0 good (A:=envL []) (yga0 ?_) K.yea0 (k:=30) (cast (yva2 et o l vs wr m).symm ?_)
 .intro p hp;cases hp
 .obtain ⟨h1,h2⟩:=S.yia0.1 h0;have h1:=Nat.le_of_ble_eq_true h1;have e1:Nat.beq o (o*1)=true:=by rw [Nat.mul_one];exact Nat.beq_refl _
  have e2:Nat.ble (o+(l+2)*1) (lenL vs)=true:=Nat.ble_eq_true_of_le (by omega)
  have e4:Nat.ble (o+0+1) (lenL vs)=true:=Nat.ble_eq_true_of_le (by omega)
  simp only [S.flen,e1,e2,e4,bc_true,Nat.add_zero,true_and,show Nat.ble (l+2) (l+2)=true from Nat.ble_eq_true_of_le (Nat.le_refl _),show l+2-1=l+1 from rfl]
  cases wr <;> simp only [S.orb_t,S.yot1,bc_true,bc_false,true_and,and_true];cases ltI (intOf (K.atV vs o)) 0 <;> simp only [S.orb_t,S.yot1,bc_true,bc_false,and_self]
theorem yxa2 (et o:Nat) (vs:List LV) (wr:Bool) (m:Int):K.bodyF (envL []) (K.runF (envL []) 30) 86 [.ptr 0 0,.int .i64 m] (Heap.of [.cells 143 .exact [.slice 1 o 1 (.rest o),.bool wr],.flat [.i .i64] et (.grow 1) vs]) Hint.auto (K.endC K.openE 2 ⟨.ret (.int .i64 (intOf (K.atV vs o))),[(0,.cells 143 .exact [.emp 2,.bool (S.orb wr (S.orb (ltI (intOf (K.atV vs o)) 0) (ltI m (intOf (K.atV vs o)))))])],[.empty]⟩) =
  (bc (Nat.beq o (o*1)) (bc (Nat.ble (o+1) (lenL (flatF [CK.i .i64] vs))) (bc (Nat.beq o (o*1)) (bc (Nat.ble (o+1) (lenL (flatF [CK.i .i64] vs))) (bc (Nat.ble (o+0+1) (lenL vs)) (bc (wr) (intOf (K.atV vs o)=intOf (K.atV vs (o+0))/\(S.orb wr (S.orb (ltI (intOf (K.atV vs o)) 0) (ltI m (intOf (K.atV vs o))))=true/\True)) (bc (ltI (intOf (K.atV vs (o+0))) 0) (intOf (K.atV vs o)=intOf (K.atV vs (o+0))/\(S.orb wr (S.orb (ltI (intOf (K.atV vs o)) 0) (ltI m (intOf (K.atV vs o))))=true/\True)) (intOf (K.atV vs o)=intOf (K.atV vs (o+0))/\(S.orb wr (S.orb (ltI (intOf (K.atV vs o)) 0) (ltI m (intOf (K.atV vs o))))=ltI m (intOf (K.atV vs (o+0)))/\True)))) False) False) False) False) False):=by kernel_rfl
theorem yya2 (et o:Nat) (vs:List LV) (wr:Bool) (m:Int) (h0:S.an (Nat.ble (o+1) (lenL vs)) (Nat.beq et 3)=true)  : HTr Tryz.prog 86 [.ptr 0 0,.int .i64 m] [.cells 143 .exact [.slice 1 o 1 (.rest o),.bool wr],.flat [.i .i64] et (.grow 1) vs] ⟨.ret (.int .i64 (intOf (K.atV vs o))),[(0,.cells 143 .exact [.emp 2,.bool (S.orb wr (S.orb (ltI (intOf (K.atV vs o)) 0) (ltI m (intOf (K.atV vs o)))))])],[.empty]⟩:=by
 refine K.yca0 good (A:=envL []) (yga0 ?_) K.yea0 (k:=30) (cast (yxa2 et o vs wr m).symm ?_)
 .intro p hp;cases hp
 .obtain ⟨h1,h2⟩:=S.yia0.1 h0;have h1:=Nat.le_of_ble_eq_true h1;have e1:Nat.beq o (o*1)=true:=by rw [Nat.mul_one];exact Nat.beq_refl _
  have e2:Nat.ble (o+1) (lenL vs)=true:=Nat.ble_eq_true_of_le (by omega)
  have e4:Nat.ble (o+0+1) (lenL vs)=true:=Nat.ble_eq_true_of_le (by omega)
  simp only [S.flen,e1,e2,e4,bc_true,Nat.add_zero,true_and];cases wr <;> simp only [S.orb_t,S.yot1,bc_true,bc_false,true_and,and_true];cases ltI (intOf (K.atV vs o)) 0 <;> simp only [S.orb_t,S.yot1,bc_true,bc_false,and_self]
theorem yit2 (t o2 et o l:Nat) (vs:List LV) (wr:Bool) (m:Int) (h:S.an (Nat.beq t 143) (S.an (Nat.beq o2 o) (S.an (Nat.ble (o+(l+2)) (lenL vs)) (Nat.beq et 3)))=true):HT Tryz.prog 86 [.ptr 0 0,.int .i64 m] (Heap.of [.cells t .exact [.slice 1 o (l+2) (.rest o2),.bool wr],.flat [.i .i64] et (.grow 1) vs]) (.ret (.int .i64 (intOf (K.atV vs o)))) (Heap.of (K.chg [.cells t .exact [.slice 1 o (l+2) (.rest o2),.bool wr],.flat [.i .i64] et (.grow 1) vs] [(0,.cells 143 .exact [.slice 1 (o+1) (l+1) (.rest (o+1)),.bool (S.orb wr (S.orb (ltI (intOf (K.atV vs o)) 0) (ltI m (intOf (K.atV vs o)))))])]++[])):=by
 obtain ⟨a,h2⟩:=S.yia0.1 h;obtain ⟨b,h3⟩:=S.yia0.1 h2;have a:=Nat.eq_of_beq_eq_true a;have b:=Nat.eq_of_beq_eq_true b;subst a;subst b;exact ywa2 et o2 l vs wr m h3
theorem yjt2 (t o2 et o:Nat) (vs:List LV) (wr:Bool) (m:Int) (h:S.an (Nat.beq t 143) (S.an (Nat.beq o2 o) (S.an (Nat.ble (o+1) (lenL vs)) (Nat.beq et 3)))=true):HT Tryz.prog 86 [.ptr 0 0,.int .i64 m] (Heap.of [.cells t .exact [.slice 1 o 1 (.rest o2),.bool wr],.flat [.i .i64] et (.grow 1) vs]) (.ret (.int .i64 (intOf (K.atV vs o)))) (Heap.of (K.chg [.cells t .exact [.slice 1 o 1 (.rest o2),.bool wr],.flat [.i .i64] et (.grow 1) vs] [(0,.cells 143 .exact [.emp 2,.bool (S.orb wr (S.orb (ltI (intOf (K.atV vs o)) 0) (ltI m (intOf (K.atV vs o)))))])]++[.empty])):=by
 obtain ⟨a,h2⟩:=S.yia0.1 h;obtain ⟨b,h3⟩:=S.yia0.1 h2;have a:=Nat.eq_of_beq_eq_true a;have b:=Nat.eq_of_beq_eq_true b;subst a;subst b;exact yya2 et o2 vs wr m h3

theorem ykt2:kNumE.ok Tryz.prog 86:=by
 intro xs os b r h h3;unfold kNumE at h;simp only at h;split at h
 .injection h with h;injection h with h1 h2;subst h1;subst h2;exact yjt2 _ _ _ _ _ _ _ h3
 .injection h with h;injection h with h1 h2;subst h1;subst h2;exact yit2 _ _ _ _ _ _ _ _ h3
 .cases h

theorem yfm2 (c:S.Chip) (W:Nat->Int):K.bodyF (yfi2) (K.runF (yfi2) 30) 24 [.ptr 0 0,.slice 40 0 81 (.rest 0)] (Heap.of (yex1 c W)) Hint.auto (K.endC K.openE 41 (yei2 c W)) =
  (bc (S.orb (S.orb (S.orb (S.orb (S.orb (S.orb (S.orb (S.orb (S.orb (S.orb (S.orb (S.orb (S.orb (S.orb (S.orb (S.orb (S.orb (S.orb (S.orb (S.orb (S.orb (S.orb (S.orb (S.orb (S.orb (S.orb (S.orb (S.orb (S.orb (S.orb (S.orb (S.orb (S.orb (S.orb (S.orb (S.orb (S.orb (S.orb (S.orb (S.orb (S.orb (S.orb (S.orb (S.orb false (notB (eqI (bc (S.sOkB (W 0) (W 1)) 0 6) 0))) (notB (eqI (bc (S.sOkM (W 2) (W 3) (W 4)) 0 6) 0))) (notB (eqI (bc (S.okW (W 5) (W 6) (W 7)) 0 6) 0))) (notB (eqI (bc (S.okW (W 8) (W 9) (W 10)) 0 6) 0))) (notB (eqI (bc (S.okW (W 11) (W 12) (W 13)) 0 6) 0))) (notB (eqI (bc (S.okW (W 14) (W 15) (W 16)) 0 6) 0))) (notB (eqI (bc (S.okW (W 17) (W 18) (W 19)) 0 6) 0))) (notB (eqI (bc (S.sOkV (W 20) (W 21) (W 22) (W 23) (W 24) (W 25) (W 26) (W 27)) 0 6) 0))) (notB (eqI (bc (S.sOkV (W 28) (W 29) (W 30) (W 31) (W 32) (W 33) (W 34) (W 35)) 0 6) 0))) (notB (eqI (bc (S.sOkP (W 36) (W 37) (W 38) (W 39) (W 40) (W 41) (W 42) (W 43) (W 44) (W 45) (W 46)) 0 6) 0))) (S.orb (ltI (W 47) 0) (ltI 255 (W 47)))) (S.orb (ltI (W 48) 0) (ltI 255 (W 48)))) (S.orb (ltI (W 49) 0) (ltI 255 (W 49)))) (S.orb (ltI (W 50) 0) (ltI 255 (W 50)))) (S.orb (ltI (W 51) 0) (ltI 255 (W 51)))) (S.orb (ltI (W 52) 0) (ltI 255 (W 52)))) (S.orb (ltI (W 53) 0) (ltI 255 (W 53)))) (S.orb (ltI (W 54) 0) (ltI 255 (W 54)))) (S.orb (ltI (W 55) 0) (ltI 255 (W 55)))) (S.orb (ltI (W 56) 0) (ltI 255 (W 56)))) (S.orb (ltI (W 57) 0) (ltI 255 (W 57)))) (S.orb (ltI (W 58) 0) (ltI 255 (W 58)))) (S.orb (ltI (W 59) 0) (ltI 255 (W 59)))) (S.orb (ltI (W 60) 0) (ltI 255 (W 60)))) (S.orb (ltI (W 61) 0) (ltI 255 (W 61)))) (S.orb (ltI (W 62) 0) (ltI 255 (W 62)))) (S.orb (ltI (W 63) 0) (ltI 255 (W 63)))) (S.orb (ltI (W 64) 0) (ltI 255 (W 64)))) (S.orb (ltI (W 65) 0) (ltI 255 (W 65)))) (S.orb (ltI (W 66) 0) (ltI 255 (W 66)))) (S.orb (ltI (W 67) 0) (ltI 1 (W 67)))) (S.orb (ltI (W 68) 0) (ltI 1 (W 68)))) (S.orb (ltI (W 69) 0) (ltI 255 (W 69)))) (S.orb (ltI (W 70) 0) (ltI 255 (W 70)))) (S.orb (ltI (W 71) 0) (ltI 255 (W 71)))) (S.orb (ltI (W 72) 0) (ltI 255 (W 72)))) (S.orb (ltI (W 73) 0) (ltI 255 (W 73)))) (S.orb (ltI (W 74) 0) (ltI 255 (W 74)))) (S.orb (ltI (W 75) 0) (ltI 255 (W 75)))) (S.orb (ltI (W 76) 0) (ltI 255 (W 76)))) (S.orb (ltI (W 77) 0) (ltI 255 (W 77)))) (S.orb (ltI (W 78) 0) (ltI 255 (W 78)))) (S.orb (ltI (W 79) 0) (ltI 32767 (W 79)))) (S.orb (ltI (W 80) 0) (ltI 1 (W 80)))) False ((0:Int)=0/\((0:Nat)=0/\((0:Nat)=0/\((0:Nat)=0/\((0:Nat)=0/\((0:Nat)=0/\((0:Nat)=0/\((0:Nat)=0/\((0:Nat)=0/\((0:Nat)=0/\((0:Nat)=0/\(S.R8.x0 (S.Chip.r0 (S.ofW W))=wrapK .u8 (W 47)/\(S.R8.x1 (S.Chip.r0 (S.ofW W))=wrapK .u8 (W 48)/\(S.R8.x2 (S.Chip.r0 (S.ofW W))=S.R8.x2 (S.Chip.r0 (S.newC 0))/\(S.R8.x3 (S.Chip.r0 (S.ofW W))=S.R8.x3 (S.Chip.r0 (S.newC 0))/\(S.R8.x4 (S.Chip.r0 (S.ofW W))=wrapK .u8 (W 49)/\(S.R8.x5 (S.Chip.r0 (S.ofW W))=wrapK .u8 (W 50)/\(S.R8.x6 (S.Chip.r0 (S.ofW W))=wrapK .u8 (W 51)/\(S.R8.x7 (S.Chip.r0 (S.ofW W))=wrapK .u8 (W 52)/\(S.R8.x0 (S.Chip.r1 (S.ofW W))=wrapK .u8 (W 53)/\(S.R8.x1 (S.Chip.r1 (S.ofW W))=wrapK .u8 (W 54)/\(S.R8.x2 (S.Chip.r1 (S.ofW W))=wrapK .u8 (W 55)/\(S.R8.x3 (S.Chip.r1 (S.ofW W))=wrapK .u8 (W 56)/\(S.R8.x4 (S.Chip.r1 (S.ofW W))=wrapK .u8 (W 57)/\(S.R8.x5 (S.Chip.r1 (S.ofW W))=wrapK .u8 (W 58)/\(S.R8.x6 (S.Chip.r1 (S.ofW W))=wrapK .u8 (W 59)/\(S.R8.x7 (S.Chip.r1 (S.ofW W))=wrapK .u8 (W 60)/\(S.R8.x0 (S.Chip.r2 (S.ofW W))=S.R8.x0 (S.Chip.r2 (S.newC 0))/\(S.R8.x1 (S.Chip.r2 (S.ofW W))=S.R8.x1 (S.Chip.r2 (S.newC 0))/\(S.R8.x2 (S.Chip.r2 (S.ofW W))=S.R8.x2 (S.Chip.r2 (S.newC 0))/\(S.R8.x3 (S.Chip.r2 (S.ofW W))=S.R8.x3 (S.Chip.r2 (S.newC 0))/\(S.R8.x4 (S.Chip.r2 (S.ofW W))=S.R8.x4 (S.Chip.r2 (S.newC 0))/\(S.R8.x5 (S.Chip.r2 (S.ofW W))=S.R8.x5 (S.Chip.r2 (S.newC 0))/\(S.R8.x6 (S.Chip.r2 (S.ofW W))=S.R8.x6 (S.Chip.r2 (S.newC 0))/\(S.R8.x7 (S.Chip.r2 (S.ofW W))=S.R8.x7 (S.Chip.r2 (S.newC 0))/\(S.R8.x0 (S.Chip.r3 (S.ofW W))=S.R8.x0 (S.Chip.r3 (S.newC 0))/\(S.R8.x1 (S.Chip.r3 (S.ofW W))=S.R8.x1 (S.Chip.r3 (S.newC 0))/\(S.R8.x2 (S.Chip.r3 (S.ofW W))=S.R8.x2 (S.Chip.r3 (S.newC 0))/\(S.R8.x3 (S.Chip.r3 (S.ofW W))=S.R8.x3 (S.Chip.r3 (S.newC 0))/\(S.R8.x4 (S.Chip.r3 (S.ofW W))=S.R8.x4 (S.Chip.r3 (S.newC 0))/\(S.R8.x5 (S.Chip.r3 (S.ofW W))=wrapK .u8 (W 65)/\(S.R8.x6 (S.Chip.r3 (S.ofW W))=wrapK .u8 (W 66)/\(S.R8.x7 (S.Chip.r3 (S.ofW W))=S.R8.x7 (S.Chip.r3 (S.newC 0))/\(S.R8.x0 (S.Chip.r4 (S.ofW W))=wrapK .u8 (W 69)/\(S.R8.x1 (S.Chip.r4 (S.ofW W))=wrapK .u8 (W 70)/\(S.R8.x2 (S.Chip.r4 (S.ofW W))=wrapK .u8 (W 71)/\(S.R8.x3 (S.Chip.r4 (S.ofW W))=wrapK .u8 (W 72)/\(S.R8.x4 (S.Chip.r4 (S.ofW W))=wrapK .u8 (W 73)/\(S.R8.x5 (S.Chip.r4 (S.ofW W))=wrapK .u8 (W 74)/\(S.R8.x6 (S.Chip.r4 (S.ofW W))=wrapK .u8 (W 75)/\(S.R8.x7 (S.Chip.r4 (S.ofW W))=wrapK .u8 (W 76)/\(S.R8.x0 (S.Chip.r5 (S.ofW W))=wrapK .u8 (W 77)/\(S.R8.x1 (S.Chip.r5 (S.ofW W))=wrapK .u8 (W 78)/\(S.R8.x2 (S.Chip.r5 (S.ofW W))=S.R8.x2 (S.Chip.r5 (S.newC 0))/\(S.R8.x3 (S.Chip.r5 (S.ofW W))=S.R8.x3 (S.Chip.r5 (S.newC 0))/\(S.R8.x4 (S.Chip.r5 (S.ofW W))=S.R8.x4 (S.Chip.r5 (S.newC 0))/\(S.R8.x5 (S.Chip.r5 (S.ofW W))=S.R8.x5 (S.Chip.r5 (S.newC 0))/\(S.R8.x6 (S.Chip.r5 (S.ofW W))=S.R8.x6 (S.Chip.r5 (S.newC 0))/\(S.R8.x7 (S.Chip.r5 (S.ofW W))=S.R8.x7 (S.Chip.r5 (S.newC 0))/\(S.R8.x0 (S.Chip.r6 (S.ofW W))=S.R8.x0 (S.Chip.r6 (S.newC 0))/\(S.R8.x1 (S.Chip.r6 (S.ofW W))=S.R8.x1 (S.Chip.r6 (S.newC 0))/\(S.R8.x2 (S.Chip.r6 (S.ofW W))=S.R8.x2 (S.Chip.r6 (S.newC 0))/\(S.R8.x3 (S.Chip.r6 (S.ofW W))=S.R8.x3 (S.Chip.r6 (S.newC 0))/\(S.R8.x4 (S.Chip.r6 (S.ofW W))=S.R8.x4 (S.Chip.r6 (S.newC 0))/\(S.R8.x5 (S.Chip.r6 (S.ofW W))=S.R8.x5 (S.Chip.r6 (S.newC 0))/\(S.R8.x6 (S.Chip.r6 (S.ofW W))=S.R8.x6 (S.Chip.r6 (S.newC 0))/\(S.R8.x7 (S.Chip.r6 (S.ofW W))=S.R8.x7 (S.Chip.r6 (S.newC 0))/\(S.R8.x0 (S.Chip.r7 (S.ofW W))=S.R8.x0 (S.Chip.r7 (S.newC 0))/\(S.R8.x1 (S.Chip.r7 (S.ofW W))=S.R8.x1 (S.Chip.r7 (S.newC 0))/\(S.R8.x2 (S.Chip.r7 (S.ofW W))=S.R8.x2 (S.Chip.r7 (S.newC 0))/\(S.R8.x3 (S.Chip.r7 (S.ofW W))=S.R8.x3 (S.Chip.r7 (S.newC 0))/\(S.R8.x4 (S.Chip.r7 (S.ofW W))=S.R8.x4 (S.Chip.r7 (S.newC 0))/\(S.R8.x5 (S.Chip.r7 (S.ofW W))=S.R8.x5 (S.Chip.r7 (S.newC 0))/\(S.R8.x6 (S.Chip.r7 (S.ofW W))=S.R8.x6 (S.Chip.r7 (S.newC 0))/\(S.R8.x7 (S.Chip.r7 (S.ofW W))=S.R8.x7 (S.Chip.r7 (S.newC 0))/\(S.Chip.g00 (S.ofW W)=wrapK .u8 (W 61)/\(S.Chip.g01 (S.ofW W)=wrapK .u8 (W 62)/\(S.Chip.g10 (S.ofW W)=wrapK .u8 (W 63)/\(S.Chip.g11 (S.ofW W)=wrapK .u8 (W 64)/\(S.Chip.b0 (S.ofW W)=eqI (W 67) 1/\(S.Chip.b1 (S.ofW W)=eqI (W 68) 1/\(S.Chip.met (S.ofW W)=wrapK .u16 (W 79)/\(S.Chip.wait (S.ofW W)=eqI (W 80) 1/\((0:Nat)=0/\((0:Nat)=0/\(S.Chip.late (S.ofW W)=bc (S.sOkB (W 0) (W 1)) (eqI (W 1) 1) (S.Chip.late (S.newC 0))/\(S.Chip.ba (S.ofW W)=bc (S.sOkB (W 0) (W 1)) (W 0 % 4) (S.Chip.ba (S.newC 0))/\((4:Int)=4/\((0:Nat)=0/\((20:Int)=20/\((57:Int)=57/\(S.Chip.bs (S.ofW W)=bc (S.sOkB (W 0) (W 1)) (S.st (W 0 / 4)) (S.Chip.bs (S.newC 0))/\((6:Int)=6/\((1:Int)=1/\(S.Chip.mc (S.ofW W)=bc (S.sOkM (W 2) (W 3) (W 4)) (W 2) (S.Chip.mc (S.newC 0))/\(S.Chip.mg (S.ofW W)=bc (S.sOkM (W 2) (W 3) (W 4)) (W 3) (S.Chip.mg (S.newC 0))/\(S.Chip.mm (S.ofW W)=bc (S.sOkM (W 2) (W 3) (W 4)) (W 4) (S.Chip.mm (S.newC 0))/\((0:Nat)=0/\(S.Th.line (S.Chip.t0 (S.ofW W))=bc (S.okW (W 5) (W 6) (W 7)) (S.sline (W 6) (W 7)) (S.Th.line (S.Chip.t0 (S.newC 0)))/\(S.Th.scan (S.Chip.t0 (S.ofW W))=bc (S.okW (W 5) (W 6) (W 7)) (S.sscan (W 6) (W 7)) (S.Th.scan (S.Chip.t0 (S.newC 0)))/\((0:Nat)=0/\((0:Nat)=0/\(S.Th.a (S.Chip.t0 (S.ofW W))=bc (S.okW (W 5) (W 6) (W 7)) (W 5 % 4) (S.Th.a (S.Chip.t0 (S.newC 0)))/\((4:Int)=4/\((0:Nat)=0/\((45:Int)=45/\((40:Int)=40/\(S.Th.s (S.Chip.t0 (S.ofW W))=bc (S.okW (W 5) (W 6) (W 7)) (S.st (W 5 / 4)) (S.Th.s (S.Chip.t0 (S.newC 0)))/\((6:Int)=6/\((1:Int)=1/\((0:Nat)=0/\(S.Th.line (S.Chip.t1 (S.ofW W))=bc (S.okW (W 8) (W 9) (W 10)) (S.sline (W 9) (W 10)) (S.Th.line (S.Chip.t1 (S.newC 0)))/\(S.Th.scan (S.Chip.t1 (S.ofW W))=bc (S.okW (W 8) (W 9) (W 10)) (S.sscan (W 9) (W 10)) (S.Th.scan (S.Chip.t1 (S.newC 0)))/\((0:Nat)=0/\((0:Nat)=0/\(S.Th.a (S.Chip.t1 (S.ofW W))=bc (S.okW (W 8) (W 9) (W 10)) (W 8 % 4) (S.Th.a (S.Chip.t1 (S.newC 0)))/\((4:Int)=4/\((0:Nat)=0/\((45:Int)=45/\((40:Int)=40/\(S.Th.s (S.Chip.t1 (S.ofW W))=bc (S.okW (W 8) (W 9) (W 10)) (S.st (W 8 / 4)) (S.Th.s (S.Chip.t1 (S.newC 0)))/\((6:Int)=6/\((1:Int)=1/\((0:Nat)=0/\(S.Th.line (S.Chip.t2 (S.ofW W))=bc (S.okW (W 11) (W 12) (W 13)) (S.sline (W 12) (W 13)) (S.Th.line (S.Chip.t2 (S.newC 0)))/\(S.Th.scan (S.Chip.t2 (S.ofW W))=bc (S.okW (W 11) (W 12) (W 13)) (S.sscan (W 12) (W 13)) (S.Th.scan (S.Chip.t2 (S.newC 0)))/\((0:Nat)=0/\((0:Nat)=0/\(S.Th.a (S.Chip.t2 (S.ofW W))=bc (S.okW (W 11) (W 12) (W 13)) (W 11 % 4) (S.Th.a (S.Chip.t2 (S.newC 0)))/\((4:Int)=4/\((0:Nat)=0/\((45:Int)=45/\((40:Int)=40/\(S.Th.s (S.Chip.t2 (S.ofW W))=bc (S.okW (W 11) (W 12) (W 13)) (S.st (W 11 / 4)) (S.Th.s (S.Chip.t2 (S.newC 0)))/\((6:Int)=6/\((1:Int)=1/\((0:Nat)=0/\(S.Th.line (S.Chip.t3 (S.ofW W))=bc (S.okW (W 14) (W 15) (W 16)) (S.sline (W 15) (W 16)) (S.Th.line (S.Chip.t3 (S.newC 0)))/\(S.Th.scan (S.Chip.t3 (S.ofW W))=bc (S.okW (W 14) (W 15) (W 16)) (S.sscan (W 15) (W 16)) (S.Th.scan (S.Chip.t3 (S.newC 0)))/\((0:Nat)=0/\((0:Nat)=0/\(S.Th.a (S.Chip.t3 (S.ofW W))=bc (S.okW (W 14) (W 15) (W 16)) (W 14 % 4) (S.Th.a (S.Chip.t3 (S.newC 0)))/\((4:Int)=4/\((0:Nat)=0/\((45:Int)=45/\((40:Int)=40/\(S.Th.s (S.Chip.t3 (S.ofW W))=bc (S.okW (W 14) (W 15) (W 16)) (S.st (W 14 / 4)) (S.Th.s (S.Chip.t3 (S.newC 0)))/\((6:Int)=6/\((1:Int)=1/\((0:Nat)=0/\(S.Th.line (S.Chip.t4 (S.ofW W))=bc (S.okW (W 17) (W 18) (W 19)) (S.sline (W 18) (W 19)) (S.Th.line (S.Chip.t4 (S.newC 0)))/\(S.Th.scan (S.Chip.t4 (S.ofW W))=bc (S.okW (W 17) (W 18) (W 19)) (S.sscan (W 18) (W 19)) (S.Th.scan (S.Chip.t4 (S.newC 0)))/\((0:Nat)=0/\((0:Nat)=0/\(S.Th.a (S.Chip.t4 (S.ofW W))=bc (S.okW (W 17) (W 18) (W 19)) (W 17 % 4) (S.Th.a (S.Chip.t4 (S.newC 0)))/\((4:Int)=4/\((0:Nat)=0/\((45:Int)=45/\((40:Int)=40/\(S.Th.s (S.Chip.t4 (S.ofW W))=bc (S.okW (W 17) (W 18) (W 19)) (S.st (W 17 / 4)) (S.Th.s (S.Chip.t4 (S.newC 0)))/\((6:Int)=6/\((1:Int)=1/\(S.Vo.ynv2 (S.Chip.v0 (S.ofW W))=bc (S.sOkV (W 20) (W 21) (W 22) (W 23) (W 24) (W 25) (W 26) (W 27)) (W 20) (S.Vo.ynv2 (S.Chip.v0 (S.newC 0)))/\(S.Vo.rate (S.Chip.v0 (S.ofW W))=bc (S.sOkV (W 20) (W 21) (W 22) (W 23) (W 24) (W 25) (W 26) (W 27)) (W 21) (S.Vo.rate (S.Chip.v0 (S.newC 0)))/\(S.Vo.yrv2 (S.Chip.v0 (S.ofW W))=bc (S.sOkV (W 20) (W 21) (W 22) (W 23) (W 24) (W 25) (W 26) (W 27)) (W 22) (S.Vo.yrv2 (S.Chip.v0 (S.newC 0)))/\((0:Nat)=0/\((0:Nat)=0/\((0:Nat)=0/\(S.Vo.count (S.Chip.v0 (S.ofW W))=bc (S.sOkV (W 20) (W 21) (W 22) (W 23) (W 24) (W 25) (W 26) (W 27)) (W 26) (S.Vo.count (S.Chip.v0 (S.newC 0)))/\(S.Vo.high (S.Chip.v0 (S.ofW W))=bc (S.sOkV (W 20) (W 21) (W 22) (W 23) (W 24) (W 25) (W 26) (W 27)) (eqI (W 27) 1) (S.Vo.high (S.Chip.v0 (S.newC 0)))/\(S.Vo.f4 (S.Chip.v0 (S.ofW W))=bc (S.sOkV (W 20) (W 21) (W 22) (W 23) (W 24) (W 25) (W 26) (W 27)) (W 23) (S.Vo.f4 (S.Chip.v0 (S.newC 0)))/\((4:Int)=4/\((1:Int)=1/\(S.Vo.f5 (S.Chip.v0 (S.ofW W))=bc (S.sOkV (W 20) (W 21) (W 22) (W 23) (W 24) (W 25) (W 26) (W 27)) (W 24) (S.Vo.f5 (S.Chip.v0 (S.newC 0)))/\((5:Int)=5/\((2:Int)=2/\(S.Vo.f9 (S.Chip.v0 (S.ofW W))=bc (S.sOkV (W 20) (W 21) (W 22) (W 23) (W 24) (W 25) (W 26) (W 27)) (W 25) (S.Vo.f9 (S.Chip.v0 (S.newC 0)))/\((9:Int)=9/\((4:Int)=4/\(S.Vo.ynv2 (S.Chip.v1 (S.ofW W))=bc (S.sOkV (W 28) (W 29) (W 30) (W 31) (W 32) (W 33) (W 34) (W 35)) (W 28) (S.Vo.ynv2 (S.Chip.v1 (S.newC 0)))/\(S.Vo.rate (S.Chip.v1 (S.ofW W))=bc (S.sOkV (W 28) (W 29) (W 30) (W 31) (W 32) (W 33) (W 34) (W 35)) (W 29) (S.Vo.rate (S.Chip.v1 (S.newC 0)))/\(S.Vo.yrv2 (S.Chip.v1 (S.ofW W))=bc (S.sOkV (W 28) (W 29) (W 30) (W 31) (W 32) (W 33) (W 34) (W 35)) (W 30) (S.Vo.yrv2 (S.Chip.v1 (S.newC 0)))/\((0:Nat)=0/\((0:Nat)=0/\((0:Nat)=0/\(S.Vo.count (S.Chip.v1 (S.ofW W))=bc (S.sOkV (W 28) (W 29) (W 30) (W 31) (W 32) (W 33) (W 34) (W 35)) (W 34) (S.Vo.count (S.Chip.v1 (S.newC 0)))/\(S.Vo.high (S.Chip.v1 (S.ofW W))=bc (S.sOkV (W 28) (W 29) (W 30) (W 31) (W 32) (W 33) (W 34) (W 35)) (eqI (W 35) 1) (S.Vo.high (S.Chip.v1 (S.newC 0)))/\(S.Vo.f4 (S.Chip.v1 (S.ofW W))=bc (S.sOkV (W 28) (W 29) (W 30) (W 31) (W 32) (W 33) (W 34) (W 35)) (W 31) (S.Vo.f4 (S.Chip.v1 (S.newC 0)))/\((4:Int)=4/\((1:Int)=1/\(S.Vo.f5 (S.Chip.v1 (S.ofW W))=bc (S.sOkV (W 28) (W 29) (W 30) (W 31) (W 32) (W 33) (W 34) (W 35)) (W 32) (S.Vo.f5 (S.Chip.v1 (S.newC 0)))/\((5:Int)=5/\((2:Int)=2/\(S.Vo.f9 (S.Chip.v1 (S.ofW W))=bc (S.sOkV (W 28) (W 29) (W 30) (W 31) (W 32) (W 33) (W 34) (W 35)) (W 33) (S.Vo.f9 (S.Chip.v1 (S.newC 0)))/\((9:Int)=9/\((4:Int)=4/\(S.Po.v0 (S.Chip.po (S.ofW W))=bc (S.sOkP (W 36) (W 37) (W 38) (W 39) (W 40) (W 41) (W 42) (W 43) (W 44) (W 45) (W 46)) (W 36) (S.Po.v0 (S.Chip.po (S.newC 0)))/\(S.Po.v1 (S.Chip.po (S.ofW W))=bc (S.sOkP (W 36) (W 37) (W 38) (W 39) (W 40) (W 41) (W 42) (W 43) (W 44) (W 45) (W 46)) (W 37) (S.Po.v1 (S.Chip.po (S.newC 0)))/\(S.Po.v2 (S.Chip.po (S.ofW W))=bc (S.sOkP (W 36) (W 37) (W 38) (W 39) (W 40) (W 41) (W 42) (W 43) (W 44) (W 45) (W 46)) (W 38) (S.Po.v2 (S.Chip.po (S.newC 0)))/\(S.Po.v3 (S.Chip.po (S.ofW W))=bc (S.sOkP (W 36) (W 37) (W 38) (W 39) (W 40) (W 41) (W 42) (W 43) (W 44) (W 45) (W 46)) (W 39) (S.Po.v3 (S.Chip.po (S.newC 0)))/\(S.Po.ypv2 (S.Chip.po (S.ofW W))=bc (S.sOkP (W 36) (W 37) (W 38) (W 39) (W 40) (W 41) (W 42) (W 43) (W 44) (W 45) (W 46)) (W 40) (S.Po.ypv2 (S.Chip.po (S.newC 0)))/\(S.Po.yqv2 (S.Chip.po (S.ofW W))=bc (S.sOkP (W 36) (W 37) (W 38) (W 39) (W 40) (W 41) (W 42) (W 43) (W 44) (W 45) (W 46)) (eqI (W 41) 1) (S.Po.yqv2 (S.Chip.po (S.newC 0)))/\(S.Po.h0 (S.Chip.po (S.ofW W))=bc (S.sOkP (W 36) (W 37) (W 38) (W 39) (W 40) (W 41) (W 42) (W 43) (W 44) (W 45) (W 46)) (eqI (W 42) 1) (S.Po.h0 (S.Chip.po (S.newC 0)))/\(S.Po.l0 (S.Chip.po (S.ofW W))=bc (S.sOkP (W 36) (W 37) (W 38) (W 39) (W 40) (W 41) (W 42) (W 43) (W 44) (W 45) (W 46)) (eqI (W 45) 1) (S.Po.l0 (S.Chip.po (S.newC 0)))/\(S.Po.h1 (S.Chip.po (S.ofW W))=bc (S.sOkP (W 36) (W 37) (W 38) (W 39) (W 40) (W 41) (W 42) (W 43) (W 44) (W 45) (W 46)) (eqI (W 43) 1) (S.Po.h1 (S.Chip.po (S.newC 0)))/\(S.Po.l1 (S.Chip.po (S.ofW W))=bc (S.sOkP (W 36) (W 37) (W 38) (W 39) (W 40) (W 41) (W 42) (W 43) (W 44) (W 45) (W 46)) (eqI (W 46) 1) (S.Po.l1 (S.Chip.po (S.newC 0)))/\(S.Po.yov2 (S.Chip.po (S.ofW W))=bc (S.sOkP (W 36) (W 37) (W 38) (W 39) (W 40) (W 41) (W 42) (W 43) (W 44) (W 45) (W 46)) (eqI (W 44) 1) (S.Po.yov2 (S.Chip.po (S.newC 0)))/\True)))))))))))))))))))))))))))))))))))))))))))))))))))))))))))))))))))))))))))))))))))))))))))))))))))))))))))))))))))))))))))))))))))))))))))))))))))))))))))))))))))))))))))))))))))))))))))))))))))))))))))))))):=by kernel_rfl
theorem ygm2 (c:S.Chip) (W:Nat->Int) (h0:S.setOk W=true)  : HTr Tryz.prog 24 [.ptr 0 0,.slice 40 0 81 (.rest 0)] (yex1 c W) (yei2 c W):=by
 refine K.yca0 good (A:=yfi2) (yga0 ?_) K.yea0 (k:=30) (cast (yfm2 c W).symm ?_)
 .intro p hp;simp only [List.mem_cons,List.not_mem_nil,or_false] at hp;rcases hp with rfl | rfl | rfl | rfl | rfl | rfl | rfl | rfl;exact yar0;exact yzl2;exact yct2;exact ygv2;exact yfv2;exact yht2;exact yem2;exact ykt2
 .unfold S.setOk at h0;simp only [S.yia0] at h0;obtain ⟨q0,q1,q2,q3,q4,q5,q6,q7,q8,q9,q10,q11,q12,q13,q14,q15,q16,q17,q18,q19,q20,q21,q22,q23,q24,q25,q26,q27,q28,q29,q30,q31,q32,q33,q34,q35,q36,q37,q38,q39,q40,q41,q42,q43⟩:=h0;have l47:=(S.yua0.1 q10);have a47:ltI (W 47) 0=false:=yba0.2 l47.1;have b47:ltI 255 (W 47)=false:=yba0.2 l47.2;have l48:=(S.yua0.1 q11);have a48:ltI (W 48) 0=false:=yba0.2 l48.1;have b48:ltI 255 (W 48)=false:=yba0.2 l48.2;have l49:=(S.yua0.1 q12);have a49:ltI (W 49) 0=false:=yba0.2 l49.1;have b49:ltI 255 (W 49)=false:=yba0.2 l49.2;have l50:=(S.yua0.1 q13);have a50:ltI (W 50) 0=false:=yba0.2 l50.1;have b50:ltI 255 (W 50)=false:=yba0.2 l50.2;have l51:=(S.yua0.1 q14);have a51:ltI (W 51) 0=false:=yba0.2 l51.1;have b51:ltI 255 (W 51)=false:=yba0.2 l51.2;have l52:=(S.yua0.1 q15);have a52:ltI (W 52) 0=false:=yba0.2 l52.1;have b52:ltI 255 (W 52)=false:=yba0.2 l52.2;have l53:=(S.yua0.1 q16);have a53:ltI (W 53) 0=false:=yba0.2 l53.1;have b53:ltI 255 (W 53)=false:=yba0.2 l53.2;have l54:=(S.yua0.1 q17);have a54:ltI (W 54) 0=false:=yba0.2 l54.1;have b54:ltI 255 (W 54)=false:=yba0.2 l54.2;have l55:=(S.yua0.1 q18);have a55:ltI (W 55) 0=false:=yba0.2 l55.1;have b55:ltI 255 (W 55)=false:=yba0.2 l55.2;have l56:=(S.yua0.1 q19);have a56:ltI (W 56) 0=false:=yba0.2 l56.1;have b56:ltI 255 (W 56)=false:=yba0.2 l56.2;have l57:=(S.yua0.1 q20);have a57:ltI (W 57) 0=false:=yba0.2 l57.1;have b57:ltI 255 (W 57)=false:=yba0.2 l57.2;have l58:=(S.yua0.1 q21);have a58:ltI (W 58) 0=false:=yba0.2 l58.1;have b58:ltI 255 (W 58)=false:=yba0.2 l58.2;have l59:=(S.yua0.1 q22);have a59:ltI (W 59) 0=false:=yba0.2 l59.1;have b59:ltI 255 (W 59)=false:=yba0.2 l59.2;have l60:=(S.yua0.1 q23);have a60:ltI (W 60) 0=false:=yba0.2 l60.1;have b60:ltI 255 (W 60)=false:=yba0.2 l60.2;have l61:=(S.yua0.1 q24);have a61:ltI (W 61) 0=false:=yba0.2 l61.1;have b61:ltI 255 (W 61)=false:=yba0.2 l61.2;have l62:=(S.yua0.1 q25);have a62:ltI (W 62) 0=false:=yba0.2 l62.1;have b62:ltI 255 (W 62)=false:=yba0.2 l62.2;have l63:=(S.yua0.1 q26);have a63:ltI (W 63) 0=false:=yba0.2 l63.1;have b63:ltI 255 (W 63)=false:=yba0.2 l63.2;have l64:=(S.yua0.1 q27);have a64:ltI (W 64) 0=false:=yba0.2 l64.1;have b64:ltI 255 (W 64)=false:=yba0.2 l64.2;have l65:=(S.yua0.1 q28);have a65:ltI (W 65) 0=false:=yba0.2 l65.1;have b65:ltI 255 (W 65)=false:=yba0.2 l65.2;have l66:=(S.yua0.1 q29);have a66:ltI (W 66) 0=false:=yba0.2 l66.1;have b66:ltI 255 (W 66)=false:=yba0.2 l66.2;have l69:=(S.yua0.1 q30);have a69:ltI (W 69) 0=false:=yba0.2 l69.1;have b69:ltI 255 (W 69)=false:=yba0.2 l69.2;have l70:=(S.yua0.1 q31);have a70:ltI (W 70) 0=false:=yba0.2 l70.1;have b70:ltI 255 (W 70)=false:=yba0.2 l70.2;have l71:=(S.yua0.1 q32);have a71:ltI (W 71) 0=false:=yba0.2 l71.1;have b71:ltI 255 (W 71)=false:=yba0.2 l71.2;have l72:=(S.yua0.1 q33);have a72:ltI (W 72) 0=false:=yba0.2 l72.1;have b72:ltI 255 (W 72)=false:=yba0.2 l72.2;have l73:=(S.yua0.1 q34);have a73:ltI (W 73) 0=false:=yba0.2 l73.1;have b73:ltI 255 (W 73)=false:=yba0.2 l73.2;have l74:=(S.yua0.1 q35);have a74:ltI (W 74) 0=false:=yba0.2 l74.1;have b74:ltI 255 (W 74)=false:=yba0.2 l74.2;have l75:=(S.yua0.1 q36);have a75:ltI (W 75) 0=false:=yba0.2 l75.1;have b75:ltI 255 (W 75)=false:=yba0.2 l75.2;have l76:=(S.yua0.1 q37);have a76:ltI (W 76) 0=false:=yba0.2 l76.1;have b76:ltI 255 (W 76)=false:=yba0.2 l76.2;have l77:=(S.yua0.1 q38);have a77:ltI (W 77) 0=false:=yba0.2 l77.1;have b77:ltI 255 (W 77)=false:=yba0.2 l77.2;have l78:=(S.yua0.1 q39);have a78:ltI (W 78) 0=false:=yba0.2 l78.1;have b78:ltI 255 (W 78)=false:=yba0.2 l78.2;have l67:=(S.yua0.1 q40);have a67:ltI (W 67) 0=false:=yba0.2 l67.1;have b67:ltI 1 (W 67)=false:=yba0.2 l67.2;have l68:=(S.yua0.1 q41);have a68:ltI (W 68) 0=false:=yba0.2 l68.1;have b68:ltI 1 (W 68)=false:=yba0.2 l68.2;have l79:=(S.yua0.1 q42);have a79:ltI (W 79) 0=false:=yba0.2 l79.1;have b79:ltI 32767 (W 79)=false:=yba0.2 l79.2;have l80:=(S.yua0.1 q43);have a80:ltI (W 80) 0=false:=yba0.2 l80.1;have b80:ltI 1 (W 80)=false:=yba0.2 l80.2;have e00:eqI 0 0=true:=rfl;have k0:S.inR 0 228=true:=rfl;simp only [q0,q1,q2,q3,q4,q5,q6,q7,q8,q9,a47,b47,a48,b48,a49,b49,a50,b50,a51,b51,a52,b52,a53,b53,a54,b54,a55,b55,a56,b56,a57,b57,a58,b58,a59,b59,a60,b60,a61,b61,a62,b62,a63,b63,a64,b64,a65,b65,a66,b66,a69,b69,a70,b70,a71,b71,a72,b72,a73,b73,a74,b74,a75,b75,a76,b76,a77,b77,a78,b78,a67,b67,a68,b68,a79,b79,a80,b80,k0,e00,bc_true,bc_false,yoa0,yna0,S.yot1,S.newC,S.th0,S.vo0,S.an,S.ofW,and_self,true_and,and_true]
namespace S
theorem yvd2:∀ (ws:List LV) (j:Nat),allI ws=true->j<ws.length->ws[j]?=some (.int .i64 (intOf (K.atV ws j)))
 | [],j,_,h=>by simp at h
 | v::ws,0,h,_=>by
  have h:=(yia0.1 h).1;unfold isI at h;split at h
  .rfl
  .cases h
 | v::ws,j+1,h,hl=>by
  have:=yvd2 ws j (yia0.1 h).2 (by simpa using hl)
  simpa [K.atV] using this
theorem ws_eq {ws:List LV} (h:allI ws=true) (hl:lenL ws=81):ws=(List.range 81).map fun j=>.int .i64 (Wof ws j):=by
 rw [Ev.lenL_eq] at hl;apply List.ext_getElem?;intro j;by_cases hj:j<81
 .rw [yvd2 ws j h (by omega),List.getElem?_map,List.getElem?_range hj];rfl
 .rw [List.getElem?_eq_none (by omega),List.getElem?_eq_none (by simp;omega)]
end S
theorem yza2 (c:S.Chip) (W:Nat->Int):yex1 c W=S.hpP 0 c++[.cells 3 (.grow 1) ((List.range 81).map fun j=>.int .i64 (W j))]:=by kernel_rfl
theorem ylt2:kSetE.ok Tryz.prog 24:=by
 intro xs os b r h h3;unfold kSetE at h;simp only at h;split at h
 .obtain ⟨c,rest,rfl,q⟩:=S.ycd1 h;clear h;split at q
  .rename_i t ws;cases hc:S.an (Nat.beq t 3) (S.an (S.allI ws) (Nat.beq (lenL ws) 81)) with
   | false=>rw [hc,bc_false] at q;cases q
   | true =>
    rw [hc,bc_true] at q;obtain ⟨a,hc⟩:=S.yia0.1 hc;obtain ⟨d,e⟩:=S.yia0.1 hc;have a:=Nat.eq_of_beq_eq_true a;subst a;injection q with h;injection h with h1 h2;subst h1;subst h2;have key:=ygm2 c (S.Wof ws) h3
    have eo:yex1 c (S.Wof ws)=S.hpP 0 c++[.cells 3 (.grow 1) ws]:=by
     rw [yza2,<- S.ws_eq d (Nat.eq_of_beq_eq_true e)]
    unfold HTr at key;rw [eo] at key;exact key
  .cases q
 .cases h
theorem yab2 (c:S.Chip):K.bodyF (yrp1) (K.runF (yrp1) 30) 26 [.ptr 0 0] (Heap.of (S.hp0 c)) Hint.auto (K.endC K.openE 40 ⟨.ret (.ptr 40 0),[],(S.hpP 40 (S.cpC c))⟩) =
  (bc (S.okC c) (bc (S.setOk (S.Wof (wList c))) ((0:Nat)=0/\(S.eqD (S.cpC c) (S.ofW (S.Wof (wList c))) True)) False) False):=by kernel_rfl
theorem ybb2 (c:S.Chip) (h0:S.an (S.okC c) (S.setOk (S.wd c))=true)  : HTr Tryz.prog 26 [.ptr 0 0] (S.hp0 c) ⟨.ret (.ptr 40 0),[],(S.hpP 40 (S.cpC c))⟩:=by
 refine K.yca0 good (A:=yrp1) (yga0 ?_) K.yea0 (k:=30) (cast (yab2 c).symm ?_)
 .intro p hp;simp only [List.mem_cons,List.not_mem_nil,or_false] at hp;rcases hp with rfl | rfl | rfl;exact yar0;exact yyd0;exact ylt2
 .obtain ⟨h1,h2⟩:=S.yia0.1 h0;have e1:S.setOk (S.Wof (wList c))=S.setOk (S.wd c):=by kernel_rfl
  have e2:S.cpC c=S.ofW (S.Wof (wList c)):=by kernel_rfl
  have k0:S.inR 0 228=true:=rfl;simp only [h1,e1,h2,k0,bc_true,S.yoa2 e2,and_self]
theorem yei0:ylq0.ok Tryz.prog 26:=by
 intro xs os b r h h3;unfold ylq0 at h;simp only at h;split at h
 .obtain ⟨c,rfl,q⟩:=S.yrb0 h;clear h;injection q with h;injection h with h1 h2;subst h1;subst h2;exact ybb2 _ h3
 .cases h
namespace S
theorem ypt1 {a b:Bool} : eqB2 a b=true↔a=b:=by cases a <;> cases b <;> decide
theorem ydf0 {c:Chip} : okS c=true↔okZ c=true/\okG c=true/\okPt c.po=true/\okMt c.mc c.mg c.mm=true:=by
 unfold okS;simp only [yia0]
theorem ymt2:∀ (i:Fin 32) (k:Fin 5),inR (clr ((i.val:Nat):Int) (2 ^ k.val)) 32=true:=by decide +kernel
theorem yqt1 {n mc m:Int} (k:Fin 5) (h:inR m 32=true):inR (mo (2 ^ k.val) n mc m) 32=true:=by
 have h1:=yha0.1 h;unfold mo;refine bcP (P:=fun x=>inR x 32=true) ?_ h
 have:=ymt2 ⟨m.toNat,by omega⟩ k
 rwa [show (((⟨m.toNat,by omega⟩ : Fin 32).val:Nat):Int)=m from Int.toNat_of_nonneg h1.1] at this
theorem ynt2 {n0 n1 n2 n3 n4 mc m:Int} (h:inR m 32=true):inR (mo5 n0 n1 n2 n3 n4 mc m) 32=true:=by
 unfold mo5 mo4 mo3 mo2 mo1;exact yqt1 4 (yqt1 3 (yqt1 2 (yqt1 1 (yqt1 0 h))))
theorem yrt1 {mc mg mm:Int} : okMt mc mg mm=true↔inR mm 32=true/\(mc=16->mg=0/\mm=0):=by
 unfold okMt;rw [yia0];refine and_congr Iff.rfl ?_;by_cases e:mc=16
 .rw [ysa0.2 e];show an (eqI mg 0) (eqI mm 0)=true↔_;rw [yia0,ysa0,ysa0];exact ⟨fun h _=>h,fun h=>h e⟩
 .rw [ykb0.2 e];exact ⟨fun _ h=>absurd h e,fun _=>rfl⟩
theorem ycb2 {mc mg mm k n0 n1 n2 n3 n4:Int} (h0:0<=mc) (h1:mc<17) (g0:0<=mg) (g1:mg<4) (hk:0<=k) (h:okMt mc mg mm=true):okMt (mC mc mg k) (mG mc mg k) (mM mc mg mm k n0 n1 n2 n3 n4)=true:=by
 rw [yrt1] at h ⊢;rw [mC_eq h0 h1 hk,mG_eq h0 h1 g0 g1 hk];unfold mM;cases ha:mAct mc mg k with
 | false =>
  have na:¬ (mc<16/\3<=mg/\k % 4=0):=fun e=>by rw [(yqx0 hk).2 e] at ha;cases ha
  rw [bc_false,if_neg na];refine ⟨h.1,fun e=>?_⟩
  rw [if_neg (by omega)]
  exact h.2 e
 | true =>
  have a:=(yqx0 hk).1 ha;rw [bc_true,if_pos a];cases hl:mLast mc with
  | false =>
   have nl:mc≠15:=fun e=>by rw [(ybp0 h0 h1).2 e] at hl;cases hl
   rw [bc_false];exact ⟨ynt2 h.1,fun e=>by omega⟩
  | true =>
   have l:=(ybp0 h0 h1).1 hl;rw [bc_true];refine ⟨rfl,fun _=>⟨?_,rfl⟩⟩
   rw [if_pos a.1,if_neg (by omega),if_pos ⟨a.2.2,l⟩]
theorem ydd1 {p:Po} : okPt p=true↔(p.yqv2=true->p.ypv2=0)/\see p.yov2 p.l0 p.h0=p.l0/\see p.yov2 p.l1 p.h1=p.l1:=by
 unfold okPt;rw [yia0,yia0,ypt1,ypt1];refine and_congr ?_ Iff.rfl;cases p.yqv2 with
 | false=>exact ⟨fun _ h=>(by cases h),fun _=>rfl⟩
 | true =>
  by_cases e:p.ypv2=0
  .rw [ysa0.2 e];exact ⟨fun _ _=>e,fun _=>rfl⟩
  .rw [ykb0.2 e];exact ⟨fun h=>(by cases h),fun h=>absurd (h rfl) e⟩
theorem ycg1 (b l h:Bool):see b (see b l h) h=see b l h:=by cases b <;> cases l <;> cases h <;> rfl
theorem yhm2 {c:Chip} (h:okG c=true):okG (stepC c)=true:=h
theorem yim2 {c:Chip} (h:okS c=true):okS (stepC c)=true:=by
 obtain ⟨hz,hg,hp,hm⟩:=ydf0.1 h;obtain ⟨⟨h0,h1⟩,g0,g1⟩:=okZ_m hz;refine ydf0.2 ⟨yyl2 hz,yhm2 hg,?_,ycb2 h0 h1 g0 g1 (ypa2 (okZ_C hz)).1 hm⟩;rw [ydd1] at hp ⊢;refine ⟨fun hd=>?_,hp.2⟩
 have hd:c.po.yqv2=true:=hd;show bc (sBeg c.ba c.bs) (pkC c.po.ypv2 c.po.yqv2) c.po.ypv2=0;have e:=hp.1 hd;unfold pkC;rw [hd,e];cases sBeg c.ba c.bs <;> rfl
theorem ydb2 {c:Chip} {addr v:Int} (hv:inR v 256=true) (h:okG c=true):okG (ynv0 addr v c)=true:=by
 unfold okG at h ⊢;simp only [yia0] at h ⊢;obtain ⟨q0,q1,q2,q3,q4,q5,q6,q7,q8,q9,q10,q11,q12,q13,q14,q15,q16,q17,q18,q19,q20,q21,q22,q23,q24,q25,q26,q27,q28,q29⟩:=h;have z:inR 0 256=true:=rfl;exact ⟨inRg hv q0,inRg hv q1,inRg hv q2,inRg hv q3,inRg hv q4,inRg hv q5,inRg hv q6,inRg hv q7,inRg hv q8,inRg hv q9,inRg hv q10,inRg hv q11,inRg hv q12,inRg hv q13,inRg hv q14,inRg hv q15,inRg z (inRg hv q16),inRg z (inRg hv q17),inRg z (inRg hv q18),inRg z (inRg hv q19),inRg z (inRg hv q20),inRg hv q21,inRg hv q22,inRg hv q23,inRg hv q24,inRg hv q25,inRg hv q26,inRg q26 q27,inRg hv q28,inRg q28 q29⟩
theorem yeb2 {c:Chip} {addr v:Int} (hv:inR v 256=true) (h:okS c=true):okS (ynv0 addr v c)=true:=by
 obtain ⟨hz,hg,hp,hm⟩:=ydf0.1 h;refine ydf0.2 ⟨yqa2 hv hz,ydb2 hv hg,?_,?_⟩
 .rw [ydd1] at hp ⊢;show (rb (adr addr) 1 (hb .u8 v 128) c.po.yqv2=true->rg (adr addr) 1 (bc (hb .u8 v 128) 0 c.po.ypv2) c.po.ypv2=0)/\see (rb (adr addr) 1 (hb .u8 v 64) c.po.yov2) (rb (adr addr) 1 (see (hb .u8 v 64) c.po.l0 c.po.h0) c.po.l0) c.po.h0=rb (adr addr) 1 (see (hb .u8 v 64) c.po.l0 c.po.h0) c.po.l0/\see (rb (adr addr) 1 (hb .u8 v 64) c.po.yov2) (rb (adr addr) 1 (see (hb .u8 v 64) c.po.l1 c.po.h1) c.po.l1) c.po.h1=rb (adr addr) 1 (see (hb .u8 v 64) c.po.l1 c.po.h1) c.po.l1;unfold rb rg;cases eqI (adr addr) 1 with
  | false=>exact hp
  | true =>
   refine ⟨fun hd=>?_,ycg1 _ _ _,ycg1 _ _ _⟩
   have hd:hb .u8 v 128=true:=hd;rw [hd];rfl
 .rw [yrt1] at hm ⊢;show inR (rg (adr addr) 42 31 c.mm) 32=true/\(rg (adr addr) 42 0 c.mc=16->rg (adr addr) 42 0 c.mg=0/\rg (adr addr) 42 31 c.mm=0);unfold rg;cases eqI (adr addr) 42 with
  | false=>exact hm
  | true=>exact ⟨rfl,fun e=>absurd (show (0:Int)=16 from e) (by decide)⟩
theorem yhv2 {c:Chip} {n v:Int} (hv:inR v 256=true) (h:okS c=true):okS (inC n v c)=true:=by
 obtain ⟨hz,hg,hp,hm⟩:=ydf0.1 h;refine ydf0.2 ⟨yev2 hv hz,hg,?_,hm⟩;rw [ydd1] at hp ⊢;refine ⟨hp.1,?_,?_⟩
 .show see c.po.yov2 (pkL n v 4 c.po.yov2 c.po.l0 c.po.h0) (pkH n v 4 c.po.h0)=pkL n v 4 c.po.yov2 c.po.l0 c.po.h0;unfold pkL;cases ho:orb (eqI n 4) (eqI n 5) with
  | true=>exact ycg1 _ _ _
  | false =>
   have e:eqI n 4=false:=by cases h4:eqI n 4 with
    | false=>rfl
    | true=>rw [h4] at ho;cases ho
   have:pkH n v 4 c.po.h0=c.po.h0:=by unfold pkH;rw [e];rfl
   rw [this];exact hp.2.1
 .show see c.po.yov2 (pkL n v 5 c.po.yov2 c.po.l1 c.po.h1) (pkH n v 5 c.po.h1)=pkL n v 5 c.po.yov2 c.po.l1 c.po.h1;unfold pkL;cases ho:orb (eqI n 4) (eqI n 5) with
  | true=>exact ycg1 _ _ _
  | false =>
   have e:eqI n 5=false:=by cases h4:eqI n 5 with
    | false=>rfl
    | true=>rw [h4] at ho;revert ho;cases eqI n 4 <;> (intro h;cases h)
   have:pkH n v 5 c.po.h1=c.po.h1:=by unfold pkH;rw [e];rfl
   rw [this];exact hp.2.2
theorem yot2 {k:Int} (h:inR k 228=true):okS (newC k)=true :=
 ydf0.2 ⟨ybt2 h,rfl,rfl,rfl⟩
theorem yiv2 {n:Nat} : ∀ {c:Chip},okS c=true->okS (goC n c)=true:=by
 induction n with
 | zero=>exact fun h=>h
 | succ n ih=>exact fun h=>ih (yim2 h)
theorem ypt2 {kd st ad v m:Int} {c:Chip} (hv:inR v 256=true) (h:okS c=true):okS (didC kd st ad v m c)=true:=by
 unfold didC;split
 .exact yiv2 h
 .split
  .exact h
  .split
   .exact yhv2 hv h
   .exact yeb2 hv h
theorem yst1 {vs:List LV} {L:Nat} (h:ywc0 vs L=true):∀ (k:Nat) (i:Int) (c:Chip),0<=i->i+k<=L->okS c=true->okS (madeC vs k i c)=true
 | 0,_,_,_,_,hc=>hc
 | k+1,i,c,h0,h1,hc=>yst1 h k (i+1) _ (by omega) (by omega) (ypt2 (ybg1 h h0 (by omega)).2 hc)
theorem yrx0 {vs:List LV} {L:Nat} {k:Int} (h:ywc0 vs L=true) (hk:inR k 256=true):okS (mkC vs L k)=true :=
 yst1 h L 0 _ (by decide) (by omega) (yot2 (yfm0 hk))
end S

namespace S
theorem ye_ok {line scan:Int} (h0:8<=scan) (h1:scan<256):(0<=young line scan/\young line scan<=255)/\elder line scan<=255/\(young line scan<8->young line scan<elder line scan)/\(8<=young line scan->elder line scan=255):=by
 unfold young elder;generalize bit 0 line=b0;generalize bit 1 line=b1;generalize bit 2 line=b2;generalize bit 3 line=b3;generalize bit 4 line=b4;generalize bit 5 line=b5;generalize bit 6 line=b6;generalize bit 7 line=b7;cases b0 <;> cases b1 <;> cases b2 <;> cases b3 <;> cases b4 <;> cases b5 <;> cases b6 <;> cases b7 <;> simp only [bc_true,bc_false] <;> refine ⟨⟨by omega,by omega⟩,by first | omega | trivial,fun _=>by first | omega | trivial,fun _=>by first | omega | trivial⟩
theorem ytt1 {t:Th} (h:okT t=true):okW (cnt t) (young t.line t.scan) (elder t.line t.scan)=true:=by
 have hc:=yat2 h;obtain ⟨_,s0,s1⟩:=ytk0.1 (ycr0 h);have y:=ye_ok (line:=t.line) s0 s1;rw [yig0];exact ⟨hc,y.1,y.2.1,y.2.2.1,y.2.2.2⟩
theorem yht0 (b:Bool):rng (bc b 1 0) 1=true:=by cases b <;> rfl
theorem yjv2 (b:Bool):eqI (bc b 1 0) 1=b:=by cases b <;> rfl
theorem ykv2 {x n m:Int} (h:inR x m=true) (e:m<=n+1):rng x n=true:=by
 have:=yha0.1 h;exact yua0.2 ⟨this.1,by omega⟩
theorem w_reg {x:Int} (h:inR x 256=true):rng (wrapK .i64 x) 255=true:=by
 have:=yha0.1 h;rw [show wrapK .i64 x=x by rw [yma0];omega]
 exact ykv2 h (by decide)
theorem vo_ok {v:Vo} (h:okVo v=true):sOkV v.ynv2 v.rate v.yrv2 v.f4 v.f5 v.f9 v.count (bc v.high 1 0)=true:=by
 unfold okVo at h;obtain ⟨⟨hc,hr,hv⟩,⟨h4,h5⟩,h9,hn⟩:=yxs0.1 h;unfold sOkV;simp only [yia0,yua0];exact ⟨⟨hc.1,by omega⟩,⟨hr.1,by omega⟩,⟨hv.1,by omega⟩,⟨h4.1,by omega⟩,⟨h5.1,by omega⟩,⟨h9.1,by omega⟩,⟨hn.1,by omega⟩,yua0.1 (yht0 _)⟩
theorem po_ok {p:Po} (h:okPt p=true) (h2:okP p.v0 p.v1 p.v2 p.v3 p.ypv2=true):sOkP p.v0 p.v1 p.v2 p.v3 p.ypv2 (bc p.yqv2 1 0) (bc p.h0 1 0) (bc p.h1 1 0) (bc p.yov2 1 0) (bc p.l0 1 0) (bc p.l1 1 0)=true:=by
 obtain ⟨⟨a0,a1⟩,⟨a2,a3⟩,a4⟩:=yeh0.1 h2;unfold okPt at h;obtain ⟨p1,p2⟩:=yia0.1 h;unfold sOkP;simp only [yjv2,yht0,yia0];exact ⟨⟨yua0.2 ⟨a0.1,by omega⟩,yua0.2 ⟨a1.1,by omega⟩,yua0.2 ⟨a2.1,by omega⟩,yua0.2 ⟨a3.1,by omega⟩⟩,yua0.2 ⟨a4.1,by omega⟩,⟨trivial,trivial,trivial,trivial,trivial,trivial⟩,p1,yia0.1 p2⟩
theorem mt_ok {mc mg mm:Int} (h0:0<=mc/\mc<17) (h1:0<=mg/\mg<4) (h:okMt mc mg mm=true):sOkM mc mg (wrapK .i64 mm)=true:=by
 obtain ⟨hm,h3⟩:=yia0.1 h;have m:=yha0.1 hm;rw [show wrapK .i64 mm=mm by rw [yma0];omega]
 unfold sOkM;simp only [yia0];exact ⟨⟨yua0.2 ⟨h0.1,by omega⟩,yua0.2 ⟨h1.1,by omega⟩,yua0.2 ⟨m.1,by omega⟩⟩,h3⟩
theorem yfi0 {c:Chip} (h:okS c=true):setOk (wd c)=true:=by
 obtain ⟨hz,hg,hp,hm⟩:=ydf0.1 h;obtain ⟨m0,m1⟩:=okZ_m hz;obtain ⟨pb,pp,pt,pd,pv,pw⟩:=ybg0.1 (okZ_C hz);obtain ⟨a0,a1,a2,a3,a4⟩:=ydv2 hz;have hq:=(yia0.1 (okZ_Q hz)).2;have p:=ypa2 (okZ_C hz);unfold okG at hg;simp only [yia0] at hg;obtain ⟨q0,q1,q2,q3,q4,q5,q6,q7,q8,q9,q10,q11,q12,q13,q14,q15,q16,q17,q18,q19,q20,q21,q22,q23,q24,q25,q26,q27,q28,q29⟩:=hg;have mt:=yha0.1 hq;unfold setOk;simp only [yia0];exact ⟨yia0.2 ⟨yua0.2 ⟨p.1,Int.lt_add_one_iff.1 p.2.1⟩,yht0 _⟩,mt_ok m0 m1 hm,ytt1 a0,ytt1 a1,ytt1 a2,ytt1 a3,ytt1 a4,vo_ok pv,vo_ok pw,po_ok hp pp,w_reg q0,w_reg q1,w_reg q4,w_reg q5,w_reg q6,w_reg q7,w_reg q8,w_reg q9,w_reg q10,w_reg q11,w_reg q12,w_reg q13,w_reg q14,w_reg q15,w_reg q26,w_reg q27,w_reg q28,w_reg q29,w_reg q2,w_reg q3,w_reg q16,w_reg q17,w_reg q18,w_reg q19,w_reg q20,w_reg q21,w_reg q22,w_reg q23,w_reg q24,w_reg q25,yht0 _,yht0 _,yua0.2 (show 0<=wrapK .i64 c.met/\wrapK .i64 c.met<=32767 by rw [show wrapK .i64 c.met=c.met by rw [yma0];omega];omega),yht0 _⟩
end S
namespace S
theorem yoi1 (A:Nat->Int):yrf0 A A=true:=by
 unfold yrf0;simp only [ykn0,an,bc_true]
theorem u8_in (x:Int):inR (wrapK .u8 x) 256=true:=by rw [yha0,yrd0];omega
theorem okT_w {m y e:Int} (h:okW m y e=true):okT ⟨m % 4,st (m / 4),sline y e,sscan y e⟩=true:=by
 have hw:=yig0.1 h;unfold okT;rw [yia0];exact ⟨yws0 hw.1.1 hw.1.2,(yfj2 h).2.2⟩
theorem yqt2 {a b c d e f g:Int} {x h:Bool} {w7:Int} (q:sOkV a b c d e f g w7=true):okVo ⟨a,b,c,d,e,f,g,h⟩=true:=by
 unfold sOkV at q;simp only [yia0,yua0] at q;unfold okVo;rw [yxs0];show ((0<=a/\a<16)/\(0<=b/\b<32)/\0<=c/\c<16)/\((0<=d/\d<16)/\0<=e/\e<32)/\(0<=f/\f<512)/\0<=g/\g<96;omega
theorem yjm0 {W:Nat->Int} (h:setOk W=true):okQ (ofW W)=true:=by
 unfold setOk at h;simp only [yia0] at h;obtain ⟨hb,hm,t0,t1,t2,t3,t4,v0,v1,hp,_,_,_,_,_,_,_,_,_,_,_,_,_,_,_,_,_,_,_,_,_,_,_,_,_,_,_,_,_,_,q67,q68,q79,q80⟩:=h;obtain ⟨hb,_⟩:=yia0.1 hb;have b:=yua0.1 hb;have k0:=okT_w t0;have k1:=okT_w t1;have k2:=okT_w t2;have k3:=okT_w t3;have k4:=okT_w t4;have m:=yua0.1 q79;unfold okQ;rw [yia0,ybg0];refine ⟨⟨yma2 (n:=W 0) b.1 (by omega),?_,yuh0.2 ⟨u8_in _,u8_in _,k0,k1,k2,k3,k4⟩,yln0.2 ⟨?_,?_,?_,?_,⟨u8_in _,ycr0 k4⟩,u8_in _,u8_in _,u8_in _,u8_in _⟩,yqt2 (x:=true) v0,yqt2 (x:=true) v1⟩,?_⟩
 .unfold sOkP at hp;simp only [yia0,yua0] at hp;rw [yeh0];show ((0<=W 36/\W 36<256)/\0<=W 37/\W 37<256)/\((0<=W 38/\W 38<256)/\0<=W 39/\W 39<256)/\0<=W 40/\W 40<512;omega
 .unfold okY;simp only [yia0];exact ⟨u8_in _,u8_in _,u8_in _,ycr0 k0⟩
 .unfold okY;simp only [yia0];exact ⟨u8_in _,u8_in _,u8_in _,ycr0 k1⟩
 .unfold okM;rw [yia0];exact ⟨u8_in _,ycr0 k2⟩
 .unfold okM;rw [yia0];exact ⟨u8_in _,ycr0 k3⟩
 .rw [yha0];show 0<=wrapK .u16 (W 79)/\wrapK .u16 (W 79)<32768;rw [yaf0];omega
theorem ygi0 (X:Chip):yrf0 (Wof (wList X)) (Wof (wList X))=true:=yoi1 _
end S
theorem yjm2 (A B:Nat->Int):K.bodyF (envL []) (K.runF (envL []) 30) 22 [.slice 0 0 81 (.rest 0),.slice 1 0 81 (.rest 0)] (Heap.of (yfx1 A B)) Hint.auto (K.endC K.openE 2 ⟨.ret (.bool true),[],[]⟩) =
  (bc (notB (eqI (A 0) (B 0))) (true=false/\True) (bc (notB (eqI (A 1) (B 1))) (true=false/\True) (bc (notB (eqI (A 2) (B 2))) (true=false/\True) (bc (notB (eqI (A 3) (B 3))) (true=false/\True) (bc (notB (eqI (A 4) (B 4))) (true=false/\True) (bc (notB (eqI (A 5) (B 5))) (true=false/\True) (bc (notB (eqI (A 6) (B 6))) (true=false/\True) (bc (notB (eqI (A 7) (B 7))) (true=false/\True) (bc (notB (eqI (A 8) (B 8))) (true=false/\True) (bc (notB (eqI (A 9) (B 9))) (true=false/\True) (bc (notB (eqI (A 10) (B 10))) (true=false/\True) (bc (notB (eqI (A 11) (B 11))) (true=false/\True) (bc (notB (eqI (A 12) (B 12))) (true=false/\True) (bc (notB (eqI (A 13) (B 13))) (true=false/\True) (bc (notB (eqI (A 14) (B 14))) (true=false/\True) (bc (notB (eqI (A 15) (B 15))) (true=false/\True) (bc (notB (eqI (A 16) (B 16))) (true=false/\True) (bc (notB (eqI (A 17) (B 17))) (true=false/\True) (bc (notB (eqI (A 18) (B 18))) (true=false/\True) (bc (notB (eqI (A 19) (B 19))) (true=false/\True) (bc (notB (eqI (A 20) (B 20))) (true=false/\True) (bc (notB (eqI (A 21) (B 21))) (true=false/\True) (bc (notB (eqI (A 22) (B 22))) (true=false/\True) (bc (notB (eqI (A 23) (B 23))) (true=false/\True) (bc (notB (eqI (A 24) (B 24))) (true=false/\True) (bc (notB (eqI (A 25) (B 25))) (true=false/\True) (bc (notB (eqI (A 26) (B 26))) (true=false/\True) (bc (notB (eqI (A 27) (B 27))) (true=false/\True) (bc (notB (eqI (A 28) (B 28))) (true=false/\True) (bc (notB (eqI (A 29) (B 29))) (true=false/\True) (bc (notB (eqI (A 30) (B 30))) (true=false/\True) (bc (notB (eqI (A 31) (B 31))) (true=false/\True) (bc (notB (eqI (A 32) (B 32))) (true=false/\True) (bc (notB (eqI (A 33) (B 33))) (true=false/\True) (bc (notB (eqI (A 34) (B 34))) (true=false/\True) (bc (notB (eqI (A 35) (B 35))) (true=false/\True) (bc (notB (eqI (A 36) (B 36))) (true=false/\True) (bc (notB (eqI (A 37) (B 37))) (true=false/\True) (bc (notB (eqI (A 38) (B 38))) (true=false/\True) (bc (notB (eqI (A 39) (B 39))) (true=false/\True) (bc (notB (eqI (A 40) (B 40))) (true=false/\True) (bc (notB (eqI (A 41) (B 41))) (true=false/\True) (bc (notB (eqI (A 42) (B 42))) (true=false/\True) (bc (notB (eqI (A 43) (B 43))) (true=false/\True) (bc (notB (eqI (A 44) (B 44))) (true=false/\True) (bc (notB (eqI (A 45) (B 45))) (true=false/\True) (bc (notB (eqI (A 46) (B 46))) (true=false/\True) (bc (notB (eqI (A 47) (B 47))) (true=false/\True) (bc (notB (eqI (A 48) (B 48))) (true=false/\True) (bc (notB (eqI (A 49) (B 49))) (true=false/\True) (bc (notB (eqI (A 50) (B 50))) (true=false/\True) (bc (notB (eqI (A 51) (B 51))) (true=false/\True) (bc (notB (eqI (A 52) (B 52))) (true=false/\True) (bc (notB (eqI (A 53) (B 53))) (true=false/\True) (bc (notB (eqI (A 54) (B 54))) (true=false/\True) (bc (notB (eqI (A 55) (B 55))) (true=false/\True) (bc (notB (eqI (A 56) (B 56))) (true=false/\True) (bc (notB (eqI (A 57) (B 57))) (true=false/\True) (bc (notB (eqI (A 58) (B 58))) (true=false/\True) (bc (notB (eqI (A 59) (B 59))) (true=false/\True) (bc (notB (eqI (A 60) (B 60))) (true=false/\True) (bc (notB (eqI (A 61) (B 61))) (true=false/\True) (bc (notB (eqI (A 62) (B 62))) (true=false/\True) (bc (notB (eqI (A 63) (B 63))) (true=false/\True) (bc (notB (eqI (A 64) (B 64))) (true=false/\True) (bc (notB (eqI (A 65) (B 65))) (true=false/\True) (bc (notB (eqI (A 66) (B 66))) (true=false/\True) (bc (notB (eqI (A 67) (B 67))) (true=false/\True) (bc (notB (eqI (A 68) (B 68))) (true=false/\True) (bc (notB (eqI (A 69) (B 69))) (true=false/\True) (bc (notB (eqI (A 70) (B 70))) (true=false/\True) (bc (notB (eqI (A 71) (B 71))) (true=false/\True) (bc (notB (eqI (A 72) (B 72))) (true=false/\True) (bc (notB (eqI (A 73) (B 73))) (true=false/\True) (bc (notB (eqI (A 74) (B 74))) (true=false/\True) (bc (notB (eqI (A 75) (B 75))) (true=false/\True) (bc (notB (eqI (A 76) (B 76))) (true=false/\True) (bc (notB (eqI (A 77) (B 77))) (true=false/\True) (bc (notB (eqI (A 78) (B 78))) (true=false/\True) (bc (notB (eqI (A 79) (B 79))) (true=false/\True) (bc (notB (eqI (A 80) (B 80))) (true=false/\True) (true=true/\True)))))))))))))))))))))))))))))))))))))))))))))))))))))))))))))))))))))))))))))))))):=by kernel_rfl
theorem ykm2 (A B:Nat->Int) (h0:S.yrf0 A B=true)  : HTr Tryz.prog 22 [.slice 0 0 81 (.rest 0),.slice 1 0 81 (.rest 0)] (yfx1 A B) ⟨.ret (.bool true),[],[]⟩:=by
 refine K.yca0 good (A:=envL []) (yga0 ?_) K.yea0 (k:=30) (cast (yjm2 A B).symm ?_)
 .intro p hp;cases hp
 .unfold S.yrf0 at h0;simp only [S.yia0] at h0;obtain ⟨q0,q1,q2,q3,q4,q5,q6,q7,q8,q9,q10,q11,q12,q13,q14,q15,q16,q17,q18,q19,q20,q21,q22,q23,q24,q25,q26,q27,q28,q29,q30,q31,q32,q33,q34,q35,q36,q37,q38,q39,q40,q41,q42,q43,q44,q45,q46,q47,q48,q49,q50,q51,q52,q53,q54,q55,q56,q57,q58,q59,q60,q61,q62,q63,q64,q65,q66,q67,q68,q69,q70,q71,q72,q73,q74,q75,q76,q77,q78,q79,q80⟩:=h0;simp only [q0,q1,q2,q3,q4,q5,q6,q7,q8,q9,q10,q11,q12,q13,q14,q15,q16,q17,q18,q19,q20,q21,q22,q23,q24,q25,q26,q27,q28,q29,q30,q31,q32,q33,q34,q35,q36,q37,q38,q39,q40,q41,q42,q43,q44,q45,q46,q47,q48,q49,q50,q51,q52,q53,q54,q55,q56,q57,q58,q59,q60,q61,q62,q63,q64,q65,q66,q67,q68,q69,q70,q71,q72,q73,q74,q75,q76,q77,q78,q79,q80,yoa0,yna0,bc_true,bc_false,and_self]
theorem yfb2 (A B:Nat->Int):yfx1 A B=[.cells 3 (.grow 1) ((List.range 81).map fun j=>.int .i64 (A j)),.cells 3 (.grow 1) ((List.range 81).map fun j=>.int .i64 (B j))]:=by kernel_rfl
theorem yhi0:ymq0.ok Tryz.prog 22:=by
 intro xs os b r h h3;unfold ymq0 at h;simp only at h;split at h
 .split at h
  .rename_i t ws t2 vs;cases hc:S.an (Nat.beq t 3) (S.an (Nat.beq t2 3) (S.an (S.allI ws) (S.an (Nat.beq (lenL ws) 81) (S.an (S.allI vs) (Nat.beq (lenL vs) 81))))) with
   | false=>rw [hc,bc_false] at h;cases h
   | true =>
    rw [hc,bc_true] at h;simp only [S.yia0] at hc;obtain ⟨a,a2,d,e,d2,e2⟩:=hc;have a:=Nat.eq_of_beq_eq_true a;have a2:=Nat.eq_of_beq_eq_true a2;subst a;subst a2;injection h with h;injection h with h1 h2;subst h1;subst h2;have key:=ykm2 (S.Wof ws) (S.Wof vs) h3
    have eo:yfx1 (S.Wof ws) (S.Wof vs)=[.cells 3 (.grow 1) ws,.cells 3 (.grow 1) vs]:=by
     rw [yfb2,<- S.ws_eq d (Nat.eq_of_beq_eq_true e),<- S.ws_eq d2 (Nat.eq_of_beq_eq_true e2)]
    unfold HTr at key;rw [eo] at key;exact key
  .cases h
 .cases h
theorem ylv2 (et L q:Nat) (w:Own) (vs:List LV) (W:Nat->Int) (c d:S.Chip) (i:Int):K.RunL (envL [(27,kDidE)]) K.openE 30 7 66 (inner (inner (blkOf 7 0))) coEB [(9,.ptr 0 0),(10,.ptr 40 0),(7,.ptr 80 0),(8,.slice 120 0 81 (.rest 0)),(2,.slice 121 0 L (.known q)),(11,.int .i64 i)] (coOz et L q w vs W c d i) (.skip 0 (.fork (.skip 0 (.fork .auto (.skip 2 (.take false .auto)))) .auto)) (coRz et L q w vs W c d i) =
  (bc (ltI i ↑L) (bc (ltI i 0) False (bc (ltI i ↑L) (bc (Nat.ble (0+Int.toNat i*5+5) (lenL vs)) (K.ytc0 [CK.i .i64,CK.i .u16,CK.i .u16,CK.i .u8,CK.i .i64] (0+Int.toNat i*5)=CK.i .i64/\(K.ytc0 [CK.i .i64,CK.i .u16,CK.i .u16,CK.i .u8,CK.i .i64] (0+Int.toNat i*5+1)=CK.i .u16/\(K.ytc0 [CK.i .i64,CK.i .u16,CK.i .u16,CK.i .u8,CK.i .i64] (0+Int.toNat i*5+1+1)=CK.i .u16/\(K.ytc0 [CK.i .i64,CK.i .u16,CK.i .u16,CK.i .u8,CK.i .i64] (0+Int.toNat i*5+1+1+1)=CK.i .u8/\(K.ytc0 [CK.i .i64,CK.i .u16,CK.i .u16,CK.i .u8,CK.i .i64] (0+Int.toNat i*5+1+1+1+1)=CK.i .i64/\(bc (S.an (S.okQ c) (S.an (S.inR (intOf (K.atV vs (0+Int.toNat i*5+1))) 65536) (S.inR (intOf (K.atV vs (0+Int.toNat i*5+1+1+1))) 256))) (ltI i (0:Int)=false/\(bc (ltI i ↑L) (bc (Nat.ble (0+Int.toNat i*5+5) (lenL vs)) (K.ytc0 [CK.i .i64,CK.i .u16,CK.i .u16,CK.i .u8,CK.i .i64] (0+Int.toNat i*5)=CK.i .i64/\(K.ytc0 [CK.i .i64,CK.i .u16,CK.i .u16,CK.i .u8,CK.i .i64] (0+Int.toNat i*5+1)=CK.i .u16/\(K.ytc0 [CK.i .i64,CK.i .u16,CK.i .u16,CK.i .u8,CK.i .i64] (0+Int.toNat i*5+1+1)=CK.i .u16/\(K.ytc0 [CK.i .i64,CK.i .u16,CK.i .u16,CK.i .u8,CK.i .i64] (0+Int.toNat i*5+1+1+1)=CK.i .u8/\(K.ytc0 [CK.i .i64,CK.i .u16,CK.i .u16,CK.i .u8,CK.i .i64] (0+Int.toNat i*5+1+1+1+1)=CK.i .i64/\(bc (S.an (S.okQ c) (S.an (S.inR (intOf (K.atV vs (0+Int.toNat i*5+1))) 65536) (S.inR (intOf (K.atV vs (0+Int.toNat i*5+1+1+1))) 256))) (bc (S.an (S.okQ (S.didC (intOf (K.atV vs (0+Int.toNat i*5))) (intOf (K.atV vs (0+Int.toNat i*5+1))) (intOf (K.atV vs (0+Int.toNat i*5+1+1))) (intOf (K.atV vs (0+Int.toNat i*5+1+1+1))) (intOf (K.atV vs (0+Int.toNat i*5+1+1+1+1))) c)) (S.an (S.ywc0 vs L) (S.an (S.inR (wrapK .i64 (i+1)) 1000) (notB (ltI 900 ↑L))))) (co_T et L q w vs W (S.didC (intOf (K.atV vs (0+Int.toNat i*5))) (intOf (K.atV vs (0+Int.toNat i*5+1))) (intOf (K.atV vs (0+Int.toNat i*5+1+1))) (intOf (K.atV vs (0+Int.toNat i*5+1+1+1))) (intOf (K.atV vs (0+Int.toNat i*5+1+1+1+1))) c) d (wrapK .i64 (i+1))/\((0:Nat)=0/\((0:Nat)=0/\((0:Nat)=0/\((0:Nat)=0/\((81:Nat)=81/\(Cap.rest (0:Nat)=Cap.rest 0/\(S.eqC (S.madeC vs (Int.toNat (↑L-i)) i c) (S.madeC vs (Int.toNat (↑L-wrapK .i64 (i+1))) (wrapK .i64 (i+1)) (S.didC (intOf (K.atV vs (0+Int.toNat i*5))) (intOf (K.atV vs (0+Int.toNat i*5+1))) (intOf (K.atV vs (0+Int.toNat i*5+1+1))) (intOf (K.atV vs (0+Int.toNat i*5+1+1+1))) (intOf (K.atV vs (0+Int.toNat i*5+1+1+1+1))) c)) (S.eqC (S.madeC vs (Int.toNat (↑L-i)) i c) (S.madeC vs (Int.toNat (↑L-wrapK .i64 (i+1))) (wrapK .i64 (i+1)) (S.didC (intOf (K.atV vs (0+Int.toNat i*5))) (intOf (K.atV vs (0+Int.toNat i*5+1))) (intOf (K.atV vs (0+Int.toNat i*5+1+1))) (intOf (K.atV vs (0+Int.toNat i*5+1+1+1))) (intOf (K.atV vs (0+Int.toNat i*5+1+1+1+1))) c)) True))))))))) False) False)))))) False) False)) False)))))) False) False)) ((0:Nat)=0/\((0:Nat)=0/\((0:Nat)=0/\((0:Nat)=0/\((81:Nat)=81/\(Cap.rest (0:Nat)=Cap.rest 0/\(S.eqC (S.madeC vs (Int.toNat (↑L-i)) i c) c (S.eqC (S.madeC vs (Int.toNat (↑L-i)) i c) c True))))))))):=by kernel_rfl
theorem yrt2 (et L q:Nat) (w:Own) (vs:List LV) (W:Nat->Int) (c d:S.Chip) (i:Int) (h0:S.okQ c=true) (h1:S.ywc0 vs L=true) (h2:S.inR i 1000=true) (h3:(L:Int)<=900) (IH:i<L->S.okQ (S.actC vs i c)=true->co_T et L q w vs W (S.actC vs i c) d (i+1)):GTr Tryz.prog (inner (inner (blkOf 7 0))) 7 66 [(9,.ptr 0 0),(10,.ptr 40 0),(7,.ptr 80 0),(8,.slice 120 0 81 (.rest 0)),(2,.slice 121 0 L (.known q)),(11,.int .i64 i)] (coOz et L q w vs W c d i) (coRz et L q w vs W c d i):=by
 refine K.ymd0 good (A:=envL [(27,kDidE)]) (yga0 ?_) K.yea0 (k:=30) (ent:=coEB) (cast (ylv2 et L q w vs W c d i).symm ?_)
 .intro p hp;simp only [List.mem_cons,List.not_mem_nil,or_false] at hp;rcases hp with rfl;exact ysd2
 .have b2:=S.yha0.1 h2;have w9:i<999->wrapK .i64 (i+1)=i+1:=fun _=>by rw [yma0];omega
  cases hl:ltI i L with
  | false =>
   simp only [bc_false,S.ydr0 (S.yud2 vs c (yba0.1 hl)),and_self]
  | true =>
   have hi:=yka0.1 hl;have hv:=(S.yem0.1 h1).2;have e0:ltI i 0=false:=yba0.2 b2.1;have bl:Nat.ble (0+Int.toNat i*5+5) (lenL vs)=true:=Nat.ble_eq_true_of_le (by rw [hv];omega)
   have k0:K.ytc0 [.i .i64,.i .u16,.i .u16,.i .u8,.i .i64] (0+Int.toNat i*5)=.i .i64:=by rw [Nat.zero_add];exact ysc0 [.i .i64,.i .u16,.i .u16,.i .u8,.i .i64] i.toNat 0
   have k1:K.ytc0 [.i .i64,.i .u16,.i .u16,.i .u8,.i .i64] (0+Int.toNat i*5+1)=.i .u16:=by rw [Nat.zero_add];exact ysc0 [.i .i64,.i .u16,.i .u16,.i .u8,.i .i64] i.toNat 1
   have k2:K.ytc0 [.i .i64,.i .u16,.i .u16,.i .u8,.i .i64] (0+Int.toNat i*5+1+1)=.i .u16:=by rw [Nat.zero_add];exact ysc0 [.i .i64,.i .u16,.i .u16,.i .u8,.i .i64] i.toNat 2
   have k3:K.ytc0 [.i .i64,.i .u16,.i .u16,.i .u8,.i .i64] (0+Int.toNat i*5+1+1+1)=.i .u8:=by rw [Nat.zero_add];exact ysc0 [.i .i64,.i .u16,.i .u16,.i .u8,.i .i64] i.toNat 3
   have k4:K.ytc0 [.i .i64,.i .u16,.i .u16,.i .u8,.i .i64] (0+Int.toNat i*5+1+1+1+1)=.i .i64:=by rw [Nat.zero_add];exact ysc0 [.i .i64,.i .u16,.i .u16,.i .u8,.i .i64] i.toNat 4
   have ea:S.didC (intOf (K.atV vs (0+Int.toNat i*5))) (intOf (K.atV vs (0+Int.toNat i*5+1))) (intOf (K.atV vs (0+Int.toNat i*5+1+1))) (intOf (K.atV vs (0+Int.toNat i*5+1+1+1))) (intOf (K.atV vs (0+Int.toNat i*5+1+1+1+1))) c=S.actC vs i c:=rfl;obtain ⟨r1,r3⟩:=S.ybg1 h1 b2.1 hi;have r1:S.inR (intOf (K.atV vs (0+Int.toNat i*5+1))) 65536=true:=r1;have r3:S.inR (intOf (K.atV vs (0+Int.toNat i*5+1+1+1))) 256=true:=r3;have hq:=S.ynt1 h1 b2.1 hi h0;have b3:S.inR (i+1) 1000=true:=S.yha0.2 (by omega)
   have hL:notB (ltI 900 L)=true:=by rw [yba0.2 (by omega)];rfl
   have ih:=IH hi hq;simp only [e0,bl,k0,k1,k2,k3,k4,r1,r3,h0,S.an,w9 (by omega),ea,hq,h1,b3,hL,bc_true,bc_false,true_and,S.ydr0 (S.ytd2 vs c hi)]
   simp only [ih,and_self]
theorem ymv2 (et L q:Nat) (w:Own) (vs:List LV) (W:Nat->Int) (d:S.Chip) (h1:S.ywc0 vs L=true) (h3:(L:Int)<=900):∀ (k:Nat) (c:S.Chip) (i:Int),S.okQ c=true->S.inR i 1000=true->(L-i).toNat=k->co_T et L q w vs W c d i:=by
 intro k
 induction k with
 | zero =>
  intro c i h0 h2 hk;exact yrt2 et L q w vs W c d i h0 h1 h2 h3 fun hi _=>by omega
 | succ k ih =>
  intro c i h0 h2 hk;exact yrt2 et L q w vs W c d i h0 h1 h2 h3 fun hi hq=>ih _ (i+1) hq (S.yha0.2 (by have:=S.yha0.1 h2;omega)) (by omega)
theorem ylm2 (et L q:Nat) (w:Own) (vs:List LV) (W:Nat->Int) (h1:S.ywc0 vs L=true) (h3:(L:Int)<=900) (c d:S.Chip) (i:Int) (h0:S.okQ c=true) (h2:S.inR i 1000=true):co_B et L q w vs W c d i:=by
 have hb:blkOf 7 0=.block 0 (.loop (inner (inner (blkOf 7 0)))):=by kernel_rfl
 unfold co_B K.BOk;rw [hb];exact K.CT.block (K.GT.loop (ymv2 et L q w vs W d h1 h3 _ c i h0 h2 rfl))
theorem ymm2:K.bodyF (envL []) (K.runF (envL []) 40) 17 [] (Heap.of []) .auto (K.endC K.shutE 0 ⟨.ret (.bool true),[],[]⟩)=True:=by kernel_rfl
theorem ynm2:HT Tryz.prog 17 [] (Heap.of []) (⟨.ret (.bool true),[],[]⟩ : K.CRes).e (Heap.of (K.chg [] (⟨.ret (.bool true),[],[]⟩ : K.CRes).ch++(⟨.ret (.bool true),[],[]⟩ : K.CRes).new)):=by
 refine K.yyw1 (A:=envL []) (E:=K.shutE) (k:=40) (g:=17) (xs:=[]) (os:=[]) (r:=⟨.ret (.bool true),[],[]⟩) (h:=.auto) good (yga0 ?_) K.ygn0 (ymm2);intro p hp;cases hp
theorem ykm0:kAwcE.ok Tryz.prog 17:=by
 intro xs os b r h h3;unfold kAwcE at h;simp only at h;split at h
 .injection h with h;injection h with h1 h2;subst h1;subst h2;exact ynm2
 .cases h
theorem yom2 (k:Int):K.bodyF (ygi2) (K.runF (ygi2) 30) 7 [.int .u8 k,.nils,.nils] (Heap.of []) Hint.auto (K.endC K.openE 0 ⟨.ret (.bool true),[],[]⟩) =
  (bc (S.inR k 256) (bc (S.okC (S.mkC [] 0 k)) (bc (S.an (S.okC (S.mkC [] 0 k)) (S.setOk (S.wd (S.mkC [] 0 k)))) (bc (S.an (S.okC (S.mkC [] 0 k)) (S.setOk (S.wd (S.mkC [] 0 k)))) (bc (S.okC (S.cpC (S.mkC [] 0 k))) (bc (S.okC (S.cpC (S.mkC [] 0 k))) (bc (S.yrf0 (S.Wof (wList (S.cpC (S.mkC [] 0 k)))) (S.Wof (wList (S.cpC (S.mkC [] 0 k))))) (bc (S.okC (S.mkC [] 0 k)) (bc (S.yrf0 (S.Wof (wList (S.mkC [] 0 k))) (S.Wof (wList (S.mkC [] 0 k)))) (true=true/\True) False) False) False) False) False) False) False) False) False):=by kernel_rfl
theorem ypm2 (k:Int) (h0:S.an (S.inR k 256) (S.an (true) (true))=true)  : HTr Tryz.prog 7 [.int .u8 k,.nils,.nils] [] ⟨.ret (.bool true),[],[]⟩:=by
 refine K.yca0 good (A:=ygi2) (yga0 ?_) K.yea0 (k:=30) (cast (yom2 k).symm ?_)
 .intro p hp;simp only [List.mem_cons,List.not_mem_nil,or_false] at hp;rcases hp with rfl | rfl | rfl | rfl | rfl;exact ypx0;exact yyd0;exact yei0;exact yhi0;exact ykm0
 .obtain ⟨hk,h1⟩:=S.yia0.1 h0;obtain ⟨hv,hv2⟩:=S.yia0.1 h1;have hs:=S.yrx0 S.yhh0 hk;have hz:=(S.ydf0.1 hs).1;have hC:=S.okZ_C hz;have ho:=S.yfi0 hs;have hq:S.okQ (S.cpC (S.mkC [] 0 k))=true:=S.yjm0 ho;simp only [hk,hC,ho,S.okQ_C hq, S.an,S.ygi0,yoa0,yna0,bc_true,bc_false,and_self]
theorem yqm2 (k:Int):K.bodyF (yhi2) (K.runF (yhi2) 30) 7 [.int .u8 k,.nils,.emp 0] (Heap.of [.empty]) Hint.auto (K.endC K.openE 1 ⟨.ret (.bool true),[],[]⟩) =
  (bc (S.inR k 256) (bc (S.okC (S.mkC [] 0 k)) (bc (S.an (S.okC (S.mkC [] 0 k)) (S.setOk (S.wd (S.mkC [] 0 k)))) (bc (S.an (S.okC (S.mkC [] 0 k)) (S.setOk (S.wd (S.mkC [] 0 k)))) (bc (S.okC (S.cpC (S.mkC [] 0 k))) (bc (S.okC (S.cpC (S.mkC [] 0 k))) (bc (S.yrf0 (S.Wof (wList (S.cpC (S.mkC [] 0 k)))) (S.Wof (wList (S.cpC (S.mkC [] 0 k))))) (bc (S.okC (S.mkC [] 0 k)) (bc (S.yrf0 (S.Wof (wList (S.mkC [] 0 k))) (S.Wof (wList (S.mkC [] 0 k)))) (true=true/\True) False) False) False) False) False) False) False) False) False):=by kernel_rfl
theorem yrm2 (k:Int) (h0:S.an (S.inR k 256) (S.an (true) (true))=true)  : HTr Tryz.prog 7 [.int .u8 k,.nils,.emp 0] [.empty] ⟨.ret (.bool true),[],[]⟩:=by
 refine K.yca0 good (A:=yhi2) (yga0 ?_) K.yea0 (k:=30) (cast (yqm2 k).symm ?_)
 .intro p hp;simp only [List.mem_cons,List.not_mem_nil,or_false] at hp;rcases hp with rfl | rfl | rfl | rfl | rfl;exact ypx0;exact yyd0;exact yei0;exact yhi0;exact ykm0
 .obtain ⟨hk,h1⟩:=S.yia0.1 h0;obtain ⟨hv,hv2⟩:=S.yia0.1 h1;have hs:=S.yrx0 S.yhh0 hk;have hz:=(S.ydf0.1 hs).1;have hC:=S.okZ_C hz;have ho:=S.yfi0 hs;have hq:S.okQ (S.cpC (S.mkC [] 0 k))=true:=S.yjm0 ho;simp only [hk,hC,ho,S.okQ_C hq, S.an,S.ygi0,yoa0,yna0,bc_true,bc_false,and_self]
theorem ysm2 (et2 L2 q2:Nat) (w2:Own) (vs2:List LV) (k:Int):K.bodyF (yii2) (K.runF (yii2) 30) 7 [.int .u8 k,.nils,.slice 0 0 L2 (.known q2)] (Heap.of [.flat [.i .i64,.i .u16,.i .u16,.i .u8,.i .i64] et2 w2 vs2]) Hint.auto (K.endC K.openE 1 ⟨.ret (.bool true),[],[]⟩) =
  (bc (notB (notB (ltI 12 ↑L2))) (true=true/\True) (bc (S.inR k 256) (bc (S.okC (S.mkC [] 0 k)) (bc (S.an (S.okC (S.mkC [] 0 k)) (S.setOk (S.wd (S.mkC [] 0 k)))) (bc (S.an (S.okC (S.mkC [] 0 k)) (S.setOk (S.wd (S.mkC [] 0 k)))) (bc (S.an (S.okQ (S.cpC (S.mkC [] 0 k))) (S.an (S.ywc0 vs2 L2) (S.an (S.inR 0 1000) (notB (ltI 900 ↑L2))))) (co_B et2 L2 q2 w2 vs2 (S.wd (S.mkC [] 0 k)) (S.cpC (S.mkC [] 0 k)) (S.mkC [] 0 k) 0/\(bc (S.okC (S.madeC vs2 (Int.toNat (↑L2-0)) 0 (S.cpC (S.mkC [] 0 k)))) (bc (S.okC (S.madeC vs2 (Int.toNat (↑L2-0)) 0 (S.cpC (S.mkC [] 0 k)))) (bc (S.yrf0 (S.Wof (wList (S.madeC vs2 (Int.toNat (↑L2-0)) 0 (S.cpC (S.mkC [] 0 k))))) (S.Wof (wList (S.madeC vs2 (Int.toNat (↑L2-0)) 0 (S.cpC (S.mkC [] 0 k)))))) (bc (S.okC (S.mkC [] 0 k)) (bc (S.yrf0 (S.Wof (wList (S.mkC [] 0 k))) (S.Wof (wList (S.mkC [] 0 k)))) (true=true/\True) False) False) False) False) False)) False) False) False) False) False)):=by kernel_rfl
theorem ytm2 (et2 L2 q2:Nat) (w2:Own) (vs2:List LV) (k:Int) (h0:S.an (S.inR k 256) (S.an (true) (S.ywc0 vs2 L2))=true)  : HTr Tryz.prog 7 [.int .u8 k,.nils,.slice 0 0 L2 (.known q2)] [.flat [.i .i64,.i .u16,.i .u16,.i .u8,.i .i64] et2 w2 vs2] ⟨.ret (.bool true),[],[]⟩:=by
 refine K.yca0 good (A:=yii2) (ynr0 ?_) K.yea0 (k:=30) (cast (ysm2 et2 L2 q2 w2 vs2 k).symm ?_)
 .intro p hp;simp only [List.mem_cons,List.not_mem_nil,or_false] at hp;rcases hp with rfl | rfl | rfl | rfl | rfl;exact ypx0;exact yyd0;exact yei0;exact yhi0;exact ykm0
 .obtain ⟨hk,h1⟩:=S.yia0.1 h0;obtain ⟨hv,hv2⟩:=S.yia0.1 h1;have hs:=S.yrx0 S.yhh0 hk;by_cases hL2:12<(L2:Int)
  .simp only [ yka0.2 hL2,yoa0,yna0,bc_true,bc_false,and_self]
  have m12:ltI 12 L2=false:=yba0.2 (by omega)
  have m9:notB (ltI 900 L2)=true:=by rw [yba0.2 (by omega)];rfl
  have hz:=(S.ydf0.1 hs).1;have hC:=S.okZ_C hz;have ho:=S.yfi0 hs;have hq:S.okQ (S.cpC (S.mkC [] 0 k))=true:=S.yjm0 ho;have z2:S.inR 0 1000=true:=rfl;have B:=ylm2 et2 L2 q2 w2 vs2 (S.wd (S.mkC [] 0 k)) hv2 (by omega) (S.cpC (S.mkC [] 0 k)) (S.mkC [] 0 k) 0 hq z2
  have hq2:=S.yox0 hv2 (Int.toNat ((L2:Int)-0)) 0 _ (by decide) (by omega) hq
  simp only [hk,hC,ho,hq,S.okQ_C hq2,hv2,z2,m12,m9, S.an,S.ygi0,yoa0,yna0,bc_true,bc_false,and_self,true_and,and_true];exact B
theorem yum2 (k:Int):K.bodyF (yji2) (K.runF (yji2) 30) 7 [.int .u8 k,.emp 0,.nils] (Heap.of [.empty]) Hint.auto (K.endC K.openE 1 ⟨.ret (.bool true),[],[]⟩) =
  (bc (S.inR k 256) (bc (S.okC (S.mkC [] 0 k)) (bc (S.an (S.okC (S.mkC [] 0 k)) (S.setOk (S.wd (S.mkC [] 0 k)))) (bc (S.an (S.okC (S.mkC [] 0 k)) (S.setOk (S.wd (S.mkC [] 0 k)))) (bc (S.okC (S.cpC (S.mkC [] 0 k))) (bc (S.okC (S.cpC (S.mkC [] 0 k))) (bc (S.yrf0 (S.Wof (wList (S.cpC (S.mkC [] 0 k)))) (S.Wof (wList (S.cpC (S.mkC [] 0 k))))) (bc (S.okC (S.mkC [] 0 k)) (bc (S.yrf0 (S.Wof (wList (S.mkC [] 0 k))) (S.Wof (wList (S.mkC [] 0 k)))) (true=true/\True) False) False) False) False) False) False) False) False) False):=by kernel_rfl
theorem yvm2 (k:Int) (h0:S.an (S.inR k 256) (S.an (true) (true))=true)  : HTr Tryz.prog 7 [.int .u8 k,.emp 0,.nils] [.empty] ⟨.ret (.bool true),[],[]⟩:=by
 refine K.yca0 good (A:=yji2) (yga0 ?_) K.yea0 (k:=30) (cast (yum2 k).symm ?_)
 .intro p hp;simp only [List.mem_cons,List.not_mem_nil,or_false] at hp;rcases hp with rfl | rfl | rfl | rfl | rfl;exact ypx0;exact yyd0;exact yei0;exact yhi0;exact ykm0
 .obtain ⟨hk,h1⟩:=S.yia0.1 h0;obtain ⟨hv,hv2⟩:=S.yia0.1 h1;have hs:=S.yrx0 S.yhh0 hk;have hz:=(S.ydf0.1 hs).1;have hC:=S.okZ_C hz;have ho:=S.yfi0 hs;have hq:S.okQ (S.cpC (S.mkC [] 0 k))=true:=S.yjm0 ho;simp only [hk,hC,ho,S.okQ_C hq, S.an,S.ygi0,yoa0,yna0,bc_true,bc_false,and_self]
theorem ywm2 (k:Int):K.bodyF (yki2) (K.runF (yki2) 30) 7 [.int .u8 k,.emp 0,.emp 1] (Heap.of [.empty,.empty]) Hint.auto (K.endC K.openE 2 ⟨.ret (.bool true),[],[]⟩) =
  (bc (S.inR k 256) (bc (S.okC (S.mkC [] 0 k)) (bc (S.an (S.okC (S.mkC [] 0 k)) (S.setOk (S.wd (S.mkC [] 0 k)))) (bc (S.an (S.okC (S.mkC [] 0 k)) (S.setOk (S.wd (S.mkC [] 0 k)))) (bc (S.okC (S.cpC (S.mkC [] 0 k))) (bc (S.okC (S.cpC (S.mkC [] 0 k))) (bc (S.yrf0 (S.Wof (wList (S.cpC (S.mkC [] 0 k)))) (S.Wof (wList (S.cpC (S.mkC [] 0 k))))) (bc (S.okC (S.mkC [] 0 k)) (bc (S.yrf0 (S.Wof (wList (S.mkC [] 0 k))) (S.Wof (wList (S.mkC [] 0 k)))) (true=true/\True) False) False) False) False) False) False) False) False) False):=by kernel_rfl
theorem yxm2 (k:Int) (h0:S.an (S.inR k 256) (S.an (true) (true))=true)  : HTr Tryz.prog 7 [.int .u8 k,.emp 0,.emp 1] [.empty,.empty] ⟨.ret (.bool true),[],[]⟩:=by
 refine K.yca0 good (A:=yki2) (yga0 ?_) K.yea0 (k:=30) (cast (ywm2 k).symm ?_)
 .intro p hp;simp only [List.mem_cons,List.not_mem_nil,or_false] at hp;rcases hp with rfl | rfl | rfl | rfl | rfl;exact ypx0;exact yyd0;exact yei0;exact yhi0;exact ykm0
 .obtain ⟨hk,h1⟩:=S.yia0.1 h0;obtain ⟨hv,hv2⟩:=S.yia0.1 h1;have hs:=S.yrx0 S.yhh0 hk;have hz:=(S.ydf0.1 hs).1;have hC:=S.okZ_C hz;have ho:=S.yfi0 hs;have hq:S.okQ (S.cpC (S.mkC [] 0 k))=true:=S.yjm0 ho;simp only [hk,hC,ho,S.okQ_C hq, S.an,S.ygi0,yoa0,yna0,bc_true,bc_false,and_self]
theorem yym2 (et2 L2 q2:Nat) (w2:Own) (vs2:List LV) (k:Int):K.bodyF (yli2) (K.runF (yli2) 30) 7 [.int .u8 k,.emp 0,.slice 1 0 L2 (.known q2)] (Heap.of [.empty,.flat [.i .i64,.i .u16,.i .u16,.i .u8,.i .i64] et2 w2 vs2]) Hint.auto (K.endC K.openE 2 ⟨.ret (.bool true),[],[]⟩) =
  (bc (notB (notB (ltI 12 ↑L2))) (true=true/\True) (bc (S.inR k 256) (bc (S.okC (S.mkC [] 0 k)) (bc (S.an (S.okC (S.mkC [] 0 k)) (S.setOk (S.wd (S.mkC [] 0 k)))) (bc (S.an (S.okC (S.mkC [] 0 k)) (S.setOk (S.wd (S.mkC [] 0 k)))) (bc (S.an (S.okQ (S.cpC (S.mkC [] 0 k))) (S.an (S.ywc0 vs2 L2) (S.an (S.inR 0 1000) (notB (ltI 900 ↑L2))))) (co_B et2 L2 q2 w2 vs2 (S.wd (S.mkC [] 0 k)) (S.cpC (S.mkC [] 0 k)) (S.mkC [] 0 k) 0/\(bc (S.okC (S.madeC vs2 (Int.toNat (↑L2-0)) 0 (S.cpC (S.mkC [] 0 k)))) (bc (S.okC (S.madeC vs2 (Int.toNat (↑L2-0)) 0 (S.cpC (S.mkC [] 0 k)))) (bc (S.yrf0 (S.Wof (wList (S.madeC vs2 (Int.toNat (↑L2-0)) 0 (S.cpC (S.mkC [] 0 k))))) (S.Wof (wList (S.madeC vs2 (Int.toNat (↑L2-0)) 0 (S.cpC (S.mkC [] 0 k)))))) (bc (S.okC (S.mkC [] 0 k)) (bc (S.yrf0 (S.Wof (wList (S.mkC [] 0 k))) (S.Wof (wList (S.mkC [] 0 k)))) (true=true/\True) False) False) False) False) False)) False) False) False) False) False)):=by kernel_rfl
theorem yzm2 (et2 L2 q2:Nat) (w2:Own) (vs2:List LV) (k:Int) (h0:S.an (S.inR k 256) (S.an (true) (S.ywc0 vs2 L2))=true)  : HTr Tryz.prog 7 [.int .u8 k,.emp 0,.slice 1 0 L2 (.known q2)] [.empty,.flat [.i .i64,.i .u16,.i .u16,.i .u8,.i .i64] et2 w2 vs2] ⟨.ret (.bool true),[],[]⟩:=by
 refine K.yca0 good (A:=yli2) (ynr0 ?_) K.yea0 (k:=30) (cast (yym2 et2 L2 q2 w2 vs2 k).symm ?_)
 .intro p hp;simp only [List.mem_cons,List.not_mem_nil,or_false] at hp;rcases hp with rfl | rfl | rfl | rfl | rfl;exact ypx0;exact yyd0;exact yei0;exact yhi0;exact ykm0
 .obtain ⟨hk,h1⟩:=S.yia0.1 h0;obtain ⟨hv,hv2⟩:=S.yia0.1 h1;have hs:=S.yrx0 S.yhh0 hk;by_cases hL2:12<(L2:Int)
  .simp only [ yka0.2 hL2,yoa0,yna0,bc_true,bc_false,and_self]
  have m12:ltI 12 L2=false:=yba0.2 (by omega)
  have m9:notB (ltI 900 L2)=true:=by rw [yba0.2 (by omega)];rfl
  have hz:=(S.ydf0.1 hs).1;have hC:=S.okZ_C hz;have ho:=S.yfi0 hs;have hq:S.okQ (S.cpC (S.mkC [] 0 k))=true:=S.yjm0 ho;have z2:S.inR 0 1000=true:=rfl;have B:=ylm2 et2 L2 q2 w2 vs2 (S.wd (S.mkC [] 0 k)) hv2 (by omega) (S.cpC (S.mkC [] 0 k)) (S.mkC [] 0 k) 0 hq z2
  have hq2:=S.yox0 hv2 (Int.toNat ((L2:Int)-0)) 0 _ (by decide) (by omega) hq
  simp only [hk,hC,ho,hq,S.okQ_C hq2,hv2,z2,m12,m9, S.an,S.ygi0,yoa0,yna0,bc_true,bc_false,and_self,true_and,and_true];exact B
theorem yan2 (et L q:Nat) (w:Own) (vs:List LV)  (k:Int):K.bodyF (ymi2) (K.runF (ymi2) 30) 7 [.int .u8 k,.slice 0 0 L (.known q),.nils] (Heap.of [.flat [.i .i64,.i .u16,.i .u16,.i .u8,.i .i64] et w vs]) Hint.auto (K.endC K.openE 1 ⟨.ret (.bool true),[],[]⟩) =
  (bc (notB (notB (ltI 12 ↑L))) (true=true/\True) (bc (S.an (S.inR k 256) (S.an (S.ywc0 vs L) (notB (ltI 900 ↑L)))) (bc (S.okC (S.mkC vs L k)) (bc (S.an (S.okC (S.mkC vs L k)) (S.setOk (S.wd (S.mkC vs L k)))) (bc (S.an (S.okC (S.mkC vs L k)) (S.setOk (S.wd (S.mkC vs L k)))) (bc (S.okC (S.cpC (S.mkC vs L k))) (bc (S.okC (S.cpC (S.mkC vs L k))) (bc (S.yrf0 (S.Wof (wList (S.cpC (S.mkC vs L k)))) (S.Wof (wList (S.cpC (S.mkC vs L k))))) (bc (S.okC (S.mkC vs L k)) (bc (S.yrf0 (S.Wof (wList (S.mkC vs L k))) (S.Wof (wList (S.mkC vs L k)))) (true=true/\True) False) False) False) False) False) False) False) False) False)):=by kernel_rfl
theorem ybn2 (et L q:Nat) (w:Own) (vs:List LV)  (k:Int) (h0:S.an (S.inR k 256) (S.an (S.ywc0 vs L) (true))=true)  : HTr Tryz.prog 7 [.int .u8 k,.slice 0 0 L (.known q),.nils] [.flat [.i .i64,.i .u16,.i .u16,.i .u8,.i .i64] et w vs] ⟨.ret (.bool true),[],[]⟩:=by
 refine K.yca0 good (A:=ymi2) (yga0 ?_) K.yea0 (k:=30) (cast (yan2 et L q w vs k).symm ?_)
 .intro p hp;simp only [List.mem_cons,List.not_mem_nil,or_false] at hp;rcases hp with rfl | rfl | rfl | rfl | rfl;exact ypx0;exact yyd0;exact yei0;exact yhi0;exact ykm0
 .obtain ⟨hk,h1⟩:=S.yia0.1 h0;obtain ⟨hv,hv2⟩:=S.yia0.1 h1;by_cases hL:12<(L:Int)
  .simp only [yka0.2 hL,yoa0,yna0,bc_true,bc_false,and_self]
  have l12:ltI 12 L=false:=yba0.2 (by omega)
  have l9:notB (ltI 900 L)=true:=by rw [yba0.2 (by omega)];rfl
  have hs:=S.yrx0 hv hk;have hz:=(S.ydf0.1 hs).1;have hC:=S.okZ_C hz;have ho:=S.yfi0 hs;have hq:S.okQ (S.cpC (S.mkC vs L k))=true:=S.yjm0 ho;simp only [hk,hC,ho,S.okQ_C hq,hv,l12,l9,S.an,S.ygi0,yoa0,yna0,bc_true,bc_false,and_self]
theorem ycn2 (et L q:Nat) (w:Own) (vs:List LV)  (k:Int):K.bodyF (yni2) (K.runF (yni2) 30) 7 [.int .u8 k,.slice 0 0 L (.known q),.emp 1] (Heap.of [.flat [.i .i64,.i .u16,.i .u16,.i .u8,.i .i64] et w vs,.empty]) Hint.auto (K.endC K.openE 2 ⟨.ret (.bool true),[],[]⟩) =
  (bc (notB (notB (ltI 12 ↑L))) (true=true/\True) (bc (S.an (S.inR k 256) (S.an (S.ywc0 vs L) (notB (ltI 900 ↑L)))) (bc (S.okC (S.mkC vs L k)) (bc (S.an (S.okC (S.mkC vs L k)) (S.setOk (S.wd (S.mkC vs L k)))) (bc (S.an (S.okC (S.mkC vs L k)) (S.setOk (S.wd (S.mkC vs L k)))) (bc (S.okC (S.cpC (S.mkC vs L k))) (bc (S.okC (S.cpC (S.mkC vs L k))) (bc (S.yrf0 (S.Wof (wList (S.cpC (S.mkC vs L k)))) (S.Wof (wList (S.cpC (S.mkC vs L k))))) (bc (S.okC (S.mkC vs L k)) (bc (S.yrf0 (S.Wof (wList (S.mkC vs L k))) (S.Wof (wList (S.mkC vs L k)))) (true=true/\True) False) False) False) False) False) False) False) False) False)):=by kernel_rfl
theorem ydn2 (et L q:Nat) (w:Own) (vs:List LV)  (k:Int) (h0:S.an (S.inR k 256) (S.an (S.ywc0 vs L) (true))=true)  : HTr Tryz.prog 7 [.int .u8 k,.slice 0 0 L (.known q),.emp 1] [.flat [.i .i64,.i .u16,.i .u16,.i .u8,.i .i64] et w vs,.empty] ⟨.ret (.bool true),[],[]⟩:=by
 refine K.yca0 good (A:=yni2) (yga0 ?_) K.yea0 (k:=30) (cast (ycn2 et L q w vs k).symm ?_)
 .intro p hp;simp only [List.mem_cons,List.not_mem_nil,or_false] at hp;rcases hp with rfl | rfl | rfl | rfl | rfl;exact ypx0;exact yyd0;exact yei0;exact yhi0;exact ykm0
 .obtain ⟨hk,h1⟩:=S.yia0.1 h0;obtain ⟨hv,hv2⟩:=S.yia0.1 h1;by_cases hL:12<(L:Int)
  .simp only [yka0.2 hL,yoa0,yna0,bc_true,bc_false,and_self]
  have l12:ltI 12 L=false:=yba0.2 (by omega)
  have l9:notB (ltI 900 L)=true:=by rw [yba0.2 (by omega)];rfl
  have hs:=S.yrx0 hv hk;have hz:=(S.ydf0.1 hs).1;have hC:=S.okZ_C hz;have ho:=S.yfi0 hs;have hq:S.okQ (S.cpC (S.mkC vs L k))=true:=S.yjm0 ho;simp only [hk,hC,ho,S.okQ_C hq,hv,l12,l9,S.an,S.ygi0,yoa0,yna0,bc_true,bc_false,and_self]
theorem yen2 (et L q:Nat) (w:Own) (vs:List LV) (et2 L2 q2:Nat) (w2:Own) (vs2:List LV) (k:Int):K.bodyF (yoi2) (K.runF (yoi2) 30) 7 [.int .u8 k,.slice 0 0 L (.known q),.slice 1 0 L2 (.known q2)] (Heap.of [.flat [.i .i64,.i .u16,.i .u16,.i .u8,.i .i64] et w vs,.flat [.i .i64,.i .u16,.i .u16,.i .u8,.i .i64] et2 w2 vs2]) Hint.auto (K.endC K.openE 2 ⟨.ret (.bool true),[],[]⟩) =
  (bc (notB (notB (ltI 12 ↑L))) (true=true/\True) (bc (notB (notB (ltI 12 ↑L2))) (true=true/\True) (bc (S.an (S.inR k 256) (S.an (S.ywc0 vs L) (notB (ltI 900 ↑L)))) (bc (S.okC (S.mkC vs L k)) (bc (S.an (S.okC (S.mkC vs L k)) (S.setOk (S.wd (S.mkC vs L k)))) (bc (S.an (S.okC (S.mkC vs L k)) (S.setOk (S.wd (S.mkC vs L k)))) (bc (S.an (S.okQ (S.cpC (S.mkC vs L k))) (S.an (S.ywc0 vs2 L2) (S.an (S.inR 0 1000) (notB (ltI 900 ↑L2))))) (co_B et2 L2 q2 w2 vs2 (S.wd (S.mkC vs L k)) (S.cpC (S.mkC vs L k)) (S.mkC vs L k) 0/\(bc (S.okC (S.madeC vs2 (Int.toNat (↑L2-0)) 0 (S.cpC (S.mkC vs L k)))) (bc (S.okC (S.madeC vs2 (Int.toNat (↑L2-0)) 0 (S.cpC (S.mkC vs L k)))) (bc (S.yrf0 (S.Wof (wList (S.madeC vs2 (Int.toNat (↑L2-0)) 0 (S.cpC (S.mkC vs L k))))) (S.Wof (wList (S.madeC vs2 (Int.toNat (↑L2-0)) 0 (S.cpC (S.mkC vs L k)))))) (bc (S.okC (S.mkC vs L k)) (bc (S.yrf0 (S.Wof (wList (S.mkC vs L k))) (S.Wof (wList (S.mkC vs L k)))) (true=true/\True) False) False) False) False) False)) False) False) False) False) False))):=by kernel_rfl
theorem yfn2 (et L q:Nat) (w:Own) (vs:List LV) (et2 L2 q2:Nat) (w2:Own) (vs2:List LV) (k:Int) (h0:S.an (S.inR k 256) (S.an (S.ywc0 vs L) (S.ywc0 vs2 L2))=true)  : HTr Tryz.prog 7 [.int .u8 k,.slice 0 0 L (.known q),.slice 1 0 L2 (.known q2)] [.flat [.i .i64,.i .u16,.i .u16,.i .u8,.i .i64] et w vs,.flat [.i .i64,.i .u16,.i .u16,.i .u8,.i .i64] et2 w2 vs2] ⟨.ret (.bool true),[],[]⟩:=by
 refine K.yca0 good (A:=yoi2) (ynr0 ?_) K.yea0 (k:=30) (cast (yen2 et L q w vs et2 L2 q2 w2 vs2 k).symm ?_)
 .intro p hp;simp only [List.mem_cons,List.not_mem_nil,or_false] at hp;rcases hp with rfl | rfl | rfl | rfl | rfl;exact ypx0;exact yyd0;exact yei0;exact yhi0;exact ykm0
 .obtain ⟨hk,h1⟩:=S.yia0.1 h0;obtain ⟨hv,hv2⟩:=S.yia0.1 h1;by_cases hL:12<(L:Int)
  .simp only [yka0.2 hL,yoa0,yna0,bc_true,bc_false,and_self]
  have l12:ltI 12 L=false:=yba0.2 (by omega)
  have l9:notB (ltI 900 L)=true:=by rw [yba0.2 (by omega)];rfl
  have hs:=S.yrx0 hv hk;by_cases hL2:12<(L2:Int)
  .simp only [l12,yka0.2 hL2,yoa0,yna0,bc_true,bc_false,and_self]
  have m12:ltI 12 L2=false:=yba0.2 (by omega)
  have m9:notB (ltI 900 L2)=true:=by rw [yba0.2 (by omega)];rfl
  have hz:=(S.ydf0.1 hs).1;have hC:=S.okZ_C hz;have ho:=S.yfi0 hs;have hq:S.okQ (S.cpC (S.mkC vs L k))=true:=S.yjm0 ho;have z2:S.inR 0 1000=true:=rfl;have B:=ylm2 et2 L2 q2 w2 vs2 (S.wd (S.mkC vs L k)) hv2 (by omega) (S.cpC (S.mkC vs L k)) (S.mkC vs L k) 0 hq z2
  have hq2:=S.yox0 hv2 (Int.toNat ((L2:Int)-0)) 0 _ (by decide) (by omega) hq
  simp only [hk,hC,ho,hq,S.okQ_C hq2,hv2,z2,m12,m9,hv,l12,l9,S.an,S.ygi0,yoa0,yna0,bc_true,bc_false,and_self,true_and,and_true];exact B
theorem cy_NN (k:Int) (hl:0<=k) (hu:k<=255):HT Tryz.prog 7 [.int .u8 k,.nils,.nils] (Heap.of []) (.ret (.bool true)) (Heap.of []):=ypm2 k (S.an_t2 (S.yha0.2 ⟨hl,by omega⟩) (S.an_t2 (rfl) (rfl)))
theorem cy_NE (k:Int) (hl:0<=k) (hu:k<=255):HT Tryz.prog 7 [.int .u8 k,.nils,.emp 0] (Heap.of [.empty]) (.ret (.bool true)) (Heap.of [.empty]):=yrm2 k (S.an_t2 (S.yha0.2 ⟨hl,by omega⟩) (S.an_t2 (rfl) (rfl)))
theorem cy_NS (k:Int) (hl:0<=k) (hu:k<=255) (l2:List S.Act21) (q2 et2:Nat) (hg2:∀ a,a∈l2->(0<=a.steps/\a.steps<=65535)/\0<=a.v/\a.v<=255):HT Tryz.prog 7 [.int .u8 k,.nils,.slice 0 0 l2.length (.known q2)] (Heap.of [.flat S.ylc0 et2 .ro (S.yqg0 l2)]) (.ret (.bool true)) (Heap.of [.flat S.ylc0 et2 .ro (S.yqg0 l2)]):=ytm2 et2 l2.length q2 .ro (S.yqg0 l2) k (S.an_t2 (S.yha0.2 ⟨hl,by omega⟩) (S.an_t2 (rfl) (S.ywj0 l2 hg2)))
theorem cy_EN (k:Int) (hl:0<=k) (hu:k<=255):HT Tryz.prog 7 [.int .u8 k,.emp 0,.nils] (Heap.of [.empty]) (.ret (.bool true)) (Heap.of [.empty]):=yvm2 k (S.an_t2 (S.yha0.2 ⟨hl,by omega⟩) (S.an_t2 (rfl) (rfl)))
theorem cy_EE (k:Int) (hl:0<=k) (hu:k<=255):HT Tryz.prog 7 [.int .u8 k,.emp 0,.emp 1] (Heap.of [.empty,.empty]) (.ret (.bool true)) (Heap.of [.empty,.empty]):=yxm2 k (S.an_t2 (S.yha0.2 ⟨hl,by omega⟩) (S.an_t2 (rfl) (rfl)))
theorem cy_ES (k:Int) (hl:0<=k) (hu:k<=255) (l2:List S.Act21) (q2 et2:Nat) (hg2:∀ a,a∈l2->(0<=a.steps/\a.steps<=65535)/\0<=a.v/\a.v<=255):HT Tryz.prog 7 [.int .u8 k,.emp 0,.slice 1 0 l2.length (.known q2)] (Heap.of [.empty,.flat S.ylc0 et2 .ro (S.yqg0 l2)]) (.ret (.bool true)) (Heap.of [.empty,.flat S.ylc0 et2 .ro (S.yqg0 l2)]):=yzm2 et2 l2.length q2 .ro (S.yqg0 l2) k (S.an_t2 (S.yha0.2 ⟨hl,by omega⟩) (S.an_t2 (rfl) (S.ywj0 l2 hg2)))
theorem cy_SN (k:Int) (hl:0<=k) (hu:k<=255) (l1:List S.Act21) (q1 et1:Nat) (hg1:∀ a,a∈l1->(0<=a.steps/\a.steps<=65535)/\0<=a.v/\a.v<=255):HT Tryz.prog 7 [.int .u8 k,.slice 0 0 l1.length (.known q1),.nils] (Heap.of [.flat S.ylc0 et1 .ro (S.yqg0 l1)]) (.ret (.bool true)) (Heap.of [.flat S.ylc0 et1 .ro (S.yqg0 l1)]):=ybn2 et1 l1.length q1 .ro (S.yqg0 l1) k (S.an_t2 (S.yha0.2 ⟨hl,by omega⟩) (S.an_t2 (S.ywj0 l1 hg1) (rfl)))
theorem cy_SE (k:Int) (hl:0<=k) (hu:k<=255) (l1:List S.Act21) (q1 et1:Nat) (hg1:∀ a,a∈l1->(0<=a.steps/\a.steps<=65535)/\0<=a.v/\a.v<=255):HT Tryz.prog 7 [.int .u8 k,.slice 0 0 l1.length (.known q1),.emp 1] (Heap.of [.flat S.ylc0 et1 .ro (S.yqg0 l1),.empty]) (.ret (.bool true)) (Heap.of [.flat S.ylc0 et1 .ro (S.yqg0 l1),.empty]):=ydn2 et1 l1.length q1 .ro (S.yqg0 l1) k (S.an_t2 (S.yha0.2 ⟨hl,by omega⟩) (S.an_t2 (S.ywj0 l1 hg1) (rfl)))
theorem cy_SS (k:Int) (hl:0<=k) (hu:k<=255) (l1:List S.Act21) (q1 et1:Nat) (hg1:∀ a,a∈l1->(0<=a.steps/\a.steps<=65535)/\0<=a.v/\a.v<=255) (l2:List S.Act21) (q2 et2:Nat) (hg2:∀ a,a∈l2->(0<=a.steps/\a.steps<=65535)/\0<=a.v/\a.v<=255):HT Tryz.prog 7 [.int .u8 k,.slice 0 0 l1.length (.known q1),.slice 1 0 l2.length (.known q2)] (Heap.of [.flat S.ylc0 et1 .ro (S.yqg0 l1),.flat S.ylc0 et2 .ro (S.yqg0 l2)]) (.ret (.bool true)) (Heap.of [.flat S.ylc0 et1 .ro (S.yqg0 l1),.flat S.ylc0 et2 .ro (S.yqg0 l2)]):=yfn2 et1 l1.length q1 .ro (S.yqg0 l1) et2 l2.length q2 .ro (S.yqg0 l2) k (S.an_t2 (S.yha0.2 ⟨hl,by omega⟩) (S.an_t2 (S.ywj0 l1 hg1) (S.ywj0 l2 hg2)))
end Go.Proofs.YtnpbgnjiihecgaaGreat.Ev
