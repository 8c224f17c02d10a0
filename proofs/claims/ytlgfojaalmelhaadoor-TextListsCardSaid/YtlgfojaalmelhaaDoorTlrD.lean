/- Contracts, what they say: Tlr. -/
import Derived.Test.YtlgfojaalmelhaaDoorTrfD
import Derived.Test.YtlgfojaalmelhaaDoorTlsD
namespace Go.Proofs.YtlgfojaalmelhaaDoor.Ev
open Go
set_option linter.unusedVariables false
namespace S
noncomputable section
/-- The lines from a place on. -/
def lr (vs : List LV) (o W : Nat) (a i : Int) : List LV := ls vs (rem W i) (o + i.toNat) (rem W i) ((a + i) % 65536)
def lrl (vs : List LV) (o W : Nat) (a i : Int) : Nat := lenL (lr vs o W a i)
def okL (vs : List LV) (o W M : Nat) (ss : List LV) (a i : Int) : Bool := an (an (okQ vs o W i) (Nat.beq (lenL ss) M)) (an (Nat.ble (M + rem W i) 1000) (isW a))

def eqT (ss tt : List LV) (n : Nat) : Bool := @Nat.rec (fun _ => Bool) true (fun i r => an (eqB (strOf (K.atV ss i)) (strOf (K.atV tt i))) r) n
/-- Are these the same texts, so many? -/
def sam (ss tt : List LV) (M : Nat) : Bool := an (an (Nat.beq (lenL ss) M) (Nat.beq (lenL tt) M)) (an (eqT ss tt M) (Nat.ble M 1000))

def q0 (vs : List LV) (o : Nat) (i : Int) : Int := wrapK IntKind.i64 (intOf (K.atV vs (o + Int.toNat i * 1)))
def byL : List UInt8 := [46, 98, 121, 116, 101, 32, 36]
end
end S
/-- The loop over the lines, as its contract says. -/
def lr_T (a i : Int) (et o W M : Nat) (cp : Cap) (w : Own) (vs ss : List LV) : Prop := K.LOk Tryd.prog 19 79 (inner (inner (blkOf 19 0))) [0, 1, 5, 6] [.int .i64 a, .slice 0 o W cp, .slice 1 0 M (.rest 0), .int .i64 i] [.flat [.i .u8] et w vs, .flat [.sr] 9 (.grow 1) ss] ⟨.exit 0, [(5, .slice 2 0 (M + S.lrl vs o W a i) (.rest 0))], [(1, .dead)], [.flat [.sr] 9 (.grow 1) (app ss (S.lr vs o W a i))]⟩
noncomputable def lrEB : K.BEnt := ⟨[0, 1, 5, 6], 9, (fun xs os => match xs, os with
  | [.int .i64 a, .slice 0 o W cp, .slice 1 0 M (.rest 0), .int .i64 i], [.flat [.i .u8] et w vs, .flat [.sr] e2 (.grow 1) ss] => some (S.okL vs o W M ss a i, ⟨.exit 0, [(5, .slice 2 0 (M + S.lrl vs o W a i) (.rest 0))], [(1, .dead)], [.flat [.sr] 9 (.grow 1) (app ss (S.lr vs o W a i))]⟩)
  | _, _ => none), [9 + 1000000]⟩
noncomputable def lrFB : K.BEnt := ⟨[0, 1, 5, 6], 9, (fun xs os => match xs, os with
  | [.int .i64 a, .slice 0 o W cp, .nils, .int .i64 i], [.flat [.i .u8] et w vs] => some (S.an (eqI i 0) (S.an (S.okL vs o W 0 [] a 0) (Nat.blt 0 W)), ⟨.normal, [(5, .slice 1 0 (S.lrl vs o W a 0) (.rest 0))], [], [.flat [.sr] 9 (.grow 1) (S.lr vs o W a 0)]⟩)
  | _, _ => none), []⟩
noncomputable def rlE : K.CEnt := ⟨9, (fun xs os => match xs, os with
  | [.int .i64 a, .slice 0 o W cp], [.flat [.i .u8] et w vs] => some (S.an (S.okL vs o W 0 [] a 0) (Nat.blt 0 W), ⟨.ret (.slice 1 0 (S.lrl vs o W a 0) (.rest 0)), [], [.flat [.sr] 9 (.grow 1) (S.lr vs o W a 0)]⟩)
  | _, _ => none), [5]⟩
noncomputable def smEB : K.BEnt := ⟨[0, 1, 5], 9, (fun xs os => match xs, os with
  | [.slice 0 0 M (.rest 0), .slice 1 0 N (.rest 0), .int .i64 i], [.flat [.sr] e1 w1 ss, .flat [.sr] e2 w2 tt] => some (Nat.beq N M, ⟨.exit 0, [], [], []⟩)
  | _, _ => none), []⟩
noncomputable def smBB : K.BEnt := ⟨[0, 1, 5], 9, (fun xs os => match xs, os with
  | [.slice 0 0 M (.rest 0), .slice 1 0 N (.rest 0), .int .i64 i], [.flat [.sr] e1 w1 ss, .flat [.sr] e2 w2 tt] => some (Nat.beq N M, ⟨.normal, [], [], []⟩)
  | _, _ => none), []⟩
noncomputable def smE : K.CEnt := ⟨9, (fun xs os => match xs, os with
  | [.slice 0 0 M (.rest 0), .slice 1 0 N (.rest 0)], [.flat [.sr] e1 w1 ss, .flat [.sr] e2 w2 tt] => some (S.an (Nat.beq N M) (S.sam ss tt M), ⟨.ret (.bool true), [], []⟩)
  | _, _ => none), [9 + 1000000]⟩
end Go.Proofs.YtlgfojaalmelhaaDoor.Ev
