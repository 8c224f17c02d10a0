/- Contracts, what they say: Tlc. -/
import Derived.Test.YtlgfojaalmelhaaDoorTakD
import Derived.Test.YtlgfojaalmelhaaDoorTlsD
import Derived.Test.YtlgfojaalmelhaaDoorTdgD
namespace Go.Proofs.YtlgfojaalmelhaaDoor.Ev
open Go
set_option linter.unusedVariables false
namespace S
noncomputable section
def hd46 (s : List UInt8) : Bool := match s with
  | [] => false
  | x :: _ => notB (Nat.beq x.toNat 46)
/-- The lines from a byte on. -/
def la (vs : List LV) (W : Nat) (a : Int) (i : Nat) : List LV := ls vs (W - i) i (W - i) ((a + i) % 65536)
end
end S
/-- The loop over the lines, as its contract says. -/
def lc_T (m a : Int) (i k et e2 W c M : Nat) (w w2 : Own) (vs ss : List LV) : Prop := K.LOk Tryd.prog 6 95 (inner (inner (blkOf 6 0))) [0, 1, 5, 6, 7] [.int .u16 a, .slice 0 0 W (.known c), .slice 1 0 M (.rest 0), .int .i64 i, .int .i64 k] [.flat [.i .u8] et w vs, .flat [.sr] e2 w2 ss, .glob 0 S.tabV, .glob 1 [.int .i64 m]] ⟨.exit 0, [(1, .slice 0 0 W (.known c)), (6, .int .i64 W)], [], []⟩
noncomputable def lcEB : K.BEnt := ⟨[0, 1, 5, 6, 7], 9, (fun xs os => match xs, os with
  | [.int .u16 a, .slice 0 0 W (.known c), .slice 1 0 M (.rest 0), .int .i64 i, .int .i64 k], [.flat [.i .u8] et w vs, .flat [.sr] e2 w2 ss, .glob g cs, .glob g1 [.int .i64 m]] => some (true, ⟨.exit 0, [(1, .slice 0 0 W (.known c)), (6, .int .i64 W)], [], []⟩)
  | _, _ => none), [2000000]⟩
noncomputable def lcBB : K.BEnt := ⟨[0, 1, 5, 6, 7], 9, (fun xs os => match xs, os with
  | [.int .u16 a, .slice 0 0 W (.known c), .slice 1 0 M (.rest 0), .int .i64 i, .int .i64 k], [.flat [.i .u8] et w vs, .flat [.sr] e2 w2 ss, .glob g cs, .glob g1 [.int .i64 m]] => some (true, ⟨.normal, [(1, .slice 0 0 W (.known c)), (6, .int .i64 W)], [], []⟩)
  | _, _ => none), [2000000]⟩
end Go.Proofs.YtlgfojaalmelhaaDoor.Ev
