/- Contracts, what they say: Trz. -/
import Derived.Test.YtlgfojaalmelhaaDoorTrpD
namespace Go.Proofs.YtlgfojaalmelhaaDoor.Ev
open Go
set_option linter.unusedVariables false
namespace S
noncomputable section
def okE (es : List LV) (N : Nat) : Bool := @Nat.rec (fun _ => Bool) true (fun i r => an (isW (intOf (K.atV es i))) r) N
def okG2 (vs es : List LV) (W : Nat) (a : Int) (N : Nat) : Bool := an (okF vs W a) (an (an (Nat.ble N (lenL es)) (Nat.ble N 1000)) (okE es N))
structure InvQ (vs : List LV) (W : Nat) (a : Int) (es : List LV) (N : Nat) (f : Nat → Bool) (bg out : List LV) (mo : Bool) : Prop where
 bg : bg = row f W
 out : out = row (cvf vs W f) W
 rc : ∀ q : Nat, q < W → f q = true → rch vs W a (fun x => ∃ k, k < N ∧ en es a k = x) q
 cl : mo = false → ∀ i, i < W → hit vs W a es N (row f W) i = false
end
end S
def q0_T (a : Int) (et e2 W N : Nat) (cp cq : Cap) (w w2 : Own) (vs es bg out : List LV) (mo : Bool) : Prop := K.LOk Tryd.prog 23 111 (inner (inner (blkOf 23 0))) [0, 1, 2, 7, 8, 9] [.int .i64 a, .slice 0 0 W cp, .slice 1 0 N cq, .slice 2 0 W (.known W), .slice 3 0 W (.known W), .bool mo] [.flat [.i .u8] et w vs, .flat [.i .u16] e2 w2 es, .flat [.bo] 4 .exact bg, .flat [.bo] 4 .exact out] ⟨.exit 0, [(8, .slice 3 0 W (.known W))], [(2, .dead), (3, .flat [.bo] 4 .exact (S.flw vs W a es N))], []⟩
noncomputable def q0EB : K.BEnt := ⟨[0, 1, 2, 7, 8, 9], 9, (fun xs os => match xs, os with
 | [.int .i64 a, .slice 0 0 W cp, .slice 1 0 N cq, .slice 2 0 W2 (.known c2), .slice 3 0 W3 (.known c3), .bool mo], [.flat [.i .u8] et w vs, .flat [.i .u16] e2 w2 es, .flat [.bo] 4 .exact bg, .flat [.bo] 4 .exact out] => some (true, ⟨.exit 0, [(8, .slice 3 0 W3 (.known c3))], [(2, .dead), (3, .flat [.bo] 4 .exact (S.flw vs W a es N))], []⟩)
 | _, _ => none), []⟩
noncomputable def q0BB : K.BEnt := ⟨[0, 1, 2, 7, 8, 9], 9, (fun xs os => match xs, os with
 | [.int .i64 a, .slice 0 0 W cp, .slice 1 0 N cq, .slice 2 0 W2 (.known c2), .slice 3 0 W3 (.known c3), .bool mo], [.flat [.i .u8] et w vs, .flat [.i .u16] e2 w2 es, .flat [.bo] 4 .exact bg, .flat [.bo] 4 .exact out] => some (true, ⟨.normal, [(8, .slice 3 0 W3 (.known c3))], [(2, .dead), (3, .flat [.bo] 4 .exact (S.flw vs W a es N))], []⟩)
 | _, _ => none), []⟩
end Go.Proofs.YtlgfojaalmelhaaDoor.Ev
