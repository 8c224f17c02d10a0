/- Contracts, what they say: Tfe. -/
import Derived.Test.YtlgfojaalmelhaaDoorTfwD
namespace Go.Proofs.YtlgfojaalmelhaaDoor.Ev
open Go
set_option linter.unusedVariables false
namespace S
noncomputable section
def en (es : List LV) (a : Int) (k : Nat) : Int := wrapK .i64 (wrapK .i64 (intOf (K.atV es (0 + Int.toNat (k : Int) * 1))) - a)
def ens (es : List LV) (a : Int) (j : Nat) : Nat → List LV := @Nat.rec (fun _ => Nat → List LV) (fun _ => []) (fun _ g i => .int .i64 (en es a i) :: g (i + 1)) j
def flw (vs : List LV) (W : Nat) (a : Int) (es : List LV) (N : Nat) : List LV := cvR vs W a (fun x => ∃ k, k < N ∧ en es a k = x)
def okF (vs : List LV) (W : Nat) (a : Int) : Bool := an (an (okB vs) (Nat.beq (lenL vs) W)) (an (Nat.ble W 1000) (isW a))
def okN (es : List LV) (N : Nat) : Bool := an (Nat.ble N (lenL es)) (an (Nat.blt 0 N) (Nat.ble N 30))
end
end S
def feS_T (a : Int) (k M : Nat) (ws : List LV) (et c W N q e2 : Nat) (w w2 : Own) (vs rc bg es : List LV) : Prop := K.LOk Tryd.prog 22 81 (inner (inner (blkOf 22 0))) [7, 23, 24, 25] [.ptr 0 0, .slice 5 0 N (.known q), .int .i64 N, .int .i64 k] [.cells 73 .exact [.int .i64 a, .slice 1 0 W (.known c), .slice 2 0 W (.known W), .slice 3 0 W (.known W), .slice 4 0 M (.rest 0)], .flat [.i .u8] et w vs, .flat [.bo] 4 .exact rc, .flat [.bo] 4 .exact bg, .flat [.i .i64] 3 (.grow 1) ws, .flat [.i .u16] e2 w2 es] ⟨.exit 0, [(7, .ptr 0 0)], [(0, .cells 73 .exact [.int .i64 a, .slice 1 0 W (.known c), .slice 2 0 W (.known W), .slice 3 0 W (.known W), .slice 6 0 N (.rest 0)]), (4, .dead)], [.flat [.i .i64] 3 (.grow 1) (app ws (S.ens es a (N - k) k))]⟩
noncomputable def feSEB : K.BEnt := ⟨[7, 23, 24, 25], 9, (fun xs os => match xs, os with
 | [.ptr 0 0, .slice 5 0 N (.known q), .int .i64 N2, .int .i64 i], [.cells t0 .exact [.int .i64 a, .slice 1 0 W (.known c), .slice 2 0 W2 (.known C2), .slice 3 0 W3 (.known C3), .slice 4 0 M (.rest 0)], .flat [.i .u8] et w vs, .flat [.bo] 4 .exact rc, .flat [.bo] 4 .exact bg, .flat [.i .i64] 3 (.grow 1) ws, .flat [.i .u16] e2 w2 es] => some (S.an (eqI N2 N) (eqI i M), ⟨.exit 0, [(7, .ptr 0 0)], [(0, .cells 73 .exact [.int .i64 a, .slice 1 0 W (.known c), .slice 2 0 W2 (.known C2), .slice 3 0 W3 (.known C3), .slice 6 0 N (.rest 0)]), (4, .dead)], [.flat [.i .i64] 3 (.grow 1) (app ws (S.ens es a (N - M) M))]⟩)
 | _, _ => none), [3 + 1000000]⟩
noncomputable def feSBB : K.BEnt := ⟨[7, 23, 24, 25], 9, (fun xs os => match xs, os with
 | [.ptr 0 0, .slice 4 0 N (.known q), .int .i64 N2, .int .i64 i], [.cells t0 .exact [.int .i64 a, .slice 1 0 W (.known c), .slice 2 0 W2 (.known C2), .slice 3 0 W3 (.known C3), .nils], .flat [.i .u8] et w vs, .flat [.bo] 4 .exact rc, .flat [.bo] 4 .exact bg, .flat [.i .u16] e2 w2 es] => some (S.an (eqI N2 N) (S.an (eqI i 0) (S.okN es N)), ⟨.normal, [(7, .ptr 0 0)], [(0, .cells 73 .exact [.int .i64 a, .slice 1 0 W (.known c), .slice 2 0 W2 (.known C2), .slice 3 0 W3 (.known C3), .slice 5 0 N (.rest 0)])], [.flat [.i .i64] 3 (.grow 1) (S.ens es a N 0)]⟩)
 | _, _ => none), [3 + 1000000]⟩
end Go.Proofs.YtlgfojaalmelhaaDoor.Ev
