/- Contracts, what they say: Fpk. -/
import Derived.Test.YtogngajglbgjmaaFchD
namespace Go.Proofs.Ytogngajglbgjmaa.Ev
open Go
set_option linter.unusedVariables false
namespace S
noncomputable section
def wd (ws : List LV) (i : Int) : Int := intOf (K.atV ws (0 + i.toNat * 1))
/-- Are words numbers that may be written? -/
def okF (ws : List LV) (j : Nat) : Int → Bool := @Nat.rec (fun _ => Int → Bool) (fun _ => true) (fun _ g i => an (okN (wd ws i)) (g (i + 1))) j
/-- The bytes of words. -/
def pw (ws : List LV) (j : Nat) : Int → List LV := @Nat.rec (fun _ => Int → List LV) (fun _ => []) (fun _ g i => app (num (wd ws i)) (g (i + 1))) j
def pwl (ws : List LV) (j : Nat) (i : Int) : Nat := lenL (pw ws j i)
def okQ (ws : List LV) (W : Nat) (vs : List LV) (L : Nat) (i : Int) : Bool := an (an (an (Nat.beq (lenL ws) W) (Nat.ble W 100000)) (an (notB (ltI i 0)) (notB (ltI W i)))) (an (Nat.beq (lenL vs) L) (notB (ltI (20 + 9 * i) L)))
def okPG (ws : List LV) (W : Nat) (vs : List LV) (L : Nat) (i : Int) : Bool := an (okQ ws W vs L i) (okF ws (rem W i) i)
def okPB (ws : List LV) (W : Nat) (vs : List LV) (L : Nat) (i : Int) : Bool := an (okQ ws W vs L i) (notB (okF ws (rem W i) i))
def okW (ws : List LV) (W : Nat) : Bool := an (Nat.beq (lenL ws) W) (Nat.ble W 100000)
def okWG (ws : List LV) (W : Nat) : Bool := an (okW ws W) (okF ws (rem W 0) 0)
def okWB (ws : List LV) (W : Nat) : Bool := an (okW ws W) (notB (okF ws (rem W 0) 0))
def body (ws : List LV) (W : Nat) : List LV := app (.int .u8 87 :: num W) (pw ws (rem W 0) 0)
/-- The packed bytes. -/
def packed (ws : List LV) (W : Nat) : List LV := app (body ws W) [.int .u8 (cA (body ws W) (lenL (body ws W))), .int .u8 (cB (body ws W) (lenL (body ws W)))]
def packL (ws : List LV) (W : Nat) : Nat := lenL (packed ws W)
end
end S
noncomputable def pkGLB : K.BEnt := ⟨[4, 12, 13, 14], 9, (fun xs os => match xs, os with
  | [.slice 0 0 L (.rest 0), .slice 1 0 W cp, .int .i64 N, .int .i64 i], [.flat [.i .u8] 5 (.grow 1) vs, .flat [.i .i64] et w ws] => some (S.an (eqI N W) (S.okPG ws W vs L i), ⟨.exit 0, [(4, .slice 2 0 (L + S.pwl ws (S.rem W i) i) (.rest 0))], [(0, .dead)], [.flat [.i .u8] 5 (.grow 1) (app vs (S.pw ws (S.rem W i) i))]⟩)
  | _, _ => none), []⟩
noncomputable def pkGB : K.BEnt := ⟨[4, 12, 13, 14], 9, (fun xs os => match xs, os with
  | [.slice 0 0 L (.rest 0), .slice 1 0 W cp, .int .i64 N, .int .i64 i], [.flat [.i .u8] 5 (.grow 1) vs, .flat [.i .i64] et w ws] => some (S.an (eqI N W) (S.okPG ws W vs L i), ⟨.normal, [(4, .slice 2 0 (L + S.pwl ws (S.rem W i) i) (.rest 0))], [(0, .dead)], [.flat [.i .u8] 5 (.grow 1) (app vs (S.pw ws (S.rem W i) i))]⟩)
  | _, _ => none), []⟩
noncomputable def pkBLB : K.BEnt := ⟨[4, 12, 13, 14], 9, (fun xs os => match xs, os with
  | [.slice 0 0 L (.rest 0), .slice 1 0 W cp, .int .i64 N, .int .i64 i], [.flat [.i .u8] 5 (.grow 1) vs, .flat [.i .i64] et w ws] => some (S.an (eqI N W) (S.okPB ws W vs L i), ⟨.ret, [(2, .nils), (3, .int .i64 6)], [(0, .dead)], []⟩)
  | _, _ => none), []⟩
noncomputable def pkBB : K.BEnt := ⟨[4, 12, 13, 14], 9, (fun xs os => match xs, os with
  | [.slice 0 0 L (.rest 0), .slice 1 0 W cp, .int .i64 N, .int .i64 i], [.flat [.i .u8] 5 (.grow 1) vs, .flat [.i .i64] et w ws] => some (S.an (eqI N W) (S.okPB ws W vs L i), ⟨.ret, [(2, .nils), (3, .int .i64 6)], [(0, .dead)], []⟩)
  | _, _ => none), []⟩
noncomputable def rpGLB : K.BEnt := ⟨[0, 4, 5], 9, (fun xs os => match xs, os with
  | [.slice 0 0 W cp, .slice 1 0 L (.rest 0), .int .i64 i], [.flat [.i .i64] et w ws, .flat [.i .u8] 5 (.grow 1) vs] => some (S.okPG ws W vs L i, ⟨.exit 0, [(4, .slice 2 0 (L + S.pwl ws (S.rem W i) i) (.rest 0))], [(1, .dead)], [.flat [.i .u8] 5 (.grow 1) (app vs (S.pw ws (S.rem W i) i))]⟩)
  | _, _ => none), []⟩
noncomputable def rpGB : K.BEnt := ⟨[0, 4, 5], 9, (fun xs os => match xs, os with
  | [.slice 0 0 W cp, .slice 1 0 L (.rest 0), .int .i64 i], [.flat [.i .i64] et w ws, .flat [.i .u8] 5 (.grow 1) vs] => some (S.okPG ws W vs L i, ⟨.normal, [(4, .slice 2 0 (L + S.pwl ws (S.rem W i) i) (.rest 0))], [(1, .dead)], [.flat [.i .u8] 5 (.grow 1) (app vs (S.pw ws (S.rem W i) i))]⟩)
  | _, _ => none), []⟩
noncomputable def rpBLB : K.BEnt := ⟨[0, 4, 5], 9, (fun xs os => match xs, os with
  | [.slice 0 0 W cp, .slice 1 0 L (.rest 0), .int .i64 i], [.flat [.i .i64] et w ws, .flat [.i .u8] 5 (.grow 1) vs] => some (S.okPB ws W vs L i, ⟨.ret, [(2, .nils), (3, .int .i64 6)], [(1, .dead)], []⟩)
  | _, _ => none), []⟩
noncomputable def rpBB : K.BEnt := ⟨[0, 4, 5], 9, (fun xs os => match xs, os with
  | [.slice 0 0 W cp, .slice 1 0 L (.rest 0), .int .i64 i], [.flat [.i .i64] et w ws, .flat [.i .u8] 5 (.grow 1) vs] => some (S.okPB ws W vs L i, ⟨.ret, [(2, .nils), (3, .int .i64 6)], [(1, .dead)], []⟩)
  | _, _ => none), []⟩
noncomputable def pakGE : K.CEnt := ⟨9, (fun xs os => match xs, os with
  | [.slice 0 0 W cp], [.flat [.i .i64] et w ws] => some (S.okWG ws W, ⟨.ret (.tup [.slice 1 0 (S.packL ws W) (.rest 0), .int .i64 0]), [], [.flat [.i .u8] 5 (.grow 1) (S.packed ws W)]⟩)
  | _, _ => none), [3]⟩
noncomputable def pakBE : K.CEnt := ⟨9, (fun xs os => match xs, os with
  | [.slice 0 0 W cp], [.flat [.i .i64] et w ws] => some (S.okWB ws W, ⟨.ret (.tup [.nils, .int .i64 6]), [], []⟩)
  | _, _ => none), [3]⟩
noncomputable def rpakGE : K.CEnt := ⟨9, (fun xs os => match xs, os with
  | [.slice 0 0 W cp], [.flat [.i .i64] et w ws] => some (S.okWG ws W, ⟨.ret (.tup [.slice 1 0 (S.packL ws W) (.rest 0), .int .i64 0]), [], [.flat [.i .u8] 5 (.grow 1) (S.packed ws W)]⟩)
  | _, _ => none), [3]⟩
noncomputable def rpakBE : K.CEnt := ⟨9, (fun xs os => match xs, os with
  | [.slice 0 0 W cp], [.flat [.i .i64] et w ws] => some (S.okWB ws W, ⟨.ret (.tup [.nils, .int .i64 6]), [], []⟩)
  | _, _ => none), [3]⟩
end Go.Proofs.Ytogngajglbgjmaa.Ev
