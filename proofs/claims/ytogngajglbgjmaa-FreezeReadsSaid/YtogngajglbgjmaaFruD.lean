/- Contracts, what they say: Fru. -/
import Derived.Test.YtogngajglbgjmaaFrgD
import Derived.Test.YtogngajglbgjmaaFunD
namespace Go.Proofs.Ytogngajglbgjmaa.Ev
open Go
set_option linter.unusedVariables false
namespace S
noncomputable section
/-- So many numbers are read: are there so many, which, what is left. -/
def rok (vs : List LV) (j : Nat) : Nat → Nat → Bool := @Nat.rec (fun _ => Nat → Nat → Bool) (fun _ _ => true) (fun _ g o n => an (notB (Nat.beq (gk vs o n) 0)) (g (o + gk vs o n) (n - gk vs o n))) j
def rl (vs : List LV) (j : Nat) : Nat → Nat → List LV := @Nat.rec (fun _ => Nat → Nat → List LV) (fun _ _ => []) (fun _ g o n => .int .i64 (gv vs o n) :: g (o + gk vs o n) (n - gk vs o n)) j
def ra (vs : List LV) (j : Nat) : Nat → Nat → Nat := @Nat.rec (fun _ => Nat → Nat → Nat) (fun _ n => n) (fun _ g o n => g (o + gk vs o n) (n - gk vs o n)) j
def rj (N i : Int) : Nat := (N - i).toNat
def okE (vs : List LV) (E : Nat) (N a i : Int) : Bool := an (an (okY vs) (an (Nat.ble E (lenL vs)) (Nat.ble E 1000000))) (an (an (notB (ltI a 0)) (notB (ltI E a))) (an (notB (ltI i 0)) (an (notB (ltI N i)) (notB (ltI 1000000 N)))))
def rG (vs : List LV) (E : Nat) (N a i : Int) : Bool := rok vs (rj N i) a.toNat (E - a.toNat)
def rL (vs : List LV) (E : Nat) (N a i : Int) : List LV := rl vs (rj N i) a.toNat (E - a.toNat)
/-- Where it ends. -/
def rA (vs : List LV) (E : Nat) (N a i : Int) : Int := (E : Int) - (ra vs (rj N i) a.toNat (E - a.toNat) : Nat)
def okM (m : Nat) (ns : List LV) (N i : Int) : Bool := an (Nat.beq (lenL ns) m) (Nat.ble (m + rj N i) 1000000)
def okBG (vs : List LV) (E m : Nat) (ns : List LV) (N a i : Int) : Bool := an (okE vs E N a i) (an (okM m ns N i) (rG vs E N a i))
def okBB (vs : List LV) (E m : Nat) (ns : List LV) (N a i : Int) : Bool := an (okE vs E N a i) (an (okM m ns N i) (notB (rG vs E N a i)))
end
end S
/-- The loop, as its contracts say. -/
def ruG_T (E m et : Nat) (cp : Cap) (w : Own) (vs ns : List LV) (N a i : Int) : Prop := K.LOk Try.prog 11 90 (inner (inner (blkOf 11 0))) [6, 7, 8, 9, 10] [.slice 0 0 E cp, .int .i64 N, .int .i64 a, .slice 1 0 m (.rest 0), .int .i64 i] [.flat [.i .u8] et w vs, .flat [.i .i64] 3 (.grow 1) ns] ⟨.exit 0, [(6, .slice 0 0 E cp), (8, .int .i64 (S.rA vs E N a i)), (9, .slice 2 0 (m + S.rj N i) (.rest 0))], [(1, .dead)], [.flat [.i .i64] 3 (.grow 1) (app ns (S.rL vs E N a i))]⟩
def ruB_T (E m et : Nat) (cp : Cap) (w : Own) (vs ns : List LV) (N a i : Int) : Prop := K.LOk Try.prog 11 90 (inner (inner (blkOf 11 0))) [6, 7, 8, 9, 10] [.slice 0 0 E cp, .int .i64 N, .int .i64 a, .slice 1 0 m (.rest 0), .int .i64 i] [.flat [.i .u8] et w vs, .flat [.i .i64] 3 (.grow 1) ns] ⟨.ret, [(2, .nils), (3, .int .i64 9)], [(1, .dead)], []⟩
noncomputable def ruGLB : K.BEnt := ⟨[6, 7, 8, 9, 10], 9, (fun xs os => match xs, os with
  | [.slice 0 0 E cp, .int .i64 N, .int .i64 a, .slice 1 0 m (.rest 0), .int .i64 i], [.flat [.i .u8] et w vs, .flat [.i .i64] t1 (.grow 1) ns] => some (S.an (Nat.beq t1 3) (S.okBG vs E m ns N a i), ⟨.exit 0, [(6, .slice 0 0 E cp), (8, .int .i64 (S.rA vs E N a i)), (9, .slice 2 0 (m + S.rj N i) (.rest 0))], [(1, .dead)], [.flat [.i .i64] 3 (.grow 1) (app ns (S.rL vs E N a i))]⟩)
  | _, _ => none), [3 + 1000000]⟩
noncomputable def ruBLB : K.BEnt := ⟨[6, 7, 8, 9, 10], 9, (fun xs os => match xs, os with
  | [.slice 0 0 E cp, .int .i64 N, .int .i64 a, .slice 1 0 m (.rest 0), .int .i64 i], [.flat [.i .u8] et w vs, .flat [.i .i64] t1 (.grow 1) ns] => some (S.an (Nat.beq t1 3) (S.okBB vs E m ns N a i), ⟨.ret, [(2, .nils), (3, .int .i64 9)], [(1, .dead)], []⟩)
  | _, _ => none), [3 + 1000000]⟩
noncomputable def ruXB : K.BEnt := ⟨[6, 7, 8, 9, 10], 9, (fun xs os => match xs, os with
  | [.slice 0 0 E cp, .int .i64 N, .int .i64 a, .nils, .int .i64 i], [.flat [.i .u8] et w vs] => some (S.an (S.okE vs E N a i) (S.an (ltI i N) (S.rG vs E N a i)), ⟨.normal, [(6, .slice 0 0 E cp), (8, .int .i64 (S.rA vs E N a i)), (9, .slice 1 0 (S.rj N i) (.rest 0))], [], [.flat [.i .i64] 3 (.grow 1) (S.rL vs E N a i)]⟩)
  | _, _ => none), []⟩
noncomputable def ruYB : K.BEnt := ⟨[6, 7, 8, 9, 10], 9, (fun xs os => match xs, os with
  | [.slice 0 0 E cp, .int .i64 N, .int .i64 a, .nils, .int .i64 i], [.flat [.i .u8] et w vs] => some (S.an (S.okE vs E N a i) (notB (S.rG vs E N a i)), ⟨.ret, [(2, .nils), (3, .int .i64 9)], [], []⟩)
  | _, _ => none), []⟩
noncomputable def ruZB : K.BEnt := ⟨[6, 7, 8, 9, 10], 9, (fun xs os => match xs, os with
  | [.slice 0 0 E cp, .int .i64 N, .int .i64 a, .nils, .int .i64 i], [.flat [.i .u8] et w vs] => some (notB (ltI i N), ⟨.normal, [(6, .slice 0 0 E cp), (8, .int .i64 a), (9, .nils)], [], []⟩)
  | _, _ => none), []⟩
end Go.Proofs.Ytogngajglbgjmaa.Ev
