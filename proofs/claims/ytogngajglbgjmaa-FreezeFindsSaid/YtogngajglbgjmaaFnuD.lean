/- Contracts, what they say: Fnu. -/
import Derived.Test.YtogngajglbgjmaaBasD
namespace Go.Proofs.Ytogngajglbgjmaa.Ev
open Go
set_option linter.unusedVariables false
namespace S
noncomputable section
/-- The bytes of a number. -/
def nb (j : Nat) : Int → List LV := @Nat.rec (fun _ => Int → List LV) (fun n => [.int .u8 n]) (fun _ r n => bc (ltI n 128) [.int .u8 n] (.int .u8 (n % 128 + 128) :: r (n / 128))) j
def num (n : Int) : List LV := nb 8 n
def numl (n : Int) : Nat := lenL (num n)
def okN (n : Int) : Bool := an (notB (ltI n 0)) (notB (ltI 4611686018427387904 n))
def okG (n : Int) (vs : List LV) (L : Nat) : Bool := an (okN n) (an (Nat.beq (lenL vs) L) (Nat.ble L 1000000))
end
end S
noncomputable def nuGE : K.CEnt := ⟨9, (fun xs os => match xs, os with
  | [.slice 0 0 L (.rest 0), .int .i64 n], [.flat [.i .u8] 5 (.grow 1) vs] => some (S.okG n vs L, ⟨.ret (.slice 1 0 (L + S.numl n) (.rest 0)), [(0, .dead)], [.flat [.i .u8] 5 (.grow 1) (app vs (S.num n))]⟩)
  | _, _ => none), []⟩
noncomputable def nuXE : K.CEnt := ⟨9, (fun xs os => match xs, os with
  | [.slice 0 0 1 (.known 1), .int .i64 n], [.cells 5 .exact [.int .u8 b]] => some (S.okN n, ⟨.ret (.slice 1 0 (1 + S.numl n) (.rest 0)), [], [.flat [.i .u8] 5 (.grow 1) (.int .u8 b :: S.num n)]⟩)
  | _, _ => none), []⟩
noncomputable def rnuE : K.CEnt := ⟨9, (fun xs os => match xs, os with
  | [.int .i64 n], [] => some (S.okN n, ⟨.ret (.slice 0 0 (S.numl n) (.rest 0)), [], [.flat [.i .u8] 5 (.grow 1) (S.num n)]⟩)
  | _, _ => none), []⟩
end Go.Proofs.Ytogngajglbgjmaa.Ev
