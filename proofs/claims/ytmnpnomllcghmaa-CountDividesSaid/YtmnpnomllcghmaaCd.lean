/- A divider's round, whatever its number: words of the law CountDivides. -/
import Derived.Test.YtmnpnomllcghmaaCr
namespace Go.Proofs.Ytmnpnomllcghmaa.Ev
open Go
def cdL (a i : Int) : List (Nat × LV) := [(1, .ptr 0 0), (2, .bool false), (3, .ptr 1 0), (5, .int .i64 a), (6, .int .i64 i)]
def cdO (n s k d : Int) : List LObj := [.cells 30 .exact [.int .i64 n, .int .i64 s, .int .u8 k], .cells 89 .exact [.int .i64 d, .int .i64 n]]
def cdC (n s k a i r : Int) : LCon := ⟨cdL a i, cdO n s k a, .normal, cdL r (i + 1), cdO n s k r⟩
def cdE (n s k a i : Int) : LCon := ⟨cdL a i, cdO n s k a, .exit 0, cdL a i, cdO n s k a⟩
theorem pure_rem {P : Program} {t t2 : TypeId} {x y : Operand} {k : IntKind} {a b r : Int} (h : b ≠ 0) (hr : a.tmod b = r) : PureOp P (.binOp .rem t x y t2) [.int k a, .int k b] (.int k r) := by
  intro H
  subst hr
  simp [lop, opBin, binL, intBin, h, isShift]
  rfl
end Go.Proofs.Ytmnpnomllcghmaa.Ev
