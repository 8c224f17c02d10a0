/- Contracts, what they say: Thx. -/
import Derived.Test.YtlgfojaalmelhaaDoorE0
namespace Go.Proofs.YtlgfojaalmelhaaDoor.Ev
open Go
set_option linter.unusedVariables false
namespace S
noncomputable section
def hexT : List UInt8 := [48, 49, 50, 51, 52, 53, 54, 55, 56, 57, 65, 66, 67, 68, 69, 70]
def dg (x : Int) : UInt8 := hexT.getD (x % 16).toNat 0
def hexN : Nat → Int → List UInt8
 | 0, _ => []
 | n + 1, v => hexN n (v / 16) ++ [dg v]
def mx (v : Int) : Int := if (0 : Int) > v then (0 : Int) else v
def hex (v n : Int) : List UInt8 := bc (ltI n 1) [] (bc (ltI 8 n) [] (hexN n.toNat (mx v)))
def nilB : List UInt8 := []
def okV (v : Int) : Bool := notB (ltI 9223372036854775807 v)
def out8 (n : Int) : Bool := bc (ltI n 1) true (ltI 8 n)
def hexA (v n i : Int) (s : List UInt8) : List UInt8 := hexN (n - i).toNat v ++ s
end
end S
noncomputable def hrLB : K.BEnt := ⟨[0, 1, 5, 6], 9, (fun xs os => match xs, os with
 | [.int .i64 v, .int .i64 n, .str s, .int .i64 i], [] => some (true, ⟨.exit 0, [(5, .str (S.hexA v n i s))], [], []⟩)
 | _, _ => none), []⟩
noncomputable def hrBB : K.BEnt := ⟨[0, 1, 5, 6], 9, (fun xs os => match xs, os with
 | [.int .i64 v, .int .i64 n, .str s, .int .i64 i], [] => some (true, ⟨.normal, [(5, .str (S.hexA v n i s))], [], []⟩)
 | _, _ => none), []⟩
noncomputable def hexE : K.CEnt := ⟨9, (fun xs os => match xs, os with
 | [.int .i64 v, .int .i64 n], [] => some (S.okV v, ⟨.ret (.str (S.hex v n)), [], []⟩)
 | _, _ => none), []⟩
noncomputable def hxrE : K.CEnt := ⟨9, (fun xs os => match xs, os with
 | [.int .i64 v, .int .i64 n], [] => some (S.okV v, ⟨.ret (.str (S.hex v n)), [], []⟩)
 | _, _ => none), []⟩
end Go.Proofs.YtlgfojaalmelhaaDoor.Ev
