/- Contracts, what they say: Twd. -/
import Derived.Test.YtlgfojaalmelhaaDoorE0
namespace Go.Proofs.YtlgfojaalmelhaaDoor.Ev
open Go
set_option linter.unusedVariables false
namespace S
noncomputable section
def wordF (c : Int) (l : List UInt8) : Int → List UInt8 :=
 @List.rec UInt8 (fun _ => Int → List UInt8) (fun _ => []) (fun b _ g n => bc (eqI (Int.ofNat b.toNat) c) (g (n - 1)) (bc (eqI n 0) (b :: g n) (g n))) l
def wordA (s : List UInt8) (n c : Int) (a : List UInt8) (i : Int) : List UInt8 := a ++ wordF c (s.drop i.toNat) n
def okW (s : List UInt8) (n : Int) : Bool := bc (Nat.ble (lenL s) 1000000) (bc (ltI n (-1)) false (ltI n 1000000)) false
end
end S
noncomputable def wdLB : K.BEnt := ⟨[0, 1, 2, 7, 8], 9, (fun xs os => match xs, os with
 | [.str s, .int .i64 n, .int .u8 c, .str a, .int .i64 i], [] => some (true, ⟨.exit 0, [(7, .str (S.wordA s n c a i))], [], []⟩)
 | _, _ => none), []⟩
noncomputable def wdBB : K.BEnt := ⟨[0, 1, 2, 7, 8], 9, (fun xs os => match xs, os with
 | [.str s, .int .i64 n, .int .u8 c, .str a, .int .i64 i], [] => some (true, ⟨.normal, [(7, .str (S.wordA s n c a i))], [], []⟩)
 | _, _ => none), []⟩
noncomputable def wdE : K.CEnt := ⟨9, (fun xs os => match xs, os with
 | [.str s, .int .i64 n, .int .u8 c], [] => some (S.okW s n, ⟨.ret (.str (S.wordF c s n)), [], []⟩)
 | _, _ => none), []⟩
end Go.Proofs.YtlgfojaalmelhaaDoor.Ev
