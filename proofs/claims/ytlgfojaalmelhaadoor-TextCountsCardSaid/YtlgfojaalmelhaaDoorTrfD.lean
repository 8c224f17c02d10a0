/- Contracts, what they say: Trf. -/
import Derived.Test.YtlgfojaalmelhaaDoorTfnD
import Derived.Test.YtlgfojaalmelhaaDoorTorD
import Derived.Test.YtlgfojaalmelhaaDoorTshD
namespace Go.Proofs.YtlgfojaalmelhaaDoor.Ev
open Go
set_option linter.unusedVariables false
namespace S
noncomputable section
def upd (s : List UInt8) (k i b : Int) : Int := bc (mt s k i) (bc (ltI b 0) i (bc (kn i) i (bc (kn b) b i))) b
def rfS (s : List UInt8) (k : Int) (n : Nat) : Int → Int → Int := @Nat.rec (fun _ => Int → Int → Int) (fun _ b => b) (fun _ g i b => g (i - 1) (upd s k i b)) n
def rfnd (s : List UInt8) (k : Int) : Int := rfS s k 256 255 (-1)
/-- The first code of a name and a way: what the codes from one on say. -/
def rR (s : List UInt8) (k : Int) (n : Nat) (i : Int) : Int := bc (hit s k n i) (hitI s k n i) (bc (scH s k n i false) (scF s k n i false 0) (-1))
end
end S
noncomputable def rfLB : K.BEnt := ⟨[0, 1, 5, 6], 9, (fun xs os => match xs, os with
  | [.str s, .int .i64 k, .int .i64 b, .int .i64 i], [] => some (true, ⟨.exit 0, [(5, .int .i64 (S.rfS s k (i + 1).toNat i b))], [], []⟩)
  | _, _ => none), []⟩
noncomputable def rfBB : K.BEnt := ⟨[0, 1, 5, 6], 9, (fun xs os => match xs, os with
  | [.str s, .int .i64 k, .int .i64 b, .int .i64 i], [] => some (true, ⟨.normal, [(5, .int .i64 (S.rfS s k (i + 1).toNat i b))], [], []⟩)
  | _, _ => none), []⟩
noncomputable def rfE : K.CEnt := ⟨9, (fun xs os => match xs, os with
  | [.str s, .int .i64 k], [] => some (true, ⟨.ret (.int .i64 (S.rfnd s k)), [], []⟩)
  | _, _ => none), []⟩
noncomputable def rlnE : K.CEnt := ⟨9, (fun xs os => match xs, os with
  | [.int .i64 o], [] => some (S.isB o, ⟨.ret (.int .i64 (S.len o)), [], []⟩)
  | _, _ => none), []⟩
end Go.Proofs.YtlgfojaalmelhaaDoor.Ev
