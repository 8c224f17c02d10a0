/- The law TiaNil, run. -/
import Derived.Test.YtnpbgnjiihecgaaGreatE0
namespace Go.Proofs.YtnpbgnjiihecgaaGreat.Ev
open Go
set_option maxRecDepth 100000
theorem tin_run (a b c d e : Int) : K.bodyF (envL []) (K.runF (envL []) 40) 8 [.agg [.int .i64 a, .int .u16 b, .int .u16 c, .int .u8 d, .int .i64 e]] (Heap.of []) .auto (K.endC K.shutE 0 ⟨.ret (.bool true), [], []⟩) = True := by kernel_rfl
theorem tin_con (a b c d e : Int) : HT Tryz.prog 8 [.agg [.int .i64 a, .int .u16 b, .int .u16 c, .int .u8 d, .int .i64 e]] (Heap.of []) (.ret (.bool true)) (Heap.of []) := by
  refine K.con_of_run good (envL_ok ?_) K.shutE_ok (of_eq_true (tin_run a b c d e))
  intro p hp; cases hp
end Go.Proofs.YtnpbgnjiihecgaaGreat.Ev
