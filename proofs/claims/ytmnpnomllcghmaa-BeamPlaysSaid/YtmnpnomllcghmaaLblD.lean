/- Contracts, what they say: Lbl. -/
import Derived.Test.YtmnpnomllcghmaaBemD
namespace Go.Proofs.Ytmnpnomllcghmaa.Ev
open Go
set_option linter.unusedVariables false
noncomputable def blB : K.BEnt := ⟨[1, 5, 6], 9, (fun xs os => match xs, os with
  | [.bool cb, .ptr 0 0, .int .i64 0], [.cells 103 .exact [.ptr 1 0, .ptr 2 0, .bool b], .cells 89 .exact [.int .i64 a, .int .i64 d], .cells 93 .exact [.ptr 3 0, .int .u8 l, .int .i64 n], .cells 110 .exact [.int .u8 s, .int .i64 6, .int .i64 1]] => some (S.okBm a s d l n, ⟨.normal, [(1, .bool cb), (5, .ptr 0 0), (6, .int .i64 ((228 - S.plc a s) % 228))], [(1, .cells 89 .exact [.int .i64 0, .int .i64 d]), (3, .cells 110 .exact [.int .u8 0, .int .i64 6, .int .i64 1])], []⟩)
  | _, _ => none), []⟩
noncomputable def awk15E : K.CEnt := ⟨9, (fun xs os => match xs, os with
  | [], [] => some (true, ⟨.ret (.bool true), [], []⟩)
  | _, _ => none), []⟩
end Go.Proofs.Ytmnpnomllcghmaa.Ev
