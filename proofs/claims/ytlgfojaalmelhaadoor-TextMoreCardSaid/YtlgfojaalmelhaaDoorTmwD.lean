/- Contracts, what they say: Tmw. -/
import Derived.Test.YtlgfojaalmelhaaDoorTmnD
namespace Go.Proofs.YtlgfojaalmelhaaDoor.Ev
open Go
set_option linter.unusedVariables false
namespace S
noncomputable section
def okM (es : List LV) (N : Nat) : Bool := an (Nat.ble N (lenL es)) (Nat.ble N 30)
end
end S
def wlN_T (a : Int) (W M : Nat) (rc bg ws : List LV) : Prop := K.LOk Tryd.prog 22 81 (inner (inner (blkOf 22 2))) [7] [.ptr 0 0] [.cells 73 .exact [.int .i64 a, .nils, .slice 1 0 W (.known W), .slice 2 0 W (.known W), .slice 3 0 M (.rest 0)], .flat [.bo] 4 .exact rc, .flat [.bo] 4 .exact bg, .flat [.i .i64] 3 (.grow 1) ws] ⟨.exit 2, [(7, .ptr 0 0)], [(0, .cells 73 .exact [.int .i64 a, .nils, .slice 1 0 W (.known W), .slice 2 0 W (.known W), .slice 3 0 0 (.rest 0)])], []⟩
def wlE_T (a : Int) (W M : Nat) (rc bg ws : List LV) : Prop := K.LOk Tryd.prog 22 81 (inner (inner (blkOf 22 2))) [7] [.ptr 0 0] [.cells 73 .exact [.int .i64 a, .emp 1, .slice 2 0 W (.known W), .slice 3 0 W (.known W), .slice 4 0 M (.rest 0)], .empty, .flat [.bo] 4 .exact rc, .flat [.bo] 4 .exact bg, .flat [.i .i64] 3 (.grow 1) ws] ⟨.exit 2, [(7, .ptr 0 0)], [(0, .cells 73 .exact [.int .i64 a, .emp 1, .slice 2 0 W (.known W), .slice 3 0 W (.known W), .slice 4 0 0 (.rest 0)])], []⟩
noncomputable def wlNEB : K.BEnt := ⟨[7], 9, (fun xs os => match xs, os with
 | [.ptr 0 0], [.cells t0 .exact [.int .i64 a, .nils, .slice 1 0 W2 (.known C2), .slice 2 0 W3 (.known C3), .slice 3 0 M (.rest 0)], .flat [.bo] 4 .exact rc, .flat [.bo] 4 .exact bg, .flat [.i .i64] 3 (.grow 1) ws] => some (true, ⟨.exit 2, [(7, .ptr 0 0)], [(0, .cells 73 .exact [.int .i64 a, .nils, .slice 1 0 W2 (.known C2), .slice 2 0 W3 (.known C3), .slice 3 0 0 (.rest 0)])], []⟩)
 | _, _ => none), [3 + 1000000]⟩
noncomputable def wlNBB : K.BEnt := ⟨[7], 9, (fun xs os => match xs, os with
 | [.ptr 0 0], [.cells t0 .exact [.int .i64 a, .nils, .slice 1 0 W2 (.known C2), .slice 2 0 W3 (.known C3), .slice 3 0 M (.rest 0)], .flat [.bo] 4 .exact rc, .flat [.bo] 4 .exact bg, .flat [.i .i64] 3 (.grow 1) ws] => some (true, ⟨.normal, [(7, .ptr 0 0)], [(0, .cells 73 .exact [.int .i64 a, .nils, .slice 1 0 W2 (.known C2), .slice 2 0 W3 (.known C3), .slice 3 0 0 (.rest 0)])], []⟩)
 | _, _ => none), [3 + 1000000]⟩
noncomputable def wlEEB : K.BEnt := ⟨[7], 9, (fun xs os => match xs, os with
 | [.ptr 0 0], [.cells t0 .exact [.int .i64 a, .emp 1, .slice 2 0 W2 (.known C2), .slice 3 0 W3 (.known C3), .slice 4 0 M (.rest 0)], .empty, .flat [.bo] 4 .exact rc, .flat [.bo] 4 .exact bg, .flat [.i .i64] 3 (.grow 1) ws] => some (true, ⟨.exit 2, [(7, .ptr 0 0)], [(0, .cells 73 .exact [.int .i64 a, .emp 1, .slice 2 0 W2 (.known C2), .slice 3 0 W3 (.known C3), .slice 4 0 0 (.rest 0)])], []⟩)
 | _, _ => none), [3 + 1000000]⟩
noncomputable def wlEBB : K.BEnt := ⟨[7], 9, (fun xs os => match xs, os with
 | [.ptr 0 0], [.cells t0 .exact [.int .i64 a, .emp 1, .slice 2 0 W2 (.known C2), .slice 3 0 W3 (.known C3), .slice 4 0 M (.rest 0)], .empty, .flat [.bo] 4 .exact rc, .flat [.bo] 4 .exact bg, .flat [.i .i64] 3 (.grow 1) ws] => some (true, ⟨.normal, [(7, .ptr 0 0)], [(0, .cells 73 .exact [.int .i64 a, .emp 1, .slice 2 0 W2 (.known C2), .slice 3 0 W3 (.known C3), .slice 4 0 0 (.rest 0)])], []⟩)
 | _, _ => none), [3 + 1000000]⟩
noncomputable def fwNSE : K.CEnt := ⟨9, (fun xs os => match xs, os with
 | [.int .u16 a, .nils, .slice 0 0 N (.known q)], [.flat [.i .u16] e2 w2 es] => some (S.okN es N, ⟨.ret (.slice 1 0 0 (.known 0)), [], [.flat [.bo] 4 .exact []]⟩)
 | _, _ => none), [22]⟩
noncomputable def fwESE : K.CEnt := ⟨9, (fun xs os => match xs, os with
 | [.int .u16 a, .emp 0, .slice 1 0 N (.known q)], [.empty, .flat [.i .u16] e2 w2 es] => some (S.okN es N, ⟨.ret (.slice 2 0 0 (.known 0)), [], [.flat [.bo] 4 .exact []]⟩)
 | _, _ => none), [22]⟩
noncomputable def fmE : K.CEnt := ⟨9, (fun xs os => match xs, os with
 | [.int .u16 a, .slice 0 0 W (.known c), .slice 1 0 N (.known q)], [.flat [.i .u8] et w vs, .flat [.i .u16] e2 w2 es, .glob g cs, .glob g1 [.int .i64 m]] => some (S.an (S.okG g cs g1) (S.an (S.okF vs W a) (S.okM es N)), ⟨.ret (.slice 4 0 W (.known W)), [], [.flat [.bo] 4 .exact (S.flw vs W a es N)]⟩)
 | [.int .u16 a, .slice 0 0 W (.known c), .nils], [.flat [.i .u8] et w vs, .glob g cs, .glob g1 [.int .i64 m]] => some (S.okF vs W a, ⟨.ret (.slice 3 0 W (.known W)), [], [.flat [.bo] 4 .exact (S.zr W)]⟩)
 | [.int .u16 a, .slice 0 0 W (.known c), .emp 1], [.flat [.i .u8] et w vs, .empty, .glob g cs, .glob g1 [.int .i64 m]] => some (S.okF vs W a, ⟨.ret (.slice 4 0 W (.known W)), [], [.flat [.bo] 4 .exact (S.zr W)]⟩)
 | _, _ => none), [5, 22, 2000000]⟩
end Go.Proofs.YtlgfojaalmelhaaDoor.Ev
