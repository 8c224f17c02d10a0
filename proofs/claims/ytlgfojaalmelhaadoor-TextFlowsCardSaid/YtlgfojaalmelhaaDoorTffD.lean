/- Contracts, what they say: Tff. -/
import Derived.Test.YtlgfojaalmelhaaDoorTakD
import Derived.Test.YtlgfojaalmelhaaDoorTreD
namespace Go.Proofs.YtlgfojaalmelhaaDoor.Ev
open Go
set_option linter.unusedVariables false
namespace S
noncomputable section
def byV (a : Int) : List LV := [.int .u8 a]
def byK : List CK := [.i .u8]
def wdV (a : Int) : List LV := [.int .u16 a]
def wdK : List CK := [.i .u16]
end
end S
noncomputable def fRRE : K.CEnt := ⟨9, (fun xs os => match xs, os with
 | [.int .u16 a, .slice 0 0 W (.rest 0), .slice 1 0 N (.rest 0)], [.flat [.i .u8] et (.grow 1) vs, .flat [.i .u16] e2 (.grow 1) es, .glob g cs, .glob g1 [.int .i64 m]] => some (S.an (S.okG g cs g1) (S.an (S.okF vs W a) (S.okN es N)), ⟨.ret (.slice 4 0 W (.known W)), [], [.flat [.bo] 4 .exact (S.flw vs W a es N)]⟩)
 | _, _ => none), [5, 22, 2000000]⟩
noncomputable def fKRE : K.CEnt := ⟨9, (fun xs os => match xs, os with
 | [.int .u16 a, .slice 0 0 W (.known c), .slice 1 0 N (.rest 0)], [.flat [.i .u8] et w vs, .flat [.i .u16] e2 (.grow 1) es, .glob g cs, .glob g1 [.int .i64 m]] => some (S.an (S.okG g cs g1) (S.an (S.okF vs W a) (S.okN es N)), ⟨.ret (.slice 4 0 W (.known W)), [], [.flat [.bo] 4 .exact (S.flw vs W a es N)]⟩)
 | _, _ => none), [5, 22, 2000000]⟩
noncomputable def fRZE : K.CEnt := ⟨9, (fun xs os => match xs, os with
 | [.int .u16 a, .slice 0 0 W (.rest 0), .slice 1 0 0 (.known q)], [.flat [.i .u8] et (.grow 1) vs, .flat [.i .u16] e2 w2 es, .glob g cs, .glob g1 [.int .i64 m]] => some (S.an (S.okG g cs g1) (S.okF vs W a), ⟨.ret (.slice 4 0 W (.known W)), [], [.flat [.bo] 4 .exact (S.flw vs W a es 0)]⟩)
 | _, _ => none), [5, 22, 2000000]⟩
noncomputable def fKZE : K.CEnt := ⟨9, (fun xs os => match xs, os with
 | [.int .u16 a, .slice 0 0 W (.known c), .slice 1 0 0 (.known q)], [.flat [.i .u8] et w vs, .flat [.i .u16] e2 w2 es, .glob g cs, .glob g1 [.int .i64 m]] => some (S.an (S.okG g cs g1) (S.okF vs W a), ⟨.ret (.slice 4 0 W (.known W)), [], [.flat [.bo] 4 .exact (S.flw vs W a es 0)]⟩)
 | _, _ => none), [5, 22, 2000000]⟩
noncomputable def rSE : K.CEnt := ⟨9, (fun xs os => match xs, os with
 | [.int .i64 a, .slice 0 0 W cp, .slice 1 0 N cq], [.flat [.i .u8] et w vs, .flat [.i .u16] e2 w2 es] => some (S.okG2 vs es W a N, ⟨.ret (.slice 2 0 W (.known W)), [], [.flat [.bo] 4 .exact (S.flw vs W a es N)]⟩)
 | _, _ => none), [5, 22]⟩
noncomputable def rNE : K.CEnt := ⟨9, (fun xs os => match xs, os with
 | [.int .i64 a, .slice 0 0 W cp, .nils], [.flat [.i .u8] et w vs] => some (S.okF vs W a, ⟨.ret (.slice 1 0 W (.known W)), [], [.flat [.bo] 4 .exact (S.zr W)]⟩)
 | _, _ => none), [5, 22]⟩
noncomputable def rEE : K.CEnt := ⟨9, (fun xs os => match xs, os with
 | [.int .i64 a, .slice 0 0 W cp, .emp 1], [.flat [.i .u8] et w vs, .empty] => some (S.okF vs W a, ⟨.ret (.slice 2 0 W (.known W)), [], [.flat [.bo] 4 .exact (S.zr W)]⟩)
 | _, _ => none), [5, 22]⟩
noncomputable def cmEB : K.BEnt := ⟨[7, 8, 9], 9, (fun xs os => match xs, os with
 | [.slice 0 0 W c, .slice 1 0 W2 c2, .int .i64 i], [.flat [.bo] 4 .exact x, .flat [.bo] 4 .exact y] => some (true, ⟨.exit 0, [], [], []⟩)
 | _, _ => none), []⟩
noncomputable def cmBB : K.BEnt := ⟨[7, 8, 9], 9, (fun xs os => match xs, os with
 | [.slice 0 0 W c, .slice 1 0 W2 c2, .int .i64 i], [.flat [.bo] 4 .exact x, .flat [.bo] 4 .exact y] => some (true, ⟨.normal, [], [], []⟩)
 | _, _ => none), []⟩
end Go.Proofs.YtlgfojaalmelhaaDoor.Ev
