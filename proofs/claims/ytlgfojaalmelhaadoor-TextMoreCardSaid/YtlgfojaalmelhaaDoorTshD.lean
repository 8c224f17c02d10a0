/- Contracts, what they say: Tsh. -/
import Derived.Test.YtlgfojaalmelhaaDoorTofD
import Derived.Test.YtlgfojaalmelhaaDoorThxD
import Derived.Test.YtlgfojaalmelhaaDoorTorD
namespace Go.Proofs.YtlgfojaalmelhaaDoor.Ev
open Go
set_option linter.unusedVariables false
namespace S
noncomputable section
def is3 (m : Int) : Bool := bc (eqI m 6) true (bc (eqI m 7) true (bc (eqI m 8) true (eqI m 12)))
def len (o : Int) : Int := bc (eqI (md o) 0) 1 (bc (eqI (md o) 1) 1 (bc (is3 (md o)) 3 2))
def preT : List (List UInt8) := [[], [], [(35 : UInt8), (36 : UInt8)], [(36 : UInt8)], [(36 : UInt8)], [(36 : UInt8)], [(36 : UInt8)], [(36 : UInt8)], [(36 : UInt8)], [(40 : UInt8), (36 : UInt8)], [(40 : UInt8), (36 : UInt8)], [], [(40 : UInt8), (36 : UInt8)]]
def sufT : List (List UInt8) := [[], [], [], [], [(44 : UInt8), (88 : UInt8)], [(44 : UInt8), (89 : UInt8)], [], [(44 : UInt8), (88 : UInt8)], [(44 : UInt8), (89 : UInt8)], [(44 : UInt8), (88 : UInt8), (41 : UInt8)], [(41 : UInt8), (44 : UInt8), (89 : UInt8)], [], [(41 : UInt8)]]
def pre (m : Int) : List UInt8 := preT.getD m.toNat []
def suf (m : Int) : List UInt8 := sufT.getD m.toNat []
def tgt (a p : Int) : Int := (p + 2 + (if a < 128 then a else a - 256)) % 65536
def opn (m a b p : Int) : List UInt8 := bc (eqI m 0) [] (bc (eqI m 1) [32, 65] (bc (eqI m 11) ([32, 36] ++ hex (tgt a p) 4) ([32] ++ pre m ++ (bc (is3 m) (hex b 2 ++ hex a 2) (hex a 2)) ++ suf m)))
def shw (o a b p : Int) : List UInt8 := nm o ++ opn (md o) a b p
def isW (p : Int) : Bool := bc (ltI p 0) false (ltI p 65536)
def okS (o a b p : Int) : Bool := bc (isB o) (bc (isB a) (bc (isB b) (isW p) false) false) false
end
end S
noncomputable def lnE : K.CEnt := ⟨9, (fun xs os => match xs, os with
 | [.int .u8 o], [.glob g cs, .glob g1 [.int .i64 m]] => some (bc (S.okG g cs g1) (S.isB o) false, ⟨.ret (.int .i64 (S.len o)), [], []⟩)
 | _, _ => none), [2000000]⟩
noncomputable def shE : K.CEnt := ⟨9, (fun xs os => match xs, os with
 | [.int .u8 o, .int .u8 a, .int .u8 b, .int .u16 p], [.glob g cs, .glob g1 [.int .i64 m]] => some (bc (S.okG g cs g1) (S.okS o a b p) false, ⟨.ret (.str (S.shw o a b p)), [], []⟩)
 | _, _ => none), [2000000]⟩
noncomputable def shrE : K.CEnt := ⟨9, (fun xs os => match xs, os with
 | [.int .i64 o, .int .i64 a, .int .i64 b, .int .i64 p], [] => some (S.okS o a b p, ⟨.ret (.str (S.shw o a b p)), [], []⟩)
 | _, _ => none), []⟩
end Go.Proofs.YtlgfojaalmelhaaDoor.Ev
