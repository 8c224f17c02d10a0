/- Contracts, what they say: Tfl. -/
import Derived.Test.YtlgfojaalmelhaaDoorE0
import Derived.Shelf.Lay
import Derived.Shelf.LaySoft
import Derived.Shelf.Strings.Fields
import Derived.Shelf.Strings.Search3
import Derived.Shelf.Small.Strs
namespace Go.Proofs.YtlgfojaalmelhaaDoor.Ev
open Go
set_option linter.unusedVariables false
namespace S
noncomputable section
def tabI : List Int := Lib.asciiSpaceTab
def tabV : List LV := tabI.map fun n => .int .u8 n
def eqTab (cs : List LV) : List Int → Bool := @List.rec LV (fun _ => List Int → Bool) (fun l => match l with
 | [] => true
 | _ => false) (fun v _ g l => match l with
 | [] => false
 | n :: l => match v with
  | .int .u8 m => bc (eqI m n) (g l) false
  | _ => false) cs
def asc (s : List UInt8) : Bool := bc (Nat.ble (lenL s) 1000000) (s.all fun b => Nat.blt b.toNat 128) false
def flds (s : List UInt8) : List LV := (Lib.fields s).map fun l => .str l
def shr (s : List UInt8) : Bool := Nat.ble (lenL s) 1000000
def okC (g1 : Nat) (s : List UInt8) : Bool := bc (Nat.beq g1 1) (shr s) false
def fln (s : List UInt8) : Nat := lenL (flds s)
end
end S
noncomputable def fldE : K.CEnt := ⟨9, (fun xs os => match xs, os with
 | [.str s], [.glob g cs, .glob g1 [.int .i64 m]] => some (bc (Nat.beq g 0) (bc (S.eqTab cs S.tabI) (S.asc s) false) false, ⟨.ret (.slice 2 0 (S.fln s) (.known (S.fln s))), [], [.cells 9 .exact (S.flds s)]⟩)
 | _, _ => none), [2000000]⟩
noncomputable def cstE : K.CEnt := ⟨9, (fun xs os => match xs, os with
 | [.str s, .str t], [.glob g cs, .glob g1 [.int .i64 m]] => some (S.okC g1 s, ⟨.ret (.bool (Lib.contains s t)), [], []⟩)
 | _, _ => none), [2000000]⟩
noncomputable def ixbE : K.CEnt := ⟨9, (fun xs os => match xs, os with
 | [.str s, .int .u8 c], [] => some (true, ⟨.ret (.int .i64 (Lib.indexByte s c.toNat.toUInt8)), [], []⟩)
 | _, _ => none), []⟩
end Go.Proofs.YtlgfojaalmelhaaDoor.Ev
