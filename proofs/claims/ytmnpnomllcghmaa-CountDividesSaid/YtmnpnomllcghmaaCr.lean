/- The divider's rounds: the law CountRounds. -/
import Derived.Test.YtmnpnomllcghmaaPol2
import Derived.Test.YtmnpnomllcghmaaGood
namespace Go.Proofs.Ytmnpnomllcghmaa.Ev
open Go
/-- The first loop of a code, its body. -/
def loopIn : Code → Option Code
  | .seq a b => match loopIn a with
    | some c => some c
    | none => loopIn b
  | .cond _ a b => match loopIn a with
    | some c => some c
    | none => loopIn b
  | .block _ a => loopIn a
  | .scope a => loopIn a
  | .loop c => some c
  | _ => none
def bodyOf (f : Func) : Code := match f.body with
  | some c => match loopIn c with
    | some c => c
    | none => .skip
  | none => .skip
def awakeC (g : FuncId) : Con := ⟨g, [], [], .ret (.bool true), []⟩
def noPol : Pol := fun _ _ _ => none
noncomputable def pol02 : Pol := fun g _ _ => bif Nat.beq g 18 then some (awakeC 18, []) else none
def crL (n a t j : Int) : List (Nat × LV) := [(0, .int .i64 n), (1, .int .i64 a), (4, .bool false), (5, .ptr 0 0), (6, .int .i64 t), (7, .int .i64 j)]
def crO (n d : Int) : List LObj := [.cells 89 .exact [.int .i64 d, .int .i64 n]]
def crC (n a t j d t' j' d' : Int) : LCon := ⟨crL n a t j, crO n d, .normal, crL n a t' j', crO n d'⟩
def crE (n a t j d : Int) : LCon := ⟨crL n a t j, crO n d, .exit 0, crL n a t j, crO n d⟩
end Go.Proofs.Ytmnpnomllcghmaa.Ev
