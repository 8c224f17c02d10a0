/- Contracts, what they say: Tby. -/
import Derived.Test.YtlgfojaalmelhaaDoorThxD
import Derived.Shelf.Lay
import Derived.Shelf.LaySoft
import Derived.Shelf.Strings.OnBuilder
namespace Go.Proofs.YtlgfojaalmelhaaDoor.Ev
open Go
set_option linter.unusedVariables false
namespace S
noncomputable section
def an (a b : Bool) : Bool := bc a b false
def by1 (vs : List LV) (k : Nat) : Int := intOf (K.atV vs k)
def byOk (b : Int) : Bool := an (notB (ltI b 0)) (ltI b 256)
/-- Bytes: are they? -/
def okB (vs : List LV) : Bool := @Nat.rec (fun _ => Bool) true (fun i r => an (byOk (by1 vs i)) r) (lenL vs)
def bst (b : Int) : List UInt8 := 36 :: hex b 2
def rem (W : Nat) (i : Int) : Nat := (W - i).toNat
/-- The bytes' texts. -/
def bys (vs : List LV) (o : Nat) (j : Nat) : Int → List LV := @Nat.rec (fun _ => Int → List LV) (fun _ => []) (fun _ g i => .str (bst (by1 vs (o + i.toNat * 1))) :: g (i + 1)) j
/-- A comma and the byte's text, for each. -/
def byr (vs : List LV) (o : Nat) (j : Nat) : Int → List UInt8 := @Nat.rec (fun _ => Int → List UInt8) (fun _ => []) (fun _ g i => 44 :: app (bst (by1 vs (o + i.toNat * 1))) (g (i + 1))) j
def byT : List UInt8 := [46, 98, 121, 116, 101, 32]
/-- The bytes' line. -/
def bytes (vs : List LV) (o W : Nat) : List UInt8 := bc (Nat.beq W 0) [] (app byT (app (bst (by1 vs (o + 0 * 1))) (byr vs o (W - 1) 1)))
def okT (ss : List LV) : Bool := ss.all fun v => Nat.ble (lenL (strOf v)) 1000
def okJ (ss : List LV) (M : Nat) (sep : List UInt8) : Bool := an (okT ss) (an (Nat.beq (lenL ss) M) (an (Nat.ble M 1000) (Nat.ble (lenL sep) 10)))
/-- Texts, joined. -/
def joinS (ss : List LV) (sep : List UInt8) : List UInt8 := Lib.join (ss.map strOf) sep
def okR (vs : List LV) (o W : Nat) : Bool := an (okB vs) (an (Nat.ble (o + W) (lenL vs)) (Nat.ble W 1000))
def okQ (vs : List LV) (o W : Nat) (i : Int) : Bool := an (okR vs o W) (an (notB (ltI i 0)) (notB (ltI W i)))
def okA (vs : List LV) (o W : Nat) (i : Int) (ss : List LV) (M : Nat) : Bool := an (okQ vs o W i) (an (Nat.beq (lenL ss) M) (Nat.ble M 1000))
end
end S
noncomputable def tbLB : K.BEnt := ⟨[3, 6, 7, 8], 9, (fun xs os => match xs, os with
  | [.slice 0 0 M (.rest 0), .slice 1 o W cp, .int .i64 N, .int .i64 i], [.flat [.sr] 9 (.grow 1) ss, .flat [.i .u8] et w vs] => some (S.an (eqI N W) (S.okA vs o W i ss M), ⟨.exit 0, [(3, .slice 2 0 (M + S.rem W i) (.rest 0))], [(0, .dead)], [.flat [.sr] 9 (.grow 1) (app ss (S.bys vs o (S.rem W i) i))]⟩)
  | _, _ => none), [9 + 1000000]⟩
noncomputable def rbLB : K.BEnt := ⟨[0, 3, 4], 9, (fun xs os => match xs, os with
  | [.slice 0 o W cp, .str a, .int .i64 i], [.flat [.i .u8] et w vs] => some (S.okQ vs o W i, ⟨.exit 0, [(3, .str (app a (S.byr vs o (S.rem W i) i)))], [], []⟩)
  | _, _ => none), []⟩
noncomputable def rbBB : K.BEnt := ⟨[0, 3, 4], 9, (fun xs os => match xs, os with
  | [.slice 0 o W cp, .str a, .int .i64 i], [.flat [.i .u8] et w vs] => some (S.okR vs o W, ⟨.normal, [(3, .str (S.bytes vs o W))], [], []⟩)
  | _, _ => none), []⟩
noncomputable def rbyE : K.CEnt := ⟨9, (fun xs os => match xs, os with
  | [.slice 0 o W cp], [.flat [.i .u8] et w vs] => some (S.okR vs o W, ⟨.ret (.str (S.bytes vs o W)), [], []⟩)
  | _, _ => none), [5]⟩
noncomputable def jnE : K.CEnt := ⟨9, (fun xs os => match xs, os with
  | [.slice 0 0 M (.rest 0), .str sep], [.flat [.sr] e (.grow 1) ss] => some (S.okJ ss M sep, ⟨.ret (.str (S.joinS ss sep)), [], []⟩)
  | _, _ => none), [9 + 1000000]⟩
noncomputable def tbNB : K.BEnt := ⟨[3, 6, 7, 8], 9, (fun xs os => match xs, os with
  | [.nils, .slice 0 o W cp, .int .i64 N, .int .i64 i], [.flat [.i .u8] et w vs] => some (S.an (eqI i 0) (S.an (eqI N W) (S.okR vs o W)), ⟨.normal, [(3, .slice 1 0 W (.rest 0))], [], [.flat [.sr] 9 (.grow 1) (S.bys vs o W 0)]⟩)
  | _, _ => none), []⟩
noncomputable def byE : K.CEnt := ⟨9, (fun xs os => match xs, os with
  | [.slice 0 o W cp], [.flat [.i .u8] et w vs] => some (S.okR vs o W, ⟨.ret (.str (S.bytes vs o W)), [], []⟩)
  | _, _ => none), [5]⟩
end Go.Proofs.YtlgfojaalmelhaaDoor.Ev
