/- Contracts, what they say: Tkn. -/
import Derived.Test.YtlgfojaalmelhaaDoorTflD
namespace Go.Proofs.YtlgfojaalmelhaaDoor.Ev
open Go
set_option linter.unusedVariables false
namespace S
noncomputable section
def es6 : List Ent := [⟨.str [(74 : UInt8), (77 : UInt8), (80 : UInt8)], .int .u8 7, 0⟩, ⟨.str [(74 : UInt8), (83 : UInt8), (82 : UInt8)], .int .u8 8, 1⟩, ⟨.str [(82 : UInt8), (84 : UInt8), (83 : UInt8)], .int .u8 9, 2⟩, ⟨.str [(82 : UInt8), (84 : UInt8), (73 : UInt8)], .int .u8 10, 3⟩, ⟨.str [(66 : UInt8), (82 : UInt8), (75 : UInt8)], .int .u8 11, 4⟩, ⟨.str [(74 : UInt8), (65 : UInt8), (77 : UInt8)], .int .u8 12, 5⟩]
def src : List Ent := [⟨.int .u8 3, .str [(65 : UInt8), (83 : UInt8), (76 : UInt8), (32 : UInt8), (76 : UInt8), (83 : UInt8), (82 : UInt8), (32 : UInt8), (82 : UInt8), (79 : UInt8), (76 : UInt8), (32 : UInt8), (82 : UInt8), (79 : UInt8), (82 : UInt8), (32 : UInt8), (73 : UInt8), (78 : UInt8), (67 : UInt8), (32 : UInt8), (68 : UInt8), (69 : UInt8), (67 : UInt8), (32 : UInt8), (83 : UInt8), (76 : UInt8), (79 : UInt8), (32 : UInt8), (82 : UInt8), (76 : UInt8), (65 : UInt8), (32 : UInt8), (83 : UInt8), (82 : UInt8), (69 : UInt8), (32 : UInt8), (82 : UInt8), (82 : UInt8), (65 : UInt8), (32 : UInt8), (68 : UInt8), (67 : UInt8), (80 : UInt8), (32 : UInt8), (73 : UInt8), (83 : UInt8), (67 : UInt8)], 0⟩, ⟨.int .u8 2, .str [(83 : UInt8), (84 : UInt8), (65 : UInt8), (32 : UInt8), (83 : UInt8), (84 : UInt8), (88 : UInt8), (32 : UInt8), (83 : UInt8), (84 : UInt8), (89 : UInt8), (32 : UInt8), (83 : UInt8), (65 : UInt8), (88 : UInt8), (32 : UInt8), (83 : UInt8), (72 : UInt8), (65 : UInt8), (32 : UInt8), (83 : UInt8), (72 : UInt8), (88 : UInt8), (32 : UInt8), (83 : UInt8), (72 : UInt8), (89 : UInt8), (32 : UInt8), (84 : UInt8), (65 : UInt8), (83 : UInt8)], 1⟩, ⟨.int .u8 5, .str [(80 : UInt8), (72 : UInt8), (65 : UInt8), (32 : UInt8), (80 : UInt8), (72 : UInt8), (80 : UInt8)], 2⟩, ⟨.int .u8 6, .str [(80 : UInt8), (76 : UInt8), (65 : UInt8), (32 : UInt8), (80 : UInt8), (76 : UInt8), (80 : UInt8)], 3⟩]
def wds (b : Nat) : List LV := match b with
 | 0 => [.str [(65 : UInt8), (83 : UInt8), (76 : UInt8)], .str [(76 : UInt8), (83 : UInt8), (82 : UInt8)], .str [(82 : UInt8), (79 : UInt8), (76 : UInt8)], .str [(82 : UInt8), (79 : UInt8), (82 : UInt8)], .str [(73 : UInt8), (78 : UInt8), (67 : UInt8)], .str [(68 : UInt8), (69 : UInt8), (67 : UInt8)], .str [(83 : UInt8), (76 : UInt8), (79 : UInt8)], .str [(82 : UInt8), (76 : UInt8), (65 : UInt8)], .str [(83 : UInt8), (82 : UInt8), (69 : UInt8)], .str [(82 : UInt8), (82 : UInt8), (65 : UInt8)], .str [(68 : UInt8), (67 : UInt8), (80 : UInt8)], .str [(73 : UInt8), (83 : UInt8), (67 : UInt8)]]
 | 1 => [.str [(83 : UInt8), (84 : UInt8), (65 : UInt8)], .str [(83 : UInt8), (84 : UInt8), (88 : UInt8)], .str [(83 : UInt8), (84 : UInt8), (89 : UInt8)], .str [(83 : UInt8), (65 : UInt8), (88 : UInt8)], .str [(83 : UInt8), (72 : UInt8), (65 : UInt8)], .str [(83 : UInt8), (72 : UInt8), (88 : UInt8)], .str [(83 : UInt8), (72 : UInt8), (89 : UInt8)], .str [(84 : UInt8), (65 : UInt8), (83 : UInt8)]]
 | 2 => [.str [(80 : UInt8), (72 : UInt8), (65 : UInt8)], .str [(80 : UInt8), (72 : UInt8), (80 : UInt8)]]
 | 3 => [.str [(80 : UInt8), (76 : UInt8), (65 : UInt8)], .str [(80 : UInt8), (76 : UInt8), (80 : UInt8)]]
 | _ => []
def kdI (b : Nat) : Int := match b with
 | 0 => 3
 | 1 => 2
 | 2 => 5
 | 3 => 6
 | _ => 0
def ins (v : LV) (l : List LV) (p : List Ent × Nat) : List Ent × Nat := l.foldl (fun p k => (p.1 ++ [⟨k, v, p.2⟩], p.2 + 1)) p
def stt (seen : List Nat) : List Ent × Nat := seen.foldl (fun p b => ins (.int .u8 (kdI b)) (wds b) p) (es6, 6)
def kmap : List Ent := (stt [0, 1, 2, 3]).1

def okG (g : Nat) (cs : List LV) (g1 : Nat) : Bool := bc (Nat.beq g 0) (bc (eqTab cs tabI) (Nat.beq g1 1) false) false
def fstC : Code → Code | .seq a _ => a | c => c
def sndC : Code → Code | .seq _ b => b | c => c
def opsOf : Code → List Oper | .region _ ops _ => ops.toList | _ => []
def idOf : Code → Nat | .region i _ _ => i | _ => 0
def kc : Code := inner (inner (blkOf 34 0))
def o0 : Oper := ((opsOf (fstC kc))[0]?).getD default
def o1 : Oper := ((opsOf (fstC kc))[1]?).getD default
def kx : Code := sndC kc
def kos (m : Int) (seen : List Nat) : List LObj := [.map (stt seen).1 (stt seen).2, .miter 2 (4, seen, 4), .map src 4, .glob 0 tabV, .glob 1 [.int .i64 m]]
def kos1 (m : Int) (seen : List Nat) (b : Nat) : List LObj := [.map (stt seen).1 (stt seen).2, .miter 2 (4, seen ++ [b], 4), .map src 4, .glob 0 tabV, .glob 1 [.int .i64 m]]
def kL : List (Nat × LV) := [(1, .map 0), (10, .ptr 1 0)]
def kLb (b : Bool) : List (Nat × LV) := [(1, .map 0), (10, .ptr 1 0), (12, .bool b)]
def digs (n : Nat) (i : Nat) : List Nat := match n with
 | 0 => []
 | n + 1 => i % 4 :: digs n (i / 4)
def okD (l : List Nat) : Bool := match l with
 | [] => true
 | a :: l => !l.contains a && okD l
def ways : List (List Nat × Nat) := ([0, 1, 2, 3].flatMap fun n => ((List.range (4 ^ n)).map (digs n)).filter okD).flatMap fun s => ([0, 1, 2, 3].filter fun b => !s.contains b).map fun b => (s, b)
end
end S
noncomputable def knB : K.BEnt := ⟨[1, 10], 9, (fun xs os => some (true, ⟨.normal, [(1, .map 0)], [(0, .fmap S.kmap), (1, .dead), (2, .dead)], []⟩)), [2000000]⟩
noncomputable def kndE : K.CEnt := ⟨9, (fun xs os => match xs, os with
 | [], [.glob g cs, .glob g1 [.int .i64 m]] => some (S.okG g cs g1, ⟨.ret (.map 2), [], [.fmap S.kmap]⟩)
 | _, _ => none), [2000000]⟩
end Go.Proofs.YtlgfojaalmelhaaDoor.Ev
