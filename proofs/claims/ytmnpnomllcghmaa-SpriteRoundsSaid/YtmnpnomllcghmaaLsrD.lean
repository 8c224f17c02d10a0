/- Contracts, what they say: Lsr. -/
import Derived.Test.YtmnpnomllcghmaaLssD
namespace Go.Proofs.Ytmnpnomllcghmaa.Ev
open Go
set_option linter.unusedVariables false
namespace S
noncomputable section
/-- A thing behind so many ticks: the line, the scan, the count; and how often it started. -/
def thst (c line scan m : Int) (j : Nat) : Int × Int × Int := @Nat.rec (fun _ => Int × Int × Int) (line, scan, m) (fun _ p => (tline p.1 (starts c (nxp p.2.2)), tscan p.1 p.2.1, nxp p.2.2)) j
def thl (c line scan m : Int) (j : Nat) : Int := (thst c line scan m j).1
def ths (c line scan m : Int) (j : Nat) : Int := (thst c line scan m j).2.1
def tms (c m : Int) (j : Nat) : Int := @Nat.rec (fun _ => Int → Int) (fun _ => 0) (fun _ g m => bc (starts c (nxp m)) 1 0 + g (nxp m)) j m
def nst (c : Int) : Int := tms c 0 160
end
end S
noncomputable def srB : K.BEnt := ⟨[0, 1, 5, 6, 7], 9, (fun xs os => match xs, os with
  | [.int .u8 q, .int .u8 c, .ptr 0 0, .int .i64 0, .int .i64 0], [.cells 107 .exact [.ptr 1 0, .int .u16 line, .int .i64 scan], .cells 98 .exact [.ptr 2 0, .ptr 3 0], .cells 89 .exact [.int .i64 a, .int .i64 d], .cells 93 .exact [.ptr 4 0, .int .u8 l, .int .i64 n], .cells 110 .exact [.int .u8 s, .int .i64 6, .int .i64 1]] => some (S.an (S.okPm a d l n s) (S.an (S.okTh line scan) (S.inR c 256)), ⟨.normal, [(0, .int .u8 q), (1, .int .u8 c), (5, .ptr 0 0), (6, .int .i64 (S.tms (c % 8) (S.plc a s) 160)), (7, .int .i64 160)], [(0, .cells 107 .exact [.ptr 1 0, .int .u16 (S.thl (c % 8) line scan (S.plc a s) 160), .int .i64 (S.ths (c % 8) line scan (S.plc a s) 160)]), (2, .cells 89 .exact [.int .i64 a, .int .i64 d]), (4, .cells 110 .exact [.int .u8 s, .int .i64 6, .int .i64 1])], []⟩)
  | _, _ => none), []⟩
end Go.Proofs.Ytmnpnomllcghmaa.Ev
