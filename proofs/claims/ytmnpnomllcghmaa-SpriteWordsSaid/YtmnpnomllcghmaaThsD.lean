/- Contracts, what they say: Ths. -/
import Derived.Test.YtmnpnomllcghmaaSprD
namespace Go.Proofs.Ytmnpnomllcghmaa.Ev
open Go
set_option linter.unusedVariables false
namespace S
noncomputable section
/-- A thing behind so many ticks: the line, the scan, the count; and how often it started. -/
def thst (c line scan m : Int) (j : Nat) : Int × Int × Int := @Nat.rec (fun _ => Int × Int × Int) (line, scan, m) (fun _ p => (tline p.1 (starts c (nxp p.2.2)), tscan p.1 p.2.1, nxp p.2.2)) j
def thl (c line scan m : Int) (j : Nat) : Int := (thst c line scan m j).1
def ths (c line scan m : Int) (j : Nat) : Int := (thst c line scan m j).2.1
def tms (c m : Int) (j : Nat) : Int := @Nat.rec (fun _ => Int → Int) (fun _ => 0) (fun _ g m => bc (starts c (nxp m)) 1 0 + g (nxp m)) j m
def nst (c : Int) : Int := tms c 0 160
structure Act16 where
  kind : Int
  ticks : Int
  copies : Int
  n : Int
  w0 : Int
  w1 : Int
  w2 : Int
def act16V (a : Act16) : List LV := [.int .i64 a.kind, .int .u16 a.ticks, .int .u8 a.copies, .int .i64 a.n, .int .i64 a.w0, .int .i64 a.w1, .int .i64 a.w2]
def act16K : List CK := [.i .i64, .i .u16, .i .u8, .i .i64, .i .i64, .i .i64, .i .i64]
def acts16 (l : List Act16) : List LV := l.flatMap act16V
def okActs16 (vs : List LV) : Bool := match vs with
  | [] => true
  | _ :: t :: c :: _ :: _ :: _ :: _ :: r => an (an (an (notB (ltI (intOf t) 0)) (ltI (intOf t) 65536)) (an (notB (ltI (intOf c) 0)) (ltI (intOf c) 256))) (okActs16 r)
  | _ => false
def tkV (vs : List LV) (i : Int) : Int := (intOf (K.atV vs (0 + i.toNat * 7 + 1))) % 400
def cpV (vs : List LV) (i : Int) : Int := intOf (K.atV vs (0 + i.toNat * 7 + 2))
def okVs16 (vs : List LV) (L : Nat) : Bool := an (okActs16 vs) (Nat.beq (lenL vs) (L * 7))
def okT16 (a d l n s line scan : Int) : Bool := an (okPm a d l n s) (okTh line scan)
def okR16 (a s line scan rm ry re : Int) : Bool := an (eqI rm (plc a s)) (an (eqI ry (young line scan)) (eqI re (elder line scan)))
def okIx (L : Nat) (i k t : Int) : Bool := an (an (notB (ltI i 0)) (ltI i L)) (an (notB (ltI k 0)) (notB (ltI t k)))
def okSi (a d l n s line scan rm ry re : Int) (vs : List LV) (L : Nat) (i k : Int) : Bool := an (okT16 a d l n s line scan) (an (okR16 a s line scan rm ry re) (an (okVs16 vs L) (okIx L i k (tkV vs i))))
def okSo (a d l n s line scan rm ry re : Int) (vs : List LV) (L : Nat) (i : Int) : Bool := an (okT16 a d l n s line scan) (an (okR16 a s line scan rm ry re) (an (okVs16 vs L) (an (notB (ltI i 0)) (notB (ltI L i)))))
end
end S
end Go.Proofs.Ytmnpnomllcghmaa.Ev
