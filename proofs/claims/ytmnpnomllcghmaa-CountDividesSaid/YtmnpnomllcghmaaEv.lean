/- The evaluator's words: local values, the local heap, the operations on them. Plain functions; nothing is proved here. -/
import Derived.Calls
import Derived.KernelRfl
namespace Go.Proofs.Ytmnpnomllcghmaa.Ev
open Go
noncomputable section

/-- A choice by a Bool, in one step of the kernel's. -/
def bc {α : Type} (c : Bool) (x y : α) : α := @Bool.rec (fun _ => α) y x c
@[simp] theorem bc_true {α : Type} (x y : α) : bc true x y = x := rfl
@[simp] theorem bc_false {α : Type} (x y : α) : bc false x y = y := rfl

/-- A slice's capacity: known, or what the block's real capacity leaves behind so many elements. -/
inductive Cap where
  | known (c : Nat)
  | rest (k : Nat)

inductive LV where
  | junk
  | bool (b : Bool)
  | int (k : IntKind) (n : Int)
  | str (s : List UInt8)
  | nilp
  | ptr (i o : Nat)
  | nils
  | slice (i o l : Nat) (c : Cap)
  | emp (i : Nat)
  | nilm
  | map (i : Nat)
  | func (f : Fn) (first captured : List LV)
  | nilf
  | iface (t : TypeId) (v : LV)
  | nili
  | agg (cs : List LV)
  | tup (vs : List LV)

/-- A tree that is asked by numbers. -/
inductive Tr (α : Type) where
  | nil
  | node (v : α) (l r : Tr α)

namespace Tr
variable {α : Type}
def get (d : α) (t : Tr α) : Nat → α :=
  @Tr.rec α (fun _ => Nat → α) (fun _ => d) (fun v _ _ gl gr i => bc (Nat.beq i 0) v (bc (Nat.beq (Nat.mod i 2) 1) (gl (Nat.div i 2)) (gr (Nat.pred (Nat.div i 2))))) t
def one (d x : α) (k : Nat) : Nat → Tr α :=
  @Nat.rec (fun _ => Nat → Tr α) (fun _ => .nil) (fun _ g i => bc (Nat.beq i 0) (.node x .nil .nil) (bc (Nat.beq (Nat.mod i 2) 1) (.node d (g (Nat.div i 2)) .nil) (.node d .nil (g (Nat.pred (Nat.div i 2)))))) k
def set (d x : α) (t : Tr α) : Nat → Tr α :=
  @Tr.rec α (fun _ => Nat → Tr α) (fun i => one d x (i + 1) i) (fun v l r gl gr i => bc (Nat.beq i 0) (.node x l r) (bc (Nat.beq (Nat.mod i 2) 1) (.node v (gl (Nat.div i 2)) r) (.node v l (gr (Nat.pred (Nat.div i 2)))))) t
end Tr

/-- Who may touch a row of cells: it is only read (and may be shared); it is the block whole; it is the begin of a block with room behind. -/
inductive Own where
  | ro | exact
  | grow (size : Nat)

structure Ent where
  key : LV
  val : LV
  born : Nat

inductive LObj where
  | dead
  | cells (e : TypeId) (w : Own) (c : List LV)
  | map (es : List Ent) (clock : Nat)
  | empty
  | strIter (s : List UInt8) (pos : Nat)
  | loop (st : LoopState) (pe : Option Code) (fn : FuncId) (n : Nat) (t : Tr LV) (params : List Tmp) (assign body : Code) (defers : Nat)
  | defers (taken : Bool)

structure Slot where
  stamp : Nat
  obj : LObj

structure Heap where
  n : Nat
  t : Tr Slot

def Slot.none : Slot := ⟨0, .dead⟩
def Heap.slot (H : Heap) (i : Nat) : Slot := H.t.get Slot.none i
def Heap.get (H : Heap) (i : Nat) : LObj := (H.slot i).obj
def Heap.push (H : Heap) (o : LObj) : Heap := ⟨H.n + 1, H.t.set Slot.none ⟨0, o⟩ H.n⟩
def Heap.put (H : Heap) (i : Nat) (o : LObj) : Heap := ⟨H.n, H.t.set Slot.none ⟨(H.slot i).stamp + 1, o⟩ i⟩
def Heap.pushes (H : Heap) : List LObj → Heap
  | [] => H
  | o :: os => (H.push o).pushes os
def Heap.puts (H : Heap) : List (Nat × LObj) → Heap
  | [] => H
  | (i, o) :: os => bif Nat.blt i H.n then (H.put i o).puts os else H.puts os
def Heap.upd (H : Heap) (us : List (Nat × LObj)) (ns : List LObj) : Heap := (H.puts us).pushes ns
def Heap.nil : Heap := ⟨0, .nil⟩
def Heap.of (os : List LObj) : Heap := Heap.nil.pushes os

/-- A frame: its function, its size, its temporaries, the blocks for the deferred calls of its rounds, the round that it is. -/
structure Fr where
  fn : FuncId
  n : Nat
  t : Tr LV
  marks : List Nat
  round : Option Nat

def Fr.get (f : Fr) (i : Nat) : LV := f.t.get .junk i
def Fr.set (f : Fr) (i : Nat) (v : LV) : Fr := { f with t := f.t.set .junk v i }
def Fr.put (f : Fr) (d : Option Tmp) (v : LV) : Option Fr :=
  match d with
  | none => some f
  | some i => bif Nat.blt i f.n then some (f.set i v) else none

def undefL : LV := .tup []

def isJunk : LV → Bool
  | .junk => true
  | _ => false
def noJunk (l : List LV) : Bool := @List.rec LV (fun _ => Bool) true (fun v _ b => bc (isJunk v) false b) l
/-- A constant's local value; junk: of no kind that is taken. -/
def ofVal0 : Value → LV
  | .bool b => .bool b
  | .int k n => .int k n
  | .string s => .str s.data.toList
  | .pointer none => .nilp
  | .slice none 0 0 => .nils
  | .map none => .nilm
  | .nilFunc => .nilf
  | .nilIface => .nili
  | _ => .junk
def ofVal : Value → LV
  | .agg cs => let l := cs.toList.map ofVal0; bif noJunk l then .agg l else .junk
  | .iface t v => let l := ofVal0 v; bif isJunk l then .junk else .iface t l
  | .tuple cs => let l := cs.toList.map ofVal0; bif noJunk l then .tup l else .junk
  | v => ofVal0 v

def Fr.ev (f : Fr) : Operand → LV
  | .tmp t => f.get t
  | .const v => ofVal v
  | .global _ => .junk
  | .func g => .func (.func g) [] []
def Fr.evs (f : Fr) (l : List Operand) : List LV := @List.rec Operand (fun _ => List LV) [] (fun x _ r => f.ev x :: r) l
def oneCell : LV → Bool
  | .agg _ => false
  | .tup _ => false
  | .junk => false
  | _ => true
def allOne (l : List LV) : Bool := @List.rec LV (fun _ => Bool) true (fun v _ b => bc (oneCell v) b false) l

def cellsOf : LV → List LV
  | .agg cs => cs
  | v => [v]

/-- A type's shape: its kind alone. -/
def aggOf (P : Program) (t : TypeId) : Option Bool :=
  match P.underlying t with
  | some (.struct _) => some true
  | some (.array _ _) => some true
  | some _ => some false
  | none => none
def sizeOfT (P : Program) (t : TypeId) : Option Nat := (P.info? t).map (·.size)
def zeroOf (P : Program) (t : TypeId) : Option LV :=
  match P.info? t with
  | some i => match i.zero with
    | some v => let l := ofVal v; bif isJunk l then none else some l
    | none => none
  | none => none

def nth (l : List LV) : Nat → Option LV :=
  @List.rec LV (fun _ => Nat → Option LV) (fun _ => none) (fun v _ g i => @Nat.rec (fun _ => Option LV) (some v) (fun j _ => g j) i) l
def setNth (l : List LV) : Nat → LV → List LV :=
  @List.rec LV (fun _ => Nat → LV → List LV) (fun _ _ => []) (fun v vs g i x => @Nat.rec (fun _ => List LV) (x :: vs) (fun j _ => v :: g j x) i) l
def takeN (l : List LV) : Nat → List LV :=
  @List.rec LV (fun _ => Nat → List LV) (fun _ => []) (fun v _ g n => @Nat.rec (fun _ => List LV) [] (fun m _ => v :: g m) n) l
def dropN (l : List LV) : Nat → List LV :=
  @List.rec LV (fun _ => Nat → List LV) (fun _ => []) (fun v vs g n => @Nat.rec (fun _ => List LV) (v :: vs) (fun m _ => g m) n) l
def lenL {α : Type} (l : List α) : Nat := @List.rec α (fun _ => Nat) 0 (fun _ _ n => n + 1) l
def app {α : Type} (l : List α) (m : List α) : List α := @List.rec α (fun _ => List α) m (fun x _ r => x :: r) l
def setMany (cs : List LV) (o : Nat) (vs : List LV) : List LV :=
  @List.rec LV (fun _ => List LV → Nat → List LV) (fun cs _ => cs) (fun v _ g cs o => g (setNth cs o v) (o + 1)) vs cs o
/-- A part of cells, of so many cells. -/
def partOf (P : Program) (t : TypeId) (cs : List LV) (off : Nat) : Option LV :=
  match aggOf P t with
  | some true => match sizeOfT P t with
    | some n => bif Nat.ble (off + n) (lenL cs) then some (.agg (takeN (dropN cs off) n)) else none
    | none => none
  | some false => nth cs off
  | none => none

def loadL (P : Program) (t : TypeId) (H : Heap) : LV → Option LV
  | .ptr i o => match H.get i with
    | .cells _ _ cs => partOf P t cs o
    | _ => none
  | _ => none

def storeL (P : Program) (t : TypeId) (H : Heap) (a v : LV) : Option Heap :=
  bif isJunk v then none else
  match a with
  | .ptr i o => match H.get i with
    | .cells _ .ro _ => none
    | .cells e w cs => match sizeOfT P t with
      | some n =>
        let vs := cellsOf v
        bif allOne vs then bif Nat.beq (lenL vs) n then bif Nat.ble (o + n) (lenL cs) then bif Nat.blt i H.n then some (H.put i (.cells e w (setMany cs o vs))) else none else none else none else none
      | none => none
    | _ => none
  | _ => none

def boxL (t : TypeId) (H : Heap) (v : LV) : Option (LV × Heap) :=
  bif isJunk v then none else some (.ptr H.n 0, H.push (.cells t .exact (cellsOf v)))

def fillL (place : Nat → Option (Nat × Nat)) (cs : List LV) : List (Nat × LV) → Option (List LV)
  | [] => some cs
  | (i, v) :: rest =>
    match place i with
    | none => none
    | some (off, size) =>
      let vs := cellsOf v
      bif isJunk v then none else
      bif Nat.beq (lenL vs) size then bif Nat.ble (off + size) (lenL cs) then fillL place (setMany cs off vs) rest else none else none

def zipL {α β : Type} : List α → List β → List (α × β)
  | a :: as, b :: bs => (a, b) :: zipL as bs
  | _, _ => []

def fieldPlaces (P : Program) : List Field → Nat → Option (Nat × Nat)
  | [], _ => none
  | f :: fs, i => bif Nat.beq i 0 then (sizeOfT P f.type).map fun s => (f.offset, s) else fieldPlaces P fs (i - 1)
def allSized (P : Program) : List Field → Bool
  | [] => true
  | f :: fs => match sizeOfT P f.type with
    | some _ => allSized P fs
    | none => false

def buildL (P : Program) (t : TypeId) (parts : List (Nat × LV)) : Option LV :=
  match zeroOf P t with
  | none => none
  | some z =>
    match P.underlying t with
    | some (.struct fields) => bif allSized P fields.toList then (fillL (fieldPlaces P fields.toList) (cellsOf z) parts).map .agg else none
    | some (.array _ elem) => match sizeOfT P elem with
      | some size => (fillL (fun i => some (i * size, size)) (cellsOf z) parts).map .agg
      | none => none
    | _ => none

def repeatL (z : List LV) (n : Nat) : List LV := @Nat.rec (fun _ => List LV) [] (fun _ r => app z r) n
def buildSliceL (P : Program) (t : TypeId) (len : Nat) (parts : List (Nat × LV)) (H : Heap) : Option (LV × Heap) :=
  match P.underlying t with
  | some (.slice elem) => match sizeOfT P elem, zeroOf P elem with
    | some size, some z =>
      bif Nat.beq size 0 then none else bif Nat.ble (len * size) 16777216 then
      bif Nat.beq (lenL (cellsOf z)) size then
      match fillL (fun i => some (i * size, size)) (repeatL (cellsOf z) len) parts with
      | some cs => some (.slice H.n 0 len (.known len), H.push (.cells elem .exact cs))
      | none => none
      else none else none
    | _, _ => none
  | _ => none

def makeSliceL (P : Program) (t : TypeId) (H : Heap) : LV → LV → Option (LV × Heap)
  | .int _ l, .int _ c => match P.underlying t with
    | some (.slice elem) => match P.info? elem, zeroOf P elem with
      | some i, some z =>
        bif decide (0 ≤ l) then bif decide (l ≤ c) then bif decide (c * i.bytes ≤ 1073741824) then bif decide (c ≤ 1073741824) then bif Nat.beq i.size 0 then none else
        bif Nat.beq (lenL (cellsOf z)) i.size then
        some (.slice H.n 0 l.toNat (.known c.toNat), H.push (.cells elem .exact (repeatL (cellsOf z) c.toNat)))
        else none else none else none else none else none
      | _, _ => none
    | _ => none
  | _, _ => none

def fieldAddrL (P : Program) (s : TypeId) (f : Nat) : LV → Option LV
  | .ptr i o => match P.underlying s with
    | some (.struct fields) => match fields[f]? with
      | some fd => match sizeOfT P fd.type with
        | some n => bif Nat.beq n 0 then none else some (.ptr i (o + fd.offset))
        | none => none
      | none => none
    | _ => none
  | _ => none

def indexAddrL (P : Program) (t : TypeId) (x : LV) : LV → Option LV
  | .int _ ix => match P.underlying t with
    | some (.array len elem) => match x with
      | .ptr i o => match sizeOfT P elem with
        | some n => bif decide (0 ≤ ix) then bif decide (ix < len) then some (.ptr i (o + ix.toNat * n)) else none else none
        | none => none
      | _ => none
    | some (.slice elem) => match x with
      | .slice i o l _ => match sizeOfT P elem with
        | some n => bif decide (0 ≤ ix) then bif decide (ix < l) then some (.ptr i (o + ix.toNat * n)) else none else none
        | none => none
      | _ => none
    | _ => none
  | _ => none

def fieldL (P : Program) (t : TypeId) (f : Nat) : LV → Option LV
  | .agg cs => match P.underlying t with
    | some (.struct fields) => match fields[f]? with
      | some fd => partOf P fd.type cs fd.offset
      | none => none
    | _ => none
  | _ => none

def nthB (l : List UInt8) : Nat → Option UInt8 :=
  @List.rec UInt8 (fun _ => Nat → Option UInt8) (fun _ => none) (fun v _ g i => @Nat.rec (fun _ => Option UInt8) (some v) (fun j _ => g j) i) l
def takeB (l : List UInt8) : Nat → List UInt8 :=
  @List.rec UInt8 (fun _ => Nat → List UInt8) (fun _ => []) (fun v _ g n => @Nat.rec (fun _ => List UInt8) [] (fun m _ => v :: g m) n) l
def dropB (l : List UInt8) : Nat → List UInt8 :=
  @List.rec UInt8 (fun _ => Nat → List UInt8) (fun _ => []) (fun v vs g n => @Nat.rec (fun _ => List UInt8) (v :: vs) (fun m _ => g m) n) l
def indexL (P : Program) (t : TypeId) (x : LV) : LV → Option LV
  | .int _ ix => match P.underlying t with
    | some (.array len elem) => match x with
      | .agg cs => match sizeOfT P elem with
        | some n => bif decide (0 ≤ ix) then bif decide (ix < len) then partOf P elem cs (ix.toNat * n) else none else none
        | none => none
      | _ => none
    | some .string => match x with
      | .str s => bif decide (0 ≤ ix) then (nthB s ix.toNat).map fun b => .int .u8 b.toNat else none
      | _ => none
    | _ => none
  | _ => none

/-- x[lo:hi:mx]: what is not said is none. -/
def bound : Option LV → Nat → Option Nat
  | none, d => some d
  | some (.int _ i), _ => bif decide (0 ≤ i) then some i.toNat else none
  | some _, _ => none

/-- A slice of a row that grows: does the row bear it? -/
def grownOk (H : Heap) (size i o len k : Nat) : Bool :=
  match H.get i with
  | .cells _ (.grow sz) cs => Nat.beq sz size && (Nat.beq o (k * size) && (Nat.ble (o + len * size) (lenL cs) && Nat.blt 0 size))
  | _ => false
def sliceRest (size i o len k l h : Nat) (H : Heap) : Option (LV × Heap) :=
  bif grownOk H size i o len k then
    bif Nat.beq l 0 then some (.slice i o h (.rest k), H) else bif Nat.beq l h then some (.emp H.n, H.push .empty) else some (.slice i (o + l * size) (h - l) (.rest (k + l)), H)
  else none
def sliceKnown (size i o c l h : Nat) : Option LV :=
  bif Nat.ble h c then some (.slice i (bc (Nat.beq c l) o (o + l * size)) (h - l) (.known (c - l))) else none
def withH (H : Heap) : Option LV → Option (LV × Heap)
  | some v => some (v, H)
  | none => none
/-- x[lo:hi:mx] of a slice: mx is within what is known of its capacity. -/
def sliceOf (size i o len : Nat) (cap : Cap) (lo hi mx : Option LV) (H : Heap) : Option (LV × Heap) :=
  match bound hi len with
  | none => none
  | some h => match bound lo 0 with
    | none => none
    | some l => bif Nat.ble h len then bif Nat.ble l h then
      match mx with
      | none => match cap with
        | .known c => withH H (sliceKnown size i o c l h)
        | .rest k => sliceRest size i o len k l h H
      | some m => match bound (some m) 0 with
        | none => none
        | some m => bif Nat.ble h m then bif Nat.ble m len then
          match cap with
          | .known c => bif Nat.ble m c then withH H (sliceKnown size i o m l h) else none
          | .rest k => bif grownOk H size i o len k then withH H (sliceKnown size i o m l h) else none
          else none else none
      else none else none
def sliceStr (s : List UInt8) (lo hi : Option LV) : Option LV :=
  match bound hi (lenL s) with
  | none => none
  | some h => match bound lo 0 with
    | none => none
    | some l => bif Nat.ble h (lenL s) then bif Nat.ble l h then some (.str (takeB (dropB s l) (h - l))) else none else none
def sliceL (P : Program) (t : TypeId) (x : LV) (lo hi mx : Option LV) (H : Heap) : Option (LV × Heap) :=
  match P.underlying t with
  | some .string => match x with
    | .str s => match mx with
      | some _ => none
      | none => withH H (sliceStr s lo hi)
    | _ => none
  | some (.slice elem) => match sizeOfT P elem with
    | none => none
    | some size => match x with
      | .slice i o len cap => sliceOf size i o len cap lo hi mx H
      | .nils => match bound hi 0 with
        | some 0 => match bound lo 0 with
          | some 0 => match mx with
            | none => some (.nils, H)
            | some m => match bound (some m) 0 with
              | some 0 => some (.nils, H)
              | _ => none
          | _ => none
        | _ => none
      | .emp i => match bound hi 0 with
        | some 0 => match bound lo 0 with
          | some 0 => match mx with
            | none => some (.emp i, H)
            | some _ => none
          | _ => none
        | _ => none
      | _ => none
  | some (.array n elem) => match x with
    | .ptr i o => match mx with
      | some _ => none
      | none => match sizeOfT P elem with
        | none => none
        | some size => match bound hi n with
          | none => none
          | some h => match bound lo 0 with
            | none => none
            | some l => bif Nat.ble l h then withH H (sliceKnown size i o n l h) else none
    | _ => none
  | _ => none

def eqB : List UInt8 → List UInt8 → Bool
  | [], [] => true
  | a :: x, b :: y => bif Nat.beq a.toNat b.toNat then eqB x y else false
  | _, _ => false
def ltB : List UInt8 → List UInt8 → Bool
  | _, [] => false
  | [], _ :: _ => true
  | a :: x, b :: y => bif Nat.blt a.toNat b.toNat then true else bif Nat.beq a.toNat b.toNat then ltB x y else false

/-- Are two values of a type alike? none: not to be told. -/
def eqCells (k : TypeDesc) (x y : LV) : Option Bool :=
  match k with
  | .bool => match x, y with
    | .bool a, .bool b => some (a == b)
    | _, _ => none
  | .int _ => match x, y with
    | .int k a, .int k' b => if k = k' then some (a == b) else none
    | _, _ => none
  | .string => match x, y with
    | .str a, .str b => some (eqB a b)
    | _, _ => none
  | _ => none
def both (a b : Option Bool) : Option Bool :=
  match a with
  | some a => match b with
    | some b => some (a && b)
    | none => none
  | none => none
def eqFields (P : Program) (f : TypeId → LV → LV → Option Bool) (xs ys : List LV) : List Field → Option Bool
  | [] => some true
  | fd :: fs => bif fd.name == "_" then none else match partOf P fd.type xs fd.offset with
    | some a => match partOf P fd.type ys fd.offset with
      | some b => both (f fd.type a b) (eqFields P f xs ys fs)
      | none => none
    | none => none
def eqElems (P : Program) (e : TypeId) (n : Nat) (f : LV → LV → Option Bool) (xs ys : List LV) : Nat → Nat → Option Bool
  | 0, _ => some true
  | len + 1, i => match partOf P e xs (i * n) with
    | some a => match partOf P e ys (i * n) with
      | some b => both (f a b) (eqElems P e n f xs ys len (i + 1))
      | none => none
    | none => none
def eqT (P : Program) : Nat → TypeId → LV → LV → Option Bool
  | 0, _, _, _ => none
  | d + 1, t, x, y => match P.underlying t with
    | some (.struct fields) => match x, y with
      | .agg xs, .agg ys => bif P.stoodInHeld t then none else eqFields P (eqT P d) xs ys fields.toList
      | _, _ => none
    | some (.array len elem) => match x, y with
      | .agg xs, .agg ys => match sizeOfT P elem with
        | some n => eqElems P elem n (eqT P d elem) xs ys len 0
        | none => none
      | _, _ => none
    | some k => eqCells k x y
    | none => none

/-- What is nil, and what is not. -/
def eqNil (P : Program) (t : TypeId) (kc : Bool) (x y : LV) : Option Bool :=
  match P.underlying t with
  | some (.pointer _) => match x, y with
    | .nilp, .nilp => some true
    | .nilp, .ptr _ _ => some false
    | .ptr _ _, .nilp => some false
    | _, _ => none
  | some (.slice _) => match x, y with
    | .nils, .nils => some true
    | .nils, .slice _ _ _ _ => some false
    | .slice _ _ _ _, .nils => some false
    | .nils, .emp _ => some false
    | .emp _, .nils => some false
    | _, _ => none
  | some (.map _ _) => match x, y with
    | .nilm, .nilm => some true
    | .nilm, .map _ => some false
    | .map _, .nilm => some false
    | _, _ => none
  | some (.func _ _ _) => match x, y with
    | .nilf, .nilf => some true
    | .nilf, .func _ _ _ => some false
    | .func _ _ _, .nilf => some false
    | _, _ => none
  | some (.interface _) => match x, y with
    | .nili, .nili => bif kc then some true else none
    | .nili, .iface _ _ => some false
    | .iface _ _, .nili => some false
    | _, _ => none
  | _ => none
def eqL (P : Program) (t : TypeId) (kc : Bool) (x y : LV) : Option Bool :=
  match x, y with
  | .agg xs, .agg ys => bif P.eqGuardType P.depth t then none else eqT P 12 t (.agg xs) (.agg ys)
  | .bool a, .bool b => match P.underlying t with
    | some .bool => some (a == b)
    | _ => none
  | x, y => eqNil P t kc x y

def intBin (op : BinOp) (k : IntKind) (x y : Int) : Option LV :=
  match op with
  | .add => some (.int k (k.wrap (x + y)))
  | .sub => some (.int k (k.wrap (x - y)))
  | .mul => some (.int k (k.wrap (x * y)))
  | .quo => if y = 0 then none else some (.int k (k.wrap (x.tdiv y)))
  | .rem => if y = 0 then none else some (.int k (x.tmod y))
  | .and => some (.int k (k.wrap (BitVec.ofInt k.bits x &&& BitVec.ofInt k.bits y).toNat))
  | .or => some (.int k (k.wrap (BitVec.ofInt k.bits x ||| BitVec.ofInt k.bits y).toNat))
  | .xor => some (.int k (k.wrap (BitVec.ofInt k.bits x ^^^ BitVec.ofInt k.bits y).toNat))
  | .andNot => some (.int k (k.wrap (BitVec.ofInt k.bits x &&& ~~~BitVec.ofInt k.bits y).toNat))
  | .eql => some (.bool (x == y))
  | .neq => some (.bool (x != y))
  | .lss => some (.bool (decide (x < y)))
  | .leq => some (.bool (decide (x ≤ y)))
  | .gtr => some (.bool (decide (x > y)))
  | .geq => some (.bool (decide (x ≥ y)))
  | _ => none

def shiftL (op : BinOp) (k : IntKind) (x y : Int) : Option LV :=
  if y < 0 then none else
  match op with
  | .shl => some (.int k (k.wrap (x * 2 ^ (min y.toNat k.bits))))
  | .shr => some (.int k (x.fdiv (2 ^ (min y.toNat k.bits))))
  | _ => none

def strBin (op : BinOp) (a b : List UInt8) : Option LV :=
  match op with
  | .add => bif Nat.ble (lenL a + lenL b) 4611686018427387904 then some (.str (app a b)) else none
  | .eql => some (.bool (eqB a b))
  | .neq => some (.bool (!eqB a b))
  | .lss => some (.bool (ltB a b))
  | .leq => some (.bool (ltB a b || eqB a b))
  | .gtr => some (.bool (!(ltB a b || eqB a b)))
  | .geq => some (.bool (!ltB a b))
  | _ => none

def isShift : BinOp → Bool
  | .shl | .shr => true
  | _ => false
def isEq : BinOp → Bool
  | .eql | .neq => true
  | _ => false

def binL (P : Program) (op : BinOp) (t : TypeId) (kc : Bool) (x y : LV) : Option LV :=
  match x, y with
  | .int k a, .int k' b => bif isShift op then shiftL op k a b else if k = k' then intBin op k a b else none
  | .str a, .str b => strBin op a b
  | _, _ => match op with
    | .eql => (eqL P t kc x y).map .bool
    | .neq => (eqL P t kc x y).map fun b => .bool (!b)
    | _ => none

def unL (op : UnOp) (x : LV) : Option LV :=
  match op, x with
  | .neg, .int k n => some (.int k (k.wrap (0 - n)))
  | .xor, .int k n => some (.int k (k.wrap (BitVec.ofInt k.bits (if k.signed then -1 else k.max) ^^^ BitVec.ofInt k.bits n).toNat))
  | .not, .bool b => some (.bool (!b))
  | _, _ => none

def bytesOf : List LV → Option (List UInt8)
  | [] => some []
  | .int .u8 n :: vs => match bytesOf vs with
    | some l => some (UInt8.ofNat n.toNat :: l)
    | none => none
  | _ :: _ => none
def ofBytes (l : List UInt8) : List LV := @List.rec UInt8 (fun _ => List LV) [] (fun b _ r => .int .u8 b.toNat :: r) l
/-- So many cells of a slice's. -/
def cellsAt (H : Heap) (n : Nat) : LV → Option (List LV)
  | .nils => bif Nat.beq n 0 then some [] else none
  | .emp _ => bif Nat.beq n 0 then some [] else none
  | .slice i o _ _ => match H.get i with
    | .cells _ _ cs => bif Nat.ble (o + n) (lenL cs) then some (takeN (dropN cs o) n) else none
    | _ => none
  | .str s => bif Nat.ble n (lenL s) then some (ofBytes (takeB s n)) else none
  | _ => none
def lenV : LV → Option Nat
  | .nils => some 0
  | .emp _ => some 0
  | .slice _ _ l _ => some l
  | .str s => some (lenL s)
  | _ => none

def textOf (H : Heap) (x : LV) : Option LV :=
  match x with
  | .nils => some (.str [])
  | .emp _ => some (.str [])
  | .slice _ _ n _ => match cellsAt H n x with
    | some cs => match bytesOf cs with
      | some l => some (.str l)
      | none => none
    | none => none
  | _ => none
def convL (P : Program) (src dst : TypeId) (x : LV) (H : Heap) : Option (LV × Heap) :=
  match P.underlying src with
  | some (.int _) => match P.underlying dst with
    | some (.int k) => match x with
      | .int _ n => some (.int k (k.wrap n), H)
      | _ => none
    | _ => none
  | some .string => match P.underlying dst with
    | some .string => match x with
      | .str s => some (.str s, H)
      | _ => none
    | some (.slice e) => match P.underlying e with
      | some (.int .u8) => match x with
        | .str s => some (.slice H.n 0 (lenL s) (.rest 0), H.push (.cells e (.grow 1) (ofBytes s)))
        | _ => none
      | _ => none
    | _ => none
  | some (.slice e) => match P.underlying dst with
    | some .string => match P.underlying e with
      | some (.int .u8) => withH H (textOf H x)
      | _ => none
    | _ => none
  | _ => none

/-- An append that makes a new row. -/
def grownL (P : Program) (elem : TypeId) (H : Heap) (n : Nat) (cs : List LV) : Option (LV × Heap) :=
  match P.info? elem, zeroOf P elem with
  | some i, some z => bif Nat.ble (n * i.bytes) 1099511627776 then bif Nat.ble i.bytes 1048576 then bif Nat.beq (lenL (cellsOf z)) i.size then bif Nat.blt 0 i.bytes then
      some (.slice H.n 0 n (.rest 0), H.push (.cells elem (.grow i.size) cs)) else none else none else none else none
  | _, _ => none
def appendTo (P : Program) (elem : TypeId) (size : Nat) (s : LV) (n : Nat) (new : List LV) (H : Heap) : Option (LV × Heap) :=
  match s with
  | .nils => bif Nat.beq n 0 then some (.nils, H) else grownL P elem H n new
  | .slice j o l c => match H.get j with
    | .cells e own cs => bif Nat.blt j H.n then bif Nat.ble (o + l * size) (lenL cs) then
      match c with
      | .known cap => bif Nat.ble (l + n) cap then
          bif Nat.beq n 0 then some (s, H) else
          match own with
          | .exact => bif Nat.ble (o + (l + n) * size) (lenL cs) then bif allOne new then some (.slice j o (l + n) c, H.put j (.cells e own (setMany cs (o + l * size) new))) else none else none
          | _ => none
        else grownL P elem H (l + n) (app (takeN (dropN cs o) (l * size)) new)
      | .rest k => match own with
        | .grow sz => bif Nat.beq sz size then bif Nat.beq e elem then bif Nat.beq o 0 then bif Nat.beq k 0 then bif allOne new then
            bif Nat.beq n 0 then some (s, H) else grownL P elem (H.put j .dead) (l + n) (app (takeN cs (l * size)) new) else none else none else none else none else none
        | _ => none
      else none else none
    | _ => none
  | _ => none
def isStr : LV → Bool
  | .str _ => true
  | _ => false
def notInt (P : Program) (t : TypeId) : Bool :=
  match P.underlying t with
  | some (.int _) => false
  | some _ => true
  | none => false
def appendL (P : Program) (t xt : TypeId) (s x : LV) (H : Heap) : Option (LV × Heap) :=
  bif notInt P xt then
    match P.underlying t with
    | some (.slice elem) => match sizeOfT P elem with
      | none => none
      | some size => match lenV x with
        | none => none
        | some n => bif Nat.beq size 0 then none else bif isStr x && !Nat.beq size 1 then none else
          match cellsAt H (n * size) x with
          | none => none
          | some new => appendTo P elem size s n new H
    | _ => none
  else none

def copyL (P : Program) (t : TypeId) (d x : LV) (H : Heap) : Option (LV × Heap) :=
  match P.underlying t with
  | some (.slice elem) => match sizeOfT P elem with
    | none => none
    | some size => match lenV x with
      | none => none
      | some n => match d with
        | .slice j o m _ => bif isStr x && !Nat.beq size 1 then none else
          match cellsAt H (Nat.min n m * size) x with
          | none => none
          | some new => match H.get j with
            | .cells _ .ro _ => none
            | .cells e own cs => bif Nat.ble (o + Nat.min n m * size) (lenL cs) then bif Nat.blt j H.n then bif allOne new then some (.int .i64 (Nat.min n m : Nat), H.put j (.cells e own (setMany cs o new))) else none else none else none
            | _ => none
        | _ => none
  | _ => none

/-- maps with keys that are whole numbers, bools or texts -/
def findL (kd : TypeDesc) (k : LV) : List Ent → Nat → Option (Option (Nat × LV))
  | [], _ => some none
  | e :: es, i => match eqCells kd k e.key with
    | some b => bif b then some (some (i, e.val)) else findL kd k es (i + 1)
    | none => none
def keyKind : TypeDesc → Bool
  | .int _ => true
  | .string => true
  | .bool => true
  | _ => false
def setEnt : List Ent → Nat → LV → LV → List Ent
  | [], _, _, _ => []
  | e :: es, i, k, v => match i with
    | 0 => ⟨k, v, e.born⟩ :: es
    | j + 1 => e :: setEnt es j k v
def entsOf (H : Heap) : LV → Option (List Ent)
  | .nilm => some []
  | .map i => match H.get i with
    | .map es _ => some es
    | _ => none
  | _ => none
def foundL (ok : Bool) (z : LV) : Option (Nat × LV) → LV
  | some (_, v) => bif ok then .tup [v, .bool true] else v
  | none => bif ok then .tup [z, .bool false] else z
def lookupL (P : Program) (t : TypeId) (m k : LV) (ok : Bool) (H : Heap) : Option LV :=
  bif isJunk k then none else
  match P.underlying t with
  | some (.map kt et) => match P.underlying kt with
    | some kd => bif keyKind kd then
        match entsOf H m with
        | some es => match findL kd k es 0 with
          | some r => match zeroOf P et with
            | some z => some (foundL ok z r)
            | none => none
          | none => none
        | none => none
      else none
    | none => none
  | _ => none
def updateL (P : Program) (t : TypeId) (m k v : LV) (H : Heap) : Option Heap :=
  bif isJunk v then none else bif isJunk k then none else
  match P.underlying t with
  | some (.map kt _) => match P.underlying kt with
    | some kd => bif keyKind kd then
        match m with
        | .map i => match H.get i with
          | .map es clock => bif Nat.blt i H.n then match findL kd k es 0 with
            | some (some (j, _)) => some (H.put i (.map (setEnt es j k v) clock))
            | some none => some (H.put i (.map (app es [⟨k, v, clock⟩]) (clock + 1)))
            | none => none
            else none
          | _ => none
        | _ => none
      else none
    | none => none
  | _ => none

def optOf {α : Type} : Option α → List α
  | none => []
  | some a => [a]
/-- An operation's operands, in order. -/
def opds : Op → List Operand
  | .alloc _ | .ready _ | .waits _ => []
  | .move x | .assign x | .box _ x | .load _ x | .nilCheck x | .unOp _ _ x | .convert _ _ x | .sliceToArrayPointer _ x | .makeInterface _ x
  | .makeChan _ x | .fieldAddr _ x _ | .field _ x _ | .range _ x | .next x _ | .entry x | .typeAssert x _ _ _ | .extract x _ | .panic x | .recv _ x _ => [x]
  | .pick c a b => [c, a, b]
  | .build _ ps | .buildSlice _ _ ps => ps.toList.map (·.2)
  | .store _ a v | .binOp _ _ a v _ | .makeSlice _ a v | .indexAddr _ a v | .index _ a v | .lookup _ a v _ | .mapEntry _ a v | .send a v => [a, v]
  | .makeFunc _ first captured => first.toList ++ captured.toList
  | .makeMap _ r => r.toList
  | .slice _ x l h m => x :: (optOf l ++ optOf h ++ optOf m)
  | .mapUpdate _ m k v | .entryStore _ m k v | .insert _ m k v => [m, k, v]
  | .call c | .go c | .defer c => (match c.callee with | .value f => [f] | .invoke r _ => [r] | .builtin _ => []) ++ c.args.toList
  | .select _ _ => []

inductive Kd where
  | pure
  | load (i : Nat)
  | change

/-- Which of three optional operands are there. -/
def three (l h m : Option Operand) (xs : List LV) : Option (Option LV × Option LV × Option LV) :=
  match l, h, m, xs with
  | none, none, none, [] => some (none, none, none)
  | some _, none, none, [a] => some (some a, none, none)
  | none, some _, none, [b] => some (none, some b, none)
  | some _, some _, none, [a, b] => some (some a, some b, none)
  | none, some _, some _, [b, c] => some (none, some b, some c)
  | some _, some _, some _, [a, b, c] => some (some a, some b, some c)
  | _, _, _, _ => none

structure OpR where
  v : LV
  H : Heap
  k : Kd

def pureR (H : Heap) : Option LV → Option OpR
  | some v => some ⟨v, H, .pure⟩
  | none => none
def changeR : Option (LV × Heap) → Option OpR
  | some (v, H) => some ⟨v, H, .change⟩
  | none => none
def blockOf : LV → Nat
  | .ptr i _ => i
  | .slice i _ _ _ => i
  | .map i => i
  | _ => 0
def loadR (H : Heap) (x : LV) : Option LV → Option OpR
  | some v => some ⟨v, H, match x with | .ptr i _ => .load i | .slice i _ _ _ => .load i | .map i => .load i | _ => .pure⟩
  | none => none

abbrev OpF := List LV → Heap → Option OpR
def opMove : OpF
  | [x], H => some ⟨x, H, .pure⟩
  | _, _ => none
def opPick : OpF
  | [.bool b, x, y], H => some ⟨bc b x y, H, .pure⟩
  | _, _ => none
def opAlloc (P : Program) (t : TypeId) : OpF
  | [], H => match zeroOf P t with
    | some z => changeR (boxL t H z)
    | none => none
  | _, _ => none
def opBox (t : TypeId) : OpF
  | [x], H => changeR (boxL t H x)
  | _, _ => none
def opBuild (P : Program) (t : TypeId) (is : List Nat) : OpF := fun xs H => pureR H (buildL P t (zipL is xs))
def opBuildSlice (P : Program) (t : TypeId) (n : Nat) (is : List Nat) : OpF := fun xs H => changeR (buildSliceL P t n (zipL is xs) H)
def opLoad (P : Program) (t : TypeId) : OpF
  | [x], H => loadR H x (loadL P t H x)
  | _, _ => none
def opStore (P : Program) (t : TypeId) : OpF
  | [a, v], H => match storeL P t H a v with
    | some H' => some ⟨undefL, H', .change⟩
    | none => none
  | _, _ => none
def opNilCheck : OpF
  | [.ptr i o], H => some ⟨.ptr i o, H, .pure⟩
  | [.func (.func g) a b], H => some ⟨.func (.func g) a b, H, .pure⟩
  | [.func (.yield g) a b], H => some ⟨.func (.yield g) a b, H, .pure⟩
  | _, _ => none
def isConst : Operand → Bool
  | .const _ => true
  | _ => false
def opBin (P : Program) (op : BinOp) (t : TypeId) (kc : Bool) : OpF
  | [x, y], H => pureR H (binL P op t kc x y)
  | _, _ => none
def opUn (op : UnOp) : OpF
  | [x], H => pureR H (unL op x)
  | _, _ => none
def kdConv (v : LV) : LV → Kd
  | .str _ => match v with
    | .slice _ _ _ _ => .change
    | _ => .pure
  | .slice i _ _ _ => .load i
  | _ => .pure
def opConvert (P : Program) (s d : TypeId) : OpF
  | [x], H => match convL P s d x H with
    | some (v, H') => some ⟨v, H', kdConv v x⟩
    | none => none
  | _, _ => none
def opMakeInterface (P : Program) (t : TypeId) : OpF
  | [x], H => bc (isJunk x) none (match P.underlying t with
    | some (.interface _) => none
    | some _ => some ⟨.iface t x, H, .pure⟩
    | none => none)
  | _, _ => none
def opMakeFunc (g : FuncId) (n : Nat) : OpF := fun xs H => bc (noJunk xs) (some ⟨.func (.func g) (takeN xs n) (dropN xs n), H, .pure⟩) none
def opMakeMap : OpF
  | [], H => some ⟨.map H.n, H.push (.map [] 0), .change⟩
  | _, _ => none
def opMakeSlice (P : Program) (t : TypeId) : OpF
  | [l, c], H => changeR (makeSliceL P t H l c)
  | _, _ => none
def kdSlice (v x : LV) : Kd :=
  match x with
  | .slice i _ _ (.rest _) => match v with
    | .emp _ => .change
    | _ => .load i
  | _ => .pure
def opSlice (P : Program) (t : TypeId) (lo hi mx : Option Operand) : OpF
  | x :: xs, H => match three lo hi mx xs with
    | some (l, h, m) => match sliceL P t x l h m H with
      | some (v, H') => some ⟨v, H', kdSlice v x⟩
      | none => none
    | none => none
  | _, _ => none
def opFieldAddr (P : Program) (s : TypeId) (f : Nat) : OpF
  | [x], H => pureR H (fieldAddrL P s f x)
  | _, _ => none
def opField (P : Program) (s : TypeId) (f : Nat) : OpF
  | [x], H => pureR H (fieldL P s f x)
  | _, _ => none
def opIndexAddr (P : Program) (t : TypeId) : OpF
  | [x, i], H => pureR H (indexAddrL P t x i)
  | _, _ => none
def opIndex (P : Program) (t : TypeId) : OpF
  | [x, i], H => pureR H (indexL P t x i)
  | _, _ => none
def opLookup (P : Program) (t : TypeId) (ok : Bool) : OpF
  | [m, k], H => loadR H m (lookupL P t m k ok H)
  | _, _ => none
def opUpdate (P : Program) (t : TypeId) : OpF
  | [m, k, v], H => match updateL P t m k v H with
    | some H' => some ⟨undefL, H', .change⟩
    | none => none
  | _, _ => none
def opExtract (i : Nat) : OpF
  | [.tup vs], H => pureR H (nth vs i)
  | _, _ => none
def opLen (P : Program) (t : TypeId) : OpF
  | [x], H => match P.underlying t with
    | some .string => match x with
      | .str s => some ⟨.int .i64 (lenL s), H, .pure⟩
      | _ => none
    | some (.slice _) => match lenV x with
      | some n => match x with
        | .str _ => none
        | _ => some ⟨.int .i64 n, H, .pure⟩
      | none => none
    | some (.array n _) => some ⟨.int .i64 n, H, .pure⟩
    | some (.map _ _) => match x with
      | .nilm => some ⟨.int .i64 0, H, .pure⟩
      | .map i => match H.get i with
        | .map es _ => some ⟨.int .i64 (lenL es), H, .load i⟩
        | _ => none
      | _ => none
    | _ => none
  | _, _ => none
def opAppend (P : Program) (t xt : TypeId) : OpF
  | [s, x], H => changeR (appendL P t xt s x H)
  | _, _ => none
def opCopy (P : Program) (t : TypeId) : OpF
  | [d, x], H => changeR (copyL P t d x H)
  | _, _ => none
def opMin : OpF
  | [.int k a, .int k' b], H => if k = k' then some ⟨.int k (if b < a then b else a), H, .pure⟩ else none
  | _, _ => none
def opMax : OpF
  | [.int k a, .int k' b], H => if k = k' then some ⟨.int k (if b > a then b else a), H, .pure⟩ else none
  | _, _ => none
def opNone : OpF := fun _ _ => none
def opBuiltin (P : Program) (c : Call) : Builtin → OpF
  | .len => match c.argTypes[0]? with
    | some t => opLen P t
    | none => opNone
  | .append => match c.argTypes[0]? with
    | some t => match c.argTypes[1]? with
      | some xt => opAppend P t xt
      | none => opNone
    | none => opNone
  | .copy => match c.argTypes[0]? with
    | some t => opCopy P t
    | none => opNone
  | .min => opMin
  | .max => opMax
  | _ => opNone

/-- What an operation does. -/
def lop (P : Program) (op : Op) : OpF :=
  match op with
  | .move _ => opMove
  | .assign _ => opMove
  | .pick _ _ _ => opPick
  | .alloc t => opAlloc P t
  | .box t _ => opBox t
  | .build t ps => opBuild P t (ps.toList.map (·.1))
  | .buildSlice t n ps => opBuildSlice P t n (ps.toList.map (·.1))
  | .load t _ => opLoad P t
  | .store t _ _ => opStore P t
  | .nilCheck _ => opNilCheck
  | .binOp op t a b _ => opBin P op t (isConst a || isConst b)
  | .unOp op _ _ => opUn op
  | .convert s d _ => opConvert P s d
  | .makeInterface t _ => opMakeInterface P t
  | .makeFunc f first _ => match f with
    | .func g => opMakeFunc g first.size
    | _ => opNone
  | .makeMap _ none => opMakeMap
  | .makeSlice t _ _ => opMakeSlice P t
  | .slice t _ lo hi mx => opSlice P t lo hi mx
  | .fieldAddr s _ f => opFieldAddr P s f
  | .field s _ f => opField P s f
  | .indexAddr t _ _ => opIndexAddr P t
  | .index t _ _ => opIndex P t
  | .lookup t _ _ ok => opLookup P t ok
  | .mapUpdate t _ _ _ => opUpdate P t
  | .insert t _ _ _ => opUpdate P t
  | .extract _ i => opExtract i
  | .call c => match c.callee with
    | .builtin b => opBuiltin P c b
    | _ => opNone
  | _ => opNone

end
end Go.Proofs.Ytmnpnomllcghmaa.Ev
