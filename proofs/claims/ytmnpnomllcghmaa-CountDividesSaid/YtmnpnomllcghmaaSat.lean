/- What local values and a local heap say of a world; what a call's and a code's contract say. Definitions alone. -/
import Derived.Test.YtmnpnomllcghmaaEv
import Derived.Below
namespace Go.Proofs.Ytmnpnomllcghmaa.Ev
open Go

/-- Where a local block lies: the real block, the offset in it, its capacity in elements; an empty slice's address and capacity. -/
structure RB where
  blk : Nat
  off : Nat
  cap : Nat
  ea : Addr
  ec : Nat

def capOf (r : RB) : Cap → Nat
  | .known c => c
  | .rest k => r.cap - k

def decFn (ρ : Nat → RB) : Fn → Fn
  | .yield l => .yield (ρ l).blk
  | f => f

mutual
def dec (ρ : Nat → RB) : LV → Value
  | .junk => .tuple #[]
  | .bool b => .bool b
  | .int k n => .int k n
  | .str s => .string ⟨s.toArray⟩
  | .nilp => .pointer none
  | .ptr i o => .pointer (some ⟨(ρ i).blk, (ρ i).off + o, none⟩)
  | .nils => .slice none 0 0
  | .slice i o l c => .slice (some ⟨(ρ i).blk, (ρ i).off + o, none⟩) l (capOf (ρ i) c)
  | .emp i => .slice (some (ρ i).ea) 0 (ρ i).ec
  | .nilm => .map none
  | .map i => .map (some (ρ i).blk)
  | .func f first captured => .func (decFn ρ f) (decs ρ first).toArray (decs ρ captured).toArray
  | .nilf => .nilFunc
  | .iface t v => .iface t (dec ρ v)
  | .nili => .nilIface
  | .agg cs => .agg (decs ρ cs).toArray
  | .tup vs => .tuple (decs ρ vs).toArray
def decs (ρ : Nat → RB) : List LV → List Value
  | [] => []
  | v :: vs => dec ρ v :: decs ρ vs
end

mutual
/-- All blocks that a value names are below a number. -/
def lt (n : Nat) : LV → Prop
  | .ptr i _ => i < n
  | .slice i _ _ _ => i < n
  | .emp i => i < n
  | .map i => i < n
  | .func f first captured => (match f with | .yield l => l < n | _ => True) ∧ lts n first ∧ lts n captured
  | .iface _ v => lt n v
  | .agg cs => lts n cs
  | .tup vs => lts n vs
  | _ => True
def lts (n : Nat) : List LV → Prop
  | [] => True
  | v :: vs => lt n v ∧ lts n vs
end
def ltT (n : Nat) (t : Tr LV) : Prop := ∀ i, lt n (t.get .junk i)
def ltObj (n : Nat) : LObj → Prop
  | .cells _ _ cs => lts n cs
  | .map es _ => ∀ e, e ∈ es → lt n e.key ∧ lt n e.val
  | .loop _ _ _ _ t _ _ _ d => ltT n t ∧ d < n
  | _ => True

/-- Temporaries: what is not junk is as it says. -/
def TRel (ρ : Nat → RB) (t : Tr LV) (r : Array Value) : Prop :=
  ∀ i, t.get .junk i = .junk ∨ r[i]? = some (dec ρ (t.get .junk i))

def decEnt (ρ : Nat → RB) (e : Ent) : MapEntry := { key := dec ρ e.key, val := dec ρ e.val, born := e.born }

/-- A local object, where it lies in a world. -/
def SatObj (ρ : Nat → RB) (r : RB) (w : World) : LObj → Prop
  | .dead => True
  | .cells _ .ro cs => ∀ j v, cs[j]? = some v → w.cell? ⟨r.blk, r.off + j, none⟩ = some (dec ρ v)
  | .cells e .exact cs => r.off = 0 ∧ ∃ lo hi, (∀ j, j < cs.length → ¬ (lo ≤ j ∧ j < hi)) ∧ w.heap[r.blk]? = some (.cells (decs ρ cs).toArray e (lo, hi))
  | .cells e (.grow sz) cs => r.off = 0 ∧ ∃ lo hi spare, (∀ j, j < cs.length + spare.length → ¬ (lo ≤ j ∧ j < hi)) ∧ cs.length ≤ r.cap * sz ∧ r.cap * sz ≤ cs.length + spare.length ∧ w.heap[r.blk]? = some (.cells (decs ρ cs ++ spare).toArray e (lo, hi))
  | .map es clock => w.heap[r.blk]? = some (.map (es.map (decEnt ρ)).toArray clock)
  | .empty => True
  | .strIter s pos => w.heap[r.blk]? = some (.stringIter ⟨s.toArray⟩ pos)
  | .loop st pe fn n t params assign body d => ∃ tm : Array Value, tm.size = n ∧ TRel ρ t tm ∧
      w.heap[r.blk]? = some (.loop { state := st, pending := pe, fn, tmps := tm, params := params.toArray, assign, body, defers := (ρ d).blk })
  | .defers taken => w.heap[r.blk]? = some (.deferred (if taken then none else some []))

/-- Does a local object own its real block? -/
def LObj.owns : LObj → Bool
  | .dead | .empty | .cells _ .ro _ => false
  | _ => true
def LObj.sits : LObj → Bool
  | .dead | .empty => false
  | _ => true

structure Sat (ρ : Nat → RB) (H : Heap) (w : World) : Prop where
  wf : ∀ i, i < H.n → ltObj H.n (H.get i)
  obj : ∀ i, i < H.n → SatObj ρ (ρ i) w (H.get i)
  apart : ∀ i j, i < H.n → j < H.n → i ≠ j → (H.get i).owns = true → (H.get j).sits = true → (ρ i).blk ≠ (ρ j).blk
  inside : ∀ i, i < H.n → (H.get i).sits = true → (ρ i).blk < w.heap.size

/-- ρ' is ρ, and more. -/
def Ext (n : Nat) (ρ ρ' : Nat → RB) : Prop := ∀ i, i < n → ρ' i = ρ i

/-- What became of the world: blocks that nobody here owned are as they were; who owns now owned before, or is new. -/
structure Moved (ρ : Nat → RB) (H : Heap) (w : World) (ρ' : Nat → RB) (H' : Heap) (w' : World) : Prop where
  os : w'.os = w.os
  tape : w'.tape = w.tape
  output : w'.output = w.output
  size : w.heap.size ≤ w'.heap.size
  block : ∀ b, b < w.heap.size → (∀ i, i < H.n → (H.get i).owns = true → (ρ i).blk ≠ b) → w'.heap[b]? = w.heap[b]?
  owned : ∀ i, i < H'.n → (H'.get i).owns = true → w.heap.size ≤ (ρ' i).blk ∨ ∃ j, j < H.n ∧ (H.get j).owns = true ∧ (ρ' i).blk = (ρ j).blk
  sits : ∀ i, i < H'.n → (H'.get i).sits = true → w.heap.size ≤ (ρ' i).blk ∨ ∃ j, j < H.n ∧ (H.get j).sits = true ∧ (ρ' i).blk = (ρ j).blk
  more : H.n ≤ H'.n
  ext : Ext H.n ρ ρ'
  sat : Sat ρ' H' w'

/-- How a call ends. -/
inductive LEnd where
  | ret (v : LV)
  | pan (v : LV)

def decEnd (ρ : Nat → RB) : LEnd → Ending
  | .ret v => .returned (dec ρ v)
  | .pan v => .panicked [{ v := dec ρ v, recovered := false }]

def ltEnd (n : Nat) : LEnd → Prop
  | .ret v => lt n v
  | .pan v => lt n v

/-- A CALL's CONTRACT: in every world that holds the local heap, the call ends so, and the world holds the new local heap. -/
def HT (P : Program) (f : FuncId) (xs : List LV) (H : Heap) (e : LEnd) (H' : Heap) : Prop :=
  ∀ ρ w, Sat ρ H w → lts H.n xs → Calls P f (decs ρ xs).toArray w fun e' w' => ∃ ρ', e' = decEnd ρ' e ∧ Moved ρ H w ρ' H' w' ∧ ltEnd H'.n e

inductive LX where
  | normal
  | exit (id : Nat)
  | ret
  | pan (v : LV)

def ltX (n : Nat) : LX → Prop
  | .pan v => lt n v
  | _ => True

/-- A frame that runs. -/
def frameAt (b : Frame) (tmps : Array Value) (ds : List Deferred) (todo : List Item) : Frame :=
  { fn := b.fn, tmps, todo, defers := ds, mode := .run, kind := b.kind, roundOf := b.roundOf }

/-- The deferred calls of a frame that has no defer statement: the marks of its rounds. -/
def marksOf (ρ : Nat → RB) : List Nat → List Deferred
  | [] => []
  | d :: ds => { target := .collected (ρ d).blk, args := #[] } :: marksOf ρ ds

/-- Where a code ends. -/
def Ends (P : Program) (m : Machine) (b : Frame) (k : List Item) (cs : List Frame) (ρ : Nat → RB) (tmps : Array Value) (ds : List Deferred) (w : World) : LX → Prop
  | .normal => Steps P m (lone (frameAt b tmps ds k) cs w)
  | .exit id => ∃ k', exitTo id k' = exitTo id k ∧ Steps P m (lone (frameAt b tmps ds (.code (.exit id) :: k')) cs w)
  | .ret => ∃ k', Steps P m (lone (frameAt b tmps ds (.code .ret :: k')) cs w)
  | .pan v => ∃ k', Steps P m (lone { frameAt b tmps ds k' with mode := .panicking [{ v := dec ρ v, recovered := false }] } cs w)

/-- A local frame, of a real one. -/
structure FRel (ρ : Nat → RB) (n : Nat) (f : Fr) (b : Frame) (tmps : Array Value) (ds : List Deferred) : Prop where
  wf : ltT n f.t
  marks : ∀ d, d ∈ f.marks → d < n
  inRound : ∀ l, f.round = some l → l < n
  fn : b.fn = f.fn
  size : tmps.size = f.n
  t : TRel ρ f.t tmps
  ds : ds = marksOf ρ f.marks
  round : b.roundOf = f.round.map fun l => (ρ l).blk

/-- A CODE's CONTRACT. -/
def CT (P : Program) (c : Code) (f : Fr) (H : Heap) (x : LX) (f' : Fr) (H' : Heap) : Prop :=
  ∀ (ρ : Nat → RB) (w : World) (b : Frame) (tmps : Array Value) (ds : List Deferred) (k : List Item) (cs : List Frame), Sat ρ H w → FRel ρ H.n f b tmps ds →
    ∃ ρ' w' tmps' ds', Moved ρ H w ρ' H' w' ∧ FRel ρ' H'.n f' b tmps' ds' ∧ ltX H'.n x ∧ Ends P (lone (frameAt b tmps ds (.code c :: k)) cs w) b k cs ρ' tmps' ds' w' x

end Go.Proofs.Ytmnpnomllcghmaa.Ev
