/- What it is that one heap is a part of another; contracts that are written out. Definitions alone. -/
import Derived.Test.YtmnpnomllcghmaaSat
namespace Go.Proofs.Ytmnpnomllcghmaa.Ev
open Go

def ltFn (n : Nat) : Fn → Prop
  | .yield l => l < n
  | _ => True

/-! a value that is another one, its blocks renamed -/
mutual
def sameV (σ : Nat → Nat) : LV → LV → Prop
  | .junk, .junk => True
  | .bool a, .bool b => a = b
  | .int k a, .int k' b => k = k' ∧ a = b
  | .str a, .str b => a = b
  | .nilp, .nilp => True
  | .ptr i o, .ptr j o' => σ i = j ∧ o = o'
  | .nils, .nils => True
  | .slice i o l c, .slice j o' l' c' => σ i = j ∧ o = o' ∧ l = l' ∧ c = c'
  | .emp i, .emp j => σ i = j
  | .nilm, .nilm => True
  | .map i, .map j => σ i = j
  | .func f a b, .func g c d => sameFn σ f g ∧ sameVs σ a c ∧ sameVs σ b d
  | .nilf, .nilf => True
  | .iface t v, .iface t' v' => t = t' ∧ sameV σ v v'
  | .nili, .nili => True
  | .agg a, .agg b => sameVs σ a b
  | .tup a, .tup b => sameVs σ a b
  | _, _ => False
def sameVs (σ : Nat → Nat) : List LV → List LV → Prop
  | [], [] => True
  | a :: as, b :: bs => sameV σ a b ∧ sameVs σ as bs
  | _, _ => False
def sameFn (σ : Nat → Nat) : Fn → Fn → Prop
  | .yield l, .yield m => σ l = m
  | .yield _, _ => False
  | _, .yield _ => False
  | f, g => f = g
end

def sameEnts (σ : Nat → Nat) : List Ent → List Ent → Prop
  | [], [] => True
  | a :: as, b :: bs => sameV σ a.key b.key ∧ sameV σ a.val b.val ∧ a.born = b.born ∧ sameEnts σ as bs
  | _, _ => False

/-- An object that is another one, its blocks renamed; the first one may be nothing. -/
def sameObj (σ : Nat → Nat) : LObj → LObj → Prop
  | .dead, _ => True
  | .cells e w cs, .cells e' w' cs' => e = e' ∧ w = w' ∧ sameVs σ cs cs'
  | .map es c, .map es' c' => c = c' ∧ sameEnts σ es es'
  | .empty, .empty => True
  | .strIter s p, .strIter s' p' => s = s' ∧ p = p'
  | .loop st pe fn n t ps as bo d, .loop st' pe' fn' n' t' ps' as' bo' d' => st = st' ∧ pe = pe' ∧ fn = fn' ∧ n = n' ∧ ps = ps' ∧ as = as' ∧ bo = bo' ∧ σ d = d' ∧ ∀ i, sameV σ (t.get .junk i) (t'.get .junk i)
  | .defers a, .defers b => a = b
  | _, _ => False

/-- An object that is another one, its blocks renamed. -/
def eqObj (σ : Nat → Nat) (a b : LObj) : Prop :=
  match a with
  | .dead => match b with
    | .dead => True
    | _ => False
  | a => sameObj σ a b

/-- The ends of calls and codes. -/
def sameEnd (σ : Nat → Nat) : LEnd → LEnd → Prop
  | .ret a, .ret b => sameV σ a b
  | .pan a, .pan b => sameV σ a b
  | _, _ => False
/-- The numbers of a small heap's blocks in a great one: the old ones as given, the new ones behind. -/
def over (σ : Nat → Nat) (n N : Nat) : Nat → Nat := fun i => if i < n then σ i else N + (i - n)

def sameX (σ : Nat → Nat) : LX → LX → Prop
  | .normal, .normal => True
  | .exit a, .exit b => a = b
  | .ret, .ret => True
  | .pan a, .pan b => sameV σ a b
  | _, _ => False

noncomputable def setL (t : Tr LV) : List (Nat × LV) → Tr LV
  | [] => t
  | p :: ps => (setL t ps).set .junk p.2 p.1
noncomputable def Fr.ofL (g n : Nat) (L : List (Nat × LV)) (marks : List Nat) (round : Option Nat) : Fr := ⟨g, n, setL .nil L, marks, round⟩
/-- What a frame, written out, is asked to be. -/
def frL (σ : Nat → Nat) (f : Fr) : List (Nat × LV) → Prop
  | [] => True
  | p :: ps => sameV σ p.2 (f.get p.1) ∧ frL σ f ps
/-- A heap, written out. -/
def objL (σ : Nat → Nat) (H : Heap) : List LObj → Nat → Prop
  | [], _ => True
  | o :: os, i => sameObj σ o (H.get (σ i)) ∧ objL σ H os (i + 1)

/-! renaming -/
noncomputable section
def mapFn (σ : Nat → Nat) : Fn → Fn
  | .yield l => .yield (σ l)
  | f => f
mutual
def mapV (σ : Nat → Nat) : LV → LV
  | .ptr i o => .ptr (σ i) o
  | .slice i o l c => .slice (σ i) o l c
  | .emp i => .emp (σ i)
  | .map i => .map (σ i)
  | .func f a b => .func (mapFn σ f) (mapVs σ a) (mapVs σ b)
  | .iface t v => .iface t (mapV σ v)
  | .agg cs => .agg (mapVs σ cs)
  | .tup vs => .tup (mapVs σ vs)
  | v => v
def mapVs (σ : Nat → Nat) : List LV → List LV
  | [] => []
  | v :: vs => mapV σ v :: mapVs σ vs
end
def mapEnts (σ : Nat → Nat) : List Ent → List Ent
  | [] => []
  | e :: es => ⟨mapV σ e.key, mapV σ e.val, e.born⟩ :: mapEnts σ es
/-- No loop's object is renamed. -/
def mapObj (σ : Nat → Nat) : LObj → LObj
  | .cells e w cs => .cells e w (mapVs σ cs)
  | .map es c => .map (mapEnts σ es) c
  | o => o
def mapObjs (σ : Nat → Nat) : List LObj → List LObj
  | [] => []
  | o :: os => mapObj σ o :: mapObjs σ os
def mapEnd (σ : Nat → Nat) : LEnd → LEnd
  | .ret v => .ret (mapV σ v)
  | .pan v => .pan (mapV σ v)

mutual
def wfB (n : Nat) : LV → Bool
  | .ptr i _ => Nat.blt i n
  | .slice i _ _ _ => Nat.blt i n
  | .emp i => Nat.blt i n
  | .map i => Nat.blt i n
  | .func f a b => (match f with | .yield l => Nat.blt l n | _ => true) && wfsB n a && wfsB n b
  | .iface _ v => wfB n v
  | .agg cs => wfsB n cs
  | .tup vs => wfsB n vs
  | _ => true
def wfsB (n : Nat) : List LV → Bool
  | [] => true
  | v :: vs => wfB n v && wfsB n vs
end
def wfEntsB (n : Nat) : List Ent → Bool
  | [] => true
  | e :: es => wfB n e.key && wfB n e.val && wfEntsB n es
/-- Well formed, and no loop's object. -/
def wfObjB (n : Nat) : LObj → Bool
  | .cells _ _ cs => wfsB n cs
  | .map es _ => wfEntsB n es
  | .loop _ _ _ _ _ _ _ _ _ => false
  | _ => true
def wfObjsB (n : Nat) : List LObj → Bool
  | [] => true
  | o :: os => wfObjB n o && wfObjsB n os
def wfPairsB (n : Nat) : List (Nat × LV) → Bool
  | [] => true
  | p :: ps => wfB n p.2 && wfPairsB n ps

/-- A contract that is written out: the function, its arguments, the blocks ahead, its end, the blocks behind. -/
structure Con where
  g : FuncId
  xs : List LV
  os : List LObj
  e : LEnd
  os' : List LObj
def Con.holds (P : Program) (C : Con) : Prop := HT P C.g C.xs (Heap.of C.os) C.e (Heap.of C.os')

def at_ (l : List Nat) (i : Nat) : Nat := l.getD i 0
def distinct : List Nat → Bool
  | [] => true
  | x :: xs => (xs.all fun y => !Nat.beq x y) && distinct xs
def allBelow (n : Nat) : List Nat → Bool
  | [] => true
  | x :: xs => Nat.blt x n && allBelow n xs
/-- Is a contract fit for such numbers of blocks? -/
def Con.fit (C : Con) (l : List Nat) (n : Nat) : Bool :=
  Nat.beq l.length C.os.length && Nat.ble C.os.length C.os'.length && distinct l && allBelow n l && wfObjsB C.os.length C.os && wfsB C.os.length C.xs && wfObjsB C.os'.length C.os'
def Con.map (C : Con) (l : List Nat) (n : Nat) : Nat → Nat := over (at_ l) C.os.length n
/-- The blocks that a contract turns, and the new ones. -/
def Con.us (C : Con) (l : List Nat) (n : Nat) : List (Nat × LObj) := l.zip (mapObjs (C.map l n) (C.os'.take C.os.length))
def Con.ns (C : Con) (l : List Nat) (n : Nat) : List LObj := mapObjs (C.map l n) (C.os'.drop C.os.length)
/-- A code's contract, written out. -/
structure LCon where
  L : List (Nat × LV)
  os : List LObj
  x : LX
  L' : List (Nat × LV)
  os' : List LObj
def LCon.holds (P : Program) (c : Code) (g n : Nat) (C : LCon) : Prop := CT P c (Fr.ofL g n C.L [] none) (Heap.of C.os) C.x (Fr.ofL g n C.L' [] none) (Heap.of C.os')
def isNil {α : Type} : List α → Bool
  | [] => true
  | _ => false
def wfXB (n : Nat) : LX → Bool
  | .pan v => wfB n v
  | _ => true
def LCon.fit (C : LCon) (f : Fr) (n : Nat) : Bool :=
  Nat.beq C.os.length n && Nat.ble n C.os'.length && wfObjsB n C.os && wfObjsB C.os'.length C.os' && wfPairsB n C.L && isNil f.marks && f.round.isNone
def upFrom : List LObj → Nat → List (Nat × LObj)
  | [], _ => []
  | o :: os, i => (i, o) :: upFrom os (i + 1)
end
end Go.Proofs.Ytmnpnomllcghmaa.Ev
