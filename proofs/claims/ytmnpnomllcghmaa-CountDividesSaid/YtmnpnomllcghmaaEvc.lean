/- The evaluator of code: it follows decisions where they are given, and records what they assume. -/
import Derived.Test.YtmnpnomllcghmaaDef
namespace Go.Proofs.Ytmnpnomllcghmaa.Ev
open Go
noncomputable section

inductive Dir where
  | auto (n : Nat)
  | take (b : Bool)
  | val (v : LV) (us : List (Nat × LObj)) (ns : List LObj) (k : Kd)
  | call (e : LEnd) (us : List (Nat × LObj)) (ns : List LObj)
  | code (x : LX) (f : Fr) (us : List (Nat × LObj)) (ns : List LObj)
  | use (C : Con) (l : List Nat)
  | loop (C : LCon)
  | pure (e : LEnd)
  | valp (v : LV)
  | ldp (v : LV) (i : Nat)
  | stp (v : LV) (i : Nat) (o : LObj)
  | stop

structure S where
  ds : List Dir
  ob : Prop

inductive R (α : Type) where
  | ok (a : α) (s : S)
  | bad (why : Nat)
  | pause (s : S)

def R.bnd {α β : Type} (r : R α) (f : α → S → R β) : R β := @R.rec α (fun _ => R β) f (fun w => .bad w) (fun s => .pause s) r
@[simp] theorem R.bnd_ok {α β : Type} (a : α) (s : S) (f : α → S → R β) : (R.ok a s).bnd f = f a s := rfl
@[simp] theorem R.bnd_bad {α β : Type} (w : Nat) (f : α → S → R β) : (R.bad w).bnd f = .bad w := rfl
@[simp] theorem R.bnd_pause {α β : Type} (s : S) (f : α → S → R β) : (R.pause s).bnd f = .pause s := rfl

/-- The next decision; 'auto 0': none is given. -/
def popD (l : List Dir) : Dir × List Dir :=
  match l with
  | [] => (.auto 0, [])
  | .auto 0 :: ds => popD ds
  | .auto (m + 1) :: ds => (.auto 0, .auto m :: ds)
  | d :: ds => (d, ds)

def decideB (b : Bool) (s : S) : R Bool :=
  match popD s.ds with
  | (.auto _, ds) => bc b (.ok true ⟨ds, s.ob⟩) (.ok false ⟨ds, s.ob⟩)
  | (.take d, ds) => .ok d ⟨ds, b = d ∧ s.ob⟩
  | (.stop, _) => .pause s
  | _ => .bad 1

abbrev CallF := Fn → List LV → Heap → S → R (LEnd × Heap)

def dstOf (l : List Oper) : Nat → Option Tmp :=
  @List.rec Oper (fun _ => Nat → Option Tmp) (fun _ => none) (fun o _ g i => @Nat.rec (fun _ => Option Tmp) o.dst (fun j _ => g j) i) l

def wantB (d : Tmp) (want : Bool) (f : Fr) (s : S) : LV → R (Bool × Fr)
  | .bool b => (decideB b s).bnd fun c s' => .ok (c == want, f.set d (.bool c)) s'
  | .tup [] => .ok (false, f) s
  | _ => .bad 3
def wanted (ops : List Oper) (o : Oper) (f : Fr) (s : S) : R (Bool × Fr) :=
  match o.guard with
  | none => .ok (true, f) s
  | some (j, want) => match dstOf ops j with
    | none => .bad 2
    | some d => wantB d want f s (f.get d)

/-- A call's function and arguments. -/
def calleeOf : List LV → Option (Fn × List LV)
  | .func fn first captured :: args => bc (noJunk args) (match fn with
    | .func _ => some (fn, app first (app args captured))
    | .yield _ => match captured with
      | [] => some (fn, app first args)
      | _ => none
    | _ => none) none
  | _ => none
def isCall : Op → Bool
  | .call c => match c.callee with
    | .value _ => true
    | _ => false
  | _ => false

inductive OpEnd where
  | val (v : LV) (k : Kd)
  | pan (v : LV)
def endOf : LEnd → OpEnd
  | .ret v => .val v .change
  | .pan v => .pan v

def doCall (call : CallF) (H : Heap) (s : S) : Option (Fn × List LV) → R (OpEnd × Heap)
  | some (fn, args) => (call fn args H s).bnd fun e s' => .ok (endOf e.1, e.2) s'
  | none => .bad 4
def doLop (s : S) : Option OpR → R (OpEnd × Heap)
  | some r => .ok (.val r.v r.k, r.H) s
  | none => .bad 5

def hasBody (P : Program) (g : FuncId) : Bool :=
  match P.funcs[g]? with
  | some fu => fu.body.isSome
  | none => false

/-- What an operation answers, in every heap; in every heap that has an object; what it writes there. -/
def PureOp (P : Program) (op : Op) (xs : List LV) (v : LV) : Prop := ∀ H, lop P op xs H = some ⟨v, H, .pure⟩
def LoadOp (P : Program) (op : Op) (xs : List LV) (v : LV) (i : Nat) (o : LObj) : Prop := ∀ H : Heap, H.get i = o → lop P op xs H = some ⟨v, H, .load i⟩
def StoreOp (P : Program) (op : Op) (xs : List LV) (v : LV) (i : Nat) (o o' : LObj) : Prop := ∀ H : Heap, H.get i = o → lop P op xs H = some ⟨v, H.upd [(i, o')] [], .change⟩

/-- One operation. -/
def doOp (P : Program) (call : CallF) (op : Op) (xs : List LV) (H : Heap) (s : S) : R (OpEnd × Heap) :=
  match popD s.ds with
  | (.auto _, ds) => bc (isCall op) (doCall call H ⟨ds, s.ob⟩ (calleeOf xs)) (doLop ⟨ds, s.ob⟩ (lop P op xs H))
  | (.val v us ns k, ds) => bc (isCall op) (.bad 6) (.ok (.val v k, H.upd us ns) ⟨ds, lop P op xs H = some ⟨v, H.upd us ns, k⟩ ∧ s.ob⟩)
  | (.call e us ns, ds) => bc (isCall op) (match calleeOf xs with
      | some (.func g, args) => bc (hasBody P g) (.ok (endOf e, H.upd us ns) ⟨ds, HT P g args H e (H.upd us ns) ∧ s.ob⟩) (.bad 6)
      | _ => .bad 7) (.bad 8)
  | (.use C l, ds) => bc (isCall op) (match calleeOf xs with
      | some (.func g, args) => bc (hasBody P g && Nat.beq g C.g && C.fit l H.n) (.ok (endOf (mapEnd (C.map l H.n) C.e), H.upd (C.us l H.n) (C.ns l H.n))
          ⟨ds, C.holds P ∧ sameVs (at_ l) C.xs args ∧ objL (at_ l) H C.os 0 ∧ s.ob⟩) (.bad 50)
      | _ => .bad 7) (.bad 8)
  | (.pure e, ds) => bc (isCall op) (match calleeOf xs with
      | some (.func g, args) => bc (hasBody P g) (.ok (endOf e, H) ⟨ds, (∀ H, HT P g args H e H) ∧ s.ob⟩) (.bad 50)
      | _ => .bad 7) (.bad 8)
  | (.valp v, ds) => bc (isCall op) (.bad 6) (.ok (.val v .pure, H) ⟨ds, PureOp P op xs v ∧ s.ob⟩)
  | (.ldp v i, ds) => bc (isCall op) (.bad 6) (.ok (.val v (.load i), H) ⟨ds, LoadOp P op xs v i (H.get i) ∧ s.ob⟩)
  | (.stp v i o, ds) => bc (isCall op) (.bad 6) (.ok (.val v .change, H.upd [(i, o)] []) ⟨ds, StoreOp P op xs v i (H.get i) o ∧ s.ob⟩)
  | (.stop, _) => .pause s
  | _ => .bad 9

abbrev EvF := Fr → Heap → S → R (LX × Fr × Heap)

def putK {α : Type} (o : Option Fr) (k : Fr → R α) : R α := @Option.rec Fr (fun _ => R α) (.bad 10) k o

def behind (o : Oper) (f : Fr) (next : EvF) (H : Heap) (s : S) : OpEnd → R (LX × Fr × Heap)
  | .val v _ => putK (f.put o.dst v) fun f' => next f' H s
  | .pan v => .ok (.pan v, f, H) s
def evOp (P : Program) (call : CallF) (all : List Oper) (o : Oper) (next : EvF) : EvF := fun f H s =>
  (wanted all o f s).bnd fun wf s => bc wf.1
    ((doOp P call o.op (wf.2.evs (opds o.op)) H s).bnd fun r s => behind o wf.2 next r.2 s r.1)
    (putK (wf.2.put o.dst undefL) fun f' => next f' H s)
def evEnd : EvF := fun f H s => .ok (.normal, f, H) s
/-- The operations of a region, one behind the other. -/
def evOps (P : Program) (call : CallF) (all l : List Oper) : EvF :=
  @List.rec Oper (fun _ => EvF) evEnd (fun o _ next => evOp P call all o next) l

/-- What an operation did: its kind, the heap ahead and behind. -/
structure Did where
  k : Kd
  a : Heap
  b : Heap

abbrev EvD := Fr → Heap → S → R (Fr × Heap × List Did)
def behindD (o : Oper) (f : Fr) (next : EvD) (H H' : Heap) (s : S) : OpEnd → R (Fr × Heap × List Did)
  | .val v k => putK (f.put o.dst v) fun f' => (next f' H' s).bnd fun r s => .ok (r.1, r.2.1, ⟨k, H, H'⟩ :: r.2.2) s
  | .pan _ => .bad 12
def evOpD (P : Program) (call : CallF) (all : List Oper) (o : Oper) (next : EvD) : EvD := fun f H s =>
  (wanted all o f s).bnd fun wf s => bc wf.1
    ((doOp P call o.op (wf.2.evs (opds o.op)) H s).bnd fun r s => behindD o wf.2 next H r.2 s r.1)
    (putK (wf.2.put o.dst undefL) fun f' => (next f' H s).bnd fun r s => .ok (r.1, r.2.1, ⟨.pure, H, H⟩ :: r.2.2) s)
def evEndD : EvD := fun f H s => .ok (f, H, []) s
def evDraw (P : Program) (call : CallF) (all l : List Oper) : EvD :=
  @List.rec Oper (fun _ => EvD) evEndD (fun o _ next => evOpD P call all o next) l

/-- Which operations are ahead of each, as bits. -/
def bitsOf (acc : List Nat) : List Edge → Nat → Nat
  | [], b => b
  | e :: es, b => bitsOf acc es (bc (Region.binds .any e) (b ||| 2 ^ e.on ||| (acc.getD e.on 0)) b)
def aheadFrom : List Oper → List Nat → List Nat
  | [], acc => acc
  | o :: os, acc => aheadFrom os (app acc [bitsOf acc o.after.toList 0])
def aheadOf (ops : List Oper) : List Nat := aheadFrom ops []

def edgesBack : List Oper → Nat → Bool
  | [], _ => true
  | o :: os, i => (o.after.toList.all fun e => !Region.binds .any e || Nat.blt e.on i) && edgesBack os (i + 1)

/-- The temporaries that an operation looks at. -/
def looks (ops : List Oper) (o : Oper) : List Tmp :=
  app ((opds o.op).filterMap fun | .tmp t => some t | _ => none) (match o.guard with
    | some (j, _) => optOf (dstOf ops j)
    | none => [])
def hasN : List Nat → Nat → Bool
  | [], _ => false
  | x :: xs, t => bc (Nat.beq x t) true (hasN xs t)
/-- May two operations (the first one ahead in the text) not be turned round? -/
def tied (ops : List Oper) (x y : Oper) : Bool :=
  (match x.dst with
    | some d => hasN (looks ops y) d || (match y.dst with | some e => Nat.beq d e | none => false)
    | none => false) ||
  (match y.dst with
    | some e => hasN (looks ops x) e
    | none => false)
def tiedOk (ops : List Oper) (y : Oper) (m : Nat) : List Oper → Nat → Bool
  | [], _ => true
  | x :: xs, i => (!tied ops x y || m.testBit i) && tiedOk ops y m xs (i + 1)
def tmpsOk (ops : List Oper) : List Oper → List Oper → List Nat → Bool
  | _, [], _ => true
  | done, y :: ys, m :: ms => tiedOk ops y m done 0 && tmpsOk ops (app done [y]) ys ms
  | _, _ :: _, [] => false
def regionOk (ops : List Oper) : Bool := edgesBack ops 0 && tmpsOk ops [] ops (aheadOf ops)

/-- May what two operations did (the first one ahead) be turned round? -/
def crossOk (x y : Did) : Bool :=
  match x.k, y.k with
  | .change, .change => false
  | .change, .load i => Nat.blt i x.a.n && Nat.beq (x.a.slot i).stamp (x.b.slot i).stamp
  | .load i, .change => Nat.blt i y.a.n && Nat.beq (y.a.slot i).stamp (y.b.slot i).stamp
  | _, _ => true
def didOk (y : Did) (m : Nat) : List Did → Nat → Bool
  | [], _ => true
  | x :: xs, i => (m.testBit i || crossOk x y) && didOk y m xs (i + 1)
def didsOk : List Did → List Did → List Nat → Bool
  | _, [], _ => true
  | done, y :: ys, m :: ms => didOk y m done 0 && didsOk (app done [y]) ys ms
  | _, _ :: _, [] => false

def loopN (body : EvF) (k : Nat) : EvF :=
  @Nat.rec (fun _ => EvF) (fun _ _ _ => .bad 15) (fun _ again f H s => (body f H s).bnd fun r s' => match r.1 with
    | .normal => again r.2.1 r.2.2 s'
    | x => .ok (x, r.2.1, r.2.2) s') k

def pend : Option Code → Option LX
  | none => some .normal
  | some .ret => some .ret
  | some (.exit id) => some (.exit id)
  | some _ => none

def evSeq (a b : EvF) : EvF := fun f H s => (a f H s).bnd fun r s' => match r.1 with
  | .normal => b r.2.1 r.2.2 s'
  | x => .ok (x, r.2.1, r.2.2) s'
def evCond (c : Operand) (a b : EvF) : EvF := fun f H s => match f.ev c with
  | .bool v => (decideB v s).bnd fun t s' => bc t (a f H s') (b f H s')
  | _ => .bad 20
def evBlock (id : Nat) (c : EvF) : EvF := fun f H s => (c f H s).bnd fun r s' => match r.1 with
  | .exit id' => bc (Nat.beq id' id) (.ok (.normal, r.2.1, r.2.2) s') (.ok (.exit id', r.2.1, r.2.2) s')
  | x => .ok (x, r.2.1, r.2.2) s'
def evRegion (P : Program) (call : CallF) (ops : List Oper) (draw : Bool) : EvF := fun f H s =>
  bc draw ((evDraw P call ops ops f H s).bnd fun r s' => bc (regionOk ops) (bc (didsOk [] r.2.2 (aheadOf ops)) (.ok (.normal, r.1, r.2.1) s') (.bad 18)) (.bad 19))
    (evOps P call ops ops f H s)
def evLoop (P : Program) (lf : Nat) (c : Code) (body : EvF) : EvF := fun f H s =>
  match popD s.ds with
  | (.auto _, ds) => loopN body lf f H ⟨ds, s.ob⟩
  | (.code x f' us ns, ds) => .ok (x, f', H.upd us ns) ⟨ds, CT P (.loop c) f H x f' (H.upd us ns) ∧ s.ob⟩
  | (.loop C, ds) => bc (C.fit f H.n) (.ok (C.x, Fr.ofL f.fn f.n C.L' [] none, H.upd (upFrom (C.os'.take H.n) 0) (C.os'.drop H.n)) ⟨ds, C.holds P (.loop c) f.fn f.n ∧ frL id f C.L ∧ objL id H C.os 0 ∧ s.ob⟩) (.bad 51)
  | (.stop, _) => .pause s
  | _ => .bad 21

/-- The block for a round's deferred calls, the marks, the heap with it; none: the round is no round. -/
def roundBegin (f : Fr) (H : Heap) : Option (Heap × Nat × List Nat) :=
  match f.round with
  | none => some (H.push (.defers false), H.n, H.n :: f.marks)
  | some l => match H.get l with
    | .loop _ _ _ _ _ _ _ _ d => some (H, d, f.marks)
    | _ => none
def rangeEnd (f : Fr) (l : Nat) (H : Heap) (s : S) : LEnd → R (LX × Fr × Heap)
  | .pan v => .ok (.pan v, f, H) s
  | .ret _ => match H.get l with
    | .loop .busy _ _ _ _ _ _ _ _ => .bad 22
    | .loop _ pe fn n t ps as bo d => match pend pe with
      | some x => .ok (x, f, H.put l (.loop .exhausted pe fn n t ps as bo d)) s
      | none => .bad 23
    | _ => .bad 24
def evRange (call : CallF) (g : Operand) (ps : List Tmp) (assign body : Code) : EvF := fun f H s =>
  match f.ev g with
  | .func (.func g) first captured => match roundBegin f H with
    | some (H1, d, marks) => (call (.func g) (app first (app [.func (.yield H1.n) [] []] captured)) (H1.push (.loop .ready none f.fn f.n f.t ps assign body d)) s).bnd fun r s' =>
        rangeEnd { f with marks := marks } H1.n r.2 s' r.1
    | none => .bad 25
  | _ => .bad 26

def evC (P : Program) (call : CallF) (lf : Nat) (c : Code) : EvF :=
  @Code.rec (fun _ => EvF) evEnd (fun _ ops draw => evRegion P call ops.toList draw) (fun _ _ a b => evSeq a b) (fun c _ _ a b => evCond c a b)
    (fun id _ b => evBlock id b) (fun c b => evLoop P lf c b) (fun g ps assign body _ _ => evRange call g ps.toList assign body)
    (fun id f H s => .ok (.exit id, f, H) s) (fun _ b => b) (fun _ => evEnd) (fun _ _ _ _ => .bad 16) (fun f H s => .ok (.ret, f, H) s) (fun _ _ _ _ => .bad 17) c

def setArgs (n : Nat) (t : Tr LV) : List Nat → List LV → Option (Tr LV)
  | [], [] => some t
  | p :: ps, v :: vs => bc (Nat.blt p n) (setArgs n (t.set .junk v p) ps vs) none
  | _, _ => none
def argsFrom (t : Tr LV) (i : Nat) : List LV → Tr LV
  | [] => t
  | v :: vs => argsFrom (t.set .junk v i) (i + 1) vs

def resultL (P : Program) (f : Fr) (H : Heap) : ResultVar → Option LV
  | .tmp t => let v := f.get t; bc (isJunk v) none (some v)
  | .cell a t => loadL P t H (f.get a)
def resultsL (P : Program) (f : Fr) (H : Heap) : List ResultVar → Option (List LV)
  | [] => some []
  | r :: rs => match resultL P f H r with
    | none => none
    | some v => match resultsL P f H rs with
      | none => none
      | some vs => some (v :: vs)
def oneOf : List LV → LV
  | [v] => v
  | vs => .tup vs

def takeMarks (H : Heap) : List Nat → Option Heap
  | [] => some H
  | d :: ds => match H.get d with
    | .defers false => takeMarks (H.put d (.defers true)) ds
    | _ => none

def leave (P : Program) (fu : Func) (f : Fr) (H : Heap) (s : S) : LX → R (LEnd × Heap)
  | .exit _ => .bad 34
  | .pan v => .ok (.pan v, H) s
  | _ => match resultsL P f H fu.results.toList with
    | some vs => .ok (.ret (oneOf vs), H) s
    | none => .bad 35
def evBody (P : Program) (ev : Code → EvF) (g : FuncId) (fu : Func) (args : List LV) (H : Heap) (s : S) : R (LEnd × Heap) :=
  match fu.body with
  | none => .bad 32
  | some c => (ev c ⟨g, max fu.ntmps (lenL args), argsFrom .nil 0 args, [], none⟩ H s).bnd fun r s' => match takeMarks r.2.2 r.2.1.marks with
    | none => .bad 33
    | some H2 => leave P fu r.2.1 H2 s' r.1

def hasFn (P : Program) (g : FuncId) : Bool :=
  match P.funcs[g]? with
  | some _ => true
  | none => false
def roundEnd (P : Program) (g : FuncId) (l : Nat) (H : Heap) (x : LX) (s : S) : LObj → R (LEnd × Heap)
  | .loop .busy _ fn n t ps as bo d => match x with
    | .normal => .ok (.ret (.bool true), H.put l (.loop .ready none fn n t ps as bo d)) s
    | .ret => .ok (.ret (.bool false), H.put l (.loop .done (some .ret) fn n t ps as bo d)) s
    | .exit id => .ok (.ret (.bool false), H.put l (.loop .done (some (.exit id)) fn n t ps as bo d)) s
    | .pan v => bc (hasFn P g) (.ok (.pan v, H) s) (.bad 40)
  | _ => .bad 38
def evRound (P : Program) (ev : Code → EvF) (l : Nat) (args : List LV) (H : Heap) (s : S) : LObj → R (LEnd × Heap)
  | .loop .ready _ fn n t ps as bo _ => match setArgs n t ps args with
    | none => .bad 36
    | some t' => (ev as ⟨fn, n, t', [], some l⟩ H s).bnd fun r s => match r.1, r.2.2.get l with
      | .normal, .loop .ready pe fn n t ps as' bo' d => (ev bo r.2.1 (r.2.2.put l (.loop .busy pe fn n t ps as' bo' d)) s).bnd fun q s => match q.2.1.marks with
        | [] => roundEnd P q.2.1.fn l q.2.2 q.1 s (q.2.2.get l)
        | _ => .bad 37
      | _, _ => .bad 39
  | _ => .bad 41

def evFn (P : Program) (ev : Code → EvF) (fn : Fn) (args : List LV) (H : Heap) (s : S) : R (LEnd × Heap) :=
  match fn with
  | .func g => match P.funcs[g]? with
    | none => .bad 31
    | some fu => evBody P ev g fu args H s
  | .yield l => evRound P ev l args H s (H.get l)
  | _ => .bad 42

def evF (P : Program) (lf : Nat) (k : Nat) : CallF :=
  @Nat.rec (fun _ => CallF) (fun _ _ _ _ => .bad 30) (fun _ call => evFn P (evC P call lf)) k

/-- A closed call. -/
def run (P : Program) (k lf : Nat) (g : FuncId) (args : List LV) (H : Heap) : R (LEnd × Heap) := evF P lf k (.func g) args H ⟨[], True⟩

end
end Go.Proofs.Ytmnpnomllcghmaa.Ev
