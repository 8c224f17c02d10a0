/- The machine's steps, in frames of every make. -/
import Derived.Test.YtmnpnomllcghmaaEvc
import Derived.Test.YtmnpnomllcghmaaOps9
import Derived.Orders
namespace Go.Proofs.Ytmnpnomllcghmaa.Ev
open Go

variable {P : Program} {b : Frame} {tmps : Array Value} {ds : List Deferred} {k : List Item} {cs : List Frame} {w : World}

theorem frameAt_eval (b : Frame) (tmps : Array Value) (ds : List Deferred) (todo : List Item) : (frameAt b tmps ds todo).eval = fun x => match x with
    | .tmp t => tmps.getD t undef
    | .const v => v
    | .global g => .pointer (some ⟨g, 0, none⟩)
    | .func f => .func (.func f) #[] #[] := by
  funext x; cases x <;> rfl
def rev (tmps : Array Value) : Operand → Value
  | .tmp t => tmps.getD t undef
  | .const v => v
  | .global g => .pointer (some ⟨g, 0, none⟩)
  | .func f => .func (.func f) #[] #[]
theorem frameAt_rev (b : Frame) (tmps : Array Value) (ds : List Deferred) (todo : List Item) : (frameAt b tmps ds todo).eval = rev tmps := by
  funext x; cases x <;> rfl

theorem st_skip : step P (lone (frameAt b tmps ds (.code .skip :: k)) cs w) = .next (lone (frameAt b tmps ds k) cs w) :=
  step_lone_go (by simp [stepG, stepG.exec, frameAt])
theorem st_label {l : Nat} : step P (lone (frameAt b tmps ds (.code (.label l) :: k)) cs w) = .next (lone (frameAt b tmps ds k) cs w) :=
  step_lone_go (by simp [stepG, stepG.exec, frameAt])
theorem st_inBlock {id : Nat} : step P (lone (frameAt b tmps ds (.inBlock id :: k)) cs w) = .next (lone (frameAt b tmps ds k) cs w) :=
  step_lone_go (by simp [stepG, stepG.exec, frameAt])
theorem st_inScope {c : Code} : step P (lone (frameAt b tmps ds (.inScope c :: k)) cs w) = .next (lone (frameAt b tmps ds k) cs w) :=
  step_lone_go (by simp [stepG, stepG.exec, frameAt])
theorem st_seq {x y : Code} : step P (lone (frameAt b tmps ds (.code (.seq x y) :: k)) cs w) = .next (lone (frameAt b tmps ds (.code x :: .code y :: k)) cs w) :=
  step_lone_go (by simp [stepG, stepG.exec, frameAt])
theorem st_cond {c : Operand} {x y : Code} {t : Bool} (h : rev tmps c = .bool t) :
    step P (lone (frameAt b tmps ds (.code (.cond c x y) :: k)) cs w) = .next (lone (frameAt b tmps ds (.code (if t then x else y) :: k)) cs w) :=
  step_lone_go (by
    have := congrFun (frameAt_rev b tmps ds (.code (.cond c x y) :: k)) c
    simp only [frameAt] at this
    simp [stepG, stepG.exec, frameAt, this, h])
theorem st_block {id : Nat} {c : Code} : step P (lone (frameAt b tmps ds (.code (.block id c) :: k)) cs w) = .next (lone (frameAt b tmps ds (.code c :: .inBlock id :: k)) cs w) :=
  step_lone_go (by simp [stepG, stepG.exec, frameAt])
theorem st_scope {c : Code} : step P (lone (frameAt b tmps ds (.code (.scope c) :: k)) cs w) = .next (lone (frameAt b tmps ds (.code c :: .inScope c :: k)) cs w) :=
  step_lone_go (by simp [stepG, stepG.exec, frameAt])
theorem st_loop {c : Code} : step P (lone (frameAt b tmps ds (.code (.loop c) :: k)) cs w) = .next (lone (frameAt b tmps ds (.code c :: .inLoop c :: k)) cs w) :=
  step_lone_go (by simp [stepG, stepG.exec, frameAt])
theorem st_inLoop {c : Code} : step P (lone (frameAt b tmps ds (.inLoop c :: k)) cs w) = .next (lone (frameAt b tmps ds (.code c :: .inLoop c :: k)) cs w) :=
  step_lone_go (by simp [stepG, stepG.exec, frameAt])
theorem st_exit {id : Nat} {k' : List Item} (h : exitTo id k = some k') : step P (lone (frameAt b tmps ds (.code (.exit id) :: k)) cs w) = .next (lone (frameAt b tmps ds k') cs w) :=
  step_lone_go (by simp [stepG, stepG.exec, frameAt, h])
theorem st_region {id : Nat} {ops : Array Oper} : step P (lone (frameAt b tmps ds (.code (.region id ops false) :: k)) cs w) = .next (lone (frameAt b tmps ds (.inRegion ops (List.range ops.size) :: k)) cs w) :=
  step_lone_go (by simp [stepG, stepG.exec, frameAt])
theorem st_draw {id : Nat} {ops : Array Oper} (hm : P.follows .mixedOrders = true) : step P (lone (frameAt b tmps ds (.code (.region id ops true) :: k)) cs w) =
    .next (lone (frameAt b tmps ds (.inRegion ops (Region.linearise .any ops (w.tape w.drawn (.order b.fn id))) :: k)) cs { w with drawn := w.drawn + 1 }) :=
  step_lone_go (by simp [stepG, stepG.exec, frameAt, choose, Sem.run, Question.forced, Question.cut, Region.schedule, hm])
theorem st_regionEnd {ops : Array Oper} : step P (lone (frameAt b tmps ds (.inRegion ops [] :: k)) cs w) = .next (lone (frameAt b tmps ds k) cs w) :=
  step_lone_go (by simp [stepG, stepG.exec, frameAt])

def putT (tmps : Array Value) (d : Option Tmp) (v : Value) : Array Value :=
  match d with
  | some i => tmps.setIfInBounds i v
  | none => tmps
theorem finish_at {ops : Array Oper} {i : Nat} {rest : List Nat} {o : Oper} (ho : ops[i]? = some o) (v : Value) :
    (frameAt b tmps ds (.inRegion ops (i :: rest) :: k)).finish v = frameAt b (putT tmps o.dst v) ds (.inRegion ops rest :: k) := by
  cases hd : o.dst <;> simp [Frame.finish, frameAt, ho, putT, hd]

theorem st_opSkip {ops : Array Oper} {i : Nat} {rest : List Nat} {o : Oper} (ho : ops[i]? = some o) (hw : Region.wanted o (yielded ops tmps) = false) :
    step P (lone (frameAt b tmps ds (.inRegion ops (i :: rest) :: k)) cs w) = .next (lone (frameAt b (putT tmps o.dst undef) ds (.inRegion ops rest :: k)) cs w) := by
  rw [← finish_at ho]
  exact step_lone_go (by simp [stepG, stepG.exec, frameAt, ho, hw])

theorem stepG_at {ops : Array Oper} {i : Nat} {rest : List Nat} {o : Oper} (ho : ops[i]? = some o) (hw : Region.wanted o (yielded ops tmps) = true) (hnd : ∀ c, o.op ≠ .defer c) :
    stepG P true { frame := frameAt b tmps ds (.inRegion ops (i :: rest) :: k), callers := cs, status := .running, dying := none } w =
      stepG.apply P true (frameAt b tmps ds (.inRegion ops (i :: rest) :: k)) cs none (execOp (rev tmps) o) w := by
  have he := frameAt_rev b tmps ds (.inRegion ops (i :: rest) :: k)
  simp only [frameAt] at he
  simp only [stepG, frameAt, stepG.exec, ho, Option.map_some, hw, Option.getD_some, if_true, stepG.oper, Frame.oper?, he]
  split
  · rename_i l c h1 h2; exact absurd h2 (hnd c)
  · rfl

theorem st_opValue {ops : Array Oper} {i : Nat} {rest : List Nat} {o : Oper} {v : Value} {w' : World} (ho : ops[i]? = some o) (hw : Region.wanted o (yielded ops tmps) = true) (hnd : ∀ c, o.op ≠ .defer c)
    (hr : (execOp (rev tmps) o).run P w = .ok (.value v) w') :
    step P (lone (frameAt b tmps ds (.inRegion ops (i :: rest) :: k)) cs w) = .next (lone (frameAt b (putT tmps o.dst v) ds (.inRegion ops rest :: k)) cs w') := by
  rw [← finish_at ho]
  refine step_lone_go ?_
  rw [stepG_at ho hw hnd]
  simp [stepG.apply, Sem.runT_eq, hr]
theorem st_opUnit {ops : Array Oper} {i : Nat} {rest : List Nat} {o : Oper} {w' : World} (ho : ops[i]? = some o) (hw : Region.wanted o (yielded ops tmps) = true) (hnd : ∀ c, o.op ≠ .defer c)
    (hr : (execOp (rev tmps) o).run P w = .ok .skip w') :
    step P (lone (frameAt b tmps ds (.inRegion ops (i :: rest) :: k)) cs w) = .next (lone (frameAt b (putT tmps o.dst undef) ds (.inRegion ops rest :: k)) cs w') := by
  rw [← finish_at ho]
  refine step_lone_go ?_
  rw [stepG_at ho hw hnd]
  simp [stepG.apply, Sem.runT_eq, hr]

/-- The frame that a call makes. -/
def frameOf (P : Program) : Next → Option Frame
  | .enter f args => some (Frame.enter P f args .normal)
  | .round l f tmps as body => some (Frame.round l f tmps as body .normal)
  | _ => none
theorem st_opCall {ops : Array Oper} {i : Nat} {rest : List Nat} {o : Oper} {nx : Next} {fr0 : Frame} {w' : World} (ho : ops[i]? = some o) (hw : Region.wanted o (yielded ops tmps) = true) (hnd : ∀ c, o.op ≠ .defer c)
    (hr : (execOp (rev tmps) o).run P w = .ok nx w') (hf : frameOf P nx = some fr0) :
    step P (lone (frameAt b tmps ds (.inRegion ops (i :: rest) :: k)) cs w) = .next (lone fr0 (frameAt b tmps ds (.inRegion ops (i :: rest) :: k) :: cs) w') := by
  refine step_lone_go ?_
  rw [stepG_at ho hw hnd]
  cases nx <;> simp only [frameOf] at hf <;> first
    | (cases hf; done)
    | (injection hf with hf; subst hf; simp [stepG.apply, Sem.runT_eq, hr, frameAt])

theorem st_ret_frame {k : List Item} (hb : b.roundOf = none) : step P (lone (frameAt b tmps ds (.code .ret :: k)) cs w) = .next (lone { frameAt b tmps ds (.code .ret :: k) with mode := .returning } cs w) :=
  step_lone_go (by simp [stepG, stepG.exec, frameAt, hb])
theorem st_end_frame (hb : b.roundOf = none) : step P (lone (frameAt b tmps ds []) cs w) = .next (lone { frameAt b tmps ds [] with mode := .returning } cs w) :=
  step_lone_go (by simp [stepG, stepG.exec, frameAt, hb])
end Go.Proofs.Ytmnpnomllcghmaa.Ev
