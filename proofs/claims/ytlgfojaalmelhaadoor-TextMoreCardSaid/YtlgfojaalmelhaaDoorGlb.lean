/- Laws over program variables that nothing writes: the form's wrap, the heap of the arguments. -/
import Derived.Test.YtlgfojaalmelhaaDoorArg
import Derived.HandedShaped
import Derived.LaidMore
import Derived.Lay
import Derived.Stop.Joined
import Derived.Shelf.Vars
import Derived.Lib.LaidU8
namespace Go.Proofs.YtlgfojaalmelhaaDoor.Ev
open Go
theorem returns_and_shaped {H : Type} {enc : TypeId × Value → H} {a : Assume} {C : Checked} {os : Os} {f : FuncId} {fn : Func} {s : ChangeSpec} {conds : List PathCond} {apart fresh handsOn again : Bool} {X : World → Array Value → Prop}
  (hX : ∀ (w w' : World) (args : Array Value), w.heap = w'.heap → X w args → X w' args)
  (own : ownKnob C.prog.godebug = none) (started : os.Started) (noInit : C.prog.inits.idxOf? f = none) (hfn : C.prog.funcs[f]? = some fn)
  (witness : ∃ (w : World) (tape : Tape) (i : Input), w.os = os ∧ (w.forCall tape i).Shaped C.prog ∧ i.vars = [] ∧ Input.okWide C.prog (w.forCall tape i) .any w.heap.size f i ∧
   ((s.pre enc C.prog fn conds apart (w.forCall tape i).memory i.args ∧ X (w.forCall tape i).memory i.args) ∧ sizedMet enc C.prog fn (OpenSpec.ofChange s) apart (w.forCall tape i).memory i.args) ∧ a.holds C.prog (lone (Frame.enter C.prog f i.args .normal) [] (w.forCall tape i)))
  (contract : ∀ (W : World) (base : Nat) (args : Array Value) (ds gs : List (DataW H)) (before : List MemPlace),
   (∀ (j : Nat) t v, fn.params[j]? = some t → args[j]? = some v → Value.okWide C.prog W .any base t v) →
   DataW.Whole enc C.prog fn.params.toList s.vars apart W args.toList ds gs before →
   conds.all (PathCond.test C.prog ⟨fn.params.toList, ds, s.plain.varTypes C.prog, gs⟩) = true →
   W.ShapedOpen C.prog → X W args →
   Calls C.prog f args W fun e W' => ∃ v, e = .returned v ∧ s.post enc C.prog fn apart fresh handsOn again W args v W') :
  ReturnsInHanded a C os f .any (fun w args => (s.pre enc C.prog fn conds apart w args ∧ X w args) ∧ sizedMet enc C.prog fn (OpenSpec.ofChange s) apart w args) (s.post enc C.prog fn apart fresh handsOn again) := by
 refine returnsInHanded_of_calls own started noInit witness ?_
 intro w tape i _ hsh _ hok hpre _
 obtain ⟨_, _, _, fn', hfn', _, _, _, _, hval⟩ := hok
 have e : fn' = fn := Option.some.inj (hfn'.symm.trans hfn)
 subst e
 obtain ⟨⟨⟨ds, gs, before, hw, hc⟩, hx⟩, hz⟩ := hpre
 have hw' := DataW.Whole.of_heap (w' := w.forCall tape i) (by rfl) hw
 refine (contract (w.forCall tape i) w.heap.size i.args ds gs before hval hw' hc hsh (hX _ _ _ (by rfl) hx)).mono fun e W' ⟨v, he, hp⟩ => ?_
 subst he
 exact ChangeSpec.post_blind hp

theorem cell_lt {w : World} {a : Addr} {v : Value} (h : w.cell? a = some v) : a.block < w.heap.size := by
 unfold World.cell? at h
 split at h
 ·rename_i hb; exact (Array.getElem?_eq_some_iff.1 hb).1
 ·cases h
def RowArg.okG (w : World) (a : RowArg) : Prop := ∃ g cs, a.o = .glob g cs ∧ a.rb.blk = g ∧ a.rb.off = 0 ∧ g < w.heap.size ∧ ∀ j v, cs[j]? = some v → w.cell? ⟨g, j, none⟩ = some (dec (fun _ => rbz) v)
theorem Sat.args2 {w : World} {rs : List RowArg} (h : ∀ a, a ∈ rs → a.ok w ∨ a.okG w) : Sat (rhoOf rs) (Heap.of (rs.map (·.o))) w ∧ ∀ i, i < (Heap.of (rs.map (·.o))).n → ((Heap.of (rs.map (·.o))).get i).owns = false := by
 have hget : ∀ i (hi : i < rs.length), (Heap.of (rs.map (·.o))).get i = rs[i].o ∧ rhoOf rs i = rs[i].rb := by
  intro i hi
  refine ⟨by rw [of_get _ i (by simpa using hi)]; simp, ?_⟩
  unfold rhoOf
  rw [List.getD_eq_getElem?_getD, List.getElem?_map, List.getElem?_eq_getElem hi]; rfl
 have hn : (Heap.of (rs.map (·.o))).n = rs.length := by rw [of_n]; simp
 have howns : ∀ i, i < (Heap.of (rs.map (·.o))).n → ((Heap.of (rs.map (·.o))).get i).owns = false := by
  intro i hi
  rw [hn] at hi
  rw [(hget i hi).1]
  rcases h _ (List.getElem_mem hi) with (e | ⟨ks, e, vs, e2, _⟩) | ⟨g, cs, e2, _⟩
  ·rw [e]; rfl
  ·rw [e2]; rfl
  ·rw [e2]; rfl
 refine ⟨⟨fun i hi => ?_, fun i hi => ?_, fun i j hi hj hne ho => ?_, fun i hi hs => ?_⟩, howns⟩
 ·rw [hn] at hi
  rw [(hget i hi).1]
  rcases h _ (List.getElem_mem hi) with (e | ⟨ks, e, vs, e2, _⟩) | ⟨g, cs, e2, _⟩
  ·rw [e]; trivial
  ·rw [e2]; trivial
  ·rw [e2]; trivial
 ·rw [hn] at hi
  rw [(hget i hi).1, (hget i hi).2]
  rcases h _ (List.getElem_mem hi) with (e | ⟨ks, e, vs, e2, _, hc⟩) | ⟨g, cs, e2, hb, hz, _, hc⟩
  ·rw [e]; trivial
  ·rw [e2]
   intro j v hv
   rw [hc j v hv, flat_dec hv]
  ·rw [e2]
   refine ⟨hb, hz, fun j v hv => ?_⟩
   rw [hb]; exact hc j v hv
 ·rw [howns i hi] at ho; cases ho
 ·rw [hn] at hi
  rw [(hget i hi).1] at hs
  rw [(hget i hi).2]
  rcases h _ (List.getElem_mem hi) with (e | ⟨ks, e, vs, e2, hb, _⟩) | ⟨g, cs, e2, hb, _, hlt, _⟩
  ·rw [e] at hs; cases hs
  ·exact hb
  ·rw [hb]; exact hlt
end Go.Proofs.YtlgfojaalmelhaaDoor.Ev
