/- Contracts, proved: Tkn. -/
import Derived.Test.YtlgfojaalmelhaaDoorTknD
import Derived.Test.YtlgfojaalmelhaaDoorTflP
import Derived.Test.YtlgfojaalmelhaaDoorKmi
namespace Go.Proofs.YtlgfojaalmelhaaDoor.Ev
open Go
set_option linter.unusedVariables false
set_option linter.unusedSimpArgs false
set_option maxRecDepth 100000
set_option maxHeartbeats 1000000

namespace S
theorem kc_eq : kc = .seq (.region (idOf (fstC kc)) #[o0, o1] false) kx := by kernel_rfl
theorem o0_op : o0.op = .next (.tmp 10) false := by kernel_rfl
theorem o0_d : o0.dst = some 11 := by kernel_rfl
theorem o0_g : o0.guard = none := by kernel_rfl
theorem o1_op : o1.op = .extract (.tmp 11) 0 := by kernel_rfl
theorem o1_d : o1.dst = some 12 := by kernel_rfl
theorem o1_g : o1.guard = none := by kernel_rfl
end S
noncomputable def knA : K.Env := envL [(48, fldE)]
theorem knA_ok : knA.ok := envL_ok (by intro p hp; simp only [List.mem_cons, List.not_mem_nil, or_false] at hp; subst hp; exact fld_ok)
def kzs : List (Nat × LV) := [(1, .map 0)]
noncomputable def kn1 (m : Int) (i : Nat) : Prop := @Option.rec (List Nat × Nat) (fun _ => Prop) True (fun q => K.RunB knA K.shutE 60 34 28 S.kx (S.kLb true) (S.kos1 m q.1 q.2) Hint.auto ⟨.normal, S.kL, [(0, .map (S.stt (q.1 ++ [q.2])).1 (S.stt (q.1 ++ [q.2])).2)], []⟩) (S.ways[i]?)
theorem kn1_all (m : Int) : K.conjN 64 (kn1 m) = K.trueN 64 := by kernel_rfl
theorem kn2 (es : List Ent) (c : Nat) (st : Nat × List Nat × Nat) (l2 : List Ent) (c2 : Nat) (cs : List LV) (m : Int) : K.RunB knA K.openE 60 34 28 S.kx (S.kLb false) [.map es c, .miter 2 st, .map l2 c2, .glob 0 cs, .glob 1 [.int .i64 m]] Hint.auto ⟨.exit 0, [(1, .map 0)], [], []⟩ = True := by kernel_rfl
namespace S
theorem okG_ok {g : Nat} {cs : List LV} {g1 : Nat} (h : okG g cs g1 = true) : g = 0 ∧ cs = tabV ∧ g1 = 1 := by
 unfold okG at h
 cases h1 : Nat.beq g 0 with
 | false => rw [h1] at h; cases h
 | true =>
  rw [h1, bc_true] at h
  cases h2 : eqTab cs tabI with
  | false => rw [h2] at h; cases h
  | true =>
   rw [h2, bc_true] at h
   exact ⟨Nat.eq_of_beq_eq_true h1, eqTab_ok h2, Nat.eq_of_beq_eq_true h⟩
theorem ways_src : (src.all fun e => [0, 1, 2, 3].contains e.born && Nat.blt e.born 4) = true := by kernel_rfl
theorem ways_0 : ([0, 1, 2, 3].all fun b => ways.contains ([], b)) = true := by kernel_rfl
theorem ways_n : (ways.all fun q => Nat.ble q.1.length 3 && [0, 1, 2, 3].all fun b => (q.1 ++ [q.2]).contains b || ways.contains (q.1 ++ [q.2], b)) = true := by kernel_rfl
theorem ways_len : Nat.ble ways.length 64 = true := by kernel_rfl
def allIn (l : List Nat) : Bool := [0, 1, 2, 3].all fun b => l.contains b
theorem ways_f : (ways.all fun q => !allIn (q.1 ++ [q.2]) || sameMap (stt (q.1 ++ [q.2])).1 kmap) = true := by kernel_rfl
def kJ (seen : List Nat) : Prop := seen = [] ∨ ∃ q, q ∈ ways ∧ seen = q.1 ++ [q.2]
theorem kJ_way {seen : List Nat} (h : kJ seen) {e : Ent} (he : e ∈ src) (hb : e.born ∉ seen) : (seen, e.born) ∈ ways := by
 have h4 : [0, 1, 2, 3].contains e.born = true := (Bool.and_eq_true _ _ ▸ List.all_eq_true.1 ways_src e he).1
 have h4 : e.born ∈ [0, 1, 2, 3] := by simpa using h4
 rcases h with rfl | ⟨q, hq, rfl⟩
 ·have := List.all_eq_true.1 ways_0 _ h4
  simpa using this
 ·have := (Bool.and_eq_true _ _ ▸ List.all_eq_true.1 ways_n q hq).2
  have := List.all_eq_true.1 this _ h4
  rw [Bool.or_eq_true] at this
  rcases this with h | h
  ·exact absurd (by simpa using h) hb
  ·simpa using h
theorem kJ_len {seen : List Nat} {b : Nat} (h : (seen, b) ∈ ways) : seen.length ≤ 3 :=
 Nat.le_of_ble_eq_true (Bool.and_eq_true _ _ ▸ List.all_eq_true.1 ways_n _ h).1
theorem kJ_end {seen : List Nat} (h : kJ seen) (hs : ∀ e, e ∈ src → e.born ∈ seen) : sameMap (stt seen).1 kmap = true := by
 have ha : allIn seen = true := by
  unfold allIn
  rw [List.all_eq_true]
  intro b hb
  have : ∃ e, e ∈ src ∧ e.born = b := by
   unfold src
   simp only [List.mem_cons, List.not_mem_nil, or_false] at hb
   rcases hb with rfl | rfl | rfl | rfl
   ·exact ⟨_, List.mem_cons_self, rfl⟩
   ·exact ⟨_, List.mem_cons_of_mem _ List.mem_cons_self, rfl⟩
   ·exact ⟨_, List.mem_cons_of_mem _ (List.mem_cons_of_mem _ List.mem_cons_self), rfl⟩
   ·exact ⟨_, List.mem_cons_of_mem _ (List.mem_cons_of_mem _ (List.mem_cons_of_mem _ List.mem_cons_self)), rfl⟩
  obtain ⟨e, he, hb⟩ := this
  rw [← hb]
  simpa using hs e he
 rcases h with rfl | ⟨q, hq, rfl⟩
 ·cases ha
 ·have := List.all_eq_true.1 ways_f q hq
  rw [ha] at this
  exact this
end S
theorem kn1_get {m : Int} {seen : List Nat} {b : Nat} (h : (seen, b) ∈ S.ways) : CT Tryd.prog S.kx (Fr.ofL 34 28 (S.kLb true) [] none) (Heap.of (S.kos1 m seen b)) .normal (Fr.ofL 34 28 S.kL [] none) (Heap.of (S.kos m (seen ++ [b]) )) := by
 obtain ⟨i, hi, hg⟩ := List.mem_iff_getElem.1 h
 have hi64 : i < 64 := Nat.lt_of_lt_of_le hi (Nat.le_of_ble_eq_true S.ways_len)
 have hr := K.conj_of (kn1_all m) i hi64
 unfold kn1 at hr
 rw [List.getElem?_eq_getElem hi, hg] at hr
 exact K.code_of_run good knA_ok K.shutE_ok hr
theorem kn2_get (m : Int) (seen : List Nat) : CT Tryd.prog S.kx (Fr.ofL 34 28 (S.kLb false) [] none) (Heap.of (S.kos m seen)) (.exit 0) (Fr.ofL 34 28 kzs [] none) (Heap.of (S.kos m seen)) :=
 K.code_of_run good knA_ok K.openE_ok (k := 60) (cast (kn2 _ _ _ _ _ _ _).symm trivial)
theorem kn_fr {b : Bool} {ρ : Nat → RB} {n : Nat} (hn : 2 ≤ n) {bf : Frame} {tmps : Array Value} {ds : List Deferred} (h : FRel ρ n (((Fr.ofL 34 28 S.kL [] none).set 11 .junk).set 12 (.bool b)) bf tmps ds) :
  FRel ρ n (Fr.ofL 34 28 (S.kLb b) [] none) bf tmps ds := by
 refine FRel.same (σ := fun i => i) h (same_ofL rfl rfl rfl rfl ?_) (wf_ofL ?_)
 ·refine ⟨rfl, ⟨rfl, rfl⟩, ?_, trivial⟩
  show sameV _ (.bool b) ((((Fr.ofL 34 28 S.kL [] none).set 11 .junk).set 12 (.bool b)).get 12)
  rw [Fr.get_set, if_pos rfl]; exact (rfl : b = b)
 ·exact ⟨by simp only [lt]; omega, by simp only [lt]; omega, trivial, trivial⟩
theorem kn_g2 (m : Int) (seen : List Nat) : (Heap.of (S.kos m seen)).get 2 = .map S.src 4 := by kernel_rfl
theorem kn_g1 (m : Int) (seen : List Nat) : (Heap.of (S.kos m seen)).get 1 = .miter 2 (4, seen, 4) := by kernel_rfl
theorem kn_g0 (m : Int) (seen : List Nat) : (Heap.of (S.kos m seen)).get 0 = .map (S.stt seen).1 (S.stt seen).2 := by kernel_rfl
theorem kn_g3 (m : Int) (seen : List Nat) : (Heap.of (S.kos m seen)).get 3 = .glob 0 S.tabV := by kernel_rfl
theorem kn_h0 (m : Int) (seen : List Nat) (b : Nat) : (Heap.of (S.kos1 m seen b)).get 0 = .map (S.stt seen).1 (S.stt seen).2 := by kernel_rfl
theorem kn_h1 (m : Int) (seen : List Nat) (b : Nat) : (Heap.of (S.kos1 m seen b)).get 1 = .miter 2 (4, seen ++ [b], 4) := by kernel_rfl
theorem kn_h2 (m : Int) (seen : List Nat) (b : Nat) : (Heap.of (S.kos1 m seen b)).get 2 = .map S.src 4 := by kernel_rfl
theorem kn_h3 (m : Int) (seen : List Nat) (b : Nat) : (Heap.of (S.kos1 m seen b)).get 3 = .glob 0 S.tabV := by kernel_rfl
theorem kn_p0 (m : Int) (seen : List Nat) (b : Nat) : ((Heap.of (S.kos m seen)).put 1 (.miter 2 (4, seen ++ [b], 4))).get 0 = .map (S.stt seen).1 (S.stt seen).2 := by kernel_rfl
theorem kn_p1 (m : Int) (seen : List Nat) (b : Nat) : ((Heap.of (S.kos m seen)).put 1 (.miter 2 (4, seen ++ [b], 4))).get 1 = .miter 2 (4, seen ++ [b], 4) := by kernel_rfl
theorem kn_p2 (m : Int) (seen : List Nat) (b : Nat) : ((Heap.of (S.kos m seen)).put 1 (.miter 2 (4, seen ++ [b], 4))).get 2 = .map S.src 4 := by kernel_rfl
theorem kn_p3 (m : Int) (seen : List Nat) (b : Nat) : ((Heap.of (S.kos m seen)).put 1 (.miter 2 (4, seen ++ [b], 4))).get 3 = .glob 0 S.tabV := by kernel_rfl
theorem kn_e0 (m : Int) : (Heap.of [.fmap S.kmap, .dead, .dead, .glob 0 S.tabV, .glob 1 [.int .i64 m]]).get 0 = .fmap S.kmap := by kernel_rfl
theorem kn_e1 (m : Int) : (Heap.of [.fmap S.kmap, .dead, .dead, .glob 0 S.tabV, .glob 1 [.int .i64 m]]).get 1 = .dead := by kernel_rfl
theorem kn_e2 (m : Int) : (Heap.of [.fmap S.kmap, .dead, .dead, .glob 0 S.tabV, .glob 1 [.int .i64 m]]).get 2 = .dead := by kernel_rfl
theorem kn_e3 (m : Int) : (Heap.of [.fmap S.kmap, .dead, .dead, .glob 0 S.tabV, .glob 1 [.int .i64 m]]).get 3 = .glob 0 S.tabV := by kernel_rfl
theorem kn_g4 (m : Int) (seen : List Nat) : (Heap.of (S.kos m seen)).get 4 = .glob 1 [.int .i64 m] := by kernel_rfl
theorem kn_h4 (m : Int) (seen : List Nat) (b : Nat) : (Heap.of (S.kos1 m seen b)).get 4 = .glob 1 [.int .i64 m] := by kernel_rfl
theorem kn_p4 (m : Int) (seen : List Nat) (b : Nat) : ((Heap.of (S.kos m seen)).put 1 (.miter 2 (4, seen ++ [b], 4))).get 4 = .glob 1 [.int .i64 m] := by kernel_rfl
theorem kn_e4 (m : Int) : (Heap.of [.fmap S.kmap, .dead, .dead, .glob 0 S.tabV, .glob 1 [.int .i64 m]]).get 4 = .glob 1 [.int .i64 m] := by kernel_rfl
theorem kn_gn (m : Int) (seen : List Nat) : (Heap.of (S.kos m seen)).n = 5 := by kernel_rfl
theorem kn_hn (m : Int) (seen : List Nat) (b : Nat) : (Heap.of (S.kos1 m seen b)).n = 5 := by kernel_rfl
theorem kn_en (m : Int) : (Heap.of [.fmap S.kmap, .dead, .dead, .glob 0 S.tabV, .glob 1 [.int .i64 m]]).n = 5 := by kernel_rfl
theorem kn_pn (m : Int) (seen : List Nat) (b : Nat) : ((Heap.of (S.kos m seen)).put 1 (.miter 2 (4, seen ++ [b], 4))).n = 5 := by kernel_rfl
theorem kn_lok (m : Int) : ∀ (n : Nat) (seen : List Nat), S.kJ seen → 4 ≤ seen.length + n →
  GT Tryd.prog (fun k => .code S.kc :: .inLoop S.kc :: k) (Fr.ofL 34 28 S.kL [] none) (Heap.of (S.kos m seen)) (.exit 0) (Fr.ofL 34 28 kzs [] none) (Heap.of [.fmap S.kmap, .dead, .dead, .glob 0 S.tabV, .glob 1 [.int .i64 m]]) := by
 have hkc := S.kc_eq
 have main : ∀ (n : Nat), (∀ n', n' < n → ∀ seen, S.kJ seen → 4 ≤ seen.length + n' → GT Tryd.prog (fun k => .code S.kc :: .inLoop S.kc :: k) (Fr.ofL 34 28 S.kL [] none) (Heap.of (S.kos m seen)) (.exit 0) (Fr.ofL 34 28 kzs [] none) (Heap.of [.fmap S.kmap, .dead, .dead, .glob 0 S.tabV, .glob 1 [.int .i64 m]])) →
   ∀ seen, S.kJ seen → 4 ≤ seen.length + n → GT Tryd.prog (fun k => .code S.kc :: .inLoop S.kc :: k) (Fr.ofL 34 28 S.kL [] none) (Heap.of (S.kos m seen)) (.exit 0) (Fr.ofL 34 28 kzs [] none) (Heap.of [.fmap S.kmap, .dead, .dead, .glob 0 S.tabV, .glob 1 [.int .i64 m]]) := by
  intro n ih seen hJ hl ρ w b tmps ds k cs hs hf
  have h2 : 2 ≤ (Heap.of (S.kos m seen)).n := by rw [of_n]; show 2 ≤ 5; decide
  have hst : ∀ k', Steps Tryd.prog (lone (frameAt b tmps ds (.code S.kc :: k')) cs w) (lone (frameAt b tmps ds (.code (.region (S.idOf (S.fstC S.kc)) #[S.o0, S.o1] false) :: .code S.kx :: k')) cs w) := fun k' => by
   rw [hkc]
   exact .one st_seq
  rcases next_region (P := Tryd.prog) (id := S.idOf (S.fstC S.kc)) (ops := #[S.o0, S.o1]) rfl S.o0_op S.o0_d S.o0_g S.o1_op S.o1_d S.o1_g (f := Fr.ofL 34 28 S.kL [] none) (H := Heap.of (S.kos m seen)) (i := 1) (m := 2) (since := 4) (c0 := 4) (clock := 4) (seen := seen) (es := S.src)
    rfl (by rw [of_n]; show 1 < 5; decide) (kn_g1 m seen) (by rw [of_n]; show 2 < 5; decide) (kn_g2 m seen) (fun e he => by
     have := (Bool.and_eq_true _ _ ▸ List.all_eq_true.1 S.ways_src e he).2
     exact Nat.le_of_ble_eq_true this) (Nat.le_refl 4) (by show 11 < 28; decide) (by show 12 < 28; decide) (.code S.kx :: .inLoop S.kc :: k) cs hs hf with ⟨hall, tmps', hf', hsteps⟩ | ⟨e, he, hb, w', tmps', hm, hf', hsteps⟩
  ·obtain ⟨ρ1, w1, tmps1, ds1, h3, h4, _, h6⟩ := kn2_get m seen ρ w b tmps' ds (.inLoop S.kc :: k) cs hs (kn_fr h2 hf')
   refine ⟨ρ1, w1, tmps1, ds1, ?_, ?_, trivial, ?_⟩
   ·have hg0 := h3.sat.obj 0 (by rw [kn_gn]; decide)
    have hg3 := h3.sat.obj 3 (by rw [kn_gn]; decide)
    have hg4 := h3.sat.obj 4 (by rw [kn_gn]; decide)
    rw [kn_g4] at hg4
    rw [kn_g0] at hg0
    rw [kn_g3] at hg3
    refine h3.weak (by rw [kn_en, kn_gn]) ?_ ?_ ?_ ?_
    all_goals
     intro i hi
     rw [kn_en] at hi
     match i, hi with
     | 0, _ => first | (rw [kn_e0]; trivial) | (rw [kn_e0]; exact fmap_of (S.kJ_end hJ hall) hg0) | (rw [kn_e0, kn_g0]; exact fun _ => rfl)
     | 1, _ => first | (rw [kn_e1]; trivial) | (rw [kn_e1]; exact fun h => by cases h)
     | 2, _ => first | (rw [kn_e2]; trivial) | (rw [kn_e2]; exact fun h => by cases h)
     | 3, _ => first | (rw [kn_e3]; trivial) | (rw [kn_e3]; exact hg3) | (rw [kn_e3, kn_g3]; exact fun h => h)
     | 4, _ => first | (rw [kn_e4]; trivial) | (rw [kn_e4]; exact hg4) | (rw [kn_e4, kn_g4]; exact fun h => h)
   ·exact h4
   ·exact (h6.under (by simp) fun _ _ => by rfl).of_steps ((hst _).trans hsteps)
  ·have hway := S.kJ_way hJ he hb
   have hlen := S.kJ_len hway
   have hm' : Moved ρ (Heap.of (S.kos m seen)) w ρ (Heap.of (S.kos1 m seen e.born)) w' := by
    refine hm.weak (by rw [kn_hn, kn_pn]) ?_ ?_ ?_ ?_
    all_goals
     intro i hi
     rw [kn_hn] at hi
     have h1 := hm.sat.wf i (by rw [kn_pn]; exact hi)
     have h2 := hm.sat.obj i (by rw [kn_pn]; exact hi)
     rw [kn_pn] at h1
     match i, hi with
     | 0, _ => rw [kn_p0] at h1 h2; first | (rw [kn_hn, kn_h0]; exact h1) | (rw [kn_h0]; exact h2) | (rw [kn_h0, kn_p0]; exact fun h => h)
     | 1, _ => rw [kn_p1] at h1 h2; first | (rw [kn_hn, kn_h1]; exact h1) | (rw [kn_h1]; exact h2) | (rw [kn_h1, kn_p1]; exact fun h => h)
     | 2, _ => rw [kn_p2] at h1 h2; first | (rw [kn_hn, kn_h2]; exact h1) | (rw [kn_h2]; exact h2) | (rw [kn_h2, kn_p2]; exact fun h => h)
     | 3, _ => rw [kn_p3] at h1 h2; first | (rw [kn_hn, kn_h3]; exact h1) | (rw [kn_h3]; exact h2) | (rw [kn_h3, kn_p3]; exact fun h => h)
     | 4, _ => rw [kn_p4] at h1 h2; first | (rw [kn_hn, kn_h4]; exact h1) | (rw [kn_h4]; exact h2) | (rw [kn_h4, kn_p4]; exact fun h => h)
   obtain ⟨ρ1, w1, tmps1, ds1, h3, h4, _, h6⟩ := kn1_get hway ρ w' b tmps' ds (.inLoop S.kc :: k) cs hm'.sat (kn_fr h2 hf')
   have hl2 : (seen ++ [e.born]).length = seen.length + 1 := by simp
   obtain ⟨ρ2, w2, tmps2, ds2, h7, h8, h9, h10⟩ := ih (n - 1) (by omega) (seen ++ [e.born]) (.inr ⟨_, hway, rfl⟩) (by omega) ρ1 w1 b tmps1 ds1 k cs h3.sat h4
   exact ⟨ρ2, w2, tmps2, ds2, (hm'.trans h3).trans h7, h8, h9, h10.of_steps ((hst _).trans (hsteps.trans (Steps.trans h6 (.one st_inLoop))))⟩
 intro n
 induction n using Nat.strongRecOn with
 | _ n ih => exact main n fun n' hn => ih n' hn
theorem kn_blk (m : Int) : K.BOk Tryd.prog 34 28 (blkOf 34 0) [1, 10] [.map 0, .ptr 1 0] (S.kos m []) ⟨.normal, [(1, .map 0)], [(0, .fmap S.kmap), (1, .dead), (2, .dead)], []⟩ := by
 have hb : blkOf 34 0 = .block 0 (.loop S.kc) := by kernel_rfl
 unfold K.BOk
 rw [hb]
 exact K.CT.block (K.GT.loop (kn_lok m 4 [] (.inl rfl) (Nat.le_refl 4)))
theorem kn_run (m : Int) : K.bodyF (envB [(48, fldE)] (fun g id => bc (Nat.beq g 34) (bc (Nat.beq id 0) (some knB) (none)) (none))) (K.runF (envB [(48, fldE)] (fun g id => bc (Nat.beq g 34) (bc (Nat.beq id 0) (some knB) (none)) (none))) 30) 34 [] (Heap.of [.glob 0 S.tabV, .glob 1 [.int .i64 m]]) Hint.auto (K.endC K.openE 2 ⟨.ret (.map 2), [], [.fmap S.kmap]⟩) =
  (K.BOk Tryd.prog 34 28 (blkOf 34 0) [1, 10] [.map 0, .ptr 1 0] (S.kos m []) ⟨.normal, [(1, .map 0)], [(0, .fmap S.kmap), (1, .dead), (2, .dead)], []⟩ ∧ S.kmap = S.kmap ∧ True) := by kernel_rfl
theorem kn_con (m : Int) : HT Tryd.prog 34 [] (Heap.of [.glob 0 S.tabV, .glob 1 [.int .i64 m]]) (.ret (.map 2)) (Heap.of [.glob 0 S.tabV, .glob 1 [.int .i64 m], .fmap S.kmap]) := by
 refine K.con_of_run good (A := envB [(48, fldE)] (fun g id => bc (Nat.beq g 34) (bc (Nat.beq id 0) (some knB) (none)) (none))) (envB_ok ?_) K.openE_ok (k := 30) (r := ⟨.ret (.map 2), [], [.fmap S.kmap]⟩) (cast (kn_run m).symm ?_)
 ·intro p hp; simp only [List.mem_cons, List.not_mem_nil, or_false] at hp; subst hp; exact fld_ok
 ·exact ⟨kn_blk m, rfl, trivial⟩
theorem knd_k (g : Nat) (cs : List LV) (g1 : Nat) (m : Int) (h : S.okG g cs g1 = true) : HT Tryd.prog 34 [] (Heap.of [.glob g cs, .glob g1 [.int .i64 m]]) (.ret (.map 2)) (Heap.of ([.glob g cs, .glob g1 [.int .i64 m]] ++ [.fmap S.kmap])) := by
 obtain ⟨e1, e2, e3⟩ := S.okG_ok h
 subst e1; subst e2; subst e3
 exact kn_con m
theorem knd_ok : kndE.ok Tryd.prog 34 := by
 intro xs os b r h h3
 unfold kndE at h
 simp only at h
 split at h
 ·injection h with h; injection h with h1 h2; subst h1; subst h2
  exact knd_k _ _ _ _ h3
 ·cases h
end Go.Proofs.YtlgfojaalmelhaaDoor.Ev
