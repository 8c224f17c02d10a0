/- The law TextMore returns true: more entries reach no fewer bytes; its conditions: none. -/
import Derived.Test.YtlgfojaalmelhaaDoorRows
import Derived.Test.YtlgfojaalmelhaaDoorTie
import Derived.Test.YtlgfojaalmelhaaDoorCards
import Derived.Test.YtlgfojaalmelhaaDoorTmrP
import Derived.Test.YtlgfojaalmelhaaDoorGlb
import Derived.SevenTiedAt
import Derived.Lib.SmallJoins
namespace Go.Proofs.YtlgfojaalmelhaaDoor
open Go.ChangeShapes Go.ChangeAt Go.RowKit Go.Joins Go.WideShapes Go.Deep
theorem Tryd.own : ownKnob Tryd.prog.godebug = none := by kernel_rfl
theorem Tryd.laidOut : laidOutB Tryd.prog = true := by kernel_rfl
theorem cells_1 : Tryd.prog.cellsOf 5 = 1 := by kernel_rfl
theorem open_0 {H : Type} {enc : TypeId × Value → H} {w : World} {spare : Nat → Bool} {held : Bool} (n : Nat) (cs : List Value) (x : DataW H × List MemPlace) (h : DataW.trod enc Tryd.prog w 0 spare held n 5 cs = some x) : ∃ a : Int, (0 ≤ a ∧ a ≤ 255) ∧ cs = Ev.decs (fun _ => Ev.rb0) (Ev.flatF Ev.S.byK (Ev.S.byV a)) := by
 obtain ⟨k, rfl, _, wk⟩ := DataW.trod_int Tryd.underlying5 h
 simp [Lit.wf, IntKind.min, IntKind.max, IntKind.signed, IntKind.bits] at wk
 exact ⟨k, by omega, rfl⟩
theorem cells_2 : Tryd.prog.cellsOf 22 = 1 := by kernel_rfl
theorem open_1 {H : Type} {enc : TypeId × Value → H} {w : World} {spare : Nat → Bool} {held : Bool} (n : Nat) (cs : List Value) (x : DataW H × List MemPlace) (h : DataW.trod enc Tryd.prog w 0 spare held n 22 cs = some x) : ∃ a : Int, (0 ≤ a ∧ a ≤ 65535) ∧ cs = Ev.decs (fun _ => Ev.rb0) (Ev.flatF Ev.S.wdK (Ev.S.wdV a)) := by
 obtain ⟨k, rfl, _, wk⟩ := DataW.trod_int Tryd.underlying22 h
 simp [Lit.wf, IntKind.min, IntKind.max, IntKind.signed, IntKind.bits] at wk
 exact ⟨k, by omega, rfl⟩

theorem textMore_callsNN (W : World) (gm : Int) (gz0 : 0 < W.heap.size) (gz1 : 1 < W.heap.size) (gT : ∀ j v, Ev.S.tabV[j]? = some v → W.cell? ⟨0, j, none⟩ = some (Ev.dec (fun _ => Ev.rbz) v)) (gM : ∀ j v, [Ev.LV.int .i64 gm][j]? = some v → W.cell? ⟨1, j, none⟩ = some (Ev.dec (fun _ => Ev.rbz) v)) (x0 : Int) (hl0 : 0 ≤ x0) (hu0 : x0 ≤ 65535) : Calls Tryd.prog 9 #[.int .u16 x0, .slice none 0 0, .slice none 0 0] W fun e W' => e = .returned (.bool true) ∧ Below W.heap.size W W' :=
 Ev.calls_true (ρ := Ev.rhoOf [⟨⟨0, 0, 0, default, 0⟩, .glob 0 Ev.S.tabV⟩, ⟨⟨1, 0, 0, default, 0⟩, .glob 1 [.int .i64 gm]⟩]) (Ev.tm_FNN x0 hl0 hu0 gm) (Ev.Sat.args2 (w := W) (rs := [⟨⟨0, 0, 0, default, 0⟩, .glob 0 Ev.S.tabV⟩, ⟨⟨1, 0, 0, default, 0⟩, .glob 1 [.int .i64 gm]⟩]) (fun r hr => by
  simp only [List.mem_cons, List.not_mem_nil, or_false] at hr
  rcases hr with rfl | rfl
  ·exact .inr ⟨_, _, rfl, rfl, rfl, gz0, gT⟩
  ·exact .inr ⟨_, _, rfl, rfl, rfl, gz1, gM⟩
  )).1 ⟨trivial, trivial, trivial, trivial⟩ (Ev.Sat.args2 (w := W) (rs := [⟨⟨0, 0, 0, default, 0⟩, .glob 0 Ev.S.tabV⟩, ⟨⟨1, 0, 0, default, 0⟩, .glob 1 [.int .i64 gm]⟩]) (fun r hr => by
  simp only [List.mem_cons, List.not_mem_nil, or_false] at hr
  rcases hr with rfl | rfl
  ·exact .inr ⟨_, _, rfl, rfl, rfl, gz0, gT⟩
  ·exact .inr ⟨_, _, rfl, rfl, rfl, gz1, gM⟩
  )).2

theorem textMore_callsNE (W : World) (gm : Int) (gz0 : 0 < W.heap.size) (gz1 : 1 < W.heap.size) (gT : ∀ j v, Ev.S.tabV[j]? = some v → W.cell? ⟨0, j, none⟩ = some (Ev.dec (fun _ => Ev.rbz) v)) (gM : ∀ j v, [Ev.LV.int .i64 gm][j]? = some v → W.cell? ⟨1, j, none⟩ = some (Ev.dec (fun _ => Ev.rbz) v)) (x0 : Int) (hl0 : 0 ≤ x0) (hu0 : x0 ≤ 65535) (a2 : Addr) (cap2 : Nat) : Calls Tryd.prog 9 #[.int .u16 x0, .slice none 0 0, .slice (some a2) 0 cap2] W fun e W' => e = .returned (.bool true) ∧ Below W.heap.size W W' :=
 Ev.calls_true (ρ := Ev.rhoOf [⟨⟨0, 0, 0, a2, cap2⟩, .empty⟩, ⟨⟨0, 0, 0, default, 0⟩, .glob 0 Ev.S.tabV⟩, ⟨⟨1, 0, 0, default, 0⟩, .glob 1 [.int .i64 gm]⟩]) (Ev.tm_FNE x0 hl0 hu0 gm) (Ev.Sat.args2 (w := W) (rs := [⟨⟨0, 0, 0, a2, cap2⟩, .empty⟩, ⟨⟨0, 0, 0, default, 0⟩, .glob 0 Ev.S.tabV⟩, ⟨⟨1, 0, 0, default, 0⟩, .glob 1 [.int .i64 gm]⟩]) (fun r hr => by
  simp only [List.mem_cons, List.not_mem_nil, or_false] at hr
  rcases hr with rfl | rfl | rfl
  ·exact .inl (.inl rfl)
  ·exact .inr ⟨_, _, rfl, rfl, rfl, gz0, gT⟩
  ·exact .inr ⟨_, _, rfl, rfl, rfl, gz1, gM⟩
  )).1 ⟨trivial, trivial, (by show 0 < 3; decide), trivial⟩ (Ev.Sat.args2 (w := W) (rs := [⟨⟨0, 0, 0, a2, cap2⟩, .empty⟩, ⟨⟨0, 0, 0, default, 0⟩, .glob 0 Ev.S.tabV⟩, ⟨⟨1, 0, 0, default, 0⟩, .glob 1 [.int .i64 gm]⟩]) (fun r hr => by
  simp only [List.mem_cons, List.not_mem_nil, or_false] at hr
  rcases hr with rfl | rfl | rfl
  ·exact .inl (.inl rfl)
  ·exact .inr ⟨_, _, rfl, rfl, rfl, gz0, gT⟩
  ·exact .inr ⟨_, _, rfl, rfl, rfl, gz1, gM⟩
  )).2

theorem textMore_callsNS (W : World) (gm : Int) (gz0 : 0 < W.heap.size) (gz1 : 1 < W.heap.size) (gT : ∀ j v, Ev.S.tabV[j]? = some v → W.cell? ⟨0, j, none⟩ = some (Ev.dec (fun _ => Ev.rbz) v)) (gM : ∀ j v, [Ev.LV.int .i64 gm][j]? = some v → W.cell? ⟨1, j, none⟩ = some (Ev.dec (fun _ => Ev.rbz) v)) (x0 : Int) (hl0 : 0 ≤ x0) (hu0 : x0 ≤ 65535) (blk2 off2 cap2 : Nat) (l2 : List Int) (hz2 : 0 < l2.length) (hq2 : l2.length ≤ cap2) (hg2 : ∀ a, a ∈ l2 → 0 ≤ a ∧ a ≤ 65535) (hb2 : blk2 < W.heap.size) (hc2 : ∀ j x, (Ev.flatF Ev.S.wdK (l2.flatMap Ev.S.wdV))[j]? = some x → W.cell? ⟨blk2, off2 + j, none⟩ = some (Ev.dec (fun _ => Ev.rb0) x)) : Calls Tryd.prog 9 #[.int .u16 x0, .slice none 0 0, .slice (some ⟨blk2, off2, none⟩) l2.length cap2] W fun e W' => e = .returned (.bool true) ∧ Below W.heap.size W W' :=
 Ev.calls_true (ρ := Ev.rhoOf [⟨⟨blk2, off2, cap2, default, 0⟩, .flat Ev.S.wdK 22 .ro (l2.flatMap Ev.S.wdV)⟩, ⟨⟨0, 0, 0, default, 0⟩, .glob 0 Ev.S.tabV⟩, ⟨⟨1, 0, 0, default, 0⟩, .glob 1 [.int .i64 gm]⟩]) (Ev.tm_FNS x0 hl0 hu0 l2 cap2 22 hz2 hq2 hg2 gm) (Ev.Sat.args2 (w := W) (rs := [⟨⟨blk2, off2, cap2, default, 0⟩, .flat Ev.S.wdK 22 .ro (l2.flatMap Ev.S.wdV)⟩, ⟨⟨0, 0, 0, default, 0⟩, .glob 0 Ev.S.tabV⟩, ⟨⟨1, 0, 0, default, 0⟩, .glob 1 [.int .i64 gm]⟩]) (fun r hr => by
  simp only [List.mem_cons, List.not_mem_nil, or_false] at hr
  rcases hr with rfl | rfl | rfl
  ·exact .inl (.inr ⟨_, _, _, rfl, hb2, hc2⟩)
  ·exact .inr ⟨_, _, rfl, rfl, rfl, gz0, gT⟩
  ·exact .inr ⟨_, _, rfl, rfl, rfl, gz1, gM⟩
  )).1 ⟨trivial, trivial, (by show 0 < 3; decide), trivial⟩ (Ev.Sat.args2 (w := W) (rs := [⟨⟨blk2, off2, cap2, default, 0⟩, .flat Ev.S.wdK 22 .ro (l2.flatMap Ev.S.wdV)⟩, ⟨⟨0, 0, 0, default, 0⟩, .glob 0 Ev.S.tabV⟩, ⟨⟨1, 0, 0, default, 0⟩, .glob 1 [.int .i64 gm]⟩]) (fun r hr => by
  simp only [List.mem_cons, List.not_mem_nil, or_false] at hr
  rcases hr with rfl | rfl | rfl
  ·exact .inl (.inr ⟨_, _, _, rfl, hb2, hc2⟩)
  ·exact .inr ⟨_, _, rfl, rfl, rfl, gz0, gT⟩
  ·exact .inr ⟨_, _, rfl, rfl, rfl, gz1, gM⟩
  )).2

theorem textMore_callsEN (W : World) (gm : Int) (gz0 : 0 < W.heap.size) (gz1 : 1 < W.heap.size) (gT : ∀ j v, Ev.S.tabV[j]? = some v → W.cell? ⟨0, j, none⟩ = some (Ev.dec (fun _ => Ev.rbz) v)) (gM : ∀ j v, [Ev.LV.int .i64 gm][j]? = some v → W.cell? ⟨1, j, none⟩ = some (Ev.dec (fun _ => Ev.rbz) v)) (x0 : Int) (hl0 : 0 ≤ x0) (hu0 : x0 ≤ 65535) (a1 : Addr) (cap1 : Nat) : Calls Tryd.prog 9 #[.int .u16 x0, .slice (some a1) 0 cap1, .slice none 0 0] W fun e W' => e = .returned (.bool true) ∧ Below W.heap.size W W' :=
 Ev.calls_true (ρ := Ev.rhoOf [⟨⟨0, 0, 0, a1, cap1⟩, .empty⟩, ⟨⟨0, 0, 0, default, 0⟩, .glob 0 Ev.S.tabV⟩, ⟨⟨1, 0, 0, default, 0⟩, .glob 1 [.int .i64 gm]⟩]) (Ev.tm_FEN x0 hl0 hu0 gm) (Ev.Sat.args2 (w := W) (rs := [⟨⟨0, 0, 0, a1, cap1⟩, .empty⟩, ⟨⟨0, 0, 0, default, 0⟩, .glob 0 Ev.S.tabV⟩, ⟨⟨1, 0, 0, default, 0⟩, .glob 1 [.int .i64 gm]⟩]) (fun r hr => by
  simp only [List.mem_cons, List.not_mem_nil, or_false] at hr
  rcases hr with rfl | rfl | rfl
  ·exact .inl (.inl rfl)
  ·exact .inr ⟨_, _, rfl, rfl, rfl, gz0, gT⟩
  ·exact .inr ⟨_, _, rfl, rfl, rfl, gz1, gM⟩
  )).1 ⟨trivial, (by show 0 < 3; decide), trivial, trivial⟩ (Ev.Sat.args2 (w := W) (rs := [⟨⟨0, 0, 0, a1, cap1⟩, .empty⟩, ⟨⟨0, 0, 0, default, 0⟩, .glob 0 Ev.S.tabV⟩, ⟨⟨1, 0, 0, default, 0⟩, .glob 1 [.int .i64 gm]⟩]) (fun r hr => by
  simp only [List.mem_cons, List.not_mem_nil, or_false] at hr
  rcases hr with rfl | rfl | rfl
  ·exact .inl (.inl rfl)
  ·exact .inr ⟨_, _, rfl, rfl, rfl, gz0, gT⟩
  ·exact .inr ⟨_, _, rfl, rfl, rfl, gz1, gM⟩
  )).2

theorem textMore_callsEE (W : World) (gm : Int) (gz0 : 0 < W.heap.size) (gz1 : 1 < W.heap.size) (gT : ∀ j v, Ev.S.tabV[j]? = some v → W.cell? ⟨0, j, none⟩ = some (Ev.dec (fun _ => Ev.rbz) v)) (gM : ∀ j v, [Ev.LV.int .i64 gm][j]? = some v → W.cell? ⟨1, j, none⟩ = some (Ev.dec (fun _ => Ev.rbz) v)) (x0 : Int) (hl0 : 0 ≤ x0) (hu0 : x0 ≤ 65535) (a1 : Addr) (cap1 : Nat) (a2 : Addr) (cap2 : Nat) : Calls Tryd.prog 9 #[.int .u16 x0, .slice (some a1) 0 cap1, .slice (some a2) 0 cap2] W fun e W' => e = .returned (.bool true) ∧ Below W.heap.size W W' :=
 Ev.calls_true (ρ := Ev.rhoOf [⟨⟨0, 0, 0, a1, cap1⟩, .empty⟩, ⟨⟨0, 0, 0, a2, cap2⟩, .empty⟩, ⟨⟨0, 0, 0, default, 0⟩, .glob 0 Ev.S.tabV⟩, ⟨⟨1, 0, 0, default, 0⟩, .glob 1 [.int .i64 gm]⟩]) (Ev.tm_FEE x0 hl0 hu0 gm) (Ev.Sat.args2 (w := W) (rs := [⟨⟨0, 0, 0, a1, cap1⟩, .empty⟩, ⟨⟨0, 0, 0, a2, cap2⟩, .empty⟩, ⟨⟨0, 0, 0, default, 0⟩, .glob 0 Ev.S.tabV⟩, ⟨⟨1, 0, 0, default, 0⟩, .glob 1 [.int .i64 gm]⟩]) (fun r hr => by
  simp only [List.mem_cons, List.not_mem_nil, or_false] at hr
  rcases hr with rfl | rfl | rfl | rfl
  ·exact .inl (.inl rfl)
  ·exact .inl (.inl rfl)
  ·exact .inr ⟨_, _, rfl, rfl, rfl, gz0, gT⟩
  ·exact .inr ⟨_, _, rfl, rfl, rfl, gz1, gM⟩
  )).1 ⟨trivial, (by show 0 < 4; decide), (by show 1 < 4; decide), trivial⟩ (Ev.Sat.args2 (w := W) (rs := [⟨⟨0, 0, 0, a1, cap1⟩, .empty⟩, ⟨⟨0, 0, 0, a2, cap2⟩, .empty⟩, ⟨⟨0, 0, 0, default, 0⟩, .glob 0 Ev.S.tabV⟩, ⟨⟨1, 0, 0, default, 0⟩, .glob 1 [.int .i64 gm]⟩]) (fun r hr => by
  simp only [List.mem_cons, List.not_mem_nil, or_false] at hr
  rcases hr with rfl | rfl | rfl | rfl
  ·exact .inl (.inl rfl)
  ·exact .inl (.inl rfl)
  ·exact .inr ⟨_, _, rfl, rfl, rfl, gz0, gT⟩
  ·exact .inr ⟨_, _, rfl, rfl, rfl, gz1, gM⟩
  )).2

theorem textMore_callsES (W : World) (gm : Int) (gz0 : 0 < W.heap.size) (gz1 : 1 < W.heap.size) (gT : ∀ j v, Ev.S.tabV[j]? = some v → W.cell? ⟨0, j, none⟩ = some (Ev.dec (fun _ => Ev.rbz) v)) (gM : ∀ j v, [Ev.LV.int .i64 gm][j]? = some v → W.cell? ⟨1, j, none⟩ = some (Ev.dec (fun _ => Ev.rbz) v)) (x0 : Int) (hl0 : 0 ≤ x0) (hu0 : x0 ≤ 65535) (a1 : Addr) (cap1 : Nat) (blk2 off2 cap2 : Nat) (l2 : List Int) (hz2 : 0 < l2.length) (hq2 : l2.length ≤ cap2) (hg2 : ∀ a, a ∈ l2 → 0 ≤ a ∧ a ≤ 65535) (hb2 : blk2 < W.heap.size) (hc2 : ∀ j x, (Ev.flatF Ev.S.wdK (l2.flatMap Ev.S.wdV))[j]? = some x → W.cell? ⟨blk2, off2 + j, none⟩ = some (Ev.dec (fun _ => Ev.rb0) x)) : Calls Tryd.prog 9 #[.int .u16 x0, .slice (some a1) 0 cap1, .slice (some ⟨blk2, off2, none⟩) l2.length cap2] W fun e W' => e = .returned (.bool true) ∧ Below W.heap.size W W' :=
 Ev.calls_true (ρ := Ev.rhoOf [⟨⟨0, 0, 0, a1, cap1⟩, .empty⟩, ⟨⟨blk2, off2, cap2, default, 0⟩, .flat Ev.S.wdK 22 .ro (l2.flatMap Ev.S.wdV)⟩, ⟨⟨0, 0, 0, default, 0⟩, .glob 0 Ev.S.tabV⟩, ⟨⟨1, 0, 0, default, 0⟩, .glob 1 [.int .i64 gm]⟩]) (Ev.tm_FES x0 hl0 hu0 l2 cap2 22 hz2 hq2 hg2 gm) (Ev.Sat.args2 (w := W) (rs := [⟨⟨0, 0, 0, a1, cap1⟩, .empty⟩, ⟨⟨blk2, off2, cap2, default, 0⟩, .flat Ev.S.wdK 22 .ro (l2.flatMap Ev.S.wdV)⟩, ⟨⟨0, 0, 0, default, 0⟩, .glob 0 Ev.S.tabV⟩, ⟨⟨1, 0, 0, default, 0⟩, .glob 1 [.int .i64 gm]⟩]) (fun r hr => by
  simp only [List.mem_cons, List.not_mem_nil, or_false] at hr
  rcases hr with rfl | rfl | rfl | rfl
  ·exact .inl (.inl rfl)
  ·exact .inl (.inr ⟨_, _, _, rfl, hb2, hc2⟩)
  ·exact .inr ⟨_, _, rfl, rfl, rfl, gz0, gT⟩
  ·exact .inr ⟨_, _, rfl, rfl, rfl, gz1, gM⟩
  )).1 ⟨trivial, (by show 0 < 4; decide), (by show 1 < 4; decide), trivial⟩ (Ev.Sat.args2 (w := W) (rs := [⟨⟨0, 0, 0, a1, cap1⟩, .empty⟩, ⟨⟨blk2, off2, cap2, default, 0⟩, .flat Ev.S.wdK 22 .ro (l2.flatMap Ev.S.wdV)⟩, ⟨⟨0, 0, 0, default, 0⟩, .glob 0 Ev.S.tabV⟩, ⟨⟨1, 0, 0, default, 0⟩, .glob 1 [.int .i64 gm]⟩]) (fun r hr => by
  simp only [List.mem_cons, List.not_mem_nil, or_false] at hr
  rcases hr with rfl | rfl | rfl | rfl
  ·exact .inl (.inl rfl)
  ·exact .inl (.inr ⟨_, _, _, rfl, hb2, hc2⟩)
  ·exact .inr ⟨_, _, rfl, rfl, rfl, gz0, gT⟩
  ·exact .inr ⟨_, _, rfl, rfl, rfl, gz1, gM⟩
  )).2

theorem textMore_callsSN (W : World) (gm : Int) (gz0 : 0 < W.heap.size) (gz1 : 1 < W.heap.size) (gT : ∀ j v, Ev.S.tabV[j]? = some v → W.cell? ⟨0, j, none⟩ = some (Ev.dec (fun _ => Ev.rbz) v)) (gM : ∀ j v, [Ev.LV.int .i64 gm][j]? = some v → W.cell? ⟨1, j, none⟩ = some (Ev.dec (fun _ => Ev.rbz) v)) (x0 : Int) (hl0 : 0 ≤ x0) (hu0 : x0 ≤ 65535) (blk1 off1 cap1 : Nat) (l1 : List Int) (hz1 : 0 < l1.length) (hq1 : l1.length ≤ cap1) (hg1 : ∀ a, a ∈ l1 → 0 ≤ a ∧ a ≤ 255) (hb1 : blk1 < W.heap.size) (hc1 : ∀ j x, (Ev.flatF Ev.S.byK (l1.flatMap Ev.S.byV))[j]? = some x → W.cell? ⟨blk1, off1 + j, none⟩ = some (Ev.dec (fun _ => Ev.rb0) x)) : Calls Tryd.prog 9 #[.int .u16 x0, .slice (some ⟨blk1, off1, none⟩) l1.length cap1, .slice none 0 0] W fun e W' => e = .returned (.bool true) ∧ Below W.heap.size W W' :=
 Ev.calls_true (ρ := Ev.rhoOf [⟨⟨blk1, off1, cap1, default, 0⟩, .flat Ev.S.byK 5 .ro (l1.flatMap Ev.S.byV)⟩, ⟨⟨0, 0, 0, default, 0⟩, .glob 0 Ev.S.tabV⟩, ⟨⟨1, 0, 0, default, 0⟩, .glob 1 [.int .i64 gm]⟩]) (Ev.tm_FSN x0 hl0 hu0 l1 cap1 5 hz1 hq1 hg1 gm) (Ev.Sat.args2 (w := W) (rs := [⟨⟨blk1, off1, cap1, default, 0⟩, .flat Ev.S.byK 5 .ro (l1.flatMap Ev.S.byV)⟩, ⟨⟨0, 0, 0, default, 0⟩, .glob 0 Ev.S.tabV⟩, ⟨⟨1, 0, 0, default, 0⟩, .glob 1 [.int .i64 gm]⟩]) (fun r hr => by
  simp only [List.mem_cons, List.not_mem_nil, or_false] at hr
  rcases hr with rfl | rfl | rfl
  ·exact .inl (.inr ⟨_, _, _, rfl, hb1, hc1⟩)
  ·exact .inr ⟨_, _, rfl, rfl, rfl, gz0, gT⟩
  ·exact .inr ⟨_, _, rfl, rfl, rfl, gz1, gM⟩
  )).1 ⟨trivial, (by show 0 < 3; decide), trivial, trivial⟩ (Ev.Sat.args2 (w := W) (rs := [⟨⟨blk1, off1, cap1, default, 0⟩, .flat Ev.S.byK 5 .ro (l1.flatMap Ev.S.byV)⟩, ⟨⟨0, 0, 0, default, 0⟩, .glob 0 Ev.S.tabV⟩, ⟨⟨1, 0, 0, default, 0⟩, .glob 1 [.int .i64 gm]⟩]) (fun r hr => by
  simp only [List.mem_cons, List.not_mem_nil, or_false] at hr
  rcases hr with rfl | rfl | rfl
  ·exact .inl (.inr ⟨_, _, _, rfl, hb1, hc1⟩)
  ·exact .inr ⟨_, _, rfl, rfl, rfl, gz0, gT⟩
  ·exact .inr ⟨_, _, rfl, rfl, rfl, gz1, gM⟩
  )).2

theorem textMore_callsSE (W : World) (gm : Int) (gz0 : 0 < W.heap.size) (gz1 : 1 < W.heap.size) (gT : ∀ j v, Ev.S.tabV[j]? = some v → W.cell? ⟨0, j, none⟩ = some (Ev.dec (fun _ => Ev.rbz) v)) (gM : ∀ j v, [Ev.LV.int .i64 gm][j]? = some v → W.cell? ⟨1, j, none⟩ = some (Ev.dec (fun _ => Ev.rbz) v)) (x0 : Int) (hl0 : 0 ≤ x0) (hu0 : x0 ≤ 65535) (blk1 off1 cap1 : Nat) (l1 : List Int) (hz1 : 0 < l1.length) (hq1 : l1.length ≤ cap1) (hg1 : ∀ a, a ∈ l1 → 0 ≤ a ∧ a ≤ 255) (hb1 : blk1 < W.heap.size) (hc1 : ∀ j x, (Ev.flatF Ev.S.byK (l1.flatMap Ev.S.byV))[j]? = some x → W.cell? ⟨blk1, off1 + j, none⟩ = some (Ev.dec (fun _ => Ev.rb0) x)) (a2 : Addr) (cap2 : Nat) : Calls Tryd.prog 9 #[.int .u16 x0, .slice (some ⟨blk1, off1, none⟩) l1.length cap1, .slice (some a2) 0 cap2] W fun e W' => e = .returned (.bool true) ∧ Below W.heap.size W W' :=
 Ev.calls_true (ρ := Ev.rhoOf [⟨⟨blk1, off1, cap1, default, 0⟩, .flat Ev.S.byK 5 .ro (l1.flatMap Ev.S.byV)⟩, ⟨⟨0, 0, 0, a2, cap2⟩, .empty⟩, ⟨⟨0, 0, 0, default, 0⟩, .glob 0 Ev.S.tabV⟩, ⟨⟨1, 0, 0, default, 0⟩, .glob 1 [.int .i64 gm]⟩]) (Ev.tm_FSE x0 hl0 hu0 l1 cap1 5 hz1 hq1 hg1 gm) (Ev.Sat.args2 (w := W) (rs := [⟨⟨blk1, off1, cap1, default, 0⟩, .flat Ev.S.byK 5 .ro (l1.flatMap Ev.S.byV)⟩, ⟨⟨0, 0, 0, a2, cap2⟩, .empty⟩, ⟨⟨0, 0, 0, default, 0⟩, .glob 0 Ev.S.tabV⟩, ⟨⟨1, 0, 0, default, 0⟩, .glob 1 [.int .i64 gm]⟩]) (fun r hr => by
  simp only [List.mem_cons, List.not_mem_nil, or_false] at hr
  rcases hr with rfl | rfl | rfl | rfl
  ·exact .inl (.inr ⟨_, _, _, rfl, hb1, hc1⟩)
  ·exact .inl (.inl rfl)
  ·exact .inr ⟨_, _, rfl, rfl, rfl, gz0, gT⟩
  ·exact .inr ⟨_, _, rfl, rfl, rfl, gz1, gM⟩
  )).1 ⟨trivial, (by show 0 < 4; decide), (by show 1 < 4; decide), trivial⟩ (Ev.Sat.args2 (w := W) (rs := [⟨⟨blk1, off1, cap1, default, 0⟩, .flat Ev.S.byK 5 .ro (l1.flatMap Ev.S.byV)⟩, ⟨⟨0, 0, 0, a2, cap2⟩, .empty⟩, ⟨⟨0, 0, 0, default, 0⟩, .glob 0 Ev.S.tabV⟩, ⟨⟨1, 0, 0, default, 0⟩, .glob 1 [.int .i64 gm]⟩]) (fun r hr => by
  simp only [List.mem_cons, List.not_mem_nil, or_false] at hr
  rcases hr with rfl | rfl | rfl | rfl
  ·exact .inl (.inr ⟨_, _, _, rfl, hb1, hc1⟩)
  ·exact .inl (.inl rfl)
  ·exact .inr ⟨_, _, rfl, rfl, rfl, gz0, gT⟩
  ·exact .inr ⟨_, _, rfl, rfl, rfl, gz1, gM⟩
  )).2

theorem textMore_callsSS (W : World) (gm : Int) (gz0 : 0 < W.heap.size) (gz1 : 1 < W.heap.size) (gT : ∀ j v, Ev.S.tabV[j]? = some v → W.cell? ⟨0, j, none⟩ = some (Ev.dec (fun _ => Ev.rbz) v)) (gM : ∀ j v, [Ev.LV.int .i64 gm][j]? = some v → W.cell? ⟨1, j, none⟩ = some (Ev.dec (fun _ => Ev.rbz) v)) (x0 : Int) (hl0 : 0 ≤ x0) (hu0 : x0 ≤ 65535) (blk1 off1 cap1 : Nat) (l1 : List Int) (hz1 : 0 < l1.length) (hq1 : l1.length ≤ cap1) (hg1 : ∀ a, a ∈ l1 → 0 ≤ a ∧ a ≤ 255) (hb1 : blk1 < W.heap.size) (hc1 : ∀ j x, (Ev.flatF Ev.S.byK (l1.flatMap Ev.S.byV))[j]? = some x → W.cell? ⟨blk1, off1 + j, none⟩ = some (Ev.dec (fun _ => Ev.rb0) x)) (blk2 off2 cap2 : Nat) (l2 : List Int) (hz2 : 0 < l2.length) (hq2 : l2.length ≤ cap2) (hg2 : ∀ a, a ∈ l2 → 0 ≤ a ∧ a ≤ 65535) (hb2 : blk2 < W.heap.size) (hc2 : ∀ j x, (Ev.flatF Ev.S.wdK (l2.flatMap Ev.S.wdV))[j]? = some x → W.cell? ⟨blk2, off2 + j, none⟩ = some (Ev.dec (fun _ => Ev.rb0) x)) : Calls Tryd.prog 9 #[.int .u16 x0, .slice (some ⟨blk1, off1, none⟩) l1.length cap1, .slice (some ⟨blk2, off2, none⟩) l2.length cap2] W fun e W' => e = .returned (.bool true) ∧ Below W.heap.size W W' :=
 Ev.calls_true (ρ := Ev.rhoOf [⟨⟨blk1, off1, cap1, default, 0⟩, .flat Ev.S.byK 5 .ro (l1.flatMap Ev.S.byV)⟩, ⟨⟨blk2, off2, cap2, default, 0⟩, .flat Ev.S.wdK 22 .ro (l2.flatMap Ev.S.wdV)⟩, ⟨⟨0, 0, 0, default, 0⟩, .glob 0 Ev.S.tabV⟩, ⟨⟨1, 0, 0, default, 0⟩, .glob 1 [.int .i64 gm]⟩]) (Ev.tm_FSS x0 hl0 hu0 l1 cap1 5 hz1 hq1 hg1 l2 cap2 22 hz2 hq2 hg2 gm) (Ev.Sat.args2 (w := W) (rs := [⟨⟨blk1, off1, cap1, default, 0⟩, .flat Ev.S.byK 5 .ro (l1.flatMap Ev.S.byV)⟩, ⟨⟨blk2, off2, cap2, default, 0⟩, .flat Ev.S.wdK 22 .ro (l2.flatMap Ev.S.wdV)⟩, ⟨⟨0, 0, 0, default, 0⟩, .glob 0 Ev.S.tabV⟩, ⟨⟨1, 0, 0, default, 0⟩, .glob 1 [.int .i64 gm]⟩]) (fun r hr => by
  simp only [List.mem_cons, List.not_mem_nil, or_false] at hr
  rcases hr with rfl | rfl | rfl | rfl
  ·exact .inl (.inr ⟨_, _, _, rfl, hb1, hc1⟩)
  ·exact .inl (.inr ⟨_, _, _, rfl, hb2, hc2⟩)
  ·exact .inr ⟨_, _, rfl, rfl, rfl, gz0, gT⟩
  ·exact .inr ⟨_, _, rfl, rfl, rfl, gz1, gM⟩
  )).1 ⟨trivial, (by show 0 < 4; decide), (by show 1 < 4; decide), trivial⟩ (Ev.Sat.args2 (w := W) (rs := [⟨⟨blk1, off1, cap1, default, 0⟩, .flat Ev.S.byK 5 .ro (l1.flatMap Ev.S.byV)⟩, ⟨⟨blk2, off2, cap2, default, 0⟩, .flat Ev.S.wdK 22 .ro (l2.flatMap Ev.S.wdV)⟩, ⟨⟨0, 0, 0, default, 0⟩, .glob 0 Ev.S.tabV⟩, ⟨⟨1, 0, 0, default, 0⟩, .glob 1 [.int .i64 gm]⟩]) (fun r hr => by
  simp only [List.mem_cons, List.not_mem_nil, or_false] at hr
  rcases hr with rfl | rfl | rfl | rfl
  ·exact .inl (.inr ⟨_, _, _, rfl, hb1, hc1⟩)
  ·exact .inl (.inr ⟨_, _, _, rfl, hb2, hc2⟩)
  ·exact .inr ⟨_, _, rfl, rfl, rfl, gz0, gT⟩
  ·exact .inr ⟨_, _, rfl, rfl, rfl, gz1, gM⟩
  )).2

theorem gtab {W : World} (h : laidMetH Tryd.prog Rows.textMoreRow.laid W) : ∀ j v, Ev.S.tabV[j]? = some v → W.cell? ⟨0, j, none⟩ = some (Ev.dec (fun _ => Ev.rbz) v) := by
 rw [MakeChecks.laidMetH_plain _ _ _ (by kernel_rfl)] at h
 obtain ⟨g, t, cs, fuel, p, hg, ht, hv, hd⟩ := Lib.laidMet.reads h (n := "strings.asciiSpace") (d := Rows.laid_strings_asciiSpace) (.tail _ (.head _))
 obtain rfl := Option.some.inj ((show Tryd.prog.globalNamed "strings.asciiSpace" = some 0 by kernel_rfl).symm.trans hg)
 obtain rfl := Option.some.inj ((show (Tryd.prog.globals[0]?).map (·.type) = some 98 by kernel_rfl).symm.trans ht)
 have hd' : DataW.trod (fun _ => ()) Tryd.prog W 0 (fun _ => true) false fuel 98 cs.toList = some (Lib.tabData .u8 Lib.asciiSpaceTab, p) := by
  rw [show (Lib.tabData .u8 Lib.asciiSpaceTab : DataW Unit) = Rows.laid_strings_asciiSpace from by kernel_rfl]; exact hd
 have hcs := Lib.cells_of_tab Tryd.underlying98 Tryd.underlying5 (by kernel_rfl) (by kernel_rfl) hd'
 intro j v hj
 have h2 := World.var?_cell hg hv j
 rw [h2]
 have : cs[j]? = cs.toList[j]? := by simp
 rw [this, hcs, List.getElem?_map]
 have hj : (Lib.asciiSpaceTab.map fun n => Ev.LV.int .u8 n)[j]? = some v := hj
 rw [List.getElem?_map] at hj
 cases ha : Lib.asciiSpaceTab[j]? with
 | none => rw [ha] at hj; cases hj
 | some a => rw [ha] at hj; injection hj with hj; subst hj; rfl
set_option maxRecDepth 100000 in
theorem textMore_lifted (os : Os) (started : os.Started) (H : Type) (enc : TypeId × Value → H) :
  ReturnsInHanded {} Tryd.checked os 9 .any (fun w args => (Rows.textMoreSpec.pre enc Tryd.prog Tryd.f9 Rows.textMoreRow.domain false w args ∧ laidMetH Tryd.prog Rows.textMoreRow.laid w) ∧ sizedMet enc Tryd.prog Tryd.f9 (OpenSpec.ofChange Rows.textMoreSpec) false w args) (Rows.textMoreSpec.post enc Tryd.prog Tryd.f9 false true false false) := by
 refine Ev.returns_and_shaped (C := Tryd.checked) (X := fun w _ => laidMetH Tryd.prog Rows.textMoreRow.laid w) (fun _ _ _ hh h => h.of_heap hh) Tryd.own started (by kernel_rfl) Tryd.func9
  (ChangeSpec.witness_shaped (enc := enc) (C := Tryd.checked) (os := os) (X := fun w _ => laidMetH Tryd.prog Rows.textMoreRow.laid w) false (World.laidAll Tryd.prog os Rows.textMoreRow.laid) #[.int .u16 0, .slice none 0 0, .slice none 0 0] 10 (World.laidAll_os _ _ _)
   (World.shaped_of_ZipB (by kernel_rfl) (by kernel_rfl)) (by kernel_rfl) (by kernel_rfl) (by kernel_rfl)
   (by rw [MakeChecks.laidMetH_plain _ _ _ (by kernel_rfl)]; exact laidMet_laidAll _ (by kernel_rfl) (by kernel_rfl))) ?_
 intro W base args ds gs before hval0 hW hcnd hsh hL
 have hval : ∀ (j : Nat) t v, Tryd.f9.params[j]? = some t → args[j]? = some v → Value.okWide Tryd.prog W .any base t v := hval0
 have hW' := hW
 obtain ⟨p, q, hA0, hV, rfl, hfz, hnd⟩ := hW
 have hA : DataW.TrodAll enc Tryd.prog W 0 (fun _ => true) true Tryd.f9.params.toList args.toList ds p := hA0
 rw [Tryd.params9] at hA hval
 obtain ⟨v0, v1, v2, d0, d1, d2, p0, p1, p2, rfl, rfl, rfl, h0, h1, h2⟩ := trodAll_three hA
 obtain ⟨rfl, rfl⟩ := trodVars_none hV
 have gT := gtab hL
 have gz0 : 0 < W.heap.size := Ev.cell_lt (gT 0 _ rfl)
 obtain ⟨gm, gM0⟩ := cell_of_shapedOpen_int (P := Tryd.prog) (g := 1) hsh (of_decide_eq_true (by kernel_rfl)) (t := 3) (zero := #[.int .i64 0]) (by kernel_rfl) rfl (by kernel_rfl) (by kernel_rfl) Tryd.underlying3
 have gz1 : 1 < W.heap.size := Ev.cell_lt gM0
 have gM : ∀ j v, [Ev.LV.int .i64 gm][j]? = some v → W.cell? ⟨1, j, none⟩ = some (Ev.dec (fun _ => Ev.rbz) v) := fun j v hj => by
  match j, hj with
  | 0, hj => injection hj with hj; subst hj; exact gM0
 obtain ⟨x0, rfl, rfl, rfl, w0⟩ := open_int Tryd.underlying22 (hval 0 22 v0 rfl rfl) h0
 simp [Lit.wf, IntKind.min, IntKind.max, IntKind.signed, IntKind.bits] at w0
 have s1 := Ev.open_rows (ks := Ev.S.byK) Ev.S.byV (fun a => 0 ≤ a ∧ a ≤ 255) Tryd.underlying27 cells_1 (fun _ => rfl) (by decide) open_0 (hval 1 27 v1 rfl rfl) h1
 have s2 := Ev.open_rows (ks := Ev.S.wdK) Ev.S.wdV (fun a => 0 ≤ a ∧ a ≤ 65535) Tryd.underlying43 cells_2 (fun _ => rfl) (by decide) open_1 (hval 2 43 v2 rfl rfl) h2
 rcases s1 with rfl | ⟨a1, cap1, rfl⟩ | ⟨blk1, off1, cap1, l1, hz1, hg1, hb1, hq1, _, rfl, hc1⟩
 ·rcases s2 with rfl | ⟨a2, cap2, rfl⟩ | ⟨blk2, off2, cap2, l2, hz2, hg2, hb2, hq2, _, rfl, hc2⟩
  ·refine (textMore_callsNN W gm gz0 gz1 gT gM x0 (by omega) (by omega)).mono fun e W' ⟨he, hb⟩ => ⟨_, he, ?_⟩
   exact Ev.post_true Tryd.laidOut (tb := 4) (by kernel_rfl) (by kernel_rfl) (of_decide_eq_true (by kernel_rfl)) hW' rfl rfl hb
  ·refine (textMore_callsNE W gm gz0 gz1 gT gM x0 (by omega) (by omega) a2 cap2).mono fun e W' ⟨he, hb⟩ => ⟨_, he, ?_⟩
   exact Ev.post_true Tryd.laidOut (tb := 4) (by kernel_rfl) (by kernel_rfl) (of_decide_eq_true (by kernel_rfl)) hW' rfl rfl hb
  ·refine (textMore_callsNS W gm gz0 gz1 gT gM x0 (by omega) (by omega) blk2 off2 cap2 l2 hz2 hq2 hg2 hb2 hc2).mono fun e W' ⟨he, hb⟩ => ⟨_, he, ?_⟩
   exact Ev.post_true Tryd.laidOut (tb := 4) (by kernel_rfl) (by kernel_rfl) (of_decide_eq_true (by kernel_rfl)) hW' rfl rfl hb
 ·rcases s2 with rfl | ⟨a2, cap2, rfl⟩ | ⟨blk2, off2, cap2, l2, hz2, hg2, hb2, hq2, _, rfl, hc2⟩
  ·refine (textMore_callsEN W gm gz0 gz1 gT gM x0 (by omega) (by omega) a1 cap1).mono fun e W' ⟨he, hb⟩ => ⟨_, he, ?_⟩
   exact Ev.post_true Tryd.laidOut (tb := 4) (by kernel_rfl) (by kernel_rfl) (of_decide_eq_true (by kernel_rfl)) hW' rfl rfl hb
  ·refine (textMore_callsEE W gm gz0 gz1 gT gM x0 (by omega) (by omega) a1 cap1 a2 cap2).mono fun e W' ⟨he, hb⟩ => ⟨_, he, ?_⟩
   exact Ev.post_true Tryd.laidOut (tb := 4) (by kernel_rfl) (by kernel_rfl) (of_decide_eq_true (by kernel_rfl)) hW' rfl rfl hb
  ·refine (textMore_callsES W gm gz0 gz1 gT gM x0 (by omega) (by omega) a1 cap1 blk2 off2 cap2 l2 hz2 hq2 hg2 hb2 hc2).mono fun e W' ⟨he, hb⟩ => ⟨_, he, ?_⟩
   exact Ev.post_true Tryd.laidOut (tb := 4) (by kernel_rfl) (by kernel_rfl) (of_decide_eq_true (by kernel_rfl)) hW' rfl rfl hb
 ·rcases s2 with rfl | ⟨a2, cap2, rfl⟩ | ⟨blk2, off2, cap2, l2, hz2, hg2, hb2, hq2, _, rfl, hc2⟩
  ·refine (textMore_callsSN W gm gz0 gz1 gT gM x0 (by omega) (by omega) blk1 off1 cap1 l1 hz1 hq1 hg1 hb1 hc1).mono fun e W' ⟨he, hb⟩ => ⟨_, he, ?_⟩
   exact Ev.post_true Tryd.laidOut (tb := 4) (by kernel_rfl) (by kernel_rfl) (of_decide_eq_true (by kernel_rfl)) hW' rfl rfl hb
  ·refine (textMore_callsSE W gm gz0 gz1 gT gM x0 (by omega) (by omega) blk1 off1 cap1 l1 hz1 hq1 hg1 hb1 hc1 a2 cap2).mono fun e W' ⟨he, hb⟩ => ⟨_, he, ?_⟩
   exact Ev.post_true Tryd.laidOut (tb := 4) (by kernel_rfl) (by kernel_rfl) (of_decide_eq_true (by kernel_rfl)) hW' rfl rfl hb
  ·refine (textMore_callsSS W gm gz0 gz1 gT gM x0 (by omega) (by omega) blk1 off1 cap1 l1 hz1 hq1 hg1 hb1 hc1 blk2 off2 cap2 l2 hz2 hq2 hg2 hb2 hc2).mono fun e W' ⟨he, hb⟩ => ⟨_, he, ?_⟩
   exact Ev.post_true Tryd.laidOut (tb := 4) (by kernel_rfl) (by kernel_rfl) (of_decide_eq_true (by kernel_rfl)) hW' rfl rfl hb

set_option maxRecDepth 100000 in
theorem textMore_row : Rows.TextMoreSaid :=
 OpenClaim.holds_of_wide 9 Tryd.f9 rfl rfl rfl rfl rfl rfl rfl ⟨rfl, rfl, rfl, rfl, rfl⟩ rfl rfl rfl rfl rfl (by kernel_rfl) Tryd.func9 (by kernel_rfl)
  (of_decide_eq_true (by kernel_rfl)) (by unfold Func.isWrapper; first | (rw [if_pos (by decide +kernel)]; kernel_rfl) | (rw [if_neg (by decide +kernel)]; exact ⟨rfl, rfl⟩))
  (fun os started H enc _ => textMore_lifted os started H enc)
set_option maxRecDepth 100000 in
theorem textMore_holds : Rows.TextMoreCardSaid :=
 Claim7.holds_tied_plain_at .later [] [.listed, .data] true (true, "fa08d34d8e58ace057e1872153a9d4f7debccb6dd8d1f2c8635f1a279effda44") false textMore_row (fun _ h => by cases h) (by kernel_rfl) (fun _ h => by cases h) textMore_row_tie rfl ⟨rfl, rfl⟩ (by kernel_rfl) rfl
  (fun f fn hf hfn => by
   obtain rfl : f = 9 := Option.some.inj ((show Tryd.prog.funcNamed "woodgrain/woodgrainlaw13.TextMore" = some 9 by kernel_rfl).symm.trans hf) |>.symm
   obtain rfl : fn = Tryd.f9 := (Option.some.inj (Tryd.func9.symm.trans hfn)).symm
   exact ⟨by kernel_rfl, fun j t ht => by
    rw [Tryd.params9] at ht
    have hm : t ∈ [22, 27, 43] := by simpa using Array.mem_of_getElem? ht
    have hall : ([22, 27, 43].all fun u => !Tryd.prog.wantsStandIn u) = true := by kernel_rfl
    exact (show Tryd.prog.wantsStandIn t = false by simpa using List.all_eq_true.1 hall t hm)⟩)
  (by kernel_rfl)
end Go.Proofs.YtlgfojaalmelhaaDoor
