/- Contracts, proved: Lsr. -/
import Derived.Test.YtmnpnomllcghmaaLsrD
import Derived.Test.YtmnpnomllcghmaaLssP
namespace Go.Proofs.Ytmnpnomllcghmaa.Ev
open Go
set_option linter.unusedVariables false
set_option linter.unusedSimpArgs false
set_option maxRecDepth 100000
namespace S
theorem thst_succ (c line scan m : Int) (j : Nat) : thst c line scan m (j + 1) = (tline (thst c line scan m j).1 (starts c (nxp (thst c line scan m j).2.2)), tscan (thst c line scan m j).1 (thst c line scan m j).2.1, nxp (thst c line scan m j).2.2) := rfl
theorem thst_ok {c line scan m : Int} (h : okTh line scan = true) (h0 : 0 ≤ m) (h1 : m < 160) : ∀ j, okTh (thst c line scan m j).1 (thst c line scan m j).2.1 = true ∧ (thst c line scan m j).2.2 = (m + (j : Nat)) % 160
  | 0 => ⟨h, by show m = _; omega⟩
  | j + 1 => by
    obtain ⟨h2, h3⟩ := thst_ok h h0 h1 j
    rw [thst_succ]
    refine ⟨tick_ok _ h2, ?_⟩
    show nxp _ = _
    rw [h3, nxp_eq (by omega) (by omega)]; omega
theorem tms_front (c m : Int) (j : Nat) : tms c m (j + 1) = bc (starts c (nxp m)) 1 0 + tms c (nxp m) j := rfl
theorem tms_back (c : Int) : ∀ (j : Nat) (m : Int), 0 ≤ m → m < 160 → tms c m (j + 1) = tms c m j + bc (starts c (nxp ((m + (j : Nat)) % 160))) 1 0
  | 0, m, h0, h1 => by
    rw [tms_front, show (m + ((0 : Nat) : Int)) % 160 = m by omega]
    show _ + 0 = 0 + _
    omega
  | j + 1, m, h0, h1 => by
    obtain ⟨n0, n1⟩ := nxp_rng h0 h1
    rw [tms_front, tms_back c j (nxp m) n0 n1, tms_front c m j]
    rw [nxp_eq h0 h1, show ((m + 1) % 160 + (j : Int)) % 160 = (m + ((j + 1 : Nat) : Int)) % 160 by omega]
    omega
theorem tms_next {c m : Int} (h0 : 0 ≤ m) (h1 : m < 160) : tms c (nxp m) 160 = tms c m 160 := by
  obtain ⟨n0, n1⟩ := nxp_rng h0 h1
  have a1 : tms c (nxp m) 160 = tms c (nxp m) 159 + bc (starts c (nxp ((nxp m + ((159 : Nat) : Int)) % 160))) 1 0 := tms_back c 159 (nxp m) n0 n1
  have a2 : tms c m 160 = bc (starts c (nxp m)) 1 0 + tms c (nxp m) 159 := tms_front c m 159
  rw [show ((nxp m + ((159 : Nat) : Int)) % 160) = m by rw [nxp_eq h0 h1]; omega] at a1
  omega
theorem tms_nst {c : Int} : ∀ (k : Nat), k < 160 → tms c (k : Nat) 160 = nst c
  | 0, _ => rfl
  | k + 1, h => by
    have := tms_nst (c := c) k (by omega)
    rw [← this, ← tms_next (c := c) (m := (k : Nat)) (by omega) (by omega), nxp_eq (by omega) (by omega)]
    congr 1; omega
theorem nst_val : nst 0 = 1 ∧ nst 1 = 2 ∧ nst 2 = 2 ∧ nst 3 = 3 ∧ nst 4 = 2 ∧ nst 5 = 1 ∧ nst 6 = 3 ∧ nst 7 = 1 := by decide +kernel
theorem dot_start {line scan : Int} (b : Bool) (h : okTh line scan = true) : eqI (dot (young (tline line b) (tscan line scan)) (elder (tline line b) (tscan line scan)) 0) 0 = b := by
  obtain ⟨⟨l0, l1⟩, s0, s1⟩ := okTh_iff.1 h
  rw [tick_y b l0 l1]
  obtain ⟨y0, y1⟩ := young_rng (line := line) s0 s1
  generalize young line scan = y at y0 y1
  have hl : lead7 0 = 0 := rfl
  unfold dot
  rw [hl]
  unfold rY old
  cases b
  · rw [bc_false]
    by_cases h : y < 255
    · rw [ltI_true.2 h, bc_true, ltI_false.2 (show 0 ≤ y + 1 by omega), bc_false, eqI_false.2 (by omega)]
    · rw [ltI_false.2 (show 255 ≤ y by omega)]; rfl
  · rfl
end S
theorem srR_run (q c line scan m t i : Int) : K.RunB (envL [(60, tTickE), (61, tDotE)]) K.openE 30 12 46 (inner (inner (blkOf 12 0))) [(0, .int .u8 q), (1, .int .u8 c), (5, .ptr 0 0), (6, .int .i64 t), (7, .int .i64 i)] [.cells 107 .exact [.ptr 1 0, .int .u16 line, .int .i64 scan], .cells 98 .exact [.ptr 2 0, .ptr 3 0], .cells 89 .exact [.int .i64 (m % 4), .int .i64 4], .cells 93 .exact [.ptr 4 0, .int .u8 (S.st 39), .int .i64 40], .cells 110 .exact [.int .u8 (S.st (m / 4)), .int .i64 6, .int .i64 1]] Hint.auto ⟨.normal, [(0, .int .u8 q), (1, .int .u8 c), (5, .ptr 0 0), (6, .int .i64 (t + bc (S.starts (c % 8) (S.nxp m)) 1 0)), (7, .int .i64 (i + 1))], [(0, .cells 107 .exact [.ptr 1 0, .int .u16 (S.tline line (S.starts (c % 8) (S.nxp m))), .int .i64 (S.tscan line scan)]), (2, .cells 89 .exact [.int .i64 ((S.nxp m) % 4), .int .i64 4]), (4, .cells 110 .exact [.int .u8 (S.st ((S.nxp m) / 4)), .int .i64 6, .int .i64 1])], []⟩ =
    (bc (ltI i (160 : Int)) (bc (S.an (S.an (S.okPm (m % (4 : Int)) (4 : Int) (S.st (39 : Int)) (40 : Int) (S.st (m / (4 : Int)))) (S.okTh line scan)) (S.inR c (256 : Int))) (bc (S.okTh (S.tline line (S.starts (c % (8 : Int)) (S.nxp (S.plc (m % (4 : Int)) (S.st (m / (4 : Int))))))) (S.tscan line scan)) (bc (eqI (S.dot (S.young (S.tline line (S.starts (c % (8 : Int)) (S.nxp (S.plc (m % (4 : Int)) (S.st (m / (4 : Int))))))) (S.tscan line scan)) (S.elder (S.tline line (S.starts (c % (8 : Int)) (S.nxp (S.plc (m % (4 : Int)) (S.st (m / (4 : Int))))))) (S.tscan line scan)) (0 : Int)) (0 : Int)) (q = q ∧ (c = c ∧ ((0 : Nat) = (0 : Nat) ∧ (t + bc (S.starts (c % (8 : Int)) (S.nxp m)) (1 : Int) (0 : Int) = wrapK IntKind.i64 (t + (1 : Int)) ∧ (i + (1 : Int) = wrapK IntKind.i64 (i + (1 : Int)) ∧ ((0 : Nat) = (0 : Nat) ∧ (S.tline line (S.starts (c % (8 : Int)) (S.nxp m)) = S.tline line (S.starts (c % (8 : Int)) (S.nxp (S.plc (m % (4 : Int)) (S.st (m / (4 : Int)))))) ∧ (S.tscan line scan = S.tscan line scan ∧ (S.nxp m % (4 : Int) = bc (ltI (m % (4 : Int) + (1 : Int)) (4 : Int)) (m % (4 : Int) + (1 : Int)) (0 : Int) ∧ ((4 : Int) = (4 : Int) ∧ (S.st (S.nxp m / (4 : Int)) = bc (ltI (m % (4 : Int) + (1 : Int)) (4 : Int)) (S.st (m / (4 : Int))) (bc (eqI (S.st (m / (4 : Int))) (S.st (39 : Int))) (0 : Int) (S.nx (S.st (m / (4 : Int))))) ∧ ((6 : Int) = (6 : Int) ∧ ((1 : Int) = (1 : Int) ∧ True))))))))))))) (q = q ∧ (c = c ∧ ((0 : Nat) = (0 : Nat) ∧ (t + bc (S.starts (c % (8 : Int)) (S.nxp m)) (1 : Int) (0 : Int) = t ∧ (i + (1 : Int) = wrapK IntKind.i64 (i + (1 : Int)) ∧ ((0 : Nat) = (0 : Nat) ∧ (S.tline line (S.starts (c % (8 : Int)) (S.nxp m)) = S.tline line (S.starts (c % (8 : Int)) (S.nxp (S.plc (m % (4 : Int)) (S.st (m / (4 : Int)))))) ∧ (S.tscan line scan = S.tscan line scan ∧ (S.nxp m % (4 : Int) = bc (ltI (m % (4 : Int) + (1 : Int)) (4 : Int)) (m % (4 : Int) + (1 : Int)) (0 : Int) ∧ ((4 : Int) = (4 : Int) ∧ (S.st (S.nxp m / (4 : Int)) = bc (ltI (m % (4 : Int) + (1 : Int)) (4 : Int)) (S.st (m / (4 : Int))) (bc (eqI (S.st (m / (4 : Int))) (S.st (39 : Int))) (0 : Int) (S.nx (S.st (m / (4 : Int))))) ∧ ((6 : Int) = (6 : Int) ∧ ((1 : Int) = (1 : Int) ∧ True)))))))))))))) False) False) False) := by kernel_rfl
theorem srR_con (q c line scan m t i : Int) (h0 : 0 ≤ m) (h1 : m < 160) (h2 : S.okTh line scan = true) (h3 : 0 ≤ c) (h4 : c < 256) (h5 : 0 ≤ i) (h6 : i < 160) (h7 : 0 ≤ t) (h8 : t ≤ 160) : CT Try.prog (inner (inner (blkOf 12 0))) (Fr.ofL 12 46 [(0, .int .u8 q), (1, .int .u8 c), (5, .ptr 0 0), (6, .int .i64 t), (7, .int .i64 i)] [] none) (Heap.of [.cells 107 .exact [.ptr 1 0, .int .u16 line, .int .i64 scan], .cells 98 .exact [.ptr 2 0, .ptr 3 0], .cells 89 .exact [.int .i64 (m % 4), .int .i64 4], .cells 93 .exact [.ptr 4 0, .int .u8 (S.st 39), .int .i64 40], .cells 110 .exact [.int .u8 (S.st (m / 4)), .int .i64 6, .int .i64 1]]) (⟨.normal, [(0, .int .u8 q), (1, .int .u8 c), (5, .ptr 0 0), (6, .int .i64 (t + bc (S.starts (c % 8) (S.nxp m)) 1 0)), (7, .int .i64 (i + 1))], [(0, .cells 107 .exact [.ptr 1 0, .int .u16 (S.tline line (S.starts (c % 8) (S.nxp m))), .int .i64 (S.tscan line scan)]), (2, .cells 89 .exact [.int .i64 ((S.nxp m) % 4), .int .i64 4]), (4, .cells 110 .exact [.int .u8 (S.st ((S.nxp m) / 4)), .int .i64 6, .int .i64 1])], []⟩ : K.BRes).x (Fr.ofL 12 46 (⟨.normal, [(0, .int .u8 q), (1, .int .u8 c), (5, .ptr 0 0), (6, .int .i64 (t + bc (S.starts (c % 8) (S.nxp m)) 1 0)), (7, .int .i64 (i + 1))], [(0, .cells 107 .exact [.ptr 1 0, .int .u16 (S.tline line (S.starts (c % 8) (S.nxp m))), .int .i64 (S.tscan line scan)]), (2, .cells 89 .exact [.int .i64 ((S.nxp m) % 4), .int .i64 4]), (4, .cells 110 .exact [.int .u8 (S.st ((S.nxp m) / 4)), .int .i64 6, .int .i64 1])], []⟩ : K.BRes).L [] none) (Heap.of (K.chg [.cells 107 .exact [.ptr 1 0, .int .u16 line, .int .i64 scan], .cells 98 .exact [.ptr 2 0, .ptr 3 0], .cells 89 .exact [.int .i64 (m % 4), .int .i64 4], .cells 93 .exact [.ptr 4 0, .int .u8 (S.st 39), .int .i64 40], .cells 110 .exact [.int .u8 (S.st (m / 4)), .int .i64 6, .int .i64 1]] (⟨.normal, [(0, .int .u8 q), (1, .int .u8 c), (5, .ptr 0 0), (6, .int .i64 (t + bc (S.starts (c % 8) (S.nxp m)) 1 0)), (7, .int .i64 (i + 1))], [(0, .cells 107 .exact [.ptr 1 0, .int .u16 (S.tline line (S.starts (c % 8) (S.nxp m))), .int .i64 (S.tscan line scan)]), (2, .cells 89 .exact [.int .i64 ((S.nxp m) % 4), .int .i64 4]), (4, .cells 110 .exact [.int .u8 (S.st ((S.nxp m) / 4)), .int .i64 6, .int .i64 1])], []⟩ : K.BRes).ch ++ (⟨.normal, [(0, .int .u8 q), (1, .int .u8 c), (5, .ptr 0 0), (6, .int .i64 (t + bc (S.starts (c % 8) (S.nxp m)) 1 0)), (7, .int .i64 (i + 1))], [(0, .cells 107 .exact [.ptr 1 0, .int .u16 (S.tline line (S.starts (c % 8) (S.nxp m))), .int .i64 (S.tscan line scan)]), (2, .cells 89 .exact [.int .i64 ((S.nxp m) % 4), .int .i64 4]), (4, .cells 110 .exact [.int .u8 (S.st ((S.nxp m) / 4)), .int .i64 6, .int .i64 1])], []⟩ : K.BRes).new)) := by
  refine K.code_of_run good (A := envL [(60, tTickE), (61, tDotE)]) (envL_ok ?_) K.openE_ok (k := 30) (cast (srR_run q c line scan m t i).symm ?_)
  · intro p hp; simp only [List.mem_cons, List.not_mem_nil, or_false] at hp; rcases hp with rfl | rfl <;> first | exact tTick_ok | exact tDot_ok
  · have e1 : ltI i 160 = true := ltI_true.2 h6
    have e2 : S.an (S.an (S.okPm (m % 4) 4 (S.st 39) 40 (S.st (m / 4))) (S.okTh line scan)) (S.inR c 256) = true := S.an_iff.2 ⟨S.an_iff.2 ⟨S.okPm_of h0 h1, h2⟩, S.inR_iff.2 ⟨h3, h4⟩⟩
    obtain ⟨t1, t2⟩ := S.pl_tick h0 h1
    have o1 := S.tick_ok (S.starts (c % 8) (S.nxp m)) h2
    have e3 := S.dot_start (S.starts (c % 8) (S.nxp m)) h2
    have w1 : wrapK .i64 (t + 1) = t + 1 := by rw [wrapK_i64]; omega
    have w2 : wrapK .i64 (i + 1) = i + 1 := by rw [wrapK_i64]; omega
    simp only [e1, e2, S.pl_plc h0 h1, t1, t2, o1, e3, w1, w2, bc_true]
    cases S.starts (c % 8) (S.nxp m) <;> simp
theorem srX_run (q c line scan m t : Int) : K.RunB (envL [(60, tTickE), (61, tDotE)]) K.openE 30 12 46 (inner (inner (blkOf 12 0))) [(0, .int .u8 q), (1, .int .u8 c), (5, .ptr 0 0), (6, .int .i64 t), (7, .int .i64 160)] [.cells 107 .exact [.ptr 1 0, .int .u16 line, .int .i64 scan], .cells 98 .exact [.ptr 2 0, .ptr 3 0], .cells 89 .exact [.int .i64 (m % 4), .int .i64 4], .cells 93 .exact [.ptr 4 0, .int .u8 (S.st 39), .int .i64 40], .cells 110 .exact [.int .u8 (S.st (m / 4)), .int .i64 6, .int .i64 1]] Hint.auto ⟨.exit 0, [(0, .int .u8 q), (1, .int .u8 c), (5, .ptr 0 0), (6, .int .i64 t), (7, .int .i64 160)], [], []⟩ =
    ((q = q ∧ (c = c ∧ ((0 : Nat) = (0 : Nat) ∧ (t = t ∧ ((160 : Int) = (160 : Int) ∧ True)))))) := by kernel_rfl
theorem srX_con (q c line scan m t : Int) : CT Try.prog (inner (inner (blkOf 12 0))) (Fr.ofL 12 46 [(0, .int .u8 q), (1, .int .u8 c), (5, .ptr 0 0), (6, .int .i64 t), (7, .int .i64 160)] [] none) (Heap.of [.cells 107 .exact [.ptr 1 0, .int .u16 line, .int .i64 scan], .cells 98 .exact [.ptr 2 0, .ptr 3 0], .cells 89 .exact [.int .i64 (m % 4), .int .i64 4], .cells 93 .exact [.ptr 4 0, .int .u8 (S.st 39), .int .i64 40], .cells 110 .exact [.int .u8 (S.st (m / 4)), .int .i64 6, .int .i64 1]]) (⟨.exit 0, [(0, .int .u8 q), (1, .int .u8 c), (5, .ptr 0 0), (6, .int .i64 t), (7, .int .i64 160)], [], []⟩ : K.BRes).x (Fr.ofL 12 46 (⟨.exit 0, [(0, .int .u8 q), (1, .int .u8 c), (5, .ptr 0 0), (6, .int .i64 t), (7, .int .i64 160)], [], []⟩ : K.BRes).L [] none) (Heap.of (K.chg [.cells 107 .exact [.ptr 1 0, .int .u16 line, .int .i64 scan], .cells 98 .exact [.ptr 2 0, .ptr 3 0], .cells 89 .exact [.int .i64 (m % 4), .int .i64 4], .cells 93 .exact [.ptr 4 0, .int .u8 (S.st 39), .int .i64 40], .cells 110 .exact [.int .u8 (S.st (m / 4)), .int .i64 6, .int .i64 1]] (⟨.exit 0, [(0, .int .u8 q), (1, .int .u8 c), (5, .ptr 0 0), (6, .int .i64 t), (7, .int .i64 160)], [], []⟩ : K.BRes).ch ++ (⟨.exit 0, [(0, .int .u8 q), (1, .int .u8 c), (5, .ptr 0 0), (6, .int .i64 t), (7, .int .i64 160)], [], []⟩ : K.BRes).new)) := by
  refine K.code_of_run good (A := envL [(60, tTickE), (61, tDotE)]) (envL_ok ?_) K.openE_ok (k := 30) (cast (srX_run q c line scan m t).symm ?_)
  · intro p hp; simp only [List.mem_cons, List.not_mem_nil, or_false] at hp; rcases hp with rfl | rfl <;> first | exact tTick_ok | exact tDot_ok
  · simp
theorem sr_blk (q c line scan a d l n s : Int) (h : S.an (S.okPm a d l n s) (S.an (S.okTh line scan) (S.inR c 256)) = true) : K.BOk Try.prog 12 46 (blkOf 12 0) [0, 1, 5, 6, 7] [.int .u8 q, .int .u8 c, .ptr 0 0, .int .i64 0, .int .i64 0] [.cells 107 .exact [.ptr 1 0, .int .u16 line, .int .i64 scan], .cells 98 .exact [.ptr 2 0, .ptr 3 0], .cells 89 .exact [.int .i64 a, .int .i64 d], .cells 93 .exact [.ptr 4 0, .int .u8 l, .int .i64 n], .cells 110 .exact [.int .u8 s, .int .i64 6, .int .i64 1]] ⟨.normal, [(0, .int .u8 q), (1, .int .u8 c), (5, .ptr 0 0), (6, .int .i64 (S.tms (c % 8) (S.plc a s) 160)), (7, .int .i64 160)], [(0, .cells 107 .exact [.ptr 1 0, .int .u16 (S.thl (c % 8) line scan (S.plc a s) 160), .int .i64 (S.ths (c % 8) line scan (S.plc a s) 160)]), (2, .cells 89 .exact [.int .i64 a, .int .i64 d]), (4, .cells 110 .exact [.int .u8 s, .int .i64 6, .int .i64 1])], []⟩ := by
  rw [S.an_iff, S.an_iff] at h
  obtain ⟨h1, h2, h3⟩ := h
  obtain ⟨m, m0, m1, rfl, rfl, rfl, rfl, rfl⟩ := S.okPm_iff h1
  obtain ⟨c0, c1⟩ := S.inR_iff.1 h3
  have hb : blkOf 12 0 = .block 0 (.loop (inner (inner (blkOf 12 0)))) := by kernel_rfl
  unfold K.BOk
  rw [hb]
  refine K.CT.block ?_
  rw [S.pl_plc m0 m1]
  have tb : ∀ j : Nat, j ≤ 160 → 0 ≤ S.tms (c % 8) m j ∧ S.tms (c % 8) m j ≤ j := by
    intro j
    induction j with
    | zero => intro _; exact ⟨Int.le_refl _, Int.le_refl _⟩
    | succ j ih =>
      intro hj
      have := ih (by omega)
      rw [S.tms_back _ j m m0 m1]
      cases S.starts (c % 8) (S.nxp ((m + (j : Nat)) % 160)) <;> simp <;> omega
  have main := K.loop_count (P := Try.prog) (c := inner (inner (blkOf 12 0))) (fun j => Fr.ofL 12 46 [(0, .int .u8 q), (1, .int .u8 c), (5, .ptr 0 0), (6, .int .i64 (S.tms (c % 8) m j)), (7, .int .i64 (j : Nat))] [] none)
    (fun j => Heap.of [.cells 107 .exact [.ptr 1 0, .int .u16 (S.thst (c % 8) line scan m j).1, .int .i64 (S.thst (c % 8) line scan m j).2.1], .cells 98 .exact [.ptr 2 0, .ptr 3 0], .cells 89 .exact [.int .i64 ((S.thst (c % 8) line scan m j).2.2 % 4), .int .i64 4], .cells 93 .exact [.ptr 4 0, .int .u8 (S.st 39), .int .i64 40], .cells 110 .exact [.int .u8 (S.st ((S.thst (c % 8) line scan m j).2.2 / 4)), .int .i64 6, .int .i64 1]]) 160 (x := .exit 0) (by simp) (fun j hj => ?_) (srX_con q c _ _ _ _)
  · rw [show (S.thst (c % 8) line scan m 160).2.2 = m by rw [(S.thst_ok h2 m0 m1 160).2]; omega] at main
    exact main
  · obtain ⟨o1, o2⟩ := S.thst_ok (c := c % 8) h2 m0 m1 j
    have := srR_con q c (S.thst (c % 8) line scan m j).1 (S.thst (c % 8) line scan m j).2.1 (S.thst (c % 8) line scan m j).2.2 (S.tms (c % 8) m j) (j : Nat) (by rw [o2]; omega) (by rw [o2]; omega) o1 c0 c1 (by omega) (by omega) (tb j (by omega)).1 (by have := (tb j (by omega)).2; omega)
    rw [o2, ← S.tms_back _ j m m0 m1] at this
    rw [S.thst_succ, o2]
    exact this
theorem srTop_run (q c : Int) : K.bodyF (envB [(58, tNewE), (59, tPutE), (62, tCountE), (57, awk16E)] (fun g id => bc (Nat.beq g 12) (bc (Nat.beq id 0) (some srB) (none)) (none))) (K.runF (envB [(58, tNewE), (59, tPutE), (62, tCountE), (57, awk16E)] (fun g id => bc (Nat.beq g 12) (bc (Nat.beq id 0) (some srB) (none)) (none))) 30) 12 [.int .u8 q, .int .u8 c] (Heap.of []) Hint.auto (K.endC K.openE 0 ⟨.ret (.bool true), [], []⟩) =
    (bc (notB (eqI (bc (S.inR (wrapK IntKind.i64 q) (160 : Int)) (0 : Int) (6 : Int)) (0 : Int))) (bc (ltI (159 : Int) q) (true = true ∧ True) (true = false ∧ True)) (bc (S.an (S.okPm (bc (S.inR (wrapK IntKind.i64 q) (160 : Int)) (wrapK IntKind.i64 q % (4 : Int)) (0 : Int)) (4 : Int) (S.st (39 : Int)) (40 : Int) (bc (S.inR (wrapK IntKind.i64 q) (160 : Int)) (S.st (wrapK IntKind.i64 q / (4 : Int))) (0 : Int))) (S.an (S.okTh (0 : Int) (255 : Int)) (S.inR c (256 : Int)))) (K.BOk Try.prog 12 46 (blkOf 12 0) [(0 : Nat), (1 : Nat), (5 : Nat), (6 : Nat), (7 : Nat)] [LV.int IntKind.u8 q, LV.int IntKind.u8 c, LV.ptr (0 : Nat) (0 : Nat), LV.int IntKind.i64 (0 : Int), LV.int IntKind.i64 (0 : Int)] [LObj.cells (107 : TypeId) Own.exact [LV.ptr (1 : Nat) (0 : Nat), LV.int IntKind.u16 (0 : Int), LV.int IntKind.i64 (255 : Int)], LObj.cells (98 : TypeId) Own.exact [LV.ptr (2 : Nat) (0 : Nat), LV.ptr (3 : Nat) (0 : Nat)], LObj.cells (89 : TypeId) Own.exact [LV.int IntKind.i64 (bc (S.inR (wrapK IntKind.i64 q) (160 : Int)) (wrapK IntKind.i64 q % (4 : Int)) (0 : Int)), LV.int IntKind.i64 (4 : Int)], LObj.cells (93 : TypeId) Own.exact [LV.ptr (4 : Nat) (0 : Nat), LV.int IntKind.u8 (S.st (39 : Int)), LV.int IntKind.i64 (40 : Int)], LObj.cells (110 : TypeId) Own.exact [LV.int IntKind.u8 (bc (S.inR (wrapK IntKind.i64 q) (160 : Int)) (S.st (wrapK IntKind.i64 q / (4 : Int))) (0 : Int)), LV.int IntKind.i64 (6 : Int), LV.int IntKind.i64 (1 : Int)]] { x := LX.normal, L := [((0 : Nat), LV.int IntKind.u8 q), ((1 : Nat), LV.int IntKind.u8 c), ((5 : Nat), LV.ptr (0 : Nat) (0 : Nat)), ((6 : Nat), LV.int IntKind.i64 (S.tms (c % (8 : Int)) (S.plc (bc (S.inR (wrapK IntKind.i64 q) (160 : Int)) (wrapK IntKind.i64 q % (4 : Int)) (0 : Int)) (bc (S.inR (wrapK IntKind.i64 q) (160 : Int)) (S.st (wrapK IntKind.i64 q / (4 : Int))) (0 : Int))) (160 : Nat))), ((7 : Nat), LV.int IntKind.i64 (160 : Int))], ch := [((0 : Nat), LObj.cells (107 : TypeId) Own.exact [LV.ptr (1 : Nat) (0 : Nat), LV.int IntKind.u16 (S.thl (c % (8 : Int)) (0 : Int) (255 : Int) (S.plc (bc (S.inR (wrapK IntKind.i64 q) (160 : Int)) (wrapK IntKind.i64 q % (4 : Int)) (0 : Int)) (bc (S.inR (wrapK IntKind.i64 q) (160 : Int)) (S.st (wrapK IntKind.i64 q / (4 : Int))) (0 : Int))) (160 : Nat)), LV.int IntKind.i64 (S.ths (c % (8 : Int)) (0 : Int) (255 : Int) (S.plc (bc (S.inR (wrapK IntKind.i64 q) (160 : Int)) (wrapK IntKind.i64 q % (4 : Int)) (0 : Int)) (bc (S.inR (wrapK IntKind.i64 q) (160 : Int)) (S.st (wrapK IntKind.i64 q / (4 : Int))) (0 : Int))) (160 : Nat))]), ((2 : Nat), LObj.cells (89 : TypeId) Own.exact [LV.int IntKind.i64 (bc (S.inR (wrapK IntKind.i64 q) (160 : Int)) (wrapK IntKind.i64 q % (4 : Int)) (0 : Int)), LV.int IntKind.i64 (4 : Int)]), ((4 : Nat), LObj.cells (110 : TypeId) Own.exact [LV.int IntKind.u8 (bc (S.inR (wrapK IntKind.i64 q) (160 : Int)) (S.st (wrapK IntKind.i64 q / (4 : Int))) (0 : Int)), LV.int IntKind.i64 (6 : Int), LV.int IntKind.i64 (1 : Int)])], new := [] } ∧ bc (S.okPm (bc (S.inR (wrapK IntKind.i64 q) (160 : Int)) (wrapK IntKind.i64 q % (4 : Int)) (0 : Int)) (4 : Int) (S.st (39 : Int)) (40 : Int) (bc (S.inR (wrapK IntKind.i64 q) (160 : Int)) (S.st (wrapK IntKind.i64 q / (4 : Int))) (0 : Int))) (bc (eqI (S.plc (bc (S.inR (wrapK IntKind.i64 q) (160 : Int)) (wrapK IntKind.i64 q % (4 : Int)) (0 : Int)) (bc (S.inR (wrapK IntKind.i64 q) (160 : Int)) (S.st (wrapK IntKind.i64 q / (4 : Int))) (0 : Int))) (wrapK IntKind.i64 q)) (bc (eqI (c.tmod (8 : Int)) (1 : Int)) (bc (eqI (S.tms (c % (8 : Int)) (S.plc (bc (S.inR (wrapK IntKind.i64 q) (160 : Int)) (wrapK IntKind.i64 q % (4 : Int)) (0 : Int)) (bc (S.inR (wrapK IntKind.i64 q) (160 : Int)) (S.st (wrapK IntKind.i64 q / (4 : Int))) (0 : Int))) (160 : Nat)) ↑(2 : Nat)) (true = true ∧ True) (true = false ∧ True)) (bc (eqI (c.tmod (8 : Int)) (2 : Int)) (bc (eqI (S.tms (c % (8 : Int)) (S.plc (bc (S.inR (wrapK IntKind.i64 q) (160 : Int)) (wrapK IntKind.i64 q % (4 : Int)) (0 : Int)) (bc (S.inR (wrapK IntKind.i64 q) (160 : Int)) (S.st (wrapK IntKind.i64 q / (4 : Int))) (0 : Int))) (160 : Nat)) ↑(2 : Nat)) (true = true ∧ True) (true = false ∧ True)) (bc (eqI (c.tmod (8 : Int)) (3 : Int)) (bc (eqI (S.tms (c % (8 : Int)) (S.plc (bc (S.inR (wrapK IntKind.i64 q) (160 : Int)) (wrapK IntKind.i64 q % (4 : Int)) (0 : Int)) (bc (S.inR (wrapK IntKind.i64 q) (160 : Int)) (S.st (wrapK IntKind.i64 q / (4 : Int))) (0 : Int))) (160 : Nat)) ↑(3 : Nat)) (true = true ∧ True) (true = false ∧ True)) (bc (eqI (c.tmod (8 : Int)) (4 : Int)) (bc (eqI (S.tms (c % (8 : Int)) (S.plc (bc (S.inR (wrapK IntKind.i64 q) (160 : Int)) (wrapK IntKind.i64 q % (4 : Int)) (0 : Int)) (bc (S.inR (wrapK IntKind.i64 q) (160 : Int)) (S.st (wrapK IntKind.i64 q / (4 : Int))) (0 : Int))) (160 : Nat)) ↑(2 : Nat)) (true = true ∧ True) (true = false ∧ True)) (bc (eqI (c.tmod (8 : Int)) (6 : Int)) (bc (eqI (S.tms (c % (8 : Int)) (S.plc (bc (S.inR (wrapK IntKind.i64 q) (160 : Int)) (wrapK IntKind.i64 q % (4 : Int)) (0 : Int)) (bc (S.inR (wrapK IntKind.i64 q) (160 : Int)) (S.st (wrapK IntKind.i64 q / (4 : Int))) (0 : Int))) (160 : Nat)) ↑(3 : Nat)) (true = true ∧ True) (true = false ∧ True)) (bc (eqI (S.tms (c % (8 : Int)) (S.plc (bc (S.inR (wrapK IntKind.i64 q) (160 : Int)) (wrapK IntKind.i64 q % (4 : Int)) (0 : Int)) (bc (S.inR (wrapK IntKind.i64 q) (160 : Int)) (S.st (wrapK IntKind.i64 q / (4 : Int))) (0 : Int))) (160 : Nat)) ↑(1 : Nat)) (true = true ∧ True) (true = false ∧ True))))))) (true = false ∧ True)) False) False)) := by kernel_rfl
theorem srTop_con (q c : Int) (h0 : S.an (S.inR q 256) (S.inR c 256) = true) : HT Try.prog 12 [.int .u8 q, .int .u8 c] (Heap.of []) (⟨.ret (.bool true), [], []⟩ : K.CRes).e (Heap.of (K.chg [] (⟨.ret (.bool true), [], []⟩ : K.CRes).ch ++ (⟨.ret (.bool true), [], []⟩ : K.CRes).new)) := by
  refine K.con_of_run good (A := envB [(58, tNewE), (59, tPutE), (62, tCountE), (57, awk16E)] (fun g id => bc (Nat.beq g 12) (bc (Nat.beq id 0) (some srB) (none)) (none))) (envB_ok ?_) K.openE_ok (k := 30) (cast (srTop_run q c).symm ?_)
  · intro p hp; simp only [List.mem_cons, List.not_mem_nil, or_false] at hp; rcases hp with rfl | rfl | rfl | rfl <;> first | exact tNew_ok | exact tPut_ok | exact tCount_ok | exact awk16_ok
  · obtain ⟨hq, hc⟩ := S.an_iff.1 h0
    obtain ⟨q0, q1⟩ := S.inR_iff.1 hq
    obtain ⟨c0, c1⟩ := S.inR_iff.1 hc
    have w : wrapK .i64 q = q := by rw [wrapK_i64]; omega
    rw [w]
    by_cases h : q < 160
    · have e1 : S.inR q 160 = true := S.inR_iff.2 ⟨q0, h⟩
      have ok := S.okPm_of q0 h
      have e2 : S.an (S.okPm (q % 4) 4 (S.st 39) 40 (S.st (q / 4))) (S.an (S.okTh 0 255) (S.inR c 256)) = true := S.an_iff.2 ⟨ok, S.an_iff.2 ⟨by decide, hc⟩⟩
      have B := sr_blk q c 0 255 (q % 4) 4 (S.st 39) 40 (S.st (q / 4)) e2
      have ht : c.tmod 8 = c % 8 := Int.tmod_eq_emod_of_nonneg c0
      have en : S.tms (c % 8) q 160 = S.nst (c % 8) := by
        have := S.tms_nst (c := c % 8) q.toNat (by omega)
        rw [show ((q.toNat : Nat) : Int) = q by omega] at this; exact this
      rw [S.pl_plc q0 h, en] at B
      have e3 : S.an (S.okTh 0 255) (S.inR c 256) = true := S.an_iff.2 ⟨by decide, hc⟩
      have e4 : S.an true true = true := rfl
      obtain ⟨v0, v1, v2, v3, v4, v5, v6, v7⟩ := S.nst_val
      have es : eqI q q = true := S.eqI_self q
      simp only [e1, bc_true, S.eqI_self, notB_t, bc_false, e3, ok, e4, S.pl_plc q0 h, ht, en]
      refine ⟨B, ?_⟩
      rcases (by omega : c % 8 = 0 ∨ c % 8 = 1 ∨ c % 8 = 2 ∨ c % 8 = 3 ∨ c % 8 = 4 ∨ c % 8 = 5 ∨ c % 8 = 6 ∨ c % 8 = 7) with e | e | e | e | e | e | e | e <;> rw [e]
      · rw [v0]; exact ⟨trivial, trivial⟩
      · rw [v1]; exact ⟨trivial, trivial⟩
      · rw [v2]; exact ⟨trivial, trivial⟩
      · rw [v3]; exact ⟨trivial, trivial⟩
      · rw [v4]; exact ⟨trivial, trivial⟩
      · rw [v5]; exact ⟨trivial, trivial⟩
      · rw [v6]; exact ⟨trivial, trivial⟩
      · rw [v7]; exact ⟨trivial, trivial⟩
    · have e1 : S.inR q 160 = false := S.inR_no.2 (by omega)
      have e2 : ltI 159 q = true := ltI_true.2 (by omega)
      simp only [e1, bc_false, show notB (eqI 6 0) = true from rfl, bc_true, e2, and_self]
theorem sr_top (q : Int) (hl0 : 0 ≤ q) (hu0 : q ≤ 255) (c : Int) (hl1 : 0 ≤ c) (hu1 : c ≤ 255) : HT Try.prog 12 [.int .u8 q, .int .u8 c] (Heap.of []) (.ret (.bool true)) (Heap.of []) :=
  srTop_con q c (S.an_iff.2 ⟨S.inR_iff.2 ⟨hl0, by omega⟩, S.inR_iff.2 ⟨hl1, by omega⟩⟩)
end Go.Proofs.Ytmnpnomllcghmaa.Ev
