/- Contracts, proved: Tls. -/
import Derived.Test.YtlgfojaalmelhaaDoorTlsD
import Derived.Test.YtlgfojaalmelhaaDoorTfnP
import Derived.Test.YtlgfojaalmelhaaDoorTshP
import Derived.Test.YtlgfojaalmelhaaDoorTbyP
import Derived.Test.YtlgfojaalmelhaaDoorTrfP
namespace Go.Proofs.YtlgfojaalmelhaaDoor.Ev
open Go
set_option linter.unusedVariables false
set_option linter.unusedSimpArgs false
set_option maxRecDepth 100000
set_option maxHeartbeats 1000000
namespace S
theorem isW_iff {p : Int} : isW p = true ↔ 0 ≤ p ∧ p < 65536 := by
  unfold isW
  cases h : ltI p 0 with
  | true => rw [bc_true]; have := ltI_true.1 h; exact ⟨fun h => (by cases h), fun h => by omega⟩
  | false => rw [bc_false, ltI_true]; have := ltI_false.1 h; omega
theorem lok_iff {vs ss : List LV} {o n c M : Nat} {a : Int} : lok vs o n c M ss a = true ↔ (okR vs o n = true ∧ n ≤ c) ∧ (lenL ss = M ∧ M + n ≤ 1000) ∧ 0 ≤ a ∧ a < 65536 := by
  unfold lok; rw [an_iff, an_iff, an_iff, an_iff, bleN, beqN, bleN, isW_iff]
theorem len_cases (o : Int) : len o = 1 ∨ len o = 2 ∨ len o = 3 := by
  unfold len
  cases eqI (md o) 0 with
  | true => exact .inl rfl
  | false =>
    cases eqI (md o) 1 with
    | true => exact .inl rfl
    | false =>
      cases is3 (md o) with
      | true => exact .inr (.inr rfl)
      | false => exact .inr (.inl rfl)
theorem isC_t {vs : List LV} {o n : Nat} (hp : pl (by1 vs o) = true) (h : len (by1 vs o) ≤ n) : isC vs o n = true := by
  unfold isC and2; rw [hp, bc_true]; exact notB_true.2 (ltI_false.2 h)
theorem isC_p {vs : List LV} {o n : Nat} (hp : pl (by1 vs o) = false) : isC vs o n = false := by
  unfold isC and2; rw [hp, bc_false]
theorem isC_n {vs : List LV} {o n : Nat} (h : n < len (by1 vs o)) : isC vs o n = false := by
  unfold isC and2
  rw [ltI_true.2 h]
  cases pl (by1 vs o) <;> rfl
theorem isC_le {vs : List LV} {o n : Nat} (h : isC vs o n = true) : len (by1 vs o) ≤ n := by
  unfold isC and2 at h
  cases hp : pl (by1 vs o) with
  | false => rw [hp] at h; cases h
  | true => rw [hp, bc_true] at h; exact ltI_false.1 (notB_true.1 h)
theorem stp_f {vs : List LV} {o n : Nat} (h : isC vs o n = false) : stp vs o n = 1 := by unfold stp; rw [h]; rfl
theorem stp_t {vs : List LV} {o n : Nat} {k : Int} (h : isC vs o n = true) (hk : len (by1 vs o) = k) : stp vs o n = k.toNat := by unfold stp; rw [h, hk]; rfl
theorem lin_f {vs : List LV} {o n : Nat} {a : Int} (h : isC vs o n = false) : lin vs o n a = bytes vs o 1 := by unfold lin; rw [h]; rfl
theorem lin_1 {vs : List LV} {o n : Nat} {a : Int} (h : isC vs o n = true) (hk : len (by1 vs o) = 1) : lin vs o n a = shw (by1 vs o) 0 0 a := by unfold lin a1 b1; rw [h, hk]; rfl
theorem lin_2 {vs : List LV} {o n : Nat} {a : Int} (h : isC vs o n = true) (hk : len (by1 vs o) = 2) : lin vs o n a = shw (by1 vs o) (by1 vs (o + 1)) 0 a := by unfold lin a1 b1; rw [h, hk]; rfl
theorem lin_3 {vs : List LV} {o n : Nat} {a : Int} (h : isC vs o n = true) (hk : len (by1 vs o) = 3) : lin vs o n a = shw (by1 vs o) (by1 vs (o + 1)) (by1 vs (o + 2)) a := by unfold lin a1 b1; rw [h, hk]; rfl
theorem stp_pos (vs : List LV) (o n : Nat) : 1 ≤ stp vs o n := by
  cases h : isC vs o n with
  | false => rw [stp_f h]; exact Nat.le_refl 1
  | true => rcases len_cases (by1 vs o) with e | e | e <;> (rw [stp_t h e]; decide)
theorem stp_le {vs : List LV} {o n : Nat} (hn : 0 < n) : stp vs o n ≤ n := by
  cases h : isC vs o n with
  | false => rw [stp_f h]; exact hn
  | true => have := isC_le h; rw [stp_t h rfl]; omega
theorem ls_succ (vs : List LV) (j o n : Nat) (a : Int) : ls vs (j + 1) o n a = bc (Nat.beq n 0) [] (.str (lin vs o n a) :: ls vs j (o + stp vs o n) (n - stp vs o n) (nxt a (stp vs o n))) := rfl
theorem ls_zero (vs : List LV) (j o : Nat) (a : Int) : ls vs j o 0 a = [] := by cases j <;> rfl
theorem nz_of {n : Nat} (h : 0 < n) : Nat.beq n 0 = false := by cases n with
  | zero => exact absurd h (Nat.lt_irrefl 0)
  | succ n => rfl
theorem ls_fuel (vs : List LV) : ∀ (n j j2 o : Nat) (a : Int), n ≤ j → n ≤ j2 → ls vs j o n a = ls vs j2 o n a := by
  intro n
  induction n using Nat.strongRecOn with
  | _ n ih =>
    intro j j2 o a h1 h2
    by_cases hn : 0 < n
    · obtain ⟨i, rfl⟩ : ∃ i, j = i + 1 := ⟨j - 1, by omega⟩
      obtain ⟨i2, rfl⟩ : ∃ i, j2 = i + 1 := ⟨j2 - 1, by omega⟩
      have := stp_pos vs o n
      have := stp_le (vs := vs) (o := o) hn
      rw [ls_succ, ls_succ, nz_of hn, bc_false, bc_false, ih (n - stp vs o n) (by omega) i i2 _ _ (by omega) (by omega)]
    · have z : n = 0 := by omega
      subst z
      rw [ls_zero, ls_zero]
theorem ls_go {vs : List LV} {n o k o2 : Nat} {a : Int} (hn : 0 < n) (hk : stp vs o n = k) (ho : n - k = 0 ∨ o2 = o + k) : ls vs n o n a = .str (lin vs o n a) :: ls vs (n - k) o2 (n - k) (nxt a k) := by
  have h1 := stp_pos vs o n
  obtain ⟨i, rfl⟩ : ∃ i, n = i + 1 := ⟨n - 1, by omega⟩
  rw [ls_succ, nz_of hn, bc_false, hk]
  congr 1
  rcases ho with ho | ho
  · rw [ho, ls_zero, ls_zero]
  · rw [ho]; exact ls_fuel vs _ _ _ _ _ (by omega) (by omega)
theorem nxt_w {a : Int} {k : Nat} (h : 0 ≤ a ∧ a < 65536) (hk : k ≤ 3) : wrapK .u16 (a + wrapK .u16 (k : Int)) = nxt a k := by
  unfold nxt; rw [wrapK_u16, wrapK_u16]; omega
theorem ls_tail {vs ss2 : List LV} {o n c M2 k : Nat} {a : Int} {X : List UInt8} (hk : 1 ≤ k ∧ k ≤ 3) (hb : okB vs = true) (hl : o + n ≤ lenL vs) (hc : n ≤ c) (hkn : k ≤ n) (hM : M2 + n ≤ 1001) (hW : 0 ≤ a ∧ a < 65536) (hs : stp vs o n = k) (hX : lin vs o n a = X) (hs2 : lenL ss2 = M2) :
    ∃ o2, o2 = (bc (Nat.beq c k) o (o + k) : Nat) ∧ Nat.ble o2 (lenL vs) = true ∧ lok vs o2 (n - k) (c - k) M2 ss2 (nxt a k) = true ∧ ls vs n o n a = .str X :: ls vs (n - k) o2 (n - k) (nxt a k) ∧ wrapK .u16 (a + wrapK .u16 (k : Int)) = nxt a k := by
  obtain ⟨o2, ho2⟩ : ∃ x, x = (bc (Nat.beq c k) o (o + k) : Nat) := ⟨_, rfl⟩
  have hg : (n - k = 0 ∨ o2 = o + k) ∧ o2 + (n - k) ≤ lenL vs := by
    cases h : Nat.beq c k with
    | true => have := beqN.1 h; rw [h, bc_true] at ho2; exact ⟨.inl (by omega), by omega⟩
    | false => rw [h, bc_false] at ho2; exact ⟨.inr ho2, by omega⟩
  refine ⟨o2, ho2, bleN.2 (by omega), lok_iff.2 ⟨⟨okR_iff.2 ⟨hb, hg.2, by omega⟩, by omega⟩, ⟨hs2, by omega⟩, by unfold nxt; omega⟩, ?_, nxt_w hW hk.2⟩
  rw [← hX]
  exact ls_go (by omega) hs hg.1
end S
theorem ln1_k (o : Int) (g : Nat) (cs : List LV) (g1 : Nat) (m : Int) (h : S.an (bc (S.okG g cs g1) (S.isB o) false) (eqI (S.len o) 1) = true) : HT Tryd.prog 20 [.int .u8 o] (Heap.of [.glob g cs, .glob g1 [.int .i64 m]]) (.ret (.int .i64 1)) (Heap.of [.glob g cs, .glob g1 [.int .i64 m]]) := by
  obtain ⟨h1, h2⟩ := S.an_iff.1 h
  rw [← eqI_true.1 h2]
  exact cln_k o g cs g1 m h1
theorem ln1_ok : ln1E.ok Tryd.prog 20 := by
  intro xs os b r h h3
  unfold ln1E at h
  simp only at h
  split at h
  · injection h with h; injection h with h1 h2; subst h1; subst h2
    exact ln1_k _ _ _ _ _ h3
  · cases h
theorem ln2_k (o : Int) (g : Nat) (cs : List LV) (g1 : Nat) (m : Int) (h : S.an (bc (S.okG g cs g1) (S.isB o) false) (eqI (S.len o) 2) = true) : HT Tryd.prog 20 [.int .u8 o] (Heap.of [.glob g cs, .glob g1 [.int .i64 m]]) (.ret (.int .i64 2)) (Heap.of [.glob g cs, .glob g1 [.int .i64 m]]) := by
  obtain ⟨h1, h2⟩ := S.an_iff.1 h
  rw [← eqI_true.1 h2]
  exact cln_k o g cs g1 m h1
theorem ln2_ok : ln2E.ok Tryd.prog 20 := by
  intro xs os b r h h3
  unfold ln2E at h
  simp only at h
  split at h
  · injection h with h; injection h with h1 h2; subst h1; subst h2
    exact ln2_k _ _ _ _ _ h3
  · cases h
theorem ln3_k (o : Int) (g : Nat) (cs : List LV) (g1 : Nat) (m : Int) (h : S.an (bc (S.okG g cs g1) (S.isB o) false) (eqI (S.len o) 3) = true) : HT Tryd.prog 20 [.int .u8 o] (Heap.of [.glob g cs, .glob g1 [.int .i64 m]]) (.ret (.int .i64 3)) (Heap.of [.glob g cs, .glob g1 [.int .i64 m]]) := by
  obtain ⟨h1, h2⟩ := S.an_iff.1 h
  rw [← eqI_true.1 h2]
  exact cln_k o g cs g1 m h1
theorem ln3_ok : ln3E.ok Tryd.prog 20 := by
  intro xs os b r h h3
  unfold ln3E at h
  simp only at h
  split at h
  · injection h with h; injection h with h1 h2; subst h1; subst h2
    exact ln3_k _ _ _ _ _ h3
  · cases h
theorem lsB1_run (m a : Int) (et o n c M : Nat) (w : Own) (vs ss : List LV) : K.RunL2 (envK [(15, byE), (20, ln1E), (45, plE), (10, shE)] (fun g id => none) (fun g i => bc (Nat.beq g 18) (hasN [5] i) (true))) K.openE 30 44 54 (inner (inner (blkOf 44 0))) lsEB [(0, .func (.yield 0) [] []), (1, .ptr 3 0), (2, .ptr 5 0)] [.loop .ready none 18 16 S.LTB [10] S.code2 S.code3 6, .cells 32 .exact [.slice 2 0 M (.rest 0)], .flat [.sr] 9 (.grow 1) ss, .cells 27 .exact [.slice 4 o n (.known c)], .flat [.i .u8] et w vs, .cells 22 .exact [.int .u16 a], .defers false, .glob 0 S.tabV, .glob 1 [.int .i64 m]] Hint.auto (Nat.beq n 0) ⟨.exit 0, [], [], []⟩ ⟨.exit 0, [], [(0, .loop .ready none 18 16 S.LTB [10] S.code2 S.code3 6), (1, .cells 32 .exact [.slice 9 0 (M + S.lsl vs n o n a) (.rest 0)]), (2, .dead), (3, .dead), (5, .dead)], [.flat [.sr] 9 (.grow 1) (app ss (S.ls vs n o n a))]⟩ =
    (bc (ltI 0 ↑n) (bc (Nat.ble 1 n) (bc (Nat.ble 1 c) (bc (S.okR vs o 1) (bc (ltI 0 ↑n) (bc (Nat.ble (o + 0 + 1) (lenL vs)) (bc (S.an (bc (S.okG 0 S.tabV 1) (S.isB (intOf (K.atV vs (o + 0)))) false) (eqI (S.len (intOf (K.atV vs (o + 0)))) 1)) (bc (ltI 0 ↑n) (bc (Nat.ble (o + 0 + 1) (lenL vs)) (bc (bc (S.okG 0 S.tabV 1) (S.isB (intOf (K.atV vs (o + 0)))) false) (bc (S.pl (intOf (K.atV vs (o + 0)))) (bc (notB (ltI ↑n 1)) (bc (Nat.ble 1 n) (bc (Nat.ble 1 c) (bc (Nat.ble (@bc Nat (Nat.beq c 1) o (o + 1) + 0) (lenL vs)) (bc (ltI 0 ↑n) (bc (Nat.ble (o + 0 + 1) (lenL vs)) (bc (bc (S.okG 0 S.tabV 1) (S.okS (intOf (K.atV vs (o + 0))) 0 0 a) false) (bc (Nat.ble (0 + M) (lenL ss)) (bc (Nat.ble ((M + 1) * 16) 1099511627776) (bc (Nat.ble n n) (bc (Nat.ble 1 n) (bc (Nat.ble n c) (bc (S.lok vs (@bc Nat (Nat.beq c 1) o (o + 1)) (n - 1) (c - 1) (M + 1) (app (sub ss 0 M) (sub (setMany [LV.str []] 0 [LV.str (S.shw (intOf (K.atV vs (o + 0))) 0 0 a)]) 0 1)) (wrapK IntKind.u16 (a + wrapK IntKind.u16 1))) (ls_T m (wrapK IntKind.u16 (a + wrapK IntKind.u16 1)) et (@bc Nat (Nat.beq c 1) o (o + 1)) (n - 1) (c - 1) (M + 1) w vs (app (sub ss 0 M) (sub (setMany [LV.str []] 0 [LV.str (S.shw (intOf (K.atV vs (o + 0))) 0 0 a)]) 0 1)) ∧ bc (Nat.beq n 0) False (LoopState.ready = LoopState.ready ∧ ((none : Option Code) = none ∧ ([10] = [10] ∧ (S.code2 = S.code2 ∧ (S.code3 = S.code3 ∧ ((0 : Nat) = (0 : Nat) ∧ ((0 : Nat) = (0 : Nat) ∧ ((0 : Nat) = (0 : Nat) ∧ ((0 : Nat) = (0 : Nat) ∧ (M + S.lsl vs n o n a = M + 1 + S.lsl vs (n - 1) (@bc Nat (Nat.beq c 1) o (o + 1)) (n - 1) (wrapK IntKind.u16 (a + wrapK IntKind.u16 1)) ∧ (Cap.rest (0 : Nat) = Cap.rest 0 ∧ (app ss (S.ls vs n o n a) = app (app (sub ss 0 M) (sub (setMany [LV.str []] 0 [LV.str (S.shw (intOf (K.atV vs (o + 0))) 0 0 a)]) 0 1)) (S.ls vs (n - 1) (@bc Nat (Nat.beq c 1) o (o + 1)) (n - 1) (wrapK IntKind.u16 (a + wrapK IntKind.u16 1))) ∧ True))))))))))))) False) False) False) False) False) False) False) False) False) False) False) False) (bc (Nat.ble (0 + M) (lenL ss)) (bc (Nat.ble ((M + 1) * 16) 1099511627776) (bc (Nat.ble n n) (bc (Nat.ble 1 n) (bc (Nat.ble n c) (bc (S.lok vs (@bc Nat (Nat.beq c 1) o (o + 1)) (n - 1) (c - 1) (M + 1) (app (sub ss 0 M) (sub (setMany [LV.str []] 0 [LV.str (S.bytes vs o 1)]) 0 1)) (wrapK IntKind.u16 (a + wrapK IntKind.u16 1))) (ls_T m (wrapK IntKind.u16 (a + wrapK IntKind.u16 1)) et (@bc Nat (Nat.beq c 1) o (o + 1)) (n - 1) (c - 1) (M + 1) w vs (app (sub ss 0 M) (sub (setMany [LV.str []] 0 [LV.str (S.bytes vs o 1)]) 0 1)) ∧ bc (Nat.beq n 0) False (LoopState.ready = LoopState.ready ∧ ((none : Option Code) = none ∧ ([10] = [10] ∧ (S.code2 = S.code2 ∧ (S.code3 = S.code3 ∧ ((0 : Nat) = (0 : Nat) ∧ ((0 : Nat) = (0 : Nat) ∧ ((0 : Nat) = (0 : Nat) ∧ ((0 : Nat) = (0 : Nat) ∧ (M + S.lsl vs n o n a = M + 1 + S.lsl vs (n - 1) (@bc Nat (Nat.beq c 1) o (o + 1)) (n - 1) (wrapK IntKind.u16 (a + wrapK IntKind.u16 1)) ∧ (Cap.rest (0 : Nat) = Cap.rest 0 ∧ (app ss (S.ls vs n o n a) = app (app (sub ss 0 M) (sub (setMany [LV.str []] 0 [LV.str (S.bytes vs o 1)]) 0 1)) (S.ls vs (n - 1) (@bc Nat (Nat.beq c 1) o (o + 1)) (n - 1) (wrapK IntKind.u16 (a + wrapK IntKind.u16 1))) ∧ True))))))))))))) False) False) False) False) False) False)) (bc (Nat.ble (0 + M) (lenL ss)) (bc (Nat.ble ((M + 1) * 16) 1099511627776) (bc (Nat.ble n n) (bc (Nat.ble 1 n) (bc (Nat.ble n c) (bc (S.lok vs (@bc Nat (Nat.beq c 1) o (o + 1)) (n - 1) (c - 1) (M + 1) (app (sub ss 0 M) (sub (setMany [LV.str []] 0 [LV.str (S.bytes vs o 1)]) 0 1)) (wrapK IntKind.u16 (a + wrapK IntKind.u16 1))) (ls_T m (wrapK IntKind.u16 (a + wrapK IntKind.u16 1)) et (@bc Nat (Nat.beq c 1) o (o + 1)) (n - 1) (c - 1) (M + 1) w vs (app (sub ss 0 M) (sub (setMany [LV.str []] 0 [LV.str (S.bytes vs o 1)]) 0 1)) ∧ bc (Nat.beq n 0) False (LoopState.ready = LoopState.ready ∧ ((none : Option Code) = none ∧ ([10] = [10] ∧ (S.code2 = S.code2 ∧ (S.code3 = S.code3 ∧ ((0 : Nat) = (0 : Nat) ∧ ((0 : Nat) = (0 : Nat) ∧ ((0 : Nat) = (0 : Nat) ∧ ((0 : Nat) = (0 : Nat) ∧ (M + S.lsl vs n o n a = M + 1 + S.lsl vs (n - 1) (@bc Nat (Nat.beq c 1) o (o + 1)) (n - 1) (wrapK IntKind.u16 (a + wrapK IntKind.u16 1)) ∧ (Cap.rest (0 : Nat) = Cap.rest 0 ∧ (app ss (S.ls vs n o n a) = app (app (sub ss 0 M) (sub (setMany [LV.str []] 0 [LV.str (S.bytes vs o 1)]) 0 1)) (S.ls vs (n - 1) (@bc Nat (Nat.beq c 1) o (o + 1)) (n - 1) (wrapK IntKind.u16 (a + wrapK IntKind.u16 1))) ∧ True))))))))))))) False) False) False) False) False) False)) False) False) False) False) False) False) False) False) False) (bc (Nat.beq n 0) True False)) := by kernel_rfl
theorem lsB1_con (m a : Int) (et o n c M : Nat) (w : Own) (vs ss : List LV) (h0 : S.lok vs o n c M ss a = true) (hk : 0 < n → S.len (S.by1 vs o) = 1) (IH : ∀ (o2 n2 c2 M2 : Nat) (ss2 : List LV) (a2 : Int), n2 < n → S.lok vs o2 n2 c2 M2 ss2 a2 = true → ls_T m a2 et o2 n2 c2 M2 w vs ss2) : GT Tryd.prog (fun k => .code (inner (inner (blkOf 44 0))) :: .inLoop (inner (inner (blkOf 44 0))) :: k) (Fr.ofL 44 54 [(0, .func (.yield 0) [] []), (1, .ptr 3 0), (2, .ptr 5 0)] [] none) (Heap.of [.loop .ready none 18 16 S.LTB [10] S.code2 S.code3 6, .cells 32 .exact [.slice 2 0 M (.rest 0)], .flat [.sr] 9 (.grow 1) ss, .cells 27 .exact [.slice 4 o n (.known c)], .flat [.i .u8] et w vs, .cells 22 .exact [.int .u16 a], .defers false, .glob 0 S.tabV, .glob 1 [.int .i64 m]]) ((bc (Nat.beq n 0) ⟨.exit 0, [], [], []⟩ ⟨.exit 0, [], [(0, .loop .ready none 18 16 S.LTB [10] S.code2 S.code3 6), (1, .cells 32 .exact [.slice 9 0 (M + S.lsl vs n o n a) (.rest 0)]), (2, .dead), (3, .dead), (5, .dead)], [.flat [.sr] 9 (.grow 1) (app ss (S.ls vs n o n a))]⟩) : K.BRes).x (Fr.ofL 44 54 ((bc (Nat.beq n 0) ⟨.exit 0, [], [], []⟩ ⟨.exit 0, [], [(0, .loop .ready none 18 16 S.LTB [10] S.code2 S.code3 6), (1, .cells 32 .exact [.slice 9 0 (M + S.lsl vs n o n a) (.rest 0)]), (2, .dead), (3, .dead), (5, .dead)], [.flat [.sr] 9 (.grow 1) (app ss (S.ls vs n o n a))]⟩) : K.BRes).L [] none) (Heap.of (K.chg [.loop .ready none 18 16 S.LTB [10] S.code2 S.code3 6, .cells 32 .exact [.slice 2 0 M (.rest 0)], .flat [.sr] 9 (.grow 1) ss, .cells 27 .exact [.slice 4 o n (.known c)], .flat [.i .u8] et w vs, .cells 22 .exact [.int .u16 a], .defers false, .glob 0 S.tabV, .glob 1 [.int .i64 m]] ((bc (Nat.beq n 0) ⟨.exit 0, [], [], []⟩ ⟨.exit 0, [], [(0, .loop .ready none 18 16 S.LTB [10] S.code2 S.code3 6), (1, .cells 32 .exact [.slice 9 0 (M + S.lsl vs n o n a) (.rest 0)]), (2, .dead), (3, .dead), (5, .dead)], [.flat [.sr] 9 (.grow 1) (app ss (S.ls vs n o n a))]⟩) : K.BRes).ch ++ ((bc (Nat.beq n 0) ⟨.exit 0, [], [], []⟩ ⟨.exit 0, [], [(0, .loop .ready none 18 16 S.LTB [10] S.code2 S.code3 6), (1, .cells 32 .exact [.slice 9 0 (M + S.lsl vs n o n a) (.rest 0)]), (2, .dead), (3, .dead), (5, .dead)], [.flat [.sr] 9 (.grow 1) (app ss (S.ls vs n o n a))]⟩) : K.BRes).new)) := by
  have hr := cast (lsB1_run m a et o n c M w vs ss).symm (by
    obtain ⟨⟨hR, hc⟩, ⟨hM, hN⟩, hW⟩ := S.lok_iff.1 h0
    obtain ⟨hb, hl, hq⟩ := S.okR_iff.1 hR
    by_cases hn : 0 < n
    rotate_left
    · have z : n = 0 := by omega
      subst z
      have e : ltI 0 ((0 : Nat) : Int) = false := rfl
      have z2 : Nat.beq 0 0 = true := rfl
      simp only [e, z2, bc_false, bc_true]
    have hk := hk hn
    have bM : Nat.ble M (lenL ss) = true := S.bleN.2 (by omega)
    have b4 : Nat.ble ((M + 1) * 16) 1099511627776 = true := S.bleN.2 (by omega)
    have sa := S.sub_all hM
    have st : ∀ x : List UInt8, sub (setMany [LV.str []] 0 [LV.str x]) 0 1 = [LV.str x] := fun x => rfl
    have e1 : ltI 0 (n : Int) = true := ltI_true.2 (by omega)
    have nz := S.nz_of hn
    have b0 : Nat.ble n n = true := S.bleN.2 (Nat.le_refl n)
    have b1 : Nat.ble 1 n = true := S.bleN.2 hn
    have b2 : Nat.ble 1 c = true := S.bleN.2 (by omega)
    have b3 : Nat.ble n c = true := S.bleN.2 hc
    have r1 : S.okR vs o 1 = true := S.okR_iff.2 ⟨hb, by omega, by decide⟩
    have bl : Nat.ble (o + 1) (lenL vs) = true := S.bleN.2 (by omega)
    have g0 := S.okB_at hb (i := o) (by omega)
    have iB : S.isB (intOf (K.atV vs o)) = true := S.isB_iff.2 g0
    have hG := S.okG_0
    have hkE : eqI (S.len (intOf (K.atV vs o))) 1 = true := eqI_true.2 hk
    have at2 : S.an true true = true := rfl
    cases hp : S.pl (intOf (K.atV vs o)) with
    | false =>
      have hC : S.isC vs o n = false := S.isC_p hp
      obtain ⟨o2, ho2, bx, hlk, hgo, w2⟩ := S.ls_tail (k := 1) (M2 := (M + 1)) (ss2 := (app ss [LV.str (S.bytes vs o 1)] : List LV)) (X := S.bytes vs o 1) (c := c) (a := a) (by decide) hb hl hc (by omega) (by omega) hW (S.stp_f hC) (S.lin_f hC) (by rw [S.lenL_app, hM]; rfl)
      have w2 : wrapK .u16 (a + wrapK .u16 1) = S.nxt a 1 := w2
      have ih := IH o2 (n - 1) (c - 1) (M + 1) (app ss [LV.str (S.bytes vs o 1)] : List LV) (S.nxt a 1) (by omega) hlk
      simp only [e1, nz, b0, b1, b2, b3, r1, bl, iB, hG, hkE, at2, bM, b4, sa, st, Nat.add_zero, Nat.zero_add, bc_true, bc_false, notB_t, notB_f, true_and, and_true, ← ho2, w2, hlk, hp]
      refine ⟨ih, ?_, ?_⟩
      · unfold S.lsl
        rw [hgo, S.lenL_cons]; omega
      · rw [hgo, S.app_app]; rfl
    | true =>
      by_cases hkn : 1 ≤ n
      rotate_left
      · have hC : S.isC vs o n = false := S.isC_n (by rw [hk]; omega)
        have ek : ltI (n : Int) 1 = true := ltI_true.2 (by omega)
        obtain ⟨o2, ho2, bx, hlk, hgo, w2⟩ := S.ls_tail (k := 1) (M2 := (M + 1)) (ss2 := (app ss [LV.str (S.bytes vs o 1)] : List LV)) (X := S.bytes vs o 1) (c := c) (a := a) (by decide) hb hl hc (by omega) (by omega) hW (S.stp_f hC) (S.lin_f hC) (by rw [S.lenL_app, hM]; rfl)
        have w2 : wrapK .u16 (a + wrapK .u16 1) = S.nxt a 1 := w2
        have ih := IH o2 (n - 1) (c - 1) (M + 1) (app ss [LV.str (S.bytes vs o 1)] : List LV) (S.nxt a 1) (by omega) hlk
        simp only [e1, nz, b0, b1, b2, b3, r1, bl, iB, hG, hkE, at2, bM, b4, sa, st, Nat.add_zero, Nat.zero_add, bc_true, bc_false, notB_t, notB_f, true_and, and_true, ← ho2, w2, hlk, hp, ek]
        refine ⟨ih, ?_, ?_⟩
        · unfold S.lsl
          rw [hgo, S.lenL_cons]; omega
        · rw [hgo, S.app_app]; rfl
      have hC : S.isC vs o n = true := S.isC_t hp (by rw [hk]; omega)
      have ek : ltI (n : Int) 1 = false := ltI_false.2 (by omega)
      have b5 : Nat.ble 1 n = true := S.bleN.2 hkn
      have b6 : Nat.ble 1 c = true := S.bleN.2 (by omega)
      have oS : S.okS (intOf (K.atV vs o)) 0 0 a = true := S.okS_iff.2 ⟨g0, by decide, by decide, hW⟩
      obtain ⟨o2, ho2, bx, hlk, hgo, w2⟩ := S.ls_tail (k := 1) (M2 := (M + 1)) (ss2 := (app ss [LV.str (S.shw (intOf (K.atV vs o)) 0 0 a)] : List LV)) (X := S.shw (intOf (K.atV vs o)) 0 0 a) (c := c) (a := a) (by decide) hb hl hc (by omega) (by omega) hW (S.stp_t hC hk) (S.lin_1 hC hk) (by rw [S.lenL_app, hM]; rfl)
      have w2 : wrapK .u16 (a + wrapK .u16 1) = S.nxt a 1 := w2
      have ih := IH o2 (n - 1) (c - 1) (M + 1) (app ss [LV.str (S.shw (intOf (K.atV vs o)) 0 0 a)] : List LV) (S.nxt a 1) (by omega) hlk
      simp only [e1, nz, b0, b1, b2, b3, r1, bl, iB, hG, hkE, at2, bM, b4, sa, st, Nat.add_zero, Nat.zero_add, bc_true, bc_false, notB_t, notB_f, true_and, and_true, ← ho2, w2, hlk, hp, ek, b5, b6, oS, bx]
      refine ⟨ih, ?_, ?_⟩
      · unfold S.lsl
        rw [hgo, S.lenL_cons]; omega
      · rw [hgo, S.app_app]; rfl)
  obtain ⟨q1, q2⟩ := K.RunL2.one hr
  cases hb : Nat.beq n 0
  · exact K.loop_of_run good (envK_ok (fun p hp => by simp only [List.mem_cons, List.not_mem_nil, or_false] at hp; rcases hp with rfl | rfl | rfl | rfl <;> first | exact by_ok | exact ln1_ok | exact pl_ok | exact sh_ok)) K.openE_ok (q2 hb)
  · exact K.loop_of_run good (envK_ok (fun p hp => by simp only [List.mem_cons, List.not_mem_nil, or_false] at hp; rcases hp with rfl | rfl | rfl | rfl <;> first | exact by_ok | exact ln1_ok | exact pl_ok | exact sh_ok)) K.openE_ok (q1 hb)
theorem lsA1_run (m a : Int) (et o n c : Nat) (w : Own) (vs : List LV) : K.RunL (envK [(15, byE), (20, ln1E), (45, plE), (10, shE)] (fun g id => none) (fun g i => bc (Nat.beq g 18) (hasN [5] i) (true))) K.openE 30 44 54 (inner (inner (blkOf 44 0))) lsEB [(0, .func (.yield 0) [] []), (1, .ptr 2 0), (2, .ptr 4 0)] [.loop .ready none 18 16 S.LTA [10] S.code2 S.code3 5, .cells 32 .exact [.nils], .cells 27 .exact [.slice 3 o n (.known c)], .flat [.i .u8] et w vs, .cells 22 .exact [.int .u16 a], .defers false, .glob 0 S.tabV, .glob 1 [.int .i64 m]] Hint.auto ⟨.exit 0, [], [(0, .loop .ready none 18 16 S.LTA [10] S.code2 S.code3 5), (1, .cells 32 .exact [.slice 8 0 (S.lsl vs n o n a) (.rest 0)]), (2, .dead), (4, .dead)], [.flat [.sr] 9 (.grow 1) (S.ls vs n o n a)]⟩ =
    (bc (ltI 0 ↑n) (bc (Nat.ble 1 n) (bc (Nat.ble 1 c) (bc (S.okR vs o 1) (bc (ltI 0 ↑n) (bc (Nat.ble (o + 0 + 1) (lenL vs)) (bc (S.an (bc (S.okG 0 S.tabV 1) (S.isB (intOf (K.atV vs (o + 0)))) false) (eqI (S.len (intOf (K.atV vs (o + 0)))) 1)) (bc (ltI 0 ↑n) (bc (Nat.ble (o + 0 + 1) (lenL vs)) (bc (bc (S.okG 0 S.tabV 1) (S.isB (intOf (K.atV vs (o + 0)))) false) (bc (S.pl (intOf (K.atV vs (o + 0)))) (bc (notB (ltI ↑n 1)) (bc (Nat.ble 1 n) (bc (Nat.ble 1 c) (bc (Nat.ble (@bc Nat (Nat.beq c 1) o (o + 1) + 0) (lenL vs)) (bc (ltI 0 ↑n) (bc (Nat.ble (o + 0 + 1) (lenL vs)) (bc (bc (S.okG 0 S.tabV 1) (S.okS (intOf (K.atV vs (o + 0))) 0 0 a) false) (bc (Nat.ble n n) (bc (Nat.ble 1 n) (bc (Nat.ble n c) (bc (S.lok vs (@bc Nat (Nat.beq c 1) o (o + 1)) (n - 1) (c - 1) 1 [LV.str (S.shw (intOf (K.atV vs (o + 0))) 0 0 a)] (wrapK IntKind.u16 (a + wrapK IntKind.u16 1))) (ls_T m (wrapK IntKind.u16 (a + wrapK IntKind.u16 1)) et (@bc Nat (Nat.beq c 1) o (o + 1)) (n - 1) (c - 1) 1 w vs [LV.str (S.shw (intOf (K.atV vs (o + 0))) 0 0 a)] ∧ (LoopState.ready = LoopState.ready ∧ ((none : Option Code) = none ∧ ([10] = [10] ∧ (S.code2 = S.code2 ∧ (S.code3 = S.code3 ∧ ((0 : Nat) = (0 : Nat) ∧ ((0 : Nat) = (0 : Nat) ∧ ((0 : Nat) = (0 : Nat) ∧ ((0 : Nat) = (0 : Nat) ∧ (S.lsl vs n o n a = (1 : Nat) + S.lsl vs (n - 1) (@bc Nat (Nat.beq c 1) o (o + 1)) (n - 1) (wrapK IntKind.u16 (a + wrapK IntKind.u16 1)) ∧ (Cap.rest (0 : Nat) = Cap.rest 0 ∧ (S.ls vs n o n a = app [LV.str (S.shw (intOf (K.atV vs (o + 0))) 0 0 a)] (S.ls vs (n - 1) (@bc Nat (Nat.beq c 1) o (o + 1)) (n - 1) (wrapK IntKind.u16 (a + wrapK IntKind.u16 1))) ∧ True))))))))))))) False) False) False) False) False) False) False) False) False) False) (bc (Nat.ble n n) (bc (Nat.ble 1 n) (bc (Nat.ble n c) (bc (S.lok vs (@bc Nat (Nat.beq c 1) o (o + 1)) (n - 1) (c - 1) 1 [LV.str (S.bytes vs o 1)] (wrapK IntKind.u16 (a + wrapK IntKind.u16 1))) (ls_T m (wrapK IntKind.u16 (a + wrapK IntKind.u16 1)) et (@bc Nat (Nat.beq c 1) o (o + 1)) (n - 1) (c - 1) 1 w vs [LV.str (S.bytes vs o 1)] ∧ (LoopState.ready = LoopState.ready ∧ ((none : Option Code) = none ∧ ([10] = [10] ∧ (S.code2 = S.code2 ∧ (S.code3 = S.code3 ∧ ((0 : Nat) = (0 : Nat) ∧ ((0 : Nat) = (0 : Nat) ∧ ((0 : Nat) = (0 : Nat) ∧ ((0 : Nat) = (0 : Nat) ∧ (S.lsl vs n o n a = (1 : Nat) + S.lsl vs (n - 1) (@bc Nat (Nat.beq c 1) o (o + 1)) (n - 1) (wrapK IntKind.u16 (a + wrapK IntKind.u16 1)) ∧ (Cap.rest (0 : Nat) = Cap.rest 0 ∧ (S.ls vs n o n a = app [LV.str (S.bytes vs o 1)] (S.ls vs (n - 1) (@bc Nat (Nat.beq c 1) o (o + 1)) (n - 1) (wrapK IntKind.u16 (a + wrapK IntKind.u16 1))) ∧ True))))))))))))) False) False) False) False)) (bc (Nat.ble n n) (bc (Nat.ble 1 n) (bc (Nat.ble n c) (bc (S.lok vs (@bc Nat (Nat.beq c 1) o (o + 1)) (n - 1) (c - 1) 1 [LV.str (S.bytes vs o 1)] (wrapK IntKind.u16 (a + wrapK IntKind.u16 1))) (ls_T m (wrapK IntKind.u16 (a + wrapK IntKind.u16 1)) et (@bc Nat (Nat.beq c 1) o (o + 1)) (n - 1) (c - 1) 1 w vs [LV.str (S.bytes vs o 1)] ∧ (LoopState.ready = LoopState.ready ∧ ((none : Option Code) = none ∧ ([10] = [10] ∧ (S.code2 = S.code2 ∧ (S.code3 = S.code3 ∧ ((0 : Nat) = (0 : Nat) ∧ ((0 : Nat) = (0 : Nat) ∧ ((0 : Nat) = (0 : Nat) ∧ ((0 : Nat) = (0 : Nat) ∧ (S.lsl vs n o n a = (1 : Nat) + S.lsl vs (n - 1) (@bc Nat (Nat.beq c 1) o (o + 1)) (n - 1) (wrapK IntKind.u16 (a + wrapK IntKind.u16 1)) ∧ (Cap.rest (0 : Nat) = Cap.rest 0 ∧ (S.ls vs n o n a = app [LV.str (S.bytes vs o 1)] (S.ls vs (n - 1) (@bc Nat (Nat.beq c 1) o (o + 1)) (n - 1) (wrapK IntKind.u16 (a + wrapK IntKind.u16 1))) ∧ True))))))))))))) False) False) False) False)) False) False) False) False) False) False) False) False) False) False) := by kernel_rfl
theorem lsA1_con (m a : Int) (et o n c : Nat) (w : Own) (vs : List LV) (h0 : S.lok vs o n c 0 [] a = true) (h1 : 0 < n) (hk : S.len (S.by1 vs o) = 1) (IH : ∀ (o2 n2 c2 M2 : Nat) (ss2 : List LV) (a2 : Int), n2 < n → S.lok vs o2 n2 c2 M2 ss2 a2 = true → ls_T m a2 et o2 n2 c2 M2 w vs ss2) : GT Tryd.prog (fun k => .code (inner (inner (blkOf 44 0))) :: .inLoop (inner (inner (blkOf 44 0))) :: k) (Fr.ofL 44 54 [(0, .func (.yield 0) [] []), (1, .ptr 2 0), (2, .ptr 4 0)] [] none) (Heap.of [.loop .ready none 18 16 S.LTA [10] S.code2 S.code3 5, .cells 32 .exact [.nils], .cells 27 .exact [.slice 3 o n (.known c)], .flat [.i .u8] et w vs, .cells 22 .exact [.int .u16 a], .defers false, .glob 0 S.tabV, .glob 1 [.int .i64 m]]) (⟨.exit 0, [], [(0, .loop .ready none 18 16 S.LTA [10] S.code2 S.code3 5), (1, .cells 32 .exact [.slice 8 0 (S.lsl vs n o n a) (.rest 0)]), (2, .dead), (4, .dead)], [.flat [.sr] 9 (.grow 1) (S.ls vs n o n a)]⟩ : K.BRes).x (Fr.ofL 44 54 (⟨.exit 0, [], [(0, .loop .ready none 18 16 S.LTA [10] S.code2 S.code3 5), (1, .cells 32 .exact [.slice 8 0 (S.lsl vs n o n a) (.rest 0)]), (2, .dead), (4, .dead)], [.flat [.sr] 9 (.grow 1) (S.ls vs n o n a)]⟩ : K.BRes).L [] none) (Heap.of (K.chg [.loop .ready none 18 16 S.LTA [10] S.code2 S.code3 5, .cells 32 .exact [.nils], .cells 27 .exact [.slice 3 o n (.known c)], .flat [.i .u8] et w vs, .cells 22 .exact [.int .u16 a], .defers false, .glob 0 S.tabV, .glob 1 [.int .i64 m]] (⟨.exit 0, [], [(0, .loop .ready none 18 16 S.LTA [10] S.code2 S.code3 5), (1, .cells 32 .exact [.slice 8 0 (S.lsl vs n o n a) (.rest 0)]), (2, .dead), (4, .dead)], [.flat [.sr] 9 (.grow 1) (S.ls vs n o n a)]⟩ : K.BRes).ch ++ (⟨.exit 0, [], [(0, .loop .ready none 18 16 S.LTA [10] S.code2 S.code3 5), (1, .cells 32 .exact [.slice 8 0 (S.lsl vs n o n a) (.rest 0)]), (2, .dead), (4, .dead)], [.flat [.sr] 9 (.grow 1) (S.ls vs n o n a)]⟩ : K.BRes).new)) := by
  refine K.loop_of_run good (A := envK [(15, byE), (20, ln1E), (45, plE), (10, shE)] (fun g id => none) (fun g i => bc (Nat.beq g 18) (hasN [5] i) (true))) (envK_ok ?_) K.openE_ok (k := 30) (ent := lsEB) (cast (lsA1_run m a et o n c w vs).symm ?_)
  · intro p hp; simp only [List.mem_cons, List.not_mem_nil, or_false] at hp; rcases hp with rfl | rfl | rfl | rfl <;> first | exact by_ok | exact ln1_ok | exact pl_ok | exact sh_ok
  · obtain ⟨⟨hR, hc⟩, ⟨hM, hN⟩, hW⟩ := S.lok_iff.1 h0
    obtain ⟨hb, hl, hq⟩ := S.okR_iff.1 hR
    have hn := h1
    have e1 : ltI 0 (n : Int) = true := ltI_true.2 (by omega)
    have nz := S.nz_of hn
    have b0 : Nat.ble n n = true := S.bleN.2 (Nat.le_refl n)
    have b1 : Nat.ble 1 n = true := S.bleN.2 hn
    have b2 : Nat.ble 1 c = true := S.bleN.2 (by omega)
    have b3 : Nat.ble n c = true := S.bleN.2 hc
    have r1 : S.okR vs o 1 = true := S.okR_iff.2 ⟨hb, by omega, by decide⟩
    have bl : Nat.ble (o + 1) (lenL vs) = true := S.bleN.2 (by omega)
    have g0 := S.okB_at hb (i := o) (by omega)
    have iB : S.isB (intOf (K.atV vs o)) = true := S.isB_iff.2 g0
    have hG := S.okG_0
    have hkE : eqI (S.len (intOf (K.atV vs o))) 1 = true := eqI_true.2 hk
    have at2 : S.an true true = true := rfl
    cases hp : S.pl (intOf (K.atV vs o)) with
    | false =>
      have hC : S.isC vs o n = false := S.isC_p hp
      obtain ⟨o2, ho2, bx, hlk, hgo, w2⟩ := S.ls_tail (k := 1) (M2 := 1) (ss2 := ([LV.str (S.bytes vs o 1)] : List LV)) (X := S.bytes vs o 1) (c := c) (a := a) (by decide) hb hl hc (by omega) (by omega) hW (S.stp_f hC) (S.lin_f hC) (rfl)
      have w2 : wrapK .u16 (a + wrapK .u16 1) = S.nxt a 1 := w2
      have ih := IH o2 (n - 1) (c - 1) 1 ([LV.str (S.bytes vs o 1)] : List LV) (S.nxt a 1) (by omega) hlk
      simp only [e1, nz, b0, b1, b2, b3, r1, bl, iB, hG, hkE, at2, Nat.add_zero, Nat.zero_add, bc_true, bc_false, notB_t, notB_f, true_and, and_true, ← ho2, w2, hlk, hp]
      refine ⟨ih, ?_, ?_⟩
      · unfold S.lsl
        rw [hgo, S.lenL_cons]; omega
      · rw [hgo]; rfl
    | true =>
      by_cases hkn : 1 ≤ n
      rotate_left
      · have hC : S.isC vs o n = false := S.isC_n (by rw [hk]; omega)
        have ek : ltI (n : Int) 1 = true := ltI_true.2 (by omega)
        obtain ⟨o2, ho2, bx, hlk, hgo, w2⟩ := S.ls_tail (k := 1) (M2 := 1) (ss2 := ([LV.str (S.bytes vs o 1)] : List LV)) (X := S.bytes vs o 1) (c := c) (a := a) (by decide) hb hl hc (by omega) (by omega) hW (S.stp_f hC) (S.lin_f hC) (rfl)
        have w2 : wrapK .u16 (a + wrapK .u16 1) = S.nxt a 1 := w2
        have ih := IH o2 (n - 1) (c - 1) 1 ([LV.str (S.bytes vs o 1)] : List LV) (S.nxt a 1) (by omega) hlk
        simp only [e1, nz, b0, b1, b2, b3, r1, bl, iB, hG, hkE, at2, Nat.add_zero, Nat.zero_add, bc_true, bc_false, notB_t, notB_f, true_and, and_true, ← ho2, w2, hlk, hp, ek]
        refine ⟨ih, ?_, ?_⟩
        · unfold S.lsl
          rw [hgo, S.lenL_cons]; omega
        · rw [hgo]; rfl
      have hC : S.isC vs o n = true := S.isC_t hp (by rw [hk]; omega)
      have ek : ltI (n : Int) 1 = false := ltI_false.2 (by omega)
      have b5 : Nat.ble 1 n = true := S.bleN.2 hkn
      have b6 : Nat.ble 1 c = true := S.bleN.2 (by omega)
      have oS : S.okS (intOf (K.atV vs o)) 0 0 a = true := S.okS_iff.2 ⟨g0, by decide, by decide, hW⟩
      obtain ⟨o2, ho2, bx, hlk, hgo, w2⟩ := S.ls_tail (k := 1) (M2 := 1) (ss2 := ([LV.str (S.shw (intOf (K.atV vs o)) 0 0 a)] : List LV)) (X := S.shw (intOf (K.atV vs o)) 0 0 a) (c := c) (a := a) (by decide) hb hl hc (by omega) (by omega) hW (S.stp_t hC hk) (S.lin_1 hC hk) (rfl)
      have w2 : wrapK .u16 (a + wrapK .u16 1) = S.nxt a 1 := w2
      have ih := IH o2 (n - 1) (c - 1) 1 ([LV.str (S.shw (intOf (K.atV vs o)) 0 0 a)] : List LV) (S.nxt a 1) (by omega) hlk
      simp only [e1, nz, b0, b1, b2, b3, r1, bl, iB, hG, hkE, at2, Nat.add_zero, Nat.zero_add, bc_true, bc_false, notB_t, notB_f, true_and, and_true, ← ho2, w2, hlk, hp, ek, b5, b6, oS, bx]
      refine ⟨ih, ?_, ?_⟩
      · unfold S.lsl
        rw [hgo, S.lenL_cons]; omega
      · rw [hgo]; rfl
theorem lsB2_run (m a : Int) (et o n c M : Nat) (w : Own) (vs ss : List LV) : K.RunL2 (envK [(15, byE), (20, ln2E), (45, plE), (10, shE)] (fun g id => none) (fun g i => bc (Nat.beq g 18) (hasN [5] i) (true))) K.openE 30 44 54 (inner (inner (blkOf 44 0))) lsEB [(0, .func (.yield 0) [] []), (1, .ptr 3 0), (2, .ptr 5 0)] [.loop .ready none 18 16 S.LTB [10] S.code2 S.code3 6, .cells 32 .exact [.slice 2 0 M (.rest 0)], .flat [.sr] 9 (.grow 1) ss, .cells 27 .exact [.slice 4 o n (.known c)], .flat [.i .u8] et w vs, .cells 22 .exact [.int .u16 a], .defers false, .glob 0 S.tabV, .glob 1 [.int .i64 m]] Hint.auto (Nat.beq n 0) ⟨.exit 0, [], [], []⟩ ⟨.exit 0, [], [(0, .loop .ready none 18 16 S.LTB [10] S.code2 S.code3 6), (1, .cells 32 .exact [.slice 9 0 (M + S.lsl vs n o n a) (.rest 0)]), (2, .dead), (3, .dead), (5, .dead)], [.flat [.sr] 9 (.grow 1) (app ss (S.ls vs n o n a))]⟩ =
    (bc (ltI 0 ↑n) (bc (Nat.ble 1 n) (bc (Nat.ble 1 c) (bc (S.okR vs o 1) (bc (ltI 0 ↑n) (bc (Nat.ble (o + 0 + 1) (lenL vs)) (bc (S.an (bc (S.okG 0 S.tabV 1) (S.isB (intOf (K.atV vs (o + 0)))) false) (eqI (S.len (intOf (K.atV vs (o + 0)))) 2)) (bc (ltI 0 ↑n) (bc (Nat.ble (o + 0 + 1) (lenL vs)) (bc (bc (S.okG 0 S.tabV 1) (S.isB (intOf (K.atV vs (o + 0)))) false) (bc (S.pl (intOf (K.atV vs (o + 0)))) (bc (notB (ltI ↑n 2)) (bc (Nat.ble 2 n) (bc (Nat.ble 2 c) (bc (Nat.ble (@bc Nat (Nat.beq c 1) o (o + 1) + 1) (lenL vs)) (bc (ltI 0 ↑n) (bc (Nat.ble (o + 0 + 1) (lenL vs)) (bc (bc (S.okG 0 S.tabV 1) (S.okS (intOf (K.atV vs (o + 0))) (intOf (K.atV vs (@bc Nat (Nat.beq c 1) o (o + 1)))) 0 a) false) (bc (Nat.ble (0 + M) (lenL ss)) (bc (Nat.ble ((M + 1) * 16) 1099511627776) (bc (Nat.ble n n) (bc (Nat.ble 2 n) (bc (Nat.ble n c) (bc (S.lok vs (@bc Nat (Nat.beq c 2) o (o + 2)) (n - 2) (c - 2) (M + 1) (app (sub ss 0 M) (sub (setMany [LV.str []] 0 [LV.str (S.shw (intOf (K.atV vs (o + 0))) (intOf (K.atV vs (@bc Nat (Nat.beq c 1) o (o + 1)))) 0 a)]) 0 1)) (wrapK IntKind.u16 (a + wrapK IntKind.u16 2))) (ls_T m (wrapK IntKind.u16 (a + wrapK IntKind.u16 2)) et (@bc Nat (Nat.beq c 2) o (o + 2)) (n - 2) (c - 2) (M + 1) w vs (app (sub ss 0 M) (sub (setMany [LV.str []] 0 [LV.str (S.shw (intOf (K.atV vs (o + 0))) (intOf (K.atV vs (@bc Nat (Nat.beq c 1) o (o + 1)))) 0 a)]) 0 1)) ∧ bc (Nat.beq n 0) False (LoopState.ready = LoopState.ready ∧ ((none : Option Code) = none ∧ ([10] = [10] ∧ (S.code2 = S.code2 ∧ (S.code3 = S.code3 ∧ ((0 : Nat) = (0 : Nat) ∧ ((0 : Nat) = (0 : Nat) ∧ ((0 : Nat) = (0 : Nat) ∧ ((0 : Nat) = (0 : Nat) ∧ (M + S.lsl vs n o n a = M + 1 + S.lsl vs (n - 2) (@bc Nat (Nat.beq c 2) o (o + 2)) (n - 2) (wrapK IntKind.u16 (a + wrapK IntKind.u16 2)) ∧ (Cap.rest (0 : Nat) = Cap.rest 0 ∧ (app ss (S.ls vs n o n a) = app (app (sub ss 0 M) (sub (setMany [LV.str []] 0 [LV.str (S.shw (intOf (K.atV vs (o + 0))) (intOf (K.atV vs (@bc Nat (Nat.beq c 1) o (o + 1)))) 0 a)]) 0 1)) (S.ls vs (n - 2) (@bc Nat (Nat.beq c 2) o (o + 2)) (n - 2) (wrapK IntKind.u16 (a + wrapK IntKind.u16 2))) ∧ True))))))))))))) False) False) False) False) False) False) False) False) False) False) False) False) (bc (Nat.ble (0 + M) (lenL ss)) (bc (Nat.ble ((M + 1) * 16) 1099511627776) (bc (Nat.ble n n) (bc (Nat.ble 1 n) (bc (Nat.ble n c) (bc (S.lok vs (@bc Nat (Nat.beq c 1) o (o + 1)) (n - 1) (c - 1) (M + 1) (app (sub ss 0 M) (sub (setMany [LV.str []] 0 [LV.str (S.bytes vs o 1)]) 0 1)) (wrapK IntKind.u16 (a + wrapK IntKind.u16 1))) (ls_T m (wrapK IntKind.u16 (a + wrapK IntKind.u16 1)) et (@bc Nat (Nat.beq c 1) o (o + 1)) (n - 1) (c - 1) (M + 1) w vs (app (sub ss 0 M) (sub (setMany [LV.str []] 0 [LV.str (S.bytes vs o 1)]) 0 1)) ∧ bc (Nat.beq n 0) False (LoopState.ready = LoopState.ready ∧ ((none : Option Code) = none ∧ ([10] = [10] ∧ (S.code2 = S.code2 ∧ (S.code3 = S.code3 ∧ ((0 : Nat) = (0 : Nat) ∧ ((0 : Nat) = (0 : Nat) ∧ ((0 : Nat) = (0 : Nat) ∧ ((0 : Nat) = (0 : Nat) ∧ (M + S.lsl vs n o n a = M + 1 + S.lsl vs (n - 1) (@bc Nat (Nat.beq c 1) o (o + 1)) (n - 1) (wrapK IntKind.u16 (a + wrapK IntKind.u16 1)) ∧ (Cap.rest (0 : Nat) = Cap.rest 0 ∧ (app ss (S.ls vs n o n a) = app (app (sub ss 0 M) (sub (setMany [LV.str []] 0 [LV.str (S.bytes vs o 1)]) 0 1)) (S.ls vs (n - 1) (@bc Nat (Nat.beq c 1) o (o + 1)) (n - 1) (wrapK IntKind.u16 (a + wrapK IntKind.u16 1))) ∧ True))))))))))))) False) False) False) False) False) False)) (bc (Nat.ble (0 + M) (lenL ss)) (bc (Nat.ble ((M + 1) * 16) 1099511627776) (bc (Nat.ble n n) (bc (Nat.ble 1 n) (bc (Nat.ble n c) (bc (S.lok vs (@bc Nat (Nat.beq c 1) o (o + 1)) (n - 1) (c - 1) (M + 1) (app (sub ss 0 M) (sub (setMany [LV.str []] 0 [LV.str (S.bytes vs o 1)]) 0 1)) (wrapK IntKind.u16 (a + wrapK IntKind.u16 1))) (ls_T m (wrapK IntKind.u16 (a + wrapK IntKind.u16 1)) et (@bc Nat (Nat.beq c 1) o (o + 1)) (n - 1) (c - 1) (M + 1) w vs (app (sub ss 0 M) (sub (setMany [LV.str []] 0 [LV.str (S.bytes vs o 1)]) 0 1)) ∧ bc (Nat.beq n 0) False (LoopState.ready = LoopState.ready ∧ ((none : Option Code) = none ∧ ([10] = [10] ∧ (S.code2 = S.code2 ∧ (S.code3 = S.code3 ∧ ((0 : Nat) = (0 : Nat) ∧ ((0 : Nat) = (0 : Nat) ∧ ((0 : Nat) = (0 : Nat) ∧ ((0 : Nat) = (0 : Nat) ∧ (M + S.lsl vs n o n a = M + 1 + S.lsl vs (n - 1) (@bc Nat (Nat.beq c 1) o (o + 1)) (n - 1) (wrapK IntKind.u16 (a + wrapK IntKind.u16 1)) ∧ (Cap.rest (0 : Nat) = Cap.rest 0 ∧ (app ss (S.ls vs n o n a) = app (app (sub ss 0 M) (sub (setMany [LV.str []] 0 [LV.str (S.bytes vs o 1)]) 0 1)) (S.ls vs (n - 1) (@bc Nat (Nat.beq c 1) o (o + 1)) (n - 1) (wrapK IntKind.u16 (a + wrapK IntKind.u16 1))) ∧ True))))))))))))) False) False) False) False) False) False)) False) False) False) False) False) False) False) False) False) (bc (Nat.beq n 0) True False)) := by kernel_rfl
theorem lsB2_con (m a : Int) (et o n c M : Nat) (w : Own) (vs ss : List LV) (h0 : S.lok vs o n c M ss a = true) (hk : 0 < n → S.len (S.by1 vs o) = 2) (IH : ∀ (o2 n2 c2 M2 : Nat) (ss2 : List LV) (a2 : Int), n2 < n → S.lok vs o2 n2 c2 M2 ss2 a2 = true → ls_T m a2 et o2 n2 c2 M2 w vs ss2) : GT Tryd.prog (fun k => .code (inner (inner (blkOf 44 0))) :: .inLoop (inner (inner (blkOf 44 0))) :: k) (Fr.ofL 44 54 [(0, .func (.yield 0) [] []), (1, .ptr 3 0), (2, .ptr 5 0)] [] none) (Heap.of [.loop .ready none 18 16 S.LTB [10] S.code2 S.code3 6, .cells 32 .exact [.slice 2 0 M (.rest 0)], .flat [.sr] 9 (.grow 1) ss, .cells 27 .exact [.slice 4 o n (.known c)], .flat [.i .u8] et w vs, .cells 22 .exact [.int .u16 a], .defers false, .glob 0 S.tabV, .glob 1 [.int .i64 m]]) ((bc (Nat.beq n 0) ⟨.exit 0, [], [], []⟩ ⟨.exit 0, [], [(0, .loop .ready none 18 16 S.LTB [10] S.code2 S.code3 6), (1, .cells 32 .exact [.slice 9 0 (M + S.lsl vs n o n a) (.rest 0)]), (2, .dead), (3, .dead), (5, .dead)], [.flat [.sr] 9 (.grow 1) (app ss (S.ls vs n o n a))]⟩) : K.BRes).x (Fr.ofL 44 54 ((bc (Nat.beq n 0) ⟨.exit 0, [], [], []⟩ ⟨.exit 0, [], [(0, .loop .ready none 18 16 S.LTB [10] S.code2 S.code3 6), (1, .cells 32 .exact [.slice 9 0 (M + S.lsl vs n o n a) (.rest 0)]), (2, .dead), (3, .dead), (5, .dead)], [.flat [.sr] 9 (.grow 1) (app ss (S.ls vs n o n a))]⟩) : K.BRes).L [] none) (Heap.of (K.chg [.loop .ready none 18 16 S.LTB [10] S.code2 S.code3 6, .cells 32 .exact [.slice 2 0 M (.rest 0)], .flat [.sr] 9 (.grow 1) ss, .cells 27 .exact [.slice 4 o n (.known c)], .flat [.i .u8] et w vs, .cells 22 .exact [.int .u16 a], .defers false, .glob 0 S.tabV, .glob 1 [.int .i64 m]] ((bc (Nat.beq n 0) ⟨.exit 0, [], [], []⟩ ⟨.exit 0, [], [(0, .loop .ready none 18 16 S.LTB [10] S.code2 S.code3 6), (1, .cells 32 .exact [.slice 9 0 (M + S.lsl vs n o n a) (.rest 0)]), (2, .dead), (3, .dead), (5, .dead)], [.flat [.sr] 9 (.grow 1) (app ss (S.ls vs n o n a))]⟩) : K.BRes).ch ++ ((bc (Nat.beq n 0) ⟨.exit 0, [], [], []⟩ ⟨.exit 0, [], [(0, .loop .ready none 18 16 S.LTB [10] S.code2 S.code3 6), (1, .cells 32 .exact [.slice 9 0 (M + S.lsl vs n o n a) (.rest 0)]), (2, .dead), (3, .dead), (5, .dead)], [.flat [.sr] 9 (.grow 1) (app ss (S.ls vs n o n a))]⟩) : K.BRes).new)) := by
  have hr := cast (lsB2_run m a et o n c M w vs ss).symm (by
    obtain ⟨⟨hR, hc⟩, ⟨hM, hN⟩, hW⟩ := S.lok_iff.1 h0
    obtain ⟨hb, hl, hq⟩ := S.okR_iff.1 hR
    by_cases hn : 0 < n
    rotate_left
    · have z : n = 0 := by omega
      subst z
      have e : ltI 0 ((0 : Nat) : Int) = false := rfl
      have z2 : Nat.beq 0 0 = true := rfl
      simp only [e, z2, bc_false, bc_true]
    have hk := hk hn
    have bM : Nat.ble M (lenL ss) = true := S.bleN.2 (by omega)
    have b4 : Nat.ble ((M + 1) * 16) 1099511627776 = true := S.bleN.2 (by omega)
    have sa := S.sub_all hM
    have st : ∀ x : List UInt8, sub (setMany [LV.str []] 0 [LV.str x]) 0 1 = [LV.str x] := fun x => rfl
    have e1 : ltI 0 (n : Int) = true := ltI_true.2 (by omega)
    have nz := S.nz_of hn
    have b0 : Nat.ble n n = true := S.bleN.2 (Nat.le_refl n)
    have b1 : Nat.ble 1 n = true := S.bleN.2 hn
    have b2 : Nat.ble 1 c = true := S.bleN.2 (by omega)
    have b3 : Nat.ble n c = true := S.bleN.2 hc
    have r1 : S.okR vs o 1 = true := S.okR_iff.2 ⟨hb, by omega, by decide⟩
    have bl : Nat.ble (o + 1) (lenL vs) = true := S.bleN.2 (by omega)
    have g0 := S.okB_at hb (i := o) (by omega)
    have iB : S.isB (intOf (K.atV vs o)) = true := S.isB_iff.2 g0
    have hG := S.okG_0
    have hkE : eqI (S.len (intOf (K.atV vs o))) 2 = true := eqI_true.2 hk
    have at2 : S.an true true = true := rfl
    cases hp : S.pl (intOf (K.atV vs o)) with
    | false =>
      have hC : S.isC vs o n = false := S.isC_p hp
      obtain ⟨o2, ho2, bx, hlk, hgo, w2⟩ := S.ls_tail (k := 1) (M2 := (M + 1)) (ss2 := (app ss [LV.str (S.bytes vs o 1)] : List LV)) (X := S.bytes vs o 1) (c := c) (a := a) (by decide) hb hl hc (by omega) (by omega) hW (S.stp_f hC) (S.lin_f hC) (by rw [S.lenL_app, hM]; rfl)
      have w2 : wrapK .u16 (a + wrapK .u16 1) = S.nxt a 1 := w2
      have ih := IH o2 (n - 1) (c - 1) (M + 1) (app ss [LV.str (S.bytes vs o 1)] : List LV) (S.nxt a 1) (by omega) hlk
      simp only [e1, nz, b0, b1, b2, b3, r1, bl, iB, hG, hkE, at2, bM, b4, sa, st, Nat.add_zero, Nat.zero_add, bc_true, bc_false, notB_t, notB_f, true_and, and_true, ← ho2, w2, hlk, hp]
      refine ⟨ih, ?_, ?_⟩
      · unfold S.lsl
        rw [hgo, S.lenL_cons]; omega
      · rw [hgo, S.app_app]; rfl
    | true =>
      by_cases hkn : 2 ≤ n
      rotate_left
      · have hC : S.isC vs o n = false := S.isC_n (by rw [hk]; omega)
        have ek : ltI (n : Int) 2 = true := ltI_true.2 (by omega)
        obtain ⟨o2, ho2, bx, hlk, hgo, w2⟩ := S.ls_tail (k := 1) (M2 := (M + 1)) (ss2 := (app ss [LV.str (S.bytes vs o 1)] : List LV)) (X := S.bytes vs o 1) (c := c) (a := a) (by decide) hb hl hc (by omega) (by omega) hW (S.stp_f hC) (S.lin_f hC) (by rw [S.lenL_app, hM]; rfl)
        have w2 : wrapK .u16 (a + wrapK .u16 1) = S.nxt a 1 := w2
        have ih := IH o2 (n - 1) (c - 1) (M + 1) (app ss [LV.str (S.bytes vs o 1)] : List LV) (S.nxt a 1) (by omega) hlk
        simp only [e1, nz, b0, b1, b2, b3, r1, bl, iB, hG, hkE, at2, bM, b4, sa, st, Nat.add_zero, Nat.zero_add, bc_true, bc_false, notB_t, notB_f, true_and, and_true, ← ho2, w2, hlk, hp, ek]
        refine ⟨ih, ?_, ?_⟩
        · unfold S.lsl
          rw [hgo, S.lenL_cons]; omega
        · rw [hgo, S.app_app]; rfl
      have hC : S.isC vs o n = true := S.isC_t hp (by rw [hk]; omega)
      have ek : ltI (n : Int) 2 = false := ltI_false.2 (by omega)
      have b5 : Nat.ble 2 n = true := S.bleN.2 hkn
      have b6 : Nat.ble 2 c = true := S.bleN.2 (by omega)
      have c1 : Nat.beq c 1 = false := by
        cases h : Nat.beq c 1 with
        | false => rfl
        | true => have := S.beqN.1 h; omega
      have bl2 : Nat.ble (o + 1 + 1) (lenL vs) = true := S.bleN.2 (by omega)
      have g1 := S.okB_at hb (i := o + 1) (by omega)
      have oS : S.okS (intOf (K.atV vs o)) (intOf (K.atV vs (o + 1))) 0 a = true := S.okS_iff.2 ⟨g0, g1, by decide, hW⟩
      obtain ⟨o2, ho2, bx, hlk, hgo, w2⟩ := S.ls_tail (k := 2) (M2 := (M + 1)) (ss2 := (app ss [LV.str (S.shw (intOf (K.atV vs o)) (intOf (K.atV vs (o + 1))) 0 a)] : List LV)) (X := S.shw (intOf (K.atV vs o)) (intOf (K.atV vs (o + 1))) 0 a) (c := c) (a := a) (by decide) hb hl hc (by omega) (by omega) hW (S.stp_t hC hk) (S.lin_2 hC hk) (by rw [S.lenL_app, hM]; rfl)
      have w2 : wrapK .u16 (a + wrapK .u16 2) = S.nxt a 2 := w2
      have ih := IH o2 (n - 2) (c - 2) (M + 1) (app ss [LV.str (S.shw (intOf (K.atV vs o)) (intOf (K.atV vs (o + 1))) 0 a)] : List LV) (S.nxt a 2) (by omega) hlk
      simp only [e1, nz, b0, b1, b2, b3, r1, bl, iB, hG, hkE, at2, bM, b4, sa, st, Nat.add_zero, Nat.zero_add, bc_true, bc_false, notB_t, notB_f, true_and, and_true, ← ho2, w2, hlk, hp, ek, b5, b6, oS, bx, c1, bl2]
      refine ⟨ih, ?_, ?_⟩
      · unfold S.lsl
        rw [hgo, S.lenL_cons]; omega
      · rw [hgo, S.app_app]; rfl)
  obtain ⟨q1, q2⟩ := K.RunL2.one hr
  cases hb : Nat.beq n 0
  · exact K.loop_of_run good (envK_ok (fun p hp => by simp only [List.mem_cons, List.not_mem_nil, or_false] at hp; rcases hp with rfl | rfl | rfl | rfl <;> first | exact by_ok | exact ln2_ok | exact pl_ok | exact sh_ok)) K.openE_ok (q2 hb)
  · exact K.loop_of_run good (envK_ok (fun p hp => by simp only [List.mem_cons, List.not_mem_nil, or_false] at hp; rcases hp with rfl | rfl | rfl | rfl <;> first | exact by_ok | exact ln2_ok | exact pl_ok | exact sh_ok)) K.openE_ok (q1 hb)
theorem lsA2_run (m a : Int) (et o n c : Nat) (w : Own) (vs : List LV) : K.RunL (envK [(15, byE), (20, ln2E), (45, plE), (10, shE)] (fun g id => none) (fun g i => bc (Nat.beq g 18) (hasN [5] i) (true))) K.openE 30 44 54 (inner (inner (blkOf 44 0))) lsEB [(0, .func (.yield 0) [] []), (1, .ptr 2 0), (2, .ptr 4 0)] [.loop .ready none 18 16 S.LTA [10] S.code2 S.code3 5, .cells 32 .exact [.nils], .cells 27 .exact [.slice 3 o n (.known c)], .flat [.i .u8] et w vs, .cells 22 .exact [.int .u16 a], .defers false, .glob 0 S.tabV, .glob 1 [.int .i64 m]] Hint.auto ⟨.exit 0, [], [(0, .loop .ready none 18 16 S.LTA [10] S.code2 S.code3 5), (1, .cells 32 .exact [.slice 8 0 (S.lsl vs n o n a) (.rest 0)]), (2, .dead), (4, .dead)], [.flat [.sr] 9 (.grow 1) (S.ls vs n o n a)]⟩ =
    (bc (ltI 0 ↑n) (bc (Nat.ble 1 n) (bc (Nat.ble 1 c) (bc (S.okR vs o 1) (bc (ltI 0 ↑n) (bc (Nat.ble (o + 0 + 1) (lenL vs)) (bc (S.an (bc (S.okG 0 S.tabV 1) (S.isB (intOf (K.atV vs (o + 0)))) false) (eqI (S.len (intOf (K.atV vs (o + 0)))) 2)) (bc (ltI 0 ↑n) (bc (Nat.ble (o + 0 + 1) (lenL vs)) (bc (bc (S.okG 0 S.tabV 1) (S.isB (intOf (K.atV vs (o + 0)))) false) (bc (S.pl (intOf (K.atV vs (o + 0)))) (bc (notB (ltI ↑n 2)) (bc (Nat.ble 2 n) (bc (Nat.ble 2 c) (bc (Nat.ble (@bc Nat (Nat.beq c 1) o (o + 1) + 1) (lenL vs)) (bc (ltI 0 ↑n) (bc (Nat.ble (o + 0 + 1) (lenL vs)) (bc (bc (S.okG 0 S.tabV 1) (S.okS (intOf (K.atV vs (o + 0))) (intOf (K.atV vs (@bc Nat (Nat.beq c 1) o (o + 1)))) 0 a) false) (bc (Nat.ble n n) (bc (Nat.ble 2 n) (bc (Nat.ble n c) (bc (S.lok vs (@bc Nat (Nat.beq c 2) o (o + 2)) (n - 2) (c - 2) 1 [LV.str (S.shw (intOf (K.atV vs (o + 0))) (intOf (K.atV vs (@bc Nat (Nat.beq c 1) o (o + 1)))) 0 a)] (wrapK IntKind.u16 (a + wrapK IntKind.u16 2))) (ls_T m (wrapK IntKind.u16 (a + wrapK IntKind.u16 2)) et (@bc Nat (Nat.beq c 2) o (o + 2)) (n - 2) (c - 2) 1 w vs [LV.str (S.shw (intOf (K.atV vs (o + 0))) (intOf (K.atV vs (@bc Nat (Nat.beq c 1) o (o + 1)))) 0 a)] ∧ (LoopState.ready = LoopState.ready ∧ ((none : Option Code) = none ∧ ([10] = [10] ∧ (S.code2 = S.code2 ∧ (S.code3 = S.code3 ∧ ((0 : Nat) = (0 : Nat) ∧ ((0 : Nat) = (0 : Nat) ∧ ((0 : Nat) = (0 : Nat) ∧ ((0 : Nat) = (0 : Nat) ∧ (S.lsl vs n o n a = (1 : Nat) + S.lsl vs (n - 2) (@bc Nat (Nat.beq c 2) o (o + 2)) (n - 2) (wrapK IntKind.u16 (a + wrapK IntKind.u16 2)) ∧ (Cap.rest (0 : Nat) = Cap.rest 0 ∧ (S.ls vs n o n a = app [LV.str (S.shw (intOf (K.atV vs (o + 0))) (intOf (K.atV vs (@bc Nat (Nat.beq c 1) o (o + 1)))) 0 a)] (S.ls vs (n - 2) (@bc Nat (Nat.beq c 2) o (o + 2)) (n - 2) (wrapK IntKind.u16 (a + wrapK IntKind.u16 2))) ∧ True))))))))))))) False) False) False) False) False) False) False) False) False) False) (bc (Nat.ble n n) (bc (Nat.ble 1 n) (bc (Nat.ble n c) (bc (S.lok vs (@bc Nat (Nat.beq c 1) o (o + 1)) (n - 1) (c - 1) 1 [LV.str (S.bytes vs o 1)] (wrapK IntKind.u16 (a + wrapK IntKind.u16 1))) (ls_T m (wrapK IntKind.u16 (a + wrapK IntKind.u16 1)) et (@bc Nat (Nat.beq c 1) o (o + 1)) (n - 1) (c - 1) 1 w vs [LV.str (S.bytes vs o 1)] ∧ (LoopState.ready = LoopState.ready ∧ ((none : Option Code) = none ∧ ([10] = [10] ∧ (S.code2 = S.code2 ∧ (S.code3 = S.code3 ∧ ((0 : Nat) = (0 : Nat) ∧ ((0 : Nat) = (0 : Nat) ∧ ((0 : Nat) = (0 : Nat) ∧ ((0 : Nat) = (0 : Nat) ∧ (S.lsl vs n o n a = (1 : Nat) + S.lsl vs (n - 1) (@bc Nat (Nat.beq c 1) o (o + 1)) (n - 1) (wrapK IntKind.u16 (a + wrapK IntKind.u16 1)) ∧ (Cap.rest (0 : Nat) = Cap.rest 0 ∧ (S.ls vs n o n a = app [LV.str (S.bytes vs o 1)] (S.ls vs (n - 1) (@bc Nat (Nat.beq c 1) o (o + 1)) (n - 1) (wrapK IntKind.u16 (a + wrapK IntKind.u16 1))) ∧ True))))))))))))) False) False) False) False)) (bc (Nat.ble n n) (bc (Nat.ble 1 n) (bc (Nat.ble n c) (bc (S.lok vs (@bc Nat (Nat.beq c 1) o (o + 1)) (n - 1) (c - 1) 1 [LV.str (S.bytes vs o 1)] (wrapK IntKind.u16 (a + wrapK IntKind.u16 1))) (ls_T m (wrapK IntKind.u16 (a + wrapK IntKind.u16 1)) et (@bc Nat (Nat.beq c 1) o (o + 1)) (n - 1) (c - 1) 1 w vs [LV.str (S.bytes vs o 1)] ∧ (LoopState.ready = LoopState.ready ∧ ((none : Option Code) = none ∧ ([10] = [10] ∧ (S.code2 = S.code2 ∧ (S.code3 = S.code3 ∧ ((0 : Nat) = (0 : Nat) ∧ ((0 : Nat) = (0 : Nat) ∧ ((0 : Nat) = (0 : Nat) ∧ ((0 : Nat) = (0 : Nat) ∧ (S.lsl vs n o n a = (1 : Nat) + S.lsl vs (n - 1) (@bc Nat (Nat.beq c 1) o (o + 1)) (n - 1) (wrapK IntKind.u16 (a + wrapK IntKind.u16 1)) ∧ (Cap.rest (0 : Nat) = Cap.rest 0 ∧ (S.ls vs n o n a = app [LV.str (S.bytes vs o 1)] (S.ls vs (n - 1) (@bc Nat (Nat.beq c 1) o (o + 1)) (n - 1) (wrapK IntKind.u16 (a + wrapK IntKind.u16 1))) ∧ True))))))))))))) False) False) False) False)) False) False) False) False) False) False) False) False) False) False) := by kernel_rfl
theorem lsA2_con (m a : Int) (et o n c : Nat) (w : Own) (vs : List LV) (h0 : S.lok vs o n c 0 [] a = true) (h1 : 0 < n) (hk : S.len (S.by1 vs o) = 2) (IH : ∀ (o2 n2 c2 M2 : Nat) (ss2 : List LV) (a2 : Int), n2 < n → S.lok vs o2 n2 c2 M2 ss2 a2 = true → ls_T m a2 et o2 n2 c2 M2 w vs ss2) : GT Tryd.prog (fun k => .code (inner (inner (blkOf 44 0))) :: .inLoop (inner (inner (blkOf 44 0))) :: k) (Fr.ofL 44 54 [(0, .func (.yield 0) [] []), (1, .ptr 2 0), (2, .ptr 4 0)] [] none) (Heap.of [.loop .ready none 18 16 S.LTA [10] S.code2 S.code3 5, .cells 32 .exact [.nils], .cells 27 .exact [.slice 3 o n (.known c)], .flat [.i .u8] et w vs, .cells 22 .exact [.int .u16 a], .defers false, .glob 0 S.tabV, .glob 1 [.int .i64 m]]) (⟨.exit 0, [], [(0, .loop .ready none 18 16 S.LTA [10] S.code2 S.code3 5), (1, .cells 32 .exact [.slice 8 0 (S.lsl vs n o n a) (.rest 0)]), (2, .dead), (4, .dead)], [.flat [.sr] 9 (.grow 1) (S.ls vs n o n a)]⟩ : K.BRes).x (Fr.ofL 44 54 (⟨.exit 0, [], [(0, .loop .ready none 18 16 S.LTA [10] S.code2 S.code3 5), (1, .cells 32 .exact [.slice 8 0 (S.lsl vs n o n a) (.rest 0)]), (2, .dead), (4, .dead)], [.flat [.sr] 9 (.grow 1) (S.ls vs n o n a)]⟩ : K.BRes).L [] none) (Heap.of (K.chg [.loop .ready none 18 16 S.LTA [10] S.code2 S.code3 5, .cells 32 .exact [.nils], .cells 27 .exact [.slice 3 o n (.known c)], .flat [.i .u8] et w vs, .cells 22 .exact [.int .u16 a], .defers false, .glob 0 S.tabV, .glob 1 [.int .i64 m]] (⟨.exit 0, [], [(0, .loop .ready none 18 16 S.LTA [10] S.code2 S.code3 5), (1, .cells 32 .exact [.slice 8 0 (S.lsl vs n o n a) (.rest 0)]), (2, .dead), (4, .dead)], [.flat [.sr] 9 (.grow 1) (S.ls vs n o n a)]⟩ : K.BRes).ch ++ (⟨.exit 0, [], [(0, .loop .ready none 18 16 S.LTA [10] S.code2 S.code3 5), (1, .cells 32 .exact [.slice 8 0 (S.lsl vs n o n a) (.rest 0)]), (2, .dead), (4, .dead)], [.flat [.sr] 9 (.grow 1) (S.ls vs n o n a)]⟩ : K.BRes).new)) := by
  refine K.loop_of_run good (A := envK [(15, byE), (20, ln2E), (45, plE), (10, shE)] (fun g id => none) (fun g i => bc (Nat.beq g 18) (hasN [5] i) (true))) (envK_ok ?_) K.openE_ok (k := 30) (ent := lsEB) (cast (lsA2_run m a et o n c w vs).symm ?_)
  · intro p hp; simp only [List.mem_cons, List.not_mem_nil, or_false] at hp; rcases hp with rfl | rfl | rfl | rfl <;> first | exact by_ok | exact ln2_ok | exact pl_ok | exact sh_ok
  · obtain ⟨⟨hR, hc⟩, ⟨hM, hN⟩, hW⟩ := S.lok_iff.1 h0
    obtain ⟨hb, hl, hq⟩ := S.okR_iff.1 hR
    have hn := h1
    have e1 : ltI 0 (n : Int) = true := ltI_true.2 (by omega)
    have nz := S.nz_of hn
    have b0 : Nat.ble n n = true := S.bleN.2 (Nat.le_refl n)
    have b1 : Nat.ble 1 n = true := S.bleN.2 hn
    have b2 : Nat.ble 1 c = true := S.bleN.2 (by omega)
    have b3 : Nat.ble n c = true := S.bleN.2 hc
    have r1 : S.okR vs o 1 = true := S.okR_iff.2 ⟨hb, by omega, by decide⟩
    have bl : Nat.ble (o + 1) (lenL vs) = true := S.bleN.2 (by omega)
    have g0 := S.okB_at hb (i := o) (by omega)
    have iB : S.isB (intOf (K.atV vs o)) = true := S.isB_iff.2 g0
    have hG := S.okG_0
    have hkE : eqI (S.len (intOf (K.atV vs o))) 2 = true := eqI_true.2 hk
    have at2 : S.an true true = true := rfl
    cases hp : S.pl (intOf (K.atV vs o)) with
    | false =>
      have hC : S.isC vs o n = false := S.isC_p hp
      obtain ⟨o2, ho2, bx, hlk, hgo, w2⟩ := S.ls_tail (k := 1) (M2 := 1) (ss2 := ([LV.str (S.bytes vs o 1)] : List LV)) (X := S.bytes vs o 1) (c := c) (a := a) (by decide) hb hl hc (by omega) (by omega) hW (S.stp_f hC) (S.lin_f hC) (rfl)
      have w2 : wrapK .u16 (a + wrapK .u16 1) = S.nxt a 1 := w2
      have ih := IH o2 (n - 1) (c - 1) 1 ([LV.str (S.bytes vs o 1)] : List LV) (S.nxt a 1) (by omega) hlk
      simp only [e1, nz, b0, b1, b2, b3, r1, bl, iB, hG, hkE, at2, Nat.add_zero, Nat.zero_add, bc_true, bc_false, notB_t, notB_f, true_and, and_true, ← ho2, w2, hlk, hp]
      refine ⟨ih, ?_, ?_⟩
      · unfold S.lsl
        rw [hgo, S.lenL_cons]; omega
      · rw [hgo]; rfl
    | true =>
      by_cases hkn : 2 ≤ n
      rotate_left
      · have hC : S.isC vs o n = false := S.isC_n (by rw [hk]; omega)
        have ek : ltI (n : Int) 2 = true := ltI_true.2 (by omega)
        obtain ⟨o2, ho2, bx, hlk, hgo, w2⟩ := S.ls_tail (k := 1) (M2 := 1) (ss2 := ([LV.str (S.bytes vs o 1)] : List LV)) (X := S.bytes vs o 1) (c := c) (a := a) (by decide) hb hl hc (by omega) (by omega) hW (S.stp_f hC) (S.lin_f hC) (rfl)
        have w2 : wrapK .u16 (a + wrapK .u16 1) = S.nxt a 1 := w2
        have ih := IH o2 (n - 1) (c - 1) 1 ([LV.str (S.bytes vs o 1)] : List LV) (S.nxt a 1) (by omega) hlk
        simp only [e1, nz, b0, b1, b2, b3, r1, bl, iB, hG, hkE, at2, Nat.add_zero, Nat.zero_add, bc_true, bc_false, notB_t, notB_f, true_and, and_true, ← ho2, w2, hlk, hp, ek]
        refine ⟨ih, ?_, ?_⟩
        · unfold S.lsl
          rw [hgo, S.lenL_cons]; omega
        · rw [hgo]; rfl
      have hC : S.isC vs o n = true := S.isC_t hp (by rw [hk]; omega)
      have ek : ltI (n : Int) 2 = false := ltI_false.2 (by omega)
      have b5 : Nat.ble 2 n = true := S.bleN.2 hkn
      have b6 : Nat.ble 2 c = true := S.bleN.2 (by omega)
      have c1 : Nat.beq c 1 = false := by
        cases h : Nat.beq c 1 with
        | false => rfl
        | true => have := S.beqN.1 h; omega
      have bl2 : Nat.ble (o + 1 + 1) (lenL vs) = true := S.bleN.2 (by omega)
      have g1 := S.okB_at hb (i := o + 1) (by omega)
      have oS : S.okS (intOf (K.atV vs o)) (intOf (K.atV vs (o + 1))) 0 a = true := S.okS_iff.2 ⟨g0, g1, by decide, hW⟩
      obtain ⟨o2, ho2, bx, hlk, hgo, w2⟩ := S.ls_tail (k := 2) (M2 := 1) (ss2 := ([LV.str (S.shw (intOf (K.atV vs o)) (intOf (K.atV vs (o + 1))) 0 a)] : List LV)) (X := S.shw (intOf (K.atV vs o)) (intOf (K.atV vs (o + 1))) 0 a) (c := c) (a := a) (by decide) hb hl hc (by omega) (by omega) hW (S.stp_t hC hk) (S.lin_2 hC hk) (rfl)
      have w2 : wrapK .u16 (a + wrapK .u16 2) = S.nxt a 2 := w2
      have ih := IH o2 (n - 2) (c - 2) 1 ([LV.str (S.shw (intOf (K.atV vs o)) (intOf (K.atV vs (o + 1))) 0 a)] : List LV) (S.nxt a 2) (by omega) hlk
      simp only [e1, nz, b0, b1, b2, b3, r1, bl, iB, hG, hkE, at2, Nat.add_zero, Nat.zero_add, bc_true, bc_false, notB_t, notB_f, true_and, and_true, ← ho2, w2, hlk, hp, ek, b5, b6, oS, bx, c1, bl2]
      refine ⟨ih, ?_, ?_⟩
      · unfold S.lsl
        rw [hgo, S.lenL_cons]; omega
      · rw [hgo]; rfl
theorem lsB3_run (m a : Int) (et o n c M : Nat) (w : Own) (vs ss : List LV) : K.RunL2 (envK [(15, byE), (20, ln3E), (45, plE), (10, shE)] (fun g id => none) (fun g i => bc (Nat.beq g 18) (hasN [5] i) (true))) K.openE 30 44 54 (inner (inner (blkOf 44 0))) lsEB [(0, .func (.yield 0) [] []), (1, .ptr 3 0), (2, .ptr 5 0)] [.loop .ready none 18 16 S.LTB [10] S.code2 S.code3 6, .cells 32 .exact [.slice 2 0 M (.rest 0)], .flat [.sr] 9 (.grow 1) ss, .cells 27 .exact [.slice 4 o n (.known c)], .flat [.i .u8] et w vs, .cells 22 .exact [.int .u16 a], .defers false, .glob 0 S.tabV, .glob 1 [.int .i64 m]] Hint.auto (Nat.beq n 0) ⟨.exit 0, [], [], []⟩ ⟨.exit 0, [], [(0, .loop .ready none 18 16 S.LTB [10] S.code2 S.code3 6), (1, .cells 32 .exact [.slice 9 0 (M + S.lsl vs n o n a) (.rest 0)]), (2, .dead), (3, .dead), (5, .dead)], [.flat [.sr] 9 (.grow 1) (app ss (S.ls vs n o n a))]⟩ =
    (bc (ltI 0 ↑n) (bc (Nat.ble 1 n) (bc (Nat.ble 1 c) (bc (S.okR vs o 1) (bc (ltI 0 ↑n) (bc (Nat.ble (o + 0 + 1) (lenL vs)) (bc (S.an (bc (S.okG 0 S.tabV 1) (S.isB (intOf (K.atV vs (o + 0)))) false) (eqI (S.len (intOf (K.atV vs (o + 0)))) 3)) (bc (ltI 0 ↑n) (bc (Nat.ble (o + 0 + 1) (lenL vs)) (bc (bc (S.okG 0 S.tabV 1) (S.isB (intOf (K.atV vs (o + 0)))) false) (bc (S.pl (intOf (K.atV vs (o + 0)))) (bc (notB (ltI ↑n 3)) (bc (Nat.ble 3 n) (bc (Nat.ble 3 c) (bc (Nat.ble (@bc Nat (Nat.beq c 1) o (o + 1) + 2) (lenL vs)) (bc (ltI 0 ↑n) (bc (Nat.ble (o + 0 + 1) (lenL vs)) (bc (bc (S.okG 0 S.tabV 1) (S.okS (intOf (K.atV vs (o + 0))) (intOf (K.atV vs (@bc Nat (Nat.beq c 1) o (o + 1)))) (intOf (K.atV vs (@bc Nat (Nat.beq c 1) o (o + 1) + 1))) a) false) (bc (Nat.ble (0 + M) (lenL ss)) (bc (Nat.ble ((M + 1) * 16) 1099511627776) (bc (Nat.ble n n) (bc (Nat.ble 3 n) (bc (Nat.ble n c) (bc (S.lok vs (@bc Nat (Nat.beq c 3) o (o + 3)) (n - 3) (c - 3) (M + 1) (app (sub ss 0 M) (sub (setMany [LV.str []] 0 [LV.str (S.shw (intOf (K.atV vs (o + 0))) (intOf (K.atV vs (@bc Nat (Nat.beq c 1) o (o + 1)))) (intOf (K.atV vs (@bc Nat (Nat.beq c 1) o (o + 1) + 1))) a)]) 0 1)) (wrapK IntKind.u16 (a + wrapK IntKind.u16 3))) (ls_T m (wrapK IntKind.u16 (a + wrapK IntKind.u16 3)) et (@bc Nat (Nat.beq c 3) o (o + 3)) (n - 3) (c - 3) (M + 1) w vs (app (sub ss 0 M) (sub (setMany [LV.str []] 0 [LV.str (S.shw (intOf (K.atV vs (o + 0))) (intOf (K.atV vs (@bc Nat (Nat.beq c 1) o (o + 1)))) (intOf (K.atV vs (@bc Nat (Nat.beq c 1) o (o + 1) + 1))) a)]) 0 1)) ∧ bc (Nat.beq n 0) False (LoopState.ready = LoopState.ready ∧ ((none : Option Code) = none ∧ ([10] = [10] ∧ (S.code2 = S.code2 ∧ (S.code3 = S.code3 ∧ ((0 : Nat) = (0 : Nat) ∧ ((0 : Nat) = (0 : Nat) ∧ ((0 : Nat) = (0 : Nat) ∧ ((0 : Nat) = (0 : Nat) ∧ (M + S.lsl vs n o n a = M + 1 + S.lsl vs (n - 3) (@bc Nat (Nat.beq c 3) o (o + 3)) (n - 3) (wrapK IntKind.u16 (a + wrapK IntKind.u16 3)) ∧ (Cap.rest (0 : Nat) = Cap.rest 0 ∧ (app ss (S.ls vs n o n a) = app (app (sub ss 0 M) (sub (setMany [LV.str []] 0 [LV.str (S.shw (intOf (K.atV vs (o + 0))) (intOf (K.atV vs (@bc Nat (Nat.beq c 1) o (o + 1)))) (intOf (K.atV vs (@bc Nat (Nat.beq c 1) o (o + 1) + 1))) a)]) 0 1)) (S.ls vs (n - 3) (@bc Nat (Nat.beq c 3) o (o + 3)) (n - 3) (wrapK IntKind.u16 (a + wrapK IntKind.u16 3))) ∧ True))))))))))))) False) False) False) False) False) False) False) False) False) False) False) False) (bc (Nat.ble (0 + M) (lenL ss)) (bc (Nat.ble ((M + 1) * 16) 1099511627776) (bc (Nat.ble n n) (bc (Nat.ble 1 n) (bc (Nat.ble n c) (bc (S.lok vs (@bc Nat (Nat.beq c 1) o (o + 1)) (n - 1) (c - 1) (M + 1) (app (sub ss 0 M) (sub (setMany [LV.str []] 0 [LV.str (S.bytes vs o 1)]) 0 1)) (wrapK IntKind.u16 (a + wrapK IntKind.u16 1))) (ls_T m (wrapK IntKind.u16 (a + wrapK IntKind.u16 1)) et (@bc Nat (Nat.beq c 1) o (o + 1)) (n - 1) (c - 1) (M + 1) w vs (app (sub ss 0 M) (sub (setMany [LV.str []] 0 [LV.str (S.bytes vs o 1)]) 0 1)) ∧ bc (Nat.beq n 0) False (LoopState.ready = LoopState.ready ∧ ((none : Option Code) = none ∧ ([10] = [10] ∧ (S.code2 = S.code2 ∧ (S.code3 = S.code3 ∧ ((0 : Nat) = (0 : Nat) ∧ ((0 : Nat) = (0 : Nat) ∧ ((0 : Nat) = (0 : Nat) ∧ ((0 : Nat) = (0 : Nat) ∧ (M + S.lsl vs n o n a = M + 1 + S.lsl vs (n - 1) (@bc Nat (Nat.beq c 1) o (o + 1)) (n - 1) (wrapK IntKind.u16 (a + wrapK IntKind.u16 1)) ∧ (Cap.rest (0 : Nat) = Cap.rest 0 ∧ (app ss (S.ls vs n o n a) = app (app (sub ss 0 M) (sub (setMany [LV.str []] 0 [LV.str (S.bytes vs o 1)]) 0 1)) (S.ls vs (n - 1) (@bc Nat (Nat.beq c 1) o (o + 1)) (n - 1) (wrapK IntKind.u16 (a + wrapK IntKind.u16 1))) ∧ True))))))))))))) False) False) False) False) False) False)) (bc (Nat.ble (0 + M) (lenL ss)) (bc (Nat.ble ((M + 1) * 16) 1099511627776) (bc (Nat.ble n n) (bc (Nat.ble 1 n) (bc (Nat.ble n c) (bc (S.lok vs (@bc Nat (Nat.beq c 1) o (o + 1)) (n - 1) (c - 1) (M + 1) (app (sub ss 0 M) (sub (setMany [LV.str []] 0 [LV.str (S.bytes vs o 1)]) 0 1)) (wrapK IntKind.u16 (a + wrapK IntKind.u16 1))) (ls_T m (wrapK IntKind.u16 (a + wrapK IntKind.u16 1)) et (@bc Nat (Nat.beq c 1) o (o + 1)) (n - 1) (c - 1) (M + 1) w vs (app (sub ss 0 M) (sub (setMany [LV.str []] 0 [LV.str (S.bytes vs o 1)]) 0 1)) ∧ bc (Nat.beq n 0) False (LoopState.ready = LoopState.ready ∧ ((none : Option Code) = none ∧ ([10] = [10] ∧ (S.code2 = S.code2 ∧ (S.code3 = S.code3 ∧ ((0 : Nat) = (0 : Nat) ∧ ((0 : Nat) = (0 : Nat) ∧ ((0 : Nat) = (0 : Nat) ∧ ((0 : Nat) = (0 : Nat) ∧ (M + S.lsl vs n o n a = M + 1 + S.lsl vs (n - 1) (@bc Nat (Nat.beq c 1) o (o + 1)) (n - 1) (wrapK IntKind.u16 (a + wrapK IntKind.u16 1)) ∧ (Cap.rest (0 : Nat) = Cap.rest 0 ∧ (app ss (S.ls vs n o n a) = app (app (sub ss 0 M) (sub (setMany [LV.str []] 0 [LV.str (S.bytes vs o 1)]) 0 1)) (S.ls vs (n - 1) (@bc Nat (Nat.beq c 1) o (o + 1)) (n - 1) (wrapK IntKind.u16 (a + wrapK IntKind.u16 1))) ∧ True))))))))))))) False) False) False) False) False) False)) False) False) False) False) False) False) False) False) False) (bc (Nat.beq n 0) True False)) := by kernel_rfl
theorem lsB3_con (m a : Int) (et o n c M : Nat) (w : Own) (vs ss : List LV) (h0 : S.lok vs o n c M ss a = true) (hk : 0 < n → S.len (S.by1 vs o) = 3) (IH : ∀ (o2 n2 c2 M2 : Nat) (ss2 : List LV) (a2 : Int), n2 < n → S.lok vs o2 n2 c2 M2 ss2 a2 = true → ls_T m a2 et o2 n2 c2 M2 w vs ss2) : GT Tryd.prog (fun k => .code (inner (inner (blkOf 44 0))) :: .inLoop (inner (inner (blkOf 44 0))) :: k) (Fr.ofL 44 54 [(0, .func (.yield 0) [] []), (1, .ptr 3 0), (2, .ptr 5 0)] [] none) (Heap.of [.loop .ready none 18 16 S.LTB [10] S.code2 S.code3 6, .cells 32 .exact [.slice 2 0 M (.rest 0)], .flat [.sr] 9 (.grow 1) ss, .cells 27 .exact [.slice 4 o n (.known c)], .flat [.i .u8] et w vs, .cells 22 .exact [.int .u16 a], .defers false, .glob 0 S.tabV, .glob 1 [.int .i64 m]]) ((bc (Nat.beq n 0) ⟨.exit 0, [], [], []⟩ ⟨.exit 0, [], [(0, .loop .ready none 18 16 S.LTB [10] S.code2 S.code3 6), (1, .cells 32 .exact [.slice 9 0 (M + S.lsl vs n o n a) (.rest 0)]), (2, .dead), (3, .dead), (5, .dead)], [.flat [.sr] 9 (.grow 1) (app ss (S.ls vs n o n a))]⟩) : K.BRes).x (Fr.ofL 44 54 ((bc (Nat.beq n 0) ⟨.exit 0, [], [], []⟩ ⟨.exit 0, [], [(0, .loop .ready none 18 16 S.LTB [10] S.code2 S.code3 6), (1, .cells 32 .exact [.slice 9 0 (M + S.lsl vs n o n a) (.rest 0)]), (2, .dead), (3, .dead), (5, .dead)], [.flat [.sr] 9 (.grow 1) (app ss (S.ls vs n o n a))]⟩) : K.BRes).L [] none) (Heap.of (K.chg [.loop .ready none 18 16 S.LTB [10] S.code2 S.code3 6, .cells 32 .exact [.slice 2 0 M (.rest 0)], .flat [.sr] 9 (.grow 1) ss, .cells 27 .exact [.slice 4 o n (.known c)], .flat [.i .u8] et w vs, .cells 22 .exact [.int .u16 a], .defers false, .glob 0 S.tabV, .glob 1 [.int .i64 m]] ((bc (Nat.beq n 0) ⟨.exit 0, [], [], []⟩ ⟨.exit 0, [], [(0, .loop .ready none 18 16 S.LTB [10] S.code2 S.code3 6), (1, .cells 32 .exact [.slice 9 0 (M + S.lsl vs n o n a) (.rest 0)]), (2, .dead), (3, .dead), (5, .dead)], [.flat [.sr] 9 (.grow 1) (app ss (S.ls vs n o n a))]⟩) : K.BRes).ch ++ ((bc (Nat.beq n 0) ⟨.exit 0, [], [], []⟩ ⟨.exit 0, [], [(0, .loop .ready none 18 16 S.LTB [10] S.code2 S.code3 6), (1, .cells 32 .exact [.slice 9 0 (M + S.lsl vs n o n a) (.rest 0)]), (2, .dead), (3, .dead), (5, .dead)], [.flat [.sr] 9 (.grow 1) (app ss (S.ls vs n o n a))]⟩) : K.BRes).new)) := by
  have hr := cast (lsB3_run m a et o n c M w vs ss).symm (by
    obtain ⟨⟨hR, hc⟩, ⟨hM, hN⟩, hW⟩ := S.lok_iff.1 h0
    obtain ⟨hb, hl, hq⟩ := S.okR_iff.1 hR
    by_cases hn : 0 < n
    rotate_left
    · have z : n = 0 := by omega
      subst z
      have e : ltI 0 ((0 : Nat) : Int) = false := rfl
      have z2 : Nat.beq 0 0 = true := rfl
      simp only [e, z2, bc_false, bc_true]
    have hk := hk hn
    have bM : Nat.ble M (lenL ss) = true := S.bleN.2 (by omega)
    have b4 : Nat.ble ((M + 1) * 16) 1099511627776 = true := S.bleN.2 (by omega)
    have sa := S.sub_all hM
    have st : ∀ x : List UInt8, sub (setMany [LV.str []] 0 [LV.str x]) 0 1 = [LV.str x] := fun x => rfl
    have e1 : ltI 0 (n : Int) = true := ltI_true.2 (by omega)
    have nz := S.nz_of hn
    have b0 : Nat.ble n n = true := S.bleN.2 (Nat.le_refl n)
    have b1 : Nat.ble 1 n = true := S.bleN.2 hn
    have b2 : Nat.ble 1 c = true := S.bleN.2 (by omega)
    have b3 : Nat.ble n c = true := S.bleN.2 hc
    have r1 : S.okR vs o 1 = true := S.okR_iff.2 ⟨hb, by omega, by decide⟩
    have bl : Nat.ble (o + 1) (lenL vs) = true := S.bleN.2 (by omega)
    have g0 := S.okB_at hb (i := o) (by omega)
    have iB : S.isB (intOf (K.atV vs o)) = true := S.isB_iff.2 g0
    have hG := S.okG_0
    have hkE : eqI (S.len (intOf (K.atV vs o))) 3 = true := eqI_true.2 hk
    have at2 : S.an true true = true := rfl
    cases hp : S.pl (intOf (K.atV vs o)) with
    | false =>
      have hC : S.isC vs o n = false := S.isC_p hp
      obtain ⟨o2, ho2, bx, hlk, hgo, w2⟩ := S.ls_tail (k := 1) (M2 := (M + 1)) (ss2 := (app ss [LV.str (S.bytes vs o 1)] : List LV)) (X := S.bytes vs o 1) (c := c) (a := a) (by decide) hb hl hc (by omega) (by omega) hW (S.stp_f hC) (S.lin_f hC) (by rw [S.lenL_app, hM]; rfl)
      have w2 : wrapK .u16 (a + wrapK .u16 1) = S.nxt a 1 := w2
      have ih := IH o2 (n - 1) (c - 1) (M + 1) (app ss [LV.str (S.bytes vs o 1)] : List LV) (S.nxt a 1) (by omega) hlk
      simp only [e1, nz, b0, b1, b2, b3, r1, bl, iB, hG, hkE, at2, bM, b4, sa, st, Nat.add_zero, Nat.zero_add, bc_true, bc_false, notB_t, notB_f, true_and, and_true, ← ho2, w2, hlk, hp]
      refine ⟨ih, ?_, ?_⟩
      · unfold S.lsl
        rw [hgo, S.lenL_cons]; omega
      · rw [hgo, S.app_app]; rfl
    | true =>
      by_cases hkn : 3 ≤ n
      rotate_left
      · have hC : S.isC vs o n = false := S.isC_n (by rw [hk]; omega)
        have ek : ltI (n : Int) 3 = true := ltI_true.2 (by omega)
        obtain ⟨o2, ho2, bx, hlk, hgo, w2⟩ := S.ls_tail (k := 1) (M2 := (M + 1)) (ss2 := (app ss [LV.str (S.bytes vs o 1)] : List LV)) (X := S.bytes vs o 1) (c := c) (a := a) (by decide) hb hl hc (by omega) (by omega) hW (S.stp_f hC) (S.lin_f hC) (by rw [S.lenL_app, hM]; rfl)
        have w2 : wrapK .u16 (a + wrapK .u16 1) = S.nxt a 1 := w2
        have ih := IH o2 (n - 1) (c - 1) (M + 1) (app ss [LV.str (S.bytes vs o 1)] : List LV) (S.nxt a 1) (by omega) hlk
        simp only [e1, nz, b0, b1, b2, b3, r1, bl, iB, hG, hkE, at2, bM, b4, sa, st, Nat.add_zero, Nat.zero_add, bc_true, bc_false, notB_t, notB_f, true_and, and_true, ← ho2, w2, hlk, hp, ek]
        refine ⟨ih, ?_, ?_⟩
        · unfold S.lsl
          rw [hgo, S.lenL_cons]; omega
        · rw [hgo, S.app_app]; rfl
      have hC : S.isC vs o n = true := S.isC_t hp (by rw [hk]; omega)
      have ek : ltI (n : Int) 3 = false := ltI_false.2 (by omega)
      have b5 : Nat.ble 3 n = true := S.bleN.2 hkn
      have b6 : Nat.ble 3 c = true := S.bleN.2 (by omega)
      have c1 : Nat.beq c 1 = false := by
        cases h : Nat.beq c 1 with
        | false => rfl
        | true => have := S.beqN.1 h; omega
      have bl2 : Nat.ble (o + 1 + 2) (lenL vs) = true := S.bleN.2 (by omega)
      have g1 := S.okB_at hb (i := o + 1) (by omega)
      have g2 := S.okB_at hb (i := o + 1 + 1) (by omega)
      have oS : S.okS (intOf (K.atV vs o)) (intOf (K.atV vs (o + 1))) (intOf (K.atV vs (o + 1 + 1))) a = true := S.okS_iff.2 ⟨g0, g1, g2, hW⟩
      obtain ⟨o2, ho2, bx, hlk, hgo, w2⟩ := S.ls_tail (k := 3) (M2 := (M + 1)) (ss2 := (app ss [LV.str (S.shw (intOf (K.atV vs o)) (intOf (K.atV vs (o + 1))) (intOf (K.atV vs (o + 1 + 1))) a)] : List LV)) (X := S.shw (intOf (K.atV vs o)) (intOf (K.atV vs (o + 1))) (intOf (K.atV vs (o + 1 + 1))) a) (c := c) (a := a) (by decide) hb hl hc (by omega) (by omega) hW (S.stp_t hC hk) (S.lin_3 hC hk) (by rw [S.lenL_app, hM]; rfl)
      have w2 : wrapK .u16 (a + wrapK .u16 3) = S.nxt a 3 := w2
      have ih := IH o2 (n - 3) (c - 3) (M + 1) (app ss [LV.str (S.shw (intOf (K.atV vs o)) (intOf (K.atV vs (o + 1))) (intOf (K.atV vs (o + 1 + 1))) a)] : List LV) (S.nxt a 3) (by omega) hlk
      simp only [e1, nz, b0, b1, b2, b3, r1, bl, iB, hG, hkE, at2, bM, b4, sa, st, Nat.add_zero, Nat.zero_add, bc_true, bc_false, notB_t, notB_f, true_and, and_true, ← ho2, w2, hlk, hp, ek, b5, b6, oS, bx, c1, bl2]
      refine ⟨ih, ?_, ?_⟩
      · unfold S.lsl
        rw [hgo, S.lenL_cons]; omega
      · rw [hgo, S.app_app]; rfl)
  obtain ⟨q1, q2⟩ := K.RunL2.one hr
  cases hb : Nat.beq n 0
  · exact K.loop_of_run good (envK_ok (fun p hp => by simp only [List.mem_cons, List.not_mem_nil, or_false] at hp; rcases hp with rfl | rfl | rfl | rfl <;> first | exact by_ok | exact ln3_ok | exact pl_ok | exact sh_ok)) K.openE_ok (q2 hb)
  · exact K.loop_of_run good (envK_ok (fun p hp => by simp only [List.mem_cons, List.not_mem_nil, or_false] at hp; rcases hp with rfl | rfl | rfl | rfl <;> first | exact by_ok | exact ln3_ok | exact pl_ok | exact sh_ok)) K.openE_ok (q1 hb)
theorem lsA3_run (m a : Int) (et o n c : Nat) (w : Own) (vs : List LV) : K.RunL (envK [(15, byE), (20, ln3E), (45, plE), (10, shE)] (fun g id => none) (fun g i => bc (Nat.beq g 18) (hasN [5] i) (true))) K.openE 30 44 54 (inner (inner (blkOf 44 0))) lsEB [(0, .func (.yield 0) [] []), (1, .ptr 2 0), (2, .ptr 4 0)] [.loop .ready none 18 16 S.LTA [10] S.code2 S.code3 5, .cells 32 .exact [.nils], .cells 27 .exact [.slice 3 o n (.known c)], .flat [.i .u8] et w vs, .cells 22 .exact [.int .u16 a], .defers false, .glob 0 S.tabV, .glob 1 [.int .i64 m]] Hint.auto ⟨.exit 0, [], [(0, .loop .ready none 18 16 S.LTA [10] S.code2 S.code3 5), (1, .cells 32 .exact [.slice 8 0 (S.lsl vs n o n a) (.rest 0)]), (2, .dead), (4, .dead)], [.flat [.sr] 9 (.grow 1) (S.ls vs n o n a)]⟩ =
    (bc (ltI 0 ↑n) (bc (Nat.ble 1 n) (bc (Nat.ble 1 c) (bc (S.okR vs o 1) (bc (ltI 0 ↑n) (bc (Nat.ble (o + 0 + 1) (lenL vs)) (bc (S.an (bc (S.okG 0 S.tabV 1) (S.isB (intOf (K.atV vs (o + 0)))) false) (eqI (S.len (intOf (K.atV vs (o + 0)))) 3)) (bc (ltI 0 ↑n) (bc (Nat.ble (o + 0 + 1) (lenL vs)) (bc (bc (S.okG 0 S.tabV 1) (S.isB (intOf (K.atV vs (o + 0)))) false) (bc (S.pl (intOf (K.atV vs (o + 0)))) (bc (notB (ltI ↑n 3)) (bc (Nat.ble 3 n) (bc (Nat.ble 3 c) (bc (Nat.ble (@bc Nat (Nat.beq c 1) o (o + 1) + 2) (lenL vs)) (bc (ltI 0 ↑n) (bc (Nat.ble (o + 0 + 1) (lenL vs)) (bc (bc (S.okG 0 S.tabV 1) (S.okS (intOf (K.atV vs (o + 0))) (intOf (K.atV vs (@bc Nat (Nat.beq c 1) o (o + 1)))) (intOf (K.atV vs (@bc Nat (Nat.beq c 1) o (o + 1) + 1))) a) false) (bc (Nat.ble n n) (bc (Nat.ble 3 n) (bc (Nat.ble n c) (bc (S.lok vs (@bc Nat (Nat.beq c 3) o (o + 3)) (n - 3) (c - 3) 1 [LV.str (S.shw (intOf (K.atV vs (o + 0))) (intOf (K.atV vs (@bc Nat (Nat.beq c 1) o (o + 1)))) (intOf (K.atV vs (@bc Nat (Nat.beq c 1) o (o + 1) + 1))) a)] (wrapK IntKind.u16 (a + wrapK IntKind.u16 3))) (ls_T m (wrapK IntKind.u16 (a + wrapK IntKind.u16 3)) et (@bc Nat (Nat.beq c 3) o (o + 3)) (n - 3) (c - 3) 1 w vs [LV.str (S.shw (intOf (K.atV vs (o + 0))) (intOf (K.atV vs (@bc Nat (Nat.beq c 1) o (o + 1)))) (intOf (K.atV vs (@bc Nat (Nat.beq c 1) o (o + 1) + 1))) a)] ∧ (LoopState.ready = LoopState.ready ∧ ((none : Option Code) = none ∧ ([10] = [10] ∧ (S.code2 = S.code2 ∧ (S.code3 = S.code3 ∧ ((0 : Nat) = (0 : Nat) ∧ ((0 : Nat) = (0 : Nat) ∧ ((0 : Nat) = (0 : Nat) ∧ ((0 : Nat) = (0 : Nat) ∧ (S.lsl vs n o n a = (1 : Nat) + S.lsl vs (n - 3) (@bc Nat (Nat.beq c 3) o (o + 3)) (n - 3) (wrapK IntKind.u16 (a + wrapK IntKind.u16 3)) ∧ (Cap.rest (0 : Nat) = Cap.rest 0 ∧ (S.ls vs n o n a = app [LV.str (S.shw (intOf (K.atV vs (o + 0))) (intOf (K.atV vs (@bc Nat (Nat.beq c 1) o (o + 1)))) (intOf (K.atV vs (@bc Nat (Nat.beq c 1) o (o + 1) + 1))) a)] (S.ls vs (n - 3) (@bc Nat (Nat.beq c 3) o (o + 3)) (n - 3) (wrapK IntKind.u16 (a + wrapK IntKind.u16 3))) ∧ True))))))))))))) False) False) False) False) False) False) False) False) False) False) (bc (Nat.ble n n) (bc (Nat.ble 1 n) (bc (Nat.ble n c) (bc (S.lok vs (@bc Nat (Nat.beq c 1) o (o + 1)) (n - 1) (c - 1) 1 [LV.str (S.bytes vs o 1)] (wrapK IntKind.u16 (a + wrapK IntKind.u16 1))) (ls_T m (wrapK IntKind.u16 (a + wrapK IntKind.u16 1)) et (@bc Nat (Nat.beq c 1) o (o + 1)) (n - 1) (c - 1) 1 w vs [LV.str (S.bytes vs o 1)] ∧ (LoopState.ready = LoopState.ready ∧ ((none : Option Code) = none ∧ ([10] = [10] ∧ (S.code2 = S.code2 ∧ (S.code3 = S.code3 ∧ ((0 : Nat) = (0 : Nat) ∧ ((0 : Nat) = (0 : Nat) ∧ ((0 : Nat) = (0 : Nat) ∧ ((0 : Nat) = (0 : Nat) ∧ (S.lsl vs n o n a = (1 : Nat) + S.lsl vs (n - 1) (@bc Nat (Nat.beq c 1) o (o + 1)) (n - 1) (wrapK IntKind.u16 (a + wrapK IntKind.u16 1)) ∧ (Cap.rest (0 : Nat) = Cap.rest 0 ∧ (S.ls vs n o n a = app [LV.str (S.bytes vs o 1)] (S.ls vs (n - 1) (@bc Nat (Nat.beq c 1) o (o + 1)) (n - 1) (wrapK IntKind.u16 (a + wrapK IntKind.u16 1))) ∧ True))))))))))))) False) False) False) False)) (bc (Nat.ble n n) (bc (Nat.ble 1 n) (bc (Nat.ble n c) (bc (S.lok vs (@bc Nat (Nat.beq c 1) o (o + 1)) (n - 1) (c - 1) 1 [LV.str (S.bytes vs o 1)] (wrapK IntKind.u16 (a + wrapK IntKind.u16 1))) (ls_T m (wrapK IntKind.u16 (a + wrapK IntKind.u16 1)) et (@bc Nat (Nat.beq c 1) o (o + 1)) (n - 1) (c - 1) 1 w vs [LV.str (S.bytes vs o 1)] ∧ (LoopState.ready = LoopState.ready ∧ ((none : Option Code) = none ∧ ([10] = [10] ∧ (S.code2 = S.code2 ∧ (S.code3 = S.code3 ∧ ((0 : Nat) = (0 : Nat) ∧ ((0 : Nat) = (0 : Nat) ∧ ((0 : Nat) = (0 : Nat) ∧ ((0 : Nat) = (0 : Nat) ∧ (S.lsl vs n o n a = (1 : Nat) + S.lsl vs (n - 1) (@bc Nat (Nat.beq c 1) o (o + 1)) (n - 1) (wrapK IntKind.u16 (a + wrapK IntKind.u16 1)) ∧ (Cap.rest (0 : Nat) = Cap.rest 0 ∧ (S.ls vs n o n a = app [LV.str (S.bytes vs o 1)] (S.ls vs (n - 1) (@bc Nat (Nat.beq c 1) o (o + 1)) (n - 1) (wrapK IntKind.u16 (a + wrapK IntKind.u16 1))) ∧ True))))))))))))) False) False) False) False)) False) False) False) False) False) False) False) False) False) False) := by kernel_rfl
theorem lsA3_con (m a : Int) (et o n c : Nat) (w : Own) (vs : List LV) (h0 : S.lok vs o n c 0 [] a = true) (h1 : 0 < n) (hk : S.len (S.by1 vs o) = 3) (IH : ∀ (o2 n2 c2 M2 : Nat) (ss2 : List LV) (a2 : Int), n2 < n → S.lok vs o2 n2 c2 M2 ss2 a2 = true → ls_T m a2 et o2 n2 c2 M2 w vs ss2) : GT Tryd.prog (fun k => .code (inner (inner (blkOf 44 0))) :: .inLoop (inner (inner (blkOf 44 0))) :: k) (Fr.ofL 44 54 [(0, .func (.yield 0) [] []), (1, .ptr 2 0), (2, .ptr 4 0)] [] none) (Heap.of [.loop .ready none 18 16 S.LTA [10] S.code2 S.code3 5, .cells 32 .exact [.nils], .cells 27 .exact [.slice 3 o n (.known c)], .flat [.i .u8] et w vs, .cells 22 .exact [.int .u16 a], .defers false, .glob 0 S.tabV, .glob 1 [.int .i64 m]]) (⟨.exit 0, [], [(0, .loop .ready none 18 16 S.LTA [10] S.code2 S.code3 5), (1, .cells 32 .exact [.slice 8 0 (S.lsl vs n o n a) (.rest 0)]), (2, .dead), (4, .dead)], [.flat [.sr] 9 (.grow 1) (S.ls vs n o n a)]⟩ : K.BRes).x (Fr.ofL 44 54 (⟨.exit 0, [], [(0, .loop .ready none 18 16 S.LTA [10] S.code2 S.code3 5), (1, .cells 32 .exact [.slice 8 0 (S.lsl vs n o n a) (.rest 0)]), (2, .dead), (4, .dead)], [.flat [.sr] 9 (.grow 1) (S.ls vs n o n a)]⟩ : K.BRes).L [] none) (Heap.of (K.chg [.loop .ready none 18 16 S.LTA [10] S.code2 S.code3 5, .cells 32 .exact [.nils], .cells 27 .exact [.slice 3 o n (.known c)], .flat [.i .u8] et w vs, .cells 22 .exact [.int .u16 a], .defers false, .glob 0 S.tabV, .glob 1 [.int .i64 m]] (⟨.exit 0, [], [(0, .loop .ready none 18 16 S.LTA [10] S.code2 S.code3 5), (1, .cells 32 .exact [.slice 8 0 (S.lsl vs n o n a) (.rest 0)]), (2, .dead), (4, .dead)], [.flat [.sr] 9 (.grow 1) (S.ls vs n o n a)]⟩ : K.BRes).ch ++ (⟨.exit 0, [], [(0, .loop .ready none 18 16 S.LTA [10] S.code2 S.code3 5), (1, .cells 32 .exact [.slice 8 0 (S.lsl vs n o n a) (.rest 0)]), (2, .dead), (4, .dead)], [.flat [.sr] 9 (.grow 1) (S.ls vs n o n a)]⟩ : K.BRes).new)) := by
  refine K.loop_of_run good (A := envK [(15, byE), (20, ln3E), (45, plE), (10, shE)] (fun g id => none) (fun g i => bc (Nat.beq g 18) (hasN [5] i) (true))) (envK_ok ?_) K.openE_ok (k := 30) (ent := lsEB) (cast (lsA3_run m a et o n c w vs).symm ?_)
  · intro p hp; simp only [List.mem_cons, List.not_mem_nil, or_false] at hp; rcases hp with rfl | rfl | rfl | rfl <;> first | exact by_ok | exact ln3_ok | exact pl_ok | exact sh_ok
  · obtain ⟨⟨hR, hc⟩, ⟨hM, hN⟩, hW⟩ := S.lok_iff.1 h0
    obtain ⟨hb, hl, hq⟩ := S.okR_iff.1 hR
    have hn := h1
    have e1 : ltI 0 (n : Int) = true := ltI_true.2 (by omega)
    have nz := S.nz_of hn
    have b0 : Nat.ble n n = true := S.bleN.2 (Nat.le_refl n)
    have b1 : Nat.ble 1 n = true := S.bleN.2 hn
    have b2 : Nat.ble 1 c = true := S.bleN.2 (by omega)
    have b3 : Nat.ble n c = true := S.bleN.2 hc
    have r1 : S.okR vs o 1 = true := S.okR_iff.2 ⟨hb, by omega, by decide⟩
    have bl : Nat.ble (o + 1) (lenL vs) = true := S.bleN.2 (by omega)
    have g0 := S.okB_at hb (i := o) (by omega)
    have iB : S.isB (intOf (K.atV vs o)) = true := S.isB_iff.2 g0
    have hG := S.okG_0
    have hkE : eqI (S.len (intOf (K.atV vs o))) 3 = true := eqI_true.2 hk
    have at2 : S.an true true = true := rfl
    cases hp : S.pl (intOf (K.atV vs o)) with
    | false =>
      have hC : S.isC vs o n = false := S.isC_p hp
      obtain ⟨o2, ho2, bx, hlk, hgo, w2⟩ := S.ls_tail (k := 1) (M2 := 1) (ss2 := ([LV.str (S.bytes vs o 1)] : List LV)) (X := S.bytes vs o 1) (c := c) (a := a) (by decide) hb hl hc (by omega) (by omega) hW (S.stp_f hC) (S.lin_f hC) (rfl)
      have w2 : wrapK .u16 (a + wrapK .u16 1) = S.nxt a 1 := w2
      have ih := IH o2 (n - 1) (c - 1) 1 ([LV.str (S.bytes vs o 1)] : List LV) (S.nxt a 1) (by omega) hlk
      simp only [e1, nz, b0, b1, b2, b3, r1, bl, iB, hG, hkE, at2, Nat.add_zero, Nat.zero_add, bc_true, bc_false, notB_t, notB_f, true_and, and_true, ← ho2, w2, hlk, hp]
      refine ⟨ih, ?_, ?_⟩
      · unfold S.lsl
        rw [hgo, S.lenL_cons]; omega
      · rw [hgo]; rfl
    | true =>
      by_cases hkn : 3 ≤ n
      rotate_left
      · have hC : S.isC vs o n = false := S.isC_n (by rw [hk]; omega)
        have ek : ltI (n : Int) 3 = true := ltI_true.2 (by omega)
        obtain ⟨o2, ho2, bx, hlk, hgo, w2⟩ := S.ls_tail (k := 1) (M2 := 1) (ss2 := ([LV.str (S.bytes vs o 1)] : List LV)) (X := S.bytes vs o 1) (c := c) (a := a) (by decide) hb hl hc (by omega) (by omega) hW (S.stp_f hC) (S.lin_f hC) (rfl)
        have w2 : wrapK .u16 (a + wrapK .u16 1) = S.nxt a 1 := w2
        have ih := IH o2 (n - 1) (c - 1) 1 ([LV.str (S.bytes vs o 1)] : List LV) (S.nxt a 1) (by omega) hlk
        simp only [e1, nz, b0, b1, b2, b3, r1, bl, iB, hG, hkE, at2, Nat.add_zero, Nat.zero_add, bc_true, bc_false, notB_t, notB_f, true_and, and_true, ← ho2, w2, hlk, hp, ek]
        refine ⟨ih, ?_, ?_⟩
        · unfold S.lsl
          rw [hgo, S.lenL_cons]; omega
        · rw [hgo]; rfl
      have hC : S.isC vs o n = true := S.isC_t hp (by rw [hk]; omega)
      have ek : ltI (n : Int) 3 = false := ltI_false.2 (by omega)
      have b5 : Nat.ble 3 n = true := S.bleN.2 hkn
      have b6 : Nat.ble 3 c = true := S.bleN.2 (by omega)
      have c1 : Nat.beq c 1 = false := by
        cases h : Nat.beq c 1 with
        | false => rfl
        | true => have := S.beqN.1 h; omega
      have bl2 : Nat.ble (o + 1 + 2) (lenL vs) = true := S.bleN.2 (by omega)
      have g1 := S.okB_at hb (i := o + 1) (by omega)
      have g2 := S.okB_at hb (i := o + 1 + 1) (by omega)
      have oS : S.okS (intOf (K.atV vs o)) (intOf (K.atV vs (o + 1))) (intOf (K.atV vs (o + 1 + 1))) a = true := S.okS_iff.2 ⟨g0, g1, g2, hW⟩
      obtain ⟨o2, ho2, bx, hlk, hgo, w2⟩ := S.ls_tail (k := 3) (M2 := 1) (ss2 := ([LV.str (S.shw (intOf (K.atV vs o)) (intOf (K.atV vs (o + 1))) (intOf (K.atV vs (o + 1 + 1))) a)] : List LV)) (X := S.shw (intOf (K.atV vs o)) (intOf (K.atV vs (o + 1))) (intOf (K.atV vs (o + 1 + 1))) a) (c := c) (a := a) (by decide) hb hl hc (by omega) (by omega) hW (S.stp_t hC hk) (S.lin_3 hC hk) (rfl)
      have w2 : wrapK .u16 (a + wrapK .u16 3) = S.nxt a 3 := w2
      have ih := IH o2 (n - 3) (c - 3) 1 ([LV.str (S.shw (intOf (K.atV vs o)) (intOf (K.atV vs (o + 1))) (intOf (K.atV vs (o + 1 + 1))) a)] : List LV) (S.nxt a 3) (by omega) hlk
      simp only [e1, nz, b0, b1, b2, b3, r1, bl, iB, hG, hkE, at2, Nat.add_zero, Nat.zero_add, bc_true, bc_false, notB_t, notB_f, true_and, and_true, ← ho2, w2, hlk, hp, ek, b5, b6, oS, bx, c1, bl2]
      refine ⟨ih, ?_, ?_⟩
      · unfold S.lsl
        rw [hgo, S.lenL_cons]; omega
      · rw [hgo]; rfl
theorem ls_mv {pre : List Item → List Item} {f : Fr} {H : Heap} {x : LX} {g n0 : Nat} (m a : Int) (et o c M : Nat) (w : Own) (vs ss : List LV) (h : GT Tryd.prog pre f H x (Fr.ofL g n0 [] [] none) (Heap.of [.loop .ready none 18 16 S.LTB [10] S.code2 S.code3 6, .cells 32 .exact [.slice 2 0 M (.rest 0)], .flat [.sr] 9 (.grow 1) ss, .cells 27 .exact [.slice 4 o 0 (.known c)], .flat [.i .u8] et w vs, .cells 22 .exact [.int .u16 a], .defers false, .glob 0 S.tabV, .glob 1 [.int .i64 m]])) (hn : H.n ≤ 9) (hx : ∀ v, x ≠ .pan v) :
    GT Tryd.prog pre f H x (Fr.ofL g n0 [] [] none) (Heap.of [.loop .ready none 18 16 S.LTB [10] S.code2 S.code3 6, .cells 32 .exact [.slice 9 0 M (.rest 0)], .dead, .dead, .flat [.i .u8] et w vs, .dead, .defers false, .glob 0 S.tabV, .glob 1 [.int .i64 m], .flat [.sr] 9 (.grow 1) ss]) := by
  have h7 : at_ (K.mvl 9 2) 9 = 2 := rfl
  have hT : K.mapKO (at_ (K.mvl 9 2)) (.loop .ready none 18 16 S.LTB [10] S.code2 S.code3 6) = .loop .ready none 18 16 S.LTB [10] S.code2 S.code3 6 := by kernel_rfl
  have hW : K.wfKO 10 (.loop .ready none 18 16 S.LTB [10] S.code2 S.code3 6) = true := by kernel_rfl
  have hlp : sameObj (at_ (K.mvl 9 2)) (.loop .ready none 18 16 S.LTB [10] S.code2 S.code3 6) (.loop .ready none 18 16 S.LTB [10] S.code2 S.code3 6) ∧ ltObj 10 (.loop .ready none 18 16 S.LTB [10] S.code2 S.code3 6) := by
    have h1 := K.wfKO_B hW
    have h2 := eqObj_map (at_ (K.mvl 9 2)) h1
    rw [← K.mapKO_eq, hT] at h2
    exact ⟨eqObj_same h2, wfObjB_lt h1⟩
  refine K.GT_mv2 (os := [.loop .ready none 18 16 S.LTB [10] S.code2 S.code3 6, .cells 32 .exact [.slice 2 0 M (.rest 0)], .flat [.sr] 9 (.grow 1) ss, .cells 27 .exact [.slice 4 o 0 (.known c)], .flat [.i .u8] et w vs, .cells 22 .exact [.int .u16 a], .defers false, .glob 0 S.tabV, .glob 1 [.int .i64 m]]) (j := 2) h hn (by show 2 < 9; decide) rfl (fun _ => rfl) ?_ hx trivial trivial
  intro i h1 h2
  have hcase : i = 0 ∨ i = 1 ∨ i = 3 ∨ i = 4 ∨ i = 5 ∨ i = 6 ∨ i = 7 ∨ i = 8 ∨ i = 9 := by
    have : i < 10 := h1
    omega
  rcases hcase with rfl | rfl | rfl | rfl | rfl | rfl | rfl | rfl | rfl
  · exact ⟨(by show 0 < 9; decide), hlp⟩
  · exact ⟨(by show 1 < 9; decide), (by show sameObj (at_ (K.mvl 9 2)) (.cells 32 .exact [.slice 9 0 M (.rest 0)]) (.cells 32 .exact [.slice 2 0 M (.rest 0)]); simp [sameObj, sameVs, sameV]; exact h7), (by simp [ltObj, lts, lt])⟩
  · exact ⟨(by show 3 < 9; decide), trivial, trivial⟩
  · exact ⟨(by show 4 < 9; decide), (by show sameObj (at_ (K.mvl 9 2)) (.flat [.i .u8] et w vs) (.flat [.i .u8] et w vs); simp [sameObj, sameVs, sameV]), (by simp [ltObj])⟩
  · exact ⟨(by show 5 < 9; decide), trivial, trivial⟩
  · exact ⟨(by show 6 < 9; decide), (by show sameObj (at_ (K.mvl 9 2)) (.defers false) (.defers false); simp [sameObj, sameVs, sameV]), (by simp [ltObj])⟩
  · exact ⟨(by show 7 < 9; decide), (by show sameObj (at_ (K.mvl 9 2)) (.glob 0 S.tabV) (.glob 0 S.tabV); simp [sameObj, sameVs, sameV]), (by simp [ltObj])⟩
  · exact ⟨(by show 8 < 9; decide), (by show sameObj (at_ (K.mvl 9 2)) (.glob 1 [.int .i64 m]) (.glob 1 [.int .i64 m]); simp [sameObj, sameVs, sameV]), (by simp [ltObj])⟩
  · exact ⟨(by show 2 < 9; decide), (by show sameObj (at_ (K.mvl 9 2)) (.flat [.sr] 9 (.grow 1) ss) (.flat [.sr] 9 (.grow 1) ss); simp [sameObj, sameVs, sameV]), (by simp [ltObj])⟩
theorem ls_lok (m : Int) (et : Nat) (w : Own) (vs : List LV) : ∀ (n o c M : Nat) (ss : List LV) (a : Int), S.lok vs o n c M ss a = true → ls_T m a et o n c M w vs ss := by
  intro n
  induction n using Nat.strongRecOn with
  | _ n ih =>
    intro o c M ss a h0
    have IH := fun (o2 n2 c2 M2 : Nat) (ss2 : List LV) (a2 : Int) (hlt : n2 < n) (h : S.lok vs o2 n2 c2 M2 ss2 a2 = true) => ih n2 hlt o2 c2 M2 ss2 a2 h
    have h : GT Tryd.prog (fun k => .code (inner (inner (blkOf 44 0))) :: .inLoop (inner (inner (blkOf 44 0))) :: k) (Fr.ofL 44 54 [(0, .func (.yield 0) [] []), (1, .ptr 3 0), (2, .ptr 5 0)] [] none) (Heap.of [.loop .ready none 18 16 S.LTB [10] S.code2 S.code3 6, .cells 32 .exact [.slice 2 0 M (.rest 0)], .flat [.sr] 9 (.grow 1) ss, .cells 27 .exact [.slice 4 o n (.known c)], .flat [.i .u8] et w vs, .cells 22 .exact [.int .u16 a], .defers false, .glob 0 S.tabV, .glob 1 [.int .i64 m]]) (bc (Nat.beq n 0) ⟨.exit 0, [], [], []⟩ ⟨.exit 0, [], [(0, .loop .ready none 18 16 S.LTB [10] S.code2 S.code3 6), (1, .cells 32 .exact [.slice 9 0 (M + S.lsl vs n o n a) (.rest 0)]), (2, .dead), (3, .dead), (5, .dead)], [.flat [.sr] 9 (.grow 1) (app ss (S.ls vs n o n a))]⟩ : K.BRes).x (Fr.ofL 44 54 (bc (Nat.beq n 0) ⟨.exit 0, [], [], []⟩ ⟨.exit 0, [], [(0, .loop .ready none 18 16 S.LTB [10] S.code2 S.code3 6), (1, .cells 32 .exact [.slice 9 0 (M + S.lsl vs n o n a) (.rest 0)]), (2, .dead), (3, .dead), (5, .dead)], [.flat [.sr] 9 (.grow 1) (app ss (S.ls vs n o n a))]⟩ : K.BRes).L [] none) (Heap.of (K.chg [.loop .ready none 18 16 S.LTB [10] S.code2 S.code3 6, .cells 32 .exact [.slice 2 0 M (.rest 0)], .flat [.sr] 9 (.grow 1) ss, .cells 27 .exact [.slice 4 o n (.known c)], .flat [.i .u8] et w vs, .cells 22 .exact [.int .u16 a], .defers false, .glob 0 S.tabV, .glob 1 [.int .i64 m]] (bc (Nat.beq n 0) ⟨.exit 0, [], [], []⟩ ⟨.exit 0, [], [(0, .loop .ready none 18 16 S.LTB [10] S.code2 S.code3 6), (1, .cells 32 .exact [.slice 9 0 (M + S.lsl vs n o n a) (.rest 0)]), (2, .dead), (3, .dead), (5, .dead)], [.flat [.sr] 9 (.grow 1) (app ss (S.ls vs n o n a))]⟩ : K.BRes).ch ++ (bc (Nat.beq n 0) ⟨.exit 0, [], [], []⟩ ⟨.exit 0, [], [(0, .loop .ready none 18 16 S.LTB [10] S.code2 S.code3 6), (1, .cells 32 .exact [.slice 9 0 (M + S.lsl vs n o n a) (.rest 0)]), (2, .dead), (3, .dead), (5, .dead)], [.flat [.sr] 9 (.grow 1) (app ss (S.ls vs n o n a))]⟩ : K.BRes).new)) := by
      rcases S.len_cases (S.by1 vs o) with hk | hk | hk
      · exact lsB1_con m a et o n c M w vs ss h0 (fun _ => hk) IH
      · exact lsB2_con m a et o n c M w vs ss h0 (fun _ => hk) IH
      · exact lsB3_con m a et o n c M w vs ss h0 (fun _ => hk) IH
    cases hb : Nat.beq n 0 with
    | false => rw [hb] at h; exact h
    | true =>
      rw [hb] at h
      have hb := S.beqN.1 hb
      subst hb
      have z : S.lsl vs 0 o 0 a = 0 := rfl
      have z2 : app ss (S.ls vs 0 o 0 a) = ss := by rw [S.ls_zero, K.app_eq, List.append_nil]
      unfold ls_T
      rw [z, z2, Nat.add_zero]
      exact ls_mv m a et o c M w vs ss (n0 := 54) h (Nat.le_refl 9) (fun v e => by cases e)
theorem ls_hb : blkOf 44 0 = .block 0 (.loop (inner (inner (blkOf 44 0)))) := by kernel_rfl
theorem ls_blk (m a : Int) (et o n c : Nat) (w : Own) (vs : List LV) (h0 : S.lok vs o n c 0 [] a = true) (h1 : 0 < n) : K.BOk Tryd.prog 44 54 (blkOf 44 0) [0, 1, 2] [.func (.yield 0) [] [], .ptr 2 0, .ptr 4 0] [.loop .ready none 18 16 S.LTA [10] S.code2 S.code3 5, .cells 32 .exact [.nils], .cells 27 .exact [.slice 3 o n (.known c)], .flat [.i .u8] et w vs, .cells 22 .exact [.int .u16 a], .defers false, .glob 0 S.tabV, .glob 1 [.int .i64 m]] ⟨.normal, [], [(0, .loop .ready none 18 16 S.LTA [10] S.code2 S.code3 5), (1, .cells 32 .exact [.slice 8 0 (S.lsl vs n o n a) (.rest 0)]), (2, .dead), (4, .dead)], [.flat [.sr] 9 (.grow 1) (S.ls vs n o n a)]⟩ := by
  have IH := fun (o2 n2 c2 M2 : Nat) (ss2 : List LV) (a2 : Int) (_ : n2 < n) (h : S.lok vs o2 n2 c2 M2 ss2 a2 = true) => ls_lok m et w vs n2 o2 c2 M2 ss2 a2 h
  unfold K.BOk
  rw [ls_hb]
  refine K.CT.block (K.GT.loop ?_)
  rcases S.len_cases (S.by1 vs o) with hk | hk | hk
  · exact lsA1_con m a et o n c w vs h0 h1 hk IH
  · exact lsA2_con m a et o n c w vs h0 h1 hk IH
  · exact lsA3_con m a et o n c w vs h0 h1 hk IH
theorem liN_run (m a : Int) (et o n c : Nat) (w : Own) (vs : List LV) : K.bodyF (envK [(15, byE), (20, ln1E), (45, plE), (10, shE)] (fun g id => bc (Nat.beq g 44) (bc (Nat.beq id 0) (some lsFB) (none)) (none)) (fun g i => bc (Nat.beq g 18) (hasN [5] i) (true))) (K.runF (envK [(15, byE), (20, ln1E), (45, plE), (10, shE)] (fun g id => bc (Nat.beq g 44) (bc (Nat.beq id 0) (some lsFB) (none)) (none)) (fun g i => bc (Nat.beq g 18) (hasN [5] i) (true))) 30) 18 [.int .u16 a, .slice 0 o n (.known c)] (Heap.of [.flat [.i .u8] et w vs, .glob 0 S.tabV, .glob 1 [.int .i64 m]]) Hint.auto (K.endC K.openE 3 ⟨.ret (.slice 3 0 (S.lsl vs n o n a) (.rest 0)), [], [.flat [.sr] 9 (.grow 1) (S.ls vs n o n a)]⟩) =
    (bc (S.an (S.lok vs o n c 0 [] a) (Nat.blt 0 n)) (K.BOk Tryd.prog 44 54 (blkOf 44 0) [0, 1, 2] [LV.func (Fn.yield 0) [] [], LV.ptr 2 0, LV.ptr 4 0] [LObj.loop LoopState.ready none 18 (nat_lit 16) S.LTA [10] S.code2 S.code3 5, LObj.cells 32 Own.exact [LV.nils], LObj.cells 27 Own.exact [LV.slice 3 o n (Cap.known c)], LObj.flat [CK.i IntKind.u8] et w vs, LObj.cells 22 Own.exact [LV.int IntKind.u16 a], LObj.defers false, LObj.glob 0 S.tabV, LObj.glob 1 [LV.int IntKind.i64 m]] { x := LX.normal, L := [], ch := [(0, LObj.loop LoopState.ready none 18 16 S.LTA [10] S.code2 S.code3 5), (1, LObj.cells 32 Own.exact [LV.slice 8 0 (S.lsl vs n o n a) (Cap.rest 0)]), (2, LObj.dead), (4, LObj.dead)], new := [LObj.flat [CK.sr] 9 (Own.grow 1) (S.ls vs n o n a)] } ∧ ((0 : Nat) = (0 : Nat) ∧ (S.lsl vs n o n a = S.lsl vs n o n a ∧ (Cap.rest (0 : Nat) = Cap.rest 0 ∧ (S.ls vs n o n a = S.ls vs n o n a ∧ True))))) False) := by kernel_rfl
theorem liN_con (m a : Int) (et o n c : Nat) (w : Own) (vs : List LV) (h0 : S.an (S.lok vs o n c 0 [] a) (Nat.blt 0 n) = true)  : HT Tryd.prog 18 [.int .u16 a, .slice 0 o n (.known c)] (Heap.of [.flat [.i .u8] et w vs, .glob 0 S.tabV, .glob 1 [.int .i64 m]]) (⟨.ret (.slice 3 0 (S.lsl vs n o n a) (.rest 0)), [], [.flat [.sr] 9 (.grow 1) (S.ls vs n o n a)]⟩ : K.CRes).e (Heap.of (K.chg [.flat [.i .u8] et w vs, .glob 0 S.tabV, .glob 1 [.int .i64 m]] (⟨.ret (.slice 3 0 (S.lsl vs n o n a) (.rest 0)), [], [.flat [.sr] 9 (.grow 1) (S.ls vs n o n a)]⟩ : K.CRes).ch ++ (⟨.ret (.slice 3 0 (S.lsl vs n o n a) (.rest 0)), [], [.flat [.sr] 9 (.grow 1) (S.ls vs n o n a)]⟩ : K.CRes).new)) := by
  refine K.con_of_run good (A := envK [(15, byE), (20, ln1E), (45, plE), (10, shE)] (fun g id => bc (Nat.beq g 44) (bc (Nat.beq id 0) (some lsFB) (none)) (none)) (fun g i => bc (Nat.beq g 18) (hasN [5] i) (true))) (envK_ok ?_) K.openE_ok (k := 30) (cast (liN_run m a et o n c w vs).symm ?_)
  · intro p hp; simp only [List.mem_cons, List.not_mem_nil, or_false] at hp; rcases hp with rfl | rfl | rfl | rfl <;> first | exact by_ok | exact ln1_ok | exact pl_ok | exact sh_ok
  · obtain ⟨h1, h2⟩ := S.an_iff.1 h0
    have h2 : 0 < n := Nat.le_of_ble_eq_true h2
    simp only [h0, bc_true]
    exact ⟨ls_blk m a et o n c w vs h1 h2, by simp⟩
theorem liZ_run (m a : Int) (et o c : Nat) (w : Own) (vs : List LV) : K.bodyF (envK [(15, byE), (20, ln1E), (45, plE), (10, shE)] (fun g id => none) (fun g i => bc (Nat.beq g 18) (hasN [5] i) (true))) (K.runF (envK [(15, byE), (20, ln1E), (45, plE), (10, shE)] (fun g id => none) (fun g i => bc (Nat.beq g 18) (hasN [5] i) (true))) 30) 18 [.int .u16 a, .slice 0 o 0 (.known c)] (Heap.of [.flat [.i .u8] et w vs, .glob 0 S.tabV, .glob 1 [.int .i64 m]]) Hint.auto (K.endC K.openE 3 ⟨.ret .nils, [], []⟩) =
    (True) := by kernel_rfl
theorem liZ_con (m a : Int) (et o c : Nat) (w : Own) (vs : List LV)  : HT Tryd.prog 18 [.int .u16 a, .slice 0 o 0 (.known c)] (Heap.of [.flat [.i .u8] et w vs, .glob 0 S.tabV, .glob 1 [.int .i64 m]]) (⟨.ret .nils, [], []⟩ : K.CRes).e (Heap.of (K.chg [.flat [.i .u8] et w vs, .glob 0 S.tabV, .glob 1 [.int .i64 m]] (⟨.ret .nils, [], []⟩ : K.CRes).ch ++ (⟨.ret .nils, [], []⟩ : K.CRes).new)) := by
  refine K.con_of_run good (A := envK [(15, byE), (20, ln1E), (45, plE), (10, shE)] (fun g id => none) (fun g i => bc (Nat.beq g 18) (hasN [5] i) (true))) (envK_ok ?_) K.openE_ok (k := 30) (cast (liZ_run m a et o c w vs).symm ?_)
  · intro p hp; simp only [List.mem_cons, List.not_mem_nil, or_false] at hp; rcases hp with rfl | rfl | rfl | rfl <;> first | exact by_ok | exact ln1_ok | exact pl_ok | exact sh_ok
  · trivial
theorem liE_run (m a : Int) : K.bodyF (envK [(15, byE), (20, ln1E), (45, plE), (10, shE)] (fun g id => none) (fun g i => bc (Nat.beq g 18) (hasN [5] i) (true))) (K.runF (envK [(15, byE), (20, ln1E), (45, plE), (10, shE)] (fun g id => none) (fun g i => bc (Nat.beq g 18) (hasN [5] i) (true))) 30) 18 [.int .u16 a, .emp 0] (Heap.of [.empty, .glob 0 S.tabV, .glob 1 [.int .i64 m]]) Hint.auto (K.endC K.openE 3 ⟨.ret .nils, [], []⟩) =
    (True) := by kernel_rfl
theorem liE_con (m a : Int)  : HT Tryd.prog 18 [.int .u16 a, .emp 0] (Heap.of [.empty, .glob 0 S.tabV, .glob 1 [.int .i64 m]]) (⟨.ret .nils, [], []⟩ : K.CRes).e (Heap.of (K.chg [.empty, .glob 0 S.tabV, .glob 1 [.int .i64 m]] (⟨.ret .nils, [], []⟩ : K.CRes).ch ++ (⟨.ret .nils, [], []⟩ : K.CRes).new)) := by
  refine K.con_of_run good (A := envK [(15, byE), (20, ln1E), (45, plE), (10, shE)] (fun g id => none) (fun g i => bc (Nat.beq g 18) (hasN [5] i) (true))) (envK_ok ?_) K.openE_ok (k := 30) (cast (liE_run m a).symm ?_)
  · intro p hp; simp only [List.mem_cons, List.not_mem_nil, or_false] at hp; rcases hp with rfl | rfl | rfl | rfl <;> first | exact by_ok | exact ln1_ok | exact pl_ok | exact sh_ok
  · trivial
theorem liX_run (m a : Int) : K.bodyF (envK [(15, byE), (20, ln1E), (45, plE), (10, shE)] (fun g id => none) (fun g i => bc (Nat.beq g 18) (hasN [5] i) (true))) (K.runF (envK [(15, byE), (20, ln1E), (45, plE), (10, shE)] (fun g id => none) (fun g i => bc (Nat.beq g 18) (hasN [5] i) (true))) 30) 18 [.int .u16 a, .nils] (Heap.of [.glob 0 S.tabV, .glob 1 [.int .i64 m]]) Hint.auto (K.endC K.openE 2 ⟨.ret .nils, [], []⟩) =
    (True) := by kernel_rfl
theorem liX_con (m a : Int)  : HT Tryd.prog 18 [.int .u16 a, .nils] (Heap.of [.glob 0 S.tabV, .glob 1 [.int .i64 m]]) (⟨.ret .nils, [], []⟩ : K.CRes).e (Heap.of (K.chg [.glob 0 S.tabV, .glob 1 [.int .i64 m]] (⟨.ret .nils, [], []⟩ : K.CRes).ch ++ (⟨.ret .nils, [], []⟩ : K.CRes).new)) := by
  refine K.con_of_run good (A := envK [(15, byE), (20, ln1E), (45, plE), (10, shE)] (fun g id => none) (fun g i => bc (Nat.beq g 18) (hasN [5] i) (true))) (envK_ok ?_) K.openE_ok (k := 30) (cast (liX_run m a).symm ?_)
  · intro p hp; simp only [List.mem_cons, List.not_mem_nil, or_false] at hp; rcases hp with rfl | rfl | rfl | rfl <;> first | exact by_ok | exact ln1_ok | exact pl_ok | exact sh_ok
  · trivial
theorem li_k (m a : Int) (et o n c : Nat) (w : Own) (vs cs : List LV) (g g1 : Nat) (h : S.an (S.okG g cs g1) (S.an (S.lok vs o n c 0 [] a) (Nat.blt 0 n)) = true) : HT Tryd.prog 18 [.int .u16 a, .slice 0 o n (.known c)] (Heap.of [.flat [.i .u8] et w vs, .glob g cs, .glob g1 [.int .i64 m]]) (.ret (.slice 3 0 (S.lsl vs n o n a) (.rest 0))) (Heap.of ([.flat [.i .u8] et w vs, .glob g cs, .glob g1 [.int .i64 m]] ++ [.flat [.sr] 9 (.grow 1) (S.ls vs n o n a)])) := by
  obtain ⟨h1, h2⟩ := S.an_iff.1 h
  obtain ⟨e1, e2, e3⟩ := S.okG_ok h1
  subst e1; subst e2; subst e3
  exact liN_con m a et o n c w vs h2
theorem li_g (m a : Int) (et n : Nat) (vs cs : List LV) (g g1 : Nat) (h : S.an (S.okG g cs g1) (S.an (S.an (S.lok vs 0 n n 0 [] a) (Nat.beq (lenL vs) n)) (Nat.blt 0 n)) = true) : HT Tryd.prog 18 [.int .u16 a, .slice 0 0 n (.rest 0)] (Heap.of [.flat [.i .u8] et (.grow 1) vs, .glob g cs, .glob g1 [.int .i64 m]]) (.ret (.slice 3 0 (S.lsl vs n 0 n a) (.rest 0))) (Heap.of ([.flat [.i .u8] et (.grow 1) vs, .glob g cs, .glob g1 [.int .i64 m]] ++ [.flat [.sr] 9 (.grow 1) (S.ls vs n 0 n a)])) := by
  obtain ⟨h1, h2⟩ := S.an_iff.1 h
  obtain ⟨h3, h4⟩ := S.an_iff.1 h2
  obtain ⟨h5, hl⟩ := S.an_iff.1 h3
  have hl := S.beqN.1 hl
  refine K.HT.look (os := [.flat [.i .u8] et (.grow 1) vs, .glob g cs, .glob g1 [.int .i64 m]]) (os1 := [.flat [.i .u8] et .ro vs, .glob g cs, .glob g1 [.int .i64 m]]) rfl (fun i k1 k2 => ?_) (fun o ho _ => by simp only [List.mem_cons, List.not_mem_nil, or_false] at ho; subst ho; rfl) (fun ρ w hs => ⟨[.int .u16 a, .slice 0 0 n (.known (ρ 0).cap)], ?_, ?_, ?_⟩)
  · have hi : i = 0 ∨ i = 1 ∨ i = 2 := by have : i < 3 := k1; omega
    rcases hi with rfl | rfl | rfl
    · exact .inr ⟨_, _, _, _, rfl, rfl⟩
    · exact .inl rfl
    · exact .inl rfl
  · simp [decs, dec, capOf]
  · simp [lts, lt]
  · have := hs.obj 0 (by show 0 < 3; decide)
    rw [of_get _ 0 (by show 0 < 3; decide)] at this
    have this : (ρ 0).off = 0 ∧ ∃ lo hi spare, (∀ j, j < (flatF [.i .u8] vs).length + spare.length → ¬ (lo ≤ j ∧ j < hi)) ∧ (flatF [.i .u8] vs).length ≤ (ρ 0).cap * 1 ∧ (ρ 0).cap * 1 ≤ (flatF [.i .u8] vs).length + spare.length ∧ w.heap[(ρ 0).blk]? = some (.cells (decs ρ (flatF [.i .u8] vs) ++ spare).toArray et (lo, hi)) := this
    obtain ⟨_, lo, hi, spare, _, h6, _, _⟩ := this
    rw [flat_length, ← K.lenL_eq, hl] at h6
    obtain ⟨⟨hR, _⟩, hM, hW⟩ := S.lok_iff.1 h5
    exact li_k m a et 0 n _ .ro vs cs g g1 (S.an_iff.2 ⟨h1, S.an_iff.2 ⟨S.lok_iff.2 ⟨⟨hR, by omega⟩, hM, hW⟩, h4⟩⟩)
theorem li_ok : liE.ok Tryd.prog 18 := by
  intro xs os b r h h3
  unfold liE at h
  simp only at h
  split at h
  · injection h with h; injection h with h1 h2; subst h1; subst h2
    exact li_k _ _ _ _ _ _ _ _ _ _ _ h3
  · injection h with h; injection h with h1 h2; subst h1; subst h2
    exact li_g _ _ _ _ _ _ _ _ h3
  · cases h
theorem liz_k (m a : Int) (et o c : Nat) (w : Own) (vs cs : List LV) (g g1 : Nat) (h : S.okG g cs g1 = true) : HT Tryd.prog 18 [.int .u16 a, .slice 0 o 0 (.known c)] (Heap.of [.flat [.i .u8] et w vs, .glob g cs, .glob g1 [.int .i64 m]]) (.ret .nils) (Heap.of [.flat [.i .u8] et w vs, .glob g cs, .glob g1 [.int .i64 m]]) := by
  obtain ⟨e1, e2, e3⟩ := S.okG_ok h
  subst e1; subst e2; subst e3
  exact liZ_con m a et o c w vs
theorem liz_ok : lizE.ok Tryd.prog 18 := by
  intro xs os b r h h3
  unfold lizE at h
  simp only at h
  split at h
  · injection h with h; injection h with h1 h2; subst h1; subst h2
    exact liz_k _ _ _ _ _ _ _ _ _ _ h3
  · cases h
end Go.Proofs.YtlgfojaalmelhaaDoor.Ev
