/- Contracts, proved: Tff. -/
import Derived.Test.YtlgfojaalmelhaaDoorTffD
import Derived.Test.YtlgfojaalmelhaaDoorTakP
import Derived.Test.YtlgfojaalmelhaaDoorTreP
namespace Go.Proofs.YtlgfojaalmelhaaDoor.Ev
open Go
set_option linter.unusedVariables false
set_option linter.unusedSimpArgs false
set_option maxRecDepth 100000
set_option maxHeartbeats 1000000
namespace S
theorem okB_intro {vs : List LV} : ∀ (n : Nat), (∀ i, i < n → 0 ≤ by1 vs i ∧ by1 vs i < 256) → (@Nat.rec (fun _ => Bool) true (fun i r => an (byOk (by1 vs i)) r) n) = true
 | 0, _ => rfl
 | n + 1, h => by
  obtain ⟨a, b⟩ := h n (by omega)
  exact an_iff.2 ⟨an_iff.2 ⟨notB_true.2 (ltI_false.2 a), ltI_true.2 b⟩, okB_intro n fun i hi => h i (by omega)⟩
theorem okE_intro {es : List LV} : ∀ (n : Nat), (∀ i, i < n → 0 ≤ intOf (K.atV es i) ∧ intOf (K.atV es i) < 65536) → okE es n = true
 | 0, _ => rfl
 | n + 1, h => an_iff.2 ⟨isW_iff.2 (h n (by omega)), okE_intro n fun i hi => h i (by omega)⟩
theorem row_len1 (l : List Int) : lenL (l.flatMap byV) = l.length := by
 rw [K.lenL_eq, flatMap_length byV 1 (fun _ => rfl), Nat.mul_one]
theorem row_len2 (l : List Int) : lenL (l.flatMap wdV) = l.length := by
 rw [K.lenL_eq, flatMap_length wdV 1 (fun _ => rfl), Nat.mul_one]
theorem row_ok1 (l : List Int) (h : ∀ a, a ∈ l → 0 ≤ a ∧ a ≤ 255) : okB (l.flatMap byV) = true := by
 unfold okB
 rw [row_len1]
 refine okB_intro _ fun i hi => ?_
 have e := atV_rows byV 1 (fun _ => rfl) l hi (c := 0) (by decide)
 rw [Nat.mul_one, Nat.add_zero] at e
 unfold by1; rw [e]
 have := h l[i] (List.getElem_mem hi)
 show 0 ≤ l[i] ∧ l[i] < 256
 omega
theorem row_ok2 (l : List Int) (h : ∀ a, a ∈ l → 0 ≤ a ∧ a ≤ 65535) : okE (l.flatMap wdV) l.length = true := by
 refine okE_intro _ fun i hi => ?_
 have e := atV_rows wdV 1 (fun _ => rfl) l hi (c := 0) (by decide)
 rw [Nat.mul_one, Nat.add_zero] at e
 rw [e]
 have := h l[i] (List.getElem_mem hi)
 show 0 ≤ l[i] ∧ l[i] < 65536
 omega
theorem flw_len {vs es : List LV} {W N : Nat} {a : Int} : lenL (flw vs W a es N) = W := row_len _ W
theorem okF_nil {a : Int} (h : 0 ≤ a ∧ a < 65536) : okF [] 0 a = true := okF_iff.2 ⟨⟨rfl, rfl⟩, by omega, h⟩
end S
theorem fkk_k (m a : Int) (et c W N q e2 : Nat) (w w2 : Own) (vs es cs : List LV) (g g1 : Nat) (h : S.an (S.okG g cs g1) (S.an (S.okF vs W a) (S.okN es N)) = true) : HT Tryd.prog 22 [.int .u16 a, .slice 0 0 W (.known c), .slice 1 0 N (.known q)] (Heap.of [.flat [.i .u8] et w vs, .flat [.i .u16] e2 w2 es, .glob g cs, .glob g1 [.int .i64 m]]) (.ret (.slice 4 0 W (.known W))) (Heap.of ([.flat [.i .u8] et w vs, .flat [.i .u16] e2 w2 es, .glob g cs, .glob g1 [.int .i64 m]] ++ [.flat [.bo] 4 .exact (S.flw vs W a es N)])) := by
 obtain ⟨h1, h2⟩ := S.an_iff.1 h
 obtain ⟨z1, z2, z3⟩ := S.okG_ok h1
 subst z1; subst z2; subst z3
 exact fwS_con m a et c W N q e2 w w2 vs es h2
theorem fkz_k (m a : Int) (et c W N q e2 : Nat) (w w2 : Own) (vs es cs : List LV) (g g1 : Nat) (h : S.an (S.okG g cs g1) (S.okF vs W a) = true) : HT Tryd.prog 22 [.int .u16 a, .slice 0 0 W (.known c), .slice 1 0 0 (.known q)] (Heap.of [.flat [.i .u8] et w vs, .flat [.i .u16] e2 w2 es, .glob g cs, .glob g1 [.int .i64 m]]) (.ret (.slice 4 0 W (.known W))) (Heap.of ([.flat [.i .u8] et w vs, .flat [.i .u16] e2 w2 es, .glob g cs, .glob g1 [.int .i64 m]] ++ [.flat [.bo] 4 .exact (S.flw vs W a es 0)])) := by
 obtain ⟨h1, h2⟩ := S.an_iff.1 h
 obtain ⟨z1, z2, z3⟩ := S.okG_ok h1
 subst z1; subst z2; subst z3
 exact fwZ_con m a et c W q e2 w w2 vs es h2
theorem frr_k (m a : Int) (et c W N q e2 : Nat) (w w2 : Own) (vs es cs : List LV) (g g1 : Nat) (h : S.an (S.okG g cs g1) (S.an (S.okF vs W a) (S.okN es N)) = true) : HT Tryd.prog 22 [.int .u16 a, .slice 0 0 W (.rest 0), .slice 1 0 N (.rest 0)] (Heap.of [.flat [.i .u8] et (.grow 1) vs, .flat [.i .u16] e2 (.grow 1) es, .glob g cs, .glob g1 [.int .i64 m]]) (.ret (.slice 4 0 W (.known W))) (Heap.of ([.flat [.i .u8] et (.grow 1) vs, .flat [.i .u16] e2 (.grow 1) es, .glob g cs, .glob g1 [.int .i64 m]] ++ [.flat [.bo] 4 .exact (S.flw vs W a es N)])) := by
 refine K.HT.look (os := [.flat [.i .u8] et (.grow 1) vs, .flat [.i .u16] e2 (.grow 1) es, .glob g cs, .glob g1 [.int .i64 m]]) (os1 := [.flat [.i .u8] et .ro vs, .flat [.i .u16] e2 .ro es, .glob g cs, .glob g1 [.int .i64 m]]) rfl (fun i k1 k2 => ?_) (fun o ho _ => by simp only [List.mem_cons, List.not_mem_nil, or_false] at ho; subst ho; rfl) (fun ρ v hs => ⟨[.int .u16 a, .slice 0 0 W (.known (ρ 0).cap), .slice 1 0 N (.known (ρ 1).cap)], ?_, ?_, ?_⟩)
 ·have hi : i = 0 ∨ i = 1 ∨ i = 2 ∨ i = 3 := by have : i < 4 := k1; omega
  rcases hi with rfl | rfl | rfl | rfl
  ·exact .inr ⟨_, _, _, _, rfl, rfl⟩
  ·exact .inr ⟨_, _, _, _, rfl, rfl⟩
  ·exact .inl rfl
  ·exact .inl rfl
 ·simp [decs, dec, capOf]
 ·simp [lts, lt]
 ·exact fkk_k m a et _ W N _ e2 .ro .ro vs es cs g g1 h
theorem fkr_k (m a : Int) (et c W N q e2 : Nat) (w w2 : Own) (vs es cs : List LV) (g g1 : Nat) (h : S.an (S.okG g cs g1) (S.an (S.okF vs W a) (S.okN es N)) = true) : HT Tryd.prog 22 [.int .u16 a, .slice 0 0 W (.known c), .slice 1 0 N (.rest 0)] (Heap.of [.flat [.i .u8] et w vs, .flat [.i .u16] e2 (.grow 1) es, .glob g cs, .glob g1 [.int .i64 m]]) (.ret (.slice 4 0 W (.known W))) (Heap.of ([.flat [.i .u8] et w vs, .flat [.i .u16] e2 (.grow 1) es, .glob g cs, .glob g1 [.int .i64 m]] ++ [.flat [.bo] 4 .exact (S.flw vs W a es N)])) := by
 refine K.HT.look (os := [.flat [.i .u8] et w vs, .flat [.i .u16] e2 (.grow 1) es, .glob g cs, .glob g1 [.int .i64 m]]) (os1 := [.flat [.i .u8] et w vs, .flat [.i .u16] e2 .ro es, .glob g cs, .glob g1 [.int .i64 m]]) rfl (fun i k1 k2 => ?_) (fun o ho _ => by simp only [List.mem_cons, List.not_mem_nil, or_false] at ho; subst ho; rfl) (fun ρ v hs => ⟨[.int .u16 a, .slice 0 0 W (.known c), .slice 1 0 N (.known (ρ 1).cap)], ?_, ?_, ?_⟩)
 ·have hi : i = 0 ∨ i = 1 ∨ i = 2 ∨ i = 3 := by have : i < 4 := k1; omega
  rcases hi with rfl | rfl | rfl | rfl
  ·exact .inl rfl
  ·exact .inr ⟨_, _, _, _, rfl, rfl⟩
  ·exact .inl rfl
  ·exact .inl rfl
 ·simp [decs, dec, capOf]
 ·simp [lts, lt]
 ·exact fkk_k m a et c W N _ e2 w .ro vs es cs g g1 h
theorem frz_k (m a : Int) (et c W N q e2 : Nat) (w w2 : Own) (vs es cs : List LV) (g g1 : Nat) (h : S.an (S.okG g cs g1) (S.okF vs W a) = true) : HT Tryd.prog 22 [.int .u16 a, .slice 0 0 W (.rest 0), .slice 1 0 0 (.known q)] (Heap.of [.flat [.i .u8] et (.grow 1) vs, .flat [.i .u16] e2 w2 es, .glob g cs, .glob g1 [.int .i64 m]]) (.ret (.slice 4 0 W (.known W))) (Heap.of ([.flat [.i .u8] et (.grow 1) vs, .flat [.i .u16] e2 w2 es, .glob g cs, .glob g1 [.int .i64 m]] ++ [.flat [.bo] 4 .exact (S.flw vs W a es 0)])) := by
 refine K.HT.look (os := [.flat [.i .u8] et (.grow 1) vs, .flat [.i .u16] e2 w2 es, .glob g cs, .glob g1 [.int .i64 m]]) (os1 := [.flat [.i .u8] et .ro vs, .flat [.i .u16] e2 w2 es, .glob g cs, .glob g1 [.int .i64 m]]) rfl (fun i k1 k2 => ?_) (fun o ho _ => by simp only [List.mem_cons, List.not_mem_nil, or_false] at ho; subst ho; rfl) (fun ρ v hs => ⟨[.int .u16 a, .slice 0 0 W (.known (ρ 0).cap), .slice 1 0 0 (.known q)], ?_, ?_, ?_⟩)
 ·have hi : i = 0 ∨ i = 1 ∨ i = 2 ∨ i = 3 := by have : i < 4 := k1; omega
  rcases hi with rfl | rfl | rfl | rfl
  ·exact .inr ⟨_, _, _, _, rfl, rfl⟩
  ·exact .inl rfl
  ·exact .inl rfl
  ·exact .inl rfl
 ·simp [decs, dec, capOf]
 ·simp [lts, lt]
 ·exact fkz_k m a et _ W N q e2 .ro w2 vs es cs g g1 h
theorem fRR_ok : fRRE.ok Tryd.prog 22 := by
 intro xs os b r h h3
 unfold fRRE at h
 simp only at h
 split at h
 ·injection h with h; injection h with h1 h2; subst h1; subst h2
  exact frr_k _ _ _ 0 _ _ 0 _ .ro .ro _ _ _ _ _ h3
 ·cases h
theorem fKR_ok : fKRE.ok Tryd.prog 22 := by
 intro xs os b r h h3
 unfold fKRE at h
 simp only at h
 split at h
 ·injection h with h; injection h with h1 h2; subst h1; subst h2
  exact fkr_k _ _ _ _ _ _ 0 _ _ .ro _ _ _ _ _ h3
 ·cases h
theorem fRZ_ok : fRZE.ok Tryd.prog 22 := by
 intro xs os b r h h3
 unfold fRZE at h
 simp only at h
 split at h
 ·injection h with h; injection h with h1 h2; subst h1; subst h2
  exact frz_k _ _ _ 0 _ 0 _ _ .ro _ _ _ _ _ _ h3
 ·cases h
theorem fKZ_ok : fKZE.ok Tryd.prog 22 := by
 intro xs os b r h h3
 unfold fKZE at h
 simp only at h
 split at h
 ·injection h with h; injection h with h1 h2; subst h1; subst h2
  exact fkz_k _ _ _ _ _ 0 _ _ _ _ _ _ _ _ _ h3
 ·cases h
theorem rS_ok : rSE.ok Tryd.prog 23 := by
 intro xs os b r h h3
 unfold rSE at h
 simp only at h
 split at h
 ·injection h with h; injection h with h1 h2; subst h1; subst h2
  exact rwS_con _ _ _ _ _ _ _ _ _ _ _ h3
 ·cases h
theorem rN_ok : rNE.ok Tryd.prog 23 := by
 intro xs os b r h h3
 unfold rNE at h
 simp only at h
 split at h
 ·injection h with h; injection h with h1 h2; subst h1; subst h2
  exact rwN_con _ _ _ _ _ _ h3
 ·cases h
theorem rE_ok : rEE.ok Tryd.prog 23 := by
 intro xs os b r h h3
 unfold rEE at h
 simp only at h
 split at h
 ·injection h with h; injection h with h1 h2; subst h1; subst h2
  exact rwE_con _ _ _ _ _ _ h3
 ·cases h
theorem cmR_run (i : Nat) (W : Nat) (x y : List LV) : K.RunL (envL []) K.openE 30 8 52 (inner (inner (blkOf 8 0))) cmEB [(7, .slice 0 0 W (.known W)), (8, .slice 1 0 W (.known W)), (9, .int .i64 i)] [.flat [.bo] 4 .exact x, .flat [.bo] 4 .exact y] Hint.auto ⟨.exit 0, [], [], []⟩ =
  (bc (ltI ↑i ↑W) (bc (ltI ↑i ↑W) (bc (Nat.ble (0 + Int.toNat ↑i * 1 + 1) (lenL x)) (bc (ltI ↑i ↑W) (bc (Nat.ble (0 + Int.toNat ↑i * 1 + 1) (lenL y)) (bc (!boolOf (K.atV x (0 + Int.toNat ↑i * 1)) == boolOf (K.atV y (0 + Int.toNat ↑i * 1))) False (K.LOk Tryd.prog 8 52 (inner (inner (blkOf 8 0))) [7, 8, 9] [LV.slice 0 0 W (Cap.known W), LV.slice 1 0 W (Cap.known W), LV.int IntKind.i64 (wrapK IntKind.i64 (↑i + 1))] [LObj.flat [CK.bo] 4 Own.exact x, LObj.flat [CK.bo] 4 Own.exact y] { x := LX.exit 0, L := [], ch := [], new := [] } ∧ True)) False) False) False) False) True) := by kernel_rfl
theorem cmR_con (i : Nat) (W : Nat) (x y : List LV) (he : x = y) (hx : lenL x = W) (hi : i ≤ W) (hW : W ≤ 1000) (IH : i < W → K.LOk Tryd.prog 8 52 (inner (inner (blkOf 8 0))) [7, 8, 9] [.slice 0 0 W (.known W), .slice 1 0 W (.known W), .int .i64 ((i + 1 : Nat) : Int)] [.flat [.bo] 4 .exact x, .flat [.bo] 4 .exact y] ⟨.exit 0, [], [], []⟩) : GT Tryd.prog (fun k => .code (inner (inner (blkOf 8 0))) :: .inLoop (inner (inner (blkOf 8 0))) :: k) (Fr.ofL 8 52 [(7, .slice 0 0 W (.known W)), (8, .slice 1 0 W (.known W)), (9, .int .i64 i)] [] none) (Heap.of [.flat [.bo] 4 .exact x, .flat [.bo] 4 .exact y]) (⟨.exit 0, [], [], []⟩ : K.BRes).x (Fr.ofL 8 52 (⟨.exit 0, [], [], []⟩ : K.BRes).L [] none) (Heap.of (K.chg [.flat [.bo] 4 .exact x, .flat [.bo] 4 .exact y] (⟨.exit 0, [], [], []⟩ : K.BRes).ch ++ (⟨.exit 0, [], [], []⟩ : K.BRes).new)) := by
 refine K.loop_of_run good (A := envL []) (envL_ok ?_) K.openE_ok (k := 30) (ent := cmEB) (cast (cmR_run i W x y).symm ?_)
 ·intro p hp; cases hp
 ·have T : ∀ z : Nat, Int.toNat (z : Int) = z := Int.toNat_natCast
  have w1 : wrapK .i64 ((i : Int) + 1) = ((i + 1 : Nat) : Int) := by rw [wrapK_i64]; omega
  subst he
  by_cases h : i < W
  ·have e1 : ltI (i : Int) W = true := ltI_true.2 (by omega)
   have b1 : Nat.ble (i + 1) (lenL x) = true := S.bleN.2 (by omega)
   have bb : ∀ b : Bool, (!(b == b)) = false := fun b => by cases b <;> rfl
   simp only [e1, b1, w1, T, bb, Nat.zero_add, Nat.mul_one, bc_true, bc_false, and_true]
   exact IH h
  ·have e1 : ltI (i : Int) W = false := ltI_false.2 (by omega)
   simp only [e1, bc_false]
theorem cm_blk (W : Nat) (x y : List LV) (he : x = y) (hx : lenL x = W) (hW : W ≤ 1000) : K.BOk Tryd.prog 8 52 (blkOf 8 0) [7, 8, 9] [.slice 0 0 W (.known W), .slice 1 0 W (.known W), .int .i64 0] [.flat [.bo] 4 .exact x, .flat [.bo] 4 .exact y] ⟨.normal, [], [], []⟩ := by
 have hb2 : blkOf 8 0 = .block 0 (.loop (inner (inner (blkOf 8 0)))) := by kernel_rfl
 have h : ∀ (j i : Nat), i ≤ W → W - i = j → K.LOk Tryd.prog 8 52 (inner (inner (blkOf 8 0))) [7, 8, 9] [.slice 0 0 W (.known W), .slice 1 0 W (.known W), .int .i64 (i : Int)] [.flat [.bo] 4 .exact x, .flat [.bo] 4 .exact y] ⟨.exit 0, [], [], []⟩ := by
  intro j
  induction j with
  | zero => intro i hi hm; exact cmR_con i W x y he hx hi hW fun h => by omega
  | succ j ih => intro i hi hm; exact cmR_con i W x y he hx hi hW fun h => ih (i + 1) (by omega) (by omega)
 unfold K.BOk
 rw [hb2]
 exact K.CT.block (K.GT.loop (h _ 0 (Nat.zero_le _) rfl))
theorem tfNN_run (a m : Int) : K.bodyF (envL [(12, awk13E), (22, fKZE)]) (K.runF (envL [(12, awk13E), (22, fKZE)]) 30) 8 [.int .u16 a, .nils, .nils] (Heap.of [.glob 0 S.tabV, .glob 1 [.int .i64 m]]) Hint.auto (K.endC K.openE 2 ⟨.ret (.bool true), [], []⟩) =
  (bc (S.an (S.okG 0 S.tabV 1) (S.okF [] 0 a)) (true = true ∧ True) False) := by kernel_rfl
theorem tfNN_con (a m : Int) (h0 : 0 ≤ a ∧ a < 65536)   : HT Tryd.prog 8 [.int .u16 a, .nils, .nils] (Heap.of [.glob 0 S.tabV, .glob 1 [.int .i64 m]]) (⟨.ret (.bool true), [], []⟩ : K.CRes).e (Heap.of (K.chg [.glob 0 S.tabV, .glob 1 [.int .i64 m]] (⟨.ret (.bool true), [], []⟩ : K.CRes).ch ++ (⟨.ret (.bool true), [], []⟩ : K.CRes).new)) := by
 refine K.con_of_run good (A := envL [(12, awk13E), (22, fKZE)]) (envL_ok ?_) K.openE_ok (k := 30) (cast (tfNN_run a m).symm ?_)
 ·intro p hp; simp only [List.mem_cons, List.not_mem_nil, or_false] at hp; rcases hp with rfl | rfl <;> first | exact awk13_ok | exact fKZ_ok
 ·have wa : wrapK .i64 a = a := by rw [wrapK_i64]; omega
  have hG := S.okG_0
  have at2 : S.an true true = true := rfl
  have oZ := S.okF_nil h0
  simp only [wa, hG, at2, Nat.zero_add, notB_f, notB_t, S.eqI_sm, bc_true, bc_false, true_and, and_true, oZ]
theorem tfNE_run (a m : Int) : K.bodyF (envL [(12, awk13E), (22, fKZE)]) (K.runF (envL [(12, awk13E), (22, fKZE)]) 30) 8 [.int .u16 a, .nils, .emp 0] (Heap.of [.empty, .glob 0 S.tabV, .glob 1 [.int .i64 m]]) Hint.auto (K.endC K.openE 3 ⟨.ret (.bool true), [], []⟩) =
  (bc (S.an (S.okG 0 S.tabV 1) (S.okF [] 0 a)) (true = true ∧ True) False) := by kernel_rfl
theorem tfNE_con (a m : Int) (h0 : 0 ≤ a ∧ a < 65536)   : HT Tryd.prog 8 [.int .u16 a, .nils, .emp 0] (Heap.of [.empty, .glob 0 S.tabV, .glob 1 [.int .i64 m]]) (⟨.ret (.bool true), [], []⟩ : K.CRes).e (Heap.of (K.chg [.empty, .glob 0 S.tabV, .glob 1 [.int .i64 m]] (⟨.ret (.bool true), [], []⟩ : K.CRes).ch ++ (⟨.ret (.bool true), [], []⟩ : K.CRes).new)) := by
 refine K.con_of_run good (A := envL [(12, awk13E), (22, fKZE)]) (envL_ok ?_) K.openE_ok (k := 30) (cast (tfNE_run a m).symm ?_)
 ·intro p hp; simp only [List.mem_cons, List.not_mem_nil, or_false] at hp; rcases hp with rfl | rfl <;> first | exact awk13_ok | exact fKZ_ok
 ·have wa : wrapK .i64 a = a := by rw [wrapK_i64]; omega
  have hG := S.okG_0
  have at2 : S.an true true = true := rfl
  have oZ := S.okF_nil h0
  simp only [wa, hG, at2, Nat.zero_add, notB_f, notB_t, S.eqI_sm, bc_true, bc_false, true_and, and_true, oZ]
theorem tfNS_run (a m : Int) (N q e2 : Nat) (es : List LV) : K.bodyF (envL [(12, awk13E), (22, fKRE)]) (K.runF (envL [(12, awk13E), (22, fKRE)]) 30) 8 [.int .u16 a, .nils, .slice 0 0 N (.known q)] (Heap.of [.flat [.i .u16] e2 .ro es, .glob 0 S.tabV, .glob 1 [.int .i64 m]]) (.skip 4 (.fork .auto (.skip 0 (.take false .auto)))) (K.endC K.openE 3 ⟨.ret (.bool true), [], []⟩) =
  (bc (ltI 10 ↑N) (true = true ∧ True) (bc (Nat.ble (0 + N) (lenL es)) (Nat.ble (0 + N) (0 : Nat) = false ∧ bc (Nat.ble ((0 + N) * 2) 1099511627776) (bc (S.an (S.okG 0 S.tabV 1) (S.an (S.okF [] 0 a) (S.okN (app (sub [] 0 0) (sub es 0 N)) (0 + N)))) (true = true ∧ True) False) False) False)) := by kernel_rfl
theorem tfNS_con (a m : Int) (N q e2 : Nat) (es : List LV) (h0 : 0 ≤ a ∧ a < 65536)  (k1 : S.okE es N = true) (k2 : lenL es = N) (k3 : 0 < N) : HT Tryd.prog 8 [.int .u16 a, .nils, .slice 0 0 N (.known q)] (Heap.of [.flat [.i .u16] e2 .ro es, .glob 0 S.tabV, .glob 1 [.int .i64 m]]) (⟨.ret (.bool true), [], []⟩ : K.CRes).e (Heap.of (K.chg [.flat [.i .u16] e2 .ro es, .glob 0 S.tabV, .glob 1 [.int .i64 m]] (⟨.ret (.bool true), [], []⟩ : K.CRes).ch ++ (⟨.ret (.bool true), [], []⟩ : K.CRes).new)) := by
 refine K.con_of_run good (A := envL [(12, awk13E), (22, fKRE)]) (envL_ok ?_) K.openE_ok (k := 30) (cast (tfNS_run a m N q e2 es).symm ?_)
 ·intro p hp; simp only [List.mem_cons, List.not_mem_nil, or_false] at hp; rcases hp with rfl | rfl <;> first | exact awk13_ok | exact fKR_ok
 ·have wa : wrapK .i64 a = a := by rw [wrapK_i64]; omega
  have hG := S.okG_0
  have at2 : S.an true true = true := rfl
  refine bcI (fun _ => ⟨rfl, trivial⟩) (fun hN => ?_)
  have hN := ltI_false.1 hN
  have f1 : app (sub [] 0 0) (sub es 0 N) = es := by rw [S.sub_all k2]; rfl
  have c1 : Nat.ble N (lenL es) = true := S.bleN.2 (by omega)
  have c2 : Nat.ble N 0 = false := by
   cases h : Nat.ble N 0 with
   | false => rfl
   | true => have := S.bleN.1 h; omega
  have c3 : Nat.ble (N * 2) 1099511627776 = true := S.bleN.2 (by omega)
  have oN : S.okN es N = true := S.okN_iff.2 ⟨by omega, k3, by omega⟩
  have oZ := S.okF_nil h0
  simp only [wa, hG, at2, Nat.zero_add, notB_f, notB_t, S.eqI_sm, bc_true, bc_false, true_and, and_true, f1, c1, c2, c3, oN, oZ]
theorem tfEN_run (a m : Int) : K.bodyF (envL [(12, awk13E), (22, fKZE)]) (K.runF (envL [(12, awk13E), (22, fKZE)]) 30) 8 [.int .u16 a, .emp 0, .nils] (Heap.of [.empty, .glob 0 S.tabV, .glob 1 [.int .i64 m]]) Hint.auto (K.endC K.openE 3 ⟨.ret (.bool true), [], []⟩) =
  (bc (S.an (S.okG 0 S.tabV 1) (S.okF [] 0 a)) (true = true ∧ True) False) := by kernel_rfl
theorem tfEN_con (a m : Int) (h0 : 0 ≤ a ∧ a < 65536)   : HT Tryd.prog 8 [.int .u16 a, .emp 0, .nils] (Heap.of [.empty, .glob 0 S.tabV, .glob 1 [.int .i64 m]]) (⟨.ret (.bool true), [], []⟩ : K.CRes).e (Heap.of (K.chg [.empty, .glob 0 S.tabV, .glob 1 [.int .i64 m]] (⟨.ret (.bool true), [], []⟩ : K.CRes).ch ++ (⟨.ret (.bool true), [], []⟩ : K.CRes).new)) := by
 refine K.con_of_run good (A := envL [(12, awk13E), (22, fKZE)]) (envL_ok ?_) K.openE_ok (k := 30) (cast (tfEN_run a m).symm ?_)
 ·intro p hp; simp only [List.mem_cons, List.not_mem_nil, or_false] at hp; rcases hp with rfl | rfl <;> first | exact awk13_ok | exact fKZ_ok
 ·have wa : wrapK .i64 a = a := by rw [wrapK_i64]; omega
  have hG := S.okG_0
  have at2 : S.an true true = true := rfl
  have oZ := S.okF_nil h0
  simp only [wa, hG, at2, Nat.zero_add, notB_f, notB_t, S.eqI_sm, bc_true, bc_false, true_and, and_true, oZ]
theorem tfEE_run (a m : Int) : K.bodyF (envL [(12, awk13E), (22, fKZE)]) (K.runF (envL [(12, awk13E), (22, fKZE)]) 30) 8 [.int .u16 a, .emp 0, .emp 1] (Heap.of [.empty, .empty, .glob 0 S.tabV, .glob 1 [.int .i64 m]]) Hint.auto (K.endC K.openE 4 ⟨.ret (.bool true), [], []⟩) =
  (bc (S.an (S.okG 0 S.tabV 1) (S.okF [] 0 a)) (true = true ∧ True) False) := by kernel_rfl
theorem tfEE_con (a m : Int) (h0 : 0 ≤ a ∧ a < 65536)   : HT Tryd.prog 8 [.int .u16 a, .emp 0, .emp 1] (Heap.of [.empty, .empty, .glob 0 S.tabV, .glob 1 [.int .i64 m]]) (⟨.ret (.bool true), [], []⟩ : K.CRes).e (Heap.of (K.chg [.empty, .empty, .glob 0 S.tabV, .glob 1 [.int .i64 m]] (⟨.ret (.bool true), [], []⟩ : K.CRes).ch ++ (⟨.ret (.bool true), [], []⟩ : K.CRes).new)) := by
 refine K.con_of_run good (A := envL [(12, awk13E), (22, fKZE)]) (envL_ok ?_) K.openE_ok (k := 30) (cast (tfEE_run a m).symm ?_)
 ·intro p hp; simp only [List.mem_cons, List.not_mem_nil, or_false] at hp; rcases hp with rfl | rfl <;> first | exact awk13_ok | exact fKZ_ok
 ·have wa : wrapK .i64 a = a := by rw [wrapK_i64]; omega
  have hG := S.okG_0
  have at2 : S.an true true = true := rfl
  have oZ := S.okF_nil h0
  simp only [wa, hG, at2, Nat.zero_add, notB_f, notB_t, S.eqI_sm, bc_true, bc_false, true_and, and_true, oZ]
theorem tfES_run (a m : Int) (N q e2 : Nat) (es : List LV) : K.bodyF (envL [(12, awk13E), (22, fKRE)]) (K.runF (envL [(12, awk13E), (22, fKRE)]) 30) 8 [.int .u16 a, .emp 0, .slice 1 0 N (.known q)] (Heap.of [.empty, .flat [.i .u16] e2 .ro es, .glob 0 S.tabV, .glob 1 [.int .i64 m]]) (.skip 4 (.fork .auto (.skip 0 (.take false .auto)))) (K.endC K.openE 4 ⟨.ret (.bool true), [], []⟩) =
  (bc (ltI 10 ↑N) (true = true ∧ True) (bc (Nat.ble (0 + N) (lenL es)) (Nat.ble (0 + N) (0 : Nat) = false ∧ bc (Nat.ble ((0 + N) * 2) 1099511627776) (bc (S.an (S.okG 0 S.tabV 1) (S.an (S.okF [] 0 a) (S.okN (app (sub [] 0 0) (sub es 0 N)) (0 + N)))) (true = true ∧ True) False) False) False)) := by kernel_rfl
theorem tfES_con (a m : Int) (N q e2 : Nat) (es : List LV) (h0 : 0 ≤ a ∧ a < 65536)  (k1 : S.okE es N = true) (k2 : lenL es = N) (k3 : 0 < N) : HT Tryd.prog 8 [.int .u16 a, .emp 0, .slice 1 0 N (.known q)] (Heap.of [.empty, .flat [.i .u16] e2 .ro es, .glob 0 S.tabV, .glob 1 [.int .i64 m]]) (⟨.ret (.bool true), [], []⟩ : K.CRes).e (Heap.of (K.chg [.empty, .flat [.i .u16] e2 .ro es, .glob 0 S.tabV, .glob 1 [.int .i64 m]] (⟨.ret (.bool true), [], []⟩ : K.CRes).ch ++ (⟨.ret (.bool true), [], []⟩ : K.CRes).new)) := by
 refine K.con_of_run good (A := envL [(12, awk13E), (22, fKRE)]) (envL_ok ?_) K.openE_ok (k := 30) (cast (tfES_run a m N q e2 es).symm ?_)
 ·intro p hp; simp only [List.mem_cons, List.not_mem_nil, or_false] at hp; rcases hp with rfl | rfl <;> first | exact awk13_ok | exact fKR_ok
 ·have wa : wrapK .i64 a = a := by rw [wrapK_i64]; omega
  have hG := S.okG_0
  have at2 : S.an true true = true := rfl
  refine bcI (fun _ => ⟨rfl, trivial⟩) (fun hN => ?_)
  have hN := ltI_false.1 hN
  have f1 : app (sub [] 0 0) (sub es 0 N) = es := by rw [S.sub_all k2]; rfl
  have c1 : Nat.ble N (lenL es) = true := S.bleN.2 (by omega)
  have c2 : Nat.ble N 0 = false := by
   cases h : Nat.ble N 0 with
   | false => rfl
   | true => have := S.bleN.1 h; omega
  have c3 : Nat.ble (N * 2) 1099511627776 = true := S.bleN.2 (by omega)
  have oN : S.okN es N = true := S.okN_iff.2 ⟨by omega, k3, by omega⟩
  have oZ := S.okF_nil h0
  simp only [wa, hG, at2, Nat.zero_add, notB_f, notB_t, S.eqI_sm, bc_true, bc_false, true_and, and_true, f1, c1, c2, c3, oN, oZ]
theorem tfSN_run (a m : Int) (L cap et : Nat) (vs : List LV) : K.bodyF (envB [(12, awk13E), (22, fRZE), (23, rNE)] (fun g id => bc (Nat.beq g 8) (bc (Nat.beq id 0) (some cmBB) (none)) (none))) (K.runF (envB [(12, awk13E), (22, fRZE), (23, rNE)] (fun g id => bc (Nat.beq g 8) (bc (Nat.beq id 0) (some cmBB) (none)) (none))) 30) 8 [.int .u16 a, .slice 0 0 L (.known cap), .nils] (Heap.of [.flat [.i .u8] et .ro vs, .glob 0 S.tabV, .glob 1 [.int .i64 m]]) (.skip 0 (.fork .auto (.skip 4 (.take false .auto)))) (K.endC K.openE 3 ⟨.ret (.bool true), [], []⟩) =
  (bc (ltI 60 ↑L) (true = true ∧ True) (bc (Nat.ble (0 + L) (lenL vs)) (Nat.ble (0 + L) (0 : Nat) = false ∧ bc (Nat.ble ((0 + L) * 1) 1099511627776) (bc (S.an (S.okG 0 S.tabV 1) (S.okF (app (sub [] 0 0) (sub vs 0 L)) (0 + L) a)) (bc (S.okF vs L (wrapK IntKind.i64 a)) (bc (notB (eqI ↑(0 + L) ↑L)) (true = false ∧ True) (K.BOk Tryd.prog 8 52 (blkOf 8 0) [7, 8, 9] [LV.slice 0 0 (0 + L) (Cap.known (0 + L)), LV.slice 1 0 L (Cap.known L), LV.int IntKind.i64 0] [LObj.flat [CK.bo] 4 Own.exact (S.flw (app (sub [] 0 0) (sub vs 0 L)) (0 + L) a [] 0), LObj.flat [CK.bo] 4 Own.exact (S.zr L)] { x := LX.normal, L := [], ch := [], new := [] } ∧ (true = true ∧ True))) False) False) False) False)) := by kernel_rfl
theorem tfSN_con (a m : Int) (L cap et : Nat) (vs : List LV) (h0 : 0 ≤ a ∧ a < 65536) (h1 : S.okB vs = true) (h2 : lenL vs = L) (h3 : 0 < L)  : HT Tryd.prog 8 [.int .u16 a, .slice 0 0 L (.known cap), .nils] (Heap.of [.flat [.i .u8] et .ro vs, .glob 0 S.tabV, .glob 1 [.int .i64 m]]) (⟨.ret (.bool true), [], []⟩ : K.CRes).e (Heap.of (K.chg [.flat [.i .u8] et .ro vs, .glob 0 S.tabV, .glob 1 [.int .i64 m]] (⟨.ret (.bool true), [], []⟩ : K.CRes).ch ++ (⟨.ret (.bool true), [], []⟩ : K.CRes).new)) := by
 refine K.con_of_run good (A := envB [(12, awk13E), (22, fRZE), (23, rNE)] (fun g id => bc (Nat.beq g 8) (bc (Nat.beq id 0) (some cmBB) (none)) (none))) (envB_ok ?_) K.openE_ok (k := 30) (cast (tfSN_run a m L cap et vs).symm ?_)
 ·intro p hp; simp only [List.mem_cons, List.not_mem_nil, or_false] at hp; rcases hp with rfl | rfl | rfl <;> first | exact awk13_ok | exact fRZ_ok | exact rN_ok
 ·have wa : wrapK .i64 a = a := by rw [wrapK_i64]; omega
  have hG := S.okG_0
  have at2 : S.an true true = true := rfl
  refine bcI (fun _ => ⟨rfl, trivial⟩) (fun hL => ?_)
  have hL := ltI_false.1 hL
  have e1 : app (sub [] 0 0) (sub vs 0 L) = vs := by rw [S.sub_all h2]; rfl
  have b1 : Nat.ble L (lenL vs) = true := S.bleN.2 (by omega)
  have b2 : Nat.ble L 0 = false := by
   cases h : Nat.ble L 0 with
   | false => rfl
   | true => have := S.bleN.1 h; omega
  have b3 : Nat.ble (L * 1) 1099511627776 = true := S.bleN.2 (by omega)
  have oF : S.okF vs L a = true := S.okF_iff.2 ⟨⟨h1, h2⟩, by omega, h0⟩
  simp only [wa, hG, at2, Nat.zero_add, notB_f, notB_t, S.eqI_sm, bc_true, bc_false, true_and, and_true, e1, b1, b2, b3, oF]
  exact cm_blk L _ _ S.flw_zero S.flw_len (by omega)
theorem tfSE_run (a m : Int) (L cap et : Nat) (vs : List LV) : K.bodyF (envB [(12, awk13E), (22, fRZE), (23, rEE)] (fun g id => bc (Nat.beq g 8) (bc (Nat.beq id 0) (some cmBB) (none)) (none))) (K.runF (envB [(12, awk13E), (22, fRZE), (23, rEE)] (fun g id => bc (Nat.beq g 8) (bc (Nat.beq id 0) (some cmBB) (none)) (none))) 30) 8 [.int .u16 a, .slice 0 0 L (.known cap), .emp 1] (Heap.of [.flat [.i .u8] et .ro vs, .empty, .glob 0 S.tabV, .glob 1 [.int .i64 m]]) (.skip 0 (.fork .auto (.skip 4 (.take false .auto)))) (K.endC K.openE 4 ⟨.ret (.bool true), [], []⟩) =
  (bc (ltI 60 ↑L) (true = true ∧ True) (bc (Nat.ble (0 + L) (lenL vs)) (Nat.ble (0 + L) (0 : Nat) = false ∧ bc (Nat.ble ((0 + L) * 1) 1099511627776) (bc (S.an (S.okG 0 S.tabV 1) (S.okF (app (sub [] 0 0) (sub vs 0 L)) (0 + L) a)) (bc (S.okF vs L (wrapK IntKind.i64 a)) (bc (notB (eqI ↑(0 + L) ↑L)) (true = false ∧ True) (K.BOk Tryd.prog 8 52 (blkOf 8 0) [7, 8, 9] [LV.slice 0 0 (0 + L) (Cap.known (0 + L)), LV.slice 1 0 L (Cap.known L), LV.int IntKind.i64 0] [LObj.flat [CK.bo] 4 Own.exact (S.flw (app (sub [] 0 0) (sub vs 0 L)) (0 + L) a [] 0), LObj.flat [CK.bo] 4 Own.exact (S.zr L)] { x := LX.normal, L := [], ch := [], new := [] } ∧ (true = true ∧ True))) False) False) False) False)) := by kernel_rfl
theorem tfSE_con (a m : Int) (L cap et : Nat) (vs : List LV) (h0 : 0 ≤ a ∧ a < 65536) (h1 : S.okB vs = true) (h2 : lenL vs = L) (h3 : 0 < L)  : HT Tryd.prog 8 [.int .u16 a, .slice 0 0 L (.known cap), .emp 1] (Heap.of [.flat [.i .u8] et .ro vs, .empty, .glob 0 S.tabV, .glob 1 [.int .i64 m]]) (⟨.ret (.bool true), [], []⟩ : K.CRes).e (Heap.of (K.chg [.flat [.i .u8] et .ro vs, .empty, .glob 0 S.tabV, .glob 1 [.int .i64 m]] (⟨.ret (.bool true), [], []⟩ : K.CRes).ch ++ (⟨.ret (.bool true), [], []⟩ : K.CRes).new)) := by
 refine K.con_of_run good (A := envB [(12, awk13E), (22, fRZE), (23, rEE)] (fun g id => bc (Nat.beq g 8) (bc (Nat.beq id 0) (some cmBB) (none)) (none))) (envB_ok ?_) K.openE_ok (k := 30) (cast (tfSE_run a m L cap et vs).symm ?_)
 ·intro p hp; simp only [List.mem_cons, List.not_mem_nil, or_false] at hp; rcases hp with rfl | rfl | rfl <;> first | exact awk13_ok | exact fRZ_ok | exact rE_ok
 ·have wa : wrapK .i64 a = a := by rw [wrapK_i64]; omega
  have hG := S.okG_0
  have at2 : S.an true true = true := rfl
  refine bcI (fun _ => ⟨rfl, trivial⟩) (fun hL => ?_)
  have hL := ltI_false.1 hL
  have e1 : app (sub [] 0 0) (sub vs 0 L) = vs := by rw [S.sub_all h2]; rfl
  have b1 : Nat.ble L (lenL vs) = true := S.bleN.2 (by omega)
  have b2 : Nat.ble L 0 = false := by
   cases h : Nat.ble L 0 with
   | false => rfl
   | true => have := S.bleN.1 h; omega
  have b3 : Nat.ble (L * 1) 1099511627776 = true := S.bleN.2 (by omega)
  have oF : S.okF vs L a = true := S.okF_iff.2 ⟨⟨h1, h2⟩, by omega, h0⟩
  simp only [wa, hG, at2, Nat.zero_add, notB_f, notB_t, S.eqI_sm, bc_true, bc_false, true_and, and_true, e1, b1, b2, b3, oF]
  exact cm_blk L _ _ S.flw_zero S.flw_len (by omega)
theorem tfSS_run (a m : Int) (L cap et : Nat) (vs : List LV) (N q e2 : Nat) (es : List LV) : K.bodyF (envB [(12, awk13E), (22, fRRE), (23, rSE)] (fun g id => bc (Nat.beq g 8) (bc (Nat.beq id 0) (some cmBB) (none)) (none))) (K.runF (envB [(12, awk13E), (22, fRRE), (23, rSE)] (fun g id => bc (Nat.beq g 8) (bc (Nat.beq id 0) (some cmBB) (none)) (none))) 30) 8 [.int .u16 a, .slice 0 0 L (.known cap), .slice 1 0 N (.known q)] (Heap.of [.flat [.i .u8] et .ro vs, .flat [.i .u16] e2 .ro es, .glob 0 S.tabV, .glob 1 [.int .i64 m]]) (.skip 0 (.fork .auto (.skip 3 (.fork .auto (.skip 0 (.take false (.skip 0 (.take false .auto)))))))) (K.endC K.openE 4 ⟨.ret (.bool true), [], []⟩) =
  (bc (ltI 60 ↑L) (true = true ∧ True) (bc (ltI 10 ↑N) (true = true ∧ True) (bc (Nat.ble (0 + L) (lenL vs)) (Nat.ble (0 + L) (0 : Nat) = false ∧ bc (Nat.ble ((0 + L) * 1) 1099511627776) (bc (Nat.ble (0 + N) (lenL es)) (Nat.ble (0 + N) (0 : Nat) = false ∧ bc (Nat.ble ((0 + N) * 2) 1099511627776) (bc (S.an (S.okG 0 S.tabV 1) (S.an (S.okF (app (sub [] 0 0) (sub vs 0 L)) (0 + L) a) (S.okN (app (sub [] 0 0) (sub es 0 N)) (0 + N)))) (bc (S.okG2 vs es L (wrapK IntKind.i64 a) N) (bc (notB (eqI ↑(0 + L) ↑L)) (true = false ∧ True) (K.BOk Tryd.prog 8 52 (blkOf 8 0) [7, 8, 9] [LV.slice 0 0 (0 + L) (Cap.known (0 + L)), LV.slice 1 0 L (Cap.known L), LV.int IntKind.i64 0] [LObj.flat [CK.bo] 4 Own.exact (S.flw (app (sub [] 0 0) (sub vs 0 L)) (0 + L) a (app (sub [] 0 0) (sub es 0 N)) (0 + N)), LObj.flat [CK.bo] 4 Own.exact (S.flw vs L (wrapK IntKind.i64 a) es N)] { x := LX.normal, L := [], ch := [], new := [] } ∧ (true = true ∧ True))) False) False) False) False) False) False))) := by kernel_rfl
theorem tfSS_con (a m : Int) (L cap et : Nat) (vs : List LV) (N q e2 : Nat) (es : List LV) (h0 : 0 ≤ a ∧ a < 65536) (h1 : S.okB vs = true) (h2 : lenL vs = L) (h3 : 0 < L) (k1 : S.okE es N = true) (k2 : lenL es = N) (k3 : 0 < N) : HT Tryd.prog 8 [.int .u16 a, .slice 0 0 L (.known cap), .slice 1 0 N (.known q)] (Heap.of [.flat [.i .u8] et .ro vs, .flat [.i .u16] e2 .ro es, .glob 0 S.tabV, .glob 1 [.int .i64 m]]) (⟨.ret (.bool true), [], []⟩ : K.CRes).e (Heap.of (K.chg [.flat [.i .u8] et .ro vs, .flat [.i .u16] e2 .ro es, .glob 0 S.tabV, .glob 1 [.int .i64 m]] (⟨.ret (.bool true), [], []⟩ : K.CRes).ch ++ (⟨.ret (.bool true), [], []⟩ : K.CRes).new)) := by
 refine K.con_of_run good (A := envB [(12, awk13E), (22, fRRE), (23, rSE)] (fun g id => bc (Nat.beq g 8) (bc (Nat.beq id 0) (some cmBB) (none)) (none))) (envB_ok ?_) K.openE_ok (k := 30) (cast (tfSS_run a m L cap et vs N q e2 es).symm ?_)
 ·intro p hp; simp only [List.mem_cons, List.not_mem_nil, or_false] at hp; rcases hp with rfl | rfl | rfl <;> first | exact awk13_ok | exact fRR_ok | exact rS_ok
 ·have wa : wrapK .i64 a = a := by rw [wrapK_i64]; omega
  have hG := S.okG_0
  have at2 : S.an true true = true := rfl
  refine bcI (fun _ => ⟨rfl, trivial⟩) (fun hL => ?_)
  have hL := ltI_false.1 hL
  have e1 : app (sub [] 0 0) (sub vs 0 L) = vs := by rw [S.sub_all h2]; rfl
  have b1 : Nat.ble L (lenL vs) = true := S.bleN.2 (by omega)
  have b2 : Nat.ble L 0 = false := by
   cases h : Nat.ble L 0 with
   | false => rfl
   | true => have := S.bleN.1 h; omega
  have b3 : Nat.ble (L * 1) 1099511627776 = true := S.bleN.2 (by omega)
  have oF : S.okF vs L a = true := S.okF_iff.2 ⟨⟨h1, h2⟩, by omega, h0⟩
  refine bcI (fun _ => ⟨rfl, trivial⟩) (fun hN => ?_)
  have hN := ltI_false.1 hN
  have f1 : app (sub [] 0 0) (sub es 0 N) = es := by rw [S.sub_all k2]; rfl
  have c1 : Nat.ble N (lenL es) = true := S.bleN.2 (by omega)
  have c2 : Nat.ble N 0 = false := by
   cases h : Nat.ble N 0 with
   | false => rfl
   | true => have := S.bleN.1 h; omega
  have c3 : Nat.ble (N * 2) 1099511627776 = true := S.bleN.2 (by omega)
  have oN : S.okN es N = true := S.okN_iff.2 ⟨by omega, k3, by omega⟩
  have oG : S.okG2 vs es L a N = true := S.okG2_iff.2 ⟨oF, ⟨by omega, by omega⟩, k1⟩
  simp only [wa, hG, at2, Nat.zero_add, notB_f, notB_t, S.eqI_sm, bc_true, bc_false, true_and, and_true, e1, b1, b2, b3, oF, f1, c1, c2, c3, oN, oG]
  exact cm_blk L _ _ rfl S.flw_len (by omega)
theorem tf_FNN (x0 : Int) (hl0 : 0 ≤ x0) (hu0 : x0 ≤ 65535) (m : Int) : HT Tryd.prog 8 [.int .u16 x0, .nils, .nils] (Heap.of [.glob 0 S.tabV, .glob 1 [.int .i64 m]]) (.ret (.bool true)) (Heap.of [.glob 0 S.tabV, .glob 1 [.int .i64 m]]) :=
 tfNN_con x0 m ⟨hl0, by omega⟩
theorem tf_FNE (x0 : Int) (hl0 : 0 ≤ x0) (hu0 : x0 ≤ 65535) (m : Int) : HT Tryd.prog 8 [.int .u16 x0, .nils, .emp 0] (Heap.of [.empty, .glob 0 S.tabV, .glob 1 [.int .i64 m]]) (.ret (.bool true)) (Heap.of [.empty, .glob 0 S.tabV, .glob 1 [.int .i64 m]]) :=
 tfNE_con x0 m ⟨hl0, by omega⟩
theorem tf_FNS (x0 : Int) (hl0 : 0 ≤ x0) (hu0 : x0 ≤ 65535) (l2 : List Int) (cap2 et2 : Nat) (hz2 : 0 < l2.length) (hq2 : l2.length ≤ cap2) (hl2 : ∀ a, a ∈ l2 → 0 ≤ a ∧ a ≤ 65535) (m : Int) : HT Tryd.prog 8 [.int .u16 x0, .nils, .slice 0 0 l2.length (.known cap2)] (Heap.of [.flat S.wdK et2 .ro (l2.flatMap S.wdV), .glob 0 S.tabV, .glob 1 [.int .i64 m]]) (.ret (.bool true)) (Heap.of [.flat S.wdK et2 .ro (l2.flatMap S.wdV), .glob 0 S.tabV, .glob 1 [.int .i64 m]]) :=
 tfNS_con x0 m l2.length cap2 et2 (l2.flatMap S.wdV) ⟨hl0, by omega⟩ (S.row_ok2 l2 hl2) (S.row_len2 l2) hz2
theorem tf_FEN (x0 : Int) (hl0 : 0 ≤ x0) (hu0 : x0 ≤ 65535) (m : Int) : HT Tryd.prog 8 [.int .u16 x0, .emp 0, .nils] (Heap.of [.empty, .glob 0 S.tabV, .glob 1 [.int .i64 m]]) (.ret (.bool true)) (Heap.of [.empty, .glob 0 S.tabV, .glob 1 [.int .i64 m]]) :=
 tfEN_con x0 m ⟨hl0, by omega⟩
theorem tf_FEE (x0 : Int) (hl0 : 0 ≤ x0) (hu0 : x0 ≤ 65535) (m : Int) : HT Tryd.prog 8 [.int .u16 x0, .emp 0, .emp 1] (Heap.of [.empty, .empty, .glob 0 S.tabV, .glob 1 [.int .i64 m]]) (.ret (.bool true)) (Heap.of [.empty, .empty, .glob 0 S.tabV, .glob 1 [.int .i64 m]]) :=
 tfEE_con x0 m ⟨hl0, by omega⟩
theorem tf_FES (x0 : Int) (hl0 : 0 ≤ x0) (hu0 : x0 ≤ 65535) (l2 : List Int) (cap2 et2 : Nat) (hz2 : 0 < l2.length) (hq2 : l2.length ≤ cap2) (hl2 : ∀ a, a ∈ l2 → 0 ≤ a ∧ a ≤ 65535) (m : Int) : HT Tryd.prog 8 [.int .u16 x0, .emp 0, .slice 1 0 l2.length (.known cap2)] (Heap.of [.empty, .flat S.wdK et2 .ro (l2.flatMap S.wdV), .glob 0 S.tabV, .glob 1 [.int .i64 m]]) (.ret (.bool true)) (Heap.of [.empty, .flat S.wdK et2 .ro (l2.flatMap S.wdV), .glob 0 S.tabV, .glob 1 [.int .i64 m]]) :=
 tfES_con x0 m l2.length cap2 et2 (l2.flatMap S.wdV) ⟨hl0, by omega⟩ (S.row_ok2 l2 hl2) (S.row_len2 l2) hz2
theorem tf_FSN (x0 : Int) (hl0 : 0 ≤ x0) (hu0 : x0 ≤ 65535) (l1 : List Int) (cap1 et1 : Nat) (hz1 : 0 < l1.length) (hq1 : l1.length ≤ cap1) (hl1 : ∀ a, a ∈ l1 → 0 ≤ a ∧ a ≤ 255) (m : Int) : HT Tryd.prog 8 [.int .u16 x0, .slice 0 0 l1.length (.known cap1), .nils] (Heap.of [.flat S.byK et1 .ro (l1.flatMap S.byV), .glob 0 S.tabV, .glob 1 [.int .i64 m]]) (.ret (.bool true)) (Heap.of [.flat S.byK et1 .ro (l1.flatMap S.byV), .glob 0 S.tabV, .glob 1 [.int .i64 m]]) :=
 tfSN_con x0 m l1.length cap1 et1 (l1.flatMap S.byV) ⟨hl0, by omega⟩ (S.row_ok1 l1 hl1) (S.row_len1 l1) hz1
theorem tf_FSE (x0 : Int) (hl0 : 0 ≤ x0) (hu0 : x0 ≤ 65535) (l1 : List Int) (cap1 et1 : Nat) (hz1 : 0 < l1.length) (hq1 : l1.length ≤ cap1) (hl1 : ∀ a, a ∈ l1 → 0 ≤ a ∧ a ≤ 255) (m : Int) : HT Tryd.prog 8 [.int .u16 x0, .slice 0 0 l1.length (.known cap1), .emp 1] (Heap.of [.flat S.byK et1 .ro (l1.flatMap S.byV), .empty, .glob 0 S.tabV, .glob 1 [.int .i64 m]]) (.ret (.bool true)) (Heap.of [.flat S.byK et1 .ro (l1.flatMap S.byV), .empty, .glob 0 S.tabV, .glob 1 [.int .i64 m]]) :=
 tfSE_con x0 m l1.length cap1 et1 (l1.flatMap S.byV) ⟨hl0, by omega⟩ (S.row_ok1 l1 hl1) (S.row_len1 l1) hz1
theorem tf_FSS (x0 : Int) (hl0 : 0 ≤ x0) (hu0 : x0 ≤ 65535) (l1 : List Int) (cap1 et1 : Nat) (hz1 : 0 < l1.length) (hq1 : l1.length ≤ cap1) (hl1 : ∀ a, a ∈ l1 → 0 ≤ a ∧ a ≤ 255) (l2 : List Int) (cap2 et2 : Nat) (hz2 : 0 < l2.length) (hq2 : l2.length ≤ cap2) (hl2 : ∀ a, a ∈ l2 → 0 ≤ a ∧ a ≤ 65535) (m : Int) : HT Tryd.prog 8 [.int .u16 x0, .slice 0 0 l1.length (.known cap1), .slice 1 0 l2.length (.known cap2)] (Heap.of [.flat S.byK et1 .ro (l1.flatMap S.byV), .flat S.wdK et2 .ro (l2.flatMap S.wdV), .glob 0 S.tabV, .glob 1 [.int .i64 m]]) (.ret (.bool true)) (Heap.of [.flat S.byK et1 .ro (l1.flatMap S.byV), .flat S.wdK et2 .ro (l2.flatMap S.wdV), .glob 0 S.tabV, .glob 1 [.int .i64 m]]) :=
 tfSS_con x0 m l1.length cap1 et1 (l1.flatMap S.byV) l2.length cap2 et2 (l2.flatMap S.wdV) ⟨hl0, by omega⟩ (S.row_ok1 l1 hl1) (S.row_len1 l1) hz1 (S.row_ok2 l2 hl2) (S.row_len2 l2) hz2
end Go.Proofs.YtlgfojaalmelhaaDoor.Ev
