/- Contracts, what they say: Trw. -/
import Derived.Test.YtlgfojaalmelhaaDoorTfeD
import Derived.Test.YtlgfojaalmelhaaDoorTldD
namespace Go.Proofs.YtlgfojaalmelhaaDoor.Ev
open Go
set_option linter.unusedVariables false
namespace S
noncomputable section
def eq0 (es : List LV) (q : Nat) : Int := wrapK IntKind.i64 (intOf (K.atV es (0 + Int.toNat (q : Int) * 1)))
def hE (es : List LV) (N : Nat) (x : Int) (k : Nat) : Prop := ∃ q, k ≤ q ∧ q < N ∧ eq0 es q = x
def hL (vs : List LV) (W : Nat) (a : Int) (bg : List LV) (x : Int) (k : Nat) : Prop := ∃ q, k ≤ q ∧ q < W ∧ bgAt bg q = true ∧ led vs a q x = true
def oE (es : List LV) (N : Nat) (x : Int) (k : Nat) (b : Bool) : Bool := bc b true (dcd (hE es N x k))
def oL (vs : List LV) (W : Nat) (a : Int) (bg : List LV) (x : Int) (k : Nat) (b : Bool) : Bool := bc b true (dcd (hL vs W a bg x k))
def hit (vs : List LV) (W : Nat) (a : Int) (es : List LV) (N : Nat) (bg : List LV) (i : Nat) : Bool := an (an (notB (bgAt bg i)) (fits vs W a i)) (oL vs W a bg (a + i) 0 (oE es N (a + i) 0 false))
def nb (vs : List LV) (W : Nat) (a : Int) (es : List LV) (N : Nat) (bg : List LV) (i : Nat) : List LV := bc (hit vs W a es N bg i) (setMany bg i [.bool true]) bg
def mk1 (vs out : List LV) (i : Nat) : List LV := bc (eqI (len (by1 vs i)) 1) (setMany out i [.bool true]) (bc (eqI (len (by1 vs i)) 2) (setMany (setMany out i [.bool true]) (i + 1) [.bool true]) (setMany (setMany (setMany out i [.bool true]) (i + 1) [.bool true]) (i + 2) [.bool true]))
def PB (vs : List LV) (W : Nat) (a : Int) (es : List LV) (N : Nat) (j : Nat) : Nat → List LV → List LV := @Nat.rec (fun _ => Nat → List LV → List LV) (fun _ bg => bg) (fun _ g i bg => g (i + 1) (nb vs W a es N bg i)) j
def PO (vs : List LV) (W : Nat) (a : Int) (es : List LV) (N : Nat) (j : Nat) : Nat → List LV → List LV → List LV := @Nat.rec (fun _ => Nat → List LV → List LV → List LV) (fun _ _ out => out) (fun _ g i bg out => g (i + 1) (nb vs W a es N bg i) (bc (hit vs W a es N bg i) (mk1 vs out i) out)) j
def PM (vs : List LV) (W : Nat) (a : Int) (es : List LV) (N : Nat) (j : Nat) : Nat → List LV → Bool → Bool := @Nat.rec (fun _ => Nat → List LV → Bool → Bool) (fun _ _ mo => mo) (fun _ g i bg mo => g (i + 1) (nb vs W a es N bg i) (bc (hit vs W a es N bg i) true mo)) j
end
end S
def s4_T (i n k : Int) (is : Bool) (a : Int) (et e2 W N : Nat) (cp cq : Cap) (w w2 : Own) (vs es bg out : List LV) (mo : Bool) : Prop := K.LOk Tryd.prog 23 111 (inner (inner (blkOf 23 4))) [0, 1, 2, 7, 8, 9, 10, 11, 12, 13] [.int .i64 a, .slice 0 0 W cp, .slice 1 0 N cq, .slice 2 0 W (.known W), .slice 3 0 W (.known W), .bool mo, .int .i64 i, .int .i64 n, .bool is, .int .i64 k] [.flat [.i .u8] et w vs, .flat [.i .u16] e2 w2 es, .flat [.bo] 4 .exact bg, .flat [.bo] 4 .exact out] ⟨.exit 4, [(0, .int .i64 a), (1, .slice 0 0 W cp), (2, .slice 1 0 N cq), (7, .slice 2 0 W (.known W)), (8, .slice 3 0 W (.known W)), (9, .bool mo), (10, .int .i64 i), (11, .int .i64 n), (12, .bool (S.oE es N (wrapK .i64 (a + i)) k.toNat is))], [], []⟩
def s6_T (i n k : Int) (is : Bool) (a : Int) (et e2 W N : Nat) (cp cq : Cap) (w w2 : Own) (vs es bg out : List LV) (mo : Bool) : Prop := K.LOk Tryd.prog 23 111 (inner (inner (blkOf 23 6))) [0, 1, 2, 7, 8, 9, 10, 11, 12, 14] [.int .i64 a, .slice 0 0 W cp, .slice 1 0 N cq, .slice 2 0 W (.known W), .slice 3 0 W (.known W), .bool mo, .int .i64 i, .int .i64 n, .bool is, .int .i64 k] [.flat [.i .u8] et w vs, .flat [.i .u16] e2 w2 es, .flat [.bo] 4 .exact bg, .flat [.bo] 4 .exact out] ⟨.exit 6, [(0, .int .i64 a), (1, .slice 0 0 W cp), (2, .slice 1 0 N cq), (7, .slice 2 0 W (.known W)), (8, .slice 3 0 W (.known W)), (9, .bool mo), (10, .int .i64 i), (11, .int .i64 n), (12, .bool (S.oL vs W a bg (wrapK .i64 (a + i)) k.toNat is))], [], []⟩
def sc_E (a i n : Int) (W N : Nat) (cp cq : Cap) (mo x y : Bool) : Prop := (a = a ∧ ((0 : Nat) = (0 : Nat) ∧ (W = W ∧ (cp = cp ∧ ((0 : Nat) = (0 : Nat) ∧ (N = N ∧ (cq = cq ∧ ((0 : Nat) = (0 : Nat) ∧ (W = W ∧ (Cap.known W = Cap.known W ∧ ((0 : Nat) = (0 : Nat) ∧ (W = W ∧ (Cap.known W = Cap.known W ∧ (mo = mo ∧ (i = i ∧ (n = n ∧ (x = y ∧ True)))))))))))))))))
noncomputable def s4EB : K.BEnt := ⟨[0, 1, 2, 7, 8, 9, 10, 11, 12, 13], 9, (fun xs os => match xs, os with
 | [.int .i64 a, .slice 0 0 W cp, .slice 1 0 N cq, .slice 2 0 W2 c2, .slice 3 0 W3 c3, .bool mo, .int .i64 i, .int .i64 n, .bool is, .int .i64 k], [.flat [.i .u8] et w vs, .flat [.i .u16] e2 w2 es, .flat [.bo] 4 .exact bg, .flat [.bo] 4 .exact out] => some (notB (ltI k 0), ⟨.exit 4, [(0, .int .i64 a), (1, .slice 0 0 W cp), (2, .slice 1 0 N cq), (7, .slice 2 0 W2 c2), (8, .slice 3 0 W3 c3), (9, .bool mo), (10, .int .i64 i), (11, .int .i64 n), (12, .bool (S.oE es N (wrapK .i64 (a + i)) k.toNat is))], [], []⟩)
 | _, _ => none), []⟩
noncomputable def s4BB : K.BEnt := ⟨[0, 1, 2, 7, 8, 9, 10, 11, 12, 13], 9, (fun xs os => match xs, os with
 | [.int .i64 a, .slice 0 0 W cp, .slice 1 0 N cq, .slice 2 0 W2 c2, .slice 3 0 W3 c3, .bool mo, .int .i64 i, .int .i64 n, .bool is, .int .i64 k], [.flat [.i .u8] et w vs, .flat [.i .u16] e2 w2 es, .flat [.bo] 4 .exact bg, .flat [.bo] 4 .exact out] => some (notB (ltI k 0), ⟨.normal, [(0, .int .i64 a), (1, .slice 0 0 W cp), (2, .slice 1 0 N cq), (7, .slice 2 0 W2 c2), (8, .slice 3 0 W3 c3), (9, .bool mo), (10, .int .i64 i), (11, .int .i64 n), (12, .bool (S.oE es N (wrapK .i64 (a + i)) k.toNat is))], [], []⟩)
 | _, _ => none), []⟩
noncomputable def s6EB : K.BEnt := ⟨[0, 1, 2, 7, 8, 9, 10, 11, 12, 14], 9, (fun xs os => match xs, os with
 | [.int .i64 a, .slice 0 0 W cp, .slice 1 0 N cq, .slice 2 0 W2 c2, .slice 3 0 W3 c3, .bool mo, .int .i64 i, .int .i64 n, .bool is, .int .i64 k], [.flat [.i .u8] et w vs, .flat [.i .u16] e2 w2 es, .flat [.bo] 4 .exact bg, .flat [.bo] 4 .exact out] => some (notB (ltI k 0), ⟨.exit 6, [(0, .int .i64 a), (1, .slice 0 0 W cp), (2, .slice 1 0 N cq), (7, .slice 2 0 W2 c2), (8, .slice 3 0 W3 c3), (9, .bool mo), (10, .int .i64 i), (11, .int .i64 n), (12, .bool (S.oL vs W a bg (wrapK .i64 (a + i)) k.toNat is))], [], []⟩)
 | _, _ => none), []⟩
noncomputable def s6BB : K.BEnt := ⟨[0, 1, 2, 7, 8, 9, 10, 11, 12, 14], 9, (fun xs os => match xs, os with
 | [.int .i64 a, .slice 0 0 W cp, .slice 1 0 N cq, .slice 2 0 W2 c2, .slice 3 0 W3 c3, .bool mo, .int .i64 i, .int .i64 n, .bool is, .int .i64 k], [.flat [.i .u8] et w vs, .flat [.i .u16] e2 w2 es, .flat [.bo] 4 .exact bg, .flat [.bo] 4 .exact out] => some (notB (ltI k 0), ⟨.normal, [(0, .int .i64 a), (1, .slice 0 0 W cp), (2, .slice 1 0 N cq), (7, .slice 2 0 W2 c2), (8, .slice 3 0 W3 c3), (9, .bool mo), (10, .int .i64 i), (11, .int .i64 n), (12, .bool (S.oL vs W a bg (wrapK .i64 (a + i)) k.toNat is))], [], []⟩)
 | _, _ => none), []⟩
end Go.Proofs.YtlgfojaalmelhaaDoor.Ev
