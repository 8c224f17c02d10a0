/- Contracts, what they say: Tfw. -/
import Derived.Test.YtlgfojaalmelhaaDoorTofD
import Derived.Test.YtlgfojaalmelhaaDoorTshD
namespace Go.Proofs.YtlgfojaalmelhaaDoor.Ev
open Go
set_option linter.unusedVariables false
namespace S
noncomputable section
def an (a b : Bool) : Bool := bc a b false
def by1 (vs : List LV) (k : Nat) : Int := intOf (K.atV vs k)
def byOk (b : Int) : Bool := an (notB (ltI b 0)) (ltI b 256)
def okB (vs : List LV) : Bool := @Nat.rec (fun _ => Bool) true (fun i r => an (byOk (by1 vs i)) r) (lenL vs)
def zr (W : Nat) : List LV := repeatL [.bool false] (Int.toNat W)
def dcd (p : Prop) : Bool := @decide p (Classical.propDecidable p)
def row (f : Nat → Bool) (W : Nat) : List LV := (List.range W).map fun p => .bool (f p)
def updB (f : Nat → Bool) (i : Nat) (p : Nat) : Bool := bc (Nat.beq p i) true (f p)
def bgAt (l : List LV) (p : Nat) : Bool := boolOf (K.atV l p)
def fits (vs : List LV) (W : Nat) (a : Int) (i : Nat) : Bool := an (notB (ltI ((W : Int) - i) (len (by1 vs i)))) (notB (ltI 65536 (a + i + len (by1 vs i))))
def valid (vs : List LV) (W : Nat) (a x : Int) : Prop := 0 ≤ x ∧ x < W ∧ fits vs W a x.toNat = true
def rel (a i b : Int) : Int := (a + i + 2 + (if b < 128 then b else b - 256)) % 65536 - a
def tgx (vs : List LV) (a : Int) (i : Nat) : Int := bc (eqI (len (by1 vs i)) 2) (rel a i (by1 vs (i + 1))) (by1 vs (i + 1) + 256 * by1 vs (i + 2) - a)
def isE (k : Int) : Bool := bc (eqI k 9) true (bc (eqI k 10) true (bc (eqI k 11) true (eqI k 12)))
def suc (vs : List LV) (a : Int) (i : Nat) : List Int := bc (isE (kd (by1 vs i))) [] (bc (eqI (kd (by1 vs i)) 7) (bc (eqI (md (by1 vs i)) 12) [] [tgx vs a i]) (bc (bc (eqI (kd (by1 vs i)) 4) true (eqI (kd (by1 vs i)) 8)) [tgx vs a i, i + len (by1 vs i)] [i + len (by1 vs i)]))
inductive rch (vs : List LV) (W : Nat) (a : Int) (E : Int → Prop) : Int → Prop where
 | start {x : Int} (h : E x) (hv : valid vs W a x) : rch vs W a E x
 | step {x y : Int} (h : rch vs W a E x) (hy : y ∈ suc vs a x.toNat) (hv : valid vs W a y) : rch vs W a E y
def cov (vs : List LV) (b : Int → Prop) (p : Nat) : Prop := ∃ i : Nat, b i ∧ i ≤ p ∧ (p : Int) < i + len (by1 vs i)
def ini (bg ws : List LV) (x : Int) : Prop := (0 ≤ x ∧ bgAt bg x.toNat = true) ∨ ∃ k, k < lenL ws ∧ intOf (K.atV ws k) = x
def cvR (vs : List LV) (W : Nat) (a : Int) (E : Int → Prop) : List LV := row (fun p => dcd (cov vs (rch vs W a E) p)) W
def fin (vs : List LV) (W : Nat) (a : Int) (bg ws : List LV) (M : Nat) : List LV := cvR vs W a (ini bg (sub ws 0 M))

def m1 (M : Nat) : Nat := Int.toNat (wrapK IntKind.i64 (↑M - 1))
def tp (ws : List LV) (M : Nat) : Int := intOf (K.atV ws (0 + m1 M * 1))
def ot (vs ws : List LV) (M : Nat) : Int := intOf (K.atV vs (0 + Int.toNat (tp ws M) * 1))
def jn (vs ws : List LV) (M j : Nat) : Int := intOf (K.atV vs (0 + Int.toNat (wrapK IntKind.i64 (tp ws M + (j : Int))) * 1))

def cnt (f : Nat → Bool) (W : Nat) : Nat := @Nat.rec (fun _ => Nat) 0 (fun p r => r + bc (f p) 0 1) W
def cvf (vs : List LV) (W : Nat) (f : Nat → Bool) (p : Nat) : Bool := dcd (cov vs (fun x => 0 ≤ x ∧ x < W ∧ f x.toNat = true) p)
structure Inv (vs : List LV) (W : Nat) (a : Int) (f : Nat → Bool) (rc bg ws : List LV) (M : Nat) : Prop where
 bg : bg = row f W
 rc : rc = row (cvf vs W f) W
 le : M ≤ lenL ws
 ms : 3 * cnt f W + M ≤ 3100
 ok : ∀ i, i < W → f i = true → fits vs W a i = true
 cl : ∀ i, i < W → f i = true → ∀ y, y ∈ suc vs a i → valid vs W a y → f y.toNat = true ∨ ∃ k, k < M ∧ intOf (K.atV ws k) = y
end
end S
def wl_T (m a : Int) (et c W M : Nat) (w : Own) (vs rc bg ws : List LV) : Prop := K.LOk Tryd.prog 22 81 (inner (inner (blkOf 22 2))) [7] [.ptr 0 0] [.cells 73 .exact [.int .i64 a, .slice 1 0 W (.known c), .slice 2 0 W (.known W), .slice 3 0 W (.known W), .slice 4 0 M (.rest 0)], .flat [.i .u8] et w vs, .flat [.bo] 4 .exact rc, .flat [.bo] 4 .exact bg, .flat [.i .i64] 3 (.grow 1) ws, .glob 0 S.tabV, .glob 1 [.int .i64 m]] ⟨.exit 2, [(7, .ptr 0 0)], [(0, .cells 73 .exact [.int .i64 a, .slice 1 0 W (.known c), .slice 2 0 W (.known W), .slice 3 0 W (.known W), .slice 7 0 0 (.rest 0)]), (2, .flat [.bo] 4 .exact (S.fin vs W a bg ws M)), (3, .dead), (4, .dead)], [.dead]⟩
def wl_E (a : Int) (c W : Nat) (x y : List LV) : Prop := (0 : Nat) = (0 : Nat) ∧ (a = a ∧ ((0 : Nat) = (0 : Nat) ∧ (W = W ∧ (Cap.known c = Cap.known c ∧ ((0 : Nat) = (0 : Nat) ∧ (W = W ∧ (Cap.known W = Cap.known W ∧ ((0 : Nat) = (0 : Nat) ∧ (W = W ∧ (Cap.known W = Cap.known W ∧ ((0 : Nat) = (0 : Nat) ∧ ((0 : Nat) = (0 : Nat) ∧ (Cap.rest (0 : Nat) = Cap.rest (0 : Nat) ∧ (x = y ∧ True))))))))))))))
noncomputable def lw1E : K.CEnt := ⟨9, (fun xs os => match xs, os with
 | [.int .u8 o], [.glob g cs, .glob g1 [.int .i64 m]] => some (S.an (bc (S.okG g cs g1) (S.isB o) false) (eqI (S.len o) 1), ⟨.ret (.int .i64 1), [], []⟩)
 | _, _ => none), [2000000]⟩
noncomputable def lw2E : K.CEnt := ⟨9, (fun xs os => match xs, os with
 | [.int .u8 o], [.glob g cs, .glob g1 [.int .i64 m]] => some (S.an (bc (S.okG g cs g1) (S.isB o) false) (eqI (S.len o) 2), ⟨.ret (.int .i64 2), [], []⟩)
 | _, _ => none), [2000000]⟩
noncomputable def lw3E : K.CEnt := ⟨9, (fun xs os => match xs, os with
 | [.int .u8 o], [.glob g cs, .glob g1 [.int .i64 m]] => some (S.an (bc (S.okG g cs g1) (S.isB o) false) (eqI (S.len o) 3), ⟨.ret (.int .i64 3), [], []⟩)
 | _, _ => none), [2000000]⟩
noncomputable def wlEB : K.BEnt := ⟨[7], 9, (fun xs os => match xs, os with
 | [.ptr 0 0], [.cells t0 .exact [.int .i64 a, .slice 1 0 W (.known c), .slice 2 0 W2 (.known C2), .slice 3 0 W3 (.known C3), .slice 4 0 M (.rest 0)], .flat [.i .u8] et w vs, .flat [.bo] t2 .exact rc, .flat [.bo] t3 .exact bg, .flat [.i .i64] t4 (.grow 1) ws, .glob g cs, .glob g1 ms] => some (true, ⟨.exit 2, [(7, .ptr 0 0)], [(0, .cells 73 .exact [.int .i64 a, .slice 1 0 W (.known c), .slice 2 0 W2 (.known C2), .slice 3 0 W3 (.known C3), .slice 7 0 0 (.rest 0)]), (2, .flat [.bo] 4 .exact (S.fin vs W a bg ws M)), (3, .dead), (4, .dead)], [.dead]⟩)
 | _, _ => none), [3 + 1000000, 2000000]⟩
noncomputable def wlBB : K.BEnt := ⟨[7], 9, (fun xs os => match xs, os with
 | [.ptr 0 0], [.cells t0 .exact [.int .i64 a, .slice 1 0 W (.known c), .slice 2 0 W2 (.known C2), .slice 3 0 W3 (.known C3), .slice 4 0 M (.rest 0)], .flat [.i .u8] et w vs, .flat [.bo] t2 .exact rc, .flat [.bo] t3 .exact bg, .flat [.i .i64] t4 (.grow 1) ws, .glob g cs, .glob g1 ms] => some (true, ⟨.normal, [(7, .ptr 0 0)], [(0, .cells 73 .exact [.int .i64 a, .slice 1 0 W (.known c), .slice 2 0 W2 (.known C2), .slice 3 0 W3 (.known C3), .slice 7 0 0 (.rest 0)]), (2, .flat [.bo] 4 .exact (S.fin vs W a bg ws M)), (3, .dead), (4, .dead)], [.dead]⟩)
 | _, _ => none), [3 + 1000000, 2000000]⟩
end Go.Proofs.YtlgfojaalmelhaaDoor.Ev
