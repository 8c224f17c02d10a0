/- Contracts, what they say: Tmr. -/
import Derived.Test.YtlgfojaalmelhaaDoorTakD
import Derived.Test.YtlgfojaalmelhaaDoorTmwD
namespace Go.Proofs.YtlgfojaalmelhaaDoor.Ev
open Go
set_option linter.unusedVariables false
namespace S
noncomputable section
def byV (a : Int) : List LV := [.int .u8 a]
def byK : List CK := [.i .u8]
def wdV (a : Int) : List LV := [.int .u16 a]
def wdK : List CK := [.i .u16]
def leB (x y : List LV) (W : Nat) : Prop := ∀ p, p < W → boolOf (K.atV x p) = true → boolOf (K.atV y p) = true
end
end S
def m0N_T (a : Int) (et c W : Nat) (w : Own) (vs : List LV) (i : Nat) (x y : List LV) : Prop := K.LOk Tryd.prog 9 85 (inner (inner (blkOf 9 0))) [0, 1, 2, 7, 8, 9] [.int .u16 a, .slice 0 0 W (.known c), .nils, .slice 1 0 W (.known W), .slice 2 0 W (.known W), .int .i64 i] [.flat [.i .u8] et w vs, .flat [.bo] 4 .exact x, .flat [.bo] 4 .exact y] ⟨.exit 0, [(0, .int .u16 a), (1, .slice 0 0 W (.known c)), (2, .nils), (7, .slice 1 0 W (.known W))], [], []⟩
def m4N_T (a : Int) (et c W : Nat) (w : Own) (vs : List LV) (k : Int) (i : Nat) (x y : List LV) : Prop := K.LOk Tryd.prog 9 85 (inner (inner (blkOf 9 4))) [0, 1, 2, 7, 10, 11, 12] [.int .u16 a, .slice 0 0 W (.known c), .nils, .slice 1 0 W (.known W), .int .i64 k, .slice 2 0 W (.known W), .int .i64 i] [.flat [.i .u8] et w vs, .flat [.bo] 4 .exact x, .flat [.bo] 4 .exact y] ⟨.exit 4, [(0, .int .u16 a), (1, .slice 0 0 W (.known c)), (2, .nils), (7, .slice 1 0 W (.known W)), (10, .int .i64 k)], [], []⟩
def m0E_T (a : Int) (et c W : Nat) (w : Own) (vs : List LV) (i : Nat) (x y : List LV) : Prop := K.LOk Tryd.prog 9 85 (inner (inner (blkOf 9 0))) [0, 1, 2, 7, 8, 9] [.int .u16 a, .slice 0 0 W (.known c), .emp 1, .slice 2 0 W (.known W), .slice 3 0 W (.known W), .int .i64 i] [.flat [.i .u8] et w vs, .empty, .flat [.bo] 4 .exact x, .flat [.bo] 4 .exact y] ⟨.exit 0, [(0, .int .u16 a), (1, .slice 0 0 W (.known c)), (2, .emp 1), (7, .slice 2 0 W (.known W))], [], []⟩
def m4E_T (a : Int) (et c W : Nat) (w : Own) (vs : List LV) (k : Int) (i : Nat) (x y : List LV) : Prop := K.LOk Tryd.prog 9 85 (inner (inner (blkOf 9 4))) [0, 1, 2, 7, 10, 11, 12] [.int .u16 a, .slice 0 0 W (.known c), .emp 1, .slice 2 0 W (.known W), .int .i64 k, .slice 3 0 W (.known W), .int .i64 i] [.flat [.i .u8] et w vs, .empty, .flat [.bo] 4 .exact x, .flat [.bo] 4 .exact y] ⟨.exit 4, [(0, .int .u16 a), (1, .slice 0 0 W (.known c)), (2, .emp 1), (7, .slice 2 0 W (.known W)), (10, .int .i64 k)], [], []⟩
def m0S_T (a : Int) (et c W : Nat) (w : Own) (vs : List LV) (N q e2 : Nat) (w2 : Own) (es : List LV) (i : Nat) (x y : List LV) : Prop := K.LOk Tryd.prog 9 85 (inner (inner (blkOf 9 0))) [0, 1, 2, 7, 8, 9] [.int .u16 a, .slice 0 0 W (.known c), .slice 1 0 N (.known q), .slice 2 0 W (.known W), .slice 3 0 W (.known W), .int .i64 i] [.flat [.i .u8] et w vs, .flat [.i .u16] e2 w2 es, .flat [.bo] 4 .exact x, .flat [.bo] 4 .exact y] ⟨.exit 0, [(0, .int .u16 a), (1, .slice 0 0 W (.known c)), (2, .slice 1 0 N (.known q)), (7, .slice 2 0 W (.known W))], [], []⟩
def m4S_T (a : Int) (et c W : Nat) (w : Own) (vs : List LV) (N q e2 : Nat) (w2 : Own) (es : List LV) (k : Int) (i : Nat) (x y : List LV) : Prop := K.LOk Tryd.prog 9 85 (inner (inner (blkOf 9 4))) [0, 1, 2, 7, 10, 11, 12] [.int .u16 a, .slice 0 0 W (.known c), .slice 1 0 N (.known q), .slice 2 0 W (.known W), .int .i64 k, .slice 3 0 W (.known W), .int .i64 i] [.flat [.i .u8] et w vs, .flat [.i .u16] e2 w2 es, .flat [.bo] 4 .exact x, .flat [.bo] 4 .exact y] ⟨.exit 4, [(0, .int .u16 a), (1, .slice 0 0 W (.known c)), (2, .slice 1 0 N (.known q)), (7, .slice 2 0 W (.known W)), (10, .int .i64 k)], [], []⟩
def m2S_T (m : Int) (a : Int) (et c W : Nat) (w : Own) (vs : List LV) (N q e2 : Nat) (w2 : Own) (es : List LV) (k : Nat) (x : List LV) : Prop := K.LOk Tryd.prog 9 85 (inner (inner (blkOf 9 2))) [0, 1, 2, 7, 10] [.int .u16 a, .slice 0 0 W (.known c), .slice 1 0 N (.known q), .slice 2 0 W (.known W), .int .i64 k] [.flat [.i .u8] et w vs, .flat [.i .u16] e2 w2 es, .flat [.bo] 4 .exact x, .glob 0 S.tabV, .glob 1 [.int .i64 m]] ⟨.exit 2, [], [], []⟩
def m2N_T (a : Int) (k : Nat) (N q e2 : Nat) (w2 : Own) (es : List LV) : Prop := K.LOk Tryd.prog 9 85 (inner (inner (blkOf 9 2))) [0, 1, 2, 10] [.int .u16 a, .nils, .slice 0 0 N (.known q), .int .i64 k] [.flat [.i .u16] e2 w2 es] ⟨.exit 2, [], [], []⟩
def m2E_T (a : Int) (k : Nat) (N q e2 : Nat) (w2 : Own) (es : List LV) : Prop := K.LOk Tryd.prog 9 85 (inner (inner (blkOf 9 2))) [0, 1, 2, 10] [.int .u16 a, .emp 0, .slice 1 0 N (.known q), .int .i64 k] [.empty, .flat [.i .u16] e2 w2 es] ⟨.exit 2, [], [], []⟩
noncomputable def m0NEB : K.BEnt := ⟨[0, 1, 2, 7, 8, 9], 9, (fun xs os => match xs, os with
 | [.int .u16 a, .slice 0 0 W (.known c), .nils, .slice 1 0 W1 c1, .slice 2 0 W2 c2, .int .i64 i], [.flat [.i .u8] et w vs, .flat [.bo] 4 .exact x, .flat [.bo] 4 .exact y] => some (true, ⟨.exit 0, [(0, .int .u16 a), (1, .slice 0 0 W (.known c)), (2, .nils), (7, .slice 1 0 W1 c1)], [], []⟩)
 | _, _ => none), []⟩
noncomputable def m0NBB : K.BEnt := ⟨[0, 1, 2, 7, 8, 9], 9, (fun xs os => match xs, os with
 | [.int .u16 a, .slice 0 0 W (.known c), .nils, .slice 1 0 W1 c1, .slice 2 0 W2 c2, .int .i64 i], [.flat [.i .u8] et w vs, .flat [.bo] 4 .exact x, .flat [.bo] 4 .exact y] => some (true, ⟨.normal, [(0, .int .u16 a), (1, .slice 0 0 W (.known c)), (2, .nils), (7, .slice 1 0 W1 c1)], [], []⟩)
 | _, _ => none), []⟩
noncomputable def m4NEB : K.BEnt := ⟨[0, 1, 2, 7, 10, 11, 12], 9, (fun xs os => match xs, os with
 | [.int .u16 a, .slice 0 0 W (.known c), .nils, .slice 1 0 W1 c1, .int .i64 k, .slice 2 0 W2 c2, .int .i64 i], [.flat [.i .u8] et w vs, .flat [.bo] 4 .exact x, .flat [.bo] 4 .exact y] => some (true, ⟨.exit 4, [(0, .int .u16 a), (1, .slice 0 0 W (.known c)), (2, .nils), (7, .slice 1 0 W1 c1), (10, .int .i64 k)], [], []⟩)
 | _, _ => none), []⟩
noncomputable def m4NBB : K.BEnt := ⟨[0, 1, 2, 7, 10, 11, 12], 9, (fun xs os => match xs, os with
 | [.int .u16 a, .slice 0 0 W (.known c), .nils, .slice 1 0 W1 c1, .int .i64 k, .slice 2 0 W2 c2, .int .i64 i], [.flat [.i .u8] et w vs, .flat [.bo] 4 .exact x, .flat [.bo] 4 .exact y] => some (true, ⟨.normal, [(0, .int .u16 a), (1, .slice 0 0 W (.known c)), (2, .nils), (7, .slice 1 0 W1 c1), (10, .int .i64 k)], [], []⟩)
 | _, _ => none), []⟩
noncomputable def m0EEB : K.BEnt := ⟨[0, 1, 2, 7, 8, 9], 9, (fun xs os => match xs, os with
 | [.int .u16 a, .slice 0 0 W (.known c), .emp 1, .slice 2 0 W1 c1, .slice 3 0 W2 c2, .int .i64 i], [.flat [.i .u8] et w vs, .empty, .flat [.bo] 4 .exact x, .flat [.bo] 4 .exact y] => some (true, ⟨.exit 0, [(0, .int .u16 a), (1, .slice 0 0 W (.known c)), (2, .emp 1), (7, .slice 2 0 W1 c1)], [], []⟩)
 | _, _ => none), []⟩
noncomputable def m0EBB : K.BEnt := ⟨[0, 1, 2, 7, 8, 9], 9, (fun xs os => match xs, os with
 | [.int .u16 a, .slice 0 0 W (.known c), .emp 1, .slice 2 0 W1 c1, .slice 3 0 W2 c2, .int .i64 i], [.flat [.i .u8] et w vs, .empty, .flat [.bo] 4 .exact x, .flat [.bo] 4 .exact y] => some (true, ⟨.normal, [(0, .int .u16 a), (1, .slice 0 0 W (.known c)), (2, .emp 1), (7, .slice 2 0 W1 c1)], [], []⟩)
 | _, _ => none), []⟩
noncomputable def m4EEB : K.BEnt := ⟨[0, 1, 2, 7, 10, 11, 12], 9, (fun xs os => match xs, os with
 | [.int .u16 a, .slice 0 0 W (.known c), .emp 1, .slice 2 0 W1 c1, .int .i64 k, .slice 3 0 W2 c2, .int .i64 i], [.flat [.i .u8] et w vs, .empty, .flat [.bo] 4 .exact x, .flat [.bo] 4 .exact y] => some (true, ⟨.exit 4, [(0, .int .u16 a), (1, .slice 0 0 W (.known c)), (2, .emp 1), (7, .slice 2 0 W1 c1), (10, .int .i64 k)], [], []⟩)
 | _, _ => none), []⟩
noncomputable def m4EBB : K.BEnt := ⟨[0, 1, 2, 7, 10, 11, 12], 9, (fun xs os => match xs, os with
 | [.int .u16 a, .slice 0 0 W (.known c), .emp 1, .slice 2 0 W1 c1, .int .i64 k, .slice 3 0 W2 c2, .int .i64 i], [.flat [.i .u8] et w vs, .empty, .flat [.bo] 4 .exact x, .flat [.bo] 4 .exact y] => some (true, ⟨.normal, [(0, .int .u16 a), (1, .slice 0 0 W (.known c)), (2, .emp 1), (7, .slice 2 0 W1 c1), (10, .int .i64 k)], [], []⟩)
 | _, _ => none), []⟩
noncomputable def m0SEB : K.BEnt := ⟨[0, 1, 2, 7, 8, 9], 9, (fun xs os => match xs, os with
 | [.int .u16 a, .slice 0 0 W (.known c), .slice 1 0 N (.known q), .slice 2 0 W1 c1, .slice 3 0 W2 c2, .int .i64 i], [.flat [.i .u8] et w vs, .flat [.i .u16] e2 w2 es, .flat [.bo] 4 .exact x, .flat [.bo] 4 .exact y] => some (true, ⟨.exit 0, [(0, .int .u16 a), (1, .slice 0 0 W (.known c)), (2, .slice 1 0 N (.known q)), (7, .slice 2 0 W1 c1)], [], []⟩)
 | _, _ => none), []⟩
noncomputable def m0SBB : K.BEnt := ⟨[0, 1, 2, 7, 8, 9], 9, (fun xs os => match xs, os with
 | [.int .u16 a, .slice 0 0 W (.known c), .slice 1 0 N (.known q), .slice 2 0 W1 c1, .slice 3 0 W2 c2, .int .i64 i], [.flat [.i .u8] et w vs, .flat [.i .u16] e2 w2 es, .flat [.bo] 4 .exact x, .flat [.bo] 4 .exact y] => some (true, ⟨.normal, [(0, .int .u16 a), (1, .slice 0 0 W (.known c)), (2, .slice 1 0 N (.known q)), (7, .slice 2 0 W1 c1)], [], []⟩)
 | _, _ => none), []⟩
noncomputable def m4SEB : K.BEnt := ⟨[0, 1, 2, 7, 10, 11, 12], 9, (fun xs os => match xs, os with
 | [.int .u16 a, .slice 0 0 W (.known c), .slice 1 0 N (.known q), .slice 2 0 W1 c1, .int .i64 k, .slice 3 0 W2 c2, .int .i64 i], [.flat [.i .u8] et w vs, .flat [.i .u16] e2 w2 es, .flat [.bo] 4 .exact x, .flat [.bo] 4 .exact y] => some (true, ⟨.exit 4, [(0, .int .u16 a), (1, .slice 0 0 W (.known c)), (2, .slice 1 0 N (.known q)), (7, .slice 2 0 W1 c1), (10, .int .i64 k)], [], []⟩)
 | _, _ => none), []⟩
noncomputable def m4SBB : K.BEnt := ⟨[0, 1, 2, 7, 10, 11, 12], 9, (fun xs os => match xs, os with
 | [.int .u16 a, .slice 0 0 W (.known c), .slice 1 0 N (.known q), .slice 2 0 W1 c1, .int .i64 k, .slice 3 0 W2 c2, .int .i64 i], [.flat [.i .u8] et w vs, .flat [.i .u16] e2 w2 es, .flat [.bo] 4 .exact x, .flat [.bo] 4 .exact y] => some (true, ⟨.normal, [(0, .int .u16 a), (1, .slice 0 0 W (.known c)), (2, .slice 1 0 N (.known q)), (7, .slice 2 0 W1 c1), (10, .int .i64 k)], [], []⟩)
 | _, _ => none), []⟩
noncomputable def m2SEB : K.BEnt := ⟨[0, 1, 2, 7, 10], 9, (fun xs os => match xs, os with
 | [.int .u16 a, .slice 0 0 W (.known c), .slice 1 0 N (.known q), .slice 2 0 W1 c1, .int .i64 k], [.flat [.i .u8] et w vs, .flat [.i .u16] e2 w2 es, .flat [.bo] 4 .exact x, .glob g cs, .glob g1 ms] => some (true, ⟨.exit 2, [], [], []⟩)
 | _, _ => none), [2000000]⟩
noncomputable def m2SBB : K.BEnt := ⟨[0, 1, 2, 7, 10], 9, (fun xs os => match xs, os with
 | [.int .u16 a, .slice 0 0 W (.known c), .slice 1 0 N (.known q), .slice 2 0 W1 c1, .int .i64 k], [.flat [.i .u8] et w vs, .flat [.i .u16] e2 w2 es, .flat [.bo] 4 .exact x, .glob g cs, .glob g1 ms] => some (true, ⟨.normal, [], [], []⟩)
 | _, _ => none), [2000000]⟩
noncomputable def m2NEB : K.BEnt := ⟨[0, 1, 2, 10], 9, (fun xs os => match xs, os with
 | [.int .u16 a, .nils, .slice 0 0 N (.known q), .int .i64 k], [.flat [.i .u16] e2 w2 es] => some (true, ⟨.exit 2, [], [], []⟩)
 | _, _ => none), []⟩
noncomputable def m2NBB : K.BEnt := ⟨[0, 1, 2, 10], 9, (fun xs os => match xs, os with
 | [.int .u16 a, .nils, .slice 0 0 N (.known q), .int .i64 k], [.flat [.i .u16] e2 w2 es] => some (true, ⟨.normal, [], [], []⟩)
 | _, _ => none), []⟩
noncomputable def m2EEB : K.BEnt := ⟨[0, 1, 2, 10], 9, (fun xs os => match xs, os with
 | [.int .u16 a, .emp 0, .slice 1 0 N (.known q), .int .i64 k], [.empty, .flat [.i .u16] e2 w2 es] => some (true, ⟨.exit 2, [], [], []⟩)
 | _, _ => none), []⟩
noncomputable def m2EBB : K.BEnt := ⟨[0, 1, 2, 10], 9, (fun xs os => match xs, os with
 | [.int .u16 a, .emp 0, .slice 1 0 N (.known q), .int .i64 k], [.empty, .flat [.i .u16] e2 w2 es] => some (true, ⟨.normal, [], [], []⟩)
 | _, _ => none), []⟩
end Go.Proofs.YtlgfojaalmelhaaDoor.Ev
