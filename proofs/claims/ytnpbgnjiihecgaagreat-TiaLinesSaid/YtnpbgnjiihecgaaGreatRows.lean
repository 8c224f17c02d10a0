/-
  No cell of these rows narrows 'for every input' (looked for: loops, veiled, ifaces, maps, wideKeys, modest, calm, conditions, laid).
  DERIVED. THE GIVEN ROWS OF THIS SEAT. 7 by the template 'for every input the law returns true; each argument reads behind the call as it read before'; 0 by the template 'total and deterministic' (their statements: YtnpbgnjiihecgaaGreatTotals.lean).
  GIVEN WITH THE SEED: the statements are not yours to turn. If you find one false, say at which input.
  Laid BY PROGRAM, IN A SANDBOX (cutbox-rows.mjs): the forced cells as the released guide's own fill.sh prints them over the translation b218ba00766af973… (all of the seat's roots in one cut). By AI agents, Wed Nov 11 2026. No macro, syntax, notation, axiom, sorry.
-/
import Derived.Test.YtnpbgnjiihecgaaGreatChecked
import GoSem.Claim
import GoSem.ClaimJoined
import GoSem.ClaimMapViews
import Derived.JoinedTies
import Derived.KernelRfl
namespace Go.Proofs.YtnpbgnjiihecgaaGreat
/- THE CELL 'sum', in the pinned program and in every row, IS THE sha256 OF THE DUMP (.gsa) THAT YtnpbgnjiihecgaaGreatProg.lean LOADS. Nothing in Lean hashes anything: it is a label: what it is worth is what the hold of that sum in a sandbox is worth. -/
noncomputable def Tryz.pinned : Pinned := { name := "ytnpbgnjiihecgaagreat", sum := "b218ba00766af9733b53f0d70becf8b8fa5c29eb9aaae3711ba6d5ccdd70dd24", checked := Tryz.checked }
namespace Rows
def none {H : Type} : Left H := { results := [], args := [] }

/-- 'woodgrainlaw21.TiaLines': WHATEVER THE INPUT: true; the input reads as it did. -/
def tiaLinesSpec : ChangeSpec := { name := "tiaLines", fn := fun _ => fun
  | [d1, d2] => { results := [.lit (.bool true)], args := [d1, d2] }
  | _ => none }
def tiaLinesRow : OpenClaim := { program := "ytnpbgnjiihecgaagreat", sum := "b218ba00766af9733b53f0d70becf8b8fa5c29eb9aaae3711ba6d5ccdd70dd24", func := "woodgrain/woodgrainlaw21.TiaLines", spec := "tiaLines", unfollowed := true, recurses := true, apart := false }
def TiaLinesSaid : Prop := tiaLinesRow.holds Tryz.pinned (OpenSpec.ofChange tiaLinesSpec)

/-- ITS FALSE NEIGHBOUR: 'it returns false'. Refute it at one input. -/
def tiaLinesWrong : ChangeSpec := { name := "tiaLines", fn := fun _ => fun
  | [d1, d2] => { results := [.lit (.bool false)], args := [d1, d2] }
  | _ => none }
def TiaLinesWrongFalsely : Prop := tiaLinesRow.holds Tryz.pinned (OpenSpec.ofChange tiaLinesWrong)

/-- 'woodgrainlaw21.TiaQuiet': WHATEVER THE INPUT: true; the input reads as it did. -/
def tiaQuietSpec : ChangeSpec := { name := "tiaQuiet", fn := fun _ => fun
  | [d1, d2] => { results := [.lit (.bool true)], args := [d1, d2] }
  | _ => none }
def tiaQuietRow : OpenClaim := { program := "ytnpbgnjiihecgaagreat", sum := "b218ba00766af9733b53f0d70becf8b8fa5c29eb9aaae3711ba6d5ccdd70dd24", func := "woodgrain/woodgrainlaw21.TiaQuiet", spec := "tiaQuiet", unfollowed := true, recurses := true, apart := false }
def TiaQuietSaid : Prop := tiaQuietRow.holds Tryz.pinned (OpenSpec.ofChange tiaQuietSpec)

/-- ITS FALSE NEIGHBOUR: 'it returns false'. Refute it at one input. -/
def tiaQuietWrong : ChangeSpec := { name := "tiaQuiet", fn := fun _ => fun
  | [d1, d2] => { results := [.lit (.bool false)], args := [d1, d2] }
  | _ => none }
def TiaQuietWrongFalsely : Prop := tiaQuietRow.holds Tryz.pinned (OpenSpec.ofChange tiaQuietWrong)

/-- 'woodgrainlaw21.TiaPlays': WHATEVER THE INPUT: true; the input reads as it did. -/
def tiaPlaysSpec : ChangeSpec := { name := "tiaPlays", fn := fun _ => fun
  | [d1, d2] => { results := [.lit (.bool true)], args := [d1, d2] }
  | _ => none }
def tiaPlaysRow : OpenClaim := { program := "ytnpbgnjiihecgaagreat", sum := "b218ba00766af9733b53f0d70becf8b8fa5c29eb9aaae3711ba6d5ccdd70dd24", func := "woodgrain/woodgrainlaw21.TiaPlays", spec := "tiaPlays", unfollowed := true, recurses := true, apart := false }
def TiaPlaysSaid : Prop := tiaPlaysRow.holds Tryz.pinned (OpenSpec.ofChange tiaPlaysSpec)

/-- ITS FALSE NEIGHBOUR: 'it returns false'. Refute it at one input. -/
def tiaPlaysWrong : ChangeSpec := { name := "tiaPlays", fn := fun _ => fun
  | [d1, d2] => { results := [.lit (.bool false)], args := [d1, d2] }
  | _ => none }
def TiaPlaysWrongFalsely : Prop := tiaPlaysRow.holds Tryz.pinned (OpenSpec.ofChange tiaPlaysWrong)

/-- 'woodgrainlaw21.TiaSets': WHATEVER THE INPUT: true; the input reads as it did. -/
def tiaSetsSpec : ChangeSpec := { name := "tiaSets", fn := fun _ => fun
  | [d1, d2] => { results := [.lit (.bool true)], args := [d1, d2] }
  | _ => none }
def tiaSetsRow : OpenClaim := { program := "ytnpbgnjiihecgaagreat", sum := "b218ba00766af9733b53f0d70becf8b8fa5c29eb9aaae3711ba6d5ccdd70dd24", func := "woodgrain/woodgrainlaw21.TiaSets", spec := "tiaSets", unfollowed := true, recurses := true, apart := false }
def TiaSetsSaid : Prop := tiaSetsRow.holds Tryz.pinned (OpenSpec.ofChange tiaSetsSpec)

/-- ITS FALSE NEIGHBOUR: 'it returns false'. Refute it at one input. -/
def tiaSetsWrong : ChangeSpec := { name := "tiaSets", fn := fun _ => fun
  | [d1, d2] => { results := [.lit (.bool false)], args := [d1, d2] }
  | _ => none }
def TiaSetsWrongFalsely : Prop := tiaSetsRow.holds Tryz.pinned (OpenSpec.ofChange tiaSetsWrong)

/-- 'woodgrainlaw21.TiaCopies': WHATEVER THE INPUT: true; the input reads as it did. -/
def tiaCopiesSpec : ChangeSpec := { name := "tiaCopies", fn := fun _ => fun
  | [d1, d2, d3] => { results := [.lit (.bool true)], args := [d1, d2, d3] }
  | _ => none }
def tiaCopiesRow : OpenClaim := { program := "ytnpbgnjiihecgaagreat", sum := "b218ba00766af9733b53f0d70becf8b8fa5c29eb9aaae3711ba6d5ccdd70dd24", func := "woodgrain/woodgrainlaw21.TiaCopies", spec := "tiaCopies", unfollowed := true, recurses := true, apart := false }
def TiaCopiesSaid : Prop := tiaCopiesRow.holds Tryz.pinned (OpenSpec.ofChange tiaCopiesSpec)

/-- ITS FALSE NEIGHBOUR: 'it returns false'. Refute it at one input. -/
def tiaCopiesWrong : ChangeSpec := { name := "tiaCopies", fn := fun _ => fun
  | [d1, d2, d3] => { results := [.lit (.bool false)], args := [d1, d2, d3] }
  | _ => none }
def TiaCopiesWrongFalsely : Prop := tiaCopiesRow.holds Tryz.pinned (OpenSpec.ofChange tiaCopiesWrong)

/-- 'woodgrainlaw21.TiaNil': WHATEVER THE INPUT: true; the input reads as it did. -/
def tiaNilSpec : ChangeSpec := { name := "tiaNil", fn := fun _ => fun
  | [d] => { results := [.lit (.bool true)], args := [d] }
  | _ => none }
def tiaNilRow : OpenClaim := { program := "ytnpbgnjiihecgaagreat", sum := "b218ba00766af9733b53f0d70becf8b8fa5c29eb9aaae3711ba6d5ccdd70dd24", func := "woodgrain/woodgrainlaw21.TiaNil", spec := "tiaNil", unfollowed := true, recurses := true, apart := false }
def TiaNilSaid : Prop := tiaNilRow.holds Tryz.pinned (OpenSpec.ofChange tiaNilSpec)

/-- ITS FALSE NEIGHBOUR: 'it returns false'. Refute it at one input. -/
def tiaNilWrong : ChangeSpec := { name := "tiaNil", fn := fun _ => fun
  | [d] => { results := [.lit (.bool false)], args := [d] }
  | _ => none }
def TiaNilWrongFalsely : Prop := tiaNilRow.holds Tryz.pinned (OpenSpec.ofChange tiaNilWrong)

/-- 'woodgrainlaw21.TiaMoves': WHATEVER THE INPUT: true; the input reads as it did. -/
def tiaMovesSpec : ChangeSpec := { name := "tiaMoves", fn := fun _ => fun
  | [d1, d2, d3] => { results := [.lit (.bool true)], args := [d1, d2, d3] }
  | _ => none }
def tiaMovesRow : OpenClaim := { program := "ytnpbgnjiihecgaagreat", sum := "b218ba00766af9733b53f0d70becf8b8fa5c29eb9aaae3711ba6d5ccdd70dd24", func := "woodgrain/woodgrainlaw21.TiaMoves", spec := "tiaMoves", unfollowed := true, recurses := true, apart := false }
def TiaMovesSaid : Prop := tiaMovesRow.holds Tryz.pinned (OpenSpec.ofChange tiaMovesSpec)

/-- ITS FALSE NEIGHBOUR: 'it returns false'. Refute it at one input. -/
def tiaMovesWrong : ChangeSpec := { name := "tiaMoves", fn := fun _ => fun
  | [d1, d2, d3] => { results := [.lit (.bool false)], args := [d1, d2, d3] }
  | _ => none }
def TiaMovesWrongFalsely : Prop := tiaMovesRow.holds Tryz.pinned (OpenSpec.ofChange tiaMovesWrong)

/- THE SECOND FORM. 'bulk': how many values and letters a reading holds, each counted each time it is reached (what is shared counts as often as it is met; a slice's spare places count too). A statement '..UptoSaid' is the law's where the arguments, and the package variables that the reading takes, are together of bulk at most 1048576: NARROWER than '..Said'. Prove '..Said' where nothing that the law and all that it calls make is longer than what came in: it says more and counts as full. Else prove '..UptoSaid'. A law counts once. -/
mutual
def uptoBulk {H : Type} : DataW H → Nat
  | .lit (.string bytes) => bytes.length + 1
  | .lit _ => 1
  | .nil => 1
  | .ptr d => uptoBulk d + 1
  | .slice elems spare => uptoBulkAll elems + uptoBulkAll spare + 1
  | .agg parts => uptoBulkAll parts + 1
  | .iface _ d => uptoBulk d + 1
  | .map entries => uptoBulkEntries entries + 1
  | .held _ => 1
def uptoBulkAll {H : Type} : List (DataW H) → Nat
  | [] => 0
  | d :: r => uptoBulk d + uptoBulkAll r
def uptoBulkEntries {H : Type} : List (Lit × DataW H) → Nat
  | [] => 0
  | x :: r => uptoBulkEntry x + uptoBulkEntries r
def uptoBulkEntry {H : Type} : Lit × DataW H → Nat
  | (.string bytes, d) => bytes.length + uptoBulk d + 1
  | (_, d) => uptoBulk d + 1
 end
def uptoSmall : (H : Type) → List (DataW H) → Bool := fun _ ds => decide (uptoBulkAll ds ≤ 1048576)
def OpenSpec.upto (s : _root_.Go.ChangeSpec) : _root_.Go.OpenSpec := { _root_.Go.OpenSpec.ofChange s with cond := some uptoSmall }

/-- 'woodgrainlaw21.TiaLines', WHERE WHAT IT READS IS OF BULK AT MOST 1048576: true; the input reads as it did. -/
def tiaLinesUptoRow : OpenClaim := { program := "ytnpbgnjiihecgaagreat", sum := "b218ba00766af9733b53f0d70becf8b8fa5c29eb9aaae3711ba6d5ccdd70dd24", func := "woodgrain/woodgrainlaw21.TiaLines", spec := "tiaLines", unfollowed := true, recurses := true, apart := false, narrowed := true }
def TiaLinesUptoSaid : Prop := tiaLinesUptoRow.holds Tryz.pinned (OpenSpec.upto tiaLinesSpec)

/-- 'woodgrainlaw21.TiaQuiet', WHERE WHAT IT READS IS OF BULK AT MOST 1048576: true; the input reads as it did. -/
def tiaQuietUptoRow : OpenClaim := { program := "ytnpbgnjiihecgaagreat", sum := "b218ba00766af9733b53f0d70becf8b8fa5c29eb9aaae3711ba6d5ccdd70dd24", func := "woodgrain/woodgrainlaw21.TiaQuiet", spec := "tiaQuiet", unfollowed := true, recurses := true, apart := false, narrowed := true }
def TiaQuietUptoSaid : Prop := tiaQuietUptoRow.holds Tryz.pinned (OpenSpec.upto tiaQuietSpec)

/-- 'woodgrainlaw21.TiaPlays', WHERE WHAT IT READS IS OF BULK AT MOST 1048576: true; the input reads as it did. -/
def tiaPlaysUptoRow : OpenClaim := { program := "ytnpbgnjiihecgaagreat", sum := "b218ba00766af9733b53f0d70becf8b8fa5c29eb9aaae3711ba6d5ccdd70dd24", func := "woodgrain/woodgrainlaw21.TiaPlays", spec := "tiaPlays", unfollowed := true, recurses := true, apart := false, narrowed := true }
def TiaPlaysUptoSaid : Prop := tiaPlaysUptoRow.holds Tryz.pinned (OpenSpec.upto tiaPlaysSpec)

/-- 'woodgrainlaw21.TiaSets', WHERE WHAT IT READS IS OF BULK AT MOST 1048576: true; the input reads as it did. -/
def tiaSetsUptoRow : OpenClaim := { program := "ytnpbgnjiihecgaagreat", sum := "b218ba00766af9733b53f0d70becf8b8fa5c29eb9aaae3711ba6d5ccdd70dd24", func := "woodgrain/woodgrainlaw21.TiaSets", spec := "tiaSets", unfollowed := true, recurses := true, apart := false, narrowed := true }
def TiaSetsUptoSaid : Prop := tiaSetsUptoRow.holds Tryz.pinned (OpenSpec.upto tiaSetsSpec)

/-- 'woodgrainlaw21.TiaCopies', WHERE WHAT IT READS IS OF BULK AT MOST 1048576: true; the input reads as it did. -/
def tiaCopiesUptoRow : OpenClaim := { program := "ytnpbgnjiihecgaagreat", sum := "b218ba00766af9733b53f0d70becf8b8fa5c29eb9aaae3711ba6d5ccdd70dd24", func := "woodgrain/woodgrainlaw21.TiaCopies", spec := "tiaCopies", unfollowed := true, recurses := true, apart := false, narrowed := true }
def TiaCopiesUptoSaid : Prop := tiaCopiesUptoRow.holds Tryz.pinned (OpenSpec.upto tiaCopiesSpec)

/-- 'woodgrainlaw21.TiaNil', WHERE WHAT IT READS IS OF BULK AT MOST 1048576: true; the input reads as it did. -/
def tiaNilUptoRow : OpenClaim := { program := "ytnpbgnjiihecgaagreat", sum := "b218ba00766af9733b53f0d70becf8b8fa5c29eb9aaae3711ba6d5ccdd70dd24", func := "woodgrain/woodgrainlaw21.TiaNil", spec := "tiaNil", unfollowed := true, recurses := true, apart := false, narrowed := true }
def TiaNilUptoSaid : Prop := tiaNilUptoRow.holds Tryz.pinned (OpenSpec.upto tiaNilSpec)

/-- 'woodgrainlaw21.TiaMoves', WHERE WHAT IT READS IS OF BULK AT MOST 1048576: true; the input reads as it did. -/
def tiaMovesUptoRow : OpenClaim := { program := "ytnpbgnjiihecgaagreat", sum := "b218ba00766af9733b53f0d70becf8b8fa5c29eb9aaae3711ba6d5ccdd70dd24", func := "woodgrain/woodgrainlaw21.TiaMoves", spec := "tiaMoves", unfollowed := true, recurses := true, apart := false, narrowed := true }
def TiaMovesUptoSaid : Prop := tiaMovesUptoRow.holds Tryz.pinned (OpenSpec.upto tiaMovesSpec)

end Rows
end Go.Proofs.YtnpbgnjiihecgaaGreat
