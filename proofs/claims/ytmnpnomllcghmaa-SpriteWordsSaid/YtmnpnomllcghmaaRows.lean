/-
  No cell of these rows narrows 'for every input' (looked for: loops, veiled, ifaces, maps, wideKeys, modest, calm, conditions, laid).
  DERIVED. THE GIVEN ROWS OF THIS SEAT. 13 by the template 'for every input the law returns true; each argument reads behind the call as it read before'; 0 by the template 'total and deterministic' (their statements: YtmnpnomllcghmaaTotals.lean).
  GIVEN WITH THE SEED: the statements are not yours to turn. If you find one false, say at which input.
  Laid BY PROGRAM, IN A SANDBOX (cutbox-rows.mjs): the forced cells as the released guide's own fill.sh prints them over the translation c3e14b9ac0420b38… (all of the seat's roots in one cut). By AI agents, Wed Nov 11 2026. No macro, syntax, notation, axiom, sorry.
-/
import Derived.Test.YtmnpnomllcghmaaChecked
import GoSem.Claim
import GoSem.ClaimJoined
import GoSem.ClaimMapViews
import Derived.JoinedTies
import Derived.KernelRfl
namespace Go.Proofs.Ytmnpnomllcghmaa
/- THE CELL 'sum', in the pinned program and in every row, IS THE sha256 OF THE DUMP (.gsa) THAT YtmnpnomllcghmaaProg.lean LOADS. Nothing in Lean hashes anything: it is a label: what it is worth is what the hold of that sum in a sandbox is worth. -/
noncomputable def Try.pinned : Pinned := { name := "ytmnpnomllcghmaa", sum := "c3e14b9ac0420b3882cd19a2dd3e1aa46e7dc7ff829d2046dc3b13b1192d43fd", checked := Try.checked }
namespace Rows
def none {H : Type} : Left H := { results := [], args := [] }

/-- 'woodgrainlaw02.CountRounds': WHATEVER THE INPUT: true; the input reads as it did. -/
def countRoundsSpec : ChangeSpec := { name := "countRounds", fn := fun _ => fun
  | [d1, d2] => { results := [.lit (.bool true)], args := [d1, d2] }
  | _ => none }
def countRoundsRow : OpenClaim := { program := "ytmnpnomllcghmaa", sum := "c3e14b9ac0420b3882cd19a2dd3e1aa46e7dc7ff829d2046dc3b13b1192d43fd", func := "woodgrain/woodgrainlaw02.CountRounds", spec := "countRounds", unfollowed := true, recurses := true, apart := false }
def CountRoundsSaid : Prop := countRoundsRow.holds Try.pinned (OpenSpec.ofChange countRoundsSpec)

/-- ITS FALSE NEIGHBOUR: 'it returns false'. Refute it at one input. -/
def countRoundsWrong : ChangeSpec := { name := "countRounds", fn := fun _ => fun
  | [d1, d2] => { results := [.lit (.bool false)], args := [d1, d2] }
  | _ => none }
def CountRoundsWrongFalsely : Prop := countRoundsRow.holds Try.pinned (OpenSpec.ofChange countRoundsWrong)

/-- 'woodgrainlaw02.CountCounts': WHATEVER THE INPUT: true; the input reads as it did. -/
def countCountsSpec : ChangeSpec := { name := "countCounts", fn := fun _ => fun
  | [d] => { results := [.lit (.bool true)], args := [d] }
  | _ => none }
def countCountsRow : OpenClaim := { program := "ytmnpnomllcghmaa", sum := "c3e14b9ac0420b3882cd19a2dd3e1aa46e7dc7ff829d2046dc3b13b1192d43fd", func := "woodgrain/woodgrainlaw02.CountCounts", spec := "countCounts", unfollowed := true, recurses := true, apart := false }
def CountCountsSaid : Prop := countCountsRow.holds Try.pinned (OpenSpec.ofChange countCountsSpec)

/-- ITS FALSE NEIGHBOUR: 'it returns false'. Refute it at one input. -/
def countCountsWrong : ChangeSpec := { name := "countCounts", fn := fun _ => fun
  | [d] => { results := [.lit (.bool false)], args := [d] }
  | _ => none }
def CountCountsWrongFalsely : Prop := countCountsRow.holds Try.pinned (OpenSpec.ofChange countCountsWrong)

/-- 'woodgrainlaw02.CountMarks': WHATEVER THE INPUT: true; the input reads as it did. -/
def countMarksSpec : ChangeSpec := { name := "countMarks", fn := fun _ => fun
  | [d1, d2] => { results := [.lit (.bool true)], args := [d1, d2] }
  | _ => none }
def countMarksRow : OpenClaim := { program := "ytmnpnomllcghmaa", sum := "c3e14b9ac0420b3882cd19a2dd3e1aa46e7dc7ff829d2046dc3b13b1192d43fd", func := "woodgrain/woodgrainlaw02.CountMarks", spec := "countMarks", unfollowed := true, recurses := true, apart := false }
def CountMarksSaid : Prop := countMarksRow.holds Try.pinned (OpenSpec.ofChange countMarksSpec)

/-- ITS FALSE NEIGHBOUR: 'it returns false'. Refute it at one input. -/
def countMarksWrong : ChangeSpec := { name := "countMarks", fn := fun _ => fun
  | [d1, d2] => { results := [.lit (.bool false)], args := [d1, d2] }
  | _ => none }
def CountMarksWrongFalsely : Prop := countMarksRow.holds Try.pinned (OpenSpec.ofChange countMarksWrong)

/-- 'woodgrainlaw02.CountDivides': WHATEVER THE INPUT: true; the input reads as it did. -/
def countDividesSpec : ChangeSpec := { name := "countDivides", fn := fun _ => fun
  | [d] => { results := [.lit (.bool true)], args := [d] }
  | _ => none }
def countDividesRow : OpenClaim := { program := "ytmnpnomllcghmaa", sum := "c3e14b9ac0420b3882cd19a2dd3e1aa46e7dc7ff829d2046dc3b13b1192d43fd", func := "woodgrain/woodgrainlaw02.CountDivides", spec := "countDivides", unfollowed := true, recurses := true, apart := false }
def CountDividesSaid : Prop := countDividesRow.holds Try.pinned (OpenSpec.ofChange countDividesSpec)

/-- ITS FALSE NEIGHBOUR: 'it returns false'. Refute it at one input. -/
def countDividesWrong : ChangeSpec := { name := "countDivides", fn := fun _ => fun
  | [d] => { results := [.lit (.bool false)], args := [d] }
  | _ => none }
def CountDividesWrongFalsely : Prop := countDividesRow.holds Try.pinned (OpenSpec.ofChange countDividesWrong)

/-- 'woodgrainlaw02.CountPlaces': WHATEVER THE INPUT: true; the input reads as it did. -/
def countPlacesSpec : ChangeSpec := { name := "countPlaces", fn := fun _ => fun
  | [d1, d2, d3] => { results := [.lit (.bool true)], args := [d1, d2, d3] }
  | _ => none }
def countPlacesRow : OpenClaim := { program := "ytmnpnomllcghmaa", sum := "c3e14b9ac0420b3882cd19a2dd3e1aa46e7dc7ff829d2046dc3b13b1192d43fd", func := "woodgrain/woodgrainlaw02.CountPlaces", spec := "countPlaces", unfollowed := true, recurses := true, apart := false }
def CountPlacesSaid : Prop := countPlacesRow.holds Try.pinned (OpenSpec.ofChange countPlacesSpec)

/-- ITS FALSE NEIGHBOUR: 'it returns false'. Refute it at one input. -/
def countPlacesWrong : ChangeSpec := { name := "countPlaces", fn := fun _ => fun
  | [d1, d2, d3] => { results := [.lit (.bool false)], args := [d1, d2, d3] }
  | _ => none }
def CountPlacesWrongFalsely : Prop := countPlacesRow.holds Try.pinned (OpenSpec.ofChange countPlacesWrong)

/-- 'woodgrainlaw02.CountNil': WHATEVER THE INPUT: true; the input reads as it did. -/
def countNilSpec : ChangeSpec := { name := "countNil", fn := fun _ => fun
  | [d] => { results := [.lit (.bool true)], args := [d] }
  | _ => none }
def countNilRow : OpenClaim := { program := "ytmnpnomllcghmaa", sum := "c3e14b9ac0420b3882cd19a2dd3e1aa46e7dc7ff829d2046dc3b13b1192d43fd", func := "woodgrain/woodgrainlaw02.CountNil", spec := "countNil", unfollowed := true, recurses := true, apart := false }
def CountNilSaid : Prop := countNilRow.holds Try.pinned (OpenSpec.ofChange countNilSpec)

/-- ITS FALSE NEIGHBOUR: 'it returns false'. Refute it at one input. -/
def countNilWrong : ChangeSpec := { name := "countNil", fn := fun _ => fun
  | [d] => { results := [.lit (.bool false)], args := [d] }
  | _ => none }
def CountNilWrongFalsely : Prop := countNilRow.holds Try.pinned (OpenSpec.ofChange countNilWrong)

/-- 'woodgrainlaw15.BeamLines': WHATEVER THE INPUT: true; the input reads as it did. -/
def beamLinesSpec : ChangeSpec := { name := "beamLines", fn := fun _ => fun
  | [d1, d2] => { results := [.lit (.bool true)], args := [d1, d2] }
  | _ => none }
def beamLinesRow : OpenClaim := { program := "ytmnpnomllcghmaa", sum := "c3e14b9ac0420b3882cd19a2dd3e1aa46e7dc7ff829d2046dc3b13b1192d43fd", func := "woodgrain/woodgrainlaw15.BeamLines", spec := "beamLines", unfollowed := true, recurses := true, apart := false }
def BeamLinesSaid : Prop := beamLinesRow.holds Try.pinned (OpenSpec.ofChange beamLinesSpec)

/-- ITS FALSE NEIGHBOUR: 'it returns false'. Refute it at one input. -/
def beamLinesWrong : ChangeSpec := { name := "beamLines", fn := fun _ => fun
  | [d1, d2] => { results := [.lit (.bool false)], args := [d1, d2] }
  | _ => none }
def BeamLinesWrongFalsely : Prop := beamLinesRow.holds Try.pinned (OpenSpec.ofChange beamLinesWrong)

/-- 'woodgrainlaw15.BeamPlays': WHATEVER THE INPUT: true; the input reads as it did. -/
def beamPlaysSpec : ChangeSpec := { name := "beamPlays", fn := fun _ => fun
  | [d1, d2] => { results := [.lit (.bool true)], args := [d1, d2] }
  | _ => none }
def beamPlaysRow : OpenClaim := { program := "ytmnpnomllcghmaa", sum := "c3e14b9ac0420b3882cd19a2dd3e1aa46e7dc7ff829d2046dc3b13b1192d43fd", func := "woodgrain/woodgrainlaw15.BeamPlays", spec := "beamPlays", unfollowed := true, recurses := true, apart := false }
def BeamPlaysSaid : Prop := beamPlaysRow.holds Try.pinned (OpenSpec.ofChange beamPlaysSpec)

/-- ITS FALSE NEIGHBOUR: 'it returns false'. Refute it at one input. -/
def beamPlaysWrong : ChangeSpec := { name := "beamPlays", fn := fun _ => fun
  | [d1, d2] => { results := [.lit (.bool false)], args := [d1, d2] }
  | _ => none }
def BeamPlaysWrongFalsely : Prop := beamPlaysRow.holds Try.pinned (OpenSpec.ofChange beamPlaysWrong)

/-- 'woodgrainlaw16.SpriteStarts': WHATEVER THE INPUT: true; the input reads as it did. -/
def spriteStartsSpec : ChangeSpec := { name := "spriteStarts", fn := fun _ => fun
  | [d] => { results := [.lit (.bool true)], args := [d] }
  | _ => none }
def spriteStartsRow : OpenClaim := { program := "ytmnpnomllcghmaa", sum := "c3e14b9ac0420b3882cd19a2dd3e1aa46e7dc7ff829d2046dc3b13b1192d43fd", func := "woodgrain/woodgrainlaw16.SpriteStarts", spec := "spriteStarts", unfollowed := true, recurses := true, apart := false }
def SpriteStartsSaid : Prop := spriteStartsRow.holds Try.pinned (OpenSpec.ofChange spriteStartsSpec)

/-- ITS FALSE NEIGHBOUR: 'it returns false'. Refute it at one input. -/
def spriteStartsWrong : ChangeSpec := { name := "spriteStarts", fn := fun _ => fun
  | [d] => { results := [.lit (.bool false)], args := [d] }
  | _ => none }
def SpriteStartsWrongFalsely : Prop := spriteStartsRow.holds Try.pinned (OpenSpec.ofChange spriteStartsWrong)

/-- 'woodgrainlaw16.SpriteRounds': WHATEVER THE INPUT: true; the input reads as it did. -/
def spriteRoundsSpec : ChangeSpec := { name := "spriteRounds", fn := fun _ => fun
  | [d1, d2] => { results := [.lit (.bool true)], args := [d1, d2] }
  | _ => none }
def spriteRoundsRow : OpenClaim := { program := "ytmnpnomllcghmaa", sum := "c3e14b9ac0420b3882cd19a2dd3e1aa46e7dc7ff829d2046dc3b13b1192d43fd", func := "woodgrain/woodgrainlaw16.SpriteRounds", spec := "spriteRounds", unfollowed := true, recurses := true, apart := false }
def SpriteRoundsSaid : Prop := spriteRoundsRow.holds Try.pinned (OpenSpec.ofChange spriteRoundsSpec)

/-- ITS FALSE NEIGHBOUR: 'it returns false'. Refute it at one input. -/
def spriteRoundsWrong : ChangeSpec := { name := "spriteRounds", fn := fun _ => fun
  | [d1, d2] => { results := [.lit (.bool false)], args := [d1, d2] }
  | _ => none }
def SpriteRoundsWrongFalsely : Prop := spriteRoundsRow.holds Try.pinned (OpenSpec.ofChange spriteRoundsWrong)

/-- 'woodgrainlaw16.SpritePlays': WHATEVER THE INPUT: true; the input reads as it did. -/
def spritePlaysSpec : ChangeSpec := { name := "spritePlays", fn := fun _ => fun
  | [d1, d2] => { results := [.lit (.bool true)], args := [d1, d2] }
  | _ => none }
def spritePlaysRow : OpenClaim := { program := "ytmnpnomllcghmaa", sum := "c3e14b9ac0420b3882cd19a2dd3e1aa46e7dc7ff829d2046dc3b13b1192d43fd", func := "woodgrain/woodgrainlaw16.SpritePlays", spec := "spritePlays", unfollowed := true, recurses := true, apart := false }
def SpritePlaysSaid : Prop := spritePlaysRow.holds Try.pinned (OpenSpec.ofChange spritePlaysSpec)

/-- ITS FALSE NEIGHBOUR: 'it returns false'. Refute it at one input. -/
def spritePlaysWrong : ChangeSpec := { name := "spritePlays", fn := fun _ => fun
  | [d1, d2] => { results := [.lit (.bool false)], args := [d1, d2] }
  | _ => none }
def SpritePlaysWrongFalsely : Prop := spritePlaysRow.holds Try.pinned (OpenSpec.ofChange spritePlaysWrong)

/-- 'woodgrainlaw16.SpriteWords': WHATEVER THE INPUT: true; the input reads as it did. -/
def spriteWordsSpec : ChangeSpec := { name := "spriteWords", fn := fun _ => fun
  | [d1, d2] => { results := [.lit (.bool true)], args := [d1, d2] }
  | _ => none }
def spriteWordsRow : OpenClaim := { program := "ytmnpnomllcghmaa", sum := "c3e14b9ac0420b3882cd19a2dd3e1aa46e7dc7ff829d2046dc3b13b1192d43fd", func := "woodgrain/woodgrainlaw16.SpriteWords", spec := "spriteWords", unfollowed := true, recurses := true, apart := false }
def SpriteWordsSaid : Prop := spriteWordsRow.holds Try.pinned (OpenSpec.ofChange spriteWordsSpec)

/-- ITS FALSE NEIGHBOUR: 'it returns false'. Refute it at one input. -/
def spriteWordsWrong : ChangeSpec := { name := "spriteWords", fn := fun _ => fun
  | [d1, d2] => { results := [.lit (.bool false)], args := [d1, d2] }
  | _ => none }
def SpriteWordsWrongFalsely : Prop := spriteWordsRow.holds Try.pinned (OpenSpec.ofChange spriteWordsWrong)

/-- 'woodgrainlaw16.SpriteNil': WHATEVER THE INPUT: true; the input reads as it did. -/
def spriteNilSpec : ChangeSpec := { name := "spriteNil", fn := fun _ => fun
  | [d] => { results := [.lit (.bool true)], args := [d] }
  | _ => none }
def spriteNilRow : OpenClaim := { program := "ytmnpnomllcghmaa", sum := "c3e14b9ac0420b3882cd19a2dd3e1aa46e7dc7ff829d2046dc3b13b1192d43fd", func := "woodgrain/woodgrainlaw16.SpriteNil", spec := "spriteNil", unfollowed := true, recurses := true, apart := false }
def SpriteNilSaid : Prop := spriteNilRow.holds Try.pinned (OpenSpec.ofChange spriteNilSpec)

/-- ITS FALSE NEIGHBOUR: 'it returns false'. Refute it at one input. -/
def spriteNilWrong : ChangeSpec := { name := "spriteNil", fn := fun _ => fun
  | [d] => { results := [.lit (.bool false)], args := [d] }
  | _ => none }
def SpriteNilWrongFalsely : Prop := spriteNilRow.holds Try.pinned (OpenSpec.ofChange spriteNilWrong)

/- THE SECOND FORM. 'bulk': how many values and letters a reading holds, each counted each time it is reached (what is shared counts as often as it is met; a slice's spare places count too). A statement '..UptoSaid' is the law's where the arguments, and the package variables that the reading takes, are together of bulk at most 1048576: NARROWER than '..Said'. Prove '..Said' where nothing that the law and all that it calls make is longer than what came in: it says more and counts as full. Else prove '..UptoSaid'. A law counts once. -/
mutual
def uptoBulk {H : Type} : DataW H → Nat
  | .lit (.string bytes) => bytes.length + 1
  | .lit _ => 1
  | .nil => 1
  | .ptr d => uptoBulk d + 1
  | .slice elems spare => uptoBulkAll elems + uptoBulkAll spare + 1
  | .agg parts => uptoBulkAll parts + 1
  | .iface _ d => uptoBulk d + 1
  | .map entries => uptoBulkEntries entries + 1
  | .held _ => 1
def uptoBulkAll {H : Type} : List (DataW H) → Nat
  | [] => 0
  | d :: r => uptoBulk d + uptoBulkAll r
def uptoBulkEntries {H : Type} : List (Lit × DataW H) → Nat
  | [] => 0
  | x :: r => uptoBulkEntry x + uptoBulkEntries r
def uptoBulkEntry {H : Type} : Lit × DataW H → Nat
  | (.string bytes, d) => bytes.length + uptoBulk d + 1
  | (_, d) => uptoBulk d + 1
 end
def uptoSmall : (H : Type) → List (DataW H) → Bool := fun _ ds => decide (uptoBulkAll ds ≤ 1048576)
def OpenSpec.upto (s : _root_.Go.ChangeSpec) : _root_.Go.OpenSpec := { _root_.Go.OpenSpec.ofChange s with cond := some uptoSmall }

/-- 'woodgrainlaw02.CountRounds', WHERE WHAT IT READS IS OF BULK AT MOST 1048576: true; the input reads as it did. -/
def countRoundsUptoRow : OpenClaim := { program := "ytmnpnomllcghmaa", sum := "c3e14b9ac0420b3882cd19a2dd3e1aa46e7dc7ff829d2046dc3b13b1192d43fd", func := "woodgrain/woodgrainlaw02.CountRounds", spec := "countRounds", unfollowed := true, recurses := true, apart := false, narrowed := true }
def CountRoundsUptoSaid : Prop := countRoundsUptoRow.holds Try.pinned (OpenSpec.upto countRoundsSpec)

/-- 'woodgrainlaw02.CountCounts', WHERE WHAT IT READS IS OF BULK AT MOST 1048576: true; the input reads as it did. -/
def countCountsUptoRow : OpenClaim := { program := "ytmnpnomllcghmaa", sum := "c3e14b9ac0420b3882cd19a2dd3e1aa46e7dc7ff829d2046dc3b13b1192d43fd", func := "woodgrain/woodgrainlaw02.CountCounts", spec := "countCounts", unfollowed := true, recurses := true, apart := false, narrowed := true }
def CountCountsUptoSaid : Prop := countCountsUptoRow.holds Try.pinned (OpenSpec.upto countCountsSpec)

/-- 'woodgrainlaw02.CountMarks', WHERE WHAT IT READS IS OF BULK AT MOST 1048576: true; the input reads as it did. -/
def countMarksUptoRow : OpenClaim := { program := "ytmnpnomllcghmaa", sum := "c3e14b9ac0420b3882cd19a2dd3e1aa46e7dc7ff829d2046dc3b13b1192d43fd", func := "woodgrain/woodgrainlaw02.CountMarks", spec := "countMarks", unfollowed := true, recurses := true, apart := false, narrowed := true }
def CountMarksUptoSaid : Prop := countMarksUptoRow.holds Try.pinned (OpenSpec.upto countMarksSpec)

/-- 'woodgrainlaw02.CountDivides', WHERE WHAT IT READS IS OF BULK AT MOST 1048576: true; the input reads as it did. -/
def countDividesUptoRow : OpenClaim := { program := "ytmnpnomllcghmaa", sum := "c3e14b9ac0420b3882cd19a2dd3e1aa46e7dc7ff829d2046dc3b13b1192d43fd", func := "woodgrain/woodgrainlaw02.CountDivides", spec := "countDivides", unfollowed := true, recurses := true, apart := false, narrowed := true }
def CountDividesUptoSaid : Prop := countDividesUptoRow.holds Try.pinned (OpenSpec.upto countDividesSpec)

/-- 'woodgrainlaw02.CountPlaces', WHERE WHAT IT READS IS OF BULK AT MOST 1048576: true; the input reads as it did. -/
def countPlacesUptoRow : OpenClaim := { program := "ytmnpnomllcghmaa", sum := "c3e14b9ac0420b3882cd19a2dd3e1aa46e7dc7ff829d2046dc3b13b1192d43fd", func := "woodgrain/woodgrainlaw02.CountPlaces", spec := "countPlaces", unfollowed := true, recurses := true, apart := false, narrowed := true }
def CountPlacesUptoSaid : Prop := countPlacesUptoRow.holds Try.pinned (OpenSpec.upto countPlacesSpec)

/-- 'woodgrainlaw02.CountNil', WHERE WHAT IT READS IS OF BULK AT MOST 1048576: true; the input reads as it did. -/
def countNilUptoRow : OpenClaim := { program := "ytmnpnomllcghmaa", sum := "c3e14b9ac0420b3882cd19a2dd3e1aa46e7dc7ff829d2046dc3b13b1192d43fd", func := "woodgrain/woodgrainlaw02.CountNil", spec := "countNil", unfollowed := true, recurses := true, apart := false, narrowed := true }
def CountNilUptoSaid : Prop := countNilUptoRow.holds Try.pinned (OpenSpec.upto countNilSpec)

/-- 'woodgrainlaw15.BeamLines', WHERE WHAT IT READS IS OF BULK AT MOST 1048576: true; the input reads as it did. -/
def beamLinesUptoRow : OpenClaim := { program := "ytmnpnomllcghmaa", sum := "c3e14b9ac0420b3882cd19a2dd3e1aa46e7dc7ff829d2046dc3b13b1192d43fd", func := "woodgrain/woodgrainlaw15.BeamLines", spec := "beamLines", unfollowed := true, recurses := true, apart := false, narrowed := true }
def BeamLinesUptoSaid : Prop := beamLinesUptoRow.holds Try.pinned (OpenSpec.upto beamLinesSpec)

/-- 'woodgrainlaw15.BeamPlays', WHERE WHAT IT READS IS OF BULK AT MOST 1048576: true; the input reads as it did. -/
def beamPlaysUptoRow : OpenClaim := { program := "ytmnpnomllcghmaa", sum := "c3e14b9ac0420b3882cd19a2dd3e1aa46e7dc7ff829d2046dc3b13b1192d43fd", func := "woodgrain/woodgrainlaw15.BeamPlays", spec := "beamPlays", unfollowed := true, recurses := true, apart := false, narrowed := true }
def BeamPlaysUptoSaid : Prop := beamPlaysUptoRow.holds Try.pinned (OpenSpec.upto beamPlaysSpec)

/-- 'woodgrainlaw16.SpriteStarts', WHERE WHAT IT READS IS OF BULK AT MOST 1048576: true; the input reads as it did. -/
def spriteStartsUptoRow : OpenClaim := { program := "ytmnpnomllcghmaa", sum := "c3e14b9ac0420b3882cd19a2dd3e1aa46e7dc7ff829d2046dc3b13b1192d43fd", func := "woodgrain/woodgrainlaw16.SpriteStarts", spec := "spriteStarts", unfollowed := true, recurses := true, apart := false, narrowed := true }
def SpriteStartsUptoSaid : Prop := spriteStartsUptoRow.holds Try.pinned (OpenSpec.upto spriteStartsSpec)

/-- 'woodgrainlaw16.SpriteRounds', WHERE WHAT IT READS IS OF BULK AT MOST 1048576: true; the input reads as it did. -/
def spriteRoundsUptoRow : OpenClaim := { program := "ytmnpnomllcghmaa", sum := "c3e14b9ac0420b3882cd19a2dd3e1aa46e7dc7ff829d2046dc3b13b1192d43fd", func := "woodgrain/woodgrainlaw16.SpriteRounds", spec := "spriteRounds", unfollowed := true, recurses := true, apart := false, narrowed := true }
def SpriteRoundsUptoSaid : Prop := spriteRoundsUptoRow.holds Try.pinned (OpenSpec.upto spriteRoundsSpec)

/-- 'woodgrainlaw16.SpritePlays', WHERE WHAT IT READS IS OF BULK AT MOST 1048576: true; the input reads as it did. -/
def spritePlaysUptoRow : OpenClaim := { program := "ytmnpnomllcghmaa", sum := "c3e14b9ac0420b3882cd19a2dd3e1aa46e7dc7ff829d2046dc3b13b1192d43fd", func := "woodgrain/woodgrainlaw16.SpritePlays", spec := "spritePlays", unfollowed := true, recurses := true, apart := false, narrowed := true }
def SpritePlaysUptoSaid : Prop := spritePlaysUptoRow.holds Try.pinned (OpenSpec.upto spritePlaysSpec)

/-- 'woodgrainlaw16.SpriteWords', WHERE WHAT IT READS IS OF BULK AT MOST 1048576: true; the input reads as it did. -/
def spriteWordsUptoRow : OpenClaim := { program := "ytmnpnomllcghmaa", sum := "c3e14b9ac0420b3882cd19a2dd3e1aa46e7dc7ff829d2046dc3b13b1192d43fd", func := "woodgrain/woodgrainlaw16.SpriteWords", spec := "spriteWords", unfollowed := true, recurses := true, apart := false, narrowed := true }
def SpriteWordsUptoSaid : Prop := spriteWordsUptoRow.holds Try.pinned (OpenSpec.upto spriteWordsSpec)

/-- 'woodgrainlaw16.SpriteNil', WHERE WHAT IT READS IS OF BULK AT MOST 1048576: true; the input reads as it did. -/
def spriteNilUptoRow : OpenClaim := { program := "ytmnpnomllcghmaa", sum := "c3e14b9ac0420b3882cd19a2dd3e1aa46e7dc7ff829d2046dc3b13b1192d43fd", func := "woodgrain/woodgrainlaw16.SpriteNil", spec := "spriteNil", unfollowed := true, recurses := true, apart := false, narrowed := true }
def SpriteNilUptoSaid : Prop := spriteNilUptoRow.holds Try.pinned (OpenSpec.upto spriteNilSpec)

end Rows
end Go.Proofs.Ytmnpnomllcghmaa
