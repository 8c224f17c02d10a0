/-
  No cell of these rows narrows 'for every input' (looked for: loops, veiled, ifaces, maps, wideKeys, modest, calm, conditions, laid).
  DERIVED. THE GIVEN ROWS OF THIS SEAT. 4 by the template 'for every input the law returns true; each argument reads behind the call as it read before'; 0 by the template 'total and deterministic' (their statements: YtogngajglbgjmaaTotals.lean).
  GIVEN WITH THE SEED: the statements are not yours to turn. If you find one false, say at which input.
  Laid BY PROGRAM, IN A SANDBOX (cutbox-rows.mjs): the forced cells as the released guide's own fill.sh prints them over the translation 4d57ca633b8421ce… (all of the seat's roots in one cut). By AI agents, Wed Nov 11 2026. No macro, syntax, notation, axiom, sorry.
-/
import Derived.Test.YtogngajglbgjmaaChecked
import GoSem.Claim
import GoSem.ClaimJoined
import GoSem.ClaimMapViews
import Derived.JoinedTies
import Derived.KernelRfl
namespace Go.Proofs.Ytogngajglbgjmaa
/- THE CELL 'sum', in the pinned program and in every row, IS THE sha256 OF THE DUMP (.gsa) THAT YtogngajglbgjmaaProg.lean LOADS. Nothing in Lean hashes anything: it is a label: what it is worth is what the hold of that sum in a sandbox is worth. -/
noncomputable def Try.pinned : Pinned := { name := "ytogngajglbgjmaa", sum := "4d57ca633b8421ce797ce79220f2a17c598df9364995bff48bb8f82a084389e2", checked := Try.checked }
namespace Rows
def none {H : Type} : Left H := { results := [], args := [] }

/-- 'woodgrainlaw25.FreezePacks': WHATEVER THE INPUT: true; the input reads as it did. -/
def freezePacksSpec : ChangeSpec := { name := "freezePacks", fn := fun _ => fun
  | [d] => { results := [.lit (.bool true)], args := [d] }
  | _ => none }
def freezePacksRow : OpenClaim := { program := "ytogngajglbgjmaa", sum := "4d57ca633b8421ce797ce79220f2a17c598df9364995bff48bb8f82a084389e2", func := "woodgrain/woodgrainlaw25.FreezePacks", spec := "freezePacks", apart := false }
def FreezePacksSaid : Prop := freezePacksRow.holds Try.pinned (OpenSpec.ofChange freezePacksSpec)

/-- ITS FALSE NEIGHBOUR: 'it returns false'. Refute it at one input. -/
def freezePacksWrong : ChangeSpec := { name := "freezePacks", fn := fun _ => fun
  | [d] => { results := [.lit (.bool false)], args := [d] }
  | _ => none }
def FreezePacksWrongFalsely : Prop := freezePacksRow.holds Try.pinned (OpenSpec.ofChange freezePacksWrong)

/-- 'woodgrainlaw25.FreezeReads': WHATEVER THE INPUT: true; the input reads as it did. -/
def freezeReadsSpec : ChangeSpec := { name := "freezeReads", fn := fun _ => fun
  | [d] => { results := [.lit (.bool true)], args := [d] }
  | _ => none }
def freezeReadsRow : OpenClaim := { program := "ytogngajglbgjmaa", sum := "4d57ca633b8421ce797ce79220f2a17c598df9364995bff48bb8f82a084389e2", func := "woodgrain/woodgrainlaw25.FreezeReads", spec := "freezeReads", unfollowed := true, recurses := true, apart := false }
def FreezeReadsSaid : Prop := freezeReadsRow.holds Try.pinned (OpenSpec.ofChange freezeReadsSpec)

/-- ITS FALSE NEIGHBOUR: 'it returns false'. Refute it at one input. -/
def freezeReadsWrong : ChangeSpec := { name := "freezeReads", fn := fun _ => fun
  | [d] => { results := [.lit (.bool false)], args := [d] }
  | _ => none }
def FreezeReadsWrongFalsely : Prop := freezeReadsRow.holds Try.pinned (OpenSpec.ofChange freezeReadsWrong)

/-- 'woodgrainlaw25.FreezeBack': WHATEVER THE INPUT: true; the input reads as it did. -/
def freezeBackSpec : ChangeSpec := { name := "freezeBack", fn := fun _ => fun
  | [d1, d2] => { results := [.lit (.bool true)], args := [d1, d2] }
  | _ => none }
def freezeBackRow : OpenClaim := { program := "ytogngajglbgjmaa", sum := "4d57ca633b8421ce797ce79220f2a17c598df9364995bff48bb8f82a084389e2", func := "woodgrain/woodgrainlaw25.FreezeBack", spec := "freezeBack", unfollowed := true, recurses := true, apart := false }
def FreezeBackSaid : Prop := freezeBackRow.holds Try.pinned (OpenSpec.ofChange freezeBackSpec)

/-- ITS FALSE NEIGHBOUR: 'it returns false'. Refute it at one input. -/
def freezeBackWrong : ChangeSpec := { name := "freezeBack", fn := fun _ => fun
  | [d1, d2] => { results := [.lit (.bool false)], args := [d1, d2] }
  | _ => none }
def FreezeBackWrongFalsely : Prop := freezeBackRow.holds Try.pinned (OpenSpec.ofChange freezeBackWrong)

/-- 'woodgrainlaw25.FreezeFinds': WHATEVER THE INPUT: true; the input reads as it did. -/
def freezeFindsSpec : ChangeSpec := { name := "freezeFinds", fn := fun _ => fun
  | [d1, d2, d3] => { results := [.lit (.bool true)], args := [d1, d2, d3] }
  | _ => none }
def freezeFindsRow : OpenClaim := { program := "ytogngajglbgjmaa", sum := "4d57ca633b8421ce797ce79220f2a17c598df9364995bff48bb8f82a084389e2", func := "woodgrain/woodgrainlaw25.FreezeFinds", spec := "freezeFinds", unfollowed := true, recurses := true, apart := false }
def FreezeFindsSaid : Prop := freezeFindsRow.holds Try.pinned (OpenSpec.ofChange freezeFindsSpec)

/-- ITS FALSE NEIGHBOUR: 'it returns false'. Refute it at one input. -/
def freezeFindsWrong : ChangeSpec := { name := "freezeFinds", fn := fun _ => fun
  | [d1, d2, d3] => { results := [.lit (.bool false)], args := [d1, d2, d3] }
  | _ => none }
def FreezeFindsWrongFalsely : Prop := freezeFindsRow.holds Try.pinned (OpenSpec.ofChange freezeFindsWrong)

/- THE SECOND FORM. 'bulk': how many values and letters a reading holds, each counted each time it is reached (what is shared counts as often as it is met; a slice's spare places count too). A statement '..UptoSaid' is the law's where the arguments, and the package variables that the reading takes, are together of bulk at most 1048576: NARROWER than '..Said'. Prove '..Said' where nothing that the law and all that it calls make is longer than what came in: it says more and counts as full. Else prove '..UptoSaid'. A law counts once. -/
mutual
def uptoBulk {H : Type} : DataW H → Nat
  | .lit (.string bytes) => bytes.length + 1
  | .lit _ => 1
  | .nil => 1
  | .ptr d => uptoBulk d + 1
  | .slice elems spare => uptoBulkAll elems + uptoBulkAll spare + 1
  | .agg parts => uptoBulkAll parts + 1
  | .iface _ d => uptoBulk d + 1
  | .map entries => uptoBulkEntries entries + 1
  | .held _ => 1
def uptoBulkAll {H : Type} : List (DataW H) → Nat
  | [] => 0
  | d :: r => uptoBulk d + uptoBulkAll r
def uptoBulkEntries {H : Type} : List (Lit × DataW H) → Nat
  | [] => 0
  | x :: r => uptoBulkEntry x + uptoBulkEntries r
def uptoBulkEntry {H : Type} : Lit × DataW H → Nat
  | (.string bytes, d) => bytes.length + uptoBulk d + 1
  | (_, d) => uptoBulk d + 1
 end
def uptoSmall : (H : Type) → List (DataW H) → Bool := fun _ ds => decide (uptoBulkAll ds ≤ 1048576)
def OpenSpec.upto (s : _root_.Go.ChangeSpec) : _root_.Go.OpenSpec := { _root_.Go.OpenSpec.ofChange s with cond := some uptoSmall }

/-- 'woodgrainlaw25.FreezePacks', WHERE WHAT IT READS IS OF BULK AT MOST 1048576: true; the input reads as it did. -/
def freezePacksUptoRow : OpenClaim := { program := "ytogngajglbgjmaa", sum := "4d57ca633b8421ce797ce79220f2a17c598df9364995bff48bb8f82a084389e2", func := "woodgrain/woodgrainlaw25.FreezePacks", spec := "freezePacks", apart := false, narrowed := true }
def FreezePacksUptoSaid : Prop := freezePacksUptoRow.holds Try.pinned (OpenSpec.upto freezePacksSpec)

/-- 'woodgrainlaw25.FreezeReads', WHERE WHAT IT READS IS OF BULK AT MOST 1048576: true; the input reads as it did. -/
def freezeReadsUptoRow : OpenClaim := { program := "ytogngajglbgjmaa", sum := "4d57ca633b8421ce797ce79220f2a17c598df9364995bff48bb8f82a084389e2", func := "woodgrain/woodgrainlaw25.FreezeReads", spec := "freezeReads", unfollowed := true, recurses := true, apart := false, narrowed := true }
def FreezeReadsUptoSaid : Prop := freezeReadsUptoRow.holds Try.pinned (OpenSpec.upto freezeReadsSpec)

/-- 'woodgrainlaw25.FreezeBack', WHERE WHAT IT READS IS OF BULK AT MOST 1048576: true; the input reads as it did. -/
def freezeBackUptoRow : OpenClaim := { program := "ytogngajglbgjmaa", sum := "4d57ca633b8421ce797ce79220f2a17c598df9364995bff48bb8f82a084389e2", func := "woodgrain/woodgrainlaw25.FreezeBack", spec := "freezeBack", unfollowed := true, recurses := true, apart := false, narrowed := true }
def FreezeBackUptoSaid : Prop := freezeBackUptoRow.holds Try.pinned (OpenSpec.upto freezeBackSpec)

/-- 'woodgrainlaw25.FreezeFinds', WHERE WHAT IT READS IS OF BULK AT MOST 1048576: true; the input reads as it did. -/
def freezeFindsUptoRow : OpenClaim := { program := "ytogngajglbgjmaa", sum := "4d57ca633b8421ce797ce79220f2a17c598df9364995bff48bb8f82a084389e2", func := "woodgrain/woodgrainlaw25.FreezeFinds", spec := "freezeFinds", unfollowed := true, recurses := true, apart := false, narrowed := true }
def FreezeFindsUptoSaid : Prop := freezeFindsUptoRow.holds Try.pinned (OpenSpec.upto freezeFindsSpec)

end Rows
end Go.Proofs.Ytogngajglbgjmaa
