/-
  DERIVED. GIVEN WITH THE SEED: THE CARDS: each row of YtlgfojaalmelhaaDoorRows.lean that lists a variable, with what it lists TIED to the program's text (the seventh form; the later family's looks); each row that meets fmt, with fmt's text TOLD by the authors' own Lean function (tested against real Go, not proved from fmt's source: count such statements apart). THE CARD IS WHAT COUNTS. Prove the row's statement (the work); the ties are given (YtlgfojaalmelhaaDoorTie.lean); close each card by the builder's one call (the guide's Derived/Test/ToyasCard.lean, 'card_holds'). Laid BY PROGRAM, IN A SANDBOX (cutbox-door.mjs). By AI agents, Wed Nov 11 2026. No macro, syntax, notation, axiom, sorry.
-/
import Derived.Test.YtlgfojaalmelhaaDoorRows
import GoSem.ClaimSeven
namespace Go.Proofs.YtlgfojaalmelhaaDoor
namespace Rows

/-- THE TIED CARD OF 'woodgrainlaw13.TextShows'. -/
def textShowsCard : Claim7 := { stood := { row := textShowsRow, standIns := [], harness := (true, "fa08d34d8e58ace057e1872153a9d4f7debccb6dd8d1f2c8635f1a279effda44"), looks := false }, kinds := [], alts := [], laidByText := true, laidKinds := [.listed, .data], laidTests := true, laidLooks := .later }
def TextShowsCardSaid : Prop := Claim7.holds Tryd.pinned (.plain (OpenSpec.ofChange textShowsSpec)) textShowsCard

/-- THE TIED CARD OF 'woodgrainlaw13.TextDigits'. -/
def textDigitsCard : Claim7 := { stood := { row := textDigitsRow, standIns := [], harness := (true, "fa08d34d8e58ace057e1872153a9d4f7debccb6dd8d1f2c8635f1a279effda44"), looks := false }, kinds := [], alts := [], laidByText := true, laidKinds := [.listed, .data], laidTests := true, laidLooks := .later }
def TextDigitsCardSaid : Prop := Claim7.holds Tryd.pinned (.plain (OpenSpec.ofChange textDigitsSpec)) textDigitsCard

/-- THE TIED CARD OF 'woodgrainlaw13.TextLists'. -/
def textListsCard : Claim7 := { stood := { row := textListsRow, standIns := [], harness := (true, "fa08d34d8e58ace057e1872153a9d4f7debccb6dd8d1f2c8635f1a279effda44"), looks := false }, kinds := [], alts := [], laidByText := true, laidKinds := [.listed, .data], laidTests := true, laidLooks := .later }
def TextListsCardSaid : Prop := Claim7.holds Tryd.pinned (.plain (OpenSpec.ofChange textListsSpec)) textListsCard

/-- THE TIED CARD OF 'woodgrainlaw13.TextCounts'. -/
def textCountsCard : Claim7 := { stood := { row := textCountsRow, standIns := [], harness := (true, "fa08d34d8e58ace057e1872153a9d4f7debccb6dd8d1f2c8635f1a279effda44"), looks := false }, kinds := [], alts := [], laidByText := true, laidKinds := [.listed, .data], laidTests := true, laidLooks := .later }
def TextCountsCardSaid : Prop := Claim7.holds Tryd.pinned (.plain (OpenSpec.ofChange textCountsSpec)) textCountsCard

/-- THE TIED CARD OF 'woodgrainlaw13.TextNames'. -/
def textNamesCard : Claim7 := { stood := { row := textNamesRow, standIns := [], harness := (true, "fa08d34d8e58ace057e1872153a9d4f7debccb6dd8d1f2c8635f1a279effda44"), looks := false }, kinds := [], alts := [], laidByText := true, laidKinds := [.listed, .data], laidTests := true, laidLooks := .later }
def TextNamesCardSaid : Prop := Claim7.holds Tryd.pinned (.plain (OpenSpec.ofChange textNamesSpec)) textNamesCard

/-- THE TIED CARD OF 'woodgrainlaw13.TextFlows'. -/
def textFlowsCard : Claim7 := { stood := { row := textFlowsRow, standIns := [], harness := (true, "fa08d34d8e58ace057e1872153a9d4f7debccb6dd8d1f2c8635f1a279effda44"), looks := false }, kinds := [], alts := [], laidByText := true, laidKinds := [.listed, .data], laidTests := true, laidLooks := .later }
def TextFlowsCardSaid : Prop := Claim7.holds Tryd.pinned (.plain (OpenSpec.ofChange textFlowsSpec)) textFlowsCard

/-- THE TIED CARD OF 'woodgrainlaw13.TextMore'. -/
def textMoreCard : Claim7 := { stood := { row := textMoreRow, standIns := [], harness := (true, "fa08d34d8e58ace057e1872153a9d4f7debccb6dd8d1f2c8635f1a279effda44"), looks := false }, kinds := [], alts := [], laidByText := true, laidKinds := [.listed, .data], laidTests := true, laidLooks := .later }
def TextMoreCardSaid : Prop := Claim7.holds Tryd.pinned (.plain (OpenSpec.ofChange textMoreSpec)) textMoreCard

/-- THE SECOND FORM's CARD OF 'woodgrainlaw13.TextShows'. -/
def textShowsUptoCard : Claim7 := { stood := { row := textShowsUptoRow, standIns := [], harness := (true, "fa08d34d8e58ace057e1872153a9d4f7debccb6dd8d1f2c8635f1a279effda44"), looks := false }, kinds := [], alts := [], laidByText := true, laidKinds := [.listed, .data], laidTests := true, laidLooks := .later }
def TextShowsUptoCardSaid : Prop := Claim7.holds Tryd.pinned (.plain (OpenSpec.upto textShowsSpec)) textShowsUptoCard

/-- THE SECOND FORM's CARD OF 'woodgrainlaw13.TextDigits'. -/
def textDigitsUptoCard : Claim7 := { stood := { row := textDigitsUptoRow, standIns := [], harness := (true, "fa08d34d8e58ace057e1872153a9d4f7debccb6dd8d1f2c8635f1a279effda44"), looks := false }, kinds := [], alts := [], laidByText := true, laidKinds := [.listed, .data], laidTests := true, laidLooks := .later }
def TextDigitsUptoCardSaid : Prop := Claim7.holds Tryd.pinned (.plain (OpenSpec.upto textDigitsSpec)) textDigitsUptoCard

/-- THE SECOND FORM's CARD OF 'woodgrainlaw13.TextLists'. -/
def textListsUptoCard : Claim7 := { stood := { row := textListsUptoRow, standIns := [], harness := (true, "fa08d34d8e58ace057e1872153a9d4f7debccb6dd8d1f2c8635f1a279effda44"), looks := false }, kinds := [], alts := [], laidByText := true, laidKinds := [.listed, .data], laidTests := true, laidLooks := .later }
def TextListsUptoCardSaid : Prop := Claim7.holds Tryd.pinned (.plain (OpenSpec.upto textListsSpec)) textListsUptoCard

/-- THE SECOND FORM's CARD OF 'woodgrainlaw13.TextCounts'. -/
def textCountsUptoCard : Claim7 := { stood := { row := textCountsUptoRow, standIns := [], harness := (true, "fa08d34d8e58ace057e1872153a9d4f7debccb6dd8d1f2c8635f1a279effda44"), looks := false }, kinds := [], alts := [], laidByText := true, laidKinds := [.listed, .data], laidTests := true, laidLooks := .later }
def TextCountsUptoCardSaid : Prop := Claim7.holds Tryd.pinned (.plain (OpenSpec.upto textCountsSpec)) textCountsUptoCard

/-- THE SECOND FORM's CARD OF 'woodgrainlaw13.TextNames'. -/
def textNamesUptoCard : Claim7 := { stood := { row := textNamesUptoRow, standIns := [], harness := (true, "fa08d34d8e58ace057e1872153a9d4f7debccb6dd8d1f2c8635f1a279effda44"), looks := false }, kinds := [], alts := [], laidByText := true, laidKinds := [.listed, .data], laidTests := true, laidLooks := .later }
def TextNamesUptoCardSaid : Prop := Claim7.holds Tryd.pinned (.plain (OpenSpec.upto textNamesSpec)) textNamesUptoCard

/-- THE SECOND FORM's CARD OF 'woodgrainlaw13.TextFlows'. -/
def textFlowsUptoCard : Claim7 := { stood := { row := textFlowsUptoRow, standIns := [], harness := (true, "fa08d34d8e58ace057e1872153a9d4f7debccb6dd8d1f2c8635f1a279effda44"), looks := false }, kinds := [], alts := [], laidByText := true, laidKinds := [.listed, .data], laidTests := true, laidLooks := .later }
def TextFlowsUptoCardSaid : Prop := Claim7.holds Tryd.pinned (.plain (OpenSpec.upto textFlowsSpec)) textFlowsUptoCard

/-- THE SECOND FORM's CARD OF 'woodgrainlaw13.TextMore'. -/
def textMoreUptoCard : Claim7 := { stood := { row := textMoreUptoRow, standIns := [], harness := (true, "fa08d34d8e58ace057e1872153a9d4f7debccb6dd8d1f2c8635f1a279effda44"), looks := false }, kinds := [], alts := [], laidByText := true, laidKinds := [.listed, .data], laidTests := true, laidLooks := .later }
def TextMoreUptoCardSaid : Prop := Claim7.holds Tryd.pinned (.plain (OpenSpec.upto textMoreSpec)) textMoreUptoCard
end Rows
end Go.Proofs.YtlgfojaalmelhaaDoor
