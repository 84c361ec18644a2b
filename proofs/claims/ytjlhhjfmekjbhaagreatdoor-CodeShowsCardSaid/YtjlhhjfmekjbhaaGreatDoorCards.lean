/-
  DERIVED. GIVEN WITH THE SEED: THE CARDS: each row of YtjlhhjfmekjbhaaGreatDoorRows.lean that lists a variable, with what it lists TIED to the program's text (the seventh form; the later family's looks); each row that meets fmt, with fmt's text TOLD by the authors' own Lean function (tested against real Go, not proved from fmt's source: count such statements apart). THE CARD IS WHAT COUNTS. Prove the row's statement (the work); the ties are given (YtjlhhjfmekjbhaaGreatDoorTie.lean); close each card by the builder's one call (the guide's Derived/Test/ToyasCard.lean, 'card_holds'). Laid BY PROGRAM, IN A SANDBOX (cutbox-door.mjs). By AI agents, Wed Nov 11 2026. No macro, syntax, notation, axiom, sorry.
-/
import Derived.Test.YtjlhhjfmekjbhaaGreatDoorRows
import GoSem.ClaimSeven
namespace Go.Proofs.YtjlhhjfmekjbhaaGreatDoor
namespace Rows

/-- THE TIED CARD OF 'gumshoelaw09.CodeRight'. -/
def codeRightCard : Claim7 := { stood := { row := codeRightRow, standIns := [], harness := (true, "85c2d0c8c5b4204c20e433950d907f7fb04aa29ec539f0ae38069e55df88bd6d"), looks := true }, kinds := [], alts := [], laidByText := true, laidKinds := [.data, .data, .data, .sentinel, .sentinel], laidTests := true, laidLooks := .later }
def CodeRightCardSaid : Prop := Claim7.holds Tryz.pinned (.plain (OpenSpec.ofChange codeRightSpec)) codeRightCard

/-- THE TIED CARD OF 'gumshoelaw09.CodeMore'. -/
def codeMoreCard : Claim7 := { stood := { row := codeMoreRow, standIns := [], harness := (true, "85c2d0c8c5b4204c20e433950d907f7fb04aa29ec539f0ae38069e55df88bd6d"), looks := true }, kinds := [], alts := [], laidByText := true, laidKinds := [.data, .data, .data, .sentinel, .sentinel], laidTests := true, laidLooks := .later }
def CodeMoreCardSaid : Prop := Claim7.holds Tryz.pinned (.plain (OpenSpec.ofChange codeMoreSpec)) codeMoreCard

/-- THE TIED CARD OF 'gumshoelaw09.CodeLong'. -/
def codeLongCard : Claim7 := { stood := { row := codeLongRow, standIns := [], harness := (true, "85c2d0c8c5b4204c20e433950d907f7fb04aa29ec539f0ae38069e55df88bd6d"), looks := true }, kinds := [], alts := [], laidByText := true, laidKinds := [.data, .data, .data, .sentinel, .sentinel], laidTests := true, laidLooks := .later }
def CodeLongCardSaid : Prop := Claim7.holds Tryz.pinned (.plain (OpenSpec.ofChange codeLongSpec)) codeLongCard

/-- THE TIED CARD OF 'gumshoelaw09.CodeShows'. -/
def codeShowsCard : Claim7 := { stood := { row := codeShowsRow, standIns := [], harness := (true, "85c2d0c8c5b4204c20e433950d907f7fb04aa29ec539f0ae38069e55df88bd6d"), looks := true }, kinds := [], alts := [], laidByText := true, laidKinds := [.data, .data, .data, .sentinel, .sentinel], laidTests := true, laidLooks := .later }
def CodeShowsCardSaid : Prop := Claim7.holds Tryz.pinned (.plain (OpenSpec.ofChange codeShowsSpec)) codeShowsCard

/-- THE TIED CARD OF 'gumshoelaw09.CodeParts'. -/
def codePartsCard : Claim7 := { stood := { row := codePartsRow, standIns := [], harness := (true, "85c2d0c8c5b4204c20e433950d907f7fb04aa29ec539f0ae38069e55df88bd6d"), looks := true }, kinds := [], alts := [], laidByText := true, laidKinds := [.data, .data, .data, .sentinel, .sentinel], laidTests := true, laidLooks := .later }
def CodePartsCardSaid : Prop := Claim7.holds Tryz.pinned (.plain (OpenSpec.ofChange codePartsSpec)) codePartsCard

/-- THE TIED CARD OF 'gumshoelaw09.CodeSames'. -/
def codeSamesCard : Claim7 := { stood := { row := codeSamesRow, standIns := [], harness := (true, "85c2d0c8c5b4204c20e433950d907f7fb04aa29ec539f0ae38069e55df88bd6d"), looks := true }, kinds := [], alts := [], laidByText := true, laidKinds := [.data, .data, .data, .sentinel, .sentinel], laidTests := true, laidLooks := .later }
def CodeSamesCardSaid : Prop := Claim7.holds Tryz.pinned (.plain (OpenSpec.ofChange codeSamesSpec)) codeSamesCard

/-- THE TIED CARD OF 'gumshoelaw09.CodeApart'. -/
def codeApartCard : Claim7 := { stood := { row := codeApartRow, standIns := [], harness := (true, "85c2d0c8c5b4204c20e433950d907f7fb04aa29ec539f0ae38069e55df88bd6d"), looks := true }, kinds := [], alts := [], laidByText := true, laidKinds := [.data, .data, .data, .sentinel, .sentinel], laidTests := true, laidLooks := .later }
def CodeApartCardSaid : Prop := Claim7.holds Tryz.pinned (.plain (OpenSpec.ofChange codeApartSpec)) codeApartCard

/-- THE SECOND FORM's CARD OF 'gumshoelaw09.CodeRight'. -/
def codeRightUptoCard : Claim7 := { stood := { row := codeRightUptoRow, standIns := [], harness := (true, "85c2d0c8c5b4204c20e433950d907f7fb04aa29ec539f0ae38069e55df88bd6d"), looks := true }, kinds := [], alts := [], laidByText := true, laidKinds := [.data, .data, .data, .sentinel, .sentinel], laidTests := true, laidLooks := .later }
def CodeRightUptoCardSaid : Prop := Claim7.holds Tryz.pinned (.plain (OpenSpec.upto codeRightSpec)) codeRightUptoCard

/-- THE SECOND FORM's CARD OF 'gumshoelaw09.CodeMore'. -/
def codeMoreUptoCard : Claim7 := { stood := { row := codeMoreUptoRow, standIns := [], harness := (true, "85c2d0c8c5b4204c20e433950d907f7fb04aa29ec539f0ae38069e55df88bd6d"), looks := true }, kinds := [], alts := [], laidByText := true, laidKinds := [.data, .data, .data, .sentinel, .sentinel], laidTests := true, laidLooks := .later }
def CodeMoreUptoCardSaid : Prop := Claim7.holds Tryz.pinned (.plain (OpenSpec.upto codeMoreSpec)) codeMoreUptoCard

/-- THE SECOND FORM's CARD OF 'gumshoelaw09.CodeLong'. -/
def codeLongUptoCard : Claim7 := { stood := { row := codeLongUptoRow, standIns := [], harness := (true, "85c2d0c8c5b4204c20e433950d907f7fb04aa29ec539f0ae38069e55df88bd6d"), looks := true }, kinds := [], alts := [], laidByText := true, laidKinds := [.data, .data, .data, .sentinel, .sentinel], laidTests := true, laidLooks := .later }
def CodeLongUptoCardSaid : Prop := Claim7.holds Tryz.pinned (.plain (OpenSpec.upto codeLongSpec)) codeLongUptoCard

/-- THE SECOND FORM's CARD OF 'gumshoelaw09.CodeShows'. -/
def codeShowsUptoCard : Claim7 := { stood := { row := codeShowsUptoRow, standIns := [], harness := (true, "85c2d0c8c5b4204c20e433950d907f7fb04aa29ec539f0ae38069e55df88bd6d"), looks := true }, kinds := [], alts := [], laidByText := true, laidKinds := [.data, .data, .data, .sentinel, .sentinel], laidTests := true, laidLooks := .later }
def CodeShowsUptoCardSaid : Prop := Claim7.holds Tryz.pinned (.plain (OpenSpec.upto codeShowsSpec)) codeShowsUptoCard

/-- THE SECOND FORM's CARD OF 'gumshoelaw09.CodeParts'. -/
def codePartsUptoCard : Claim7 := { stood := { row := codePartsUptoRow, standIns := [], harness := (true, "85c2d0c8c5b4204c20e433950d907f7fb04aa29ec539f0ae38069e55df88bd6d"), looks := true }, kinds := [], alts := [], laidByText := true, laidKinds := [.data, .data, .data, .sentinel, .sentinel], laidTests := true, laidLooks := .later }
def CodePartsUptoCardSaid : Prop := Claim7.holds Tryz.pinned (.plain (OpenSpec.upto codePartsSpec)) codePartsUptoCard

/-- THE SECOND FORM's CARD OF 'gumshoelaw09.CodeSames'. -/
def codeSamesUptoCard : Claim7 := { stood := { row := codeSamesUptoRow, standIns := [], harness := (true, "85c2d0c8c5b4204c20e433950d907f7fb04aa29ec539f0ae38069e55df88bd6d"), looks := true }, kinds := [], alts := [], laidByText := true, laidKinds := [.data, .data, .data, .sentinel, .sentinel], laidTests := true, laidLooks := .later }
def CodeSamesUptoCardSaid : Prop := Claim7.holds Tryz.pinned (.plain (OpenSpec.upto codeSamesSpec)) codeSamesUptoCard

/-- THE SECOND FORM's CARD OF 'gumshoelaw09.CodeApart'. -/
def codeApartUptoCard : Claim7 := { stood := { row := codeApartUptoRow, standIns := [], harness := (true, "85c2d0c8c5b4204c20e433950d907f7fb04aa29ec539f0ae38069e55df88bd6d"), looks := true }, kinds := [], alts := [], laidByText := true, laidKinds := [.data, .data, .data, .sentinel, .sentinel], laidTests := true, laidLooks := .later }
def CodeApartUptoCardSaid : Prop := Claim7.holds Tryz.pinned (.plain (OpenSpec.upto codeApartSpec)) codeApartUptoCard
end Rows
end Go.Proofs.YtjlhhjfmekjbhaaGreatDoor
