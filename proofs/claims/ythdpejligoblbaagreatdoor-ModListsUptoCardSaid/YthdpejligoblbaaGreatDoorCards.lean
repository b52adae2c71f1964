/-
  DERIVED. GIVEN WITH THE SEED: THE CARDS: each row of YthdpejligoblbaaGreatDoorRows.lean that lists a variable, with what it lists TIED to the program's text (the seventh form; the later family's looks); each row that meets fmt, with fmt's text TOLD by the authors' own Lean function (tested against real Go, not proved from fmt's source: count such statements apart). THE CARD IS WHAT COUNTS. Prove the row's statement (the work); the ties are given (YthdpejligoblbaaGreatDoorTie.lean); close each card by the builder's one call (the guide's Derived/Test/ToyasCard.lean, 'card_holds'). Laid BY PROGRAM, IN A SANDBOX (cutbox-door.mjs). By AI agents, Wed Nov 11 2026. No macro, syntax, notation, axiom, sorry.
-/
import Derived.Test.YthdpejligoblbaaGreatDoorRows
import GoSem.ClaimSeven
namespace Go.Proofs.YthdpejligoblbaaGreatDoor
namespace Rows

/-- THE TIED CARD OF 'mewslaw3.ModOrder'. -/
def modOrderCard : Claim7 := { stood := { row := modOrderRow, standIns := [], harness := (true, "0b5397fcbe0ec0ddd0d8f3060097618ec127e8905168bdc9727e6847bb168f70"), looks := true }, kinds := [], alts := [], laidByText := true, laidKinds := [.data, .data, .data, .data, .sentinel, .sentinel, .pinned], laidTests := true, laidLooks := .later }
def ModOrderCardSaid : Prop := Claim7.holds Tryz.pinned (.plain (OpenSpec.ofChange modOrderSpec)) modOrderCard

/-- THE TIED CARD OF 'mewslaw3.ModEscapes'. -/
def modEscapesCard : Claim7 := { stood := { row := modEscapesRow, standIns := [], harness := (true, "0b5397fcbe0ec0ddd0d8f3060097618ec127e8905168bdc9727e6847bb168f70"), looks := true }, kinds := [], alts := [], laidByText := true, laidKinds := [.data, .data, .data, .data, .sentinel, .sentinel, .pinned], laidTests := true, laidLooks := .later }
def ModEscapesCardSaid : Prop := Claim7.holds Tryz.pinned (.plain (OpenSpec.ofChange modEscapesSpec)) modEscapesCard

/-- THE TIED CARD OF 'mewslaw3.ModBack'. -/
def modBackCard : Claim7 := { stood := { row := modBackRow, standIns := [], harness := (true, "0b5397fcbe0ec0ddd0d8f3060097618ec127e8905168bdc9727e6847bb168f70"), looks := true }, kinds := [], alts := [], laidByText := true, laidKinds := [.data, .data, .data, .data, .sentinel, .sentinel, .pinned], laidTests := true, laidLooks := .later }
def ModBackCardSaid : Prop := Claim7.holds Tryz.pinned (.plain (OpenSpec.ofChange modBackSpec)) modBackCard

/-- THE TIED CARD OF 'mewslaw3.ModMajors'. -/
def modMajorsCard : Claim7 := { stood := { row := modMajorsRow, standIns := [], harness := (true, "0b5397fcbe0ec0ddd0d8f3060097618ec127e8905168bdc9727e6847bb168f70"), looks := true }, kinds := [], alts := [], laidByText := true, laidKinds := [.data, .data, .data, .data, .sentinel, .sentinel, .pinned], laidTests := true, laidLooks := .later }
def ModMajorsCardSaid : Prop := Claim7.holds Tryz.pinned (.plain (OpenSpec.ofChange modMajorsSpec)) modMajorsCard

/-- THE TIED CARD OF 'mewslaw3.ModPaths'. -/
def modPathsCard : Claim7 := { stood := { row := modPathsRow, standIns := [], harness := (true, "0b5397fcbe0ec0ddd0d8f3060097618ec127e8905168bdc9727e6847bb168f70"), looks := true }, kinds := [], alts := [], laidByText := true, laidKinds := [.data, .data, .data, .data, .sentinel, .sentinel, .pinned], laidTests := true, laidLooks := .later }
def ModPathsCardSaid : Prop := Claim7.holds Tryz.pinned (.plain (OpenSpec.ofChange modPathsSpec)) modPathsCard

/-- THE TIED CARD OF 'mewslaw3.ModPseudo'. -/
def modPseudoCard : Claim7 := { stood := { row := modPseudoRow, standIns := [], harness := (true, "0b5397fcbe0ec0ddd0d8f3060097618ec127e8905168bdc9727e6847bb168f70"), looks := true }, kinds := [], alts := [], laidByText := true, laidKinds := [.data, .data, .data, .data, .sentinel, .sentinel, .pinned], laidTests := true, laidLooks := .later }
def ModPseudoCardSaid : Prop := Claim7.holds Tryz.pinned (.plain (OpenSpec.ofChange modPseudoSpec)) modPseudoCard

/-- THE TIED CARD OF 'mewslaw3.ModBetween'. -/
def modBetweenCard : Claim7 := { stood := { row := modBetweenRow, standIns := [], harness := (true, "0b5397fcbe0ec0ddd0d8f3060097618ec127e8905168bdc9727e6847bb168f70"), looks := true }, kinds := [], alts := [], laidByText := true, laidKinds := [.data, .data, .data, .data, .sentinel, .sentinel, .pinned], laidTests := true, laidLooks := .later }
def ModBetweenCardSaid : Prop := Claim7.holds Tryz.pinned (.plain (OpenSpec.ofChange modBetweenSpec)) modBetweenCard

/-- THE TIED CARD OF 'mewslaw3.ModSorted'. -/
def modSortedCard : Claim7 := { stood := { row := modSortedRow, standIns := [], harness := (true, "0b5397fcbe0ec0ddd0d8f3060097618ec127e8905168bdc9727e6847bb168f70"), looks := true }, kinds := [], alts := [], laidByText := true, laidKinds := [.data, .data, .data, .data, .sentinel, .sentinel, .pinned], laidTests := true, laidLooks := .later }
def ModSortedCardSaid : Prop := Claim7.holds Tryz.pinned (.plain (OpenSpec.ofChange modSortedSpec)) modSortedCard

/-- THE TIED CARD OF 'mewslaw3.ModLists'. -/
def modListsCard : Claim7 := { stood := { row := modListsRow, standIns := [], harness := (true, "0b5397fcbe0ec0ddd0d8f3060097618ec127e8905168bdc9727e6847bb168f70"), looks := true }, kinds := [], alts := [], laidByText := true, laidKinds := [.data, .data, .data, .data, .sentinel, .sentinel, .pinned], laidTests := true, laidLooks := .later }
def ModListsCardSaid : Prop := Claim7.holds Tryz.pinned (.plain (OpenSpec.ofChange modListsSpec)) modListsCard

/-- THE TIED CARD OF 'mewslaw3.ModVersions'. -/
def modVersionsCard : Claim7 := { stood := { row := modVersionsRow, standIns := [], harness := (true, "0b5397fcbe0ec0ddd0d8f3060097618ec127e8905168bdc9727e6847bb168f70"), looks := true }, kinds := [], alts := [], laidByText := true, laidKinds := [.data, .data, .data, .data, .sentinel, .sentinel, .pinned], laidTests := true, laidLooks := .later }
def ModVersionsCardSaid : Prop := Claim7.holds Tryz.pinned (.plain (OpenSpec.ofChange modVersionsSpec)) modVersionsCard

/-- THE SECOND FORM's CARD OF 'mewslaw3.ModOrder'. -/
def modOrderUptoCard : Claim7 := { stood := { row := modOrderUptoRow, standIns := [], harness := (true, "0b5397fcbe0ec0ddd0d8f3060097618ec127e8905168bdc9727e6847bb168f70"), looks := true }, kinds := [], alts := [], laidByText := true, laidKinds := [.data, .data, .data, .data, .sentinel, .sentinel, .pinned], laidTests := true, laidLooks := .later }
def ModOrderUptoCardSaid : Prop := Claim7.holds Tryz.pinned (.plain (OpenSpec.upto modOrderSpec)) modOrderUptoCard

/-- THE SECOND FORM's CARD OF 'mewslaw3.ModEscapes'. -/
def modEscapesUptoCard : Claim7 := { stood := { row := modEscapesUptoRow, standIns := [], harness := (true, "0b5397fcbe0ec0ddd0d8f3060097618ec127e8905168bdc9727e6847bb168f70"), looks := true }, kinds := [], alts := [], laidByText := true, laidKinds := [.data, .data, .data, .data, .sentinel, .sentinel, .pinned], laidTests := true, laidLooks := .later }
def ModEscapesUptoCardSaid : Prop := Claim7.holds Tryz.pinned (.plain (OpenSpec.upto modEscapesSpec)) modEscapesUptoCard

/-- THE SECOND FORM's CARD OF 'mewslaw3.ModBack'. -/
def modBackUptoCard : Claim7 := { stood := { row := modBackUptoRow, standIns := [], harness := (true, "0b5397fcbe0ec0ddd0d8f3060097618ec127e8905168bdc9727e6847bb168f70"), looks := true }, kinds := [], alts := [], laidByText := true, laidKinds := [.data, .data, .data, .data, .sentinel, .sentinel, .pinned], laidTests := true, laidLooks := .later }
def ModBackUptoCardSaid : Prop := Claim7.holds Tryz.pinned (.plain (OpenSpec.upto modBackSpec)) modBackUptoCard

/-- THE SECOND FORM's CARD OF 'mewslaw3.ModMajors'. -/
def modMajorsUptoCard : Claim7 := { stood := { row := modMajorsUptoRow, standIns := [], harness := (true, "0b5397fcbe0ec0ddd0d8f3060097618ec127e8905168bdc9727e6847bb168f70"), looks := true }, kinds := [], alts := [], laidByText := true, laidKinds := [.data, .data, .data, .data, .sentinel, .sentinel, .pinned], laidTests := true, laidLooks := .later }
def ModMajorsUptoCardSaid : Prop := Claim7.holds Tryz.pinned (.plain (OpenSpec.upto modMajorsSpec)) modMajorsUptoCard

/-- THE SECOND FORM's CARD OF 'mewslaw3.ModPaths'. -/
def modPathsUptoCard : Claim7 := { stood := { row := modPathsUptoRow, standIns := [], harness := (true, "0b5397fcbe0ec0ddd0d8f3060097618ec127e8905168bdc9727e6847bb168f70"), looks := true }, kinds := [], alts := [], laidByText := true, laidKinds := [.data, .data, .data, .data, .sentinel, .sentinel, .pinned], laidTests := true, laidLooks := .later }
def ModPathsUptoCardSaid : Prop := Claim7.holds Tryz.pinned (.plain (OpenSpec.upto modPathsSpec)) modPathsUptoCard

/-- THE SECOND FORM's CARD OF 'mewslaw3.ModPseudo'. -/
def modPseudoUptoCard : Claim7 := { stood := { row := modPseudoUptoRow, standIns := [], harness := (true, "0b5397fcbe0ec0ddd0d8f3060097618ec127e8905168bdc9727e6847bb168f70"), looks := true }, kinds := [], alts := [], laidByText := true, laidKinds := [.data, .data, .data, .data, .sentinel, .sentinel, .pinned], laidTests := true, laidLooks := .later }
def ModPseudoUptoCardSaid : Prop := Claim7.holds Tryz.pinned (.plain (OpenSpec.upto modPseudoSpec)) modPseudoUptoCard

/-- THE SECOND FORM's CARD OF 'mewslaw3.ModBetween'. -/
def modBetweenUptoCard : Claim7 := { stood := { row := modBetweenUptoRow, standIns := [], harness := (true, "0b5397fcbe0ec0ddd0d8f3060097618ec127e8905168bdc9727e6847bb168f70"), looks := true }, kinds := [], alts := [], laidByText := true, laidKinds := [.data, .data, .data, .data, .sentinel, .sentinel, .pinned], laidTests := true, laidLooks := .later }
def ModBetweenUptoCardSaid : Prop := Claim7.holds Tryz.pinned (.plain (OpenSpec.upto modBetweenSpec)) modBetweenUptoCard

/-- THE SECOND FORM's CARD OF 'mewslaw3.ModSorted'. -/
def modSortedUptoCard : Claim7 := { stood := { row := modSortedUptoRow, standIns := [], harness := (true, "0b5397fcbe0ec0ddd0d8f3060097618ec127e8905168bdc9727e6847bb168f70"), looks := true }, kinds := [], alts := [], laidByText := true, laidKinds := [.data, .data, .data, .data, .sentinel, .sentinel, .pinned], laidTests := true, laidLooks := .later }
def ModSortedUptoCardSaid : Prop := Claim7.holds Tryz.pinned (.plain (OpenSpec.upto modSortedSpec)) modSortedUptoCard

/-- THE SECOND FORM's CARD OF 'mewslaw3.ModLists'. -/
def modListsUptoCard : Claim7 := { stood := { row := modListsUptoRow, standIns := [], harness := (true, "0b5397fcbe0ec0ddd0d8f3060097618ec127e8905168bdc9727e6847bb168f70"), looks := true }, kinds := [], alts := [], laidByText := true, laidKinds := [.data, .data, .data, .data, .sentinel, .sentinel, .pinned], laidTests := true, laidLooks := .later }
def ModListsUptoCardSaid : Prop := Claim7.holds Tryz.pinned (.plain (OpenSpec.upto modListsSpec)) modListsUptoCard

/-- THE SECOND FORM's CARD OF 'mewslaw3.ModVersions'. -/
def modVersionsUptoCard : Claim7 := { stood := { row := modVersionsUptoRow, standIns := [], harness := (true, "0b5397fcbe0ec0ddd0d8f3060097618ec127e8905168bdc9727e6847bb168f70"), looks := true }, kinds := [], alts := [], laidByText := true, laidKinds := [.data, .data, .data, .data, .sentinel, .sentinel, .pinned], laidTests := true, laidLooks := .later }
def ModVersionsUptoCardSaid : Prop := Claim7.holds Tryz.pinned (.plain (OpenSpec.upto modVersionsSpec)) modVersionsUptoCard
end Rows
end Go.Proofs.YthdpejligoblbaaGreatDoor
