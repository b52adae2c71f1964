/-
  DERIVED. GIVEN WITH THE SEED: THE CARDS: each row of YtkafjfkkangooaaGreatDoorRows.lean that lists a variable, with what it lists TIED to the program's text (the seventh form; the later family's looks); each row that meets fmt, with fmt's text TOLD by the authors' own Lean function (tested against real Go, not proved from fmt's source: count such statements apart). THE CARD IS WHAT COUNTS. Prove the row's statement (the work); the ties are given (YtkafjfkkangooaaGreatDoorTie.lean); close each card by the builder's one call (the guide's Derived/Test/ToyasCard.lean, 'card_holds'). Laid BY PROGRAM, IN A SANDBOX (cutbox-door.mjs). By AI agents, Wed Nov 11 2026. No macro, syntax, notation, axiom, sorry.
-/
import Derived.Test.YtkafjfkkangooaaGreatDoorRows
import GoSem.ClaimSeven
namespace Go.Proofs.YtkafjfkkangooaaGreatDoor
namespace Rows

/-- THE TIED CARD OF 'mewslaw8.NoteBack'. -/
def noteBackCard : Claim7 := { stood := { row := noteBackRow, standIns := [], harness := (true, "250e8615437f350dc0079f659ef8fd0c50c6b7612af12a2efd518d3f2e2e81da"), looks := true }, kinds := [], alts := [], laidByText := true, laidKinds := [.data, .data, .data, .data, .pinned], laidTests := true, laidLooks := .later }
def NoteBackCardSaid : Prop := Claim7.holds Tryz.pinned (.plain (OpenSpec.ofChange noteBackSpec)) noteBackCard

/-- THE TIED CARD OF 'mewslaw8.NoteSigns'. -/
def noteSignsCard : Claim7 := { stood := { row := noteSignsRow, standIns := [], harness := (true, "250e8615437f350dc0079f659ef8fd0c50c6b7612af12a2efd518d3f2e2e81da"), looks := true }, kinds := [], alts := [], laidByText := true, laidKinds := [.data, .data, .data, .data, .pinned], laidTests := true, laidLooks := .later }
def NoteSignsCardSaid : Prop := Claim7.holds Tryz.pinned (.plain (OpenSpec.ofChange noteSignsSpec)) noteSignsCard

/-- THE TIED CARD OF 'mewslaw8.NoteOpens'. -/
def noteOpensCard : Claim7 := { stood := { row := noteOpensRow, standIns := [], harness := (true, "250e8615437f350dc0079f659ef8fd0c50c6b7612af12a2efd518d3f2e2e81da"), looks := true }, kinds := [], alts := [], laidByText := true, laidKinds := [.data, .data, .data, .data, .pinned], laidTests := true, laidLooks := .later }
def NoteOpensCardSaid : Prop := Claim7.holds Tryz.pinned (.plain (OpenSpec.ofChange noteOpensSpec)) noteOpensCard

/-- THE TIED CARD OF 'mewslaw8.NoteGood'. -/
def noteGoodCard : Claim7 := { stood := { row := noteGoodRow, standIns := [], harness := (true, "250e8615437f350dc0079f659ef8fd0c50c6b7612af12a2efd518d3f2e2e81da"), looks := true }, kinds := [], alts := [], laidByText := true, laidKinds := [.data, .data, .data, .data, .pinned], laidTests := true, laidLooks := .later }
def NoteGoodCardSaid : Prop := Claim7.holds Tryz.pinned (.plain (OpenSpec.ofChange noteGoodSpec)) noteGoodCard

/-- THE TIED CARD OF 'mewslaw8.NoteHeads'. -/
def noteHeadsCard : Claim7 := { stood := { row := noteHeadsRow, standIns := [], harness := (true, "250e8615437f350dc0079f659ef8fd0c50c6b7612af12a2efd518d3f2e2e81da"), looks := true }, kinds := [], alts := [], laidByText := true, laidKinds := [.data, .data, .data, .data, .sentinel, .sentinel, .pinned], laidTests := true, laidLooks := .later }
def NoteHeadsCardSaid : Prop := Claim7.holds Tryz.pinned (.plain (OpenSpec.ofChange noteHeadsSpec)) noteHeadsCard

/-- THE TIED CARD OF 'mewslaw8.NoteHeadsBack'. -/
def noteHeadsBackCard : Claim7 := { stood := { row := noteHeadsBackRow, standIns := [], harness := (true, "250e8615437f350dc0079f659ef8fd0c50c6b7612af12a2efd518d3f2e2e81da"), looks := true }, kinds := [], alts := [], laidByText := true, laidKinds := [.data, .data, .data, .data, .sentinel, .sentinel, .pinned], laidTests := true, laidLooks := .later }
def NoteHeadsBackCardSaid : Prop := Claim7.holds Tryz.pinned (.plain (OpenSpec.ofChange noteHeadsBackSpec)) noteHeadsBackCard

/-- THE SECOND FORM's CARD OF 'mewslaw8.NoteBack'. -/
def noteBackUptoCard : Claim7 := { stood := { row := noteBackUptoRow, standIns := [], harness := (true, "250e8615437f350dc0079f659ef8fd0c50c6b7612af12a2efd518d3f2e2e81da"), looks := true }, kinds := [], alts := [], laidByText := true, laidKinds := [.data, .data, .data, .data, .pinned], laidTests := true, laidLooks := .later }
def NoteBackUptoCardSaid : Prop := Claim7.holds Tryz.pinned (.plain (OpenSpec.upto noteBackSpec)) noteBackUptoCard

/-- THE SECOND FORM's CARD OF 'mewslaw8.NoteSigns'. -/
def noteSignsUptoCard : Claim7 := { stood := { row := noteSignsUptoRow, standIns := [], harness := (true, "250e8615437f350dc0079f659ef8fd0c50c6b7612af12a2efd518d3f2e2e81da"), looks := true }, kinds := [], alts := [], laidByText := true, laidKinds := [.data, .data, .data, .data, .pinned], laidTests := true, laidLooks := .later }
def NoteSignsUptoCardSaid : Prop := Claim7.holds Tryz.pinned (.plain (OpenSpec.upto noteSignsSpec)) noteSignsUptoCard

/-- THE SECOND FORM's CARD OF 'mewslaw8.NoteOpens'. -/
def noteOpensUptoCard : Claim7 := { stood := { row := noteOpensUptoRow, standIns := [], harness := (true, "250e8615437f350dc0079f659ef8fd0c50c6b7612af12a2efd518d3f2e2e81da"), looks := true }, kinds := [], alts := [], laidByText := true, laidKinds := [.data, .data, .data, .data, .pinned], laidTests := true, laidLooks := .later }
def NoteOpensUptoCardSaid : Prop := Claim7.holds Tryz.pinned (.plain (OpenSpec.upto noteOpensSpec)) noteOpensUptoCard

/-- THE SECOND FORM's CARD OF 'mewslaw8.NoteGood'. -/
def noteGoodUptoCard : Claim7 := { stood := { row := noteGoodUptoRow, standIns := [], harness := (true, "250e8615437f350dc0079f659ef8fd0c50c6b7612af12a2efd518d3f2e2e81da"), looks := true }, kinds := [], alts := [], laidByText := true, laidKinds := [.data, .data, .data, .data, .pinned], laidTests := true, laidLooks := .later }
def NoteGoodUptoCardSaid : Prop := Claim7.holds Tryz.pinned (.plain (OpenSpec.upto noteGoodSpec)) noteGoodUptoCard

/-- THE SECOND FORM's CARD OF 'mewslaw8.NoteHeads'. -/
def noteHeadsUptoCard : Claim7 := { stood := { row := noteHeadsUptoRow, standIns := [], harness := (true, "250e8615437f350dc0079f659ef8fd0c50c6b7612af12a2efd518d3f2e2e81da"), looks := true }, kinds := [], alts := [], laidByText := true, laidKinds := [.data, .data, .data, .data, .sentinel, .sentinel, .pinned], laidTests := true, laidLooks := .later }
def NoteHeadsUptoCardSaid : Prop := Claim7.holds Tryz.pinned (.plain (OpenSpec.upto noteHeadsSpec)) noteHeadsUptoCard

/-- THE SECOND FORM's CARD OF 'mewslaw8.NoteHeadsBack'. -/
def noteHeadsBackUptoCard : Claim7 := { stood := { row := noteHeadsBackUptoRow, standIns := [], harness := (true, "250e8615437f350dc0079f659ef8fd0c50c6b7612af12a2efd518d3f2e2e81da"), looks := true }, kinds := [], alts := [], laidByText := true, laidKinds := [.data, .data, .data, .data, .sentinel, .sentinel, .pinned], laidTests := true, laidLooks := .later }
def NoteHeadsBackUptoCardSaid : Prop := Claim7.holds Tryz.pinned (.plain (OpenSpec.upto noteHeadsBackSpec)) noteHeadsBackUptoCard
end Rows
end Go.Proofs.YtkafjfkkangooaaGreatDoor
