/-
  DERIVED. GIVEN WITH THE SEED: THE CARDS: each row of YtlpnjleajkdnpaaGreatDoorRows.lean that lists a variable, with what it lists TIED to the program's text (the seventh form; the later family's looks); each row that meets fmt, with fmt's text TOLD by the authors' own Lean function (tested against real Go, not proved from fmt's source: count such statements apart). THE CARD IS WHAT COUNTS. Prove the row's statement (the work); the ties are given (YtlpnjleajkdnpaaGreatDoorTie.lean); close each card by the builder's one call (the guide's Derived/Test/ToyasCard.lean, 'card_holds'). Laid BY PROGRAM, IN A SANDBOX (cutbox-door.mjs). By AI agents, Wed Nov 11 2026. No macro, syntax, notation, axiom, sorry.
-/
import Derived.Test.YtlpnjleajkdnpaaGreatDoorRows
import GoSem.ClaimSeven
namespace Go.Proofs.YtlpnjleajkdnpaaGreatDoor
namespace Rows

/-- THE TIED CARD OF 'mewslaw8.NoteSigns'. -/
def noteSignsCard : Claim7 := { stood := { row := noteSignsRow, standIns := [], harness := (true, "fff7227f95d4308cc20f3bcdfe50b5b54c1723ce3ac8f5786aad615a6ca48e0f"), looks := false }, kinds := [], alts := [], laidByText := true, laidKinds := [.data, .data, .data, .data, .pinned], laidTests := true, laidLooks := .later }
def NoteSignsCardSaid : Prop := Claim7.holds Tryz.pinned (.plain (OpenSpec.ofChange noteSignsSpec)) noteSignsCard

/-- THE SECOND FORM's CARD OF 'mewslaw8.NoteSigns'. -/
def noteSignsUptoCard : Claim7 := { stood := { row := noteSignsUptoRow, standIns := [], harness := (true, "fff7227f95d4308cc20f3bcdfe50b5b54c1723ce3ac8f5786aad615a6ca48e0f"), looks := false }, kinds := [], alts := [], laidByText := true, laidKinds := [.data, .data, .data, .data, .pinned], laidTests := true, laidLooks := .later }
def NoteSignsUptoCardSaid : Prop := Claim7.holds Tryz.pinned (.plain (OpenSpec.upto noteSignsSpec)) noteSignsUptoCard
end Rows
end Go.Proofs.YtlpnjleajkdnpaaGreatDoor
