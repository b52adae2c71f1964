/-
  DERIVED. GIVEN WITH THE SEED: THE CARDS: each row of YtjkkcelnfokplaaGreatDoorRows.lean that lists a variable, with what it lists TIED to the program's text (the seventh form; the later family's looks); each row that meets fmt, with fmt's text TOLD by the authors' own Lean function (tested against real Go, not proved from fmt's source: count such statements apart). THE CARD IS WHAT COUNTS. Prove the row's statement (the work); the ties are given (YtjkkcelnfokplaaGreatDoorTie.lean); close each card by the builder's one call (the guide's Derived/Test/ToyasCard.lean, 'card_holds'). Laid BY PROGRAM, IN A SANDBOX (cutbox-door.mjs). By AI agents, Wed Nov 11 2026. No macro, syntax, notation, axiom, sorry.
-/
import Derived.Test.YtjkkcelnfokplaaGreatDoorRows
import GoSem.ClaimSeven
namespace Go.Proofs.YtjkkcelnfokplaaGreatDoor
namespace Rows

/-- THE TIED CARD OF 'mewslaw4.ModfileParses'. -/
def modfileParsesCard : Claim7 := { stood := { row := modfileParsesRow, standIns := [], harness := (true, "be2bd933ea8f56dbf1f803daed3482ce1c1e5df87a7deaa8a10c2edf21565610"), looks := true }, kinds := [], alts := [], laidByText := true, laidKinds := [.data, .data, .data, .data, .sentinel, .sentinel, .pinned], laidTests := true, laidLooks := .later }
def ModfileParsesCardSaid : Prop := Claim7.holds Tryz.pinned (.plain (OpenSpec.ofChange modfileParsesSpec)) modfileParsesCard

/-- THE TIED CARD OF 'mewslaw4.ModfileBlanks'. -/
def modfileBlanksCard : Claim7 := { stood := { row := modfileBlanksRow, standIns := [], harness := (true, "be2bd933ea8f56dbf1f803daed3482ce1c1e5df87a7deaa8a10c2edf21565610"), looks := true }, kinds := [], alts := [], laidByText := true, laidKinds := [.data, .data, .data, .data, .sentinel, .sentinel, .pinned], laidTests := true, laidLooks := .later }
def ModfileBlanksCardSaid : Prop := Claim7.holds Tryz.pinned (.plain (OpenSpec.ofChange modfileBlanksSpec)) modfileBlanksCard

/-- THE TIED CARD OF 'mewslaw4.ModfileFormats'. -/
def modfileFormatsCard : Claim7 := { stood := { row := modfileFormatsRow, standIns := [], harness := (true, "be2bd933ea8f56dbf1f803daed3482ce1c1e5df87a7deaa8a10c2edf21565610"), looks := true }, kinds := [], alts := [], laidByText := true, laidKinds := [.data, .data, .data, .data, .sentinel, .sentinel, .pinned], laidTests := true, laidLooks := .later }
def ModfileFormatsCardSaid : Prop := Claim7.holds Tryz.pinned (.plain (OpenSpec.ofChange modfileFormatsSpec)) modfileFormatsCard

/-- THE TIED CARD OF 'mewslaw4.ModfileAddDrop'. -/
def modfileAddDropCard : Claim7 := { stood := { row := modfileAddDropRow, standIns := [], harness := (true, "be2bd933ea8f56dbf1f803daed3482ce1c1e5df87a7deaa8a10c2edf21565610"), looks := true }, kinds := [], alts := [], laidByText := true, laidKinds := [.data, .data, .data, .data, .sentinel, .sentinel, .pinned], laidTests := true, laidLooks := .later }
def ModfileAddDropCardSaid : Prop := Claim7.holds Tryz.pinned (.plain (OpenSpec.ofChange modfileAddDropSpec)) modfileAddDropCard

/-- THE TIED CARD OF 'mewslaw4.ModfileEdits'. -/
def modfileEditsCard : Claim7 := { stood := { row := modfileEditsRow, standIns := [], harness := (true, "be2bd933ea8f56dbf1f803daed3482ce1c1e5df87a7deaa8a10c2edf21565610"), looks := true }, kinds := [], alts := [], laidByText := true, laidKinds := [.data, .data, .data, .data, .sentinel, .sentinel, .pinned], laidTests := true, laidLooks := .later }
def ModfileEditsCardSaid : Prop := Claim7.holds Tryz.pinned (.plain (OpenSpec.ofChange modfileEditsSpec)) modfileEditsCard

/-- THE SECOND FORM's CARD OF 'mewslaw4.ModfileParses'. -/
def modfileParsesUptoCard : Claim7 := { stood := { row := modfileParsesUptoRow, standIns := [], harness := (true, "be2bd933ea8f56dbf1f803daed3482ce1c1e5df87a7deaa8a10c2edf21565610"), looks := true }, kinds := [], alts := [], laidByText := true, laidKinds := [.data, .data, .data, .data, .sentinel, .sentinel, .pinned], laidTests := true, laidLooks := .later }
def ModfileParsesUptoCardSaid : Prop := Claim7.holds Tryz.pinned (.plain (OpenSpec.upto modfileParsesSpec)) modfileParsesUptoCard

/-- THE SECOND FORM's CARD OF 'mewslaw4.ModfileBlanks'. -/
def modfileBlanksUptoCard : Claim7 := { stood := { row := modfileBlanksUptoRow, standIns := [], harness := (true, "be2bd933ea8f56dbf1f803daed3482ce1c1e5df87a7deaa8a10c2edf21565610"), looks := true }, kinds := [], alts := [], laidByText := true, laidKinds := [.data, .data, .data, .data, .sentinel, .sentinel, .pinned], laidTests := true, laidLooks := .later }
def ModfileBlanksUptoCardSaid : Prop := Claim7.holds Tryz.pinned (.plain (OpenSpec.upto modfileBlanksSpec)) modfileBlanksUptoCard

/-- THE SECOND FORM's CARD OF 'mewslaw4.ModfileFormats'. -/
def modfileFormatsUptoCard : Claim7 := { stood := { row := modfileFormatsUptoRow, standIns := [], harness := (true, "be2bd933ea8f56dbf1f803daed3482ce1c1e5df87a7deaa8a10c2edf21565610"), looks := true }, kinds := [], alts := [], laidByText := true, laidKinds := [.data, .data, .data, .data, .sentinel, .sentinel, .pinned], laidTests := true, laidLooks := .later }
def ModfileFormatsUptoCardSaid : Prop := Claim7.holds Tryz.pinned (.plain (OpenSpec.upto modfileFormatsSpec)) modfileFormatsUptoCard

/-- THE SECOND FORM's CARD OF 'mewslaw4.ModfileAddDrop'. -/
def modfileAddDropUptoCard : Claim7 := { stood := { row := modfileAddDropUptoRow, standIns := [], harness := (true, "be2bd933ea8f56dbf1f803daed3482ce1c1e5df87a7deaa8a10c2edf21565610"), looks := true }, kinds := [], alts := [], laidByText := true, laidKinds := [.data, .data, .data, .data, .sentinel, .sentinel, .pinned], laidTests := true, laidLooks := .later }
def ModfileAddDropUptoCardSaid : Prop := Claim7.holds Tryz.pinned (.plain (OpenSpec.upto modfileAddDropSpec)) modfileAddDropUptoCard

/-- THE SECOND FORM's CARD OF 'mewslaw4.ModfileEdits'. -/
def modfileEditsUptoCard : Claim7 := { stood := { row := modfileEditsUptoRow, standIns := [], harness := (true, "be2bd933ea8f56dbf1f803daed3482ce1c1e5df87a7deaa8a10c2edf21565610"), looks := true }, kinds := [], alts := [], laidByText := true, laidKinds := [.data, .data, .data, .data, .sentinel, .sentinel, .pinned], laidTests := true, laidLooks := .later }
def ModfileEditsUptoCardSaid : Prop := Claim7.holds Tryz.pinned (.plain (OpenSpec.upto modfileEditsSpec)) modfileEditsUptoCard
end Rows
end Go.Proofs.YtjkkcelnfokplaaGreatDoor
