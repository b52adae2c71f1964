/-
  DERIVED. GIVEN WITH THE SEED: THE CARDS: each row of YthbdimeliiocpaaGreatDoorRows.lean that lists a variable, with what it lists TIED to the program's text (the seventh form; the later family's looks); each row that meets fmt, with fmt's text TOLD by the authors' own Lean function (tested against real Go, not proved from fmt's source: count such statements apart). THE CARD IS WHAT COUNTS. Prove the row's statement (the work); the ties are given (YthbdimeliiocpaaGreatDoorTie.lean); close each card by the builder's one call (the guide's Derived/Test/ToyasCard.lean, 'card_holds'). Laid BY PROGRAM, IN A SANDBOX (cutbox-door.mjs). By AI agents, Wed Nov 11 2026. No macro, syntax, notation, axiom, sorry.
-/
import Derived.Test.YthbdimeliiocpaaGreatDoorRows
import GoSem.ClaimSeven
namespace Go.Proofs.YthbdimeliiocpaaGreatDoor
namespace Rows

/-- THE TIED CARD OF 'mewslaw4.ModfileBack'. -/
def modfileBackCard : Claim7 := { stood := { row := modfileBackRow, standIns := [], harness := (true, "f751ab25bb6eff988a430a340ad56940d61db7b5bc8d66a28031048de749f322"), looks := true }, kinds := [], alts := [], laidByText := true, laidKinds := [.data, .data, .data, .data, .sentinel, .sentinel, .pinned], laidTests := true, laidLooks := .later }
def ModfileBackCardSaid : Prop := Claim7.holds Tryz.pinned (.plain (OpenSpec.ofChange modfileBackSpec)) modfileBackCard

/-- THE TIED CARD OF 'mewslaw4.ModfileParses'. -/
def modfileParsesCard : Claim7 := { stood := { row := modfileParsesRow, standIns := [], harness := (true, "f751ab25bb6eff988a430a340ad56940d61db7b5bc8d66a28031048de749f322"), looks := true }, kinds := [], alts := [], laidByText := true, laidKinds := [.data, .data, .data, .data, .sentinel, .sentinel, .pinned], laidTests := true, laidLooks := .later }
def ModfileParsesCardSaid : Prop := Claim7.holds Tryz.pinned (.plain (OpenSpec.ofChange modfileParsesSpec)) modfileParsesCard

/-- THE TIED CARD OF 'mewslaw4.ModfileOneForm'. -/
def modfileOneFormCard : Claim7 := { stood := { row := modfileOneFormRow, standIns := [], harness := (true, "f751ab25bb6eff988a430a340ad56940d61db7b5bc8d66a28031048de749f322"), looks := true }, kinds := [], alts := [], laidByText := true, laidKinds := [.data, .data, .data, .data, .sentinel, .sentinel, .pinned], laidTests := true, laidLooks := .later }
def ModfileOneFormCardSaid : Prop := Claim7.holds Tryz.pinned (.plain (OpenSpec.ofChange modfileOneFormSpec)) modfileOneFormCard

/-- THE TIED CARD OF 'mewslaw4.ModfileBlanks'. -/
def modfileBlanksCard : Claim7 := { stood := { row := modfileBlanksRow, standIns := [], harness := (true, "f751ab25bb6eff988a430a340ad56940d61db7b5bc8d66a28031048de749f322"), looks := true }, kinds := [], alts := [], laidByText := true, laidKinds := [.data, .data, .data, .data, .sentinel, .sentinel, .pinned], laidTests := true, laidLooks := .later }
def ModfileBlanksCardSaid : Prop := Claim7.holds Tryz.pinned (.plain (OpenSpec.ofChange modfileBlanksSpec)) modfileBlanksCard

/-- THE TIED CARD OF 'mewslaw4.ModfileFirst'. -/
def modfileFirstCard : Claim7 := { stood := { row := modfileFirstRow, standIns := [], harness := (true, "f751ab25bb6eff988a430a340ad56940d61db7b5bc8d66a28031048de749f322"), looks := true }, kinds := [], alts := [], laidByText := true, laidKinds := [.data, .data, .data, .data, .sentinel, .sentinel, .pinned], laidTests := true, laidLooks := .later }
def ModfileFirstCardSaid : Prop := Claim7.holds Tryz.pinned (.plain (OpenSpec.ofChange modfileFirstSpec)) modfileFirstCard

/-- THE TIED CARD OF 'mewslaw4.ModfileReplaced'. -/
def modfileReplacedCard : Claim7 := { stood := { row := modfileReplacedRow, standIns := [], harness := (true, "f751ab25bb6eff988a430a340ad56940d61db7b5bc8d66a28031048de749f322"), looks := true }, kinds := [], alts := [], laidByText := true, laidKinds := [.data, .data, .data, .data, .sentinel, .sentinel, .pinned], laidTests := true, laidLooks := .later }
def ModfileReplacedCardSaid : Prop := Claim7.holds Tryz.pinned (.plain (OpenSpec.ofChange modfileReplacedSpec)) modfileReplacedCard

/-- THE TIED CARD OF 'mewslaw4.ModfileFormats'. -/
def modfileFormatsCard : Claim7 := { stood := { row := modfileFormatsRow, standIns := [], harness := (true, "f751ab25bb6eff988a430a340ad56940d61db7b5bc8d66a28031048de749f322"), looks := true }, kinds := [], alts := [], laidByText := true, laidKinds := [.data, .data, .data, .data, .sentinel, .sentinel, .pinned], laidTests := true, laidLooks := .later }
def ModfileFormatsCardSaid : Prop := Claim7.holds Tryz.pinned (.plain (OpenSpec.ofChange modfileFormatsSpec)) modfileFormatsCard

/-- THE TIED CARD OF 'mewslaw4.ModfileAddDrop'. -/
def modfileAddDropCard : Claim7 := { stood := { row := modfileAddDropRow, standIns := [], harness := (true, "f751ab25bb6eff988a430a340ad56940d61db7b5bc8d66a28031048de749f322"), looks := true }, kinds := [], alts := [], laidByText := true, laidKinds := [.data, .data, .data, .data, .sentinel, .sentinel, .pinned], laidTests := true, laidLooks := .later }
def ModfileAddDropCardSaid : Prop := Claim7.holds Tryz.pinned (.plain (OpenSpec.ofChange modfileAddDropSpec)) modfileAddDropCard

/-- THE TIED CARD OF 'mewslaw4.ModfileEdits'. -/
def modfileEditsCard : Claim7 := { stood := { row := modfileEditsRow, standIns := [], harness := (true, "f751ab25bb6eff988a430a340ad56940d61db7b5bc8d66a28031048de749f322"), looks := true }, kinds := [], alts := [], laidByText := true, laidKinds := [.data, .data, .data, .data, .sentinel, .sentinel, .pinned], laidTests := true, laidLooks := .later }
def ModfileEditsCardSaid : Prop := Claim7.holds Tryz.pinned (.plain (OpenSpec.ofChange modfileEditsSpec)) modfileEditsCard

/-- THE SECOND FORM's CARD OF 'mewslaw4.ModfileBack'. -/
def modfileBackUptoCard : Claim7 := { stood := { row := modfileBackUptoRow, standIns := [], harness := (true, "f751ab25bb6eff988a430a340ad56940d61db7b5bc8d66a28031048de749f322"), looks := true }, kinds := [], alts := [], laidByText := true, laidKinds := [.data, .data, .data, .data, .sentinel, .sentinel, .pinned], laidTests := true, laidLooks := .later }
def ModfileBackUptoCardSaid : Prop := Claim7.holds Tryz.pinned (.plain (OpenSpec.upto modfileBackSpec)) modfileBackUptoCard

/-- THE SECOND FORM's CARD OF 'mewslaw4.ModfileParses'. -/
def modfileParsesUptoCard : Claim7 := { stood := { row := modfileParsesUptoRow, standIns := [], harness := (true, "f751ab25bb6eff988a430a340ad56940d61db7b5bc8d66a28031048de749f322"), looks := true }, kinds := [], alts := [], laidByText := true, laidKinds := [.data, .data, .data, .data, .sentinel, .sentinel, .pinned], laidTests := true, laidLooks := .later }
def ModfileParsesUptoCardSaid : Prop := Claim7.holds Tryz.pinned (.plain (OpenSpec.upto modfileParsesSpec)) modfileParsesUptoCard

/-- THE SECOND FORM's CARD OF 'mewslaw4.ModfileOneForm'. -/
def modfileOneFormUptoCard : Claim7 := { stood := { row := modfileOneFormUptoRow, standIns := [], harness := (true, "f751ab25bb6eff988a430a340ad56940d61db7b5bc8d66a28031048de749f322"), looks := true }, kinds := [], alts := [], laidByText := true, laidKinds := [.data, .data, .data, .data, .sentinel, .sentinel, .pinned], laidTests := true, laidLooks := .later }
def ModfileOneFormUptoCardSaid : Prop := Claim7.holds Tryz.pinned (.plain (OpenSpec.upto modfileOneFormSpec)) modfileOneFormUptoCard

/-- THE SECOND FORM's CARD OF 'mewslaw4.ModfileBlanks'. -/
def modfileBlanksUptoCard : Claim7 := { stood := { row := modfileBlanksUptoRow, standIns := [], harness := (true, "f751ab25bb6eff988a430a340ad56940d61db7b5bc8d66a28031048de749f322"), looks := true }, kinds := [], alts := [], laidByText := true, laidKinds := [.data, .data, .data, .data, .sentinel, .sentinel, .pinned], laidTests := true, laidLooks := .later }
def ModfileBlanksUptoCardSaid : Prop := Claim7.holds Tryz.pinned (.plain (OpenSpec.upto modfileBlanksSpec)) modfileBlanksUptoCard

/-- THE SECOND FORM's CARD OF 'mewslaw4.ModfileFirst'. -/
def modfileFirstUptoCard : Claim7 := { stood := { row := modfileFirstUptoRow, standIns := [], harness := (true, "f751ab25bb6eff988a430a340ad56940d61db7b5bc8d66a28031048de749f322"), looks := true }, kinds := [], alts := [], laidByText := true, laidKinds := [.data, .data, .data, .data, .sentinel, .sentinel, .pinned], laidTests := true, laidLooks := .later }
def ModfileFirstUptoCardSaid : Prop := Claim7.holds Tryz.pinned (.plain (OpenSpec.upto modfileFirstSpec)) modfileFirstUptoCard

/-- THE SECOND FORM's CARD OF 'mewslaw4.ModfileReplaced'. -/
def modfileReplacedUptoCard : Claim7 := { stood := { row := modfileReplacedUptoRow, standIns := [], harness := (true, "f751ab25bb6eff988a430a340ad56940d61db7b5bc8d66a28031048de749f322"), looks := true }, kinds := [], alts := [], laidByText := true, laidKinds := [.data, .data, .data, .data, .sentinel, .sentinel, .pinned], laidTests := true, laidLooks := .later }
def ModfileReplacedUptoCardSaid : Prop := Claim7.holds Tryz.pinned (.plain (OpenSpec.upto modfileReplacedSpec)) modfileReplacedUptoCard

/-- THE SECOND FORM's CARD OF 'mewslaw4.ModfileFormats'. -/
def modfileFormatsUptoCard : Claim7 := { stood := { row := modfileFormatsUptoRow, standIns := [], harness := (true, "f751ab25bb6eff988a430a340ad56940d61db7b5bc8d66a28031048de749f322"), looks := true }, kinds := [], alts := [], laidByText := true, laidKinds := [.data, .data, .data, .data, .sentinel, .sentinel, .pinned], laidTests := true, laidLooks := .later }
def ModfileFormatsUptoCardSaid : Prop := Claim7.holds Tryz.pinned (.plain (OpenSpec.upto modfileFormatsSpec)) modfileFormatsUptoCard

/-- THE SECOND FORM's CARD OF 'mewslaw4.ModfileAddDrop'. -/
def modfileAddDropUptoCard : Claim7 := { stood := { row := modfileAddDropUptoRow, standIns := [], harness := (true, "f751ab25bb6eff988a430a340ad56940d61db7b5bc8d66a28031048de749f322"), looks := true }, kinds := [], alts := [], laidByText := true, laidKinds := [.data, .data, .data, .data, .sentinel, .sentinel, .pinned], laidTests := true, laidLooks := .later }
def ModfileAddDropUptoCardSaid : Prop := Claim7.holds Tryz.pinned (.plain (OpenSpec.upto modfileAddDropSpec)) modfileAddDropUptoCard

/-- THE SECOND FORM's CARD OF 'mewslaw4.ModfileEdits'. -/
def modfileEditsUptoCard : Claim7 := { stood := { row := modfileEditsUptoRow, standIns := [], harness := (true, "f751ab25bb6eff988a430a340ad56940d61db7b5bc8d66a28031048de749f322"), looks := true }, kinds := [], alts := [], laidByText := true, laidKinds := [.data, .data, .data, .data, .sentinel, .sentinel, .pinned], laidTests := true, laidLooks := .later }
def ModfileEditsUptoCardSaid : Prop := Claim7.holds Tryz.pinned (.plain (OpenSpec.upto modfileEditsSpec)) modfileEditsUptoCard
end Rows
end Go.Proofs.YthbdimeliiocpaaGreatDoor
