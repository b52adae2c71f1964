/-
  DERIVED. GIVEN WITH THE SEED: THE CARDS: each row of YtkbghmnjpfdclaaDoorRows.lean that lists a variable, with what it lists TIED to the program's text (the seventh form; the later family's looks); each row that meets fmt, with fmt's text TOLD by the authors' own Lean function (tested against real Go, not proved from fmt's source: count such statements apart). THE CARD IS WHAT COUNTS. Prove the row's statement (the work); the ties are given (YtkbghmnjpfdclaaDoorTie.lean); close each card by the builder's one call (the guide's Derived/Test/ToyasCard.lean, 'card_holds'). Laid BY PROGRAM, IN A SANDBOX (cutbox-door.mjs). By AI agents, Wed Nov 11 2026. No macro, syntax, notation, axiom, sorry.
-/
import Derived.Test.YtkbghmnjpfdclaaDoorRows
import GoSem.ClaimSeven
namespace Go.Proofs.YtkbghmnjpfdclaaDoor
namespace Rows

/-- THE TIED CARD OF 'mewslaw7.TlogPlaces'. -/
def tlogPlacesCard : Claim7 := { stood := { row := tlogPlacesRow, standIns := [], harness := (true, "5f6672c2aa64c7be2ff93f388fb7818162b557c9cc119a6492c663fdba062f25"), looks := true }, kinds := [], alts := [], laidByText := true, laidKinds := [.data, .data, .data], laidTests := true, laidLooks := .later }
def TlogPlacesCardSaid : Prop := Claim7.holds Tryd.pinned (.plain (OpenSpec.ofChange tlogPlacesSpec)) tlogPlacesCard

/-- THE TIED CARD OF 'mewslaw7.TlogHashes'. -/
def tlogHashesCard : Claim7 := { stood := { row := tlogHashesRow, standIns := [], harness := (true, "5f6672c2aa64c7be2ff93f388fb7818162b557c9cc119a6492c663fdba062f25"), looks := true }, kinds := [], alts := [], laidByText := true, laidKinds := [.data, .data, .data], laidTests := true, laidLooks := .later }
def TlogHashesCardSaid : Prop := Claim7.holds Tryd.pinned (.plain (OpenSpec.ofChange tlogHashesSpec)) tlogHashesCard

/-- THE TIED CARD OF 'mewslaw7.TlogChecks'. -/
def tlogChecksCard : Claim7 := { stood := { row := tlogChecksRow, standIns := [], harness := (true, "5f6672c2aa64c7be2ff93f388fb7818162b557c9cc119a6492c663fdba062f25"), looks := true }, kinds := [], alts := [], laidByText := true, laidKinds := [.data, .data, .data], laidTests := true, laidLooks := .later }
def TlogChecksCardSaid : Prop := Claim7.holds Tryd.pinned (.plain (OpenSpec.ofChange tlogChecksSpec)) tlogChecksCard

/-- THE TIED CARD OF 'mewslaw7.TlogProves'. -/
def tlogProvesCard : Claim7 := { stood := { row := tlogProvesRow, standIns := [], harness := (true, "5f6672c2aa64c7be2ff93f388fb7818162b557c9cc119a6492c663fdba062f25"), looks := true }, kinds := [], alts := [], laidByText := true, laidKinds := [.data, .data, .data], laidTests := true, laidLooks := .later }
def TlogProvesCardSaid : Prop := Claim7.holds Tryd.pinned (.plain (OpenSpec.ofChange tlogProvesSpec)) tlogProvesCard

/-- THE TIED CARD OF 'mewslaw7.TlogReads'. -/
def tlogReadsCard : Claim7 := { stood := { row := tlogReadsRow, standIns := [], harness := (true, "5f6672c2aa64c7be2ff93f388fb7818162b557c9cc119a6492c663fdba062f25"), looks := true }, kinds := [], alts := [], laidByText := true, laidKinds := [.data, .data, .data], laidTests := true, laidLooks := .later }
def TlogReadsCardSaid : Prop := Claim7.holds Tryd.pinned (.plain (OpenSpec.ofChange tlogReadsSpec)) tlogReadsCard

/-- THE TIED CARD OF 'mewslaw7.TlogGrows'. -/
def tlogGrowsCard : Claim7 := { stood := { row := tlogGrowsRow, standIns := [], harness := (true, "5f6672c2aa64c7be2ff93f388fb7818162b557c9cc119a6492c663fdba062f25"), looks := true }, kinds := [], alts := [], laidByText := true, laidKinds := [.data, .data, .data], laidTests := true, laidLooks := .later }
def TlogGrowsCardSaid : Prop := Claim7.holds Tryd.pinned (.plain (OpenSpec.ofChange tlogGrowsSpec)) tlogGrowsCard

/-- THE TIED CARD OF 'mewslaw7.TlogPaths'. -/
def tlogPathsCard : Claim7 := { stood := { row := tlogPathsRow, standIns := [], harness := (true, "5f6672c2aa64c7be2ff93f388fb7818162b557c9cc119a6492c663fdba062f25"), looks := true }, kinds := [], alts := [], laidByText := true, laidKinds := [.data, .data, .data, .data, .sentinel, .sentinel, .pinned], laidTests := true, laidLooks := .later }
def TlogPathsCardSaid : Prop := Claim7.holds Tryd.pinned (.plain (OpenSpec.ofChange tlogPathsSpec)) tlogPathsCard

/-- THE SECOND FORM's CARD OF 'mewslaw7.TlogPlaces'. -/
def tlogPlacesUptoCard : Claim7 := { stood := { row := tlogPlacesUptoRow, standIns := [], harness := (true, "5f6672c2aa64c7be2ff93f388fb7818162b557c9cc119a6492c663fdba062f25"), looks := true }, kinds := [], alts := [], laidByText := true, laidKinds := [.data, .data, .data], laidTests := true, laidLooks := .later }
def TlogPlacesUptoCardSaid : Prop := Claim7.holds Tryd.pinned (.plain (OpenSpec.upto tlogPlacesSpec)) tlogPlacesUptoCard

/-- THE SECOND FORM's CARD OF 'mewslaw7.TlogHashes'. -/
def tlogHashesUptoCard : Claim7 := { stood := { row := tlogHashesUptoRow, standIns := [], harness := (true, "5f6672c2aa64c7be2ff93f388fb7818162b557c9cc119a6492c663fdba062f25"), looks := true }, kinds := [], alts := [], laidByText := true, laidKinds := [.data, .data, .data], laidTests := true, laidLooks := .later }
def TlogHashesUptoCardSaid : Prop := Claim7.holds Tryd.pinned (.plain (OpenSpec.upto tlogHashesSpec)) tlogHashesUptoCard

/-- THE SECOND FORM's CARD OF 'mewslaw7.TlogChecks'. -/
def tlogChecksUptoCard : Claim7 := { stood := { row := tlogChecksUptoRow, standIns := [], harness := (true, "5f6672c2aa64c7be2ff93f388fb7818162b557c9cc119a6492c663fdba062f25"), looks := true }, kinds := [], alts := [], laidByText := true, laidKinds := [.data, .data, .data], laidTests := true, laidLooks := .later }
def TlogChecksUptoCardSaid : Prop := Claim7.holds Tryd.pinned (.plain (OpenSpec.upto tlogChecksSpec)) tlogChecksUptoCard

/-- THE SECOND FORM's CARD OF 'mewslaw7.TlogProves'. -/
def tlogProvesUptoCard : Claim7 := { stood := { row := tlogProvesUptoRow, standIns := [], harness := (true, "5f6672c2aa64c7be2ff93f388fb7818162b557c9cc119a6492c663fdba062f25"), looks := true }, kinds := [], alts := [], laidByText := true, laidKinds := [.data, .data, .data], laidTests := true, laidLooks := .later }
def TlogProvesUptoCardSaid : Prop := Claim7.holds Tryd.pinned (.plain (OpenSpec.upto tlogProvesSpec)) tlogProvesUptoCard

/-- THE SECOND FORM's CARD OF 'mewslaw7.TlogReads'. -/
def tlogReadsUptoCard : Claim7 := { stood := { row := tlogReadsUptoRow, standIns := [], harness := (true, "5f6672c2aa64c7be2ff93f388fb7818162b557c9cc119a6492c663fdba062f25"), looks := true }, kinds := [], alts := [], laidByText := true, laidKinds := [.data, .data, .data], laidTests := true, laidLooks := .later }
def TlogReadsUptoCardSaid : Prop := Claim7.holds Tryd.pinned (.plain (OpenSpec.upto tlogReadsSpec)) tlogReadsUptoCard

/-- THE SECOND FORM's CARD OF 'mewslaw7.TlogGrows'. -/
def tlogGrowsUptoCard : Claim7 := { stood := { row := tlogGrowsUptoRow, standIns := [], harness := (true, "5f6672c2aa64c7be2ff93f388fb7818162b557c9cc119a6492c663fdba062f25"), looks := true }, kinds := [], alts := [], laidByText := true, laidKinds := [.data, .data, .data], laidTests := true, laidLooks := .later }
def TlogGrowsUptoCardSaid : Prop := Claim7.holds Tryd.pinned (.plain (OpenSpec.upto tlogGrowsSpec)) tlogGrowsUptoCard

/-- THE SECOND FORM's CARD OF 'mewslaw7.TlogPaths'. -/
def tlogPathsUptoCard : Claim7 := { stood := { row := tlogPathsUptoRow, standIns := [], harness := (true, "5f6672c2aa64c7be2ff93f388fb7818162b557c9cc119a6492c663fdba062f25"), looks := true }, kinds := [], alts := [], laidByText := true, laidKinds := [.data, .data, .data, .data, .sentinel, .sentinel, .pinned], laidTests := true, laidLooks := .later }
def TlogPathsUptoCardSaid : Prop := Claim7.holds Tryd.pinned (.plain (OpenSpec.upto tlogPathsSpec)) tlogPathsUptoCard
end Rows
end Go.Proofs.YtkbghmnjpfdclaaDoor
