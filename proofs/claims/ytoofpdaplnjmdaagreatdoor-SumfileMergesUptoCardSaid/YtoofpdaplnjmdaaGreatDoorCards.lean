/-
  DERIVED. GIVEN WITH THE SEED: THE CARDS: each row of YtoofpdaplnjmdaaGreatDoorRows.lean that lists a variable, with what it lists TIED to the program's text (the seventh form; the later family's looks); each row that meets fmt, with fmt's text TOLD by the authors' own Lean function (tested against real Go, not proved from fmt's source: count such statements apart). THE CARD IS WHAT COUNTS. Prove the row's statement (the work); the ties are given (YtoofpdaplnjmdaaGreatDoorTie.lean); close each card by the builder's one call (the guide's Derived/Test/ToyasCard.lean, 'card_holds'). Laid BY PROGRAM, IN A SANDBOX (cutbox-door.mjs). By AI agents, Wed Nov 11 2026. No macro, syntax, notation, axiom, sorry.
-/
import Derived.Test.YtoofpdaplnjmdaaGreatDoorRows
import GoSem.ClaimSeven
namespace Go.Proofs.YtoofpdaplnjmdaaGreatDoor
namespace Rows

/-- THE TIED CARD OF 'mewslaw5.SumfileMerges'. -/
def sumfileMergesCard : Claim7 := { stood := { row := sumfileMergesRow, standIns := [], harness := (true, "8da9916d2aa6454a3b18c841006521a04fd10ccc845f506b72b1b135e1693f1f"), looks := true }, kinds := [], alts := [], laidByText := true, laidKinds := [.data, .data, .data, .data, .sentinel, .sentinel, .pinned], laidTests := true, laidLooks := .later }
def SumfileMergesCardSaid : Prop := Claim7.holds Tryz.pinned (.plain (OpenSpec.ofChange sumfileMergesSpec)) sumfileMergesCard

/-- THE TIED CARD OF 'mewslaw5.SumfileMerged'. -/
def sumfileMergedCard : Claim7 := { stood := { row := sumfileMergedRow, standIns := [], harness := (true, "8da9916d2aa6454a3b18c841006521a04fd10ccc845f506b72b1b135e1693f1f"), looks := true }, kinds := [], alts := [], laidByText := true, laidKinds := [.data, .data, .data, .data, .sentinel, .sentinel, .pinned], laidTests := true, laidLooks := .later }
def SumfileMergedCardSaid : Prop := Claim7.holds Tryz.pinned (.plain (OpenSpec.ofChange sumfileMergedSpec)) sumfileMergedCard

/-- THE TIED CARD OF 'mewslaw5.SumfileLocks'. -/
def sumfileLocksCard : Claim7 := { stood := { row := sumfileLocksRow, standIns := [], harness := (true, "8da9916d2aa6454a3b18c841006521a04fd10ccc845f506b72b1b135e1693f1f"), looks := true }, kinds := [], alts := [], laidByText := true, laidKinds := [.data, .data, .data, .data, .sentinel, .sentinel, .pinned], laidTests := true, laidLooks := .later }
def SumfileLocksCardSaid : Prop := Claim7.holds Tryz.pinned (.plain (OpenSpec.ofChange sumfileLocksSpec)) sumfileLocksCard

/-- THE TIED CARD OF 'mewslaw5.SumfileFronts'. -/
def sumfileFrontsCard : Claim7 := { stood := { row := sumfileFrontsRow, standIns := [], harness := (true, "8da9916d2aa6454a3b18c841006521a04fd10ccc845f506b72b1b135e1693f1f"), looks := true }, kinds := [], alts := [], laidByText := true, laidKinds := [.data, .data, .data, .data, .sentinel, .sentinel, .pinned], laidTests := true, laidLooks := .later }
def SumfileFrontsCardSaid : Prop := Claim7.holds Tryz.pinned (.plain (OpenSpec.ofChange sumfileFrontsSpec)) sumfileFrontsCard

/-- THE TIED CARD OF 'mewslaw5.SumfileMatches'. -/
def sumfileMatchesCard : Claim7 := { stood := { row := sumfileMatchesRow, standIns := [], harness := (true, "8da9916d2aa6454a3b18c841006521a04fd10ccc845f506b72b1b135e1693f1f"), looks := true }, kinds := [], alts := [], laidByText := true, laidKinds := [.data, .data, .data, .data, .sentinel, .sentinel, .pinned], laidTests := true, laidLooks := .later }
def SumfileMatchesCardSaid : Prop := Claim7.holds Tryz.pinned (.plain (OpenSpec.ofChange sumfileMatchesSpec)) sumfileMatchesCard

/-- THE TIED CARD OF 'mewslaw5.SumfileFirst'. -/
def sumfileFirstCard : Claim7 := { stood := { row := sumfileFirstRow, standIns := [], harness := (true, "8da9916d2aa6454a3b18c841006521a04fd10ccc845f506b72b1b135e1693f1f"), looks := true }, kinds := [], alts := [], laidByText := true, laidKinds := [.data, .data, .data, .data, .sentinel, .sentinel, .pinned], laidTests := true, laidLooks := .later }
def SumfileFirstCardSaid : Prop := Claim7.holds Tryz.pinned (.plain (OpenSpec.ofChange sumfileFirstSpec)) sumfileFirstCard

/-- THE TIED CARD OF 'mewslaw5.SumfileVendors'. -/
def sumfileVendorsCard : Claim7 := { stood := { row := sumfileVendorsRow, standIns := [], harness := (true, "8da9916d2aa6454a3b18c841006521a04fd10ccc845f506b72b1b135e1693f1f"), looks := true }, kinds := [], alts := [], laidByText := true, laidKinds := [.data, .data, .data, .data, .sentinel, .sentinel, .pinned], laidTests := true, laidLooks := .later }
def SumfileVendorsCardSaid : Prop := Claim7.holds Tryz.pinned (.plain (OpenSpec.ofChange sumfileVendorsSpec)) sumfileVendorsCard

/-- THE TIED CARD OF 'mewslaw5.SumfileBack'. -/
def sumfileBackCard : Claim7 := { stood := { row := sumfileBackRow, standIns := [], harness := (true, "8da9916d2aa6454a3b18c841006521a04fd10ccc845f506b72b1b135e1693f1f"), looks := true }, kinds := [], alts := [], laidByText := true, laidKinds := [.data, .data, .data, .data, .sentinel, .sentinel, .pinned], laidTests := true, laidLooks := .later }
def SumfileBackCardSaid : Prop := Claim7.holds Tryz.pinned (.plain (OpenSpec.ofChange sumfileBackSpec)) sumfileBackCard

/-- THE SECOND FORM's CARD OF 'mewslaw5.SumfileMerges'. -/
def sumfileMergesUptoCard : Claim7 := { stood := { row := sumfileMergesUptoRow, standIns := [], harness := (true, "8da9916d2aa6454a3b18c841006521a04fd10ccc845f506b72b1b135e1693f1f"), looks := true }, kinds := [], alts := [], laidByText := true, laidKinds := [.data, .data, .data, .data, .sentinel, .sentinel, .pinned], laidTests := true, laidLooks := .later }
def SumfileMergesUptoCardSaid : Prop := Claim7.holds Tryz.pinned (.plain (OpenSpec.upto sumfileMergesSpec)) sumfileMergesUptoCard

/-- THE SECOND FORM's CARD OF 'mewslaw5.SumfileMerged'. -/
def sumfileMergedUptoCard : Claim7 := { stood := { row := sumfileMergedUptoRow, standIns := [], harness := (true, "8da9916d2aa6454a3b18c841006521a04fd10ccc845f506b72b1b135e1693f1f"), looks := true }, kinds := [], alts := [], laidByText := true, laidKinds := [.data, .data, .data, .data, .sentinel, .sentinel, .pinned], laidTests := true, laidLooks := .later }
def SumfileMergedUptoCardSaid : Prop := Claim7.holds Tryz.pinned (.plain (OpenSpec.upto sumfileMergedSpec)) sumfileMergedUptoCard

/-- THE SECOND FORM's CARD OF 'mewslaw5.SumfileLocks'. -/
def sumfileLocksUptoCard : Claim7 := { stood := { row := sumfileLocksUptoRow, standIns := [], harness := (true, "8da9916d2aa6454a3b18c841006521a04fd10ccc845f506b72b1b135e1693f1f"), looks := true }, kinds := [], alts := [], laidByText := true, laidKinds := [.data, .data, .data, .data, .sentinel, .sentinel, .pinned], laidTests := true, laidLooks := .later }
def SumfileLocksUptoCardSaid : Prop := Claim7.holds Tryz.pinned (.plain (OpenSpec.upto sumfileLocksSpec)) sumfileLocksUptoCard

/-- THE SECOND FORM's CARD OF 'mewslaw5.SumfileFronts'. -/
def sumfileFrontsUptoCard : Claim7 := { stood := { row := sumfileFrontsUptoRow, standIns := [], harness := (true, "8da9916d2aa6454a3b18c841006521a04fd10ccc845f506b72b1b135e1693f1f"), looks := true }, kinds := [], alts := [], laidByText := true, laidKinds := [.data, .data, .data, .data, .sentinel, .sentinel, .pinned], laidTests := true, laidLooks := .later }
def SumfileFrontsUptoCardSaid : Prop := Claim7.holds Tryz.pinned (.plain (OpenSpec.upto sumfileFrontsSpec)) sumfileFrontsUptoCard

/-- THE SECOND FORM's CARD OF 'mewslaw5.SumfileMatches'. -/
def sumfileMatchesUptoCard : Claim7 := { stood := { row := sumfileMatchesUptoRow, standIns := [], harness := (true, "8da9916d2aa6454a3b18c841006521a04fd10ccc845f506b72b1b135e1693f1f"), looks := true }, kinds := [], alts := [], laidByText := true, laidKinds := [.data, .data, .data, .data, .sentinel, .sentinel, .pinned], laidTests := true, laidLooks := .later }
def SumfileMatchesUptoCardSaid : Prop := Claim7.holds Tryz.pinned (.plain (OpenSpec.upto sumfileMatchesSpec)) sumfileMatchesUptoCard

/-- THE SECOND FORM's CARD OF 'mewslaw5.SumfileFirst'. -/
def sumfileFirstUptoCard : Claim7 := { stood := { row := sumfileFirstUptoRow, standIns := [], harness := (true, "8da9916d2aa6454a3b18c841006521a04fd10ccc845f506b72b1b135e1693f1f"), looks := true }, kinds := [], alts := [], laidByText := true, laidKinds := [.data, .data, .data, .data, .sentinel, .sentinel, .pinned], laidTests := true, laidLooks := .later }
def SumfileFirstUptoCardSaid : Prop := Claim7.holds Tryz.pinned (.plain (OpenSpec.upto sumfileFirstSpec)) sumfileFirstUptoCard

/-- THE SECOND FORM's CARD OF 'mewslaw5.SumfileVendors'. -/
def sumfileVendorsUptoCard : Claim7 := { stood := { row := sumfileVendorsUptoRow, standIns := [], harness := (true, "8da9916d2aa6454a3b18c841006521a04fd10ccc845f506b72b1b135e1693f1f"), looks := true }, kinds := [], alts := [], laidByText := true, laidKinds := [.data, .data, .data, .data, .sentinel, .sentinel, .pinned], laidTests := true, laidLooks := .later }
def SumfileVendorsUptoCardSaid : Prop := Claim7.holds Tryz.pinned (.plain (OpenSpec.upto sumfileVendorsSpec)) sumfileVendorsUptoCard

/-- THE SECOND FORM's CARD OF 'mewslaw5.SumfileBack'. -/
def sumfileBackUptoCard : Claim7 := { stood := { row := sumfileBackUptoRow, standIns := [], harness := (true, "8da9916d2aa6454a3b18c841006521a04fd10ccc845f506b72b1b135e1693f1f"), looks := true }, kinds := [], alts := [], laidByText := true, laidKinds := [.data, .data, .data, .data, .sentinel, .sentinel, .pinned], laidTests := true, laidLooks := .later }
def SumfileBackUptoCardSaid : Prop := Claim7.holds Tryz.pinned (.plain (OpenSpec.upto sumfileBackSpec)) sumfileBackUptoCard
end Rows
end Go.Proofs.YtoofpdaplnjmdaaGreatDoor
