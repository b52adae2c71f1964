/-
  DERIVED. GIVEN WITH THE SEED: THE CARDS: each row of YtmikahmnomfacaaDoorRows.lean that lists a variable, with what it lists TIED to the program's text (the seventh form; the later family's looks); each row that meets fmt, with fmt's text TOLD by the authors' own Lean function (tested against real Go, not proved from fmt's source: count such statements apart). THE CARD IS WHAT COUNTS. Prove the row's statement (the work); the ties are given (YtmikahmnomfacaaDoorTie.lean); close each card by the builder's one call (the guide's Derived/Test/ToyasCard.lean, 'card_holds'). Laid BY PROGRAM, IN A SANDBOX (cutbox-door.mjs). By AI agents, Wed Nov 11 2026. No macro, syntax, notation, axiom, sorry.
-/
import Derived.Test.YtmikahmnomfacaaDoorRows
import GoSem.ClaimSeven
namespace Go.Proofs.YtmikahmnomfacaaDoor
namespace Rows

/-- THE TIED CARD OF 'mewslaw7.TlogPaths'. -/
def tlogPathsCard : Claim7 := { stood := { row := tlogPathsRow, standIns := [], harness := (true, "7aecf58a3f71c34d48549f63715876d69aa686206bf645f2b9adc420c3441b42"), looks := true }, kinds := [], alts := [], laidByText := true, laidKinds := [.data, .data, .data, .data, .sentinel, .sentinel, .pinned], laidTests := true, laidLooks := .later }
def TlogPathsCardSaid : Prop := Claim7.holds Tryd.pinned (.plain (OpenSpec.ofChange tlogPathsSpec)) tlogPathsCard

/-- THE SECOND FORM's CARD OF 'mewslaw7.TlogPaths'. -/
def tlogPathsUptoCard : Claim7 := { stood := { row := tlogPathsUptoRow, standIns := [], harness := (true, "7aecf58a3f71c34d48549f63715876d69aa686206bf645f2b9adc420c3441b42"), looks := true }, kinds := [], alts := [], laidByText := true, laidKinds := [.data, .data, .data, .data, .sentinel, .sentinel, .pinned], laidTests := true, laidLooks := .later }
def TlogPathsUptoCardSaid : Prop := Claim7.holds Tryd.pinned (.plain (OpenSpec.upto tlogPathsSpec)) tlogPathsUptoCard
end Rows
end Go.Proofs.YtmikahmnomfacaaDoor
