/-
  DERIVED. GIVEN WITH THE SEED: THE CARDS: each row of YtmikahmnomfacaaGreatDoorRows.lean that lists a variable, with what it lists TIED to the program's text (the seventh form; the later family's looks); each row that meets fmt, with fmt's text TOLD by the authors' own Lean function (tested against real Go, not proved from fmt's source: count such statements apart). THE CARD IS WHAT COUNTS. Prove the row's statement (the work); the ties are given (YtmikahmnomfacaaGreatDoorTie.lean); close each card by the builder's one call (the guide's Derived/Test/ToyasCard.lean, 'card_holds'). Laid BY PROGRAM, IN A SANDBOX (cutbox-door.mjs). By AI agents, Wed Nov 11 2026. No macro, syntax, notation, axiom, sorry.
-/
import Derived.Test.YtmikahmnomfacaaGreatDoorRows
import GoSem.ClaimSeven
namespace Go.Proofs.YtmikahmnomfacaaGreatDoor
namespace Rows

/-- THE TIED CARD OF 'mewslaw7.TlogSound'. -/
def tlogSoundCard : Claim7 := { stood := { row := tlogSoundRow, standIns := [], harness := (true, "0c91d17d699d44b170a8bab08faca88c0c1c288eaeaf7bde5924b9db494b85c1"), looks := true }, kinds := [], alts := [], laidByText := true, laidKinds := [.data, .data, .data], laidTests := true, laidLooks := .later }
def TlogSoundCardSaid : Prop := Claim7.holds Tryz.pinned (.plain (OpenSpec.ofChange tlogSoundSpec)) tlogSoundCard

/-- THE TIED CARD OF 'mewslaw7.TlogTiled'. -/
def tlogTiledCard : Claim7 := { stood := { row := tlogTiledRow, standIns := [], harness := (true, "0c91d17d699d44b170a8bab08faca88c0c1c288eaeaf7bde5924b9db494b85c1"), looks := true }, kinds := [], alts := [], laidByText := true, laidKinds := [.data, .data, .data, .data, .sentinel, .sentinel, .pinned], laidTests := true, laidLooks := .later }
def TlogTiledCardSaid : Prop := Claim7.holds Tryz.pinned (.plain (OpenSpec.ofChange tlogTiledSpec)) tlogTiledCard

/-- THE TIED CARD OF 'mewslaw7.TlogTiles'. -/
def tlogTilesCard : Claim7 := { stood := { row := tlogTilesRow, standIns := [], harness := (true, "0c91d17d699d44b170a8bab08faca88c0c1c288eaeaf7bde5924b9db494b85c1"), looks := true }, kinds := [], alts := [], laidByText := true, laidKinds := [.data, .data, .data, .data, .sentinel, .sentinel, .pinned], laidTests := true, laidLooks := .later }
def TlogTilesCardSaid : Prop := Claim7.holds Tryz.pinned (.plain (OpenSpec.ofChange tlogTilesSpec)) tlogTilesCard

/-- THE SECOND FORM's CARD OF 'mewslaw7.TlogSound'. -/
def tlogSoundUptoCard : Claim7 := { stood := { row := tlogSoundUptoRow, standIns := [], harness := (true, "0c91d17d699d44b170a8bab08faca88c0c1c288eaeaf7bde5924b9db494b85c1"), looks := true }, kinds := [], alts := [], laidByText := true, laidKinds := [.data, .data, .data], laidTests := true, laidLooks := .later }
def TlogSoundUptoCardSaid : Prop := Claim7.holds Tryz.pinned (.plain (OpenSpec.upto tlogSoundSpec)) tlogSoundUptoCard

/-- THE SECOND FORM's CARD OF 'mewslaw7.TlogTiled'. -/
def tlogTiledUptoCard : Claim7 := { stood := { row := tlogTiledUptoRow, standIns := [], harness := (true, "0c91d17d699d44b170a8bab08faca88c0c1c288eaeaf7bde5924b9db494b85c1"), looks := true }, kinds := [], alts := [], laidByText := true, laidKinds := [.data, .data, .data, .data, .sentinel, .sentinel, .pinned], laidTests := true, laidLooks := .later }
def TlogTiledUptoCardSaid : Prop := Claim7.holds Tryz.pinned (.plain (OpenSpec.upto tlogTiledSpec)) tlogTiledUptoCard

/-- THE SECOND FORM's CARD OF 'mewslaw7.TlogTiles'. -/
def tlogTilesUptoCard : Claim7 := { stood := { row := tlogTilesUptoRow, standIns := [], harness := (true, "0c91d17d699d44b170a8bab08faca88c0c1c288eaeaf7bde5924b9db494b85c1"), looks := true }, kinds := [], alts := [], laidByText := true, laidKinds := [.data, .data, .data, .data, .sentinel, .sentinel, .pinned], laidTests := true, laidLooks := .later }
def TlogTilesUptoCardSaid : Prop := Claim7.holds Tryz.pinned (.plain (OpenSpec.upto tlogTilesSpec)) tlogTilesUptoCard
end Rows
end Go.Proofs.YtmikahmnomfacaaGreatDoor
