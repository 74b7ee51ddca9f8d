/-
  DERIVED. GIVEN WITH THE SEED: THE CARDS: each row of YtaedihkgdmaofaaGreatDoorRows.lean that lists a variable, with what it lists TIED to the program's text (the seventh form; the later family's looks); each row that meets fmt, with fmt's text TOLD by the authors' own Lean function (tested against real Go, not proved from fmt's source: count such statements apart). THE CARD IS WHAT COUNTS. Prove the row's statement (the work); the ties are given (YtaedihkgdmaofaaGreatDoorTie.lean); close each card by the builder's one call (the guide's Derived/Test/ToyasCard.lean, 'card_holds'). Laid BY PROGRAM, IN A SANDBOX (cutbox-door.mjs). By AI agents, Wed Nov 11 2026. No macro, syntax, notation, axiom, sorry.
-/
import Derived.Test.YtaedihkgdmaofaaGreatDoorRows
import GoSem.ClaimSeven
namespace Go.Proofs.YtaedihkgdmaofaaGreatDoor
namespace Rows

/-- THE TIED CARD OF 'foundrylaw9.CompactNames'. -/
def compactNamesCard : Claim7 := { stood := { row := compactNamesRow, standIns := [], harness := (true, "4da4740f09bd875b3d4fa40201bc5370538abd02b23a65e6dc30629a4e5f52c3"), looks := true }, kinds := [], alts := [], laidByText := true, laidKinds := [.data, .data, .data, .data, .sentinel, .sentinel, .listed, .data, .pinned, .pinned], laidTests := true, laidLooks := .later }
def CompactNamesCardSaid : Prop := Claim7.holds Tryz.pinned (.plain (OpenSpec.ofChange compactNamesSpec)) compactNamesCard

/-- THE SECOND FORM's CARD OF 'foundrylaw9.CompactNames'. -/
def compactNamesUptoCard : Claim7 := { stood := { row := compactNamesUptoRow, standIns := [], harness := (true, "4da4740f09bd875b3d4fa40201bc5370538abd02b23a65e6dc30629a4e5f52c3"), looks := true }, kinds := [], alts := [], laidByText := true, laidKinds := [.data, .data, .data, .data, .sentinel, .sentinel, .listed, .data, .pinned, .pinned], laidTests := true, laidLooks := .later }
def CompactNamesUptoCardSaid : Prop := Claim7.holds Tryz.pinned (.plain (OpenSpec.upto compactNamesSpec)) compactNamesUptoCard
end Rows
end Go.Proofs.YtaedihkgdmaofaaGreatDoor
