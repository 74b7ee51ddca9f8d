/-
  DERIVED. GIVEN WITH THE SEED: THE CARDS: each row of YtnhmelmmdcaldaaGreatDoorRows.lean that lists a variable, with what it lists TIED to the program's text (the seventh form; the later family's looks); each row that meets fmt, with fmt's text TOLD by the authors' own Lean function (tested against real Go, not proved from fmt's source: count such statements apart). THE CARD IS WHAT COUNTS. Prove the row's statement (the work); the ties are given (YtnhmelmmdcaldaaGreatDoorTie.lean); close each card by the builder's one call (the guide's Derived/Test/ToyasCard.lean, 'card_holds'). Laid BY PROGRAM, IN A SANDBOX (cutbox-door.mjs). By AI agents, Wed Nov 11 2026. No macro, syntax, notation, axiom, sorry.
-/
import Derived.Test.YtnhmelmmdcaldaaGreatDoorRows
import GoSem.ClaimSeven
namespace Go.Proofs.YtnhmelmmdcaldaaGreatDoor
namespace Rows

/-- THE TIED CARD OF 'foundrylaw29.RunamdHolds'. -/
def runamdHoldsCard : Claim7 := { stood := { row := runamdHoldsRow, standIns := [], harness := (true, "a0707abc0b8ff319367caf3d9f9e1a0e7c6cec2acaed8fd6b544532c1793b7b7"), looks := true }, kinds := [], alts := [], laidByText := true, laidKinds := [.data, .data, .data, .data, .sentinel, .sentinel, .listed, .data, .pinned, .pinned], laidTests := true, laidLooks := .later }
def RunamdHoldsCardSaid : Prop := Claim7.holds Tryz.pinned (.plain (OpenSpec.ofChange runamdHoldsSpec)) runamdHoldsCard

/-- THE TIED CARD OF 'foundrylaw29.RunamdSums'. -/
def runamdSumsCard : Claim7 := { stood := { row := runamdSumsRow, standIns := [], harness := (true, "a0707abc0b8ff319367caf3d9f9e1a0e7c6cec2acaed8fd6b544532c1793b7b7"), looks := true }, kinds := [], alts := [], laidByText := true, laidKinds := [.data, .data, .data, .data, .sentinel, .sentinel, .listed, .data, .pinned, .pinned], laidTests := true, laidLooks := .later }
def RunamdSumsCardSaid : Prop := Claim7.holds Tryz.pinned (.plain (OpenSpec.ofChange runamdSumsSpec)) runamdSumsCard

/-- THE TIED CARD OF 'foundrylaw29.RunamdPlaces'. -/
def runamdPlacesCard : Claim7 := { stood := { row := runamdPlacesRow, standIns := [], harness := (true, "a0707abc0b8ff319367caf3d9f9e1a0e7c6cec2acaed8fd6b544532c1793b7b7"), looks := true }, kinds := [], alts := [], laidByText := true, laidKinds := [.data, .data, .data, .data, .sentinel, .sentinel, .listed, .data, .pinned, .pinned], laidTests := true, laidLooks := .later }
def RunamdPlacesCardSaid : Prop := Claim7.holds Tryz.pinned (.plain (OpenSpec.ofChange runamdPlacesSpec)) runamdPlacesCard

/-- THE TIED CARD OF 'foundrylaw29.RunamdSigned'. -/
def runamdSignedCard : Claim7 := { stood := { row := runamdSignedRow, standIns := [], harness := (true, "a0707abc0b8ff319367caf3d9f9e1a0e7c6cec2acaed8fd6b544532c1793b7b7"), looks := true }, kinds := [], alts := [], laidByText := true, laidKinds := [.data, .data, .data, .data, .sentinel, .sentinel, .listed, .data, .pinned, .pinned], laidTests := true, laidLooks := .later }
def RunamdSignedCardSaid : Prop := Claim7.holds Tryz.pinned (.plain (OpenSpec.ofChange runamdSignedSpec)) runamdSignedCard

/-- THE SECOND FORM's CARD OF 'foundrylaw29.RunamdHolds'. -/
def runamdHoldsUptoCard : Claim7 := { stood := { row := runamdHoldsUptoRow, standIns := [], harness := (true, "a0707abc0b8ff319367caf3d9f9e1a0e7c6cec2acaed8fd6b544532c1793b7b7"), looks := true }, kinds := [], alts := [], laidByText := true, laidKinds := [.data, .data, .data, .data, .sentinel, .sentinel, .listed, .data, .pinned, .pinned], laidTests := true, laidLooks := .later }
def RunamdHoldsUptoCardSaid : Prop := Claim7.holds Tryz.pinned (.plain (OpenSpec.upto runamdHoldsSpec)) runamdHoldsUptoCard

/-- THE SECOND FORM's CARD OF 'foundrylaw29.RunamdSums'. -/
def runamdSumsUptoCard : Claim7 := { stood := { row := runamdSumsUptoRow, standIns := [], harness := (true, "a0707abc0b8ff319367caf3d9f9e1a0e7c6cec2acaed8fd6b544532c1793b7b7"), looks := true }, kinds := [], alts := [], laidByText := true, laidKinds := [.data, .data, .data, .data, .sentinel, .sentinel, .listed, .data, .pinned, .pinned], laidTests := true, laidLooks := .later }
def RunamdSumsUptoCardSaid : Prop := Claim7.holds Tryz.pinned (.plain (OpenSpec.upto runamdSumsSpec)) runamdSumsUptoCard

/-- THE SECOND FORM's CARD OF 'foundrylaw29.RunamdPlaces'. -/
def runamdPlacesUptoCard : Claim7 := { stood := { row := runamdPlacesUptoRow, standIns := [], harness := (true, "a0707abc0b8ff319367caf3d9f9e1a0e7c6cec2acaed8fd6b544532c1793b7b7"), looks := true }, kinds := [], alts := [], laidByText := true, laidKinds := [.data, .data, .data, .data, .sentinel, .sentinel, .listed, .data, .pinned, .pinned], laidTests := true, laidLooks := .later }
def RunamdPlacesUptoCardSaid : Prop := Claim7.holds Tryz.pinned (.plain (OpenSpec.upto runamdPlacesSpec)) runamdPlacesUptoCard

/-- THE SECOND FORM's CARD OF 'foundrylaw29.RunamdSigned'. -/
def runamdSignedUptoCard : Claim7 := { stood := { row := runamdSignedUptoRow, standIns := [], harness := (true, "a0707abc0b8ff319367caf3d9f9e1a0e7c6cec2acaed8fd6b544532c1793b7b7"), looks := true }, kinds := [], alts := [], laidByText := true, laidKinds := [.data, .data, .data, .data, .sentinel, .sentinel, .listed, .data, .pinned, .pinned], laidTests := true, laidLooks := .later }
def RunamdSignedUptoCardSaid : Prop := Claim7.holds Tryz.pinned (.plain (OpenSpec.upto runamdSignedSpec)) runamdSignedUptoCard
end Rows
end Go.Proofs.YtnhmelmmdcaldaaGreatDoor
