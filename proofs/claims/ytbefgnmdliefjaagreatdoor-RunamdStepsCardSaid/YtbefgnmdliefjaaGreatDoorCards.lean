/-
  DERIVED. GIVEN WITH THE SEED: THE CARDS: each row of YtbefgnmdliefjaaGreatDoorRows.lean that lists a variable, with what it lists TIED to the program's text (the seventh form; the later family's looks); each row that meets fmt, with fmt's text TOLD by the authors' own Lean function (tested against real Go, not proved from fmt's source: count such statements apart). THE CARD IS WHAT COUNTS. Prove the row's statement (the work); the ties are given (YtbefgnmdliefjaaGreatDoorTie.lean); close each card by the builder's one call (the guide's Derived/Test/ToyasCard.lean, 'card_holds'). Laid BY PROGRAM, IN A SANDBOX (cutbox-door.mjs). By AI agents, Wed Nov 11 2026. No macro, syntax, notation, axiom, sorry.
-/
import Derived.Test.YtbefgnmdliefjaaGreatDoorRows
import GoSem.ClaimSeven
namespace Go.Proofs.YtbefgnmdliefjaaGreatDoor
namespace Rows

/-- THE TIED CARD OF 'foundrylaw29.RunamdSums'. -/
def runamdSumsCard : Claim7 := { stood := { row := runamdSumsRow, standIns := [], harness := (true, "54041a991d3d44796b696ed35db26e23b7128d1076ac82a4ffa278d70703160f"), looks := true }, kinds := [], alts := [], laidByText := true, laidKinds := [.data, .data, .data, .data, .sentinel, .sentinel, .listed, .data, .pinned, .pinned], laidTests := true, laidLooks := .later }
def RunamdSumsCardSaid : Prop := Claim7.holds Tryz.pinned (.plain (OpenSpec.ofChange runamdSumsSpec)) runamdSumsCard

/-- THE TIED CARD OF 'foundrylaw29.RunamdPlaces'. -/
def runamdPlacesCard : Claim7 := { stood := { row := runamdPlacesRow, standIns := [], harness := (true, "54041a991d3d44796b696ed35db26e23b7128d1076ac82a4ffa278d70703160f"), looks := true }, kinds := [], alts := [], laidByText := true, laidKinds := [.data, .data, .data, .data, .sentinel, .sentinel, .listed, .data, .pinned, .pinned], laidTests := true, laidLooks := .later }
def RunamdPlacesCardSaid : Prop := Claim7.holds Tryz.pinned (.plain (OpenSpec.ofChange runamdPlacesSpec)) runamdPlacesCard

/-- THE TIED CARD OF 'foundrylaw29.RunamdSigned'. -/
def runamdSignedCard : Claim7 := { stood := { row := runamdSignedRow, standIns := [], harness := (true, "54041a991d3d44796b696ed35db26e23b7128d1076ac82a4ffa278d70703160f"), looks := true }, kinds := [], alts := [], laidByText := true, laidKinds := [.data, .data, .data, .data, .sentinel, .sentinel, .listed, .data, .pinned, .pinned], laidTests := true, laidLooks := .later }
def RunamdSignedCardSaid : Prop := Claim7.holds Tryz.pinned (.plain (OpenSpec.ofChange runamdSignedSpec)) runamdSignedCard

/-- THE TIED CARD OF 'foundrylaw29.RunamdSame'. -/
def runamdSameCard : Claim7 := { stood := { row := runamdSameRow, standIns := [], harness := (true, "54041a991d3d44796b696ed35db26e23b7128d1076ac82a4ffa278d70703160f"), looks := true }, kinds := [], alts := [], laidByText := true, laidKinds := [.data, .data, .data, .data, .sentinel, .sentinel, .listed, .data, .pinned, .pinned], laidTests := true, laidLooks := .later }
def RunamdSameCardSaid : Prop := Claim7.holds Tryz.pinned (.plain (OpenSpec.ofChange runamdSameSpec)) runamdSameCard

/-- THE TIED CARD OF 'foundrylaw29.RunamdRuns'. -/
def runamdRunsCard : Claim7 := { stood := { row := runamdRunsRow, standIns := [], harness := (true, "54041a991d3d44796b696ed35db26e23b7128d1076ac82a4ffa278d70703160f"), looks := true }, kinds := [], alts := [], laidByText := true, laidKinds := [.data, .data, .data, .data, .sentinel, .sentinel, .listed, .data, .pinned, .pinned], laidTests := true, laidLooks := .later }
def RunamdRunsCardSaid : Prop := Claim7.holds Tryz.pinned (.plain (OpenSpec.ofChange runamdRunsSpec)) runamdRunsCard

/-- THE TIED CARD OF 'foundrylaw29.RunamdSteps'. -/
def runamdStepsCard : Claim7 := { stood := { row := runamdStepsRow, standIns := [], harness := (true, "54041a991d3d44796b696ed35db26e23b7128d1076ac82a4ffa278d70703160f"), looks := true }, kinds := [], alts := [], laidByText := true, laidKinds := [.data, .data, .data, .data, .sentinel, .sentinel, .listed, .data, .pinned, .pinned], laidTests := true, laidLooks := .later }
def RunamdStepsCardSaid : Prop := Claim7.holds Tryz.pinned (.plain (OpenSpec.ofChange runamdStepsSpec)) runamdStepsCard

/-- THE SECOND FORM's CARD OF 'foundrylaw29.RunamdSums'. -/
def runamdSumsUptoCard : Claim7 := { stood := { row := runamdSumsUptoRow, standIns := [], harness := (true, "54041a991d3d44796b696ed35db26e23b7128d1076ac82a4ffa278d70703160f"), looks := true }, kinds := [], alts := [], laidByText := true, laidKinds := [.data, .data, .data, .data, .sentinel, .sentinel, .listed, .data, .pinned, .pinned], laidTests := true, laidLooks := .later }
def RunamdSumsUptoCardSaid : Prop := Claim7.holds Tryz.pinned (.plain (OpenSpec.upto runamdSumsSpec)) runamdSumsUptoCard

/-- THE SECOND FORM's CARD OF 'foundrylaw29.RunamdPlaces'. -/
def runamdPlacesUptoCard : Claim7 := { stood := { row := runamdPlacesUptoRow, standIns := [], harness := (true, "54041a991d3d44796b696ed35db26e23b7128d1076ac82a4ffa278d70703160f"), looks := true }, kinds := [], alts := [], laidByText := true, laidKinds := [.data, .data, .data, .data, .sentinel, .sentinel, .listed, .data, .pinned, .pinned], laidTests := true, laidLooks := .later }
def RunamdPlacesUptoCardSaid : Prop := Claim7.holds Tryz.pinned (.plain (OpenSpec.upto runamdPlacesSpec)) runamdPlacesUptoCard

/-- THE SECOND FORM's CARD OF 'foundrylaw29.RunamdSigned'. -/
def runamdSignedUptoCard : Claim7 := { stood := { row := runamdSignedUptoRow, standIns := [], harness := (true, "54041a991d3d44796b696ed35db26e23b7128d1076ac82a4ffa278d70703160f"), looks := true }, kinds := [], alts := [], laidByText := true, laidKinds := [.data, .data, .data, .data, .sentinel, .sentinel, .listed, .data, .pinned, .pinned], laidTests := true, laidLooks := .later }
def RunamdSignedUptoCardSaid : Prop := Claim7.holds Tryz.pinned (.plain (OpenSpec.upto runamdSignedSpec)) runamdSignedUptoCard

/-- THE SECOND FORM's CARD OF 'foundrylaw29.RunamdSame'. -/
def runamdSameUptoCard : Claim7 := { stood := { row := runamdSameUptoRow, standIns := [], harness := (true, "54041a991d3d44796b696ed35db26e23b7128d1076ac82a4ffa278d70703160f"), looks := true }, kinds := [], alts := [], laidByText := true, laidKinds := [.data, .data, .data, .data, .sentinel, .sentinel, .listed, .data, .pinned, .pinned], laidTests := true, laidLooks := .later }
def RunamdSameUptoCardSaid : Prop := Claim7.holds Tryz.pinned (.plain (OpenSpec.upto runamdSameSpec)) runamdSameUptoCard

/-- THE SECOND FORM's CARD OF 'foundrylaw29.RunamdRuns'. -/
def runamdRunsUptoCard : Claim7 := { stood := { row := runamdRunsUptoRow, standIns := [], harness := (true, "54041a991d3d44796b696ed35db26e23b7128d1076ac82a4ffa278d70703160f"), looks := true }, kinds := [], alts := [], laidByText := true, laidKinds := [.data, .data, .data, .data, .sentinel, .sentinel, .listed, .data, .pinned, .pinned], laidTests := true, laidLooks := .later }
def RunamdRunsUptoCardSaid : Prop := Claim7.holds Tryz.pinned (.plain (OpenSpec.upto runamdRunsSpec)) runamdRunsUptoCard

/-- THE SECOND FORM's CARD OF 'foundrylaw29.RunamdSteps'. -/
def runamdStepsUptoCard : Claim7 := { stood := { row := runamdStepsUptoRow, standIns := [], harness := (true, "54041a991d3d44796b696ed35db26e23b7128d1076ac82a4ffa278d70703160f"), looks := true }, kinds := [], alts := [], laidByText := true, laidKinds := [.data, .data, .data, .data, .sentinel, .sentinel, .listed, .data, .pinned, .pinned], laidTests := true, laidLooks := .later }
def RunamdStepsUptoCardSaid : Prop := Claim7.holds Tryz.pinned (.plain (OpenSpec.upto runamdStepsSpec)) runamdStepsUptoCard
end Rows
end Go.Proofs.YtbefgnmdliefjaaGreatDoor
