/-
  DERIVED. GIVEN WITH THE SEED: THE CARDS: each row of YtmbbnhcbphkniaaGreatDoorRows.lean that lists a variable, with what it lists TIED to the program's text (the seventh form; the later family's looks); each row that meets fmt, with fmt's text TOLD by the authors' own Lean function (tested against real Go, not proved from fmt's source: count such statements apart). THE CARD IS WHAT COUNTS. Prove the row's statement (the work); the ties are given (YtmbbnhcbphkniaaGreatDoorTie.lean); close each card by the builder's one call (the guide's Derived/Test/ToyasCard.lean, 'card_holds'). Laid BY PROGRAM, IN A SANDBOX (cutbox-door.mjs). By AI agents, Wed Nov 11 2026. No macro, syntax, notation, axiom, sorry.
-/
import Derived.Test.YtmbbnhcbphkniaaGreatDoorRows
import GoSem.ClaimSeven
namespace Go.Proofs.YtmbbnhcbphkniaaGreatDoor
namespace Rows

/-- THE TIED CARD OF 'foundrylaw28.RunarmHolds'. -/
def runarmHoldsCard : Claim7 := { stood := { row := runarmHoldsRow, standIns := [], harness := (true, "70e77ff7f54f02c6b161b9aa2360d94826b4a206f5164ee53cd91adc443fd4e7"), looks := true }, kinds := [], alts := [], laidByText := true, laidKinds := [.data, .data, .data, .data, .sentinel, .sentinel, .listed, .data, .pinned, .pinned], laidTests := true, laidLooks := .later }
def RunarmHoldsCardSaid : Prop := Claim7.holds Tryz.pinned (.plain (OpenSpec.ofChange runarmHoldsSpec)) runarmHoldsCard

/-- THE TIED CARD OF 'foundrylaw28.RunarmSums'. -/
def runarmSumsCard : Claim7 := { stood := { row := runarmSumsRow, standIns := [], harness := (true, "70e77ff7f54f02c6b161b9aa2360d94826b4a206f5164ee53cd91adc443fd4e7"), looks := true }, kinds := [], alts := [], laidByText := true, laidKinds := [.data, .data, .data, .data, .sentinel, .sentinel, .listed, .data, .pinned, .pinned], laidTests := true, laidLooks := .later }
def RunarmSumsCardSaid : Prop := Claim7.holds Tryz.pinned (.plain (OpenSpec.ofChange runarmSumsSpec)) runarmSumsCard

/-- THE TIED CARD OF 'foundrylaw28.RunarmMoves'. -/
def runarmMovesCard : Claim7 := { stood := { row := runarmMovesRow, standIns := [], harness := (true, "70e77ff7f54f02c6b161b9aa2360d94826b4a206f5164ee53cd91adc443fd4e7"), looks := true }, kinds := [], alts := [], laidByText := true, laidKinds := [.data, .data, .data, .data, .sentinel, .sentinel, .listed, .data, .pinned, .pinned], laidTests := true, laidLooks := .later }
def RunarmMovesCardSaid : Prop := Claim7.holds Tryz.pinned (.plain (OpenSpec.ofChange runarmMovesSpec)) runarmMovesCard

/-- THE TIED CARD OF 'foundrylaw28.RunarmPairs'. -/
def runarmPairsCard : Claim7 := { stood := { row := runarmPairsRow, standIns := [], harness := (true, "70e77ff7f54f02c6b161b9aa2360d94826b4a206f5164ee53cd91adc443fd4e7"), looks := true }, kinds := [], alts := [], laidByText := true, laidKinds := [.data, .data, .data, .data, .sentinel, .sentinel, .listed, .data, .pinned, .pinned], laidTests := true, laidLooks := .later }
def RunarmPairsCardSaid : Prop := Claim7.holds Tryz.pinned (.plain (OpenSpec.ofChange runarmPairsSpec)) runarmPairsCard

/-- THE TIED CARD OF 'foundrylaw28.RunarmSame'. -/
def runarmSameCard : Claim7 := { stood := { row := runarmSameRow, standIns := [], harness := (true, "70e77ff7f54f02c6b161b9aa2360d94826b4a206f5164ee53cd91adc443fd4e7"), looks := true }, kinds := [], alts := [], laidByText := true, laidKinds := [.data, .data, .data, .data, .sentinel, .sentinel, .listed, .data, .pinned, .pinned], laidTests := true, laidLooks := .later }
def RunarmSameCardSaid : Prop := Claim7.holds Tryz.pinned (.plain (OpenSpec.ofChange runarmSameSpec)) runarmSameCard

/-- THE TIED CARD OF 'foundrylaw28.RunarmRuns'. -/
def runarmRunsCard : Claim7 := { stood := { row := runarmRunsRow, standIns := [], harness := (true, "70e77ff7f54f02c6b161b9aa2360d94826b4a206f5164ee53cd91adc443fd4e7"), looks := true }, kinds := [], alts := [], laidByText := true, laidKinds := [.data, .data, .data, .data, .sentinel, .sentinel, .listed, .data, .pinned, .pinned], laidTests := true, laidLooks := .later }
def RunarmRunsCardSaid : Prop := Claim7.holds Tryz.pinned (.plain (OpenSpec.ofChange runarmRunsSpec)) runarmRunsCard

/-- THE TIED CARD OF 'foundrylaw28.RunarmSteps'. -/
def runarmStepsCard : Claim7 := { stood := { row := runarmStepsRow, standIns := [], harness := (true, "70e77ff7f54f02c6b161b9aa2360d94826b4a206f5164ee53cd91adc443fd4e7"), looks := true }, kinds := [], alts := [], laidByText := true, laidKinds := [.data, .data, .data, .data, .sentinel, .sentinel, .listed, .data, .pinned, .pinned], laidTests := true, laidLooks := .later }
def RunarmStepsCardSaid : Prop := Claim7.holds Tryz.pinned (.plain (OpenSpec.ofChange runarmStepsSpec)) runarmStepsCard

/-- THE SECOND FORM's CARD OF 'foundrylaw28.RunarmHolds'. -/
def runarmHoldsUptoCard : Claim7 := { stood := { row := runarmHoldsUptoRow, standIns := [], harness := (true, "70e77ff7f54f02c6b161b9aa2360d94826b4a206f5164ee53cd91adc443fd4e7"), looks := true }, kinds := [], alts := [], laidByText := true, laidKinds := [.data, .data, .data, .data, .sentinel, .sentinel, .listed, .data, .pinned, .pinned], laidTests := true, laidLooks := .later }
def RunarmHoldsUptoCardSaid : Prop := Claim7.holds Tryz.pinned (.plain (OpenSpec.upto runarmHoldsSpec)) runarmHoldsUptoCard

/-- THE SECOND FORM's CARD OF 'foundrylaw28.RunarmSums'. -/
def runarmSumsUptoCard : Claim7 := { stood := { row := runarmSumsUptoRow, standIns := [], harness := (true, "70e77ff7f54f02c6b161b9aa2360d94826b4a206f5164ee53cd91adc443fd4e7"), looks := true }, kinds := [], alts := [], laidByText := true, laidKinds := [.data, .data, .data, .data, .sentinel, .sentinel, .listed, .data, .pinned, .pinned], laidTests := true, laidLooks := .later }
def RunarmSumsUptoCardSaid : Prop := Claim7.holds Tryz.pinned (.plain (OpenSpec.upto runarmSumsSpec)) runarmSumsUptoCard

/-- THE SECOND FORM's CARD OF 'foundrylaw28.RunarmMoves'. -/
def runarmMovesUptoCard : Claim7 := { stood := { row := runarmMovesUptoRow, standIns := [], harness := (true, "70e77ff7f54f02c6b161b9aa2360d94826b4a206f5164ee53cd91adc443fd4e7"), looks := true }, kinds := [], alts := [], laidByText := true, laidKinds := [.data, .data, .data, .data, .sentinel, .sentinel, .listed, .data, .pinned, .pinned], laidTests := true, laidLooks := .later }
def RunarmMovesUptoCardSaid : Prop := Claim7.holds Tryz.pinned (.plain (OpenSpec.upto runarmMovesSpec)) runarmMovesUptoCard

/-- THE SECOND FORM's CARD OF 'foundrylaw28.RunarmPairs'. -/
def runarmPairsUptoCard : Claim7 := { stood := { row := runarmPairsUptoRow, standIns := [], harness := (true, "70e77ff7f54f02c6b161b9aa2360d94826b4a206f5164ee53cd91adc443fd4e7"), looks := true }, kinds := [], alts := [], laidByText := true, laidKinds := [.data, .data, .data, .data, .sentinel, .sentinel, .listed, .data, .pinned, .pinned], laidTests := true, laidLooks := .later }
def RunarmPairsUptoCardSaid : Prop := Claim7.holds Tryz.pinned (.plain (OpenSpec.upto runarmPairsSpec)) runarmPairsUptoCard

/-- THE SECOND FORM's CARD OF 'foundrylaw28.RunarmSame'. -/
def runarmSameUptoCard : Claim7 := { stood := { row := runarmSameUptoRow, standIns := [], harness := (true, "70e77ff7f54f02c6b161b9aa2360d94826b4a206f5164ee53cd91adc443fd4e7"), looks := true }, kinds := [], alts := [], laidByText := true, laidKinds := [.data, .data, .data, .data, .sentinel, .sentinel, .listed, .data, .pinned, .pinned], laidTests := true, laidLooks := .later }
def RunarmSameUptoCardSaid : Prop := Claim7.holds Tryz.pinned (.plain (OpenSpec.upto runarmSameSpec)) runarmSameUptoCard

/-- THE SECOND FORM's CARD OF 'foundrylaw28.RunarmRuns'. -/
def runarmRunsUptoCard : Claim7 := { stood := { row := runarmRunsUptoRow, standIns := [], harness := (true, "70e77ff7f54f02c6b161b9aa2360d94826b4a206f5164ee53cd91adc443fd4e7"), looks := true }, kinds := [], alts := [], laidByText := true, laidKinds := [.data, .data, .data, .data, .sentinel, .sentinel, .listed, .data, .pinned, .pinned], laidTests := true, laidLooks := .later }
def RunarmRunsUptoCardSaid : Prop := Claim7.holds Tryz.pinned (.plain (OpenSpec.upto runarmRunsSpec)) runarmRunsUptoCard

/-- THE SECOND FORM's CARD OF 'foundrylaw28.RunarmSteps'. -/
def runarmStepsUptoCard : Claim7 := { stood := { row := runarmStepsUptoRow, standIns := [], harness := (true, "70e77ff7f54f02c6b161b9aa2360d94826b4a206f5164ee53cd91adc443fd4e7"), looks := true }, kinds := [], alts := [], laidByText := true, laidKinds := [.data, .data, .data, .data, .sentinel, .sentinel, .listed, .data, .pinned, .pinned], laidTests := true, laidLooks := .later }
def RunarmStepsUptoCardSaid : Prop := Claim7.holds Tryz.pinned (.plain (OpenSpec.upto runarmStepsSpec)) runarmStepsUptoCard
end Rows
end Go.Proofs.YtmbbnhcbphkniaaGreatDoor
