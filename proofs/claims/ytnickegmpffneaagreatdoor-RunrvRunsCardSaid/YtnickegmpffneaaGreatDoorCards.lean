/-
  DERIVED. GIVEN WITH THE SEED: THE CARDS: each row of YtnickegmpffneaaGreatDoorRows.lean that lists a variable, with what it lists TIED to the program's text (the seventh form; the later family's looks); each row that meets fmt, with fmt's text TOLD by the authors' own Lean function (tested against real Go, not proved from fmt's source: count such statements apart). THE CARD IS WHAT COUNTS. Prove the row's statement (the work); the ties are given (YtnickegmpffneaaGreatDoorTie.lean); close each card by the builder's one call (the guide's Derived/Test/ToyasCard.lean, 'card_holds'). Laid BY PROGRAM, IN A SANDBOX (cutbox-door.mjs). By AI agents, Wed Nov 11 2026. No macro, syntax, notation, axiom, sorry.
-/
import Derived.Test.YtnickegmpffneaaGreatDoorRows
import GoSem.ClaimSeven
namespace Go.Proofs.YtnickegmpffneaaGreatDoor
namespace Rows

/-- THE TIED CARD OF 'foundrylaw27.RunrvSums'. -/
def runrvSumsCard : Claim7 := { stood := { row := runrvSumsRow, standIns := [], harness := (true, "0511f775aca554a0885d52cd8a3b8cd35f64d6ee83ba7cd02782ffe5ef00a223"), looks := true }, kinds := [], alts := [], laidByText := true, laidKinds := [.data, .data, .data, .data, .sentinel, .sentinel, .listed, .data, .pinned, .pinned], laidTests := true, laidLooks := .later }
def RunrvSumsCardSaid : Prop := Claim7.holds Tryz.pinned (.plain (OpenSpec.ofChange runrvSumsSpec)) runrvSumsCard

/-- THE TIED CARD OF 'foundrylaw27.RunrvSame'. -/
def runrvSameCard : Claim7 := { stood := { row := runrvSameRow, standIns := [], harness := (true, "0511f775aca554a0885d52cd8a3b8cd35f64d6ee83ba7cd02782ffe5ef00a223"), looks := true }, kinds := [], alts := [], laidByText := true, laidKinds := [.data, .data, .data, .data, .sentinel, .sentinel, .listed, .data, .pinned, .pinned], laidTests := true, laidLooks := .later }
def RunrvSameCardSaid : Prop := Claim7.holds Tryz.pinned (.plain (OpenSpec.ofChange runrvSameSpec)) runrvSameCard

/-- THE TIED CARD OF 'foundrylaw27.RunrvWide'. -/
def runrvWideCard : Claim7 := { stood := { row := runrvWideRow, standIns := [], harness := (true, "0511f775aca554a0885d52cd8a3b8cd35f64d6ee83ba7cd02782ffe5ef00a223"), looks := true }, kinds := [], alts := [], laidByText := true, laidKinds := [.data, .data, .data, .data, .sentinel, .sentinel, .listed, .data, .pinned, .pinned], laidTests := true, laidLooks := .later }
def RunrvWideCardSaid : Prop := Claim7.holds Tryz.pinned (.plain (OpenSpec.ofChange runrvWideSpec)) runrvWideCard

/-- THE TIED CARD OF 'foundrylaw27.RunrvRuns'. -/
def runrvRunsCard : Claim7 := { stood := { row := runrvRunsRow, standIns := [], harness := (true, "0511f775aca554a0885d52cd8a3b8cd35f64d6ee83ba7cd02782ffe5ef00a223"), looks := true }, kinds := [], alts := [], laidByText := true, laidKinds := [.data, .data, .data, .data, .sentinel, .sentinel, .listed, .data, .pinned, .pinned], laidTests := true, laidLooks := .later }
def RunrvRunsCardSaid : Prop := Claim7.holds Tryz.pinned (.plain (OpenSpec.ofChange runrvRunsSpec)) runrvRunsCard

/-- THE TIED CARD OF 'foundrylaw27.RunrvSteps'. -/
def runrvStepsCard : Claim7 := { stood := { row := runrvStepsRow, standIns := [], harness := (true, "0511f775aca554a0885d52cd8a3b8cd35f64d6ee83ba7cd02782ffe5ef00a223"), looks := true }, kinds := [], alts := [], laidByText := true, laidKinds := [.data, .data, .data, .data, .sentinel, .sentinel, .listed, .data, .pinned, .pinned], laidTests := true, laidLooks := .later }
def RunrvStepsCardSaid : Prop := Claim7.holds Tryz.pinned (.plain (OpenSpec.ofChange runrvStepsSpec)) runrvStepsCard

/-- THE SECOND FORM's CARD OF 'foundrylaw27.RunrvSums'. -/
def runrvSumsUptoCard : Claim7 := { stood := { row := runrvSumsUptoRow, standIns := [], harness := (true, "0511f775aca554a0885d52cd8a3b8cd35f64d6ee83ba7cd02782ffe5ef00a223"), looks := true }, kinds := [], alts := [], laidByText := true, laidKinds := [.data, .data, .data, .data, .sentinel, .sentinel, .listed, .data, .pinned, .pinned], laidTests := true, laidLooks := .later }
def RunrvSumsUptoCardSaid : Prop := Claim7.holds Tryz.pinned (.plain (OpenSpec.upto runrvSumsSpec)) runrvSumsUptoCard

/-- THE SECOND FORM's CARD OF 'foundrylaw27.RunrvSame'. -/
def runrvSameUptoCard : Claim7 := { stood := { row := runrvSameUptoRow, standIns := [], harness := (true, "0511f775aca554a0885d52cd8a3b8cd35f64d6ee83ba7cd02782ffe5ef00a223"), looks := true }, kinds := [], alts := [], laidByText := true, laidKinds := [.data, .data, .data, .data, .sentinel, .sentinel, .listed, .data, .pinned, .pinned], laidTests := true, laidLooks := .later }
def RunrvSameUptoCardSaid : Prop := Claim7.holds Tryz.pinned (.plain (OpenSpec.upto runrvSameSpec)) runrvSameUptoCard

/-- THE SECOND FORM's CARD OF 'foundrylaw27.RunrvWide'. -/
def runrvWideUptoCard : Claim7 := { stood := { row := runrvWideUptoRow, standIns := [], harness := (true, "0511f775aca554a0885d52cd8a3b8cd35f64d6ee83ba7cd02782ffe5ef00a223"), looks := true }, kinds := [], alts := [], laidByText := true, laidKinds := [.data, .data, .data, .data, .sentinel, .sentinel, .listed, .data, .pinned, .pinned], laidTests := true, laidLooks := .later }
def RunrvWideUptoCardSaid : Prop := Claim7.holds Tryz.pinned (.plain (OpenSpec.upto runrvWideSpec)) runrvWideUptoCard

/-- THE SECOND FORM's CARD OF 'foundrylaw27.RunrvRuns'. -/
def runrvRunsUptoCard : Claim7 := { stood := { row := runrvRunsUptoRow, standIns := [], harness := (true, "0511f775aca554a0885d52cd8a3b8cd35f64d6ee83ba7cd02782ffe5ef00a223"), looks := true }, kinds := [], alts := [], laidByText := true, laidKinds := [.data, .data, .data, .data, .sentinel, .sentinel, .listed, .data, .pinned, .pinned], laidTests := true, laidLooks := .later }
def RunrvRunsUptoCardSaid : Prop := Claim7.holds Tryz.pinned (.plain (OpenSpec.upto runrvRunsSpec)) runrvRunsUptoCard

/-- THE SECOND FORM's CARD OF 'foundrylaw27.RunrvSteps'. -/
def runrvStepsUptoCard : Claim7 := { stood := { row := runrvStepsUptoRow, standIns := [], harness := (true, "0511f775aca554a0885d52cd8a3b8cd35f64d6ee83ba7cd02782ffe5ef00a223"), looks := true }, kinds := [], alts := [], laidByText := true, laidKinds := [.data, .data, .data, .data, .sentinel, .sentinel, .listed, .data, .pinned, .pinned], laidTests := true, laidLooks := .later }
def RunrvStepsUptoCardSaid : Prop := Claim7.holds Tryz.pinned (.plain (OpenSpec.upto runrvStepsSpec)) runrvStepsUptoCard
end Rows
end Go.Proofs.YtnickegmpffneaaGreatDoor
