/-
  DERIVED. GIVEN WITH THE SEED: THE CARDS: each row of YtaedihkgdmaofaaDoorRows.lean that lists a variable, with what it lists TIED to the program's text (the seventh form; the later family's looks); each row that meets fmt, with fmt's text TOLD by the authors' own Lean function (tested against real Go, not proved from fmt's source: count such statements apart). THE CARD IS WHAT COUNTS. Prove the row's statement (the work); the ties are given (YtaedihkgdmaofaaDoorTie.lean); close each card by the builder's one call (the guide's Derived/Test/ToyasCard.lean, 'card_holds'). Laid BY PROGRAM, IN A SANDBOX (cutbox-door.mjs). By AI agents, Wed Nov 11 2026. No macro, syntax, notation, axiom, sorry.
-/
import Derived.Test.YtaedihkgdmaofaaDoorRows
import GoSem.ClaimSeven
namespace Go.Proofs.YtaedihkgdmaofaaDoor
namespace Rows

/-- THE TIED CARD OF 'foundrylaw9.CompactEncodes'. -/
def compactEncodesCard : Claim7 := { stood := { row := compactEncodesRow, standIns := [], harness := (true, "a69eb677bd633f3e6418184080b9c2f2c724136f53f59fbd62f10e2a9ce1f1da"), looks := true }, kinds := [], alts := [], laidByText := true, laidKinds := [.data, .data, .data, .sentinel, .sentinel, .listed, .data], laidTests := true, laidLooks := .later }
def CompactEncodesCardSaid : Prop := Claim7.holds Tryd.pinned (.plain (OpenSpec.ofChange compactEncodesSpec)) compactEncodesCard

/-- THE TIED CARD OF 'foundrylaw9.CompactDecodes'. -/
def compactDecodesCard : Claim7 := { stood := { row := compactDecodesRow, standIns := [], harness := (true, "a69eb677bd633f3e6418184080b9c2f2c724136f53f59fbd62f10e2a9ce1f1da"), looks := true }, kinds := [], alts := [], laidByText := true, laidKinds := [.data, .data, .data, .sentinel, .sentinel, .listed, .data], laidTests := true, laidLooks := .later }
def CompactDecodesCardSaid : Prop := Claim7.holds Tryd.pinned (.plain (OpenSpec.ofChange compactDecodesSpec)) compactDecodesCard

/-- THE TIED CARD OF 'foundrylaw9.CompactBack'. -/
def compactBackCard : Claim7 := { stood := { row := compactBackRow, standIns := [], harness := (true, "a69eb677bd633f3e6418184080b9c2f2c724136f53f59fbd62f10e2a9ce1f1da"), looks := true }, kinds := [], alts := [], laidByText := true, laidKinds := [.data, .data, .data, .sentinel, .sentinel, .listed, .data], laidTests := true, laidLooks := .later }
def CompactBackCardSaid : Prop := Claim7.holds Tryd.pinned (.plain (OpenSpec.ofChange compactBackSpec)) compactBackCard

/-- THE TIED CARD OF 'foundrylaw9.CompactWide'. -/
def compactWideCard : Claim7 := { stood := { row := compactWideRow, standIns := [], harness := (true, "a69eb677bd633f3e6418184080b9c2f2c724136f53f59fbd62f10e2a9ce1f1da"), looks := true }, kinds := [], alts := [], laidByText := true, laidKinds := [.data, .data, .data, .sentinel, .sentinel, .listed, .data], laidTests := true, laidLooks := .later }
def CompactWideCardSaid : Prop := Claim7.holds Tryd.pinned (.plain (OpenSpec.ofChange compactWideSpec)) compactWideCard

/-- THE TIED CARD OF 'foundrylaw9.CompactShort'. -/
def compactShortCard : Claim7 := { stood := { row := compactShortRow, standIns := [], harness := (true, "a69eb677bd633f3e6418184080b9c2f2c724136f53f59fbd62f10e2a9ce1f1da"), looks := true }, kinds := [], alts := [], laidByText := true, laidKinds := [.data, .data, .data, .sentinel, .sentinel, .listed, .data], laidTests := true, laidLooks := .later }
def CompactShortCardSaid : Prop := Claim7.holds Tryd.pinned (.plain (OpenSpec.ofChange compactShortSpec)) compactShortCard

/-- THE TIED CARD OF 'foundrylaw9.CompactWords'. -/
def compactWordsCard : Claim7 := { stood := { row := compactWordsRow, standIns := [], harness := (true, "a69eb677bd633f3e6418184080b9c2f2c724136f53f59fbd62f10e2a9ce1f1da"), looks := true }, kinds := [], alts := [], laidByText := true, laidKinds := [.data, .data, .data, .sentinel, .sentinel, .listed, .data], laidTests := true, laidLooks := .later }
def CompactWordsCardSaid : Prop := Claim7.holds Tryd.pinned (.plain (OpenSpec.ofChange compactWordsSpec)) compactWordsCard

/-- THE SECOND FORM's CARD OF 'foundrylaw9.CompactEncodes'. -/
def compactEncodesUptoCard : Claim7 := { stood := { row := compactEncodesUptoRow, standIns := [], harness := (true, "a69eb677bd633f3e6418184080b9c2f2c724136f53f59fbd62f10e2a9ce1f1da"), looks := true }, kinds := [], alts := [], laidByText := true, laidKinds := [.data, .data, .data, .sentinel, .sentinel, .listed, .data], laidTests := true, laidLooks := .later }
def CompactEncodesUptoCardSaid : Prop := Claim7.holds Tryd.pinned (.plain (OpenSpec.upto compactEncodesSpec)) compactEncodesUptoCard

/-- THE SECOND FORM's CARD OF 'foundrylaw9.CompactDecodes'. -/
def compactDecodesUptoCard : Claim7 := { stood := { row := compactDecodesUptoRow, standIns := [], harness := (true, "a69eb677bd633f3e6418184080b9c2f2c724136f53f59fbd62f10e2a9ce1f1da"), looks := true }, kinds := [], alts := [], laidByText := true, laidKinds := [.data, .data, .data, .sentinel, .sentinel, .listed, .data], laidTests := true, laidLooks := .later }
def CompactDecodesUptoCardSaid : Prop := Claim7.holds Tryd.pinned (.plain (OpenSpec.upto compactDecodesSpec)) compactDecodesUptoCard

/-- THE SECOND FORM's CARD OF 'foundrylaw9.CompactBack'. -/
def compactBackUptoCard : Claim7 := { stood := { row := compactBackUptoRow, standIns := [], harness := (true, "a69eb677bd633f3e6418184080b9c2f2c724136f53f59fbd62f10e2a9ce1f1da"), looks := true }, kinds := [], alts := [], laidByText := true, laidKinds := [.data, .data, .data, .sentinel, .sentinel, .listed, .data], laidTests := true, laidLooks := .later }
def CompactBackUptoCardSaid : Prop := Claim7.holds Tryd.pinned (.plain (OpenSpec.upto compactBackSpec)) compactBackUptoCard

/-- THE SECOND FORM's CARD OF 'foundrylaw9.CompactWide'. -/
def compactWideUptoCard : Claim7 := { stood := { row := compactWideUptoRow, standIns := [], harness := (true, "a69eb677bd633f3e6418184080b9c2f2c724136f53f59fbd62f10e2a9ce1f1da"), looks := true }, kinds := [], alts := [], laidByText := true, laidKinds := [.data, .data, .data, .sentinel, .sentinel, .listed, .data], laidTests := true, laidLooks := .later }
def CompactWideUptoCardSaid : Prop := Claim7.holds Tryd.pinned (.plain (OpenSpec.upto compactWideSpec)) compactWideUptoCard

/-- THE SECOND FORM's CARD OF 'foundrylaw9.CompactShort'. -/
def compactShortUptoCard : Claim7 := { stood := { row := compactShortUptoRow, standIns := [], harness := (true, "a69eb677bd633f3e6418184080b9c2f2c724136f53f59fbd62f10e2a9ce1f1da"), looks := true }, kinds := [], alts := [], laidByText := true, laidKinds := [.data, .data, .data, .sentinel, .sentinel, .listed, .data], laidTests := true, laidLooks := .later }
def CompactShortUptoCardSaid : Prop := Claim7.holds Tryd.pinned (.plain (OpenSpec.upto compactShortSpec)) compactShortUptoCard

/-- THE SECOND FORM's CARD OF 'foundrylaw9.CompactWords'. -/
def compactWordsUptoCard : Claim7 := { stood := { row := compactWordsUptoRow, standIns := [], harness := (true, "a69eb677bd633f3e6418184080b9c2f2c724136f53f59fbd62f10e2a9ce1f1da"), looks := true }, kinds := [], alts := [], laidByText := true, laidKinds := [.data, .data, .data, .sentinel, .sentinel, .listed, .data], laidTests := true, laidLooks := .later }
def CompactWordsUptoCardSaid : Prop := Claim7.holds Tryd.pinned (.plain (OpenSpec.upto compactWordsSpec)) compactWordsUptoCard
end Rows
end Go.Proofs.YtaedihkgdmaofaaDoor
