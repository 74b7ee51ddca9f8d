/-
  No cell of these rows narrows 'for every input' (looked for: loops, veiled, ifaces, maps, wideKeys, modest, calm, conditions, laid).
  DERIVED. THE GIVEN ROWS OF THIS SEAT. 5 by the template 'for every input the law returns true; each argument reads behind the call as it read before'; 0 by the template 'total and deterministic' (their statements: YtegieioiofggbaaTotals.lean).
  GIVEN WITH THE SEED: the statements are not yours to turn. If you find one false, say at which input.
  Laid BY PROGRAM, IN A SANDBOX (cutbox-rows.mjs): the forced cells as the released guide's own fill.sh prints them over the translation 5fa6053222dbdef6… (all of the seat's roots in one cut). By AI agents, Wed Nov 11 2026. No macro, syntax, notation, axiom, sorry.
-/
import Derived.Test.YtegieioiofggbaaChecked
import GoSem.Claim
import GoSem.ClaimJoined
import GoSem.ClaimMapViews
import Derived.JoinedTies
import Derived.KernelRfl
namespace Go.Proofs.Ytegieioiofggbaa
/- THE CELL 'sum', in the pinned program and in every row, IS THE sha256 OF THE DUMP (.gsa) THAT YtegieioiofggbaaProg.lean LOADS. Nothing in Lean hashes anything: it is a label: what it is worth is what the hold of that sum in a sandbox is worth. -/
noncomputable def Try.pinned : Pinned := { name := "ytegieioiofggbaa", sum := "5fa6053222dbdef6aa21807d1088d33ab6cf52ae2e7a23d5c69dd703fe360ac5", checked := Try.checked }
namespace Rows
def none {H : Type} : Left H := { results := [], args := [] }

/-- 'foundrylaw8.RiscvEncodes': WHATEVER THE INPUT: true; the input reads as it did. -/
def riscvEncodesSpec : ChangeSpec := { name := "riscvEncodes", fn := fun _ => fun
  | [d] => { results := [.lit (.bool true)], args := [d] }
  | _ => none }
def riscvEncodesRow : OpenClaim := { program := "ytegieioiofggbaa", sum := "5fa6053222dbdef6aa21807d1088d33ab6cf52ae2e7a23d5c69dd703fe360ac5", func := "foundry/foundrylaw8.RiscvEncodes", spec := "riscvEncodes", unfollowed := true, recurses := true, apart := false }
def RiscvEncodesSaid : Prop := riscvEncodesRow.holds Try.pinned (OpenSpec.ofChange riscvEncodesSpec)

/-- ITS FALSE NEIGHBOUR: 'it returns false'. Refute it at one input. -/
def riscvEncodesWrong : ChangeSpec := { name := "riscvEncodes", fn := fun _ => fun
  | [d] => { results := [.lit (.bool false)], args := [d] }
  | _ => none }
def RiscvEncodesWrongFalsely : Prop := riscvEncodesRow.holds Try.pinned (OpenSpec.ofChange riscvEncodesWrong)

/-- 'foundrylaw8.RiscvDecodes': WHATEVER THE INPUT: true; the input reads as it did. -/
def riscvDecodesSpec : ChangeSpec := { name := "riscvDecodes", fn := fun _ => fun
  | [d1, d2] => { results := [.lit (.bool true)], args := [d1, d2] }
  | _ => none }
def riscvDecodesRow : OpenClaim := { program := "ytegieioiofggbaa", sum := "5fa6053222dbdef6aa21807d1088d33ab6cf52ae2e7a23d5c69dd703fe360ac5", func := "foundry/foundrylaw8.RiscvDecodes", spec := "riscvDecodes", unfollowed := true, recurses := true, apart := false }
def RiscvDecodesSaid : Prop := riscvDecodesRow.holds Try.pinned (OpenSpec.ofChange riscvDecodesSpec)

/-- ITS FALSE NEIGHBOUR: 'it returns false'. Refute it at one input. -/
def riscvDecodesWrong : ChangeSpec := { name := "riscvDecodes", fn := fun _ => fun
  | [d1, d2] => { results := [.lit (.bool false)], args := [d1, d2] }
  | _ => none }
def RiscvDecodesWrongFalsely : Prop := riscvDecodesRow.holds Try.pinned (OpenSpec.ofChange riscvDecodesWrong)

/-- 'foundrylaw8.RiscvBack': WHATEVER THE INPUT: true; the input reads as it did. -/
def riscvBackSpec : ChangeSpec := { name := "riscvBack", fn := fun _ => fun
  | [d1, d2, d3, d4] => { results := [.lit (.bool true)], args := [d1, d2, d3, d4] }
  | _ => none }
def riscvBackRow : OpenClaim := { program := "ytegieioiofggbaa", sum := "5fa6053222dbdef6aa21807d1088d33ab6cf52ae2e7a23d5c69dd703fe360ac5", func := "foundry/foundrylaw8.RiscvBack", spec := "riscvBack", unfollowed := true, recurses := true, apart := false }
def RiscvBackSaid : Prop := riscvBackRow.holds Try.pinned (OpenSpec.ofChange riscvBackSpec)

/-- ITS FALSE NEIGHBOUR: 'it returns false'. Refute it at one input. -/
def riscvBackWrong : ChangeSpec := { name := "riscvBack", fn := fun _ => fun
  | [d1, d2, d3, d4] => { results := [.lit (.bool false)], args := [d1, d2, d3, d4] }
  | _ => none }
def RiscvBackWrongFalsely : Prop := riscvBackRow.holds Try.pinned (OpenSpec.ofChange riscvBackWrong)

/-- 'foundrylaw8.RiscvNames': WHATEVER THE INPUT: true; the input reads as it did. -/
def riscvNamesSpec : ChangeSpec := { name := "riscvNames", fn := fun _ => fun
  | [d] => { results := [.lit (.bool true)], args := [d] }
  | _ => none }
def riscvNamesRow : OpenClaim := { program := "ytegieioiofggbaa", sum := "5fa6053222dbdef6aa21807d1088d33ab6cf52ae2e7a23d5c69dd703fe360ac5", func := "foundry/foundrylaw8.RiscvNames", spec := "riscvNames", unfollowed := true, recurses := true, apart := false }
def RiscvNamesSaid : Prop := riscvNamesRow.holds Try.pinned (OpenSpec.ofChange riscvNamesSpec)

/-- ITS FALSE NEIGHBOUR: 'it returns false'. Refute it at one input. -/
def riscvNamesWrong : ChangeSpec := { name := "riscvNames", fn := fun _ => fun
  | [d] => { results := [.lit (.bool false)], args := [d] }
  | _ => none }
def RiscvNamesWrongFalsely : Prop := riscvNamesRow.holds Try.pinned (OpenSpec.ofChange riscvNamesWrong)

/-- 'foundrylaw8.RiscvFields': WHATEVER THE INPUT: true; the input reads as it did. -/
def riscvFieldsSpec : ChangeSpec := { name := "riscvFields", fn := fun _ => fun
  | [d1, d2, d3, d4] => { results := [.lit (.bool true)], args := [d1, d2, d3, d4] }
  | _ => none }
def riscvFieldsRow : OpenClaim := { program := "ytegieioiofggbaa", sum := "5fa6053222dbdef6aa21807d1088d33ab6cf52ae2e7a23d5c69dd703fe360ac5", func := "foundry/foundrylaw8.RiscvFields", spec := "riscvFields", unfollowed := true, recurses := true, apart := false }
def RiscvFieldsSaid : Prop := riscvFieldsRow.holds Try.pinned (OpenSpec.ofChange riscvFieldsSpec)

/-- ITS FALSE NEIGHBOUR: 'it returns false'. Refute it at one input. -/
def riscvFieldsWrong : ChangeSpec := { name := "riscvFields", fn := fun _ => fun
  | [d1, d2, d3, d4] => { results := [.lit (.bool false)], args := [d1, d2, d3, d4] }
  | _ => none }
def RiscvFieldsWrongFalsely : Prop := riscvFieldsRow.holds Try.pinned (OpenSpec.ofChange riscvFieldsWrong)

/- THE SECOND FORM. 'bulk': how many values and letters a reading holds, each counted each time it is reached (what is shared counts as often as it is met; a slice's spare places count too). A statement '..UptoSaid' is the law's where the arguments, and the package variables that the reading takes, are together of bulk at most 1048576: NARROWER than '..Said'. Prove '..Said' where nothing that the law and all that it calls make is longer than what came in: it says more and counts as full. Else prove '..UptoSaid'. A law counts once. -/
mutual
def uptoBulk {H : Type} : DataW H → Nat
  | .lit (.string bytes) => bytes.length + 1
  | .lit _ => 1
  | .nil => 1
  | .ptr d => uptoBulk d + 1
  | .slice elems spare => uptoBulkAll elems + uptoBulkAll spare + 1
  | .agg parts => uptoBulkAll parts + 1
  | .iface _ d => uptoBulk d + 1
  | .map entries => uptoBulkEntries entries + 1
  | .held _ => 1
def uptoBulkAll {H : Type} : List (DataW H) → Nat
  | [] => 0
  | d :: r => uptoBulk d + uptoBulkAll r
def uptoBulkEntries {H : Type} : List (Lit × DataW H) → Nat
  | [] => 0
  | x :: r => uptoBulkEntry x + uptoBulkEntries r
def uptoBulkEntry {H : Type} : Lit × DataW H → Nat
  | (.string bytes, d) => bytes.length + uptoBulk d + 1
  | (_, d) => uptoBulk d + 1
 end
def uptoSmall : (H : Type) → List (DataW H) → Bool := fun _ ds => decide (uptoBulkAll ds ≤ 1048576)
def OpenSpec.upto (s : _root_.Go.ChangeSpec) : _root_.Go.OpenSpec := { _root_.Go.OpenSpec.ofChange s with cond := some uptoSmall }

/-- 'foundrylaw8.RiscvEncodes', WHERE WHAT IT READS IS OF BULK AT MOST 1048576: true; the input reads as it did. -/
def riscvEncodesUptoRow : OpenClaim := { program := "ytegieioiofggbaa", sum := "5fa6053222dbdef6aa21807d1088d33ab6cf52ae2e7a23d5c69dd703fe360ac5", func := "foundry/foundrylaw8.RiscvEncodes", spec := "riscvEncodes", unfollowed := true, recurses := true, apart := false, narrowed := true }
def RiscvEncodesUptoSaid : Prop := riscvEncodesUptoRow.holds Try.pinned (OpenSpec.upto riscvEncodesSpec)

/-- 'foundrylaw8.RiscvDecodes', WHERE WHAT IT READS IS OF BULK AT MOST 1048576: true; the input reads as it did. -/
def riscvDecodesUptoRow : OpenClaim := { program := "ytegieioiofggbaa", sum := "5fa6053222dbdef6aa21807d1088d33ab6cf52ae2e7a23d5c69dd703fe360ac5", func := "foundry/foundrylaw8.RiscvDecodes", spec := "riscvDecodes", unfollowed := true, recurses := true, apart := false, narrowed := true }
def RiscvDecodesUptoSaid : Prop := riscvDecodesUptoRow.holds Try.pinned (OpenSpec.upto riscvDecodesSpec)

/-- 'foundrylaw8.RiscvBack', WHERE WHAT IT READS IS OF BULK AT MOST 1048576: true; the input reads as it did. -/
def riscvBackUptoRow : OpenClaim := { program := "ytegieioiofggbaa", sum := "5fa6053222dbdef6aa21807d1088d33ab6cf52ae2e7a23d5c69dd703fe360ac5", func := "foundry/foundrylaw8.RiscvBack", spec := "riscvBack", unfollowed := true, recurses := true, apart := false, narrowed := true }
def RiscvBackUptoSaid : Prop := riscvBackUptoRow.holds Try.pinned (OpenSpec.upto riscvBackSpec)

/-- 'foundrylaw8.RiscvNames', WHERE WHAT IT READS IS OF BULK AT MOST 1048576: true; the input reads as it did. -/
def riscvNamesUptoRow : OpenClaim := { program := "ytegieioiofggbaa", sum := "5fa6053222dbdef6aa21807d1088d33ab6cf52ae2e7a23d5c69dd703fe360ac5", func := "foundry/foundrylaw8.RiscvNames", spec := "riscvNames", unfollowed := true, recurses := true, apart := false, narrowed := true }
def RiscvNamesUptoSaid : Prop := riscvNamesUptoRow.holds Try.pinned (OpenSpec.upto riscvNamesSpec)

/-- 'foundrylaw8.RiscvFields', WHERE WHAT IT READS IS OF BULK AT MOST 1048576: true; the input reads as it did. -/
def riscvFieldsUptoRow : OpenClaim := { program := "ytegieioiofggbaa", sum := "5fa6053222dbdef6aa21807d1088d33ab6cf52ae2e7a23d5c69dd703fe360ac5", func := "foundry/foundrylaw8.RiscvFields", spec := "riscvFields", unfollowed := true, recurses := true, apart := false, narrowed := true }
def RiscvFieldsUptoSaid : Prop := riscvFieldsUptoRow.holds Try.pinned (OpenSpec.upto riscvFieldsSpec)

end Rows
end Go.Proofs.Ytegieioiofggbaa
