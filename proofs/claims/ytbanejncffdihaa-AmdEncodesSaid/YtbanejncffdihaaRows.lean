/-
  No cell of these rows narrows 'for every input' (looked for: loops, veiled, ifaces, maps, wideKeys, modest, calm, conditions, laid).
  DERIVED. THE GIVEN ROWS OF THIS SEAT. 2 by the template 'for every input the law returns true; each argument reads behind the call as it read before'; 0 by the template 'total and deterministic' (their statements: YtbanejncffdihaaTotals.lean).
  GIVEN WITH THE SEED: the statements are not yours to turn. If you find one false, say at which input.
  Laid BY PROGRAM, IN A SANDBOX (cutbox-rows.mjs): the forced cells as the released guide's own fill.sh prints them over the translation 0b68e49fd0034bcf… (all of the seat's roots in one cut). By AI agents, Wed Nov 11 2026. No macro, syntax, notation, axiom, sorry.
-/
import Derived.Test.YtbanejncffdihaaChecked
import GoSem.Claim
import GoSem.ClaimJoined
import GoSem.ClaimMapViews
import Derived.JoinedTies
import Derived.KernelRfl
namespace Go.Proofs.Ytbanejncffdihaa
/- THE CELL 'sum', in the pinned program and in every row, IS THE sha256 OF THE DUMP (.gsa) THAT YtbanejncffdihaaProg.lean LOADS. Nothing in Lean hashes anything: it is a label: what it is worth is what the hold of that sum in a sandbox is worth. -/
noncomputable def Try.pinned : Pinned := { name := "ytbanejncffdihaa", sum := "0b68e49fd0034bcff8b6d3d6b143943ca1f8e36ff9abd4eae22d3fb2c21c19d5", checked := Try.checked }
namespace Rows
def none {H : Type} : Left H := { results := [], args := [] }

/-- 'foundrylaw12.AmdEncodes': WHATEVER THE INPUT: true; the input reads as it did. -/
def amdEncodesSpec : ChangeSpec := { name := "amdEncodes", fn := fun _ => fun
  | [d] => { results := [.lit (.bool true)], args := [d] }
  | _ => none }
def amdEncodesRow : OpenClaim := { program := "ytbanejncffdihaa", sum := "0b68e49fd0034bcff8b6d3d6b143943ca1f8e36ff9abd4eae22d3fb2c21c19d5", func := "foundry/foundrylaw12.AmdEncodes", spec := "amdEncodes", unfollowed := true, recurses := true, apart := false }
def AmdEncodesSaid : Prop := amdEncodesRow.holds Try.pinned (OpenSpec.ofChange amdEncodesSpec)

/-- ITS FALSE NEIGHBOUR: 'it returns false'. Refute it at one input. -/
def amdEncodesWrong : ChangeSpec := { name := "amdEncodes", fn := fun _ => fun
  | [d] => { results := [.lit (.bool false)], args := [d] }
  | _ => none }
def AmdEncodesWrongFalsely : Prop := amdEncodesRow.holds Try.pinned (OpenSpec.ofChange amdEncodesWrong)

/-- 'foundrylaw12.AmdDecodes': WHATEVER THE INPUT: true; the input reads as it did. -/
def amdDecodesSpec : ChangeSpec := { name := "amdDecodes", fn := fun _ => fun
  | [d1, d2] => { results := [.lit (.bool true)], args := [d1, d2] }
  | _ => none }
def amdDecodesRow : OpenClaim := { program := "ytbanejncffdihaa", sum := "0b68e49fd0034bcff8b6d3d6b143943ca1f8e36ff9abd4eae22d3fb2c21c19d5", func := "foundry/foundrylaw12.AmdDecodes", spec := "amdDecodes", unfollowed := true, recurses := true, apart := false }
def AmdDecodesSaid : Prop := amdDecodesRow.holds Try.pinned (OpenSpec.ofChange amdDecodesSpec)

/-- ITS FALSE NEIGHBOUR: 'it returns false'. Refute it at one input. -/
def amdDecodesWrong : ChangeSpec := { name := "amdDecodes", fn := fun _ => fun
  | [d1, d2] => { results := [.lit (.bool false)], args := [d1, d2] }
  | _ => none }
def AmdDecodesWrongFalsely : Prop := amdDecodesRow.holds Try.pinned (OpenSpec.ofChange amdDecodesWrong)

/- THE SECOND FORM. 'bulk': how many values and letters a reading holds, each counted each time it is reached (what is shared counts as often as it is met; a slice's spare places count too). A statement '..UptoSaid' is the law's where the arguments, and the package variables that the reading takes, are together of bulk at most 1048576: NARROWER than '..Said'. Prove '..Said' where nothing that the law and all that it calls make is longer than what came in: it says more and counts as full. Else prove '..UptoSaid'. A law counts once. -/
mutual
def uptoBulk {H : Type} : DataW H → Nat
  | .lit (.string bytes) => bytes.length + 1
  | .lit _ => 1
  | .nil => 1
  | .ptr d => uptoBulk d + 1
  | .slice elems spare => uptoBulkAll elems + uptoBulkAll spare + 1
  | .agg parts => uptoBulkAll parts + 1
  | .iface _ d => uptoBulk d + 1
  | .map entries => uptoBulkEntries entries + 1
  | .held _ => 1
def uptoBulkAll {H : Type} : List (DataW H) → Nat
  | [] => 0
  | d :: r => uptoBulk d + uptoBulkAll r
def uptoBulkEntries {H : Type} : List (Lit × DataW H) → Nat
  | [] => 0
  | x :: r => uptoBulkEntry x + uptoBulkEntries r
def uptoBulkEntry {H : Type} : Lit × DataW H → Nat
  | (.string bytes, d) => bytes.length + uptoBulk d + 1
  | (_, d) => uptoBulk d + 1
 end
def uptoSmall : (H : Type) → List (DataW H) → Bool := fun _ ds => decide (uptoBulkAll ds ≤ 1048576)
def OpenSpec.upto (s : _root_.Go.ChangeSpec) : _root_.Go.OpenSpec := { _root_.Go.OpenSpec.ofChange s with cond := some uptoSmall }

/-- 'foundrylaw12.AmdEncodes', WHERE WHAT IT READS IS OF BULK AT MOST 1048576: true; the input reads as it did. -/
def amdEncodesUptoRow : OpenClaim := { program := "ytbanejncffdihaa", sum := "0b68e49fd0034bcff8b6d3d6b143943ca1f8e36ff9abd4eae22d3fb2c21c19d5", func := "foundry/foundrylaw12.AmdEncodes", spec := "amdEncodes", unfollowed := true, recurses := true, apart := false, narrowed := true }
def AmdEncodesUptoSaid : Prop := amdEncodesUptoRow.holds Try.pinned (OpenSpec.upto amdEncodesSpec)

/-- 'foundrylaw12.AmdDecodes', WHERE WHAT IT READS IS OF BULK AT MOST 1048576: true; the input reads as it did. -/
def amdDecodesUptoRow : OpenClaim := { program := "ytbanejncffdihaa", sum := "0b68e49fd0034bcff8b6d3d6b143943ca1f8e36ff9abd4eae22d3fb2c21c19d5", func := "foundry/foundrylaw12.AmdDecodes", spec := "amdDecodes", unfollowed := true, recurses := true, apart := false, narrowed := true }
def AmdDecodesUptoSaid : Prop := amdDecodesUptoRow.holds Try.pinned (OpenSpec.upto amdDecodesSpec)

end Rows
end Go.Proofs.Ytbanejncffdihaa
