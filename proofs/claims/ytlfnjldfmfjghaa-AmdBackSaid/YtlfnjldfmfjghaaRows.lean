/-
  No cell of these rows narrows 'for every input' (looked for: loops, veiled, ifaces, maps, wideKeys, modest, calm, conditions, laid).
  DERIVED. THE GIVEN ROWS OF THIS SEAT. 6 by the template 'for every input the law returns true; each argument reads behind the call as it read before'; 0 by the template 'total and deterministic' (their statements: YtlfnjldfmfjghaaTotals.lean).
  GIVEN WITH THE SEED: the statements are not yours to turn. If you find one false, say at which input.
  Laid BY PROGRAM, IN A SANDBOX (cutbox-rows.mjs): the forced cells as the released guide's own fill.sh prints them over the translation 01d845508e05a5c1… (all of the seat's roots in one cut). By AI agents, Wed Nov 11 2026. No macro, syntax, notation, axiom, sorry.
-/
import Derived.Test.YtlfnjldfmfjghaaChecked
import GoSem.Claim
import GoSem.ClaimJoined
import GoSem.ClaimMapViews
import Derived.JoinedTies
import Derived.KernelRfl
namespace Go.Proofs.Ytlfnjldfmfjghaa
/- THE CELL 'sum', in the pinned program and in every row, IS THE sha256 OF THE DUMP (.gsa) THAT YtlfnjldfmfjghaaProg.lean LOADS. Nothing in Lean hashes anything: it is a label: what it is worth is what the hold of that sum in a sandbox is worth. -/
noncomputable def Try.pinned : Pinned := { name := "ytlfnjldfmfjghaa", sum := "01d845508e05a5c18bc4797c7e2581a1866b76778ab6614b4951901e081b841c", checked := Try.checked }
namespace Rows
def none {H : Type} : Left H := { results := [], args := [] }

/-- 'foundrylaw12.AmdEncodes': WHATEVER THE INPUT: true; the input reads as it did. -/
def amdEncodesSpec : ChangeSpec := { name := "amdEncodes", fn := fun _ => fun
  | [d] => { results := [.lit (.bool true)], args := [d] }
  | _ => none }
def amdEncodesRow : OpenClaim := { program := "ytlfnjldfmfjghaa", sum := "01d845508e05a5c18bc4797c7e2581a1866b76778ab6614b4951901e081b841c", func := "foundry/foundrylaw12.AmdEncodes", spec := "amdEncodes", unfollowed := true, recurses := true, apart := false }
def AmdEncodesSaid : Prop := amdEncodesRow.holds Try.pinned (OpenSpec.ofChange amdEncodesSpec)

/-- ITS FALSE NEIGHBOUR: 'it returns false'. Refute it at one input. -/
def amdEncodesWrong : ChangeSpec := { name := "amdEncodes", fn := fun _ => fun
  | [d] => { results := [.lit (.bool false)], args := [d] }
  | _ => none }
def AmdEncodesWrongFalsely : Prop := amdEncodesRow.holds Try.pinned (OpenSpec.ofChange amdEncodesWrong)

/-- 'foundrylaw12.AmdDecodes': WHATEVER THE INPUT: true; the input reads as it did. -/
def amdDecodesSpec : ChangeSpec := { name := "amdDecodes", fn := fun _ => fun
  | [d1, d2] => { results := [.lit (.bool true)], args := [d1, d2] }
  | _ => none }
def amdDecodesRow : OpenClaim := { program := "ytlfnjldfmfjghaa", sum := "01d845508e05a5c18bc4797c7e2581a1866b76778ab6614b4951901e081b841c", func := "foundry/foundrylaw12.AmdDecodes", spec := "amdDecodes", unfollowed := true, recurses := true, apart := false }
def AmdDecodesSaid : Prop := amdDecodesRow.holds Try.pinned (OpenSpec.ofChange amdDecodesSpec)

/-- ITS FALSE NEIGHBOUR: 'it returns false'. Refute it at one input. -/
def amdDecodesWrong : ChangeSpec := { name := "amdDecodes", fn := fun _ => fun
  | [d1, d2] => { results := [.lit (.bool false)], args := [d1, d2] }
  | _ => none }
def AmdDecodesWrongFalsely : Prop := amdDecodesRow.holds Try.pinned (OpenSpec.ofChange amdDecodesWrong)

/-- 'foundrylaw12.AmdBack': WHATEVER THE INPUT: true; the input reads as it did. -/
def amdBackSpec : ChangeSpec := { name := "amdBack", fn := fun _ => fun
  | [d1, d2, d3, d4] => { results := [.lit (.bool true)], args := [d1, d2, d3, d4] }
  | _ => none }
def amdBackRow : OpenClaim := { program := "ytlfnjldfmfjghaa", sum := "01d845508e05a5c18bc4797c7e2581a1866b76778ab6614b4951901e081b841c", func := "foundry/foundrylaw12.AmdBack", spec := "amdBack", unfollowed := true, recurses := true, apart := false }
def AmdBackSaid : Prop := amdBackRow.holds Try.pinned (OpenSpec.ofChange amdBackSpec)

/-- ITS FALSE NEIGHBOUR: 'it returns false'. Refute it at one input. -/
def amdBackWrong : ChangeSpec := { name := "amdBack", fn := fun _ => fun
  | [d1, d2, d3, d4] => { results := [.lit (.bool false)], args := [d1, d2, d3, d4] }
  | _ => none }
def AmdBackWrongFalsely : Prop := amdBackRow.holds Try.pinned (OpenSpec.ofChange amdBackWrong)

/-- 'foundrylaw12.AmdNames': WHATEVER THE INPUT: true; the input reads as it did. -/
def amdNamesSpec : ChangeSpec := { name := "amdNames", fn := fun _ => fun
  | [d] => { results := [.lit (.bool true)], args := [d] }
  | _ => none }
def amdNamesRow : OpenClaim := { program := "ytlfnjldfmfjghaa", sum := "01d845508e05a5c18bc4797c7e2581a1866b76778ab6614b4951901e081b841c", func := "foundry/foundrylaw12.AmdNames", spec := "amdNames", unfollowed := true, recurses := true, apart := false }
def AmdNamesSaid : Prop := amdNamesRow.holds Try.pinned (OpenSpec.ofChange amdNamesSpec)

/-- ITS FALSE NEIGHBOUR: 'it returns false'. Refute it at one input. -/
def amdNamesWrong : ChangeSpec := { name := "amdNames", fn := fun _ => fun
  | [d] => { results := [.lit (.bool false)], args := [d] }
  | _ => none }
def AmdNamesWrongFalsely : Prop := amdNamesRow.holds Try.pinned (OpenSpec.ofChange amdNamesWrong)

/-- 'foundrylaw12.AmdOnly': WHATEVER THE INPUT: true; the input reads as it did. -/
def amdOnlySpec : ChangeSpec := { name := "amdOnly", fn := fun _ => fun
  | [d1, d2] => { results := [.lit (.bool true)], args := [d1, d2] }
  | _ => none }
def amdOnlyRow : OpenClaim := { program := "ytlfnjldfmfjghaa", sum := "01d845508e05a5c18bc4797c7e2581a1866b76778ab6614b4951901e081b841c", func := "foundry/foundrylaw12.AmdOnly", spec := "amdOnly", unfollowed := true, recurses := true, apart := false }
def AmdOnlySaid : Prop := amdOnlyRow.holds Try.pinned (OpenSpec.ofChange amdOnlySpec)

/-- ITS FALSE NEIGHBOUR: 'it returns false'. Refute it at one input. -/
def amdOnlyWrong : ChangeSpec := { name := "amdOnly", fn := fun _ => fun
  | [d1, d2] => { results := [.lit (.bool false)], args := [d1, d2] }
  | _ => none }
def AmdOnlyWrongFalsely : Prop := amdOnlyRow.holds Try.pinned (OpenSpec.ofChange amdOnlyWrong)

/-- 'foundrylaw12.AmdForms': WHATEVER THE INPUT: true; the input reads as it did. -/
def amdFormsSpec : ChangeSpec := { name := "amdForms", fn := fun _ => fun
  | [d1, d2, d3] => { results := [.lit (.bool true)], args := [d1, d2, d3] }
  | _ => none }
def amdFormsRow : OpenClaim := { program := "ytlfnjldfmfjghaa", sum := "01d845508e05a5c18bc4797c7e2581a1866b76778ab6614b4951901e081b841c", func := "foundry/foundrylaw12.AmdForms", spec := "amdForms", unfollowed := true, recurses := true, apart := false }
def AmdFormsSaid : Prop := amdFormsRow.holds Try.pinned (OpenSpec.ofChange amdFormsSpec)

/-- ITS FALSE NEIGHBOUR: 'it returns false'. Refute it at one input. -/
def amdFormsWrong : ChangeSpec := { name := "amdForms", fn := fun _ => fun
  | [d1, d2, d3] => { results := [.lit (.bool false)], args := [d1, d2, d3] }
  | _ => none }
def AmdFormsWrongFalsely : Prop := amdFormsRow.holds Try.pinned (OpenSpec.ofChange amdFormsWrong)

/- THE SECOND FORM. 'bulk': how many values and letters a reading holds, each counted each time it is reached (what is shared counts as often as it is met; a slice's spare places count too). A statement '..UptoSaid' is the law's where the arguments, and the package variables that the reading takes, are together of bulk at most 1048576: NARROWER than '..Said'. Prove '..Said' where nothing that the law and all that it calls make is longer than what came in: it says more and counts as full. Else prove '..UptoSaid'. A law counts once. -/
mutual
def uptoBulk {H : Type} : DataW H → Nat
  | .lit (.string bytes) => bytes.length + 1
  | .lit _ => 1
  | .nil => 1
  | .ptr d => uptoBulk d + 1
  | .slice elems spare => uptoBulkAll elems + uptoBulkAll spare + 1
  | .agg parts => uptoBulkAll parts + 1
  | .iface _ d => uptoBulk d + 1
  | .map entries => uptoBulkEntries entries + 1
  | .held _ => 1
def uptoBulkAll {H : Type} : List (DataW H) → Nat
  | [] => 0
  | d :: r => uptoBulk d + uptoBulkAll r
def uptoBulkEntries {H : Type} : List (Lit × DataW H) → Nat
  | [] => 0
  | x :: r => uptoBulkEntry x + uptoBulkEntries r
def uptoBulkEntry {H : Type} : Lit × DataW H → Nat
  | (.string bytes, d) => bytes.length + uptoBulk d + 1
  | (_, d) => uptoBulk d + 1
 end
def uptoSmall : (H : Type) → List (DataW H) → Bool := fun _ ds => decide (uptoBulkAll ds ≤ 1048576)
def OpenSpec.upto (s : _root_.Go.ChangeSpec) : _root_.Go.OpenSpec := { _root_.Go.OpenSpec.ofChange s with cond := some uptoSmall }

/-- 'foundrylaw12.AmdEncodes', WHERE WHAT IT READS IS OF BULK AT MOST 1048576: true; the input reads as it did. -/
def amdEncodesUptoRow : OpenClaim := { program := "ytlfnjldfmfjghaa", sum := "01d845508e05a5c18bc4797c7e2581a1866b76778ab6614b4951901e081b841c", func := "foundry/foundrylaw12.AmdEncodes", spec := "amdEncodes", unfollowed := true, recurses := true, apart := false, narrowed := true }
def AmdEncodesUptoSaid : Prop := amdEncodesUptoRow.holds Try.pinned (OpenSpec.upto amdEncodesSpec)

/-- 'foundrylaw12.AmdDecodes', WHERE WHAT IT READS IS OF BULK AT MOST 1048576: true; the input reads as it did. -/
def amdDecodesUptoRow : OpenClaim := { program := "ytlfnjldfmfjghaa", sum := "01d845508e05a5c18bc4797c7e2581a1866b76778ab6614b4951901e081b841c", func := "foundry/foundrylaw12.AmdDecodes", spec := "amdDecodes", unfollowed := true, recurses := true, apart := false, narrowed := true }
def AmdDecodesUptoSaid : Prop := amdDecodesUptoRow.holds Try.pinned (OpenSpec.upto amdDecodesSpec)

/-- 'foundrylaw12.AmdBack', WHERE WHAT IT READS IS OF BULK AT MOST 1048576: true; the input reads as it did. -/
def amdBackUptoRow : OpenClaim := { program := "ytlfnjldfmfjghaa", sum := "01d845508e05a5c18bc4797c7e2581a1866b76778ab6614b4951901e081b841c", func := "foundry/foundrylaw12.AmdBack", spec := "amdBack", unfollowed := true, recurses := true, apart := false, narrowed := true }
def AmdBackUptoSaid : Prop := amdBackUptoRow.holds Try.pinned (OpenSpec.upto amdBackSpec)

/-- 'foundrylaw12.AmdNames', WHERE WHAT IT READS IS OF BULK AT MOST 1048576: true; the input reads as it did. -/
def amdNamesUptoRow : OpenClaim := { program := "ytlfnjldfmfjghaa", sum := "01d845508e05a5c18bc4797c7e2581a1866b76778ab6614b4951901e081b841c", func := "foundry/foundrylaw12.AmdNames", spec := "amdNames", unfollowed := true, recurses := true, apart := false, narrowed := true }
def AmdNamesUptoSaid : Prop := amdNamesUptoRow.holds Try.pinned (OpenSpec.upto amdNamesSpec)

/-- 'foundrylaw12.AmdOnly', WHERE WHAT IT READS IS OF BULK AT MOST 1048576: true; the input reads as it did. -/
def amdOnlyUptoRow : OpenClaim := { program := "ytlfnjldfmfjghaa", sum := "01d845508e05a5c18bc4797c7e2581a1866b76778ab6614b4951901e081b841c", func := "foundry/foundrylaw12.AmdOnly", spec := "amdOnly", unfollowed := true, recurses := true, apart := false, narrowed := true }
def AmdOnlyUptoSaid : Prop := amdOnlyUptoRow.holds Try.pinned (OpenSpec.upto amdOnlySpec)

/-- 'foundrylaw12.AmdForms', WHERE WHAT IT READS IS OF BULK AT MOST 1048576: true; the input reads as it did. -/
def amdFormsUptoRow : OpenClaim := { program := "ytlfnjldfmfjghaa", sum := "01d845508e05a5c18bc4797c7e2581a1866b76778ab6614b4951901e081b841c", func := "foundry/foundrylaw12.AmdForms", spec := "amdForms", unfollowed := true, recurses := true, apart := false, narrowed := true }
def AmdFormsUptoSaid : Prop := amdFormsUptoRow.holds Try.pinned (OpenSpec.upto amdFormsSpec)

end Rows
end Go.Proofs.Ytlfnjldfmfjghaa
