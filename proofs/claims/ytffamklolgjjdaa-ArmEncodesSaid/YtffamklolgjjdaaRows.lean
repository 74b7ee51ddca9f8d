/-
  No cell of these rows narrows 'for every input' (looked for: loops, veiled, ifaces, maps, wideKeys, modest, calm, conditions, laid).
  DERIVED. THE GIVEN ROWS OF THIS SEAT. 6 by the template 'for every input the law returns true; each argument reads behind the call as it read before'; 0 by the template 'total and deterministic' (their statements: YtffamklolgjjdaaTotals.lean).
  GIVEN WITH THE SEED: the statements are not yours to turn. If you find one false, say at which input.
  Laid BY PROGRAM, IN A SANDBOX (cutbox-rows.mjs): the forced cells as the released guide's own fill.sh prints them over the translation 4a22ebec0867f1fa… (all of the seat's roots in one cut). By AI agents, Wed Nov 11 2026. No macro, syntax, notation, axiom, sorry.
-/
import Derived.Test.YtffamklolgjjdaaChecked
import GoSem.Claim
import GoSem.ClaimJoined
import GoSem.ClaimMapViews
import Derived.JoinedTies
import Derived.KernelRfl
namespace Go.Proofs.Ytffamklolgjjdaa
/- THE CELL 'sum', in the pinned program and in every row, IS THE sha256 OF THE DUMP (.gsa) THAT YtffamklolgjjdaaProg.lean LOADS. Nothing in Lean hashes anything: it is a label: what it is worth is what the hold of that sum in a sandbox is worth. -/
noncomputable def Try.pinned : Pinned := { name := "ytffamklolgjjdaa", sum := "4a22ebec0867f1fa120537a12adb2b63e022a8809f22b7d5e389bf12c6001fdd", checked := Try.checked }
namespace Rows
def none {H : Type} : Left H := { results := [], args := [] }

/-- 'foundrylaw11.ArmEncodes': WHATEVER THE INPUT: true; the input reads as it did. -/
def armEncodesSpec : ChangeSpec := { name := "armEncodes", fn := fun _ => fun
  | [d] => { results := [.lit (.bool true)], args := [d] }
  | _ => none }
def armEncodesRow : OpenClaim := { program := "ytffamklolgjjdaa", sum := "4a22ebec0867f1fa120537a12adb2b63e022a8809f22b7d5e389bf12c6001fdd", func := "foundry/foundrylaw11.ArmEncodes", spec := "armEncodes", apart := false }
def ArmEncodesSaid : Prop := armEncodesRow.holds Try.pinned (OpenSpec.ofChange armEncodesSpec)

/-- ITS FALSE NEIGHBOUR: 'it returns false'. Refute it at one input. -/
def armEncodesWrong : ChangeSpec := { name := "armEncodes", fn := fun _ => fun
  | [d] => { results := [.lit (.bool false)], args := [d] }
  | _ => none }
def ArmEncodesWrongFalsely : Prop := armEncodesRow.holds Try.pinned (OpenSpec.ofChange armEncodesWrong)

/-- 'foundrylaw11.ArmDecodes': WHATEVER THE INPUT: true; the input reads as it did. -/
def armDecodesSpec : ChangeSpec := { name := "armDecodes", fn := fun _ => fun
  | [d1, d2] => { results := [.lit (.bool true)], args := [d1, d2] }
  | _ => none }
def armDecodesRow : OpenClaim := { program := "ytffamklolgjjdaa", sum := "4a22ebec0867f1fa120537a12adb2b63e022a8809f22b7d5e389bf12c6001fdd", func := "foundry/foundrylaw11.ArmDecodes", spec := "armDecodes", apart := false }
def ArmDecodesSaid : Prop := armDecodesRow.holds Try.pinned (OpenSpec.ofChange armDecodesSpec)

/-- ITS FALSE NEIGHBOUR: 'it returns false'. Refute it at one input. -/
def armDecodesWrong : ChangeSpec := { name := "armDecodes", fn := fun _ => fun
  | [d1, d2] => { results := [.lit (.bool false)], args := [d1, d2] }
  | _ => none }
def ArmDecodesWrongFalsely : Prop := armDecodesRow.holds Try.pinned (OpenSpec.ofChange armDecodesWrong)

/-- 'foundrylaw11.ArmBack': WHATEVER THE INPUT: true; the input reads as it did. -/
def armBackSpec : ChangeSpec := { name := "armBack", fn := fun _ => fun
  | [d1, d2, d3, d4] => { results := [.lit (.bool true)], args := [d1, d2, d3, d4] }
  | _ => none }
def armBackRow : OpenClaim := { program := "ytffamklolgjjdaa", sum := "4a22ebec0867f1fa120537a12adb2b63e022a8809f22b7d5e389bf12c6001fdd", func := "foundry/foundrylaw11.ArmBack", spec := "armBack", apart := false }
def ArmBackSaid : Prop := armBackRow.holds Try.pinned (OpenSpec.ofChange armBackSpec)

/-- ITS FALSE NEIGHBOUR: 'it returns false'. Refute it at one input. -/
def armBackWrong : ChangeSpec := { name := "armBack", fn := fun _ => fun
  | [d1, d2, d3, d4] => { results := [.lit (.bool false)], args := [d1, d2, d3, d4] }
  | _ => none }
def ArmBackWrongFalsely : Prop := armBackRow.holds Try.pinned (OpenSpec.ofChange armBackWrong)

/-- 'foundrylaw11.ArmNames': WHATEVER THE INPUT: true; the input reads as it did. -/
def armNamesSpec : ChangeSpec := { name := "armNames", fn := fun _ => fun
  | [d] => { results := [.lit (.bool true)], args := [d] }
  | _ => none }
def armNamesRow : OpenClaim := { program := "ytffamklolgjjdaa", sum := "4a22ebec0867f1fa120537a12adb2b63e022a8809f22b7d5e389bf12c6001fdd", func := "foundry/foundrylaw11.ArmNames", spec := "armNames", apart := false }
def ArmNamesSaid : Prop := armNamesRow.holds Try.pinned (OpenSpec.ofChange armNamesSpec)

/-- ITS FALSE NEIGHBOUR: 'it returns false'. Refute it at one input. -/
def armNamesWrong : ChangeSpec := { name := "armNames", fn := fun _ => fun
  | [d] => { results := [.lit (.bool false)], args := [d] }
  | _ => none }
def ArmNamesWrongFalsely : Prop := armNamesRow.holds Try.pinned (OpenSpec.ofChange armNamesWrong)

/-- 'foundrylaw11.ArmFields': WHATEVER THE INPUT: true; the input reads as it did. -/
def armFieldsSpec : ChangeSpec := { name := "armFields", fn := fun _ => fun
  | [d1, d2, d3] => { results := [.lit (.bool true)], args := [d1, d2, d3] }
  | _ => none }
def armFieldsRow : OpenClaim := { program := "ytffamklolgjjdaa", sum := "4a22ebec0867f1fa120537a12adb2b63e022a8809f22b7d5e389bf12c6001fdd", func := "foundry/foundrylaw11.ArmFields", spec := "armFields", apart := false }
def ArmFieldsSaid : Prop := armFieldsRow.holds Try.pinned (OpenSpec.ofChange armFieldsSpec)

/-- ITS FALSE NEIGHBOUR: 'it returns false'. Refute it at one input. -/
def armFieldsWrong : ChangeSpec := { name := "armFields", fn := fun _ => fun
  | [d1, d2, d3] => { results := [.lit (.bool false)], args := [d1, d2, d3] }
  | _ => none }
def ArmFieldsWrongFalsely : Prop := armFieldsRow.holds Try.pinned (OpenSpec.ofChange armFieldsWrong)

/-- 'foundrylaw11.ArmMasks': WHATEVER THE INPUT: true; the input reads as it did. -/
def armMasksSpec : ChangeSpec := { name := "armMasks", fn := fun _ => fun
  | [d1, d2, d3] => { results := [.lit (.bool true)], args := [d1, d2, d3] }
  | _ => none }
def armMasksRow : OpenClaim := { program := "ytffamklolgjjdaa", sum := "4a22ebec0867f1fa120537a12adb2b63e022a8809f22b7d5e389bf12c6001fdd", func := "foundry/foundrylaw11.ArmMasks", spec := "armMasks", apart := false }
def ArmMasksSaid : Prop := armMasksRow.holds Try.pinned (OpenSpec.ofChange armMasksSpec)

/-- ITS FALSE NEIGHBOUR: 'it returns false'. Refute it at one input. -/
def armMasksWrong : ChangeSpec := { name := "armMasks", fn := fun _ => fun
  | [d1, d2, d3] => { results := [.lit (.bool false)], args := [d1, d2, d3] }
  | _ => none }
def ArmMasksWrongFalsely : Prop := armMasksRow.holds Try.pinned (OpenSpec.ofChange armMasksWrong)

/- THE SECOND FORM. 'bulk': how many values and letters a reading holds, each counted each time it is reached (what is shared counts as often as it is met; a slice's spare places count too). A statement '..UptoSaid' is the law's where the arguments, and the package variables that the reading takes, are together of bulk at most 1048576: NARROWER than '..Said'. Prove '..Said' where nothing that the law and all that it calls make is longer than what came in: it says more and counts as full. Else prove '..UptoSaid'. A law counts once. -/
mutual
def uptoBulk {H : Type} : DataW H → Nat
  | .lit (.string bytes) => bytes.length + 1
  | .lit _ => 1
  | .nil => 1
  | .ptr d => uptoBulk d + 1
  | .slice elems spare => uptoBulkAll elems + uptoBulkAll spare + 1
  | .agg parts => uptoBulkAll parts + 1
  | .iface _ d => uptoBulk d + 1
  | .map entries => uptoBulkEntries entries + 1
  | .held _ => 1
def uptoBulkAll {H : Type} : List (DataW H) → Nat
  | [] => 0
  | d :: r => uptoBulk d + uptoBulkAll r
def uptoBulkEntries {H : Type} : List (Lit × DataW H) → Nat
  | [] => 0
  | x :: r => uptoBulkEntry x + uptoBulkEntries r
def uptoBulkEntry {H : Type} : Lit × DataW H → Nat
  | (.string bytes, d) => bytes.length + uptoBulk d + 1
  | (_, d) => uptoBulk d + 1
 end
def uptoSmall : (H : Type) → List (DataW H) → Bool := fun _ ds => decide (uptoBulkAll ds ≤ 1048576)
def OpenSpec.upto (s : _root_.Go.ChangeSpec) : _root_.Go.OpenSpec := { _root_.Go.OpenSpec.ofChange s with cond := some uptoSmall }

/-- 'foundrylaw11.ArmEncodes', WHERE WHAT IT READS IS OF BULK AT MOST 1048576: true; the input reads as it did. -/
def armEncodesUptoRow : OpenClaim := { program := "ytffamklolgjjdaa", sum := "4a22ebec0867f1fa120537a12adb2b63e022a8809f22b7d5e389bf12c6001fdd", func := "foundry/foundrylaw11.ArmEncodes", spec := "armEncodes", apart := false, narrowed := true }
def ArmEncodesUptoSaid : Prop := armEncodesUptoRow.holds Try.pinned (OpenSpec.upto armEncodesSpec)

/-- 'foundrylaw11.ArmDecodes', WHERE WHAT IT READS IS OF BULK AT MOST 1048576: true; the input reads as it did. -/
def armDecodesUptoRow : OpenClaim := { program := "ytffamklolgjjdaa", sum := "4a22ebec0867f1fa120537a12adb2b63e022a8809f22b7d5e389bf12c6001fdd", func := "foundry/foundrylaw11.ArmDecodes", spec := "armDecodes", apart := false, narrowed := true }
def ArmDecodesUptoSaid : Prop := armDecodesUptoRow.holds Try.pinned (OpenSpec.upto armDecodesSpec)

/-- 'foundrylaw11.ArmBack', WHERE WHAT IT READS IS OF BULK AT MOST 1048576: true; the input reads as it did. -/
def armBackUptoRow : OpenClaim := { program := "ytffamklolgjjdaa", sum := "4a22ebec0867f1fa120537a12adb2b63e022a8809f22b7d5e389bf12c6001fdd", func := "foundry/foundrylaw11.ArmBack", spec := "armBack", apart := false, narrowed := true }
def ArmBackUptoSaid : Prop := armBackUptoRow.holds Try.pinned (OpenSpec.upto armBackSpec)

/-- 'foundrylaw11.ArmNames', WHERE WHAT IT READS IS OF BULK AT MOST 1048576: true; the input reads as it did. -/
def armNamesUptoRow : OpenClaim := { program := "ytffamklolgjjdaa", sum := "4a22ebec0867f1fa120537a12adb2b63e022a8809f22b7d5e389bf12c6001fdd", func := "foundry/foundrylaw11.ArmNames", spec := "armNames", apart := false, narrowed := true }
def ArmNamesUptoSaid : Prop := armNamesUptoRow.holds Try.pinned (OpenSpec.upto armNamesSpec)

/-- 'foundrylaw11.ArmFields', WHERE WHAT IT READS IS OF BULK AT MOST 1048576: true; the input reads as it did. -/
def armFieldsUptoRow : OpenClaim := { program := "ytffamklolgjjdaa", sum := "4a22ebec0867f1fa120537a12adb2b63e022a8809f22b7d5e389bf12c6001fdd", func := "foundry/foundrylaw11.ArmFields", spec := "armFields", apart := false, narrowed := true }
def ArmFieldsUptoSaid : Prop := armFieldsUptoRow.holds Try.pinned (OpenSpec.upto armFieldsSpec)

/-- 'foundrylaw11.ArmMasks', WHERE WHAT IT READS IS OF BULK AT MOST 1048576: true; the input reads as it did. -/
def armMasksUptoRow : OpenClaim := { program := "ytffamklolgjjdaa", sum := "4a22ebec0867f1fa120537a12adb2b63e022a8809f22b7d5e389bf12c6001fdd", func := "foundry/foundrylaw11.ArmMasks", spec := "armMasks", apart := false, narrowed := true }
def ArmMasksUptoSaid : Prop := armMasksUptoRow.holds Try.pinned (OpenSpec.upto armMasksSpec)

end Rows
end Go.Proofs.Ytffamklolgjjdaa
