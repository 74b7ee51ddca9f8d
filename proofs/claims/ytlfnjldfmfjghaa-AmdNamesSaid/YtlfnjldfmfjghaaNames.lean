/-
  AmdNames holds: for every text the law answers true and leaves its argument as it was.
  Conditions: none.
-/
import Derived.Test.YtlfnjldfmfjghaaRows
import Derived.Test.YtlfnjldfmfjghaaEnE
import Derived.Test.YtlfnjldfmfjghaaAm13
namespace Go.Proofs.Ytlfnjldfmfjghaa
open Go.ChangeShapes Go.WideShapes Go.ChangeAt Go.RowKit

theorem names_own : ownKnob Try.prog.godebug = none := by kernel_rfl
theorem names_laid : laidOutB Try.prog = true := by kernel_rfl

theorem names_call (x : Ab.EC.tys [.str]) (_ : Ab.okEs [.str] x) : Ab.PCall Try.prog 6 (Ab.argVs [.str] x) (.bool true) :=
  Go.Amd.lawN_ok x

set_option maxRecDepth 100000 in
theorem names_lifted (os : Os) (started : os.Started) (H : Type) (enc : TypeId × Value → H) :
    ReturnsInHanded {} Try.checked os 6 .any (Rows.amdNamesSpec.pre6 enc Try.prog Try.f6 Rows.amdNamesRow.domain false) (Rows.amdNamesSpec.post enc Try.prog Try.f6 false true false false) := by
  refine returnsInHanded_of_change (C := Try.checked) names_own started (by kernel_rfl) rfl
    (ChangeSpec.witness6 (enc := enc) (C := Try.checked) false ⟨#[], #[.string ByteArray.empty], []⟩ 8 (by kernel_rfl) (by kernel_rfl) (by kernel_rfl) (by kernel_rfl)) ?_
  intro W base args ds gs before hval hW _ _
  refine Ab.law_contract (P := Try.prog) (fn := Try.f6) (cs := [.str]) names_laid (by kernel_rfl) (by kernel_rfl) (by kernel_rfl) rfl (fun ds h => ?_) names_call W base args ds gs before hval hW
  match ds, h with
  | [_], _ => rfl

theorem names_holds : Rows.AmdNamesSaid :=
  OpenClaim.holds_of_wide 6 Try.f6 rfl rfl rfl rfl rfl rfl rfl ⟨rfl, rfl, rfl, rfl, rfl⟩ rfl rfl rfl rfl rfl (by kernel_rfl) rfl (by kernel_rfl)
    (of_decide_eq_true (by kernel_rfl)) (by unfold Func.isWrapper; rw [if_neg (of_decide_eq_false (by kernel_rfl))]; exact ⟨rfl, rfl⟩)
    (fun os started H enc _ => names_lifted os started H enc)

end Go.Proofs.Ytlfnjldfmfjghaa
