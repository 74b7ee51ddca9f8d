/-
  AmdForms holds: for every two registers and every number the law answers true.
  Conditions: none.
-/
import Derived.Test.YtlfnjldfmfjghaaRows
import Derived.Test.YtlfnjldfmfjghaaEnE
import Derived.Test.YtlfnjldfmfjghaaAm10
namespace Go.Proofs.Ytlfnjldfmfjghaa
open Go.ChangeShapes Go.WideShapes Go.ChangeAt Go.RowKit

theorem forms_own : ownKnob Try.prog.godebug = none := by kernel_rfl
theorem forms_laid : laidOutB Try.prog = true := by kernel_rfl

theorem forms_call (x : Ab.EC.tys [.int .i64, .int .i64, .int .i64]) (_ : Ab.okEs [.int .i64, .int .i64, .int .i64] x) : Ab.PCall Try.prog 8 (Ab.argVs [.int .i64, .int .i64, .int .i64] x) (.bool true) :=
  Go.Amd.forms_ok x.1 x.2.1 x.2.2

set_option maxRecDepth 100000 in
theorem forms_lifted (os : Os) (started : os.Started) (H : Type) (enc : TypeId × Value → H) :
    ReturnsInHanded {} Try.checked os 8 .any (Rows.amdFormsSpec.pre6 enc Try.prog Try.f8 Rows.amdFormsRow.domain false) (Rows.amdFormsSpec.post enc Try.prog Try.f8 false true false false) := by
  refine returnsInHanded_of_change (C := Try.checked) forms_own started (by kernel_rfl) rfl
    (ChangeSpec.witness6 (enc := enc) (C := Try.checked) false ⟨#[], #[.int .i64 0, .int .i64 0, .int .i64 0], []⟩ 8 (by kernel_rfl) (by kernel_rfl) (by kernel_rfl) (by kernel_rfl)) ?_
  intro W base args ds gs before hval hW _ _
  refine Ab.law_contract (P := Try.prog) (fn := Try.f8) (cs := [.int .i64, .int .i64, .int .i64]) forms_laid (by kernel_rfl) (by kernel_rfl) (by kernel_rfl) rfl (fun ds h => ?_) forms_call W base args ds gs before hval hW
  match ds, h with
  | [_, _, _], _ => rfl

theorem forms_holds : Rows.AmdFormsSaid :=
  OpenClaim.holds_of_wide 8 Try.f8 rfl rfl rfl rfl rfl rfl rfl ⟨rfl, rfl, rfl, rfl, rfl⟩ rfl rfl rfl rfl rfl (by kernel_rfl) rfl (by kernel_rfl)
    (of_decide_eq_true (by kernel_rfl)) (by unfold Func.isWrapper; rw [if_neg (of_decide_eq_false (by kernel_rfl))]; exact ⟨rfl, rfl⟩)
    (fun os started H enc _ => forms_lifted os started H enc)

end Go.Proofs.Ytlfnjldfmfjghaa
