/-
  ArmEncodes holds: for every list of instructions the law answers true and leaves its argument as it was.
  Conditions: none.
-/
import Derived.Test.YtffamklolgjjdaaRows
import Derived.Test.YtffamklolgjjdaaEnE
import Derived.Test.YtffamklolgjjdaaAr35
namespace Go.Proofs.Ytffamklolgjjdaa
open Go.ChangeShapes Go.WideShapes Go.ChangeAt Go.RowKit

theorem encodes_own : ownKnob Try.prog.godebug = none := by kernel_rfl
theorem encodes_laid : laidOutB Try.prog = true := by kernel_rfl

theorem encodes_call (x : Ab.EC.tys [.sl Go.Arm.insE]) (_ : Ab.okEs [.sl Go.Arm.insE] x) : Ab.PCall Try.prog 3 (Ab.argVs [.sl Go.Arm.insE] x) (.bool true) :=
  Go.Arm.lawE_ok (Option.getD (α := List Go.Arm.insE.ty) x [])

set_option maxRecDepth 100000 in
theorem encodes_lifted (os : Os) (started : os.Started) (H : Type) (enc : TypeId × Value → H) :
    ReturnsInHanded {} Try.checked os 3 .any (Rows.armEncodesSpec.pre6 enc Try.prog Try.f3 Rows.armEncodesRow.domain false) (Rows.armEncodesSpec.post enc Try.prog Try.f3 false true false false) := by
  refine returnsInHanded_of_change (C := Try.checked) encodes_own started (by kernel_rfl) rfl
    (ChangeSpec.witness6 (enc := enc) (C := Try.checked) false ⟨#[], #[.slice none 0 0], []⟩ 8 (by kernel_rfl) (by kernel_rfl) (by kernel_rfl) (by kernel_rfl)) ?_
  intro W base args ds gs before hval hW _ _
  refine Ab.law_contract (P := Try.prog) (fn := Try.f3) (cs := [.sl Go.Arm.insE]) encodes_laid (by kernel_rfl) (by kernel_rfl) (by kernel_rfl) rfl (fun ds h => ?_) encodes_call W base args ds gs before hval hW
  match ds, h with
  | [_], _ => rfl

theorem encodes_holds : Rows.ArmEncodesSaid :=
  OpenClaim.holds_of_wide 3 Try.f3 rfl rfl rfl rfl rfl rfl rfl ⟨rfl, rfl, rfl, rfl, rfl⟩ rfl rfl rfl rfl rfl (by kernel_rfl) rfl (by kernel_rfl)
    (of_decide_eq_true (by kernel_rfl)) (by unfold Func.isWrapper; rw [if_neg (of_decide_eq_false (by kernel_rfl))]; exact ⟨rfl, rfl⟩)
    (fun os started H enc _ => encodes_lifted os started H enc)

end Go.Proofs.Ytffamklolgjjdaa
