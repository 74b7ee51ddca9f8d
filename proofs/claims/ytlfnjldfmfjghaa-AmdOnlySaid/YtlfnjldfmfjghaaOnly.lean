/-
  AmdOnly holds: for every two instructions the law answers true and leaves its arguments as they were.
  Conditions: none.
-/
import Derived.Test.YtlfnjldfmfjghaaRows
import Derived.Test.YtlfnjldfmfjghaaEnE
import Derived.Test.YtlfnjldfmfjghaaAm47
namespace Go.Proofs.Ytlfnjldfmfjghaa
open Go.ChangeShapes Go.WideShapes Go.ChangeAt Go.RowKit

theorem only_own : ownKnob Try.prog.godebug = none := by kernel_rfl
theorem only_laid : laidOutB Try.prog = true := by kernel_rfl

theorem only_call (x : Ab.EC.tys [.prod [.str, .int .i64, .int .i64, .int .i64, .int .i64, .int .i64], .prod [.str, .int .i64, .int .i64, .int .i64, .int .i64, .int .i64]]) (_ : Ab.okEs [.prod [.str, .int .i64, .int .i64, .int .i64, .int .i64, .int .i64], .prod [.str, .int .i64, .int .i64, .int .i64, .int .i64, .int .i64]] x) : Ab.PCall Try.prog 7 (Ab.argVs [.prod [.str, .int .i64, .int .i64, .int .i64, .int .i64, .int .i64], .prod [.str, .int .i64, .int .i64, .int .i64, .int .i64, .int .i64]] x) (.bool true) :=
  Go.Amd.only_ok x.1.1 x.1.2.1 x.1.2.2.1 x.1.2.2.2.1 x.1.2.2.2.2.1 x.1.2.2.2.2.2 x.2.1 x.2.2.1 x.2.2.2.1 x.2.2.2.2.1 x.2.2.2.2.2.1 x.2.2.2.2.2.2

set_option maxRecDepth 100000 in
theorem only_lifted (os : Os) (started : os.Started) (H : Type) (enc : TypeId × Value → H) :
    ReturnsInHanded {} Try.checked os 7 .any (Rows.amdOnlySpec.pre6 enc Try.prog Try.f7 Rows.amdOnlyRow.domain false) (Rows.amdOnlySpec.post enc Try.prog Try.f7 false true false false) := by
  refine returnsInHanded_of_change (C := Try.checked) only_own started (by kernel_rfl) rfl
    (ChangeSpec.witness6 (enc := enc) (C := Try.checked) false ⟨#[], #[.agg #[.string ByteArray.empty, .int .i64 0, .int .i64 0, .int .i64 0, .int .i64 0, .int .i64 0], .agg #[.string ByteArray.empty, .int .i64 0, .int .i64 0, .int .i64 0, .int .i64 0, .int .i64 0]], []⟩ 8 (by kernel_rfl) (by kernel_rfl) (by kernel_rfl) (by kernel_rfl)) ?_
  intro W base args ds gs before hval hW _ _
  refine Ab.law_contract (P := Try.prog) (fn := Try.f7) (cs := [.prod [.str, .int .i64, .int .i64, .int .i64, .int .i64, .int .i64], .prod [.str, .int .i64, .int .i64, .int .i64, .int .i64, .int .i64]]) only_laid (by kernel_rfl) (by kernel_rfl) (by kernel_rfl) rfl (fun ds h => ?_) only_call W base args ds gs before hval hW
  match ds, h with
  | [_, _], _ => rfl

theorem only_holds : Rows.AmdOnlySaid :=
  OpenClaim.holds_of_wide 7 Try.f7 rfl rfl rfl rfl rfl rfl rfl ⟨rfl, rfl, rfl, rfl, rfl⟩ rfl rfl rfl rfl rfl (by kernel_rfl) rfl (by kernel_rfl)
    (of_decide_eq_true (by kernel_rfl)) (by unfold Func.isWrapper; rw [if_neg (of_decide_eq_false (by kernel_rfl))]; exact ⟨rfl, rfl⟩)
    (fun os started H enc _ => only_lifted os started H enc)

end Go.Proofs.Ytlfnjldfmfjghaa
