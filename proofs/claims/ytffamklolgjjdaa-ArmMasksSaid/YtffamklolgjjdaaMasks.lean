/-
  ArmMasks holds: for every number and every two registers the law answers true and leaves its arguments as they were.
  Conditions: none.
-/
import Derived.Test.YtffamklolgjjdaaRows
import Derived.Test.YtffamklolgjjdaaAbZ
import Derived.Test.YtffamklolgjjdaaAr20
namespace Go.Proofs.Ytffamklolgjjdaa
open Go.ChangeShapes Go.WideShapes Go.ChangeAt Go.RowKit

theorem masks_own : ownKnob Try.prog.godebug = none := by kernel_rfl
theorem masks_laid : laidOutB Try.prog = true := by kernel_rfl

theorem u64_call (m x y : Int) (h : Ab.okE (.int .u64) m) : Ab.PCall Try.prog 8 [.int .u64 m, .int .i64 x, .int .i64 y] (.bool true) := by
  have h2 : IntKind.u64.has m := h
  have h3 : (0 : Int) ≤ m ∧ m ≤ 18446744073709551615 := h2
  obtain ⟨k, rfl⟩ := Int.eq_ofNat_of_zero_le h3.1
  exact Go.Arm.masks_ok (by omega) x y

theorem masks_call (x : Ab.EC.tys [.int .u64, .int .i64, .int .i64]) (h : Ab.okEs [.int .u64, .int .i64, .int .i64] x) : Ab.PCall Try.prog 8 (Ab.argVs [.int .u64, .int .i64, .int .i64] x) (.bool true) :=
  u64_call x.1 x.2.1 x.2.2 h.1

set_option maxRecDepth 100000 in
theorem masks_lifted (os : Os) (started : os.Started) (H : Type) (enc : TypeId × Value → H) :
    ReturnsInHanded {} Try.checked os 8 .any (Rows.armMasksSpec.pre6 enc Try.prog Try.f8 Rows.armMasksRow.domain false) (Rows.armMasksSpec.post enc Try.prog Try.f8 false true false false) := by
  refine returnsInHanded_of_change (C := Try.checked) masks_own started (by kernel_rfl) rfl
    (ChangeSpec.witness6 (enc := enc) (C := Try.checked) false ⟨#[], #[.int .u64 0, .int .i64 0, .int .i64 0], []⟩ 8 (by kernel_rfl) (by kernel_rfl) (by kernel_rfl) (by kernel_rfl)) ?_
  intro W base args ds gs before hval hW _ _
  refine Ab.law_contract (P := Try.prog) (fn := Try.f8) (cs := [.int .u64, .int .i64, .int .i64]) masks_laid (by kernel_rfl) (by kernel_rfl) (by kernel_rfl) rfl (fun ds h => ?_) masks_call W base args ds gs before hval hW
  match ds, h with
  | [_, _, _], _ => rfl

theorem masks_holds : Rows.ArmMasksSaid :=
  OpenClaim.holds_of_wide 8 Try.f8 rfl rfl rfl rfl rfl rfl rfl ⟨rfl, rfl, rfl, rfl, rfl⟩ rfl rfl rfl rfl rfl (by kernel_rfl) rfl (by kernel_rfl)
    (of_decide_eq_true (by kernel_rfl)) (by unfold Func.isWrapper; rw [if_neg (of_decide_eq_false (by kernel_rfl))]; exact ⟨rfl, rfl⟩)
    (fun os started H enc _ => masks_lifted os started H enc)

end Go.Proofs.Ytffamklolgjjdaa
