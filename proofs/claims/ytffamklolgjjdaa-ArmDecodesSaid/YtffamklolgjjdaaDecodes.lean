/-
  ArmDecodes holds: for all bytes and every place the law answers true and leaves its arguments as they were.
  Conditions: none.
-/
import Derived.Test.YtffamklolgjjdaaRows
import Derived.Test.YtffamklolgjjdaaEnE
import Derived.Test.YtffamklolgjjdaaAr33
namespace Go.Proofs.Ytffamklolgjjdaa
open Go.ChangeShapes Go.WideShapes Go.ChangeAt Go.RowKit

theorem decodes_own : ownKnob Try.prog.godebug = none := by kernel_rfl
theorem decodes_laid : laidOutB Try.prog = true := by kernel_rfl

theorem decodes_bytes : ∀ o : Option (List Int), Ab.okE (.sl (.int .u8)) o → Go.Wd.Bytes (o.getD [])
  | none, _ => fun _ h => by cases h
  | some l, h => fun x hx => by
    have h2 : IntKind.u8.has x := h.2 x hx
    have h3 : (0 : Int) ≤ x ∧ x ≤ 255 := h2
    omega

theorem decodes_call (x : Ab.EC.tys [.sl (.int .u8), .int .i64]) (h : Ab.okEs _ x) : Ab.PCall Try.prog 4 (Ab.argVs _ x) (.bool true) :=
  Go.Arm.lawD_ok (x.1.getD []) x.2 (decodes_bytes _ h.1)

set_option maxRecDepth 100000 in
theorem decodes_lifted (os : Os) (started : os.Started) (H : Type) (enc : TypeId × Value → H) :
    ReturnsInHanded {} Try.checked os 4 .any (Rows.armDecodesSpec.pre6 enc Try.prog Try.f4 Rows.armDecodesRow.domain false) (Rows.armDecodesSpec.post enc Try.prog Try.f4 false true false false) := by
  refine returnsInHanded_of_change (C := Try.checked) decodes_own started (by kernel_rfl) rfl
    (ChangeSpec.witness6 (enc := enc) (C := Try.checked) false ⟨#[], #[.slice none 0 0, .int .i64 0], []⟩ 8 (by kernel_rfl) (by kernel_rfl) (by kernel_rfl) (by kernel_rfl)) ?_
  intro W base args ds gs before hval hW _ _
  refine Ab.law_contract (P := Try.prog) (fn := Try.f4) decodes_laid (by kernel_rfl) (by kernel_rfl) (by kernel_rfl) rfl (fun ds h => ?_) decodes_call W base args ds gs before hval hW
  match ds, h with
  | [_, _], _ => rfl

theorem decodes_holds : Rows.ArmDecodesSaid :=
  OpenClaim.holds_of_wide 4 Try.f4 rfl rfl rfl rfl rfl rfl rfl ⟨rfl, rfl, rfl, rfl, rfl⟩ rfl rfl rfl rfl rfl (by kernel_rfl) rfl (by kernel_rfl)
    (of_decide_eq_true (by kernel_rfl)) (by unfold Func.isWrapper; rw [if_neg (of_decide_eq_false (by kernel_rfl))]; exact ⟨rfl, rfl⟩)
    (fun os started H enc _ => decodes_lifted os started H enc)

end Go.Proofs.Ytffamklolgjjdaa
