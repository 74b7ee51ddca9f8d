/-
  AmdBack holds: for every instruction, all bytes ahead and behind and every place the law answers true and leaves its arguments as they were.
  Conditions: none.
-/
import Derived.Test.YtlfnjldfmfjghaaRows
import Derived.Test.YtlfnjldfmfjghaaEnE
import Derived.Test.YtlfnjldfmfjghaaAm52
namespace Go.Proofs.Ytlfnjldfmfjghaa
open Go.ChangeShapes Go.WideShapes Go.ChangeAt Go.RowKit

theorem back_own : ownKnob Try.prog.godebug = none := by kernel_rfl
theorem back_laid : laidOutB Try.prog = true := by kernel_rfl

theorem bytes_of : ∀ o : Option (List Int), Ab.okE (.sl (.int .u8)) o → Go.Wd.Bytes (o.getD [])
  | none, _ => fun _ h => by cases h
  | some l, h => fun x hx => by
    have h2 : IntKind.u8.has x := h.2 x hx
    have h3 : (0 : Int) ≤ x ∧ x ≤ 255 := h2
    omega

theorem back_call (x : Ab.EC.tys [.prod [.str, .int .i64, .int .i64, .int .i64, .int .i64, .int .i64], .sl (.int .u8), .sl (.int .u8), .int .i64]) (h : Ab.okEs [.prod [.str, .int .i64, .int .i64, .int .i64, .int .i64, .int .i64], .sl (.int .u8), .sl (.int .u8), .int .i64] x) : Ab.PCall Try.prog 5 (Ab.argVs [.prod [.str, .int .i64, .int .i64, .int .i64, .int .i64, .int .i64], .sl (.int .u8), .sl (.int .u8), .int .i64] x) (.bool true) :=
  Go.Amd.back_ok x.1.1 x.1.2.1 x.1.2.2.1 x.1.2.2.2.1 x.1.2.2.2.2.1 x.1.2.2.2.2.2 (x.2.1.getD []) (x.2.2.1.getD []) x.2.2.2 (bytes_of _ h.2.1) (bytes_of _ h.2.2.1)

set_option maxRecDepth 100000 in
theorem back_lifted (os : Os) (started : os.Started) (H : Type) (enc : TypeId × Value → H) :
    ReturnsInHanded {} Try.checked os 5 .any (Rows.amdBackSpec.pre6 enc Try.prog Try.f5 Rows.amdBackRow.domain false) (Rows.amdBackSpec.post enc Try.prog Try.f5 false true false false) := by
  refine returnsInHanded_of_change (C := Try.checked) back_own started (by kernel_rfl) rfl
    (ChangeSpec.witness6 (enc := enc) (C := Try.checked) false ⟨#[], #[.agg #[.string ByteArray.empty, .int .i64 0, .int .i64 0, .int .i64 0, .int .i64 0, .int .i64 0], .slice none 0 0, .slice none 0 0, .int .i64 0], []⟩ 8 (by kernel_rfl) (by kernel_rfl) (by kernel_rfl) (by kernel_rfl)) ?_
  intro W base args ds gs before hval hW _ _
  refine Ab.law_contract (P := Try.prog) (fn := Try.f5) (cs := [.prod [.str, .int .i64, .int .i64, .int .i64, .int .i64, .int .i64], .sl (.int .u8), .sl (.int .u8), .int .i64]) back_laid (by kernel_rfl) (by kernel_rfl) (by kernel_rfl) rfl (fun ds h => ?_) back_call W base args ds gs before hval hW
  match ds, h with
  | [_, _, _, _], _ => rfl

theorem back_holds : Rows.AmdBackSaid :=
  OpenClaim.holds_of_wide 5 Try.f5 rfl rfl rfl rfl rfl rfl rfl ⟨rfl, rfl, rfl, rfl, rfl⟩ rfl rfl rfl rfl rfl (by kernel_rfl) rfl (by kernel_rfl)
    (of_decide_eq_true (by kernel_rfl)) (by unfold Func.isWrapper; rw [if_neg (of_decide_eq_false (by kernel_rfl))]; exact ⟨rfl, rfl⟩)
    (fun os started H enc _ => back_lifted os started H enc)

end Go.Proofs.Ytlfnjldfmfjghaa
