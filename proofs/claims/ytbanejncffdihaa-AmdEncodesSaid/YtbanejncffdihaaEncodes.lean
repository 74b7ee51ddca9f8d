/-
  AmdEncodes holds: for every list of instructions the law answers true and leaves its argument as it was.
  Conditions: none.
-/
import Derived.Test.YtbanejncffdihaaRows
import Derived.Test.YtbanejncffdihaaPk14
set_option linter.unusedVariables false
set_option linter.unusedSimpArgs false
namespace Go.Proofs.Ytbanejncffdihaa
open Go.ChangeShapes Go.WideShapes Go.ChangeAt Go.RowKit
theorem encodes_own : ownKnob Try.prog.godebug = none := by kernel_rfl
theorem encodes_laid : laidOutB Try.prog = true := by kernel_rfl
theorem encodes_rng : ∀ o : Option (List Go.Amd.insE.ty), Ab.okE (.sl Go.Amd.insE) o → ∀ x ∈ o.getD [], Go.Amd.i64r (Go.Amd.insOf x).2.2.2.2.2 = true
  | none, _ => fun _ h => by cases h
  | some l, h => fun x hx => by
    obtain ⟨_, _, _, _, _, h6⟩ := h.2 x hx
    have h6 : (-9223372036854775808 : Int) ≤ (Go.Amd.insOf x).2.2.2.2.2 ∧ (Go.Amd.insOf x).2.2.2.2.2 ≤ 9223372036854775807 := h6
    exact Bool.and_eq_true_iff.2 ⟨decide_eq_true h6.1, decide_eq_true h6.2⟩
theorem encodes_call (x : Ab.EC.tys [.sl Go.Amd.insE]) (h : Ab.okEs [.sl Go.Amd.insE] x) : Ab.PCall Try.prog 3 (Ab.argVs [.sl Go.Amd.insE] x) (.bool true) :=
  Go.Amd.lawE_ok (Option.getD (α := List Go.Amd.insE.ty) x []) (encodes_rng x h)
set_option maxRecDepth 100000 in
theorem encodes_lifted (os : Os) (started : os.Started) (H : Type) (enc : TypeId × Value → H) :
    ReturnsInHanded {} Try.checked os 3 .any (Rows.amdEncodesSpec.pre6 enc Try.prog Try.f3 Rows.amdEncodesRow.domain false) (Rows.amdEncodesSpec.post enc Try.prog Try.f3 false true false false) := by
  refine returnsInHanded_of_change (C := Try.checked) encodes_own started (by kernel_rfl) rfl
    (ChangeSpec.witness6 (enc := enc) (C := Try.checked) false ⟨#[], #[.slice none 0 0], []⟩ 8 (by kernel_rfl) (by kernel_rfl) (by kernel_rfl) (by kernel_rfl)) ?_
  intro W base args ds gs before hval hW _ _
  refine Ab.law_contract (P := Try.prog) (fn := Try.f3) (cs := [.sl Go.Amd.insE]) encodes_laid (by kernel_rfl) (by kernel_rfl) (by kernel_rfl) rfl (fun ds h => ?_) encodes_call W base args ds gs before (Ab.gs_nil (by kernel_rfl) W) hval hW
  match ds, h with
  | [_], _ => rfl
theorem encodes_holds : Rows.AmdEncodesSaid :=
  OpenClaim.holds_of_wide 3 Try.f3 rfl rfl rfl rfl rfl rfl rfl ⟨rfl, rfl, rfl, rfl, rfl⟩ rfl rfl rfl rfl rfl (by kernel_rfl) rfl (by kernel_rfl)
    (of_decide_eq_true (by kernel_rfl)) (by unfold Func.isWrapper; rw [if_neg (of_decide_eq_false (by kernel_rfl))]; exact ⟨rfl, rfl⟩)
    (fun os started H enc _ => encodes_lifted os started H enc)
end Go.Proofs.Ytbanejncffdihaa
