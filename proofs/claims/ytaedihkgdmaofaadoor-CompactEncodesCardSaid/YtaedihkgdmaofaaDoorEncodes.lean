/-
  CompactEncodes holds: for every list of instructions the law answers true and leaves its argument as it was.
  Conditions: none.
-/
import Derived.Test.YtaedihkgdmaofaaDoorRows
import Derived.Test.YtaedihkgdmaofaaDoorTie
import Derived.Test.YtaedihkgdmaofaaDoorCards
import Derived.SevenTiedAt
import Derived.Test.YtaedihkgdmaofaaDoorEnE
import Derived.Test.YtaedihkgdmaofaaDoorCmG
import Derived.Test.YtaedihkgdmaofaaDoorCm37
namespace Go.Proofs.YtaedihkgdmaofaaDoor
open Go Go.ChangeShapes Go.WideShapes Go.ChangeAt Go.RowKit

theorem encodes_call (x : Ab.EC.tys [.sl (.prod [.str, .int .i64, .int .i64, .int .i64, .int .i64, .int .i64])]) (_ : Ab.okEs [.sl (.prod [.str, .int .i64, .int .i64, .int .i64, .int .i64, .int .i64])] x) : Ab.PCall Tryd.prog 3 (Ab.argVs [.sl (.prod [.str, .int .i64, .int .i64, .int .i64, .int .i64, .int .i64])] x) (.bool true) :=
  Go.Cmp.lawE_ok (Option.getD (α := List Go.Cmp.insE.ty) x [])

set_option maxRecDepth 100000 in
theorem encodes_lifted (os : Os) (started : os.Started) (H : Type) (enc : TypeId × Value → H) :
    ReturnsInHanded {} Tryd.checked os 3 .any (fun w args => (Rows.compactEncodesSpec.pre enc Tryd.prog Tryd.f3 [] false w args ∧ laidMetH Tryd.prog laidL w) ∧ sizedMet enc Tryd.prog Tryd.f3 (OpenSpec.ofChange Rows.compactEncodesSpec) false w args)
      (Rows.compactEncodesSpec.post enc Tryd.prog Tryd.f3 false true false false) := by
  refine returnsInHanded_of_change_and (C := Tryd.checked) (X := fun w _ => laidMetH Tryd.prog laidL w) (fun _ _ _ hh h => h.of_heap hh) own started (by kernel_rfl) (by kernel_rfl)
    (ChangeSpec.witness_shaped (enc := enc) (C := Tryd.checked) (os := os) (X := fun w _ => laidMetH Tryd.prog laidL w) false (World.doorLaid Tryd.prog 400 os) #[.slice none 0 0] 8 rfl
      (World.shaped_of_RefB (by kernel_rfl) (by kernel_rfl)) (by kernel_rfl) (by kernel_rfl) (by kernel_rfl) (door_met os _)) ?_
  intro W base args ds gs before hval hW _ _ hL _
  refine Ab.law_contract (P := Tryd.prog) (fn := Tryd.f3) (cs := [.sl (.prod [.str, .int .i64, .int .i64, .int .i64, .int .i64, .int .i64])]) laidOut (by kernel_rfl) (by kernel_rfl) (by kernel_rfl) rfl (fun ds h => ?_) encodes_call W base args ds gs before (gs_of_laid hL) hval hW
  match ds, h with
  | [_], _ => rfl

theorem encodes_said : Rows.CompactEncodesSaid :=
  OpenClaim.holds_of_wide 3 Tryd.f3 rfl rfl rfl rfl rfl rfl rfl ⟨rfl, rfl, rfl, rfl, rfl⟩ rfl rfl rfl rfl rfl (by kernel_rfl) (by kernel_rfl) (by kernel_rfl)
    (of_decide_eq_true (by kernel_rfl)) (by unfold Func.isWrapper; rw [if_neg (of_decide_eq_false (by kernel_rfl))]; exact ⟨rfl, rfl⟩)
    (fun os started H enc _ => encodes_lifted os started H enc)

theorem encodes_params : Tryd.f3.params.toList.all (fun t => !Tryd.prog.wantsStandIn t) = true := by kernel_rfl
theorem encodes_holds : Rows.CompactEncodesCardSaid :=
  Claim7.holds_tied_plain_at .later [] [.data, .data, .data, .sentinel, .sentinel, .listed, .data] true _ true
    encodes_said (fun _ h => by cases h) (by kernel_rfl) (fun _ h => by cases h) compactEncodes_row_tie rfl ⟨rfl, rfl⟩ (by kernel_rfl) rfl
    (fun f fn hf hfn => by
      obtain rfl : f = 3 := (Option.some.inj ((show Tryd.prog.funcNamed Rows.compactEncodesRow.func = some 3 by kernel_rfl).symm.trans hf)).symm
      obtain rfl : fn = Tryd.f3 := (Option.some.inj ((show Tryd.prog.funcs[3]? = some Tryd.f3 by kernel_rfl).symm.trans hfn)).symm
      refine ⟨by kernel_rfl, fun j t ht => ?_⟩
      have hm : t ∈ Tryd.f3.params.toList := List.mem_of_getElem? (i := j) (by rw [Array.getElem?_toList]; exact ht)
      have := List.all_eq_true.1 encodes_params t hm
      show Tryd.prog.wantsStandIn t = false
      simpa using this)
    (by kernel_rfl)

end Go.Proofs.YtaedihkgdmaofaaDoor
