/-
  CompactWide holds: for every two instructions the law answers true and leaves its arguments as they were.
  Conditions: none.
-/
import Derived.Test.YtaedihkgdmaofaaDoorRows
import Derived.Test.YtaedihkgdmaofaaDoorTie
import Derived.Test.YtaedihkgdmaofaaDoorCards
import Derived.SevenTiedAt
import Derived.Test.YtaedihkgdmaofaaDoorEnE
import Derived.Test.YtaedihkgdmaofaaDoorCmG
import Derived.Test.YtaedihkgdmaofaaDoorCm42
namespace Go.Proofs.YtaedihkgdmaofaaDoor
open Go Go.ChangeShapes Go.WideShapes Go.ChangeAt Go.RowKit

theorem wide_call (x : Ab.EC.tys [.prod [.str, .int .i64, .int .i64, .int .i64, .int .i64, .int .i64], .prod [.str, .int .i64, .int .i64, .int .i64, .int .i64, .int .i64]]) (_ : Ab.okEs [.prod [.str, .int .i64, .int .i64, .int .i64, .int .i64, .int .i64], .prod [.str, .int .i64, .int .i64, .int .i64, .int .i64, .int .i64]] x) : Ab.PCall Tryd.prog 6 (Ab.argVs [.prod [.str, .int .i64, .int .i64, .int .i64, .int .i64, .int .i64], .prod [.str, .int .i64, .int .i64, .int .i64, .int .i64, .int .i64]] x) (.bool true) :=
  Go.Cmp.wide_law x.1 x.2

set_option maxRecDepth 100000 in
theorem wide_lifted (os : Os) (started : os.Started) (H : Type) (enc : TypeId × Value → H) :
    ReturnsInHanded {} Tryd.checked os 6 .any (fun w args => (Rows.compactWideSpec.pre enc Tryd.prog Tryd.f6 [] false w args ∧ laidMetH Tryd.prog laidL w) ∧ sizedMet enc Tryd.prog Tryd.f6 (OpenSpec.ofChange Rows.compactWideSpec) false w args)
      (Rows.compactWideSpec.post enc Tryd.prog Tryd.f6 false true false false) := by
  refine returnsInHanded_of_change_and (C := Tryd.checked) (X := fun w _ => laidMetH Tryd.prog laidL w) (fun _ _ _ hh h => h.of_heap hh) own started (by kernel_rfl) (by kernel_rfl)
    (ChangeSpec.witness_shaped (enc := enc) (C := Tryd.checked) (os := os) (X := fun w _ => laidMetH Tryd.prog laidL w) false (World.doorLaid Tryd.prog 400 os) #[.agg #[.string ByteArray.empty, .int .i64 0, .int .i64 0, .int .i64 0, .int .i64 0, .int .i64 0], .agg #[.string ByteArray.empty, .int .i64 0, .int .i64 0, .int .i64 0, .int .i64 0, .int .i64 0]] 8 rfl
      (World.shaped_of_RefB (by kernel_rfl) (by kernel_rfl)) (by kernel_rfl) (by kernel_rfl) (by kernel_rfl) (door_met os _)) ?_
  intro W base args ds gs before hval hW _ _ hL _
  refine Ab.law_contract (P := Tryd.prog) (fn := Tryd.f6) (cs := [.prod [.str, .int .i64, .int .i64, .int .i64, .int .i64, .int .i64], .prod [.str, .int .i64, .int .i64, .int .i64, .int .i64, .int .i64]]) laidOut (by kernel_rfl) (by kernel_rfl) (by kernel_rfl) rfl (fun ds h => ?_) wide_call W base args ds gs before (gs_of_laid hL) hval hW
  match ds, h with
  | [_, _], _ => rfl

theorem wide_said : Rows.CompactWideSaid :=
  OpenClaim.holds_of_wide 6 Tryd.f6 rfl rfl rfl rfl rfl rfl rfl ⟨rfl, rfl, rfl, rfl, rfl⟩ rfl rfl rfl rfl rfl (by kernel_rfl) (by kernel_rfl) (by kernel_rfl)
    (of_decide_eq_true (by kernel_rfl)) (by unfold Func.isWrapper; rw [if_neg (of_decide_eq_false (by kernel_rfl))]; exact ⟨rfl, rfl⟩)
    (fun os started H enc _ => wide_lifted os started H enc)

theorem wide_params : Tryd.f6.params.toList.all (fun t => !Tryd.prog.wantsStandIn t) = true := by kernel_rfl
theorem wide_holds : Rows.CompactWideCardSaid :=
  Claim7.holds_tied_plain_at .later [] [.data, .data, .data, .sentinel, .sentinel, .listed, .data] true _ true
    wide_said (fun _ h => by cases h) (by kernel_rfl) (fun _ h => by cases h) compactWide_row_tie rfl ⟨rfl, rfl⟩ (by kernel_rfl) rfl
    (fun f fn hf hfn => by
      obtain rfl : f = 6 := (Option.some.inj ((show Tryd.prog.funcNamed Rows.compactWideRow.func = some 6 by kernel_rfl).symm.trans hf)).symm
      obtain rfl : fn = Tryd.f6 := (Option.some.inj ((show Tryd.prog.funcs[6]? = some Tryd.f6 by kernel_rfl).symm.trans hfn)).symm
      refine ⟨by kernel_rfl, fun j t ht => ?_⟩
      have hm : t ∈ Tryd.f6.params.toList := List.mem_of_getElem? (i := j) (by rw [Array.getElem?_toList]; exact ht)
      have := List.all_eq_true.1 wide_params t hm
      show Tryd.prog.wantsStandIn t = false
      simpa using this)
    (by kernel_rfl)

end Go.Proofs.YtaedihkgdmaofaaDoor
