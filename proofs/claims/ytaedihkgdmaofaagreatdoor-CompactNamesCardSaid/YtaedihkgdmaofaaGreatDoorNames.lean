/-
  CompactNames holds: for every name the law answers true and leaves its argument as it was.
  Conditions: none.
-/
import Derived.Test.YtaedihkgdmaofaaGreatDoorRows
import Derived.Test.YtaedihkgdmaofaaGreatDoorTie
import Derived.Test.YtaedihkgdmaofaaGreatDoorCards
import Derived.SevenTiedAt
import Derived.Test.YtaedihkgdmaofaaGreatDoorEnJ
import Derived.Test.YtaedihkgdmaofaaGreatDoorCzG
import Derived.Test.YtaedihkgdmaofaaGreatDoorCz28
namespace Go.Proofs.YtaedihkgdmaofaaGreatDoor
open Go Go.ChangeShapes Go.WideShapes Go.ChangeAt Go.RowKit

theorem names_call (x : Ab.EC.tys [.str]) (_ : Ab.okEs [.str] x) : Ab.PCall Tryz.prog 3 (Ab.argVs [.str] x) (.bool true) :=
  Go.Cmp.lawN_ok x

set_option maxRecDepth 100000 in
theorem names_lifted (os : Os) (started : os.Started) (H : Type) (enc : TypeId × Value → H) :
    ReturnsInHanded {} Tryz.checked os 3 .any (fun w args => (Rows.compactNamesSpec.pre enc Tryz.prog Tryz.f3 [] false w args ∧ laidMetH Tryz.prog laidL w) ∧ sizedMet enc Tryz.prog Tryz.f3 (OpenSpec.ofChange Rows.compactNamesSpec) false w args)
      (Rows.compactNamesSpec.post enc Tryz.prog Tryz.f3 false true false false) := by
  refine returnsInHanded_of_change_and (C := Tryz.checked) (X := fun w _ => laidMetH Tryz.prog laidL w) (fun _ _ _ hh h => h.of_heap hh) own started (by kernel_rfl) (by kernel_rfl)
    (ChangeSpec.witness_shaped (enc := enc) (C := Tryz.checked) (os := os) (X := fun w _ => laidMetH Tryz.prog laidL w) false (laidWorld os) #[.string ByteArray.empty] 8 rfl
      (World.shaped_of_RefB (by kernel_rfl) (by kernel_rfl)) (by kernel_rfl) (by kernel_rfl) (by kernel_rfl) (door_met os _)) ?_
  intro W base args ds gs before hval hW _ _ hL _
  refine Ab.law_contract (P := Tryz.prog) (fn := Tryz.f3) (cs := [.str]) laidOut (by kernel_rfl) (by kernel_rfl) (by kernel_rfl) rfl (fun ds h => ?_) names_call W base args ds gs before (gs_of_laid hL) hval hW
  match ds, h with
  | [_], _ => rfl

theorem names_said : Rows.CompactNamesSaid :=
  OpenClaim.holds_of_wide 3 Tryz.f3 rfl rfl rfl rfl rfl rfl rfl ⟨rfl, rfl, rfl, rfl, rfl⟩ rfl rfl rfl rfl rfl (by kernel_rfl) (by kernel_rfl) (by kernel_rfl)
    (of_decide_eq_true (by kernel_rfl)) (by unfold Func.isWrapper; rw [if_neg (of_decide_eq_false (by kernel_rfl))]; exact ⟨rfl, rfl⟩)
    (fun os started H enc _ => names_lifted os started H enc)

theorem names_params : Tryz.f3.params.toList.all (fun t => !Tryz.prog.wantsStandIn t) = true := by kernel_rfl
theorem names_holds : Rows.CompactNamesCardSaid :=
  Claim7.holds_tied_plain_at .later [] [.data, .data, .data, .data, .sentinel, .sentinel, .listed, .data, .pinned, .pinned] true _ true
    names_said (fun _ h => by cases h) (by kernel_rfl) (fun _ h => by cases h) compactNames_row_tie rfl ⟨rfl, rfl⟩ (by kernel_rfl) rfl
    (fun f fn hf hfn => by
      obtain rfl : f = 3 := (Option.some.inj ((show Tryz.prog.funcNamed Rows.compactNamesRow.func = some 3 by kernel_rfl).symm.trans hf)).symm
      obtain rfl : fn = Tryz.f3 := (Option.some.inj ((show Tryz.prog.funcs[3]? = some Tryz.f3 by kernel_rfl).symm.trans hfn)).symm
      refine ⟨by kernel_rfl, fun j t ht => ?_⟩
      have hm : t ∈ Tryz.f3.params.toList := List.mem_of_getElem? (i := j) (by rw [Array.getElem?_toList]; exact ht)
      have := List.all_eq_true.1 names_params t hm
      show Tryz.prog.wantsStandIn t = false
      simpa using this)
    (by kernel_rfl)

end Go.Proofs.YtaedihkgdmaofaaGreatDoor
