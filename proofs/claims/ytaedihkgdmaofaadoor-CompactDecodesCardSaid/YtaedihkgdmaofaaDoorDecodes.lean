/-
  CompactDecodes holds: for all bytes and every place the law answers true and leaves its arguments as they were.
  Conditions: none.
-/
import Derived.Test.YtaedihkgdmaofaaDoorRows
import Derived.Test.YtaedihkgdmaofaaDoorTie
import Derived.Test.YtaedihkgdmaofaaDoorCards
import Derived.SevenTiedAt
import Derived.Test.YtaedihkgdmaofaaDoorEnE
import Derived.Test.YtaedihkgdmaofaaDoorCmG
import Derived.Test.YtaedihkgdmaofaaDoorCm35
namespace Go.Proofs.YtaedihkgdmaofaaDoor
open Go Go.ChangeShapes Go.WideShapes Go.ChangeAt Go.RowKit

theorem bytes_of : ∀ o : Option (List Int), Ab.okE (.sl (.int .u8)) o → Go.Cmp.Bytes (o.getD [])
  | none, _ => fun _ h => by cases h
  | some l, h => fun x hx => by
    have h2 : IntKind.u8.has x := h.2 x hx
    have h3 : (0 : Int) ≤ x ∧ x ≤ 255 := h2
    omega

theorem decodes_call (x : Ab.EC.tys [.sl (.int .u8), .int .i64]) (h : Ab.okEs [.sl (.int .u8), .int .i64] x) : Ab.PCall Tryd.prog 4 (Ab.argVs [.sl (.int .u8), .int .i64] x) (.bool true) :=
  Go.Cmp.lawD_ok (x.1.getD []) x.2 (bytes_of _ h.1)

set_option maxRecDepth 100000 in
theorem decodes_lifted (os : Os) (started : os.Started) (H : Type) (enc : TypeId × Value → H) :
    ReturnsInHanded {} Tryd.checked os 4 .any (fun w args => (Rows.compactDecodesSpec.pre enc Tryd.prog Tryd.f4 [] false w args ∧ laidMetH Tryd.prog laidL w) ∧ sizedMet enc Tryd.prog Tryd.f4 (OpenSpec.ofChange Rows.compactDecodesSpec) false w args)
      (Rows.compactDecodesSpec.post enc Tryd.prog Tryd.f4 false true false false) := by
  refine returnsInHanded_of_change_and (C := Tryd.checked) (X := fun w _ => laidMetH Tryd.prog laidL w) (fun _ _ _ hh h => h.of_heap hh) own started (by kernel_rfl) (by kernel_rfl)
    (ChangeSpec.witness_shaped (enc := enc) (C := Tryd.checked) (os := os) (X := fun w _ => laidMetH Tryd.prog laidL w) false (World.doorLaid Tryd.prog 400 os) #[.slice none 0 0, .int .i64 0] 8 rfl
      (World.shaped_of_RefB (by kernel_rfl) (by kernel_rfl)) (by kernel_rfl) (by kernel_rfl) (by kernel_rfl) (door_met os _)) ?_
  intro W base args ds gs before hval hW _ _ hL _
  refine Ab.law_contract (P := Tryd.prog) (fn := Tryd.f4) (cs := [.sl (.int .u8), .int .i64]) laidOut (by kernel_rfl) (by kernel_rfl) (by kernel_rfl) rfl (fun ds h => ?_) decodes_call W base args ds gs before (gs_of_laid hL) hval hW
  match ds, h with
  | [_, _], _ => rfl

theorem decodes_said : Rows.CompactDecodesSaid :=
  OpenClaim.holds_of_wide 4 Tryd.f4 rfl rfl rfl rfl rfl rfl rfl ⟨rfl, rfl, rfl, rfl, rfl⟩ rfl rfl rfl rfl rfl (by kernel_rfl) (by kernel_rfl) (by kernel_rfl)
    (of_decide_eq_true (by kernel_rfl)) (by unfold Func.isWrapper; rw [if_neg (of_decide_eq_false (by kernel_rfl))]; exact ⟨rfl, rfl⟩)
    (fun os started H enc _ => decodes_lifted os started H enc)

theorem decodes_params : Tryd.f4.params.toList.all (fun t => !Tryd.prog.wantsStandIn t) = true := by kernel_rfl
theorem decodes_holds : Rows.CompactDecodesCardSaid :=
  Claim7.holds_tied_plain_at .later [] [.data, .data, .data, .sentinel, .sentinel, .listed, .data] true _ true
    decodes_said (fun _ h => by cases h) (by kernel_rfl) (fun _ h => by cases h) compactDecodes_row_tie rfl ⟨rfl, rfl⟩ (by kernel_rfl) rfl
    (fun f fn hf hfn => by
      obtain rfl : f = 4 := (Option.some.inj ((show Tryd.prog.funcNamed Rows.compactDecodesRow.func = some 4 by kernel_rfl).symm.trans hf)).symm
      obtain rfl : fn = Tryd.f4 := (Option.some.inj ((show Tryd.prog.funcs[4]? = some Tryd.f4 by kernel_rfl).symm.trans hfn)).symm
      refine ⟨by kernel_rfl, fun j t ht => ?_⟩
      have hm : t ∈ Tryd.f4.params.toList := List.mem_of_getElem? (i := j) (by rw [Array.getElem?_toList]; exact ht)
      have := List.all_eq_true.1 decodes_params t hm
      show Tryd.prog.wantsStandIn t = false
      simpa using this)
    (by kernel_rfl)

end Go.Proofs.YtaedihkgdmaofaaDoor
