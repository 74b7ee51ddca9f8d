/-
  CompactBack holds: for every instruction, bytes and place the law answers true and leaves its arguments as they were.
  Conditions: none.
-/
import Derived.Test.YtaedihkgdmaofaaDoorRows
import Derived.Test.YtaedihkgdmaofaaDoorTie
import Derived.Test.YtaedihkgdmaofaaDoorCards
import Derived.SevenTiedAt
import Derived.Test.YtaedihkgdmaofaaDoorEnE
import Derived.Test.YtaedihkgdmaofaaDoorCmG
import Derived.Test.YtaedihkgdmaofaaDoorCm25
namespace Go.Proofs.YtaedihkgdmaofaaDoor
open Go Go.ChangeShapes Go.WideShapes Go.ChangeAt Go.RowKit

theorem bytes_of : ∀ o : Option (List Int), Ab.okE (.sl (.int .u8)) o → Go.Cmp.Bytes (o.getD [])
  | none, _ => fun _ h => by cases h
  | some l, h => fun x hx => by
    have h2 : IntKind.u8.has x := h.2 x hx
    have h3 : (0 : Int) ≤ x ∧ x ≤ 255 := h2
    omega

theorem back_call (x : Ab.EC.tys [.prod [.str, .int .i64, .int .i64, .int .i64, .int .i64, .int .i64], .sl (.int .u8), .sl (.int .u8), .int .i64]) (h : Ab.okEs [.prod [.str, .int .i64, .int .i64, .int .i64, .int .i64, .int .i64], .sl (.int .u8), .sl (.int .u8), .int .i64] x) : Ab.PCall Tryd.prog 5 (Ab.argVs [.prod [.str, .int .i64, .int .i64, .int .i64, .int .i64, .int .i64], .sl (.int .u8), .sl (.int .u8), .int .i64] x) (.bool true) :=
  Go.Cmp.back_ok x.1.1 x.1.2.1 x.1.2.2.1 x.1.2.2.2.1 x.1.2.2.2.2.1 x.1.2.2.2.2.2 (x.2.1.getD []) (x.2.2.1.getD []) x.2.2.2 (bytes_of _ h.2.1) (bytes_of _ h.2.2.1)

set_option maxRecDepth 100000 in
theorem back_lifted (os : Os) (started : os.Started) (H : Type) (enc : TypeId × Value → H) :
    ReturnsInHanded {} Tryd.checked os 5 .any (fun w args => (Rows.compactBackSpec.pre enc Tryd.prog Tryd.f5 [] false w args ∧ laidMetH Tryd.prog laidL w) ∧ sizedMet enc Tryd.prog Tryd.f5 (OpenSpec.ofChange Rows.compactBackSpec) false w args)
      (Rows.compactBackSpec.post enc Tryd.prog Tryd.f5 false true false false) := by
  refine returnsInHanded_of_change_and (C := Tryd.checked) (X := fun w _ => laidMetH Tryd.prog laidL w) (fun _ _ _ hh h => h.of_heap hh) own started (by kernel_rfl) (by kernel_rfl)
    (ChangeSpec.witness_shaped (enc := enc) (C := Tryd.checked) (os := os) (X := fun w _ => laidMetH Tryd.prog laidL w) false (World.doorLaid Tryd.prog 400 os) #[.agg #[.string ByteArray.empty, .int .i64 0, .int .i64 0, .int .i64 0, .int .i64 0, .int .i64 0], .slice none 0 0, .slice none 0 0, .int .i64 0] 8 rfl
      (World.shaped_of_RefB (by kernel_rfl) (by kernel_rfl)) (by kernel_rfl) (by kernel_rfl) (by kernel_rfl) (door_met os _)) ?_
  intro W base args ds gs before hval hW _ _ hL _
  refine Ab.law_contract (P := Tryd.prog) (fn := Tryd.f5) (cs := [.prod [.str, .int .i64, .int .i64, .int .i64, .int .i64, .int .i64], .sl (.int .u8), .sl (.int .u8), .int .i64]) laidOut (by kernel_rfl) (by kernel_rfl) (by kernel_rfl) rfl (fun ds h => ?_) back_call W base args ds gs before (gs_of_laid hL) hval hW
  match ds, h with
  | [_, _, _, _], _ => rfl

theorem back_said : Rows.CompactBackSaid :=
  OpenClaim.holds_of_wide 5 Tryd.f5 rfl rfl rfl rfl rfl rfl rfl ⟨rfl, rfl, rfl, rfl, rfl⟩ rfl rfl rfl rfl rfl (by kernel_rfl) (by kernel_rfl) (by kernel_rfl)
    (of_decide_eq_true (by kernel_rfl)) (by unfold Func.isWrapper; rw [if_neg (of_decide_eq_false (by kernel_rfl))]; exact ⟨rfl, rfl⟩)
    (fun os started H enc _ => back_lifted os started H enc)

theorem back_params : Tryd.f5.params.toList.all (fun t => !Tryd.prog.wantsStandIn t) = true := by kernel_rfl
theorem back_holds : Rows.CompactBackCardSaid :=
  Claim7.holds_tied_plain_at .later [] [.data, .data, .data, .sentinel, .sentinel, .listed, .data] true _ true
    back_said (fun _ h => by cases h) (by kernel_rfl) (fun _ h => by cases h) compactBack_row_tie rfl ⟨rfl, rfl⟩ (by kernel_rfl) rfl
    (fun f fn hf hfn => by
      obtain rfl : f = 5 := (Option.some.inj ((show Tryd.prog.funcNamed Rows.compactBackRow.func = some 5 by kernel_rfl).symm.trans hf)).symm
      obtain rfl : fn = Tryd.f5 := (Option.some.inj ((show Tryd.prog.funcs[5]? = some Tryd.f5 by kernel_rfl).symm.trans hfn)).symm
      refine ⟨by kernel_rfl, fun j t ht => ?_⟩
      have hm : t ∈ Tryd.f5.params.toList := List.mem_of_getElem? (i := j) (by rw [Array.getElem?_toList]; exact ht)
      have := List.all_eq_true.1 back_params t hm
      show Tryd.prog.wantsStandIn t = false
      simpa using this)
    (by kernel_rfl)

end Go.Proofs.YtaedihkgdmaofaaDoor
