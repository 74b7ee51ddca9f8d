/-
  CompactWords holds: from every number on the law answers true.
  Conditions: none.
-/
import Derived.Test.YtaedihkgdmaofaaDoorRows
import Derived.Test.YtaedihkgdmaofaaDoorTie
import Derived.Test.YtaedihkgdmaofaaDoorCards
import Derived.SevenTiedAt
import Derived.Test.YtaedihkgdmaofaaDoorEnE
import Derived.Test.YtaedihkgdmaofaaDoorCmG
import Derived.Test.YtaedihkgdmaofaaDoorCm45
namespace Go.Proofs.YtaedihkgdmaofaaDoor
open Go Go.ChangeShapes Go.WideShapes Go.ChangeAt Go.RowKit

theorem words_call (x : Ab.EC.tys [.int .u16]) (_ : Ab.okEs [.int .u16] x) : Ab.PCall Tryd.prog 8 (Ab.argVs [.int .u16] x) (.bool true) :=
  Go.Cmp.words_ok x

set_option maxRecDepth 100000 in
theorem words_lifted (os : Os) (started : os.Started) (H : Type) (enc : TypeId × Value → H) :
    ReturnsInHanded {} Tryd.checked os 8 .any (fun w args => (Rows.compactWordsSpec.pre enc Tryd.prog Tryd.f8 [] false w args ∧ laidMetH Tryd.prog laidL w) ∧ sizedMet enc Tryd.prog Tryd.f8 (OpenSpec.ofChange Rows.compactWordsSpec) false w args)
      (Rows.compactWordsSpec.post enc Tryd.prog Tryd.f8 false true false false) := by
  refine returnsInHanded_of_change_and (C := Tryd.checked) (X := fun w _ => laidMetH Tryd.prog laidL w) (fun _ _ _ hh h => h.of_heap hh) own started (by kernel_rfl) (by kernel_rfl)
    (ChangeSpec.witness_shaped (enc := enc) (C := Tryd.checked) (os := os) (X := fun w _ => laidMetH Tryd.prog laidL w) false (World.doorLaid Tryd.prog 400 os) #[.int .u16 0] 8 rfl
      (World.shaped_of_RefB (by kernel_rfl) (by kernel_rfl)) (by kernel_rfl) (by kernel_rfl) (by kernel_rfl) (door_met os _)) ?_
  intro W base args ds gs before hval hW _ _ hL _
  refine Ab.law_contract (P := Tryd.prog) (fn := Tryd.f8) (cs := [.int .u16]) laidOut (by kernel_rfl) (by kernel_rfl) (by kernel_rfl) rfl (fun ds h => ?_) words_call W base args ds gs before (gs_of_laid hL) hval hW
  match ds, h with
  | [_], _ => rfl

theorem words_said : Rows.CompactWordsSaid :=
  OpenClaim.holds_of_wide 8 Tryd.f8 rfl rfl rfl rfl rfl rfl rfl ⟨rfl, rfl, rfl, rfl, rfl⟩ rfl rfl rfl rfl rfl (by kernel_rfl) (by kernel_rfl) (by kernel_rfl)
    (of_decide_eq_true (by kernel_rfl)) (by unfold Func.isWrapper; rw [if_neg (of_decide_eq_false (by kernel_rfl))]; exact ⟨rfl, rfl⟩)
    (fun os started H enc _ => words_lifted os started H enc)

theorem words_params : Tryd.f8.params.toList.all (fun t => !Tryd.prog.wantsStandIn t) = true := by kernel_rfl
theorem words_holds : Rows.CompactWordsCardSaid :=
  Claim7.holds_tied_plain_at .later [] [.data, .data, .data, .sentinel, .sentinel, .listed, .data] true _ true
    words_said (fun _ h => by cases h) (by kernel_rfl) (fun _ h => by cases h) compactWords_row_tie rfl ⟨rfl, rfl⟩ (by kernel_rfl) rfl
    (fun f fn hf hfn => by
      obtain rfl : f = 8 := (Option.some.inj ((show Tryd.prog.funcNamed Rows.compactWordsRow.func = some 8 by kernel_rfl).symm.trans hf)).symm
      obtain rfl : fn = Tryd.f8 := (Option.some.inj ((show Tryd.prog.funcs[8]? = some Tryd.f8 by kernel_rfl).symm.trans hfn)).symm
      refine ⟨by kernel_rfl, fun j t ht => ?_⟩
      have hm : t ∈ Tryd.f8.params.toList := List.mem_of_getElem? (i := j) (by rw [Array.getElem?_toList]; exact ht)
      have := List.all_eq_true.1 words_params t hm
      show Tryd.prog.wantsStandIn t = false
      simpa using this)
    (by kernel_rfl)

end Go.Proofs.YtaedihkgdmaofaaDoor
