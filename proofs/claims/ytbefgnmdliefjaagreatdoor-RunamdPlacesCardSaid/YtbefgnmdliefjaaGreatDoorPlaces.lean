/-
  RunamdPlaces holds: for all registers, numbers and scales the law answers true.
  Conditions: none.
-/
import Derived.Test.YtbefgnmdliefjaaGreatDoorRows
import Derived.Test.YtbefgnmdliefjaaGreatDoorTie
import Derived.Test.YtbefgnmdliefjaaGreatDoorCards
import Derived.SevenTiedAt
import Derived.Test.YtbefgnmdliefjaaGreatDoorPk19
import Derived.Test.YtbefgnmdliefjaaGreatDoorRaG
import Derived.Test.YtbefgnmdliefjaaGreatDoorRaFp
import Derived.Test.YtbefgnmdliefjaaGreatDoorPk42
set_option linter.unusedVariables false
set_option linter.unusedSimpArgs false
namespace Go.Proofs.YtbefgnmdliefjaaGreatDoor
open Go Go.ChangeShapes Go.WideShapes Go.ChangeAt Go.RowKit
theorem places_call (x:Ab.EC.tys [.int .i64,.int .i64,.int .u64,.int .u64,.int .u8,.int .i32]) (h:Ab.okEs [.int .i64,.int .i64,.int .u64,.int .u64,.int .u8,.int .i32] x):Ab.PCall Tryz.prog 4 (Ab.argVs [.int .i64,.int .i64,.int .u64,.int .u64,.int .u8,.int .i32] x) (.bool true):=
 Go.Ra.places_call x h
set_option maxRecDepth 100000 in
theorem places_lifted (os:Os) (started:os.Started) (H:Type) (enc:TypeId × Value→H) :
  ReturnsInHanded {} Tryz.checked os 4 .any (fun w args=>(Rows.runamdPlacesSpec.pre enc Tryz.prog Tryz.f4 [] false w args∧laidMetH Tryz.prog laidL w)∧sizedMet enc Tryz.prog Tryz.f4 (OpenSpec.ofChange Rows.runamdPlacesSpec) false w args)
   (Rows.runamdPlacesSpec.post enc Tryz.prog Tryz.f4 false true false false):=by
 refine returnsInHanded_of_change_and (C:=Tryz.checked) (X:=fun w _=>laidMetH Tryz.prog laidL w) (fun _ _ _ hh h=>h.of_heap hh) own started (by kernel_rfl) (by kernel_rfl)
  (ChangeSpec.witness_shaped (enc:=enc) (C:=Tryz.checked) (os:=os) (X:=fun w _=>laidMetH Tryz.prog laidL w) false (laidWorld os) #[.int .i64 0,.int .i64 0,.int .u64 0,.int .u64 0,.int .u8 0,.int .i32 0] 8 rfl
   (World.shaped_of_RefB (by kernel_rfl) (by kernel_rfl)) (by kernel_rfl) (by kernel_rfl) (by kernel_rfl) (door_met os _)) ?_
 intro W base args ds gs before hval hW _ _ hL _
 refine Ab.law_contract (P:=Tryz.prog) (fn:=Tryz.f4) (cs:=[.int .i64,.int .i64,.int .u64,.int .u64,.int .u8,.int .i32]) laidOut (by kernel_rfl) (by kernel_rfl) (by kernel_rfl) rfl (fun ds h=>?_) places_call W base args ds gs before (gs_of_laid hL) hval hW
 match ds,h with
 | [_,_,_,_,_,_],_=>rfl
theorem places_said:Rows.RunamdPlacesSaid:=
 OpenClaim.holds_of_wide 4 Tryz.f4 rfl rfl rfl rfl rfl rfl rfl ⟨rfl,rfl,rfl,rfl,rfl⟩ rfl rfl rfl rfl rfl (by kernel_rfl) (by kernel_rfl) places_facts
  (of_decide_eq_true (by kernel_rfl)) (by unfold Func.isWrapper; rw [if_neg (of_decide_eq_false (by kernel_rfl))]; exact ⟨rfl,rfl⟩)
  (fun os started H enc _=>places_lifted os started H enc)
theorem places_params:Tryz.f4.params.toList.all (fun t=>!Tryz.prog.wantsStandIn t)=true:=by kernel_rfl
theorem places_holds:Rows.RunamdPlacesCardSaid:=
 Claim7.holds_tied_plain_at .later [] [.data,.data,.data,.data,.sentinel,.sentinel,.listed,.data,.pinned,.pinned] true _ true
  places_said (fun _ h=>by cases h) (by kernel_rfl) (fun _ h=>by cases h) runamdPlaces_row_tie rfl ⟨rfl,rfl⟩ (by kernel_rfl) rfl
  (fun f fn hf hfn=>by
   obtain rfl:f=4:=(Option.some.inj ((show Tryz.prog.funcNamed Rows.runamdPlacesRow.func=some 4 by kernel_rfl).symm.trans hf)).symm
   obtain rfl:fn=Tryz.f4:=(Option.some.inj ((show Tryz.prog.funcs[4]? = some Tryz.f4 by kernel_rfl).symm.trans hfn)).symm
   refine ⟨by kernel_rfl,fun j t ht=>?_⟩
   have hm:t ∈ Tryz.f4.params.toList:=List.mem_of_getElem? (i:=j) (by rw [Array.getElem?_toList]; exact ht)
   have:=List.all_eq_true.1 places_params t hm
   show Tryz.prog.wantsStandIn t=false
   simpa using this)
  (by kernel_rfl)
end Go.Proofs.YtbefgnmdliefjaaGreatDoor
