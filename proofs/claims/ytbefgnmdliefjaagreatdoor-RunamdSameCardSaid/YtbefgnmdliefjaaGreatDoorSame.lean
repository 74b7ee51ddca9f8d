/-
  RunamdSame holds: for every state, code and data the law answers true and leaves its arguments as they were.
  Conditions: none.
-/
import Derived.Test.YtbefgnmdliefjaaGreatDoorRows
import Derived.Test.YtbefgnmdliefjaaGreatDoorTie
import Derived.Test.YtbefgnmdliefjaaGreatDoorCards
import Derived.SevenTiedAt
import Derived.Test.YtbefgnmdliefjaaGreatDoorPk12
import Derived.Test.YtbefgnmdliefjaaGreatDoorRaG
import Derived.Test.YtbefgnmdliefjaaGreatDoorRaFe
import Derived.Test.YtbefgnmdliefjaaGreatDoorPk45
set_option linter.unusedVariables false
set_option linter.unusedSimpArgs false
namespace Go.Proofs.YtbefgnmdliefjaaGreatDoor
open Go Go.ChangeShapes Go.WideShapes Go.ChangeAt Go.RowKit
theorem same_call (x:Ab.EC.tys [Go.Ra.cpuE,.sl (.int .u8),.sl (.int .u8)]) (h:Ab.okEs [Go.Ra.cpuE,.sl (.int .u8),.sl (.int .u8)] x):Ab.PCall Tryz.prog 6 (Ab.argVs [Go.Ra.cpuE,.sl (.int .u8),.sl (.int .u8)] x) (.bool true):=
 Go.Ra.same_call x h
set_option maxRecDepth 100000 in
theorem same_lifted (os:Os) (started:os.Started) (H:Type) (enc:TypeId × Value→H) :
  ReturnsInHanded {} Tryz.checked os 6 .any (fun w args=>(Rows.runamdSameSpec.pre enc Tryz.prog Tryz.f6 [] false w args∧laidMetH Tryz.prog laidL w)∧sizedMet enc Tryz.prog Tryz.f6 (OpenSpec.ofChange Rows.runamdSameSpec) false w args)
   (Rows.runamdSameSpec.post enc Tryz.prog Tryz.f6 false true false false):=by
 refine returnsInHanded_of_change_and (C:=Tryz.checked) (X:=fun w _=>laidMetH Tryz.prog laidL w) (fun _ _ _ hh h=>h.of_heap hh) own started (by kernel_rfl) (by kernel_rfl)
  (ChangeSpec.witness_shaped (enc:=enc) (C:=Tryz.checked) (os:=os) (X:=fun w _=>laidMetH Tryz.prog laidL w) false (laidWorld os) #[.agg #[.int .u64 0,.int .u64 0,.int .u64 0,.int .u64 0,.int .u64 0,.int .u64 0,.int .u64 0,.int .u64 0,.int .u64 0,.int .u64 0,.int .u64 0,.int .u64 0,.int .u64 0,.int .u64 0,.int .u64 0,.int .u64 0,.int .u64 0,.int .u64 0,.int .u64 0,.int .u64 0,.int .u64 0,.int .u64 0,.int .u64 0,.int .u64 0,.int .u64 0,.int .u64 0,.int .u64 0,.int .u64 0,.int .u64 0,.int .u64 0,.int .u64 0,.int .u64 0,.int .u64 0,.bool false,.bool false,.bool false,.bool false,.int .u64 0],.slice none 0 0,.slice none 0 0] 8 rfl
   (World.shaped_of_RefB (by kernel_rfl) (by kernel_rfl)) (by kernel_rfl) (by kernel_rfl) (by kernel_rfl) (door_met os _)) ?_
 intro W base args ds gs before hval hW _ _ hL _
 refine Ab.law_contract (P:=Tryz.prog) (fn:=Tryz.f6) (cs:=[Go.Ra.cpuE,.sl (.int .u8),.sl (.int .u8)]) laidOut (by kernel_rfl) (by kernel_rfl) (by kernel_rfl) rfl (fun ds h=>?_) same_call W base args ds gs before (gs_of_laid hL) hval hW
 match ds,h with
 | [_,_,_],_=>rfl
theorem same_said:Rows.RunamdSameSaid:=
 OpenClaim.holds_of_wide 6 Tryz.f6 rfl rfl rfl rfl rfl rfl rfl ⟨rfl,rfl,rfl,rfl,rfl⟩ rfl rfl rfl rfl rfl (by kernel_rfl) (by kernel_rfl) same_facts
  (of_decide_eq_true (by kernel_rfl)) (by unfold Func.isWrapper; rw [if_neg (of_decide_eq_false (by kernel_rfl))]; exact ⟨rfl,rfl⟩)
  (fun os started H enc _=>same_lifted os started H enc)
theorem same_params:Tryz.f6.params.toList.all (fun t=>!Tryz.prog.wantsStandIn t)=true:=by kernel_rfl
theorem same_holds:Rows.RunamdSameCardSaid:=
 Claim7.holds_tied_plain_at .later [] [.data,.data,.data,.data,.sentinel,.sentinel,.listed,.data,.pinned,.pinned] true _ true
  same_said (fun _ h=>by cases h) (by kernel_rfl) (fun _ h=>by cases h) runamdSame_row_tie rfl ⟨rfl,rfl⟩ (by kernel_rfl) rfl
  (fun f fn hf hfn=>by
   obtain rfl:f=6:=(Option.some.inj ((show Tryz.prog.funcNamed Rows.runamdSameRow.func=some 6 by kernel_rfl).symm.trans hf)).symm
   obtain rfl:fn=Tryz.f6:=(Option.some.inj ((show Tryz.prog.funcs[6]? = some Tryz.f6 by kernel_rfl).symm.trans hfn)).symm
   refine ⟨by kernel_rfl,fun j t ht=>?_⟩
   have hm:t ∈ Tryz.f6.params.toList:=List.mem_of_getElem? (i:=j) (by rw [Array.getElem?_toList]; exact ht)
   have:=List.all_eq_true.1 same_params t hm
   show Tryz.prog.wantsStandIn t=false
   simpa using this)
  (by kernel_rfl)
end Go.Proofs.YtbefgnmdliefjaaGreatDoor
