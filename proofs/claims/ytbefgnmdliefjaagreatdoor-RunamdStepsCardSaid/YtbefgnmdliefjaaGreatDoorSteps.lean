/-
  RunamdSteps holds: for every state, code and data the law answers true and leaves its arguments as they were.
  Conditions: none.
-/
import Derived.Test.YtbefgnmdliefjaaGreatDoorRows
import Derived.Test.YtbefgnmdliefjaaGreatDoorTie
import Derived.Test.YtbefgnmdliefjaaGreatDoorCards
import Derived.SevenTiedAt
import Derived.Test.YtbefgnmdliefjaaGreatDoorPk12
import Derived.Test.YtbefgnmdliefjaaGreatDoorRaG
import Derived.Test.YtbefgnmdliefjaaGreatDoorRaFt
import Derived.Test.YtbefgnmdliefjaaGreatDoorPk52
open Go.Proofs.Tryz (prog)
set_option linter.unusedVariables false
set_option linter.unusedSimpArgs false
namespace Go.Proofs.YtbefgnmdliefjaaGreatDoor
open Go Go.ChangeShapes Go.WideShapes Go.ChangeAt Go.RowKit
theorem steps_call (x:Ab.EC.tys [Go.Ra.pV,.sl (.int .u8),.sl (.int .u8)]) (h:Ab.okEs [Go.Ra.pV,.sl (.int .u8),.sl (.int .u8)] x):Ab.jS prog 8 (Ab.oP [Go.Ra.pV,.sl (.int .u8),.sl (.int .u8)] x) (.bool true):=
 Go.Ra.steps_call x h
set_option maxRecDepth 100000 in
theorem steps_lifted (os:Os) (started:os.Started) (H:Type) (enc:TypeId × Value->H) :
  ReturnsInHanded {} Tryz.checked os 8 .any (fun w args=>(Rows.runamdStepsSpec.pre enc prog Tryz.f8 [] false w args/\laidMetH prog GS w)/\sizedMet enc prog Tryz.f8 (OpenSpec.ofChange Rows.runamdStepsSpec) false w args)
   (Rows.runamdStepsSpec.post enc prog Tryz.f8 false true false false):=by
 refine returnsInHanded_of_change_and (C:=Tryz.checked) (X:=fun w _=>laidMetH prog GS w) (fun _ _ _ f h=>h.of_heap f) own started (by kernel_rfl) (by kernel_rfl)
  (ChangeSpec.witness_shaped (enc:=enc) (C:=Tryz.checked) (os:=os) (X:=fun w _=>laidMetH prog GS w) false (rL os) #[.agg #[.int .u64 0,.int .u64 0,.int .u64 0,.int .u64 0,.int .u64 0,.int .u64 0,.int .u64 0,.int .u64 0,.int .u64 0,.int .u64 0,.int .u64 0,.int .u64 0,.int .u64 0,.int .u64 0,.int .u64 0,.int .u64 0,.int .u64 0,.int .u64 0,.int .u64 0,.int .u64 0,.int .u64 0,.int .u64 0,.int .u64 0,.int .u64 0,.int .u64 0,.int .u64 0,.int .u64 0,.int .u64 0,.int .u64 0,.int .u64 0,.int .u64 0,.int .u64 0,.int .u64 0,.bool false,.bool false,.bool false,.bool false,.int .u64 0],.slice none 0 0,.slice none 0 0] 8 rfl
   (World.shaped_of_RefB (by kernel_rfl) (by kernel_rfl)) (by kernel_rfl) (by kernel_rfl) (by kernel_rfl) (a2N os _)) ?_
 intro W base args b c before a e _ _ d _;refine Ab.aR9 (P:=prog) (fn:=Tryz.f8) (cs:=[Go.Ra.pV,.sl (.int .u8),.sl (.int .u8)]) laidOut (by kernel_rfl) (by kernel_rfl) (by kernel_rfl) rfl (fun b h=>?_) steps_call W base args b c before (aVV d) a e
 match b,h with
 | [_,_,_],_=>rfl
theorem steps_said:Rows.RunamdStepsSaid:=
 OpenClaim.holds_of_wide 8 Tryz.f8 rfl rfl rfl rfl rfl rfl rfl ⟨rfl,rfl,rfl,rfl,rfl⟩ rfl rfl rfl rfl rfl (by kernel_rfl) (by kernel_rfl) aT2
  (of_decide_eq_true (by kernel_rfl)) (by unfold Func.isWrapper; rw [if_neg (of_decide_eq_false (by kernel_rfl))]; exact ⟨rfl,rfl⟩)
  (fun os started H enc _=>steps_lifted os started H enc)
theorem steps_params:Tryz.f8.params.toList.all (fun t=>!prog.wantsStandIn t)=true:=by kernel_rfl
theorem steps_holds:Rows.RunamdStepsCardSaid:=
 Claim7.holds_tied_plain_at .later [] [.data,.data,.data,.data,.sentinel,.sentinel,.listed,.data,.pinned,.pinned] true _ true
  steps_said (fun _ h=>by cases h) (by kernel_rfl) (fun _ h=>by cases h) runamdSteps_row_tie rfl ⟨rfl,rfl⟩ (by kernel_rfl) rfl
  (fun f fn b a=>by
   obtain rfl:f=8:=(Option.some.inj ((show prog.funcNamed Rows.runamdStepsRow.func=some 8 by kernel_rfl).symm.trans b)).symm;obtain rfl:fn=Tryz.f8:=(Option.some.inj ((show prog.funcs[8]? = some Tryz.f8 by kernel_rfl).symm.trans a)).symm;refine ⟨by kernel_rfl,fun j t d=>?_⟩;have c:t ∈ Tryz.f8.params.toList:=List.mem_of_getElem? (i:=j) (by rw [Array.getElem?_toList]; exact d);have:=List.all_eq_true.1 steps_params t c
   show prog.wantsStandIn t=false
   simpa using this)
  (by kernel_rfl)
end Go.Proofs.YtbefgnmdliefjaaGreatDoor
