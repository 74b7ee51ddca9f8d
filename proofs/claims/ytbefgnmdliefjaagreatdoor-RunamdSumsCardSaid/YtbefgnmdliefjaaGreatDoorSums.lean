/-
  RunamdSums holds: for any two numbers the law answers true.
  Conditions: none.
-/
import Derived.Test.YtbefgnmdliefjaaGreatDoorRows
import Derived.Test.YtbefgnmdliefjaaGreatDoorTie
import Derived.Test.YtbefgnmdliefjaaGreatDoorCards
import Derived.SevenTiedAt
import Derived.Test.YtbefgnmdliefjaaGreatDoorPk19
import Derived.Test.YtbefgnmdliefjaaGreatDoorRaG
import Derived.Test.YtbefgnmdliefjaaGreatDoorRaFs
import Derived.Test.YtbefgnmdliefjaaGreatDoorPk48
set_option linter.unusedVariables false
set_option linter.unusedSimpArgs false
namespace Go.Proofs.YtbefgnmdliefjaaGreatDoor
open Go Go.ChangeShapes Go.WideShapes Go.ChangeAt Go.RowKit
theorem sums_call (x:Ab.EC.tys [.int .u64,.int .u64]) (h:Ab.okEs [.int .u64,.int .u64] x):Ab.PCall Tryz.prog 3 (Ab.argVs [.int .u64,.int .u64] x) (.bool true):=
 Go.Ra.sums_call x h
set_option maxRecDepth 100000 in
theorem sums_lifted (os:Os) (started:os.Started) (H:Type) (enc:TypeId × Value→H) :
  ReturnsInHanded {} Tryz.checked os 3 .any (fun w args=>(Rows.runamdSumsSpec.pre enc Tryz.prog Tryz.f3 [] false w args∧laidMetH Tryz.prog laidL w)∧sizedMet enc Tryz.prog Tryz.f3 (OpenSpec.ofChange Rows.runamdSumsSpec) false w args)
   (Rows.runamdSumsSpec.post enc Tryz.prog Tryz.f3 false true false false):=by
 refine returnsInHanded_of_change_and (C:=Tryz.checked) (X:=fun w _=>laidMetH Tryz.prog laidL w) (fun _ _ _ hh h=>h.of_heap hh) own started (by kernel_rfl) (by kernel_rfl)
  (ChangeSpec.witness_shaped (enc:=enc) (C:=Tryz.checked) (os:=os) (X:=fun w _=>laidMetH Tryz.prog laidL w) false (laidWorld os) #[.int .u64 0,.int .u64 0] 8 rfl
   (World.shaped_of_RefB (by kernel_rfl) (by kernel_rfl)) (by kernel_rfl) (by kernel_rfl) (by kernel_rfl) (door_met os _)) ?_
 intro W base args ds gs before hval hW _ _ hL _
 refine Ab.law_contract (P:=Tryz.prog) (fn:=Tryz.f3) (cs:=[.int .u64,.int .u64]) laidOut (by kernel_rfl) (by kernel_rfl) (by kernel_rfl) rfl (fun ds h=>?_) sums_call W base args ds gs before (gs_of_laid hL) hval hW
 match ds,h with
 | [_,_],_=>rfl
theorem sums_said:Rows.RunamdSumsSaid:=
 OpenClaim.holds_of_wide 3 Tryz.f3 rfl rfl rfl rfl rfl rfl rfl ⟨rfl,rfl,rfl,rfl,rfl⟩ rfl rfl rfl rfl rfl (by kernel_rfl) (by kernel_rfl) sums_facts
  (of_decide_eq_true (by kernel_rfl)) (by unfold Func.isWrapper; rw [if_neg (of_decide_eq_false (by kernel_rfl))]; exact ⟨rfl,rfl⟩)
  (fun os started H enc _=>sums_lifted os started H enc)
theorem sums_params:Tryz.f3.params.toList.all (fun t=>!Tryz.prog.wantsStandIn t)=true:=by kernel_rfl
theorem sums_holds:Rows.RunamdSumsCardSaid:=
 Claim7.holds_tied_plain_at .later [] [.data,.data,.data,.data,.sentinel,.sentinel,.listed,.data,.pinned,.pinned] true _ true
  sums_said (fun _ h=>by cases h) (by kernel_rfl) (fun _ h=>by cases h) runamdSums_row_tie rfl ⟨rfl,rfl⟩ (by kernel_rfl) rfl
  (fun f fn hf hfn=>by
   obtain rfl:f=3:=(Option.some.inj ((show Tryz.prog.funcNamed Rows.runamdSumsRow.func=some 3 by kernel_rfl).symm.trans hf)).symm
   obtain rfl:fn=Tryz.f3:=(Option.some.inj ((show Tryz.prog.funcs[3]? = some Tryz.f3 by kernel_rfl).symm.trans hfn)).symm
   refine ⟨by kernel_rfl,fun j t ht=>?_⟩
   have hm:t ∈ Tryz.f3.params.toList:=List.mem_of_getElem? (i:=j) (by rw [Array.getElem?_toList]; exact ht)
   have:=List.all_eq_true.1 sums_params t hm
   show Tryz.prog.wantsStandIn t=false
   simpa using this)
  (by kernel_rfl)
end Go.Proofs.YtbefgnmdliefjaaGreatDoor
