/-
  RunamdSteps: the closed facts of its row, one by one. Conditions: none.
-/
import Derived.Test.YtbefgnmdliefjaaGreatDoorRows
import Derived.JoinedOf
import Derived.KernelRfl
open Go.Proofs.Tryz (prog)
open Bool renaming and_eq_true_iff→ZA0
set_option linter.unusedVariables false
set_option linter.unusedSimpArgs false
namespace Go.Proofs.YtbefgnmdliefjaaGreatDoor
open Go
theorem aTU:(Rows.runamdStepsRow.wf (OpenSpec.ofChange Rows.runamdStepsSpec))=true:=by kernel_rfl
theorem aT7:(laidOutB prog)=true:=by kernel_rfl
theorem aSR:(mapsRowed prog)=true:=by kernel_rfl
theorem aT3:(Tryz.f8.params.all (prog.readableRec ·))=true:=by kernel_rfl
theorem aTI:(namedTie prog Rows.runamdStepsRow.named Rows.runamdStepsSpec.vars)=true:=by kernel_rfl
theorem aSS:((Rows.runamdStepsRow.stops==[]))=true:=by kernel_rfl
theorem aU4:((prog.stops==[]))=true:=by kernel_rfl
theorem aSK:((Rows.runamdStepsRow.knobs==[]))=true:=by kernel_rfl
theorem aT8:((prog.stopKnobs==[]))=true:=by kernel_rfl
theorem aTS:((Rows.runamdStepsRow.inPlace==prog.inPlace 8))=true:=by kernel_rfl
theorem aSC:((Rows.runamdStepsRow.unfollowed==prog.unfollowed 8))=true:=by kernel_rfl
theorem aRX:((Rows.runamdStepsRow.recurses==prog.recurses 8))=true:=by kernel_rfl
theorem aRK:((Rows.runamdStepsRow.named==prog.varsNamed 8))=true:=by kernel_rfl
theorem aS2:((Rows.runamdStepsRow.maps==(Tryz.f8.params.toList++Rows.runamdStepsSpec.plain.varTypes prog).any (prog.mapsRec ·)))=true:=by kernel_rfl
theorem aS3:((Rows.runamdStepsRow.ifaces==(Tryz.f8.params.toList++Rows.runamdStepsSpec.plain.varTypes prog).any (prog.ifacesRec ·)))=true:=by kernel_rfl
theorem aS7:((Rows.runamdStepsRow.mapsOut==prog.mapsAmong Tryz.f8.resultTypes.toList))=true:=by kernel_rfl
theorem aRC:((Rows.runamdStepsRow.loops==(Tryz.f8.params.toList++Rows.runamdStepsSpec.plain.varTypes prog).any (prog.loopsFrom ·)))=true:=by kernel_rfl
theorem aRD:((Rows.runamdStepsRow.wideKeys==(Tryz.f8.params.toList++Rows.runamdStepsSpec.plain.varTypes prog++Tryz.f8.resultTypes.toList).any (prog.wideKeysFrom ·)))=true:=by kernel_rfl
theorem aRQ:(Rows.runamdStepsSpec.vars.all (prog.varReadable ·))=true:=by kernel_rfl
theorem aR8:(Tryz.f8.resultTypes.all (fun t=>prog.readableRec t&&decide (t<prog.types.size)))=true:=by kernel_rfl
theorem aSG:((Rows.runamdStepsRow.ifacesOut==Tryz.f8.resultTypes.toList.any (prog.ifacesRec ·)))=true:=by kernel_rfl
theorem aS6:((Rows.runamdStepsRow.loopsOut==Tryz.f8.resultTypes.toList.any (prog.loopsFrom ·)))=true:=by kernel_rfl
theorem aRL:((Rows.runamdStepsRow.plainKeys==prog.plainKeys))=true:=by kernel_rfl
theorem aRR:(Rows.runamdStepsRow.shortTexts.isNone)=true:=by kernel_rfl
theorem aSD:(prog.stopsHeard)=true:=by kernel_rfl
theorem aRG:(prog.mayEnter)=true:=by kernel_rfl
theorem aSA:((Rows.runamdStepsRow.lifted==prog.liftsFinal))=true:=by kernel_rfl
theorem aS9:((prog.make==some Rows.runamdStepsRow.make))=true:=by kernel_rfl
theorem aRM:((Rows.runamdStepsRow.kinds==(if Rows.runamdStepsRow.domain.isEmpty then [] else Tryz.f8.params.toList.map fun t=>match prog.underlying t with | some (.int k)=>some k | _=>none)))=true:=by kernel_rfl
theorem aRI:((Rows.runamdStepsRow.pinned==Rows.runamdStepsRow.pinnedBy))=true:=by kernel_rfl
theorem aS8:((Rows.runamdStepsRow.veiled==(Tryz.f8.params.toList++Rows.runamdStepsSpec.plain.varTypes prog++Tryz.f8.resultTypes.toList).any (prog.veiledRec ·)))=true:=by kernel_rfl
theorem aRW:(Rows.runamdStepsRow.veiledFits prog Tryz.f8.params.toList (Tryz.f8.params.toList++Rows.runamdStepsSpec.plain.varTypes prog++Tryz.f8.resultTypes.toList))=true:=by kernel_rfl
set_option maxRecDepth 100000 in
theorem aT2:joinedFacts prog 8 Tryz.f8 Rows.runamdStepsSpec Rows.runamdStepsRow=true:=
 (ZA0.2 ⟨(ZA0.2 ⟨(ZA0.2 ⟨(ZA0.2 ⟨(ZA0.2 ⟨(ZA0.2 ⟨(ZA0.2 ⟨(ZA0.2 ⟨(ZA0.2 ⟨(ZA0.2 ⟨(ZA0.2 ⟨(ZA0.2 ⟨(ZA0.2 ⟨(ZA0.2 ⟨(ZA0.2 ⟨(ZA0.2 ⟨(ZA0.2 ⟨(ZA0.2 ⟨(ZA0.2 ⟨(ZA0.2 ⟨(ZA0.2 ⟨(ZA0.2 ⟨(ZA0.2 ⟨(ZA0.2 ⟨(ZA0.2 ⟨(ZA0.2 ⟨(ZA0.2 ⟨(ZA0.2 ⟨(ZA0.2 ⟨(ZA0.2 ⟨(ZA0.2 ⟨aTU,aT7⟩),aSR⟩),aT3⟩),aTI⟩),aSS⟩),aU4⟩),aSK⟩),aT8⟩),aTS⟩),aSC⟩),aRX⟩),aRK⟩),aS2⟩),aS3⟩),aS7⟩),aRC⟩),aRD⟩),aRQ⟩),aR8⟩),aSG⟩),aS6⟩),aRL⟩),aRR⟩),aSD⟩),aRG⟩),aSA⟩),aS9⟩),aRM⟩),aRI⟩),aS8⟩),aRW⟩)
end Go.Proofs.YtbefgnmdliefjaaGreatDoor
