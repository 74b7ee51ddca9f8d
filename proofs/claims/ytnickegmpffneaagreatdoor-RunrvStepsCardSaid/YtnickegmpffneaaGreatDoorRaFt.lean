/-
  RunrvSteps: the closed facts of its row, one by one. Conditions: none.
-/
import Derived.Test.YtnickegmpffneaaGreatDoorRows
import Derived.JoinedOf
import Derived.KernelRfl
set_option linter.unusedVariables false
set_option linter.unusedSimpArgs false
namespace Go.Proofs.YtnickegmpffneaaGreatDoor
open Go
theorem steps_fact0:(Rows.runrvStepsRow.wf (OpenSpec.ofChange Rows.runrvStepsSpec))=true:=by kernel_rfl
theorem steps_fact1:(laidOutB Tryz.prog)=true:=by kernel_rfl
theorem steps_fact2:(mapsRowed Tryz.prog)=true:=by kernel_rfl
theorem steps_fact3:(Tryz.f7.params.all (Tryz.prog.readableRec ·))=true:=by kernel_rfl
theorem steps_fact4:(namedTie Tryz.prog Rows.runrvStepsRow.named Rows.runrvStepsSpec.vars)=true:=by kernel_rfl
theorem steps_fact5:((Rows.runrvStepsRow.stops == []))=true:=by kernel_rfl
theorem steps_fact6:((Tryz.prog.stops == []))=true:=by kernel_rfl
theorem steps_fact7:((Rows.runrvStepsRow.knobs == []))=true:=by kernel_rfl
theorem steps_fact8:((Tryz.prog.stopKnobs == []))=true:=by kernel_rfl
theorem steps_fact9:((Rows.runrvStepsRow.inPlace == Tryz.prog.inPlace 7))=true:=by kernel_rfl
theorem steps_fact10:((Rows.runrvStepsRow.unfollowed == Tryz.prog.unfollowed 7))=true:=by kernel_rfl
theorem steps_fact11:((Rows.runrvStepsRow.recurses == Tryz.prog.recurses 7))=true:=by kernel_rfl
theorem steps_fact12:((Rows.runrvStepsRow.named == Tryz.prog.varsNamed 7))=true:=by kernel_rfl
theorem steps_fact13:((Rows.runrvStepsRow.maps == (Tryz.f7.params.toList++Rows.runrvStepsSpec.plain.varTypes Tryz.prog).any (Tryz.prog.mapsRec ·)))=true:=by kernel_rfl
theorem steps_fact14:((Rows.runrvStepsRow.ifaces == (Tryz.f7.params.toList++Rows.runrvStepsSpec.plain.varTypes Tryz.prog).any (Tryz.prog.ifacesRec ·)))=true:=by kernel_rfl
theorem steps_fact15:((Rows.runrvStepsRow.mapsOut == Tryz.prog.mapsAmong Tryz.f7.resultTypes.toList))=true:=by kernel_rfl
theorem steps_fact16:((Rows.runrvStepsRow.loops == (Tryz.f7.params.toList++Rows.runrvStepsSpec.plain.varTypes Tryz.prog).any (Tryz.prog.loopsFrom ·)))=true:=by kernel_rfl
theorem steps_fact17:((Rows.runrvStepsRow.wideKeys == (Tryz.f7.params.toList++Rows.runrvStepsSpec.plain.varTypes Tryz.prog++Tryz.f7.resultTypes.toList).any (Tryz.prog.wideKeysFrom ·)))=true:=by kernel_rfl
theorem steps_fact18:(Rows.runrvStepsSpec.vars.all (Tryz.prog.varReadable ·))=true:=by kernel_rfl
theorem steps_fact19:(Tryz.f7.resultTypes.all (fun t=>Tryz.prog.readableRec t && decide (t<Tryz.prog.types.size)))=true:=by kernel_rfl
theorem steps_fact20:((Rows.runrvStepsRow.ifacesOut == Tryz.f7.resultTypes.toList.any (Tryz.prog.ifacesRec ·)))=true:=by kernel_rfl
theorem steps_fact21:((Rows.runrvStepsRow.loopsOut == Tryz.f7.resultTypes.toList.any (Tryz.prog.loopsFrom ·)))=true:=by kernel_rfl
theorem steps_fact22:((Rows.runrvStepsRow.plainKeys == Tryz.prog.plainKeys))=true:=by kernel_rfl
theorem steps_fact23:(Rows.runrvStepsRow.shortTexts.isNone)=true:=by kernel_rfl
theorem steps_fact24:(Tryz.prog.stopsHeard)=true:=by kernel_rfl
theorem steps_fact25:(Tryz.prog.mayEnter)=true:=by kernel_rfl
theorem steps_fact26:((Rows.runrvStepsRow.lifted == Tryz.prog.liftsFinal))=true:=by kernel_rfl
theorem steps_fact27:((Tryz.prog.make == some Rows.runrvStepsRow.make))=true:=by kernel_rfl
theorem steps_fact28:((Rows.runrvStepsRow.kinds == (if Rows.runrvStepsRow.domain.isEmpty then [] else Tryz.f7.params.toList.map fun t=>match Tryz.prog.underlying t with | some (.int k)=>some k | _=>none)))=true:=by kernel_rfl
theorem steps_fact29:((Rows.runrvStepsRow.pinned == Rows.runrvStepsRow.pinnedBy))=true:=by kernel_rfl
theorem steps_fact30:((Rows.runrvStepsRow.veiled == (Tryz.f7.params.toList++Rows.runrvStepsSpec.plain.varTypes Tryz.prog++Tryz.f7.resultTypes.toList).any (Tryz.prog.veiledRec ·)))=true:=by kernel_rfl
theorem steps_fact31:(Rows.runrvStepsRow.veiledFits Tryz.prog Tryz.f7.params.toList (Tryz.f7.params.toList++Rows.runrvStepsSpec.plain.varTypes Tryz.prog++Tryz.f7.resultTypes.toList))=true:=by kernel_rfl
set_option maxRecDepth 100000 in
theorem steps_facts:joinedFacts Tryz.prog 7 Tryz.f7 Rows.runrvStepsSpec Rows.runrvStepsRow=true:=
 (Bool.and_eq_true_iff.2 ⟨(Bool.and_eq_true_iff.2 ⟨(Bool.and_eq_true_iff.2 ⟨(Bool.and_eq_true_iff.2 ⟨(Bool.and_eq_true_iff.2 ⟨(Bool.and_eq_true_iff.2 ⟨(Bool.and_eq_true_iff.2 ⟨(Bool.and_eq_true_iff.2 ⟨(Bool.and_eq_true_iff.2 ⟨(Bool.and_eq_true_iff.2 ⟨(Bool.and_eq_true_iff.2 ⟨(Bool.and_eq_true_iff.2 ⟨(Bool.and_eq_true_iff.2 ⟨(Bool.and_eq_true_iff.2 ⟨(Bool.and_eq_true_iff.2 ⟨(Bool.and_eq_true_iff.2 ⟨(Bool.and_eq_true_iff.2 ⟨(Bool.and_eq_true_iff.2 ⟨(Bool.and_eq_true_iff.2 ⟨(Bool.and_eq_true_iff.2 ⟨(Bool.and_eq_true_iff.2 ⟨(Bool.and_eq_true_iff.2 ⟨(Bool.and_eq_true_iff.2 ⟨(Bool.and_eq_true_iff.2 ⟨(Bool.and_eq_true_iff.2 ⟨(Bool.and_eq_true_iff.2 ⟨(Bool.and_eq_true_iff.2 ⟨(Bool.and_eq_true_iff.2 ⟨(Bool.and_eq_true_iff.2 ⟨(Bool.and_eq_true_iff.2 ⟨(Bool.and_eq_true_iff.2 ⟨steps_fact0,steps_fact1⟩),steps_fact2⟩),steps_fact3⟩),steps_fact4⟩),steps_fact5⟩),steps_fact6⟩),steps_fact7⟩),steps_fact8⟩),steps_fact9⟩),steps_fact10⟩),steps_fact11⟩),steps_fact12⟩),steps_fact13⟩),steps_fact14⟩),steps_fact15⟩),steps_fact16⟩),steps_fact17⟩),steps_fact18⟩),steps_fact19⟩),steps_fact20⟩),steps_fact21⟩),steps_fact22⟩),steps_fact23⟩),steps_fact24⟩),steps_fact25⟩),steps_fact26⟩),steps_fact27⟩),steps_fact28⟩),steps_fact29⟩),steps_fact30⟩),steps_fact31⟩)
end Go.Proofs.YtnickegmpffneaaGreatDoor
