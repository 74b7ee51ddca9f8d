/-
  RunrvRuns: the closed facts of its row, one by one. Conditions: none.
-/
import Derived.Test.YtnickegmpffneaaGreatDoorRows
import Derived.JoinedOf
import Derived.KernelRfl
set_option linter.unusedVariables false
set_option linter.unusedSimpArgs false
namespace Go.Proofs.YtnickegmpffneaaGreatDoor
open Go
theorem runs_fact0:(Rows.runrvRunsRow.wf (OpenSpec.ofChange Rows.runrvRunsSpec))=true:=by kernel_rfl
theorem runs_fact1:(laidOutB Tryz.prog)=true:=by kernel_rfl
theorem runs_fact2:(mapsRowed Tryz.prog)=true:=by kernel_rfl
theorem runs_fact3:(Tryz.f6.params.all (Tryz.prog.readableRec ·))=true:=by kernel_rfl
theorem runs_fact4:(namedTie Tryz.prog Rows.runrvRunsRow.named Rows.runrvRunsSpec.vars)=true:=by kernel_rfl
theorem runs_fact5:((Rows.runrvRunsRow.stops == []))=true:=by kernel_rfl
theorem runs_fact6:((Tryz.prog.stops == []))=true:=by kernel_rfl
theorem runs_fact7:((Rows.runrvRunsRow.knobs == []))=true:=by kernel_rfl
theorem runs_fact8:((Tryz.prog.stopKnobs == []))=true:=by kernel_rfl
theorem runs_fact9:((Rows.runrvRunsRow.inPlace == Tryz.prog.inPlace 6))=true:=by kernel_rfl
theorem runs_fact10:((Rows.runrvRunsRow.unfollowed == Tryz.prog.unfollowed 6))=true:=by kernel_rfl
theorem runs_fact11:((Rows.runrvRunsRow.recurses == Tryz.prog.recurses 6))=true:=by kernel_rfl
theorem runs_fact12:((Rows.runrvRunsRow.named == Tryz.prog.varsNamed 6))=true:=by kernel_rfl
theorem runs_fact13:((Rows.runrvRunsRow.maps == (Tryz.f6.params.toList++Rows.runrvRunsSpec.plain.varTypes Tryz.prog).any (Tryz.prog.mapsRec ·)))=true:=by kernel_rfl
theorem runs_fact14:((Rows.runrvRunsRow.ifaces == (Tryz.f6.params.toList++Rows.runrvRunsSpec.plain.varTypes Tryz.prog).any (Tryz.prog.ifacesRec ·)))=true:=by kernel_rfl
theorem runs_fact15:((Rows.runrvRunsRow.mapsOut == Tryz.prog.mapsAmong Tryz.f6.resultTypes.toList))=true:=by kernel_rfl
theorem runs_fact16:((Rows.runrvRunsRow.loops == (Tryz.f6.params.toList++Rows.runrvRunsSpec.plain.varTypes Tryz.prog).any (Tryz.prog.loopsFrom ·)))=true:=by kernel_rfl
theorem runs_fact17:((Rows.runrvRunsRow.wideKeys == (Tryz.f6.params.toList++Rows.runrvRunsSpec.plain.varTypes Tryz.prog++Tryz.f6.resultTypes.toList).any (Tryz.prog.wideKeysFrom ·)))=true:=by kernel_rfl
theorem runs_fact18:(Rows.runrvRunsSpec.vars.all (Tryz.prog.varReadable ·))=true:=by kernel_rfl
theorem runs_fact19:(Tryz.f6.resultTypes.all (fun t=>Tryz.prog.readableRec t && decide (t<Tryz.prog.types.size)))=true:=by kernel_rfl
theorem runs_fact20:((Rows.runrvRunsRow.ifacesOut == Tryz.f6.resultTypes.toList.any (Tryz.prog.ifacesRec ·)))=true:=by kernel_rfl
theorem runs_fact21:((Rows.runrvRunsRow.loopsOut == Tryz.f6.resultTypes.toList.any (Tryz.prog.loopsFrom ·)))=true:=by kernel_rfl
theorem runs_fact22:((Rows.runrvRunsRow.plainKeys == Tryz.prog.plainKeys))=true:=by kernel_rfl
theorem runs_fact23:(Rows.runrvRunsRow.shortTexts.isNone)=true:=by kernel_rfl
theorem runs_fact24:(Tryz.prog.stopsHeard)=true:=by kernel_rfl
theorem runs_fact25:(Tryz.prog.mayEnter)=true:=by kernel_rfl
theorem runs_fact26:((Rows.runrvRunsRow.lifted == Tryz.prog.liftsFinal))=true:=by kernel_rfl
theorem runs_fact27:((Tryz.prog.make == some Rows.runrvRunsRow.make))=true:=by kernel_rfl
theorem runs_fact28:((Rows.runrvRunsRow.kinds == (if Rows.runrvRunsRow.domain.isEmpty then [] else Tryz.f6.params.toList.map fun t=>match Tryz.prog.underlying t with | some (.int k)=>some k | _=>none)))=true:=by kernel_rfl
theorem runs_fact29:((Rows.runrvRunsRow.pinned == Rows.runrvRunsRow.pinnedBy))=true:=by kernel_rfl
theorem runs_fact30:((Rows.runrvRunsRow.veiled == (Tryz.f6.params.toList++Rows.runrvRunsSpec.plain.varTypes Tryz.prog++Tryz.f6.resultTypes.toList).any (Tryz.prog.veiledRec ·)))=true:=by kernel_rfl
theorem runs_fact31:(Rows.runrvRunsRow.veiledFits Tryz.prog Tryz.f6.params.toList (Tryz.f6.params.toList++Rows.runrvRunsSpec.plain.varTypes Tryz.prog++Tryz.f6.resultTypes.toList))=true:=by kernel_rfl
set_option maxRecDepth 100000 in
theorem runs_facts:joinedFacts Tryz.prog 6 Tryz.f6 Rows.runrvRunsSpec Rows.runrvRunsRow=true:=
 (Bool.and_eq_true_iff.2 ⟨(Bool.and_eq_true_iff.2 ⟨(Bool.and_eq_true_iff.2 ⟨(Bool.and_eq_true_iff.2 ⟨(Bool.and_eq_true_iff.2 ⟨(Bool.and_eq_true_iff.2 ⟨(Bool.and_eq_true_iff.2 ⟨(Bool.and_eq_true_iff.2 ⟨(Bool.and_eq_true_iff.2 ⟨(Bool.and_eq_true_iff.2 ⟨(Bool.and_eq_true_iff.2 ⟨(Bool.and_eq_true_iff.2 ⟨(Bool.and_eq_true_iff.2 ⟨(Bool.and_eq_true_iff.2 ⟨(Bool.and_eq_true_iff.2 ⟨(Bool.and_eq_true_iff.2 ⟨(Bool.and_eq_true_iff.2 ⟨(Bool.and_eq_true_iff.2 ⟨(Bool.and_eq_true_iff.2 ⟨(Bool.and_eq_true_iff.2 ⟨(Bool.and_eq_true_iff.2 ⟨(Bool.and_eq_true_iff.2 ⟨(Bool.and_eq_true_iff.2 ⟨(Bool.and_eq_true_iff.2 ⟨(Bool.and_eq_true_iff.2 ⟨(Bool.and_eq_true_iff.2 ⟨(Bool.and_eq_true_iff.2 ⟨(Bool.and_eq_true_iff.2 ⟨(Bool.and_eq_true_iff.2 ⟨(Bool.and_eq_true_iff.2 ⟨(Bool.and_eq_true_iff.2 ⟨runs_fact0,runs_fact1⟩),runs_fact2⟩),runs_fact3⟩),runs_fact4⟩),runs_fact5⟩),runs_fact6⟩),runs_fact7⟩),runs_fact8⟩),runs_fact9⟩),runs_fact10⟩),runs_fact11⟩),runs_fact12⟩),runs_fact13⟩),runs_fact14⟩),runs_fact15⟩),runs_fact16⟩),runs_fact17⟩),runs_fact18⟩),runs_fact19⟩),runs_fact20⟩),runs_fact21⟩),runs_fact22⟩),runs_fact23⟩),runs_fact24⟩),runs_fact25⟩),runs_fact26⟩),runs_fact27⟩),runs_fact28⟩),runs_fact29⟩),runs_fact30⟩),runs_fact31⟩)
end Go.Proofs.YtnickegmpffneaaGreatDoor
