/-
  RunrvSame: the closed facts of its row, one by one. Conditions: none.
-/
import Derived.Test.YtnickegmpffneaaGreatDoorRows
import Derived.JoinedOf
import Derived.KernelRfl
set_option linter.unusedVariables false
set_option linter.unusedSimpArgs false
namespace Go.Proofs.YtnickegmpffneaaGreatDoor
open Go
theorem same_fact0:(Rows.runrvSameRow.wf (OpenSpec.ofChange Rows.runrvSameSpec))=true:=by kernel_rfl
theorem same_fact1:(laidOutB Tryz.prog)=true:=by kernel_rfl
theorem same_fact2:(mapsRowed Tryz.prog)=true:=by kernel_rfl
theorem same_fact3:(Tryz.f4.params.all (Tryz.prog.readableRec ·))=true:=by kernel_rfl
theorem same_fact4:(namedTie Tryz.prog Rows.runrvSameRow.named Rows.runrvSameSpec.vars)=true:=by kernel_rfl
theorem same_fact5:((Rows.runrvSameRow.stops == []))=true:=by kernel_rfl
theorem same_fact6:((Tryz.prog.stops == []))=true:=by kernel_rfl
theorem same_fact7:((Rows.runrvSameRow.knobs == []))=true:=by kernel_rfl
theorem same_fact8:((Tryz.prog.stopKnobs == []))=true:=by kernel_rfl
theorem same_fact9:((Rows.runrvSameRow.inPlace == Tryz.prog.inPlace 4))=true:=by kernel_rfl
theorem same_fact10:((Rows.runrvSameRow.unfollowed == Tryz.prog.unfollowed 4))=true:=by kernel_rfl
theorem same_fact11:((Rows.runrvSameRow.recurses == Tryz.prog.recurses 4))=true:=by kernel_rfl
theorem same_fact12:((Rows.runrvSameRow.named == Tryz.prog.varsNamed 4))=true:=by kernel_rfl
theorem same_fact13:((Rows.runrvSameRow.maps == (Tryz.f4.params.toList++Rows.runrvSameSpec.plain.varTypes Tryz.prog).any (Tryz.prog.mapsRec ·)))=true:=by kernel_rfl
theorem same_fact14:((Rows.runrvSameRow.ifaces == (Tryz.f4.params.toList++Rows.runrvSameSpec.plain.varTypes Tryz.prog).any (Tryz.prog.ifacesRec ·)))=true:=by kernel_rfl
theorem same_fact15:((Rows.runrvSameRow.mapsOut == Tryz.prog.mapsAmong Tryz.f4.resultTypes.toList))=true:=by kernel_rfl
theorem same_fact16:((Rows.runrvSameRow.loops == (Tryz.f4.params.toList++Rows.runrvSameSpec.plain.varTypes Tryz.prog).any (Tryz.prog.loopsFrom ·)))=true:=by kernel_rfl
theorem same_fact17:((Rows.runrvSameRow.wideKeys == (Tryz.f4.params.toList++Rows.runrvSameSpec.plain.varTypes Tryz.prog++Tryz.f4.resultTypes.toList).any (Tryz.prog.wideKeysFrom ·)))=true:=by kernel_rfl
theorem same_fact18:(Rows.runrvSameSpec.vars.all (Tryz.prog.varReadable ·))=true:=by kernel_rfl
theorem same_fact19:(Tryz.f4.resultTypes.all (fun t=>Tryz.prog.readableRec t && decide (t<Tryz.prog.types.size)))=true:=by kernel_rfl
theorem same_fact20:((Rows.runrvSameRow.ifacesOut == Tryz.f4.resultTypes.toList.any (Tryz.prog.ifacesRec ·)))=true:=by kernel_rfl
theorem same_fact21:((Rows.runrvSameRow.loopsOut == Tryz.f4.resultTypes.toList.any (Tryz.prog.loopsFrom ·)))=true:=by kernel_rfl
theorem same_fact22:((Rows.runrvSameRow.plainKeys == Tryz.prog.plainKeys))=true:=by kernel_rfl
theorem same_fact23:(Rows.runrvSameRow.shortTexts.isNone)=true:=by kernel_rfl
theorem same_fact24:(Tryz.prog.stopsHeard)=true:=by kernel_rfl
theorem same_fact25:(Tryz.prog.mayEnter)=true:=by kernel_rfl
theorem same_fact26:((Rows.runrvSameRow.lifted == Tryz.prog.liftsFinal))=true:=by kernel_rfl
theorem same_fact27:((Tryz.prog.make == some Rows.runrvSameRow.make))=true:=by kernel_rfl
theorem same_fact28:((Rows.runrvSameRow.kinds == (if Rows.runrvSameRow.domain.isEmpty then [] else Tryz.f4.params.toList.map fun t=>match Tryz.prog.underlying t with | some (.int k)=>some k | _=>none)))=true:=by kernel_rfl
theorem same_fact29:((Rows.runrvSameRow.pinned == Rows.runrvSameRow.pinnedBy))=true:=by kernel_rfl
theorem same_fact30:((Rows.runrvSameRow.veiled == (Tryz.f4.params.toList++Rows.runrvSameSpec.plain.varTypes Tryz.prog++Tryz.f4.resultTypes.toList).any (Tryz.prog.veiledRec ·)))=true:=by kernel_rfl
theorem same_fact31:(Rows.runrvSameRow.veiledFits Tryz.prog Tryz.f4.params.toList (Tryz.f4.params.toList++Rows.runrvSameSpec.plain.varTypes Tryz.prog++Tryz.f4.resultTypes.toList))=true:=by kernel_rfl
set_option maxRecDepth 100000 in
theorem same_facts:joinedFacts Tryz.prog 4 Tryz.f4 Rows.runrvSameSpec Rows.runrvSameRow=true:=
 (Bool.and_eq_true_iff.2 ⟨(Bool.and_eq_true_iff.2 ⟨(Bool.and_eq_true_iff.2 ⟨(Bool.and_eq_true_iff.2 ⟨(Bool.and_eq_true_iff.2 ⟨(Bool.and_eq_true_iff.2 ⟨(Bool.and_eq_true_iff.2 ⟨(Bool.and_eq_true_iff.2 ⟨(Bool.and_eq_true_iff.2 ⟨(Bool.and_eq_true_iff.2 ⟨(Bool.and_eq_true_iff.2 ⟨(Bool.and_eq_true_iff.2 ⟨(Bool.and_eq_true_iff.2 ⟨(Bool.and_eq_true_iff.2 ⟨(Bool.and_eq_true_iff.2 ⟨(Bool.and_eq_true_iff.2 ⟨(Bool.and_eq_true_iff.2 ⟨(Bool.and_eq_true_iff.2 ⟨(Bool.and_eq_true_iff.2 ⟨(Bool.and_eq_true_iff.2 ⟨(Bool.and_eq_true_iff.2 ⟨(Bool.and_eq_true_iff.2 ⟨(Bool.and_eq_true_iff.2 ⟨(Bool.and_eq_true_iff.2 ⟨(Bool.and_eq_true_iff.2 ⟨(Bool.and_eq_true_iff.2 ⟨(Bool.and_eq_true_iff.2 ⟨(Bool.and_eq_true_iff.2 ⟨(Bool.and_eq_true_iff.2 ⟨(Bool.and_eq_true_iff.2 ⟨(Bool.and_eq_true_iff.2 ⟨same_fact0,same_fact1⟩),same_fact2⟩),same_fact3⟩),same_fact4⟩),same_fact5⟩),same_fact6⟩),same_fact7⟩),same_fact8⟩),same_fact9⟩),same_fact10⟩),same_fact11⟩),same_fact12⟩),same_fact13⟩),same_fact14⟩),same_fact15⟩),same_fact16⟩),same_fact17⟩),same_fact18⟩),same_fact19⟩),same_fact20⟩),same_fact21⟩),same_fact22⟩),same_fact23⟩),same_fact24⟩),same_fact25⟩),same_fact26⟩),same_fact27⟩),same_fact28⟩),same_fact29⟩),same_fact30⟩),same_fact31⟩)
end Go.Proofs.YtnickegmpffneaaGreatDoor
