/-
  RunamdSame: the closed facts of its row, one by one. Conditions: none.
-/
import Derived.Test.YtbefgnmdliefjaaGreatDoorRows
import Derived.JoinedOf
import Derived.KernelRfl
set_option linter.unusedVariables false
set_option linter.unusedSimpArgs false
namespace Go.Proofs.YtbefgnmdliefjaaGreatDoor
open Go
theorem same_fact0:(Rows.runamdSameRow.wf (OpenSpec.ofChange Rows.runamdSameSpec))=true:=by kernel_rfl
theorem same_fact1:(laidOutB Tryz.prog)=true:=by kernel_rfl
theorem same_fact2:(mapsRowed Tryz.prog)=true:=by kernel_rfl
theorem same_fact3:(Tryz.f6.params.all (Tryz.prog.readableRec ·))=true:=by kernel_rfl
theorem same_fact4:(namedTie Tryz.prog Rows.runamdSameRow.named Rows.runamdSameSpec.vars)=true:=by kernel_rfl
theorem same_fact5:((Rows.runamdSameRow.stops == []))=true:=by kernel_rfl
theorem same_fact6:((Tryz.prog.stops == []))=true:=by kernel_rfl
theorem same_fact7:((Rows.runamdSameRow.knobs == []))=true:=by kernel_rfl
theorem same_fact8:((Tryz.prog.stopKnobs == []))=true:=by kernel_rfl
theorem same_fact9:((Rows.runamdSameRow.inPlace == Tryz.prog.inPlace 6))=true:=by kernel_rfl
theorem same_fact10:((Rows.runamdSameRow.unfollowed == Tryz.prog.unfollowed 6))=true:=by kernel_rfl
theorem same_fact11:((Rows.runamdSameRow.recurses == Tryz.prog.recurses 6))=true:=by kernel_rfl
theorem same_fact12:((Rows.runamdSameRow.named == Tryz.prog.varsNamed 6))=true:=by kernel_rfl
theorem same_fact13:((Rows.runamdSameRow.maps == (Tryz.f6.params.toList++Rows.runamdSameSpec.plain.varTypes Tryz.prog).any (Tryz.prog.mapsRec ·)))=true:=by kernel_rfl
theorem same_fact14:((Rows.runamdSameRow.ifaces == (Tryz.f6.params.toList++Rows.runamdSameSpec.plain.varTypes Tryz.prog).any (Tryz.prog.ifacesRec ·)))=true:=by kernel_rfl
theorem same_fact15:((Rows.runamdSameRow.mapsOut == Tryz.prog.mapsAmong Tryz.f6.resultTypes.toList))=true:=by kernel_rfl
theorem same_fact16:((Rows.runamdSameRow.loops == (Tryz.f6.params.toList++Rows.runamdSameSpec.plain.varTypes Tryz.prog).any (Tryz.prog.loopsFrom ·)))=true:=by kernel_rfl
theorem same_fact17:((Rows.runamdSameRow.wideKeys == (Tryz.f6.params.toList++Rows.runamdSameSpec.plain.varTypes Tryz.prog++Tryz.f6.resultTypes.toList).any (Tryz.prog.wideKeysFrom ·)))=true:=by kernel_rfl
theorem same_fact18:(Rows.runamdSameSpec.vars.all (Tryz.prog.varReadable ·))=true:=by kernel_rfl
theorem same_fact19:(Tryz.f6.resultTypes.all (fun t=>Tryz.prog.readableRec t && decide (t<Tryz.prog.types.size)))=true:=by kernel_rfl
theorem same_fact20:((Rows.runamdSameRow.ifacesOut == Tryz.f6.resultTypes.toList.any (Tryz.prog.ifacesRec ·)))=true:=by kernel_rfl
theorem same_fact21:((Rows.runamdSameRow.loopsOut == Tryz.f6.resultTypes.toList.any (Tryz.prog.loopsFrom ·)))=true:=by kernel_rfl
theorem same_fact22:((Rows.runamdSameRow.plainKeys == Tryz.prog.plainKeys))=true:=by kernel_rfl
theorem same_fact23:(Rows.runamdSameRow.shortTexts.isNone)=true:=by kernel_rfl
theorem same_fact24:(Tryz.prog.stopsHeard)=true:=by kernel_rfl
theorem same_fact25:(Tryz.prog.mayEnter)=true:=by kernel_rfl
theorem same_fact26:((Rows.runamdSameRow.lifted == Tryz.prog.liftsFinal))=true:=by kernel_rfl
theorem same_fact27:((Tryz.prog.make == some Rows.runamdSameRow.make))=true:=by kernel_rfl
theorem same_fact28:((Rows.runamdSameRow.kinds == (if Rows.runamdSameRow.domain.isEmpty then [] else Tryz.f6.params.toList.map fun t=>match Tryz.prog.underlying t with | some (.int k)=>some k | _=>none)))=true:=by kernel_rfl
theorem same_fact29:((Rows.runamdSameRow.pinned == Rows.runamdSameRow.pinnedBy))=true:=by kernel_rfl
theorem same_fact30:((Rows.runamdSameRow.veiled == (Tryz.f6.params.toList++Rows.runamdSameSpec.plain.varTypes Tryz.prog++Tryz.f6.resultTypes.toList).any (Tryz.prog.veiledRec ·)))=true:=by kernel_rfl
theorem same_fact31:(Rows.runamdSameRow.veiledFits Tryz.prog Tryz.f6.params.toList (Tryz.f6.params.toList++Rows.runamdSameSpec.plain.varTypes Tryz.prog++Tryz.f6.resultTypes.toList))=true:=by kernel_rfl
set_option maxRecDepth 100000 in
theorem same_facts:joinedFacts Tryz.prog 6 Tryz.f6 Rows.runamdSameSpec Rows.runamdSameRow=true:=
 (Bool.and_eq_true_iff.2 ⟨(Bool.and_eq_true_iff.2 ⟨(Bool.and_eq_true_iff.2 ⟨(Bool.and_eq_true_iff.2 ⟨(Bool.and_eq_true_iff.2 ⟨(Bool.and_eq_true_iff.2 ⟨(Bool.and_eq_true_iff.2 ⟨(Bool.and_eq_true_iff.2 ⟨(Bool.and_eq_true_iff.2 ⟨(Bool.and_eq_true_iff.2 ⟨(Bool.and_eq_true_iff.2 ⟨(Bool.and_eq_true_iff.2 ⟨(Bool.and_eq_true_iff.2 ⟨(Bool.and_eq_true_iff.2 ⟨(Bool.and_eq_true_iff.2 ⟨(Bool.and_eq_true_iff.2 ⟨(Bool.and_eq_true_iff.2 ⟨(Bool.and_eq_true_iff.2 ⟨(Bool.and_eq_true_iff.2 ⟨(Bool.and_eq_true_iff.2 ⟨(Bool.and_eq_true_iff.2 ⟨(Bool.and_eq_true_iff.2 ⟨(Bool.and_eq_true_iff.2 ⟨(Bool.and_eq_true_iff.2 ⟨(Bool.and_eq_true_iff.2 ⟨(Bool.and_eq_true_iff.2 ⟨(Bool.and_eq_true_iff.2 ⟨(Bool.and_eq_true_iff.2 ⟨(Bool.and_eq_true_iff.2 ⟨(Bool.and_eq_true_iff.2 ⟨(Bool.and_eq_true_iff.2 ⟨same_fact0,same_fact1⟩),same_fact2⟩),same_fact3⟩),same_fact4⟩),same_fact5⟩),same_fact6⟩),same_fact7⟩),same_fact8⟩),same_fact9⟩),same_fact10⟩),same_fact11⟩),same_fact12⟩),same_fact13⟩),same_fact14⟩),same_fact15⟩),same_fact16⟩),same_fact17⟩),same_fact18⟩),same_fact19⟩),same_fact20⟩),same_fact21⟩),same_fact22⟩),same_fact23⟩),same_fact24⟩),same_fact25⟩),same_fact26⟩),same_fact27⟩),same_fact28⟩),same_fact29⟩),same_fact30⟩),same_fact31⟩)
end Go.Proofs.YtbefgnmdliefjaaGreatDoor
