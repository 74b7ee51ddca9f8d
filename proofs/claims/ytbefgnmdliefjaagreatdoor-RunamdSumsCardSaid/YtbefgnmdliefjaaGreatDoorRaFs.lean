/-
  RunamdSums: the closed facts of its row, one by one. Conditions: none.
-/
import Derived.Test.YtbefgnmdliefjaaGreatDoorRows
import Derived.JoinedOf
import Derived.KernelRfl
set_option linter.unusedVariables false
set_option linter.unusedSimpArgs false
namespace Go.Proofs.YtbefgnmdliefjaaGreatDoor
open Go
theorem sums_fact0:(Rows.runamdSumsRow.wf (OpenSpec.ofChange Rows.runamdSumsSpec))=true:=by kernel_rfl
theorem sums_fact1:(laidOutB Tryz.prog)=true:=by kernel_rfl
theorem sums_fact2:(mapsRowed Tryz.prog)=true:=by kernel_rfl
theorem sums_fact3:(Tryz.f3.params.all (Tryz.prog.readableRec ·))=true:=by kernel_rfl
theorem sums_fact4:(namedTie Tryz.prog Rows.runamdSumsRow.named Rows.runamdSumsSpec.vars)=true:=by kernel_rfl
theorem sums_fact5:((Rows.runamdSumsRow.stops == []))=true:=by kernel_rfl
theorem sums_fact6:((Tryz.prog.stops == []))=true:=by kernel_rfl
theorem sums_fact7:((Rows.runamdSumsRow.knobs == []))=true:=by kernel_rfl
theorem sums_fact8:((Tryz.prog.stopKnobs == []))=true:=by kernel_rfl
theorem sums_fact9:((Rows.runamdSumsRow.inPlace == Tryz.prog.inPlace 3))=true:=by kernel_rfl
theorem sums_fact10:((Rows.runamdSumsRow.unfollowed == Tryz.prog.unfollowed 3))=true:=by kernel_rfl
theorem sums_fact11:((Rows.runamdSumsRow.recurses == Tryz.prog.recurses 3))=true:=by kernel_rfl
theorem sums_fact12:((Rows.runamdSumsRow.named == Tryz.prog.varsNamed 3))=true:=by kernel_rfl
theorem sums_fact13:((Rows.runamdSumsRow.maps == (Tryz.f3.params.toList++Rows.runamdSumsSpec.plain.varTypes Tryz.prog).any (Tryz.prog.mapsRec ·)))=true:=by kernel_rfl
theorem sums_fact14:((Rows.runamdSumsRow.ifaces == (Tryz.f3.params.toList++Rows.runamdSumsSpec.plain.varTypes Tryz.prog).any (Tryz.prog.ifacesRec ·)))=true:=by kernel_rfl
theorem sums_fact15:((Rows.runamdSumsRow.mapsOut == Tryz.prog.mapsAmong Tryz.f3.resultTypes.toList))=true:=by kernel_rfl
theorem sums_fact16:((Rows.runamdSumsRow.loops == (Tryz.f3.params.toList++Rows.runamdSumsSpec.plain.varTypes Tryz.prog).any (Tryz.prog.loopsFrom ·)))=true:=by kernel_rfl
theorem sums_fact17:((Rows.runamdSumsRow.wideKeys == (Tryz.f3.params.toList++Rows.runamdSumsSpec.plain.varTypes Tryz.prog++Tryz.f3.resultTypes.toList).any (Tryz.prog.wideKeysFrom ·)))=true:=by kernel_rfl
theorem sums_fact18:(Rows.runamdSumsSpec.vars.all (Tryz.prog.varReadable ·))=true:=by kernel_rfl
theorem sums_fact19:(Tryz.f3.resultTypes.all (fun t=>Tryz.prog.readableRec t && decide (t<Tryz.prog.types.size)))=true:=by kernel_rfl
theorem sums_fact20:((Rows.runamdSumsRow.ifacesOut == Tryz.f3.resultTypes.toList.any (Tryz.prog.ifacesRec ·)))=true:=by kernel_rfl
theorem sums_fact21:((Rows.runamdSumsRow.loopsOut == Tryz.f3.resultTypes.toList.any (Tryz.prog.loopsFrom ·)))=true:=by kernel_rfl
theorem sums_fact22:((Rows.runamdSumsRow.plainKeys == Tryz.prog.plainKeys))=true:=by kernel_rfl
theorem sums_fact23:(Rows.runamdSumsRow.shortTexts.isNone)=true:=by kernel_rfl
theorem sums_fact24:(Tryz.prog.stopsHeard)=true:=by kernel_rfl
theorem sums_fact25:(Tryz.prog.mayEnter)=true:=by kernel_rfl
theorem sums_fact26:((Rows.runamdSumsRow.lifted == Tryz.prog.liftsFinal))=true:=by kernel_rfl
theorem sums_fact27:((Tryz.prog.make == some Rows.runamdSumsRow.make))=true:=by kernel_rfl
theorem sums_fact28:((Rows.runamdSumsRow.kinds == (if Rows.runamdSumsRow.domain.isEmpty then [] else Tryz.f3.params.toList.map fun t=>match Tryz.prog.underlying t with | some (.int k)=>some k | _=>none)))=true:=by kernel_rfl
theorem sums_fact29:((Rows.runamdSumsRow.pinned == Rows.runamdSumsRow.pinnedBy))=true:=by kernel_rfl
theorem sums_fact30:((Rows.runamdSumsRow.veiled == (Tryz.f3.params.toList++Rows.runamdSumsSpec.plain.varTypes Tryz.prog++Tryz.f3.resultTypes.toList).any (Tryz.prog.veiledRec ·)))=true:=by kernel_rfl
theorem sums_fact31:(Rows.runamdSumsRow.veiledFits Tryz.prog Tryz.f3.params.toList (Tryz.f3.params.toList++Rows.runamdSumsSpec.plain.varTypes Tryz.prog++Tryz.f3.resultTypes.toList))=true:=by kernel_rfl
set_option maxRecDepth 100000 in
theorem sums_facts:joinedFacts Tryz.prog 3 Tryz.f3 Rows.runamdSumsSpec Rows.runamdSumsRow=true:=
 (Bool.and_eq_true_iff.2 ⟨(Bool.and_eq_true_iff.2 ⟨(Bool.and_eq_true_iff.2 ⟨(Bool.and_eq_true_iff.2 ⟨(Bool.and_eq_true_iff.2 ⟨(Bool.and_eq_true_iff.2 ⟨(Bool.and_eq_true_iff.2 ⟨(Bool.and_eq_true_iff.2 ⟨(Bool.and_eq_true_iff.2 ⟨(Bool.and_eq_true_iff.2 ⟨(Bool.and_eq_true_iff.2 ⟨(Bool.and_eq_true_iff.2 ⟨(Bool.and_eq_true_iff.2 ⟨(Bool.and_eq_true_iff.2 ⟨(Bool.and_eq_true_iff.2 ⟨(Bool.and_eq_true_iff.2 ⟨(Bool.and_eq_true_iff.2 ⟨(Bool.and_eq_true_iff.2 ⟨(Bool.and_eq_true_iff.2 ⟨(Bool.and_eq_true_iff.2 ⟨(Bool.and_eq_true_iff.2 ⟨(Bool.and_eq_true_iff.2 ⟨(Bool.and_eq_true_iff.2 ⟨(Bool.and_eq_true_iff.2 ⟨(Bool.and_eq_true_iff.2 ⟨(Bool.and_eq_true_iff.2 ⟨(Bool.and_eq_true_iff.2 ⟨(Bool.and_eq_true_iff.2 ⟨(Bool.and_eq_true_iff.2 ⟨(Bool.and_eq_true_iff.2 ⟨(Bool.and_eq_true_iff.2 ⟨sums_fact0,sums_fact1⟩),sums_fact2⟩),sums_fact3⟩),sums_fact4⟩),sums_fact5⟩),sums_fact6⟩),sums_fact7⟩),sums_fact8⟩),sums_fact9⟩),sums_fact10⟩),sums_fact11⟩),sums_fact12⟩),sums_fact13⟩),sums_fact14⟩),sums_fact15⟩),sums_fact16⟩),sums_fact17⟩),sums_fact18⟩),sums_fact19⟩),sums_fact20⟩),sums_fact21⟩),sums_fact22⟩),sums_fact23⟩),sums_fact24⟩),sums_fact25⟩),sums_fact26⟩),sums_fact27⟩),sums_fact28⟩),sums_fact29⟩),sums_fact30⟩),sums_fact31⟩)
end Go.Proofs.YtbefgnmdliefjaaGreatDoor
