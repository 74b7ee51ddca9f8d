/-
  RunrvSums: the closed facts of its row, one by one. Conditions: none.
-/
import Derived.Test.YtnickegmpffneaaGreatDoorRows
import Derived.JoinedOf
import Derived.KernelRfl
set_option linter.unusedVariables false
set_option linter.unusedSimpArgs false
namespace Go.Proofs.YtnickegmpffneaaGreatDoor
open Go
theorem sums_fact0:(Rows.runrvSumsRow.wf (OpenSpec.ofChange Rows.runrvSumsSpec))=true:=by kernel_rfl
theorem sums_fact1:(laidOutB Tryz.prog)=true:=by kernel_rfl
theorem sums_fact2:(mapsRowed Tryz.prog)=true:=by kernel_rfl
theorem sums_fact3:(Tryz.f3.params.all (Tryz.prog.readableRec ·))=true:=by kernel_rfl
theorem sums_fact4:(namedTie Tryz.prog Rows.runrvSumsRow.named Rows.runrvSumsSpec.vars)=true:=by kernel_rfl
theorem sums_fact5:((Rows.runrvSumsRow.stops == []))=true:=by kernel_rfl
theorem sums_fact6:((Tryz.prog.stops == []))=true:=by kernel_rfl
theorem sums_fact7:((Rows.runrvSumsRow.knobs == []))=true:=by kernel_rfl
theorem sums_fact8:((Tryz.prog.stopKnobs == []))=true:=by kernel_rfl
theorem sums_fact9:((Rows.runrvSumsRow.inPlace == Tryz.prog.inPlace 3))=true:=by kernel_rfl
theorem sums_fact10:((Rows.runrvSumsRow.unfollowed == Tryz.prog.unfollowed 3))=true:=by kernel_rfl
theorem sums_fact11:((Rows.runrvSumsRow.recurses == Tryz.prog.recurses 3))=true:=by kernel_rfl
theorem sums_fact12:((Rows.runrvSumsRow.named == Tryz.prog.varsNamed 3))=true:=by kernel_rfl
theorem sums_fact13:((Rows.runrvSumsRow.maps == (Tryz.f3.params.toList++Rows.runrvSumsSpec.plain.varTypes Tryz.prog).any (Tryz.prog.mapsRec ·)))=true:=by kernel_rfl
theorem sums_fact14:((Rows.runrvSumsRow.ifaces == (Tryz.f3.params.toList++Rows.runrvSumsSpec.plain.varTypes Tryz.prog).any (Tryz.prog.ifacesRec ·)))=true:=by kernel_rfl
theorem sums_fact15:((Rows.runrvSumsRow.mapsOut == Tryz.prog.mapsAmong Tryz.f3.resultTypes.toList))=true:=by kernel_rfl
theorem sums_fact16:((Rows.runrvSumsRow.loops == (Tryz.f3.params.toList++Rows.runrvSumsSpec.plain.varTypes Tryz.prog).any (Tryz.prog.loopsFrom ·)))=true:=by kernel_rfl
theorem sums_fact17:((Rows.runrvSumsRow.wideKeys == (Tryz.f3.params.toList++Rows.runrvSumsSpec.plain.varTypes Tryz.prog++Tryz.f3.resultTypes.toList).any (Tryz.prog.wideKeysFrom ·)))=true:=by kernel_rfl
theorem sums_fact18:(Rows.runrvSumsSpec.vars.all (Tryz.prog.varReadable ·))=true:=by kernel_rfl
theorem sums_fact19:(Tryz.f3.resultTypes.all (fun t=>Tryz.prog.readableRec t && decide (t<Tryz.prog.types.size)))=true:=by kernel_rfl
theorem sums_fact20:((Rows.runrvSumsRow.ifacesOut == Tryz.f3.resultTypes.toList.any (Tryz.prog.ifacesRec ·)))=true:=by kernel_rfl
theorem sums_fact21:((Rows.runrvSumsRow.loopsOut == Tryz.f3.resultTypes.toList.any (Tryz.prog.loopsFrom ·)))=true:=by kernel_rfl
theorem sums_fact22:((Rows.runrvSumsRow.plainKeys == Tryz.prog.plainKeys))=true:=by kernel_rfl
theorem sums_fact23:(Rows.runrvSumsRow.shortTexts.isNone)=true:=by kernel_rfl
theorem sums_fact24:(Tryz.prog.stopsHeard)=true:=by kernel_rfl
theorem sums_fact25:(Tryz.prog.mayEnter)=true:=by kernel_rfl
theorem sums_fact26:((Rows.runrvSumsRow.lifted == Tryz.prog.liftsFinal))=true:=by kernel_rfl
theorem sums_fact27:((Tryz.prog.make == some Rows.runrvSumsRow.make))=true:=by kernel_rfl
theorem sums_fact28:((Rows.runrvSumsRow.kinds == (if Rows.runrvSumsRow.domain.isEmpty then [] else Tryz.f3.params.toList.map fun t=>match Tryz.prog.underlying t with | some (.int k)=>some k | _=>none)))=true:=by kernel_rfl
theorem sums_fact29:((Rows.runrvSumsRow.pinned == Rows.runrvSumsRow.pinnedBy))=true:=by kernel_rfl
theorem sums_fact30:((Rows.runrvSumsRow.veiled == (Tryz.f3.params.toList++Rows.runrvSumsSpec.plain.varTypes Tryz.prog++Tryz.f3.resultTypes.toList).any (Tryz.prog.veiledRec ·)))=true:=by kernel_rfl
theorem sums_fact31:(Rows.runrvSumsRow.veiledFits Tryz.prog Tryz.f3.params.toList (Tryz.f3.params.toList++Rows.runrvSumsSpec.plain.varTypes Tryz.prog++Tryz.f3.resultTypes.toList))=true:=by kernel_rfl
set_option maxRecDepth 100000 in
theorem sums_facts:joinedFacts Tryz.prog 3 Tryz.f3 Rows.runrvSumsSpec Rows.runrvSumsRow=true:=
 (Bool.and_eq_true_iff.2 ⟨(Bool.and_eq_true_iff.2 ⟨(Bool.and_eq_true_iff.2 ⟨(Bool.and_eq_true_iff.2 ⟨(Bool.and_eq_true_iff.2 ⟨(Bool.and_eq_true_iff.2 ⟨(Bool.and_eq_true_iff.2 ⟨(Bool.and_eq_true_iff.2 ⟨(Bool.and_eq_true_iff.2 ⟨(Bool.and_eq_true_iff.2 ⟨(Bool.and_eq_true_iff.2 ⟨(Bool.and_eq_true_iff.2 ⟨(Bool.and_eq_true_iff.2 ⟨(Bool.and_eq_true_iff.2 ⟨(Bool.and_eq_true_iff.2 ⟨(Bool.and_eq_true_iff.2 ⟨(Bool.and_eq_true_iff.2 ⟨(Bool.and_eq_true_iff.2 ⟨(Bool.and_eq_true_iff.2 ⟨(Bool.and_eq_true_iff.2 ⟨(Bool.and_eq_true_iff.2 ⟨(Bool.and_eq_true_iff.2 ⟨(Bool.and_eq_true_iff.2 ⟨(Bool.and_eq_true_iff.2 ⟨(Bool.and_eq_true_iff.2 ⟨(Bool.and_eq_true_iff.2 ⟨(Bool.and_eq_true_iff.2 ⟨(Bool.and_eq_true_iff.2 ⟨(Bool.and_eq_true_iff.2 ⟨(Bool.and_eq_true_iff.2 ⟨(Bool.and_eq_true_iff.2 ⟨sums_fact0,sums_fact1⟩),sums_fact2⟩),sums_fact3⟩),sums_fact4⟩),sums_fact5⟩),sums_fact6⟩),sums_fact7⟩),sums_fact8⟩),sums_fact9⟩),sums_fact10⟩),sums_fact11⟩),sums_fact12⟩),sums_fact13⟩),sums_fact14⟩),sums_fact15⟩),sums_fact16⟩),sums_fact17⟩),sums_fact18⟩),sums_fact19⟩),sums_fact20⟩),sums_fact21⟩),sums_fact22⟩),sums_fact23⟩),sums_fact24⟩),sums_fact25⟩),sums_fact26⟩),sums_fact27⟩),sums_fact28⟩),sums_fact29⟩),sums_fact30⟩),sums_fact31⟩)
end Go.Proofs.YtnickegmpffneaaGreatDoor
