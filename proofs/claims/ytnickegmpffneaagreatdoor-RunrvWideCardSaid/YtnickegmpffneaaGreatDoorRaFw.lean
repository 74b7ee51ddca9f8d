/-
  RunrvWide: the closed facts of its row, one by one. Conditions: none.
-/
import Derived.Test.YtnickegmpffneaaGreatDoorRows
import Derived.JoinedOf
import Derived.KernelRfl
set_option linter.unusedVariables false
set_option linter.unusedSimpArgs false
namespace Go.Proofs.YtnickegmpffneaaGreatDoor
open Go
theorem wide_fact0:(Rows.runrvWideRow.wf (OpenSpec.ofChange Rows.runrvWideSpec))=true:=by kernel_rfl
theorem wide_fact1:(laidOutB Tryz.prog)=true:=by kernel_rfl
theorem wide_fact2:(mapsRowed Tryz.prog)=true:=by kernel_rfl
theorem wide_fact3:(Tryz.f5.params.all (Tryz.prog.readableRec ·))=true:=by kernel_rfl
theorem wide_fact4:(namedTie Tryz.prog Rows.runrvWideRow.named Rows.runrvWideSpec.vars)=true:=by kernel_rfl
theorem wide_fact5:((Rows.runrvWideRow.stops == []))=true:=by kernel_rfl
theorem wide_fact6:((Tryz.prog.stops == []))=true:=by kernel_rfl
theorem wide_fact7:((Rows.runrvWideRow.knobs == []))=true:=by kernel_rfl
theorem wide_fact8:((Tryz.prog.stopKnobs == []))=true:=by kernel_rfl
theorem wide_fact9:((Rows.runrvWideRow.inPlace == Tryz.prog.inPlace 5))=true:=by kernel_rfl
theorem wide_fact10:((Rows.runrvWideRow.unfollowed == Tryz.prog.unfollowed 5))=true:=by kernel_rfl
theorem wide_fact11:((Rows.runrvWideRow.recurses == Tryz.prog.recurses 5))=true:=by kernel_rfl
theorem wide_fact12:((Rows.runrvWideRow.named == Tryz.prog.varsNamed 5))=true:=by kernel_rfl
theorem wide_fact13:((Rows.runrvWideRow.maps == (Tryz.f5.params.toList++Rows.runrvWideSpec.plain.varTypes Tryz.prog).any (Tryz.prog.mapsRec ·)))=true:=by kernel_rfl
theorem wide_fact14:((Rows.runrvWideRow.ifaces == (Tryz.f5.params.toList++Rows.runrvWideSpec.plain.varTypes Tryz.prog).any (Tryz.prog.ifacesRec ·)))=true:=by kernel_rfl
theorem wide_fact15:((Rows.runrvWideRow.mapsOut == Tryz.prog.mapsAmong Tryz.f5.resultTypes.toList))=true:=by kernel_rfl
theorem wide_fact16:((Rows.runrvWideRow.loops == (Tryz.f5.params.toList++Rows.runrvWideSpec.plain.varTypes Tryz.prog).any (Tryz.prog.loopsFrom ·)))=true:=by kernel_rfl
theorem wide_fact17:((Rows.runrvWideRow.wideKeys == (Tryz.f5.params.toList++Rows.runrvWideSpec.plain.varTypes Tryz.prog++Tryz.f5.resultTypes.toList).any (Tryz.prog.wideKeysFrom ·)))=true:=by kernel_rfl
theorem wide_fact18:(Rows.runrvWideSpec.vars.all (Tryz.prog.varReadable ·))=true:=by kernel_rfl
theorem wide_fact19:(Tryz.f5.resultTypes.all (fun t=>Tryz.prog.readableRec t && decide (t<Tryz.prog.types.size)))=true:=by kernel_rfl
theorem wide_fact20:((Rows.runrvWideRow.ifacesOut == Tryz.f5.resultTypes.toList.any (Tryz.prog.ifacesRec ·)))=true:=by kernel_rfl
theorem wide_fact21:((Rows.runrvWideRow.loopsOut == Tryz.f5.resultTypes.toList.any (Tryz.prog.loopsFrom ·)))=true:=by kernel_rfl
theorem wide_fact22:((Rows.runrvWideRow.plainKeys == Tryz.prog.plainKeys))=true:=by kernel_rfl
theorem wide_fact23:(Rows.runrvWideRow.shortTexts.isNone)=true:=by kernel_rfl
theorem wide_fact24:(Tryz.prog.stopsHeard)=true:=by kernel_rfl
theorem wide_fact25:(Tryz.prog.mayEnter)=true:=by kernel_rfl
theorem wide_fact26:((Rows.runrvWideRow.lifted == Tryz.prog.liftsFinal))=true:=by kernel_rfl
theorem wide_fact27:((Tryz.prog.make == some Rows.runrvWideRow.make))=true:=by kernel_rfl
theorem wide_fact28:((Rows.runrvWideRow.kinds == (if Rows.runrvWideRow.domain.isEmpty then [] else Tryz.f5.params.toList.map fun t=>match Tryz.prog.underlying t with | some (.int k)=>some k | _=>none)))=true:=by kernel_rfl
theorem wide_fact29:((Rows.runrvWideRow.pinned == Rows.runrvWideRow.pinnedBy))=true:=by kernel_rfl
theorem wide_fact30:((Rows.runrvWideRow.veiled == (Tryz.f5.params.toList++Rows.runrvWideSpec.plain.varTypes Tryz.prog++Tryz.f5.resultTypes.toList).any (Tryz.prog.veiledRec ·)))=true:=by kernel_rfl
theorem wide_fact31:(Rows.runrvWideRow.veiledFits Tryz.prog Tryz.f5.params.toList (Tryz.f5.params.toList++Rows.runrvWideSpec.plain.varTypes Tryz.prog++Tryz.f5.resultTypes.toList))=true:=by kernel_rfl
set_option maxRecDepth 100000 in
theorem wide_facts:joinedFacts Tryz.prog 5 Tryz.f5 Rows.runrvWideSpec Rows.runrvWideRow=true:=
 (Bool.and_eq_true_iff.2 ⟨(Bool.and_eq_true_iff.2 ⟨(Bool.and_eq_true_iff.2 ⟨(Bool.and_eq_true_iff.2 ⟨(Bool.and_eq_true_iff.2 ⟨(Bool.and_eq_true_iff.2 ⟨(Bool.and_eq_true_iff.2 ⟨(Bool.and_eq_true_iff.2 ⟨(Bool.and_eq_true_iff.2 ⟨(Bool.and_eq_true_iff.2 ⟨(Bool.and_eq_true_iff.2 ⟨(Bool.and_eq_true_iff.2 ⟨(Bool.and_eq_true_iff.2 ⟨(Bool.and_eq_true_iff.2 ⟨(Bool.and_eq_true_iff.2 ⟨(Bool.and_eq_true_iff.2 ⟨(Bool.and_eq_true_iff.2 ⟨(Bool.and_eq_true_iff.2 ⟨(Bool.and_eq_true_iff.2 ⟨(Bool.and_eq_true_iff.2 ⟨(Bool.and_eq_true_iff.2 ⟨(Bool.and_eq_true_iff.2 ⟨(Bool.and_eq_true_iff.2 ⟨(Bool.and_eq_true_iff.2 ⟨(Bool.and_eq_true_iff.2 ⟨(Bool.and_eq_true_iff.2 ⟨(Bool.and_eq_true_iff.2 ⟨(Bool.and_eq_true_iff.2 ⟨(Bool.and_eq_true_iff.2 ⟨(Bool.and_eq_true_iff.2 ⟨(Bool.and_eq_true_iff.2 ⟨wide_fact0,wide_fact1⟩),wide_fact2⟩),wide_fact3⟩),wide_fact4⟩),wide_fact5⟩),wide_fact6⟩),wide_fact7⟩),wide_fact8⟩),wide_fact9⟩),wide_fact10⟩),wide_fact11⟩),wide_fact12⟩),wide_fact13⟩),wide_fact14⟩),wide_fact15⟩),wide_fact16⟩),wide_fact17⟩),wide_fact18⟩),wide_fact19⟩),wide_fact20⟩),wide_fact21⟩),wide_fact22⟩),wide_fact23⟩),wide_fact24⟩),wide_fact25⟩),wide_fact26⟩),wide_fact27⟩),wide_fact28⟩),wide_fact29⟩),wide_fact30⟩),wide_fact31⟩)
end Go.Proofs.YtnickegmpffneaaGreatDoor
