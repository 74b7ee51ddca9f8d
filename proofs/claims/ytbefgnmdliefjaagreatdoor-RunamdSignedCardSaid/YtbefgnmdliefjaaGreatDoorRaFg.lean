/-
  RunamdSigned: the closed facts of its row, one by one. Conditions: none.
-/
import Derived.Test.YtbefgnmdliefjaaGreatDoorRows
import Derived.JoinedOf
import Derived.KernelRfl
set_option linter.unusedVariables false
set_option linter.unusedSimpArgs false
namespace Go.Proofs.YtbefgnmdliefjaaGreatDoor
open Go
theorem signed_fact0:(Rows.runamdSignedRow.wf (OpenSpec.ofChange Rows.runamdSignedSpec))=true:=by kernel_rfl
theorem signed_fact1:(laidOutB Tryz.prog)=true:=by kernel_rfl
theorem signed_fact2:(mapsRowed Tryz.prog)=true:=by kernel_rfl
theorem signed_fact3:(Tryz.f5.params.all (Tryz.prog.readableRec ·))=true:=by kernel_rfl
theorem signed_fact4:(namedTie Tryz.prog Rows.runamdSignedRow.named Rows.runamdSignedSpec.vars)=true:=by kernel_rfl
theorem signed_fact5:((Rows.runamdSignedRow.stops == []))=true:=by kernel_rfl
theorem signed_fact6:((Tryz.prog.stops == []))=true:=by kernel_rfl
theorem signed_fact7:((Rows.runamdSignedRow.knobs == []))=true:=by kernel_rfl
theorem signed_fact8:((Tryz.prog.stopKnobs == []))=true:=by kernel_rfl
theorem signed_fact9:((Rows.runamdSignedRow.inPlace == Tryz.prog.inPlace 5))=true:=by kernel_rfl
theorem signed_fact10:((Rows.runamdSignedRow.unfollowed == Tryz.prog.unfollowed 5))=true:=by kernel_rfl
theorem signed_fact11:((Rows.runamdSignedRow.recurses == Tryz.prog.recurses 5))=true:=by kernel_rfl
theorem signed_fact12:((Rows.runamdSignedRow.named == Tryz.prog.varsNamed 5))=true:=by kernel_rfl
theorem signed_fact13:((Rows.runamdSignedRow.maps == (Tryz.f5.params.toList++Rows.runamdSignedSpec.plain.varTypes Tryz.prog).any (Tryz.prog.mapsRec ·)))=true:=by kernel_rfl
theorem signed_fact14:((Rows.runamdSignedRow.ifaces == (Tryz.f5.params.toList++Rows.runamdSignedSpec.plain.varTypes Tryz.prog).any (Tryz.prog.ifacesRec ·)))=true:=by kernel_rfl
theorem signed_fact15:((Rows.runamdSignedRow.mapsOut == Tryz.prog.mapsAmong Tryz.f5.resultTypes.toList))=true:=by kernel_rfl
theorem signed_fact16:((Rows.runamdSignedRow.loops == (Tryz.f5.params.toList++Rows.runamdSignedSpec.plain.varTypes Tryz.prog).any (Tryz.prog.loopsFrom ·)))=true:=by kernel_rfl
theorem signed_fact17:((Rows.runamdSignedRow.wideKeys == (Tryz.f5.params.toList++Rows.runamdSignedSpec.plain.varTypes Tryz.prog++Tryz.f5.resultTypes.toList).any (Tryz.prog.wideKeysFrom ·)))=true:=by kernel_rfl
theorem signed_fact18:(Rows.runamdSignedSpec.vars.all (Tryz.prog.varReadable ·))=true:=by kernel_rfl
theorem signed_fact19:(Tryz.f5.resultTypes.all (fun t=>Tryz.prog.readableRec t && decide (t<Tryz.prog.types.size)))=true:=by kernel_rfl
theorem signed_fact20:((Rows.runamdSignedRow.ifacesOut == Tryz.f5.resultTypes.toList.any (Tryz.prog.ifacesRec ·)))=true:=by kernel_rfl
theorem signed_fact21:((Rows.runamdSignedRow.loopsOut == Tryz.f5.resultTypes.toList.any (Tryz.prog.loopsFrom ·)))=true:=by kernel_rfl
theorem signed_fact22:((Rows.runamdSignedRow.plainKeys == Tryz.prog.plainKeys))=true:=by kernel_rfl
theorem signed_fact23:(Rows.runamdSignedRow.shortTexts.isNone)=true:=by kernel_rfl
theorem signed_fact24:(Tryz.prog.stopsHeard)=true:=by kernel_rfl
theorem signed_fact25:(Tryz.prog.mayEnter)=true:=by kernel_rfl
theorem signed_fact26:((Rows.runamdSignedRow.lifted == Tryz.prog.liftsFinal))=true:=by kernel_rfl
theorem signed_fact27:((Tryz.prog.make == some Rows.runamdSignedRow.make))=true:=by kernel_rfl
theorem signed_fact28:((Rows.runamdSignedRow.kinds == (if Rows.runamdSignedRow.domain.isEmpty then [] else Tryz.f5.params.toList.map fun t=>match Tryz.prog.underlying t with | some (.int k)=>some k | _=>none)))=true:=by kernel_rfl
theorem signed_fact29:((Rows.runamdSignedRow.pinned == Rows.runamdSignedRow.pinnedBy))=true:=by kernel_rfl
theorem signed_fact30:((Rows.runamdSignedRow.veiled == (Tryz.f5.params.toList++Rows.runamdSignedSpec.plain.varTypes Tryz.prog++Tryz.f5.resultTypes.toList).any (Tryz.prog.veiledRec ·)))=true:=by kernel_rfl
theorem signed_fact31:(Rows.runamdSignedRow.veiledFits Tryz.prog Tryz.f5.params.toList (Tryz.f5.params.toList++Rows.runamdSignedSpec.plain.varTypes Tryz.prog++Tryz.f5.resultTypes.toList))=true:=by kernel_rfl
set_option maxRecDepth 100000 in
theorem signed_facts:joinedFacts Tryz.prog 5 Tryz.f5 Rows.runamdSignedSpec Rows.runamdSignedRow=true:=
 (Bool.and_eq_true_iff.2 ⟨(Bool.and_eq_true_iff.2 ⟨(Bool.and_eq_true_iff.2 ⟨(Bool.and_eq_true_iff.2 ⟨(Bool.and_eq_true_iff.2 ⟨(Bool.and_eq_true_iff.2 ⟨(Bool.and_eq_true_iff.2 ⟨(Bool.and_eq_true_iff.2 ⟨(Bool.and_eq_true_iff.2 ⟨(Bool.and_eq_true_iff.2 ⟨(Bool.and_eq_true_iff.2 ⟨(Bool.and_eq_true_iff.2 ⟨(Bool.and_eq_true_iff.2 ⟨(Bool.and_eq_true_iff.2 ⟨(Bool.and_eq_true_iff.2 ⟨(Bool.and_eq_true_iff.2 ⟨(Bool.and_eq_true_iff.2 ⟨(Bool.and_eq_true_iff.2 ⟨(Bool.and_eq_true_iff.2 ⟨(Bool.and_eq_true_iff.2 ⟨(Bool.and_eq_true_iff.2 ⟨(Bool.and_eq_true_iff.2 ⟨(Bool.and_eq_true_iff.2 ⟨(Bool.and_eq_true_iff.2 ⟨(Bool.and_eq_true_iff.2 ⟨(Bool.and_eq_true_iff.2 ⟨(Bool.and_eq_true_iff.2 ⟨(Bool.and_eq_true_iff.2 ⟨(Bool.and_eq_true_iff.2 ⟨(Bool.and_eq_true_iff.2 ⟨(Bool.and_eq_true_iff.2 ⟨signed_fact0,signed_fact1⟩),signed_fact2⟩),signed_fact3⟩),signed_fact4⟩),signed_fact5⟩),signed_fact6⟩),signed_fact7⟩),signed_fact8⟩),signed_fact9⟩),signed_fact10⟩),signed_fact11⟩),signed_fact12⟩),signed_fact13⟩),signed_fact14⟩),signed_fact15⟩),signed_fact16⟩),signed_fact17⟩),signed_fact18⟩),signed_fact19⟩),signed_fact20⟩),signed_fact21⟩),signed_fact22⟩),signed_fact23⟩),signed_fact24⟩),signed_fact25⟩),signed_fact26⟩),signed_fact27⟩),signed_fact28⟩),signed_fact29⟩),signed_fact30⟩),signed_fact31⟩)
end Go.Proofs.YtbefgnmdliefjaaGreatDoor
