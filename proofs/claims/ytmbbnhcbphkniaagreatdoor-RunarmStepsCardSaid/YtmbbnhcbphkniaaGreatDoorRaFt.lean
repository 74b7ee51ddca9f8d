/-
  RunarmSteps: the closed facts of its row, one by one. Conditions: none.
-/
import Derived.Test.YtmbbnhcbphkniaaGreatDoorRows
import Derived.JoinedOf
import Derived.KernelRfl
set_option linter.unusedVariables false
set_option linter.unusedSimpArgs false
namespace Go.Proofs.YtmbbnhcbphkniaaGreatDoor
open Go
theorem steps_fact0 : (Rows.runarmStepsRow.wf (OpenSpec.ofChange Rows.runarmStepsSpec)) = true := by kernel_rfl
theorem steps_fact1 : (laidOutB Tryz.prog) = true := by kernel_rfl
theorem steps_fact2 : (mapsRowed Tryz.prog) = true := by kernel_rfl
theorem steps_fact3 : (Tryz.f9.params.all (Tryz.prog.readableRec ·)) = true := by kernel_rfl
theorem steps_fact4 : (namedTie Tryz.prog Rows.runarmStepsRow.named Rows.runarmStepsSpec.vars) = true := by kernel_rfl
theorem steps_fact5 : ((Rows.runarmStepsRow.stops == [])) = true := by kernel_rfl
theorem steps_fact6 : ((Tryz.prog.stops == [])) = true := by kernel_rfl
theorem steps_fact7 : ((Rows.runarmStepsRow.knobs == [])) = true := by kernel_rfl
theorem steps_fact8 : ((Tryz.prog.stopKnobs == [])) = true := by kernel_rfl
theorem steps_fact9 : ((Rows.runarmStepsRow.inPlace == Tryz.prog.inPlace 9)) = true := by kernel_rfl
theorem steps_fact10 : ((Rows.runarmStepsRow.unfollowed == Tryz.prog.unfollowed 9)) = true := by kernel_rfl
theorem steps_fact11 : ((Rows.runarmStepsRow.recurses == Tryz.prog.recurses 9)) = true := by kernel_rfl
theorem steps_fact12 : ((Rows.runarmStepsRow.named == Tryz.prog.varsNamed 9)) = true := by kernel_rfl
theorem steps_fact13 : ((Rows.runarmStepsRow.maps == (Tryz.f9.params.toList ++ Rows.runarmStepsSpec.plain.varTypes Tryz.prog).any (Tryz.prog.mapsRec ·))) = true := by kernel_rfl
theorem steps_fact14 : ((Rows.runarmStepsRow.ifaces == (Tryz.f9.params.toList ++ Rows.runarmStepsSpec.plain.varTypes Tryz.prog).any (Tryz.prog.ifacesRec ·))) = true := by kernel_rfl
theorem steps_fact15 : ((Rows.runarmStepsRow.mapsOut == Tryz.prog.mapsAmong Tryz.f9.resultTypes.toList)) = true := by kernel_rfl
theorem steps_fact16 : ((Rows.runarmStepsRow.loops == (Tryz.f9.params.toList ++ Rows.runarmStepsSpec.plain.varTypes Tryz.prog).any (Tryz.prog.loopsFrom ·))) = true := by kernel_rfl
theorem steps_fact17 : ((Rows.runarmStepsRow.wideKeys == (Tryz.f9.params.toList ++ Rows.runarmStepsSpec.plain.varTypes Tryz.prog ++ Tryz.f9.resultTypes.toList).any (Tryz.prog.wideKeysFrom ·))) = true := by kernel_rfl
theorem steps_fact18 : (Rows.runarmStepsSpec.vars.all (Tryz.prog.varReadable ·)) = true := by kernel_rfl
theorem steps_fact19 : (Tryz.f9.resultTypes.all (fun t => Tryz.prog.readableRec t && decide (t < Tryz.prog.types.size))) = true := by kernel_rfl
theorem steps_fact20 : ((Rows.runarmStepsRow.ifacesOut == Tryz.f9.resultTypes.toList.any (Tryz.prog.ifacesRec ·))) = true := by kernel_rfl
theorem steps_fact21 : ((Rows.runarmStepsRow.loopsOut == Tryz.f9.resultTypes.toList.any (Tryz.prog.loopsFrom ·))) = true := by kernel_rfl
theorem steps_fact22 : ((Rows.runarmStepsRow.plainKeys == Tryz.prog.plainKeys)) = true := by kernel_rfl
theorem steps_fact23 : (Rows.runarmStepsRow.shortTexts.isNone) = true := by kernel_rfl
theorem steps_fact24 : (Tryz.prog.stopsHeard) = true := by kernel_rfl
theorem steps_fact25 : (Tryz.prog.mayEnter) = true := by kernel_rfl
theorem steps_fact26 : ((Rows.runarmStepsRow.lifted == Tryz.prog.liftsFinal)) = true := by kernel_rfl
theorem steps_fact27 : ((Tryz.prog.make == some Rows.runarmStepsRow.make)) = true := by kernel_rfl
theorem steps_fact28 : ((Rows.runarmStepsRow.kinds == (if Rows.runarmStepsRow.domain.isEmpty then [] else Tryz.f9.params.toList.map fun t => match Tryz.prog.underlying t with | some (.int k) => some k | _ => none))) = true := by kernel_rfl
theorem steps_fact29 : ((Rows.runarmStepsRow.pinned == Rows.runarmStepsRow.pinnedBy)) = true := by kernel_rfl
theorem steps_fact30 : ((Rows.runarmStepsRow.veiled == (Tryz.f9.params.toList ++ Rows.runarmStepsSpec.plain.varTypes Tryz.prog ++ Tryz.f9.resultTypes.toList).any (Tryz.prog.veiledRec ·))) = true := by kernel_rfl
theorem steps_fact31 : (Rows.runarmStepsRow.veiledFits Tryz.prog Tryz.f9.params.toList (Tryz.f9.params.toList ++ Rows.runarmStepsSpec.plain.varTypes Tryz.prog ++ Tryz.f9.resultTypes.toList)) = true := by kernel_rfl
set_option maxRecDepth 100000 in
theorem steps_facts : joinedFacts Tryz.prog 9 Tryz.f9 Rows.runarmStepsSpec Rows.runarmStepsRow = true :=
  (Bool.and_eq_true_iff.2 ⟨(Bool.and_eq_true_iff.2 ⟨(Bool.and_eq_true_iff.2 ⟨(Bool.and_eq_true_iff.2 ⟨(Bool.and_eq_true_iff.2 ⟨(Bool.and_eq_true_iff.2 ⟨(Bool.and_eq_true_iff.2 ⟨(Bool.and_eq_true_iff.2 ⟨(Bool.and_eq_true_iff.2 ⟨(Bool.and_eq_true_iff.2 ⟨(Bool.and_eq_true_iff.2 ⟨(Bool.and_eq_true_iff.2 ⟨(Bool.and_eq_true_iff.2 ⟨(Bool.and_eq_true_iff.2 ⟨(Bool.and_eq_true_iff.2 ⟨(Bool.and_eq_true_iff.2 ⟨(Bool.and_eq_true_iff.2 ⟨(Bool.and_eq_true_iff.2 ⟨(Bool.and_eq_true_iff.2 ⟨(Bool.and_eq_true_iff.2 ⟨(Bool.and_eq_true_iff.2 ⟨(Bool.and_eq_true_iff.2 ⟨(Bool.and_eq_true_iff.2 ⟨(Bool.and_eq_true_iff.2 ⟨(Bool.and_eq_true_iff.2 ⟨(Bool.and_eq_true_iff.2 ⟨(Bool.and_eq_true_iff.2 ⟨(Bool.and_eq_true_iff.2 ⟨(Bool.and_eq_true_iff.2 ⟨(Bool.and_eq_true_iff.2 ⟨(Bool.and_eq_true_iff.2 ⟨steps_fact0, steps_fact1⟩), steps_fact2⟩), steps_fact3⟩), steps_fact4⟩), steps_fact5⟩), steps_fact6⟩), steps_fact7⟩), steps_fact8⟩), steps_fact9⟩), steps_fact10⟩), steps_fact11⟩), steps_fact12⟩), steps_fact13⟩), steps_fact14⟩), steps_fact15⟩), steps_fact16⟩), steps_fact17⟩), steps_fact18⟩), steps_fact19⟩), steps_fact20⟩), steps_fact21⟩), steps_fact22⟩), steps_fact23⟩), steps_fact24⟩), steps_fact25⟩), steps_fact26⟩), steps_fact27⟩), steps_fact28⟩), steps_fact29⟩), steps_fact30⟩), steps_fact31⟩)
end Go.Proofs.YtmbbnhcbphkniaaGreatDoor
