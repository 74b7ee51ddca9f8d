/-
  RunamdRuns: the closed facts of its row, one by one. Conditions: none.
-/
import Derived.Test.YtbefgnmdliefjaaGreatDoorRows
import Derived.JoinedOf
import Derived.KernelRfl
set_option linter.unusedVariables false
set_option linter.unusedSimpArgs false
namespace Go.Proofs.YtbefgnmdliefjaaGreatDoor
open Go
theorem runs_fact0 : (Rows.runamdRunsRow.wf (OpenSpec.ofChange Rows.runamdRunsSpec)) = true := by kernel_rfl
theorem runs_fact1 : (laidOutB Tryz.prog) = true := by kernel_rfl
theorem runs_fact2 : (mapsRowed Tryz.prog) = true := by kernel_rfl
theorem runs_fact3 : (Tryz.f7.params.all (Tryz.prog.readableRec ·)) = true := by kernel_rfl
theorem runs_fact4 : (namedTie Tryz.prog Rows.runamdRunsRow.named Rows.runamdRunsSpec.vars) = true := by kernel_rfl
theorem runs_fact5 : ((Rows.runamdRunsRow.stops == [])) = true := by kernel_rfl
theorem runs_fact6 : ((Tryz.prog.stops == [])) = true := by kernel_rfl
theorem runs_fact7 : ((Rows.runamdRunsRow.knobs == [])) = true := by kernel_rfl
theorem runs_fact8 : ((Tryz.prog.stopKnobs == [])) = true := by kernel_rfl
theorem runs_fact9 : ((Rows.runamdRunsRow.inPlace == Tryz.prog.inPlace 7)) = true := by kernel_rfl
theorem runs_fact10 : ((Rows.runamdRunsRow.unfollowed == Tryz.prog.unfollowed 7)) = true := by kernel_rfl
theorem runs_fact11 : ((Rows.runamdRunsRow.recurses == Tryz.prog.recurses 7)) = true := by kernel_rfl
theorem runs_fact12 : ((Rows.runamdRunsRow.named == Tryz.prog.varsNamed 7)) = true := by kernel_rfl
theorem runs_fact13 : ((Rows.runamdRunsRow.maps == (Tryz.f7.params.toList ++ Rows.runamdRunsSpec.plain.varTypes Tryz.prog).any (Tryz.prog.mapsRec ·))) = true := by kernel_rfl
theorem runs_fact14 : ((Rows.runamdRunsRow.ifaces == (Tryz.f7.params.toList ++ Rows.runamdRunsSpec.plain.varTypes Tryz.prog).any (Tryz.prog.ifacesRec ·))) = true := by kernel_rfl
theorem runs_fact15 : ((Rows.runamdRunsRow.mapsOut == Tryz.prog.mapsAmong Tryz.f7.resultTypes.toList)) = true := by kernel_rfl
theorem runs_fact16 : ((Rows.runamdRunsRow.loops == (Tryz.f7.params.toList ++ Rows.runamdRunsSpec.plain.varTypes Tryz.prog).any (Tryz.prog.loopsFrom ·))) = true := by kernel_rfl
theorem runs_fact17 : ((Rows.runamdRunsRow.wideKeys == (Tryz.f7.params.toList ++ Rows.runamdRunsSpec.plain.varTypes Tryz.prog ++ Tryz.f7.resultTypes.toList).any (Tryz.prog.wideKeysFrom ·))) = true := by kernel_rfl
theorem runs_fact18 : (Rows.runamdRunsSpec.vars.all (Tryz.prog.varReadable ·)) = true := by kernel_rfl
theorem runs_fact19 : (Tryz.f7.resultTypes.all (fun t => Tryz.prog.readableRec t && decide (t < Tryz.prog.types.size))) = true := by kernel_rfl
theorem runs_fact20 : ((Rows.runamdRunsRow.ifacesOut == Tryz.f7.resultTypes.toList.any (Tryz.prog.ifacesRec ·))) = true := by kernel_rfl
theorem runs_fact21 : ((Rows.runamdRunsRow.loopsOut == Tryz.f7.resultTypes.toList.any (Tryz.prog.loopsFrom ·))) = true := by kernel_rfl
theorem runs_fact22 : ((Rows.runamdRunsRow.plainKeys == Tryz.prog.plainKeys)) = true := by kernel_rfl
theorem runs_fact23 : (Rows.runamdRunsRow.shortTexts.isNone) = true := by kernel_rfl
theorem runs_fact24 : (Tryz.prog.stopsHeard) = true := by kernel_rfl
theorem runs_fact25 : (Tryz.prog.mayEnter) = true := by kernel_rfl
theorem runs_fact26 : ((Rows.runamdRunsRow.lifted == Tryz.prog.liftsFinal)) = true := by kernel_rfl
theorem runs_fact27 : ((Tryz.prog.make == some Rows.runamdRunsRow.make)) = true := by kernel_rfl
theorem runs_fact28 : ((Rows.runamdRunsRow.kinds == (if Rows.runamdRunsRow.domain.isEmpty then [] else Tryz.f7.params.toList.map fun t => match Tryz.prog.underlying t with | some (.int k) => some k | _ => none))) = true := by kernel_rfl
theorem runs_fact29 : ((Rows.runamdRunsRow.pinned == Rows.runamdRunsRow.pinnedBy)) = true := by kernel_rfl
theorem runs_fact30 : ((Rows.runamdRunsRow.veiled == (Tryz.f7.params.toList ++ Rows.runamdRunsSpec.plain.varTypes Tryz.prog ++ Tryz.f7.resultTypes.toList).any (Tryz.prog.veiledRec ·))) = true := by kernel_rfl
theorem runs_fact31 : (Rows.runamdRunsRow.veiledFits Tryz.prog Tryz.f7.params.toList (Tryz.f7.params.toList ++ Rows.runamdRunsSpec.plain.varTypes Tryz.prog ++ Tryz.f7.resultTypes.toList)) = true := by kernel_rfl
set_option maxRecDepth 100000 in
theorem runs_facts : joinedFacts Tryz.prog 7 Tryz.f7 Rows.runamdRunsSpec Rows.runamdRunsRow = true :=
  (Bool.and_eq_true_iff.2 ⟨(Bool.and_eq_true_iff.2 ⟨(Bool.and_eq_true_iff.2 ⟨(Bool.and_eq_true_iff.2 ⟨(Bool.and_eq_true_iff.2 ⟨(Bool.and_eq_true_iff.2 ⟨(Bool.and_eq_true_iff.2 ⟨(Bool.and_eq_true_iff.2 ⟨(Bool.and_eq_true_iff.2 ⟨(Bool.and_eq_true_iff.2 ⟨(Bool.and_eq_true_iff.2 ⟨(Bool.and_eq_true_iff.2 ⟨(Bool.and_eq_true_iff.2 ⟨(Bool.and_eq_true_iff.2 ⟨(Bool.and_eq_true_iff.2 ⟨(Bool.and_eq_true_iff.2 ⟨(Bool.and_eq_true_iff.2 ⟨(Bool.and_eq_true_iff.2 ⟨(Bool.and_eq_true_iff.2 ⟨(Bool.and_eq_true_iff.2 ⟨(Bool.and_eq_true_iff.2 ⟨(Bool.and_eq_true_iff.2 ⟨(Bool.and_eq_true_iff.2 ⟨(Bool.and_eq_true_iff.2 ⟨(Bool.and_eq_true_iff.2 ⟨(Bool.and_eq_true_iff.2 ⟨(Bool.and_eq_true_iff.2 ⟨(Bool.and_eq_true_iff.2 ⟨(Bool.and_eq_true_iff.2 ⟨(Bool.and_eq_true_iff.2 ⟨(Bool.and_eq_true_iff.2 ⟨runs_fact0, runs_fact1⟩), runs_fact2⟩), runs_fact3⟩), runs_fact4⟩), runs_fact5⟩), runs_fact6⟩), runs_fact7⟩), runs_fact8⟩), runs_fact9⟩), runs_fact10⟩), runs_fact11⟩), runs_fact12⟩), runs_fact13⟩), runs_fact14⟩), runs_fact15⟩), runs_fact16⟩), runs_fact17⟩), runs_fact18⟩), runs_fact19⟩), runs_fact20⟩), runs_fact21⟩), runs_fact22⟩), runs_fact23⟩), runs_fact24⟩), runs_fact25⟩), runs_fact26⟩), runs_fact27⟩), runs_fact28⟩), runs_fact29⟩), runs_fact30⟩), runs_fact31⟩)
end Go.Proofs.YtbefgnmdliefjaaGreatDoor
