/-
  RunarmSame: the closed facts of its row, one by one. Conditions: none.
-/
import Derived.Test.YtmbbnhcbphkniaaGreatDoorRows
import Derived.JoinedOf
import Derived.KernelRfl
set_option linter.unusedVariables false
set_option linter.unusedSimpArgs false
namespace Go.Proofs.YtmbbnhcbphkniaaGreatDoor
open Go
theorem same_fact0 : (Rows.runarmSameRow.wf (OpenSpec.ofChange Rows.runarmSameSpec)) = true := by kernel_rfl
theorem same_fact1 : (laidOutB Tryz.prog) = true := by kernel_rfl
theorem same_fact2 : (mapsRowed Tryz.prog) = true := by kernel_rfl
theorem same_fact3 : (Tryz.f7.params.all (Tryz.prog.readableRec ·)) = true := by kernel_rfl
theorem same_fact4 : (namedTie Tryz.prog Rows.runarmSameRow.named Rows.runarmSameSpec.vars) = true := by kernel_rfl
theorem same_fact5 : ((Rows.runarmSameRow.stops == [])) = true := by kernel_rfl
theorem same_fact6 : ((Tryz.prog.stops == [])) = true := by kernel_rfl
theorem same_fact7 : ((Rows.runarmSameRow.knobs == [])) = true := by kernel_rfl
theorem same_fact8 : ((Tryz.prog.stopKnobs == [])) = true := by kernel_rfl
theorem same_fact9 : ((Rows.runarmSameRow.inPlace == Tryz.prog.inPlace 7)) = true := by kernel_rfl
theorem same_fact10 : ((Rows.runarmSameRow.unfollowed == Tryz.prog.unfollowed 7)) = true := by kernel_rfl
theorem same_fact11 : ((Rows.runarmSameRow.recurses == Tryz.prog.recurses 7)) = true := by kernel_rfl
theorem same_fact12 : ((Rows.runarmSameRow.named == Tryz.prog.varsNamed 7)) = true := by kernel_rfl
theorem same_fact13 : ((Rows.runarmSameRow.maps == (Tryz.f7.params.toList ++ Rows.runarmSameSpec.plain.varTypes Tryz.prog).any (Tryz.prog.mapsRec ·))) = true := by kernel_rfl
theorem same_fact14 : ((Rows.runarmSameRow.ifaces == (Tryz.f7.params.toList ++ Rows.runarmSameSpec.plain.varTypes Tryz.prog).any (Tryz.prog.ifacesRec ·))) = true := by kernel_rfl
theorem same_fact15 : ((Rows.runarmSameRow.mapsOut == Tryz.prog.mapsAmong Tryz.f7.resultTypes.toList)) = true := by kernel_rfl
theorem same_fact16 : ((Rows.runarmSameRow.loops == (Tryz.f7.params.toList ++ Rows.runarmSameSpec.plain.varTypes Tryz.prog).any (Tryz.prog.loopsFrom ·))) = true := by kernel_rfl
theorem same_fact17 : ((Rows.runarmSameRow.wideKeys == (Tryz.f7.params.toList ++ Rows.runarmSameSpec.plain.varTypes Tryz.prog ++ Tryz.f7.resultTypes.toList).any (Tryz.prog.wideKeysFrom ·))) = true := by kernel_rfl
theorem same_fact18 : (Rows.runarmSameSpec.vars.all (Tryz.prog.varReadable ·)) = true := by kernel_rfl
theorem same_fact19 : (Tryz.f7.resultTypes.all (fun t => Tryz.prog.readableRec t && decide (t < Tryz.prog.types.size))) = true := by kernel_rfl
theorem same_fact20 : ((Rows.runarmSameRow.ifacesOut == Tryz.f7.resultTypes.toList.any (Tryz.prog.ifacesRec ·))) = true := by kernel_rfl
theorem same_fact21 : ((Rows.runarmSameRow.loopsOut == Tryz.f7.resultTypes.toList.any (Tryz.prog.loopsFrom ·))) = true := by kernel_rfl
theorem same_fact22 : ((Rows.runarmSameRow.plainKeys == Tryz.prog.plainKeys)) = true := by kernel_rfl
theorem same_fact23 : (Rows.runarmSameRow.shortTexts.isNone) = true := by kernel_rfl
theorem same_fact24 : (Tryz.prog.stopsHeard) = true := by kernel_rfl
theorem same_fact25 : (Tryz.prog.mayEnter) = true := by kernel_rfl
theorem same_fact26 : ((Rows.runarmSameRow.lifted == Tryz.prog.liftsFinal)) = true := by kernel_rfl
theorem same_fact27 : ((Tryz.prog.make == some Rows.runarmSameRow.make)) = true := by kernel_rfl
theorem same_fact28 : ((Rows.runarmSameRow.kinds == (if Rows.runarmSameRow.domain.isEmpty then [] else Tryz.f7.params.toList.map fun t => match Tryz.prog.underlying t with | some (.int k) => some k | _ => none))) = true := by kernel_rfl
theorem same_fact29 : ((Rows.runarmSameRow.pinned == Rows.runarmSameRow.pinnedBy)) = true := by kernel_rfl
theorem same_fact30 : ((Rows.runarmSameRow.veiled == (Tryz.f7.params.toList ++ Rows.runarmSameSpec.plain.varTypes Tryz.prog ++ Tryz.f7.resultTypes.toList).any (Tryz.prog.veiledRec ·))) = true := by kernel_rfl
theorem same_fact31 : (Rows.runarmSameRow.veiledFits Tryz.prog Tryz.f7.params.toList (Tryz.f7.params.toList ++ Rows.runarmSameSpec.plain.varTypes Tryz.prog ++ Tryz.f7.resultTypes.toList)) = true := by kernel_rfl
set_option maxRecDepth 100000 in
theorem same_facts : joinedFacts Tryz.prog 7 Tryz.f7 Rows.runarmSameSpec Rows.runarmSameRow = true :=
  (Bool.and_eq_true_iff.2 ⟨(Bool.and_eq_true_iff.2 ⟨(Bool.and_eq_true_iff.2 ⟨(Bool.and_eq_true_iff.2 ⟨(Bool.and_eq_true_iff.2 ⟨(Bool.and_eq_true_iff.2 ⟨(Bool.and_eq_true_iff.2 ⟨(Bool.and_eq_true_iff.2 ⟨(Bool.and_eq_true_iff.2 ⟨(Bool.and_eq_true_iff.2 ⟨(Bool.and_eq_true_iff.2 ⟨(Bool.and_eq_true_iff.2 ⟨(Bool.and_eq_true_iff.2 ⟨(Bool.and_eq_true_iff.2 ⟨(Bool.and_eq_true_iff.2 ⟨(Bool.and_eq_true_iff.2 ⟨(Bool.and_eq_true_iff.2 ⟨(Bool.and_eq_true_iff.2 ⟨(Bool.and_eq_true_iff.2 ⟨(Bool.and_eq_true_iff.2 ⟨(Bool.and_eq_true_iff.2 ⟨(Bool.and_eq_true_iff.2 ⟨(Bool.and_eq_true_iff.2 ⟨(Bool.and_eq_true_iff.2 ⟨(Bool.and_eq_true_iff.2 ⟨(Bool.and_eq_true_iff.2 ⟨(Bool.and_eq_true_iff.2 ⟨(Bool.and_eq_true_iff.2 ⟨(Bool.and_eq_true_iff.2 ⟨(Bool.and_eq_true_iff.2 ⟨(Bool.and_eq_true_iff.2 ⟨same_fact0, same_fact1⟩), same_fact2⟩), same_fact3⟩), same_fact4⟩), same_fact5⟩), same_fact6⟩), same_fact7⟩), same_fact8⟩), same_fact9⟩), same_fact10⟩), same_fact11⟩), same_fact12⟩), same_fact13⟩), same_fact14⟩), same_fact15⟩), same_fact16⟩), same_fact17⟩), same_fact18⟩), same_fact19⟩), same_fact20⟩), same_fact21⟩), same_fact22⟩), same_fact23⟩), same_fact24⟩), same_fact25⟩), same_fact26⟩), same_fact27⟩), same_fact28⟩), same_fact29⟩), same_fact30⟩), same_fact31⟩)
end Go.Proofs.YtmbbnhcbphkniaaGreatDoor
