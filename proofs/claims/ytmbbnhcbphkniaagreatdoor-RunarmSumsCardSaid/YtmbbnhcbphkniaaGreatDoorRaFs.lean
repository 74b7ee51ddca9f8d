/-
  RunarmSums: the closed facts of its row, one by one. Conditions: none.
-/
import Derived.Test.YtmbbnhcbphkniaaGreatDoorRows
import Derived.JoinedOf
import Derived.KernelRfl
namespace Go.Proofs.YtmbbnhcbphkniaaGreatDoor
open Go

theorem sums_fact0 : (Rows.runarmSumsRow.wf (OpenSpec.ofChange Rows.runarmSumsSpec)) = true := by kernel_rfl
theorem sums_fact1 : (laidOutB Tryz.prog) = true := by kernel_rfl
theorem sums_fact2 : (mapsRowed Tryz.prog) = true := by kernel_rfl
theorem sums_fact3 : (Tryz.f4.params.all (Tryz.prog.readableRec ·)) = true := by kernel_rfl
theorem sums_fact4 : (namedTie Tryz.prog Rows.runarmSumsRow.named Rows.runarmSumsSpec.vars) = true := by kernel_rfl
theorem sums_fact5 : ((Rows.runarmSumsRow.stops == [])) = true := by kernel_rfl
theorem sums_fact6 : ((Tryz.prog.stops == [])) = true := by kernel_rfl
theorem sums_fact7 : ((Rows.runarmSumsRow.knobs == [])) = true := by kernel_rfl
theorem sums_fact8 : ((Tryz.prog.stopKnobs == [])) = true := by kernel_rfl
theorem sums_fact9 : ((Rows.runarmSumsRow.inPlace == Tryz.prog.inPlace 4)) = true := by kernel_rfl
theorem sums_fact10 : ((Rows.runarmSumsRow.unfollowed == Tryz.prog.unfollowed 4)) = true := by kernel_rfl
theorem sums_fact11 : ((Rows.runarmSumsRow.recurses == Tryz.prog.recurses 4)) = true := by kernel_rfl
theorem sums_fact12 : ((Rows.runarmSumsRow.named == Tryz.prog.varsNamed 4)) = true := by kernel_rfl
theorem sums_fact13 : ((Rows.runarmSumsRow.maps == (Tryz.f4.params.toList ++ Rows.runarmSumsSpec.plain.varTypes Tryz.prog).any (Tryz.prog.mapsRec ·))) = true := by kernel_rfl
theorem sums_fact14 : ((Rows.runarmSumsRow.ifaces == (Tryz.f4.params.toList ++ Rows.runarmSumsSpec.plain.varTypes Tryz.prog).any (Tryz.prog.ifacesRec ·))) = true := by kernel_rfl
theorem sums_fact15 : ((Rows.runarmSumsRow.mapsOut == Tryz.prog.mapsAmong Tryz.f4.resultTypes.toList)) = true := by kernel_rfl
theorem sums_fact16 : ((Rows.runarmSumsRow.loops == (Tryz.f4.params.toList ++ Rows.runarmSumsSpec.plain.varTypes Tryz.prog).any (Tryz.prog.loopsFrom ·))) = true := by kernel_rfl
theorem sums_fact17 : ((Rows.runarmSumsRow.wideKeys == (Tryz.f4.params.toList ++ Rows.runarmSumsSpec.plain.varTypes Tryz.prog ++ Tryz.f4.resultTypes.toList).any (Tryz.prog.wideKeysFrom ·))) = true := by kernel_rfl
theorem sums_fact18 : (Rows.runarmSumsSpec.vars.all (Tryz.prog.varReadable ·)) = true := by kernel_rfl
theorem sums_fact19 : (Tryz.f4.resultTypes.all (fun t => Tryz.prog.readableRec t && decide (t < Tryz.prog.types.size))) = true := by kernel_rfl
theorem sums_fact20 : ((Rows.runarmSumsRow.ifacesOut == Tryz.f4.resultTypes.toList.any (Tryz.prog.ifacesRec ·))) = true := by kernel_rfl
theorem sums_fact21 : ((Rows.runarmSumsRow.loopsOut == Tryz.f4.resultTypes.toList.any (Tryz.prog.loopsFrom ·))) = true := by kernel_rfl
theorem sums_fact22 : ((Rows.runarmSumsRow.plainKeys == Tryz.prog.plainKeys)) = true := by kernel_rfl
theorem sums_fact23 : (Rows.runarmSumsRow.shortTexts.isNone) = true := by kernel_rfl
theorem sums_fact24 : (Tryz.prog.stopsHeard) = true := by kernel_rfl
theorem sums_fact25 : (Tryz.prog.mayEnter) = true := by kernel_rfl
theorem sums_fact26 : ((Rows.runarmSumsRow.lifted == Tryz.prog.liftsFinal)) = true := by kernel_rfl
theorem sums_fact27 : ((Tryz.prog.make == some Rows.runarmSumsRow.make)) = true := by kernel_rfl
theorem sums_fact28 : ((Rows.runarmSumsRow.kinds == (if Rows.runarmSumsRow.domain.isEmpty then [] else Tryz.f4.params.toList.map fun t => match Tryz.prog.underlying t with | some (.int k) => some k | _ => none))) = true := by kernel_rfl
theorem sums_fact29 : ((Rows.runarmSumsRow.pinned == Rows.runarmSumsRow.pinnedBy)) = true := by kernel_rfl
theorem sums_fact30 : ((Rows.runarmSumsRow.veiled == (Tryz.f4.params.toList ++ Rows.runarmSumsSpec.plain.varTypes Tryz.prog ++ Tryz.f4.resultTypes.toList).any (Tryz.prog.veiledRec ·))) = true := by kernel_rfl
theorem sums_fact31 : (Rows.runarmSumsRow.veiledFits Tryz.prog Tryz.f4.params.toList (Tryz.f4.params.toList ++ Rows.runarmSumsSpec.plain.varTypes Tryz.prog ++ Tryz.f4.resultTypes.toList)) = true := by kernel_rfl
set_option maxRecDepth 100000 in
theorem sums_facts : joinedFacts Tryz.prog 4 Tryz.f4 Rows.runarmSumsSpec Rows.runarmSumsRow = true :=
  (Bool.and_eq_true_iff.2 ⟨(Bool.and_eq_true_iff.2 ⟨(Bool.and_eq_true_iff.2 ⟨(Bool.and_eq_true_iff.2 ⟨(Bool.and_eq_true_iff.2 ⟨(Bool.and_eq_true_iff.2 ⟨(Bool.and_eq_true_iff.2 ⟨(Bool.and_eq_true_iff.2 ⟨(Bool.and_eq_true_iff.2 ⟨(Bool.and_eq_true_iff.2 ⟨(Bool.and_eq_true_iff.2 ⟨(Bool.and_eq_true_iff.2 ⟨(Bool.and_eq_true_iff.2 ⟨(Bool.and_eq_true_iff.2 ⟨(Bool.and_eq_true_iff.2 ⟨(Bool.and_eq_true_iff.2 ⟨(Bool.and_eq_true_iff.2 ⟨(Bool.and_eq_true_iff.2 ⟨(Bool.and_eq_true_iff.2 ⟨(Bool.and_eq_true_iff.2 ⟨(Bool.and_eq_true_iff.2 ⟨(Bool.and_eq_true_iff.2 ⟨(Bool.and_eq_true_iff.2 ⟨(Bool.and_eq_true_iff.2 ⟨(Bool.and_eq_true_iff.2 ⟨(Bool.and_eq_true_iff.2 ⟨(Bool.and_eq_true_iff.2 ⟨(Bool.and_eq_true_iff.2 ⟨(Bool.and_eq_true_iff.2 ⟨(Bool.and_eq_true_iff.2 ⟨(Bool.and_eq_true_iff.2 ⟨sums_fact0, sums_fact1⟩), sums_fact2⟩), sums_fact3⟩), sums_fact4⟩), sums_fact5⟩), sums_fact6⟩), sums_fact7⟩), sums_fact8⟩), sums_fact9⟩), sums_fact10⟩), sums_fact11⟩), sums_fact12⟩), sums_fact13⟩), sums_fact14⟩), sums_fact15⟩), sums_fact16⟩), sums_fact17⟩), sums_fact18⟩), sums_fact19⟩), sums_fact20⟩), sums_fact21⟩), sums_fact22⟩), sums_fact23⟩), sums_fact24⟩), sums_fact25⟩), sums_fact26⟩), sums_fact27⟩), sums_fact28⟩), sums_fact29⟩), sums_fact30⟩), sums_fact31⟩)

end Go.Proofs.YtmbbnhcbphkniaaGreatDoor
