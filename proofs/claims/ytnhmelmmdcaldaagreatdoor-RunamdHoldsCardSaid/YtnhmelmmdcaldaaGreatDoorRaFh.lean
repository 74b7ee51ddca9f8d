/-
  RunamdHolds: the closed facts of its row, one by one. Conditions: none.
-/
import Derived.Test.YtnhmelmmdcaldaaGreatDoorRows
import Derived.JoinedOf
import Derived.KernelRfl
set_option linter.unusedVariables false
set_option linter.unusedSimpArgs false
namespace Go.Proofs.YtnhmelmmdcaldaaGreatDoor
open Go
theorem holds_fact0 : (Rows.runamdHoldsRow.wf (OpenSpec.ofChange Rows.runamdHoldsSpec)) = true := by kernel_rfl
theorem holds_fact1 : (laidOutB Tryz.prog) = true := by kernel_rfl
theorem holds_fact2 : (mapsRowed Tryz.prog) = true := by kernel_rfl
theorem holds_fact3 : (Tryz.f3.params.all (Tryz.prog.readableRec ·)) = true := by kernel_rfl
theorem holds_fact4 : (namedTie Tryz.prog Rows.runamdHoldsRow.named Rows.runamdHoldsSpec.vars) = true := by kernel_rfl
theorem holds_fact5 : ((Rows.runamdHoldsRow.stops == [])) = true := by kernel_rfl
theorem holds_fact6 : ((Tryz.prog.stops == [])) = true := by kernel_rfl
theorem holds_fact7 : ((Rows.runamdHoldsRow.knobs == [])) = true := by kernel_rfl
theorem holds_fact8 : ((Tryz.prog.stopKnobs == [])) = true := by kernel_rfl
theorem holds_fact9 : ((Rows.runamdHoldsRow.inPlace == Tryz.prog.inPlace 3)) = true := by kernel_rfl
theorem holds_fact10 : ((Rows.runamdHoldsRow.unfollowed == Tryz.prog.unfollowed 3)) = true := by kernel_rfl
theorem holds_fact11 : ((Rows.runamdHoldsRow.recurses == Tryz.prog.recurses 3)) = true := by kernel_rfl
theorem holds_fact12 : ((Rows.runamdHoldsRow.named == Tryz.prog.varsNamed 3)) = true := by kernel_rfl
theorem holds_fact13 : ((Rows.runamdHoldsRow.maps == (Tryz.f3.params.toList ++ Rows.runamdHoldsSpec.plain.varTypes Tryz.prog).any (Tryz.prog.mapsRec ·))) = true := by kernel_rfl
theorem holds_fact14 : ((Rows.runamdHoldsRow.ifaces == (Tryz.f3.params.toList ++ Rows.runamdHoldsSpec.plain.varTypes Tryz.prog).any (Tryz.prog.ifacesRec ·))) = true := by kernel_rfl
theorem holds_fact15 : ((Rows.runamdHoldsRow.mapsOut == Tryz.prog.mapsAmong Tryz.f3.resultTypes.toList)) = true := by kernel_rfl
theorem holds_fact16 : ((Rows.runamdHoldsRow.loops == (Tryz.f3.params.toList ++ Rows.runamdHoldsSpec.plain.varTypes Tryz.prog).any (Tryz.prog.loopsFrom ·))) = true := by kernel_rfl
theorem holds_fact17 : ((Rows.runamdHoldsRow.wideKeys == (Tryz.f3.params.toList ++ Rows.runamdHoldsSpec.plain.varTypes Tryz.prog ++ Tryz.f3.resultTypes.toList).any (Tryz.prog.wideKeysFrom ·))) = true := by kernel_rfl
theorem holds_fact18 : (Rows.runamdHoldsSpec.vars.all (Tryz.prog.varReadable ·)) = true := by kernel_rfl
theorem holds_fact19 : (Tryz.f3.resultTypes.all (fun t => Tryz.prog.readableRec t && decide (t < Tryz.prog.types.size))) = true := by kernel_rfl
theorem holds_fact20 : ((Rows.runamdHoldsRow.ifacesOut == Tryz.f3.resultTypes.toList.any (Tryz.prog.ifacesRec ·))) = true := by kernel_rfl
theorem holds_fact21 : ((Rows.runamdHoldsRow.loopsOut == Tryz.f3.resultTypes.toList.any (Tryz.prog.loopsFrom ·))) = true := by kernel_rfl
theorem holds_fact22 : ((Rows.runamdHoldsRow.plainKeys == Tryz.prog.plainKeys)) = true := by kernel_rfl
theorem holds_fact23 : (Rows.runamdHoldsRow.shortTexts.isNone) = true := by kernel_rfl
theorem holds_fact24 : (Tryz.prog.stopsHeard) = true := by kernel_rfl
theorem holds_fact25 : (Tryz.prog.mayEnter) = true := by kernel_rfl
theorem holds_fact26 : ((Rows.runamdHoldsRow.lifted == Tryz.prog.liftsFinal)) = true := by kernel_rfl
theorem holds_fact27 : ((Tryz.prog.make == some Rows.runamdHoldsRow.make)) = true := by kernel_rfl
theorem holds_fact28 : ((Rows.runamdHoldsRow.kinds == (if Rows.runamdHoldsRow.domain.isEmpty then [] else Tryz.f3.params.toList.map fun t => match Tryz.prog.underlying t with | some (.int k) => some k | _ => none))) = true := by kernel_rfl
theorem holds_fact29 : ((Rows.runamdHoldsRow.pinned == Rows.runamdHoldsRow.pinnedBy)) = true := by kernel_rfl
theorem holds_fact30 : ((Rows.runamdHoldsRow.veiled == (Tryz.f3.params.toList ++ Rows.runamdHoldsSpec.plain.varTypes Tryz.prog ++ Tryz.f3.resultTypes.toList).any (Tryz.prog.veiledRec ·))) = true := by kernel_rfl
theorem holds_fact31 : (Rows.runamdHoldsRow.veiledFits Tryz.prog Tryz.f3.params.toList (Tryz.f3.params.toList ++ Rows.runamdHoldsSpec.plain.varTypes Tryz.prog ++ Tryz.f3.resultTypes.toList)) = true := by kernel_rfl
set_option maxRecDepth 100000 in
theorem holds_facts : joinedFacts Tryz.prog 3 Tryz.f3 Rows.runamdHoldsSpec Rows.runamdHoldsRow = true :=
  (Bool.and_eq_true_iff.2 ⟨(Bool.and_eq_true_iff.2 ⟨(Bool.and_eq_true_iff.2 ⟨(Bool.and_eq_true_iff.2 ⟨(Bool.and_eq_true_iff.2 ⟨(Bool.and_eq_true_iff.2 ⟨(Bool.and_eq_true_iff.2 ⟨(Bool.and_eq_true_iff.2 ⟨(Bool.and_eq_true_iff.2 ⟨(Bool.and_eq_true_iff.2 ⟨(Bool.and_eq_true_iff.2 ⟨(Bool.and_eq_true_iff.2 ⟨(Bool.and_eq_true_iff.2 ⟨(Bool.and_eq_true_iff.2 ⟨(Bool.and_eq_true_iff.2 ⟨(Bool.and_eq_true_iff.2 ⟨(Bool.and_eq_true_iff.2 ⟨(Bool.and_eq_true_iff.2 ⟨(Bool.and_eq_true_iff.2 ⟨(Bool.and_eq_true_iff.2 ⟨(Bool.and_eq_true_iff.2 ⟨(Bool.and_eq_true_iff.2 ⟨(Bool.and_eq_true_iff.2 ⟨(Bool.and_eq_true_iff.2 ⟨(Bool.and_eq_true_iff.2 ⟨(Bool.and_eq_true_iff.2 ⟨(Bool.and_eq_true_iff.2 ⟨(Bool.and_eq_true_iff.2 ⟨(Bool.and_eq_true_iff.2 ⟨(Bool.and_eq_true_iff.2 ⟨(Bool.and_eq_true_iff.2 ⟨holds_fact0, holds_fact1⟩), holds_fact2⟩), holds_fact3⟩), holds_fact4⟩), holds_fact5⟩), holds_fact6⟩), holds_fact7⟩), holds_fact8⟩), holds_fact9⟩), holds_fact10⟩), holds_fact11⟩), holds_fact12⟩), holds_fact13⟩), holds_fact14⟩), holds_fact15⟩), holds_fact16⟩), holds_fact17⟩), holds_fact18⟩), holds_fact19⟩), holds_fact20⟩), holds_fact21⟩), holds_fact22⟩), holds_fact23⟩), holds_fact24⟩), holds_fact25⟩), holds_fact26⟩), holds_fact27⟩), holds_fact28⟩), holds_fact29⟩), holds_fact30⟩), holds_fact31⟩)
end Go.Proofs.YtnhmelmmdcaldaaGreatDoor
