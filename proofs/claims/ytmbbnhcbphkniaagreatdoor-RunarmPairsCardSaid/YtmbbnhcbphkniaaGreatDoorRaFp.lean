/-
  RunarmPairs: the closed facts of its row, one by one. Conditions: none.
-/
import Derived.Test.YtmbbnhcbphkniaaGreatDoorRows
import Derived.JoinedOf
import Derived.KernelRfl
namespace Go.Proofs.YtmbbnhcbphkniaaGreatDoor
open Go

theorem pairs_fact0 : (Rows.runarmPairsRow.wf (OpenSpec.ofChange Rows.runarmPairsSpec)) = true := by kernel_rfl
theorem pairs_fact1 : (laidOutB Tryz.prog) = true := by kernel_rfl
theorem pairs_fact2 : (mapsRowed Tryz.prog) = true := by kernel_rfl
theorem pairs_fact3 : (Tryz.f6.params.all (Tryz.prog.readableRec ·)) = true := by kernel_rfl
theorem pairs_fact4 : (namedTie Tryz.prog Rows.runarmPairsRow.named Rows.runarmPairsSpec.vars) = true := by kernel_rfl
theorem pairs_fact5 : ((Rows.runarmPairsRow.stops == [])) = true := by kernel_rfl
theorem pairs_fact6 : ((Tryz.prog.stops == [])) = true := by kernel_rfl
theorem pairs_fact7 : ((Rows.runarmPairsRow.knobs == [])) = true := by kernel_rfl
theorem pairs_fact8 : ((Tryz.prog.stopKnobs == [])) = true := by kernel_rfl
theorem pairs_fact9 : ((Rows.runarmPairsRow.inPlace == Tryz.prog.inPlace 6)) = true := by kernel_rfl
theorem pairs_fact10 : ((Rows.runarmPairsRow.unfollowed == Tryz.prog.unfollowed 6)) = true := by kernel_rfl
theorem pairs_fact11 : ((Rows.runarmPairsRow.recurses == Tryz.prog.recurses 6)) = true := by kernel_rfl
theorem pairs_fact12 : ((Rows.runarmPairsRow.named == Tryz.prog.varsNamed 6)) = true := by kernel_rfl
theorem pairs_fact13 : ((Rows.runarmPairsRow.maps == (Tryz.f6.params.toList ++ Rows.runarmPairsSpec.plain.varTypes Tryz.prog).any (Tryz.prog.mapsRec ·))) = true := by kernel_rfl
theorem pairs_fact14 : ((Rows.runarmPairsRow.ifaces == (Tryz.f6.params.toList ++ Rows.runarmPairsSpec.plain.varTypes Tryz.prog).any (Tryz.prog.ifacesRec ·))) = true := by kernel_rfl
theorem pairs_fact15 : ((Rows.runarmPairsRow.mapsOut == Tryz.prog.mapsAmong Tryz.f6.resultTypes.toList)) = true := by kernel_rfl
theorem pairs_fact16 : ((Rows.runarmPairsRow.loops == (Tryz.f6.params.toList ++ Rows.runarmPairsSpec.plain.varTypes Tryz.prog).any (Tryz.prog.loopsFrom ·))) = true := by kernel_rfl
theorem pairs_fact17 : ((Rows.runarmPairsRow.wideKeys == (Tryz.f6.params.toList ++ Rows.runarmPairsSpec.plain.varTypes Tryz.prog ++ Tryz.f6.resultTypes.toList).any (Tryz.prog.wideKeysFrom ·))) = true := by kernel_rfl
theorem pairs_fact18 : (Rows.runarmPairsSpec.vars.all (Tryz.prog.varReadable ·)) = true := by kernel_rfl
theorem pairs_fact19 : (Tryz.f6.resultTypes.all (fun t => Tryz.prog.readableRec t && decide (t < Tryz.prog.types.size))) = true := by kernel_rfl
theorem pairs_fact20 : ((Rows.runarmPairsRow.ifacesOut == Tryz.f6.resultTypes.toList.any (Tryz.prog.ifacesRec ·))) = true := by kernel_rfl
theorem pairs_fact21 : ((Rows.runarmPairsRow.loopsOut == Tryz.f6.resultTypes.toList.any (Tryz.prog.loopsFrom ·))) = true := by kernel_rfl
theorem pairs_fact22 : ((Rows.runarmPairsRow.plainKeys == Tryz.prog.plainKeys)) = true := by kernel_rfl
theorem pairs_fact23 : (Rows.runarmPairsRow.shortTexts.isNone) = true := by kernel_rfl
theorem pairs_fact24 : (Tryz.prog.stopsHeard) = true := by kernel_rfl
theorem pairs_fact25 : (Tryz.prog.mayEnter) = true := by kernel_rfl
theorem pairs_fact26 : ((Rows.runarmPairsRow.lifted == Tryz.prog.liftsFinal)) = true := by kernel_rfl
theorem pairs_fact27 : ((Tryz.prog.make == some Rows.runarmPairsRow.make)) = true := by kernel_rfl
theorem pairs_fact28 : ((Rows.runarmPairsRow.kinds == (if Rows.runarmPairsRow.domain.isEmpty then [] else Tryz.f6.params.toList.map fun t => match Tryz.prog.underlying t with | some (.int k) => some k | _ => none))) = true := by kernel_rfl
theorem pairs_fact29 : ((Rows.runarmPairsRow.pinned == Rows.runarmPairsRow.pinnedBy)) = true := by kernel_rfl
theorem pairs_fact30 : ((Rows.runarmPairsRow.veiled == (Tryz.f6.params.toList ++ Rows.runarmPairsSpec.plain.varTypes Tryz.prog ++ Tryz.f6.resultTypes.toList).any (Tryz.prog.veiledRec ·))) = true := by kernel_rfl
theorem pairs_fact31 : (Rows.runarmPairsRow.veiledFits Tryz.prog Tryz.f6.params.toList (Tryz.f6.params.toList ++ Rows.runarmPairsSpec.plain.varTypes Tryz.prog ++ Tryz.f6.resultTypes.toList)) = true := by kernel_rfl
set_option maxRecDepth 100000 in
theorem pairs_facts : joinedFacts Tryz.prog 6 Tryz.f6 Rows.runarmPairsSpec Rows.runarmPairsRow = true :=
  (Bool.and_eq_true_iff.2 ⟨(Bool.and_eq_true_iff.2 ⟨(Bool.and_eq_true_iff.2 ⟨(Bool.and_eq_true_iff.2 ⟨(Bool.and_eq_true_iff.2 ⟨(Bool.and_eq_true_iff.2 ⟨(Bool.and_eq_true_iff.2 ⟨(Bool.and_eq_true_iff.2 ⟨(Bool.and_eq_true_iff.2 ⟨(Bool.and_eq_true_iff.2 ⟨(Bool.and_eq_true_iff.2 ⟨(Bool.and_eq_true_iff.2 ⟨(Bool.and_eq_true_iff.2 ⟨(Bool.and_eq_true_iff.2 ⟨(Bool.and_eq_true_iff.2 ⟨(Bool.and_eq_true_iff.2 ⟨(Bool.and_eq_true_iff.2 ⟨(Bool.and_eq_true_iff.2 ⟨(Bool.and_eq_true_iff.2 ⟨(Bool.and_eq_true_iff.2 ⟨(Bool.and_eq_true_iff.2 ⟨(Bool.and_eq_true_iff.2 ⟨(Bool.and_eq_true_iff.2 ⟨(Bool.and_eq_true_iff.2 ⟨(Bool.and_eq_true_iff.2 ⟨(Bool.and_eq_true_iff.2 ⟨(Bool.and_eq_true_iff.2 ⟨(Bool.and_eq_true_iff.2 ⟨(Bool.and_eq_true_iff.2 ⟨(Bool.and_eq_true_iff.2 ⟨(Bool.and_eq_true_iff.2 ⟨pairs_fact0, pairs_fact1⟩), pairs_fact2⟩), pairs_fact3⟩), pairs_fact4⟩), pairs_fact5⟩), pairs_fact6⟩), pairs_fact7⟩), pairs_fact8⟩), pairs_fact9⟩), pairs_fact10⟩), pairs_fact11⟩), pairs_fact12⟩), pairs_fact13⟩), pairs_fact14⟩), pairs_fact15⟩), pairs_fact16⟩), pairs_fact17⟩), pairs_fact18⟩), pairs_fact19⟩), pairs_fact20⟩), pairs_fact21⟩), pairs_fact22⟩), pairs_fact23⟩), pairs_fact24⟩), pairs_fact25⟩), pairs_fact26⟩), pairs_fact27⟩), pairs_fact28⟩), pairs_fact29⟩), pairs_fact30⟩), pairs_fact31⟩)

end Go.Proofs.YtmbbnhcbphkniaaGreatDoor
