/-
  RunarmMoves: the closed facts of its row, one by one. Conditions: none.
-/
import Derived.Test.YtmbbnhcbphkniaaGreatDoorRows
import Derived.JoinedOf
import Derived.KernelRfl
namespace Go.Proofs.YtmbbnhcbphkniaaGreatDoor
open Go

theorem moves_fact0 : (Rows.runarmMovesRow.wf (OpenSpec.ofChange Rows.runarmMovesSpec)) = true := by kernel_rfl
theorem moves_fact1 : (laidOutB Tryz.prog) = true := by kernel_rfl
theorem moves_fact2 : (mapsRowed Tryz.prog) = true := by kernel_rfl
theorem moves_fact3 : (Tryz.f5.params.all (Tryz.prog.readableRec ·)) = true := by kernel_rfl
theorem moves_fact4 : (namedTie Tryz.prog Rows.runarmMovesRow.named Rows.runarmMovesSpec.vars) = true := by kernel_rfl
theorem moves_fact5 : ((Rows.runarmMovesRow.stops == [])) = true := by kernel_rfl
theorem moves_fact6 : ((Tryz.prog.stops == [])) = true := by kernel_rfl
theorem moves_fact7 : ((Rows.runarmMovesRow.knobs == [])) = true := by kernel_rfl
theorem moves_fact8 : ((Tryz.prog.stopKnobs == [])) = true := by kernel_rfl
theorem moves_fact9 : ((Rows.runarmMovesRow.inPlace == Tryz.prog.inPlace 5)) = true := by kernel_rfl
theorem moves_fact10 : ((Rows.runarmMovesRow.unfollowed == Tryz.prog.unfollowed 5)) = true := by kernel_rfl
theorem moves_fact11 : ((Rows.runarmMovesRow.recurses == Tryz.prog.recurses 5)) = true := by kernel_rfl
theorem moves_fact12 : ((Rows.runarmMovesRow.named == Tryz.prog.varsNamed 5)) = true := by kernel_rfl
theorem moves_fact13 : ((Rows.runarmMovesRow.maps == (Tryz.f5.params.toList ++ Rows.runarmMovesSpec.plain.varTypes Tryz.prog).any (Tryz.prog.mapsRec ·))) = true := by kernel_rfl
theorem moves_fact14 : ((Rows.runarmMovesRow.ifaces == (Tryz.f5.params.toList ++ Rows.runarmMovesSpec.plain.varTypes Tryz.prog).any (Tryz.prog.ifacesRec ·))) = true := by kernel_rfl
theorem moves_fact15 : ((Rows.runarmMovesRow.mapsOut == Tryz.prog.mapsAmong Tryz.f5.resultTypes.toList)) = true := by kernel_rfl
theorem moves_fact16 : ((Rows.runarmMovesRow.loops == (Tryz.f5.params.toList ++ Rows.runarmMovesSpec.plain.varTypes Tryz.prog).any (Tryz.prog.loopsFrom ·))) = true := by kernel_rfl
theorem moves_fact17 : ((Rows.runarmMovesRow.wideKeys == (Tryz.f5.params.toList ++ Rows.runarmMovesSpec.plain.varTypes Tryz.prog ++ Tryz.f5.resultTypes.toList).any (Tryz.prog.wideKeysFrom ·))) = true := by kernel_rfl
theorem moves_fact18 : (Rows.runarmMovesSpec.vars.all (Tryz.prog.varReadable ·)) = true := by kernel_rfl
theorem moves_fact19 : (Tryz.f5.resultTypes.all (fun t => Tryz.prog.readableRec t && decide (t < Tryz.prog.types.size))) = true := by kernel_rfl
theorem moves_fact20 : ((Rows.runarmMovesRow.ifacesOut == Tryz.f5.resultTypes.toList.any (Tryz.prog.ifacesRec ·))) = true := by kernel_rfl
theorem moves_fact21 : ((Rows.runarmMovesRow.loopsOut == Tryz.f5.resultTypes.toList.any (Tryz.prog.loopsFrom ·))) = true := by kernel_rfl
theorem moves_fact22 : ((Rows.runarmMovesRow.plainKeys == Tryz.prog.plainKeys)) = true := by kernel_rfl
theorem moves_fact23 : (Rows.runarmMovesRow.shortTexts.isNone) = true := by kernel_rfl
theorem moves_fact24 : (Tryz.prog.stopsHeard) = true := by kernel_rfl
theorem moves_fact25 : (Tryz.prog.mayEnter) = true := by kernel_rfl
theorem moves_fact26 : ((Rows.runarmMovesRow.lifted == Tryz.prog.liftsFinal)) = true := by kernel_rfl
theorem moves_fact27 : ((Tryz.prog.make == some Rows.runarmMovesRow.make)) = true := by kernel_rfl
theorem moves_fact28 : ((Rows.runarmMovesRow.kinds == (if Rows.runarmMovesRow.domain.isEmpty then [] else Tryz.f5.params.toList.map fun t => match Tryz.prog.underlying t with | some (.int k) => some k | _ => none))) = true := by kernel_rfl
theorem moves_fact29 : ((Rows.runarmMovesRow.pinned == Rows.runarmMovesRow.pinnedBy)) = true := by kernel_rfl
theorem moves_fact30 : ((Rows.runarmMovesRow.veiled == (Tryz.f5.params.toList ++ Rows.runarmMovesSpec.plain.varTypes Tryz.prog ++ Tryz.f5.resultTypes.toList).any (Tryz.prog.veiledRec ·))) = true := by kernel_rfl
theorem moves_fact31 : (Rows.runarmMovesRow.veiledFits Tryz.prog Tryz.f5.params.toList (Tryz.f5.params.toList ++ Rows.runarmMovesSpec.plain.varTypes Tryz.prog ++ Tryz.f5.resultTypes.toList)) = true := by kernel_rfl
set_option maxRecDepth 100000 in
theorem moves_facts : joinedFacts Tryz.prog 5 Tryz.f5 Rows.runarmMovesSpec Rows.runarmMovesRow = true :=
  (Bool.and_eq_true_iff.2 ⟨(Bool.and_eq_true_iff.2 ⟨(Bool.and_eq_true_iff.2 ⟨(Bool.and_eq_true_iff.2 ⟨(Bool.and_eq_true_iff.2 ⟨(Bool.and_eq_true_iff.2 ⟨(Bool.and_eq_true_iff.2 ⟨(Bool.and_eq_true_iff.2 ⟨(Bool.and_eq_true_iff.2 ⟨(Bool.and_eq_true_iff.2 ⟨(Bool.and_eq_true_iff.2 ⟨(Bool.and_eq_true_iff.2 ⟨(Bool.and_eq_true_iff.2 ⟨(Bool.and_eq_true_iff.2 ⟨(Bool.and_eq_true_iff.2 ⟨(Bool.and_eq_true_iff.2 ⟨(Bool.and_eq_true_iff.2 ⟨(Bool.and_eq_true_iff.2 ⟨(Bool.and_eq_true_iff.2 ⟨(Bool.and_eq_true_iff.2 ⟨(Bool.and_eq_true_iff.2 ⟨(Bool.and_eq_true_iff.2 ⟨(Bool.and_eq_true_iff.2 ⟨(Bool.and_eq_true_iff.2 ⟨(Bool.and_eq_true_iff.2 ⟨(Bool.and_eq_true_iff.2 ⟨(Bool.and_eq_true_iff.2 ⟨(Bool.and_eq_true_iff.2 ⟨(Bool.and_eq_true_iff.2 ⟨(Bool.and_eq_true_iff.2 ⟨(Bool.and_eq_true_iff.2 ⟨moves_fact0, moves_fact1⟩), moves_fact2⟩), moves_fact3⟩), moves_fact4⟩), moves_fact5⟩), moves_fact6⟩), moves_fact7⟩), moves_fact8⟩), moves_fact9⟩), moves_fact10⟩), moves_fact11⟩), moves_fact12⟩), moves_fact13⟩), moves_fact14⟩), moves_fact15⟩), moves_fact16⟩), moves_fact17⟩), moves_fact18⟩), moves_fact19⟩), moves_fact20⟩), moves_fact21⟩), moves_fact22⟩), moves_fact23⟩), moves_fact24⟩), moves_fact25⟩), moves_fact26⟩), moves_fact27⟩), moves_fact28⟩), moves_fact29⟩), moves_fact30⟩), moves_fact31⟩)

end Go.Proofs.YtmbbnhcbphkniaaGreatDoor
