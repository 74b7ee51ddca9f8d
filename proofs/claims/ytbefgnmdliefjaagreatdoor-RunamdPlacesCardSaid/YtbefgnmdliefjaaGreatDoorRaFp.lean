/-
  RunamdPlaces: the closed facts of its row, one by one. Conditions: none.
-/
import Derived.Test.YtbefgnmdliefjaaGreatDoorRows
import Derived.JoinedOf
import Derived.KernelRfl
set_option linter.unusedVariables false
set_option linter.unusedSimpArgs false
namespace Go.Proofs.YtbefgnmdliefjaaGreatDoor
open Go
theorem places_fact0:(Rows.runamdPlacesRow.wf (OpenSpec.ofChange Rows.runamdPlacesSpec))=true:=by kernel_rfl
theorem places_fact1:(laidOutB Tryz.prog)=true:=by kernel_rfl
theorem places_fact2:(mapsRowed Tryz.prog)=true:=by kernel_rfl
theorem places_fact3:(Tryz.f4.params.all (Tryz.prog.readableRec ·))=true:=by kernel_rfl
theorem places_fact4:(namedTie Tryz.prog Rows.runamdPlacesRow.named Rows.runamdPlacesSpec.vars)=true:=by kernel_rfl
theorem places_fact5:((Rows.runamdPlacesRow.stops == []))=true:=by kernel_rfl
theorem places_fact6:((Tryz.prog.stops == []))=true:=by kernel_rfl
theorem places_fact7:((Rows.runamdPlacesRow.knobs == []))=true:=by kernel_rfl
theorem places_fact8:((Tryz.prog.stopKnobs == []))=true:=by kernel_rfl
theorem places_fact9:((Rows.runamdPlacesRow.inPlace == Tryz.prog.inPlace 4))=true:=by kernel_rfl
theorem places_fact10:((Rows.runamdPlacesRow.unfollowed == Tryz.prog.unfollowed 4))=true:=by kernel_rfl
theorem places_fact11:((Rows.runamdPlacesRow.recurses == Tryz.prog.recurses 4))=true:=by kernel_rfl
theorem places_fact12:((Rows.runamdPlacesRow.named == Tryz.prog.varsNamed 4))=true:=by kernel_rfl
theorem places_fact13:((Rows.runamdPlacesRow.maps == (Tryz.f4.params.toList++Rows.runamdPlacesSpec.plain.varTypes Tryz.prog).any (Tryz.prog.mapsRec ·)))=true:=by kernel_rfl
theorem places_fact14:((Rows.runamdPlacesRow.ifaces == (Tryz.f4.params.toList++Rows.runamdPlacesSpec.plain.varTypes Tryz.prog).any (Tryz.prog.ifacesRec ·)))=true:=by kernel_rfl
theorem places_fact15:((Rows.runamdPlacesRow.mapsOut == Tryz.prog.mapsAmong Tryz.f4.resultTypes.toList))=true:=by kernel_rfl
theorem places_fact16:((Rows.runamdPlacesRow.loops == (Tryz.f4.params.toList++Rows.runamdPlacesSpec.plain.varTypes Tryz.prog).any (Tryz.prog.loopsFrom ·)))=true:=by kernel_rfl
theorem places_fact17:((Rows.runamdPlacesRow.wideKeys == (Tryz.f4.params.toList++Rows.runamdPlacesSpec.plain.varTypes Tryz.prog++Tryz.f4.resultTypes.toList).any (Tryz.prog.wideKeysFrom ·)))=true:=by kernel_rfl
theorem places_fact18:(Rows.runamdPlacesSpec.vars.all (Tryz.prog.varReadable ·))=true:=by kernel_rfl
theorem places_fact19:(Tryz.f4.resultTypes.all (fun t=>Tryz.prog.readableRec t && decide (t<Tryz.prog.types.size)))=true:=by kernel_rfl
theorem places_fact20:((Rows.runamdPlacesRow.ifacesOut == Tryz.f4.resultTypes.toList.any (Tryz.prog.ifacesRec ·)))=true:=by kernel_rfl
theorem places_fact21:((Rows.runamdPlacesRow.loopsOut == Tryz.f4.resultTypes.toList.any (Tryz.prog.loopsFrom ·)))=true:=by kernel_rfl
theorem places_fact22:((Rows.runamdPlacesRow.plainKeys == Tryz.prog.plainKeys))=true:=by kernel_rfl
theorem places_fact23:(Rows.runamdPlacesRow.shortTexts.isNone)=true:=by kernel_rfl
theorem places_fact24:(Tryz.prog.stopsHeard)=true:=by kernel_rfl
theorem places_fact25:(Tryz.prog.mayEnter)=true:=by kernel_rfl
theorem places_fact26:((Rows.runamdPlacesRow.lifted == Tryz.prog.liftsFinal))=true:=by kernel_rfl
theorem places_fact27:((Tryz.prog.make == some Rows.runamdPlacesRow.make))=true:=by kernel_rfl
theorem places_fact28:((Rows.runamdPlacesRow.kinds == (if Rows.runamdPlacesRow.domain.isEmpty then [] else Tryz.f4.params.toList.map fun t=>match Tryz.prog.underlying t with | some (.int k)=>some k | _=>none)))=true:=by kernel_rfl
theorem places_fact29:((Rows.runamdPlacesRow.pinned == Rows.runamdPlacesRow.pinnedBy))=true:=by kernel_rfl
theorem places_fact30:((Rows.runamdPlacesRow.veiled == (Tryz.f4.params.toList++Rows.runamdPlacesSpec.plain.varTypes Tryz.prog++Tryz.f4.resultTypes.toList).any (Tryz.prog.veiledRec ·)))=true:=by kernel_rfl
theorem places_fact31:(Rows.runamdPlacesRow.veiledFits Tryz.prog Tryz.f4.params.toList (Tryz.f4.params.toList++Rows.runamdPlacesSpec.plain.varTypes Tryz.prog++Tryz.f4.resultTypes.toList))=true:=by kernel_rfl
set_option maxRecDepth 100000 in
theorem places_facts:joinedFacts Tryz.prog 4 Tryz.f4 Rows.runamdPlacesSpec Rows.runamdPlacesRow=true:=
 (Bool.and_eq_true_iff.2 ⟨(Bool.and_eq_true_iff.2 ⟨(Bool.and_eq_true_iff.2 ⟨(Bool.and_eq_true_iff.2 ⟨(Bool.and_eq_true_iff.2 ⟨(Bool.and_eq_true_iff.2 ⟨(Bool.and_eq_true_iff.2 ⟨(Bool.and_eq_true_iff.2 ⟨(Bool.and_eq_true_iff.2 ⟨(Bool.and_eq_true_iff.2 ⟨(Bool.and_eq_true_iff.2 ⟨(Bool.and_eq_true_iff.2 ⟨(Bool.and_eq_true_iff.2 ⟨(Bool.and_eq_true_iff.2 ⟨(Bool.and_eq_true_iff.2 ⟨(Bool.and_eq_true_iff.2 ⟨(Bool.and_eq_true_iff.2 ⟨(Bool.and_eq_true_iff.2 ⟨(Bool.and_eq_true_iff.2 ⟨(Bool.and_eq_true_iff.2 ⟨(Bool.and_eq_true_iff.2 ⟨(Bool.and_eq_true_iff.2 ⟨(Bool.and_eq_true_iff.2 ⟨(Bool.and_eq_true_iff.2 ⟨(Bool.and_eq_true_iff.2 ⟨(Bool.and_eq_true_iff.2 ⟨(Bool.and_eq_true_iff.2 ⟨(Bool.and_eq_true_iff.2 ⟨(Bool.and_eq_true_iff.2 ⟨(Bool.and_eq_true_iff.2 ⟨(Bool.and_eq_true_iff.2 ⟨places_fact0,places_fact1⟩),places_fact2⟩),places_fact3⟩),places_fact4⟩),places_fact5⟩),places_fact6⟩),places_fact7⟩),places_fact8⟩),places_fact9⟩),places_fact10⟩),places_fact11⟩),places_fact12⟩),places_fact13⟩),places_fact14⟩),places_fact15⟩),places_fact16⟩),places_fact17⟩),places_fact18⟩),places_fact19⟩),places_fact20⟩),places_fact21⟩),places_fact22⟩),places_fact23⟩),places_fact24⟩),places_fact25⟩),places_fact26⟩),places_fact27⟩),places_fact28⟩),places_fact29⟩),places_fact30⟩),places_fact31⟩)
end Go.Proofs.YtbefgnmdliefjaaGreatDoor
