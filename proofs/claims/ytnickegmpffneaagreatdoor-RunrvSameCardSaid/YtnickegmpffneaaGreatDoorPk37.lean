/-
  runrv: Run, rows 40 to 47, evaluated: lhu, lwu, jalr, slli, srli, srai, slliw, srliw. Conditions: none.
-/
import Derived.Test.YtnickegmpffneaaGreatDoorPk33
set_option linter.unusedVariables false
set_option linter.unusedSimpArgs false
namespace Go.Ra
open Go Go.Ab Go.Proofs
theorem run_6 (mb:InsR→Bool):((rowsR.drop 40).take 8).map (rO mb)=((rowsR.drop 40).take 8).map (rE mb):=by kernel_rfl
end Go.Ra

namespace Go.Ra
open Go Go.Ab Go.Proofs
theorem run_7 (mb:InsR→Bool):((rowsR.drop 48).take 8).map (rO mb)=((rowsR.drop 48).take 8).map (rE mb):=by kernel_rfl
end Go.Ra

namespace Go.Ra
open Go Go.Ab Go.Proofs
theorem run_8 (mb:InsR→Bool):((rowsR.drop 56).take 8).map (rO mb)=((rowsR.drop 56).take 8).map (rE mb):=by kernel_rfl
end Go.Ra
