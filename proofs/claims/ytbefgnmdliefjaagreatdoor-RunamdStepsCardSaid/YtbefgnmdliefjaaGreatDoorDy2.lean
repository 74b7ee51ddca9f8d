/-
  runamd: Run, rows 8 to 15, evaluated: mov.mr, movl.mr, movb.mr, mov.fs, add.rr, or.rr, and.rr, sub.rr. Conditions: none.
-/
import Derived.Test.YtbefgnmdliefjaaGreatDoorPk16
set_option linter.unusedVariables false
set_option linter.unusedSimpArgs false
namespace Go.Ra
open Go Go.Ab Go.Proofs
theorem aiM (mb:bZ->Bool):((iP.drop 8).take 8).map (rO mb)=((iP.drop 8).take 8).map (rE mb):=by kernel_rfl
end Go.Ra
