/-
  runamd: Run, rows 56 to 57, evaluated: nop, ud2. Conditions: none.
-/
import Derived.Test.YtbefgnmdliefjaaGreatDoorPk16
set_option linter.unusedVariables false
set_option linter.unusedSimpArgs false
namespace Go.Ra
open Go Go.Ab Go.Proofs
theorem ah9 (mb:bZ->Bool):((iP.drop 56).take 8).map (rO mb)=((iP.drop 56).take 8).map (rE mb):=by kernel_rfl
end Go.Ra
