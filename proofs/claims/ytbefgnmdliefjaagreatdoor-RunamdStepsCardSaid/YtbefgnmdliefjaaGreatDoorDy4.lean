/-
  runamd: Run, rows 24 to 31, evaluated: add.ri, or.ri, and.ri, sub.ri, xor.ri, cmp.ri, test.rr, imul.rr. Conditions: none.
-/
import Derived.Test.YtbefgnmdliefjaaGreatDoorPk16
set_option linter.unusedVariables false
set_option linter.unusedSimpArgs false
namespace Go.Ra
open Go Go.Ab Go.Proofs
theorem ah5 (mb:bZ->Bool):((iP.drop 24).take 8).map (rO mb)=((iP.drop 24).take 8).map (rE mb):=by kernel_rfl
end Go.Ra
