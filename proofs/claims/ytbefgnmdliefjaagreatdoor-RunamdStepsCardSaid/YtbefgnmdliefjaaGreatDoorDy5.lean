/-
  runamd: Run, rows 32 to 39, evaluated: not, neg, mul, div, idiv, cqo, shl.ri, shr.ri. Conditions: none.
-/
import Derived.Test.YtbefgnmdliefjaaGreatDoorPk16
set_option linter.unusedVariables false
set_option linter.unusedSimpArgs false
namespace Go.Ra
open Go Go.Ab Go.Proofs
theorem ajD (mb:bZ->Bool):((iP.drop 32).take 8).map (rO mb)=((iP.drop 32).take 8).map (rE mb):=by kernel_rfl
end Go.Ra
