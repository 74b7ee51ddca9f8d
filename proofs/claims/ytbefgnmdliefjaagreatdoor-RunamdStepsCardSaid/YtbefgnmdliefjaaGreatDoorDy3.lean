/-
  runamd: Run, rows 16 to 23, evaluated: xor.rr, cmp.rr, add.rm, or.rm, and.rm, sub.rm, xor.rm, cmp.rm. Conditions: none.
-/
import Derived.Test.YtbefgnmdliefjaaGreatDoorPk16
set_option linter.unusedVariables false
set_option linter.unusedSimpArgs false
namespace Go.Ra
open Go Go.Ab Go.Proofs
theorem ahZ (mb:bZ->Bool):((iP.drop 16).take 8).map (rO mb)=((iP.drop 16).take 8).map (rE mb):=by kernel_rfl
end Go.Ra
