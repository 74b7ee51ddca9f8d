/-
  runamd: Run, rows 40 to 47, evaluated: sar.ri, shl.rc, shr.rc, sar.rc, cmov, push, pop, call. Conditions: none.
-/
import Derived.Test.YtbefgnmdliefjaaGreatDoorPk16
set_option linter.unusedVariables false
set_option linter.unusedSimpArgs false
namespace Go.Ra
open Go Go.Ab Go.Proofs
theorem ajE (mb:bZ->Bool):((iP.drop 40).take 8).map (rO mb)=((iP.drop 40).take 8).map (rE mb):=by kernel_rfl
end Go.Ra
