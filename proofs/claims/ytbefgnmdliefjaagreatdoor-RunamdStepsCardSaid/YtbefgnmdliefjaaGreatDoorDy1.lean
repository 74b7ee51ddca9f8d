/-
  runamd: Run, rows 0 to 7, evaluated: mov.rr, mov.ri, mov.rs, mov.rm, movl.rm, movsl.rm, movzb.rm, lea. Conditions: none.
-/
import Derived.Test.YtbefgnmdliefjaaGreatDoorPk16
set_option linter.unusedVariables false
set_option linter.unusedSimpArgs false
namespace Go.Ra
open Go Go.Ab Go.Proofs
theorem agZ (mb:bZ->Bool):((iP.drop 0).take 8).map (rO mb)=((iP.drop 0).take 8).map (rE mb):=by kernel_rfl
end Go.Ra
