/-
  runamd: Run, rows 48 to 55, evaluated: jmp, jmp.s, call.r, jmp.r, jcc, jcc.s, ret, syscall. Conditions: none.
-/
import Derived.Test.YtbefgnmdliefjaaGreatDoorPk16
set_option linter.unusedVariables false
set_option linter.unusedSimpArgs false
namespace Go.Ra
open Go Go.Ab Go.Proofs
theorem ajP (mb:bZ->Bool):((iP.drop 48).take 8).map (rO mb)=((iP.drop 48).take 8).map (rE mb):=by kernel_rfl
end Go.Ra
