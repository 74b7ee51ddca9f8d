/-
  The document's Run of x86-64, rows 56 to 57, evaluated: nop, ud2. Conditions: none.
-/
import Derived.Test.YtbefgnmdliefjaaGreatDoorPk18
set_option linter.unusedVariables false
set_option linter.unusedSimpArgs false
namespace Go.Ra
open Go Go.Ab Go.Proofs
theorem agQ (c:bZ->Int) (b:Int->Int->Int × Int) (a:Int->Int->Int->Int × Int):(((iR b a).drop 56).take 8).map (gO c b a)=(((iR b a).drop 56).take 8).map (gE c):=by kernel_rfl
end Go.Ra
