/-
  The document's Run of x86-64, rows 32 to 39, evaluated: not, neg, mul, div, idiv, cqo, shl.ri, shr.ri. Conditions: none.
-/
import Derived.Test.YtbefgnmdliefjaaGreatDoorPk18
set_option linter.unusedVariables false
set_option linter.unusedSimpArgs false
namespace Go.Ra
open Go Go.Ab Go.Proofs
theorem ai2 (c:bZ->Int) (b:Int->Int->Int × Int) (a:Int->Int->Int->Int × Int):(((iR b a).drop 32).take 8).map (gO c b a)=(((iR b a).drop 32).take 8).map (gE c):=by kernel_rfl
end Go.Ra
