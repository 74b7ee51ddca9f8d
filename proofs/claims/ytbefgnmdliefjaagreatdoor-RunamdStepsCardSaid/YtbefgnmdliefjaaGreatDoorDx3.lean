/-
  The document's Run of x86-64, rows 16 to 23, evaluated: xor.rr, cmp.rr, add.rm, or.rm, and.rm, sub.rm, xor.rm, cmp.rm. Conditions: none.
-/
import Derived.Test.YtbefgnmdliefjaaGreatDoorPk18
set_option linter.unusedVariables false
set_option linter.unusedSimpArgs false
namespace Go.Ra
open Go Go.Ab Go.Proofs
theorem agI (c:bZ->Int) (b:Int->Int->Int × Int) (a:Int->Int->Int->Int × Int):(((iR b a).drop 16).take 8).map (gO c b a)=(((iR b a).drop 16).take 8).map (gE c):=by kernel_rfl
end Go.Ra
