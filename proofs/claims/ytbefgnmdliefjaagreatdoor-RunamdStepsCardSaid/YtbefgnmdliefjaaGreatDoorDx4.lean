/-
  The document's Run of x86-64, rows 24 to 31, evaluated: add.ri, or.ri, and.ri, sub.ri, xor.ri, cmp.ri, test.rr, imul.rr. Conditions: none.
-/
import Derived.Test.YtbefgnmdliefjaaGreatDoorPk18
set_option linter.unusedVariables false
set_option linter.unusedSimpArgs false
namespace Go.Ra
open Go Go.Ab Go.Proofs
theorem afT (c:bZ->Int) (b:Int->Int->Int × Int) (a:Int->Int->Int->Int × Int):(((iR b a).drop 24).take 8).map (gO c b a)=(((iR b a).drop 24).take 8).map (gE c):=by kernel_rfl
end Go.Ra
