/-
  The document's Run of x86-64, rows 8 to 15, evaluated: mov.mr, movl.mr, movb.mr, mov.fs, add.rr, or.rr, and.rr, sub.rr. Conditions: none.
-/
import Derived.Test.YtbefgnmdliefjaaGreatDoorPk18
set_option linter.unusedVariables false
set_option linter.unusedSimpArgs false
namespace Go.Ra
open Go Go.Ab Go.Proofs
theorem aiA (c:bZ->Int) (b:Int->Int->Int × Int) (a:Int->Int->Int->Int × Int):(((iR b a).drop 8).take 8).map (gO c b a)=(((iR b a).drop 8).take 8).map (gE c):=by kernel_rfl
end Go.Ra
