/-
  The document's Run of x86-64, rows 24 to 31, evaluated: add.ri, or.ri, and.ri, sub.ri, xor.ri, cmp.ri, test.rr, imul.rr. Conditions: none.
-/
import Derived.Test.YtbefgnmdliefjaaGreatDoorPk18
set_option linter.unusedVariables false
set_option linter.unusedSimpArgs false
namespace Go.Ra
open Go Go.Ab Go.Proofs
theorem ref_4 (ck:InsR→Int) (wd:Int→Int→Int × Int) (lg:Int→Int→Int→Int × Int):(((rowsG wd lg).drop 24).take 8).map (gO ck wd lg)=(((rowsG wd lg).drop 24).take 8).map (gE ck):=by kernel_rfl
end Go.Ra
