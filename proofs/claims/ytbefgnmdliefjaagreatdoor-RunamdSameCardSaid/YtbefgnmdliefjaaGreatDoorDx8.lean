/-
  The document's Run of x86-64, rows 56 to 57, evaluated: nop, ud2. Conditions: none.
-/
import Derived.Test.YtbefgnmdliefjaaGreatDoorPk18
set_option linter.unusedVariables false
set_option linter.unusedSimpArgs false
namespace Go.Ra
open Go Go.Ab Go.Proofs
theorem ref_8 (ck:InsR→Int) (wd:Int→Int→Int × Int) (lg:Int→Int→Int→Int × Int):(((rowsG wd lg).drop 56).take 8).map (gO ck wd lg)=(((rowsG wd lg).drop 56).take 8).map (gE ck):=by kernel_rfl
end Go.Ra
