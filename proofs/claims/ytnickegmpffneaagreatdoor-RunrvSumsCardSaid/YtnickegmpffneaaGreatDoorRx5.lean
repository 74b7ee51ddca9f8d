/-
  The document's Run of RV64, rows 32 to 39, evaluated: ori, andi, addiw, lb, lh, lw, ld, lbu. Conditions: none.
-/
import Derived.Test.YtnickegmpffneaaGreatDoorPk35
set_option linter.unusedVariables false
set_option linter.unusedSimpArgs false
namespace Go.Ra
open Go Go.Ab Go.Proofs
theorem ref_5 (ck:InsR→Int) (wd:Int→Int→Int × Int):(((rowsG wd).drop 32).take 8).map (gO ck wd)=(((rowsG wd).drop 32).take 8).map (gE ck):=by kernel_rfl
end Go.Ra
