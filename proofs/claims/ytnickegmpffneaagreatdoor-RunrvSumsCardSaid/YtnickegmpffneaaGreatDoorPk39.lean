/-
  The document's Run of RV64, rows 8 to 15, evaluated: or, and, mul, mulh, mulhsu, mulhu, div, divu. Conditions: none.
-/
import Derived.Test.YtnickegmpffneaaGreatDoorPk35
set_option linter.unusedVariables false
set_option linter.unusedSimpArgs false
namespace Go.Ra
open Go Go.Ab Go.Proofs
theorem ref_2 (ck:InsR→Int) (wd:Int→Int→Int × Int):(((rowsG wd).drop 8).take 8).map (gO ck wd)=(((rowsG wd).drop 8).take 8).map (gE ck):=by kernel_rfl
end Go.Ra

namespace Go.Ra
open Go Go.Ab Go.Proofs
theorem ref_3 (ck:InsR→Int) (wd:Int→Int→Int × Int):(((rowsG wd).drop 16).take 8).map (gO ck wd)=(((rowsG wd).drop 16).take 8).map (gE ck):=by kernel_rfl
end Go.Ra

namespace Go.Ra
open Go Go.Ab Go.Proofs
theorem ref_4 (ck:InsR→Int) (wd:Int→Int→Int × Int):(((rowsG wd).drop 24).take 8).map (gO ck wd)=(((rowsG wd).drop 24).take 8).map (gE ck):=by kernel_rfl
end Go.Ra
