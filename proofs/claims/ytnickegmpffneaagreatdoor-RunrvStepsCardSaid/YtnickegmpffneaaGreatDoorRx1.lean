/-
  The document's Run of RV64, rows 0 to 7, evaluated: add, sub, sll, slt, sltu, xor, srl, sra. Conditions: none.
-/
import Derived.Test.YtnickegmpffneaaGreatDoorPk35
set_option linter.unusedVariables false
set_option linter.unusedSimpArgs false
namespace Go.Ra
open Go Go.Ab Go.Proofs
theorem ref_1 (ck:InsR→Int) (wd:Int→Int→Int × Int):(((rowsG wd).drop 0).take 8).map (gO ck wd)=(((rowsG wd).drop 0).take 8).map (gE ck):=by kernel_rfl
end Go.Ra
