/-
  Words of compact's strings, evaluated: part 3. Conditions: none.
-/
import Derived.Test.YtnickegmpffneaaGreatDoorPk12
set_option linter.unusedVariables false
set_option linter.unusedSimpArgs false
namespace Go.Cmp
open Go Go.Ab Go.Proofs
theorem words_6:(partW 6).map wordsR=(partW 6).map wordsO:=by kernel_rfl
theorem words_7:(partW 7).map wordsR=(partW 7).map wordsO:=by kernel_rfl
theorem words_8:(partW 8).map wordsR=(partW 8).map wordsO:=by kernel_rfl
end Go.Cmp
