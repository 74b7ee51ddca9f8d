/-
  Words of compact's strings, evaluated: part 2. Conditions: none.
-/
import Derived.Test.YtnickegmpffneaaGreatDoorPk12
set_option linter.unusedVariables false
set_option linter.unusedSimpArgs false
namespace Go.Cmp
open Go Go.Ab Go.Proofs
theorem words_3:(partW 3).map wordsR=(partW 3).map wordsO:=by kernel_rfl
theorem words_4:(partW 4).map wordsR=(partW 4).map wordsO:=by kernel_rfl
theorem words_5:(partW 5).map wordsR=(partW 5).map wordsO:=by kernel_rfl
end Go.Cmp
