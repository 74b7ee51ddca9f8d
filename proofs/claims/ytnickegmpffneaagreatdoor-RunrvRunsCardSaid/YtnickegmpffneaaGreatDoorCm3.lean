/-
  Words of compact's strings, evaluated: part 1. Conditions: none.
-/
import Derived.Test.YtnickegmpffneaaGreatDoorPk12
set_option linter.unusedVariables false
set_option linter.unusedSimpArgs false
namespace Go.Cmp
open Go Go.Ab Go.Proofs
theorem words_0:(partW 0).map wordsR=(partW 0).map wordsO:=by kernel_rfl
theorem words_1:(partW 1).map wordsR=(partW 1).map wordsO:=by kernel_rfl
theorem words_2:(partW 2).map wordsR=(partW 2).map wordsO:=by kernel_rfl
end Go.Cmp
