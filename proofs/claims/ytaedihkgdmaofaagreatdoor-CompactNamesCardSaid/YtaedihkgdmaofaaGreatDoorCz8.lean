/-
  What compact's rows bar. Conditions: none.
-/
import Derived.Test.YtaedihkgdmaofaaGreatDoorCz6
namespace Go.Cmp
open Go Go.Ab Go.Proofs

/-- Whether a text has a letter. -/
def conL : List (List UInt8 × List UInt8 × Bool) := [
  ([], [65], false),
  ([], [66], false),
  ([], [67], false),
  ([], [50], false),
  ([], [115], false),
  ([115, 65], [65], true),
  ([115, 65], [66], false),
  ([115, 65], [67], false),
  ([115, 65], [50], false),
  ([115, 65], [115], true),
  ([65], [65], true),
  ([65], [66], false),
  ([65], [67], false),
  ([65], [50], false),
  ([65], [115], false),
  ([115], [65], false),
  ([115], [66], false),
  ([115], [67], false),
  ([115], [50], false),
  ([115], [115], true),
  ([115, 65, 50], [65], true),
  ([115, 65, 50], [66], false),
  ([115, 65, 50], [67], false),
  ([115, 65, 50], [50], true),
  ([115, 65, 50], [115], true),
  ([66], [65], false),
  ([66], [66], true),
  ([66], [67], false),
  ([66], [50], false),
  ([66], [115], false),
  ([65, 67], [65], true),
  ([65, 67], [66], false),
  ([65, 67], [67], true),
  ([65, 67], [50], false),
  ([65, 67], [115], false)]
noncomputable def conR (p : List UInt8 × List UInt8 × Bool) : Option V := (dfun (cxL Tryz.f50.ntmps [0, 1, 4]) Tryz.f50 [.str p.1, .str p.2.1]).run
def conO (p : List UInt8 × List UInt8 × Bool) : Option V := some (.bool p.2.2)
theorem con_all : conL.map conR = conL.map conO := by kernel_rfl

end Go.Cmp
