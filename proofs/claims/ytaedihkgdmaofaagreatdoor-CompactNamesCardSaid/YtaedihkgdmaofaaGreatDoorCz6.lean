/-
  Cuts and numbers of compact's strings. Conditions: none.
-/
import Derived.Test.YtaedihkgdmaofaaGreatDoorCz2
namespace Go.Cmp
open Go Go.Ab Go.Proofs

/-- Strings cut at a colon. -/
def cutsL : List (List UInt8 × List UInt8 × List UInt8 × Bool) := [
  ([53, 58, 52], [53], [52], true),
  ([57, 58, 54], [57], [54], true),
  ([50], [50], [], false),
  ([51], [51], [], false),
  ([53, 58, 51], [53], [51], true),
  ([54], [54], [], false),
  ([55, 58, 54], [55], [54], true),
  ([53], [53], [], false),
  ([52, 58, 48], [52], [48], true),
  ([57], [57], [], false),
  ([52], [52], [], false),
  ([56, 58, 55], [56], [55], true),
  ([49, 49], [49, 49], [], false),
  ([57, 58, 56], [57], [56], true),
  ([49, 48], [49, 48], [], false),
  ([55], [55], [], false),
  ([51, 58, 49], [51], [49], true),
  ([56], [56], [], false),
  ([52, 58, 51], [52], [51], true),
  ([50, 58, 49], [50], [49], true),
  ([52, 58, 50], [52], [50], true),
  ([56, 58, 54], [56], [54], true),
  ([53, 58, 50], [53], [50], true)]
/-- Strings as numbers. -/
def atoiL : List (List UInt8 × Int) := [
  ([53], 5),
  ([52], 4),
  ([57], 9),
  ([54], 6),
  ([50], 2),
  ([], 0),
  ([51], 3),
  ([55], 7),
  ([48], 0),
  ([56], 8),
  ([49, 49], 11),
  ([49, 48], 10),
  ([49], 1)]
/-- Strings of ones and noughts as numbers. -/
def numsL : List (List UInt8 × Int) := [
  ([48, 48, 48], 0),
  ([48, 48], 0),
  ([48, 49, 48], 2),
  ([48, 49, 49], 3),
  ([49, 49, 48], 6),
  ([49, 49, 49], 7),
  ([48], 0),
  ([48, 48, 48, 48, 48], 0),
  ([48, 49], 1),
  ([48, 48, 49], 1),
  ([48, 48, 48, 49, 48], 2),
  ([49, 48, 48], 4),
  ([49, 48], 2),
  ([49, 49], 3),
  ([49], 1),
  ([49, 48, 49], 5)]

noncomputable def cxL (n : Nat) (ks : List Nat) : Cx := { P := Tryz.prog, n := n, tab := (libT 8).tab, mtab := [], refs := [], keeps := ks, fuel := 20, globs := globsL }
theorem cxL_ok (n : Nat) (ks : List Nat) : CxOk (cxL n ks) := ⟨(libT_ok 8).1, (fun p h => by cases h), .nil _, globs_ok⟩
noncomputable def cutR (p : List UInt8 × List UInt8 × List UInt8 × Bool) : Option V := (dfun (cxL Tryz.f37.ntmps [0, 1, 4, 5, 6]) Tryz.f37 [.str p.1, .str [58]]).run
def cutO (p : List UInt8 × List UInt8 × List UInt8 × Bool) : Option V := some (.tup [.str p.2.1, .str p.2.2.1, .bool p.2.2.2])
theorem cuts_all : cutsL.map cutR = cutsL.map cutO := by kernel_rfl
noncomputable def atoiR (p : List UInt8 × Int) : Option V := (dfun (cxL Tryz.f38.ntmps [0, 2, 3, 4, 5, 12]) Tryz.f38 [.str p.1]).run
noncomputable def numsR (p : List UInt8 × Int) : Option V := (dfun (cxL Tryz.f39.ntmps [0, 1, 2, 6, 7, 8, 9, 18]) Tryz.f39 [.str p.1, .int .i64 2, .int .i64 16]).run
def nilI : V := .val .nilIface
def atoiO (p : List UInt8 × Int) : Option V := some (.tup [.int .i64 p.2, cond p.1.isEmpty (.ifc 125 .any) nilI])
def numsO (p : List UInt8 × Int) : Option V := some (.tup [.int .u64 p.2, nilI])
theorem atoi_all : atoiL.map atoiR = atoiL.map atoiO := by kernel_rfl
theorem nums_all : numsL.map numsR = numsL.map numsO := by kernel_rfl

end Go.Cmp
