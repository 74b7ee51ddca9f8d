/-
  compact's table. Conditions: none.
-/
import Derived.Test.YtaedihkgdmaofaaGreatDoorBbYe
import Derived.Test.YtaedihkgdmaofaaGreatDoorProg
namespace Go.Cmp
open Go Go.Ab Go.Proofs

theorem cx0_ok {cx : Cx} (h1 : cx.tab = []) (h2 : cx.mtab = []) (h3 : cx.rtab = [] := by rfl) (h4 : ∀ p ∈ cx.globs, p ∈ globsOf cx.P := by intro p h; cases h) : CxOk cx := by
  refine ⟨?_, ?_, ?_, h4⟩
  · rw [h1]; exact .nil _
  · rw [h2]; intro p h; cases h
  · rw [h3]; exact .nil _
theorem cx1_ok {cx : Cx} {t : List (Nat × Ab.Spec)} {m : List (Nat × MSpec)} (ht : TabOk cx.P t) (hm : MTabOk cx.P m) (h1 : cx.tab = t) (h2 : cx.mtab = m) (h3 : cx.rtab = [] := by rfl) (h4 : ∀ p ∈ cx.globs, p ∈ globsOf cx.P := by intro p h; cases h) : CxOk cx := by
  refine ⟨?_, ?_, ?_, h4⟩
  · rw [h1]; exact ht
  · rw [h2]; exact hm
  · rw [h3]; exact .nil _
theorem ok1 {P : Program} {f : Nat} {s : Ab.Spec} (h : Sound P f s) : TabOk P [(f, s)] := .cons h (.nil _)
theorem tabs_ok {P : Program} {t : List (Nat × Ab.Spec)} {m : List (Nat × MSpec)} (ht : TabOk P t) (hm : MTabOk P m) : Tabs.Ok P { tab := t, mtab := m } := ⟨ht, hm, .nil _, fun p h => by cases h⟩

abbrev RowT := List UInt8 × List UInt8 × Int × Int × Int × List UInt8 × List UInt8
abbrev rowE : EC := .prod [.str, .str, .int .i64, .int .i64, .int .i64, .str, .str]
abbrev insE : EC := .prod [.str, .int .i64, .int .i64, .int .i64, .int .i64, .int .i64]
abbrev InsT := List UInt8 × Int × Int × Int × Int × Int
abbrev rowL (x : RowT) : List V := [.str x.1, .str x.2.1, .int .i64 x.2.2.1, .int .i64 x.2.2.2.1, .int .i64 x.2.2.2.2.1, .str x.2.2.2.2.2.1, .str x.2.2.2.2.2.2]
abbrev insL (i : InsT) : List V := [.str i.1, .int .i64 i.2.1, .int .i64 i.2.2.1, .int .i64 i.2.2.2.1, .int .i64 i.2.2.2.2.1, .int .i64 i.2.2.2.2.2]
abbrev insV (i : InsT) : V := .agg (insL i)
/-- The table, as it is written. -/
def rowsL : List RowT := [
  ([99, 46, 97, 100, 100, 105, 52, 115, 112, 110], [48, 48, 48, 32, 115, 91, 53, 58, 52, 93, 32, 115, 91, 57, 58, 54, 93, 32, 115, 91, 50, 93, 32, 115, 91, 51, 93, 32, 97, 39, 32, 48, 48], 4, 1020, 4, [], [97, 100, 100, 105, 32, 65, 32, 50, 32, 48, 32, 115]),
  ([99, 46, 108, 119], [48, 49, 48, 32, 115, 91, 53, 58, 51, 93, 32, 98, 39, 32, 115, 91, 50, 93, 32, 115, 91, 54, 93, 32, 97, 39, 32, 48, 48], 0, 124, 4, [], [108, 119, 32, 65, 32, 66, 32, 48, 32, 115]),
  ([99, 46, 108, 100], [48, 49, 49, 32, 115, 91, 53, 58, 51, 93, 32, 98, 39, 32, 115, 91, 55, 58, 54, 93, 32, 97, 39, 32, 48, 48], 0, 248, 8, [], [108, 100, 32, 65, 32, 66, 32, 48, 32, 115]),
  ([99, 46, 115, 119], [49, 49, 48, 32, 115, 91, 53, 58, 51, 93, 32, 98, 39, 32, 115, 91, 50, 93, 32, 115, 91, 54, 93, 32, 99, 39, 32, 48, 48], 0, 124, 4, [], [115, 119, 32, 48, 32, 66, 32, 67, 32, 115]),
  ([99, 46, 115, 100], [49, 49, 49, 32, 115, 91, 53, 58, 51, 93, 32, 98, 39, 32, 115, 91, 55, 58, 54, 93, 32, 99, 39, 32, 48, 48], 0, 248, 8, [], [115, 100, 32, 48, 32, 66, 32, 67, 32, 115]),
  ([99, 46, 110, 111, 112], [48, 48, 48, 32, 48, 32, 48, 48, 48, 48, 48, 32, 48, 48, 48, 48, 48, 32, 48, 49], 0, 0, 1, [], [97, 100, 100, 105, 32, 48, 32, 48, 32, 48, 32, 48]),
  ([99, 46, 97, 100, 100, 105], [48, 48, 48, 32, 115, 91, 53, 93, 32, 97, 32, 115, 91, 52, 58, 48, 93, 32, 48, 49], -32, 31, 1, [115, 65], [97, 100, 100, 105, 32, 65, 32, 65, 32, 48, 32, 115]),
  ([99, 46, 97, 100, 100, 105, 119], [48, 48, 49, 32, 115, 91, 53, 93, 32, 97, 32, 115, 91, 52, 58, 48, 93, 32, 48, 49], -32, 31, 1, [65], [97, 100, 100, 105, 119, 32, 65, 32, 65, 32, 48, 32, 115]),
  ([99, 46, 108, 105], [48, 49, 48, 32, 115, 91, 53, 93, 32, 97, 32, 115, 91, 52, 58, 48, 93, 32, 48, 49], -32, 31, 1, [65], [97, 100, 100, 105, 32, 65, 32, 48, 32, 48, 32, 115]),
  ([99, 46, 97, 100, 100, 105, 49, 54, 115, 112], [48, 49, 49, 32, 115, 91, 57, 93, 32, 48, 48, 48, 49, 48, 32, 115, 91, 52, 93, 32, 115, 91, 54, 93, 32, 115, 91, 56, 58, 55, 93, 32, 115, 91, 53, 93, 32, 48, 49], -512, 496, 16, [115], [97, 100, 100, 105, 32, 50, 32, 50, 32, 48, 32, 115]),
  ([99, 46, 108, 117, 105], [48, 49, 49, 32, 115, 91, 53, 93, 32, 97, 32, 115, 91, 52, 58, 48, 93, 32, 48, 49], -32, 31, 1, [115, 65, 50], [108, 117, 105, 32, 65, 32, 48, 32, 48, 32, 115]),
  ([99, 46, 115, 114, 108, 105], [49, 48, 48, 32, 115, 91, 53, 93, 32, 48, 48, 32, 97, 39, 32, 115, 91, 52, 58, 48, 93, 32, 48, 49], 1, 63, 1, [], [115, 114, 108, 105, 32, 65, 32, 65, 32, 48, 32, 115]),
  ([99, 46, 115, 114, 97, 105], [49, 48, 48, 32, 115, 91, 53, 93, 32, 48, 49, 32, 97, 39, 32, 115, 91, 52, 58, 48, 93, 32, 48, 49], 1, 63, 1, [], [115, 114, 97, 105, 32, 65, 32, 65, 32, 48, 32, 115]),
  ([99, 46, 97, 110, 100, 105], [49, 48, 48, 32, 115, 91, 53, 93, 32, 49, 48, 32, 97, 39, 32, 115, 91, 52, 58, 48, 93, 32, 48, 49], -32, 31, 1, [], [97, 110, 100, 105, 32, 65, 32, 65, 32, 48, 32, 115]),
  ([99, 46, 115, 117, 98], [49, 48, 48, 32, 48, 32, 49, 49, 32, 97, 39, 32, 48, 48, 32, 99, 39, 32, 48, 49], 0, 0, 1, [], [115, 117, 98, 32, 65, 32, 65, 32, 67, 32, 48]),
  ([99, 46, 120, 111, 114], [49, 48, 48, 32, 48, 32, 49, 49, 32, 97, 39, 32, 48, 49, 32, 99, 39, 32, 48, 49], 0, 0, 1, [], [120, 111, 114, 32, 65, 32, 65, 32, 67, 32, 48]),
  ([99, 46, 111, 114], [49, 48, 48, 32, 48, 32, 49, 49, 32, 97, 39, 32, 49, 48, 32, 99, 39, 32, 48, 49], 0, 0, 1, [], [111, 114, 32, 65, 32, 65, 32, 67, 32, 48]),
  ([99, 46, 97, 110, 100], [49, 48, 48, 32, 48, 32, 49, 49, 32, 97, 39, 32, 49, 49, 32, 99, 39, 32, 48, 49], 0, 0, 1, [], [97, 110, 100, 32, 65, 32, 65, 32, 67, 32, 48]),
  ([99, 46, 115, 117, 98, 119], [49, 48, 48, 32, 49, 32, 49, 49, 32, 97, 39, 32, 48, 48, 32, 99, 39, 32, 48, 49], 0, 0, 1, [], [115, 117, 98, 119, 32, 65, 32, 65, 32, 67, 32, 48]),
  ([99, 46, 97, 100, 100, 119], [49, 48, 48, 32, 49, 32, 49, 49, 32, 97, 39, 32, 48, 49, 32, 99, 39, 32, 48, 49], 0, 0, 1, [], [97, 100, 100, 119, 32, 65, 32, 65, 32, 67, 32, 48]),
  ([99, 46, 106], [49, 48, 49, 32, 115, 91, 49, 49, 93, 32, 115, 91, 52, 93, 32, 115, 91, 57, 58, 56, 93, 32, 115, 91, 49, 48, 93, 32, 115, 91, 54, 93, 32, 115, 91, 55, 93, 32, 115, 91, 51, 58, 49, 93, 32, 115, 91, 53, 93, 32, 48, 49], -2048, 2046, 2, [], [106, 97, 108, 32, 48, 32, 48, 32, 48, 32, 115]),
  ([99, 46, 98, 101, 113, 122], [49, 49, 48, 32, 115, 91, 56, 93, 32, 115, 91, 52, 58, 51, 93, 32, 98, 39, 32, 115, 91, 55, 58, 54, 93, 32, 115, 91, 50, 58, 49, 93, 32, 115, 91, 53, 93, 32, 48, 49], -256, 254, 2, [], [98, 101, 113, 32, 48, 32, 66, 32, 48, 32, 115]),
  ([99, 46, 98, 110, 101, 122], [49, 49, 49, 32, 115, 91, 56, 93, 32, 115, 91, 52, 58, 51, 93, 32, 98, 39, 32, 115, 91, 55, 58, 54, 93, 32, 115, 91, 50, 58, 49, 93, 32, 115, 91, 53, 93, 32, 48, 49], -256, 254, 2, [], [98, 110, 101, 32, 48, 32, 66, 32, 48, 32, 115]),
  ([99, 46, 115, 108, 108, 105], [48, 48, 48, 32, 115, 91, 53, 93, 32, 97, 32, 115, 91, 52, 58, 48, 93, 32, 49, 48], 1, 63, 1, [65], [115, 108, 108, 105, 32, 65, 32, 65, 32, 48, 32, 115]),
  ([99, 46, 108, 119, 115, 112], [48, 49, 48, 32, 115, 91, 53, 93, 32, 97, 32, 115, 91, 52, 58, 50, 93, 32, 115, 91, 55, 58, 54, 93, 32, 49, 48], 0, 252, 4, [65], [108, 119, 32, 65, 32, 50, 32, 48, 32, 115]),
  ([99, 46, 108, 100, 115, 112], [48, 49, 49, 32, 115, 91, 53, 93, 32, 97, 32, 115, 91, 52, 58, 51, 93, 32, 115, 91, 56, 58, 54, 93, 32, 49, 48], 0, 504, 8, [65], [108, 100, 32, 65, 32, 50, 32, 48, 32, 115]),
  ([99, 46, 106, 114], [49, 48, 48, 32, 48, 32, 98, 32, 48, 48, 48, 48, 48, 32, 49, 48], 0, 0, 1, [66], [106, 97, 108, 114, 32, 48, 32, 66, 32, 48, 32, 48]),
  ([99, 46, 106, 97, 108, 114], [49, 48, 48, 32, 49, 32, 98, 32, 48, 48, 48, 48, 48, 32, 49, 48], 0, 0, 1, [66], [106, 97, 108, 114, 32, 49, 32, 66, 32, 48, 32, 48]),
  ([99, 46, 109, 118], [49, 48, 48, 32, 48, 32, 97, 32, 99, 32, 49, 48], 0, 0, 1, [65, 67], [97, 100, 100, 32, 65, 32, 48, 32, 67, 32, 48]),
  ([99, 46, 97, 100, 100], [49, 48, 48, 32, 49, 32, 97, 32, 99, 32, 49, 48], 0, 0, 1, [65, 67], [97, 100, 100, 32, 65, 32, 65, 32, 67, 32, 48]),
  ([99, 46, 101, 98, 114, 101, 97, 107], [49, 48, 48, 32, 49, 32, 48, 48, 48, 48, 48, 32, 48, 48, 48, 48, 48, 32, 49, 48], 0, 0, 1, [], [101, 98, 114, 101, 97, 107, 32, 48, 32, 48, 32, 48, 32, 48]),
  ([99, 46, 115, 119, 115, 112], [49, 49, 48, 32, 115, 91, 53, 58, 50, 93, 32, 115, 91, 55, 58, 54, 93, 32, 99, 32, 49, 48], 0, 252, 4, [], [115, 119, 32, 48, 32, 50, 32, 67, 32, 115]),
  ([99, 46, 115, 100, 115, 112], [49, 49, 49, 32, 115, 91, 53, 58, 51, 93, 32, 115, 91, 56, 58, 54, 93, 32, 99, 32, 49, 48], 0, 504, 8, [], [115, 100, 32, 48, 32, 50, 32, 67, 32, 115])]

/-- The context of foundry/compact.rows. -/
noncomputable def cx14 : Cx := { P := Tryz.prog, n := 35, tab := [], mtab := [], refs := [], keeps := [0] }
theorem rows_eq : (dfun cx14 Tryz.f14 []).run = some (.sl rowE rowsL [] .full) := by kernel_rfl
def rowsS : Ab.Spec := fun args => match args with
  | [] => .leaf (.sl rowE rowsL [] .full)
  | _ => .fail
theorem rowsS_ok : Sound Tryz.prog 14 rowsS := by
  intro args out h
  unfold rowsS at h
  split at h
  rotate_left
  · cases h
  cases h
  refine pcall_fun' (cx := cx14) (fn := Tryz.f14) (cx0_ok rfl rfl) (by kernel_rfl) (by kernel_rfl) (by kernel_rfl) rows_eq
/-! The library's variables. -/

/-- What strings.asciiSpace holds. -/
def asciiT : List V := [.int .u8 0, .int .u8 0, .int .u8 0, .int .u8 0, .int .u8 0, .int .u8 0, .int .u8 0, .int .u8 0, .int .u8 0, .int .u8 1, .int .u8 1, .int .u8 1, .int .u8 1, .int .u8 1, .int .u8 0, .int .u8 0, .int .u8 0, .int .u8 0, .int .u8 0, .int .u8 0, .int .u8 0, .int .u8 0, .int .u8 0, .int .u8 0, .int .u8 0, .int .u8 0, .int .u8 0, .int .u8 0, .int .u8 0, .int .u8 0, .int .u8 0, .int .u8 0, .int .u8 1, .int .u8 0, .int .u8 0, .int .u8 0, .int .u8 0, .int .u8 0, .int .u8 0, .int .u8 0, .int .u8 0, .int .u8 0, .int .u8 0, .int .u8 0, .int .u8 0, .int .u8 0, .int .u8 0, .int .u8 0, .int .u8 0, .int .u8 0, .int .u8 0, .int .u8 0, .int .u8 0, .int .u8 0, .int .u8 0, .int .u8 0, .int .u8 0, .int .u8 0, .int .u8 0, .int .u8 0, .int .u8 0, .int .u8 0, .int .u8 0, .int .u8 0, .int .u8 0, .int .u8 0, .int .u8 0, .int .u8 0, .int .u8 0, .int .u8 0, .int .u8 0, .int .u8 0, .int .u8 0, .int .u8 0, .int .u8 0, .int .u8 0, .int .u8 0, .int .u8 0, .int .u8 0, .int .u8 0, .int .u8 0, .int .u8 0, .int .u8 0, .int .u8 0, .int .u8 0, .int .u8 0, .int .u8 0, .int .u8 0, .int .u8 0, .int .u8 0, .int .u8 0, .int .u8 0, .int .u8 0, .int .u8 0, .int .u8 0, .int .u8 0, .int .u8 0, .int .u8 0, .int .u8 0, .int .u8 0, .int .u8 0, .int .u8 0, .int .u8 0, .int .u8 0, .int .u8 0, .int .u8 0, .int .u8 0, .int .u8 0, .int .u8 0, .int .u8 0, .int .u8 0, .int .u8 0, .int .u8 0, .int .u8 0, .int .u8 0, .int .u8 0, .int .u8 0, .int .u8 0, .int .u8 0, .int .u8 0, .int .u8 0, .int .u8 0, .int .u8 0, .int .u8 0, .int .u8 0, .int .u8 0, .int .u8 0, .int .u8 0, .int .u8 0, .int .u8 0, .int .u8 0, .int .u8 0, .int .u8 0, .int .u8 0, .int .u8 0, .int .u8 0, .int .u8 0, .int .u8 0, .int .u8 0, .int .u8 0, .int .u8 0, .int .u8 0, .int .u8 0, .int .u8 0, .int .u8 0, .int .u8 0, .int .u8 0, .int .u8 0, .int .u8 0, .int .u8 0, .int .u8 0, .int .u8 0, .int .u8 0, .int .u8 0, .int .u8 0, .int .u8 0, .int .u8 0, .int .u8 0, .int .u8 0, .int .u8 0, .int .u8 0, .int .u8 0, .int .u8 0, .int .u8 0, .int .u8 0, .int .u8 0, .int .u8 0, .int .u8 0, .int .u8 0, .int .u8 0, .int .u8 0, .int .u8 0, .int .u8 0, .int .u8 0, .int .u8 0, .int .u8 0, .int .u8 0, .int .u8 0, .int .u8 0, .int .u8 0, .int .u8 0, .int .u8 0, .int .u8 0, .int .u8 0, .int .u8 0, .int .u8 0, .int .u8 0, .int .u8 0, .int .u8 0, .int .u8 0, .int .u8 0, .int .u8 0, .int .u8 0, .int .u8 0, .int .u8 0, .int .u8 0, .int .u8 0, .int .u8 0, .int .u8 0, .int .u8 0, .int .u8 0, .int .u8 0, .int .u8 0, .int .u8 0, .int .u8 0, .int .u8 0, .int .u8 0, .int .u8 0, .int .u8 0, .int .u8 0, .int .u8 0, .int .u8 0, .int .u8 0, .int .u8 0, .int .u8 0, .int .u8 0, .int .u8 0, .int .u8 0, .int .u8 0, .int .u8 0, .int .u8 0, .int .u8 0, .int .u8 0, .int .u8 0, .int .u8 0, .int .u8 0, .int .u8 0, .int .u8 0, .int .u8 0, .int .u8 0, .int .u8 0, .int .u8 0, .int .u8 0, .int .u8 0, .int .u8 0, .int .u8 0, .int .u8 0, .int .u8 0, .int .u8 0, .int .u8 0, .int .u8 0, .int .u8 0, .int .u8 0, .int .u8 0, .int .u8 0, .int .u8 0, .int .u8 0, .int .u8 0, .int .u8 0, .int .u8 0, .int .u8 0, .int .u8 0, .int .u8 0, .int .u8 0, .int .u8 0, .int .u8 0]
def globsL : List (Nat × List V) := [(0, asciiT), (6, [.ifc 159 .any])]
theorem globs_eq : globsOf Tryz.prog = globsL := by kernel_rfl
theorem globs_ok : ∀ p ∈ globsL, p ∈ globsOf Tryz.prog := fun p h => by rw [globs_eq]; exact h

/-! What the rows' bits say. -/

abbrev fldE : EC := .prod [.int .i64, .int .u8, .int .u16, .int .i64, .bool]
abbrev FldT := Int × Int × Int × Int × Bool
theorem idx_ok : XSound Tryz.prog 84 idxByteS := idxByteS_ok (fn := Tryz.f84) (by kernel_rfl) (by kernel_rfl) (by kernel_rfl) (by kernel_rfl) (by kernel_rfl)
noncomputable def libT_ps : List Fi := [⟨37, Tryz.f37, [0, 1, 4, 5, 6], [], 0⟩, ⟨53, Tryz.f53, [0, 1, 4, 5, 6, 7, 12], [], 0⟩, ⟨64, Tryz.f64, [0, 1, 4, 5, 6, 7, 8, 9, 10, 11, 12, 13, 16, 24, 31, 36, 59, 64, 73, 93, 107, 114, 132, 139], [], 40⟩, ⟨77, Tryz.f77, [0, 1, 4], [], 0⟩, ⟨38, Tryz.f38, [0, 2, 3, 4, 5, 12], [], 0⟩, ⟨54, Tryz.f54, [0, 2, 3, 4, 5, 6, 8, 9, 10, 30, 39, 44, 47, 48, 49, 50, 56, 66], [], 10⟩, ⟨39, Tryz.f39, [0, 1, 2, 6, 7, 8, 9, 18], [], 0⟩, ⟨56, Tryz.f56, [0, 1, 2, 6, 7, 8, 9, 10, 11, 12, 13, 15, 16, 17, 19, 25, 32, 37, 40, 52, 64, 77, 83, 85, 90, 92, 99, 100, 101, 102, 106, 112, 121, 137, 141, 159, 169], [], 20⟩, ⟨50, Tryz.f50, [0, 1, 4], [], 0⟩, ⟨62, Tryz.f62, [0, 1, 4], [], 0⟩, ⟨55, Tryz.f55, [0, 1, 2, 3, 4, 10, 11, 12, 19, 26, 34], [], 0⟩, ⟨66, Tryz.f66, [0, 1, 4], [], 0⟩, ⟨81, Tryz.f81, [0, 2, 3, 6], [], 0⟩, ⟨70, Tryz.f70, [0, 2], [], 0⟩, ⟨65, Tryz.f65, [0, 1, 2, 6, 7, 8, 9, 10, 11, 13, 16, 17, 21, 38, 41, 52, 62, 69], [], 0⟩]
theorem libT_ps_ok : FisOk Tryz.prog libT_ps := ⟨⟨by kernel_rfl, by kernel_rfl⟩, ⟨by kernel_rfl, by kernel_rfl⟩, ⟨by kernel_rfl, by kernel_rfl⟩, ⟨by kernel_rfl, by kernel_rfl⟩, ⟨by kernel_rfl, by kernel_rfl⟩, ⟨by kernel_rfl, by kernel_rfl⟩, ⟨by kernel_rfl, by kernel_rfl⟩, ⟨by kernel_rfl, by kernel_rfl⟩, ⟨by kernel_rfl, by kernel_rfl⟩, ⟨by kernel_rfl, by kernel_rfl⟩, ⟨by kernel_rfl, by kernel_rfl⟩, ⟨by kernel_rfl, by kernel_rfl⟩, ⟨by kernel_rfl, by kernel_rfl⟩, ⟨by kernel_rfl, by kernel_rfl⟩, ⟨by kernel_rfl, by kernel_rfl⟩, trivial⟩
noncomputable def libT_ms : List Fi := [⟨36, Tryz.f36, [0, 2, 3, 4, 5, 6, 7, 8, 9, 10, 11, 12, 16, 37, 53, 60, 66, 91, 98], [41], 64⟩]
theorem libT_ms_ok : FisOk Tryz.prog libT_ms := ⟨⟨by kernel_rfl, by kernel_rfl⟩, trivial⟩
noncomputable def libT (d : Nat) : Tabs := deep Tryz.prog { tab := [(84, idxByteS)], globs := globsL } libT_ps libT_ms d
theorem libT_ok (d : Nat) : (libT d).Ok Tryz.prog := deep_ok ⟨.consX idx_ok (.nil _), (fun p h => by cases h), .nil _, globs_ok⟩ libT_ps_ok libT_ms_ok d

end Go.Cmp
