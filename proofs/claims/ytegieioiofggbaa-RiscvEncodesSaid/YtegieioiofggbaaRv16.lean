/-
  The document's table of riscv. Conditions: none.
-/
import Derived.Test.YtegieioiofggbaaRv4
namespace Go.Rv
open Go Go.Ab Go.Proofs

/-- The context of foundry/foundryref8.rows. -/
noncomputable def cx34 : Cx := { P := Try.prog, n := 51, tab := [], mtab := [], refs := [], keeps := [0, 1, 2, 3, 4, 5, 12, 13, 14, 18, 31, 40], fuel := 20 }
noncomputable def rows34S : MSpec := fun args H => .req (Nat.ble args.length Try.f34.ntmps) (mfun cx34 Try.f34 args H)
theorem rows34S_ok : MSound Try.prog 34 rows34S := msound_fun (cx := cx34) (fn := Try.f34) (cx0_ok rfl rfl) (by kernel_rfl) (by kernel_rfl)
/-- The context of foundry/foundryref8.Table. -/
noncomputable def cx18 : Cx := { P := Try.prog, n := 55, tab := [], mtab := [(34, rows34S)], refs := [], keeps := [0, 1] }

abbrev rowXE : EC := .prod [.int .u8, .str, .int .u32, .int .u32, .int .u32]
/-- A row: its form, name, opcode, f3, f7. -/
abbrev RowX := Int × List UInt8 × Int × Int × Int
/-- The document's rows. -/
@[irreducible] def rowsX : List RowX := [
  (82, [97, 100, 100], 51, 0, 0),
  (82, [115, 117, 98], 51, 0, 32),
  (82, [115, 108, 108], 51, 1, 0),
  (82, [115, 108, 116], 51, 2, 0),
  (82, [115, 108, 116, 117], 51, 3, 0),
  (82, [120, 111, 114], 51, 4, 0),
  (82, [115, 114, 108], 51, 5, 0),
  (82, [115, 114, 97], 51, 5, 32),
  (82, [111, 114], 51, 6, 0),
  (82, [97, 110, 100], 51, 7, 0),
  (82, [109, 117, 108], 51, 0, 1),
  (82, [109, 117, 108, 104], 51, 1, 1),
  (82, [109, 117, 108, 104, 115, 117], 51, 2, 1),
  (82, [109, 117, 108, 104, 117], 51, 3, 1),
  (82, [100, 105, 118], 51, 4, 1),
  (82, [100, 105, 118, 117], 51, 5, 1),
  (82, [114, 101, 109], 51, 6, 1),
  (82, [114, 101, 109, 117], 51, 7, 1),
  (82, [97, 100, 100, 119], 59, 0, 0),
  (82, [115, 117, 98, 119], 59, 0, 32),
  (82, [115, 108, 108, 119], 59, 1, 0),
  (82, [115, 114, 108, 119], 59, 5, 0),
  (82, [115, 114, 97, 119], 59, 5, 32),
  (82, [109, 117, 108, 119], 59, 0, 1),
  (82, [100, 105, 118, 119], 59, 4, 1),
  (82, [100, 105, 118, 117, 119], 59, 5, 1),
  (82, [114, 101, 109, 119], 59, 6, 1),
  (82, [114, 101, 109, 117, 119], 59, 7, 1),
  (73, [97, 100, 100, 105], 19, 0, 0),
  (73, [115, 108, 116, 105], 19, 2, 0),
  (73, [115, 108, 116, 105, 117], 19, 3, 0),
  (73, [120, 111, 114, 105], 19, 4, 0),
  (73, [111, 114, 105], 19, 6, 0),
  (73, [97, 110, 100, 105], 19, 7, 0),
  (73, [97, 100, 100, 105, 119], 27, 0, 0),
  (73, [108, 98], 3, 0, 0),
  (73, [108, 104], 3, 1, 0),
  (73, [108, 119], 3, 2, 0),
  (73, [108, 100], 3, 3, 0),
  (73, [108, 98, 117], 3, 4, 0),
  (73, [108, 104, 117], 3, 5, 0),
  (73, [108, 119, 117], 3, 6, 0),
  (73, [106, 97, 108, 114], 103, 0, 0),
  (104, [115, 108, 108, 105], 19, 1, 0),
  (104, [115, 114, 108, 105], 19, 5, 0),
  (104, [115, 114, 97, 105], 19, 5, 32),
  (119, [115, 108, 108, 105, 119], 27, 1, 0),
  (119, [115, 114, 108, 105, 119], 27, 5, 0),
  (119, [115, 114, 97, 105, 119], 27, 5, 32),
  (83, [115, 98], 35, 0, 0),
  (83, [115, 104], 35, 1, 0),
  (83, [115, 119], 35, 2, 0),
  (83, [115, 100], 35, 3, 0),
  (66, [98, 101, 113], 99, 0, 0),
  (66, [98, 110, 101], 99, 1, 0),
  (66, [98, 108, 116], 99, 4, 0),
  (66, [98, 103, 101], 99, 5, 0),
  (66, [98, 108, 116, 117], 99, 6, 0),
  (66, [98, 103, 101, 117], 99, 7, 0),
  (85, [108, 117, 105], 55, 0, 0),
  (85, [97, 117, 105, 112, 99], 23, 0, 0),
  (74, [106, 97, 108], 111, 0, 0),
  (120, [101, 99, 97, 108, 108], 115, 0, 0),
  (120, [101, 98, 114, 101, 97, 107], 1048691, 0, 0)]

theorem table_run : (dfun cx18 Try.f18 []).run = some (.sl rowXE rowsX [] .ro) := by kernel_rfl

def tableS : Ab.Spec := fun args => match args with
  | [] => .leaf (.sl rowXE rowsX [] .ro)
  | _ => .fail

theorem tableS_ok : Sound Try.prog 18 tableS := by
  intro args out h
  unfold tableS at h
  split at h
  rotate_left
  · cases h
  simp only [Tree.run, Option.some.injEq] at h
  subst h
  exact pcall_fun' (cx := cx18) (fn := Try.f18) (cx1_ok (.nil _) (.cons rows34S_ok (.nil _)) rfl rfl) (by kernel_rfl) (by kernel_rfl) (by kernel_rfl) table_run

theorem rowsX_len : rowsX.length = 64 := by kernel_rfl

end Go.Rv
