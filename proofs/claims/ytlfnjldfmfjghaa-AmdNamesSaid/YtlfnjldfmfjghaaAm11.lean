/-
  The document's table of amd; a name's row. Conditions: none.
-/
import Derived.Test.YtlfnjldfmfjghaaAm3
namespace Go.Amd
open Go Go.Ab Go.Proofs

/-- The context of foundry/foundryref12.alike. -/
noncomputable def cx32 : Cx := { P := Try.prog, n := 58, tab := [], mtab := [], refs := [], keeps := [0, 1, 2, 3, 4, 5, 12, 13, 14, 18, 31, 47], fuel := 9 }
noncomputable def alikeM : MSpec := fun args H => .req (Nat.ble args.length Try.f32.ntmps) (mfun cx32 Try.f32 args H)
theorem alikeM_ok : MSound Try.prog 32 alikeM := msound_fun (cx := cx32) (fn := Try.f32) (cx0_ok rfl rfl) (by kernel_rfl) (by kernel_rfl)
/-- The context of foundry/foundryref12.Table. -/
noncomputable def cx19 : Cx := { P := Try.prog, n := 150, tab := [], mtab := [(32, alikeM)], refs := [], keeps := [0, 1] }

abbrev rowXE : EC := .prod [.str, .int .i64, .sl (.int .u8), .int .i64, .int .i64]
/-- A row: name, form, opcode, digit, prefix. -/
abbrev RowX := List UInt8 × Int × Option (List Int) × Int × Int
/-- The document's rows. -/
@[irreducible] def rowsX : List RowX := [
  ([109, 111, 118, 46, 114, 114], 1, some [137], 0, 2),
  ([109, 111, 118, 46, 114, 105], 2, some [184], 0, 2),
  ([109, 111, 118, 46, 114, 115], 3, some [199], 0, 2),
  ([109, 111, 118, 46, 114, 109], 4, some [139], 0, 2),
  ([109, 111, 118, 108, 46, 114, 109], 4, some [139], 0, 0),
  ([109, 111, 118, 115, 108, 46, 114, 109], 4, some [99], 0, 2),
  ([109, 111, 118, 122, 98, 46, 114, 109], 4, some [15, 182], 0, 2),
  ([108, 101, 97], 4, some [141], 0, 2),
  ([109, 111, 118, 46, 109, 114], 4, some [137], 0, 2),
  ([109, 111, 118, 108, 46, 109, 114], 4, some [137], 0, 0),
  ([109, 111, 118, 98, 46, 109, 114], 4, some [136], 0, 1),
  ([109, 111, 118, 46, 102, 115], 5, some [139], 0, 2),
  ([97, 100, 100, 46, 114, 114], 1, some [1], 0, 2),
  ([111, 114, 46, 114, 114], 1, some [9], 0, 2),
  ([97, 110, 100, 46, 114, 114], 1, some [33], 0, 2),
  ([115, 117, 98, 46, 114, 114], 1, some [41], 0, 2),
  ([120, 111, 114, 46, 114, 114], 1, some [49], 0, 2),
  ([99, 109, 112, 46, 114, 114], 1, some [57], 0, 2),
  ([97, 100, 100, 46, 114, 109], 4, some [3], 0, 2),
  ([111, 114, 46, 114, 109], 4, some [11], 0, 2),
  ([97, 110, 100, 46, 114, 109], 4, some [35], 0, 2),
  ([115, 117, 98, 46, 114, 109], 4, some [43], 0, 2),
  ([120, 111, 114, 46, 114, 109], 4, some [51], 0, 2),
  ([99, 109, 112, 46, 114, 109], 4, some [59], 0, 2),
  ([97, 100, 100, 46, 114, 105], 6, some [131], 0, 2),
  ([111, 114, 46, 114, 105], 6, some [131], 1, 2),
  ([97, 110, 100, 46, 114, 105], 6, some [131], 4, 2),
  ([115, 117, 98, 46, 114, 105], 6, some [131], 5, 2),
  ([120, 111, 114, 46, 114, 105], 6, some [131], 6, 2),
  ([99, 109, 112, 46, 114, 105], 6, some [131], 7, 2),
  ([116, 101, 115, 116, 46, 114, 114], 1, some [133], 0, 2),
  ([105, 109, 117, 108, 46, 114, 114], 7, some [15, 175], 0, 2),
  ([110, 111, 116], 8, some [247], 2, 2),
  ([110, 101, 103], 8, some [247], 3, 2),
  ([109, 117, 108], 8, some [247], 4, 2),
  ([100, 105, 118], 8, some [247], 6, 2),
  ([105, 100, 105, 118], 8, some [247], 7, 2),
  ([99, 113, 111], 9, some [153], 0, 2),
  ([115, 104, 108, 46, 114, 105], 10, some [193], 4, 2),
  ([115, 104, 114, 46, 114, 105], 10, some [193], 5, 2),
  ([115, 97, 114, 46, 114, 105], 10, some [193], 7, 2),
  ([115, 104, 108, 46, 114, 99], 8, some [211], 4, 2),
  ([115, 104, 114, 46, 114, 99], 8, some [211], 5, 2),
  ([115, 97, 114, 46, 114, 99], 8, some [211], 7, 2),
  ([99, 109, 111, 118], 11, some [15, 64], 0, 2),
  ([112, 117, 115, 104], 12, some [80], 0, 0),
  ([112, 111, 112], 12, some [88], 0, 0),
  ([99, 97, 108, 108], 13, some [232], 0, 0),
  ([106, 109, 112], 13, some [233], 0, 0),
  ([106, 109, 112, 46, 115], 14, some [235], 0, 0),
  ([99, 97, 108, 108, 46, 114], 8, some [255], 2, 0),
  ([106, 109, 112, 46, 114], 8, some [255], 4, 0),
  ([106, 99, 99], 15, some [15, 128], 0, 0),
  ([106, 99, 99, 46, 115], 16, some [112], 0, 0),
  ([114, 101, 116], 9, some [195], 0, 0),
  ([115, 121, 115, 99, 97, 108, 108], 9, some [15, 5], 0, 0),
  ([110, 111, 112], 9, some [144], 0, 0),
  ([117, 100, 50], 9, some [15, 11], 0, 0)]

theorem table_run : (dfun cx19 Try.f19 []).run = some (.sl rowXE rowsX [] .ro) := by kernel_rfl

def tableS : Ab.Spec := fun args => match args with
  | [] => .leaf (.sl rowXE rowsX [] .ro)
  | _ => .fail

theorem tableS_ok : Sound Try.prog 19 tableS := by
  intro args out h
  unfold tableS at h
  split at h
  rotate_left
  · cases h
  simp only [Tree.run, Option.some.injEq] at h
  subst h
  exact pcall_fun' (cx := cx19) (fn := Try.f19) (cx1_ok (.nil _) (.cons alikeM_ok (.nil _)) rfl rfl) (by kernel_rfl) (by kernel_rfl) (by kernel_rfl) table_run

theorem rowsX_len : rowsX.length = 58 := by kernel_rfl

/-! A name's row. -/

/-- The context of foundry/foundryref12.find. -/
noncomputable def cx33 : Cx := { P := Try.prog, n := 25, tab := [(19, tableS)], mtab := [], refs := [], keeps := [0, 2, 3, 4, 5, 10, 19], fuel := 60 }
theorem cxXf_ok : CxOk cx33 := cx1_ok (.cons tableS_ok (.nil _)) (.nil _) rfl rfl

def zeroX : RowX := ([], 0, none, 0, 0)
def findLX (nm : List UInt8) (l : List RowX) : Option RowX := l.find? fun r => strEq r.1 nm
def frowX (nm : List UInt8) : RowX := (findLX nm rowsX).getD zeroX
def fokX (nm : List UInt8) : Bool := (findLX nm rowsX).isSome
def slO (o : Option (List Int)) : V := match o with
  | none => nilSl
  | some l => .sl (.int .u8) l [] .ro
def rowXL (r : RowX) : List V := [.str r.1, .int .i64 r.2.1, slO r.2.2.1, .int .i64 r.2.2.2.1, .int .i64 r.2.2.2.2]
def rowV (r : RowX) : V := .agg (rowXL r)

def findXS : Ab.Spec := fun args => match args with
  | [.str nm] => .leaf (.tup [.agg (rowXL (frowX nm)), .bool (fokX nm)])
  | _ => .fail

/-- The rows one by one. -/
def findXT (nm : List UInt8) : List RowX → Tree V
  | [] => .leaf (.tup [.agg (rowXL zeroX), .bool false])
  | r :: l => .br (strEq r.1 nm) (.leaf (.tup [.agg (rowXL r), .bool true])) (findXT nm l)
theorem findXT_eq (nm : List UInt8) : (dfun cx33 Try.f33 [.str nm]).out = (findXT nm rowsX).out := by kernel_rfl
theorem findXT_run (nm : List UInt8) : ∀ l, (findXT nm l).run = some (.tup [.agg (rowXL ((findLX nm l).getD zeroX)), .bool (findLX nm l).isSome])
  | [] => rfl
  | r :: l => by
    unfold findXT findLX
    rw [br_run, List.find?_cons]
    cases strEq r.1 nm
    · exact findXT_run nm l
    · rfl
theorem findX_ok (nm : List UInt8) : PCall Try.prog 33 [.str nm] (.tup [rowV (frowX nm), .bool (fokX nm)]) :=
  pcall_fun' (cx := cx33) (fn := Try.f33) cxXf_ok (by kernel_rfl) (by kernel_rfl) (by kernel_rfl) ((Tree.out_run _).symm.trans ((findXT_eq nm).trans ((Tree.out_run _).trans (findXT_run nm rowsX))))

theorem findXS_ok : Sound Try.prog 33 findXS := by
  intro args out h
  unfold findXS at h
  split at h
  rotate_left
  · cases h
  simp only [Tree.run, Option.some.injEq] at h
  subst h
  exact findX_ok _



end Go.Amd
