/-
  compact: the document's table; a name's row. Conditions: none.
-/
import Derived.Test.YtaedihkgdmaofaaGreatDoorCz12
import Derived.Test.YtaedihkgdmaofaaGreatDoorBbYf
namespace Go.Cmp
open Go Go.Ab Go.Proofs

abbrev tabE : EC := .prod [.str, .str, .str, .bool, .int .i64, .int .i64, .int .i64, .bool]
/-- A row: name, bits, operands, whether its registers are short, least, greatest, divisor, whether the number may be 0. -/
abbrev TabT := List UInt8 × List UInt8 × List UInt8 × Bool × Int × Int × Int × Bool
abbrev tabLV (y : TabT) : List V := [.str y.1, .str y.2.1, .str y.2.2.1, .bool y.2.2.2.1, .int .i64 y.2.2.2.2.1, .int .i64 y.2.2.2.2.2.1, .int .i64 y.2.2.2.2.2.2.1, .bool y.2.2.2.2.2.2.2]
/-- The document's table. -/
def tabL : List TabT := [
  ([99, 46, 97, 100, 100, 105, 52, 115, 112, 110], [48, 48, 48, 70, 69, 74, 73, 72, 71, 67, 68, 97, 97, 97, 48, 48], [65, 105], true, 4, 1020, 4, false),
  ([99, 46, 108, 119], [48, 49, 48, 70, 69, 68, 98, 98, 98, 67, 71, 97, 97, 97, 48, 48], [65, 66, 105], true, 0, 124, 4, true),
  ([99, 46, 108, 100], [48, 49, 49, 70, 69, 68, 98, 98, 98, 72, 71, 97, 97, 97, 48, 48], [65, 66, 105], true, 0, 248, 8, true),
  ([99, 46, 115, 119], [49, 49, 48, 70, 69, 68, 98, 98, 98, 67, 71, 99, 99, 99, 48, 48], [67, 66, 105], true, 0, 124, 4, true),
  ([99, 46, 115, 100], [49, 49, 49, 70, 69, 68, 98, 98, 98, 72, 71, 99, 99, 99, 48, 48], [67, 66, 105], true, 0, 248, 8, true),
  ([99, 46, 110, 111, 112], [48, 48, 48, 48, 48, 48, 48, 48, 48, 48, 48, 48, 48, 48, 48, 49], [], false, 0, 0, 1, true),
  ([99, 46, 97, 100, 100, 105], [48, 48, 48, 70, 97, 97, 97, 97, 97, 69, 68, 67, 66, 65, 48, 49], [65, 105], false, -32, 31, 1, false),
  ([99, 46, 97, 100, 100, 105, 119], [48, 48, 49, 70, 97, 97, 97, 97, 97, 69, 68, 67, 66, 65, 48, 49], [65, 105], false, -32, 31, 1, true),
  ([99, 46, 108, 105], [48, 49, 48, 70, 97, 97, 97, 97, 97, 69, 68, 67, 66, 65, 48, 49], [65, 105], false, -32, 31, 1, true),
  ([99, 46, 97, 100, 100, 105, 49, 54, 115, 112], [48, 49, 49, 74, 48, 48, 48, 49, 48, 69, 71, 73, 72, 70, 48, 49], [105], false, -512, 496, 16, false),
  ([99, 46, 108, 117, 105], [48, 49, 49, 70, 97, 97, 97, 97, 97, 69, 68, 67, 66, 65, 48, 49], [65, 105], false, -32, 31, 1, false),
  ([99, 46, 115, 114, 108, 105], [49, 48, 48, 70, 48, 48, 97, 97, 97, 69, 68, 67, 66, 65, 48, 49], [65, 105], true, 1, 63, 1, false),
  ([99, 46, 115, 114, 97, 105], [49, 48, 48, 70, 48, 49, 97, 97, 97, 69, 68, 67, 66, 65, 48, 49], [65, 105], true, 1, 63, 1, false),
  ([99, 46, 97, 110, 100, 105], [49, 48, 48, 70, 49, 48, 97, 97, 97, 69, 68, 67, 66, 65, 48, 49], [65, 105], true, -32, 31, 1, true),
  ([99, 46, 115, 117, 98], [49, 48, 48, 48, 49, 49, 97, 97, 97, 48, 48, 99, 99, 99, 48, 49], [65, 67], true, 0, 0, 1, true),
  ([99, 46, 120, 111, 114], [49, 48, 48, 48, 49, 49, 97, 97, 97, 48, 49, 99, 99, 99, 48, 49], [65, 67], true, 0, 0, 1, true),
  ([99, 46, 111, 114], [49, 48, 48, 48, 49, 49, 97, 97, 97, 49, 48, 99, 99, 99, 48, 49], [65, 67], true, 0, 0, 1, true),
  ([99, 46, 97, 110, 100], [49, 48, 48, 48, 49, 49, 97, 97, 97, 49, 49, 99, 99, 99, 48, 49], [65, 67], true, 0, 0, 1, true),
  ([99, 46, 115, 117, 98, 119], [49, 48, 48, 49, 49, 49, 97, 97, 97, 48, 48, 99, 99, 99, 48, 49], [65, 67], true, 0, 0, 1, true),
  ([99, 46, 97, 100, 100, 119], [49, 48, 48, 49, 49, 49, 97, 97, 97, 48, 49, 99, 99, 99, 48, 49], [65, 67], true, 0, 0, 1, true),
  ([99, 46, 106], [49, 48, 49, 76, 69, 74, 73, 75, 71, 72, 68, 67, 66, 70, 48, 49], [106], false, -2048, 2046, 2, true),
  ([99, 46, 98, 101, 113, 122], [49, 49, 48, 73, 69, 68, 98, 98, 98, 72, 71, 67, 66, 70, 48, 49], [66, 106], true, -256, 254, 2, true),
  ([99, 46, 98, 110, 101, 122], [49, 49, 49, 73, 69, 68, 98, 98, 98, 72, 71, 67, 66, 70, 48, 49], [66, 106], true, -256, 254, 2, true),
  ([99, 46, 115, 108, 108, 105], [48, 48, 48, 70, 97, 97, 97, 97, 97, 69, 68, 67, 66, 65, 49, 48], [65, 105], false, 1, 63, 1, false),
  ([99, 46, 108, 119, 115, 112], [48, 49, 48, 70, 97, 97, 97, 97, 97, 69, 68, 67, 72, 71, 49, 48], [65, 105], false, 0, 252, 4, true),
  ([99, 46, 108, 100, 115, 112], [48, 49, 49, 70, 97, 97, 97, 97, 97, 69, 68, 73, 72, 71, 49, 48], [65, 105], false, 0, 504, 8, true),
  ([99, 46, 106, 114], [49, 48, 48, 48, 98, 98, 98, 98, 98, 48, 48, 48, 48, 48, 49, 48], [66], false, 0, 0, 1, true),
  ([99, 46, 106, 97, 108, 114], [49, 48, 48, 49, 98, 98, 98, 98, 98, 48, 48, 48, 48, 48, 49, 48], [66], false, 0, 0, 1, true),
  ([99, 46, 109, 118], [49, 48, 48, 48, 97, 97, 97, 97, 97, 99, 99, 99, 99, 99, 49, 48], [65, 67], false, 0, 0, 1, true),
  ([99, 46, 97, 100, 100], [49, 48, 48, 49, 97, 97, 97, 97, 97, 99, 99, 99, 99, 99, 49, 48], [65, 67], false, 0, 0, 1, true),
  ([99, 46, 101, 98, 114, 101, 97, 107], [49, 48, 48, 49, 48, 48, 48, 48, 48, 48, 48, 48, 48, 48, 49, 48], [], false, 0, 0, 1, true),
  ([99, 46, 115, 119, 115, 112], [49, 49, 48, 70, 69, 68, 67, 72, 71, 99, 99, 99, 99, 99, 49, 48], [67, 105], false, 0, 252, 4, true),
  ([99, 46, 115, 100, 115, 112], [49, 49, 49, 70, 69, 68, 73, 72, 71, 99, 99, 99, 99, 99, 49, 48], [67, 105], false, 0, 504, 8, true)]

/-- The context of foundry/foundryref9.Table. -/
noncomputable def cx6 : Cx := { P := Tryz.prog, n := 35, tab := [], mtab := [], refs := [], keeps := [0] }
theorem table_run : (dfun cx6 Tryz.f6 []).run = some (.sl tabE tabL [] .full) := by kernel_rfl
def tableS : Ab.Spec := fun args => match args with
  | [] => .leaf (.sl tabE tabL [] .full)
  | _ => .fail
theorem tableS_ok : Sound Tryz.prog 6 tableS := by
  intro args out h
  unfold tableS at h
  split at h
  rotate_left
  · cases h
  cases h
  exact pcall_fun' (cx := cx6) (fn := Tryz.f6) (cx0_ok rfl rfl) (by kernel_rfl) (by kernel_rfl) (by kernel_rfl) table_run
def zeroT : TabT := ([], [], [], false, 0, 0, 0, false)
/-- The document's row of a program's row. -/
def tabs (x : RowT) : TabT := (tabL.find? fun y => y.1 == x.1).getD zeroT
def pairsT : List (RowT × TabT) := rowsL.zip tabL
theorem pairsT_eq : (rowsL.map fun x => (x, tabs x)) = pairsT := by kernel_rfl
theorem pairsT_mem {x : RowT} (hx : x ∈ rowsL) : (x, tabs x) ∈ pairsT := by
  rw [← pairsT_eq]
  exact List.mem_map_of_mem hx
theorem pairsT_len : pairsT.length ≤ 36 := by
  have h : rowsL.length = 33 := by kernel_rfl
  rw [← pairsT_eq, List.length_map]
  omega
theorem tabL_eq : tabL = rowsL.map tabs := by kernel_rfl
theorem tabs_name {x : RowT} (hx : x ∈ rowsL) : (tabs x).1 = x.1 := by
  have h : rowsL.map (fun x => (tabs x).1) = rowsL.map (fun x => x.1) := by kernel_rfl
  exact List.map_inj_left.1 h _ hx
def partT (k : Nat) : List (RowT × TabT) := (pairsT.drop (6 * k)).take 6

/-! A name's row. -/

/-- The context of foundry/foundryref9.find. -/
noncomputable def cx19 : Cx := { P := Tryz.prog, n := 25, tab := [(6, tableS)], mtab := [], refs := [], keeps := [0, 2, 3, 4, 5, 10, 19], fuel := 36 }
theorem cxFX_ok : CxOk cx19 := cx1_ok (ok1 tableS_ok) (fun p h => by cases h) rfl rfl
def chainX (nm : List UInt8) : List TabT → Option V
  | [] => some (.tup [.agg (tabLV zeroT), .bool false])
  | y :: r => cond (strEq y.1 nm) (some (.tup [.agg (tabLV y), .bool true])) (chainX nm r)
theorem findX_eq (nm : List UInt8) : (dfun cx19 Tryz.f19 [.str nm]).fin = chainX nm tabL := by kernel_rfl
/-- The document's row of a name. -/
def ftab (nm : List UInt8) : TabT := cond (fok nm) (tabs (frow nm)) zeroT
theorem chainX_eq (nm : List UInt8) : ∀ (l : List RowT), (∀ x ∈ l, (tabs x).1 = x.1) →
    chainX nm (l.map tabs) = match l.find? (fun r => strEq r.1 nm) with
      | some x => some (.tup [.agg (tabLV (tabs x)), .bool true])
      | none => some (.tup [.agg (tabLV zeroT), .bool false])
  | [], _ => rfl
  | x :: r, h => by
    rw [List.map_cons]
    unfold chainX
    rw [h x List.mem_cons_self, chainX_eq nm r (fun z hz => h z (List.mem_cons_of_mem _ hz)), List.find?_cons]
    cases strEq x.1 nm <;> rfl
def findXS : Ab.Spec := fun args => match args with
  | [.str nm] => .leaf (.tup [.agg (tabLV (ftab nm)), .bool (fok nm)])
  | _ => .fail
theorem findXS_ok : Sound Tryz.prog 19 findXS := by
  intro args out h
  unfold findXS at h
  split at h
  rotate_left
  · cases h
  rename_i nm
  have h := leaf_out h
  subst h
  refine pcall_fun' (cx := cx19) (fn := Tryz.f19) cxFX_ok (by kernel_rfl) (by kernel_rfl) (by kernel_rfl) ((Tree.fin_run _).symm.trans ((findX_eq nm).trans ?_))
  rw [tabL_eq, chainX_eq nm rowsL (fun x hx => tabs_name hx)]
  unfold ftab fok frow findL
  cases rowsL.find? (fun r => strEq r.1 nm) <;> rfl
/-- Of one row. -/
def findAtX (p : RowT × TabT) : Ab.Spec := fun args => match args with
  | [.str nm] => .req (isAt nm p.1) (.leaf (.tup [.agg (tabLV p.2), .bool true]))
  | _ => .fail
theorem isAt_frow {nm : List UInt8} {x : RowT} (h : isAt nm x = true) : frow nm = x ∧ fok nm = true := by
  have hf := isAt_eq h
  exact ⟨by unfold frow; rw [hf]; rfl, by unfold fok; rw [hf]; rfl⟩
theorem findAtX_ok (x : RowT) : Sound Tryz.prog 19 (findAtX (x, tabs x)) := by
  intro args out h
  refine findXS_ok args out ?_
  unfold findAtX at h
  split at h
  rotate_left
  · cases h
  obtain ⟨h1, h⟩ := req_run h
  have h := leaf_out h
  subst h
  obtain ⟨e1, e2⟩ := isAt_frow h1
  unfold findXS ftab
  simp only
  rw [e1, e2]
  rfl

end Go.Cmp
