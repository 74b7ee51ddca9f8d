/-
  compact's rows' fields. Conditions: none.
-/
import Derived.Test.YtaedihkgdmaofaaGreatDoorCz3
import Derived.Test.YtaedihkgdmaofaaGreatDoorCz4
import Derived.Test.YtaedihkgdmaofaaGreatDoorCz5
import Derived.Test.YtaedihkgdmaofaaGreatDoorCz6
namespace Go.Cmp
open Go Go.Ab Go.Proofs

/-! What the library answers, as specs. -/

theorem part_step {α : Type} (l : List α) (k n : Nat) : l.drop k = (l.drop k).take n ++ l.drop (k + n) := by
  rw [← List.drop_drop]
  exact (List.take_append_drop _ _).symm
theorem words_parts : partW 0 ++ partW 1 ++ partW 2 ++ partW 3 ++ partW 4 ++ partW 5 ++ partW 6 ++ partW 7 ++ partW 8 = wordsL := by
  have hl : wordsL.length = 66 := by kernel_rfl
  show (wordsL.drop 0).take 8 ++ (wordsL.drop 8).take 8 ++ (wordsL.drop 16).take 8 ++ (wordsL.drop 24).take 8 ++ (wordsL.drop 32).take 8 ++ (wordsL.drop 40).take 8 ++ (wordsL.drop 48).take 8 ++ (wordsL.drop 56).take 8 ++ (wordsL.drop 64).take 8 = wordsL
  simp only [List.append_assoc]
  have hz : wordsL.drop 72 = [] := List.drop_eq_nil_iff.2 (by omega)
  have e : (wordsL.drop 64).take 8 = wordsL.drop 64 := by
    have := part_step wordsL 64 8
    rw [show 64 + 8 = 72 from rfl, hz, List.append_nil] at this
    exact this.symm
  rw [e, ← part_step wordsL 56 8, ← part_step wordsL 48 8, ← part_step wordsL 40 8, ← part_step wordsL 32 8, ← part_step wordsL 24 8, ← part_step wordsL 16 8, ← part_step wordsL 8 8, ← part_step wordsL 0 8, List.drop_zero]
theorem words_all : wordsL.map wordsR = wordsL.map wordsO := by
  rw [← words_parts]
  simp only [List.map_append, words_0, words_1, words_2, words_3, words_4, words_5, words_6, words_7, words_8]
theorem of_map {α β : Type} {l : List α} {f g : α → β} (h : l.map f = l.map g) {a : α} (ha : a ∈ l) : f a = g a := List.map_inj_left.1 h a ha
def wordsS : Ab.Spec := fun args => match args with
  | [.str s] => match wordsL.find? (fun p => p.1 == s) with
    | some p => .leaf (.sl .str p.2 [] .ro)
    | none => .fail
  | _ => .fail
theorem cxW_ok : CxOk cxW := ⟨.nil _, (fun p h => by cases h), .nil _, globs_ok⟩
theorem wordsS_ok : Sound Tryz.prog 36 wordsS := by
  intro args out h
  unfold wordsS at h
  split at h
  rotate_left
  · cases h
  rename_i s
  cases hf : wordsL.find? (fun p => p.1 == s) with
  | none => rw [hf] at h; cases h
  | some p =>
    rw [hf] at h
    cases h
    have hm := List.mem_of_find?_eq_some hf
    have he : p.1 = s := by simpa using List.find?_some hf
    subst he
    have hw := of_map words_all hm
    unfold wordsR wordsO at hw
    exact pcall_freeze (mcall_fun' (cx := cxW) (fn := Tryz.f36) cxW_ok (by kernel_rfl) (by kernel_rfl) rfl hw)
def cutS : Ab.Spec := fun args => match args with
  | [.str s, .str [58]] => match cutsL.find? (fun p => p.1 == s) with
    | some p => .leaf (.tup [.str p.2.1, .str p.2.2.1, .bool p.2.2.2])
    | none => .fail
  | _ => .fail
theorem cutS_ok : Sound Tryz.prog 37 cutS := by
  intro args out h
  unfold cutS at h
  split at h
  rotate_left
  · cases h
  rename_i s
  cases hf : cutsL.find? (fun p => p.1 == s) with
  | none => rw [hf] at h; cases h
  | some p =>
    rw [hf] at h
    cases h
    have he : p.1 = s := by simpa using List.find?_some hf
    subst he
    exact pcall_fun' (cx := cxL Tryz.f37.ntmps [0, 1, 4, 5, 6]) (fn := Tryz.f37) (cxL_ok _ _) (by kernel_rfl) (by kernel_rfl) (by kernel_rfl) (of_map cuts_all (List.mem_of_find?_eq_some hf))
def atoiS : Ab.Spec := fun args => match args with
  | [.str s] => match atoiL.find? (fun p => p.1 == s) with
    | some p => .leaf (.tup [.int .i64 p.2, cond p.1.isEmpty (.ifc 125 .any) nilI])
    | none => .fail
  | _ => .fail
theorem atoiS_ok : Sound Tryz.prog 38 atoiS := by
  intro args out h
  unfold atoiS at h
  split at h
  rotate_left
  · cases h
  rename_i s
  cases hf : atoiL.find? (fun p => p.1 == s) with
  | none => rw [hf] at h; cases h
  | some p =>
    rw [hf] at h
    cases h
    have he : p.1 = s := by simpa using List.find?_some hf
    subst he
    exact pcall_fun' (cx := cxL Tryz.f38.ntmps [0, 2, 3, 4, 5, 12]) (fn := Tryz.f38) (cxL_ok _ _) (by kernel_rfl) (by kernel_rfl) (by kernel_rfl) (of_map atoi_all (List.mem_of_find?_eq_some hf))
def numsS : Ab.Spec := fun args => match args with
  | [.str s, .int .i64 2, .int .i64 16] => match numsL.find? (fun p => p.1 == s) with
    | some p => .leaf (.tup [.int .u64 p.2, nilI])
    | none => .fail
  | _ => .fail
theorem numsS_ok : Sound Tryz.prog 39 numsS := by
  intro args out h
  unfold numsS at h
  split at h
  rotate_left
  · cases h
  rename_i s
  cases hf : numsL.find? (fun p => p.1 == s) with
  | none => rw [hf] at h; cases h
  | some p =>
    rw [hf] at h
    cases h
    have he : p.1 = s := by simpa using List.find?_some hf
    subst he
    exact pcall_fun' (cx := cxL Tryz.f39.ntmps [0, 1, 2, 6, 7, 8, 9, 18]) (fn := Tryz.f39) (cxL_ok _ _) (by kernel_rfl) (by kernel_rfl) (by kernel_rfl) (of_map nums_all (List.mem_of_find?_eq_some hf))

/-- Each row's fields. -/
def fldL : List (List UInt8 × List FldT) := [
  ([99, 46, 97, 100, 100, 105, 52, 115, 112, 110], [(3, 0, 0, 0, false), (2, 115, 0, 4, false), (4, 115, 0, 6, false), (1, 115, 0, 2, false), (1, 115, 0, 3, false), (3, 97, 0, 0, true), (2, 0, 0, 0, false)]),
  ([99, 46, 108, 119], [(3, 0, 2, 0, false), (3, 115, 0, 3, false), (3, 98, 0, 0, true), (1, 115, 0, 2, false), (1, 115, 0, 6, false), (3, 97, 0, 0, true), (2, 0, 0, 0, false)]),
  ([99, 46, 108, 100], [(3, 0, 3, 0, false), (3, 115, 0, 3, false), (3, 98, 0, 0, true), (2, 115, 0, 6, false), (3, 97, 0, 0, true), (2, 0, 0, 0, false)]),
  ([99, 46, 115, 119], [(3, 0, 6, 0, false), (3, 115, 0, 3, false), (3, 98, 0, 0, true), (1, 115, 0, 2, false), (1, 115, 0, 6, false), (3, 99, 0, 0, true), (2, 0, 0, 0, false)]),
  ([99, 46, 115, 100], [(3, 0, 7, 0, false), (3, 115, 0, 3, false), (3, 98, 0, 0, true), (2, 115, 0, 6, false), (3, 99, 0, 0, true), (2, 0, 0, 0, false)]),
  ([99, 46, 110, 111, 112], [(3, 0, 0, 0, false), (1, 0, 0, 0, false), (5, 0, 0, 0, false), (5, 0, 0, 0, false), (2, 0, 1, 0, false)]),
  ([99, 46, 97, 100, 100, 105], [(3, 0, 0, 0, false), (1, 115, 0, 5, false), (5, 97, 0, 0, false), (5, 115, 0, 0, false), (2, 0, 1, 0, false)]),
  ([99, 46, 97, 100, 100, 105, 119], [(3, 0, 1, 0, false), (1, 115, 0, 5, false), (5, 97, 0, 0, false), (5, 115, 0, 0, false), (2, 0, 1, 0, false)]),
  ([99, 46, 108, 105], [(3, 0, 2, 0, false), (1, 115, 0, 5, false), (5, 97, 0, 0, false), (5, 115, 0, 0, false), (2, 0, 1, 0, false)]),
  ([99, 46, 97, 100, 100, 105, 49, 54, 115, 112], [(3, 0, 3, 0, false), (1, 115, 0, 9, false), (5, 0, 2, 0, false), (1, 115, 0, 4, false), (1, 115, 0, 6, false), (2, 115, 0, 7, false), (1, 115, 0, 5, false), (2, 0, 1, 0, false)]),
  ([99, 46, 108, 117, 105], [(3, 0, 3, 0, false), (1, 115, 0, 5, false), (5, 97, 0, 0, false), (5, 115, 0, 0, false), (2, 0, 1, 0, false)]),
  ([99, 46, 115, 114, 108, 105], [(3, 0, 4, 0, false), (1, 115, 0, 5, false), (2, 0, 0, 0, false), (3, 97, 0, 0, true), (5, 115, 0, 0, false), (2, 0, 1, 0, false)]),
  ([99, 46, 115, 114, 97, 105], [(3, 0, 4, 0, false), (1, 115, 0, 5, false), (2, 0, 1, 0, false), (3, 97, 0, 0, true), (5, 115, 0, 0, false), (2, 0, 1, 0, false)]),
  ([99, 46, 97, 110, 100, 105], [(3, 0, 4, 0, false), (1, 115, 0, 5, false), (2, 0, 2, 0, false), (3, 97, 0, 0, true), (5, 115, 0, 0, false), (2, 0, 1, 0, false)]),
  ([99, 46, 115, 117, 98], [(3, 0, 4, 0, false), (1, 0, 0, 0, false), (2, 0, 3, 0, false), (3, 97, 0, 0, true), (2, 0, 0, 0, false), (3, 99, 0, 0, true), (2, 0, 1, 0, false)]),
  ([99, 46, 120, 111, 114], [(3, 0, 4, 0, false), (1, 0, 0, 0, false), (2, 0, 3, 0, false), (3, 97, 0, 0, true), (2, 0, 1, 0, false), (3, 99, 0, 0, true), (2, 0, 1, 0, false)]),
  ([99, 46, 111, 114], [(3, 0, 4, 0, false), (1, 0, 0, 0, false), (2, 0, 3, 0, false), (3, 97, 0, 0, true), (2, 0, 2, 0, false), (3, 99, 0, 0, true), (2, 0, 1, 0, false)]),
  ([99, 46, 97, 110, 100], [(3, 0, 4, 0, false), (1, 0, 0, 0, false), (2, 0, 3, 0, false), (3, 97, 0, 0, true), (2, 0, 3, 0, false), (3, 99, 0, 0, true), (2, 0, 1, 0, false)]),
  ([99, 46, 115, 117, 98, 119], [(3, 0, 4, 0, false), (1, 0, 1, 0, false), (2, 0, 3, 0, false), (3, 97, 0, 0, true), (2, 0, 0, 0, false), (3, 99, 0, 0, true), (2, 0, 1, 0, false)]),
  ([99, 46, 97, 100, 100, 119], [(3, 0, 4, 0, false), (1, 0, 1, 0, false), (2, 0, 3, 0, false), (3, 97, 0, 0, true), (2, 0, 1, 0, false), (3, 99, 0, 0, true), (2, 0, 1, 0, false)]),
  ([99, 46, 106], [(3, 0, 5, 0, false), (1, 115, 0, 11, false), (1, 115, 0, 4, false), (2, 115, 0, 8, false), (1, 115, 0, 10, false), (1, 115, 0, 6, false), (1, 115, 0, 7, false), (3, 115, 0, 1, false), (1, 115, 0, 5, false), (2, 0, 1, 0, false)]),
  ([99, 46, 98, 101, 113, 122], [(3, 0, 6, 0, false), (1, 115, 0, 8, false), (2, 115, 0, 3, false), (3, 98, 0, 0, true), (2, 115, 0, 6, false), (2, 115, 0, 1, false), (1, 115, 0, 5, false), (2, 0, 1, 0, false)]),
  ([99, 46, 98, 110, 101, 122], [(3, 0, 7, 0, false), (1, 115, 0, 8, false), (2, 115, 0, 3, false), (3, 98, 0, 0, true), (2, 115, 0, 6, false), (2, 115, 0, 1, false), (1, 115, 0, 5, false), (2, 0, 1, 0, false)]),
  ([99, 46, 115, 108, 108, 105], [(3, 0, 0, 0, false), (1, 115, 0, 5, false), (5, 97, 0, 0, false), (5, 115, 0, 0, false), (2, 0, 2, 0, false)]),
  ([99, 46, 108, 119, 115, 112], [(3, 0, 2, 0, false), (1, 115, 0, 5, false), (5, 97, 0, 0, false), (3, 115, 0, 2, false), (2, 115, 0, 6, false), (2, 0, 2, 0, false)]),
  ([99, 46, 108, 100, 115, 112], [(3, 0, 3, 0, false), (1, 115, 0, 5, false), (5, 97, 0, 0, false), (2, 115, 0, 3, false), (3, 115, 0, 6, false), (2, 0, 2, 0, false)]),
  ([99, 46, 106, 114], [(3, 0, 4, 0, false), (1, 0, 0, 0, false), (5, 98, 0, 0, false), (5, 0, 0, 0, false), (2, 0, 2, 0, false)]),
  ([99, 46, 106, 97, 108, 114], [(3, 0, 4, 0, false), (1, 0, 1, 0, false), (5, 98, 0, 0, false), (5, 0, 0, 0, false), (2, 0, 2, 0, false)]),
  ([99, 46, 109, 118], [(3, 0, 4, 0, false), (1, 0, 0, 0, false), (5, 97, 0, 0, false), (5, 99, 0, 0, false), (2, 0, 2, 0, false)]),
  ([99, 46, 97, 100, 100], [(3, 0, 4, 0, false), (1, 0, 1, 0, false), (5, 97, 0, 0, false), (5, 99, 0, 0, false), (2, 0, 2, 0, false)]),
  ([99, 46, 101, 98, 114, 101, 97, 107], [(3, 0, 4, 0, false), (1, 0, 1, 0, false), (5, 0, 0, 0, false), (5, 0, 0, 0, false), (2, 0, 2, 0, false)]),
  ([99, 46, 115, 119, 115, 112], [(3, 0, 6, 0, false), (4, 115, 0, 2, false), (2, 115, 0, 6, false), (5, 99, 0, 0, false), (2, 0, 2, 0, false)]),
  ([99, 46, 115, 100, 115, 112], [(3, 0, 7, 0, false), (3, 115, 0, 3, false), (3, 115, 0, 6, false), (5, 99, 0, 0, false), (2, 0, 2, 0, false)])]

def flds (x : RowT) : List FldT := ((fldL.find? fun p => p.1 == x.1).map (·.2)).getD []
noncomputable def cxF : Cx := { P := Tryz.prog, n := 91, tab := [(36, wordsS), (37, cutS), (38, atoiS), (39, numsS)], mtab := [], refs := [], keeps := [0, 1, 2, 3, 5, 6, 7, 8, 9, 11, 13, 14, 18, 19, 20, 21, 37, 62, 73, 82], fuel := 16 }
theorem cxF_ok : CxOk cxF := cx1_ok (.cons wordsS_ok (.cons cutS_ok (.cons atoiS_ok (ok1 numsS_ok)))) (fun p h => by cases h) rfl rfl
noncomputable def fieldsR (x : RowT) : Option V := (dfun cxF Tryz.f21 [.agg (rowL x)]).run
def fieldsO (x : RowT) : Option V := some (.sl fldE (flds x) [] .ro)
def partR (k : Nat) : List RowT := (rowsL.drop (6 * k)).take 6
theorem fields_0 : (partR 0).map fieldsR = (partR 0).map fieldsO := by kernel_rfl
theorem fields_1 : (partR 1).map fieldsR = (partR 1).map fieldsO := by kernel_rfl
theorem fields_2 : (partR 2).map fieldsR = (partR 2).map fieldsO := by kernel_rfl
theorem fields_3 : (partR 3).map fieldsR = (partR 3).map fieldsO := by kernel_rfl
theorem fields_4 : (partR 4).map fieldsR = (partR 4).map fieldsO := by kernel_rfl
theorem fields_5 : (partR 5).map fieldsR = (partR 5).map fieldsO := by kernel_rfl
theorem rows_parts : partR 0 ++ partR 1 ++ partR 2 ++ partR 3 ++ partR 4 ++ partR 5 = rowsL := by
  have hl : rowsL.length = 33 := by kernel_rfl
  show (rowsL.drop 0).take 6 ++ (rowsL.drop 6).take 6 ++ (rowsL.drop 12).take 6 ++ (rowsL.drop 18).take 6 ++ (rowsL.drop 24).take 6 ++ (rowsL.drop 30).take 6 = rowsL
  simp only [List.append_assoc]
  have hz : rowsL.drop 36 = [] := List.drop_eq_nil_iff.2 (by omega)
  have e : (rowsL.drop 30).take 6 = rowsL.drop 30 := by
    have := part_step rowsL 30 6
    rw [show 30 + 6 = 36 from rfl, hz, List.append_nil] at this
    exact this.symm
  rw [e, ← part_step rowsL 24 6, ← part_step rowsL 18 6, ← part_step rowsL 12 6, ← part_step rowsL 6 6, ← part_step rowsL 0 6, List.drop_zero]
/-- Row by row, in parts. -/
theorem rows_all {β : Type} {f g : RowT → β} (h0 : (partR 0).map f = (partR 0).map g) (h1 : (partR 1).map f = (partR 1).map g) (h2 : (partR 2).map f = (partR 2).map g) (h3 : (partR 3).map f = (partR 3).map g)
    (h4 : (partR 4).map f = (partR 4).map g) (h5 : (partR 5).map f = (partR 5).map g) {x : RowT} (hx : x ∈ rowsL) : f x = g x := by
  refine of_map ?_ hx
  rw [← rows_parts]
  simp only [List.map_append, h0, h1, h2, h3, h4, h5]
theorem fields_all {x : RowT} (hx : x ∈ rowsL) : fieldsR x = fieldsO x := rows_all fields_0 fields_1 fields_2 fields_3 fields_4 fields_5 hx
/-- A row of the table. -/
def isRowB (x : RowT) : Bool := rowsL.any fun r => r == x
theorem isRowB_mem {x : RowT} (h : isRowB x = true) : x ∈ rowsL := by
  obtain ⟨r, h1, h2⟩ := List.any_eq_true.1 h
  rw [← eq_of_beq h2]
  exact h1
def fieldsS : Ab.Spec := fun args => match args with
  | [.agg [.str n, .str b, .int .i64 lo, .int .i64 hi, .int .i64 by_, .str no, .str lg]] => .req (isRowB (n, b, lo, hi, by_, no, lg)) (.leaf (.sl fldE (flds (n, b, lo, hi, by_, no, lg)) [] .ro))
  | _ => .fail
theorem fieldsS_ok : Sound Tryz.prog 21 fieldsS := by
  intro args out h
  unfold fieldsS at h
  split at h
  rotate_left
  · cases h
  rename_i n b lo hi by_ no lg
  obtain ⟨h1, h⟩ := req_run h
  cases h
  have hw := fields_all (isRowB_mem h1)
  unfold fieldsR fieldsO at hw
  exact pcall_fun' (cx := cxF) (fn := Tryz.f21) cxF_ok (by kernel_rfl) (by kernel_rfl) rfl hw

end Go.Cmp
