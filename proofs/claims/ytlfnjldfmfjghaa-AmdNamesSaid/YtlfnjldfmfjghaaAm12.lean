/-
  The document's rows are the program's; its Operands. Conditions: none.
-/
import Derived.Test.YtlfnjldfmfjghaaAm11
import Derived.Test.YtlfnjldfmfjghaaAm8
namespace Go.Amd
open Go Go.Ab Go.Proofs

/-! The rows are the program's. -/

def prefC (r : Int) : Int := cond (r == 0) 0 (cond (r == 2) 1 2)
def opC (o : Option (List Int)) : Int := match o with
  | some [a] => a
  | some [a, b] => 256 * a + b
  | _ => 0
def formC (f : Int) : Int := ([0, 7, 2, 4, 9, 10, 6, 8, 3, 0, 5, 8, 1, 11, 12, 11, 12] : List Int).getD f.toNat 0
def condC (f : Int) : Bool := f == 11 || f == 15 || f == 16
def longC (f : Int) : Bool := f == 3 || f == 4 || f == 5 || f == 6 || f == 13 || f == 15
def shortC (f : Int) : Bool := f == 14 || f == 16
def lowC (f : Int) : Int := cond (f == 2) (-9223372036854775808) (cond (longC f) (-2147483648) (cond (shortC f) (-128) 0))
def highC (f : Int) : Int := cond (f == 2) 9223372036854775807 (cond (longC f) 2147483647 (cond (shortC f) 127 (cond (f == 10) 63 0)))
def opsC (f : Int) : List UInt8 :=
  cond (f == 1 || f == 7) [65, 66] (cond (f == 2 || f == 3 || f == 6 || f == 10 || f == 5) [65, 105] (cond (f == 4) [65, 109] (cond (f == 8 || f == 12) [65] (cond (f == 11) [65, 66, 99] (cond (f == 13 || f == 14) [106] (cond (f == 15 || f == 16) [99, 106] []))))))
/-- The program's row for a row of the document's. -/
def conv (x : RowX) : RowT := (x.1, prefC x.2.2.2.2, opC x.2.2.1, formC x.2.1, x.2.2.2.1, condC x.2.1, lowC x.2.1, highC x.2.1, opsC x.2.1)
theorem rows_conv : rowsX.map conv = rowsL := by kernel_rfl

theorem find_conv (nm : List UInt8) : findL nm rowsL = (findLX nm rowsX).map conv := by
  unfold findL findLX
  rw [← rows_conv, List.find?_map]
  rfl

theorem fok_eq (nm : List UInt8) : fok nm = fokX nm := by
  unfold fok fokX
  rw [find_conv]
  cases findLX nm rowsX <;> rfl

theorem frow_eq {nm : List UInt8} (h : fokX nm = true) : frow nm = conv (frowX nm) ∧ frowX nm ∈ rowsX := by
  unfold fokX at h
  obtain ⟨r, hr⟩ := Option.isSome_iff_exists.1 h
  have h1 : frowX nm = r := by unfold frowX; rw [hr]; rfl
  refine ⟨?_, by rw [h1]; exact List.mem_of_find?_eq_some hr⟩
  unfold frow
  rw [find_conv, hr, h1]
  rfl

/-! A row by its name. -/

def isRow (nm : List UInt8) (x : RowX) : Bool := match findLX nm rowsX with
  | some y => y == x
  | none => false
theorem isRow_to {nm : List UInt8} {x : RowX} (h : isRow nm x = true) : findLX nm rowsX = some x := by
  unfold isRow at h
  cases hf : findLX nm rowsX
  · rw [hf] at h; cases h
  · rw [hf] at h; exact congrArg some (eq_of_beq h)
def findAt (x : RowX) : Ab.Spec := fun args => match args with
  | [.str nm] => .req (isRow nm x) (.leaf (.tup [.agg (rowXL x), .bool true]))
  | _ => .fail
theorem findAt_ok (x : RowX) : Sound Try.prog 33 (findAt x) := by
  intro args out h
  unfold findAt at h
  split at h
  rotate_left
  · cases h
  rename_i nm
  obtain ⟨h1, h⟩ := req_run h
  have h := leaf_out h
  subst h
  have hx : findLX nm rowsX = some x := isRow_to h1
  have := findX_ok nm
  unfold frowX fokX rowV at this
  rw [hx] at this
  exact this
def findNo : Ab.Spec := fun args => match args with
  | [.str nm] => .req (!fokX nm) (.leaf (.tup [.agg (rowXL zeroX), .bool false]))
  | _ => .fail
theorem findNo_ok : Sound Try.prog 33 findNo := by
  intro args out h
  unfold findNo at h
  split at h
  rotate_left
  · cases h
  rename_i nm
  obtain ⟨h1, h⟩ := req_run h
  have h := leaf_out h
  subst h
  have hf : fokX nm = false := by simpa using h1
  have hn : findLX nm rowsX = none := by
    unfold fokX at hf
    cases hl : findLX nm rowsX
    · rfl
    · rw [hl] at hf; cases hf
  have := findX_ok nm
  unfold frowX fokX rowV at this
  rw [hn] at this
  exact this
theorem row_of {nm : List UInt8} (h : fokX nm = true) : findLX nm rowsX = some (frowX nm) ∧ frowX nm ∈ rowsX ∧ isRow nm (frowX nm) = true := by
  unfold fokX at h
  obtain ⟨r, hr⟩ := Option.isSome_iff_exists.1 h
  have h1 : frowX nm = r := by unfold frowX; rw [hr]; rfl
  refine ⟨by rw [h1]; exact hr, by rw [h1]; exact List.mem_of_find?_eq_some hr, ?_⟩
  unfold isRow
  rw [hr, h1]
  exact beq_self_eq_true _
theorem of_map_eq {α β : Type} {f g : α → β} {l : List α} (h : l.map f = l.map g) {x : α} (hx : x ∈ l) : f x = g x := List.map_inj_left.1 h x hx

/-! Operands. -/

noncomputable def cxO (x : RowX) : Cx := { P := Try.prog, n := 37, tab := [(33, findAt x)], mtab := [], refs := [], keeps := [0, 2, 3, 4, 5, 12, 14, 15, 18, 24, 26, 29, 31, 34] }
noncomputable def cxONo : Cx := { P := Try.prog, n := 37, tab := [(33, findNo)], mtab := [], refs := [], keeps := [0, 2, 3, 4, 5, 12, 14, 15, 18, 24, 26, 29, 31, 34] }
theorem ops_all : rowsX.map (fun x nm => (dfun (cxO x) Try.f21 [.str nm]).out) =
    rowsX.map (fun x nm => (Tree.br (isRow nm x) (.leaf (.tup [.str (opsC x.2.1), .bool true])) .fail).out) := by kernel_rfl
theorem ops_no (nm : List UInt8) : (dfun cxONo Try.f21 [.str nm]).run = (Tree.req (!fokX nm) (.leaf (V.tup [.str [], .bool false]))).run :=
  (show _ = (Tree.req (!fokX nm) (.leaf (V.tup [.str [], .bool false]))).out by kernel_rfl).trans (Tree.out_run _)

def opsX (nm : List UInt8) : List UInt8 := cond (fokX nm) (opsC (frowX nm).2.1) []
theorem ops_eq (nm : List UInt8) : opsX nm = opsOf nm := by
  unfold opsX opsOf
  cases h : fokX nm
  · have hx : findLX nm rowsX = none := by
      unfold fokX at h
      cases hf : findLX nm rowsX with
      | none => rfl
      | some r => rw [hf] at h; cases h
    unfold frow
    rw [find_conv, hx]
    rfl
  · rw [(frow_eq h).1]
    rfl

def opsXS : Ab.Spec := fun args => match args with
  | [.str nm] => .leaf (.tup [.str (opsX nm), .bool (fokX nm)])
  | _ => .fail
theorem opsXS_ok : Sound Try.prog 21 opsXS := by
  intro args out h
  unfold opsXS at h
  split at h
  rotate_left
  · cases h
  rename_i nm
  have h := leaf_out h
  subst h
  unfold opsX
  cases hf : fokX nm
  · refine pcall_fun' (cx := cxONo) (fn := Try.f21) (cx1_ok (ok1 findNo_ok) (.nil _) rfl rfl) (by kernel_rfl) (by kernel_rfl) (by kernel_rfl) ((ops_no nm).trans ?_)
    rw [hf]
    rfl
  · obtain ⟨_, h2, h3⟩ := row_of hf
    refine pcall_fun' (cx := cxO (frowX nm)) (fn := Try.f21) (cx1_ok (ok1 (findAt_ok _)) (.nil _) rfl rfl) (by kernel_rfl) (by kernel_rfl) (by kernel_rfl) ?_
    have e := congrFun (of_map_eq ops_all h2) nm
    refine ((Tree.out_run _).symm.trans (e.trans (Tree.out_run _))).trans ?_
    rw [h3]
    rfl

end Go.Amd
