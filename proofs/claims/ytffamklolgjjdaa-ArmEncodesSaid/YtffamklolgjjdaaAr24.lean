/-
  The document's rows are the program's; its Operands. Conditions: none.
-/
import Derived.Test.YtffamklolgjjdaaAr23
import Derived.Test.YtffamklolgjjdaaAr15
namespace Go.Arm
open Go Go.Ab Go.Proofs Go.Wd

def sizeD (m : Int) : Int := cond (decide (m < 2)) 1 (cond (decide (m < 4)) 2 (cond (decide (m < 8)) 3 (cond (decide (m < 16)) 4 (cond (decide (m < 32)) 5 6))))
def hasD (ops : List UInt8) : Bool := hasX ops 115 || (hasX ops 68 || hasX ops 99)
def cA (x : RowX) : NumT := cond (hasX x.2.2.1 65) (0, 5, 1, 1, 0, 31) zeroN
def cB (x : RowX) : NumT := cond (hasX x.2.2.1 66) (5, 5, 1, 1, 0, 31) zeroN
def cC (x : RowX) : NumT := cond (hasX x.2.2.1 116) (x.2.2.2.1, 6, 1, 1, 0, 63) (cond (hasX x.2.2.1 67) (x.2.2.2.1, 5, 1, 1, 0, 31) zeroN)
def cD (x : RowX) : NumT := cond (hasD x.2.2.1) (x.2.2.2.2.1, sizeD x.2.2.2.2.2.1, 1, 1, 0, x.2.2.2.2.2.1) zeroN
def cI (x : RowX) : NumT := cond (x.2.2.2.2.2.2.1 == 105) (x.2.2.2.2.2.2.2.1, x.2.2.2.2.2.2.2.2.1, 1, x.2.2.2.2.2.2.2.2.2.2.2, x.2.2.2.2.2.2.2.2.2.1, x.2.2.2.2.2.2.2.2.2.2.1)
  (cond (x.2.2.2.2.2.2.1 == 109) maskNm (cond (x.2.2.2.2.2.2.1 == 97) aparN zeroN))
/-- The program's row for a row of the document's. -/
def conv (x : RowX) : RowT := (x.1, x.2.1, cA x, cB x, cC x, cD x, cI x, x.2.2.1)
theorem rows_conv : rowsX.map conv = rowsL := by kernel_rfl

theorem find_conv (nm : List UInt8) : findL nm rowsL = (findLX nm rowsX).map conv := by
  unfold findL findLX
  rw [← rows_conv, List.find?_map]
  rfl

theorem fok_eq (nm : List UInt8) : fok nm = fokX nm := by
  unfold fok fokX
  rw [find_conv]
  cases findLX nm rowsX <;> rfl

theorem frow_eq {nm : List UInt8} (h : fokX nm = true) : frow nm = conv (frowX nm) ∧ frowX nm ∈ rowsX := by
  unfold fokX at h
  obtain ⟨r, hr⟩ := Option.isSome_iff_exists.1 h
  have h1 : frowX nm = r := by unfold frowX; rw [hr]; rfl
  refine ⟨?_, by rw [h1]; exact List.mem_of_find?_eq_some hr⟩
  unfold frow
  rw [find_conv, hr, h1]
  rfl

def opsX (nm : List UInt8) : List UInt8 := (frowX nm).2.2.1
theorem ops_eq (nm : List UInt8) : opsX nm = opsOf nm := by
  unfold opsX opsOf
  cases h : fokX nm
  · have hx : findLX nm rowsX = none := by
      unfold fokX at h
      cases hf : findLX nm rowsX with
      | none => rfl
      | some r => rw [hf] at h; cases h
    unfold frowX frow
    rw [find_conv, hx]
    rfl
  · rw [(frow_eq h).1]
    rfl

/-- The context of foundry/foundryref11.Operands. -/
noncomputable def cx21 : Cx := { P := Try.prog, n := 14, tab := [(35, findXS)], mtab := [], refs := [], keeps := [0, 2, 3, 4, 5] }
def opsXS : Ab.Spec := fun args => match args with
  | [.str nm] => .leaf (.tup [.str (opsX nm), .bool (fokX nm)])
  | _ => .fail

theorem opsXS_ok : Sound Try.prog 21 opsXS := by
  intro args out h
  unfold opsXS at h
  split at h
  rotate_left
  · cases h
  rename_i nm
  have h := leaf_out h
  subst h
  exact pcall_fun' (cx := cx21) (fn := Try.f21) (cx1_ok (ok1 findXS_ok) (.nil _) rfl rfl) (by kernel_rfl) (by kernel_rfl) (by kernel_rfl) (by kernel_rfl)

end Go.Arm
