/-
  Encode, May, Operands of arm. Conditions: none.
-/
import Derived.Test.YtffamklolgjjdaaAr9
namespace Go.Arm
open Go Go.Ab Go.Proofs Go.Wd

/-- The context of foundry/arm.Encode. -/
noncomputable def cx10 : Cx := { P := Try.prog, n := 37, tab := [(23, findS), (24, faultyS), (25, bitsS)], mtab := [], refs := [], keeps := [0, 1, 2, 3, 4, 5, 6, 7, 15, 20] }
/-- The context of foundry/arm.May. -/
noncomputable def cx12 : Cx := { P := Try.prog, n := 18, tab := [(23, findS), (24, faultyS)], mtab := [], refs := [], keeps := [0, 1, 2, 3, 4] }
/-- The context of foundry/arm.Operands. -/
noncomputable def cx20 : Cx := { P := Try.prog, n := 14, tab := [(23, findS)], mtab := [], refs := [], keeps := [0, 2, 3, 4, 5] }

def rowFine (r : RowT) : Bool := byOk r.2.2.2.2.2.2.1 && rowOk r
theorem rows_fine : rowsL.all rowFine = true := by kernel_rfl
theorem frow_fine (nm : List UInt8) : rowFine (frow nm) = true := by
  unfold frow
  cases h : findL nm rowsL with
  | none => rfl
  | some r => exact List.all_eq_true.1 rows_fine r (List.mem_of_find?_eq_some h)
theorem frow_by (nm : List UInt8) : byOk (frow nm).2.2.2.2.2.2.1 = true := (Bool.and_eq_true_iff.1 (frow_fine nm)).1
theorem frow_ok (nm : List UInt8) : rowOk (frow nm) = true := (Bool.and_eq_true_iff.1 (frow_fine nm)).2

/-- Why an instruction is not encoded; 0: it is. -/
def encE (i : InsT) : Int := cond (fok i.1) (faultyF (frow i.1) i) 7
def encW (i : InsT) : Int := bitsF (frow i.1) i
abbrev nilV : V := .val (.slice none 0 0)

def encH (i : InsT) : Tree V := .br (!fok i.1) (.leaf (.tup [nilV, .int .i64 7])) (.br (byOk (frow i.1).2.2.2.2.2.2.1) (.br (faultyF (frow i.1) i != 0) (.leaf (.tup [nilV, .int .i64 (faultyF (frow i.1) i)]))
  (.br (rowOk (frow i.1)) (.leaf (.tup [.sl (.int .u8) (bytes4 (encW i)) [] .full, .int .i64 0])) .fail)) .fail)
theorem encH_eq (i : InsT) : (dfun cx10 Try.f10 [.agg (insL i)]).run = (encH i).run :=
  (show (dfun cx10 Try.f10 [.agg (insL i)]).run = (encH i).out by kernel_rfl).trans (Tree.out_run _)

def encodeS : Ab.Spec := fun args => match args with
  | [.agg [.str nm, .int .i64 a, .int .i64 b, .int .i64 c, .int .i64 d, .int .i64 n]] =>
    .br (encE (nm, a, b, c, d, n) == 0) (.leaf (.tup [.sl (.int .u8) (bytes4 (encW (nm, a, b, c, d, n))) [] .full, .int .i64 0])) (.leaf (.tup [nilV, .int .i64 (encE (nm, a, b, c, d, n))]))
  | _ => .fail

theorem encodeS_ok : Sound Try.prog 10 encodeS := by
  intro args out h
  unfold encodeS at h
  split at h
  rotate_left
  · cases h
  rename_i nm a b c d n
  refine pcall_fun' (cx := cx10) (fn := Try.f10) (cx1_ok (.cons findS_ok (.cons faultyS_ok (.cons bitsS_ok (.nil _)))) (.nil _) rfl rfl) (by kernel_rfl) (by kernel_rfl) (by kernel_rfl) ?_
  refine (encH_eq (nm, a, b, c, d, n)).trans ?_
  rw [← h]
  have g1 := frow_by nm
  have g2 := frow_ok nm
  unfold encH encE
  simp only at g1 g2 ⊢
  cases hf : (fok nm)
  · rfl
  rw [g1, g2]
  simp only [cond_true]
  cases hb : (faultyF (frow nm) (nm, a, b, c, d, n) == 0)
  · have : (faultyF (frow nm) (nm, a, b, c, d, n) != 0) = true := by simp [bne, hb]
    rw [this]
    rfl
  · have : (faultyF (frow nm) (nm, a, b, c, d, n) != 0) = false := by simp [bne, hb]
    rw [this]
    rfl

def mayH (i : InsT) : Tree V := .br (fok i.1) (.br (byOk (frow i.1).2.2.2.2.2.2.1) (.leaf (.bool (faultyF (frow i.1) i == 0))) .fail) (.leaf (.bool false))
theorem mayH_eq (i : InsT) : (dfun cx12 Try.f12 [.agg (insL i)]).run = (mayH i).run :=
  (show (dfun cx12 Try.f12 [.agg (insL i)]).run = (mayH i).out by kernel_rfl).trans (Tree.out_run _)

def mayS : Ab.Spec := fun args => match args with
  | [.agg [.str nm, .int .i64 a, .int .i64 b, .int .i64 c, .int .i64 d, .int .i64 n]] => .leaf (.bool (encE (nm, a, b, c, d, n) == 0))
  | _ => .fail

theorem mayS_ok : Sound Try.prog 12 mayS := by
  intro args out h
  unfold mayS at h
  split at h
  rotate_left
  · cases h
  rename_i nm a b c d n
  refine pcall_fun' (cx := cx12) (fn := Try.f12) (cx1_ok (.cons findS_ok (.cons faultyS_ok (.nil _))) (.nil _) rfl rfl) (by kernel_rfl) (by kernel_rfl) (by kernel_rfl) ?_
  refine (mayH_eq (nm, a, b, c, d, n)).trans ?_
  rw [← h]
  have g1 := frow_by nm
  unfold mayH encE
  simp only at g1 ⊢
  rw [g1]
  cases (fok nm) <;> rfl

/-- In which order the operands stand. -/
def opsOf (nm : List UInt8) : List UInt8 := (frow nm).2.2.2.2.2.2.2

def operandsS : Ab.Spec := fun args => match args with
  | [.str nm] => .leaf (.tup [.str (opsOf nm), .bool (fok nm)])
  | _ => .fail

theorem operandsS_ok : Sound Try.prog 20 operandsS := by
  intro args out h
  unfold operandsS at h
  split at h
  rotate_left
  · cases h
  rename_i nm
  have h := leaf_out h
  subst h
  exact pcall_fun' (cx := cx20) (fn := Try.f20) (cx1_ok (ok1 findS_ok) (.nil _) rfl rfl) (by kernel_rfl) (by kernel_rfl) (by kernel_rfl) (by kernel_rfl)

end Go.Arm
