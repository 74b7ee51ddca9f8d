/-
  compact's find. Conditions: none.
-/
import Derived.Test.YtaedihkgdmaofaaGreatDoorCz8
namespace Go.Cmp
open Go Go.Ab Go.Proofs

theorem leaf_out {α : Type} {b o : α} (h : (Tree.leaf b).run = some o) : o = b := by simpa [Tree.run] using h.symm
abbrev nmO (nm : List UInt8) : O := .cells [.str nm] 9
/-- The context of foundry/compact.find in 1. -/
noncomputable def cx28 : Cx := { P := Tryz.prog, n := 8, tab := [], mtab := [], refs := [], keeps := [0, 1, 2, 3] }
theorem isRow_eq (nm : List UInt8) (x : RowT) : mfunD cx28 Tryz.f28 [.agg (rowL x), .ptr 0 0] [nmO nm] [] = some (.bool (strEq x.1 nm), [nmO nm]) := by kernel_rfl
def isRowR : RSpec := fun args H => match args, H with
  | [.agg [.str n, .str _, .int .i64 _, .int .i64 _, .int .i64 _, .str _, .str _], .ptr 0 0], [.cells [.str nm] 9] => .leaf (.bool (strEq n nm))
  | _, _ => .fail
theorem isRowR_ok : RSound Tryz.prog 28 isRowR := by
  intro args H out h
  unfold isRowR at h
  split at h
  rotate_left
  · cases h
  rename_i n b lo hi by_ no lg nm
  cases h
  exact mcall_funD (cx := cx28) (fn := Tryz.f28) [] (cx0_ok rfl rfl) (by kernel_rfl) (by kernel_rfl) (by kernel_rfl) (by kernel_rfl) (isRow_eq nm (n, b, lo, hi, by_, no, lg))

/-- The place of the row of a name. -/
def chainT (nm : List UInt8) : List RowT → Int → Tree Res
  | [], _ => .leaf (.ok (.int .i64 (-1)) [nmO nm])
  | r :: l, i => .br (strEq r.1 nm) (.leaf (.ok (.int .i64 i) [nmO nm])) (chainT nm l (i + 1))
noncomputable def cxI : Cx := { P := Tryz.prog, n := 19, tab := [], mtab := [], rtab := [(28, isRowR)], refs := [], keeps := [0, 1, 4, 5, 7, 8, 9, 16], fuel := 34 }
theorem idx_eq (nm : List UInt8) : (mfun cxI Tryz.f27 [.sl rowE rowsL [] .full, .clo (.func 28) [] [.ptr 0 0]] [nmO nm]).out = (chainT nm rowsL 0).out := by kernel_rfl

/-- Where a name's row is; -1: nowhere. -/
def fidx (nm : List UInt8) : List RowT → Int → Int
  | [], _ => -1
  | r :: l, i => cond (strEq r.1 nm) i (fidx nm l (i + 1))
theorem chain_run (nm : List UInt8) : ∀ (l : List RowT) (i : Int), (chainT nm l i).run = some (.ok (.int .i64 (fidx nm l i)) [nmO nm])
  | [], _ => rfl
  | r :: l, i => by
    unfold chainT fidx
    rw [br_run, chain_run nm l (i + 1)]
    cases strEq r.1 nm <;> rfl
def findL (nm : List UInt8) : Option RowT := rowsL.find? fun r => strEq r.1 nm
def zeroR : RowT := ([], [], 0, 0, 0, [], [])
def frow (nm : List UInt8) : RowT := (findL nm).getD zeroR
def fok (nm : List UInt8) : Bool := (findL nm).isSome
theorem fidx_spec (nm : List UInt8) : ∀ (l : List RowT) (i : Int), 0 ≤ i → (l.find? (fun r => strEq r.1 nm) = none ∧ fidx nm l i = -1) ∨ ∃ (k : Nat) (r : RowT), k < l.length ∧ l.find? (fun r => strEq r.1 nm) = some r ∧ l.getD k zeroR = r ∧ fidx nm l i = i + k
  | [], _, _ => .inl ⟨rfl, rfl⟩
  | r :: l, i, h0 => by
    unfold fidx
    rw [List.find?_cons]
    cases h : strEq r.1 nm
    · simp only [cond_false]
      rcases fidx_spec nm l (i + 1) (by omega) with ⟨h1, h2⟩ | ⟨k, s, h1, h2, h3, h4⟩
      · exact .inl ⟨h1, h2⟩
      · refine .inr ⟨k + 1, s, by simp only [List.length_cons]; omega, h2, by rw [List.getD_cons_succ]; exact h3, ?_⟩
        rw [h4]
        omega
    · exact .inr ⟨0, r, by simp, rfl, rfl, by rw [cond_true]; omega⟩

def isTab (l : List RowT) : Bool := l == rowsL
/-- The place of a name's row, of the table. -/
theorem isTab_all : isTab rowsL = true := beq_self_eq_true _
def idxM : MSpec := fun args H => match args, H with
  | [.sl (.prod [.str, .str, .int .i64, .int .i64, .int .i64, .str, .str]) l [] .full, .clo (.func 28) [] [.ptr 0 0]], [.cells [.str nm] 9] => .req (isTab l) (.leaf (.ok (.int .i64 (fidx nm rowsL 0)) [nmO nm]))
  | _, _ => .fail
theorem br_t {α : Type} {c : Bool} {x y : Tree α} (h : c = true) : (Tree.br c x y).run = x.run := by rw [h]; rfl
theorem cxI_ok : CxOk cxI := ⟨.nil _, (fun p h => by cases h), .cons isRowR_ok (.nil _), fun p h => by cases h⟩
theorem idxM_ok : MSound Tryz.prog 27 idxM := by
  intro args H res h
  unfold idxM at h
  split at h
  rotate_left
  · cases h
  rename_i l nm
  obtain ⟨h1, h⟩ := req_run h
  have h1 : (show List RowT from l) = rowsL := eq_of_beq (α := List RowT) h1
  have h1 : l = rowsL := h1
  subst h1
  have h := leaf_out h
  subst h
  exact mcall_fun' (cx := cxI) (fn := Tryz.f27) cxI_ok (by kernel_rfl) (by kernel_rfl) (by kernel_rfl) ((Tree.out_run _).symm.trans ((idx_eq nm).trans ((Tree.out_run _).trans (chain_run nm rowsL 0))))
/-- The context of foundry/compact.find. -/
noncomputable def cx15 : Cx := { P := Tryz.prog, n := 17, tab := [(14, rowsS)], mtab := [(27, idxM)], refs := [], keeps := [0, 1, 2, 3, 4, 5, 11] }
def findT (nm : List UInt8) : Tree V :=
  (.br (decide (fidx nm rowsL 0 < 0)) (.leaf (.tup [(.agg [(.str []), (.str []), (.int .i64 0), (.int .i64 0), (.int .i64 0), (.str []), (.str [])]), (.bool false)])) (.br (inside (fidx nm rowsL 0) 33) (.leaf (.tup [(.agg [(.str (tS (Prod.fst (List.getD rowsL (Int.toNat (fidx nm rowsL 0)) (EC.dflt rowE))))), (.str (tS (Prod.fst (Prod.snd (List.getD rowsL (Int.toNat (fidx nm rowsL 0)) (EC.dflt rowE)))))), (.int .i64 (tI (Prod.fst (Prod.snd (Prod.snd (List.getD rowsL (Int.toNat (fidx nm rowsL 0)) (EC.dflt rowE))))))), (.int .i64 (tI (Prod.fst (Prod.snd (Prod.snd (Prod.snd (List.getD rowsL (Int.toNat (fidx nm rowsL 0)) (EC.dflt rowE)))))))), (.int .i64 (tI (Prod.fst (Prod.snd (Prod.snd (Prod.snd (Prod.snd (List.getD rowsL (Int.toNat (fidx nm rowsL 0)) (EC.dflt rowE))))))))), (.str (tS (Prod.fst (Prod.snd (Prod.snd (Prod.snd (Prod.snd (Prod.snd (List.getD rowsL (Int.toNat (fidx nm rowsL 0)) (EC.dflt rowE)))))))))), (.str (Prod.snd (Prod.snd (Prod.snd (Prod.snd (Prod.snd (Prod.snd (List.getD rowsL (Int.toNat (fidx nm rowsL 0)) (EC.dflt rowE)))))))))]), (.bool true)])) .fail))

theorem findT_eq (nm : List UInt8) : (dfun cx15 Tryz.f15 [.str nm]).run = (findT nm).run :=
  (show (dfun cx15 Tryz.f15 [.str nm]).run = (findT nm).out by kernel_rfl).trans (Tree.out_run _)

def findS : Ab.Spec := fun args => match args with
  | [.str nm] => .leaf (.tup [.agg (rowL (frow nm)), .bool (fok nm)])
  | _ => .fail
theorem cxFd_ok : CxOk cx15 := cx1_ok (ok1 rowsS_ok) (.cons idxM_ok (fun p h => by cases h)) rfl rfl
theorem find_ok (nm : List UInt8) : PCall Tryz.prog 15 [.str nm] (.tup [.agg (rowL (frow nm)), .bool (fok nm)]) := by
  refine pcall_fun' (cx := cx15) (fn := Tryz.f15) cxFd_ok (by kernel_rfl) (by kernel_rfl) (by kernel_rfl) ((findT_eq nm).trans ?_)
  unfold findT frow fok findL
  have hd : EC.dflt rowE = zeroR := rfl
  have hl : rowsL.length = 33 := rfl
  rcases fidx_spec nm rowsL 0 (by decide) with ⟨h1, h2⟩ | ⟨k, r, h1, h2, h3, h4⟩
  · rw [h1, h2]
    rfl
  · rw [h2, h4]
    have e1 : decide ((0 : Int) + k < 0) = false := decide_eq_false (by omega)
    have e2 : inside (0 + (k : Int)) 33 = true := inside_of (by omega) (by omega)
    have e3 : ((0 : Int) + k).toNat = k := by omega
    rw [br_run, e1, cond_false]
    refine (br_t e2).trans ?_
    rw [e3, hd, h3]
    rfl
theorem findS_ok : Sound Tryz.prog 15 findS := by
  intro args out h
  unfold findS at h
  split at h
  rotate_left
  · cases h
  cases h
  exact find_ok _
/-- A name's row is such. -/
def isAt (nm : List UInt8) (x : RowT) : Bool := match findL nm with
  | some r => r == x
  | none => false
theorem isAt_eq {nm : List UInt8} {x : RowT} (h : isAt nm x = true) : findL nm = some x := by
  unfold isAt at h
  cases hf : findL nm with
  | none => rw [hf] at h; cases h
  | some r => rw [hf] at h; rw [eq_of_beq h]
/-- A row found, by name. -/
def findAt (x : RowT) : Ab.Spec := fun args => match args with
  | [.str nm] => .req (isAt nm x) (.leaf (.tup [.agg (rowL x), .bool true]))
  | _ => .fail
theorem findAt_ok (x : RowT) : Sound Tryz.prog 15 (findAt x) := by
  intro args out h
  unfold findAt at h
  split at h
  rotate_left
  · cases h
  rename_i nm
  obtain ⟨h1, h⟩ := req_run h
  have h1 := isAt_eq h1
  have h := leaf_out h
  subst h
  have := find_ok nm
  unfold frow fok at this
  rw [h1] at this
  exact this

end Go.Cmp
