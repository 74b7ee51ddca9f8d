/-
  compact's instructions: what may be; checked, May. Conditions: none.
-/
import Derived.Test.YtaedihkgdmaofaaGreatDoorCz10
namespace Go.Cmp
open Go Go.Ab Go.Proofs

noncomputable def cxFy : Cx := { P := Tryz.prog, n := 76, tab := [(17, hasS), (49, regS), (50, conS)], mtab := [], refs := [], keeps := [0, 1, 2, 3, 4, 6, 12, 46, 69] }
theorem cxFy_ok : CxOk cxFy := cx1_ok (.cons hasS_ok (.cons regS_ok (ok1 conS_ok))) (fun p h => by cases h) rfl rfl
def tI64 (n : Int) : Tree V := .leaf (.int .i64 n)
def lowR (x : RowT) : Int := x.2.2.1
def highR (x : RowT) : Int := x.2.2.2.1
def byR (x : RowT) : Int := x.2.2.2.2.1
def byT (x : RowT) (n : Int) : Tree V := .br (Int.tmod n x.2.2.2.2.1 != 0) (tI64 10) (tI64 0)
def rngT (x : RowT) (n : Int) : Tree V := .br (decide (n < x.2.2.1)) (tI64 3) (.br (decide (x.2.2.2.1 < n)) (tI64 3) (.br (n == 0) (cond (bars x 115) (tI64 3) (byT x n)) (byT x n)))
def faultyT (x : RowT) (a b c d n : Int) : Tree V :=
  .br (!regF x 97 a) (tI64 13) (.br (!regF x 98 b) (tI64 13) (.br (!regF x 99 c) (tI64 13) (.br (d != 0) (tI64 13) (cond (hasF x 115).2 (rngT x n) (.br (n != 0) (tI64 13) (rngT x n))))))
noncomputable def fltR (x : RowT) (nm : List UInt8) (a b c d n : Int) : Option V := (dfun cxFy Tryz.f35 [.agg (rowL x), .agg [.str nm, .int .i64 a, .int .i64 b, .int .i64 c, .int .i64 d, .int .i64 n]]).out
def fltO (x : RowT) (_ : List UInt8) (a b c d n : Int) : Option V := (faultyT x a b c d n).out
theorem flt_0 : (partR 0).map fltR = (partR 0).map fltO := by kernel_rfl
theorem flt_1 : (partR 1).map fltR = (partR 1).map fltO := by kernel_rfl
theorem flt_2 : (partR 2).map fltR = (partR 2).map fltO := by kernel_rfl
theorem flt_3 : (partR 3).map fltR = (partR 3).map fltO := by kernel_rfl
theorem flt_4 : (partR 4).map fltR = (partR 4).map fltO := by kernel_rfl
theorem flt_5 : (partR 5).map fltR = (partR 5).map fltO := by kernel_rfl
theorem flt_all {x : RowT} (hx : x ∈ rowsL) : fltR x = fltO x := rows_all flt_0 flt_1 flt_2 flt_3 flt_4 flt_5 hx

/-- Why an instruction of a row may not be; 0: it may. -/
def rngF (x : RowT) (n : Int) : Int := cond (decide (n < x.2.2.1)) 3 (cond (decide (x.2.2.2.1 < n)) 3 (cond (n == 0 && bars x 115) 3 (cond (Int.tmod n x.2.2.2.2.1 != 0) 10 0)))
def faultyF (x : RowT) (i : InsT) : Int :=
  cond (regF x 97 i.2.1 && (regF x 98 i.2.2.1 && (regF x 99 i.2.2.2.1 && (i.2.2.2.2.1 == 0 && ((hasF x 115).2 || i.2.2.2.2.2 == 0))))) (rngF x i.2.2.2.2.2) 13
theorem rngT_run (x : RowT) (n : Int) : (rngT x n).run = some (.int .i64 (rngF x n)) := by
  unfold rngT rngF byT tI64
  simp only [br_run]
  cases decide (n < x.2.2.1)
  · cases decide (x.2.2.2.1 < n)
    · cases (n == 0)
      · cases (Int.tmod n x.2.2.2.2.1 != 0) <;> rfl
      · cases bars x 115
        · cases (Int.tmod n x.2.2.2.2.1 != 0) <;> rfl
        · rfl
    · rfl
  · rfl
theorem faultyT_run (x : RowT) (nm : List UInt8) (a b c d n : Int) : (faultyT x a b c d n).run = some (.int .i64 (faultyF x (nm, a, b, c, d, n))) := by
  unfold faultyT faultyF
  simp only [br_run]
  cases regF x 97 a
  · rfl
  cases regF x 98 b
  · rfl
  cases regF x 99 c
  · rfl
  unfold bne
  cases (d == 0)
  · rfl
  cases (hasF x 115).2
  · simp only [cond_false, br_run]
    cases (n == 0)
    · rfl
    · exact rngT_run x n
  · exact rngT_run x n
def faultyS : Ab.Spec := fun args => match args with
  | [.agg [.str n, .str b, .int .i64 lo, .int .i64 hi, .int .i64 by_, .str no, .str lg], .agg [.str nm, .int .i64 ia, .int .i64 ib, .int .i64 ic, .int .i64 id, .int .i64 im]] =>
    .req (isRowB (n, b, lo, hi, by_, no, lg)) (.leaf (.int .i64 (faultyF (n, b, lo, hi, by_, no, lg) (nm, ia, ib, ic, id, im))))
  | _ => .fail
theorem faultyS_ok : Sound Tryz.prog 35 faultyS := by
  intro args out h
  unfold faultyS at h
  split at h
  rotate_left
  · cases h
  rename_i n b lo hi by_ no lg nm ia ib ic id im
  obtain ⟨h1, h⟩ := req_run h
  have h := leaf_out h
  subst h
  have hw := congrFun (congrFun (congrFun (congrFun (congrFun (congrFun (flt_all (isRowB_mem h1)) nm) ia) ib) ic) id) im
  unfold fltR fltO at hw
  exact pcall_fun' (cx := cxFy) (fn := Tryz.f35) cxFy_ok (by kernel_rfl) (by kernel_rfl) rfl ((Tree.out_run _).symm.trans (hw.trans ((Tree.out_run _).trans (faultyT_run _ nm _ _ _ _ _))))

/-! checked, May -/

/-- The context of foundry/compact.checked. -/
noncomputable def cx20 : Cx := { P := Tryz.prog, n := 19, tab := [(15, findS), (35, faultyS)], mtab := [], refs := [], keeps := [0, 1, 2, 3, 4, 5, 13] }
def chkT (nm : List UInt8) (a b c d n : Int) : Tree V :=
  (.br (!fok nm) (.leaf (.tup [(.agg [(.str []), (.str []), (.int .i64 0), (.int .i64 0), (.int .i64 0), (.str []), (.str [])]), (.int .i64 7)])) (.br (isRowB (Prod.fst (frow nm), Prod.fst (Prod.snd (frow nm)), Prod.fst (Prod.snd (Prod.snd (frow nm))), Prod.fst (Prod.snd (Prod.snd (Prod.snd (frow nm)))), Prod.fst (Prod.snd (Prod.snd (Prod.snd (Prod.snd (frow nm))))), Prod.fst (Prod.snd (Prod.snd (Prod.snd (Prod.snd (Prod.snd (frow nm)))))), Prod.snd (Prod.snd (Prod.snd (Prod.snd (Prod.snd (Prod.snd (frow nm)))))))) (.leaf (.tup [(.agg [(.str (Prod.fst (frow nm))), (.str (Prod.fst (Prod.snd (frow nm)))), (.int .i64 (Prod.fst (Prod.snd (Prod.snd (frow nm))))), (.int .i64 (Prod.fst (Prod.snd (Prod.snd (Prod.snd (frow nm)))))), (.int .i64 (Prod.fst (Prod.snd (Prod.snd (Prod.snd (Prod.snd (frow nm))))))), (.str (Prod.fst (Prod.snd (Prod.snd (Prod.snd (Prod.snd (Prod.snd (frow nm)))))))), (.str (Prod.snd (Prod.snd (Prod.snd (Prod.snd (Prod.snd (Prod.snd (frow nm))))))))]), (.int .i64 (faultyF (Prod.fst (frow nm), Prod.fst (Prod.snd (frow nm)), Prod.fst (Prod.snd (Prod.snd (frow nm))), Prod.fst (Prod.snd (Prod.snd (Prod.snd (frow nm)))), Prod.fst (Prod.snd (Prod.snd (Prod.snd (Prod.snd (frow nm))))), Prod.fst (Prod.snd (Prod.snd (Prod.snd (Prod.snd (Prod.snd (frow nm)))))), Prod.snd (Prod.snd (Prod.snd (Prod.snd (Prod.snd (Prod.snd (frow nm))))))) (nm, a, b, c, d, n)))])) .fail))

theorem chkT_eq (nm : List UInt8) (a b c d n : Int) : (dfun cx20 Tryz.f20 [.agg [.str nm, .int .i64 a, .int .i64 b, .int .i64 c, .int .i64 d, .int .i64 n]]).run = (chkT nm a b c d n).run :=
  (show (dfun cx20 Tryz.f20 [.agg [.str nm, .int .i64 a, .int .i64 b, .int .i64 c, .int .i64 d, .int .i64 n]]).run = (chkT nm a b c d n).out by kernel_rfl).trans (Tree.out_run _)

/-- Why an instruction may not be; 0: it may. -/
def encE (i : InsT) : Int := cond (fok i.1) (faultyF (frow i.1) i) 7
def chkS : Ab.Spec := fun args => match args with
  | [.agg [.str nm, .int .i64 a, .int .i64 b, .int .i64 c, .int .i64 d, .int .i64 n]] => .leaf (.tup [.agg (rowL (frow nm)), .int .i64 (encE (nm, a, b, c, d, n))])
  | _ => .fail
theorem frow_mem {nm : List UInt8} (h : fok nm = true) : frow nm ∈ rowsL ∧ (frow nm).1 = nm ∧ findL nm = some (frow nm) := by
  unfold fok at h
  unfold frow
  cases hf : findL nm with
  | none => rw [hf] at h; cases h
  | some r =>
    unfold findL at hf
    exact ⟨List.mem_of_find?_eq_some hf, by simpa using List.find?_some hf, rfl⟩
theorem isRowB_of {x : RowT} (h : x ∈ rowsL) : isRowB x = true := List.any_eq_true.2 ⟨x, h, beq_self_eq_true _⟩
theorem cx20_ok : CxOk cx20 := cx1_ok (.cons findS_ok (ok1 faultyS_ok)) (fun p h => by cases h) rfl rfl
theorem chkS_ok : Sound Tryz.prog 20 chkS := by
  intro args out h
  unfold chkS at h
  split at h
  rotate_left
  · cases h
  rename_i nm a b c d n
  have h := leaf_out h
  subst h
  refine pcall_fun' (cx := cx20) (fn := Tryz.f20) cx20_ok (by kernel_rfl) (by kernel_rfl) rfl ((chkT_eq nm a b c d n).trans ?_)
  unfold chkT encE
  rw [br_run]
  cases hf : fok nm
  · have : frow nm = zeroR := by
      unfold fok at hf
      unfold frow
      cases hg : findL nm with
      | none => rfl
      | some r => rw [hg] at hf; cases hf
    rw [this]
    rfl
  · exact br_t (isRowB_of (frow_mem hf).1)
/-- The context of foundry/compact.May. -/
noncomputable def cx13 : Cx := { P := Tryz.prog, n := 12, tab := [(20, chkS)], mtab := [], refs := [], keeps := [0, 1, 2, 4] }
def mayT (nm : List UInt8) (a b c d n : Int) : Tree V :=
  (.leaf (.bool (encE (nm, a, b, c, d, n) == 0)))

theorem mayT_eq (nm : List UInt8) (a b c d n : Int) : (dfun cx13 Tryz.f13 [.agg [.str nm, .int .i64 a, .int .i64 b, .int .i64 c, .int .i64 d, .int .i64 n]]).run = (mayT nm a b c d n).run :=
  (show (dfun cx13 Tryz.f13 [.agg [.str nm, .int .i64 a, .int .i64 b, .int .i64 c, .int .i64 d, .int .i64 n]]).run = (mayT nm a b c d n).out by kernel_rfl).trans (Tree.out_run _)

def mayS : Ab.Spec := fun args => match args with
  | [.agg [.str nm, .int .i64 a, .int .i64 b, .int .i64 c, .int .i64 d, .int .i64 n]] => .leaf (.bool (encE (nm, a, b, c, d, n) == 0))
  | _ => .fail
theorem mayS_ok : Sound Tryz.prog 13 mayS := by
  intro args out h
  unfold mayS at h
  split at h
  rotate_left
  · cases h
  have h := leaf_out h
  subst h
  exact pcall_fun' (cx := cx13) (fn := Tryz.f13) (cx1_ok (ok1 chkS_ok) (fun p h => by cases h) rfl rfl) (by kernel_rfl) (by kernel_rfl) rfl (mayT_eq _ _ _ _ _ _)

end Go.Cmp
