/-
  Which rows bytes open: plain predicates. Conditions: none.
-/
import Derived.Test.YtlfnjldfmfjghaaAm14
namespace Go.Amd
open Go Go.Ab Go.Proofs

def opF (x : RowT) (c c0 : Int) : Bool :=
  cond (condR x) (cond (decide (nthB x c < 16)) (condF (wi (nthB x c))) false)
    (cond (formR x == 1 || formR x == 2) (decide (nthB x c < 8)) (cond (formR x == 6) (cond (c0 == 131) true (c0 == 129)) (nthB x c == 0)))
/-- Does an opcode open a row? -/
def opensF (x : RowT) : List Int → Bool
  | [c] => cond (decide (255 < x.2.2.1)) false (opF x c c)
  | [c, e] => cond (decide (255 < x.2.2.1)) (cond (c != w8 (Int.fdiv x.2.2.1 (2 ^ 8))) false (opF x e c)) false
  | _ => false
theorem opensH_run (x : RowT) (c c0 : Int) : (opensH x c c0).run = some (.bool (opF x c c0)) := by
  unfold opensH opF tB
  rw [br_run, br_run]
  cases condR x
  · cases (formR x == 1 || formR x == 2)
    · cases (formR x == 6)
      · rfl
      · cases (c0 == 131) <;> rfl
    · rfl
  · cases decide (nthB x c < 16) <;> rfl

theorem opens1_run (x : RowT) (c : Int) : (Tree.br (!(false == decide (255 < x.2.2.1))) (tB false) (opensH x c c)).run = some (.bool (opensF x [c])) := by
  rw [br_run, opensH_run]
  unfold opensF
  cases decide (255 < x.2.2.1) <;> rfl
theorem opens2_run (x : RowT) (c e : Int) : (Tree.br (!(true == decide (255 < x.2.2.1))) (tB false) (.br (c != w8 (Int.fdiv x.2.2.1 (2 ^ 8))) (tB false) (opensH x e c))).run = some (.bool (opensF x [c, e])) := by
  rw [br_run, br_run, opensH_run]
  show _ = some (V.bool (cond (decide (255 < x.2.2.1)) (cond (c != w8 (Int.fdiv x.2.2.1 (2 ^ 8))) false (opF x e c)) false))
  cases decide (255 < x.2.2.1)
  · rfl
  · cases (c != w8 (Int.fdiv x.2.2.1 (2 ^ 8))) <;> rfl

def opensS : Ab.Spec := fun args => match args with
  | [.agg [.str nm, .int .i64 rex, .int .u16 op, .int .i64 f, .int .u8 dg, .bool cn, .int .i64 lo, .int .i64 hi, .str ops], .sl (.int .u8) [c] [] .full] =>
    .req (formOk (nm, rex, op, f, dg, cn, lo, hi, ops)) (.leaf (.bool (opensF (nm, rex, op, f, dg, cn, lo, hi, ops) [c])))
  | [.agg [.str nm, .int .i64 rex, .int .u16 op, .int .i64 f, .int .u8 dg, .bool cn, .int .i64 lo, .int .i64 hi, .str ops], .sl (.int .u8) [c, e] [] .full] =>
    .req (formOk (nm, rex, op, f, dg, cn, lo, hi, ops)) (.leaf (.bool (opensF (nm, rex, op, f, dg, cn, lo, hi, ops) [c, e])))
  | _ => .fail
theorem cxOp_ok : CxOk cx68 := cx1_ok (ok1 conditionS_ok) (.nil _) rfl rfl
theorem opensS_ok : Sound Try.prog 68 opensS := by
  intro args out h
  unfold opensS at h
  split at h
  · rename_i nm rex op f dg cn lo hi os c
    obtain ⟨h1, h⟩ := req_run h
    have h := leaf_out h
    subst h
    refine pcall_fun' (cx := cx68) (fn := Try.f68) cxOp_ok (by kernel_rfl) (by kernel_rfl) (by kernel_rfl) ?_
    have e := congrFun (congrFun (congrFun (congrFun (congrFun (congrFun (congrFun (congrFun (congrFun (forms_of opens1_forms h1) nm) rex) op) dg) cn) lo) hi) os) c
    exact (Tree.out_run _).symm.trans (e.trans ((Tree.out_run _).trans (opens1_run (nm, rex, op, f, dg, cn, lo, hi, os) c)))
  · rename_i nm rex op f dg cn lo hi os c c2
    obtain ⟨h1, h⟩ := req_run h
    have h := leaf_out h
    subst h
    refine pcall_fun' (cx := cx68) (fn := Try.f68) cxOp_ok (by kernel_rfl) (by kernel_rfl) (by kernel_rfl) ?_
    have e := congrFun (congrFun (congrFun (congrFun (congrFun (congrFun (congrFun (congrFun (congrFun (congrFun (forms_of opens2_forms h1) nm) rex) op) dg) cn) lo) hi) os) c) c2
    exact (Tree.out_run _).symm.trans (e.trans ((Tree.out_run _).trans (opens2_run (nm, rex, op, f, dg, cn, lo, hi, os) c c2)))
  · cases h

def prefF (x : RowT) (fs : Bool) (R : Int) (has : Bool) : Bool :=
  cond (!(fs == (formR x == 10))) false (cond (and8 R (unusedF (formR x)) != 0) false
    (cond (x.2.1 == 1) (and8 R 8 != 0) (cond (x.2.1 == 2) (cond has (and8 R 8 == 0) false) (cond (and8 R 8 == 0) (cond (!has) true (R != 0)) false))))
theorem prefH_run (x : RowT) (fs : Bool) (R : Int) (has : Bool) (H : List O) : (prefH x fs R has H).run = some (.ok (.bool (prefF x fs R has)) H) := by
  unfold prefH prefF tM
  simp only [br_run]
  cases (!(fs == (formR x == 10))) <;> cases (and8 R (unusedF (formR x)) != 0) <;> cases (x.2.1 == 1) <;> cases (x.2.1 == 2) <;> cases has <;> cases (and8 R 8 == 0) <;> rfl

def prefS : MSpec := fun args H => match args, H with
  | [.agg [.str nm, .int .i64 rex, .int .u16 op, .int .i64 f, .int .u8 dg, .bool cn, .int .i64 lo, .int .i64 hi, .str ops], .ptr 0 0], [.cells [.sl (.int .u8) l sp fl, .int .i64 k, .bool fs, .int .u8 R, .bool has] 63] =>
    .req (formOk (nm, rex, op, f, dg, cn, lo, hi, ops)) (.leaf (.ok (.bool (prefF (nm, rex, op, f, dg, cn, lo, hi, ops) fs R has)) ([wkO l sp fl k fs R has] ++ [.cells (rowL (nm, rex, op, f, dg, cn, lo, hi, ops)) 54])))
  | _, _ => .fail
theorem prefS_ok : MSound Try.prog 69 prefS := by
  intro args H r h
  unfold prefS at h
  split at h
  rotate_left
  · cases h
  rename_i nm rex op f dg cn lo hi os l sp fl k fs R has
  obtain ⟨h1, h⟩ := req_run h
  have h := leaf_out h
  subst h
  refine mcall_fun' (cx := cx69) (fn := Try.f69) (cx1_ok (.nil _) (.nil _) rfl rfl) (by kernel_rfl) (by kernel_rfl) (by kernel_rfl) ?_
  have e := congrFun (congrFun (congrFun (congrFun (congrFun (congrFun (congrFun (congrFun (congrFun (congrFun (congrFun (congrFun (congrFun (congrFun (congrFun (forms_of pref_forms h1) nm) rex) op) dg) cn) lo) hi) os) l) sp) fl) k) fs) R) has
  exact (Tree.out_run _).symm.trans (e.trans ((Tree.out_run _).trans (prefH_run _ _ _ _ _)))

def hasModS : Ab.Spec := fun args => match args with
  | [.agg [.str nm, .int .i64 rex, .int .u16 op, .int .i64 f, .int .u8 dg, .bool cn, .int .i64 lo, .int .i64 hi, .str ops]] => .req (formOk (nm, rex, op, f, dg, cn, lo, hi, ops)) (.leaf (.bool (modOf f)))
  | _ => .fail
theorem hasModS_ok : Sound Try.prog 70 hasModS := by
  intro args out h
  unfold hasModS at h
  split at h
  rotate_left
  · cases h
  rename_i nm rex op f dg cn lo hi os
  obtain ⟨h1, h⟩ := req_run h
  have h := leaf_out h
  subst h
  refine pcall_fun' (cx := cx70) (fn := Try.f70) (cx1_ok (.nil _) (.nil _) rfl rfl) (by kernel_rfl) (by kernel_rfl) (by kernel_rfl) ?_
  have e := congrFun (congrFun (congrFun (congrFun (congrFun (congrFun (congrFun (congrFun (forms_of mod_forms h1) nm) rex) op) dg) cn) lo) hi) os
  exact (Tree.out_run _).symm.trans (e.trans ((Tree.out_run _).trans rfl))

def fitF (x : RowT) (m dg rm : Int) : Bool :=
  cond (formR x == 9) (m != 3) (cond (formR x == 10) (cond (m == 0) (rm == 4) false) (cond (formR x == 7 || formR x == 8) (m == 3) (cond (m == 3) (dg == x.2.2.2.2.1) false)))
theorem fitH_run (x : RowT) (m dg rm : Int) : (fitH x m dg rm).run = some (.bool (fitF x m dg rm)) := by
  unfold fitH fitF tB
  cases (formR x == 9) <;> cases (formR x == 10) <;> cases (formR x == 7 || formR x == 8) <;> cases (m == 0) <;> cases (m == 3) <;> rfl
def fitS : Ab.Spec := fun args => match args with
  | [.agg [.str nm, .int .i64 rex, .int .u16 op, .int .i64 f, .int .u8 dg, .bool cn, .int .i64 lo, .int .i64 hi, .str ops], .int .u8 m, .int .u8 d, .int .u8 rm] =>
    .req (formOk (nm, rex, op, f, dg, cn, lo, hi, ops)) (.leaf (.bool (fitF (nm, rex, op, f, dg, cn, lo, hi, ops) m d rm)))
  | _ => .fail
theorem fitS_ok : Sound Try.prog 71 fitS := by
  intro args out h
  unfold fitS at h
  split at h
  rotate_left
  · cases h
  rename_i nm rex op f dg cn lo hi os m d rm
  obtain ⟨h1, h⟩ := req_run h
  have h := leaf_out h
  subst h
  refine pcall_fun' (cx := cx71) (fn := Try.f71) (cx1_ok (.nil _) (.nil _) rfl rfl) (by kernel_rfl) (by kernel_rfl) (by kernel_rfl) ?_
  have e := congrFun (congrFun (congrFun (congrFun (congrFun (congrFun (congrFun (congrFun (congrFun (congrFun (congrFun (forms_of fit_forms h1) nm) rex) op) dg) cn) lo) hi) os) m) d) rm
  exact (Tree.out_run _).symm.trans (e.trans ((Tree.out_run _).trans (fitH_run _ _ _ _)))

end Go.Amd
