/-
  Why an instruction may not be, plainly. Conditions: none.
-/
import Derived.Test.YtlfnjldfmfjghaaAm4
namespace Go.Amd
open Go Go.Ab Go.Proofs

def tailF (x : RowT) (o : Bool) (n : Int) : Int := cond (!o) 13 (cond (uI x) (cond (decide (n < lowR x)) 3 (cond (decide (highR x < n)) 3 0)) (cond (n != 0) 13 0))
def okF (x : RowT) (a b c d : Int) : Bool :=
  cond (uM x) (cond (regF a (uA x)) (placeF b c d) false) (cond (regF a (uA x)) (cond (regF b (uB x)) (cond (c == 0) (cond (d == 0) true (cond (condR x) (condF d) false)) false) false) false)
/-- Why an instruction of a row may not be; 0: it may. -/
def faultyF (x : RowT) (i : InsT) : Int := tailF x (okF x i.2.1 i.2.2.1 i.2.2.2.1 i.2.2.2.2.1) i.2.2.2.2.2

theorem tailH_run (x : RowT) (o : Bool) (n : Int) : (tailH x o n).run = some (.int .i64 (tailF x o n)) := by
  unfold tailH tailF tE
  cases o
  · rfl
  · cases (uI x)
    · cases (n != 0) <;> rfl
    · cases decide (n < lowR x)
      · cases decide (highR x < n) <;> rfl
      · rfl
theorem faultyH_run (x : RowT) (a b c d n : Int) : (faultyH x a b c d n).run = some (.int .i64 (tailF x (okF x a b c d) n)) := by
  unfold faultyH okF
  simp only [br_run, tailH_run]
  cases (uM x) <;> cases regF a (uA x) <;> cases regF b (uB x) <;> cases (c == 0) <;> cases (d == 0) <;> cases condR x <;> rfl

def faultyS : Ab.Spec := fun args => match args with
  | [.agg [.str nm, .int .i64 rex, .int .u16 op, .int .i64 f, .int .u8 dg, .bool cn, .int .i64 lo, .int .i64 hi, .str ops], .agg [.str i, .int .i64 a, .int .i64 b, .int .i64 c, .int .i64 d, .int .i64 n]] =>
    .req (formOk (nm, rex, op, f, dg, cn, lo, hi, ops)) (.leaf (.int .i64 (faultyF (nm, rex, op, f, dg, cn, lo, hi, ops) (i, a, b, c, d, n))))
  | _ => .fail
theorem faultyS_ok : Sound Try.prog 23 faultyS := by
  intro args out h
  unfold faultyS at h
  split at h
  rotate_left
  · cases h
  rename_i nm rex op f dg cn lo hi ops i a b c d n
  obtain ⟨h1, h⟩ := req_run h
  have h := leaf_out h
  subst h
  refine pcall_fun' (cx := cx23) (fn := Try.f23) cxFa_ok (by kernel_rfl) (by kernel_rfl) (by kernel_rfl) ?_
  have e := congrFun (congrFun (congrFun (congrFun (congrFun (congrFun (congrFun (congrFun (congrFun (congrFun (congrFun (congrFun (congrFun (congrFun (forms_of faulty_forms h1) nm) rex) op) dg) cn) lo) hi) ops) i) a) b) c) d) n
  exact (Tree.out_run _).symm.trans (e.trans ((Tree.out_run _).trans (faultyH_run (nm, rex, op, f, dg, cn, lo, hi, ops) a b c d n)))

end Go.Amd
