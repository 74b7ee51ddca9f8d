/-
  Which rows bytes open: the predicates. Conditions: none.
-/
import Derived.Test.YtlfnjldfmfjghaaAm9
namespace Go.Amd
open Go Go.Ab Go.Proofs

def and8 (a b : Int) : Int := IntKind.wrap .u8 ↑(BitVec.toNat (BitVec.ofInt 8 a &&& BitVec.ofInt 8 b))

/-! opens -/

def nthB (x : RowT) (c : Int) : Int := w8 (c - w8 x.2.2.1)
def opensH (x : RowT) (c : Int) (c0 : Int) : Tree V :=
  .br (condR x) (.br (decide (nthB x c < 16)) (tB (condF (wi (nthB x c)))) (tB false))
    (cond (formR x == 1 || formR x == 2) (tB (decide (nthB x c < 8))) (cond (formR x == 6) (.br (c0 == 131) (tB true) (tB (c0 == 129))) (tB (nthB x c == 0))))
theorem opens1_forms : forms.map (fun f nm rex op dg cn lo hi os c => (dfun cx68 Try.f68 [.agg (rowL (nm, rex, op, f, dg, cn, lo, hi, os)), .sl (.int .u8) ([c] : List Int) [] .full]).out) =
    forms.map (fun f nm rex op dg cn lo hi os c => (Tree.br (!(false == decide (255 < op))) (tB false) (opensH (nm, rex, op, f, dg, cn, lo, hi, os) c c)).out) := by kernel_rfl
theorem opens2_forms : forms.map (fun f nm rex op dg cn lo hi os c e => (dfun cx68 Try.f68 [.agg (rowL (nm, rex, op, f, dg, cn, lo, hi, os)), .sl (.int .u8) ([c, e] : List Int) [] .full]).out) =
    forms.map (fun f nm rex op dg cn lo hi os c e => (Tree.br (!(true == decide (255 < op))) (tB false) (.br (c != w8 (Int.fdiv op (2 ^ 8))) (tB false) (opensH (nm, rex, op, f, dg, cn, lo, hi, os) e c))).out) := by kernel_rfl

/-! prefixed -/

abbrev wkO (l sp : List Int) (fl : Fl) (k : Int) (fs : Bool) (R : Int) (has : Bool) : O := .cells [.sl (.int .u8) l sp fl, .int .i64 k, .bool fs, .int .u8 R, .bool has] 63
def tM (b : Bool) (H : List O) : Tree Res := .leaf (.ok (.bool b) H)
def unusedF (f : Int) : Int := cond (f == 0 || f == 11 || f == 12) 7 (cond (f == 1 || f == 2 || f == 3 || f == 4 || f == 5 || f == 6) 6 (cond (f == 7 || f == 8) 2 0))
def prefH (x : RowT) (fs : Bool) (R : Int) (has : Bool) (H : List O) : Tree Res :=
  .br (!(fs == (formR x == 10))) (tM false H) (.br (and8 R (unusedF (formR x)) != 0) (tM false H)
    (.br (x.2.1 == 1) (tM (and8 R 8 != 0) H) (.br (x.2.1 == 2) (.br has (tM (and8 R 8 == 0) H) (tM false H)) (.br (and8 R 8 == 0) (.br (!has) (tM true H) (tM (R != 0) H)) (tM false H)))))
theorem pref_forms : forms.map (fun f nm rex op dg cn lo hi os l sp fl k fs R has => (mfun cx69 Try.f69 [.agg (rowL (nm, rex, op, f, dg, cn, lo, hi, os)), .ptr 0 0] [wkO l sp fl k fs R has]).out) =
    forms.map (fun f nm rex op dg cn lo hi os l sp fl k fs R has => (prefH (nm, rex, op, f, dg, cn, lo, hi, os) fs R has ([wkO l sp fl k fs R has] ++ [.cells (rowL (nm, rex, op, f, dg, cn, lo, hi, os)) 54])).out) := by kernel_rfl

/-! modrm, fit -/

def modOf (f : Int) : Bool := !(f == 0 || f == 1 || f == 2 || f == 11 || f == 12)
theorem mod_forms : forms.map (fun f nm rex op dg cn lo hi os => (dfun cx70 Try.f70 [.agg (rowL (nm, rex, op, f, dg, cn, lo, hi, os))]).out) =
    forms.map (fun f _ _ _ _ _ _ _ _ => (tB (modOf f)).out) := by kernel_rfl
def fitH (x : RowT) (m dg rm : Int) : Tree V :=
  cond (formR x == 9) (tB (m != 3)) (cond (formR x == 10) (.br (m == 0) (tB (rm == 4)) (tB false)) (cond (formR x == 7 || formR x == 8) (tB (m == 3)) (.br (m == 3) (tB (dg == x.2.2.2.2.1)) (tB false))))
theorem fit_forms : forms.map (fun f nm rex op dg cn lo hi os m d rm => (dfun cx71 Try.f71 [.agg (rowL (nm, rex, op, f, dg, cn, lo, hi, os)), .int .u8 m, .int .u8 d, .int .u8 rm]).out) =
    forms.map (fun f nm rex op dg cn lo hi os m d rm => (fitH (nm, rex, op, f, dg, cn, lo, hi, os) m d rm).out) := by kernel_rfl

end Go.Amd
