/-
  What is behind the opcode: the evaluators' trees. Conditions: none.
-/
import Derived.Test.YtlfnjldfmfjghaaAm20
namespace Go.Amd
open Go Go.Ab Go.Proofs

abbrev RestT := NumF → List Int → List Int → Fl → Bool → Int → Bool → RowT → List Int → Int → Int → Tree Res
/-- Form and whether there is a condition; the trees. -/
def formsA : List ((Int × Bool) × RestT) := [
  ((0, false), fun _N l sp fl fs R has x _op _c k => form0A l sp fl fs R has x k 0),
  ((1, false), fun _N l sp fl fs R has x op _c k => form1A l sp fl fs R has x op k 0),
  ((2, false), fun N l sp fl fs R has x op _c k => form2A N l sp fl fs R has x op k 0),
  ((3, false), fun _N l sp fl fs R has x _op c k => form3A l sp fl fs R has x c k 0),
  ((4, false), fun N l sp fl fs R has x _op c k => form4A N l sp fl fs R has x c k 0),
  ((5, false), fun N l sp fl fs R has x _op c k => form5A N l sp fl fs R has x c k 0),
  ((6, false), fun N l sp fl fs R has x op c k => form6A N l sp fl fs R has x op c k 0),
  ((7, false), fun _N l sp fl fs R has x _op c k => form7A l sp fl fs R has x c k 0),
  ((8, false), fun _N l sp fl fs R has x _op c k => form8A l sp fl fs R has x c k 0),
  ((8, true), fun _N l sp fl fs R has x op c k => lastA x op fun d => form8A l sp fl fs R has x c k d),
  ((9, false), fun N l sp fl fs R has x _op c k => form9A N l sp fl fs R has x c k),
  ((10, false), fun N l sp fl fs R has x _op c k => form10A N l sp fl fs R has x c k 0),
  ((11, false), fun N l sp fl fs R has x _op _c k => form11A N l sp fl fs R has x k 0),
  ((11, true), fun N l sp fl fs R has x op _c k => lastA x op fun d => form11A N l sp fl fs R has x k d),
  ((12, false), fun N l sp fl fs R has x _op _c k => form12A N l sp fl fs R has x k 0),
  ((12, true), fun N l sp fl fs R has x op _c k => lastA x op fun d => form12A N l sp fl fs R has x k d)]
abbrev w0S (l sp : List Int) (fl : Fl) : WS := (l, sp, fl, 0, false, 0, false)
/-- The whole, where opcode and chosen have answered. -/
noncomputable def allE (N : NumF) (l sp : List Int) (fl : Fl) (k1 : Int) (fs : Bool) (R : Int) (has : Bool) (x : RowT) (op : List Int) (c k : Int) : Tree Res :=
  vfun (cxAll N (w0S l sp fl) (l, sp, fl, k1, fs, R, has) op (.ok (opV op) [wkO l sp fl k1 fs R has]) (.ok (.tup [.agg (rowL x), .int .u8 c]) [wkO l sp fl k fs R has, rO x])) Try.f28 [.ptr 0 0] [wkS (w0S l sp fl)]
def allH (t : RestT) (N : NumF) (l sp : List Int) (fl : Fl) (k1 : Int) (fs : Bool) (R : Int) (has : Bool) (x : RowT) (op : List Int) (c k : Int) : Tree Res :=
  .br (eqW (l, sp, fl, 0, false, 0, false) (w0S l sp fl)) (.br (eqW (l, sp, fl, k1, fs, R, has) (l, sp, fl, k1, fs, R, has)) (.br (eqL op op) (t N l sp fl fs R has x op c k) .fail) .fail) .fail
theorem all_0 : ((formsA.drop 0).take 7).map (fun p N l sp fl k1 fs R has nm rex o16 dg lo hi os op c k => (allE N l sp fl k1 fs R has (nm, rex, o16, p.1.1, dg, p.1.2, lo, hi, os) op c k).out) =
    ((formsA.drop 0).take 7).map (fun p N l sp fl k1 fs R has nm rex o16 dg lo hi os op c k => (allH p.2 N l sp fl k1 fs R has (nm, rex, o16, p.1.1, dg, p.1.2, lo, hi, os) op c k).out) := by kernel_rfl
theorem all_1 : ((formsA.drop 7).take 4).map (fun p N l sp fl k1 fs R has nm rex o16 dg lo hi os op c k => (allE N l sp fl k1 fs R has (nm, rex, o16, p.1.1, dg, p.1.2, lo, hi, os) op c k).out) =
    ((formsA.drop 7).take 4).map (fun p N l sp fl k1 fs R has nm rex o16 dg lo hi os op c k => (allH p.2 N l sp fl k1 fs R has (nm, rex, o16, p.1.1, dg, p.1.2, lo, hi, os) op c k).out) := by kernel_rfl
theorem all_2 : ((formsA.drop 11).take 1).map (fun p N l sp fl k1 fs R has nm rex o16 dg lo hi os op c k => (allE N l sp fl k1 fs R has (nm, rex, o16, p.1.1, dg, p.1.2, lo, hi, os) op c k).out) =
    ((formsA.drop 11).take 1).map (fun p N l sp fl k1 fs R has nm rex o16 dg lo hi os op c k => (allH p.2 N l sp fl k1 fs R has (nm, rex, o16, p.1.1, dg, p.1.2, lo, hi, os) op c k).out) := by kernel_rfl
theorem all_3 : ((formsA.drop 12).take 4).map (fun p N l sp fl k1 fs R has nm rex o16 dg lo hi os op c k => (allE N l sp fl k1 fs R has (nm, rex, o16, p.1.1, dg, p.1.2, lo, hi, os) op c k).out) =
    ((formsA.drop 12).take 4).map (fun p N l sp fl k1 fs R has nm rex o16 dg lo hi os op c k => (allH p.2 N l sp fl k1 fs R has (nm, rex, o16, p.1.1, dg, p.1.2, lo, hi, os) op c k).out) := by kernel_rfl

end Go.Amd
