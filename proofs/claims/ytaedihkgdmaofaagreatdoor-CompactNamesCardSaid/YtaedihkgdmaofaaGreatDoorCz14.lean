/-
  compact's Decode: what a row reads in a word, plainly. Conditions: none.
-/
import Derived.Test.YtaedihkgdmaofaaGreatDoorCz13
namespace Go.Cmp
open Go Go.Ab Go.Proofs

def zeroI : InsT := ([], 0, 0, 0, 0, 0)
def signI (x : RowT) (a b c n top : Int) : InsT :=
  (x.1, a, b, c, 0, cond (decide (x.2.2.1 < 0)) (cond (Int.fdiv n (2 ^ min (top - 1).toNat 64) != 0) (i64 (n - i64 (1 * 2 ^ min top.toNat 64))) n) n)
def readI (x : RowT) (w : Int) : List FldT → Int → Int → Int → Int → Int → Int → InsT × Bool
  | [], _, a, b, c, n, top => (signI x a b c n top, faultyF x (signI x a b c n top) == 0)
  | f :: r, left, a, b, c, n, top =>
    cond (f.2.1 == 0) (cond (takeF takeV f (left - f.1) w != i64 f.2.2.1) (zeroI, false) (readI x w r (left - f.1) a b c n top))
    (cond (f.2.1 == 97) (readI x w r (left - f.1) (takeF takeV f (left - f.1) w) b c n top)
    (cond (f.2.1 == 98) (readI x w r (left - f.1) a (takeF takeV f (left - f.1) w) c n top)
    (cond (f.2.1 == 99) (readI x w r (left - f.1) a b (takeF takeV f (left - f.1) w) n top)
    (readI x w r (left - f.1) a b c (or64 n (i64 (takeF takeV f (left - f.1) w * 2 ^ min f.2.2.2.1.toNat 64))) (max top (f.2.2.2.1 + f.1))))))
abbrev readV (p : InsT × Bool) : V := .tup [.agg (insL p.1), .bool p.2]
theorem signR_eq (x : RowT) (a b c n top : Int) : signR x a b c n top = some (readV (signI x a b c n top, faultyF x (signI x a b c n top) == 0)) := by
  unfold signR signI finR
  cases decide (x.2.2.1 < 0) <;> cases (Int.fdiv n (2 ^ min (top - 1).toNat 64) != 0) <;> rfl
theorem readR_eq (x : RowT) (w : Int) : ∀ (fs : List FldT) (left a b c n top : Int), readR takeV x w fs left a b c n top = some (readV (readI x w fs left a b c n top))
  | [], left, a, b, c, n, top => signR_eq x a b c n top
  | f :: r, left, a, b, c, n, top => by
    have ih := readR_eq x w r
    unfold readR readI
    simp only [ih]
    cases (f.2.1 == 0) <;> cases (f.2.1 == 97) <;> cases (f.2.1 == 98) <;> cases (f.2.1 == 99) <;> simp only [cond_true, cond_false]
    all_goals cases (takeF takeV f (left - f.1) w != i64 f.2.2.1) <;> rfl
/-- What a row reads in a word. -/
def readX (x : RowT) (w : Int) : InsT × Bool := readI x w (flds x) 16 0 0 0 0 0
def readS : Ab.Spec := fun args => match args with
  | [.agg [.str n, .str b, .int .i64 lo, .int .i64 hi, .int .i64 by_, .str no, .str lg], .int .u16 w] => .req (isRowB (n, b, lo, hi, by_, no, lg)) (.leaf (readV (readX (n, b, lo, hi, by_, no, lg) w)))
  | _ => .fail
theorem readS_ok : Sound Tryz.prog 24 readS := by
  intro args out h
  unfold readS at h
  split at h
  rotate_left
  · cases h
  rename_i n b lo hi by_ no lg w
  obtain ⟨h1, h⟩ := req_run h
  have h := leaf_out h
  subst h
  have hw := congrFun (congrFun (rd_all (isRowB_mem h1)) takeV) w
  unfold rdR rdO at hw
  exact pcall_fun' (cx := cxRd (flds (n, b, lo, hi, by_, no, lg)) takeV) (fn := Tryz.f24) (cxRd_ok _) (by kernel_rfl) (by kernel_rfl) rfl ((Tree.fin_run _).symm.trans (hw.trans (readR_eq _ _ _ _ _ _ _ _ _)))

end Go.Cmp
