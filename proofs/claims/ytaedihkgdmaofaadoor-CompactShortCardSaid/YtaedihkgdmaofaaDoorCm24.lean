/-
  The law Short: every call answers true. Conditions: none.
-/
import Derived.Test.YtaedihkgdmaofaaDoorCm22
namespace Go.Cmp
open Go Go.Ab Go.Proofs

/-- The context of foundry/foundrylaw9.CompactShort. -/
noncomputable def cx7 : Cx := { P := Tryd.prog, n := 69, tab := [(9, begunS), (20, shortS), (18, wideAS), (12, mayS)], mtab := [], refs := [], keeps := [0, 1, 2, 3, 4, 5, 6, 7, 8, 9, 10, 11, 12, 13, 15, 21, 38, 45] }
def bV (b : Bool) : Option V := some (.bool b)
/-- What the law comes to: its two halves. -/
def half2 (i : InsT) : Option V := cond (encE i != 0) (bV (insEq (wideA i) zeroI)) (cond (shOk (wideA i)) (cond (encE (shI (wideA i)) == 0) (bV (insEq (wideA (shI (wideA i))) (wideA i))) (bV false)) (bV false))
def half1 (i w : InsT) : Option V := cond (shOk w) (cond (encE (shI w) != 0) (bV false) (cond (!insEq (wideA (shI w)) w) (bV false) (cond (!(encE (shI w) == 0)) (bV false) (half2 i)))) (half2 i)
theorem shortLaw_eq (nm : List UInt8) (a b c d n : Int) (nm' : List UInt8) (a' b' c' d' n' : Int) : (dfun cx7 Tryd.f7 [.agg [.str nm, .int .i64 a, .int .i64 b, .int .i64 c, .int .i64 d, .int .i64 n], .agg [.str nm', .int .i64 a', .int .i64 b', .int .i64 c', .int .i64 d', .int .i64 n']]).fin =
    half1 (nm, a, b, c, d, n) (nm', a', b', c', d', n') := by kernel_rfl

theorem half2_true (i : InsT) : half2 i = bV true := by
  unfold half2 bne
  cases he : (encE i == 0)
  · have : wideA i = zeroI := by unfold wideA; rw [he]; rfl
    rw [this]
    show bV (insEq zeroI zeroI) = _
    rw [insEq_self]
  · have h := wide_short (eq_of_beq he)
    obtain ⟨h1, h2⟩ := short_wide h
    rw [h, h1, h2, insEq_self]
    rfl
theorem half1_true (i w : InsT) : half1 i w = bV true := by
  unfold half1 bne
  rw [half2_true]
  cases h : shOk w
  · rfl
  · obtain ⟨h1, h2⟩ := short_wide h
    rw [h1, h2, insEq_self]
    rfl
theorem short_law (i w : InsT) : PCall Tryd.prog 7 [insV i, insV w] (.bool true) :=
  pcall_fun' (cx := cx7) (fn := Tryd.f7) (cx1_ok (.cons begunS_ok (.cons shortS_ok (.cons wideAS_ok (ok1 mayS_ok)))) (fun p h => by cases h) rfl rfl) (by kernel_rfl) (by kernel_rfl) rfl
    ((Tree.fin_run _).symm.trans ((shortLaw_eq i.1 i.2.1 i.2.2.1 i.2.2.2.1 i.2.2.2.2.1 i.2.2.2.2.2 w.1 w.2.1 w.2.2.1 w.2.2.2.1 w.2.2.2.2.1 w.2.2.2.2.2).trans (half1_true i w)))

end Go.Cmp
