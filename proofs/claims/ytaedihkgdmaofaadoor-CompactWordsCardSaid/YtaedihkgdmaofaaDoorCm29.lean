/-
  compact: what the document reads in a word. Conditions: none.
-/
import Derived.Test.YtaedihkgdmaofaaDoorCm28
namespace Go.Cmp
open Go Go.Ab Go.Proofs

noncomputable def cxReX : Cx := { P := Tryd.prog, n := 116, tab := (hasA 1).tab, mtab := [], refs := [16], keeps := [0, 1, 2, 4, 5, 6, 7, 8, 9, 10, 11, 12, 18, 37, 55, 69, 71, 79, 96], fuel := 18 }
theorem cxReX_ok : CxOk cxReX := cx1_ok (deep_ok (tabs_ok (.nil _) (fun p h => by cases h)) hasA_ps_ok hasA_ms_ok 1).1 (fun p h => by cases h) rfl rfl
/-- The bit at a place, from the left. -/
def bitK (w : Int) (k : Nat) : Int := i64 (and16 (Int.fdiv w (2 ^ (15 - k))) 1)
def dbl (r w : Int) (k : Nat) : Int := i64 (i64 (2 * r) + bitK w k)
/-- Registers and number, letter by letter. -/
def redX (w : Int) : List UInt8 → Nat → Int → Int → Int → Int → Int → Int × Int × Int × Int × Int
  | [], _, a, b, c, n, top => (a, b, c, n, top)
  | ch :: r, k, a, b, c, n, top =>
    cond (ch == 97) (redX w r (k + 1) (dbl a w k) b c n top)
    (cond (ch == 98) (redX w r (k + 1) a (dbl b w k) c n top)
    (cond (ch == 99) (redX w r (k + 1) a b (dbl c w k) n top)
    (cond (Nat.ble 65 ch.toNat && Nat.ble ch.toNat 76) (redX w r (k + 1) a b c (or64 n (i64 (bitK w k * 2 ^ (ch.toNat - 65)))) (max top (ch.toNat - 65)))
    (redX w r (k + 1) a b c n top))))
def upX (y : TabT) (ch : UInt8) (r : Int) : Int := cond (y.2.2.2.1 && y.2.2.1.contains ch) (i64 (r + 8)) r
def rdX1 (y : TabT) (q : Int × Int × Int × Int × Int) : Option V :=
  let m (n : Int) : Option V := some (insV (y.1, upX y 65 q.1, upX y 66 q.2.1, upX y 67 q.2.2.1, 0, n))
  cond (decide (y.2.2.2.2.1 < 0)) (cond (decide (i64 (1 * 2 ^ q.2.2.2.2.toNat) ≤ q.2.2.2.1)) (m (i64 (q.2.2.2.1 - i64 (2 * 2 ^ q.2.2.2.2.toNat)))) (m q.2.2.2.1)) (m q.2.2.2.1)
noncomputable def reR (p : RowT × TabT) (w : Int) : Option V := (dfun cxReX Tryd.f35 [.agg (tabLV p.2), .int .u16 w]).fin
def reO (p : RowT × TabT) (w : Int) : Option V := rdX1 p.2 (redX w p.2.2.1 0 0 0 0 0 0)
theorem re_0 : ((partT 0).take 1).map reR = ((partT 0).take 1).map reO := by kernel_rfl

end Go.Cmp
