/-
  compact: the long one of a row's instruction. Conditions: none.
-/
import Derived.Test.YtaedihkgdmaofaaGreatDoorCz15
namespace Go.Cmp
open Go Go.Ab Go.Proofs

/-- A register of the long one: of A, B, C (1, 2, 3), or as it is written; the number, or none. -/
abbrev LongT := List UInt8 × (Int × Int) × (Int × Int) × (Int × Int) × Bool
def longL : List (List UInt8 × LongT) := [
  ([99, 46, 97, 100, 100, 105, 52, 115, 112, 110], ([97, 100, 100, 105], (1, 0), (0, 2), (0, 0), true)),
  ([99, 46, 108, 119], ([108, 119], (1, 0), (2, 0), (0, 0), true)),
  ([99, 46, 108, 100], ([108, 100], (1, 0), (2, 0), (0, 0), true)),
  ([99, 46, 115, 119], ([115, 119], (0, 0), (2, 0), (3, 0), true)),
  ([99, 46, 115, 100], ([115, 100], (0, 0), (2, 0), (3, 0), true)),
  ([99, 46, 110, 111, 112], ([97, 100, 100, 105], (0, 0), (0, 0), (0, 0), false)),
  ([99, 46, 97, 100, 100, 105], ([97, 100, 100, 105], (1, 0), (1, 0), (0, 0), true)),
  ([99, 46, 97, 100, 100, 105, 119], ([97, 100, 100, 105, 119], (1, 0), (1, 0), (0, 0), true)),
  ([99, 46, 108, 105], ([97, 100, 100, 105], (1, 0), (0, 0), (0, 0), true)),
  ([99, 46, 97, 100, 100, 105, 49, 54, 115, 112], ([97, 100, 100, 105], (0, 2), (0, 2), (0, 0), true)),
  ([99, 46, 108, 117, 105], ([108, 117, 105], (1, 0), (0, 0), (0, 0), true)),
  ([99, 46, 115, 114, 108, 105], ([115, 114, 108, 105], (1, 0), (1, 0), (0, 0), true)),
  ([99, 46, 115, 114, 97, 105], ([115, 114, 97, 105], (1, 0), (1, 0), (0, 0), true)),
  ([99, 46, 97, 110, 100, 105], ([97, 110, 100, 105], (1, 0), (1, 0), (0, 0), true)),
  ([99, 46, 115, 117, 98], ([115, 117, 98], (1, 0), (1, 0), (3, 0), false)),
  ([99, 46, 120, 111, 114], ([120, 111, 114], (1, 0), (1, 0), (3, 0), false)),
  ([99, 46, 111, 114], ([111, 114], (1, 0), (1, 0), (3, 0), false)),
  ([99, 46, 97, 110, 100], ([97, 110, 100], (1, 0), (1, 0), (3, 0), false)),
  ([99, 46, 115, 117, 98, 119], ([115, 117, 98, 119], (1, 0), (1, 0), (3, 0), false)),
  ([99, 46, 97, 100, 100, 119], ([97, 100, 100, 119], (1, 0), (1, 0), (3, 0), false)),
  ([99, 46, 106], ([106, 97, 108], (0, 0), (0, 0), (0, 0), true)),
  ([99, 46, 98, 101, 113, 122], ([98, 101, 113], (0, 0), (2, 0), (0, 0), true)),
  ([99, 46, 98, 110, 101, 122], ([98, 110, 101], (0, 0), (2, 0), (0, 0), true)),
  ([99, 46, 115, 108, 108, 105], ([115, 108, 108, 105], (1, 0), (1, 0), (0, 0), true)),
  ([99, 46, 108, 119, 115, 112], ([108, 119], (1, 0), (0, 2), (0, 0), true)),
  ([99, 46, 108, 100, 115, 112], ([108, 100], (1, 0), (0, 2), (0, 0), true)),
  ([99, 46, 106, 114], ([106, 97, 108, 114], (0, 0), (2, 0), (0, 0), false)),
  ([99, 46, 106, 97, 108, 114], ([106, 97, 108, 114], (0, 1), (2, 0), (0, 0), false)),
  ([99, 46, 109, 118], ([97, 100, 100], (1, 0), (0, 0), (3, 0), false)),
  ([99, 46, 97, 100, 100], ([97, 100, 100], (1, 0), (1, 0), (3, 0), false)),
  ([99, 46, 101, 98, 114, 101, 97, 107], ([101, 98, 114, 101, 97, 107], (0, 0), (0, 0), (0, 0), false)),
  ([99, 46, 115, 119, 115, 112], ([115, 119], (0, 0), (0, 2), (3, 0), true)),
  ([99, 46, 115, 100, 115, 112], ([115, 100], (0, 0), (0, 2), (3, 0), true))]
def longs (x : RowT) : LongT := ((longL.find? fun p => p.1 == x.1).map (·.2)).getD ([], (0, 0), (0, 0), (0, 0), false)
def selF (p : Int × Int) (i : InsT) : Int := cond (p.1 == 1) i.2.1 (cond (p.1 == 2) i.2.2.1 (cond (p.1 == 3) i.2.2.2.1 p.2))
def wideF (t : LongT) (i : InsT) : InsT := (t.1, selF t.2.1 i, selF t.2.2.1 i, selF t.2.2.2.1 i, 0, cond t.2.2.2.2 i.2.2.2.2.2 0)

/-- What a word of a long one says. -/
def tokL : List (List UInt8 × (Int × Int)) := [([65], (1, 0)), ([66], (2, 0)), ([67], (3, 0)), ([48], (0, 0)), ([49], (0, 1)), ([50], (0, 2))]
noncomputable def cxV : Cx := { P := Tryz.prog, n := 25, tab := [(38, atoiS)], mtab := [], refs := [], keeps := [0, 1, 3, 4, 6, 7, 11, 15] }
theorem cxV_ok : CxOk cxV := cx1_ok (ok1 atoiS_ok) (fun p h => by cases h) rfl rfl
noncomputable def tokR (p : List UInt8 × (Int × Int)) (i : InsT) : Option (V × List O) := mfunD cxV Tryz.f41 [.str p.1, .ptr 0 0] [insO i] []
def tokO (p : List UInt8 × (Int × Int)) (i : InsT) : Option (V × List O) := some (.int .i64 (selF p.2 i), [insO i])
theorem tok_all : tokL.map tokR = tokL.map tokO := by kernel_rfl

def valueR : RSpec := fun args H => match args, H with
  | [.str t, .ptr 0 0], [.cells [.str nm, .int .i64 a, .int .i64 b, .int .i64 c, .int .i64 d, .int .i64 n] 37] => match tokL.find? (fun p => p.1 == t) with
    | some p => .leaf (.int .i64 (selF p.2 (nm, a, b, c, d, n)))
    | none => .fail
  | _, _ => .fail
theorem valueR_ok : RSound Tryz.prog 41 valueR := by
  intro args H out h
  unfold valueR at h
  split at h
  rotate_left
  · cases h
  rename_i t nm a b c d n
  cases hf : tokL.find? (fun p => p.1 == t) with
  | none => rw [hf] at h; cases h
  | some p =>
    rw [hf] at h
    cases h
    have he : p.1 = t := by simpa using List.find?_some hf
    subst he
    have hw := congrFun (of_map tok_all (List.mem_of_find?_eq_some hf)) (nm, a, b, c, d, n)
    unfold tokR tokO at hw
    exact mcall_funD (cx := cxV) (fn := Tryz.f41) [] cxV_ok (by kernel_rfl) (by kernel_rfl) (by kernel_rfl) (by kernel_rfl) hw

noncomputable def cxWd : Cx := { P := Tryz.prog, n := 39, tab := [(36, wordsS)], mtab := [], rtab := [(41, valueR)], refs := [], keeps := [0, 1, 2, 3, 4, 5, 6, 7, 34] }
theorem cxWd_ok : CxOk cxWd := ⟨ok1 wordsS_ok, (fun p h => by cases h), .cons valueR_ok (.nil _), fun p h => by cases h⟩
noncomputable def wideR (p : RowT × LongT) (i : InsT) : Option V := (dfun cxWd Tryz.f25 [.agg (rowL p.1), .agg (insL i)]).fin
def wideO (p : RowT × LongT) (i : InsT) : Option V := some (insV (wideF p.2 i))
def pairsW : List (RowT × LongT) := rowsL.zip (longL.map (·.2))
theorem pairsW_eq : (rowsL.map fun x => (x, longs x)) = pairsW := by kernel_rfl
theorem pairsW_mem {x : RowT} (hx : x ∈ rowsL) : (x, longs x) ∈ pairsW := by
  rw [← pairsW_eq]
  exact List.mem_map_of_mem hx
def partL (k : Nat) : List (RowT × LongT) := (pairsW.drop (6 * k)).take 6
theorem wide_0 : (partL 0).map wideR = (partL 0).map wideO := by kernel_rfl

theorem wide_1 : (partL 1).map wideR = (partL 1).map wideO := by kernel_rfl
theorem wide_2 : (partL 2).map wideR = (partL 2).map wideO := by kernel_rfl
theorem wide_3 : (partL 3).map wideR = (partL 3).map wideO := by kernel_rfl
theorem wide_4 : (partL 4).map wideR = (partL 4).map wideO := by kernel_rfl
theorem wide_5 : (partL 5).map wideR = (partL 5).map wideO := by kernel_rfl
theorem pairsW_len : pairsW.length ≤ 36 := by
  have h : rowsL.length = 33 := by kernel_rfl
  rw [← pairsW_eq, List.length_map]
  omega
theorem wide_all {x : RowT} (hx : x ∈ rowsL) : wideR (x, longs x) = wideO (x, longs x) :=
  six_all (l := pairsW) pairsW_len (fun k hk => match k, hk with
    | 0, _ => wide_0
    | 1, _ => wide_1
    | 2, _ => wide_2
    | 3, _ => wide_3
    | 4, _ => wide_4
    | 5, _ => wide_5) (pairsW_mem hx)
def wideS : Ab.Spec := fun args => match args with
  | [.agg [.str n, .str b, .int .i64 lo, .int .i64 hi, .int .i64 by_, .str no, .str lg], .agg [.str nm, .int .i64 ia, .int .i64 ib, .int .i64 ic, .int .i64 id, .int .i64 im]] =>
    .req (isRowB (n, b, lo, hi, by_, no, lg)) (.leaf (insV (wideF (longs (n, b, lo, hi, by_, no, lg)) (nm, ia, ib, ic, id, im))))
  | _ => .fail
theorem wideS_ok : Sound Tryz.prog 25 wideS := by
  intro args out h
  unfold wideS at h
  split at h
  rotate_left
  · cases h
  rename_i n b lo hi by_ no lg nm ia ib ic id im
  obtain ⟨h1, h⟩ := req_run h
  have h := leaf_out h
  subst h
  have hw := congrFun (wide_all (isRowB_mem h1)) (nm, ia, ib, ic, id, im)
  unfold wideR wideO at hw
  exact pcall_fun' (cx := cxWd) (fn := Tryz.f25) cxWd_ok (by kernel_rfl) (by kernel_rfl) rfl ((Tree.fin_run _).symm.trans hw)

end Go.Cmp
