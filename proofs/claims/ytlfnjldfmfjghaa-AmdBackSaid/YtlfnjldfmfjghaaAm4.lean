/-
  What a row uses; why an instruction may not be. Conditions: none.
-/
import Derived.Test.YtlfnjldfmfjghaaAm3
namespace Go.Amd
open Go Go.Ab Go.Proofs

/-- The context of (foundry/amd.row).uses. -/
noncomputable def cx34 : Cx := { P := Try.prog, n := 29, tab := [], mtab := [], refs := [], keeps := [0, 1, 2, 3, 4, 5, 7, 8, 11, 17, 20, 22] }
noncomputable def usesS : Ab.Spec := fun args => .req (Nat.ble args.length Try.f34.ntmps) (dfun cx34 Try.f34 args)
theorem usesS_ok : Sound Try.prog 34 usesS := sound_fun (cx := cx34) (fn := Try.f34) (cx0_ok rfl rfl) (by kernel_rfl) (by kernel_rfl)

/-- The context of (foundry/amd.row).faulty. -/
noncomputable def cx23 : Cx := { P := Try.prog, n := 81, tab := [(34, usesS), (35, registerS), (36, placeS), (37, conditionS)], mtab := [], refs := [], keeps := [0, 1, 2, 3, 4, 5, 6, 7, 8, 9, 21, 53, 65] }
theorem cxFa_ok : CxOk cx23 := cx1_ok (.cons usesS_ok (.cons registerS_ok (.cons placeS_ok (ok1 conditionS_ok)))) (.nil _) rfl rfl

def formR (x : RowT) : Int := x.2.2.2.1
def condR (x : RowT) : Bool := x.2.2.2.2.2.1
def lowR (x : RowT) : Int := x.2.2.2.2.2.2.1
def highR (x : RowT) : Int := x.2.2.2.2.2.2.2.1
def uA (x : RowT) : Bool := !(formR x == 0 || formR x == 11 || formR x == 12)
def uB (x : RowT) : Bool := formR x == 7 || formR x == 8
def uM (x : RowT) : Bool := formR x == 9
def uI (x : RowT) : Bool := formR x == 2 || formR x == 4 || formR x == 5 || formR x == 6 || formR x == 9 || formR x == 10 || formR x == 11 || formR x == 12

def tE (n : Int) : Tree V := .leaf (.int .i64 n)
def tailH (x : RowT) (o : Bool) (n : Int) : Tree V :=
  .br (!o) (tE 13) (.br (uI x) (.br (decide (n < lowR x)) (tE 3) (.br (decide (highR x < n)) (tE 3) (tE 0))) (.br (n != 0) (tE 13) (tE 0)))
def faultyH (x : RowT) (a b c d n : Int) : Tree V :=
  .br (uM x) (.br (regF a (uA x)) (tailH x (placeF b c d) n) (tailH x false n))
    (.br (regF a (uA x)) (.br (regF b (uB x)) (.br (c == 0) (.br (d == 0) (tailH x true n) (.br (condR x) (tailH x (condF d) n) (tailH x false n))) (tailH x false n)) (tailH x false n)) (tailH x false n))

/-! Form by form. -/

def forms : List Int := [0, 1, 2, 3, 4, 5, 6, 7, 8, 9, 10, 11, 12]
def formOk (x : RowT) : Bool := forms.contains (formR x)
theorem rows_forms : rowsL.all formOk = true := by kernel_rfl
theorem forms_of {β : Type} {f g : Int → β} (h : forms.map f = forms.map g) {x : RowT} (hx : formOk x = true) : f (formR x) = g (formR x) :=
  List.map_inj_left.1 h _ (by simpa [formOk] using hx)

theorem faulty_forms : forms.map (fun f nm rex op dg cn lo hi ops i a b c d n => (dfun cx23 Try.f23 [.agg (rowL (nm, rex, op, f, dg, cn, lo, hi, ops)), .agg [.str i, .int .i64 a, .int .i64 b, .int .i64 c, .int .i64 d, .int .i64 n]]).out) =
    forms.map (fun f nm rex op dg cn lo hi ops _ a b c d n => (faultyH (nm, rex, op, f, dg, cn, lo, hi, ops) a b c d n).out) := by kernel_rfl

end Go.Amd
