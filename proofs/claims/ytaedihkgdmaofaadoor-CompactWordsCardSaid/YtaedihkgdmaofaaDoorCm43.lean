/-
  compact: a long one may be encoded (riscv.Encode). Conditions: none.
-/
import Derived.Test.YtaedihkgdmaofaaDoorCm41
namespace Go.Cmp
open Go Go.Ab Go.Proofs

/-- The context of (*foundry/riscv.list).add. -/
noncomputable def cx80 : Cx := { P := Tryd.prog, n := 37, tab := [], mtab := [], refs := [], keeps := [0, 1, 2, 3, 9, 10, 11, 12, 13], fuel := 20 }
noncomputable def rows80S : MSpec := fun args H => .req (Nat.ble args.length Tryd.f80.ntmps) (mfun cx80 Tryd.f80 args H)
theorem rows80S_ok : MSound Tryd.prog 80 rows80S := msound_fun (cx := cx80) (fn := Tryd.f80) (cx0_ok rfl rfl) (by kernel_rfl) (by kernel_rfl)
/-- The context of foundry/riscv.rows. -/
noncomputable def cx60 : Cx := { P := Tryd.prog, n := 96, tab := [], mtab := [(80, rows80S)], refs := [], keeps := [0, 1] }
abbrev rowRE : EC := .prod [.str, .int .i64, .int .u32]
/-- A row: name, form, bits. -/
abbrev RowR := List UInt8 × Int × Int
def rowsRL : List RowR := [
  ([97, 100, 100], 0, 51),
  ([115, 117, 98], 0, 1073741875),
  ([115, 108, 108], 0, 4147),
  ([115, 108, 116], 0, 8243),
  ([115, 108, 116, 117], 0, 12339),
  ([120, 111, 114], 0, 16435),
  ([115, 114, 108], 0, 20531),
  ([115, 114, 97], 0, 1073762355),
  ([111, 114], 0, 24627),
  ([97, 110, 100], 0, 28723),
  ([109, 117, 108], 0, 33554483),
  ([109, 117, 108, 104], 0, 33558579),
  ([109, 117, 108, 104, 115, 117], 0, 33562675),
  ([109, 117, 108, 104, 117], 0, 33566771),
  ([100, 105, 118], 0, 33570867),
  ([100, 105, 118, 117], 0, 33574963),
  ([114, 101, 109], 0, 33579059),
  ([114, 101, 109, 117], 0, 33583155),
  ([97, 100, 100, 119], 0, 59),
  ([115, 117, 98, 119], 0, 1073741883),
  ([115, 108, 108, 119], 0, 4155),
  ([115, 114, 108, 119], 0, 20539),
  ([115, 114, 97, 119], 0, 1073762363),
  ([109, 117, 108, 119], 0, 33554491),
  ([100, 105, 118, 119], 0, 33570875),
  ([100, 105, 118, 117, 119], 0, 33574971),
  ([114, 101, 109, 119], 0, 33579067),
  ([114, 101, 109, 117, 119], 0, 33583163),
  ([97, 100, 100, 105], 1, 19),
  ([115, 108, 116, 105], 1, 8211),
  ([115, 108, 116, 105, 117], 1, 12307),
  ([120, 111, 114, 105], 1, 16403),
  ([111, 114, 105], 1, 24595),
  ([97, 110, 100, 105], 1, 28691),
  ([97, 100, 100, 105, 119], 1, 27),
  ([108, 98], 1, 3),
  ([108, 104], 1, 4099),
  ([108, 119], 1, 8195),
  ([108, 100], 1, 12291),
  ([108, 98, 117], 1, 16387),
  ([108, 104, 117], 1, 20483),
  ([108, 119, 117], 1, 24579),
  ([106, 97, 108, 114], 1, 103),
  ([115, 108, 108, 105], 2, 4115),
  ([115, 114, 108, 105], 2, 20499),
  ([115, 114, 97, 105], 2, 1073762323),
  ([115, 108, 108, 105, 119], 3, 4123),
  ([115, 114, 108, 105, 119], 3, 20507),
  ([115, 114, 97, 105, 119], 3, 1073762331),
  ([115, 98], 4, 35),
  ([115, 104], 4, 4131),
  ([115, 119], 4, 8227),
  ([115, 100], 4, 12323),
  ([98, 101, 113], 5, 99),
  ([98, 110, 101], 5, 4195),
  ([98, 108, 116], 5, 16483),
  ([98, 103, 101], 5, 20579),
  ([98, 108, 116, 117], 5, 24675),
  ([98, 103, 101, 117], 5, 28771),
  ([108, 117, 105], 6, 55),
  ([97, 117, 105, 112, 99], 6, 23),
  ([106, 97, 108], 7, 111),
  ([101, 99, 97, 108, 108], 8, 115),
  ([101, 98, 114, 101, 97, 107], 8, 1048691)]
theorem rowsR_run : (dfun cx60 Tryd.f60 []).run = some (.sl rowRE rowsRL [] .ro) := by kernel_rfl
def rowsRS : Ab.Spec := fun args => match args with
  | [] => .leaf (.sl rowRE rowsRL [] .ro)
  | _ => .fail
theorem rowsRS_ok : Sound Tryd.prog 60 rowsRS := by
  intro args out h
  unfold rowsRS at h
  split at h
  rotate_left
  · cases h
  have h := leaf_out h
  subst h
  exact pcall_fun' (cx := cx60) (fn := Tryd.f60) (cx1_ok (fun p h => by cases h) (.cons rows80S_ok (fun p h => by cases h)) rfl rfl) (by kernel_rfl) (by kernel_rfl) (by kernel_rfl) rowsR_run

/-- The context of foundry/riscv.register. -/
noncomputable def cx63 : Cx := { P := Tryd.prog, n := 18, tab := [], mtab := [], refs := [], keeps := [0, 1, 4] }
def regB (u : Bool) (n : Int) : Bool := n == 0 || (u && (decide (0 < n) && decide (n < 32)))
theorem regT_eq (n : Int) : (dfun cx63 Tryd.f63 [.int .i64 n, .bool true]).fin = cond (n == 0) (some (.bool true)) (cond (decide (0 < n)) (some (.bool (decide (n < 32)))) (some (.bool false))) := by kernel_rfl
theorem regN_eq (n : Int) : (dfun cx63 Tryd.f63 [.int .i64 n, .bool false]).fin = cond (n == 0) (some (.bool true)) (some (.bool false)) := by kernel_rfl
def regRS : Ab.Spec := fun args => match args with
  | [.int .i64 n, .bool u] => .leaf (.bool (regB u n))
  | _ => .fail
theorem regRS_ok : Sound Tryd.prog 63 regRS := by
  intro args out h
  unfold regRS at h
  split at h
  rotate_left
  · cases h
  rename_i n u
  have h := leaf_out h
  subst h
  cases u
  · refine pcall_fun' (cx := cx63) (fn := Tryd.f63) (cx0_ok rfl rfl) (by kernel_rfl) (by kernel_rfl) rfl ((Tree.fin_run _).symm.trans ((regN_eq n).trans ?_))
    unfold regB
    cases (n == 0) <;> rfl
  · refine pcall_fun' (cx := cx63) (fn := Tryd.f63) (cx0_ok rfl rfl) (by kernel_rfl) (by kernel_rfl) rfl ((Tree.fin_run _).symm.trans ((regT_eq n).trans ?_))
    unfold regB
    cases (n == 0)
    · cases decide (0 < n)
      · rfl
      · rfl
    · rfl

/-! Encode, of a name that is written. -/

noncomputable def rvA_ps : List Fi := [⟨40, Tryd.f40, [0, 2, 3, 5, 6, 7, 8, 9, 15], [], 66⟩, ⟨41, Tryd.f41, [0, 1, 2, 3, 4, 5, 6, 7, 8, 9, 10, 25, 50, 59, 70], [], 0⟩, ⟨42, Tryd.f42, [0, 1, 2, 3, 4], [], 0⟩, ⟨61, Tryd.f61, [0, 2, 3, 4], [], 0⟩, ⟨62, Tryd.f62, [0, 2, 3, 4, 5, 6, 9, 11, 13, 15, 17], [], 0⟩, ⟨64, Tryd.f64, [0, 1, 4, 5, 6, 10, 15, 22, 35, 39], [], 0⟩, ⟨81, Tryd.f81, [0, 1, 2, 3, 8], [], 0⟩]
theorem rvA_ps_ok : FisOk Tryd.prog rvA_ps := ⟨⟨by kernel_rfl, by kernel_rfl⟩, ⟨by kernel_rfl, by kernel_rfl⟩, ⟨by kernel_rfl, by kernel_rfl⟩, ⟨by kernel_rfl, by kernel_rfl⟩, ⟨by kernel_rfl, by kernel_rfl⟩, ⟨by kernel_rfl, by kernel_rfl⟩, ⟨by kernel_rfl, by kernel_rfl⟩, trivial⟩
noncomputable def rvA_ms : List Fi := []
theorem rvA_ms_ok : FisOk Tryd.prog rvA_ms := trivial
noncomputable def rvA (d : Nat) : Tabs := deep Tryd.prog {} rvA_ps rvA_ms d
noncomputable def rvT (d : Nat) : Tabs := deep Tryd.prog { tab := [(60, rowsRS), (63, regRS)] } rvA_ps rvA_ms d
noncomputable def cxRv : Cx := { P := Tryd.prog, n := 37, tab := (rvT 3).tab, mtab := [], refs := [], keeps := [0, 1, 2, 3, 4, 5, 6, 7, 15, 20] }
theorem cxRv_ok : CxOk cxRv := cx1_ok (deep_ok (tabs_ok (.cons rowsRS_ok (ok1 regRS_ok)) (fun p h => by cases h)) rvA_ps_ok rvA_ms_ok 3).1 (fun p h => by cases h) rfl rfl
/-- Of the answer the error. -/
def errT : V → Tree Int
  | .tup [_, .int .i64 e] => .leaf e
  | _ => .fail
noncomputable def rvR (p : RowT × LongT) (a b c n : Int) : Option Int := ((dfun cxRv Tryd.f22 [.agg [.str p.2.1, .int .i64 a, .int .i64 b, .int .i64 c, .int .i64 0, .int .i64 n]]).bind errT).fin
def formR (nm : List UInt8) : Int := ((rowsRL.find? fun r => strEq r.1 nm).getD ([], 0, 0)).2.1
def usesR (f : Int) : Bool × Bool × Bool := (f != 4 && (f != 5 && f != 8), f != 6 && (f != 7 && f != 8), f == 0 || (f == 4 || f == 5))
def bndR (f : Int) : Int × Int × Int :=
  cond (f == 1 || f == 4) (-2048, 2047, 1) (cond (f == 2) (0, 63, 1) (cond (f == 3) (0, 31, 1) (cond (f == 5) (-4096, 4094, 2) (cond (f == 6) (-524288, 524287, 1) (cond (f == 7) (-1048576, 1048574, 2) (0, 0, 1))))))
def ranR (f : Int) (n : Int) : Option Int := cond (decide (n < (bndR f).1)) (some 3) (cond (decide ((bndR f).2.1 < n)) (some 3) (cond (Int.tmod n (bndR f).2.2 != 0) (some 10) (some 0)))
def numR (f : Int) (n : Int) : Option Int := cond ((bndR f).1 == (bndR f).2.1) (cond (n != 0) (some 13) (ranR f n)) (ranR f n)
def rvO (p : RowT × LongT) (a b c n : Int) : Option Int :=
  cond (!regB (usesR (formR p.2.1)).1 a) (some 13) (cond (!regB (usesR (formR p.2.1)).2.1 b) (some 13) (cond (!regB (usesR (formR p.2.1)).2.2 c) (some 13) (numR (formR p.2.1) n)))
theorem rv_0 : (partL 0).map rvR = (partL 0).map rvO := by kernel_rfl
theorem rv_1 : (partL 1).map rvR = (partL 1).map rvO := by kernel_rfl
theorem rv_2 : (partL 2).map rvR = (partL 2).map rvO := by kernel_rfl
theorem rv_3 : (partL 3).map rvR = (partL 3).map rvO := by kernel_rfl
theorem rv_4 : (partL 4).map rvR = (partL 4).map rvO := by kernel_rfl
theorem rv_5 : (partL 5).map rvR = (partL 5).map rvO := by kernel_rfl
theorem rv_all {x : RowT} (hx : x ∈ rowsL) : rvR (x, longs x) = rvO (x, longs x) :=
  six_all (l := pairsW) pairsW_len (fun k hk => match k, hk with
    | 0, _ => rv_0
    | 1, _ => rv_1
    | 2, _ => rv_2
    | 3, _ => rv_3
    | 4, _ => rv_4
    | 5, _ => rv_5) (pairsW_mem hx)

end Go.Cmp
