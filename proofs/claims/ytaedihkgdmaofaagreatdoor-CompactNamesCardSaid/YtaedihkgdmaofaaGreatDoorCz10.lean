/-
  compact's registers and numbers: what may be. Conditions: none.
-/
import Derived.Test.YtaedihkgdmaofaaGreatDoorCz7
import Derived.Test.YtaedihkgdmaofaaGreatDoorCz9
namespace Go.Cmp
open Go Go.Ab Go.Proofs

def conS : Ab.Spec := fun args => match args with
  | [.str s, .str q] => match conL.find? (fun p => p.1 == s && p.2.1 == q) with
    | some p => .leaf (.bool p.2.2)
    | none => .fail
  | _ => .fail
theorem conS_ok : Sound Tryz.prog 50 conS := by
  intro args out h
  unfold conS at h
  split at h
  rotate_left
  · cases h
  rename_i s q
  cases hf : conL.find? (fun p => p.1 == s && p.2.1 == q) with
  | none => rw [hf] at h; cases h
  | some p =>
    rw [hf] at h
    cases h
    have he : p.1 = s ∧ p.2.1 = q := by simpa using List.find?_some hf
    obtain ⟨rfl, rfl⟩ := he
    exact pcall_fun' (cx := cxL Tryz.f50.ntmps [0, 1, 4]) (fn := Tryz.f50) (cxL_ok _ _) (by kernel_rfl) (by kernel_rfl) (by kernel_rfl) (of_map con_all (List.mem_of_find?_eq_some hf))

/-! has -/

def hasF (x : RowT) (w : Int) : Bool × Bool := match (flds x).find? fun f => f.2.1 == w with
  | some f => (f.2.2.2.2, true)
  | none => (false, false)
noncomputable def cxHs : Cx := { P := Tryz.prog, n := 22, tab := [(21, fieldsS)], mtab := [], refs := [], keeps := [0, 1, 2, 4, 5, 7, 9, 10, 11, 12, 18], fuel := 12 }
theorem cxHs_ok : CxOk cxHs := cx1_ok (ok1 fieldsS_ok) (fun p h => by cases h) rfl rfl
def whats : List Int := [97, 98, 99, 115]
noncomputable def hasR (x : RowT) : List (Option V) := whats.map fun w => (dfun cxHs Tryz.f17 [.agg (rowL x), .int .u8 w]).run
def hasO (x : RowT) : List (Option V) := whats.map fun w => some (.tup [.bool (hasF x w).1, .bool (hasF x w).2])
theorem has_0 : (partR 0).map hasR = (partR 0).map hasO := by kernel_rfl
theorem has_1 : (partR 1).map hasR = (partR 1).map hasO := by kernel_rfl
theorem has_2 : (partR 2).map hasR = (partR 2).map hasO := by kernel_rfl
theorem has_3 : (partR 3).map hasR = (partR 3).map hasO := by kernel_rfl
theorem has_4 : (partR 4).map hasR = (partR 4).map hasO := by kernel_rfl
theorem has_5 : (partR 5).map hasR = (partR 5).map hasO := by kernel_rfl
theorem has_all {x : RowT} (hx : x ∈ rowsL) : hasR x = hasO x := rows_all has_0 has_1 has_2 has_3 has_4 has_5 hx
def hasS : Ab.Spec := fun args => match args with
  | [.agg [.str n, .str b, .int .i64 lo, .int .i64 hi, .int .i64 by_, .str no, .str lg], .int .u8 w] => .req (isRowB (n, b, lo, hi, by_, no, lg)) (.req (whats.contains w)
      (.leaf (.tup [.bool (hasF (n, b, lo, hi, by_, no, lg) w).1, .bool (hasF (n, b, lo, hi, by_, no, lg) w).2])))
  | _ => .fail
theorem hasS_ok : Sound Tryz.prog 17 hasS := by
  intro args out h
  unfold hasS at h
  split at h
  rotate_left
  · cases h
  rename_i n b lo hi by_ no lg w
  obtain ⟨h1, h⟩ := req_run h
  obtain ⟨h2, h⟩ := req_run h
  have h := leaf_out h
  subst h
  have hw := has_all (isRowB_mem h1)
  unfold hasR hasO at hw
  exact pcall_fun' (cx := cxHs) (fn := Tryz.f17) cxHs_ok (by kernel_rfl) (by kernel_rfl) rfl (of_map hw (by simpa using h2))

/-! register -/

noncomputable def cxRg : Cx := { P := Tryz.prog, n := 64, tab := [(17, hasS), (50, conS)], mtab := [], refs := [], keeps := [0, 1, 2, 3, 6, 7, 8, 9, 16, 21] }
/-- What a row bars. -/
def bars (x : RowT) (c : UInt8) : Bool := x.2.2.2.2.2.1.contains c
def tB (b : Bool) : Tree V := .leaf (.bool b)
def reg2T (x : RowT) (w n : Int) : Tree V := .br (n != 2) (tB true) (tB (cond (w == 97) (!bars x 50) true))
def regT (x : RowT) (w n : Int) : Tree V :=
  cond (hasF x w).2 (cond (hasF x w).1 (.br (decide (8 ≤ n)) (tB (decide (n ≤ 15))) (tB false))
    (.br (decide (0 ≤ n)) (.br (decide (n < 32)) (.br (n != 0) (reg2T x w n) (cond (bars x (UInt8.ofNat (w - 32).toNat)) (tB false) (reg2T x w n))) (tB false)) (tB false))) (tB (n == 0))
def regs3 : List Int := [97, 98, 99]
noncomputable def regR (x : RowT) (n : Int) : List (Option V) := regs3.map fun w => (dfun cxRg Tryz.f49 [.agg (rowL x), .int .u8 w, .int .i64 n]).out
def regO (x : RowT) (n : Int) : List (Option V) := regs3.map fun w => (regT x w n).out
theorem reg_0 : (partR 0).map regR = (partR 0).map regO := by kernel_rfl
theorem reg_1 : (partR 1).map regR = (partR 1).map regO := by kernel_rfl
theorem reg_2 : (partR 2).map regR = (partR 2).map regO := by kernel_rfl
theorem reg_3 : (partR 3).map regR = (partR 3).map regO := by kernel_rfl
theorem reg_4 : (partR 4).map regR = (partR 4).map regO := by kernel_rfl
theorem reg_5 : (partR 5).map regR = (partR 5).map regO := by kernel_rfl
theorem reg_all {x : RowT} (hx : x ∈ rowsL) : regR x = regO x := rows_all reg_0 reg_1 reg_2 reg_3 reg_4 reg_5 hx
/-- A register that may be. -/
def regF (x : RowT) (w n : Int) : Bool :=
  cond (hasF x w).2 (cond (hasF x w).1 (decide (8 ≤ n) && decide (n ≤ 15)) (decide (0 ≤ n) && (decide (n < 32) && ((n != 0 || !bars x (UInt8.ofNat (w - 32).toNat)) && (n != 2 || cond (w == 97) (!bars x 50) true))))) (n == 0)
theorem regT_run (x : RowT) (w n : Int) : (regT x w n).run = some (.bool (regF x w n)) := by
  unfold regT regF reg2T tB
  cases (hasF x w).2
  · rfl
  · cases (hasF x w).1
    · simp only [cond_true, cond_false]
      cases bars x (UInt8.ofNat (w - 32).toNat) <;> simp only [br_run, cond_true, cond_false] <;> cases decide (0 ≤ n) <;> cases decide (n < 32) <;> cases (n != 0) <;> cases (n != 2) <;> rfl
    · simp only [cond_true, br_run]
      cases decide (8 ≤ n) <;> rfl
def regS : Ab.Spec := fun args => match args with
  | [.agg [.str n, .str b, .int .i64 lo, .int .i64 hi, .int .i64 by_, .str no, .str lg], .int .u8 w, .int .i64 m] => .req (isRowB (n, b, lo, hi, by_, no, lg)) (.req (regs3.contains w)
      (.leaf (.bool (regF (n, b, lo, hi, by_, no, lg) w m))))
  | _ => .fail
theorem cxRg_ok : CxOk cxRg := cx1_ok (.cons hasS_ok (ok1 conS_ok)) (fun p h => by cases h) rfl rfl
theorem regS_ok : Sound Tryz.prog 49 regS := by
  intro args out h
  unfold regS at h
  split at h
  rotate_left
  · cases h
  rename_i n b lo hi by_ no lg w m
  obtain ⟨h1, h⟩ := req_run h
  obtain ⟨h2, h⟩ := req_run h
  have h := leaf_out h
  subst h
  have hw := congrFun (reg_all (isRowB_mem h1)) m
  unfold regR regO at hw
  exact pcall_fun' (cx := cxRg) (fn := Tryz.f49) cxRg_ok (by kernel_rfl) (by kernel_rfl) rfl ((Tree.out_run _).symm.trans ((of_map hw (by simpa using h2)).trans ((Tree.out_run _).trans (regT_run _ _ _))))

end Go.Cmp
