/-
  The document's Of: its loops. Conditions: none.
-/
import Derived.Test.YtffamklolgjjdaaAr14
import Derived.Test.YtffamklolgjjdaaAr4
namespace Go.Arm
open Go Go.Ab Go.Proofs Go.Wd

def lowF (e : Int) : Int := cond (e == 64) 18446744073709551615 (IntKind.wrap .u64 (IntKind.wrap .u64 (1 * 2 ^ Min.min (Int.toNat (IntKind.wrap .u64 e)) 64) - 1))
def turnF (x e : Int) : Int := and64 (or64 (IntKind.wrap .u64 (x * 2 ^ 1)) (Int.fdiv x (2 ^ Min.min (Int.toNat (IntKind.wrap .u64 (IntKind.wrap .i64 (e - 1)))) 64))) (lowF e)
def turnS : Ab.Spec := fun args => match args with
  | [.int .u64 x, .int .i64 e] => .leaf (.int .u64 (turnF x e))
  | _ => .fail
/-- The context of foundry/foundryref10.turn. -/
noncomputable def cx54 : Cx := { P := Try.prog, n := 22, tab := [], mtab := [], refs := [], keeps := [0, 1, 4, 5, 11] }
def turnT (x e : Int) : Tree V :=
  (.br (decide (0 ≤ IntKind.wrap IntKind.u64 e)) (.br (e == 64) (.br (decide (0 ≤ IntKind.wrap IntKind.u64 (IntKind.wrap IntKind.i64 (e - 1)))) (.leaf (.int .u64 (IntKind.wrap IntKind.u64 ↑(BitVec.toNat (BitVec.ofInt 64 (IntKind.wrap IntKind.u64 ↑(BitVec.toNat (BitVec.ofInt 64 (IntKind.wrap IntKind.u64 (x * 2 ^ 1)) ||| BitVec.ofInt 64 (Int.fdiv x (2 ^ Min.min (Int.toNat (IntKind.wrap IntKind.u64 (IntKind.wrap IntKind.i64 (e - 1)))) 64))))) &&& BitVec.ofInt 64 18446744073709551615))))) .fail) (.br (decide (0 ≤ IntKind.wrap IntKind.u64 (IntKind.wrap IntKind.i64 (e - 1)))) (.leaf (.int .u64 (IntKind.wrap IntKind.u64 ↑(BitVec.toNat (BitVec.ofInt 64 (IntKind.wrap IntKind.u64 ↑(BitVec.toNat (BitVec.ofInt 64 (IntKind.wrap IntKind.u64 (x * 2 ^ 1)) ||| BitVec.ofInt 64 (Int.fdiv x (2 ^ Min.min (Int.toNat (IntKind.wrap IntKind.u64 (IntKind.wrap IntKind.i64 (e - 1)))) 64))))) &&& BitVec.ofInt 64 (IntKind.wrap IntKind.u64 (IntKind.wrap IntKind.u64 (1 * 2 ^ Min.min (Int.toNat (IntKind.wrap IntKind.u64 e)) 64) - 1))))))) .fail)) .fail)

theorem turnT_eq (x e : Int) : (dfun cx54 Try.f54 [.int .u64 x, .int .i64 e]).run = (turnT x e).run :=
  (show (dfun cx54 Try.f54 [.int .u64 x, .int .i64 e]).run = (turnT x e).out by kernel_rfl).trans (Tree.out_run _)


theorem wrap64_nonneg (e : Int) : decide (0 ≤ IntKind.wrap IntKind.u64 e) = true := by
  rw [wrap_u64]
  exact decide_eq_true (by omega)

theorem turnS_ok : Sound Try.prog 54 turnS := by
  intro args out h
  unfold turnS at h
  split at h
  rotate_left
  · cases h
  rename_i x e
  have h := leaf_out h
  subst h
  refine pcall_fun' (cx := cx54) (fn := Try.f54) (cx0_ok rfl rfl) (by kernel_rfl) (by kernel_rfl) (by kernel_rfl) ?_
  rw [turnT_eq]
  unfold turnT turnF lowF
  rw [wrap64_nonneg, wrap64_nonneg]
  cases (e == 64) <;> rfl

/-- The context of foundry/foundryref10.Of. -/
noncomputable def cx41 : Cx := { P := Try.prog, n := 73, tab := [(53, highS), (54, turnS)], mtab := [], refs := [], keeps := [0, 2, 3, 4, 5, 6, 7, 8, 9, 10, 11, 12, 13, 15, 23, 28, 44, 47, 52, 60, 62] }
noncomputable abbrev DB : Code := bodyOf Try.f41
noncomputable abbrev L0 : Code := cin (cin (c2 (c1 (tailN 0 DB))))
noncomputable abbrev BO : Code := cin (c1 (c2 L0))
noncomputable abbrev KL : Code := cin (cin (c2 (c1 (tailN 3 BO))))
noncomputable abbrev RL : Code := cin (cin (c2 (c1 (tailN 5 BO))))
noncomputable abbrev RB : Code := cin (c1 (c2 RL))
noncomputable abbrev OL : Code := cin (cin (c2 (c1 RB)))
def xPre (m : Int) : Tree St :=
  (.leaf (.normal, [(0, (.int .u64 m)), (2, (.int .i64 0)), (3, (.int .i64 0)), (4, (.int .i64 0)), (5, (.bool false)), (6, (.int .i64 2))], []))

theorem xPre_eq (m : Int) : (dcode cx41 (.seq (c1 DB) (c1 (c1 (tailN 0 DB)))) (initT 0 [.int .u64 m]) []).run = (xPre m).run :=
  (show (dcode cx41 (.seq (c1 DB) (c1 (c1 (tailN 0 DB)))) (initT 0 [.int .u64 m]) []).run = (xPre m).out by kernel_rfl).trans (Tree.out_run _)

def xHead (m e : Int) : Tree St :=
  (.br (decide (e ≤ 64)) (.leaf (.normal, [(0, (.int .u64 m)), (6, (.int .i64 e)), (15, (.bool true))], [])) (.leaf ((.exit 0), [(0, (.int .u64 m)), (6, (.int .i64 e)), (15, (.bool false))], [])))

theorem xHead_eq (m e : Int) : (dcode cx41 (c1 L0) [(0, .int .u64 m), (6, .int .i64 e)] []).run = (xHead m e).run :=
  (show (dcode cx41 (c1 L0) [(0, .int .u64 m), (6, .int .i64 e)] []).run = (xHead m e).out by kernel_rfl).trans (Tree.out_run _)

def xNext (m e : Int) : Tree St :=
  (.leaf (.normal, [(0, (.int .u64 m)), (6, (.int .i64 (IntKind.wrap IntKind.i64 (2 * e))))], []))

theorem xNext_eq (m e : Int) : (dcode cx41 (c2 (c2 L0)) [(0, .int .u64 m), (6, .int .i64 e)] []).run = (xNext m e).run :=
  (show (dcode cx41 (c2 (c2 L0)) [(0, .int .u64 m), (6, .int .i64 e)] []).run = (xNext m e).out by kernel_rfl).trans (Tree.out_run _)

def xLow (m e : Int) : Tree St :=
  (.br (decide (0 ≤ IntKind.wrap IntKind.u64 e)) (.br (e == 64) (.leaf (.normal, [(0, (.int .u64 m)), (6, (.int .i64 e)), (7, (.int .u64 18446744073709551615)), (8, (.int .u64 (IntKind.wrap IntKind.u64 ↑(BitVec.toNat (BitVec.ofInt 64 m &&& BitVec.ofInt 64 18446744073709551615))))), (9, (.bool true)), (23, (.bool true))], [])) (.leaf (.normal, [(0, (.int .u64 m)), (6, (.int .i64 e)), (7, (.int .u64 (IntKind.wrap IntKind.u64 (IntKind.wrap IntKind.u64 (1 * 2 ^ Min.min (Int.toNat (IntKind.wrap IntKind.u64 e)) 64) - 1)))), (8, (.int .u64 (IntKind.wrap IntKind.u64 ↑(BitVec.toNat (BitVec.ofInt 64 m &&& BitVec.ofInt 64 (IntKind.wrap IntKind.u64 (IntKind.wrap IntKind.u64 (1 * 2 ^ Min.min (Int.toNat (IntKind.wrap IntKind.u64 e)) 64) - 1))))))), (9, (.bool true)), (23, (.bool false))], []))) .fail)

theorem xLow_eq (m e : Int) : (dcode cx41 (headN 3 BO) [(0, .int .u64 m), (6, .int .i64 e)] []).run = (xLow m e).run :=
  (show (dcode cx41 (headN 3 BO) [(0, .int .u64 m), (6, .int .i64 e)] []).run = (xLow m e).out by kernel_rfl).trans (Tree.out_run _)

def xK0 (m e l x : Int) (b : Bool) : Tree St :=
  (.leaf (.normal, [(0, (.int .u64 m)), (6, (.int .i64 e)), (7, (.int .u64 l)), (8, (.int .u64 x)), (9, (.bool b)), (10, (.int .i64 0))], []))

theorem xK0_eq (m e l x : Int) (b : Bool) : (dcode cx41 (c1 (c1 (tailN 3 BO))) [(0, .int .u64 m), (6, .int .i64 e), (7, .int .u64 l), (8, .int .u64 x), (9, .bool b)] []).run = (xK0 m e l x b).run :=
  (show (dcode cx41 (c1 (c1 (tailN 3 BO))) [(0, .int .u64 m), (6, .int .i64 e), (7, .int .u64 l), (8, .int .u64 x), (9, .bool b)] []).run = (xK0 m e l x b).out by kernel_rfl).trans (Tree.out_run _)

def xKL (m e l x k : Int) (b : Bool) : Tree St :=
  (.br (decide (k < 64)) (.br b (.br (decide (0 ≤ IntKind.wrap IntKind.u64 k)) (.leaf (.normal, [(0, (.int .u64 m)), (6, (.int .i64 e)), (7, (.int .u64 l)), (8, (.int .u64 x)), (9, (.bool (IntKind.wrap IntKind.u64 ↑(BitVec.toNat (BitVec.ofInt 64 (Int.fdiv m (2 ^ Min.min (Int.toNat (IntKind.wrap IntKind.u64 k)) 64)) &&& BitVec.ofInt 64 l)) == x))), (10, (.int .i64 (IntKind.wrap IntKind.i64 (k + e)))), (28, (.bool true))], [])) .fail) (.leaf (.normal, [(0, (.int .u64 m)), (6, (.int .i64 e)), (7, (.int .u64 l)), (8, (.int .u64 x)), (9, (.bool false)), (10, (.int .i64 (IntKind.wrap IntKind.i64 (k + e)))), (28, (.bool true))], []))) (.leaf ((.exit 2), [(0, (.int .u64 m)), (6, (.int .i64 e)), (7, (.int .u64 l)), (8, (.int .u64 x)), (9, (.bool b)), (10, (.int .i64 k)), (28, (.bool false))], [])))

theorem xKL_eq (m e l x k : Int) (b : Bool) : (dcode cx41 KL [(0, .int .u64 m), (6, .int .i64 e), (7, .int .u64 l), (8, .int .u64 x), (9, .bool b), (10, .int .i64 k)] []).run = (xKL m e l x k b).run :=
  (show (dcode cx41 KL [(0, .int .u64 m), (6, .int .i64 e), (7, .int .u64 l), (8, .int .u64 x), (9, .bool b), (10, .int .i64 k)] []).run = (xKL m e l x k b).out by kernel_rfl).trans (Tree.out_run _)

def xAg (m e x : Int) (b : Bool) : Tree St :=
  (.br (!b) (.leaf ((.exit 1), [(0, (.int .u64 m)), (6, (.int .i64 e)), (8, (.int .u64 x)), (9, (.bool b)), (44, (.bool true))], [])) (.leaf (.normal, [(0, (.int .u64 m)), (6, (.int .i64 e)), (8, (.int .u64 x)), (9, (.bool b)), (44, (.bool false))], [])))

theorem xAg_eq (m e x : Int) (b : Bool) : (dcode cx41 (c1 (tailN 4 BO)) [(0, .int .u64 m), (6, .int .i64 e), (8, .int .u64 x), (9, .bool b)] []).run = (xAg m e x b).run :=
  (show (dcode cx41 (c1 (tailN 4 BO)) [(0, .int .u64 m), (6, .int .i64 e), (8, .int .u64 x), (9, .bool b)] []).run = (xAg m e x b).out by kernel_rfl).trans (Tree.out_run _)

def xR0 (e x : Int) : Tree St :=
  (.leaf (.normal, [(6, (.int .i64 e)), (8, (.int .u64 x)), (11, (.int .i64 0))], []))

theorem xR0_eq (e x : Int) : (dcode cx41 (c1 (c1 (tailN 5 BO))) [(6, .int .i64 e), (8, .int .u64 x)] []).run = (xR0 e x).run :=
  (show (dcode cx41 (c1 (c1 (tailN 5 BO))) [(6, .int .i64 e), (8, .int .u64 x)] []).run = (xR0 e x).out by kernel_rfl).trans (Tree.out_run _)

def xRH (e x r : Int) : Tree St :=
  (.br (decide (r < e)) (.leaf (.normal, [(6, (.int .i64 e)), (8, (.int .u64 x)), (11, (.int .i64 r)), (47, (.bool true))], [])) (.leaf ((.exit 4), [(6, (.int .i64 e)), (8, (.int .u64 x)), (11, (.int .i64 r)), (47, (.bool false))], [])))

theorem xRH_eq (e x r : Int) : (dcode cx41 (c1 RL) [(6, .int .i64 e), (8, .int .u64 x), (11, .int .i64 r)] []).run = (xRH e x r).run :=
  (show (dcode cx41 (c1 RL) [(6, .int .i64 e), (8, .int .u64 x), (11, .int .i64 r)] []).run = (xRH e x r).out by kernel_rfl).trans (Tree.out_run _)

def xO0 (e x r : Int) : Tree St :=
  (.leaf (.normal, [(6, (.int .i64 e)), (8, (.int .u64 x)), (11, (.int .i64 r)), (12, (.int .i64 1))], []))

theorem xO0_eq (e x r : Int) : (dcode cx41 (c1 (c1 RB)) [(6, .int .i64 e), (8, .int .u64 x), (11, .int .i64 r)] []).run = (xO0 e x r).run :=
  (show (dcode cx41 (c1 (c1 RB)) [(6, .int .i64 e), (8, .int .u64 x), (11, .int .i64 r)] []).run = (xO0 e x r).out by kernel_rfl).trans (Tree.out_run _)

def xOL (e x r o : Int) : Tree St :=
  (.br (decide (o < e)) (.br (decide (0 ≤ IntKind.wrap IntKind.u64 o)) (.br (x == IntKind.wrap IntKind.u64 (IntKind.wrap IntKind.u64 (1 * 2 ^ Min.min (Int.toNat (IntKind.wrap IntKind.u64 o)) 64) - 1)) (.br (e == 64) (.leaf (.ret, [(2, (.int .i64 1)), (3, (.int .i64 r)), (4, (.int .i64 (IntKind.wrap IntKind.i64 (IntKind.wrap IntKind.i64 (highF e + o) - 1)))), (5, (.bool true)), (6, (.int .i64 e)), (8, (.int .u64 x)), (11, (.int .i64 r)), (12, (.int .i64 o)), (13, (.int .i64 1)), (52, (.bool true)), (60, (.bool true)), (62, (.bool true))], [])) (.leaf (.ret, [(2, (.int .i64 0)), (3, (.int .i64 r)), (4, (.int .i64 (IntKind.wrap IntKind.i64 (IntKind.wrap IntKind.i64 (highF e + o) - 1)))), (5, (.bool true)), (6, (.int .i64 e)), (8, (.int .u64 x)), (11, (.int .i64 r)), (12, (.int .i64 o)), (13, (.int .i64 0)), (52, (.bool true)), (60, (.bool true)), (62, (.bool false))], []))) (.leaf (.normal, [(6, (.int .i64 e)), (8, (.int .u64 x)), (11, (.int .i64 r)), (12, (.int .i64 (IntKind.wrap IntKind.i64 (o + 1)))), (52, (.bool true)), (60, (.bool false))], []))) .fail) (.leaf ((.exit 6), [(6, (.int .i64 e)), (8, (.int .u64 x)), (11, (.int .i64 r)), (12, (.int .i64 o)), (52, (.bool false))], [])))

theorem xOL_eq (e x r o : Int) : (dcode cx41 OL [(6, .int .i64 e), (8, .int .u64 x), (11, .int .i64 r), (12, .int .i64 o)] []).run = (xOL e x r o).run :=
  (show (dcode cx41 OL [(6, .int .i64 e), (8, .int .u64 x), (11, .int .i64 r), (12, .int .i64 o)] []).run = (xOL e x r o).out by kernel_rfl).trans (Tree.out_run _)

def xRT (e x r : Int) : Tree St :=
  (.leaf (.normal, [(6, (.int .i64 e)), (8, (.int .u64 (turnF x e))), (11, (.int .i64 r))], []))

theorem xRT_eq (e x r : Int) : (dcode cx41 (c2 RB) [(6, .int .i64 e), (8, .int .u64 x), (11, .int .i64 r)] []).run = (xRT e x r).run :=
  (show (dcode cx41 (c2 RB) [(6, .int .i64 e), (8, .int .u64 x), (11, .int .i64 r)] []).run = (xRT e x r).out by kernel_rfl).trans (Tree.out_run _)

def xRN (e x r : Int) : Tree St :=
  (.leaf (.normal, [(6, (.int .i64 e)), (8, (.int .u64 x)), (11, (.int .i64 (IntKind.wrap IntKind.i64 (r + 1))))], []))

theorem xRN_eq (e x r : Int) : (dcode cx41 (c2 (c2 RL)) [(6, .int .i64 e), (8, .int .u64 x), (11, .int .i64 r)] []).run = (xRN e x r).run :=
  (show (dcode cx41 (c2 (c2 RL)) [(6, .int .i64 e), (8, .int .u64 x), (11, .int .i64 r)] []).run = (xRN e x r).out by kernel_rfl).trans (Tree.out_run _)

def xRE  : Tree St :=
  (.leaf (.ret, [(2, (.int .i64 0)), (3, (.int .i64 0)), (4, (.int .i64 0)), (5, (.bool false))], []))

theorem xRE_eq  : (dcode cx41 (tailN 6 BO) [] []).run = (xRE ).run :=
  (show (dcode cx41 (tailN 6 BO) [] []).run = (xRE ).out by kernel_rfl).trans (Tree.out_run _)

end Go.Arm
