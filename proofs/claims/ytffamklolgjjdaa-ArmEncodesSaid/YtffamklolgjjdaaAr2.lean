/-
  Small functions of masks. Conditions: none.
-/
import Derived.Test.YtffamklolgjjdaaAr1
import Derived.Test.YtffamklolgjjdaaWd
namespace Go.Arm
open Go Go.Ab Go.Proofs Go.Wd

theorem leaf_out {α : Type} {b o : α} (h : (Tree.leaf b).run = some o) : o = b := by
  simp only [Tree.run, Option.some.injEq] at h
  exact h.symm

/-- The context of foundry/mask.ones. -/
noncomputable def cx50 : Cx := { P := Try.prog, n := 8, tab := [], mtab := [], refs := [], keeps := [0, 2, 4] }
/-- The context of math/bits.OnesCount64. -/
noncomputable def cx51 : Cx := { P := Try.prog, n := 35, tab := [], mtab := [], refs := [], keeps := [0, 2] }
/-- The context of foundry/mask.spread. -/
noncomputable def cx49 : Cx := { P := Try.prog, n := 15, tab := [], mtab := [], refs := [], keeps := [0, 1, 4, 6], fuel := 7 }

/-! ones -/

def onesN (n : Nat) : Nat := cond (Nat.ble 64 n) 18446744073709551615 (2 ^ n - 1)
theorem onesN_lt (n : Nat) : onesN n < 2 ^ 64 := by
  unfold onesN
  cases h : Nat.ble 64 n
  · have h : ¬ 64 ≤ n := by intro h'; rw [Nat.ble_eq_true_of_le h'] at h; cases h
    have : 2 ^ n < 2 ^ 64 := Nat.pow_lt_pow_right (by omega) (by omega)
    show 2 ^ n - 1 < 2 ^ 64
    omega
  · show 18446744073709551615 < 2 ^ 64
    decide

def onesF (n : Int) : Int := cond (decide (64 ≤ n)) 18446744073709551615 (IntKind.wrap .u64 (IntKind.wrap .u64 (1 * 2 ^ Min.min (Int.toNat n) 64) - 1))
theorem onesF_nat (m : Nat) : onesF (m : Int) = ((onesN m : Nat) : Int) := by
  unfold onesF onesN
  by_cases hm : 64 ≤ m
  · rw [decide_eq_true (show (64 : Int) ≤ (m : Int) by omega), Nat.ble_eq_true_of_le hm]
    rfl
  · have hb : Nat.ble 64 m = false := by
      cases h : Nat.ble 64 m
      · rfl
      · exact absurd (Nat.le_of_ble_eq_true h) hm
    rw [decide_eq_false (show ¬ (64 : Int) ≤ (m : Int) by omega), Int.toNat_natCast, hb]
    have e : Min.min m 64 = m := by omega
    have hp : (2 : Nat) ^ m < 2 ^ 64 := Nat.pow_lt_pow_right (by omega) (by omega)
    have hp0 : (0 : Nat) < 2 ^ m := Nat.two_pow_pos m
    rw [cond_false, cond_false, e, Int.one_mul, pow_cast, wrap_u64, wrap_u64]
    omega

def onesS : Ab.Spec := fun args => match args with
  | [.int .i64 n] => .req (decide (0 ≤ n)) (.leaf (.int .u64 (onesF n)))
  | _ => .fail

def onesT (n : Int) : Tree V :=
  (.br (decide (64 ≤ n)) (.leaf (.int .u64 18446744073709551615)) (.br (decide (0 ≤ n)) (.leaf (.int .u64 (IntKind.wrap IntKind.u64 (IntKind.wrap IntKind.u64 (1 * 2 ^ Min.min (Int.toNat n) 64) - 1)))) .fail))

theorem onesT_eq (n : Int) : (dfun cx50 Try.f50 [.int .i64 n]).run = (onesT n).run :=
  (show (dfun cx50 Try.f50 [.int .i64 n]).run = (onesT n).out by kernel_rfl).trans (Tree.out_run _)


theorem onesS_ok : Sound Try.prog 50 onesS := by
  intro args out h
  unfold onesS at h
  split at h
  rotate_left
  · cases h
  rename_i n
  obtain ⟨h1, h⟩ := req_run h
  have h := leaf_out h
  subst h
  refine pcall_fun' (cx := cx50) (fn := Try.f50) (cx0_ok rfl rfl) (by kernel_rfl) (by kernel_rfl) (by kernel_rfl) ?_
  rw [onesT_eq]
  unfold onesT onesF
  rw [h1]
  cases decide (64 ≤ n) <;> rfl

/-! turned -/

def turnedN (x e r : Nat) : Nat := ((x >>> r) ||| ((x <<< (e - r)) % 2 ^ 64)) &&& onesN e

def turnedF (x e r : Int) : Int := and64 (or64 (Int.fdiv x (2 ^ Min.min (Int.toNat r) 64)) (IntKind.wrap .u64 (x * 2 ^ Min.min (Int.toNat (IntKind.wrap .i64 (e - r))) 64))) (onesF e)
theorem turnedF_nat {x e r : Nat} (hx : x < 2 ^ 64) (h1 : r ≤ e) (h2 : e ≤ 64) : turnedF (x : Int) (e : Int) (r : Int) = ((turnedN x e r : Nat) : Int) := by
  unfold turnedF turnedN
  have w : IntKind.wrap .i64 ((e : Int) - (r : Int)) = ((e - r : Nat) : Int) := by
    rw [wrap_i64 (by omega) (by omega)]
    omega
  have e1 : Min.min r 64 = r := by omega
  have e2 : Min.min (e - r) 64 = e - r := by omega
  have q1 : x >>> r < 2 ^ 64 := by rw [Nat.shiftRight_eq_div_pow]; exact Nat.lt_of_le_of_lt (Nat.div_le_self _ _) hx
  have q2 : (x <<< (e - r)) % 2 ^ 64 < 2 ^ 64 := Nat.mod_lt _ (by decide)
  rw [w, Int.toNat_natCast, Int.toNat_natCast, e1, e2, shl64_cast, shr_cast, onesF_nat, or64_cast q1 q2, and64_cast (Nat.or_lt_two_pow q1 q2) (onesN_lt _)]

/-- The context of foundry/mask.turned. -/
noncomputable def cx52 : Cx := { P := Try.prog, n := 19, tab := [(50, onesS)], mtab := [], refs := [], keeps := [0, 1, 2, 6] }
def turnedT (x e r : Int) : Tree V :=
  (.br (decide (0 ≤ r)) (.br (decide (0 ≤ IntKind.wrap IntKind.i64 (e - r))) (.br (decide (0 ≤ e)) (.leaf (.int .u64 (IntKind.wrap IntKind.u64 ↑(BitVec.toNat (BitVec.ofInt 64 (IntKind.wrap IntKind.u64 ↑(BitVec.toNat (BitVec.ofInt 64 (Int.fdiv x (2 ^ Min.min (Int.toNat r) 64)) ||| BitVec.ofInt 64 (IntKind.wrap IntKind.u64 (x * 2 ^ Min.min (Int.toNat (IntKind.wrap IntKind.i64 (e - r))) 64))))) &&& BitVec.ofInt 64 (onesF e)))))) .fail) .fail) .fail)

theorem turnedT_eq (x e r : Int) : (dfun cx52 Try.f52 [.int .u64 x, .int .i64 e, .int .i64 r]).run = (turnedT x e r).run :=
  (show (dfun cx52 Try.f52 [.int .u64 x, .int .i64 e, .int .i64 r]).run = (turnedT x e r).out by kernel_rfl).trans (Tree.out_run _)


def turnedS : Ab.Spec := fun args => match args with
  | [.int .u64 x, .int .i64 e, .int .i64 r] => .req (decide (0 ≤ r)) (.req (decide (0 ≤ IntKind.wrap .i64 (e - r))) (.req (decide (0 ≤ e)) (.leaf (.int .u64 (turnedF x e r)))))
  | _ => .fail

theorem turnedS_ok : Sound Try.prog 52 turnedS := by
  intro args out h
  unfold turnedS at h
  split at h
  rotate_left
  · cases h
  rename_i x e r
  refine pcall_fun' (cx := cx52) (fn := Try.f52) (cx1_ok (.cons onesS_ok (.nil _)) (.nil _) rfl rfl) (by kernel_rfl) (by kernel_rfl) (by kernel_rfl) ?_
  rw [turnedT_eq]
  exact h

/-! spread -/

def spreadN : Nat → Nat → Nat → Nat
  | 0, x, _ => x
  | k + 1, x, e => cond (Nat.blt e 64) (spreadN k (x ||| (x <<< e) % 2 ^ 64) (2 * e)) x

def spTree : Nat → Int → Int → Tree V
  | 0, _, _ => .fail
  | k + 1, x, e => .br (decide (e < 64)) (.br (decide (0 ≤ e)) (spTree k (or64 x (IntKind.wrap .u64 (x * 2 ^ Min.min (Int.toNat e) 64))) (IntKind.wrap .i64 (e * 2))) .fail) (.leaf (.int .u64 x))

theorem spread_eq (x e : Int) : (dfun cx49 Try.f49 [.int .u64 x, .int .i64 e]).run = (spTree 7 x e).run :=
  (show (dfun cx49 Try.f49 [.int .u64 x, .int .i64 e]).run = (spTree 7 x e).out by kernel_rfl).trans (Tree.out_run _)

def spreadF : Nat → Int → Int → Int
  | 0, x, _ => x
  | k + 1, x, e => cond (decide (e < 64)) (spreadF k (or64 x (IntKind.wrap .u64 (x * 2 ^ Min.min (Int.toNat e) 64))) (IntKind.wrap .i64 (e * 2))) x

theorem spTree_run : ∀ (k : Nat) (x : Int) (e : Nat), 64 ≤ e * 2 ^ k → e ≤ 64 → (spTree (k + 1) x e).run = some (.int .u64 (spreadF (k + 1) x e))
  | k, x, e, he, h64 => by
    unfold spTree spreadF
    by_cases hlt : e < 64
    · rw [decide_eq_true (show (e : Int) < 64 by omega), decide_eq_true (show 0 ≤ (e : Int) by omega)]
      show (spTree k _ _).run = some (.int .u64 (spreadF k _ _))
      rw [wrap_i64 (by omega) (by omega), show (e : Int) * 2 = ((2 * e : Nat) : Int) by omega]
      cases k with
      | zero => omega
      | succ k =>
        by_cases h2 : 2 * e ≤ 64
        · exact spTree_run k _ _ (by rw [Nat.pow_succ] at he; rw [Nat.mul_comm 2 e, Nat.mul_assoc, Nat.mul_comm 2]; exact he) h2
        · unfold spTree spreadF
          rw [decide_eq_false (show ¬ ((2 * e : Nat) : Int) < 64 by omega)]
          rfl
    · rw [decide_eq_false (show ¬ (e : Int) < 64 by omega)]
      rfl

theorem spreadF_nat : ∀ (k x e : Nat), x < 2 ^ 64 → e < 2 ^ 40 → spreadF k (x : Int) (e : Int) = ((spreadN k x e : Nat) : Int)
  | 0, x, e, _, _ => rfl
  | k + 1, x, e, hx, he => by
    unfold spreadF spreadN
    by_cases hlt : e < 64
    · have q2 : (x <<< e) % 2 ^ 64 < 2 ^ 64 := Nat.mod_lt _ (by decide)
      have e1 : Min.min e 64 = e := by omega
      rw [decide_eq_true (show (e : Int) < 64 by omega), show Nat.blt e 64 = true from Nat.ble_eq_true_of_le hlt, cond_true, cond_true]
      rw [Int.toNat_natCast, e1, shl64_cast, or64_cast hx q2, wrap_i64 (by omega) (by omega), show (e : Int) * 2 = ((2 * e : Nat) : Int) by omega]
      exact spreadF_nat k _ _ (Nat.or_lt_two_pow hx q2) (by omega)
    · have hb : Nat.blt e 64 = false := by
        cases h : Nat.blt e 64
        · rfl
        · have := Nat.le_of_ble_eq_true h; omega
      rw [decide_eq_false (show ¬ (e : Int) < 64 by omega), hb]
      rfl

def spreadS : Ab.Spec := fun args => match args with
  | [.int .u64 x, .int .i64 e] => .req (decide (1 ≤ e)) (.req (decide (e ≤ 64)) (.leaf (.int .u64 (spreadF 7 x e))))
  | _ => .fail

theorem spreadS_ok : Sound Try.prog 49 spreadS := by
  intro args out h
  unfold spreadS at h
  split at h
  rotate_left
  · cases h
  rename_i x e
  obtain ⟨h1, h⟩ := req_run h
  obtain ⟨h2, h⟩ := req_run h
  have h := leaf_out h
  subst h
  have h1 := of_decide_eq_true h1
  have h2 := of_decide_eq_true h2
  obtain ⟨e, rfl⟩ := Int.eq_ofNat_of_zero_le (show 0 ≤ e by omega)
  refine pcall_fun' (cx := cx49) (fn := Try.f49) (cx0_ok rfl rfl) (by kernel_rfl) (by kernel_rfl) (by kernel_rfl) ?_
  refine (spread_eq x e).trans ?_
  exact spTree_run 6 x e (by omega) (by omega)

/-! OnesCount64 -/

def pc1 (x : Int) : Int := IntKind.wrap .u64 (and64 (Int.fdiv x (2 ^ 1)) 6148914691236517205 + and64 x 6148914691236517205)
def pc2 (x : Int) : Int := IntKind.wrap .u64 (and64 (Int.fdiv x (2 ^ 2)) 3689348814741910323 + and64 x 3689348814741910323)
def pc3 (x : Int) : Int := and64 (IntKind.wrap .u64 (Int.fdiv x (2 ^ 4) + x)) 1085102592571150095
def pc4 (x : Int) : Int := IntKind.wrap .u64 (x + Int.fdiv x (2 ^ 8))
def pc5 (x : Int) : Int := IntKind.wrap .u64 (x + Int.fdiv x (2 ^ 16))
def pc6 (x : Int) : Int := IntKind.wrap .u64 (x + Int.fdiv x (2 ^ 32))
def pc7 (x : Int) : Int := IntKind.wrap .i64 ↑(BitVec.toNat (BitVec.ofInt 64 (IntKind.wrap .i64 x) &&& BitVec.ofInt 64 127))

theorem count_eq (x : Int) : (dfun cx51 Try.f51 [.int .u64 x]).run = some (.int .i64 (pc7 (pc6 (pc5 (pc4 (pc3 (pc2 (pc1 x)))))))) := by kernel_rfl

def m1 : Nat := 6148914691236517205
def m2 : Nat := 3689348814741910323
def m3 : Nat := 1085102592571150095
def cnt1 (x : Nat) : Nat := ((x >>> 1 &&& m1) + (x &&& m1)) % 2 ^ 64
def cnt2 (x : Nat) : Nat := ((x >>> 2 &&& m2) + (x &&& m2)) % 2 ^ 64
def cnt3 (x : Nat) : Nat := ((x >>> 4 + x) % 2 ^ 64) &&& m3
def cnt4 (x : Nat) : Nat := (x + x >>> 8) % 2 ^ 64
def cnt5 (x : Nat) : Nat := (x + x >>> 16) % 2 ^ 64
def cnt6 (x : Nat) : Nat := (x + x >>> 32) % 2 ^ 64
/-- How many ones. -/
def cntN (x : Nat) : Nat := cnt6 (cnt5 (cnt4 (cnt3 (cnt2 (cnt1 x))))) &&& 127

theorem cntN_lt (x : Nat) : cntN x < 128 := Nat.and_lt_two_pow (n := 7) _ (by decide)

theorem pc_step {x k m : Nat} (hx : x < 2 ^ 64) (hm : m < 2 ^ 64) : IntKind.wrap .u64 (and64 (Int.fdiv (x : Int) (2 ^ k)) (m : Int) + and64 (x : Int) (m : Int)) = ((((x >>> k &&& m) + (x &&& m)) % 2 ^ 64 : Nat) : Int) := by
  have q1 : x >>> k < 2 ^ 64 := by rw [Nat.shiftRight_eq_div_pow]; exact Nat.lt_of_le_of_lt (Nat.div_le_self _ _) hx
  rw [shr_cast, and64_cast q1 hm, and64_cast hx hm, add64_cast]
theorem pc_add (x k : Nat) : IntKind.wrap .u64 ((x : Int) + Int.fdiv (x : Int) (2 ^ k)) = (((x + x >>> k) % 2 ^ 64 : Nat) : Int) := by
  rw [shr_cast, add64_cast]

theorem cnt_int {x : Nat} (hx : x < 2 ^ 64) : pc7 (pc6 (pc5 (pc4 (pc3 (pc2 (pc1 (x : Int))))))) = ((cntN x : Nat) : Int) := by
  have s1 : pc1 (x : Int) = ((cnt1 x : Nat) : Int) := pc_step (k := 1) (m := m1) hx (by decide)
  have b1 : cnt1 x < 2 ^ 64 := Nat.mod_lt _ (by decide)
  have s2 : pc2 (cnt1 x : Int) = ((cnt2 (cnt1 x) : Nat) : Int) := pc_step (k := 2) (m := m2) b1 (by decide)
  have b2 : cnt2 (cnt1 x) < 2 ^ 64 := Nat.mod_lt _ (by decide)
  have s3 : pc3 (cnt2 (cnt1 x) : Int) = ((cnt3 (cnt2 (cnt1 x)) : Nat) : Int) := by
    unfold pc3 cnt3
    rw [shr_cast, add64_cast]
    exact and64_cast (b := m3) (Nat.mod_lt _ (by decide)) (by decide)
  have s4 : pc4 (cnt3 (cnt2 (cnt1 x)) : Int) = ((cnt4 (cnt3 (cnt2 (cnt1 x))) : Nat) : Int) := pc_add _ 8
  have s5 : pc5 (cnt4 (cnt3 (cnt2 (cnt1 x))) : Int) = ((cnt5 (cnt4 (cnt3 (cnt2 (cnt1 x)))) : Nat) : Int) := pc_add _ 16
  have s6 : pc6 (cnt5 (cnt4 (cnt3 (cnt2 (cnt1 x)))) : Int) = ((cnt6 (cnt5 (cnt4 (cnt3 (cnt2 (cnt1 x))))) : Nat) : Int) := pc_add _ 32
  rw [s1, s2, s3, s4, s5, s6]
  unfold pc7 cntN
  have b6 : cnt6 (cnt5 (cnt4 (cnt3 (cnt2 (cnt1 x))))) < 2 ^ 64 := Nat.mod_lt _ (by decide)
  generalize cnt6 (cnt5 (cnt4 (cnt3 (cnt2 (cnt1 x))))) = y at b6
  have ew : (BitVec.ofInt 64 (IntKind.wrap .i64 (y : Int))).toNat = y := by
    rw [BitVec.toNat_ofInt]
    have h : IntKind.wrap .i64 (y : Int) = if (y : Int) % 18446744073709551616 ≥ 9223372036854775808 then (y : Int) % 18446744073709551616 - 18446744073709551616 else (y : Int) % 18446744073709551616 := by
      simp [IntKind.wrap, IntKind.bits, IntKind.signed]
    rw [h]
    have : ((2 ^ 64 : Nat) : Int) = 18446744073709551616 := rfl
    rw [this]
    split <;> omega
  rw [BitVec.toNat_and, ew, show (BitVec.ofInt 64 127).toNat = 127 from by decide]
  have : y &&& 127 < 128 := Nat.and_lt_two_pow (n := 7) _ (by decide)
  rw [wrap_i64 (by omega) (by omega)]

def cntF (x : Int) : Int := pc7 (pc6 (pc5 (pc4 (pc3 (pc2 (pc1 x))))))
def countNS : Ab.Spec := fun args => match args with
  | [.int .u64 x] => .leaf (.int .i64 (cntF x))
  | _ => .fail

theorem countNS_ok : Sound Try.prog 51 countNS := by
  intro args out h
  unfold countNS at h
  split at h
  rotate_left
  · cases h
  rename_i x
  have h := leaf_out h
  subst h
  refine pcall_fun' (cx := cx51) (fn := Try.f51) (cx0_ok rfl rfl) (by kernel_rfl) (by kernel_rfl) (by kernel_rfl) ?_
  exact count_eq x

end Go.Arm
