/-
  Small functions of masks. Conditions: none.
-/
import Derived.Test.YtmbbnhcbphkniaaGreatDoorPk13
import Derived.Test.YtmbbnhcbphkniaaGreatDoorPk21
set_option linter.unusedVariables false
set_option linter.unusedSimpArgs false
namespace Go.Rk
open Go Go.Ab Go.Proofs Go.Ra Go.Wd

theorem leaf_out {α : Type} {b o : α} (h : (Tree.leaf b).run = some o) : o = b := by
  simp only [Tree.run, Option.some.injEq] at h
  exact h.symm

/-- The context of foundry/mask.ones. -/
noncomputable def cx147 : Cx := { P := Tryz.prog, n := 8, tab := [], mtab := [], refs := [], keeps := [0, 2, 4] }
/-- The context of math/bits.OnesCount64. -/
noncomputable def cx148 : Cx := { P := Tryz.prog, n := 35, tab := [], mtab := [], refs := [], keeps := [0, 2] }
/-- The context of foundry/mask.spread. -/
noncomputable def cx146 : Cx := { P := Tryz.prog, n := 15, tab := [], mtab := [], refs := [], keeps := [0, 1, 4, 6], fuel := 7 }

/-! ones -/

def onesN (n : Nat) : Nat := cond (Nat.ble 64 n) 18446744073709551615 (2 ^ n - 1)
theorem onesN_lt (n : Nat) : onesN n < 2 ^ 64 := by
  unfold onesN
  cases h : Nat.ble 64 n
  · have h : ¬ 64 ≤ n := by intro h'; rw [Nat.ble_eq_true_of_le h'] at h; cases h
    have : 2 ^ n < 2 ^ 64 := Nat.pow_lt_pow_right (by omega) (by omega)
    show 2 ^ n - 1 < 2 ^ 64
    omega
  · show 18446744073709551615 < 2 ^ 64
    decide

def onesF (n : Int) : Int := cond (decide (64 ≤ n)) 18446744073709551615 (IntKind.wrap .u64 (IntKind.wrap .u64 (1 * 2 ^ Min.min (Int.toNat n) 64) - 1))
theorem onesF_nat (m : Nat) : onesF (m : Int) = ((onesN m : Nat) : Int) := by
  unfold onesF onesN
  by_cases hm : 64 ≤ m
  · rw [decide_eq_true (show (64 : Int) ≤ (m : Int) by omega), Nat.ble_eq_true_of_le hm]
    rfl
  · have hb : Nat.ble 64 m = false := by
      cases h : Nat.ble 64 m
      · rfl
      · exact absurd (Nat.le_of_ble_eq_true h) hm
    rw [decide_eq_false (show ¬ (64 : Int) ≤ (m : Int) by omega), Int.toNat_natCast, hb]
    have e : Min.min m 64 = m := by omega
    have hp : (2 : Nat) ^ m < 2 ^ 64 := Nat.pow_lt_pow_right (by omega) (by omega)
    have hp0 : (0 : Nat) < 2 ^ m := Nat.two_pow_pos m
    rw [cond_false, cond_false, e, Int.one_mul, pow_cast, wrap_u64, wrap_u64]
    omega

def onesS : Ab.Spec := fun args => match args with
  | [.int .i64 n] => .req (decide (0 ≤ n)) (.leaf (.int .u64 (onesF n)))
  | _ => .fail

def onesT (n : Int) : Tree V :=
  (.br (decide (64 ≤ n)) (.leaf (.int .u64 18446744073709551615)) (.br (decide (0 ≤ n)) (.leaf (.int .u64 (IntKind.wrap IntKind.u64 (IntKind.wrap IntKind.u64 (1 * 2 ^ Min.min (Int.toNat n) 64) - 1)))) .fail))

theorem onesT_eq (n : Int) : (dfun cx147 Tryz.f147 [.int .i64 n]).run = (onesT n).run :=
  (show (dfun cx147 Tryz.f147 [.int .i64 n]).run = (onesT n).out by kernel_rfl).trans (Tree.out_run _)

theorem onesS_ok : Sound Tryz.prog 147 onesS := by
  intro args out h
  unfold onesS at h
  split at h
  rotate_left
  · cases h
  rename_i n
  obtain ⟨h1, h⟩ := req_run h
  have h := leaf_out h
  subst h
  refine pcall_fun' (cx := cx147) (fn := Tryz.f147) (cx0_ok rfl rfl) (by kernel_rfl) (by kernel_rfl) (by kernel_rfl) ?_
  rw [onesT_eq]
  unfold onesT onesF
  rw [h1]
  cases decide (64 ≤ n) <;> rfl

/-! turned -/

def turnedN (x e r : Nat) : Nat := ((x >>> r) ||| ((x <<< (e - r)) % 2 ^ 64)) &&& onesN e

def turnedF (x e r : Int) : Int := and64 (or64 (Int.fdiv x (2 ^ Min.min (Int.toNat r) 64)) (IntKind.wrap .u64 (x * 2 ^ Min.min (Int.toNat (IntKind.wrap .i64 (e - r))) 64))) (onesF e)
theorem turnedF_nat {x e r : Nat} (hx : x < 2 ^ 64) (h1 : r ≤ e) (h2 : e ≤ 64) : turnedF (x : Int) (e : Int) (r : Int) = ((turnedN x e r : Nat) : Int) := by
  unfold turnedF turnedN
  have w : IntKind.wrap .i64 ((e : Int) - (r : Int)) = ((e - r : Nat) : Int) := by
    rw [wrap_i64 (by omega) (by omega)]
    omega
  have e1 : Min.min r 64 = r := by omega
  have e2 : Min.min (e - r) 64 = e - r := by omega
  have q1 : x >>> r < 2 ^ 64 := by rw [Nat.shiftRight_eq_div_pow]; exact Nat.lt_of_le_of_lt (Nat.div_le_self _ _) hx
  have q2 : (x <<< (e - r)) % 2 ^ 64 < 2 ^ 64 := Nat.mod_lt _ (by decide)
  rw [w, Int.toNat_natCast, Int.toNat_natCast, e1, e2, shl64_cast, shr_cast, onesF_nat, or64_cast q1 q2, and64_cast (Nat.or_lt_two_pow q1 q2) (onesN_lt _)]

/-- The context of foundry/mask.turned. -/
noncomputable def cx149 : Cx := { P := Tryz.prog, n := 19, tab := [(147, onesS)], mtab := [], refs := [], keeps := [0, 1, 2, 6] }
def turnedT (x e r : Int) : Tree V :=
  (.br (decide (0 ≤ r)) (.br (decide (0 ≤ IntKind.wrap IntKind.i64 (e - r))) (.br (decide (0 ≤ e)) (.leaf (.int .u64 (IntKind.wrap IntKind.u64 ↑(BitVec.toNat (BitVec.ofInt 64 (IntKind.wrap IntKind.u64 ↑(BitVec.toNat (BitVec.ofInt 64 (Int.fdiv x (2 ^ Min.min (Int.toNat r) 64)) ||| BitVec.ofInt 64 (IntKind.wrap IntKind.u64 (x * 2 ^ Min.min (Int.toNat (IntKind.wrap IntKind.i64 (e - r))) 64))))) &&& BitVec.ofInt 64 (Go.Rk.onesF e)))))) .fail) .fail) .fail)

theorem turnedT_eq (x e r : Int) : (dfun cx149 Tryz.f149 [.int .u64 x, .int .i64 e, .int .i64 r]).run = (turnedT x e r).run :=
  (show (dfun cx149 Tryz.f149 [.int .u64 x, .int .i64 e, .int .i64 r]).run = (turnedT x e r).out by kernel_rfl).trans (Tree.out_run _)

def turnedS : Ab.Spec := fun args => match args with
  | [.int .u64 x, .int .i64 e, .int .i64 r] => .req (decide (0 ≤ r)) (.req (decide (0 ≤ IntKind.wrap .i64 (e - r))) (.req (decide (0 ≤ e)) (.leaf (.int .u64 (turnedF x e r)))))
  | _ => .fail

theorem turnedS_ok : Sound Tryz.prog 149 turnedS := by
  intro args out h
  unfold turnedS at h
  split at h
  rotate_left
  · cases h
  rename_i x e r
  refine pcall_fun' (cx := cx149) (fn := Tryz.f149) (cx1_ok (.cons onesS_ok (.nil _)) (.nil _) rfl rfl) (by kernel_rfl) (by kernel_rfl) (by kernel_rfl) ?_
  rw [turnedT_eq]
  exact h

/-! spread -/

def spreadN : Nat → Nat → Nat → Nat
  | 0, x, _ => x
  | k + 1, x, e => cond (Nat.blt e 64) (spreadN k (x ||| (x <<< e) % 2 ^ 64) (2 * e)) x

def spTree : Nat → Int → Int → Tree V
  | 0, _, _ => .fail
  | k + 1, x, e => .br (decide (e < 64)) (.br (decide (0 ≤ e)) (spTree k (or64 x (IntKind.wrap .u64 (x * 2 ^ Min.min (Int.toNat e) 64))) (IntKind.wrap .i64 (e * 2))) .fail) (.leaf (.int .u64 x))

theorem spread_eq (x e : Int) : (dfun cx146 Tryz.f146 [.int .u64 x, .int .i64 e]).run = (spTree 7 x e).run :=
  (show (dfun cx146 Tryz.f146 [.int .u64 x, .int .i64 e]).run = (spTree 7 x e).out by kernel_rfl).trans (Tree.out_run _)

def spreadF : Nat → Int → Int → Int
  | 0, x, _ => x
  | k + 1, x, e => cond (decide (e < 64)) (spreadF k (or64 x (IntKind.wrap .u64 (x * 2 ^ Min.min (Int.toNat e) 64))) (IntKind.wrap .i64 (e * 2))) x

theorem spTree_run : ∀ (k : Nat) (x : Int) (e : Nat), 64 ≤ e * 2 ^ k → e ≤ 64 → (spTree (k + 1) x e).run = some (.int .u64 (spreadF (k + 1) x e))
  | k, x, e, he, h64 => by
    unfold spTree spreadF
    by_cases hlt : e < 64
    · rw [decide_eq_true (show (e : Int) < 64 by omega), decide_eq_true (show 0 ≤ (e : Int) by omega)]
      show (spTree k _ _).run = some (.int .u64 (spreadF k _ _))
      rw [wrap_i64 (by omega) (by omega), show (e : Int) * 2 = ((2 * e : Nat) : Int) by omega]
      cases k with
      | zero => omega
      | succ k =>
        by_cases h2 : 2 * e ≤ 64
        · exact spTree_run k _ _ (by rw [Nat.pow_succ] at he; rw [Nat.mul_comm 2 e, Nat.mul_assoc, Nat.mul_comm 2]; exact he) h2
        · unfold spTree spreadF
          rw [decide_eq_false (show ¬ ((2 * e : Nat) : Int) < 64 by omega)]
          rfl
    · rw [decide_eq_false (show ¬ (e : Int) < 64 by omega)]
      rfl

theorem spreadF_nat : ∀ (k x e : Nat), x < 2 ^ 64 → e < 2 ^ 40 → spreadF k (x : Int) (e : Int) = ((spreadN k x e : Nat) : Int)
  | 0, x, e, _, _ => rfl
  | k + 1, x, e, hx, he => by
    unfold spreadF spreadN
    by_cases hlt : e < 64
    · have q2 : (x <<< e) % 2 ^ 64 < 2 ^ 64 := Nat.mod_lt _ (by decide)
      have e1 : Min.min e 64 = e := by omega
      rw [decide_eq_true (show (e : Int) < 64 by omega), show Nat.blt e 64 = true from Nat.ble_eq_true_of_le hlt, cond_true, cond_true]
      rw [Int.toNat_natCast, e1, shl64_cast, or64_cast hx q2, wrap_i64 (by omega) (by omega), show (e : Int) * 2 = ((2 * e : Nat) : Int) by omega]
      exact spreadF_nat k _ _ (Nat.or_lt_two_pow hx q2) (by omega)
    · have hb : Nat.blt e 64 = false := by
        cases h : Nat.blt e 64
        · rfl
        · have := Nat.le_of_ble_eq_true h; omega
      rw [decide_eq_false (show ¬ (e : Int) < 64 by omega), hb]
      rfl

def spreadS : Ab.Spec := fun args => match args with
  | [.int .u64 x, .int .i64 e] => .req (decide (1 ≤ e)) (.req (decide (e ≤ 64)) (.leaf (.int .u64 (spreadF 7 x e))))
  | _ => .fail

theorem spreadS_ok : Sound Tryz.prog 146 spreadS := by
  intro args out h
  unfold spreadS at h
  split at h
  rotate_left
  · cases h
  rename_i x e
  obtain ⟨h1, h⟩ := req_run h
  obtain ⟨h2, h⟩ := req_run h
  have h := leaf_out h
  subst h
  have h1 := of_decide_eq_true h1
  have h2 := of_decide_eq_true h2
  obtain ⟨e, rfl⟩ := Int.eq_ofNat_of_zero_le (show 0 ≤ e by omega)
  refine pcall_fun' (cx := cx146) (fn := Tryz.f146) (cx0_ok rfl rfl) (by kernel_rfl) (by kernel_rfl) (by kernel_rfl) ?_
  refine (spread_eq x e).trans ?_
  exact spTree_run 6 x e (by omega) (by omega)

/-! OnesCount64 -/

def pc1 (x : Int) : Int := IntKind.wrap .u64 (and64 (Int.fdiv x (2 ^ 1)) 6148914691236517205 + and64 x 6148914691236517205)
def pc2 (x : Int) : Int := IntKind.wrap .u64 (and64 (Int.fdiv x (2 ^ 2)) 3689348814741910323 + and64 x 3689348814741910323)
def pc3 (x : Int) : Int := and64 (IntKind.wrap .u64 (Int.fdiv x (2 ^ 4) + x)) 1085102592571150095
def pc4 (x : Int) : Int := IntKind.wrap .u64 (x + Int.fdiv x (2 ^ 8))
def pc5 (x : Int) : Int := IntKind.wrap .u64 (x + Int.fdiv x (2 ^ 16))
def pc6 (x : Int) : Int := IntKind.wrap .u64 (x + Int.fdiv x (2 ^ 32))
def pc7 (x : Int) : Int := IntKind.wrap .i64 ↑(BitVec.toNat (BitVec.ofInt 64 (IntKind.wrap .i64 x) &&& BitVec.ofInt 64 127))

theorem count_eq (x : Int) : (dfun cx148 Tryz.f148 [.int .u64 x]).run = some (.int .i64 (pc7 (pc6 (pc5 (pc4 (pc3 (pc2 (pc1 x)))))))) := by kernel_rfl

def m1 : Nat := 6148914691236517205
def m2 : Nat := 3689348814741910323
def m3 : Nat := 1085102592571150095
def cnt1 (x : Nat) : Nat := ((x >>> 1 &&& m1) + (x &&& m1)) % 2 ^ 64
def cnt2 (x : Nat) : Nat := ((x >>> 2 &&& m2) + (x &&& m2)) % 2 ^ 64
def cnt3 (x : Nat) : Nat := ((x >>> 4 + x) % 2 ^ 64) &&& m3
def cnt4 (x : Nat) : Nat := (x + x >>> 8) % 2 ^ 64
def cnt5 (x : Nat) : Nat := (x + x >>> 16) % 2 ^ 64
def cnt6 (x : Nat) : Nat := (x + x >>> 32) % 2 ^ 64
/-- How many ones. -/
def cntN (x : Nat) : Nat := cnt6 (cnt5 (cnt4 (cnt3 (cnt2 (cnt1 x))))) &&& 127

theorem cntN_lt (x : Nat) : cntN x < 128 := Nat.and_lt_two_pow (n := 7) _ (by decide)

theorem pc_step {x k m : Nat} (hx : x < 2 ^ 64) (hm : m < 2 ^ 64) : IntKind.wrap .u64 (and64 (Int.fdiv (x : Int) (2 ^ k)) (m : Int) + and64 (x : Int) (m : Int)) = ((((x >>> k &&& m) + (x &&& m)) % 2 ^ 64 : Nat) : Int) := by
  have q1 : x >>> k < 2 ^ 64 := by rw [Nat.shiftRight_eq_div_pow]; exact Nat.lt_of_le_of_lt (Nat.div_le_self _ _) hx
  rw [shr_cast, and64_cast q1 hm, and64_cast hx hm, add64_cast]
theorem pc_add (x k : Nat) : IntKind.wrap .u64 ((x : Int) + Int.fdiv (x : Int) (2 ^ k)) = (((x + x >>> k) % 2 ^ 64 : Nat) : Int) := by
  rw [shr_cast, add64_cast]

theorem cnt_int {x : Nat} (hx : x < 2 ^ 64) : pc7 (pc6 (pc5 (pc4 (pc3 (pc2 (pc1 (x : Int))))))) = ((cntN x : Nat) : Int) := by
  have s1 : pc1 (x : Int) = ((cnt1 x : Nat) : Int) := pc_step (k := 1) (m := m1) hx (by decide)
  have b1 : cnt1 x < 2 ^ 64 := Nat.mod_lt _ (by decide)
  have s2 : pc2 (cnt1 x : Int) = ((cnt2 (cnt1 x) : Nat) : Int) := pc_step (k := 2) (m := m2) b1 (by decide)
  have b2 : cnt2 (cnt1 x) < 2 ^ 64 := Nat.mod_lt _ (by decide)
  have s3 : pc3 (cnt2 (cnt1 x) : Int) = ((cnt3 (cnt2 (cnt1 x)) : Nat) : Int) := by
    unfold pc3 cnt3
    rw [shr_cast, add64_cast]
    exact and64_cast (b := m3) (Nat.mod_lt _ (by decide)) (by decide)
  have s4 : pc4 (cnt3 (cnt2 (cnt1 x)) : Int) = ((cnt4 (cnt3 (cnt2 (cnt1 x))) : Nat) : Int) := pc_add _ 8
  have s5 : pc5 (cnt4 (cnt3 (cnt2 (cnt1 x))) : Int) = ((cnt5 (cnt4 (cnt3 (cnt2 (cnt1 x)))) : Nat) : Int) := pc_add _ 16
  have s6 : pc6 (cnt5 (cnt4 (cnt3 (cnt2 (cnt1 x)))) : Int) = ((cnt6 (cnt5 (cnt4 (cnt3 (cnt2 (cnt1 x))))) : Nat) : Int) := pc_add _ 32
  rw [s1, s2, s3, s4, s5, s6]
  unfold pc7 cntN
  have b6 : cnt6 (cnt5 (cnt4 (cnt3 (cnt2 (cnt1 x))))) < 2 ^ 64 := Nat.mod_lt _ (by decide)
  generalize cnt6 (cnt5 (cnt4 (cnt3 (cnt2 (cnt1 x))))) = y at b6
  have ew : (BitVec.ofInt 64 (IntKind.wrap .i64 (y : Int))).toNat = y := by
    rw [BitVec.toNat_ofInt]
    have h : IntKind.wrap .i64 (y : Int) = if (y : Int) % 18446744073709551616 ≥ 9223372036854775808 then (y : Int) % 18446744073709551616 - 18446744073709551616 else (y : Int) % 18446744073709551616 := by
      simp [IntKind.wrap, IntKind.bits, IntKind.signed]
    rw [h]
    have : ((2 ^ 64 : Nat) : Int) = 18446744073709551616 := rfl
    rw [this]
    split <;> omega
  rw [BitVec.toNat_and, ew, show (BitVec.ofInt 64 127).toNat = 127 from by decide]
  have : y &&& 127 < 128 := Nat.and_lt_two_pow (n := 7) _ (by decide)
  rw [wrap_i64 (by omega) (by omega)]

def cntF (x : Int) : Int := pc7 (pc6 (pc5 (pc4 (pc3 (pc2 (pc1 x))))))
def countNS : Ab.Spec := fun args => match args with
  | [.int .u64 x] => .leaf (.int .i64 (cntF x))
  | _ => .fail

theorem countNS_ok : Sound Tryz.prog 148 countNS := by
  intro args out h
  unfold countNS at h
  split at h
  rotate_left
  · cases h
  rename_i x
  have h := leaf_out h
  subst h
  refine pcall_fun' (cx := cx148) (fn := Tryz.f148) (cx0_ok rfl rfl) (by kernel_rfl) (by kernel_rfl) (by kernel_rfl) ?_
  exact count_eq x

end Go.Rk

namespace Go.Rk
open Go Go.Ab Go.Proofs Go.Ra Go.Wd

theorem ok1 {P : Program} {f : Nat} {s : Ab.Spec} (h : Sound P f s) : TabOk P [(f, s)] := .cons h (.nil _)
theorem blt_true {a b : Nat} (h : a < b) : Nat.blt a b = true := Nat.ble_eq_true_of_le h
theorem br_t {α : Type} {c : Bool} {x y : Tree α} (h : c = true) : (Tree.br c x y).run = x.run := by rw [h]; rfl
/-! The element that fields tell. -/

def elE (n s : Nat) : Nat := cond (Nat.beq n 1) 64 (cond (Nat.blt s 32) 32 (cond (Nat.blt s 48) 16 (cond (Nat.blt s 56) 8 (cond (Nat.blt s 60) 4 (cond (Nat.blt s 62) 2 0)))))
def elC (n s : Nat) : Nat := cond (Nat.beq (elE n s) 0) 0 (s % elE n s + 1)
def elOk (n s : Nat) : Bool := cond (Nat.beq (elE n s) 0) false (Nat.blt (elC n s) (elE n s))

/-! At. -/

/-- A mask by its element's bits, its ones, its turns. -/
def maskM (e c r : Nat) : Nat := spreadN 7 (turnedN (onesN c) e r) e
def atIn (n r s : Int) : Bool := (decide (0 ≤ n) && decide (n ≤ 1)) && ((decide (0 ≤ r) && decide (r ≤ 63)) && (decide (0 ≤ s) && decide (s ≤ 63)))
def atOkN (n r s : Nat) : Bool := cond (elOk n s) (Nat.blt r (elE n s)) false
def atVN (n r s : Nat) : Nat := cond (atOkN n r s) (maskM (elE n s) (elC n s) r) 0
def atV (n r s : Int) : Nat := cond (atIn n r s) (atVN n.toNat r.toNat s.toNat) 0

end Go.Rk

namespace Go.Rk
open Go Go.Ab Go.Proofs Go.Ra Go.Wd

/-- The context of foundry/foundryref10.high. -/
noncomputable def cx131 : Cx := { P := Tryz.prog, n := 12, tab := [], mtab := [], refs := [], keeps := [0, 2, 3, 4, 6, 8, 10] }
def highT (e : Int) : Tree V :=
  (.br (e == 16) (.leaf (.int .i64 32)) (.br (e == 8) (.leaf (.int .i64 48)) (.br (e == 4) (.leaf (.int .i64 56)) (.br (e == 2) (.leaf (.int .i64 60)) (.leaf (.int .i64 0))))))

theorem highT_eq (e : Int) : (dfun cx131 Tryz.f131 [.int .i64 e]).run = (highT e).run :=
  (show (dfun cx131 Tryz.f131 [.int .i64 e]).run = (highT e).out by kernel_rfl).trans (Tree.out_run _)

def highF (e : Int) : Int := cond (e == 16) 32 (cond (e == 8) 48 (cond (e == 4) 56 (cond (e == 2) 60 0)))
def highS : Ab.Spec := fun args => match args with
  | [.int .i64 e] => .leaf (.int .i64 (highF e))
  | _ => .fail
theorem highS_ok : Sound Tryz.prog 131 highS := by
  intro args out h
  unfold highS at h
  split at h
  rotate_left
  · cases h
  rename_i e
  have h := leaf_out h
  subst h
  refine pcall_fun' (cx := cx131) (fn := Tryz.f131) (cx0_ok rfl rfl) (by kernel_rfl) (by kernel_rfl) (by kernel_rfl) ?_
  rw [highT_eq]
  unfold highT highF
  cases (e == 16) <;> cases (e == 8) <;> cases (e == 4) <;> cases (e == 2) <;> rfl
/-! The element, bit by bit. -/

/-! All elements. -/

def allT (f : Nat → Nat → Nat → Bool) : Bool := [2, 4, 8, 16, 32, 64].all fun e => (List.range e).all fun c => (Nat.beq c 0) || (List.range e).all fun r => f e c r
theorem allT_spec {f : Nat → Nat → Nat → Bool} (h : allT f = true) {e c r : Nat} (he : e ∈ [2, 4, 8, 16, 32, 64]) (c0 : 0 < c) (c1 : c < e) (r1 : r < e) : f e c r = true := by
  have h := List.all_eq_true.1 (List.all_eq_true.1 h e he) c (List.mem_range.2 c1)
  rcases Bool.or_eq_true_iff.1 h with h | h
  · have := Nat.eq_of_beq_eq_true h; omega
  · exact List.all_eq_true.1 h r (List.mem_range.2 r1)

end Go.Rk

namespace Go.Rk
open Go Go.Ab Go.Proofs Go.Ra Go.Wd

/-- The context of foundry/mask.Of. -/
noncomputable def cx109 : Cx := { P := Tryz.prog, n := 62, tab := [(147, onesS), (146, spreadS), (149, turnedS), (148, countNS)], mtab := [], refs := [], keeps := [0, 2, 3, 4, 5, 6, 7, 8, 9, 15, 27, 36, 37, 38, 46, 48] }
noncomputable abbrev OB : Code := bodyOf Tryz.f109
def ofPre (m : Int) : Tree St :=
  (.br (m == 0) (.leaf (.ret, [(0, (.int .u64 m)), (2, (.int .i64 0)), (3, (.int .i64 0)), (4, (.int .i64 0)), (5, (.bool false)), (15, (.bool true))], [])) (.br (m == 18446744073709551615) (.leaf (.ret, [(0, (.int .u64 m)), (2, (.int .i64 0)), (3, (.int .i64 0)), (4, (.int .i64 0)), (5, (.bool false)), (15, (.bool true))], [])) (.leaf (.normal, [(0, (.int .u64 m)), (2, (.int .i64 0)), (3, (.int .i64 0)), (4, (.int .i64 0)), (5, (.bool false)), (6, (.int .i64 2)), (15, (.bool false))], []))))

theorem ofPre_eq (m : Int) : (dcode cx109 (headN 2 OB) (initT 0 [.int .u64 m]) []).run = (ofPre m).run :=
  (show (dcode cx109 (headN 2 OB) (initT 0 [.int .u64 m]) []).run = (ofPre m).out by kernel_rfl).trans (Tree.out_run _)

def ofLoop1 (m e : Int) : Tree St :=
  (.br (decide (e < 64)) (.br (decide (0 ≤ e)) (.br (decide (1 ≤ e)) (.br (decide (e ≤ 64)) (.br (Go.Rk.spreadF 7 (IntKind.wrap IntKind.u64 ↑(BitVec.toNat (BitVec.ofInt 64 m &&& BitVec.ofInt 64 (Go.Rk.onesF e)))) e != m) (.leaf (.normal, [(0, (.int .u64 m)), (6, (.int .i64 (IntKind.wrap IntKind.i64 (e * 2)))), (27, (.bool true))], [])) (.leaf ((.exit 0), [(0, (.int .u64 m)), (6, (.int .i64 e)), (27, (.bool false))], []))) .fail) .fail) .fail) (.leaf ((.exit 0), [(0, (.int .u64 m)), (6, (.int .i64 e)), (27, (.bool false))], [])))

theorem ofLoop1_eq (m e : Int) : (dcode cx109 (cin (cin (c1 (tailN 2 OB)))) [(0, .int .u64 m), (6, .int .i64 e)] []).run = (ofLoop1 m e).run :=
  (show (dcode cx109 (cin (cin (c1 (tailN 2 OB)))) [(0, .int .u64 m), (6, .int .i64 e)] []).run = (ofLoop1 m e).out by kernel_rfl).trans (Tree.out_run _)

def ofMid (m e : Int) : Tree St :=
  (.br (decide (0 ≤ e)) (.leaf (.normal, [(0, (.int .u64 m)), (6, (.int .i64 e)), (7, (.int .u64 (IntKind.wrap IntKind.u64 ↑(BitVec.toNat (BitVec.ofInt 64 m &&& BitVec.ofInt 64 (Go.Rk.onesF e)))))), (8, (.int .i64 (Go.Rk.cntF (IntKind.wrap IntKind.u64 ↑(BitVec.toNat (BitVec.ofInt 64 m &&& BitVec.ofInt 64 (Go.Rk.onesF e)))))))], [])) .fail)

theorem ofMid_eq (m e : Int) : (dcode cx109 (headN 1 (tailN 3 OB)) [(0, .int .u64 m), (6, .int .i64 e)] []).run = (ofMid m e).run :=
  (show (dcode cx109 (headN 1 (tailN 3 OB)) [(0, .int .u64 m), (6, .int .i64 e)] []).run = (ofMid m e).out by kernel_rfl).trans (Tree.out_run _)

def ofMid2 (x e c : Int) : Tree St :=
  (.leaf (.normal, [(6, (.int .i64 e)), (7, (.int .u64 x)), (8, (.int .i64 c)), (36, (.int .i64 e)), (37, (.int .i64 0))], []))

theorem ofMid2_eq (x e c : Int) : (dcode cx109 (c1 (c1 (tailN 5 OB))) [(6, .int .i64 e), (7, .int .u64 x), (8, .int .i64 c)] []).run = (ofMid2 x e c).run :=
  (show (dcode cx109 (c1 (c1 (tailN 5 OB))) [(6, .int .i64 e), (7, .int .u64 x), (8, .int .i64 c)] []).run = (ofMid2 x e c).out by kernel_rfl).trans (Tree.out_run _)

def ofLoop2 (x e c k r : Int) : Tree St :=
  (.br (decide (r < k)) (.br (decide (0 ≤ c)) (.br (decide (0 ≤ r)) (.br (decide (0 ≤ IntKind.wrap IntKind.i64 (e - r))) (.br (decide (0 ≤ e)) (.br (Go.Rk.turnedF (Go.Rk.onesF c) e r != x) (.leaf (.normal, [(6, (.int .i64 e)), (7, (.int .u64 x)), (8, (.int .i64 c)), (9, (.int .i64 r)), (36, (.int .i64 k)), (37, (.int .i64 (IntKind.wrap IntKind.i64 (r + 1)))), (38, (.bool true)), (46, (.bool true))], [])) (.br (e == 64) (.leaf (.ret, [(2, (.int .i64 1)), (3, (.int .i64 r)), (4, (.int .i64 (IntKind.wrap IntKind.i64 (c - 1)))), (5, (.bool true)), (6, (.int .i64 e)), (7, (.int .u64 x)), (8, (.int .i64 c)), (9, (.int .i64 r)), (36, (.int .i64 k)), (37, (.int .i64 r)), (38, (.bool true)), (46, (.bool false)), (48, (.bool true))], [])) (.leaf (.ret, [(2, (.int .i64 0)), (3, (.int .i64 r)), (4, (.int .i64 (IntKind.wrap IntKind.i64 (IntKind.wrap IntKind.i64 ↑(BitVec.toNat (BitVec.ofInt 64 (IntKind.wrap IntKind.i64 ↑(BitVec.toNat (BitVec.ofInt 64 (IntKind.wrap IntKind.i64 ↑(BitVec.toNat (BitVec.ofInt 64 (if true = true then -1 else IntKind.max IntKind.i64) ^^^ BitVec.ofInt 64 (IntKind.wrap IntKind.i64 (IntKind.wrap IntKind.i64 (2 * e) - 1))))) &&& BitVec.ofInt 64 63))) ||| BitVec.ofInt 64 c)) - 1)))), (5, (.bool true)), (6, (.int .i64 e)), (7, (.int .u64 x)), (8, (.int .i64 c)), (9, (.int .i64 r)), (36, (.int .i64 k)), (37, (.int .i64 r)), (38, (.bool true)), (46, (.bool false)), (48, (.bool false))], [])))) .fail) .fail) .fail) .fail) (.leaf ((.exit 2), [(6, (.int .i64 e)), (7, (.int .u64 x)), (8, (.int .i64 c)), (36, (.int .i64 k)), (37, (.int .i64 r)), (38, (.bool false))], [])))

theorem ofLoop2_eq (x e c k r : Int) : (dcode cx109 (cin (cin (c2 (c1 (tailN 5 OB))))) [(6, .int .i64 e), (7, .int .u64 x), (8, .int .i64 c), (36, .int .i64 k), (37, .int .i64 r)] []).run = (ofLoop2 x e c k r).run :=
  (show (dcode cx109 (cin (cin (c2 (c1 (tailN 5 OB))))) [(6, .int .i64 e), (7, .int .u64 x), (8, .int .i64 c), (36, .int .i64 k), (37, .int .i64 r)] []).run = (ofLoop2 x e c k r).out by kernel_rfl).trans (Tree.out_run _)

def ofEnd  : Tree St :=
  (.leaf (.ret, [(2, (.int .i64 0)), (3, (.int .i64 0)), (4, (.int .i64 0)), (5, (.bool false))], []))

theorem ofEnd_eq  : (dcode cx109 (tailN 6 OB) [] []).run = (ofEnd ).run :=
  (show (dcode cx109 (tailN 6 OB) [] []).run = (ofEnd ).out by kernel_rfl).trans (Tree.out_run _)

theorem all_t {α : Type} {c : Bool} {x y : Tree α} {Q : α → Prop} (h : c = true) (hx : x.all Q) : (Tree.br c x y).all Q := ⟨fun _ => hx, fun e => Bool.noConfusion (h.symm.trans e)⟩
theorem all_f {α : Type} {c : Bool} {x y : Tree α} {Q : α → Prop} (h : c = false) (hy : y.all Q) : (Tree.br c x y).all Q := ⟨fun e => Bool.noConfusion (h.symm.trans e), fun _ => hy⟩

/-! The result, plainly. -/

def pE (m e : Nat) : Bool := Nat.beq (spreadN 7 (m &&& onesN e) e) m
/-- The least element that a number repeats. -/
def ofE (m : Nat) : Nat := cond (pE m 2) 2 (cond (pE m 4) 4 (cond (pE m 8) 8 (cond (pE m 16) 16 (cond (pE m 32) 32 64))))
def pR (x e c r : Nat) : Bool := Nat.beq (turnedN (onesN c) e r) x
def ofX (m : Nat) : Nat := m &&& onesN (ofE m)
def ofC (m : Nat) : Nat := cntN (ofX m)
def ofFind (m : Nat) : Option Nat := cond (Nat.beq m 0 || Nat.beq m 18446744073709551615) none ((List.range (ofE m)).find? (pR (ofX m) (ofE m) (ofC m)))
def imsI (e c : Nat) : Int := cond (Nat.beq e 64) (IntKind.wrap .i64 ((c : Int) - 1))
  (IntKind.wrap IntKind.i64 (IntKind.wrap IntKind.i64 ↑(BitVec.toNat (BitVec.ofInt 64 (IntKind.wrap IntKind.i64 ↑(BitVec.toNat (BitVec.ofInt 64 (IntKind.wrap IntKind.i64 ↑(BitVec.toNat (BitVec.ofInt 64 (if true = true then -1 else IntKind.max IntKind.i64) ^^^ BitVec.ofInt 64 (IntKind.wrap IntKind.i64 (IntKind.wrap IntKind.i64 (2 * (e : Int)) - 1))))) &&& BitVec.ofInt 64 63))) ||| BitVec.ofInt 64 (c : Int))) - 1))
def ofOk (m : Nat) : Bool := (ofFind m).isSome
def ofVN (m : Nat) : Int := cond (ofOk m) (cond (Nat.beq (ofE m) 64) 1 0) 0
def ofVR (m : Nat) : Int := (((ofFind m).getD 0 : Nat) : Int)
def ofVS (m : Nat) : Int := cond (ofOk m) (imsI (ofE m) (ofC m)) 0
def ofV (m : Nat) : V := .tup [.int .i64 (ofVN m), .int .i64 (ofVR m), .int .i64 (ofVS m), .bool (ofOk m)]

theorem ofV_none {m : Nat} (h : ofFind m = none) : ofV m = .tup [.int .i64 0, .int .i64 0, .int .i64 0, .bool false] := by
  have h1 : ofOk m = false := by unfold ofOk; rw [h]; rfl
  unfold ofV ofVN ofVR ofVS
  rw [h1, h]
  rfl
theorem ofV_some {m r : Nat} (h : ofFind m = some r) : ofV m = .tup [.int .i64 (cond (Nat.beq (ofE m) 64) 1 0), .int .i64 (r : Int), .int .i64 (imsI (ofE m) (ofC m)), .bool true] := by
  have h1 : ofOk m = true := by unfold ofOk; rw [h]; rfl
  unfold ofV ofVN ofVR ofVS
  rw [h1, h]
  rfl

theorem bne_cast (a b : Nat) : ((a : Int) != (b : Int)) = !(Nat.beq a b) := by
  by_cases h : a = b
  · subst h
    simp
  · have : ¬ (a : Int) = (b : Int) := by omega
    have hb : Nat.beq a b = false := by
      cases hb : Nat.beq a b
      · rfl
      · exact absurd (Nat.eq_of_beq_eq_true hb) h
    rw [hb]
    simpa [bne] using this

theorem pE_int {m e : Nat} (hm : m < 2 ^ 64) (he : e ≤ 64) : (spreadF 7 (IntKind.wrap IntKind.u64 ↑(BitVec.toNat (BitVec.ofInt 64 (m : Int) &&& BitVec.ofInt 64 (onesF (e : Int))))) (e : Int) != (m : Int)) = !(pE m e) := by
  have h1 : IntKind.wrap IntKind.u64 ↑(BitVec.toNat (BitVec.ofInt 64 (m : Int) &&& BitVec.ofInt 64 (onesF (e : Int)))) = ((m &&& onesN e : Nat) : Int) := by
    rw [onesF_nat]
    exact and64_cast hm (onesN_lt e)
  rw [h1, spreadF_nat _ _ _ (Nat.and_lt_two_pow _ (onesN_lt e)) (by omega), bne_cast]
  rfl

/-- The element after so many rounds. -/
def ofSt (m : Nat) (j : { j : Nat // j ≤ 5 ∧ ∀ i, i < j → pE m (2 ^ (i + 1)) = false }) : T × List O := ([(0, .int .u64 (m : Int)), (6, .int .i64 ((2 ^ (j.1 + 1) : Nat) : Int))], [])

theorem ofE_at {m j : Nat} (hj : j ≤ 5) (hf : ∀ i, i < j → pE m (2 ^ (i + 1)) = false) (h : j = 5 ∨ pE m (2 ^ (j + 1)) = true) : ofE m = 2 ^ (j + 1) := by
  have f0 := fun h => hf 0 h
  have f1 := fun h => hf 1 h
  have f2 := fun h => hf 2 h
  have f3 := fun h => hf 3 h
  have f4 := fun h => hf 4 h
  unfold ofE
  have hj' : j = 0 ∨ j = 1 ∨ j = 2 ∨ j = 3 ∨ j = 4 ∨ j = 5 := by omega
  rcases hj' with rfl | rfl | rfl | rfl | rfl | rfl
  · have : pE m 2 = true := by simpa using h
    rw [this]; rfl
  · have a0 : pE m 2 = false := f0 (by omega)
    have : pE m 4 = true := by simpa using h
    rw [a0, this]; rfl
  · have a0 : pE m 2 = false := f0 (by omega)
    have a1 : pE m 4 = false := f1 (by omega)
    have : pE m 8 = true := by simpa using h
    rw [a0, a1, this]; rfl
  · have a0 : pE m 2 = false := f0 (by omega)
    have a1 : pE m 4 = false := f1 (by omega)
    have a2 : pE m 8 = false := f2 (by omega)
    have : pE m 16 = true := by simpa using h
    rw [a0, a1, a2, this]; rfl
  · have a0 : pE m 2 = false := f0 (by omega)
    have a1 : pE m 4 = false := f1 (by omega)
    have a2 : pE m 8 = false := f2 (by omega)
    have a3 : pE m 16 = false := f3 (by omega)
    have : pE m 32 = true := by simpa using h
    rw [a0, a1, a2, a3, this]; rfl
  · have a0 : pE m 2 = false := f0 (by omega)
    have a1 : pE m 4 = false := f1 (by omega)
    have a2 : pE m 8 = false := f2 (by omega)
    have a3 : pE m 16 = false := f3 (by omega)
    have a4 : pE m 32 = false := f4 (by omega)
    rw [a0, a1, a2, a3, a4]; rfl

theorem pow_le5 {j : Nat} (hj : j ≤ 5) : 2 ≤ 2 ^ (j + 1) ∧ 2 ^ (j + 1) ≤ 64 ∧ (j < 5 → 2 ^ (j + 1) < 64) ∧ (j = 5 → 2 ^ (j + 1) = 64) := by
  have hj' : j = 0 ∨ j = 1 ∨ j = 2 ∨ j = 3 ∨ j = 4 ∨ j = 5 := by omega
  rcases hj' with rfl | rfl | rfl | rfl | rfl | rfl <;> decide

theorem ofE_ok (m : Nat) : 2 ≤ ofE m ∧ ofE m ≤ 64 := by
  unfold ofE
  cases pE m 2 <;> cases pE m 4 <;> cases pE m 8 <;> cases pE m 16 <;> cases pE m 32 <;> decide

def ofSt2 (m : Nat) (r : { r : Nat // r ≤ ofE m ∧ ∀ i, i < r → pR (ofX m) (ofE m) (ofC m) i = false }) : T × List O :=
  ([(6, .int .i64 (ofE m : Int)), (7, .int .u64 (ofX m : Int)), (8, .int .i64 (ofC m : Int)), (36, .int .i64 (ofE m : Int)), (37, .int .i64 (r.1 : Int))], [])

def ofQ (m : Nat) (e : AEx) (t : T) (H : List O) : Prop := (e = .ret ∨ e = .normal) ∧ answerV Tryz.prog Tryz.f109.results.toList H t = some (ofV m)

theorem cxOf_ok : CxOk cx109 := cx1_ok (.cons onesS_ok (.cons spreadS_ok (.cons turnedS_ok (ok1 countNS_ok)))) (.nil _) rfl rfl

theorem ans4 {t : T} {H : List O} {a b c : Int} {d : Bool} (h1 : get 2 t = .int .i64 a) (h2 : get 3 t = .int .i64 b) (h3 : get 4 t = .int .i64 c) (h4 : get 5 t = .bool d) :
    answerV Tryz.prog Tryz.f109.results.toList H t = some (.tup [.int .i64 a, .int .i64 b, .int .i64 c, .bool d]) := by
  unfold answerV
  rw [show Tryz.f109.results.toList = [.tmp 2, .tmp 3, .tmp 4, .tmp 5] from by kernel_rfl]
  simp [resV, h1, h2, h3, h4, V.pures?, V.pure?]

theorem of_loop2 {m : Nat} (_hm : m < 2 ^ 64) (h0 : (Nat.beq m 0 || Nat.beq m 18446744073709551615) = false) :
    AWP Tryz.prog 62 (tailN 5 OB) (ofQ m) [(6, .int .i64 (ofE m : Int)), (7, .int .u64 (ofX m : Int)), (8, .int .i64 (ofC m : Int))] [] := by
  have e : tailN 5 OB = .seq (.seq (c1 (c1 (tailN 5 OB))) (.block 2 (.loop (cin (cin (c2 (c1 (tailN 5 OB)))))))) (tailN 6 OB) := by kernel_rfl
  rw [e]
  obtain ⟨e1, e2⟩ := ofE_ok m
  have hc : ofC m < 128 := cntN_lt _
  have hx : ofX m < 2 ^ 64 := Nat.and_lt_two_pow _ (onesN_lt _)
  refine AWP_seq (AWP_seq (AWP_run (cx := cx109) rfl rfl cxOf_ok (ofMid2_eq (ofX m) (ofE m) (ofC m)) ?_))
  refine AWP_block ?_
  refine AWP.less (s := (ofSt2 m ⟨0, Nat.zero_le _, fun i h => absurd h (Nat.not_lt_zero i)⟩).1) (Fits.tle ⟨rfl, rfl, rfl, rfl, rfl, trivial⟩) ?_
  refine AWP_rounds (cx := cx109) (P := Tryz.prog) (n := 62) rfl rfl cxOf_ok (ofSt2 m) (fun r => ofE m - r.1) ?_ ⟨0, Nat.zero_le _, fun i h => absurd h (Nat.not_lt_zero i)⟩
  rintro ⟨r, hr, hnone⟩
  refine Tree.all_run_eq (ofLoop2_eq (ofX m) (ofE m) (ofC m) (ofE m) r) ?_
  refine ⟨fun hlt => all_t (decide_eq_true (by omega)) (all_t (decide_eq_true (by omega)) (all_t (decide_eq_true ?_) (all_t (decide_eq_true (by omega)) ⟨fun hp => ?_, fun hp => ?_⟩))), fun hge => ?_⟩
  · have hlt : (r : Int) < (ofE m : Int) := of_decide_eq_true hlt
    rw [wrap_i64 (by omega) (by omega)]; omega
  · have hlt : (r : Int) < (ofE m : Int) := of_decide_eq_true hlt
    rw [onesF_nat, turnedF_nat (onesN_lt _) (by omega) e2, bne_cast] at hp
    have hp : pR (ofX m) (ofE m) (ofC m) r = false := by simpa [pR] using hp
    refine ⟨[], _, rfl, ⟨r + 1, by omega, fun i hi => ?_⟩, by show ofE m - (r + 1) < ofE m - r; omega, Fits.tle ⟨rfl, rfl, rfl, rfl, ?_, trivial⟩, rfl⟩
    · by_cases h : i < r
      · exact hnone i h
      · have : i = r := by omega
        rw [this]; exact hp
    · show V.int .i64 (IntKind.wrap .i64 ((r : Int) + 1)) = V.int .i64 ((r + 1 : Nat) : Int)
      rw [wrap_i64 (by omega) (by omega)]
      rfl
  · have hlt : (r : Int) < (ofE m : Int) := of_decide_eq_true hlt
    rw [onesF_nat, turnedF_nat (onesN_lt _) (by omega) e2, bne_cast] at hp
    have hp : pR (ofX m) (ofE m) (ofC m) r = true := by simpa [pR] using hp
    have hf : ofFind m = some r := by
      unfold ofFind
      rw [h0, cond_false, List.find?_range_eq_some]
      exact ⟨hp, List.mem_range.2 (by omega), fun j hj => by rw [hnone j hj]; rfl⟩
    refine ⟨fun h64 => ?_, fun h64 => ?_⟩
    · have h64 : ofE m = 64 := by
        have := eq_of_beq h64
        omega
      refine ⟨[], _, rfl, .inl rfl, ?_⟩
      refine (ans4 rfl rfl rfl rfl).trans ?_
      rw [ofV_some hf, show Nat.beq (ofE m) 64 = true from by rw [h64]; rfl]
      unfold imsI
      rw [show Nat.beq (ofE m) 64 = true from by rw [h64]; rfl]
      rfl
    · have h64 : Nat.beq (ofE m) 64 = false := by
        cases hb : Nat.beq (ofE m) 64
        · rfl
        · have := Nat.eq_of_beq_eq_true hb
          rw [this] at h64
          cases h64
      refine ⟨[], _, rfl, .inl rfl, ?_⟩
      refine (ans4 rfl rfl rfl rfl).trans ?_
      rw [ofV_some hf, h64]
      unfold imsI
      rw [h64]
      rfl
  · have hge : ¬ (r : Int) < (ofE m : Int) := of_decide_eq_false hge
    have hre : r = ofE m := by omega
    have hf : ofFind m = none := by
      unfold ofFind
      rw [h0, cond_false, List.find?_range_eq_none]
      intro i hi
      rw [hnone i (by omega)]
      rfl
    refine ⟨[], _, rfl, ?_⟩
    show AWP _ _ _ _ _ _
    refine AWP.less (s := []) (Fits.tle trivial) ?_
    refine AWP_run (cx := cx109) rfl rfl cxOf_ok ofEnd_eq ?_
    refine ⟨.inl rfl, ?_⟩
    refine (ans4 rfl rfl rfl rfl).trans ?_
    rw [ofV_none hf]

theorem of_loop1 {m : Nat} (hm : m < 2 ^ 64) (h0 : (Nat.beq m 0 || Nat.beq m 18446744073709551615) = false) :
    AWP Tryz.prog 62 (tailN 2 OB) (ofQ m) [(0, .int .u64 (m : Int)), (6, .int .i64 2)] [] := by
  have e : tailN 2 OB = .seq (.block 0 (.loop (cin (cin (c1 (tailN 2 OB)))))) (tailN 3 OB) := by kernel_rfl
  rw [e]
  refine AWP_seq (AWP_block ?_)
  refine AWP.less (s := (ofSt m ⟨0, Nat.zero_le _, fun i h => absurd h (Nat.not_lt_zero i)⟩).1) (Fits.tle ⟨rfl, rfl, trivial⟩) ?_
  have after : ∀ {t : T}, get 0 t = .int .u64 (m : Int) → get 6 t = .int .i64 (ofE m : Int) → AWP Tryz.prog 62 (tailN 3 OB) (ofQ m) t [] := by
    intro t g1 g2
    refine AWP.less (s := [(0, .int .u64 (m : Int)), (6, .int .i64 (ofE m : Int))]) (Fits.tle ⟨g1, g2, trivial⟩) ?_
    refine AWP_headE (cx := cx109) rfl rfl cxOf_ok 1 (by kernel_rfl) (ofMid_eq m (ofE m)) ?_
    obtain ⟨e1, e2⟩ := ofE_ok m
    refine all_t (decide_eq_true (by omega)) ?_
    show AWP _ _ _ _ _ _
    have hx : IntKind.wrap IntKind.u64 ↑(BitVec.toNat (BitVec.ofInt 64 (m : Int) &&& BitVec.ofInt 64 (onesF (ofE m : Int)))) = (ofX m : Int) := by
      rw [onesF_nat]
      exact and64_cast hm (onesN_lt _)
    rw [hx]
    refine AWP.less (s := [(6, .int .i64 (ofE m : Int)), (7, .int .u64 (ofX m : Int)), (8, .int .i64 (ofC m : Int))]) (Fits.tle ⟨rfl, rfl, ?_, trivial⟩) (of_loop2 hm h0)
    show V.int .i64 (cntF (ofX m : Int)) = _
    exact congrArg (V.int .i64) (cnt_int (x := ofX m) (Nat.and_lt_two_pow _ (onesN_lt _)))
  refine AWP_rounds (cx := cx109) (P := Tryz.prog) (n := 62) rfl rfl cxOf_ok (ofSt m) (fun j => 5 - j.1) ?_ ⟨0, Nat.zero_le _, fun i h => absurd h (Nat.not_lt_zero i)⟩
  rintro ⟨j, hj, hf⟩
  obtain ⟨p1, p2, p3, p4⟩ := pow_le5 hj
  refine Tree.all_run_eq (ofLoop1_eq m (2 ^ (j + 1) : Nat)) ?_
  refine ⟨fun hlt => all_t (decide_eq_true (by omega)) (all_t (decide_eq_true (by omega)) (all_t (decide_eq_true (by omega)) ⟨fun hp => ?_, fun hp => ?_⟩)), fun hge => ?_⟩
  · have hlt : ((2 ^ (j + 1) : Nat) : Int) < 64 := of_decide_eq_true hlt
    rw [pE_int hm p2] at hp
    have hp : pE m (2 ^ (j + 1)) = false := by simpa using hp
    have hj5 : j < 5 := by
      by_cases h : j = 5
      · have := p4 h; omega
      · omega
    refine ⟨[], _, rfl, ⟨j + 1, by omega, fun i hi => ?_⟩, by show 5 - (j + 1) < 5 - j; omega, Fits.tle ⟨rfl, ?_, trivial⟩, rfl⟩
    · by_cases h : i < j
      · exact hf i h
      · have : i = j := by omega
        rw [this]; exact hp
    · show V.int .i64 (IntKind.wrap .i64 (((2 ^ (j + 1) : Nat) : Int) * 2)) = V.int .i64 ((2 ^ (j + 1 + 1) : Nat) : Int)
      rw [wrap_i64 (by omega) (by omega), Nat.pow_succ 2 (j + 1)]
      refine congrArg (V.int .i64) ?_
      omega
  · rw [pE_int hm p2] at hp
    have hp : pE m (2 ^ (j + 1)) = true := by simpa using hp
    refine ⟨[], _, rfl, ?_⟩
    show AWP _ _ _ _ _ _
    exact after rfl (by rw [ofE_at hj hf (.inr hp)]; rfl)
  · have hge : ¬ ((2 ^ (j + 1) : Nat) : Int) < 64 := of_decide_eq_false hge
    have h5 : j = 5 := by
      by_cases h : j < 5
      · have := p3 h; omega
      · omega
    refine ⟨[], _, rfl, ?_⟩
    show AWP _ _ _ _ _ _
    exact after rfl (by rw [ofE_at hj hf (.inl h5)]; rfl)

theorem of_ok {m : Nat} (hm : m < 2 ^ 64) : PCall Tryz.prog 109 [.int .u64 (m : Int)] (ofV m) := by
  refine pcall_of' (c := bodyOf Tryz.f109) (fn := Tryz.f109) (by kernel_rfl) (by kernel_rfl) (by kernel_rfl) (by kernel_rfl) ?_
  show AWP Tryz.prog _ OB (ofQ m) _ _
  refine AWP_headE (cx := cx109) rfl rfl cxOf_ok 2 (by kernel_rfl) (ofPre_eq m) ?_
  have none : (Nat.beq m 0 || Nat.beq m 18446744073709551615) = true → ofFind m = .none := by
    intro h
    unfold ofFind
    rw [h]
    rfl
  refine ⟨fun h => ?_, fun h1 => ⟨fun h => ?_, fun h2 => ?_⟩⟩
  · refine ⟨.inl rfl, ?_⟩
    refine (ans4 rfl rfl rfl rfl).trans ?_
    rw [ofV_none (none ?_)]
    have : m = 0 := by have := eq_of_beq h; omega
    rw [this]
    rfl
  · refine ⟨.inl rfl, ?_⟩
    refine (ans4 rfl rfl rfl rfl).trans ?_
    rw [ofV_none (none ?_)]
    have : m = 18446744073709551615 := by have := eq_of_beq h; omega
    rw [this]
    rfl
  · show AWP _ _ _ _ _ _
    refine AWP.less (s := [(0, .int .u64 (m : Int)), (6, .int .i64 2)]) (Fits.tle ⟨rfl, rfl, trivial⟩) (of_loop1 hm ?_)
    have a1 : m ≠ 0 := by intro h; rw [h] at h1; cases h1
    have a2 : m ≠ 18446744073709551615 := by intro h; rw [h] at h2; cases h2
    cases b1 : Nat.beq m 0
    · cases b2 : Nat.beq m 18446744073709551615
      · rfl
      · exact absurd (Nat.eq_of_beq_eq_true b2) a2
    · exact absurd (Nat.eq_of_beq_eq_true b1) a1

def ofS : Ab.Spec := fun args => match args with
  | [.int .u64 m] => .req (decide (0 ≤ m) && decide (m < 18446744073709551616)) (.leaf (.tup [.int .i64 (ofVN m.toNat), .int .i64 (ofVR m.toNat), .int .i64 (ofVS m.toNat), .bool (ofOk m.toNat)]))
  | _ => .fail

theorem ofS_ok : Sound Tryz.prog 109 ofS := by
  intro args out h
  unfold ofS at h
  split at h
  rotate_left
  · cases h
  rename_i m
  obtain ⟨h1, h⟩ := req_run h
  have h := leaf_out h
  subst h
  simp only [Bool.and_eq_true, decide_eq_true_eq] at h1
  obtain ⟨m, rfl⟩ := Int.eq_ofNat_of_zero_le h1.1
  exact of_ok (by omega)

end Go.Rk

namespace Go.Rk
open Go Go.Ab Go.Proofs Go.Ra Go.Wd

/-- The context of (foundry/arm.number).small. -/
noncomputable def cx108 : Cx := { P := Tryz.prog, n := 17, tab := [], mtab := [], refs := [], keeps := [0, 1, 2, 4] }
/-- The context of (foundry/arm.number).put. -/
noncomputable def cx170 : Cx := { P := Tryz.prog, n := 60, tab := [(109, ofS)], mtab := [], refs := [], keeps := [0, 1, 2, 4, 5, 6, 7, 10, 11, 27, 39] }
def smallT (_at_ _bi _ki _by_ lo hi n : Int) : Tree V :=
  (.br (decide (IntKind.wrap IntKind.i64 lo ≤ n)) (.leaf (.bool (decide (n ≤ IntKind.wrap IntKind.i64 hi)))) (.leaf (.bool false)))

theorem smallT_eq (at_ bi ki by_ lo hi n : Int) : (dfun cx108 Tryz.f108 [.agg [.int .i8 at_, .int .i8 bi, .int .i8 ki, .int .i8 by_, .int .i32 lo, .int .i32 hi], .int .i64 n]).run = (smallT at_ bi ki by_ lo hi n).run :=
  (show (dfun cx108 Tryz.f108 [.agg [.int .i8 at_, .int .i8 bi, .int .i8 ki, .int .i8 by_, .int .i32 lo, .int .i32 hi], .int .i64 n]).run = (smallT at_ bi ki by_ lo hi n).out by kernel_rfl).trans (Tree.out_run _)

def putT (at_ bi ki by_ _lo _hi n : Int) : Tree V :=
  (.br (ki == 1) (.br (!decide (IntKind.wrap IntKind.i64 by_ = 0)) (.br (decide (0 ≤ bi)) (.br (decide (0 ≤ at_)) (.leaf (.int .u32 (IntKind.wrap IntKind.u32 (IntKind.wrap IntKind.u32 ↑(BitVec.toNat (BitVec.ofInt 32 (IntKind.wrap IntKind.u32 (IntKind.wrap IntKind.i64 (Int.tdiv n (IntKind.wrap IntKind.i64 by_)))) &&& BitVec.ofInt 32 (IntKind.wrap IntKind.u32 (IntKind.wrap IntKind.u32 (1 * 2 ^ Min.min (Int.toNat bi) 32) - 1)))) * 2 ^ Min.min (Int.toNat at_) 32)))) .fail) .fail) .fail) (.br (ki == 2) (.leaf (.int .u32 (IntKind.wrap IntKind.u32 ↑(BitVec.toNat (BitVec.ofInt 32 (IntKind.wrap IntKind.u32 (IntKind.wrap IntKind.u32 ↑(BitVec.toNat (BitVec.ofInt 32 (IntKind.wrap IntKind.u32 n) &&& BitVec.ofInt 32 3)) * 2 ^ 29)) ||| BitVec.ofInt 32 (IntKind.wrap IntKind.u32 (IntKind.wrap IntKind.u32 ↑(BitVec.toNat (BitVec.ofInt 32 (IntKind.wrap IntKind.u32 (Int.fdiv n (2 ^ 2))) &&& BitVec.ofInt 32 524287)) * 2 ^ 5))))))) (.br (ki == 3) (.br (decide (0 ≤ IntKind.wrap IntKind.u64 n) && decide (IntKind.wrap IntKind.u64 n < 18446744073709551616)) (.leaf (.int .u32 (IntKind.wrap IntKind.u32 ↑(BitVec.toNat (BitVec.ofInt 32 (IntKind.wrap IntKind.u32 ↑(BitVec.toNat (BitVec.ofInt 32 (IntKind.wrap IntKind.u32 (IntKind.wrap IntKind.u32 (Go.Rk.ofVN (Int.toNat (IntKind.wrap IntKind.u64 n))) * 2 ^ 22)) ||| BitVec.ofInt 32 (IntKind.wrap IntKind.u32 (IntKind.wrap IntKind.u32 (Go.Rk.ofVR (Int.toNat (IntKind.wrap IntKind.u64 n))) * 2 ^ 16))))) ||| BitVec.ofInt 32 (IntKind.wrap IntKind.u32 (IntKind.wrap IntKind.u32 (Go.Rk.ofVS (Int.toNat (IntKind.wrap IntKind.u64 n))) * 2 ^ 10))))))) .fail) (.leaf (.int .u32 0)))))

theorem putT_eq (at_ bi ki by_ lo hi n : Int) : (dfun cx170 Tryz.f170 [.agg [.int .i8 at_, .int .i8 bi, .int .i8 ki, .int .i8 by_, .int .i32 lo, .int .i32 hi], .int .i64 n]).run = (putT at_ bi ki by_ lo hi n).run :=
  (show (dfun cx170 Tryz.f170 [.agg [.int .i8 at_, .int .i8 bi, .int .i8 ki, .int .i8 by_, .int .i32 lo, .int .i32 hi], .int .i64 n]).run = (putT at_ bi ki by_ lo hi n).out by kernel_rfl).trans (Tree.out_run _)

/-- The lowest bits of a number, the highest of them a sign. -/
def signedF (n bi : Int) : Int := IntKind.wrap IntKind.i64 (Int.fdiv (IntKind.wrap IntKind.i32 (IntKind.wrap IntKind.u32 (n * 2 ^ Min.min (Int.toNat (IntKind.wrap IntKind.i64 (32 - bi))) 32))) (2 ^ Min.min (Int.toNat (IntKind.wrap IntKind.i64 (32 - bi))) 32))

/-! What fields answer. -/

def smallF (f : NumT) (n : Int) : Bool := cond (decide (IntKind.wrap IntKind.i64 f.2.2.2.2.1 ≤ n)) (decide (n ≤ IntKind.wrap IntKind.i64 f.2.2.2.2.2)) false
/-- A plain field may be put and read. -/
def numOk (f : NumT) : Bool := cond (f.2.2.1 == 1) (!decide (IntKind.wrap IntKind.i64 f.2.2.2.1 = 0) && (decide (0 ≤ f.2.1) && (decide (0 ≤ f.1) && decide (0 ≤ IntKind.wrap IntKind.i64 (32 - IntKind.wrap IntKind.i64 f.2.1))))) true
def maskB (bi : Int) : Int := IntKind.wrap IntKind.u32 (IntKind.wrap IntKind.u32 (1 * 2 ^ Min.min (Int.toNat bi) 32) - 1)
def put1 (f : NumT) (n : Int) : Int := IntKind.wrap IntKind.u32 (and32 (IntKind.wrap IntKind.u32 (IntKind.wrap IntKind.i64 (Int.tdiv n (IntKind.wrap IntKind.i64 f.2.2.2.1)))) (maskB f.2.1) * 2 ^ Min.min (Int.toNat f.1) 32)
def put2 (n : Int) : Int := or32 (IntKind.wrap IntKind.u32 (and32 (IntKind.wrap IntKind.u32 n) 3 * 2 ^ 29)) (IntKind.wrap IntKind.u32 (and32 (IntKind.wrap IntKind.u32 (Int.fdiv n (2 ^ 2))) 524287 * 2 ^ 5))
def u64N (n : Int) : Nat := Int.toNat (IntKind.wrap IntKind.u64 n)
def put3 (n : Int) : Int := or32 (or32 (IntKind.wrap IntKind.u32 (IntKind.wrap IntKind.u32 (ofVN (u64N n)) * 2 ^ 22)) (IntKind.wrap IntKind.u32 (IntKind.wrap IntKind.u32 (ofVR (u64N n)) * 2 ^ 16))) (IntKind.wrap IntKind.u32 (IntKind.wrap IntKind.u32 (ofVS (u64N n)) * 2 ^ 10))
def putF (f : NumT) (n : Int) : Int := cond (f.2.2.1 == 1) (put1 f n) (cond (f.2.2.1 == 2) (put2 n) (cond (f.2.2.1 == 3) (put3 n) 0))
def raw1 (f : NumT) (w : Int) : Int := and32 (Int.fdiv w (2 ^ Min.min (Int.toNat f.1) 32)) (maskB f.2.1)
def get1 (f : NumT) (w : Int) : Int := cond (decide (f.2.2.2.2.1 < 0)) (IntKind.wrap IntKind.i64 (signedF (raw1 f w) (IntKind.wrap IntKind.i64 f.2.1) * IntKind.wrap IntKind.i64 f.2.2.2.1)) (IntKind.wrap IntKind.i64 (IntKind.wrap IntKind.i64 (raw1 f w) * IntKind.wrap IntKind.i64 f.2.2.2.1))
def get2 (w : Int) : Int := signedF (or32 (IntKind.wrap IntKind.u32 (and32 (Int.fdiv w (2 ^ 5)) 524287 * 2 ^ 2)) (and32 (Int.fdiv w (2 ^ 29)) 3)) 21
def get3 (w : Int) : Int := IntKind.wrap IntKind.i64 ((atV (IntKind.wrap IntKind.i64 (and32 (Int.fdiv w (2 ^ 22)) 1)) (IntKind.wrap IntKind.i64 (and32 (Int.fdiv w (2 ^ 16)) 63)) (IntKind.wrap IntKind.i64 (and32 (Int.fdiv w (2 ^ 10)) 63)) : Nat) : Int)
def getF (f : NumT) (w : Int) : Int := cond (f.2.2.1 == 1) (get1 f w) (cond (f.2.2.1 == 2) (get2 w) (cond (f.2.2.1 == 3) (get3 w) 0))

theorem u64_rng (n : Int) : (decide (0 ≤ IntKind.wrap IntKind.u64 n) && decide (IntKind.wrap IntKind.u64 n < 18446744073709551616)) = true := by
  rw [wrap_u64]
  simp only [Bool.and_eq_true, decide_eq_true_eq]
  omega

def smallS : Ab.Spec := fun args => match args with
  | [.agg [.int .i8 at_, .int .i8 bi, .int .i8 ki, .int .i8 by_, .int .i32 lo, .int .i32 hi], .int .i64 n] => .leaf (.bool (smallF (at_, bi, ki, by_, lo, hi) n))
  | _ => .fail
def putS : Ab.Spec := fun args => match args with
  | [.agg [.int .i8 at_, .int .i8 bi, .int .i8 ki, .int .i8 by_, .int .i32 lo, .int .i32 hi], .int .i64 n] => .req (numOk (at_, bi, ki, by_, lo, hi)) (.leaf (.int .u32 (putF (at_, bi, ki, by_, lo, hi) n)))
  | _ => .fail
theorem smallS_ok : Sound Tryz.prog 108 smallS := by
  intro args out h
  unfold smallS at h
  split at h
  rotate_left
  · cases h
  rename_i at_ bi ki by_ lo hi n
  have h := leaf_out h
  subst h
  refine pcall_fun' (cx := cx108) (fn := Tryz.f108) (cx0_ok rfl rfl) (by kernel_rfl) (by kernel_rfl) (by kernel_rfl) ?_
  rw [smallT_eq]
  unfold smallT smallF
  simp only
  cases decide (IntKind.wrap IntKind.i64 lo ≤ n) <;> rfl

theorem putS_ok : Sound Tryz.prog 170 putS := by
  intro args out h
  unfold putS at h
  split at h
  rotate_left
  · cases h
  rename_i at_ bi ki by_ lo hi n
  obtain ⟨h1, h⟩ := req_run h
  have h := leaf_out h
  subst h
  refine pcall_fun' (cx := cx170) (fn := Tryz.f170) (cx1_ok (ok1 ofS_ok) (.nil _) rfl rfl) (by kernel_rfl) (by kernel_rfl) (by kernel_rfl) ?_
  rw [putT_eq]
  unfold putT putF
  unfold numOk at h1
  simp only at h1 ⊢
  cases hk : (ki == 1)
  · rw [u64_rng]
    cases (ki == 2)
    · cases (ki == 3) <;> rfl
    · rfl
  · rw [hk] at h1
    simp only [cond_true, Bool.and_eq_true] at h1
    obtain ⟨g1, g2, g3, _⟩ := h1
    rw [g1, g2, g3]
    rfl

end Go.Rk

namespace Go.Rk
open Go Go.Ab Go.Proofs Go.Ra Go.Wd

/-- An instruction: its name, A, B, C, D, its number. -/
abbrev InsT := List UInt8 × Int × Int × Int × Int × Int
def insV (i : InsT) : V := .agg [.str i.1, .int .i64 i.2.1, .int .i64 i.2.2.1, .int .i64 i.2.2.2.1, .int .i64 i.2.2.2.2.1, .int .i64 i.2.2.2.2.2]
abbrev numL6 (f : NumT) : List V := [.int .i8 f.1, .int .i8 f.2.1, .int .i8 f.2.2.1, .int .i8 f.2.2.2.1, .int .i32 f.2.2.2.2.1, .int .i32 f.2.2.2.2.2]
abbrev rowL (r : RowT) : List V := [.str r.1, .int .u32 r.2.1] ++ numL6 r.2.2.1 ++ numL6 r.2.2.2.1 ++ numL6 r.2.2.2.2.1 ++ numL6 r.2.2.2.2.2.1 ++ numL6 r.2.2.2.2.2.2.1 ++ [.str r.2.2.2.2.2.2.2]
abbrev insL (i : InsT) : List V := [.str i.1, .int .i64 i.2.1, .int .i64 i.2.2.1, .int .i64 i.2.2.2.1, .int .i64 i.2.2.2.2.1, .int .i64 i.2.2.2.2.2]

/-- The context of (foundry/arm.row).faulty. -/
noncomputable def cx50 : Cx := { P := Tryz.prog, n := 97, tab := [(108, smallS), (109, ofS)], mtab := [], refs := [], keeps := [0, 1, 2, 3, 4, 8, 9, 40, 50, 55, 70, 71, 88] }
/-- The context of (foundry/arm.row).bits. -/
noncomputable def cx120 : Cx := { P := Tryz.prog, n := 37, tab := [(170, putS)], mtab := [], refs := [], keeps := [0, 1, 2, 3, 4] }

/-! Why an instruction may not be. -/

def numE2 (f : NumT) (n : Int) : Int := cond (f.2.2.1 == 0) 0 (cond (f.2.2.1 == 3) (cond (!ofOk (u64N n)) 3 0)
  (cond (decide (n < IntKind.wrap IntKind.i64 f.2.2.2.2.1)) 3 (cond (decide (IntKind.wrap IntKind.i64 f.2.2.2.2.2 < n)) 3 (cond (Int.tmod n (IntKind.wrap IntKind.i64 f.2.2.2.1) != 0) 10 0))))
def numTail (f : NumT) (n : Int) : Tree V := .br (f.2.2.1 == 0) (.leaf (.int .i64 0)) (.br (f.2.2.1 == 3) (.br (decide (0 ≤ IntKind.wrap IntKind.u64 n) && decide (IntKind.wrap IntKind.u64 n < 18446744073709551616)) (.br (!ofOk (u64N n)) (.leaf (.int .i64 3)) (.leaf (.int .i64 0))) .fail)
  (.br (decide (n < IntKind.wrap IntKind.i64 f.2.2.2.2.1)) (.leaf (.int .i64 3)) (.br (decide (IntKind.wrap IntKind.i64 f.2.2.2.2.2 < n)) (.leaf (.int .i64 3)) (.br (!decide (IntKind.wrap IntKind.i64 f.2.2.2.1 = 0)) (.br (Int.tmod n (IntKind.wrap IntKind.i64 f.2.2.2.1) != 0) (.leaf (.int .i64 10)) (.leaf (.int .i64 0))) .fail))))
def faultyH (r : RowT) (i : InsT) : Tree V :=
  .br (!smallF r.2.2.1 i.2.1) (.leaf (.int .i64 13)) (.br (!smallF r.2.2.2.1 i.2.2.1) (.leaf (.int .i64 13)) (.br (!smallF r.2.2.2.2.1 i.2.2.2.1) (.leaf (.int .i64 13)) (.br (!smallF r.2.2.2.2.2.1 i.2.2.2.2.1) (.leaf (.int .i64 13))
    (.br (r.2.2.2.2.2.2.1.2.2.1 == 0) (.br (i.2.2.2.2.2 != 0) (.leaf (.int .i64 13)) (numTail r.2.2.2.2.2.2.1 i.2.2.2.2.2)) (numTail r.2.2.2.2.2.2.1 i.2.2.2.2.2)))))
def faultyF (r : RowT) (i : InsT) : Int :=
  cond (!smallF r.2.2.1 i.2.1) 13 (cond (!smallF r.2.2.2.1 i.2.2.1) 13 (cond (!smallF r.2.2.2.2.1 i.2.2.2.1) 13 (cond (!smallF r.2.2.2.2.2.1 i.2.2.2.2.1) 13 (cond (r.2.2.2.2.2.2.1.2.2.1 == 0 && i.2.2.2.2.2 != 0) 13 (numE2 r.2.2.2.2.2.2.1 i.2.2.2.2.2)))))
def byOk (f : NumT) : Bool := cond (f.2.2.1 == 0) true (cond (f.2.2.1 == 3) true (!decide (IntKind.wrap IntKind.i64 f.2.2.2.1 = 0)))

theorem numTail_run {f : NumT} (n : Int) (h : byOk f = true) : (numTail f n).run = some (.int .i64 (numE2 f n)) := by
  unfold numTail numE2
  unfold byOk at h
  rw [u64_rng]
  cases h0 : (f.2.2.1 == 0)
  · cases h3 : (f.2.2.1 == 3)
    · rw [h0, h3] at h
      simp only [cond_false] at h
      rw [h]
      cases decide (n < IntKind.wrap IntKind.i64 f.2.2.2.2.1)
      · cases decide (IntKind.wrap IntKind.i64 f.2.2.2.2.2 < n)
        · cases (Int.tmod n (IntKind.wrap IntKind.i64 f.2.2.2.1) != 0) <;> rfl
        · rfl
      · rfl
    · cases (!ofOk (u64N n)) <;> rfl
  · rfl

theorem faultyH_run {r : RowT} (i : InsT) (h : byOk r.2.2.2.2.2.2.1 = true) : (faultyH r i).run = some (.int .i64 (faultyF r i)) := by
  have ht := numTail_run i.2.2.2.2.2 h
  unfold faultyH faultyF
  generalize numTail r.2.2.2.2.2.2.1 i.2.2.2.2.2 = X at ht
  generalize numE2 r.2.2.2.2.2.2.1 i.2.2.2.2.2 = Y at ht
  cases (!smallF r.2.2.1 i.2.1)
  rotate_left
  · rfl
  cases (!smallF r.2.2.2.1 i.2.2.1)
  rotate_left
  · rfl
  cases (!smallF r.2.2.2.2.1 i.2.2.2.1)
  rotate_left
  · rfl
  cases (!smallF r.2.2.2.2.2.1 i.2.2.2.2.1)
  rotate_left
  · rfl
  cases (r.2.2.2.2.2.2.1.2.2.1 == 0)
  · exact ht
  · cases (i.2.2.2.2.2 != 0)
    · exact ht
    · rfl

theorem faulty_eq (r : RowT) (i : InsT) : (dfun cx50 Tryz.f50 [.agg (rowL r), .agg (insL i)]).run = (faultyH r i).run :=
  (show (dfun cx50 Tryz.f50 [.agg (rowL r), .agg (insL i)]).run = (faultyH r i).out by kernel_rfl).trans (Tree.out_run _)

def faultyS : Ab.Spec := fun args => match args with
  | [.agg (.str rn :: .int .u32 rw :: .int .i8 p1 :: .int .i8 p2 :: .int .i8 p3 :: .int .i8 p4 :: .int .i32 p5 :: .int .i32 p6 :: .int .i8 q1 :: .int .i8 q2 :: .int .i8 q3 :: .int .i8 q4 :: .int .i32 q5 :: .int .i32 q6 :: .int .i8 s1 :: .int .i8 s2 :: .int .i8 s3 :: .int .i8 s4 :: .int .i32 s5 :: .int .i32 s6 :: .int .i8 t1 :: .int .i8 t2 :: .int .i8 t3 :: .int .i8 t4 :: .int .i32 t5 :: .int .i32 t6 :: .int .i8 z1 :: .int .i8 z2 :: .int .i8 z3 :: .int .i8 z4 :: .int .i32 z5 :: .int .i32 z6 :: [.str ro]), .agg [.str nm, .int .i64 a, .int .i64 b, .int .i64 c, .int .i64 d, .int .i64 n]] => .req (byOk (z1, z2, z3, z4, z5, z6)) (.leaf (.int .i64 (faultyF (rn, rw, (p1, p2, p3, p4, p5, p6), (q1, q2, q3, q4, q5, q6), (s1, s2, s3, s4, s5, s6), (t1, t2, t3, t4, t5, t6), (z1, z2, z3, z4, z5, z6), ro) (nm, a, b, c, d, n))))
  | _ => .fail

theorem faultyS_ok : Sound Tryz.prog 50 faultyS := by
  intro args out h
  unfold faultyS at h
  split at h
  rotate_left
  · cases h
  rename_i rn rw p1 p2 p3 p4 p5 p6 q1 q2 q3 q4 q5 q6 s1 s2 s3 s4 s5 s6 t1 t2 t3 t4 t5 t6 z1 z2 z3 z4 z5 z6 ro nm a b c d n
  obtain ⟨h1, h⟩ := req_run h
  have h := leaf_out h
  subst h
  refine pcall_fun' (cx := cx50) (fn := Tryz.f50) (cx1_ok (.cons smallS_ok (ok1 ofS_ok)) (.nil _) rfl rfl) (by kernel_rfl) (by kernel_rfl) (by kernel_rfl) ?_
  exact (faulty_eq (rn, rw, (p1, p2, p3, p4, p5, p6), (q1, q2, q3, q4, q5, q6), (s1, s2, s3, s4, s5, s6), (t1, t2, t3, t4, t5, t6), (z1, z2, z3, z4, z5, z6), ro) (nm, a, b, c, d, n)).trans (faultyH_run _ h1)

/-! An instruction's word. -/

def bitsF (r : RowT) (i : InsT) : Int := or32 (or32 (or32 (or32 (or32 r.2.1 (putF r.2.2.1 i.2.1)) (putF r.2.2.2.1 i.2.2.1)) (putF r.2.2.2.2.1 i.2.2.2.1)) (putF r.2.2.2.2.2.1 i.2.2.2.2.1)) (putF r.2.2.2.2.2.2.1 i.2.2.2.2.2)
def rowOk (r : RowT) : Bool := numOk r.2.2.1 && (numOk r.2.2.2.1 && (numOk r.2.2.2.2.1 && (numOk r.2.2.2.2.2.1 && numOk r.2.2.2.2.2.2.1)))
def bitsH (r : RowT) (i : InsT) : Tree V := .br (numOk r.2.2.1) (.br (numOk r.2.2.2.1) (.br (numOk r.2.2.2.2.1) (.br (numOk r.2.2.2.2.2.1) (.br (numOk r.2.2.2.2.2.2.1) (.leaf (.int .u32 (bitsF r i))) .fail) .fail) .fail) .fail) .fail
theorem bits_eq (r : RowT) (i : InsT) : (dfun cx120 Tryz.f120 [.agg (rowL r), .agg (insL i)]).run = (bitsH r i).run :=
  (show (dfun cx120 Tryz.f120 [.agg (rowL r), .agg (insL i)]).run = (bitsH r i).out by kernel_rfl).trans (Tree.out_run _)

def bitsS : Ab.Spec := fun args => match args with
  | [.agg (.str rn :: .int .u32 rw :: .int .i8 p1 :: .int .i8 p2 :: .int .i8 p3 :: .int .i8 p4 :: .int .i32 p5 :: .int .i32 p6 :: .int .i8 q1 :: .int .i8 q2 :: .int .i8 q3 :: .int .i8 q4 :: .int .i32 q5 :: .int .i32 q6 :: .int .i8 s1 :: .int .i8 s2 :: .int .i8 s3 :: .int .i8 s4 :: .int .i32 s5 :: .int .i32 s6 :: .int .i8 t1 :: .int .i8 t2 :: .int .i8 t3 :: .int .i8 t4 :: .int .i32 t5 :: .int .i32 t6 :: .int .i8 z1 :: .int .i8 z2 :: .int .i8 z3 :: .int .i8 z4 :: .int .i32 z5 :: .int .i32 z6 :: [.str ro]), .agg [.str nm, .int .i64 a, .int .i64 b, .int .i64 c, .int .i64 d, .int .i64 n]] => .req (rowOk (rn, rw, (p1, p2, p3, p4, p5, p6), (q1, q2, q3, q4, q5, q6), (s1, s2, s3, s4, s5, s6), (t1, t2, t3, t4, t5, t6), (z1, z2, z3, z4, z5, z6), ro)) (.leaf (.int .u32 (bitsF (rn, rw, (p1, p2, p3, p4, p5, p6), (q1, q2, q3, q4, q5, q6), (s1, s2, s3, s4, s5, s6), (t1, t2, t3, t4, t5, t6), (z1, z2, z3, z4, z5, z6), ro) (nm, a, b, c, d, n))))
  | _ => .fail

theorem bitsS_ok : Sound Tryz.prog 120 bitsS := by
  intro args out h
  unfold bitsS at h
  split at h
  rotate_left
  · cases h
  rename_i rn rw p1 p2 p3 p4 p5 p6 q1 q2 q3 q4 q5 q6 s1 s2 s3 s4 s5 s6 t1 t2 t3 t4 t5 t6 z1 z2 z3 z4 z5 z6 ro nm a b c d n
  obtain ⟨h1, h⟩ := req_run h
  have h := leaf_out h
  subst h
  refine pcall_fun' (cx := cx120) (fn := Tryz.f120) (cx1_ok (ok1 putS_ok) (.nil _) rfl rfl) (by kernel_rfl) (by kernel_rfl) (by kernel_rfl) ?_
  refine (bits_eq (rn, rw, (p1, p2, p3, p4, p5, p6), (q1, q2, q3, q4, q5, q6), (s1, s2, s3, s4, s5, s6), (t1, t2, t3, t4, t5, t6), (z1, z2, z3, z4, z5, z6), ro) (nm, a, b, c, d, n)).trans ?_
  simp only [rowOk, Bool.and_eq_true] at h1
  obtain ⟨g1, g2, g3, g4, g5⟩ := h1
  exact (br_t g1).trans ((br_t g2).trans ((br_t g3).trans ((br_t g4).trans (br_t g5))))

end Go.Rk

namespace Go.Rk
open Go Go.Ab Go.Proofs Go.Ra Go.Wd

/-- The context of foundry/arm.find. -/
noncomputable def cx49 : Cx := { P := Tryz.prog, n := 19, tab := [(107, rowsS)], mtab := [], refs := [], keeps := [0, 2, 3, 5, 6, 7, 8, 9, 15] }
noncomputable abbrev cxFind : Cx := cx49
def zeroR : RowT := ([], 0, (0, 0, 0, 0, 0, 0), (0, 0, 0, 0, 0, 0), (0, 0, 0, 0, 0, 0), (0, 0, 0, 0, 0, 0), (0, 0, 0, 0, 0, 0), [])
abbrev rowAt (l : List RowT) (i : Nat) : RowT := l.getD i zeroR

def findRound (nm : List UInt8) (i : Int) (l : List RowT) : Tree St :=
  (.br (decide (i < (l.length : Nat))) (.br (inside i l.length) (.br (strEq (rowAt l i.toNat).1 nm)
    (.leaf (.ret, [(0, .str nm), (2, .ptr 0 0), (3, .bool true), (5, .ptr 1 0), (6, .sl rowE l [] .ro), (7, .int .i64 (l.length : Nat)), (8, .int .i64 i), (9, .bool true), (15, .bool true)], [.cells (rowL (rowAt l i.toNat)) 105, .cells (rowL (rowAt l i.toNat)) 105]))
    (.leaf (.normal, [(0, .str nm), (2, .ptr 0 0), (3, .bool false), (5, .ptr 1 0), (6, .sl rowE l [] .ro), (7, .int .i64 (l.length : Nat)), (8, .int .i64 (IntKind.wrap .i64 (i + 1))), (9, .bool true), (15, .bool false)], [.cells (rowL zeroR) 105, .cells (rowL (rowAt l i.toNat)) 105]))) .fail)
    (.leaf (.exit 0, [(0, .str nm), (2, .ptr 0 0), (3, .bool false), (6, .sl rowE l [] .ro), (7, .int .i64 (l.length : Nat)), (8, .int .i64 i), (9, .bool false)], [.cells (rowL zeroR) 105])))

theorem findRound_eq (nm : List UInt8) (i : Int) (l : List RowT) : (dcode cxFind (cin (cin (c2 (c1 (c2 (bodyOf Tryz.f49)))))) [(0, .str nm), (2, .ptr 0 0), (3, .bool false), (6, .sl rowE l [] .ro), (7, .int .i64 l.length), (8, .int .i64 i)] [.cells (rowL zeroR) 105]).run = (findRound nm i l).run :=
  (show (dcode cxFind (cin (cin (c2 (c1 (c2 (bodyOf Tryz.f49)))))) [(0, .str nm), (2, .ptr 0 0), (3, .bool false), (6, .sl rowE l [] .ro), (7, .int .i64 l.length), (8, .int .i64 i)] [.cells (rowL zeroR) 105]).run = (findRound nm i l).out by kernel_rfl).trans (Tree.out_run _)

theorem cxFind_ok : CxOk cxFind := cx1_ok (ok1 rowsS_ok) (.nil _) rfl rfl

def findL (nm : List UInt8) (l : List RowT) : Option RowT := l.find? fun r => strEq r.1 nm
def frow (nm : List UInt8) : RowT := (findL nm rowsL).getD zeroR
def fok (nm : List UInt8) : Bool := (findL nm rowsL).isSome

def findS : Ab.Spec := fun args => match args with
  | [.str nm] => .leaf (.tup [.agg (rowL (frow nm)), .bool (fok nm)])
  | _ => .fail

def findSt (nm : List UInt8) (i : { i : Nat // i ≤ rowsL.length ∧ findL nm (rowsL.take i) = none }) : T × List O :=
  ([(0, .str nm), (2, .ptr 0 0), (3, .bool false), (6, .sl rowE rowsL [] .ro), (7, .int .i64 rowsL.length), (8, .int .i64 i.1)], [.cells (rowL zeroR) 105])

theorem find_ok (nm : List UInt8) : PCall Tryz.prog 49 [.str nm] (.tup [.agg (rowL (frow nm)), .bool (fok nm)]) := by
  refine pcall_of' (c := bodyOf Tryz.f49) (fn := Tryz.f49) (by kernel_rfl) (by kernel_rfl) (by kernel_rfl) (by kernel_rfl) ?_
  have e : bodyOf Tryz.f49 = .seq (c1 (bodyOf Tryz.f49)) (.seq (.seq (c1 (c1 (c2 (bodyOf Tryz.f49)))) (.block 0 (.loop (cin (cin (c2 (c1 (c2 (bodyOf Tryz.f49))))))))) (c2 (c2 (bodyOf Tryz.f49)))) := by kernel_rfl
  rw [e]
  generalize hQ : (fun e t H => (e = AEx.ret ∨ e = .normal) ∧ answerV Tryz.prog Tryz.f49.results.toList H t = some (.tup [.agg (rowL (frow nm)), .bool (fok nm)])) = Q
  have hlen := rowsL_len
  refine AWP_seq (AWP_run (cx := cxFind) rfl rfl cxFind_ok (s := (.normal, [(0, .str nm), (2, .ptr 0 0), (3, .bool false)], [.cells (rowL zeroR) 105])) (by kernel_rfl) ?_)
  refine AWP_seq (AWP_seq (AWP_run (cx := cxFind) rfl rfl cxFind_ok (s := (.normal, [(0, .str nm), (2, .ptr 0 0), (3, .bool false), (6, .sl rowE rowsL [] .ro), (7, .int .i64 54), (8, .int .i64 0)], [.cells (rowL zeroR) 105])) (by kernel_rfl) ?_))
  refine AWP_block ?_
  refine AWP.less (s := (findSt nm ⟨0, Nat.zero_le _, rfl⟩).1) (Fits.tle ⟨rfl, rfl, rfl, rfl, by kernel_rfl, rfl, trivial⟩) ?_
  refine AWP_rounds (cx := cxFind) (P := Tryz.prog) (n := 19) rfl rfl cxFind_ok (findSt nm) (fun i => 54 - i.1) ?_ ⟨0, Nat.zero_le _, rfl⟩
  rintro ⟨i, hi, hnone⟩
  refine Tree.all_run_eq (findRound_eq nm i rowsL) ?_
  refine ⟨fun hlt => ⟨fun hin => ⟨fun hp => ?_, fun hp => ?_⟩, fun hin => ?_⟩, fun hge => ?_⟩
  · -- found
    have hlt : i < rowsL.length := Int.ofNat_lt.1 (of_decide_eq_true hlt)
    have hf : findL nm rowsL = some (rowsL.getD i zeroR) := take_some hlt hnone hp
    refine ⟨[], _, rfl, ?_⟩
    subst hQ
    refine ⟨.inl rfl, ?_⟩
    have h1 : frow nm = rowsL.getD i zeroR := by unfold frow; rw [hf]; rfl
    have h2 : fok nm = true := by unfold fok; rw [hf]; rfl
    show answerV _ _ _ _ = some _
    rw [h1, h2]
    kernel_rfl
  · have hlt : i < rowsL.length := Int.ofNat_lt.1 (of_decide_eq_true hlt)
    have hf : findL nm (rowsL.take (i + 1)) = none := take_none hlt hnone hp
    refine ⟨[], _, rfl, ⟨i + 1, hlt, hf⟩, by show 54 - (i + 1) < 54 - i; omega, Fits.tle ⟨rfl, rfl, rfl, rfl, rfl, ?_, trivial⟩, rfl⟩
    show V.int .i64 (IntKind.wrap .i64 ((i : Int) + 1)) = V.int .i64 ((i + 1 : Nat) : Int)
    rw [wrap_i64 (by omega) (by omega)]
    rfl
  · exfalso
    have hlt : i < rowsL.length := Int.ofNat_lt.1 (of_decide_eq_true hlt)
    exact Bool.noConfusion ((inside_of (Int.natCast_nonneg i) (Int.ofNat_lt.2 hlt)).symm.trans hin)
  · have hge : ¬ ((i : Int) < rowsL.length) := of_decide_eq_false hge
    have hi' : i = rowsL.length := by omega
    refine ⟨[], _, rfl, ?_⟩
    show AWP _ _ _ _ _ _
    refine AWP.less (s := [(0, .str nm), (2, .ptr 0 0), (3, .bool false)]) (Fits.tle ⟨rfl, rfl, rfl, trivial⟩) ?_
    refine AWP_run (cx := cxFind) rfl rfl cxFind_ok (s := (.ret, [(0, .str nm), (2, .ptr 0 0), (3, .bool false)], [.cells (rowL zeroR) 105])) (by kernel_rfl) ?_
    subst hQ
    refine ⟨.inl rfl, ?_⟩
    have hf : findL nm rowsL = none := by rw [← hnone, hi', List.take_length]
    have h1 : frow nm = zeroR := by unfold frow; rw [hf]; rfl
    have h2 : fok nm = false := by unfold fok; rw [hf]; rfl
    show answerV _ _ _ _ = some _
    rw [h1, h2]
    kernel_rfl

theorem findS_ok : Sound Tryz.prog 49 findS := by
  intro args out h
  unfold findS at h
  split at h
  rotate_left
  · cases h
  simp only [Tree.run, Option.some.injEq] at h
  subst h
  exact find_ok _

end Go.Rk

namespace Go.Rk
open Go Go.Ab Go.Proofs Go.Ra Go.Wd

/-- The context of foundry/arm.May. -/
noncomputable def cx24 : Cx := { P := Tryz.prog, n := 18, tab := [(49, findS), (50, faultyS)], mtab := [], refs := [], keeps := [0, 1, 2, 3, 4] }
def rowFine (r : RowT) : Bool := byOk r.2.2.2.2.2.2.1 && rowOk r
theorem rows_fine : rowsL.all rowFine = true := by kernel_rfl
theorem frow_fine (nm : List UInt8) : rowFine (frow nm) = true := by
  unfold frow
  cases h : findL nm rowsL with
  | none => rfl
  | some r => exact List.all_eq_true.1 rows_fine r (List.mem_of_find?_eq_some h)
theorem frow_by (nm : List UInt8) : byOk (frow nm).2.2.2.2.2.2.1 = true := (Bool.and_eq_true_iff.1 (frow_fine nm)).1
/-- Why an instruction is not encoded; 0: it is. -/
def encE (i : InsT) : Int := cond (fok i.1) (faultyF (frow i.1) i) 7
def mayH (i : InsT) : Tree V := .br (fok i.1) (.br (byOk (frow i.1).2.2.2.2.2.2.1) (.leaf (.bool (faultyF (frow i.1) i == 0))) .fail) (.leaf (.bool false))
theorem mayH_eq (i : InsT) : (dfun cx24 Tryz.f24 [.agg (insL i)]).run = (mayH i).run :=
  (show (dfun cx24 Tryz.f24 [.agg (insL i)]).run = (mayH i).out by kernel_rfl).trans (Tree.out_run _)

def mayS : Ab.Spec := fun args => match args with
  | [.agg [.str nm, .int .i64 a, .int .i64 b, .int .i64 c, .int .i64 d, .int .i64 n]] => .leaf (.bool (encE (nm, a, b, c, d, n) == 0))
  | _ => .fail

theorem mayS_ok : Sound Tryz.prog 24 mayS := by
  intro args out h
  unfold mayS at h
  split at h
  rotate_left
  · cases h
  rename_i nm a b c d n
  refine pcall_fun' (cx := cx24) (fn := Tryz.f24) (cx1_ok (.cons findS_ok (.cons faultyS_ok (.nil _))) (.nil _) rfl rfl) (by kernel_rfl) (by kernel_rfl) (by kernel_rfl) ?_
  refine (mayH_eq (nm, a, b, c, d, n)).trans ?_
  rw [← h]
  have g1 := frow_by nm
  unfold mayH encE
  simp only at g1 ⊢
  rw [g1]
  cases (fok nm) <;> rfl

end Go.Rk

namespace Go.Rk
open Go Go.Ab Go.Proofs Go.Ra Go.Wd

/-! Names. -/

theorem getD_lt {α : Type} {l : List α} {i : Nat} {d : α} (h : i < l.length) : l.getD i d = l[i] := by simp [List.getD, h]

/-! Num. -/

end Go.Rk

namespace Go.Rk
open Go Go.Ab Go.Proofs Go.Ra Go.Wd

def eL : List Nat := [2, 4, 8, 16, 32, 64]

theorem ofE_mem (m : Nat) : ofE m ∈ eL := by
  unfold ofE eL
  cases pE m 2 <;> cases pE m 4 <;> cases pE m 8 <;> cases pE m 16 <;> cases pE m 32 <;> simp

theorem ofE_rep {m : Nat} (hm : m < 2 ^ 64) : spreadN 7 (ofX m) (ofE m) = m := by
  have key : ofE m = 64 ∨ pE m (ofE m) = true := by
    unfold ofE
    cases h2 : pE m 2
    rotate_left
    · exact .inr h2
    cases h4 : pE m 4
    rotate_left
    · exact .inr h4
    cases h8 : pE m 8
    rotate_left
    · exact .inr h8
    cases h16 : pE m 16
    rotate_left
    · exact .inr h16
    cases h32 : pE m 32
    rotate_left
    · exact .inr h32
    exact .inl rfl
  rcases key with h | h
  · unfold ofX
    rw [h]
    show m &&& (2 ^ 64 - 1) = m
    rw [Nat.and_two_pow_sub_one_eq_mod, Nat.mod_eq_of_lt hm]
  · exact Nat.eq_of_beq_eq_true h

/-- Elements that are none or all ones. -/
theorem dull_all : eL.all (fun e => (List.range 128).all fun c => (List.range e).all fun r => (Nat.blt 0 c && Nat.blt c e) || (Nat.beq (maskM e c r) 0 || Nat.beq (maskM e c r) 18446744073709551615)) = true := by kernel_rfl

theorem of_mask {m r : Nat} (hm : m < 2 ^ 64) (h : ofFind m = some r) : 0 < ofC m ∧ ofC m < ofE m ∧ r < ofE m ∧ maskM (ofE m) (ofC m) r = m := by
  unfold ofFind at h
  cases h0 : (Nat.beq m 0 || Nat.beq m 18446744073709551615)
  rotate_left
  · rw [h0] at h; cases h
  rw [h0, cond_false, List.find?_range_eq_some] at h
  obtain ⟨h1, h2, _⟩ := h
  have h2 := List.mem_range.1 h2
  have hmask : maskM (ofE m) (ofC m) r = m := by
    unfold maskM
    rw [Nat.eq_of_beq_eq_true h1]
    exact ofE_rep hm
  have hd := List.all_eq_true.1 (List.all_eq_true.1 (List.all_eq_true.1 dull_all _ (ofE_mem m)) (ofC m) (List.mem_range.2 (cntN_lt _))) r (List.mem_range.2 h2)
  rw [hmask, h0, Bool.or_false] at hd
  obtain ⟨g1, g2⟩ := Bool.and_eq_true_iff.1 hd
  exact ⟨Nat.le_of_ble_eq_true g1, Nat.le_of_ble_eq_true g2, h2, hmask⟩

def nOf (e : Nat) : Nat := cond (Nat.beq e 64) 1 0
theorem back_all : allT (fun e c r => (atOkN (nOf e) r (imsI e c).toNat && Nat.beq (atVN (nOf e) r (imsI e c).toNat) (maskM e c r)) && (decide (0 ≤ imsI e c) && decide (imsI e c ≤ 63))) = true := by kernel_rfl

/-- What Of tells. -/
theorem of_back {m : Nat} (hm : m < 2 ^ 64) (h : ofOk m = true) :
    (0 ≤ ofVN m ∧ ofVN m ≤ 1) ∧ (0 ≤ ofVR m ∧ ofVR m ≤ 63) ∧ (0 ≤ ofVS m ∧ ofVS m ≤ 63) ∧ atV (ofVN m) (ofVR m) (ofVS m) = m := by
  have h' := h
  unfold ofOk at h
  obtain ⟨r, hr⟩ := Option.isSome_iff_exists.1 h
  obtain ⟨g1, g2, g3, g4⟩ := of_mask hm hr
  have hb := allT_spec back_all (ofE_mem m) g1 g2 g3
  simp only [Bool.and_eq_true, decide_eq_true_eq] at hb
  obtain ⟨⟨b1, b2⟩, b3, b4⟩ := hb
  have e64 := (ofE_ok m).2
  have eN : ofVN m = (nOf (ofE m) : Nat) := by
    unfold ofVN nOf
    rw [h', cond_true]
    cases Nat.beq (ofE m) 64 <;> rfl
  have eR : ofVR m = (r : Nat) := by unfold ofVR; rw [hr]; rfl
  have eS : ofVS m = imsI (ofE m) (ofC m) := by unfold ofVS; rw [h']; rfl
  have nle : nOf (ofE m) ≤ 1 := by unfold nOf; cases Nat.beq (ofE m) 64 <;> decide
  refine ⟨by rw [eN]; omega, by rw [eR]; omega, by rw [eS]; omega, ?_⟩
  rw [eN, eR, eS]
  unfold atV
  have hin : atIn (nOf (ofE m) : Nat) (r : Nat) (imsI (ofE m) (ofC m)) = true := by
    simp only [atIn, Bool.and_eq_true, decide_eq_true_eq]
    omega
  rw [hin, cond_true, Int.toNat_natCast, Int.toNat_natCast, Nat.eq_of_beq_eq_true b2, g4]

/-! The bits turned. -/

end Go.Rk
