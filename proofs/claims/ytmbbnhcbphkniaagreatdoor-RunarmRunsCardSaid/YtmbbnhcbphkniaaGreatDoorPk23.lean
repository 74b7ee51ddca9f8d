/-
  Fields, plainly: what is put is got again. Conditions: none.
-/
import Derived.Test.YtmbbnhcbphkniaaGreatDoorPk22
import Derived.Test.YtmbbnhcbphkniaaGreatDoorPk13
set_option linter.unusedVariables false
set_option linter.unusedSimpArgs false
namespace Go.Rk
open Go Go.Ab Go.Proofs Go.Ra Go.Wd

def plainOk (f : NumT) : Bool :=
  (decide (0 ≤ f.1) && (decide (1 ≤ f.2.1) && (decide (f.2.1 ≤ 31) && (decide (f.1 + f.2.1 ≤ 32) && (f.2.2.2.1 == 1 || (f.2.2.2.1 == 2 || (f.2.2.2.1 == 4 || f.2.2.2.1 == 8))))))) &&
  ((decide (0 ≤ f.2.2.2.2.2) && decide (f.2.2.2.2.2 < 2147483648)) && (decide (-2147483648 ≤ f.2.2.2.2.1) && cond (decide (f.2.2.2.2.1 < 0))
    ((f.2.1 == 7 || (f.2.1 == 19 || f.2.1 == 26)) && (f.2.2.2.2.1 == -(2 ^ (f.2.1.toNat - 1) * f.2.2.2.1) && decide (f.2.2.2.2.2 ≤ (2 ^ (f.2.1.toNat - 1) - 1) * f.2.2.2.1)))
    (f.2.2.2.2.1 == 0 && decide (f.2.2.2.2.2 ≤ (2 ^ f.2.1.toNat - 1) * f.2.2.2.1))))
def zeroN : NumT := (0, 0, 0, 0, 0, 0)
def aparN : NumT := (0, 0, 2, 1, -1048576, 1048575)
def maskNm : NumT := (0, 0, 3, 0, 0, 0)
def numFine (f : NumT) : Bool := decide (f = zeroN) || (decide (f = aparN) || (decide (f = maskNm) || ((f.2.2.1 == 1) && plainOk f)))

/-- The bits that a field has. -/
def fMask (f : NumT) : Nat := cond (f.2.2.1 == 1) ((2 ^ f.2.1.toNat - 1) <<< f.1.toNat) (cond (f.2.2.1 == 2) ((3 <<< 29) ||| (524287 <<< 5)) (cond (f.2.2.1 == 3) (8191 <<< 10) 0))

structure Plain (f : NumT) (at_ bi : Nat) (by_ : Int) : Prop where
  kind : f.2.2.1 = 1
  eAt : f.1 = (at_ : Int)
  eBi : f.2.1 = (bi : Int)
  eBy : f.2.2.2.1 = by_
  bi1 : 1 ≤ bi
  bi31 : bi ≤ 31
  at32 : at_ + bi ≤ 32
  byC : by_ = 1 ∨ by_ = 2 ∨ by_ = 4 ∨ by_ = 8
  hi : f.2.2.2.2.2 < 2147483648
  hi0 : 0 ≤ f.2.2.2.2.2
  lo : -2147483648 ≤ f.2.2.2.2.1
  rng : (f.2.2.2.2.1 < 0 ∧ (bi = 7 ∨ bi = 19 ∨ bi = 26) ∧ f.2.2.2.2.1 = -(2 ^ (bi - 1) * by_) ∧ f.2.2.2.2.2 ≤ (2 ^ (bi - 1) - 1) * by_) ∨ (f.2.2.2.2.1 = 0 ∧ f.2.2.2.2.2 ≤ (2 ^ bi - 1) * by_)

theorem plain_of {f : NumT} (hk : f.2.2.1 = 1) (h : plainOk f = true) : Plain f f.1.toNat f.2.1.toNat f.2.2.2.1 := by
  simp only [plainOk, Bool.and_eq_true, decide_eq_true_eq, Bool.or_eq_true, beq_iff_eq] at h
  obtain ⟨⟨h1, h2, h3, h4, h5⟩, ⟨h60, h6⟩, h7, h8⟩ := h
  refine ⟨hk, by omega, by omega, rfl, by omega, by omega, by omega, h5, h6, h60, h7, ?_⟩
  cases hl : decide (f.2.2.2.2.1 < 0)
  · rw [hl] at h8
    simp only [cond_false, Bool.and_eq_true, beq_iff_eq, decide_eq_true_eq] at h8
    exact .inr h8
  · rw [hl] at h8
    simp only [cond_true, Bool.and_eq_true, Bool.or_eq_true, beq_iff_eq, decide_eq_true_eq] at h8
    obtain ⟨g1, g2, g3⟩ := h8
    exact .inl ⟨of_decide_eq_true hl, by omega, g2, g3⟩

theorem num_cases {f : NumT} (h : numFine f = true) : f = zeroN ∨ f = aparN ∨ f = maskNm ∨ Plain f f.1.toNat f.2.1.toNat f.2.2.2.1 := by
  simp only [numFine, Bool.or_eq_true, Bool.and_eq_true, decide_eq_true_eq, beq_iff_eq] at h
  rcases h with h | h | h | ⟨h1, h2⟩
  · exact .inl h
  · exact .inr (.inl h)
  · exact .inr (.inr (.inl h))
  · exact .inr (.inr (.inr (plain_of h1 h2)))

/-! What is put. -/

theorem maskB_cast {bi : Nat} (h : bi ≤ 31) : maskB (bi : Int) = ((2 ^ bi - 1 : Nat) : Int) := by
  unfold maskB
  have hp : (2 : Nat) ^ bi < 2 ^ 32 := Nat.pow_lt_pow_right (by omega) (by omega)
  have hp0 : (0 : Nat) < 2 ^ bi := Nat.two_pow_pos bi
  have e : Min.min bi 32 = bi := by omega
  rw [Int.toNat_natCast, e, Int.one_mul, pow_cast, wrap_u32, wrap_u32]
  omega

/-- The number that a plain field bears. -/
def p1 (f : NumT) (n : Int) : Nat := (Int.tdiv n f.2.2.2.1 % ((2 ^ f.2.1.toNat : Nat) : Int)).toNat
theorem p1_lt (f : NumT) (n : Int) : p1 f n < 2 ^ f.2.1.toNat := by
  have hp0 : (0 : Nat) < 2 ^ f.2.1.toNat := Nat.two_pow_pos _
  unfold p1
  have h1 := Int.emod_lt_of_pos (Int.tdiv n f.2.2.2.1) (show (0 : Int) < ((2 ^ f.2.1.toNat : Nat) : Int) by omega)
  have h2 := Int.emod_nonneg (Int.tdiv n f.2.2.2.1) (show ((2 ^ f.2.1.toNat : Nat) : Int) ≠ 0 by omega)
  omega
theorem p1_int (f : NumT) (n : Int) : ((p1 f n : Nat) : Int) = Int.tdiv n f.2.2.2.1 % ((2 ^ f.2.1.toNat : Nat) : Int) := by
  have hp0 : (0 : Nat) < 2 ^ f.2.1.toNat := Nat.two_pow_pos _
  have h2 := Int.emod_nonneg (Int.tdiv n f.2.2.2.1) (show ((2 ^ f.2.1.toNat : Nat) : Int) ≠ 0 by omega)
  unfold p1
  omega

def put2N (n : Int) : Nat := ((n % 4).toNat <<< 29) ||| ((n / 4 % 524288).toNat <<< 5)
theorem u64N_lt (n : Int) : u64N n < 2 ^ 64 := by
  unfold u64N
  rw [wrap_u64]
  omega

def put3N (n : Int) : Nat := (((ofVN (u64N n)).toNat <<< 22) ||| ((ofVR (u64N n)).toNat <<< 16)) ||| ((ofVS (u64N n)).toNat <<< 10)
def putN (f : NumT) (n : Int) : Nat := cond (f.2.2.1 == 1) (p1 f n <<< f.1.toNat) (cond (f.2.2.1 == 2) (put2N n) (cond (f.2.2.1 == 3) (put3N n) 0))

end Go.Rk

namespace Go.Rk
open Go Go.Ab Go.Proofs Go.Ra Go.Wd

theorem and_shift_mask (w k b : Nat) : w &&& ((2 ^ b - 1) <<< k) = (w / 2 ^ k % 2 ^ b) <<< k := by
  apply Nat.eq_of_testBit_eq
  intro j
  rw [Nat.testBit_and, Nat.testBit_shiftLeft, Nat.testBit_shiftLeft, Nat.testBit_two_pow_sub_one, Nat.testBit_mod_two_pow, Nat.testBit_div_two_pow]
  by_cases hk : k ≤ j
  · have e : j - k + k = j := by omega
    simp only [ge_iff_le, hk, decide_true, Bool.true_and, e]
    exact Bool.and_comm _ _
  · simp [hk]

theorem shl_inj {a b k : Nat} (h : a <<< k = b <<< k) : a = b := by
  rw [Nat.shiftLeft_eq, Nat.shiftLeft_eq] at h
  exact Nat.eq_of_mul_eq_mul_right (Nat.two_pow_pos k) h

/-- A number that may be in a field. -/
def NOk (f : NumT) (n : Int) : Prop :=
  (f = zeroN → n = 0) ∧ (f = aparN ∨ f.2.2.1 = 1 → f.2.2.2.2.1 ≤ n ∧ n ≤ f.2.2.2.2.2 ∧ Int.tmod n f.2.2.2.1 = 0) ∧ (f = maskNm → ofOk (u64N n) = true ∧ -9223372036854775808 ≤ n ∧ n < 9223372036854775808)

theorem shr_and {w k b : Nat} (hw : w < 2 ^ 32) (hb : b ≤ 31) : and32 (Int.fdiv (w : Int) (2 ^ k)) ((2 ^ b - 1 : Nat) : Int) = ((w / 2 ^ k % 2 ^ b : Nat) : Int) := by
  have hp : (2 : Nat) ^ b < 2 ^ 32 := Nat.pow_lt_pow_right (by omega) (by omega)
  have h1 : w >>> k < 2 ^ 32 := by rw [Nat.shiftRight_eq_div_pow]; exact Nat.lt_of_le_of_lt (Nat.div_le_self _ _) hw
  rw [shr_cast, and32_cast h1 (by omega), Nat.and_two_pow_sub_one_eq_mod, Nat.shiftRight_eq_div_pow]

theorem raw1_nat {f : NumT} {at_ bi : Nat} {by_ : Int} (P : Plain f at_ bi by_) {w : Nat} (hw : w < 2 ^ 32) : raw1 f (w : Int) = ((w / 2 ^ at_ % 2 ^ bi : Nat) : Int) := by
  unfold raw1
  rw [P.eAt, P.eBi, maskB_cast P.bi31, Int.toNat_natCast, show Min.min at_ 32 = at_ from by have := P.at32; omega]
  exact shr_and hw P.bi31

theorem signed7 (x : Int) : signedF x 7 = sgn 7 x := by
  unfold signedF
  rw [show Min.min (Int.toNat (IntKind.wrap IntKind.i64 (32 - 7))) 32 = 25 from by decide, Int.fdiv_eq_ediv_of_nonneg _ (by decide), wrap_u32, wrap_i32, wrap_i64 (by omega) (by omega)]
  unfold sgn
  omega
theorem signed19 (x : Int) : signedF x 19 = sgn 19 x := by
  unfold signedF
  rw [show Min.min (Int.toNat (IntKind.wrap IntKind.i64 (32 - 19))) 32 = 13 from by decide, Int.fdiv_eq_ediv_of_nonneg _ (by decide), wrap_u32, wrap_i32, wrap_i64 (by omega) (by omega)]
  unfold sgn
  omega
theorem signed21 (x : Int) : signedF x 21 = sgn 21 x := by
  unfold signedF
  rw [show Min.min (Int.toNat (IntKind.wrap IntKind.i64 (32 - 21))) 32 = 11 from by decide, Int.fdiv_eq_ediv_of_nonneg _ (by decide), wrap_u32, wrap_i32, wrap_i64 (by omega) (by omega)]
  unfold sgn
  omega
theorem signed26 (x : Int) : signedF x 26 = sgn 26 x := by
  unfold signedF
  rw [show Min.min (Int.toNat (IntKind.wrap IntKind.i64 (32 - 26))) 32 = 6 from by decide, Int.fdiv_eq_ediv_of_nonneg _ (by decide), wrap_u32, wrap_i32, wrap_i64 (by omega) (by omega)]
  unfold sgn
  omega

theorem get_plain {f : NumT} {at_ bi : Nat} {by_ : Int} (P : Plain f at_ bi by_) {n : Int} {w : Nat} (hv : f.2.2.2.2.1 ≤ n ∧ n ≤ f.2.2.2.2.2 ∧ Int.tmod n f.2.2.2.1 = 0) (hw : w < 2 ^ 32)
    (hm : w / 2 ^ at_ % 2 ^ bi = p1 f n) : get1 f (w : Int) = n := by
  obtain ⟨h1, h2, h3⟩ := hv
  rw [P.eBy] at h3
  have hr := raw1_nat P hw
  rw [hm] at hr
  have hp := p1_int f n
  rw [P.eBy, P.eBi, Int.toNat_natCast] at hp
  have hq : Int.tdiv n by_ * by_ = n := Int.tdiv_mul_cancel (Int.dvd_of_tmod_eq_zero h3)
  generalize Int.tdiv n by_ = q at hp hq
  have hby : IntKind.wrap .i64 by_ = by_ := by rcases P.byC with h | h | h | h <;> rw [h] <;> decide
  have hbi : IntKind.wrap .i64 (bi : Int) = (bi : Int) := wrap_i64 (by omega) (by have := P.bi31; omega)
  unfold get1
  rw [hr, P.eBy, P.eBi, hby, hbi]
  rcases P.rng with ⟨r1, r2, r3, r4⟩ | ⟨r3, r4⟩
  · rw [decide_eq_true r1, cond_true]
    rw [r3] at h1
    have hs : signedF ((p1 f n : Nat) : Int) (bi : Int) = q := by
      rw [hp]
      rcases r2 with h | h | h <;> subst h
      · rw [show ((7 : Nat) : Int) = 7 from rfl, signed7]
        unfold sgn
        rcases P.byC with h | h | h | h <;> subst h <;> omega
      · rw [show ((19 : Nat) : Int) = 19 from rfl, signed19]
        unfold sgn
        rcases P.byC with h | h | h | h <;> subst h <;> omega
      · rw [show ((26 : Nat) : Int) = 26 from rfl, signed26]
        unfold sgn
        rcases P.byC with h | h | h | h <;> subst h <;> omega
    rw [hs, hq]
    have := P.hi
    have := P.lo
    exact wrap_i64 (by omega) (by omega)
  · rw [r3] at h1 ⊢
    rw [show decide ((0 : Int) < 0) = false from rfl, cond_false]
    have hp0 : (0 : Nat) < 2 ^ bi := Nat.two_pow_pos _
    have hpc := pow_cast bi
    have hs : ((p1 f n : Nat) : Int) = q := by
      rw [hp]
      refine Int.emod_eq_of_lt ?_ ?_
      · rcases P.byC with h | h | h | h <;> subst h <;> omega
      · rw [hpc] at r4
        rcases P.byC with h | h | h | h <;> subst h <;> omega
    have h32 : p1 f n < 2 ^ 32 := by
      have := p1_lt f n
      rw [P.eBi, Int.toNat_natCast] at this
      have hp : (2 : Nat) ^ bi < 2 ^ 32 := Nat.pow_lt_pow_right (by omega) (by have := P.bi31; omega)
      omega
    have hw2 : IntKind.wrap .i64 ((p1 f n : Nat) : Int) = ((p1 f n : Nat) : Int) := wrap_i64 (by omega) (by omega)
    rw [hw2, hs, hq]
    have := P.hi
    exact wrap_i64 (by omega) (by omega)

theorem get_apart {n : Int} {w : Nat} (h1 : -1048576 ≤ n) (h2 : n ≤ 1048575) (hw : w < 2 ^ 32) (hm : w &&& ((3 <<< 29) ||| (524287 <<< 5)) = put2N n) : get2 (w : Int) = n := by
  have e1 : w &&& (3 <<< 29) = (w / 2 ^ 29 % 2 ^ 2) <<< 29 := and_shift_mask w 29 2
  have e2 : w &&& (524287 <<< 5) = (w / 2 ^ 5 % 2 ^ 19) <<< 5 := and_shift_mask w 5 19
  rw [Nat.and_or_distrib_left, e1, e2] at hm
  unfold put2N at hm
  have l1 : (w / 2 ^ 5 % 2 ^ 19) <<< 5 < 2 ^ 29 := by rw [Nat.shiftLeft_eq]; omega
  have l2 : (n / 4 % 524288).toNat <<< 5 < 2 ^ 29 := by rw [Nat.shiftLeft_eq]; omega
  rw [← Nat.shiftLeft_add_eq_or_of_lt l1, ← Nat.shiftLeft_add_eq_or_of_lt l2, Nat.shiftLeft_eq, Nat.shiftLeft_eq, Nat.shiftLeft_eq, Nat.shiftLeft_eq] at hm
  rw [Nat.shiftLeft_eq] at l1 l2
  unfold get2
  have a1 : and32 (Int.fdiv (w : Int) (2 ^ 5)) 524287 = ((w / 2 ^ 5 % 2 ^ 19 : Nat) : Int) := shr_and (k := 5) (b := 19) hw (by omega)
  have a2 : and32 (Int.fdiv (w : Int) (2 ^ 29)) 3 = ((w / 2 ^ 29 % 2 ^ 2 : Nat) : Int) := shr_and (k := 29) (b := 2) hw (by omega)
  have l3 : (w / 2 ^ 5 % 2 ^ 19) <<< 2 < 2 ^ 32 := by rw [Nat.shiftLeft_eq]; omega
  have l4 : w / 2 ^ 29 % 2 ^ 2 < 2 ^ 2 := Nat.mod_lt _ (by decide)
  rw [a1, a2, shl32_cast, Nat.mod_eq_of_lt l3, or32_cast l3 (by omega), ← Nat.shiftLeft_add_eq_or_of_lt l4, Nat.shiftLeft_eq, signed21]
  clear a1 a2 l3
  have l5 : w / 2 ^ 5 % 2 ^ 19 < 2 ^ 19 := Nat.mod_lt _ (by decide)
  generalize w / 2 ^ 5 % 2 ^ 19 = y at *
  generalize w / 2 ^ 29 % 2 ^ 2 = x at *
  clear hw e1 e2 l1 l2
  have hx : (x : Int) = n % 4 := by omega
  have hy : (y : Int) = n / 4 % 524288 := by omega
  have hs : ((y * 2 ^ 2 + x : Nat) : Int) = n % 2097152 := by omega
  rw [hs]
  unfold sgn
  omega

theorem get_mask {n : Int} {w : Nat} (hv : ofOk (u64N n) = true ∧ -9223372036854775808 ≤ n ∧ n < 9223372036854775808) (hw : w < 2 ^ 32) (hm : w &&& (8191 <<< 10) = put3N n) : get3 (w : Int) = n := by
  obtain ⟨h1, h2, h3⟩ := hv
  obtain ⟨r1, r2, r3, hb⟩ := of_back (u64N_lt n) h1
  have e1 : w &&& (8191 <<< 10) = (w / 2 ^ 10 % 2 ^ 13) <<< 10 := and_shift_mask w 10 13
  rw [e1] at hm
  unfold put3N at hm
  generalize ofVN (u64N n) = a at *
  generalize ofVR (u64N n) = b at *
  generalize ofVS (u64N n) = c at *
  have l1 : b.toNat <<< 16 < 2 ^ 22 := by rw [Nat.shiftLeft_eq]; omega
  have l2 : c.toNat <<< 10 < 2 ^ 16 := by rw [Nat.shiftLeft_eq]; omega
  have e3 : b.toNat <<< 16 ||| c.toNat <<< 10 = b.toNat * 2 ^ 16 + c.toNat * 2 ^ 10 := by
    rw [← Nat.shiftLeft_add_eq_or_of_lt l2, Nat.shiftLeft_eq, Nat.shiftLeft_eq]
  have l3 : b.toNat <<< 16 ||| c.toNat <<< 10 < 2 ^ 22 := by rw [e3]; omega
  rw [Nat.or_assoc, ← Nat.shiftLeft_add_eq_or_of_lt l3, e3, Nat.shiftLeft_eq, Nat.shiftLeft_eq] at hm
  unfold get3
  have a1 : and32 (Int.fdiv (w : Int) (2 ^ 22)) 1 = ((w / 2 ^ 22 % 2 ^ 1 : Nat) : Int) := shr_and (k := 22) (b := 1) hw (by omega)
  have a2 : and32 (Int.fdiv (w : Int) (2 ^ 16)) 63 = ((w / 2 ^ 16 % 2 ^ 6 : Nat) : Int) := shr_and (k := 16) (b := 6) hw (by omega)
  have a3 : and32 (Int.fdiv (w : Int) (2 ^ 10)) 63 = ((w / 2 ^ 10 % 2 ^ 6 : Nat) : Int) := shr_and (k := 10) (b := 6) hw (by omega)
  have b1 : ((w / 2 ^ 22 % 2 ^ 1 : Nat) : Int) = a := by omega
  have b2 : ((w / 2 ^ 16 % 2 ^ 6 : Nat) : Int) = b := by omega
  have b3 : ((w / 2 ^ 10 % 2 ^ 6 : Nat) : Int) = c := by omega
  rw [a1, a2, a3, b1, b2, b3, wrap_i64 (n := a) (by omega) (by omega), wrap_i64 (n := b) (by omega) (by omega), wrap_i64 (n := c) (by omega) (by omega), hb]
  have hm64 := u64N_lt n
  have h : IntKind.wrap .i64 ((u64N n : Nat) : Int) = if ((u64N n : Nat) : Int) % 18446744073709551616 ≥ 9223372036854775808 then ((u64N n : Nat) : Int) % 18446744073709551616 - 18446744073709551616 else ((u64N n : Nat) : Int) % 18446744073709551616 := by
    simp [IntKind.wrap, IntKind.bits, IntKind.signed]
  rw [h]
  have hu : ((u64N n : Nat) : Int) = n % 18446744073709551616 := by
    unfold u64N
    rw [wrap_u64]
    omega
  rw [hu]
  split <;> omega

/-- What bears the number gives it. -/
theorem get_put {f : NumT} (hf : numFine f = true) {n : Int} (hv : NOk f n) {w : Nat} (hw : w < 2 ^ 32) (hm : w &&& fMask f = putN f n) : getF f (w : Int) = n := by
  obtain ⟨v1, v2, v3⟩ := hv
  rcases num_cases hf with h | h | h | P
  · subst h
    exact (v1 rfl).symm
  · subst h
    obtain ⟨g1, g2, _⟩ := v2 (.inl rfl)
    exact get_apart g1 g2 hw hm
  · subst h
    exact get_mask (v3 rfl) hw hm
  · have hk : (f.2.2.1 == 1) = true := by rw [P.kind]; rfl
    unfold getF
    rw [hk, cond_true]
    refine get_plain P (v2 (.inr P.kind)) hw ?_
    unfold fMask putN at hm
    rw [hk, cond_true, cond_true, and_shift_mask] at hm
    exact shl_inj hm

end Go.Rk

namespace Go.Rk
open Go Go.Ab Go.Proofs Go.Ra Go.Wd

/-- A register's field. -/
def regFine (f : NumT) : Bool := numFine f && (decide (f = zeroN) || (f.2.2.1 == 1 && f.2.2.2.1 == 1))
def rowA (r : RowT) : Nat := fMask r.2.2.1
def rowB (r : RowT) : Nat := fMask r.2.2.2.1
def rowC (r : RowT) : Nat := fMask r.2.2.2.2.1
def rowD (r : RowT) : Nat := fMask r.2.2.2.2.2.1
def rowI (r : RowT) : Nat := fMask r.2.2.2.2.2.2.1
def z2 (a b : Nat) : Bool := Nat.beq (a &&& b) 0
def rowGood (r : RowT) : Bool :=
  (decide (0 ≤ r.2.1) && decide (r.2.1 < 4294967296)) && ((regFine r.2.2.1 && (regFine r.2.2.2.1 && (regFine r.2.2.2.2.1 && (regFine r.2.2.2.2.2.1 && numFine r.2.2.2.2.2.2.1)))) &&
  ((z2 r.2.1.toNat (rowA r) && (z2 r.2.1.toNat (rowB r) && (z2 r.2.1.toNat (rowC r) && (z2 r.2.1.toNat (rowD r) && z2 r.2.1.toNat (rowI r))))) &&
   ((z2 (rowA r) (rowB r) && (z2 (rowA r) (rowC r) && (z2 (rowA r) (rowD r) && z2 (rowA r) (rowI r)))) && ((z2 (rowB r) (rowC r) && (z2 (rowB r) (rowD r) && z2 (rowB r) (rowI r))) && ((z2 (rowC r) (rowD r) && z2 (rowC r) (rowI r)) && z2 (rowD r) (rowI r))))))
theorem rows_good : rowsL.all rowGood = true := by kernel_rfl

theorem z2_eq {a b : Nat} (h : z2 a b = true) : a &&& b = 0 := Nat.eq_of_beq_eq_true h
structure Good (r : RowT) : Prop where
  w0 : 0 ≤ r.2.1
  w1 : r.2.1 < 4294967296
  fa : regFine r.2.2.1 = true
  fb : regFine r.2.2.2.1 = true
  fc : regFine r.2.2.2.2.1 = true
  fd : regFine r.2.2.2.2.2.1 = true
  fi : numFine r.2.2.2.2.2.2.1 = true
  wa : r.2.1.toNat &&& rowA r = 0
  wb : r.2.1.toNat &&& rowB r = 0
  wc : r.2.1.toNat &&& rowC r = 0
  wd : r.2.1.toNat &&& rowD r = 0
  wi : r.2.1.toNat &&& rowI r = 0
  ab : z2 (rowA r) (rowB r) = true
  ac : z2 (rowA r) (rowC r) = true
  ad : z2 (rowA r) (rowD r) = true
  ai : z2 (rowA r) (rowI r) = true
  bc : z2 (rowB r) (rowC r) = true
  bd : z2 (rowB r) (rowD r) = true
  bi : z2 (rowB r) (rowI r) = true
  cd : z2 (rowC r) (rowD r) = true
  ci : z2 (rowC r) (rowI r) = true
  di : z2 (rowD r) (rowI r) = true

theorem row_good {r : RowT} (hr : r ∈ rowsL) : Good r := by
  have h := List.all_eq_true.1 rows_good r hr
  simp only [rowGood, Bool.and_eq_true, decide_eq_true_eq] at h
  obtain ⟨⟨a1, a2⟩, ⟨b1, b2, b3, b4, b5⟩, ⟨c1, c2, c3, c4, c5⟩, ⟨d1, d2, d3, d4⟩, ⟨e1, e2, e3⟩, ⟨f1, f2⟩, g1⟩ := h
  exact ⟨a1, a2, b1, b2, b3, b4, b5, z2_eq c1, z2_eq c2, z2_eq c3, z2_eq c4, z2_eq c5, d1, d2, d3, d4, e1, e2, e3, f1, f2, g1⟩

section
variable {r : RowT} (G : Good r) (i : InsT)
include G

end

/-! Two rows have no word in common. -/

/-! What is encoded, and decoded. -/

theorem frow_mem {nm : List UInt8} (h : fok nm = true) : frow nm ∈ rowsL ∧ (frow nm).1 = nm := by
  unfold fok at h
  obtain ⟨r, hr⟩ := Option.isSome_iff_exists.1 h
  have e : frow nm = r := by unfold frow; rw [hr]; rfl
  rw [e]
  exact ⟨List.mem_of_find?_eq_some hr, eq_of_beq (by simpa using List.find?_some hr : strEq r.1 nm = true)⟩

theorem small_rng {f : NumT} {n : Int} (h : smallF f n = true) : IntKind.wrap .i64 f.2.2.2.2.1 ≤ n ∧ n ≤ IntKind.wrap .i64 f.2.2.2.2.2 := by
  unfold smallF at h
  cases hd : decide (IntKind.wrap IntKind.i64 f.2.2.2.2.1 ≤ n)
  · rw [hd] at h; cases h
  · rw [hd] at h
    exact ⟨of_decide_eq_true hd, of_decide_eq_true h⟩

theorem plain_wraps {f : NumT} {at_ bi : Nat} {by_ : Int} (P : Plain f at_ bi by_) : IntKind.wrap .i64 f.2.2.2.2.1 = f.2.2.2.2.1 ∧ IntKind.wrap .i64 f.2.2.2.2.2 = f.2.2.2.2.2 ∧ IntKind.wrap .i64 f.2.2.2.1 = f.2.2.2.1 := by
  have h1 := P.lo
  have h2 := P.hi
  have h4 := P.hi0
  have h3 : f.2.2.2.2.1 < 2147483648 := by rcases P.rng with ⟨h, _⟩ | ⟨h, _⟩ <;> omega
  refine ⟨wrap_i64 (by omega) (by omega), wrap_i64 (by omega) (by omega), ?_⟩
  rw [P.eBy]
  rcases P.byC with h | h | h | h <;> rw [h] <;> decide

/-- A register that may be. -/
theorem reg_ok {f : NumT} (hf : regFine f = true) {n : Int} (h : smallF f n = true) : NOk f n := by
  obtain ⟨h1, h2⟩ := small_rng h
  simp only [regFine, Bool.and_eq_true, Bool.or_eq_true, decide_eq_true_eq, beq_iff_eq] at hf
  obtain ⟨hn, hf⟩ := hf
  refine ⟨fun e => ?_, fun e => ?_, fun e => ?_⟩
  · subst e
    have h1 : (0 : Int) ≤ n := h1
    have h2 : n ≤ (0 : Int) := h2
    omega
  · rcases num_cases hn with h | h | h | P
    · subst h
      rcases e with e | e
      · cases e
      · cases e
    · subst h
      rcases hf with h | h
      · cases h
      · cases h.1
    · subst h
      rcases hf with h | h
      · cases h
      · cases h.1
    · obtain ⟨p1, p2, _⟩ := plain_wraps P
      rw [p1] at h1
      rw [p2] at h2
      refine ⟨h1, h2, ?_⟩
      rcases hf with h | h
      · have := P.kind; rw [h] at this; cases this
      · rw [h.2]
        exact Int.tmod_one n
  · subst e
    rcases hf with h | h
    · cases h
    · cases h.1

end Go.Rk

namespace Go.Rk
open Go Go.Ab Go.Proofs Go.Ra

/-- The context of foundry/foundryref11.rows. -/
noncomputable def cx141 : Cx := { P := Tryz.prog, n := 31, tab := [], mtab := [], refs := [], keeps := [0, 1, 2, 3, 5, 8, 9, 13], fuel := 20 }
noncomputable def rowsMS : MSpec := fun args H => .req (Nat.ble args.length Tryz.f141.ntmps) (mfun cx141 Tryz.f141 args H)
theorem rowsMS_ok : MSound Tryz.prog 141 rowsMS := msound_fun (cx := cx141) (fn := Tryz.f141) (cx0_ok rfl rfl) (by kernel_rfl) (by kernel_rfl)
/-- The context of foundry/foundryref11.number. -/
noncomputable def cx140 : Cx := { P := Tryz.prog, n := 20, tab := [], mtab := [], refs := [], keeps := [0, 1, 2, 3, 4, 5, 12] }
noncomputable def numXS : Ab.Spec := fun args => .req (Nat.ble args.length Tryz.f140.ntmps) (dfun cx140 Tryz.f140 args)
theorem numXS_ok : Sound Tryz.prog 140 numXS := sound_fun (cx := cx140) (fn := Tryz.f140) (cx0_ok rfl rfl) (by kernel_rfl) (by kernel_rfl)
/-- The context of foundry/foundryref11.Table. -/
noncomputable def cx104 : Cx := { P := Tryz.prog, n := 115, tab := [(140, numXS)], mtab := [(141, rowsMS)], refs := [], keeps := [0, 1, 2, 3, 4, 5] }

abbrev rowXE : EC := .prod [.str, .int .u32, .str, .int .u64, .int .u64, .int .i64, .int .u8, .int .u64, .int .u64, .int .i64, .int .i64, .int .i64]
/-- A row: name, word, operands, where C and D lie, D's greatest; the number's kind, place, size, least, greatest, divisor. -/
abbrev RowX := List UInt8 × Int × List UInt8 × Int × Int × Int × Int × Int × Int × Int × Int × Int
/-- The document's rows. -/
@[irreducible] def rowsX : List RowX := [
  ([109, 111, 118, 110], 2457862144, [65, 105, 115], 0, 21, 3, 105, 5, 16, 0, 65535, 1),
  ([109, 111, 118, 122], 3531603968, [65, 105, 115], 0, 21, 3, 105, 5, 16, 0, 65535, 1),
  ([109, 111, 118, 107], 4068474880, [65, 105, 115], 0, 21, 3, 105, 5, 16, 0, 65535, 1),
  ([97, 100, 100, 46, 105], 2432696320, [65, 66, 105, 115], 0, 22, 1, 105, 10, 12, 0, 4095, 1),
  ([97, 100, 100, 115, 46, 105], 2969567232, [65, 66, 105, 115], 0, 22, 1, 105, 10, 12, 0, 4095, 1),
  ([115, 117, 98, 46, 105], 3506438144, [65, 66, 105, 115], 0, 22, 1, 105, 10, 12, 0, 4095, 1),
  ([115, 117, 98, 115, 46, 105], 4043309056, [65, 66, 105, 115], 0, 22, 1, 105, 10, 12, 0, 4095, 1),
  ([97, 100, 100], 2332033024, [65, 66, 67, 115], 16, 10, 63, 0, 0, 0, 0, 0, 0),
  ([97, 100, 100, 115], 2868903936, [65, 66, 67, 115], 16, 10, 63, 0, 0, 0, 0, 0, 0),
  ([115, 117, 98], 3405774848, [65, 66, 67, 115], 16, 10, 63, 0, 0, 0, 0, 0, 0),
  ([115, 117, 98, 115], 3942645760, [65, 66, 67, 115], 16, 10, 63, 0, 0, 0, 0, 0, 0),
  ([97, 110, 100], 2315255808, [65, 66, 67, 115], 16, 10, 63, 0, 0, 0, 0, 0, 0),
  ([111, 114, 114], 2852126720, [65, 66, 67, 115], 16, 10, 63, 0, 0, 0, 0, 0, 0),
  ([101, 111, 114], 3388997632, [65, 66, 67, 115], 16, 10, 63, 0, 0, 0, 0, 0, 0),
  ([97, 110, 100, 115], 3925868544, [65, 66, 67, 115], 16, 10, 63, 0, 0, 0, 0, 0, 0),
  ([97, 110, 100, 46, 105], 2449473536, [65, 66, 105], 0, 0, 0, 109, 0, 0, 0, 0, 0),
  ([111, 114, 114, 46, 105], 2986344448, [65, 66, 105], 0, 0, 0, 109, 0, 0, 0, 0, 0),
  ([101, 111, 114, 46, 105], 3523215360, [65, 66, 105], 0, 0, 0, 109, 0, 0, 0, 0, 0),
  ([97, 110, 100, 115, 46, 105], 4060086272, [65, 66, 105], 0, 0, 0, 109, 0, 0, 0, 0, 0),
  ([109, 97, 100, 100], 2600468480, [65, 66, 67, 68], 16, 10, 31, 0, 0, 0, 0, 0, 0),
  ([109, 115, 117, 98], 2600501248, [65, 66, 67, 68], 16, 10, 31, 0, 0, 0, 0, 0, 0),
  ([117, 100, 105, 118], 2596276224, [65, 66, 67], 16, 0, 0, 0, 0, 0, 0, 0, 0),
  ([115, 100, 105, 118], 2596277248, [65, 66, 67], 16, 0, 0, 0, 0, 0, 0, 0, 0),
  ([108, 115, 108, 118], 2596282368, [65, 66, 67], 16, 0, 0, 0, 0, 0, 0, 0, 0),
  ([108, 115, 114, 118], 2596283392, [65, 66, 67], 16, 0, 0, 0, 0, 0, 0, 0, 0),
  ([97, 115, 114, 118], 2596284416, [65, 66, 67], 16, 0, 0, 0, 0, 0, 0, 0, 0),
  ([115, 98, 102, 109], 2470445056, [65, 66, 116, 115], 16, 10, 63, 0, 0, 0, 0, 0, 0),
  ([117, 98, 102, 109], 3544186880, [65, 66, 116, 115], 16, 10, 63, 0, 0, 0, 0, 0, 0),
  ([99, 115, 101, 108], 2592079872, [65, 66, 67, 99], 16, 12, 13, 0, 0, 0, 0, 0, 0),
  ([99, 115, 105, 110, 99], 2592080896, [65, 66, 67, 99], 16, 12, 13, 0, 0, 0, 0, 0, 0),
  ([97, 100, 114], 268435456, [65, 106], 0, 0, 0, 97, 0, 0, -1048576, 1048575, 1),
  ([97, 100, 114, 112], 2415919104, [65, 106], 0, 0, 0, 97, 0, 0, -1048576, 1048575, 1),
  ([108, 100, 114, 98], 960495616, [65, 66, 105], 0, 0, 0, 105, 10, 12, 0, 4095, 1),
  ([115, 116, 114, 98], 956301312, [65, 66, 105], 0, 0, 0, 105, 10, 12, 0, 4095, 1),
  ([108, 100, 114, 104], 2034237440, [65, 66, 105], 0, 0, 0, 105, 10, 12, 0, 8190, 2),
  ([115, 116, 114, 104], 2030043136, [65, 66, 105], 0, 0, 0, 105, 10, 12, 0, 8190, 2),
  ([108, 100, 114, 46, 119], 3107979264, [65, 66, 105], 0, 0, 0, 105, 10, 12, 0, 16380, 4),
  ([115, 116, 114, 46, 119], 3103784960, [65, 66, 105], 0, 0, 0, 105, 10, 12, 0, 16380, 4),
  ([108, 100, 114, 115, 119], 3112173568, [65, 66, 105], 0, 0, 0, 105, 10, 12, 0, 16380, 4),
  ([108, 100, 114], 4181721088, [65, 66, 105], 0, 0, 0, 105, 10, 12, 0, 32760, 8),
  ([115, 116, 114], 4177526784, [65, 66, 105], 0, 0, 0, 105, 10, 12, 0, 32760, 8),
  ([108, 100, 112], 2839543808, [65, 67, 66, 105], 10, 0, 0, 105, 15, 7, -512, 504, 8),
  ([115, 116, 112], 2835349504, [65, 67, 66, 105], 10, 0, 0, 105, 15, 7, -512, 504, 8),
  ([98], 335544320, [106], 0, 0, 0, 105, 0, 26, -134217728, 134217724, 4),
  ([98, 108], 2483027968, [106], 0, 0, 0, 105, 0, 26, -134217728, 134217724, 4),
  ([98, 46, 99], 1409286144, [99, 106], 0, 0, 13, 105, 5, 19, -1048576, 1048572, 4),
  ([99, 98, 122], 3019898880, [65, 106], 0, 0, 0, 105, 5, 19, -1048576, 1048572, 4),
  ([99, 98, 110, 122], 3036676096, [65, 106], 0, 0, 0, 105, 5, 19, -1048576, 1048572, 4),
  ([98, 114], 3592355840, [66], 0, 0, 0, 0, 0, 0, 0, 0, 0),
  ([98, 108, 114], 3594452992, [66], 0, 0, 0, 0, 0, 0, 0, 0, 0),
  ([114, 101, 116], 3596550144, [66], 0, 0, 0, 0, 0, 0, 0, 0, 0),
  ([115, 118, 99], 3556769793, [105], 0, 0, 0, 105, 5, 16, 0, 65535, 1),
  ([98, 114, 107], 3558866944, [105], 0, 0, 0, 105, 5, 16, 0, 65535, 1),
  ([110, 111, 112], 3573751839, [], 0, 0, 0, 0, 0, 0, 0, 0, 0)]

theorem table_run : (dfun cx104 Tryz.f104 []).run = some (.sl rowXE rowsX [] .ro) := by kernel_rfl

def tableS : Ab.Spec := fun args => match args with
  | [] => .leaf (.sl rowXE rowsX [] .ro)
  | _ => .fail

theorem tableS_ok : Sound Tryz.prog 104 tableS := by
  intro args out h
  unfold tableS at h
  split at h
  rotate_left
  · cases h
  simp only [Tree.run, Option.some.injEq] at h
  subst h
  exact pcall_fun' (cx := cx104) (fn := Tryz.f104) (cx1_ok (.cons numXS_ok (.nil _)) (.cons rowsMS_ok (.nil _)) rfl rfl) (by kernel_rfl) (by kernel_rfl) (by kernel_rfl) table_run

theorem rowsX_len : rowsX.length = 54 := by kernel_rfl

end Go.Rk

namespace Go.Rk
open Go Go.Ab Go.Proofs Go.Ra Go.Wd

/-- The context of foundry/foundryref11.has. -/
noncomputable def cx84 : Cx := { P := Tryz.prog, n := 17, tab := [], mtab := [], refs := [], keeps := [0, 1, 4, 5, 9, 16] }
/-- The context of foundry/foundryref11.find. -/
noncomputable def cx83 : Cx := { P := Tryz.prog, n := 25, tab := [(104, tableS)], mtab := [], refs := [], keeps := [0, 2, 3, 4, 5, 10, 19] }
/-- The context of foundry/foundryref1.sized. -/
noncomputable def cx189 : Cx := { P := Tryz.prog, n := 17, tab := [], mtab := [], refs := [], keeps := [0, 2] }
def hasRound (s : List UInt8) (c k : Int) : Tree St :=
  (.br (decide (k < ↑(List.length s))) (.br (inside k (List.length s)) (.br (↑(UInt8.toNat (List.getD s (Int.toNat k) 0)) == c) (.leaf (.ret, [(0, (.str s)), (1, (.int .u8 c)), (4, (.bool true)), (5, (.int .i64 k)), (9, (.bool true)), (16, (.bool true))], [])) (.leaf (.normal, [(0, (.str s)), (1, (.int .u8 c)), (5, (.int .i64 (IntKind.wrap IntKind.i64 (k + 1)))), (9, (.bool true)), (16, (.bool false))], []))) .fail) (.leaf ((.exit 0), [(0, (.str s)), (1, (.int .u8 c)), (5, (.int .i64 k)), (9, (.bool false))], [])))

theorem hasRound_eq (s : List UInt8) (c k : Int) : (dcode cx84 (cin (cin (c2 (c1 (tailN 0 (bodyOf Tryz.f84)))))) [(0, .str s), (1, .int .u8 c), (5, .int .i64 k)] []).run = (hasRound s c k).run :=
  (show (dcode cx84 (cin (cin (c2 (c1 (tailN 0 (bodyOf Tryz.f84)))))) [(0, .str s), (1, .int .u8 c), (5, .int .i64 k)] []).run = (hasRound s c k).out by kernel_rfl).trans (Tree.out_run _)

def findXRound (nm : List UInt8) (i : Int) (l : List rowXE.ty) : Tree St :=
  (.br (decide (i < ↑(List.length l))) (.br (inside i (List.length l)) (.br (strEq (tS (Prod.fst (List.getD l (Int.toNat i) (EC.dflt Go.Rk.rowXE)))) nm) (.br (inside i (List.length l)) (.leaf (.ret, [(0, (.str nm)), (2, (.ptr 0 0)), (3, (.bool true)), (4, (.sl (.prod [.str, (.int .u32), .str, (.int .u64), (.int .u64), (.int .i64), (.int .u8), (.int .u64), (.int .u64), (.int .i64), (.int .i64), (.int .i64)]) (l) ([]) Fl.ro)), (5, (.int .i64 i)), (10, (.bool true)), (19, (.bool true))], [(.cells [(.str (tS (Prod.fst (List.getD l (Int.toNat i) (EC.dflt Go.Rk.rowXE))))), (.int .u32 (tI (Prod.fst (Prod.snd (List.getD l (Int.toNat i) (EC.dflt Go.Rk.rowXE)))))), (.str (tS (Prod.fst (Prod.snd (Prod.snd (List.getD l (Int.toNat i) (EC.dflt Go.Rk.rowXE))))))), (.int .u64 (tI (Prod.fst (Prod.snd (Prod.snd (Prod.snd (List.getD l (Int.toNat i) (EC.dflt Go.Rk.rowXE)))))))), (.int .u64 (tI (Prod.fst (Prod.snd (Prod.snd (Prod.snd (Prod.snd (List.getD l (Int.toNat i) (EC.dflt Go.Rk.rowXE))))))))), (.int .i64 (tI (Prod.fst (Prod.snd (Prod.snd (Prod.snd (Prod.snd (Prod.snd (List.getD l (Int.toNat i) (EC.dflt Go.Rk.rowXE)))))))))), (.int .u8 (tI (Prod.fst (Prod.snd (Prod.snd (Prod.snd (Prod.snd (Prod.snd (Prod.snd (List.getD l (Int.toNat i) (EC.dflt Go.Rk.rowXE))))))))))), (.int .u64 (tI (Prod.fst (Prod.snd (Prod.snd (Prod.snd (Prod.snd (Prod.snd (Prod.snd (Prod.snd (List.getD l (Int.toNat i) (EC.dflt Go.Rk.rowXE)))))))))))), (.int .u64 (tI (Prod.fst (Prod.snd (Prod.snd (Prod.snd (Prod.snd (Prod.snd (Prod.snd (Prod.snd (Prod.snd (List.getD l (Int.toNat i) (EC.dflt Go.Rk.rowXE))))))))))))), (.int .i64 (tI (Prod.fst (Prod.snd (Prod.snd (Prod.snd (Prod.snd (Prod.snd (Prod.snd (Prod.snd (Prod.snd (Prod.snd (List.getD l (Int.toNat i) (EC.dflt Go.Rk.rowXE)))))))))))))), (.int .i64 (tI (Prod.fst (Prod.snd (Prod.snd (Prod.snd (Prod.snd (Prod.snd (Prod.snd (Prod.snd (Prod.snd (Prod.snd (Prod.snd (List.getD l (Int.toNat i) (EC.dflt Go.Rk.rowXE))))))))))))))), (.int .i64 (Prod.snd (Prod.snd (Prod.snd (Prod.snd (Prod.snd (Prod.snd (Prod.snd (Prod.snd (Prod.snd (Prod.snd (Prod.snd (List.getD l (Int.toNat i) (EC.dflt Go.Rk.rowXE))))))))))))))] 126)])) .fail) (.leaf (.normal, [(0, (.str nm)), (2, (.ptr 0 0)), (4, (.sl (.prod [.str, (.int .u32), .str, (.int .u64), (.int .u64), (.int .i64), (.int .u8), (.int .u64), (.int .u64), (.int .i64), (.int .i64), (.int .i64)]) (l) ([]) Fl.ro)), (5, (.int .i64 (IntKind.wrap IntKind.i64 (i + 1)))), (10, (.bool true)), (19, (.bool false))], [(.cells [(.str []), (.int .u32 0), (.str []), (.int .u64 0), (.int .u64 0), (.int .i64 0), (.int .u8 0), (.int .u64 0), (.int .u64 0), (.int .i64 0), (.int .i64 0), (.int .i64 0)] 126)]))) .fail) (.leaf ((.exit 0), [(0, (.str nm)), (2, (.ptr 0 0)), (4, (.sl (.prod [.str, (.int .u32), .str, (.int .u64), (.int .u64), (.int .i64), (.int .u8), (.int .u64), (.int .u64), (.int .i64), (.int .i64), (.int .i64)]) (l) ([]) Fl.ro)), (5, (.int .i64 i)), (10, (.bool false))], [(.cells [(.str []), (.int .u32 0), (.str []), (.int .u64 0), (.int .u64 0), (.int .i64 0), (.int .u8 0), (.int .u64 0), (.int .u64 0), (.int .i64 0), (.int .i64 0), (.int .i64 0)] 126)])))

theorem findXRound_eq (nm : List UInt8) (i : Int) (l : List rowXE.ty) : (dcode cx83 (cin (cin (c2 (c1 (tailN 1 (bodyOf Tryz.f83)))))) [(0, .str nm), (2, .ptr 0 0), (4, .sl rowXE l [] .ro), (5, .int .i64 i)] [(.cells [.str [], .int .u32 0, .str [], .int .u64 0, .int .u64 0, .int .i64 0, .int .u8 0, .int .u64 0, .int .u64 0, .int .i64 0, .int .i64 0, .int .i64 0] 126)]).run = (findXRound nm i l).run :=
  (show (dcode cx83 (cin (cin (c2 (c1 (tailN 1 (bodyOf Tryz.f83)))))) [(0, .str nm), (2, .ptr 0 0), (4, .sl rowXE l [] .ro), (5, .int .i64 i)] [(.cells [.str [], .int .u32 0, .str [], .int .u64 0, .int .u64 0, .int .i64 0, .int .u8 0, .int .u64 0, .int .u64 0, .int .i64 0, .int .i64 0, .int .i64 0] 126)]).run = (findXRound nm i l).out by kernel_rfl).trans (Tree.out_run _)

def findXEnd (nm : List UInt8) : Tree St :=
  (.leaf (.ret, [(0, (.str nm)), (2, (.ptr 0 0)), (3, (.bool false))], [(.cells [(.str []), (.int .u32 0), (.str []), (.int .u64 0), (.int .u64 0), (.int .i64 0), (.int .u8 0), (.int .u64 0), (.int .u64 0), (.int .i64 0), (.int .i64 0), (.int .i64 0)] 126)]))

theorem findXEnd_eq (nm : List UInt8) : (dcode cx83 (tailN 2 (bodyOf Tryz.f83)) [(0, .str nm), (2, .ptr 0 0)] [(.cells [.str [], .int .u32 0, .str [], .int .u64 0, .int .u64 0, .int .i64 0, .int .u8 0, .int .u64 0, .int .u64 0, .int .i64 0, .int .i64 0, .int .i64 0] 126)]).run = (findXEnd nm).run :=
  (show (dcode cx83 (tailN 2 (bodyOf Tryz.f83)) [(0, .str nm), (2, .ptr 0 0)] [(.cells [.str [], .int .u32 0, .str [], .int .u64 0, .int .u64 0, .int .i64 0, .int .u8 0, .int .u64 0, .int .u64 0, .int .i64 0, .int .i64 0, .int .i64 0] 126)]).run = (findXEnd nm).out by kernel_rfl).trans (Tree.out_run _)

def sizedT (n : Int) : Tree V :=
  (.br (n == 1) (.leaf (.bool true)) (.br (n == 2) (.leaf (.bool true)) (.br (n == 4) (.leaf (.bool true)) (.leaf (.bool (n == 8))))))

theorem sizedT_eq (n : Int) : (dfun cx189 Tryz.f189 [.int .i64 n]).run = (sizedT n).run :=
  (show (dfun cx189 Tryz.f189 [.int .i64 n]).run = (sizedT n).out by kernel_rfl).trans (Tree.out_run _)

/-! Does a text have a letter? -/

def isL (c : Int) (b : UInt8) : Bool := ((UInt8.toNat b : Nat) : Int) == c
def hasX (s : List UInt8) (c : Int) : Bool := s.any (isL c)

theorem any_take_succ {α : Type} {p : α → Bool} {l : List α} {i : Nat} {d : α} (hi : i < l.length) : (l.take (i + 1)).any p = ((l.take i).any p || p (l.getD i d)) := by
  rw [List.take_add_one, List.getElem?_eq_getElem hi, getD_lt hi, List.any_append]
  simp

def hasSt (s : List UInt8) (c : Int) (i : { i : Nat // i ≤ s.length ∧ (s.take i).any (isL c) = false }) : T × List O := ([(0, .str s), (1, .int .u8 c), (5, .int .i64 i.1)], [])

set_option maxRecDepth 8000 in
theorem has_ok (s : List UInt8) (c : Int) (hl : s.length < 1000000000) : PCall Tryz.prog 84 [.str s, .int .u8 c] (.bool (hasX s c)) := by
  refine pcall_of' (c := bodyOf Tryz.f84) (fn := Tryz.f84) (by kernel_rfl) (by kernel_rfl) (by kernel_rfl) (by kernel_rfl) ?_
  have e : bodyOf Tryz.f84 = .seq (c1 (bodyOf Tryz.f84)) (.seq (.seq (c1 (c1 (tailN 0 (bodyOf Tryz.f84)))) (.block 0 (.loop (cin (cin (c2 (c1 (tailN 0 (bodyOf Tryz.f84)))))))))  (tailN 1 (bodyOf Tryz.f84))) := by kernel_rfl
  rw [e]
  generalize hQ : (fun e t H => (e = AEx.ret ∨ e = .normal) ∧ answerV Tryz.prog Tryz.f84.results.toList H t = some (.bool (hasX s c))) = Q
  have hok : CxOk cx84 := cx0_ok rfl rfl
  refine AWP_seq (AWP_run (cx := cx84) rfl rfl hok (s := (.normal, [(0, .str s), (1, .int .u8 c), (4, .bool false)], [])) (by kernel_rfl) ?_)
  refine AWP_seq (AWP_seq (AWP_run (cx := cx84) rfl rfl hok (s := (.normal, [(0, .str s), (1, .int .u8 c), (4, .bool false), (5, .int .i64 0)], [])) (by kernel_rfl) ?_))
  refine AWP_block ?_
  refine AWP.less (s := (hasSt s c ⟨0, Nat.zero_le _, rfl⟩).1) (Fits.tle ⟨rfl, rfl, rfl, trivial⟩) ?_
  refine AWP_rounds (cx := cx84) (P := Tryz.prog) (n := 17) rfl rfl hok (hasSt s c) (fun i => s.length - i.1) ?_ ⟨0, Nat.zero_le _, rfl⟩
  rintro ⟨i, hi, hnone⟩
  refine Tree.all_run_eq (hasRound_eq s c i) ?_
  refine ⟨fun hlt => ⟨fun hin => ⟨fun hm => ?_, fun hm => ?_⟩, fun hin => ?_⟩, fun hge => ?_⟩
  · have hlt : i < s.length := Int.ofNat_lt.1 (of_decide_eq_true hlt)
    refine ⟨[], _, rfl, ?_⟩
    subst hQ
    refine ⟨.inl rfl, ?_⟩
    have h1 : hasX s c = true := by
      unfold hasX
      rw [List.any_eq_true]
      exact ⟨s.getD i 0, by rw [getD_lt hlt]; exact List.getElem_mem hlt, hm⟩
    show answerV _ _ _ _ = some _
    rw [h1]
    kernel_rfl
  · have hlt : i < s.length := Int.ofNat_lt.1 (of_decide_eq_true hlt)
    have hn : (s.take (i + 1)).any (isL c) = false := by
      rw [any_take_succ (d := 0) hlt, hnone, Bool.false_or]
      exact hm
    refine ⟨[], _, rfl, ⟨i + 1, hlt, hn⟩, by show s.length - (i + 1) < s.length - i; omega, Fits.tle ⟨rfl, rfl, ?_, trivial⟩, rfl⟩
    show V.int .i64 (IntKind.wrap .i64 ((i : Int) + 1)) = V.int .i64 ((i + 1 : Nat) : Int)
    rw [wrap_i64 (by omega) (by omega)]
    rfl
  · exfalso
    have hlt : i < s.length := Int.ofNat_lt.1 (of_decide_eq_true hlt)
    exact Bool.noConfusion ((inside_of (Int.natCast_nonneg i) (Int.ofNat_lt.2 hlt)).symm.trans hin)
  · have hge : ¬ i < s.length := fun h => of_decide_eq_false hge (Int.ofNat_lt.2 h)
    have hi' : i = s.length := by omega
    refine ⟨[], _, rfl, ?_⟩
    show AWP _ _ _ _ _ _
    refine AWP.less (s := []) (Fits.tle trivial) ?_
    refine AWP_run (cx := cx84) rfl rfl hok (s := (.ret, [(4, .bool false)], [])) (by kernel_rfl) ?_
    subst hQ
    refine ⟨.inl rfl, ?_⟩
    have h1 : hasX s c = false := by unfold hasX; rw [← hnone, hi', List.take_length]
    show answerV _ _ _ _ = some _
    rw [h1]
    kernel_rfl

def hasS : Ab.Spec := fun args => match args with
  | [.str s, .int .u8 c] => .req (decide (s.length < 1000000000)) (.leaf (.bool (hasX s c)))
  | _ => .fail

theorem hasS_ok : Sound Tryz.prog 84 hasS := by
  intro args out h
  unfold hasS at h
  split at h
  rotate_left
  · cases h
  obtain ⟨h1, h2⟩ := req_run h
  simp only [Tree.run, Option.some.injEq] at h2
  subst h2
  exact has_ok _ _ (of_decide_eq_true h1)

def sizedX (n : Int) : Bool := cond (n == 1) true (cond (n == 2) true (cond (n == 4) true (n == 8)))
def sizedS : Ab.Spec := fun args => match args with
  | [.int .i64 n] => .leaf (.bool (sizedX n))
  | _ => .fail

theorem sizedS_ok : Sound Tryz.prog 189 sizedS := by
  intro args out h
  unfold sizedS at h
  split at h
  rotate_left
  · cases h
  rename_i n
  refine pcall_fun' (cx := cx189) (fn := Tryz.f189) (cx0_ok rfl rfl) (by kernel_rfl) (by kernel_rfl) (by kernel_rfl) ?_
  rw [sizedT_eq, ← h]
  unfold sizedT sizedX
  cases (n == 1) <;> cases (n == 2) <;> cases (n == 4) <;> rfl

/-! A number out of bytes. -/

/-! A name's row. -/

theorem cxX35_ok : CxOk cx83 := cx1_ok (.cons tableS_ok (.nil _)) (.nil _) rfl rfl

def zeroX : RowX := ([], 0, [], 0, 0, 0, 0, 0, 0, 0, 0, 0)
def findLX (nm : List UInt8) (l : List RowX) : Option RowX := l.find? fun r => strEq r.1 nm
def frowX (nm : List UInt8) : RowX := (findLX nm rowsX).getD zeroX
def fokX (nm : List UInt8) : Bool := (findLX nm rowsX).isSome
abbrev rowXL (r : RowX) : List V := [.str r.1, .int .u32 r.2.1, .str r.2.2.1, .int .u64 r.2.2.2.1, .int .u64 r.2.2.2.2.1, .int .i64 r.2.2.2.2.2.1, .int .u8 r.2.2.2.2.2.2.1, .int .u64 r.2.2.2.2.2.2.2.1, .int .u64 r.2.2.2.2.2.2.2.2.1, .int .i64 r.2.2.2.2.2.2.2.2.2.1, .int .i64 r.2.2.2.2.2.2.2.2.2.2.1, .int .i64 r.2.2.2.2.2.2.2.2.2.2.2]
def rowV (r : RowX) : V := .agg (rowXL r)

def findXSt (nm : List UInt8) (i : { i : Nat // i ≤ rowsX.length ∧ findLX nm (rowsX.take i) = none }) : T × List O :=
  ([(0, .str nm), (2, .ptr 0 0), (4, .sl rowXE rowsX [] .ro), (5, .int .i64 i.1)], [(.cells [.str [], .int .u32 0, .str [], .int .u64 0, .int .u64 0, .int .i64 0, .int .u8 0, .int .u64 0, .int .u64 0, .int .i64 0, .int .i64 0, .int .i64 0] 126)])

set_option maxRecDepth 8000 in
theorem findX_ok (nm : List UInt8) : PCall Tryz.prog 83 [.str nm] (.tup [rowV (frowX nm), .bool (fokX nm)]) := by
  refine pcall_of' (c := bodyOf Tryz.f83) (fn := Tryz.f83) (by kernel_rfl) (by kernel_rfl) (by kernel_rfl) (by kernel_rfl) ?_
  have e : bodyOf Tryz.f83 = .seq (c1 (bodyOf Tryz.f83)) (.seq (c1 (tailN 0 (bodyOf Tryz.f83))) (.seq (.seq (c1 (c1 (tailN 1 (bodyOf Tryz.f83)))) (.block 0 (.loop (cin (cin (c2 (c1 (tailN 1 (bodyOf Tryz.f83))))))))) (tailN 2 (bodyOf Tryz.f83)))) := by kernel_rfl
  rw [e]
  generalize hQ : (fun e t H => (e = AEx.ret ∨ e = .normal) ∧ answerV Tryz.prog Tryz.f83.results.toList H t = some (.tup [rowV (frowX nm), .bool (fokX nm)])) = Q
  have hlen := rowsX_len
  refine AWP_seq (AWP_run (cx := cx83) rfl rfl cxX35_ok (s := (.normal, [(0, .str nm), (2, .ptr 0 0), (3, .bool false)], [(.cells [.str [], .int .u32 0, .str [], .int .u64 0, .int .u64 0, .int .i64 0, .int .u8 0, .int .u64 0, .int .u64 0, .int .i64 0, .int .i64 0, .int .i64 0] 126)])) (by kernel_rfl) ?_)
  refine AWP_seq (AWP_run (cx := cx83) rfl rfl cxX35_ok (s := (.normal, [(0, .str nm), (2, .ptr 0 0), (3, .bool false), (4, .sl rowXE rowsX [] .ro)], [(.cells [.str [], .int .u32 0, .str [], .int .u64 0, .int .u64 0, .int .i64 0, .int .u8 0, .int .u64 0, .int .u64 0, .int .i64 0, .int .i64 0, .int .i64 0] 126)])) (by kernel_rfl) ?_)
  refine AWP_seq (AWP_seq (AWP_run (cx := cx83) rfl rfl cxX35_ok (s := (.normal, [(0, .str nm), (2, .ptr 0 0), (3, .bool false), (4, .sl rowXE rowsX [] .ro), (5, .int .i64 0)], [(.cells [.str [], .int .u32 0, .str [], .int .u64 0, .int .u64 0, .int .i64 0, .int .u8 0, .int .u64 0, .int .u64 0, .int .i64 0, .int .i64 0, .int .i64 0] 126)])) (by kernel_rfl) ?_))
  refine AWP_block ?_
  refine AWP.less (s := (findXSt nm ⟨0, Nat.zero_le _, rfl⟩).1) (Fits.tle ⟨rfl, rfl, rfl, rfl, trivial⟩) ?_
  refine AWP_rounds (cx := cx83) (P := Tryz.prog) (n := 25) rfl rfl cxX35_ok (findXSt nm) (fun i => 54 - i.1) ?_ ⟨0, Nat.zero_le _, rfl⟩
  rintro ⟨i, hi, hnone⟩
  refine Tree.all_run_eq (findXRound_eq nm i rowsX) ?_
  refine ⟨fun hlt => ⟨fun hin => ⟨fun hp => ⟨fun hin2 => ?_, fun hin2 => Bool.noConfusion (hin.symm.trans hin2)⟩, fun hp => ?_⟩, fun hin => ?_⟩, fun hge => ?_⟩
  · have hlt : i < rowsX.length := Int.ofNat_lt.1 (of_decide_eq_true hlt)
    have hf : findLX nm rowsX = some (rowsX.getD i zeroX) := take_some hlt hnone hp
    refine ⟨[], _, rfl, ?_⟩
    subst hQ
    refine ⟨.inl rfl, ?_⟩
    have h1 : frowX nm = rowsX.getD i zeroX := by unfold frowX; rw [hf]; rfl
    have h2 : fokX nm = true := by unfold fokX; rw [hf]; rfl
    show answerV _ _ _ _ = some _
    rw [h1, h2]
    kernel_rfl
  · have hlt : i < rowsX.length := Int.ofNat_lt.1 (of_decide_eq_true hlt)
    have hf : findLX nm (rowsX.take (i + 1)) = none := take_none hlt hnone hp
    refine ⟨[], _, rfl, ⟨i + 1, hlt, hf⟩, by show 54 - (i + 1) < 54 - i; omega, Fits.tle ⟨rfl, rfl, rfl, ?_, trivial⟩, rfl⟩
    show V.int .i64 (IntKind.wrap .i64 ((i : Int) + 1)) = V.int .i64 ((i + 1 : Nat) : Int)
    rw [wrap_i64 (by omega) (by omega)]
    rfl
  · exfalso
    have hlt : i < rowsX.length := Int.ofNat_lt.1 (of_decide_eq_true hlt)
    exact Bool.noConfusion ((inside_of (Int.natCast_nonneg i) (Int.ofNat_lt.2 hlt)).symm.trans hin)
  · have hge : ¬ ((i : Int) < rowsX.length) := of_decide_eq_false hge
    have hi' : i = rowsX.length := by omega
    refine ⟨[], _, rfl, ?_⟩
    show AWP _ _ _ _ _ _
    refine AWP.less (s := [(0, .str nm), (2, .ptr 0 0)]) (Fits.tle ⟨rfl, rfl, trivial⟩) ?_
    refine AWP_run (cx := cx83) rfl rfl cxX35_ok (findXEnd_eq nm) ?_
    subst hQ
    refine ⟨.inl rfl, ?_⟩
    have hf : findLX nm rowsX = none := by rw [← hnone, hi', List.take_length]
    have h1 : frowX nm = zeroX := by unfold frowX; rw [hf]; rfl
    have h2 : fokX nm = false := by unfold fokX; rw [hf]; rfl
    show answerV _ _ _ _ = some _
    rw [h1, h2]
    kernel_rfl

end Go.Rk

namespace Go.Rk
open Go Go.Ab Go.Proofs Go.Ra Go.Wd

def sizeD (m : Int) : Int := cond (decide (m < 2)) 1 (cond (decide (m < 4)) 2 (cond (decide (m < 8)) 3 (cond (decide (m < 16)) 4 (cond (decide (m < 32)) 5 6))))
def hasD (ops : List UInt8) : Bool := hasX ops 115 || (hasX ops 68 || hasX ops 99)
def cA (x : RowX) : NumT := cond (hasX x.2.2.1 65) (0, 5, 1, 1, 0, 31) zeroN
def cB (x : RowX) : NumT := cond (hasX x.2.2.1 66) (5, 5, 1, 1, 0, 31) zeroN
def cC (x : RowX) : NumT := cond (hasX x.2.2.1 116) (x.2.2.2.1, 6, 1, 1, 0, 63) (cond (hasX x.2.2.1 67) (x.2.2.2.1, 5, 1, 1, 0, 31) zeroN)
def cD (x : RowX) : NumT := cond (hasD x.2.2.1) (x.2.2.2.2.1, sizeD x.2.2.2.2.2.1, 1, 1, 0, x.2.2.2.2.2.1) zeroN
def cI (x : RowX) : NumT := cond (x.2.2.2.2.2.2.1 == 105) (x.2.2.2.2.2.2.2.1, x.2.2.2.2.2.2.2.2.1, 1, x.2.2.2.2.2.2.2.2.2.2.2, x.2.2.2.2.2.2.2.2.2.1, x.2.2.2.2.2.2.2.2.2.2.1)
  (cond (x.2.2.2.2.2.2.1 == 109) maskNm (cond (x.2.2.2.2.2.2.1 == 97) aparN zeroN))
/-- The program's row for a row of the document's. -/
def conv (x : RowX) : RowT := (x.1, x.2.1, cA x, cB x, cC x, cD x, cI x, x.2.2.1)
theorem rows_conv : rowsX.map conv = rowsL := by kernel_rfl

theorem find_conv (nm : List UInt8) : findL nm rowsL = (findLX nm rowsX).map conv := by
  unfold findL findLX
  rw [← rows_conv, List.find?_map]
  rfl

theorem fok_eq (nm : List UInt8) : fok nm = fokX nm := by
  unfold fok fokX
  rw [find_conv]
  cases findLX nm rowsX <;> rfl

theorem frow_eq {nm : List UInt8} (h : fokX nm = true) : frow nm = conv (frowX nm) ∧ frowX nm ∈ rowsX := by
  unfold fokX at h
  obtain ⟨r, hr⟩ := Option.isSome_iff_exists.1 h
  have h1 : frowX nm = r := by unfold frowX; rw [hr]; rfl
  refine ⟨?_, by rw [h1]; exact List.mem_of_find?_eq_some hr⟩
  unfold frow
  rw [find_conv, hr, h1]
  rfl

end Go.Rk

namespace Go.Rk
open Go Go.Ab Go.Proofs Go.Ra Go.Wd

def lowF (e : Int) : Int := cond (e == 64) 18446744073709551615 (IntKind.wrap .u64 (IntKind.wrap .u64 (1 * 2 ^ Min.min (Int.toNat (IntKind.wrap .u64 e)) 64) - 1))
def turnF (x e : Int) : Int := and64 (or64 (IntKind.wrap .u64 (x * 2 ^ 1)) (Int.fdiv x (2 ^ Min.min (Int.toNat (IntKind.wrap .u64 (IntKind.wrap .i64 (e - 1)))) 64))) (lowF e)
def turnS : Ab.Spec := fun args => match args with
  | [.int .u64 x, .int .i64 e] => .leaf (.int .u64 (turnF x e))
  | _ => .fail
/-- The context of foundry/foundryref10.turn. -/
noncomputable def cx132 : Cx := { P := Tryz.prog, n := 22, tab := [], mtab := [], refs := [], keeps := [0, 1, 4, 5, 11] }
def turnT (x e : Int) : Tree V :=
  (.br (decide (0 ≤ IntKind.wrap IntKind.u64 e)) (.br (e == 64) (.br (decide (0 ≤ IntKind.wrap IntKind.u64 (IntKind.wrap IntKind.i64 (e - 1)))) (.leaf (.int .u64 (IntKind.wrap IntKind.u64 ↑(BitVec.toNat (BitVec.ofInt 64 (IntKind.wrap IntKind.u64 ↑(BitVec.toNat (BitVec.ofInt 64 (IntKind.wrap IntKind.u64 (x * 2 ^ 1)) ||| BitVec.ofInt 64 (Int.fdiv x (2 ^ Min.min (Int.toNat (IntKind.wrap IntKind.u64 (IntKind.wrap IntKind.i64 (e - 1)))) 64))))) &&& BitVec.ofInt 64 18446744073709551615))))) .fail) (.br (decide (0 ≤ IntKind.wrap IntKind.u64 (IntKind.wrap IntKind.i64 (e - 1)))) (.leaf (.int .u64 (IntKind.wrap IntKind.u64 ↑(BitVec.toNat (BitVec.ofInt 64 (IntKind.wrap IntKind.u64 ↑(BitVec.toNat (BitVec.ofInt 64 (IntKind.wrap IntKind.u64 (x * 2 ^ 1)) ||| BitVec.ofInt 64 (Int.fdiv x (2 ^ Min.min (Int.toNat (IntKind.wrap IntKind.u64 (IntKind.wrap IntKind.i64 (e - 1)))) 64))))) &&& BitVec.ofInt 64 (IntKind.wrap IntKind.u64 (IntKind.wrap IntKind.u64 (1 * 2 ^ Min.min (Int.toNat (IntKind.wrap IntKind.u64 e)) 64) - 1))))))) .fail)) .fail)

theorem turnT_eq (x e : Int) : (dfun cx132 Tryz.f132 [.int .u64 x, .int .i64 e]).run = (turnT x e).run :=
  (show (dfun cx132 Tryz.f132 [.int .u64 x, .int .i64 e]).run = (turnT x e).out by kernel_rfl).trans (Tree.out_run _)

theorem wrap64_nonneg (e : Int) : decide (0 ≤ IntKind.wrap IntKind.u64 e) = true := by
  rw [wrap_u64]
  exact decide_eq_true (by omega)

theorem turnS_ok : Sound Tryz.prog 132 turnS := by
  intro args out h
  unfold turnS at h
  split at h
  rotate_left
  · cases h
  rename_i x e
  have h := leaf_out h
  subst h
  refine pcall_fun' (cx := cx132) (fn := Tryz.f132) (cx0_ok rfl rfl) (by kernel_rfl) (by kernel_rfl) (by kernel_rfl) ?_
  rw [turnT_eq]
  unfold turnT turnF lowF
  rw [wrap64_nonneg, wrap64_nonneg]
  cases (e == 64) <;> rfl

/-- The context of foundry/foundryref10.Of. -/
noncomputable def cx86 : Cx := { P := Tryz.prog, n := 73, tab := [(131, highS), (132, turnS)], mtab := [], refs := [], keeps := [0, 2, 3, 4, 5, 6, 7, 8, 9, 10, 11, 12, 13, 15, 23, 28, 44, 47, 52, 60, 62] }
noncomputable abbrev DB : Code := bodyOf Tryz.f86
noncomputable abbrev L0 : Code := cin (cin (c2 (c1 (tailN 0 DB))))
noncomputable abbrev BO : Code := cin (c1 (c2 L0))
noncomputable abbrev KL : Code := cin (cin (c2 (c1 (tailN 3 BO))))
noncomputable abbrev RL : Code := cin (cin (c2 (c1 (tailN 5 BO))))
noncomputable abbrev RB : Code := cin (c1 (c2 RL))
noncomputable abbrev OL : Code := cin (cin (c2 (c1 RB)))
def xPre (m : Int) : Tree St :=
  (.leaf (.normal, [(0, (.int .u64 m)), (2, (.int .i64 0)), (3, (.int .i64 0)), (4, (.int .i64 0)), (5, (.bool false)), (6, (.int .i64 2))], []))

theorem xPre_eq (m : Int) : (dcode cx86 (.seq (c1 DB) (c1 (c1 (tailN 0 DB)))) (initT 0 [.int .u64 m]) []).run = (xPre m).run :=
  (show (dcode cx86 (.seq (c1 DB) (c1 (c1 (tailN 0 DB)))) (initT 0 [.int .u64 m]) []).run = (xPre m).out by kernel_rfl).trans (Tree.out_run _)

def xHead (m e : Int) : Tree St :=
  (.br (decide (e ≤ 64)) (.leaf (.normal, [(0, (.int .u64 m)), (6, (.int .i64 e)), (15, (.bool true))], [])) (.leaf ((.exit 0), [(0, (.int .u64 m)), (6, (.int .i64 e)), (15, (.bool false))], [])))

theorem xHead_eq (m e : Int) : (dcode cx86 (c1 L0) [(0, .int .u64 m), (6, .int .i64 e)] []).run = (xHead m e).run :=
  (show (dcode cx86 (c1 L0) [(0, .int .u64 m), (6, .int .i64 e)] []).run = (xHead m e).out by kernel_rfl).trans (Tree.out_run _)

def xNext (m e : Int) : Tree St :=
  (.leaf (.normal, [(0, (.int .u64 m)), (6, (.int .i64 (IntKind.wrap IntKind.i64 (2 * e))))], []))

theorem xNext_eq (m e : Int) : (dcode cx86 (c2 (c2 L0)) [(0, .int .u64 m), (6, .int .i64 e)] []).run = (xNext m e).run :=
  (show (dcode cx86 (c2 (c2 L0)) [(0, .int .u64 m), (6, .int .i64 e)] []).run = (xNext m e).out by kernel_rfl).trans (Tree.out_run _)

def xLow (m e : Int) : Tree St :=
  (.br (decide (0 ≤ IntKind.wrap IntKind.u64 e)) (.br (e == 64) (.leaf (.normal, [(0, (.int .u64 m)), (6, (.int .i64 e)), (7, (.int .u64 18446744073709551615)), (8, (.int .u64 (IntKind.wrap IntKind.u64 ↑(BitVec.toNat (BitVec.ofInt 64 m &&& BitVec.ofInt 64 18446744073709551615))))), (9, (.bool true)), (23, (.bool true))], [])) (.leaf (.normal, [(0, (.int .u64 m)), (6, (.int .i64 e)), (7, (.int .u64 (IntKind.wrap IntKind.u64 (IntKind.wrap IntKind.u64 (1 * 2 ^ Min.min (Int.toNat (IntKind.wrap IntKind.u64 e)) 64) - 1)))), (8, (.int .u64 (IntKind.wrap IntKind.u64 ↑(BitVec.toNat (BitVec.ofInt 64 m &&& BitVec.ofInt 64 (IntKind.wrap IntKind.u64 (IntKind.wrap IntKind.u64 (1 * 2 ^ Min.min (Int.toNat (IntKind.wrap IntKind.u64 e)) 64) - 1))))))), (9, (.bool true)), (23, (.bool false))], []))) .fail)

theorem xLow_eq (m e : Int) : (dcode cx86 (headN 3 BO) [(0, .int .u64 m), (6, .int .i64 e)] []).run = (xLow m e).run :=
  (show (dcode cx86 (headN 3 BO) [(0, .int .u64 m), (6, .int .i64 e)] []).run = (xLow m e).out by kernel_rfl).trans (Tree.out_run _)

def xK0 (m e l x : Int) (b : Bool) : Tree St :=
  (.leaf (.normal, [(0, (.int .u64 m)), (6, (.int .i64 e)), (7, (.int .u64 l)), (8, (.int .u64 x)), (9, (.bool b)), (10, (.int .i64 0))], []))

theorem xK0_eq (m e l x : Int) (b : Bool) : (dcode cx86 (c1 (c1 (tailN 3 BO))) [(0, .int .u64 m), (6, .int .i64 e), (7, .int .u64 l), (8, .int .u64 x), (9, .bool b)] []).run = (xK0 m e l x b).run :=
  (show (dcode cx86 (c1 (c1 (tailN 3 BO))) [(0, .int .u64 m), (6, .int .i64 e), (7, .int .u64 l), (8, .int .u64 x), (9, .bool b)] []).run = (xK0 m e l x b).out by kernel_rfl).trans (Tree.out_run _)

def xKL (m e l x k : Int) (b : Bool) : Tree St :=
  (.br (decide (k < 64)) (.br b (.br (decide (0 ≤ IntKind.wrap IntKind.u64 k)) (.leaf (.normal, [(0, (.int .u64 m)), (6, (.int .i64 e)), (7, (.int .u64 l)), (8, (.int .u64 x)), (9, (.bool (IntKind.wrap IntKind.u64 ↑(BitVec.toNat (BitVec.ofInt 64 (Int.fdiv m (2 ^ Min.min (Int.toNat (IntKind.wrap IntKind.u64 k)) 64)) &&& BitVec.ofInt 64 l)) == x))), (10, (.int .i64 (IntKind.wrap IntKind.i64 (k + e)))), (28, (.bool true))], [])) .fail) (.leaf (.normal, [(0, (.int .u64 m)), (6, (.int .i64 e)), (7, (.int .u64 l)), (8, (.int .u64 x)), (9, (.bool false)), (10, (.int .i64 (IntKind.wrap IntKind.i64 (k + e)))), (28, (.bool true))], []))) (.leaf ((.exit 2), [(0, (.int .u64 m)), (6, (.int .i64 e)), (7, (.int .u64 l)), (8, (.int .u64 x)), (9, (.bool b)), (10, (.int .i64 k)), (28, (.bool false))], [])))

theorem xKL_eq (m e l x k : Int) (b : Bool) : (dcode cx86 KL [(0, .int .u64 m), (6, .int .i64 e), (7, .int .u64 l), (8, .int .u64 x), (9, .bool b), (10, .int .i64 k)] []).run = (xKL m e l x k b).run :=
  (show (dcode cx86 KL [(0, .int .u64 m), (6, .int .i64 e), (7, .int .u64 l), (8, .int .u64 x), (9, .bool b), (10, .int .i64 k)] []).run = (xKL m e l x k b).out by kernel_rfl).trans (Tree.out_run _)

def xAg (m e x : Int) (b : Bool) : Tree St :=
  (.br (!b) (.leaf ((.exit 1), [(0, (.int .u64 m)), (6, (.int .i64 e)), (8, (.int .u64 x)), (9, (.bool b)), (44, (.bool true))], [])) (.leaf (.normal, [(0, (.int .u64 m)), (6, (.int .i64 e)), (8, (.int .u64 x)), (9, (.bool b)), (44, (.bool false))], [])))

theorem xAg_eq (m e x : Int) (b : Bool) : (dcode cx86 (c1 (tailN 4 BO)) [(0, .int .u64 m), (6, .int .i64 e), (8, .int .u64 x), (9, .bool b)] []).run = (xAg m e x b).run :=
  (show (dcode cx86 (c1 (tailN 4 BO)) [(0, .int .u64 m), (6, .int .i64 e), (8, .int .u64 x), (9, .bool b)] []).run = (xAg m e x b).out by kernel_rfl).trans (Tree.out_run _)

def xR0 (e x : Int) : Tree St :=
  (.leaf (.normal, [(6, (.int .i64 e)), (8, (.int .u64 x)), (11, (.int .i64 0))], []))

theorem xR0_eq (e x : Int) : (dcode cx86 (c1 (c1 (tailN 5 BO))) [(6, .int .i64 e), (8, .int .u64 x)] []).run = (xR0 e x).run :=
  (show (dcode cx86 (c1 (c1 (tailN 5 BO))) [(6, .int .i64 e), (8, .int .u64 x)] []).run = (xR0 e x).out by kernel_rfl).trans (Tree.out_run _)

def xRH (e x r : Int) : Tree St :=
  (.br (decide (r < e)) (.leaf (.normal, [(6, (.int .i64 e)), (8, (.int .u64 x)), (11, (.int .i64 r)), (47, (.bool true))], [])) (.leaf ((.exit 4), [(6, (.int .i64 e)), (8, (.int .u64 x)), (11, (.int .i64 r)), (47, (.bool false))], [])))

theorem xRH_eq (e x r : Int) : (dcode cx86 (c1 RL) [(6, .int .i64 e), (8, .int .u64 x), (11, .int .i64 r)] []).run = (xRH e x r).run :=
  (show (dcode cx86 (c1 RL) [(6, .int .i64 e), (8, .int .u64 x), (11, .int .i64 r)] []).run = (xRH e x r).out by kernel_rfl).trans (Tree.out_run _)

def xO0 (e x r : Int) : Tree St :=
  (.leaf (.normal, [(6, (.int .i64 e)), (8, (.int .u64 x)), (11, (.int .i64 r)), (12, (.int .i64 1))], []))

theorem xO0_eq (e x r : Int) : (dcode cx86 (c1 (c1 RB)) [(6, .int .i64 e), (8, .int .u64 x), (11, .int .i64 r)] []).run = (xO0 e x r).run :=
  (show (dcode cx86 (c1 (c1 RB)) [(6, .int .i64 e), (8, .int .u64 x), (11, .int .i64 r)] []).run = (xO0 e x r).out by kernel_rfl).trans (Tree.out_run _)

def xOL (e x r o : Int) : Tree St :=
  (.br (decide (o < e)) (.br (decide (0 ≤ IntKind.wrap IntKind.u64 o)) (.br (x == IntKind.wrap IntKind.u64 (IntKind.wrap IntKind.u64 (1 * 2 ^ Min.min (Int.toNat (IntKind.wrap IntKind.u64 o)) 64) - 1)) (.br (e == 64) (.leaf (.ret, [(2, (.int .i64 1)), (3, (.int .i64 r)), (4, (.int .i64 (IntKind.wrap IntKind.i64 (IntKind.wrap IntKind.i64 (Go.Rk.highF e + o) - 1)))), (5, (.bool true)), (6, (.int .i64 e)), (8, (.int .u64 x)), (11, (.int .i64 r)), (12, (.int .i64 o)), (13, (.int .i64 1)), (52, (.bool true)), (60, (.bool true)), (62, (.bool true))], [])) (.leaf (.ret, [(2, (.int .i64 0)), (3, (.int .i64 r)), (4, (.int .i64 (IntKind.wrap IntKind.i64 (IntKind.wrap IntKind.i64 (Go.Rk.highF e + o) - 1)))), (5, (.bool true)), (6, (.int .i64 e)), (8, (.int .u64 x)), (11, (.int .i64 r)), (12, (.int .i64 o)), (13, (.int .i64 0)), (52, (.bool true)), (60, (.bool true)), (62, (.bool false))], []))) (.leaf (.normal, [(6, (.int .i64 e)), (8, (.int .u64 x)), (11, (.int .i64 r)), (12, (.int .i64 (IntKind.wrap IntKind.i64 (o + 1)))), (52, (.bool true)), (60, (.bool false))], []))) .fail) (.leaf ((.exit 6), [(6, (.int .i64 e)), (8, (.int .u64 x)), (11, (.int .i64 r)), (12, (.int .i64 o)), (52, (.bool false))], [])))

theorem xOL_eq (e x r o : Int) : (dcode cx86 OL [(6, .int .i64 e), (8, .int .u64 x), (11, .int .i64 r), (12, .int .i64 o)] []).run = (xOL e x r o).run :=
  (show (dcode cx86 OL [(6, .int .i64 e), (8, .int .u64 x), (11, .int .i64 r), (12, .int .i64 o)] []).run = (xOL e x r o).out by kernel_rfl).trans (Tree.out_run _)

def xRT (e x r : Int) : Tree St :=
  (.leaf (.normal, [(6, (.int .i64 e)), (8, (.int .u64 (Go.Rk.turnF x e))), (11, (.int .i64 r))], []))

theorem xRT_eq (e x r : Int) : (dcode cx86 (c2 RB) [(6, .int .i64 e), (8, .int .u64 x), (11, .int .i64 r)] []).run = (xRT e x r).run :=
  (show (dcode cx86 (c2 RB) [(6, .int .i64 e), (8, .int .u64 x), (11, .int .i64 r)] []).run = (xRT e x r).out by kernel_rfl).trans (Tree.out_run _)

def xRN (e x r : Int) : Tree St :=
  (.leaf (.normal, [(6, (.int .i64 e)), (8, (.int .u64 x)), (11, (.int .i64 (IntKind.wrap IntKind.i64 (r + 1))))], []))

theorem xRN_eq (e x r : Int) : (dcode cx86 (c2 (c2 RL)) [(6, .int .i64 e), (8, .int .u64 x), (11, .int .i64 r)] []).run = (xRN e x r).run :=
  (show (dcode cx86 (c2 (c2 RL)) [(6, .int .i64 e), (8, .int .u64 x), (11, .int .i64 r)] []).run = (xRN e x r).out by kernel_rfl).trans (Tree.out_run _)

def xRE  : Tree St :=
  (.leaf (.ret, [(2, (.int .i64 0)), (3, (.int .i64 0)), (4, (.int .i64 0)), (5, (.bool false))], []))

theorem xRE_eq  : (dcode cx86 (tailN 6 BO) [] []).run = (xRE ).run :=
  (show (dcode cx86 (tailN 6 BO) [] []).run = (xRE ).out by kernel_rfl).trans (Tree.out_run _)

end Go.Rk
