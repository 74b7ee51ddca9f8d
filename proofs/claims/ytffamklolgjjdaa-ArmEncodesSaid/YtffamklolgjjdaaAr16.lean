/-
  Fields, plainly: what is got of a word that bears a number. Conditions: none.
-/
import Derived.Test.YtffamklolgjjdaaAr15
namespace Go.Arm
open Go Go.Ab Go.Proofs Go.Wd

theorem and_shift_mask (w k b : Nat) : w &&& ((2 ^ b - 1) <<< k) = (w / 2 ^ k % 2 ^ b) <<< k := by
  apply Nat.eq_of_testBit_eq
  intro j
  rw [Nat.testBit_and, Nat.testBit_shiftLeft, Nat.testBit_shiftLeft, Nat.testBit_two_pow_sub_one, Nat.testBit_mod_two_pow, Nat.testBit_div_two_pow]
  by_cases hk : k ≤ j
  · have e : j - k + k = j := by omega
    simp only [ge_iff_le, hk, decide_true, Bool.true_and, e]
    exact Bool.and_comm _ _
  · simp [hk]

theorem shl_inj {a b k : Nat} (h : a <<< k = b <<< k) : a = b := by
  rw [Nat.shiftLeft_eq, Nat.shiftLeft_eq] at h
  exact Nat.eq_of_mul_eq_mul_right (Nat.two_pow_pos k) h

/-- A number that may be in a field. -/
def NOk (f : NumT) (n : Int) : Prop :=
  (f = zeroN → n = 0) ∧ (f = aparN ∨ f.2.2.1 = 1 → f.2.2.2.2.1 ≤ n ∧ n ≤ f.2.2.2.2.2 ∧ Int.tmod n f.2.2.2.1 = 0) ∧ (f = maskNm → ofOk (u64N n) = true ∧ -9223372036854775808 ≤ n ∧ n < 9223372036854775808)

theorem shr_and {w k b : Nat} (hw : w < 2 ^ 32) (hb : b ≤ 31) : and32 (Int.fdiv (w : Int) (2 ^ k)) ((2 ^ b - 1 : Nat) : Int) = ((w / 2 ^ k % 2 ^ b : Nat) : Int) := by
  have hp : (2 : Nat) ^ b < 2 ^ 32 := Nat.pow_lt_pow_right (by omega) (by omega)
  have h1 : w >>> k < 2 ^ 32 := by rw [Nat.shiftRight_eq_div_pow]; exact Nat.lt_of_le_of_lt (Nat.div_le_self _ _) hw
  rw [shr_cast, and32_cast h1 (by omega), Nat.and_two_pow_sub_one_eq_mod, Nat.shiftRight_eq_div_pow]

theorem raw1_nat {f : NumT} {at_ bi : Nat} {by_ : Int} (P : Plain f at_ bi by_) {w : Nat} (hw : w < 2 ^ 32) : raw1 f (w : Int) = ((w / 2 ^ at_ % 2 ^ bi : Nat) : Int) := by
  unfold raw1
  rw [P.eAt, P.eBi, maskB_cast P.bi31, Int.toNat_natCast, show Min.min at_ 32 = at_ from by have := P.at32; omega]
  exact shr_and hw P.bi31

theorem signed7 (x : Int) : signedF x 7 = sgn 7 x := by
  unfold signedF
  rw [show Min.min (Int.toNat (IntKind.wrap IntKind.i64 (32 - 7))) 32 = 25 from by decide, Int.fdiv_eq_ediv_of_nonneg _ (by decide), wrap_u32, wrap_i32, wrap_i64 (by omega) (by omega)]
  unfold sgn
  omega
theorem signed19 (x : Int) : signedF x 19 = sgn 19 x := by
  unfold signedF
  rw [show Min.min (Int.toNat (IntKind.wrap IntKind.i64 (32 - 19))) 32 = 13 from by decide, Int.fdiv_eq_ediv_of_nonneg _ (by decide), wrap_u32, wrap_i32, wrap_i64 (by omega) (by omega)]
  unfold sgn
  omega
theorem signed21 (x : Int) : signedF x 21 = sgn 21 x := by
  unfold signedF
  rw [show Min.min (Int.toNat (IntKind.wrap IntKind.i64 (32 - 21))) 32 = 11 from by decide, Int.fdiv_eq_ediv_of_nonneg _ (by decide), wrap_u32, wrap_i32, wrap_i64 (by omega) (by omega)]
  unfold sgn
  omega
theorem signed26 (x : Int) : signedF x 26 = sgn 26 x := by
  unfold signedF
  rw [show Min.min (Int.toNat (IntKind.wrap IntKind.i64 (32 - 26))) 32 = 6 from by decide, Int.fdiv_eq_ediv_of_nonneg _ (by decide), wrap_u32, wrap_i32, wrap_i64 (by omega) (by omega)]
  unfold sgn
  omega

theorem get_plain {f : NumT} {at_ bi : Nat} {by_ : Int} (P : Plain f at_ bi by_) {n : Int} {w : Nat} (hv : f.2.2.2.2.1 ≤ n ∧ n ≤ f.2.2.2.2.2 ∧ Int.tmod n f.2.2.2.1 = 0) (hw : w < 2 ^ 32)
    (hm : w / 2 ^ at_ % 2 ^ bi = p1 f n) : get1 f (w : Int) = n := by
  obtain ⟨h1, h2, h3⟩ := hv
  rw [P.eBy] at h3
  have hr := raw1_nat P hw
  rw [hm] at hr
  have hp := p1_int f n
  rw [P.eBy, P.eBi, Int.toNat_natCast] at hp
  have hq : Int.tdiv n by_ * by_ = n := Int.tdiv_mul_cancel (Int.dvd_of_tmod_eq_zero h3)
  generalize Int.tdiv n by_ = q at hp hq
  have hby : IntKind.wrap .i64 by_ = by_ := by rcases P.byC with h | h | h | h <;> rw [h] <;> decide
  have hbi : IntKind.wrap .i64 (bi : Int) = (bi : Int) := wrap_i64 (by omega) (by have := P.bi31; omega)
  unfold get1
  rw [hr, P.eBy, P.eBi, hby, hbi]
  rcases P.rng with ⟨r1, r2, r3, r4⟩ | ⟨r3, r4⟩
  · rw [decide_eq_true r1, cond_true]
    rw [r3] at h1
    have hs : signedF ((p1 f n : Nat) : Int) (bi : Int) = q := by
      rw [hp]
      rcases r2 with h | h | h <;> subst h
      · rw [show ((7 : Nat) : Int) = 7 from rfl, signed7]
        unfold sgn
        rcases P.byC with h | h | h | h <;> subst h <;> omega
      · rw [show ((19 : Nat) : Int) = 19 from rfl, signed19]
        unfold sgn
        rcases P.byC with h | h | h | h <;> subst h <;> omega
      · rw [show ((26 : Nat) : Int) = 26 from rfl, signed26]
        unfold sgn
        rcases P.byC with h | h | h | h <;> subst h <;> omega
    rw [hs, hq]
    have := P.hi
    have := P.lo
    exact wrap_i64 (by omega) (by omega)
  · rw [r3] at h1 ⊢
    rw [show decide ((0 : Int) < 0) = false from rfl, cond_false]
    have hp0 : (0 : Nat) < 2 ^ bi := Nat.two_pow_pos _
    have hpc := pow_cast bi
    have hs : ((p1 f n : Nat) : Int) = q := by
      rw [hp]
      refine Int.emod_eq_of_lt ?_ ?_
      · rcases P.byC with h | h | h | h <;> subst h <;> omega
      · rw [hpc] at r4
        rcases P.byC with h | h | h | h <;> subst h <;> omega
    have h32 : p1 f n < 2 ^ 32 := by
      have := p1_lt f n
      rw [P.eBi, Int.toNat_natCast] at this
      have hp : (2 : Nat) ^ bi < 2 ^ 32 := Nat.pow_lt_pow_right (by omega) (by have := P.bi31; omega)
      omega
    have hw2 : IntKind.wrap .i64 ((p1 f n : Nat) : Int) = ((p1 f n : Nat) : Int) := wrap_i64 (by omega) (by omega)
    rw [hw2, hs, hq]
    have := P.hi
    exact wrap_i64 (by omega) (by omega)

theorem get_apart {n : Int} {w : Nat} (h1 : -1048576 ≤ n) (h2 : n ≤ 1048575) (hw : w < 2 ^ 32) (hm : w &&& ((3 <<< 29) ||| (524287 <<< 5)) = put2N n) : get2 (w : Int) = n := by
  have e1 : w &&& (3 <<< 29) = (w / 2 ^ 29 % 2 ^ 2) <<< 29 := and_shift_mask w 29 2
  have e2 : w &&& (524287 <<< 5) = (w / 2 ^ 5 % 2 ^ 19) <<< 5 := and_shift_mask w 5 19
  rw [Nat.and_or_distrib_left, e1, e2] at hm
  unfold put2N at hm
  have l1 : (w / 2 ^ 5 % 2 ^ 19) <<< 5 < 2 ^ 29 := by rw [Nat.shiftLeft_eq]; omega
  have l2 : (n / 4 % 524288).toNat <<< 5 < 2 ^ 29 := by rw [Nat.shiftLeft_eq]; omega
  rw [← Nat.shiftLeft_add_eq_or_of_lt l1, ← Nat.shiftLeft_add_eq_or_of_lt l2, Nat.shiftLeft_eq, Nat.shiftLeft_eq, Nat.shiftLeft_eq, Nat.shiftLeft_eq] at hm
  rw [Nat.shiftLeft_eq] at l1 l2
  unfold get2
  have a1 : and32 (Int.fdiv (w : Int) (2 ^ 5)) 524287 = ((w / 2 ^ 5 % 2 ^ 19 : Nat) : Int) := shr_and (k := 5) (b := 19) hw (by omega)
  have a2 : and32 (Int.fdiv (w : Int) (2 ^ 29)) 3 = ((w / 2 ^ 29 % 2 ^ 2 : Nat) : Int) := shr_and (k := 29) (b := 2) hw (by omega)
  have l3 : (w / 2 ^ 5 % 2 ^ 19) <<< 2 < 2 ^ 32 := by rw [Nat.shiftLeft_eq]; omega
  have l4 : w / 2 ^ 29 % 2 ^ 2 < 2 ^ 2 := Nat.mod_lt _ (by decide)
  rw [a1, a2, shl32_cast, Nat.mod_eq_of_lt l3, or32_cast l3 (by omega), ← Nat.shiftLeft_add_eq_or_of_lt l4, Nat.shiftLeft_eq, signed21]
  clear a1 a2 l3
  have l5 : w / 2 ^ 5 % 2 ^ 19 < 2 ^ 19 := Nat.mod_lt _ (by decide)
  generalize w / 2 ^ 5 % 2 ^ 19 = y at *
  generalize w / 2 ^ 29 % 2 ^ 2 = x at *
  clear hw e1 e2 l1 l2
  have hx : (x : Int) = n % 4 := by omega
  have hy : (y : Int) = n / 4 % 524288 := by omega
  have hs : ((y * 2 ^ 2 + x : Nat) : Int) = n % 2097152 := by omega
  rw [hs]
  unfold sgn
  omega

theorem get_mask {n : Int} {w : Nat} (hv : ofOk (u64N n) = true ∧ -9223372036854775808 ≤ n ∧ n < 9223372036854775808) (hw : w < 2 ^ 32) (hm : w &&& (8191 <<< 10) = put3N n) : get3 (w : Int) = n := by
  obtain ⟨h1, h2, h3⟩ := hv
  obtain ⟨r1, r2, r3, hb⟩ := of_back (u64N_lt n) h1
  have e1 : w &&& (8191 <<< 10) = (w / 2 ^ 10 % 2 ^ 13) <<< 10 := and_shift_mask w 10 13
  rw [e1] at hm
  unfold put3N at hm
  generalize ofVN (u64N n) = a at *
  generalize ofVR (u64N n) = b at *
  generalize ofVS (u64N n) = c at *
  have l1 : b.toNat <<< 16 < 2 ^ 22 := by rw [Nat.shiftLeft_eq]; omega
  have l2 : c.toNat <<< 10 < 2 ^ 16 := by rw [Nat.shiftLeft_eq]; omega
  have e3 : b.toNat <<< 16 ||| c.toNat <<< 10 = b.toNat * 2 ^ 16 + c.toNat * 2 ^ 10 := by
    rw [← Nat.shiftLeft_add_eq_or_of_lt l2, Nat.shiftLeft_eq, Nat.shiftLeft_eq]
  have l3 : b.toNat <<< 16 ||| c.toNat <<< 10 < 2 ^ 22 := by rw [e3]; omega
  rw [Nat.or_assoc, ← Nat.shiftLeft_add_eq_or_of_lt l3, e3, Nat.shiftLeft_eq, Nat.shiftLeft_eq] at hm
  unfold get3
  have a1 : and32 (Int.fdiv (w : Int) (2 ^ 22)) 1 = ((w / 2 ^ 22 % 2 ^ 1 : Nat) : Int) := shr_and (k := 22) (b := 1) hw (by omega)
  have a2 : and32 (Int.fdiv (w : Int) (2 ^ 16)) 63 = ((w / 2 ^ 16 % 2 ^ 6 : Nat) : Int) := shr_and (k := 16) (b := 6) hw (by omega)
  have a3 : and32 (Int.fdiv (w : Int) (2 ^ 10)) 63 = ((w / 2 ^ 10 % 2 ^ 6 : Nat) : Int) := shr_and (k := 10) (b := 6) hw (by omega)
  have b1 : ((w / 2 ^ 22 % 2 ^ 1 : Nat) : Int) = a := by omega
  have b2 : ((w / 2 ^ 16 % 2 ^ 6 : Nat) : Int) = b := by omega
  have b3 : ((w / 2 ^ 10 % 2 ^ 6 : Nat) : Int) = c := by omega
  rw [a1, a2, a3, b1, b2, b3, wrap_i64 (n := a) (by omega) (by omega), wrap_i64 (n := b) (by omega) (by omega), wrap_i64 (n := c) (by omega) (by omega), hb]
  have hm64 := u64N_lt n
  have h : IntKind.wrap .i64 ((u64N n : Nat) : Int) = if ((u64N n : Nat) : Int) % 18446744073709551616 ≥ 9223372036854775808 then ((u64N n : Nat) : Int) % 18446744073709551616 - 18446744073709551616 else ((u64N n : Nat) : Int) % 18446744073709551616 := by
    simp [IntKind.wrap, IntKind.bits, IntKind.signed]
  rw [h]
  have hu : ((u64N n : Nat) : Int) = n % 18446744073709551616 := by
    unfold u64N
    rw [wrap_u64]
    omega
  rw [hu]
  split <;> omega

/-- What bears the number gives it. -/
theorem get_put {f : NumT} (hf : numFine f = true) {n : Int} (hv : NOk f n) {w : Nat} (hw : w < 2 ^ 32) (hm : w &&& fMask f = putN f n) : getF f (w : Int) = n := by
  obtain ⟨v1, v2, v3⟩ := hv
  rcases num_cases hf with h | h | h | P
  · subst h
    exact (v1 rfl).symm
  · subst h
    obtain ⟨g1, g2, _⟩ := v2 (.inl rfl)
    exact get_apart g1 g2 hw hm
  · subst h
    exact get_mask (v3 rfl) hw hm
  · have hk : (f.2.2.1 == 1) = true := by rw [P.kind]; rfl
    unfold getF
    rw [hk, cond_true]
    refine get_plain P (v2 (.inr P.kind)) hw ?_
    unfold fMask putN at hm
    rw [hk, cond_true, cond_true, and_shift_mask] at hm
    exact shl_inj hm

end Go.Arm
