/-
  Fields, plainly: what is put is got again. Conditions: none.
-/
import Derived.Test.YtffamklolgjjdaaAr12
import Derived.Test.YtffamklolgjjdaaAr14
namespace Go.Arm
open Go Go.Ab Go.Proofs Go.Wd

def plainOk (f : NumT) : Bool :=
  (decide (0 ≤ f.1) && (decide (1 ≤ f.2.1) && (decide (f.2.1 ≤ 31) && (decide (f.1 + f.2.1 ≤ 32) && (f.2.2.2.1 == 1 || (f.2.2.2.1 == 2 || (f.2.2.2.1 == 4 || f.2.2.2.1 == 8))))))) &&
  ((decide (0 ≤ f.2.2.2.2.2) && decide (f.2.2.2.2.2 < 2147483648)) && (decide (-2147483648 ≤ f.2.2.2.2.1) && cond (decide (f.2.2.2.2.1 < 0))
    ((f.2.1 == 7 || (f.2.1 == 19 || f.2.1 == 26)) && (f.2.2.2.2.1 == -(2 ^ (f.2.1.toNat - 1) * f.2.2.2.1) && decide (f.2.2.2.2.2 ≤ (2 ^ (f.2.1.toNat - 1) - 1) * f.2.2.2.1)))
    (f.2.2.2.2.1 == 0 && decide (f.2.2.2.2.2 ≤ (2 ^ f.2.1.toNat - 1) * f.2.2.2.1))))
def zeroN : NumT := (0, 0, 0, 0, 0, 0)
def aparN : NumT := (0, 0, 2, 1, -1048576, 1048575)
def maskNm : NumT := (0, 0, 3, 0, 0, 0)
def numFine (f : NumT) : Bool := decide (f = zeroN) || (decide (f = aparN) || (decide (f = maskNm) || ((f.2.2.1 == 1) && plainOk f)))

/-- The bits that a field has. -/
def fMask (f : NumT) : Nat := cond (f.2.2.1 == 1) ((2 ^ f.2.1.toNat - 1) <<< f.1.toNat) (cond (f.2.2.1 == 2) ((3 <<< 29) ||| (524287 <<< 5)) (cond (f.2.2.1 == 3) (8191 <<< 10) 0))

structure Plain (f : NumT) (at_ bi : Nat) (by_ : Int) : Prop where
  kind : f.2.2.1 = 1
  eAt : f.1 = (at_ : Int)
  eBi : f.2.1 = (bi : Int)
  eBy : f.2.2.2.1 = by_
  bi1 : 1 ≤ bi
  bi31 : bi ≤ 31
  at32 : at_ + bi ≤ 32
  byC : by_ = 1 ∨ by_ = 2 ∨ by_ = 4 ∨ by_ = 8
  hi : f.2.2.2.2.2 < 2147483648
  hi0 : 0 ≤ f.2.2.2.2.2
  lo : -2147483648 ≤ f.2.2.2.2.1
  rng : (f.2.2.2.2.1 < 0 ∧ (bi = 7 ∨ bi = 19 ∨ bi = 26) ∧ f.2.2.2.2.1 = -(2 ^ (bi - 1) * by_) ∧ f.2.2.2.2.2 ≤ (2 ^ (bi - 1) - 1) * by_) ∨ (f.2.2.2.2.1 = 0 ∧ f.2.2.2.2.2 ≤ (2 ^ bi - 1) * by_)

theorem plain_of {f : NumT} (hk : f.2.2.1 = 1) (h : plainOk f = true) : Plain f f.1.toNat f.2.1.toNat f.2.2.2.1 := by
  simp only [plainOk, Bool.and_eq_true, decide_eq_true_eq, Bool.or_eq_true, beq_iff_eq] at h
  obtain ⟨⟨h1, h2, h3, h4, h5⟩, ⟨h60, h6⟩, h7, h8⟩ := h
  refine ⟨hk, by omega, by omega, rfl, by omega, by omega, by omega, h5, h6, h60, h7, ?_⟩
  cases hl : decide (f.2.2.2.2.1 < 0)
  · rw [hl] at h8
    simp only [cond_false, Bool.and_eq_true, beq_iff_eq, decide_eq_true_eq] at h8
    exact .inr h8
  · rw [hl] at h8
    simp only [cond_true, Bool.and_eq_true, Bool.or_eq_true, beq_iff_eq, decide_eq_true_eq] at h8
    obtain ⟨g1, g2, g3⟩ := h8
    exact .inl ⟨of_decide_eq_true hl, by omega, g2, g3⟩

theorem num_cases {f : NumT} (h : numFine f = true) : f = zeroN ∨ f = aparN ∨ f = maskNm ∨ Plain f f.1.toNat f.2.1.toNat f.2.2.2.1 := by
  simp only [numFine, Bool.or_eq_true, Bool.and_eq_true, decide_eq_true_eq, beq_iff_eq] at h
  rcases h with h | h | h | ⟨h1, h2⟩
  · exact .inl h
  · exact .inr (.inl h)
  · exact .inr (.inr (.inl h))
  · exact .inr (.inr (.inr (plain_of h1 h2)))

/-! What is put. -/

theorem wrap_i64_u32 (x : Int) : IntKind.wrap .u32 (IntKind.wrap .i64 x) = x % 4294967296 := by
  have h : IntKind.wrap .i64 x = if x % 18446744073709551616 ≥ 9223372036854775808 then x % 18446744073709551616 - 18446744073709551616 else x % 18446744073709551616 := by
    simp [IntKind.wrap, IntKind.bits, IntKind.signed]
  rw [wrap_u32, h]
  split <;> omega

theorem maskB_cast {bi : Nat} (h : bi ≤ 31) : maskB (bi : Int) = ((2 ^ bi - 1 : Nat) : Int) := by
  unfold maskB
  have hp : (2 : Nat) ^ bi < 2 ^ 32 := Nat.pow_lt_pow_right (by omega) (by omega)
  have hp0 : (0 : Nat) < 2 ^ bi := Nat.two_pow_pos bi
  have e : Min.min bi 32 = bi := by omega
  rw [Int.toNat_natCast, e, Int.one_mul, pow_cast, wrap_u32, wrap_u32]
  omega

theorem and_maskB {x : Int} {bi : Nat} (h : bi ≤ 31) : and32 (x % 4294967296) (maskB (bi : Int)) = x % ((2 ^ bi : Nat) : Int) := by
  have hp : (2 : Nat) ^ bi < 2 ^ 32 := Nat.pow_lt_pow_right (by omega) (by omega)
  have hp0 : (0 : Nat) < 2 ^ bi := Nat.two_pow_pos bi
  rw [maskB_cast h]
  obtain ⟨y, hy⟩ := Int.eq_ofNat_of_zero_le (show 0 ≤ x % 4294967296 by omega)
  rw [hy, and32_cast (by omega) (by omega), Nat.and_two_pow_sub_one_eq_mod]
  rw [Int.natCast_emod, ← hy, Int.emod_emod_of_dvd]
  refine ⟨((2 ^ (32 - bi) : Nat) : Int), ?_⟩
  rw [← Int.natCast_mul, ← Nat.pow_add, show bi + (32 - bi) = 32 from by omega]
  rfl

/-- The number that a plain field bears. -/
def p1 (f : NumT) (n : Int) : Nat := (Int.tdiv n f.2.2.2.1 % ((2 ^ f.2.1.toNat : Nat) : Int)).toNat
theorem p1_lt (f : NumT) (n : Int) : p1 f n < 2 ^ f.2.1.toNat := by
  have hp0 : (0 : Nat) < 2 ^ f.2.1.toNat := Nat.two_pow_pos _
  unfold p1
  have h1 := Int.emod_lt_of_pos (Int.tdiv n f.2.2.2.1) (show (0 : Int) < ((2 ^ f.2.1.toNat : Nat) : Int) by omega)
  have h2 := Int.emod_nonneg (Int.tdiv n f.2.2.2.1) (show ((2 ^ f.2.1.toNat : Nat) : Int) ≠ 0 by omega)
  omega
theorem p1_int (f : NumT) (n : Int) : ((p1 f n : Nat) : Int) = Int.tdiv n f.2.2.2.1 % ((2 ^ f.2.1.toNat : Nat) : Int) := by
  have hp0 : (0 : Nat) < 2 ^ f.2.1.toNat := Nat.two_pow_pos _
  have h2 := Int.emod_nonneg (Int.tdiv n f.2.2.2.1) (show ((2 ^ f.2.1.toNat : Nat) : Int) ≠ 0 by omega)
  unfold p1
  omega

theorem shl_lt {p k b : Nat} (hp : p < 2 ^ b) (h : k + b ≤ 32) : p <<< k < 2 ^ 32 := by
  rw [Nat.shiftLeft_eq]
  have h1 := Nat.mul_lt_mul_of_pos_right hp (Nat.two_pow_pos k)
  rw [← Nat.pow_add] at h1
  have : (2 : Nat) ^ (b + k) ≤ 2 ^ 32 := Nat.pow_le_pow_right (by omega) (by omega)
  omega

theorem put1_nat {f : NumT} {at_ bi : Nat} {by_ : Int} (P : Plain f at_ bi by_) (n : Int) : put1 f n = ((p1 f n <<< at_ : Nat) : Int) ∧ p1 f n <<< at_ < 2 ^ 32 := by
  have hl := p1_lt f n
  have hi := p1_int f n
  rw [P.eBi, Int.toNat_natCast] at hl hi
  have hs := shl_lt hl P.at32
  refine ⟨?_, hs⟩
  unfold put1
  have hb : IntKind.wrap .i64 by_ = by_ := by
    rcases P.byC with h | h | h | h <;> rw [h] <;> decide
  rw [P.eBi, P.eAt, P.eBy, hb, wrap_i64_u32, and_maskB P.bi31]
  rw [P.eBy] at hi
  rw [← hi, Int.toNat_natCast, show Min.min at_ 32 = at_ from by have := P.at32; omega, shl32_cast, Nat.mod_eq_of_lt hs]

def put2N (n : Int) : Nat := ((n % 4).toNat <<< 29) ||| ((n / 4 % 524288).toNat <<< 5)
theorem put2_nat (n : Int) : put2 n = ((put2N n : Nat) : Int) := by
  have e1 : and32 (IntKind.wrap .u32 n) 3 = (((n % 4).toNat : Nat) : Int) := by
    have := and_maskB (x := n) (bi := 2) (by omega)
    rw [maskB_cast (by omega)] at this
    rw [wrap_u32]
    refine this.trans ?_
    show n % 4 = _
    omega
  have e2 : and32 (IntKind.wrap .u32 (Int.fdiv n (2 ^ 2))) 524287 = (((n / 4 % 524288).toNat : Nat) : Int) := by
    have := and_maskB (x := Int.fdiv n (2 ^ 2)) (bi := 19) (by omega)
    rw [maskB_cast (by omega)] at this
    rw [wrap_u32]
    refine this.trans ?_
    rw [Int.fdiv_eq_ediv_of_nonneg _ (by decide)]
    show n / 4 % 524288 = _
    omega
  have l1 : (n % 4).toNat <<< 29 < 2 ^ 32 := shl_lt (b := 2) (by omega) (by omega)
  have l2 : (n / 4 % 524288).toNat <<< 5 < 2 ^ 32 := shl_lt (b := 19) (by omega) (by omega)
  unfold put2 put2N
  rw [e1, e2, shl32_cast, shl32_cast, Nat.mod_eq_of_lt l1, Nat.mod_eq_of_lt l2, or32_cast l1 l2]

theorem of_rng {m : Nat} (hm : m < 2 ^ 64) : (0 ≤ ofVN m ∧ ofVN m ≤ 1) ∧ (0 ≤ ofVR m ∧ ofVR m ≤ 63) ∧ (0 ≤ ofVS m ∧ ofVS m ≤ 63) := by
  cases h : ofOk m
  · have hn : ofFind m = none := by
      unfold ofOk at h
      cases hf : ofFind m with
      | none => rfl
      | some r => rw [hf] at h; cases h
    unfold ofVN ofVR ofVS
    rw [h, hn]
    show ((0 : Int) ≤ 0 ∧ (0 : Int) ≤ 1) ∧ ((0 : Int) ≤ 0 ∧ (0 : Int) ≤ 63) ∧ ((0 : Int) ≤ 0 ∧ (0 : Int) ≤ 63)
    omega
  · obtain ⟨h1, h2, h3, _⟩ := of_back hm h
    exact ⟨h1, h2, h3⟩

theorem u64N_lt (n : Int) : u64N n < 2 ^ 64 := by
  unfold u64N
  rw [wrap_u64]
  omega

def put3N (n : Int) : Nat := (((ofVN (u64N n)).toNat <<< 22) ||| ((ofVR (u64N n)).toNat <<< 16)) ||| ((ofVS (u64N n)).toNat <<< 10)
theorem put3_nat (n : Int) : put3 n = ((put3N n : Nat) : Int) := by
  obtain ⟨h1, h2, h3⟩ := of_rng (u64N_lt n)
  unfold put3 put3N
  have l1 : (ofVN (u64N n)).toNat <<< 22 < 2 ^ 32 := shl_lt (b := 1) (by omega) (by omega)
  have l2 : (ofVR (u64N n)).toNat <<< 16 < 2 ^ 32 := shl_lt (b := 6) (by omega) (by omega)
  have l3 : (ofVS (u64N n)).toNat <<< 10 < 2 ^ 32 := shl_lt (b := 6) (by omega) (by omega)
  have s : ∀ {x : Int} {k : Nat}, 0 ≤ x → x ≤ 63 → x.toNat <<< k < 2 ^ 32 → IntKind.wrap .u32 (IntKind.wrap .u32 x * 2 ^ k) = ((x.toNat <<< k : Nat) : Int) := by
    intro x k h0 h1 hk
    have : IntKind.wrap .u32 x = ((x.toNat : Nat) : Int) := by rw [wrap_u32]; omega
    rw [this, shl32_cast, Nat.mod_eq_of_lt hk]
  rw [s h1.1 (by omega) l1, s h2.1 h2.2 l2, s h3.1 h3.2 l3, or32_cast l1 l2, or32_cast (Nat.or_lt_two_pow l1 l2) l3]

def putN (f : NumT) (n : Int) : Nat := cond (f.2.2.1 == 1) (p1 f n <<< f.1.toNat) (cond (f.2.2.1 == 2) (put2N n) (cond (f.2.2.1 == 3) (put3N n) 0))

theorem put_nat {f : NumT} (h : numFine f = true) (n : Int) : putF f n = ((putN f n : Nat) : Int) ∧ InMask (putN f n) (fMask f) ∧ putN f n < 2 ^ 32 := by
  rcases num_cases h with h | h | h | P
  · subst h
    exact ⟨rfl, InMask.zero _, Nat.two_pow_pos 32⟩
  · subst h
    refine ⟨put2_nat n, ?_, ?_⟩
    · show InMask (put2N n) ((3 <<< 29) ||| (524287 <<< 5))
      unfold put2N
      refine InMask.or ?_ ?_
      · exact (inMask_shift (b := 2) (by omega)).wider (by decide)
      · exact (inMask_shift (b := 19) (by omega)).wider (by decide)
    · exact Nat.or_lt_two_pow (shl_lt (b := 2) (by omega) (by omega)) (shl_lt (b := 19) (by omega) (by omega))
  · subst h
    obtain ⟨h1, h2, h3⟩ := of_rng (u64N_lt n)
    refine ⟨put3_nat n, ?_, ?_⟩
    · show InMask (put3N n) (8191 <<< 10)
      unfold put3N
      refine InMask.or (InMask.or ?_ ?_) ?_
      · exact (inMask_shift (b := 1) (by omega)).wider (by decide)
      · exact (inMask_shift (b := 6) (by omega)).wider (by decide)
      · exact (inMask_shift (b := 6) (by omega)).wider (by decide)
    · exact Nat.or_lt_two_pow (Nat.or_lt_two_pow (shl_lt (b := 1) (by omega) (by omega)) (shl_lt (b := 6) (by omega) (by omega))) (shl_lt (b := 6) (by omega) (by omega))
  · have hk : (f.2.2.1 == 1) = true := by rw [P.kind]; rfl
    unfold putF putN fMask
    rw [hk, cond_true, cond_true, cond_true]
    obtain ⟨e, l⟩ := put1_nat P n
    exact ⟨e, inMask_shift (p1_lt f n), l⟩

end Go.Arm
