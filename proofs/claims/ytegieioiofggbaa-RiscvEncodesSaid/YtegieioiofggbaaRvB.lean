/-
  Bits of words: or, parts, bytes. Conditions: none.
-/
import Derived.Test.YtegieioiofggbaaRv8
namespace Go.Rv
open Go Go.Ab

/-- A word with no bits between two places. -/
structure Off (w : Int) (lo hi : Nat) : Prop where
  pos : 0 ≤ w
  lt : w < 4294967296
  bits : ∀ j, lo ≤ j → j < hi → w.toNat.testBit j = false

theorem wrap_u32 (n : Int) : IntKind.wrap .u32 n = n % 4294967296 := by
  simp [IntKind.wrap, IntKind.bits, IntKind.signed]

theorem wrap_u64 (n : Int) : IntKind.wrap .u64 n = n % 18446744073709551616 := by
  simp [IntKind.wrap, IntKind.bits, IntKind.signed]

theorem wrap_u8 (n : Int) : IntKind.wrap .u8 n = n % 256 := by
  simp [IntKind.wrap, IntKind.bits, IntKind.signed]

theorem ofInt32_toNat {a : Int} (h0 : 0 ≤ a) (h1 : a < 4294967296) : (BitVec.ofInt 32 a).toNat = a.toNat := by
  rw [BitVec.toNat_ofInt]
  have : ((2 ^ 32 : Nat) : Int) = 4294967296 := rfl
  rw [this, Int.emod_eq_of_lt h0 h1]

theorem or32_nat {a b : Int} (ha : 0 ≤ a) (ha' : a < 4294967296) (hb : 0 ≤ b) (hb' : b < 4294967296) : or32 a b = ((a.toNat ||| b.toNat : Nat) : Int) := by
  unfold or32
  rw [wrap_u32, BitVec.toNat_or, ofInt32_toNat ha ha', ofInt32_toNat hb hb']
  have : a.toNat ||| b.toNat < 2 ^ 32 := Nat.or_lt_two_pow (by omega) (by omega)
  omega

theorem Off.or {a b : Int} {lo hi : Nat} (ha : Off a lo hi) (hb : Off b lo hi) : Off (or32 a b) lo hi := by
  have e := or32_nat ha.pos ha.lt hb.pos hb.lt
  have hl : a.toNat ||| b.toNat < 2 ^ 32 := Nat.or_lt_two_pow (by have := ha.lt; have := ha.pos; omega) (by have := hb.lt; have := hb.pos; omega)
  refine ⟨by rw [e]; omega, by rw [e]; omega, fun j h1 h2 => ?_⟩
  rw [e, Int.toNat_natCast, Nat.testBit_or, ha.bits j h1 h2, hb.bits j h1 h2]
  rfl

theorem Off.zero (lo hi : Nat) : Off 0 lo hi := ⟨by omega, by omega, fun j _ _ => by simp⟩

/-- The bits that a part has, unshifted. -/
def partN (n : Int) (fr bi : Nat) : Nat := ((Int.fdiv n (2 ^ fr)) % 4294967296).toNat % 2 ^ bi

theorem partN_lt (n : Int) (fr bi : Nat) : partN n fr bi < 2 ^ bi := Nat.mod_lt _ (Nat.two_pow_pos bi)

theorem part_eq (n : Int) {fr bi at_ : Nat} (h1 : fr ≤ 64) (h2 : at_ + bi ≤ 32) (h3 : bi < 32) : partF n fr bi at_ = ((partN n fr bi <<< at_ : Nat) : Int) := by
  unfold partF
  have e1 : Min.min (Int.toNat (fr : Int)) 64 = fr := by rw [Int.toNat_natCast]; omega
  have e2 : Min.min (Int.toNat (bi : Int)) 32 = bi := by rw [Int.toNat_natCast]; omega
  have e3 : Min.min (Int.toNat (at_ : Int)) 32 = at_ := by rw [Int.toNat_natCast]; omega
  rw [e1, e2, e3]
  have hp : (0 : Nat) < 2 ^ bi := Nat.two_pow_pos bi
  have hb : (2 : Nat) ^ bi < 4294967296 := by
    have := Nat.pow_lt_pow_right (a := 2) (by omega) h3
    simpa using this
  have hb' : ((2 : Int) ^ bi) = ((2 ^ bi : Nat) : Int) := by simp
  have m1 : IntKind.wrap .u32 (IntKind.wrap .u32 (1 * 2 ^ bi) - 1) = ((2 ^ bi - 1 : Nat) : Int) := by
    rw [wrap_u32, wrap_u32, Int.one_mul, hb']
    omega
  rw [m1, wrap_u32, wrap_u32, wrap_u32, BitVec.toNat_and, ofInt32_toNat (by omega) (by omega), ofInt32_toNat (by omega) (by omega), Int.toNat_natCast, Nat.and_two_pow_sub_one_eq_mod]
  have hl := partN_lt n fr bi
  unfold partN at hl ⊢
  generalize (n.fdiv (2 ^ fr) % 4294967296).toNat % 2 ^ bi = p at hl ⊢
  have hp2 : p * 2 ^ at_ < 4294967296 := by
    have h := Nat.mul_lt_mul_of_pos_right hl (Nat.two_pow_pos at_)
    rw [← Nat.pow_add] at h
    have : (2 : Nat) ^ (bi + at_) ≤ 2 ^ 32 := Nat.pow_le_pow_right (by omega) (by omega)
    omega
  rw [Nat.shiftLeft_eq]
  have hat : ((2 : Int) ^ at_) = ((2 ^ at_ : Nat) : Int) := by simp
  have hp3 : (p : Int) % 4294967296 = p := by
    have : p < 4294967296 := by omega
    omega
  rw [hat, hp3, ← Int.natCast_mul]
  omega

theorem part_off (n : Int) {fr bi at_ lo hi : Nat} (h1 : fr ≤ 64) (h2 : at_ + bi ≤ 32) (h3 : bi < 32) (h4 : hi ≤ at_ ∨ at_ + bi ≤ lo) : Off (partF n fr bi at_) lo hi := by
  rw [part_eq n h1 h2 h3]
  have hl := partN_lt n fr bi
  have hs : partN n fr bi <<< at_ < 2 ^ 32 := by
    rw [Nat.shiftLeft_eq]
    have h := Nat.mul_lt_mul_of_pos_right hl (Nat.two_pow_pos at_)
    rw [← Nat.pow_add] at h
    have : (2 : Nat) ^ (bi + at_) ≤ 2 ^ 32 := Nat.pow_le_pow_right (by omega) (by omega)
    omega
  refine ⟨Int.natCast_nonneg _, by omega, fun j g1 g2 => ?_⟩
  rw [Int.toNat_natCast, Nat.testBit_shiftLeft]
  rcases h4 with h4 | h4
  · have : ¬ at_ ≤ j := by omega
    simp [this]
  · have : partN n fr bi < 2 ^ (j - at_) := Nat.lt_of_lt_of_le hl (Nat.pow_le_pow_right (by omega) (by omega))
    simp [Nat.testBit_lt_two_pow this]

/-! What the table's rows have. -/

def rowFine (r : RowT) : Bool :=
  decide (0 ≤ r.2.2) && (decide (r.2.2 < 4294967296) && ((!uA r.2.1 || Nat.beq (r.2.2.toNat &&& (31 <<< 7)) 0) && ((!uB r.2.1 || Nat.beq (r.2.2.toNat &&& (31 <<< 15)) 0) && ((!uC r.2.1 || Nat.beq (r.2.2.toNat &&& (31 <<< 20)) 0)
    && (decide (0 ≤ r.2.1) && decide (r.2.1 ≤ 8))))))

theorem rows_fine : rowsL.all rowFine = true := by kernel_rfl

theorem off_of_mask {w : Int} {k : Nat} (h0 : 0 ≤ w) (h1 : w < 4294967296) (h : w.toNat &&& (31 <<< k) = 0) : Off w k (k + 5) := by
  refine ⟨h0, h1, fun j g1 g2 => ?_⟩
  have := congrArg (fun n => Nat.testBit n j) h
  simp only [Nat.testBit_and, Nat.zero_testBit, Nat.testBit_shiftLeft] at this
  have hj : j - k = 0 ∨ j - k = 1 ∨ j - k = 2 ∨ j - k = 3 ∨ j - k = 4 := by omega
  have hm : Nat.testBit 31 (j - k) = true := by rcases hj with h | h | h | h | h <;> rw [h] <;> rfl
  simpa [hm, g1] using this

theorem row_off {r : RowT} (h : rowFine r = true) : (0 ≤ r.2.2 ∧ r.2.2 < 4294967296) ∧ (uA r.2.1 = true → Off r.2.2 7 12) ∧ (uB r.2.1 = true → Off r.2.2 15 20) ∧ (uC r.2.1 = true → Off r.2.2 20 25) ∧ 0 ≤ r.2.1 ∧ r.2.1 ≤ 8 := by
  simp only [rowFine, Bool.and_eq_true, decide_eq_true_eq, Bool.or_eq_true, Bool.not_eq_true'] at h
  obtain ⟨h0, h1, h2, h3, h4, h5, h6⟩ := h
  refine ⟨⟨h0, h1⟩, fun h => ?_, fun h => ?_, fun h => ?_, h5, h6⟩
  · rcases h2 with h2 | h2
    · rw [h] at h2; cases h2
    · exact off_of_mask (k := 7) h0 h1 (Nat.eq_of_beq_eq_true h2)
  · rcases h3 with h3 | h3
    · rw [h] at h3; cases h3
    · exact off_of_mask (k := 15) h0 h1 (Nat.eq_of_beq_eq_true h3)
  · rcases h4 with h4 | h4
    · rw [h] at h4; cases h4
    · exact off_of_mask (k := 20) h0 h1 (Nat.eq_of_beq_eq_true h4)

/-! Which bits an Imm has. -/

theorem form_cases {f : Int} (h0 : 0 ≤ f) (h8 : f ≤ 8) : f = 0 ∨ f = 1 ∨ f = 2 ∨ f = 3 ∨ f = 4 ∨ f = 5 ∨ f = 6 ∨ f = 7 ∨ f = 8 := by omega

theorem imm_off (f n : Int) (h0 : 0 ≤ f) (h8 : f ≤ 8) : (uA f = true → Off (immF f n) 7 12) ∧ (uB f = true → Off (immF f n) 15 20) ∧ (uC f = true → Off (immF f n) 20 25) := by
  rcases form_cases h0 h8 with h | h | h | h | h | h | h | h | h <;> subst h
  · exact ⟨fun _ => .zero _ _, fun _ => .zero _ _, fun _ => .zero _ _⟩
  · exact ⟨fun _ => part_off n (fr := 0) (bi := 12) (at_ := 20) (by omega) (by omega) (by omega) (by omega), fun _ => part_off n (fr := 0) (bi := 12) (at_ := 20) (by omega) (by omega) (by omega) (by omega), fun h => Bool.noConfusion h⟩
  · exact ⟨fun _ => part_off n (fr := 0) (bi := 6) (at_ := 20) (by omega) (by omega) (by omega) (by omega), fun _ => part_off n (fr := 0) (bi := 6) (at_ := 20) (by omega) (by omega) (by omega) (by omega), fun h => Bool.noConfusion h⟩
  · exact ⟨fun _ => part_off n (fr := 0) (bi := 6) (at_ := 20) (by omega) (by omega) (by omega) (by omega), fun _ => part_off n (fr := 0) (bi := 6) (at_ := 20) (by omega) (by omega) (by omega) (by omega), fun h => Bool.noConfusion h⟩
  · refine ⟨fun h => Bool.noConfusion h, fun _ => ?_, fun _ => ?_⟩
    · exact .or (part_off n (fr := 0) (bi := 5) (at_ := 7) (by omega) (by omega) (by omega) (by omega)) (part_off n (fr := 5) (bi := 7) (at_ := 25) (by omega) (by omega) (by omega) (by omega))
    · exact .or (part_off n (fr := 0) (bi := 5) (at_ := 7) (by omega) (by omega) (by omega) (by omega)) (part_off n (fr := 5) (bi := 7) (at_ := 25) (by omega) (by omega) (by omega) (by omega))
  · refine ⟨fun h => Bool.noConfusion h, fun _ => ?_, fun _ => ?_⟩
    · exact .or (.or (.or (part_off n (fr := 1) (bi := 4) (at_ := 8) (by omega) (by omega) (by omega) (by omega)) (part_off n (fr := 5) (bi := 6) (at_ := 25) (by omega) (by omega) (by omega) (by omega)))
        (part_off n (fr := 11) (bi := 1) (at_ := 7) (by omega) (by omega) (by omega) (by omega))) (part_off n (fr := 12) (bi := 1) (at_ := 31) (by omega) (by omega) (by omega) (by omega))
    · exact .or (.or (.or (part_off n (fr := 1) (bi := 4) (at_ := 8) (by omega) (by omega) (by omega) (by omega)) (part_off n (fr := 5) (bi := 6) (at_ := 25) (by omega) (by omega) (by omega) (by omega)))
        (part_off n (fr := 11) (bi := 1) (at_ := 7) (by omega) (by omega) (by omega) (by omega))) (part_off n (fr := 12) (bi := 1) (at_ := 31) (by omega) (by omega) (by omega) (by omega))
  · exact ⟨fun _ => part_off n (fr := 0) (bi := 20) (at_ := 12) (by omega) (by omega) (by omega) (by omega), fun h => Bool.noConfusion h, fun h => Bool.noConfusion h⟩
  · refine ⟨fun _ => ?_, fun h => Bool.noConfusion h, fun h => Bool.noConfusion h⟩
    exact .or (.or (.or (part_off n (fr := 1) (bi := 10) (at_ := 21) (by omega) (by omega) (by omega) (by omega)) (part_off n (fr := 11) (bi := 1) (at_ := 20) (by omega) (by omega) (by omega) (by omega)))
        (part_off n (fr := 12) (bi := 8) (at_ := 12) (by omega) (by omega) (by omega) (by omega))) (part_off n (fr := 20) (bi := 1) (at_ := 31) (by omega) (by omega) (by omega) (by omega))
  · exact ⟨fun h => Bool.noConfusion h, fun h => Bool.noConfusion h, fun h => Bool.noConfusion h⟩

theorem imm_rng (f n : Int) (h0 : 0 ≤ f) (h8 : f ≤ 8) : 0 ≤ immF f n ∧ immF f n < 4294967296 := by
  have key : Off (immF f n) 0 0 := by
    rcases form_cases h0 h8 with h | h | h | h | h | h | h | h | h <;> subst h
    · exact .zero _ _
    · exact part_off n (fr := 0) (bi := 12) (at_ := 20) (by omega) (by omega) (by omega) (by omega)
    · exact part_off n (fr := 0) (bi := 6) (at_ := 20) (by omega) (by omega) (by omega) (by omega)
    · exact part_off n (fr := 0) (bi := 6) (at_ := 20) (by omega) (by omega) (by omega) (by omega)
    · exact .or (part_off n (fr := 0) (bi := 5) (at_ := 7) (by omega) (by omega) (by omega) (by omega)) (part_off n (fr := 5) (bi := 7) (at_ := 25) (by omega) (by omega) (by omega) (by omega))
    · exact .or (.or (.or (part_off n (fr := 1) (bi := 4) (at_ := 8) (by omega) (by omega) (by omega) (by omega)) (part_off n (fr := 5) (bi := 6) (at_ := 25) (by omega) (by omega) (by omega) (by omega)))
        (part_off n (fr := 11) (bi := 1) (at_ := 7) (by omega) (by omega) (by omega) (by omega))) (part_off n (fr := 12) (bi := 1) (at_ := 31) (by omega) (by omega) (by omega) (by omega))
    · exact part_off n (fr := 0) (bi := 20) (at_ := 12) (by omega) (by omega) (by omega) (by omega)
    · exact .or (.or (.or (part_off n (fr := 1) (bi := 10) (at_ := 21) (by omega) (by omega) (by omega) (by omega)) (part_off n (fr := 11) (bi := 1) (at_ := 20) (by omega) (by omega) (by omega) (by omega)))
        (part_off n (fr := 12) (bi := 8) (at_ := 12) (by omega) (by omega) (by omega) (by omega))) (part_off n (fr := 20) (bi := 1) (at_ := 31) (by omega) (by omega) (by omega) (by omega))
    · exact .zero _ _
  exact ⟨key.pos, key.lt⟩

/-! A field of a word. -/

theorem testBit_small {a i : Nat} (ha : a < 32) (hi : 5 ≤ i) : a.testBit i = false :=
  Nat.testBit_lt_two_pow (Nat.lt_of_lt_of_le ha (Nat.pow_le_pow_right (n := 2) (by omega) hi : 2 ^ 5 ≤ 2 ^ i))

theorem testBit_31 {i : Nat} : (31 : Nat).testBit i = decide (i < 5) := by
  rw [show (31 : Nat) = 2 ^ 5 - 1 from rfl, Nat.testBit_two_pow_sub_one]

/-- Another number in a field changes its own bits alone. -/
theorem field_eq {r a x k : Nat} (hr : r < 2 ^ 32) (ho : ∀ j, k ≤ j → j < k + 5 → r.testBit j = false) (ha : a < 32) (hk : k + 5 ≤ 32) :
    ((r ||| a <<< k) &&& (2 ^ 64 - 1 - (31 <<< k))) ||| x <<< k = r ||| x <<< k := by
  apply Nat.eq_of_testBit_eq
  intro j
  have hm : 31 <<< k < 2 ^ 64 := by
    rw [Nat.shiftLeft_eq]
    have : (2 : Nat) ^ k ≤ 2 ^ 27 := Nat.pow_le_pow_right (by omega) (by omega)
    omega
  have e : 2 ^ 64 - 1 - (31 <<< k) = 2 ^ 64 - ((31 <<< k) + 1) := by omega
  rw [e]
  simp only [Nat.testBit_or, Nat.testBit_and, Nat.testBit_two_pow_sub_succ hm, Nat.testBit_shiftLeft, testBit_31]
  by_cases h1 : k ≤ j
  · by_cases h2 : j < k + 5
    · have h3 : j - k < 5 := by omega
      simp [h1, h3, ho j h1 h2]
    · have h3 : ¬ j - k < 5 := by omega
      have h4 : a.testBit (j - k) = false := testBit_small ha (by omega)
      by_cases h5 : j < 64
      · simp [h1, h3, h4, h5]
      · have h6 : r.testBit j = false := Nat.testBit_lt_two_pow (Nat.lt_of_lt_of_le hr (Nat.pow_le_pow_right (by omega) (by omega)))
        simp [h1, h3, h4, h5, h6]
  · have h5 : j < 64 := by omega
    simp [h1, h5]

end Go.Rv
