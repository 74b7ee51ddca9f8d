/-
  Laws of fields: a register changed in a word. Conditions: none.
-/
import Derived.Test.YtegieioiofggbaaRvB
namespace Go.Rv
open Go Go.Ab

theorem ofInt64_toNat {a : Int} (h0 : 0 ≤ a) (h1 : a < 18446744073709551616) : (BitVec.ofInt 64 a).toNat = a.toNat := by
  rw [BitVec.toNat_ofInt]
  have : ((2 ^ 64 : Nat) : Int) = 18446744073709551616 := rfl
  rw [this, Int.emod_eq_of_lt h0 h1]

theorem ofInt64_nat {m : Nat} (h : m < 2 ^ 32) : (BitVec.ofInt 64 (m : Int)).toNat = m := by
  rw [ofInt64_toNat (by omega) (by omega), Int.toNat_natCast]

theorem num_step {a b : Int} (ha : 0 ≤ a) (ha' : a < 72057594037927936) (hb : 0 ≤ b) (hb' : b < 256) :
    IntKind.wrap IntKind.u64 ↑(BitVec.toNat (BitVec.ofInt 64 (IntKind.wrap IntKind.u64 (a * 2 ^ 8)) ||| BitVec.ofInt 64 (IntKind.wrap IntKind.u64 b))) = a * 256 + b := by
  rw [wrap_u64, wrap_u64, wrap_u64, BitVec.toNat_or, ofInt64_toNat (by omega) (by omega), ofInt64_toNat (by omega) (by omega)]
  have e1 : (a * 2 ^ 8 % 18446744073709551616).toNat = 2 ^ 8 * a.toNat := by omega
  have e2 : (b % 18446744073709551616).toNat = b.toNat := by omega
  rw [e1, e2, ← Nat.two_pow_add_eq_or_of_lt (by omega) a.toNat]
  omega

theorem numL_bytes4 {w : Int} (h0 : 0 ≤ w) (h1 : w < 4294967296) : numL (bytes4 w) = w := by
  unfold bytes4
  simp only [numL, wrap_u8]
  have d : ∀ k : Nat, Int.fdiv w (2 ^ k) = w / 2 ^ k := fun k => Int.fdiv_eq_ediv_of_nonneg w (by have := Int.pow_pos (n := 2) (m := k) (by omega); omega)
  rw [d, d, d]
  rw [num_step (a := 0) (b := w / 2 ^ 24 % 256) (by omega) (by omega) (by omega) (by omega)]
  rw [num_step (a := 0 * 256 + w / 2 ^ 24 % 256) (b := w / 2 ^ 16 % 256) (by omega) (by omega) (by omega) (by omega)]
  rw [num_step (a := (0 * 256 + w / 2 ^ 24 % 256) * 256 + w / 2 ^ 16 % 256) (b := w / 2 ^ 8 % 256) (by omega) (by omega) (by omega) (by omega)]
  rw [num_step (b := w % 256) (by omega) (by omega) (by omega) (by omega)]
  omega

theorem nat_shift {a : Int} {k : Nat} (h0 : 0 ≤ a) (h1 : a < 32) (hk : k ≤ 27) : shl32 (IntKind.wrap .u32 a) k = ((a.toNat <<< k : Nat) : Int) := by
  unfold shl32
  rw [wrap_u32, wrap_u32, Nat.shiftLeft_eq]
  have hp : (2 : Nat) ^ k ≤ 2 ^ 27 := Nat.pow_le_pow_right (by omega) hk
  have he : ((2 : Int) ^ k) = ((2 ^ k : Nat) : Int) := by simp
  rw [he]
  have ha : a % 4294967296 = (a.toNat : Int) := by omega
  rw [ha, ← Int.natCast_mul]
  have : a.toNat * 2 ^ k < 4294967296 := by
    have : a.toNat * 2 ^ k ≤ 31 * 2 ^ 27 := Nat.mul_le_mul (by omega) hp
    omega
  omega

theorem shift_lt {a k : Nat} (h1 : a < 32) (hk : k ≤ 27) : a <<< k < 2 ^ 32 := by
  rw [Nat.shiftLeft_eq]
  have hp : (2 : Nat) ^ k ≤ 2 ^ 27 := Nat.pow_le_pow_right (by omega) hk
  have : a * 2 ^ k ≤ 31 * 2 ^ 27 := Nat.mul_le_mul (by omega) hp
  omega

/-- A word as a number without sign. -/
def wordN (f rw a b c n : Int) : Nat := (((rw.toNat ||| a.toNat <<< 7) ||| b.toNat <<< 15) ||| c.toNat <<< 20) ||| (immF f n).toNat

structure Regs (a b c : Int) : Prop where
  a0 : 0 ≤ a
  a1 : a < 32
  b0 : 0 ≤ b
  b1 : b < 32
  c0 : 0 ≤ c
  c1 : c < 32

theorem word_nat {f rw a b c n : Int} (hr0 : 0 ≤ rw) (hr1 : rw < 4294967296) (f0 : 0 ≤ f) (f8 : f ≤ 8) (g : Regs a b c) : wordF f rw a b c n = (wordN f rw a b c n : Int) ∧ wordN f rw a b c n < 2 ^ 32 := by
  obtain ⟨i0, i1⟩ := imm_rng f n f0 f8
  have hA := shift_lt (a := a.toNat) (k := 7) (by have := g.a1; omega) (by omega)
  have hB := shift_lt (a := b.toNat) (k := 15) (by have := g.b1; omega) (by omega)
  have hC := shift_lt (a := c.toNat) (k := 20) (by have := g.c1; omega) (by omega)
  have hR : rw.toNat < 2 ^ 32 := by omega
  have hI : (immF f n).toNat < 2 ^ 32 := by omega
  have h1 : rw.toNat ||| a.toNat <<< 7 < 2 ^ 32 := Nat.or_lt_two_pow hR hA
  have h2 : (rw.toNat ||| a.toNat <<< 7) ||| b.toNat <<< 15 < 2 ^ 32 := Nat.or_lt_two_pow h1 hB
  have h3 : ((rw.toNat ||| a.toNat <<< 7) ||| b.toNat <<< 15) ||| c.toNat <<< 20 < 2 ^ 32 := Nat.or_lt_two_pow h2 hC
  have h4 : (((rw.toNat ||| a.toNat <<< 7) ||| b.toNat <<< 15) ||| c.toNat <<< 20) ||| (immF f n).toNat < 2 ^ 32 := Nat.or_lt_two_pow h3 hI
  refine ⟨?_, h4⟩
  unfold wordF wordN
  rw [nat_shift g.a0 g.a1 (by omega), nat_shift g.b0 g.b1 (by omega), nat_shift g.c0 g.c1 (by omega)]
  rw [or32_nat (a := rw) (b := ((a.toNat <<< 7 : Nat) : Int)) hr0 hr1 (by omega) (by omega)]
  simp only [Int.toNat_natCast]
  rw [or32_nat (b := ((b.toNat <<< 15 : Nat) : Int)) (by omega) (by omega) (by omega) (by omega)]
  simp only [Int.toNat_natCast]
  rw [or32_nat (b := ((c.toNat <<< 20 : Nat) : Int)) (by omega) (by omega) (by omega) (by omega)]
  simp only [Int.toNat_natCast]
  rw [or32_nat (by omega) (by omega) i0 i1]
  simp only [Int.toNat_natCast]

theorem off_nat {w : Int} {lo hi j : Nat} (h : Off w lo hi) (h1 : lo ≤ j) (h2 : j < hi) : w.toNat.testBit j = false := h.bits j h1 h2

theorem shift_off {a k j : Nat} (h1 : a < 32) (h : j < k ∨ k + 5 ≤ j) : (a <<< k).testBit j = false := by
  rw [Nat.testBit_shiftLeft]
  rcases h with h | h
  · have : ¬ k ≤ j := by omega
    simp [this]
  · simp [testBit_small h1 (show 5 ≤ j - k by omega)]

/-- What the law's expression gives: the field's bits taken out, others put in. -/
def updF (m x : Int) (k : Nat) : Int :=
  IntKind.wrap IntKind.u64 ↑(BitVec.toNat (BitVec.ofInt 64 (IntKind.wrap IntKind.u64 ↑(BitVec.toNat (BitVec.ofInt 64 m &&& ~~~BitVec.ofInt 64 (IntKind.wrap IntKind.u64 (31 * 2 ^ k))))) ||| BitVec.ofInt 64 (IntKind.wrap IntKind.u64 (IntKind.wrap IntKind.u64 x * 2 ^ k))))

theorem upd_nat {m k : Nat} {x : Int} (hm : m < 2 ^ 32) (x0 : 0 ≤ x) (x1 : x < 32) (hk : k ≤ 27) : updF m x k = ((m &&& (2 ^ 64 - 1 - (31 <<< k))) ||| x.toNat <<< k : Nat) := by
  unfold updF
  have hp : (2 : Nat) ^ k ≤ 2 ^ 27 := Nat.pow_le_pow_right (by omega) hk
  have he : ((2 : Int) ^ k) = ((2 ^ k : Nat) : Int) := by simp
  have hA := shift_lt (a := x.toNat) (k := k) (by omega) hk
  have h31 := shift_lt (a := 31) (k := k) (by omega) hk
  have e1 : IntKind.wrap IntKind.u64 (31 * 2 ^ k) = ((31 <<< k : Nat) : Int) := by
    rw [wrap_u64, he, Nat.shiftLeft_eq]
    rw [Nat.shiftLeft_eq] at h31
    omega
  have e2 : IntKind.wrap IntKind.u64 (IntKind.wrap IntKind.u64 x * 2 ^ k) = ((x.toNat <<< k : Nat) : Int) := by
    rw [wrap_u64, wrap_u64, he, Nat.shiftLeft_eq]
    rw [Nat.shiftLeft_eq] at hA
    have hx : x % 18446744073709551616 = (x.toNat : Int) := by omega
    rw [hx, ← Int.natCast_mul]
    omega
  rw [e1, e2, wrap_u64, wrap_u64, BitVec.toNat_or, BitVec.toNat_and, BitVec.toNat_not]
  rw [ofInt64_nat hm, ofInt64_nat h31, ofInt64_nat hA]
  have h5 : m &&& (2 ^ 64 - 1 - 31 <<< k) < 2 ^ 32 := Nat.lt_of_le_of_lt Nat.and_le_left hm
  have e3 : ((m &&& (2 ^ 64 - 1 - 31 <<< k) : Nat) : Int) % (18446744073709551616 : Int) = ((m &&& (2 ^ 64 - 1 - 31 <<< k) : Nat) : Int) := by
    generalize m &&& (2 ^ 64 - 1 - 31 <<< k) = q at h5
    omega
  rw [e3, ofInt64_nat h5]
  have h6 : (m &&& (2 ^ 64 - 1 - 31 <<< k)) ||| x.toNat <<< k < 2 ^ 32 := Nat.or_lt_two_pow h5 hA
  generalize (m &&& (2 ^ 64 - 1 - (31 <<< k))) ||| x.toNat <<< k = q at h6
  omega

theorem upd_field {r a k : Nat} {x : Int} (hr : r < 2 ^ 32) (ho : ∀ j, k ≤ j → j < k + 5 → r.testBit j = false) (ha : a < 32) (x0 : 0 ≤ x) (x1 : x < 32) (hk : k ≤ 27) :
    updF ((r ||| a <<< k : Nat) : Int) x k = ((r ||| x.toNat <<< k : Nat) : Int) := by
  rw [upd_nat (Nat.or_lt_two_pow hr (shift_lt ha hk)) x0 x1 hk, field_eq hr ho ha (by omega)]

theorem or_move1 (r p q s i : Nat) : (((r ||| p) ||| q) ||| s) ||| i = (((r ||| q) ||| s) ||| i) ||| p := by
  rw [Nat.or_assoc r p q, Nat.or_comm p q, ← Nat.or_assoc r q p, Nat.or_assoc (r ||| q) p s, Nat.or_comm p s, ← Nat.or_assoc (r ||| q) s p, Nat.or_assoc (r ||| q ||| s) p i, Nat.or_comm p i, ← Nat.or_assoc]
theorem or_move2 (r p q s i : Nat) : (((r ||| p) ||| q) ||| s) ||| i = (((r ||| p) ||| s) ||| i) ||| q := by
  rw [Nat.or_assoc (r ||| p) q s, Nat.or_comm q s, ← Nat.or_assoc (r ||| p) s q, Nat.or_assoc (r ||| p ||| s) q i, Nat.or_comm q i, ← Nat.or_assoc]
theorem or_move3 (r p q s i : Nat) : (((r ||| p) ||| q) ||| s) ||| i = (((r ||| p) ||| q) ||| i) ||| s := by
  rw [Nat.or_assoc (r ||| p ||| q) s i, Nat.or_comm s i, ← Nat.or_assoc]

section
variable {f rw a b c n x : Int}

theorem word_A (hr0 : 0 ≤ rw) (hr1 : rw < 4294967296) (f0 : 0 ≤ f) (f8 : f ≤ 8) (g : Regs a b c) (hw : Off rw 7 12) (hi : Off (immF f n) 7 12) (x0 : 0 ≤ x) (x1 : x < 32) :
    updF (wordF f rw a b c n) x 7 = wordF f rw x b c n := by
  obtain ⟨e1, l1⟩ := word_nat (n := n) hr0 hr1 f0 f8 g
  obtain ⟨e2, l2⟩ := word_nat (n := n) (a := x) (b := b) (c := c) hr0 hr1 f0 f8 ⟨x0, x1, g.b0, g.b1, g.c0, g.c1⟩
  obtain ⟨i0, i1⟩ := imm_rng f n f0 f8
  rw [e1, e2]
  have ea : wordN f rw a b c n = (((rw.toNat ||| b.toNat <<< 15) ||| c.toNat <<< 20) ||| (immF f n).toNat) ||| a.toNat <<< 7 := or_move1 _ _ _ _ _
  have ex : wordN f rw x b c n = (((rw.toNat ||| b.toNat <<< 15) ||| c.toNat <<< 20) ||| (immF f n).toNat) ||| x.toNat <<< 7 := or_move1 _ _ _ _ _
  rw [ea, ex]
  refine upd_field ?_ (fun j h1 h2 => ?_) (by have := g.a1; omega) x0 x1 (by omega)
  · exact Nat.or_lt_two_pow (Nat.or_lt_two_pow (Nat.or_lt_two_pow (by omega) (shift_lt (by have := g.b1; omega) (by omega))) (shift_lt (by have := g.c1; omega) (by omega))) (by omega)
  · simp only [Nat.testBit_or, off_nat hw h1 h2, off_nat hi h1 h2, shift_off (a := b.toNat) (k := 15) (j := j) (by have := g.b1; omega) (by omega), shift_off (a := c.toNat) (k := 20) (j := j) (by have := g.c1; omega) (by omega)]
    rfl

theorem word_B (hr0 : 0 ≤ rw) (hr1 : rw < 4294967296) (f0 : 0 ≤ f) (f8 : f ≤ 8) (g : Regs a b c) (hw : Off rw 15 20) (hi : Off (immF f n) 15 20) (x0 : 0 ≤ x) (x1 : x < 32) :
    updF (wordF f rw a b c n) x 15 = wordF f rw a x c n := by
  obtain ⟨e1, l1⟩ := word_nat (n := n) hr0 hr1 f0 f8 g
  obtain ⟨e2, l2⟩ := word_nat (n := n) (a := a) (b := x) (c := c) hr0 hr1 f0 f8 ⟨g.a0, g.a1, x0, x1, g.c0, g.c1⟩
  obtain ⟨i0, i1⟩ := imm_rng f n f0 f8
  rw [e1, e2]
  have ea : wordN f rw a b c n = (((rw.toNat ||| a.toNat <<< 7) ||| c.toNat <<< 20) ||| (immF f n).toNat) ||| b.toNat <<< 15 := or_move2 _ _ _ _ _
  have ex : wordN f rw a x c n = (((rw.toNat ||| a.toNat <<< 7) ||| c.toNat <<< 20) ||| (immF f n).toNat) ||| x.toNat <<< 15 := or_move2 _ _ _ _ _
  rw [ea, ex]
  refine upd_field ?_ (fun j h1 h2 => ?_) (by have := g.b1; omega) x0 x1 (by omega)
  · exact Nat.or_lt_two_pow (Nat.or_lt_two_pow (Nat.or_lt_two_pow (by omega) (shift_lt (by have := g.a1; omega) (by omega))) (shift_lt (by have := g.c1; omega) (by omega))) (by omega)
  · simp only [Nat.testBit_or, off_nat hw h1 h2, off_nat hi h1 h2, shift_off (a := a.toNat) (k := 7) (j := j) (by have := g.a1; omega) (by omega), shift_off (a := c.toNat) (k := 20) (j := j) (by have := g.c1; omega) (by omega)]
    rfl

theorem word_C (hr0 : 0 ≤ rw) (hr1 : rw < 4294967296) (f0 : 0 ≤ f) (f8 : f ≤ 8) (g : Regs a b c) (hw : Off rw 20 25) (hi : Off (immF f n) 20 25) (x0 : 0 ≤ x) (x1 : x < 32) :
    updF (wordF f rw a b c n) x 20 = wordF f rw a b x n := by
  obtain ⟨e1, l1⟩ := word_nat (n := n) hr0 hr1 f0 f8 g
  obtain ⟨e2, l2⟩ := word_nat (n := n) (a := a) (b := b) (c := x) hr0 hr1 f0 f8 ⟨g.a0, g.a1, g.b0, g.b1, x0, x1⟩
  obtain ⟨i0, i1⟩ := imm_rng f n f0 f8
  rw [e1, e2]
  have ea : wordN f rw a b c n = (((rw.toNat ||| a.toNat <<< 7) ||| b.toNat <<< 15) ||| (immF f n).toNat) ||| c.toNat <<< 20 := or_move3 _ _ _ _ _
  have ex : wordN f rw a b x n = (((rw.toNat ||| a.toNat <<< 7) ||| b.toNat <<< 15) ||| (immF f n).toNat) ||| x.toNat <<< 20 := or_move3 _ _ _ _ _
  rw [ea, ex]
  refine upd_field ?_ (fun j h1 h2 => ?_) (by have := g.c1; omega) x0 x1 (by omega)
  · exact Nat.or_lt_two_pow (Nat.or_lt_two_pow (Nat.or_lt_two_pow (by omega) (shift_lt (by have := g.a1; omega) (by omega))) (shift_lt (by have := g.b1; omega) (by omega))) (by omega)
  · simp only [Nat.testBit_or, off_nat hw h1 h2, off_nat hi h1 h2, shift_off (a := a.toNat) (k := 7) (j := j) (by have := g.a1; omega) (by omega), shift_off (a := b.toNat) (k := 15) (j := j) (by have := g.b1; omega) (by omega)]
    rfl
end

/-! What an encoded instruction has. -/

theorem regOk_rng {n : Int} {u : Bool} (h : regOk n u = true) : 0 ≤ n ∧ n < 32 := by
  unfold regOk at h
  simp only [Bool.or_eq_true, Bool.and_eq_true, beq_iff_eq, decide_eq_true_eq] at h
  omega

theorem regOk_used {n : Int} (h0 : 0 ≤ n) (h1 : n < 32) : regOk n true = true := by
  unfold regOk
  simp only [Bool.true_and, Bool.or_eq_true, Bool.and_eq_true, beq_iff_eq, decide_eq_true_eq]
  omega

theorem faulty_regs {f a b c d n : Int} (h : faultyF f a b c d n = 0) : regOk a (uA f) = true ∧ regOk b (uB f) = true ∧ regOk c (uC f) = true := by
  unfold faultyF at h
  cases h1 : regOk a (uA f)
  · rw [h1] at h; simp at h
  cases h2 : regOk b (uB f)
  · rw [h1, h2] at h; simp at h
  cases h3 : regOk c (uC f)
  · rw [h1, h2, h3] at h; simp at h
  exact ⟨rfl, rfl, rfl⟩

theorem faulty_other {f a b c d n x y z : Int} (h : faultyF f a b c d n = 0) (hx : regOk x (uA f) = true) (hy : regOk y (uB f) = true) (hz : regOk z (uC f) = true) : faultyF f x y z d n = 0 := by
  obtain ⟨h1, h2, h3⟩ := faulty_regs h
  unfold faultyF at h ⊢
  rw [h1, h2, h3] at h
  rw [hx, hy, hz]
  exact h

theorem frow_mem {nm : List UInt8} (h : fok nm = true) : frow nm ∈ rowsL := by
  unfold fok at h
  obtain ⟨r, hr⟩ := Option.isSome_iff_exists.1 h
  unfold frow
  rw [hr]
  exact List.mem_of_find?_eq_some hr

theorem enc_ok {i : InsT} (h : (encE i == 0) = true) : fok i.1 = true ∧ faultyF (frow i.1).2.1 i.2.1 i.2.2.1 i.2.2.2.1 i.2.2.2.2.1 i.2.2.2.2.2 = 0 := by
  have h := eq_of_beq h
  unfold encE at h
  cases hf : fok i.1
  · rw [hf] at h; cases h
  · rw [hf] at h
    exact ⟨rfl, h⟩

theorem enc_mk {nm : List UInt8} {a b c d n : Int} (h : fok nm = true) (h' : faultyF (frow nm).2.1 a b c d n = 0) : (encE (nm, a, b, c, d, n) == 0) = true := by
  unfold encE
  simp only [h, cond_true, h']
  rfl

theorem ops_uses {f : Int} (h0 : 0 ≤ f) (h8 : f ≤ 8) : ∀ L ∈ opsF f, ((((UInt8.toNat L : Nat) : Int) == 65) = true → uA f = true) ∧ ((((UInt8.toNat L : Nat) : Int) == 66) = true → uB f = true) ∧ ((((UInt8.toNat L : Nat) : Int) == 67) = true → uC f = true) := by
  rcases form_cases h0 h8 with h | h | h | h | h | h | h | h | h <;> subst h <;> decide

section
variable {nm : List UInt8} {a b c d n x : Int} (h : (encE (nm, a, b, c, d, n) == 0) = true)
include h

theorem enc_regs : Regs a b c := by
  obtain ⟨_, h2⟩ := enc_ok h
  obtain ⟨g1, g2, g3⟩ := faulty_regs h2
  obtain ⟨a0, a1⟩ := regOk_rng g1
  obtain ⟨b0, b1⟩ := regOk_rng g2
  obtain ⟨c0, c1⟩ := regOk_rng g3
  exact ⟨a0, a1, b0, b1, c0, c1⟩

theorem enc_row : (0 ≤ (frow nm).2.2 ∧ (frow nm).2.2 < 4294967296) ∧ (uA (frow nm).2.1 = true → Off (frow nm).2.2 7 12) ∧ (uB (frow nm).2.1 = true → Off (frow nm).2.2 15 20) ∧ (uC (frow nm).2.1 = true → Off (frow nm).2.2 20 25) ∧
    0 ≤ (frow nm).2.1 ∧ (frow nm).2.1 ≤ 8 :=
  row_off (List.all_eq_true.1 rows_fine _ (frow_mem (enc_ok h).1))

theorem encW_rng : 0 ≤ encW (nm, a, b, c, d, n) ∧ encW (nm, a, b, c, d, n) < 4294967296 := by
  obtain ⟨⟨w0, w1⟩, _, _, _, f0, f8⟩ := enc_row h
  obtain ⟨e, l⟩ := word_nat (n := n) w0 w1 f0 f8 (enc_regs h)
  show 0 ≤ wordF _ _ _ _ _ _ ∧ wordF _ _ _ _ _ _ < _
  simp only at e ⊢
  rw [e]
  omega

theorem fields_A (hu : uA (frow nm).2.1 = true) (x0 : 0 ≤ x) (x1 : x < 32) : (encE (nm, x, b, c, d, n) == 0) = true ∧ (numL (bytes4 (encW (nm, x, b, c, d, n))) != updF (numL (bytes4 (encW (nm, a, b, c, d, n)))) x 7) = false := by
  obtain ⟨hf, hz⟩ := enc_ok h
  obtain ⟨_, g2, g3⟩ := faulty_regs hz
  obtain ⟨⟨w0, w1⟩, o, _, _, f0, f8⟩ := enc_row h
  have h' := enc_mk hf (faulty_other hz (by rw [hu]; exact regOk_used x0 x1) g2 g3)
  refine ⟨h', ?_⟩
  obtain ⟨p0, p1⟩ := encW_rng h
  obtain ⟨q0, q1⟩ := encW_rng h'
  rw [numL_bytes4 p0 p1, numL_bytes4 q0 q1]
  have := word_A w0 w1 f0 f8 (enc_regs h) (o hu) ((imm_off _ n f0 f8).1 hu) x0 x1
  show (wordF _ _ _ _ _ _ != updF (wordF _ _ _ _ _ _) x 7) = false
  simp only
  rw [this, bne_self_eq_false]

theorem fields_B (hu : uB (frow nm).2.1 = true) (x0 : 0 ≤ x) (x1 : x < 32) : (encE (nm, a, x, c, d, n) == 0) = true ∧ (numL (bytes4 (encW (nm, a, x, c, d, n))) != updF (numL (bytes4 (encW (nm, a, b, c, d, n)))) x 15) = false := by
  obtain ⟨hf, hz⟩ := enc_ok h
  obtain ⟨g1, _, g3⟩ := faulty_regs hz
  obtain ⟨⟨w0, w1⟩, _, o, _, f0, f8⟩ := enc_row h
  have h' := enc_mk hf (faulty_other hz g1 (by rw [hu]; exact regOk_used x0 x1) g3)
  refine ⟨h', ?_⟩
  obtain ⟨p0, p1⟩ := encW_rng h
  obtain ⟨q0, q1⟩ := encW_rng h'
  rw [numL_bytes4 p0 p1, numL_bytes4 q0 q1]
  have := word_B w0 w1 f0 f8 (enc_regs h) (o hu) ((imm_off _ n f0 f8).2.1 hu) x0 x1
  show (wordF _ _ _ _ _ _ != updF (wordF _ _ _ _ _ _) x 15) = false
  simp only
  rw [this, bne_self_eq_false]

theorem fields_C (hu : uC (frow nm).2.1 = true) (x0 : 0 ≤ x) (x1 : x < 32) : (encE (nm, a, b, x, d, n) == 0) = true ∧ (numL (bytes4 (encW (nm, a, b, x, d, n))) != updF (numL (bytes4 (encW (nm, a, b, c, d, n)))) x 20) = false := by
  obtain ⟨hf, hz⟩ := enc_ok h
  obtain ⟨g1, g2, _⟩ := faulty_regs hz
  obtain ⟨⟨w0, w1⟩, _, _, o, f0, f8⟩ := enc_row h
  have h' := enc_mk hf (faulty_other hz g1 g2 (by rw [hu]; exact regOk_used x0 x1))
  refine ⟨h', ?_⟩
  obtain ⟨p0, p1⟩ := encW_rng h
  obtain ⟨q0, q1⟩ := encW_rng h'
  rw [numL_bytes4 p0 p1, numL_bytes4 q0 q1]
  have := word_C w0 w1 f0 f8 (enc_regs h) (o hu) ((imm_off _ n f0 f8).2.2 hu) x0 x1
  show (wordF _ _ _ _ _ _ != updF (wordF _ _ _ _ _ _) x 20) = false
  simp only
  rw [this, bne_self_eq_false]

theorem letter_uses (k : Nat) (hk : k < (opsOf nm).length) : ((((UInt8.toNat ((opsOf nm).getD k 0) : Nat) : Int) == 65) = true → uA (frow nm).2.1 = true) ∧ ((((UInt8.toNat ((opsOf nm).getD k 0) : Nat) : Int) == 66) = true → uB (frow nm).2.1 = true) ∧
    ((((UInt8.toNat ((opsOf nm).getD k 0) : Nat) : Int) == 67) = true → uC (frow nm).2.1 = true) := by
  obtain ⟨_, _, _, _, f0, f8⟩ := enc_row h
  have hf := (enc_ok h).1
  have e : opsOf nm = opsF (frow nm).2.1 := by unfold opsOf; simp only at hf; rw [hf]; rfl
  rw [e] at hk ⊢
  refine ops_uses f0 f8 _ ?_
  rw [getD_lt hk]
  exact List.getElem_mem hk
end

end Go.Rv
