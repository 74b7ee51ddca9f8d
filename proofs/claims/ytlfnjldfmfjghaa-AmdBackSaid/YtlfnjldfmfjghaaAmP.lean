/-
  Small numbers: REX, ModRM, SIB as sums. Conditions: none.
-/
import Derived.Test.YtlfnjldfmfjghaaAm24
namespace Go.Amd
open Go Go.Ab Go.Proofs

def all1 (n : Nat) (p : Int → Bool) : Bool := (List.range n).all fun a => p (a : Int)
def all2 (n m : Nat) (p : Int → Int → Bool) : Bool := (List.range n).all fun a => (List.range m).all fun b => p (a : Int) (b : Int)
theorem all1_of {n : Nat} {p : Int → Bool} (h : all1 n p = true) {a : Int} (a0 : 0 ≤ a) (a1 : a < n) : p a = true := by
  have := List.all_eq_true.1 h a.toNat (List.mem_range.2 (by omega))
  rwa [Int.toNat_of_nonneg a0] at this
theorem all2_of {n m : Nat} {p : Int → Int → Bool} (h : all2 n m p = true) {a b : Int} (a0 : 0 ≤ a) (a1 : a < n) (b0 : 0 ≤ b) (b1 : b < m) : p a b = true := by
  have := List.all_eq_true.1 h a.toNat (List.mem_range.2 (by omega))
  have := List.all_eq_true.1 this b.toNat (List.mem_range.2 (by omega))
  rwa [Int.toNat_of_nonneg a0, Int.toNat_of_nonneg b0] at this

theorem rexM_all : all2 16 16 (fun a b => rexM 0 a b == 4 * (a / 8) + b / 8) = true := by kernel_rfl
theorem rexM_eq {a b : Int} (a0 : 0 ≤ a) (a1 : a < 16) (b0 : 0 ≤ b) (b1 : b < 16) : rexM 0 a b = 4 * (a / 8) + b / 8 := eq_of_beq (all2_of rexM_all a0 a1 b0 b1)
theorem hi_all : all1 16 (fun a => or8 0 (hi4 a 1) == a / 8) = true := by kernel_rfl
theorem hi_eq {a : Int} (a0 : 0 ≤ a) (a1 : a < 16) : or8 0 (hi4 a 1) = a / 8 := eq_of_beq (all1_of hi_all a0 a1)
theorem sibR_all : all2 16 16 (fun i b => sibR 0 i b == 2 * (i / 8) + b / 8 && sibR 4 i b == 4 + 2 * (i / 8) + b / 8) = true := by kernel_rfl
theorem sibR_eq {a i b : Int} (a0 : 0 ≤ a) (a1 : a < 16) (i0 : 0 ≤ i) (i1 : i < 16) (b0 : 0 ≤ b) (b1 : b < 16) : sibR (rexM 0 a 4) i b = 4 * (a / 8) + 2 * (i / 8) + b / 8 := by
  obtain ⟨h1, h2⟩ := Bool.and_eq_true_iff.1 (all2_of sibR_all i0 i1 b0 b1)
  rw [rexM_eq a0 a1 (by decide) (by decide)]
  have : a / 8 = 0 ∨ a / 8 = 1 := by omega
  rcases this with h | h
  · rw [h]
    have := eq_of_beq h1
    simpa using this
  · rw [h]
    have := eq_of_beq h2
    simpa using this
theorem mrB_all : all1 5 (fun m => all2 16 16 fun a b => mrB m a b == (64 * m + 8 * (a % 8) + b % 8) % 256) = true := by kernel_rfl
theorem mrB_eq {m a b : Int} (m0 : 0 ≤ m) (m1 : m < 4) (a0 : 0 ≤ a) (a1 : a < 16) (b0 : 0 ≤ b) (b1 : b < 16) : mrB m a b = 64 * m + 8 * (a % 8) + b % 8 := by
  have := eq_of_beq (all2_of (all1_of mrB_all m0 (show m < (5 : Nat) by omega)) a0 a1 b0 b1)
  rw [this]
  omega
theorem rexB_all : all1 16 (fun r => or8 64 r == 64 + r && (and8 (64 + r) 15 == r && (sh4 (64 + r) == 4 && ((64 + r) != 100 && ((64 + r) != 15 && or8 (r % 8) 8 == 8 + r % 8))))) = true := by kernel_rfl
theorem rexB_eq {r : Int} (r0 : 0 ≤ r) (r1 : r < 16) : or8 64 r = 64 + r ∧ and8 (64 + r) 15 = r ∧ sh4 (64 + r) = 4 ∧ or8 (r % 8) 8 = 8 + r % 8 := by
  have := all1_of rexB_all r0 r1
  simp only [Bool.and_eq_true, beq_iff_eq] at this
  exact ⟨this.1, this.2.1, this.2.2.1, this.2.2.2.2.2⟩

/-! Of bytes. -/

theorem bit_all : all1 16 (fun R => bitF R 4 == 8 * (R / 4 % 2) && (bitF R 2 == 8 * (R / 2 % 2) && (bitF R 1 == 8 * (R % 2)))) = true := by kernel_rfl
theorem bit_eq {R : Int} (r0 : 0 ≤ R) (r1 : R < 16) : bitF R 4 = 8 * (R / 4 % 2) ∧ bitF R 2 = 8 * (R / 2 % 2) ∧ bitF R 1 = 8 * (R % 2) := by
  have := all1_of bit_all r0 r1
  simpa only [Bool.and_eq_true, beq_iff_eq] using this
theorem byte_all : all1 256 (fun c => modF c == c / 64 && (and8 (Int.fdiv c (2 ^ 3)) 7 == c / 8 % 8 && (and8 c 7 == c % 8 && rmF c == c % 8))) = true := by kernel_rfl
theorem byte_eq {c : Int} (c0 : 0 ≤ c) (c1 : c < 256) : modF c = c / 64 ∧ and8 (Int.fdiv c (2 ^ 3)) 7 = c / 8 % 8 ∧ and8 c 7 = c % 8 ∧ rmF c = c % 8 := by
  have := all1_of byte_all c0 c1
  simpa only [Bool.and_eq_true, beq_iff_eq] using this
theorem midF_eq {c R : Int} (c0 : 0 ≤ c) (c1 : c < 256) (r0 : 0 ≤ R) (r1 : R < 16) : midF c R = c / 8 % 8 + 8 * (R / 4 % 2) := by
  unfold midF wi
  rw [(byte_eq c0 c1).2.1, (bit_eq r0 r1).1, wrap_i64 (n := c / 8 % 8) (by omega) (by omega), wrap_i64 (by omega) (by omega)]
theorem lowF_eq {c R : Int} (c0 : 0 ≤ c) (c1 : c < 256) (r0 : 0 ≤ R) (r1 : R < 16) : lowF c R = c % 8 + 8 * (R % 2) := by
  unfold lowF wi
  rw [(byte_eq c0 c1).2.2.1, (bit_eq r0 r1).2.2, wrap_i64 (n := c % 8) (by omega) (by omega), wrap_i64 (by omega) (by omega)]
theorem idxF_eq {c R : Int} (c0 : 0 ≤ c) (c1 : c < 256) (r0 : 0 ≤ R) (r1 : R < 16) : idxF c R = c / 8 % 8 + 8 * (R / 2 % 2) := by
  unfold idxF wi
  rw [(byte_eq c0 c1).2.1, (bit_eq r0 r1).2.1, wrap_i64 (n := c / 8 % 8) (by omega) (by omega), wrap_i64 (by omega) (by omega)]

end Go.Amd

namespace Go.Amd
open Go Go.Ab Go.Proofs

theorem byU_eq {c : Int} {k : Nat} (c0 : 0 ≤ c) (c1 : c < 256) (hk : k ≤ 56) : byU c k = c * 2 ^ k := by
  have hp : (2 : Int) ^ k ≤ 2 ^ 56 := by
    have := Nat.pow_le_pow_right (n := 2) (by decide) hk
    exact_mod_cast this
  have hp0 : (0 : Int) < 2 ^ k := by
    have := Nat.pow_pos (n := k) (show 0 < 2 by decide)
    exact_mod_cast this
  have hm : 0 ≤ c * 2 ^ k := Int.mul_nonneg c0 (Int.le_of_lt hp0)
  have hl : c * 2 ^ k ≤ 255 * 2 ^ 56 := Int.mul_le_mul (by omega) hp (Int.le_of_lt hp0) (by decide)
  unfold byU w64
  rw [Go.Wd.wrap_u64, Go.Wd.wrap_u64, Int.emod_eq_of_lt c0 (by omega), Int.emod_eq_of_lt hm (by omega)]

theorem or64_add {a c : Int} {k : Nat} (a0 : 0 ≤ a) (a1 : a < 2 ^ k) (c0 : 0 ≤ c) (c1 : c < 256) (hk : k ≤ 56) : or64 a (byU c k) = a + c * 2 ^ k := by
  rw [byU_eq c0 c1 hk]
  obtain ⟨A, rfl⟩ := Int.eq_ofNat_of_zero_le a0
  obtain ⟨C, rfl⟩ := Int.eq_ofNat_of_zero_le c0
  have hA : A < 2 ^ k := by exact_mod_cast a1
  have hC : C < 2 ^ 8 := by have : (C : Int) < 256 := c1; omega
  have hk2 : 2 ^ k ≤ 2 ^ 56 := Nat.pow_le_pow_right (by decide) hk
  have hCk : C * 2 ^ k < 2 ^ 64 := by
    have : C * 2 ^ k ≤ 255 * 2 ^ 56 := Nat.mul_le_mul (by omega) hk2
    omega
  have e : ((C : Int) * 2 ^ k) = ((C <<< k : Nat) : Int) := by rw [Nat.shiftLeft_eq]; push_cast; rfl
  have hs : C <<< k < 2 ^ 64 := by rw [Nat.shiftLeft_eq]; exact hCk
  show Go.Wd.or64 (A : Int) _ = _
  rw [e, Go.Wd.or64_cast (by omega) hs, Go.Wd.or_step (Go.Wd.OffN.low hA) hC]
  push_cast
  rfl

theorem wi_eq (n : Int) : wi n = (n + 9223372036854775808) % 18446744073709551616 - 9223372036854775808 := by
  have h : IntKind.wrap .i64 n = if n % 18446744073709551616 ≥ 9223372036854775808 then n % 18446744073709551616 - 18446744073709551616 else n % 18446744073709551616 := by
    simp [IntKind.wrap, IntKind.bits, IntKind.signed]
  unfold wi
  rw [h]
  split <;> omega
theorem imB_eq (n : Int) (k : Nat) : imB n k = n / 2 ^ k % 256 := by
  unfold imB w8
  rw [Go.Wd.wrap_u8, Int.fdiv_eq_ediv_of_nonneg _ (Int.pow_nonneg (by decide))]

def IsB (a : Int) : Prop := 0 ≤ a ∧ a < 256
theorem num1_all : all1 256 (fun a => num1V a == (a + 128) % 256 - 128) = true := by kernel_rfl
theorem num1_eq {a : Int} (h : IsB a) : num1V a = (a + 128) % 256 - 128 := eq_of_beq (all1_of num1_all h.1 h.2)
theorem or0 {a : Int} (h : IsB a) : or64 0 (byU a 0) = a := by
  rw [or64_add (by decide) (by decide) h.1 h.2 (by decide)]
  omega
theorem num4_eq {a b c d : Int} (ha : IsB a) (hb : IsB b) (hc : IsB c) (hd : IsB d) : num4V a b c d = (a + b * 256 + c * 65536 + d * 16777216 + 2147483648) % 4294967296 - 2147483648 := by
  obtain ⟨a0, a1⟩ := ha
  obtain ⟨b0, b1⟩ := hb
  obtain ⟨c0, c1⟩ := hc
  obtain ⟨d0, d1⟩ := hd
  unfold num4V
  rw [or0 ⟨a0, a1⟩, or64_add a0 (by omega) b0 b1 (by decide), or64_add (by omega) (by omega) c0 c1 (by decide), or64_add (by omega) (by omega) d0 d1 (by decide)]
  unfold sgnV w64
  rw [Go.Wd.wrap_u64, wi_eq, Int.fdiv_eq_ediv_of_nonneg _ (by decide)]
  omega
theorem num8_eq {a b c d e f g h : Int} (ha : IsB a) (hb : IsB b) (hc : IsB c) (hd : IsB d) (he : IsB e) (hf : IsB f) (hg : IsB g) (hh : IsB h) :
    num8V a b c d e f g h = (a + b * 2 ^ 8 + c * 2 ^ 16 + d * 2 ^ 24 + e * 2 ^ 32 + f * 2 ^ 40 + g * 2 ^ 48 + h * 2 ^ 56 + 9223372036854775808) % 18446744073709551616 - 9223372036854775808 := by
  obtain ⟨a0, a1⟩ := ha
  obtain ⟨b0, b1⟩ := hb
  obtain ⟨c0, c1⟩ := hc
  obtain ⟨d0, d1⟩ := hd
  obtain ⟨e0, e1⟩ := he
  obtain ⟨f0, f1⟩ := hf
  obtain ⟨g0, g1⟩ := hg
  obtain ⟨h0, h1⟩ := hh
  unfold num8V
  rw [or0 ⟨a0, a1⟩, or64_add a0 (by omega) b0 b1 (by decide), or64_add (by omega) (by omega) c0 c1 (by decide), or64_add (by omega) (by omega) d0 d1 (by decide), or64_add (by omega) (by omega) e0 e1 (by decide),
    or64_add (by omega) (by omega) f0 f1 (by decide), or64_add (by omega) (by omega) g0 g1 (by decide), or64_add (by omega) (by omega) h0 h1 (by decide)]
  unfold sgnV w64
  rw [Go.Wd.wrap_u64, wi_eq, Int.fdiv_eq_ediv_of_nonneg _ (by decide)]
  omega

theorem imB_b (n : Int) (k : Nat) : IsB (imB n k) := by
  rw [imB_eq]
  exact ⟨Int.emod_nonneg _ (by decide), Int.emod_lt_of_pos _ (by decide)⟩
/-- There and back. -/
theorem num1_im {n : Int} (h0 : -128 ≤ n) (h1 : n < 128) : num1V (imB n 0) = n := by
  rw [num1_eq (imB_b n 0), imB_eq]
  omega
theorem num4_im {n : Int} (h0 : -2147483648 ≤ n) (h1 : n < 2147483648) : num4V (imB n 0) (imB n 8) (imB n 16) (imB n 24) = n := by
  rw [num4_eq (imB_b n 0) (imB_b n 8) (imB_b n 16) (imB_b n 24)]
  simp only [imB_eq]
  omega
theorem num8_im {n : Int} (h0 : -9223372036854775808 ≤ n) (h1 : n < 9223372036854775808) :
    num8V (imB n 0) (imB n 8) (imB n 16) (imB n 24) (imB n 32) (imB n 40) (imB n 48) (imB n 56) = n := by
  rw [num8_eq (imB_b n 0) (imB_b n 8) (imB_b n 16) (imB_b n 24) (imB_b n 32) (imB_b n 40) (imB_b n 48) (imB_b n 56)]
  simp only [imB_eq]
  omega
theorem im1_num {a : Int} (h : IsB a) : im1 (num1V a) = [a] := by
  obtain ⟨a0, a1⟩ := h
  unfold im1
  rw [imB_eq, num1_eq ⟨a0, a1⟩]
  congr 1
  omega
theorem im4_num {a b c d : Int} (ha : IsB a) (hb : IsB b) (hc : IsB c) (hd : IsB d) : im4 (num4V a b c d) = [a, b, c, d] := by
  unfold im4
  simp only [imB_eq, num4_eq ha hb hc hd]
  obtain ⟨a0, a1⟩ := ha
  obtain ⟨b0, b1⟩ := hb
  obtain ⟨c0, c1⟩ := hc
  obtain ⟨d0, d1⟩ := hd
  congr 1
  · omega
  congr 1
  · omega
  congr 1
  · omega
  congr 1
  omega
theorem im8_num {a b c d e f g h : Int} (ha : IsB a) (hb : IsB b) (hc : IsB c) (hd : IsB d) (he : IsB e) (hf : IsB f) (hg : IsB g) (hh : IsB h) : im8 (num8V a b c d e f g h) = [a, b, c, d, e, f, g, h] := by
  unfold im8
  simp only [imB_eq, num8_eq ha hb hc hd he hf hg hh]
  obtain ⟨a0, a1⟩ := ha
  obtain ⟨b0, b1⟩ := hb
  obtain ⟨c0, c1⟩ := hc
  obtain ⟨d0, d1⟩ := hd
  obtain ⟨e0, e1⟩ := he
  obtain ⟨f0, f1⟩ := hf
  obtain ⟨g0, g1⟩ := hg
  obtain ⟨h0, h1⟩ := hh
  congr 1
  · omega
  congr 1
  · omega
  congr 1
  · omega
  congr 1
  · omega
  congr 1
  · omega
  congr 1
  · omega
  congr 1
  · omega
  congr 1
  omega

end Go.Amd

namespace Go.Amd
open Go Go.Ab Go.Proofs

def grpF (f : Int) : Bool := f == 3 || f == 4 || f == 5 || f == 6
/-- No ModRM is of both. -/
def disjF (x y : RowT) : Bool := (formR x == 9 && (grpF (formR y) || formR y == 7 || formR y == 8)) || ((formR y == 9 && (grpF (formR x) || formR x == 7 || formR x == 8)) || (grpF (formR x) && grpF (formR y) && !(x.2.2.2.2.1 == y.2.2.2.2.1)))
def bools : List Bool := [false, true]
/-- No prefixes are of both. -/
def noPref (x y : RowT) : Bool := bools.all fun fs => bools.all fun has => all1 16 fun R => !(prefF x fs R has && prefF y fs R has)
def apartF (x y : RowT) : Bool := x == y || (noPref x y || (modOf (formR x) && (modOf (formR y) && disjF x y)))
def openers (op : List Int) : List RowT := rowsL.filter fun x => opensF x op
def pairsF (l : List RowT) : Bool := l.all fun x => l.all fun y => apartF x y
theorem open1_all : all1 256 (fun c => pairsF (openers [c])) = true := by kernel_rfl
theorem open2_all : all1 256 (fun c => pairsF (openers [15, c])) = true := by kernel_rfl

/-- An opcode as it is taken. -/
def OpB (op : List Int) : Prop := (∃ c, IsB c ∧ op = [c]) ∨ (∃ c, IsB c ∧ op = [15, c])
theorem open_pairs {op : List Int} (h : OpB op) : pairsF (openers op) = true := by
  rcases h with ⟨c, h, rfl⟩ | ⟨c, h, rfl⟩
  · exact all1_of open1_all h.1 h.2
  · exact all1_of open2_all h.1 h.2

theorem cand_apart {op : List Int} (h : OpB op) {fs has : Bool} {R : Int} (r0 : 0 ≤ R) (r1 : R < 16) {x y : RowT} (hx : x ∈ cands R op fs has) (hy : y ∈ cands R op fs has) (hne : x ≠ y) :
    modOf (formR x) = true ∧ modOf (formR y) = true ∧ disjF x y = true := by
  have get : ∀ z ∈ cands R op fs has, z ∈ openers op ∧ prefF z fs R has = true := by
    intro z hz
    obtain ⟨h1, h2⟩ := List.mem_filter.1 hz
    unfold cand at h2
    cases ho : opensF z op
    · rw [ho] at h2; cases h2
    · rw [ho] at h2
      exact ⟨List.mem_filter.2 ⟨h1, ho⟩, h2⟩
  obtain ⟨x1, x2⟩ := get x hx
  obtain ⟨y1, y2⟩ := get y hy
  have := List.all_eq_true.1 (List.all_eq_true.1 (open_pairs h) x x1) y y1
  unfold apartF at this
  rcases Bool.or_eq_true_iff.1 this with h | h
  · exact absurd (eq_of_beq h) hne
  rcases Bool.or_eq_true_iff.1 h with h | h
  · exfalso
    unfold noPref at h
    have hm : ∀ b : Bool, b ∈ bools := by intro b; cases b <;> simp [bools]
    have := all1_of (List.all_eq_true.1 (List.all_eq_true.1 h fs (hm fs)) has (hm has)) r0 r1
    rw [x2, y2] at this
    cases this
  · obtain ⟨h1, h⟩ := Bool.and_eq_true_iff.1 h
    obtain ⟨h2, h3⟩ := Bool.and_eq_true_iff.1 h
    exact ⟨h1, h2, h3⟩

theorem fit_grp {x : RowT} (h : grpF (formR x) = true) (m d rm : Int) : fitF x m d rm = cond (m == 3) (d == x.2.2.2.2.1) false := by
  have key : ∀ f : Int, grpF f = true → (f == 9) = false ∧ (f == 10) = false ∧ (f == 7 || f == 8) = false := by
    intro f hf
    unfold grpF at hf
    simp only [Bool.or_eq_true, beq_iff_eq] at hf
    rcases hf with ((rfl | rfl) | rfl) | rfl <;> exact ⟨rfl, rfl, rfl⟩
  obtain ⟨h1, h2, h3⟩ := key _ h
  unfold fitF
  rw [h1, h2, h3]
  rfl
theorem fit_3 {x : RowT} (h : (grpF (formR x) || formR x == 7 || formR x == 8) = true) {m d rm : Int} (hf : fitF x m d rm = true) : m = 3 := by
  rcases Bool.or_eq_true_iff.1 h with h | h
  · rcases Bool.or_eq_true_iff.1 h with h | h
    · rw [fit_grp h] at hf
      cases hm : (m == 3)
      · rw [hm] at hf; cases hf
      · exact eq_of_beq hm
    · have := eq_of_beq h
      unfold fitF at hf
      rw [this] at hf
      exact eq_of_beq hf
  · have := eq_of_beq h
    unfold fitF at hf
    rw [this] at hf
    exact eq_of_beq hf
theorem fit_9 {x : RowT} (h : (formR x == 9) = true) {m d rm : Int} (hf : fitF x m d rm = true) : m ≠ 3 := by
  unfold fitF at hf
  rw [h] at hf
  simpa using hf
theorem disj_fit {x y : RowT} (h : disjF x y = true) (c : Int) (hx : fitC c x = true) : fitC c y = false := by
  cases hy : fitC c y
  · rfl
  exfalso
  unfold fitC at hx hy
  unfold disjF at h
  rcases Bool.or_eq_true_iff.1 h with h | h
  · obtain ⟨h1, h2⟩ := Bool.and_eq_true_iff.1 h
    exact fit_9 h1 hx (fit_3 h2 hy)
  rcases Bool.or_eq_true_iff.1 h with h | h
  · obtain ⟨h1, h2⟩ := Bool.and_eq_true_iff.1 h
    exact fit_9 h1 hy (fit_3 h2 hx)
  · obtain ⟨h1, h3⟩ := Bool.and_eq_true_iff.1 h
    obtain ⟨h1, h2⟩ := Bool.and_eq_true_iff.1 h1
    rw [fit_grp h1] at hx
    rw [fit_grp h2] at hy
    cases hm : (modF c == 3)
    · rw [show (Int.fdiv c (2 ^ 6) == 3) = false from hm] at hx; cases hx
    · rw [show (Int.fdiv c (2 ^ 6) == 3) = true from hm] at hx hy
      have e1 := eq_of_beq hx
      have e2 := eq_of_beq hy
      rw [← e1, ← e2] at h3
      simp at h3

/-- The row that is meant is the one that is chosen. -/
theorem chosen_one {op : List Int} (h : OpB op) {fs has : Bool} {R : Int} (r0 : 0 ≤ R) (r1 : R < 16) {x : RowT} (hx : x ∈ cands R op fs has) :
    (modOf (formR x) = false → cands R op fs has = [x] ∨ ∃ G, cands R op fs has = x :: G ∧ ∀ y ∈ G, y = x) ∧
    (modOf (formR x) = true → ∃ r0 G, cands R op fs has = r0 :: G ∧ modOf (formR r0) = true ∧ ∀ c, fitC c x = true → (r0 :: G).find? (fitC c) = some x) := by
  have ap := fun y (hy : y ∈ cands R op fs has) (hne : x ≠ y) => cand_apart h r0 r1 hx hy hne
  cases hG : cands R op fs has with
  | nil => rw [hG] at hx; cases hx
  | cons g G =>
    rw [hG] at ap hx
    refine ⟨fun hm => .inr ?_, fun hm => ⟨g, G, rfl, ?_, fun c hc => ?_⟩⟩
    · have same : ∀ y ∈ g :: G, y = x := by
        intro y hy
        by_cases hne : x = y
        · exact hne.symm
        · have := (ap y hy hne).1; rw [hm] at this; cases this
      exact ⟨G, by rw [same g List.mem_cons_self], fun y hy => same y (List.mem_cons_of_mem _ hy)⟩
    · by_cases hne : x = g
      · rw [← hne]; exact hm
      · exact (ap g List.mem_cons_self hne).2.1
    · cases hf : (g :: G).find? (fitC c) with
      | none => exact absurd hc (by simpa using List.find?_eq_none.1 hf x hx)
      | some y =>
        have hy := List.mem_of_find?_eq_some hf
        have hp := List.find?_some hf
        by_cases hne : x = y
        · rw [hne]
        · have := disj_fit (ap y hy hne).2.2 c hc
          rw [this] at hp
          cases hp

end Go.Amd

namespace Go.Amd
open Go Go.Ab Go.Proofs

theorem reg_rng {n : Int} {u : Bool} (h : regF n u = true) : 0 ≤ n ∧ n < 16 := by
  unfold regF at h
  by_cases h0 : n = 0
  · omega
  have e : (n == 0) = false := beq_eq_false_iff_ne.2 h0
  rw [e, cond_false] at h
  cases u
  · cases h
  · rw [cond_true] at h
    by_cases h1 : 0 < n
    · rw [decide_eq_true h1, cond_true] at h
      have := of_decide_eq_true h
      omega
    · rw [decide_eq_false h1] at h; cases h
theorem reg_zero {n : Int} (h : regF n false = true) : n = 0 := by
  unfold regF at h
  cases e : (n == 0)
  · rw [e] at h; cases h
  · exact eq_of_beq e
theorem base_rng {b : Int} (h : baseF b = true) : (0 ≤ b ∧ b < 16) ∨ b = 17 := by
  unfold baseF at h
  by_cases h17 : b = 17
  · exact .inr h17
  have e : (b == 17) = false := beq_eq_false_iff_ne.2 h17
  rw [e] at h
  by_cases h0 : 0 ≤ b
  · by_cases h1 : b ≤ 15
    · exact .inl ⟨h0, by omega⟩
    · rw [decide_eq_true h0, decide_eq_false h1] at h; cases h
  · rw [decide_eq_false h0] at h; cases h
theorem scale_rng {d : Int} (h : scaleF d = true) : d = 1 ∨ d = 2 ∨ d = 4 ∨ d = 8 := by
  unfold scaleF at h
  by_cases h1 : d = 1
  · exact .inl h1
  by_cases h2 : d = 2
  · exact .inr (.inl h2)
  by_cases h4 : d = 4
  · exact .inr (.inr (.inl h4))
  by_cases h8 : d = 8
  · exact .inr (.inr (.inr h8))
  simp [h1, h2, h4, h8] at h
theorem place_rng {b c d : Int} (h : placeF b c d = true) :
    (b = 17 ∧ c = 16 ∧ d = 0) ∨ ((0 ≤ b ∧ b < 16) ∧ c = 16 ∧ d = 0) ∨ ((0 ≤ b ∧ b < 16) ∧ (0 ≤ c ∧ c < 16) ∧ c ≠ 4 ∧ (d = 1 ∨ d = 2 ∨ d = 4 ∨ d = 8)) := by
  unfold placeF at h
  cases hc : (c == 16)
  · rw [hc, cond_false] at h
    cases h1 : baseF b
    · rw [h1] at h; cases h
    rw [h1, cond_true] at h
    cases h2 : (b != 17)
    · rw [h2] at h; cases h
    rw [h2, cond_true] at h
    cases h3 : decide (0 ≤ c)
    · rw [h3] at h; cases h
    rw [h3, cond_true] at h
    cases h4 : decide (c ≤ 15)
    · rw [h4] at h; cases h
    rw [h4, cond_true] at h
    cases h5 : (c != 4)
    · rw [h5] at h; cases h
    rw [h5, cond_true] at h
    have h2 : b ≠ 17 := by simpa using h2
    have h5 : c ≠ 4 := by simpa using h5
    have h3 := of_decide_eq_true h3
    have h4 := of_decide_eq_true h4
    rcases base_rng h1 with hb | hb
    · exact .inr (.inr ⟨hb, ⟨h3, by omega⟩, h5, scale_rng h⟩)
    · exact absurd hb h2
  · rw [hc, cond_true] at h
    have hc := eq_of_beq hc
    cases h1 : baseF b
    · rw [h1] at h; cases h
    rw [h1, cond_true] at h
    have hd := eq_of_beq h
    rcases base_rng h1 with hb | hb
    · exact .inr (.inl ⟨hb, hc, hd⟩)
    · exact .inl ⟨hb, hc, hd⟩
theorem cond_rng {d : Int} (h : condF d = true) : 0 ≤ d ∧ d < 16 := by
  unfold condF at h
  by_cases h0 : 0 ≤ d
  · by_cases h9 : d ≤ 9
    · omega
    · rw [decide_eq_true h0, decide_eq_false h9] at h
      by_cases h12 : 12 ≤ d
      · rw [decide_eq_true h12] at h
        have := of_decide_eq_true h
        omega
      · rw [decide_eq_false h12] at h; cases h
  · have h12 : ¬ 12 ≤ d := by omega
    rw [decide_eq_false h0, decide_eq_false h12] at h
    cases h

/-- The fields of an instruction that may be. -/
theorem ok_parts {x : RowT} {a b c d : Int} (h : okF x a b c d = true) :
    (uM x = true ∧ regF a (uA x) = true ∧ placeF b c d = true) ∨ (uM x = false ∧ regF a (uA x) = true ∧ regF b (uB x) = true ∧ c = 0 ∧ (d = 0 ∨ (condR x = true ∧ condF d = true))) := by
  unfold okF at h
  cases h0 : uM x
  · rw [h0, cond_false] at h
    cases h1 : regF a (uA x)
    · rw [h1] at h; cases h
    rw [h1, cond_true] at h
    cases h2 : regF b (uB x)
    · rw [h2] at h; cases h
    rw [h2, cond_true] at h
    cases h3 : (c == 0)
    · rw [h3] at h; cases h
    rw [h3, cond_true] at h
    refine .inr ⟨rfl, rfl, rfl, eq_of_beq h3, ?_⟩
    cases h4 : (d == 0)
    · rw [h4, cond_false] at h
      cases h5 : condR x
      · rw [h5] at h; cases h
      · rw [h5, cond_true] at h; exact .inr ⟨rfl, h⟩
    · exact .inl (eq_of_beq h4)
  · rw [h0, cond_true] at h
    cases h1 : regF a (uA x)
    · rw [h1] at h; cases h
    rw [h1, cond_true] at h
    exact .inl ⟨rfl, rfl, h⟩
/-- Its number. -/
theorem ok_imm {x : RowT} {i : InsT} (h : faultyF x i = 0) : (uI x = true → lowR x ≤ i.2.2.2.2.2 ∧ i.2.2.2.2.2 ≤ highR x) ∧ (uI x = false → i.2.2.2.2.2 = 0) := by
  have ho := faulty_ok h
  unfold faultyF tailF at h
  rw [ho] at h
  simp only [Bool.not_true, cond_false] at h
  refine ⟨fun hu => ?_, fun hu => ?_⟩
  · rw [hu, cond_true] at h
    by_cases h1 : i.2.2.2.2.2 < lowR x
    · rw [decide_eq_true h1] at h; cases h
    · by_cases h2 : highR x < i.2.2.2.2.2
      · rw [decide_eq_false h1, decide_eq_true h2] at h; cases h
      · omega
  · rw [hu, cond_false] at h
    cases hn : (i.2.2.2.2.2 != 0)
    · simpa using hn
    · rw [hn] at h; cases h

end Go.Amd
