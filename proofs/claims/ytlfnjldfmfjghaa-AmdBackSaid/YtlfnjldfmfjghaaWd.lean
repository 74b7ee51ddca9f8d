/-
  Words: numbers of 32 and 64 bits, their bits and bytes. Conditions: none.
-/
import Derived.Test.YtlfnjldfmfjghaaEnE
namespace Go.Wd
open Go Go.Ab

def or32 (a b : Int) : Int := IntKind.wrap .u32 ↑(BitVec.toNat (BitVec.ofInt 32 a ||| BitVec.ofInt 32 b))

def shl32 (a : Int) (n : Nat) : Int := IntKind.wrap .u32 (a * 2 ^ n)

theorem wrap_u32 (n : Int) : IntKind.wrap .u32 n = n % 4294967296 := by
  simp [IntKind.wrap, IntKind.bits, IntKind.signed]

theorem wrap_u64 (n : Int) : IntKind.wrap .u64 n = n % 18446744073709551616 := by
  simp [IntKind.wrap, IntKind.bits, IntKind.signed]

theorem wrap_u8 (n : Int) : IntKind.wrap .u8 n = n % 256 := by
  simp [IntKind.wrap, IntKind.bits, IntKind.signed]

theorem ofInt32_toNat {a : Int} (h0 : 0 ≤ a) (h1 : a < 4294967296) : (BitVec.ofInt 32 a).toNat = a.toNat := by
  rw [BitVec.toNat_ofInt]
  have : ((2 ^ 32 : Nat) : Int) = 4294967296 := rfl
  rw [this, Int.emod_eq_of_lt h0 h1]

theorem or32_nat {a b : Int} (ha : 0 ≤ a) (ha' : a < 4294967296) (hb : 0 ≤ b) (hb' : b < 4294967296) : or32 a b = ((a.toNat ||| b.toNat : Nat) : Int) := by
  unfold or32
  rw [wrap_u32, BitVec.toNat_or, ofInt32_toNat ha ha', ofInt32_toNat hb hb']
  have : a.toNat ||| b.toNat < 2 ^ 32 := Nat.or_lt_two_pow (by omega) (by omega)
  omega

theorem testBit_small {a i : Nat} (ha : a < 32) (hi : 5 ≤ i) : a.testBit i = false :=
  Nat.testBit_lt_two_pow (Nat.lt_of_lt_of_le ha (Nat.pow_le_pow_right (n := 2) (by omega) hi : 2 ^ 5 ≤ 2 ^ i))

theorem testBit_31 {i : Nat} : (31 : Nat).testBit i = decide (i < 5) := by
  rw [show (31 : Nat) = 2 ^ 5 - 1 from rfl, Nat.testBit_two_pow_sub_one]

/-- Another number in a field changes its own bits alone. -/
theorem field_eq {r a x k : Nat} (hr : r < 2 ^ 32) (ho : ∀ j, k ≤ j → j < k + 5 → r.testBit j = false) (ha : a < 32) (hk : k + 5 ≤ 32) :
    ((r ||| a <<< k) &&& (2 ^ 64 - 1 - (31 <<< k))) ||| x <<< k = r ||| x <<< k := by
  apply Nat.eq_of_testBit_eq
  intro j
  have hm : 31 <<< k < 2 ^ 64 := by
    rw [Nat.shiftLeft_eq]
    have : (2 : Nat) ^ k ≤ 2 ^ 27 := Nat.pow_le_pow_right (by omega) (by omega)
    omega
  have e : 2 ^ 64 - 1 - (31 <<< k) = 2 ^ 64 - ((31 <<< k) + 1) := by omega
  rw [e]
  simp only [Nat.testBit_or, Nat.testBit_and, Nat.testBit_two_pow_sub_succ hm, Nat.testBit_shiftLeft, testBit_31]
  by_cases h1 : k ≤ j
  · by_cases h2 : j < k + 5
    · have h3 : j - k < 5 := by omega
      simp [h1, h3, ho j h1 h2]
    · have h3 : ¬ j - k < 5 := by omega
      have h4 : a.testBit (j - k) = false := testBit_small ha (by omega)
      by_cases h5 : j < 64
      · simp [h1, h3, h4, h5]
      · have h6 : r.testBit j = false := Nat.testBit_lt_two_pow (Nat.lt_of_lt_of_le hr (Nat.pow_le_pow_right (by omega) (by omega)))
        simp [h1, h3, h4, h5, h6]
  · have h5 : j < 64 := by omega
    simp [h1, h5]

theorem wrap_i32 (n : Int) : IntKind.wrap .i32 n = (n + 2147483648) % 4294967296 - 2147483648 := by
  simp [IntKind.wrap, IntKind.bits, IntKind.signed]
  omega

theorem ofInt64_toNat {a : Int} (h0 : 0 ≤ a) (h1 : a < 18446744073709551616) : (BitVec.ofInt 64 a).toNat = a.toNat := by
  rw [BitVec.toNat_ofInt]
  have : ((2 ^ 64 : Nat) : Int) = 18446744073709551616 := rfl
  rw [this, Int.emod_eq_of_lt h0 h1]

theorem ofInt64_nat {m : Nat} (h : m < 2 ^ 32) : (BitVec.ofInt 64 (m : Int)).toNat = m := by
  rw [ofInt64_toNat (by omega) (by omega), Int.toNat_natCast]

theorem num_step {a b : Int} (ha : 0 ≤ a) (ha' : a < 72057594037927936) (hb : 0 ≤ b) (hb' : b < 256) :
    IntKind.wrap IntKind.u64 ↑(BitVec.toNat (BitVec.ofInt 64 (IntKind.wrap IntKind.u64 (a * 2 ^ 8)) ||| BitVec.ofInt 64 (IntKind.wrap IntKind.u64 b))) = a * 256 + b := by
  rw [wrap_u64, wrap_u64, wrap_u64, BitVec.toNat_or, ofInt64_toNat (by omega) (by omega), ofInt64_toNat (by omega) (by omega)]
  have e1 : (a * 2 ^ 8 % 18446744073709551616).toNat = 2 ^ 8 * a.toNat := by omega
  have e2 : (b % 18446744073709551616).toNat = b.toNat := by omega
  rw [e1, e2, ← Nat.two_pow_add_eq_or_of_lt (by omega) a.toNat]
  omega

def bytes4 (w : Int) : List Int := [IntKind.wrap .u8 w, IntKind.wrap .u8 (Int.fdiv w (2 ^ 8)), IntKind.wrap .u8 (Int.fdiv w (2 ^ 16)), IntKind.wrap .u8 (Int.fdiv w (2 ^ 24))]

def numL : List Int → Int
  | [] => 0
  | b :: r => IntKind.wrap IntKind.u64 ↑(BitVec.toNat (BitVec.ofInt 64 (IntKind.wrap IntKind.u64 (numL r * 2 ^ 8)) ||| BitVec.ofInt 64 (IntKind.wrap IntKind.u64 b)))

theorem numL_bytes4 {w : Int} (h0 : 0 ≤ w) (h1 : w < 4294967296) : numL (bytes4 w) = w := by
  unfold bytes4
  simp only [numL, wrap_u8]
  have d : ∀ k : Nat, Int.fdiv w (2 ^ k) = w / 2 ^ k := fun k => Int.fdiv_eq_ediv_of_nonneg w (by have := Int.pow_pos (n := 2) (m := k) (by omega); omega)
  rw [d, d, d]
  rw [num_step (a := 0) (b := w / 2 ^ 24 % 256) (by omega) (by omega) (by omega) (by omega)]
  rw [num_step (a := 0 * 256 + w / 2 ^ 24 % 256) (b := w / 2 ^ 16 % 256) (by omega) (by omega) (by omega) (by omega)]
  rw [num_step (a := (0 * 256 + w / 2 ^ 24 % 256) * 256 + w / 2 ^ 16 % 256) (b := w / 2 ^ 8 % 256) (by omega) (by omega) (by omega) (by omega)]
  rw [num_step (b := w % 256) (by omega) (by omega) (by omega) (by omega)]
  omega

theorem shift_lt {a k : Nat} (h1 : a < 32) (hk : k ≤ 27) : a <<< k < 2 ^ 32 := by
  rw [Nat.shiftLeft_eq]
  have hp : (2 : Nat) ^ k ≤ 2 ^ 27 := Nat.pow_le_pow_right (by omega) hk
  have : a * 2 ^ k ≤ 31 * 2 ^ 27 := Nat.mul_le_mul (by omega) hp
  omega

/-- What the law's expression gives: the field's bits taken out, others put in. -/
def updF (m x : Int) (k : Nat) : Int :=
  IntKind.wrap IntKind.u64 ↑(BitVec.toNat (BitVec.ofInt 64 (IntKind.wrap IntKind.u64 ↑(BitVec.toNat (BitVec.ofInt 64 m &&& ~~~BitVec.ofInt 64 (IntKind.wrap IntKind.u64 (31 * 2 ^ k))))) ||| BitVec.ofInt 64 (IntKind.wrap IntKind.u64 (IntKind.wrap IntKind.u64 x * 2 ^ k))))

theorem upd_nat {m k : Nat} {x : Int} (hm : m < 2 ^ 32) (x0 : 0 ≤ x) (x1 : x < 32) (hk : k ≤ 27) : updF m x k = ((m &&& (2 ^ 64 - 1 - (31 <<< k))) ||| x.toNat <<< k : Nat) := by
  unfold updF
  have hp : (2 : Nat) ^ k ≤ 2 ^ 27 := Nat.pow_le_pow_right (by omega) hk
  have he : ((2 : Int) ^ k) = ((2 ^ k : Nat) : Int) := by simp
  have hA := shift_lt (a := x.toNat) (k := k) (by omega) hk
  have h31 := shift_lt (a := 31) (k := k) (by omega) hk
  have e1 : IntKind.wrap IntKind.u64 (31 * 2 ^ k) = ((31 <<< k : Nat) : Int) := by
    rw [wrap_u64, he, Nat.shiftLeft_eq]
    rw [Nat.shiftLeft_eq] at h31
    omega
  have e2 : IntKind.wrap IntKind.u64 (IntKind.wrap IntKind.u64 x * 2 ^ k) = ((x.toNat <<< k : Nat) : Int) := by
    rw [wrap_u64, wrap_u64, he, Nat.shiftLeft_eq]
    rw [Nat.shiftLeft_eq] at hA
    have hx : x % 18446744073709551616 = (x.toNat : Int) := by omega
    rw [hx, ← Int.natCast_mul]
    omega
  rw [e1, e2, wrap_u64, wrap_u64, BitVec.toNat_or, BitVec.toNat_and, BitVec.toNat_not]
  rw [ofInt64_nat hm, ofInt64_nat h31, ofInt64_nat hA]
  have h5 : m &&& (2 ^ 64 - 1 - 31 <<< k) < 2 ^ 32 := Nat.lt_of_le_of_lt Nat.and_le_left hm
  have e3 : ((m &&& (2 ^ 64 - 1 - 31 <<< k) : Nat) : Int) % (18446744073709551616 : Int) = ((m &&& (2 ^ 64 - 1 - 31 <<< k) : Nat) : Int) := by
    generalize m &&& (2 ^ 64 - 1 - 31 <<< k) = q at h5
    omega
  rw [e3, ofInt64_nat h5]
  have h6 : (m &&& (2 ^ 64 - 1 - 31 <<< k)) ||| x.toNat <<< k < 2 ^ 32 := Nat.or_lt_two_pow h5 hA
  generalize (m &&& (2 ^ 64 - 1 - (31 <<< k))) ||| x.toNat <<< k = q at h6
  omega

theorem upd_field {r a k : Nat} {x : Int} (hr : r < 2 ^ 32) (ho : ∀ j, k ≤ j → j < k + 5 → r.testBit j = false) (ha : a < 32) (x0 : 0 ≤ x) (x1 : x < 32) (hk : k ≤ 27) :
    updF ((r ||| a <<< k : Nat) : Int) x k = ((r ||| x.toNat <<< k : Nat) : Int) := by
  rw [upd_nat (Nat.or_lt_two_pow hr (shift_lt ha hk)) x0 x1 hk, field_eq hr ho ha (by omega)]

theorem or_disj : ∀ (x y : Nat), x &&& y = 0 → x ||| y = x + y := by
  intro x
  induction x using Nat.strongRecOn with
  | ind x ih =>
    intro y h
    by_cases hx : x = 0
    · subst hx; simp
    · have h1 := ih (x / 2) (by omega) (y / 2) (by rw [← Nat.and_div_two, h])
      have e1 : (x ||| y) / 2 = x / 2 ||| y / 2 := Nat.or_div_two
      have b1 : Nat.testBit (x &&& y) 0 = false := by rw [h]; rfl
      have b2 : Nat.testBit (x ||| y) 0 = (Nat.testBit x 0 || Nat.testBit y 0) := Nat.testBit_or x y 0
      rw [Nat.testBit_and] at b1
      simp only [Nat.testBit_zero] at b1 b2
      rw [h1] at e1
      generalize x ||| y = z at e1 b2 ⊢
      have hxm : x % 2 = 0 ∨ x % 2 = 1 := by omega
      have hym : y % 2 = 0 ∨ y % 2 = 1 := by omega
      rcases hxm with hxm | hxm <;> rcases hym with hym | hym <;> simp [hxm, hym] at b1 b2 <;> omega

/-- Bits of a number that are none. -/
def OffN (x lo hi : Nat) : Prop := ∀ j, lo ≤ j → j < hi → x.testBit j = false

theorem or_step {x p k b : Nat} (h : OffN x k (k + b)) (hp : p < 2 ^ b) : x ||| p <<< k = x + p <<< k := by
  refine or_disj _ _ ?_
  apply Nat.eq_of_testBit_eq
  intro j
  rw [Nat.testBit_and, Nat.testBit_shiftLeft, Nat.zero_testBit]
  by_cases h1 : k ≤ j
  · by_cases h2 : j < k + b
    · rw [h j h1 h2]; rfl
    · have : p.testBit (j - k) = false := Nat.testBit_lt_two_pow (Nat.lt_of_lt_of_le hp (Nat.pow_le_pow_right (by omega) (by omega)))
      rw [this]; simp
  · simp [h1]

/-- Fields: a number, its place, how many bits it has. -/
abbrev Fd := Nat × Nat × Nat

def orF : Nat → List Fd → Nat
  | x, [] => x
  | x, f :: r => orF (x ||| f.1 <<< f.2.1) r
def sumF : List Fd → Nat
  | [] => 0
  | f :: r => f.1 * 2 ^ f.2.1 + sumF r
def clear1 (k b : Nat) : List Fd → Bool
  | [] => true
  | f :: r => (Nat.ble (k + b) f.2.1 || (Nat.ble (f.2.1 + f.2.2) k || (Nat.beq b 0 || Nat.beq f.2.2 0))) && clear1 k b r
def clearF : List Fd → Bool
  | [] => true
  | f :: r => clear1 f.2.1 f.2.2 r && clearF r

def Fine (x : Nat) (fs : List Fd) : Prop := ∀ f ∈ fs, f.1 < 2 ^ f.2.2 ∧ OffN x f.2.1 (f.2.1 + f.2.2)

theorem clear1_spec {k b : Nat} : ∀ {r : List Fd}, clear1 k b r = true → ∀ f ∈ r, k + b ≤ f.2.1 ∨ f.2.1 + f.2.2 ≤ k ∨ b = 0 ∨ f.2.2 = 0
  | [], _, f, hf => by cases hf
  | g :: r, h, f, hf => by
    simp only [clear1, Bool.and_eq_true, Bool.or_eq_true] at h
    rcases List.mem_cons.1 hf with rfl | hf
    · rcases h.1 with h | h | h | h
      · exact .inl (Nat.le_of_ble_eq_true h)
      · exact .inr (.inl (Nat.le_of_ble_eq_true h))
      · exact .inr (.inr (.inl (Nat.eq_of_beq_eq_true h)))
      · exact .inr (.inr (.inr (Nat.eq_of_beq_eq_true h)))
    · exact clear1_spec h.2 f hf

theorem orF_sum : ∀ (fs : List Fd) (x : Nat), Fine x fs → clearF fs = true → orF x fs = x + sumF fs
  | [], x, _, _ => rfl
  | f :: r, x, h, hc => by
    simp only [clearF, Bool.and_eq_true] at hc
    obtain ⟨h1, h2⟩ := h f List.mem_cons_self
    have e := or_step h2 h1
    simp only [orF, sumF]
    rw [orF_sum r (x ||| f.1 <<< f.2.1) ?_ hc.2, e, Nat.shiftLeft_eq]
    · omega
    · intro g hg
      obtain ⟨g1, g2⟩ := h g (List.mem_cons_of_mem _ hg)
      refine ⟨g1, fun j j1 j2 => ?_⟩
      rw [Nat.testBit_or, g2 j j1 j2, Nat.testBit_shiftLeft, Bool.false_or]
      rcases clear1_spec hc.1 g hg with h | h | h | h
      · have : f.1.testBit (j - f.2.1) = false := Nat.testBit_lt_two_pow (Nat.lt_of_lt_of_le h1 (Nat.pow_le_pow_right (by omega) (by omega)))
        simp [this]
      · have : ¬ f.2.1 ≤ j := by omega
        simp [this]
      · rw [h] at h1
        have : f.1 = 0 := by simpa using h1
        simp [this]
      · omega


theorem OffN.zero (lo hi : Nat) : OffN 0 lo hi := fun j _ _ => Nat.zero_testBit j
theorem OffN.low {x lo hi : Nat} (h : x < 2 ^ lo) : OffN x lo hi := fun j h1 _ => Nat.testBit_lt_two_pow (Nat.lt_of_lt_of_le h (Nat.pow_le_pow_right (by omega) h1))


def Bytes (l : List Int) : Prop := ∀ b ∈ l, 0 ≤ b ∧ b < 256

theorem bytes_getD {l : List Int} (h : Bytes l) (k : Nat) : 0 ≤ l.getD k 0 ∧ l.getD k 0 < 256 := by
  by_cases hk : k < l.length
  · rw [getD_lt hk]; exact h _ (List.getElem_mem hk)
  · simp [List.getD, hk]

/-- Four bytes as a number. -/
def sum4 (l : List Int) (k : Nat) : Int := l.getD k 0 + 256 * l.getD (k + 1) 0 + 65536 * l.getD (k + 2) 0 + 16777216 * l.getD (k + 3) 0

def gb (l : List Int) (i : Int) : Int := IntKind.wrap .u32 (l.getD i.toNat 0)

def w4 (l : List Int) (at_ : Int) : Int :=
  or32 (or32 (or32 (gb l at_) (shl32 (gb l (IntKind.wrap .i64 (at_ + 1))) 8)) (shl32 (gb l (IntKind.wrap .i64 (at_ + 2))) 16)) (shl32 (gb l (IntKind.wrap .i64 (at_ + 3))) 24)

theorem word4 {a b c d : Int} (ha : 0 ≤ a ∧ a < 256) (hb : 0 ≤ b ∧ b < 256) (hc : 0 ≤ c ∧ c < 256) (hd : 0 ≤ d ∧ d < 256) :
    or32 (or32 (or32 (IntKind.wrap .u32 a) (shl32 (IntKind.wrap .u32 b) 8)) (shl32 (IntKind.wrap .u32 c) 16)) (shl32 (IntKind.wrap .u32 d) 24) = a + 256 * b + 65536 * c + 16777216 * d := by
  have ea : IntKind.wrap .u32 a = ((a.toNat : Nat) : Int) := by rw [wrap_u32]; omega
  have eb : shl32 (IntKind.wrap .u32 b) 8 = ((b.toNat <<< 8 : Nat) : Int) := by unfold shl32; rw [wrap_u32, wrap_u32, Nat.shiftLeft_eq]; omega
  have ec : shl32 (IntKind.wrap .u32 c) 16 = ((c.toNat <<< 16 : Nat) : Int) := by unfold shl32; rw [wrap_u32, wrap_u32, Nat.shiftLeft_eq]; omega
  have ed : shl32 (IntKind.wrap .u32 d) 24 = ((d.toNat <<< 24 : Nat) : Int) := by unfold shl32; rw [wrap_u32, wrap_u32, Nat.shiftLeft_eq]; omega
  have lb : b.toNat <<< 8 < 2 ^ 32 := by rw [Nat.shiftLeft_eq]; omega
  have lc : c.toNat <<< 16 < 2 ^ 32 := by rw [Nat.shiftLeft_eq]; omega
  have ld : d.toNat <<< 24 < 2 ^ 32 := by rw [Nat.shiftLeft_eq]; omega
  have la : a.toNat < 2 ^ 32 := by omega
  rw [ea, eb, ec, ed]
  rw [or32_nat (a := (a.toNat : Int)) (by omega) (by omega) (by omega) (by omega)]
  simp only [Int.toNat_natCast]
  have l1 : a.toNat ||| b.toNat <<< 8 < 2 ^ 32 := Nat.or_lt_two_pow la lb
  rw [or32_nat (a := ((a.toNat ||| b.toNat <<< 8 : Nat) : Int)) (by omega) (by omega) (by omega) (by omega)]
  simp only [Int.toNat_natCast]
  have l2 : a.toNat ||| b.toNat <<< 8 ||| c.toNat <<< 16 < 2 ^ 32 := Nat.or_lt_two_pow l1 lc
  rw [or32_nat (by omega) (by omega) (by omega) (by omega)]
  simp only [Int.toNat_natCast]
  have s := orF_sum [(b.toNat, 8, 8), (c.toNat, 16, 8), (d.toNat, 24, 8)] a.toNat (by
    intro g hg
    rcases List.mem_cons.1 hg with rfl | hg
    · exact ⟨by show b.toNat < 256; omega, .low (by show a.toNat < 256; omega)⟩
    rcases List.mem_cons.1 hg with rfl | hg
    · exact ⟨by show c.toNat < 256; omega, .low (by show a.toNat < 65536; omega)⟩
    rcases List.mem_cons.1 hg with rfl | hg
    · exact ⟨by show d.toNat < 256; omega, .low (by show a.toNat < 16777216; omega)⟩
    cases hg) rfl
  simp only [orF, sumF] at s
  rw [s]
  omega

theorem w4_sum {l : List Int} {at_ : Int} (h : Bytes l) (h0 : 0 ≤ at_) (h1 : at_ + 4 ≤ l.length) (hl : l.length < 1000000000) : w4 l at_ = sum4 l at_.toNat := by
  unfold w4 sum4 gb
  rw [wrap_i64 (n := at_ + 1) (by omega) (by omega), wrap_i64 (n := at_ + 2) (by omega) (by omega), wrap_i64 (n := at_ + 3) (by omega) (by omega)]
  rw [show (at_ + 1).toNat = at_.toNat + 1 from by omega, show (at_ + 2).toNat = at_.toNat + 2 from by omega, show (at_ + 3).toNat = at_.toNat + 3 from by omega]
  exact word4 (bytes_getD h _) (bytes_getD h _) (bytes_getD h _) (bytes_getD h _)

theorem sum4_rng {l : List Int} (h : Bytes l) (k : Nat) : 0 ≤ sum4 l k ∧ sum4 l k < 4294967296 := by
  have h0 := bytes_getD h k
  have h1 := bytes_getD h (k + 1)
  have h2 := bytes_getD h (k + 2)
  have h3 := bytes_getD h (k + 3)
  unfold sum4
  omega

theorem bytes4_eq {w : Int} (_h0 : 0 ≤ w) : bytes4 w = [w % 256, w / 256 % 256, w / 65536 % 256, w / 16777216 % 256] := by
  unfold bytes4
  simp only [wrap_u8]
  rw [Int.fdiv_eq_ediv_of_nonneg _ (by decide), Int.fdiv_eq_ediv_of_nonneg _ (by decide), Int.fdiv_eq_ediv_of_nonneg _ (by decide)]
  rfl

theorem bytes4_sum4 {l : List Int} (h : Bytes l) (k : Nat) : bytes4 (sum4 l k) = [l.getD k 0, l.getD (k + 1) 0, l.getD (k + 2) 0, l.getD (k + 3) 0] := by
  rw [bytes4_eq (sum4_rng h k).1]
  have h0 := bytes_getD h k
  have h1 := bytes_getD h (k + 1)
  have h2 := bytes_getD h (k + 2)
  have h3 := bytes_getD h (k + 3)
  unfold sum4
  generalize l.getD k 0 = a, l.getD (k + 1) 0 = b, l.getD (k + 2) 0 = c, l.getD (k + 3) 0 = d at h0 h1 h2 h3
  congr 1
  · omega
  congr 1
  · omega
  congr 1
  · omega
  congr 1
  omega

theorem bytes4_bytes {w : Int} (h0 : 0 ≤ w) : Bytes (bytes4 w) := by
  rw [bytes4_eq h0]
  intro b hb
  simp only [List.mem_cons, List.not_mem_nil, or_false] at hb
  omega

theorem sum4_bytes4 {p s : List Int} {w : Int} (h0 : 0 ≤ w) (h1 : w < 4294967296) : sum4 (p ++ bytes4 w ++ s) p.length = w := by
  have g : ∀ k, k < 4 → (p ++ bytes4 w ++ s).getD (p.length + k) 0 = (bytes4 w).getD k 0 := by
    intro k hk
    have hl : (bytes4 w).length = 4 := rfl
    simp only [List.getD, List.append_assoc]
    rw [List.getElem?_append_right (by omega), show p.length + k - p.length = k from by omega, List.getElem?_append_left (by omega)]
  unfold sum4
  have g0 := g 0 (by omega)
  rw [Nat.add_zero] at g0
  rw [g0, g 1 (by omega), g 2 (by omega), g 3 (by omega), bytes4_eq h0]
  show w % 256 + 256 * (w / 256 % 256) + 65536 * (w / 65536 % 256) + 16777216 * (w / 16777216 % 256) = w
  omega

/-- The lowest bits, as a number with a sign. -/
def sgn (b : Nat) (x : Int) : Int := if x % 2 ^ b < 2 ^ (b - 1) then x % 2 ^ b else x % 2 ^ b - 2 ^ b

/-! Numbers without sign in 32 and 64 bits, as such. -/

def and32 (a b : Int) : Int := IntKind.wrap .u32 ↑(BitVec.toNat (BitVec.ofInt 32 a &&& BitVec.ofInt 32 b))
def or64 (a b : Int) : Int := IntKind.wrap .u64 ↑(BitVec.toNat (BitVec.ofInt 64 a ||| BitVec.ofInt 64 b))
def and64 (a b : Int) : Int := IntKind.wrap .u64 ↑(BitVec.toNat (BitVec.ofInt 64 a &&& BitVec.ofInt 64 b))

theorem ofInt32_cast {m : Nat} (h : m < 2 ^ 32) : (BitVec.ofInt 32 (m : Int)).toNat = m := by
  rw [ofInt32_toNat (by omega) (by omega), Int.toNat_natCast]
theorem ofInt64_cast {m : Nat} (h : m < 2 ^ 64) : (BitVec.ofInt 64 (m : Int)).toNat = m := by
  rw [ofInt64_toNat (by omega) (by omega), Int.toNat_natCast]
theorem or32_cast {a b : Nat} (ha : a < 2 ^ 32) (hb : b < 2 ^ 32) : or32 (a : Int) (b : Int) = ((a ||| b : Nat) : Int) := by
  unfold or32
  rw [wrap_u32, BitVec.toNat_or, ofInt32_cast ha, ofInt32_cast hb]
  have : a ||| b < 2 ^ 32 := Nat.or_lt_two_pow ha hb
  omega
theorem and32_cast {a b : Nat} (ha : a < 2 ^ 32) (hb : b < 2 ^ 32) : and32 (a : Int) (b : Int) = ((a &&& b : Nat) : Int) := by
  unfold and32
  rw [wrap_u32, BitVec.toNat_and, ofInt32_cast ha, ofInt32_cast hb]
  have : a &&& b < 2 ^ 32 := Nat.and_lt_two_pow _ hb
  omega
theorem or64_cast {a b : Nat} (ha : a < 2 ^ 64) (hb : b < 2 ^ 64) : or64 (a : Int) (b : Int) = ((a ||| b : Nat) : Int) := by
  unfold or64
  rw [wrap_u64, BitVec.toNat_or, ofInt64_cast ha, ofInt64_cast hb]
  have : a ||| b < 2 ^ 64 := Nat.or_lt_two_pow ha hb
  omega
theorem and64_cast {a b : Nat} (ha : a < 2 ^ 64) (hb : b < 2 ^ 64) : and64 (a : Int) (b : Int) = ((a &&& b : Nat) : Int) := by
  unfold and64
  rw [wrap_u64, BitVec.toNat_and, ofInt64_cast ha, ofInt64_cast hb]
  have : a &&& b < 2 ^ 64 := Nat.and_lt_two_pow _ hb
  omega
theorem pow_cast (k : Nat) : ((2 : Int) ^ k) = ((2 ^ k : Nat) : Int) := by simp
theorem shl64_cast (a k : Nat) : IntKind.wrap .u64 ((a : Int) * 2 ^ k) = (((a <<< k) % 2 ^ 64 : Nat) : Int) := by
  rw [wrap_u64, pow_cast, ← Int.natCast_mul, Nat.shiftLeft_eq]
  omega
theorem shl32_cast (a k : Nat) : IntKind.wrap .u32 ((a : Int) * 2 ^ k) = (((a <<< k) % 2 ^ 32 : Nat) : Int) := by
  rw [wrap_u32, pow_cast, ← Int.natCast_mul, Nat.shiftLeft_eq]
  omega
theorem shr_cast (a k : Nat) : Int.fdiv (a : Int) (2 ^ k) = ((a >>> k : Nat) : Int) := by
  rw [pow_cast, Int.fdiv_eq_ediv_of_nonneg _ (Int.natCast_nonneg _), ← Int.natCast_ediv, Nat.shiftRight_eq_div_pow]
theorem add64_cast (a b : Nat) : IntKind.wrap .u64 ((a : Int) + (b : Int)) = (((a + b) % 2 ^ 64 : Nat) : Int) := by
  rw [wrap_u64]
  omega
theorem wrap64_cast {a : Nat} (h : a < 2 ^ 64) : IntKind.wrap .u64 (a : Int) = (a : Int) := by rw [wrap_u64]; omega
theorem wrap32_cast {a : Nat} (h : a < 2 ^ 32) : IntKind.wrap .u32 (a : Int) = (a : Int) := by rw [wrap_u32]; omega

/-! Which bits a number keeps to. -/

/-- x has bits of m alone. -/
def InMask (x m : Nat) : Prop := x &&& m = x

theorem InMask.disj {x m n : Nat} (h : InMask x m) (hd : m &&& n = 0) : x &&& n = 0 := by
  unfold InMask at h
  rw [← h, Nat.and_assoc, hd, Nat.and_zero]
theorem InMask.zero (m : Nat) : InMask 0 m := Nat.zero_and m
theorem InMask.or {x y m : Nat} (hx : InMask x m) (hy : InMask y m) : InMask (x ||| y) m := by
  unfold InMask at *
  rw [Nat.and_or_distrib_right, hx, hy]
theorem InMask.wider {x m n : Nat} (h : InMask x m) (hn : m &&& n = m) : InMask x n := by
  unfold InMask at *
  rw [← h, Nat.and_assoc, hn]
theorem inMask_shift {p k b : Nat} (hp : p < 2 ^ b) : InMask (p <<< k) ((2 ^ b - 1) <<< k) := by
  unfold InMask
  rw [← Nat.shiftLeft_and_distrib, Nat.and_two_pow_sub_one_eq_mod, Nat.mod_eq_of_lt hp]
theorem and_or_zeros {x y m : Nat} (hx : x &&& m = 0) (hy : y &&& m = 0) : (x ||| y) &&& m = 0 := by
  rw [Nat.and_or_distrib_right, hx, hy]
  rfl

end Go.Wd
