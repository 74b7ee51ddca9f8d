/-
  Words of riscv as sums of their fields; numbers out of words. Conditions: none.
-/
import Derived.Test.YtegieioiofggbaaRv10
namespace Go.Rv
open Go Go.Ab

theorem or_disj : ∀ (x y : Nat), x &&& y = 0 → x ||| y = x + y := by
  intro x
  induction x using Nat.strongRecOn with
  | ind x ih =>
    intro y h
    by_cases hx : x = 0
    · subst hx; simp
    · have h1 := ih (x / 2) (by omega) (y / 2) (by rw [← Nat.and_div_two, h])
      have e1 : (x ||| y) / 2 = x / 2 ||| y / 2 := Nat.or_div_two
      have b1 : Nat.testBit (x &&& y) 0 = false := by rw [h]; rfl
      have b2 : Nat.testBit (x ||| y) 0 = (Nat.testBit x 0 || Nat.testBit y 0) := Nat.testBit_or x y 0
      rw [Nat.testBit_and] at b1
      simp only [Nat.testBit_zero] at b1 b2
      rw [h1] at e1
      generalize x ||| y = z at e1 b2 ⊢
      have hxm : x % 2 = 0 ∨ x % 2 = 1 := by omega
      have hym : y % 2 = 0 ∨ y % 2 = 1 := by omega
      rcases hxm with hxm | hxm <;> rcases hym with hym | hym <;> simp [hxm, hym] at b1 b2 <;> omega

/-- Bits of a number that are none. -/
def OffN (x lo hi : Nat) : Prop := ∀ j, lo ≤ j → j < hi → x.testBit j = false

theorem or_step {x p k b : Nat} (h : OffN x k (k + b)) (hp : p < 2 ^ b) : x ||| p <<< k = x + p <<< k := by
  refine or_disj _ _ ?_
  apply Nat.eq_of_testBit_eq
  intro j
  rw [Nat.testBit_and, Nat.testBit_shiftLeft, Nat.zero_testBit]
  by_cases h1 : k ≤ j
  · by_cases h2 : j < k + b
    · rw [h j h1 h2]; rfl
    · have : p.testBit (j - k) = false := Nat.testBit_lt_two_pow (Nat.lt_of_lt_of_le hp (Nat.pow_le_pow_right (by omega) (by omega)))
      rw [this]; simp
  · simp [h1]

/-- Fields: a number, its place, how many bits it has. -/
abbrev Fd := Nat × Nat × Nat

def orF : Nat → List Fd → Nat
  | x, [] => x
  | x, f :: r => orF (x ||| f.1 <<< f.2.1) r
def sumF : List Fd → Nat
  | [] => 0
  | f :: r => f.1 * 2 ^ f.2.1 + sumF r
def clear1 (k b : Nat) : List Fd → Bool
  | [] => true
  | f :: r => (Nat.ble (k + b) f.2.1 || (Nat.ble (f.2.1 + f.2.2) k || (Nat.beq b 0 || Nat.beq f.2.2 0))) && clear1 k b r
def clearF : List Fd → Bool
  | [] => true
  | f :: r => clear1 f.2.1 f.2.2 r && clearF r

def Fine (x : Nat) (fs : List Fd) : Prop := ∀ f ∈ fs, f.1 < 2 ^ f.2.2 ∧ OffN x f.2.1 (f.2.1 + f.2.2)

theorem clear1_spec {k b : Nat} : ∀ {r : List Fd}, clear1 k b r = true → ∀ f ∈ r, k + b ≤ f.2.1 ∨ f.2.1 + f.2.2 ≤ k ∨ b = 0 ∨ f.2.2 = 0
  | [], _, f, hf => by cases hf
  | g :: r, h, f, hf => by
    simp only [clear1, Bool.and_eq_true, Bool.or_eq_true] at h
    rcases List.mem_cons.1 hf with rfl | hf
    · rcases h.1 with h | h | h | h
      · exact .inl (Nat.le_of_ble_eq_true h)
      · exact .inr (.inl (Nat.le_of_ble_eq_true h))
      · exact .inr (.inr (.inl (Nat.eq_of_beq_eq_true h)))
      · exact .inr (.inr (.inr (Nat.eq_of_beq_eq_true h)))
    · exact clear1_spec h.2 f hf

theorem orF_sum : ∀ (fs : List Fd) (x : Nat), Fine x fs → clearF fs = true → orF x fs = x + sumF fs
  | [], x, _, _ => rfl
  | f :: r, x, h, hc => by
    simp only [clearF, Bool.and_eq_true] at hc
    obtain ⟨h1, h2⟩ := h f List.mem_cons_self
    have e := or_step h2 h1
    simp only [orF, sumF]
    rw [orF_sum r (x ||| f.1 <<< f.2.1) ?_ hc.2, e, Nat.shiftLeft_eq]
    · omega
    · intro g hg
      obtain ⟨g1, g2⟩ := h g (List.mem_cons_of_mem _ hg)
      refine ⟨g1, fun j j1 j2 => ?_⟩
      rw [Nat.testBit_or, g2 j j1 j2, Nat.testBit_shiftLeft, Bool.false_or]
      rcases clear1_spec hc.1 g hg with h | h | h | h
      · have : f.1.testBit (j - f.2.1) = false := Nat.testBit_lt_two_pow (Nat.lt_of_lt_of_le h1 (Nat.pow_le_pow_right (by omega) (by omega)))
        simp [this]
      · have : ¬ f.2.1 ≤ j := by omega
        simp [this]
      · rw [h] at h1
        have : f.1 = 0 := by simpa using h1
        simp [this]
      · omega

theorem OffN.zero (lo hi : Nat) : OffN 0 lo hi := fun j _ _ => Nat.zero_testBit j
theorem OffN.low {x lo hi : Nat} (h : x < 2 ^ lo) : OffN x lo hi := fun j h1 _ => Nat.testBit_lt_two_pow (Nat.lt_of_lt_of_le h (Nat.pow_le_pow_right (by omega) h1))

/-- The fields of a form's Imm. -/
def immFd (f n : Int) : List Fd :=
  cond (f == 1) [(partN n 0 12, 20, 12)] (cond (f == 2) [(partN n 0 6, 20, 6)] (cond (f == 3) [(partN n 0 6, 20, 6)] (cond (f == 4) [(partN n 0 5, 7, 5), (partN n 5 7, 25, 7)]
    (cond (f == 5) [(partN n 1 4, 8, 4), (partN n 5 6, 25, 6), (partN n 11 1, 7, 1), (partN n 12 1, 31, 1)] (cond (f == 6) [(partN n 0 20, 12, 20)]
      (cond (f == 7) [(partN n 1 10, 21, 10), (partN n 11 1, 20, 1), (partN n 12 8, 12, 8), (partN n 20 1, 31, 1)] []))))))

theorem orF_append : ∀ (fs : List Fd) (x y : Nat), orF (x ||| y) fs = x ||| orF y fs
  | [], x, y => rfl
  | f :: r, x, y => by
    simp only [orF]
    rw [Nat.or_assoc, orF_append r]

theorem imm_orF (f n : Int) (f0 : 0 ≤ f) (f8 : f ≤ 8) : (immF f n).toNat = orF 0 (immFd f n) := by
  have z : ∀ p : Nat, 0 ||| p = p := Nat.zero_or
  have orN : ∀ {a b : Nat}, a < 2 ^ 32 → b < 2 ^ 32 → or32 (a : Int) (b : Int) = ((a ||| b : Nat) : Int) ∧ a ||| b < 2 ^ 32 := by
    intro a b ha hb
    refine ⟨?_, Nat.or_lt_two_pow ha hb⟩
    rw [or32_nat (by omega) (by omega) (by omega) (by omega)]
    simp only [Int.toNat_natCast]
  have pl : ∀ {fr bi at_ : Nat}, at_ + bi ≤ 32 → partN n fr bi <<< at_ < 2 ^ 32 := by
    intro fr bi at_ h
    rw [Nat.shiftLeft_eq]
    have h1 := Nat.mul_lt_mul_of_pos_right (partN_lt n fr bi) (Nat.two_pow_pos at_)
    rw [← Nat.pow_add] at h1
    have : (2 : Nat) ^ (bi + at_) ≤ 2 ^ 32 := Nat.pow_le_pow_right (by omega) (by omega)
    omega
  rcases form_cases f0 f8 with h | h | h | h | h | h | h | h | h <;> subst h
  · rfl
  · show (partF n 0 12 20).toNat = 0 ||| _
    have e := part_eq n (fr := 0) (bi := 12) (at_ := 20) (by omega) (by omega) (by omega)
    rw [z, show partF n 0 12 20 = _ from e, Int.toNat_natCast]
  · show (partF n 0 6 20).toNat = 0 ||| _
    have e := part_eq n (fr := 0) (bi := 6) (at_ := 20) (by omega) (by omega) (by omega)
    rw [z, show partF n 0 6 20 = _ from e, Int.toNat_natCast]
  · show (partF n 0 6 20).toNat = 0 ||| _
    have e := part_eq n (fr := 0) (bi := 6) (at_ := 20) (by omega) (by omega) (by omega)
    rw [z, show partF n 0 6 20 = _ from e, Int.toNat_natCast]
  · show (or32 (partF n 0 5 7) (partF n 5 7 25)).toNat = (0 ||| _) ||| _
    have e1 := part_eq n (fr := 0) (bi := 5) (at_ := 7) (by omega) (by omega) (by omega)
    have e2 := part_eq n (fr := 5) (bi := 7) (at_ := 25) (by omega) (by omega) (by omega)
    rw [z, show partF n 0 5 7 = _ from e1, show partF n 5 7 25 = _ from e2, (orN (pl (by omega)) (pl (by omega))).1, Int.toNat_natCast]
  · show (or32 (or32 (or32 (partF n 1 4 8) (partF n 5 6 25)) (partF n 11 1 7)) (partF n 12 1 31)).toNat = (((0 ||| _) ||| _) ||| _) ||| _
    have e1 := part_eq n (fr := 1) (bi := 4) (at_ := 8) (by omega) (by omega) (by omega)
    have e2 := part_eq n (fr := 5) (bi := 6) (at_ := 25) (by omega) (by omega) (by omega)
    have e3 := part_eq n (fr := 11) (bi := 1) (at_ := 7) (by omega) (by omega) (by omega)
    have e4 := part_eq n (fr := 12) (bi := 1) (at_ := 31) (by omega) (by omega) (by omega)
    have o1 := orN (pl (fr := 1) (bi := 4) (at_ := 8) (by omega)) (pl (fr := 5) (bi := 6) (at_ := 25) (by omega))
    have o2 := orN o1.2 (pl (fr := 11) (bi := 1) (at_ := 7) (by omega))
    have o3 := orN o2.2 (pl (fr := 12) (bi := 1) (at_ := 31) (by omega))
    rw [z, show partF n 1 4 8 = _ from e1, show partF n 5 6 25 = _ from e2, show partF n 11 1 7 = _ from e3, show partF n 12 1 31 = _ from e4, o1.1, o2.1, o3.1, Int.toNat_natCast]
  · show (partF n 0 20 12).toNat = 0 ||| _
    have e := part_eq n (fr := 0) (bi := 20) (at_ := 12) (by omega) (by omega) (by omega)
    rw [z, show partF n 0 20 12 = _ from e, Int.toNat_natCast]
  · show (or32 (or32 (or32 (partF n 1 10 21) (partF n 11 1 20)) (partF n 12 8 12)) (partF n 20 1 31)).toNat = (((0 ||| _) ||| _) ||| _) ||| _
    have e1 := part_eq n (fr := 1) (bi := 10) (at_ := 21) (by omega) (by omega) (by omega)
    have e2 := part_eq n (fr := 11) (bi := 1) (at_ := 20) (by omega) (by omega) (by omega)
    have e3 := part_eq n (fr := 12) (bi := 8) (at_ := 12) (by omega) (by omega) (by omega)
    have e4 := part_eq n (fr := 20) (bi := 1) (at_ := 31) (by omega) (by omega) (by omega)
    have o1 := orN (pl (fr := 1) (bi := 10) (at_ := 21) (by omega)) (pl (fr := 11) (bi := 1) (at_ := 20) (by omega))
    have o2 := orN o1.2 (pl (fr := 12) (bi := 8) (at_ := 12) (by omega))
    have o3 := orN o2.2 (pl (fr := 20) (bi := 1) (at_ := 31) (by omega))
    rw [z, show partF n 1 10 21 = _ from e1, show partF n 11 1 20 = _ from e2, show partF n 12 8 12 = _ from e3, show partF n 20 1 31 = _ from e4, o1.1, o2.1, o3.1, Int.toNat_natCast]
  · rfl

/-- A register's field: none where it is not used. -/
def regFd (u : Bool) (a : Int) (k : Nat) : Fd := cond u (a.toNat, k, 5) (0, k, 0)
def wordFd (f a b c n : Int) : List Fd := regFd (uA f) a 7 :: regFd (uB f) b 15 :: regFd (uC f) c 20 :: immFd f n

theorem regOk_fd {a : Int} {u : Bool} {k : Nat} (h : regOk a u = true) : a.toNat <<< k = (regFd u a k).1 <<< (regFd u a k).2.1 ∧ (regFd u a k).1 < 2 ^ (regFd u a k).2.2 := by
  obtain ⟨h0, h1⟩ := regOk_rng h
  cases u
  · have : a = 0 := by
      unfold regOk at h
      simpa using h
    subst this
    exact ⟨rfl, Nat.zero_lt_one⟩
  · refine ⟨rfl, ?_⟩
    show a.toNat < 2 ^ 5
    omega

theorem word_orF {f rw a b c n : Int} (f0 : 0 ≤ f) (f8 : f ≤ 8) (ha : regOk a (uA f) = true) (hb : regOk b (uB f) = true) (hc : regOk c (uC f) = true) : wordN f rw a b c n = orF rw.toNat (wordFd f a b c n) := by
  unfold wordN wordFd
  simp only [orF]
  rw [imm_orF f n f0 f8, ← orF_append, Nat.or_zero, (regOk_fd (k := 7) ha).1, (regOk_fd (k := 15) hb).1, (regOk_fd (k := 20) hc).1]

/-! Which bits a row leaves to its fields. -/

def maskFd : List Fd → Nat
  | [] => 0
  | f :: r => ((2 ^ f.2.2 - 1) <<< f.2.1) ||| maskFd r
/-- The bits of a form's fields. -/
def maskF (f : Int) : Nat := maskFd (wordFd f 0 0 0 0)
def rowFree (r : RowT) : Bool := Nat.beq (r.2.2.toNat &&& maskF r.2.1) 0 && clearF (wordFd r.2.1 0 0 0 0)
theorem rows_free : rowsL.all rowFree = true := by kernel_rfl

theorem fd_shape (f a b c n : Int) (f0 : 0 ≤ f) (f8 : f ≤ 8) : (wordFd f a b c n).map Prod.snd = (wordFd f 0 0 0 0).map Prod.snd := by
  rcases form_cases f0 f8 with h | h | h | h | h | h | h | h | h <;> subst h <;> rfl

theorem clear1_shape {k b : Nat} : ∀ {r s : List Fd}, r.map Prod.snd = s.map Prod.snd → clear1 k b r = clear1 k b s
  | [], [], _ => rfl
  | [], _ :: _, h => by simp at h
  | _ :: _, [], h => by simp at h
  | f :: r, g :: s, h => by
    simp only [List.map_cons, List.cons.injEq] at h
    simp only [clear1, h.1, clear1_shape h.2]

theorem clearF_shape : ∀ {r s : List Fd}, r.map Prod.snd = s.map Prod.snd → clearF r = clearF s
  | [], [], _ => rfl
  | [], _ :: _, h => by simp at h
  | _ :: _, [], h => by simp at h
  | f :: r, g :: s, h => by
    have h' := h
    simp only [List.map_cons, List.cons.injEq] at h
    simp only [clearF, h.1, clear1_shape h.2, clearF_shape h.2]

theorem maskFd_shape : ∀ {r s : List Fd}, r.map Prod.snd = s.map Prod.snd → maskFd r = maskFd s
  | [], [], _ => rfl
  | [], _ :: _, h => by simp at h
  | _ :: _, [], h => by simp at h
  | f :: r, g :: s, h => by
    simp only [List.map_cons, List.cons.injEq] at h
    simp only [maskFd, h.1, maskFd_shape h.2]

theorem off_mask {x k b : Nat} (h : x &&& ((2 ^ b - 1) <<< k) = 0) : OffN x k (k + b) := by
  intro j h1 h2
  have := congrArg (fun n => Nat.testBit n j) h
  simp only [Nat.testBit_and, Nat.zero_testBit, Nat.testBit_shiftLeft, Nat.testBit_two_pow_sub_one] at this
  have hj : j - k < b := by omega
  simpa [h1, hj] using this

theorem and_or_zero {x y z : Nat} (h : x &&& (y ||| z) = 0) : x &&& y = 0 ∧ x &&& z = 0 := by
  rw [Nat.and_or_distrib_left] at h
  exact ⟨Nat.eq_zero_of_le_zero (h ▸ Nat.left_le_or), Nat.eq_zero_of_le_zero (h ▸ Nat.right_le_or)⟩

theorem fine_mask {x : Nat} : ∀ {fs : List Fd}, x &&& maskFd fs = 0 → ∀ f ∈ fs, OffN x f.2.1 (f.2.1 + f.2.2)
  | [], _, f, hf => by cases hf
  | g :: r, h, f, hf => by
    obtain ⟨h1, h2⟩ := and_or_zero (show x &&& (((2 ^ g.2.2 - 1) <<< g.2.1) ||| maskFd r) = 0 from h)
    rcases List.mem_cons.1 hf with rfl | hf
    · exact off_mask h1
    · exact fine_mask h2 f hf

theorem imm_small (f n : Int) (f0 : 0 ≤ f) (f8 : f ≤ 8) : ∀ g ∈ immFd f n, g.1 < 2 ^ g.2.2 := by
  rcases form_cases f0 f8 with h | h | h | h | h | h | h | h | h <;> subst h <;> intro g hg <;>
    simp only [immFd, cond_true, cond_false, beq_self_eq_true, show ((2 : Int) == 1) = false from rfl, show ((3 : Int) == 1) = false from rfl, show ((3 : Int) == 2) = false from rfl, show ((0 : Int) == 1) = false from rfl,
      show ((0 : Int) == 2) = false from rfl, show ((0 : Int) == 3) = false from rfl, show ((0 : Int) == 4) = false from rfl, show ((0 : Int) == 5) = false from rfl, show ((0 : Int) == 6) = false from rfl, show ((0 : Int) == 7) = false from rfl,
      show ((4 : Int) == 1) = false from rfl, show ((4 : Int) == 2) = false from rfl, show ((4 : Int) == 3) = false from rfl, show ((5 : Int) == 1) = false from rfl, show ((5 : Int) == 2) = false from rfl, show ((5 : Int) == 3) = false from rfl, show ((5 : Int) == 4) = false from rfl,
      show ((6 : Int) == 1) = false from rfl, show ((6 : Int) == 2) = false from rfl, show ((6 : Int) == 3) = false from rfl, show ((6 : Int) == 4) = false from rfl, show ((6 : Int) == 5) = false from rfl,
      show ((7 : Int) == 1) = false from rfl, show ((7 : Int) == 2) = false from rfl, show ((7 : Int) == 3) = false from rfl, show ((7 : Int) == 4) = false from rfl, show ((7 : Int) == 5) = false from rfl, show ((7 : Int) == 6) = false from rfl,
      show ((8 : Int) == 1) = false from rfl, show ((8 : Int) == 2) = false from rfl, show ((8 : Int) == 3) = false from rfl, show ((8 : Int) == 4) = false from rfl, show ((8 : Int) == 5) = false from rfl, show ((8 : Int) == 6) = false from rfl, show ((8 : Int) == 7) = false from rfl,
      List.mem_cons, List.not_mem_nil, or_false] at hg
  · subst hg; exact partN_lt _ _ _
  · subst hg; exact partN_lt _ _ _
  · subst hg; exact partN_lt _ _ _
  · rcases hg with rfl | rfl <;> exact partN_lt _ _ _
  · rcases hg with rfl | rfl | rfl | rfl <;> exact partN_lt _ _ _
  · subst hg; exact partN_lt _ _ _
  · rcases hg with rfl | rfl | rfl | rfl <;> exact partN_lt _ _ _

theorem word_fine {r : RowT} (hr : r ∈ rowsL) {a b c n : Int} (ha : regOk a (uA r.2.1) = true) (hb : regOk b (uB r.2.1) = true) (hc : regOk c (uC r.2.1) = true) :
    Fine r.2.2.toNat (wordFd r.2.1 a b c n) ∧ clearF (wordFd r.2.1 a b c n) = true := by
  obtain ⟨_, _, _, _, f0, f8⟩ := row_off (List.all_eq_true.1 rows_fine _ hr)
  have hfree := List.all_eq_true.1 rows_free _ hr
  simp only [rowFree, Bool.and_eq_true] at hfree
  have sh := fd_shape r.2.1 a b c n f0 f8
  refine ⟨fun g hg => ⟨?_, ?_⟩, by rw [clearF_shape sh]; exact hfree.2⟩
  · unfold wordFd at hg
    simp only [List.mem_cons] at hg
    rcases hg with rfl | rfl | rfl | hg
    · exact (regOk_fd (k := 7) ha).2
    · exact (regOk_fd (k := 15) hb).2
    · exact (regOk_fd (k := 20) hc).2
    · exact imm_small _ _ f0 f8 g hg
  · refine fine_mask ?_ g hg
    rw [maskFd_shape sh]
    exact Nat.eq_of_beq_eq_true hfree.1

/-- A word is the sum of its row's bits and its fields. -/
theorem word_sum {r : RowT} (hr : r ∈ rowsL) {a b c n : Int} (ha : regOk a (uA r.2.1) = true) (hb : regOk b (uB r.2.1) = true) (hc : regOk c (uC r.2.1) = true) :
    wordF r.2.1 r.2.2 a b c n = ((r.2.2.toNat + sumF (wordFd r.2.1 a b c n) : Nat) : Int) ∧ r.2.2.toNat + sumF (wordFd r.2.1 a b c n) < 2 ^ 32 := by
  obtain ⟨⟨w0, w1⟩, _, _, _, f0, f8⟩ := row_off (List.all_eq_true.1 rows_fine _ hr)
  obtain ⟨a0, a1⟩ := regOk_rng ha
  obtain ⟨b0, b1⟩ := regOk_rng hb
  obtain ⟨c0, c1⟩ := regOk_rng hc
  obtain ⟨e1, e2⟩ := word_nat (n := n) w0 w1 f0 f8 ⟨a0, a1, b0, b1, c0, c1⟩
  obtain ⟨g1, g2⟩ := word_fine (n := n) hr ha hb hc
  rw [word_orF f0 f8 ha hb hc, orF_sum _ _ g1 g2] at e1 e2
  exact ⟨e1, e2⟩

end Go.Rv
