/-
  A field out of a word; numbers out of words; what is encoded is read again. Conditions: none.
-/
import Derived.Test.YtegieioiofggbaaRv12
namespace Go.Rv
open Go Go.Ab

theorem fine_next {x : Nat} {f : Fd} {r : List Fd} (h : Fine x (f :: r)) (hc : clear1 f.2.1 f.2.2 r = true) : Fine (x ||| f.1 <<< f.2.1) r := by
  obtain ⟨h1, h2⟩ := h f List.mem_cons_self
  intro g hg
  obtain ⟨g1, g2⟩ := h g (List.mem_cons_of_mem _ hg)
  refine ⟨g1, fun j j1 j2 => ?_⟩
  rw [Nat.testBit_or, g2 j j1 j2, Nat.testBit_shiftLeft, Bool.false_or]
  rcases clear1_spec hc g hg with h | h | h | h
  · have : f.1.testBit (j - f.2.1) = false := Nat.testBit_lt_two_pow (Nat.lt_of_lt_of_le h1 (Nat.pow_le_pow_right (by omega) (by omega)))
    simp [this]
  · have : ¬ f.2.1 ≤ j := by omega
    simp [this]
  · rw [h] at h1
    have : f.1 = 0 := by simpa using h1
    simp [this]
  · omega

theorem orF_keep {k b : Nat} : ∀ {r : List Fd} {y : Nat}, clear1 k b r = true → (∀ f ∈ r, f.1 < 2 ^ f.2.2) → ∀ j, k ≤ j → j < k + b → (orF y r).testBit j = y.testBit j
  | [], y, _, _, j, _, _ => rfl
  | f :: r, y, hc, hs, j, h1, h2 => by
    have hsp := clear1_spec hc f List.mem_cons_self
    simp only [clear1, Bool.and_eq_true] at hc
    simp only [orF]
    rw [orF_keep hc.2 (fun g hg => hs g (List.mem_cons_of_mem _ hg)) j h1 h2, Nat.testBit_or, Nat.testBit_shiftLeft]
    have hf := hs f List.mem_cons_self
    rcases hsp with h | h | h | h
    · have : ¬ f.2.1 ≤ j := by omega
      simp [this]
    · have : f.1.testBit (j - f.2.1) = false := Nat.testBit_lt_two_pow (Nat.lt_of_lt_of_le hf (Nat.pow_le_pow_right (by omega) (by omega)))
      simp [this]
    · omega
    · rw [h] at hf
      have : f.1 = 0 := by simpa using hf
      simp [this]

theorem orF_get : ∀ {fs : List Fd} {x : Nat}, Fine x fs → clearF fs = true → ∀ g ∈ fs, orF x fs / 2 ^ g.2.1 % 2 ^ g.2.2 = g.1
  | [], x, _, _, g, hg => by cases hg
  | f :: r, x, h, hc, g, hg => by
    simp only [clearF, Bool.and_eq_true] at hc
    simp only [orF]
    rcases List.mem_cons.1 hg with rfl | hg
    · obtain ⟨h1, h2⟩ := h g List.mem_cons_self
      apply Nat.eq_of_testBit_eq
      intro j
      rw [Nat.testBit_mod_two_pow, Nat.testBit_div_two_pow]
      by_cases hj : j < g.2.2
      · rw [orF_keep hc.1 (fun f hf => (h f (List.mem_cons_of_mem _ hf)).1) _ (by omega) (by omega), Nat.testBit_or, h2 _ (by omega) (by omega), Nat.testBit_shiftLeft]
        have e : j + g.2.1 - g.2.1 = j := by omega
        simp [hj, e]
      · have : g.1.testBit j = false := Nat.testBit_lt_two_pow (Nat.lt_of_lt_of_le h1 (Nat.pow_le_pow_right (by omega) (by omega)))
        simp [hj, this]
    · exact orF_get (fine_next h hc.1) hc.2 g hg

theorem partN_int (n : Int) {fr bi : Nat} (h : bi ≤ 32) : ((partN n fr bi : Nat) : Int) = n / 2 ^ fr % 2 ^ bi := by
  unfold partN
  have hp : (0 : Int) < 2 ^ fr := Int.pow_pos (by omega)
  rw [Int.fdiv_eq_ediv_of_nonneg n (by omega)]
  generalize n / 2 ^ fr = q
  have hb : (2 : Int) ^ bi ∣ 4294967296 := by
    have : (4294967296 : Int) = 2 ^ bi * 2 ^ (32 - bi) := by rw [← Int.pow_add]; rw [show bi + (32 - bi) = 32 from by omega]; rfl
    rw [this]
    exact Int.dvd_mul_right _ _
  have e : ((2 ^ bi : Nat) : Int) = 2 ^ bi := by simp
  rw [Int.natCast_emod, e, Int.toNat_of_nonneg (Int.emod_nonneg _ (by omega)), Int.emod_emod_of_dvd _ hb]

theorem partN_nat (w : Nat) {fr bi : Nat} (hw : w < 2 ^ 32) : partN (w : Int) fr bi = w / 2 ^ fr % 2 ^ bi := by
  unfold partN
  have hp : (0 : Int) < 2 ^ fr := Int.pow_pos (by omega)
  rw [Int.fdiv_eq_ediv_of_nonneg _ (by omega)]
  have e : ((2 : Int) ^ fr) = ((2 ^ fr : Nat) : Int) := by simp
  rw [e, ← Int.natCast_ediv]
  have : w / 2 ^ fr < 4294967296 := Nat.lt_of_le_of_lt (Nat.div_le_self _ _) hw
  generalize w / 2 ^ fr = q at this ⊢
  have : ((q : Int) % 4294967296).toNat = q := by omega
  rw [this]

theorem at_part {w : Nat} (hw : w < 2 ^ 32) {fr bi at_ : Nat} (h1 : fr ≤ 32) : atF fr bi at_ (w : Int) = partF (w : Int) fr bi at_ := by
  unfold atF partF
  have e1 : Min.min (Int.toNat (fr : Int)) 64 = fr := by rw [Int.toNat_natCast]; omega
  have e2 : Min.min (Int.toNat (fr : Int)) 32 = fr := by rw [Int.toNat_natCast]; omega
  rw [e1, e2]
  have hp : (0 : Int) < 2 ^ fr := Int.pow_pos (by omega)
  have : IntKind.wrap IntKind.u32 (Int.fdiv (w : Int) (2 ^ fr)) = Int.fdiv (w : Int) (2 ^ fr) := by
    rw [Int.fdiv_eq_ediv_of_nonneg _ (by omega), wrap_u32]
    have e : ((2 : Int) ^ fr) = ((2 ^ fr : Nat) : Int) := by simp
    rw [e, ← Int.natCast_ediv]
    have : w / 2 ^ fr < 4294967296 := Nat.lt_of_le_of_lt (Nat.div_le_self _ _) hw
    generalize w / 2 ^ fr = q at this ⊢
    omega
  rw [this]

theorem at_eq {w : Nat} (hw : w < 2 ^ 32) {fr bi at_ : Nat} (h1 : fr ≤ 32) (h2 : at_ + bi ≤ 32) (h3 : bi < 32) : atF fr bi at_ (w : Int) = ((partN (w : Int) fr bi <<< at_ : Nat) : Int) := by
  rw [at_part hw h1, part_eq _ (by omega) h2 h3]

/-- The lowest bits, as a number with a sign. -/
def sgn (b : Nat) (x : Int) : Int := if x % 2 ^ b < 2 ^ (b - 1) then x % 2 ^ b else x % 2 ^ b - 2 ^ b

theorem wrap_i32 (n : Int) : IntKind.wrap .i32 n = (n + 2147483648) % 4294967296 - 2147483648 := by
  simp [IntKind.wrap, IntKind.bits, IntKind.signed]
  omega

theorem signed12 (x : Int) : signedF x 12 = sgn 12 x := by
  unfold signedF
  rw [show Min.min (Int.toNat (IntKind.wrap IntKind.i64 (32 - 12))) 32 = 20 from by decide, Int.fdiv_eq_ediv_of_nonneg _ (by decide), wrap_u32, wrap_i32, wrap_i64 (by omega) (by omega)]
  unfold sgn
  omega
theorem signed13 (x : Int) : signedF x 13 = sgn 13 x := by
  unfold signedF
  rw [show Min.min (Int.toNat (IntKind.wrap IntKind.i64 (32 - 13))) 32 = 19 from by decide, Int.fdiv_eq_ediv_of_nonneg _ (by decide), wrap_u32, wrap_i32, wrap_i64 (by omega) (by omega)]
  unfold sgn
  omega
theorem signed20 (x : Int) : signedF x 20 = sgn 20 x := by
  unfold signedF
  rw [show Min.min (Int.toNat (IntKind.wrap IntKind.i64 (32 - 20))) 32 = 12 from by decide, Int.fdiv_eq_ediv_of_nonneg _ (by decide), wrap_u32, wrap_i32, wrap_i64 (by omega) (by omega)]
  unfold sgn
  omega
theorem signed21 (x : Int) : signedF x 21 = sgn 21 x := by
  unfold signedF
  rw [show Min.min (Int.toNat (IntKind.wrap IntKind.i64 (32 - 21))) 32 = 11 from by decide, Int.fdiv_eq_ediv_of_nonneg _ (by decide), wrap_u32, wrap_i32, wrap_i64 (by omega) (by omega)]
  unfold sgn
  omega

/-- What a word's number is made of. -/
def numFd (f : Int) (w : Nat) : List Fd :=
  cond (f == 4) [(partN w 7 5, 0, 5), (partN w 25 7, 5, 7)] (cond (f == 5) [(partN w 8 4, 1, 4), (partN w 25 6, 5, 6), (partN w 7 1, 11, 1), (partN w 31 1, 12, 1)]
    (cond (f == 7) [(partN w 21 10, 1, 10), (partN w 20 1, 11, 1), (partN w 12 8, 12, 8), (partN w 31 1, 20, 1)] []))

def numG (f : Int) (w : Nat) : Int :=
  cond (f == 1) (sgn 12 (w / 1048576)) (cond (f == 2) (partN w 20 6) (cond (f == 3) (partN w 20 5) (cond (f == 4) (sgn 12 (sumF (numFd 4 w)))
    (cond (f == 5) (sgn 13 (sumF (numFd 5 w))) (cond (f == 6) (sgn 20 (w / 4096)) (cond (f == 7) (sgn 21 (sumF (numFd 7 w))) 0))))))

section
variable (w : Int)
theorem nF0 : numberF 0 w = 0 := by unfold numberF; rw [show ((0 : Int) == 1) = false from rfl, cond_false, show ((0 : Int) == 2) = false from rfl, cond_false, show ((0 : Int) == 3) = false from rfl, cond_false, show ((0 : Int) == 4) = false from rfl, cond_false, show ((0 : Int) == 5) = false from rfl, cond_false, show ((0 : Int) == 6) = false from rfl, cond_false, show ((0 : Int) == 7) = false from rfl, cond_false]
theorem nF8 : numberF 8 w = 0 := by unfold numberF; rw [show ((8 : Int) == 1) = false from rfl, cond_false, show ((8 : Int) == 2) = false from rfl, cond_false, show ((8 : Int) == 3) = false from rfl, cond_false, show ((8 : Int) == 4) = false from rfl, cond_false, show ((8 : Int) == 5) = false from rfl, cond_false, show ((8 : Int) == 6) = false from rfl, cond_false, show ((8 : Int) == 7) = false from rfl, cond_false]
theorem nF1 : numberF 1 w = signedF (Int.fdiv w (2 ^ 20)) 12 := by unfold numberF; rw [show ((1 : Int) == 1) = true from rfl, cond_true]
theorem nF2 : numberF 2 w = IntKind.wrap .i64 (atF 20 6 0 w) := by unfold numberF; rw [show ((2 : Int) == 1) = false from rfl, cond_false, show ((2 : Int) == 2) = true from rfl, cond_true]
theorem nF3 : numberF 3 w = IntKind.wrap .i64 (atF 20 5 0 w) := by unfold numberF; rw [show ((3 : Int) == 1) = false from rfl, cond_false, show ((3 : Int) == 2) = false from rfl, cond_false, show ((3 : Int) == 3) = true from rfl, cond_true]
theorem nF4 : numberF 4 w = signedF (or32 (atF 7 5 0 w) (atF 25 7 5 w)) 12 := by unfold numberF; rw [show ((4 : Int) == 1) = false from rfl, cond_false, show ((4 : Int) == 2) = false from rfl, cond_false, show ((4 : Int) == 3) = false from rfl, cond_false, show ((4 : Int) == 4) = true from rfl, cond_true]
theorem nF5 : numberF 5 w = signedF (or32 (or32 (or32 (atF 8 4 1 w) (atF 25 6 5 w)) (atF 7 1 11 w)) (atF 31 1 12 w)) 13 := by unfold numberF; rw [show ((5 : Int) == 1) = false from rfl, cond_false, show ((5 : Int) == 2) = false from rfl, cond_false, show ((5 : Int) == 3) = false from rfl, cond_false, show ((5 : Int) == 4) = false from rfl, cond_false, show ((5 : Int) == 5) = true from rfl, cond_true]
theorem nF6 : numberF 6 w = signedF (Int.fdiv w (2 ^ 12)) 20 := by unfold numberF; rw [show ((6 : Int) == 1) = false from rfl, cond_false, show ((6 : Int) == 2) = false from rfl, cond_false, show ((6 : Int) == 3) = false from rfl, cond_false, show ((6 : Int) == 4) = false from rfl, cond_false, show ((6 : Int) == 5) = false from rfl, cond_false, show ((6 : Int) == 6) = true from rfl, cond_true]
theorem nF7 : numberF 7 w = signedF (or32 (or32 (or32 (atF 21 10 1 w) (atF 20 1 11 w)) (atF 12 8 12 w)) (atF 31 1 20 w)) 21 := by unfold numberF; rw [show ((7 : Int) == 1) = false from rfl, cond_false, show ((7 : Int) == 2) = false from rfl, cond_false, show ((7 : Int) == 3) = false from rfl, cond_false, show ((7 : Int) == 4) = false from rfl, cond_false, show ((7 : Int) == 5) = false from rfl, cond_false, show ((7 : Int) == 6) = false from rfl, cond_false, show ((7 : Int) == 7) = true from rfl, cond_true]
end
section
variable (w : Nat)
theorem nG0 : numG 0 w = 0 := by unfold numG; rw [show ((0 : Int) == 1) = false from rfl, cond_false, show ((0 : Int) == 2) = false from rfl, cond_false, show ((0 : Int) == 3) = false from rfl, cond_false, show ((0 : Int) == 4) = false from rfl, cond_false, show ((0 : Int) == 5) = false from rfl, cond_false, show ((0 : Int) == 6) = false from rfl, cond_false, show ((0 : Int) == 7) = false from rfl, cond_false]
theorem nG8 : numG 8 w = 0 := by unfold numG; rw [show ((8 : Int) == 1) = false from rfl, cond_false, show ((8 : Int) == 2) = false from rfl, cond_false, show ((8 : Int) == 3) = false from rfl, cond_false, show ((8 : Int) == 4) = false from rfl, cond_false, show ((8 : Int) == 5) = false from rfl, cond_false, show ((8 : Int) == 6) = false from rfl, cond_false, show ((8 : Int) == 7) = false from rfl, cond_false]
theorem nG1 : numG 1 w = sgn 12 (w / 1048576) := by unfold numG; rw [show ((1 : Int) == 1) = true from rfl, cond_true]
theorem nG2 : numG 2 w = (partN w 20 6 : Int) := by unfold numG; rw [show ((2 : Int) == 1) = false from rfl, cond_false, show ((2 : Int) == 2) = true from rfl, cond_true]
theorem nG3 : numG 3 w = (partN w 20 5 : Int) := by unfold numG; rw [show ((3 : Int) == 1) = false from rfl, cond_false, show ((3 : Int) == 2) = false from rfl, cond_false, show ((3 : Int) == 3) = true from rfl, cond_true]
theorem nG4 : numG 4 w = sgn 12 (sumF (numFd 4 w)) := by unfold numG; rw [show ((4 : Int) == 1) = false from rfl, cond_false, show ((4 : Int) == 2) = false from rfl, cond_false, show ((4 : Int) == 3) = false from rfl, cond_false, show ((4 : Int) == 4) = true from rfl, cond_true]
theorem nG5 : numG 5 w = sgn 13 (sumF (numFd 5 w)) := by unfold numG; rw [show ((5 : Int) == 1) = false from rfl, cond_false, show ((5 : Int) == 2) = false from rfl, cond_false, show ((5 : Int) == 3) = false from rfl, cond_false, show ((5 : Int) == 4) = false from rfl, cond_false, show ((5 : Int) == 5) = true from rfl, cond_true]
theorem nG6 : numG 6 w = sgn 20 (w / 4096) := by unfold numG; rw [show ((6 : Int) == 1) = false from rfl, cond_false, show ((6 : Int) == 2) = false from rfl, cond_false, show ((6 : Int) == 3) = false from rfl, cond_false, show ((6 : Int) == 4) = false from rfl, cond_false, show ((6 : Int) == 5) = false from rfl, cond_false, show ((6 : Int) == 6) = true from rfl, cond_true]
theorem nG7 : numG 7 w = sgn 21 (sumF (numFd 7 w)) := by unfold numG; rw [show ((7 : Int) == 1) = false from rfl, cond_false, show ((7 : Int) == 2) = false from rfl, cond_false, show ((7 : Int) == 3) = false from rfl, cond_false, show ((7 : Int) == 4) = false from rfl, cond_false, show ((7 : Int) == 5) = false from rfl, cond_false, show ((7 : Int) == 6) = false from rfl, cond_false, show ((7 : Int) == 7) = true from rfl, cond_true]
end

theorem numberF_eq (f : Int) (w : Nat) (hw : w < 2 ^ 32) (f0 : 0 ≤ f) (f8 : f ≤ 8) : numberF f w = numG f w := by
  have orN : ∀ {a b : Nat}, a < 2 ^ 32 → b < 2 ^ 32 → or32 (a : Int) (b : Int) = ((a ||| b : Nat) : Int) ∧ a ||| b < 2 ^ 32 := by
    intro a b ha hb
    refine ⟨?_, Nat.or_lt_two_pow ha hb⟩
    rw [or32_nat (by omega) (by omega) (by omega) (by omega)]
    simp only [Int.toNat_natCast]
  have pl : ∀ {fr bi at_ : Nat}, at_ + bi ≤ 32 → partN w fr bi <<< at_ < 2 ^ 32 := by
    intro fr bi at_ h
    rw [Nat.shiftLeft_eq]
    have h1 := Nat.mul_lt_mul_of_pos_right (partN_lt w fr bi) (Nat.two_pow_pos at_)
    rw [← Nat.pow_add] at h1
    have : (2 : Nat) ^ (bi + at_) ≤ 2 ^ 32 := Nat.pow_le_pow_right (by omega) (by omega)
    omega
  have fz : ∀ {fs : List Fd}, (∀ g ∈ fs, g.1 < 2 ^ g.2.2) → Fine 0 fs := fun h g hg => ⟨h g hg, .zero _ _⟩
  rcases form_cases f0 f8 with h | h | h | h | h | h | h | h | h <;> subst h
  · rw [nF0, nG0]
  · rw [nF1, nG1, signed12, Int.fdiv_eq_ediv_of_nonneg _ (by decide)]
    rfl
  · rw [nF2, nG2, show atF 20 6 0 (w : Int) = _ from at_eq hw (fr := 20) (bi := 6) (at_ := 0) (by omega) (by omega) (by omega), Nat.shiftLeft_zero, wrap_i64 (by omega) (by have := partN_lt w 20 6; omega)]
  · rw [nF3, nG3, show atF 20 5 0 (w : Int) = _ from at_eq hw (fr := 20) (bi := 5) (at_ := 0) (by omega) (by omega) (by omega), Nat.shiftLeft_zero, wrap_i64 (by omega) (by have := partN_lt w 20 5; omega)]
  · rw [nF4, nG4]
    have e1 := at_eq hw (fr := 7) (bi := 5) (at_ := 0) (by omega) (by omega) (by omega)
    have e2 := at_eq hw (fr := 25) (bi := 7) (at_ := 5) (by omega) (by omega) (by omega)
    rw [signed12, show atF 7 5 0 (w : Int) = _ from e1, show atF 25 7 5 (w : Int) = _ from e2, (orN (pl (by omega)) (pl (by omega))).1]
    have s := orF_sum (numFd 4 w) 0 (fz (by intro g hg; rcases List.mem_cons.1 hg with rfl | hg; · exact partN_lt _ _ _
                                            rcases List.mem_cons.1 hg with rfl | hg; · exact partN_lt _ _ _
                                            cases hg)) rfl
    have s' : partN w 7 5 <<< 0 ||| partN w 25 7 <<< 5 = orF 0 (numFd 4 w) := by
      show _ = (0 ||| _) ||| _
      rw [Nat.zero_or]
    rw [s', s, Nat.zero_add]
  · rw [nF5, nG5]
    have e1 := at_eq hw (fr := 8) (bi := 4) (at_ := 1) (by omega) (by omega) (by omega)
    have e2 := at_eq hw (fr := 25) (bi := 6) (at_ := 5) (by omega) (by omega) (by omega)
    have e3 := at_eq hw (fr := 7) (bi := 1) (at_ := 11) (by omega) (by omega) (by omega)
    have e4 := at_eq hw (fr := 31) (bi := 1) (at_ := 12) (by omega) (by omega) (by omega)
    have o1 := orN (pl (fr := 8) (bi := 4) (at_ := 1) (by omega)) (pl (fr := 25) (bi := 6) (at_ := 5) (by omega))
    have o2 := orN o1.2 (pl (fr := 7) (bi := 1) (at_ := 11) (by omega))
    have o3 := orN o2.2 (pl (fr := 31) (bi := 1) (at_ := 12) (by omega))
    rw [signed13, show atF 8 4 1 (w : Int) = _ from e1, show atF 25 6 5 (w : Int) = _ from e2, show atF 7 1 11 (w : Int) = _ from e3, show atF 31 1 12 (w : Int) = _ from e4, o1.1, o2.1, o3.1]
    have s := orF_sum (numFd 5 w) 0 (fz (by intro g hg; rcases List.mem_cons.1 hg with rfl | hg; · exact partN_lt _ _ _
                                            rcases List.mem_cons.1 hg with rfl | hg; · exact partN_lt _ _ _
                                            rcases List.mem_cons.1 hg with rfl | hg; · exact partN_lt _ _ _
                                            rcases List.mem_cons.1 hg with rfl | hg; · exact partN_lt _ _ _
                                            cases hg)) rfl
    have s' : ((partN w 8 4 <<< 1 ||| partN w 25 6 <<< 5) ||| partN w 7 1 <<< 11) ||| partN w 31 1 <<< 12 = orF 0 (numFd 5 w) := by
      show _ = (((0 ||| _) ||| _) ||| _) ||| _
      rw [Nat.zero_or]
    rw [s', s, Nat.zero_add]
  · rw [nF6, nG6, signed20, Int.fdiv_eq_ediv_of_nonneg _ (by decide)]
    rfl
  · rw [nF7, nG7]
    have e1 := at_eq hw (fr := 21) (bi := 10) (at_ := 1) (by omega) (by omega) (by omega)
    have e2 := at_eq hw (fr := 20) (bi := 1) (at_ := 11) (by omega) (by omega) (by omega)
    have e3 := at_eq hw (fr := 12) (bi := 8) (at_ := 12) (by omega) (by omega) (by omega)
    have e4 := at_eq hw (fr := 31) (bi := 1) (at_ := 20) (by omega) (by omega) (by omega)
    have o1 := orN (pl (fr := 21) (bi := 10) (at_ := 1) (by omega)) (pl (fr := 20) (bi := 1) (at_ := 11) (by omega))
    have o2 := orN o1.2 (pl (fr := 12) (bi := 8) (at_ := 12) (by omega))
    have o3 := orN o2.2 (pl (fr := 31) (bi := 1) (at_ := 20) (by omega))
    rw [signed21, show atF 21 10 1 (w : Int) = _ from e1, show atF 20 1 11 (w : Int) = _ from e2, show atF 12 8 12 (w : Int) = _ from e3, show atF 31 1 20 (w : Int) = _ from e4, o1.1, o2.1, o3.1]
    have s := orF_sum (numFd 7 w) 0 (fz (by intro g hg; rcases List.mem_cons.1 hg with rfl | hg; · exact partN_lt _ _ _
                                            rcases List.mem_cons.1 hg with rfl | hg; · exact partN_lt _ _ _
                                            rcases List.mem_cons.1 hg with rfl | hg; · exact partN_lt _ _ _
                                            rcases List.mem_cons.1 hg with rfl | hg; · exact partN_lt _ _ _
                                            cases hg)) rfl
    have s' : ((partN w 21 10 <<< 1 ||| partN w 20 1 <<< 11) ||| partN w 12 8 <<< 12) ||| partN w 31 1 <<< 20 = orF 0 (numFd 7 w) := by
      show _ = (((0 ||| _) ||| _) ||| _) ||| _
      rw [Nat.zero_or]
    rw [s', s, Nat.zero_add]
  · rw [nF8, nG8]

end Go.Rv
