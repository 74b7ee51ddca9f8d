/-
  The program's memory, plainly: what is stored is loaded. Conditions: none.
-/
import Derived.Test.YtmbbnhcbphkniaaGreatDoorRm5
namespace Go.Ra
open Go Go.Ab Go.Proofs

theorem usable_spec {x : Int} (h : usable x = true) : rng64 x = true ∧ isPg (pgF x) = true := by
  simpa only [usable, Bool.and_eq_true] using h
theorem same_place {x z : Int} (hx : rng64 x = true) (hz : rng64 z = true) (hp : pgF z = pgF x) (ho : offF z = offF x) : z = x := by
  have px := pgF_eq hx
  have pz := pgF_eq hz
  simp only [rng64, Bool.and_eq_true, decide_eq_true_eq] at hx hz
  unfold offF at ho
  rw [Int.tmod_eq_emod_of_nonneg hx.1, Int.tmod_eq_emod_of_nonneg hz.1] at ho
  omega
theorem getD_set {l : List Int} {i j : Nat} {v : Int} (hi : i < l.length) : (l.set i v).getD j 0 = if j = i then v else l.getD j 0 := by
  rw [List.getD_eq_getElem?_getD, List.getElem?_set, List.getD_eq_getElem?_getD]
  by_cases h : i = j
  · subst h
    rw [if_pos rfl, if_pos hi, if_pos rfl]
    rfl
  · rw [if_neg h, if_neg fun e => h e.symm]
/-- A byte of a memory with one byte set. -/
theorem byteF_set {a b c d e : List Int} {x z v : Int} (hl : lens5 a b c d e = true) (hx : usable x = true) (hz : usable z = true) :
    byteF (setF 1 x v a) (setF 2 x v b) (setF 16 x v c) (setF 17 x v d) (setF 32 x v e) z = if z = x then v else byteF a b c d e z := by
  obtain ⟨x1, x2⟩ := usable_spec hx
  obtain ⟨z1, z2⟩ := usable_spec hz
  obtain ⟨l1, l2, l3, l4, l5⟩ := lens5_spec hl
  have hoff := (off_lt x1).2
  have one : ∀ (k : Int) (l : List Int), l.length = 4096 → pgF z = k → (setF k x v l).getD (offF z) 0 = if z = x then v else l.getD (offF z) 0 := by
    intro k l hk hp
    unfold setF
    by_cases hq : pgF x = k
    · rw [hq, beq_self_eq_true, cond_true, getD_set (by omega)]
      by_cases ho : offF z = offF x
      · rw [if_pos ho, if_pos (same_place x1 z1 (by rw [hp, hq]) ho)]
      · rw [if_neg ho, if_neg (fun e => ho (by rw [e]))]
    · have : (pgF x == k) = false := by simpa using hq
      rw [this, cond_false, if_neg (fun e => hq (by rw [← e]; exact hp))]
  unfold byteF selF
  simp only [isPg, Bool.or_eq_true, beq_iff_eq] at z2
  rcases z2 with h | h | h | h | h
  · simp only [h]
    exact one 1 a l1 h
  · simp only [h]
    exact one 2 b l2 h
  · simp only [h]
    exact one 16 c l3 h
  · simp only [h]
    exact one 17 d l4 h
  · simp only [h]
    exact one 32 e l5 h

theorem lens5_stN {x y : Int} : ∀ (m i : Nat) {a b c d e : List Int}, lens5 a b c d e = true → lens5 (stN 1 x y m i a) (stN 2 x y m i b) (stN 16 x y m i c) (stN 17 x y m i d) (stN 32 x y m i e) = true
  | 0, _, _, _, _, _, _, h => h
  | m + 1, i, _, _, _, _, _, h => lens5_stN m (i + 1) (lens5_set h (adr x i) (byS y i))
/-- A byte of a memory with a number set. -/
theorem byteF_stN {x y z : Int} (hz : usable z = true) : ∀ (m i : Nat) {a b c d e : List Int}, lens5 a b c d e = true → (∀ j, i ≤ j → j < i + m → usable (adr x j) = true ∧ adr x j = x + j) →
    byteF (stN 1 x y m i a) (stN 2 x y m i b) (stN 16 x y m i c) (stN 17 x y m i d) (stN 32 x y m i e) z = if x + i ≤ z ∧ z < x + i + m then byS y (z - x).toNat else byteF a b c d e z
  | 0, i, a, b, c, d, e, _, _ => by
    rw [if_neg (by omega)]
    rfl
  | m + 1, i, a, b, c, d, e, hl, h => by
    obtain ⟨u1, u2⟩ := h i (by omega) (by omega)
    have ih := byteF_stN (y := y) hz m (i + 1) (lens5_set hl (adr x i) (byS y i)) fun j h1 h2 => h j (by omega) (by omega)
    unfold stN
    rw [ih, byteF_set hl u1 hz, u2]
    by_cases h1 : x + i ≤ z ∧ z < x + i + (m + 1 : Nat)
    · rw [if_pos h1]
      by_cases h2 : z = x + i
      · rw [if_neg (by omega), if_pos h2]
        have : (z - x).toNat = i := by omega
        rw [this]
      · rw [if_pos (by omega)]
    · rw [if_neg h1, if_neg (by omega), if_neg (by omega)]

theorem byS_eq (y : Int) (i : Nat) : byS y i = y / 2 ^ (8 * i) % 256 := by
  unfold byS
  rw [Int.fdiv_eq_ediv_of_nonneg _ (Int.pow_nonneg (by decide))]
  rfl
theorem ldS_eq {v b : Int} (v0 : 0 ≤ v) (hv : v * 256 + b < 18446744073709551616) (b0 : 0 ≤ b) (b1 : b < 256) : ldS v b = v * 256 + b := by
  obtain ⟨m, rfl⟩ := Int.eq_ofNat_of_zero_le v0
  obtain ⟨n, rfl⟩ := Int.eq_ofNat_of_zero_le b0
  unfold ldS
  have e1 : IntKind.wrap .u64 ((m : Int) * 2 ^ 8) = ((m * 256 : Nat) : Int) := by
    show (m : Int) * 256 % 18446744073709551616 = _
    omega
  have e2 : IntKind.wrap .u64 (n : Int) = ((n : Nat) : Int) := by
    show (n : Int) % 18446744073709551616 = _
    omega
  rw [e1, e2, BitVec.toNat_or, BitVec.ofInt_natCast, BitVec.ofInt_natCast, BitVec.toNat_ofNat, BitVec.toNat_ofNat, Nat.mod_eq_of_lt (by omega), Nat.mod_eq_of_lt (by omega)]
  have e3 : m * 256 ||| n = m * 256 + n := by
    have := Nat.shiftLeft_add_eq_or_of_lt (i := 8) (b := n) (by omega) m
    rw [Nat.shiftLeft_eq] at this
    exact this.symm
  rw [e3]
  show ((m * 256 + n : Nat) : Int) % 18446744073709551616 = _
  omega
/-- A number out of its bytes. -/
theorem ldN_eq {a b c d e : List Int} {x y : Int} (y0 : 0 ≤ y) (y1 : y < 18446744073709551616) : ∀ (m : Nat), (∀ j, j < m → byteF a b c d e (adr x j) = byS y j) → ldN a b c d e x m (y / 2 ^ (8 * m)) = y
  | 0, _ => by
    show y / 2 ^ 0 = y
    rw [Int.pow_zero, Int.ediv_one]
  | m + 1, h => by
    have hp : (0 : Int) < 2 ^ (8 * m) := Int.pow_pos (by decide)
    have e : y / 2 ^ (8 * (m + 1)) = y / 2 ^ (8 * m) / 256 := by
      rw [Int.ediv_ediv_of_nonneg (Int.le_of_lt hp)]
      have : (2 : Int) ^ (8 * (m + 1)) = 2 ^ (8 * m) * 256 := by
        rw [show 8 * (m + 1) = 8 * m + 8 by omega, Int.pow_add]
        rfl
      rw [this]
    have k0 : 0 ≤ y / 2 ^ (8 * m) := Int.ediv_nonneg y0 (Int.le_of_lt hp)
    have k1 : y / 2 ^ (8 * m) ≤ y := Int.ediv_le_self _ y0
    unfold ldN
    rw [h m (by omega), byS_eq, e, ldS_eq (by omega) (by omega) (by omega) (by omega)]
    have : y / 2 ^ (8 * m) / 256 * 256 + y / 2 ^ (8 * m) % 256 = y / 2 ^ (8 * m) := by omega
    rw [this]
    exact ldN_eq y0 y1 m fun j hj => h j (by omega)
theorem ldN_zero {a b c d e : List Int} {x : Int} (m : Nat) (h : ∀ j, j < m → byteF a b c d e (adr x j) = 0) : ldN a b c d e x m 0 = 0 := by
  have := ldN_eq (a := a) (b := b) (c := c) (d := d) (e := e) (x := x) (y := 0) (by decide) (by decide) m (fun j hj => by rw [h j hj, byS_eq, Int.zero_ediv]; rfl)
  rw [Int.zero_ediv] at this
  exact this
theorem ldN_8 {a b c d e : List Int} {x y : Int} (hy : rng64 y = true) (h : ∀ j, j < 8 → byteF a b c d e (adr x j) = byS y j) : ldN a b c d e x 8 0 = y := by
  simp only [rng64, Bool.and_eq_true, decide_eq_true_eq] at hy
  have := ldN_eq hy.1 hy.2 8 h
  have e : y / 2 ^ (8 * 8) = 0 := by
    show y / 18446744073709551616 = 0
    omega
  rw [e] at this
  exact this

end Go.Ra
