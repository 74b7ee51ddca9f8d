/-
  The document's rows, checks, words and numbers are the program's. Conditions: none.
-/
import Derived.Test.YtegieioiofggbaaRv19
import Derived.Test.YtegieioiofggbaaRv14
namespace Go.Rv
open Go Go.Ab

/-- The program's word for a form. -/
def codeF (g : Int) : Int := cond (g == 82) 0 (cond (g == 73) 1 (cond (g == 104) 2 (cond (g == 119) 3 (cond (g == 83) 4 (cond (g == 66) 5 (cond (g == 85) 6 (cond (g == 74) 7 8)))))))
def conv (r : RowX) : RowT := (r.2.1, codeF r.1, or32 (or32 r.2.2.1 (shl32 r.2.2.2.1 12)) (shl32 r.2.2.2.2 25))

theorem rows_conv : rowsX.map conv = rowsL := by kernel_rfl

def formOk (g : Int) : Bool := g == 82 || (g == 73 || (g == 104 || (g == 119 || (g == 83 || (g == 66 || (g == 85 || (g == 74 || g == 120)))))))
def rowXFine (r : RowX) : Bool :=
  formOk r.1 && (decide (0 ≤ r.2.2.1) && (decide (r.2.2.1 < 4294967296) && (decide (0 ≤ r.2.2.2.1) && (decide (r.2.2.2.1 < 8) && (decide (0 ≤ r.2.2.2.2) && (decide (r.2.2.2.2 < 128) &&
    ((r.1 == 82 || (r.1 == 104 || (r.1 == 119 || r.2.2.2.2 == 0))) && (!(r.1 == 120) || (r.2.2.2.1 == 0 && r.2.2.2.2 == 0)))))))))
theorem rowsX_fine : rowsX.all rowXFine = true := by kernel_rfl

theorem form_eq {g : Int} (h : formOk g = true) : g = 82 ∨ g = 73 ∨ g = 104 ∨ g = 119 ∨ g = 83 ∨ g = 66 ∨ g = 85 ∨ g = 74 ∨ g = 120 := by
  simp only [formOk, Bool.or_eq_true, beq_iff_eq] at h
  exact h

theorem find_conv (nm : List UInt8) : findL nm rowsL = (findLX nm rowsX).map conv := by
  unfold findL findLX
  rw [← rows_conv, List.find?_map]
  rfl

theorem fok_eq (nm : List UInt8) : fok nm = fokX nm := by
  unfold fok fokX
  rw [find_conv]
  cases findLX nm rowsX <;> rfl

theorem frow_eq {nm : List UInt8} (h : fokX nm = true) : frow nm = conv (frowX nm) ∧ frowX nm ∈ rowsX := by
  unfold fokX at h
  obtain ⟨r, hr⟩ := Option.isSome_iff_exists.1 h
  have h1 : frowX nm = r := by unfold frowX; rw [hr]; rfl
  refine ⟨?_, by rw [h1]; exact List.mem_of_find?_eq_some hr⟩
  unfold frow
  rw [find_conv, hr, h1]
  rfl

theorem opsG_eq {g : Int} (h : formOk g = true) : opsG g = opsF (codeF g) ∧ bndX g = bnd (codeF g) ∧ hasX (opsG g) 65 = uA (codeF g) ∧ hasX (opsG g) 66 = uB (codeF g) ∧ hasX (opsG g) 67 = uC (codeF g) ∧
    (!hasX (opsG g) 105 && !hasX (opsG g) 106) = ((bnd (codeF g)).1 == (bnd (codeF g)).2.1) := by
  rcases form_eq h with h | h | h | h | h | h | h | h | h <;> subst h <;> decide

theorem reg_eq {s : List UInt8} {c n : Int} {u : Bool} (h : hasX s c = u) : regX s c n = regOk n u := by
  unfold regX regOk
  rw [h]
  cases u
  · simp
  · simp only [Bool.not_true, cond_false, Bool.true_and]
    by_cases h0 : 0 ≤ n
    · rw [decide_eq_true h0, cond_true]
      by_cases h1 : n = 0
      · subst h1; rfl
      · have e1 : (n == 0) = false := by simpa using h1
        have e2 : decide (0 < n) = true := decide_eq_true (by omega)
        rw [e1, e2]
        simp only [Bool.false_or, Bool.true_and]
        exact decide_eq_decide.2 (by omega)
    · have e1 : (n == 0) = false := by simpa using (by omega : ¬ n = 0)
      have e2 : decide (0 < n) = false := decide_eq_false (by omega)
      rw [decide_eq_false h0, e1, e2]
      rfl

theorem rowX_fine {r : RowX} (h : r ∈ rowsX) : rowXFine r = true := List.all_eq_true.1 rowsX_fine _ h

theorem ops_eq (nm : List UInt8) : opsX nm = opsOf nm := by
  unfold opsX opsOf
  rw [fok_eq]
  cases hf : fokX nm
  · rfl
  · obtain ⟨e, hm⟩ := frow_eq hf
    have hfine := rowX_fine hm
    simp only [rowXFine, Bool.and_eq_true] at hfine
    rw [e]
    exact (opsG_eq hfine.1).1

theorem check_eq (i : InsT) : checkX i = encE i := by
  obtain ⟨nm, a, b, c, d, n⟩ := i
  unfold checkX encE
  simp only
  rw [fok_eq]
  cases hf : fokX nm
  · rfl
  obtain ⟨e, hm⟩ := frow_eq hf
  have hfine := rowX_fine hm
  simp only [rowXFine, Bool.and_eq_true] at hfine
  obtain ⟨o1, o2, o3, o4, o5, o6⟩ := opsG_eq hfine.1
  have hx : opsX nm = opsG (frowX nm).1 := by unfold opsX; rw [hf]; rfl
  have hc : (frow nm).2.1 = codeF (frowX nm).1 := by rw [e]; rfl
  rw [hc, hx, reg_eq o3, reg_eq o4, reg_eq o5, o2, o6]
  unfold faultyF
  simp only [Bool.not_true, cond_false, cond_true]
  cases (!regOk a (uA (codeF (frowX nm).1)))
  rotate_left
  · rfl
  cases (!regOk b (uB (codeF (frowX nm).1)))
  rotate_left
  · rfl
  cases (!regOk c (uC (codeF (frowX nm).1)))
  rotate_left
  · rfl
  cases (d != 0)
  rotate_left
  · rfl
  simp only [cond_false]
  cases hb : ((bnd (codeF (frowX nm).1)).1 == (bnd (codeF (frowX nm).1)).2.1)
  · rfl
  · have key : bnd (codeF (frowX nm).1) = (0, 0, 1) := by
      rcases form_eq hfine.1 with h | h | h | h | h | h | h | h | h <;> rw [h] at hb ⊢ <;> first | rfl | (exact absurd hb (by decide))
    rw [key]
    simp only [cond_true, Bool.true_and]
    cases hn : (n != 0)
    · have : n = 0 := by simpa using hn
      subst this
      rfl
    · rfl

/-! Words. -/

theorem bit_part {m : Nat} (hm : m < 2 ^ 32) {fr si : Nat} (h1 : fr ≤ 32) (h3 : si < 32) : bitX (m : Int) fr si = ((partN (m : Int) fr si : Nat) : Int) := by
  have e := at_eq hm (fr := fr) (bi := si) (at_ := 0) h1 (by omega) h3
  rw [Nat.shiftLeft_zero] at e
  rw [← e]
  unfold atF bitX
  have hz : Min.min (Int.toNat ((0 : Nat) : Int)) 32 = 0 := by simp
  rw [hz]
  generalize BitVec.toNat _ = x
  simp only [wrap_u32]
  omega

theorem part_mod (n : Int) {fr bi : Nat} (h : fr + bi ≤ 32) : partN (((n % 4294967296).toNat : Nat) : Int) fr bi = partN n fr bi := by
  have e1 := partN_int n (fr := fr) (bi := bi) (by omega)
  have e2 := partN_int (((n % 4294967296).toNat : Nat) : Int) (fr := fr) (bi := bi) (by omega)
  have hm : (((n % 4294967296).toNat : Nat) : Int) = n % 4294967296 := by omega
  rw [hm] at e2 ⊢
  have hp : (0 : Int) < 2 ^ fr := Int.pow_pos (by omega)
  have key : (n % 4294967296) / 2 ^ fr % 2 ^ bi = n / 2 ^ fr % 2 ^ bi := by
    have hs : (4294967296 : Int) = 2 ^ fr * (2 ^ bi * 2 ^ (32 - fr - bi)) := by
      rw [← Int.pow_add, ← Int.pow_add, show fr + (bi + (32 - fr - bi)) = 32 from by omega]; rfl
    have hn : n = n % 4294967296 + 2 ^ fr * (2 ^ bi * (2 ^ (32 - fr - bi) * (n / 4294967296))) := by
      rw [← Int.mul_assoc (2 ^ bi), ← Int.mul_assoc (2 ^ fr), ← hs]
      omega
    generalize n % 4294967296 = r at hn ⊢
    rw [hn, Int.add_mul_ediv_left _ _ (by omega), Int.add_mul_emod_self_left]
  omega

end Go.Rv
