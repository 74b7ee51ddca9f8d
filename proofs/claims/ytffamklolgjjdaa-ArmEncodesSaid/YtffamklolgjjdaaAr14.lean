/-
  Masks, plainly: what Of tells At gives back; a mask's bits turned are a mask. Conditions: none.
-/
import Derived.Test.YtffamklolgjjdaaAr6
namespace Go.Arm
open Go Go.Ab Go.Proofs Go.Wd

def eL : List Nat := [2, 4, 8, 16, 32, 64]

theorem ofE_mem (m : Nat) : ofE m ∈ eL := by
  unfold ofE eL
  cases pE m 2 <;> cases pE m 4 <;> cases pE m 8 <;> cases pE m 16 <;> cases pE m 32 <;> simp

theorem ofE_rep {m : Nat} (hm : m < 2 ^ 64) : spreadN 7 (ofX m) (ofE m) = m := by
  have key : ofE m = 64 ∨ pE m (ofE m) = true := by
    unfold ofE
    cases h2 : pE m 2
    rotate_left
    · exact .inr h2
    cases h4 : pE m 4
    rotate_left
    · exact .inr h4
    cases h8 : pE m 8
    rotate_left
    · exact .inr h8
    cases h16 : pE m 16
    rotate_left
    · exact .inr h16
    cases h32 : pE m 32
    rotate_left
    · exact .inr h32
    exact .inl rfl
  rcases key with h | h
  · unfold ofX
    rw [h]
    show m &&& (2 ^ 64 - 1) = m
    rw [Nat.and_two_pow_sub_one_eq_mod, Nat.mod_eq_of_lt hm]
  · exact Nat.eq_of_beq_eq_true h

/-- Elements that are none or all ones. -/
theorem dull_all : eL.all (fun e => (List.range 128).all fun c => (List.range e).all fun r => (Nat.blt 0 c && Nat.blt c e) || (Nat.beq (maskM e c r) 0 || Nat.beq (maskM e c r) 18446744073709551615)) = true := by kernel_rfl

theorem of_mask {m r : Nat} (hm : m < 2 ^ 64) (h : ofFind m = some r) : 0 < ofC m ∧ ofC m < ofE m ∧ r < ofE m ∧ maskM (ofE m) (ofC m) r = m := by
  unfold ofFind at h
  cases h0 : (Nat.beq m 0 || Nat.beq m 18446744073709551615)
  rotate_left
  · rw [h0] at h; cases h
  rw [h0, cond_false, List.find?_range_eq_some] at h
  obtain ⟨h1, h2, _⟩ := h
  have h2 := List.mem_range.1 h2
  have hmask : maskM (ofE m) (ofC m) r = m := by
    unfold maskM
    rw [Nat.eq_of_beq_eq_true h1]
    exact ofE_rep hm
  have hd := List.all_eq_true.1 (List.all_eq_true.1 (List.all_eq_true.1 dull_all _ (ofE_mem m)) (ofC m) (List.mem_range.2 (cntN_lt _))) r (List.mem_range.2 h2)
  rw [hmask, h0, Bool.or_false] at hd
  obtain ⟨g1, g2⟩ := Bool.and_eq_true_iff.1 hd
  exact ⟨Nat.le_of_ble_eq_true g1, Nat.le_of_ble_eq_true g2, h2, hmask⟩

def nOf (e : Nat) : Nat := cond (Nat.beq e 64) 1 0
theorem back_all : allT (fun e c r => (atOkN (nOf e) r (imsI e c).toNat && Nat.beq (atVN (nOf e) r (imsI e c).toNat) (maskM e c r)) && (decide (0 ≤ imsI e c) && decide (imsI e c ≤ 63))) = true := by kernel_rfl

/-- What Of tells. -/
theorem of_back {m : Nat} (hm : m < 2 ^ 64) (h : ofOk m = true) :
    (0 ≤ ofVN m ∧ ofVN m ≤ 1) ∧ (0 ≤ ofVR m ∧ ofVR m ≤ 63) ∧ (0 ≤ ofVS m ∧ ofVS m ≤ 63) ∧ atV (ofVN m) (ofVR m) (ofVS m) = m := by
  have h' := h
  unfold ofOk at h
  obtain ⟨r, hr⟩ := Option.isSome_iff_exists.1 h
  obtain ⟨g1, g2, g3, g4⟩ := of_mask hm hr
  have hb := allT_spec back_all (ofE_mem m) g1 g2 g3
  simp only [Bool.and_eq_true, decide_eq_true_eq] at hb
  obtain ⟨⟨b1, b2⟩, b3, b4⟩ := hb
  have e64 := (ofE_ok m).2
  have eN : ofVN m = (nOf (ofE m) : Nat) := by
    unfold ofVN nOf
    rw [h', cond_true]
    cases Nat.beq (ofE m) 64 <;> rfl
  have eR : ofVR m = (r : Nat) := by unfold ofVR; rw [hr]; rfl
  have eS : ofVS m = imsI (ofE m) (ofC m) := by unfold ofVS; rw [h']; rfl
  have nle : nOf (ofE m) ≤ 1 := by unfold nOf; cases Nat.beq (ofE m) 64 <;> decide
  refine ⟨by rw [eN]; omega, by rw [eR]; omega, by rw [eS]; omega, ?_⟩
  rw [eN, eR, eS]
  unfold atV
  have hin : atIn (nOf (ofE m) : Nat) (r : Nat) (imsI (ofE m) (ofC m)) = true := by
    simp only [atIn, Bool.and_eq_true, decide_eq_true_eq]
    omega
  rw [hin, cond_true, Int.toNat_natCast, Int.toNat_natCast, Nat.eq_of_beq_eq_true b2, g4]

/-! The bits turned. -/

def flip (m : Nat) : Nat := 18446744073709551615 - m
theorem flip_all : allT (fun e c r => Nat.beq (ofE (flip (maskM e c r))) e && (pR (ofX (flip (maskM e c r))) e (ofC (flip (maskM e c r))) ((r + e - c) % e) && !(Nat.beq (flip (maskM e c r)) 0 || Nat.beq (flip (maskM e c r)) 18446744073709551615))) = true := by kernel_rfl

theorem of_flip {m : Nat} (hm : m < 2 ^ 64) (h : ofOk m = true) : ofOk (flip m) = true := by
  unfold ofOk at h
  obtain ⟨r, hr⟩ := Option.isSome_iff_exists.1 h
  obtain ⟨g1, g2, g3, g4⟩ := of_mask hm hr
  have hb := allT_spec flip_all (ofE_mem m) g1 g2 g3
  rw [g4] at hb
  simp only [Bool.and_eq_true, Bool.not_eq_true'] at hb
  obtain ⟨b1, b2, b3⟩ := hb
  have b1 := Nat.eq_of_beq_eq_true b1
  unfold ofOk ofFind
  rw [b3, cond_false, List.find?_isSome]
  refine ⟨(r + ofE m - ofC m) % ofE m, List.mem_range.2 ?_, ?_⟩
  · rw [b1]; exact Nat.mod_lt _ (by omega)
  · rw [b1]; exact b2

theorem flip_ok {m : Nat} (hm : m < 2 ^ 64) : ofOk (flip m) = ofOk m := by
  have hf : flip m < 2 ^ 64 := by unfold flip; omega
  have hff : flip (flip m) = m := by unfold flip; omega
  cases h : ofOk m
  · cases h2 : ofOk (flip m)
    · rfl
    · have := of_flip hf h2
      rw [hff, h] at this
      cases this
  · exact of_flip hm h

end Go.Arm
