/-
  What is encoded, somewhere in bytes, and decoded there. Conditions: none.
-/
import Derived.Test.YtffamklolgjjdaaAr13
import Derived.Test.YtffamklolgjjdaaAr17
namespace Go.Arm
open Go Go.Ab Go.Proofs Go.Wd

/-! What the law's parts come to. -/

theorem sub_len {l : List Int} {k : Nat} (h : k ≤ l.length) : (sub l 0 k).length = k := by
  simp only [sub, List.drop_zero, List.length_take]
  omega

theorem sub4 {l : List Int} {k : Nat} (h : k + 4 ≤ l.length) : sub l k (k + 4) = [l.getD k 0, l.getD (k + 1) 0, l.getD (k + 2) 0, l.getD (k + 3) 0] := by
  have e : sub l k (k + 4) = (l.drop k).take 4 := by
    simp only [sub, List.drop_take]
    congr 1
    omega
  rw [e, List.drop_eq_getElem_cons (by omega), List.drop_eq_getElem_cons (by omega), List.drop_eq_getElem_cons (by omega), List.drop_eq_getElem_cons (by omega)]
  rw [getD_lt (by omega), getD_lt (by omega), getD_lt (by omega), getD_lt (by omega)]
  rfl

theorem dec_err {l : List Int} {at_ : Int} (h : (dE l at_ != 0) = true) : dI l at_ = zeroI ∧ dN l at_ = 0 := by
  unfold dE at h
  unfold dI dN
  cases ho : outOf l at_
  · rw [ho] at h
    cases hs : shortOf l at_
    · rw [hs] at h
      cases hd : decOk (w4 l at_)
      · refine ⟨?_, rfl⟩
        show decI (w4 l at_) = zeroI
        unfold decOk at hd
        unfold decI
        cases hr : drow (w4 l at_) with
        | none => rfl
        | some r => rw [hr] at hd; cases hd
      · rw [hd] at h; cases h
    · exact ⟨rfl, rfl⟩
  · exact ⟨rfl, rfl⟩

theorem dec_fine {l : List Int} {at_ : Int} (hb : Bytes l) (hl : l.length < 1000000000) (h : (dE l at_ != 0) = false) :
    0 ≤ at_ ∧ at_ + 4 ≤ l.length ∧ dN l at_ = 4 ∧ (encE (dI l at_) == 0) = true ∧ bytes4 (encW (dI l at_)) = sub l at_.toNat (at_.toNat + 4) := by
  have h0 : dE l at_ = 0 := by simpa [bne] using h
  unfold dE at h0
  unfold dI dN
  cases ho : outOf l at_
  · rw [ho] at h0
    cases hs : shortOf l at_
    · rw [hs] at h0
      cases hd : decOk (w4 l at_)
      · rw [hd] at h0; cases h0
      · have g1 : 0 ≤ at_ ∧ at_ ≤ l.length := by
          simp only [outOf, Bool.or_eq_false_iff, decide_eq_false_iff_not] at ho
          omega
        have g2 : at_ + 4 ≤ l.length := by
          simp only [shortOf, decide_eq_false_iff_not] at hs
          rw [wrap_i64 (by omega) (by omega)] at hs
          omega
        have hw := w4_sum hb g1.1 g2 hl
        obtain ⟨r0, r1⟩ := sum4_rng hb at_.toNat
        rw [hw] at hd ⊢
        obtain ⟨e1, e2⟩ := enc_dec hd
        refine ⟨g1.1, g2, rfl, e1, ?_⟩
        show bytes4 (encW (decI (sum4 l at_.toNat))) = _
        rw [e2, bytes4_sum4 hb, sub4 (by omega)]
    · rw [hs] at h0; cases h0
  · rw [ho] at h0; cases h0

section
variable {i : InsT} {p s : List Int}

theorem bytes_all (h : (encE i == 0) = true) (hp : Bytes p) (hs : Bytes s) : Bytes (p ++ bytes4 (encW i) ++ s) := by
  have hw := bytes4_bytes (encW_rng h).1
  intro x hx
  rcases List.mem_append.1 hx with hx | hx
  · rcases List.mem_append.1 hx with hx | hx
    · exact hp x hx
    · exact hw x hx
  · exact hs x hx

theorem len_all (i : InsT) (p s : List Int) : (p ++ bytes4 (encW i) ++ s).length = p.length + 4 + s.length := by
  simp [bytes4]
  omega

theorem back_dec (hr : InRng i) (h : (encE i == 0) = true) (hp : Bytes p) (hs : Bytes s) (lp : p.length ≤ 200) (ls : s.length ≤ 200) :
    dE (p ++ bytes4 (encW i) ++ s) p.length = 0 ∧ dI (p ++ bytes4 (encW i) ++ s) p.length = i ∧ dN (p ++ bytes4 (encW i) ++ s) p.length = 4 := by
  have hlen := len_all i p s
  have hb := bytes_all h hp hs
  have ho : outOf (p ++ bytes4 (encW i) ++ s) p.length = false := by
    simp only [outOf, Bool.or_eq_false_iff, decide_eq_false_iff_not]
    omega
  have hsh : shortOf (p ++ bytes4 (encW i) ++ s) p.length = false := by
    simp only [shortOf, decide_eq_false_iff_not]
    rw [wrap_i64 (by omega) (by omega)]
    omega
  have hw : w4 (p ++ bytes4 (encW i) ++ s) p.length = encW i := by
    rw [w4_sum hb (by omega) (by omega) (by omega), Int.toNat_natCast]
    exact sum4_bytes4 (encW_rng h).1 (encW_rng h).2
  obtain ⟨d1, d2⟩ := dec_enc hr h
  refine ⟨?_, ?_, ?_⟩
  · unfold dE; rw [ho, hsh, hw, d1]; rfl
  · unfold dI; rw [ho, hsh, hw, d2]; rfl
  · unfold dN; rw [ho, hsh, hw, d1]; rfl

theorem back_cut {L : List Int} {X : Int} {k : Nat} (lp : p.length ≤ 200) (hk : k < 4) (hL : p.length + 4 ≤ L.length) (hX : X = p.length + k) :
    (true && decide (0 ≤ X) && decide (X ≤ L.length)) = true ∧ decide ((sub L 0 X.toNat).length < 1000000000) = true ∧ (dE (sub L 0 X.toNat) p.length != 2) = false := by
  subst hX
  have hs : (sub L 0 ((p.length : Int) + k).toNat).length = p.length + k := by
    rw [show ((p.length : Int) + k).toNat = p.length + k from by omega]
    exact sub_len (by omega)
  refine ⟨?_, ?_, ?_⟩
  · simp only [Bool.true_and, Bool.and_eq_true, decide_eq_true_eq]
    omega
  · rw [hs]
    exact decide_eq_true (by omega)
  · have ho : outOf (sub L 0 ((p.length : Int) + k).toNat) p.length = false := by
      simp only [outOf, Bool.or_eq_false_iff, decide_eq_false_iff_not, hs]
      omega
    have hsh : shortOf (sub L 0 ((p.length : Int) + k).toNat) p.length = true := by
      simp only [shortOf, decide_eq_true_eq, hs]
      rw [wrap_i64 (by omega) (by omega)]
      omega
    unfold dE
    rw [ho, hsh]
    rfl
end


end Go.Arm
