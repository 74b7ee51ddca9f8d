/-
  compact's long ones, plainly: the long one of what is short is short again. Conditions: none.
-/
import Derived.Test.YtaedihkgdmaofaaDoorCm23
import Derived.Test.YtaedihkgdmaofaaDoorCmQ
namespace Go.Cmp
open Go Go.Ab

/-- A row's letters are in its long one; the number too. -/
def lett (p : RowT × LongT) (i : InsT) : Int × Int × Int × Int :=
  (lastF 1 p.2 (wideF p.2 i), lastF 2 p.2 (wideF p.2 i), lastF 3 p.2 (wideF p.2 i), cond p.2.2.2.2.2 (wideF p.2 i).2.2.2.2.2 0)
def lettO (p : RowT × LongT) (i : InsT) : Int × Int × Int × Int :=
  (cond (hasF p.1 97).2 i.2.1 0, cond (hasF p.1 98).2 i.2.2.1 0, cond (hasF p.1 99).2 i.2.2.2.1 0, cond (hasF p.1 115).2 i.2.2.2.2.2 0)
theorem lett_all : pairsW.map lett = pairsW.map lettO := by kernel_rfl

theorem reg_absent {x : RowT} {c n : Int} (h : regF x c n = true) : cond (hasF x c).2 n 0 = n := by
  unfold regF at h
  cases hh : (hasF x c).2
  · rw [hh, cond_false] at h
    exact (eq_of_beq h).symm
  · rfl
theorem narrow_wide {x : RowT} (hx : x ∈ rowsL) {i : InsT} (h : faultyF x i = 0) (hn : i.1 = x.1) : narrowF x (longs x) (wideF (longs x) i) = i := by
  obtain ⟨h1, h2, h3, h4, h5, _⟩ := faulty_parts h
  have hl := congrFun (List.map_inj_left.1 lett_all _ (pairsW_mem hx)) i
  unfold lett lettO at hl
  simp only [Prod.mk.injEq] at hl
  obtain ⟨l1, l2, l3, l4⟩ := hl
  rw [reg_absent h1] at l1
  rw [reg_absent h2] at l2
  rw [reg_absent h3] at l3
  have h5 : cond (hasF x 115).2 i.2.2.2.2.2 0 = i.2.2.2.2.2 := by
    cases hh : (hasF x 115).2
    · rw [hh, Bool.false_or] at h5
      exact (eq_of_beq h5).symm
    · rfl
  rw [h5] at l4
  unfold narrowF
  rw [l1, l2, l3, l4, ← hn, ← h4]
theorem insEq_eq {i j : InsT} (h : insEq i j = true) : i = j := by
  unfold insEq at h
  simp only [strEq, Bool.and_eq_true, beq_iff_eq] at h
  obtain ⟨h1, h2, h3, h4, h5, h6, _⟩ := h
  exact Prod.ext h1 (Prod.ext h2 (Prod.ext h3 (Prod.ext h4 (Prod.ext h5 h6))))
theorem insEq_self (i : InsT) : insEq i i = true := by
  unfold insEq
  simp [strEq]
section
variable {x : RowT} {w : InsT}
theorem narrow_spec (h : narrowB x (longs x) w = true) : faultyF x (narrowF x (longs x) w) = 0 ∧ wideF (longs x) (narrowF x (longs x) w) = w := by
  unfold narrowB at h
  simp only [Bool.and_eq_true, beq_iff_eq] at h
  exact ⟨h.2.1, insEq_eq h.2.2⟩
theorem narrow_of (hx : x ∈ rowsL) {i : InsT} (h : faultyF x i = 0) (hn : i.1 = x.1) : narrowB x (longs x) (wideF (longs x) i) = true := by
  unfold narrowB
  rw [narrow_wide hx h hn, h, insEq_self, Bool.and_true]
  show (strEq (longs x).1 (longs x).1 && true) = true
  simp [strEq]
end

/-- What is short is a form of the long one. -/
theorem short_wide {w : InsT} (h : shOk w = true) : encE (shI w) = 0 ∧ wideA (shI w) = w := by
  unfold shOk at h
  obtain ⟨x, hr⟩ := Option.isSome_iff_exists.1 h
  have hx : x ∈ rowsL := List.mem_of_find?_eq_some hr
  have hp : narrowB x (longs x) w = true := List.find?_some (p := shP w) hr
  obtain ⟨h1, h2⟩ := narrow_spec hp
  obtain ⟨o1, o2⟩ := row_names hx
  have e : shI w = narrowF x (longs x) w := by unfold shI; rw [hr]
  have hE : encE (shI w) = 0 := by
    rw [e]
    unfold encE
    show cond (fok x.1) (faultyF (frow x.1) (narrowF x (longs x) w)) 7 = 0
    rw [o1, o2, cond_true, h1]
  refine ⟨hE, ?_⟩
  unfold wideA
  rw [hE, e]
  show wideF (longs (frow x.1)) (narrowF x (longs x) w) = w
  rw [o1, h2]
/-- The long one of what may be has a short one. -/
theorem wide_short {i : InsT} (h : encE i = 0) : shOk (wideA i) = true := by
  obtain ⟨h1, h2⟩ := enc_parts h
  obtain ⟨hx, hn, _⟩ := frow_mem h1
  have hw : wideA i = wideF (longs (frow i.1)) i := by unfold wideA; rw [h]; rfl
  have hp := narrow_of hx h2 hn.symm
  rw [← hw] at hp
  unfold shOk shrow
  rw [List.find?_isSome]
  exact ⟨_, hx, hp⟩

end Go.Cmp
