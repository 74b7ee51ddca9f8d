/-
  The document's At is the program's. Conditions: none.
-/
import Derived.Test.YtffamklolgjjdaaAr4
namespace Go.Arm
open Go Go.Ab Go.Proofs Go.Wd

/-- The context of foundry/foundryref10.At. -/
noncomputable def cx48 : Cx := { P := Try.prog, n := 54, tab := [(62, sizeS), (53, highS), (63, elemS)], mtab := [], refs := [], keeps := [0, 1, 2, 6, 7, 8, 9, 31, 41, 49] }
noncomputable def atXT (n r s : Int) : Tree V :=
  (.br (decide (n < 0)) (.leaf (.tup [(.int .u64 0), (.bool false)])) (.br (decide (1 < n)) (.leaf (.tup [(.int .u64 0), (.bool false)])) (.br (decide (r < 0)) (.leaf (.tup [(.int .u64 0), (.bool false)])) (.br (decide (63 < r)) (.leaf (.tup [(.int .u64 0), (.bool false)])) (.br (decide (s < 0)) (.leaf (.tup [(.int .u64 0), (.bool false)])) (.br (decide (63 < s)) (.leaf (.tup [(.int .u64 0), (.bool false)])) (.br (sizeF n s == 0) (.leaf (.tup [(.int .u64 0), (.bool false)])) (.br (decide (sizeF n s ≤ r)) (.leaf (.tup [(.int .u64 0), (.bool false)])) (.br (decide (sizeF n s ≤ IntKind.wrap IntKind.i64 (IntKind.wrap IntKind.i64 (s - highF (sizeF n s)) + 1))) (.leaf (.tup [(.int .u64 0), (.bool false)])) (.br (decide (1 ≤ sizeF n s) && decide (sizeF n s ≤ 64)) (.br (decide (0 ≤ IntKind.wrap IntKind.i64 (IntKind.wrap IntKind.i64 (s - highF (sizeF n s)) + 1)) && decide (IntKind.wrap IntKind.i64 (IntKind.wrap IntKind.i64 (s - highF (sizeF n s)) + 1) ≤ 64)) (.br (decide (0 ≤ r) && decide (r ≤ 63)) (.leaf (.tup [(.int .u64 (↑(elemN (Int.toNat (sizeF n s)) (Int.toNat (IntKind.wrap IntKind.i64 (IntKind.wrap IntKind.i64 (s - highF (sizeF n s)) + 1))) (Int.toNat r) 64))), (.bool true)])) .fail) .fail) .fail))))))))))

theorem atXT_eq (n r s : Int) : (dfun cx48 Try.f48 [.int .i64 n, .int .i64 r, .int .i64 s]).run = (atXT n r s).run :=
  (show (dfun cx48 Try.f48 [.int .i64 n, .int .i64 r, .int .i64 s]).run = (atXT n r s).out by kernel_rfl).trans (Tree.out_run _)


theorem size_el {n s : Nat} (hn : n ≤ 1) (hs : s ≤ 63) : sizeF (n : Int) (s : Int) = (elE n s : Nat) ∧ (elE n s = 0 ∨ (IntKind.wrap .i64 (IntKind.wrap .i64 ((s : Int) - highF (elE n s : Nat)) + 1) = (elC n s : Nat) ∧ elE n s ∈ [2, 4, 8, 16, 32, 64])) := by
  have h := List.all_eq_true.1 size_all (n * 64 + s) (List.mem_range.2 (by omega))
  simp only [show (n * 64 + s) / 64 = n from by omega, show (n * 64 + s) % 64 = s from by omega, Bool.and_eq_true, Bool.or_eq_true, decide_eq_true_eq] at h
  refine ⟨h.1, ?_⟩
  rcases h.2 with h | h
  · exact .inl (Nat.eq_of_beq_eq_true h)
  · exact .inr ⟨h.1, hasN_mem h.2⟩

theorem elem_eq {e c r : Nat} (he : e ∈ [2, 4, 8, 16, 32, 64]) (c0 : 0 < c) (c1 : c < e) (r1 : r < e) : elemN e c r 64 = maskM e c r :=
  Nat.eq_of_beq_eq_true (allT_spec elem_mask he c0 c1 r1)

theorem atXT_run (n r s : Int) : (atXT n r s).run = some (.tup [.int .u64 (atV n r s : Nat), .bool (atOk n r s)]) := by
  unfold atXT atV atOk atIn
  by_cases c1 : n < 0
  · rw [decide_eq_true c1, decide_eq_false (show ¬ 0 ≤ n by omega)]
    rfl
  by_cases c2 : 1 < n
  · rw [decide_eq_false c1, decide_eq_true c2, decide_eq_false (show ¬ n ≤ 1 by omega), decide_eq_true (show 0 ≤ n by omega)]
    rfl
  by_cases c3 : r < 0
  · rw [decide_eq_false c1, decide_eq_false c2, decide_eq_true c3, decide_eq_true (show n ≤ 1 by omega), decide_eq_true (show 0 ≤ n by omega), decide_eq_false (show ¬ 0 ≤ r by omega)]
    rfl
  by_cases c4 : 63 < r
  · rw [decide_eq_false c1, decide_eq_false c2, decide_eq_false c3, decide_eq_true c4, decide_eq_true (show n ≤ 1 by omega), decide_eq_true (show 0 ≤ n by omega), decide_eq_true (show 0 ≤ r by omega), decide_eq_false (show ¬ r ≤ 63 by omega)]
    rfl
  by_cases c5 : s < 0
  · rw [decide_eq_false c1, decide_eq_false c2, decide_eq_false c3, decide_eq_false c4, decide_eq_true c5, decide_eq_true (show n ≤ 1 by omega), decide_eq_true (show 0 ≤ n by omega), decide_eq_true (show 0 ≤ r by omega), decide_eq_true (show r ≤ 63 by omega), decide_eq_false (show ¬ 0 ≤ s by omega)]
    rfl
  by_cases c6 : 63 < s
  · rw [decide_eq_false c1, decide_eq_false c2, decide_eq_false c3, decide_eq_false c4, decide_eq_false c5, decide_eq_true c6, decide_eq_true (show n ≤ 1 by omega), decide_eq_true (show 0 ≤ n by omega), decide_eq_true (show 0 ≤ r by omega), decide_eq_true (show r ≤ 63 by omega), decide_eq_true (show 0 ≤ s by omega), decide_eq_false (show ¬ s ≤ 63 by omega)]
    rfl
  obtain ⟨n, rfl⟩ := Int.eq_ofNat_of_zero_le (show 0 ≤ n by omega)
  obtain ⟨r, rfl⟩ := Int.eq_ofNat_of_zero_le (show 0 ≤ r by omega)
  obtain ⟨s, rfl⟩ := Int.eq_ofNat_of_zero_le (show 0 ≤ s by omega)
  obtain ⟨e1, e2⟩ := size_el (n := n) (s := s) (by omega) (by omega)
  rw [decide_eq_false c1, decide_eq_false c2, decide_eq_false c3, decide_eq_false c4, decide_eq_false c5, decide_eq_false c6, decide_eq_true (show (n : Int) ≤ 1 by omega), decide_eq_true (show 0 ≤ (n : Int) by omega), decide_eq_true (show 0 ≤ (r : Int) by omega), decide_eq_true (show (r : Int) ≤ 63 by omega), decide_eq_true (show 0 ≤ (s : Int) by omega), decide_eq_true (show (s : Int) ≤ 63 by omega), e1]
  have le := elE_le n s
  simp only [Int.toNat_natCast]
  unfold atVN atOkN
  have hO : elOk n s = cond (Nat.beq (elE n s) 0) false (Nat.blt (elC n s) (elE n s)) := rfl
  have hC : elC n s = cond (Nat.beq (elE n s) 0) 0 (s % elE n s + 1) := rfl
  rcases e2 with e0 | ⟨e2, e3⟩
  · rw [e0] at hO ⊢
    rw [hO]
    rfl
  rw [e2]
  have pos : 1 ≤ elE n s := by
    simp only [List.mem_cons, List.not_mem_nil, or_false] at e3
    omega
  have hb : Nat.beq (elE n s) 0 = false := by
    cases h : Nat.beq (elE n s) 0
    · rfl
    · have := Nat.eq_of_beq_eq_true h; omega
  rw [hb] at hO hC
  have hC : elC n s = s % elE n s + 1 := hC
  have hO : elOk n s = Nat.blt (elC n s) (elE n s) := hO
  have hm := Nat.mod_lt s (show elE n s > 0 by omega)
  have hbe : ((elE n s : Int) == 0) = false := by simp; omega
  show (Tree.br ((elE n s : Int) == 0) _ _).run = _
  refine (br_f hbe).trans ?_
  by_cases c7 : r < elE n s
  · refine (br_f (decide_eq_false (by omega))).trans ?_
    by_cases c8 : elC n s < elE n s
    · refine (br_f (decide_eq_false (by omega))).trans ?_
      rw [decide_eq_true (show (1 : Int) ≤ (elE n s : Int) by omega), decide_eq_true (show (elE n s : Int) ≤ 64 by omega), decide_eq_true (show (elC n s : Int) ≤ 64 by omega), decide_eq_true (show (0 : Int) ≤ (elC n s : Int) by omega), hO, blt_true c8, blt_true c7]
      show some _ = some _
      rw [Int.toNat_natCast, elem_eq e3 (by omega) c8 c7]
      rfl
    · refine (br_t (decide_eq_true (by omega))).trans ?_
      rw [hO, blt_false c8]
      rfl
  · refine (br_t (decide_eq_true (by omega))).trans ?_
    rw [blt_false c7]
    cases elOk n s <;> rfl

theorem atXS_ok : Sound Try.prog 48 atS := by
  intro args out h
  unfold atS at h
  split at h
  rotate_left
  · cases h
  have h := leaf_out h
  subst h
  refine pcall_fun' (cx := cx48) (fn := Try.f48) (cx1_ok (.cons sizeS_ok (.cons highS_ok (ok1 elemS_ok))) (.nil _) rfl rfl) (by kernel_rfl) (by kernel_rfl) (by kernel_rfl) ?_
  rw [atXT_eq]
  exact atXT_run _ _ _
end Go.Arm
