/-
  The registers read back, of what is taken of REX. Conditions: none.
-/
import Derived.Test.YtbanejncffdihaaPk13
set_option linter.unusedVariables false
set_option linter.unusedSimpArgs false
namespace Go.Amd
open Go Go.Ab Go.Proofs
theorem takR_bits {x : RowT} (hx : x ∈ rowsL) {i : InsT} (h : okF x i.2.1 i.2.2.1 i.2.2.2.1 i.2.2.2.2.1 = true) :
    bitF (takR x i) 4 = 8 * (rI x i / 4 % 2) ∧ bitF (takR x i) 2 = 8 * (rI x i / 2 % 2) ∧ bitF (takR x i) 1 = 8 * (rI x i % 2) := by
  obtain ⟨r0, r1, -⟩ := rI_rng hx h
  obtain ⟨b1, b2, b3⟩ := bit_eq (takR_rng hx h).1 (takR_rng hx h).2
  rw [b1, b2, b3]
  unfold takR
  cases (x.2.1 == 1)
  · rw [cond_false]; exact ⟨rfl, rfl, rfl⟩
  · rw [cond_true]
    refine ⟨?_, ?_, ?_⟩ <;> omega
theorem wi_small {n : Int} (h0 : 0 ≤ n) (h1 : n < 256) : wi n = n := by
  rw [wi_eq]
  omega
theorem reg_back {x : RowT} (hx : x ∈ rowsL) {i : InsT} (h : okF x i.2.1 i.2.2.1 i.2.2.2.1 i.2.2.2.2.1 = true) (ha : 0 ≤ i.2.1 ∧ i.2.1 < 16) (hf : formR x = 1 ∨ formR x = 2) :
    wi (i.2.1 % 8 + bitF (takR x i) 1) = i.2.1 := by
  have hr : rI x i = i.2.1 / 8 := by
    unfold rI
    rcases hf with e | e <;> rw [e] <;> exact hi_eq ha.1 ha.2
  rw [(takR_bits hx h).2.2, hr, wi_small (by omega) (by omega)]
  omega
theorem low_back {x : RowT} (hx : x ∈ rowsL) {i : InsT} (h : okF x i.2.1 i.2.2.1 i.2.2.2.1 i.2.2.2.2.1 = true) {m p q : Int} (m0 : 0 ≤ m) (m1 : m < 4) (p0 : 0 ≤ p) (p1 : p < 16) (q0 : 0 ≤ q) (q1 : q < 16) (hr : rI x i % 2 = q / 8) :
    lowF (mrB m p q) (takR x i) = q := by
  have hc := mrB_eq m0 m1 p0 p1 q0 q1
  obtain ⟨b1, b2, b3⟩ := bit_eq (takR_rng hx h).1 (takR_rng hx h).2
  have hb := (takR_bits hx h).2.2
  rw [b3] at hb
  rw [lowF_eq (by rw [hc]; omega) (by rw [hc]; omega) (takR_rng hx h).1 (takR_rng hx h).2, hc]
  omega
theorem mid_back {x : RowT} (hx : x ∈ rowsL) {i : InsT} (h : okF x i.2.1 i.2.2.1 i.2.2.2.1 i.2.2.2.2.1 = true) {m p q : Int} (m0 : 0 ≤ m) (m1 : m < 4) (p0 : 0 ≤ p) (p1 : p < 16) (q0 : 0 ≤ q) (q1 : q < 16) (hr : rI x i / 4 % 2 = p / 8) :
    midF (mrB m p q) (takR x i) = p := by
  have hc := mrB_eq m0 m1 p0 p1 q0 q1
  obtain ⟨b1, b2, b3⟩ := bit_eq (takR_rng hx h).1 (takR_rng hx h).2
  have hb := (takR_bits hx h).1
  rw [b1] at hb
  rw [midF_eq (by rw [hc]; omega) (by rw [hc]; omega) (takR_rng hx h).1 (takR_rng hx h).2, hc]
  omega
end Go.Amd

namespace Go.Amd
open Go Go.Ab Go.Proofs
theorem ok_rng {x : RowT} {i : InsT} (h : okF x i.2.1 i.2.2.1 i.2.2.2.1 i.2.2.2.2.1 = true) : (0 ≤ i.2.1 ∧ i.2.1 < 16) ∧ (0 ≤ i.2.2.2.2.1 ∧ i.2.2.2.2.1 < 16) := by
  rcases ok_parts h with ⟨-, h2, h3⟩ | ⟨-, h2, -, -, h5⟩
  · refine ⟨reg_rng h2, ?_⟩
    rcases place_rng h3 with ⟨-, -, hd⟩ | ⟨-, -, hd⟩ | ⟨-, -, -, hd⟩ <;> omega
  · refine ⟨reg_rng h2, ?_⟩
    rcases h5 with hd | ⟨-, hd⟩
    · omega
    · exact cond_rng hd
theorem rest_form {x : RowT} (hx : x ∈ rowsL) {i : InsT} (h : okF x i.2.1 i.2.2.1 i.2.2.2.1 i.2.2.2.2.1 = true) (h9 : uM x = false) (c : Int) (t : List Int) (k : Int) :
    restQ (takR x i) x (headI x i) c t k = formQ (formR x) (takR x i) x (headI x i) c t k i.2.2.2.2.1 := by
  obtain ⟨ha, hd⟩ := ok_rng h
  unfold restQ
  cases hc : condR x
  · rw [cond_false]
    have h0 : i.2.2.2.2.1 = 0 := by
      rcases ok_parts h with ⟨h1, -⟩ | ⟨-, -, -, -, h5⟩
      · rw [h9] at h1; cases h1
      · rcases h5 with e | ⟨e, -⟩
        · exact e
        · rw [hc] at e; cases e
    rw [h0]
  · rw [cond_true]
    exact say_cond hx h ha hd hc _
theorem ok_zero {x : RowT} {i : InsT} (h : okF x i.2.1 i.2.2.1 i.2.2.2.1 i.2.2.2.2.1 = true) (h9 : uM x = false) : (uA x = false → i.2.1 = 0) ∧ (uB x = false → i.2.2.1 = 0) ∧ i.2.2.2.1 = 0 ∧ (0 ≤ i.2.2.1 ∧ i.2.2.1 < 16) := by
  rcases ok_parts h with ⟨h1, -⟩ | ⟨-, h2, h3, h4, -⟩
  · rw [h9] at h1; cases h1
  · refine ⟨fun hu => ?_, fun hu => ?_, h4, reg_rng h3⟩
    · rw [hu] at h2; exact reg_zero h2
    · rw [hu] at h3; exact reg_zero h3
theorem back_0 {x : RowT} (hx : x ∈ rowsL) {i : InsT} (hn : x.1 = i.1) (he : faultyF x i = 0) (hf : formR x = 0) (t : List Int) (k : Int) :
    restQ (takR x i) x (headI x i) 0 t k = .ok (i, k) := by
  have h := faulty_ok he
  have h9 : uM x = false := by unfold uM; rw [hf]; rfl
  obtain ⟨z1, z2, z3, -⟩ := ok_zero h h9
  have e1 := z1 (by unfold uA; rw [hf]; rfl)
  have e2 := z2 (by unfold uB; rw [hf]; rfl)
  have e3 := (ok_imm he).2 (by unfold uI; rw [hf]; rfl)
  obtain ⟨nm, a, b, c, d, n⟩ := i
  simp only at hn e1 e2 e3 z3
  subst hn e1 e2 e3 z3
  rw [rest_form hx h h9, hf]
  exact finQ_ok he k
theorem formQ_1 (R : Int) (x : RowT) (op : List Int) (c : Int) (t : List Int) (k d : Int) : formQ 1 R x op c t k d = lastQ x op fun a => finQ x (x.1, wi (a + bitF R 1), 0, 0, d, 0) k := rfl
theorem back_1 {x : RowT} (hx : x ∈ rowsL) {i : InsT} (hn : x.1 = i.1) (he : faultyF x i = 0) (hf : formR x = 1) (t : List Int) (k : Int) :
    restQ (takR x i) x (headI x i) 0 t k = .ok (i, k) := by
  have h := faulty_ok he
  have h9 : uM x = false := by unfold uM; rw [hf]; rfl
  obtain ⟨ha, hd⟩ := ok_rng h
  obtain ⟨z1, z2, z3, -⟩ := ok_zero h h9
  have e2 := z2 (by unfold uB; rw [hf]; rfl)
  have e3 := (ok_imm he).2 (by unfold uI; rw [hf]; rfl)
  have hr := reg_back hx h ha (.inl hf)
  have hs := say_reg hx h ha hd (.inl hf)
  rw [rest_form hx h h9]
  obtain ⟨nm, a, b, c, d, n⟩ := i
  simp only at hn e2 e3 z3 hr hs ⊢
  subst hn e2 e3 z3
  rw [hf]
  rw [formQ_1, hs, hr]
  exact finQ_ok he k
end Go.Amd

namespace Go.Amd
open Go Go.Ab Go.Proofs
def immR (x : RowT) : Bool := cond (formR x == 5 || formR x == 12) (decide (-128 ≤ lowR x) && decide (highR x < 128)) (cond (formR x == 2) (decide (-9223372036854775808 ≤ lowR x) && decide (highR x < 9223372036854775808))
  (decide (-2147483648 ≤ lowR x) && decide (highR x < 2147483648)))
theorem imm_all : rowsL.all immR = true := by kernel_rfl
theorem imm_1 {x : RowT} (hx : x ∈ rowsL) (hf : formR x = 5 ∨ formR x = 12) : -128 ≤ lowR x ∧ highR x < 128 := by
  have := List.all_eq_true.1 imm_all x hx
  unfold immR at this
  have e : (formR x == 5 || formR x == 12) = true := by rcases hf with e | e <;> rw [e] <;> rfl
  rw [e, cond_true] at this
  obtain ⟨h1, h2⟩ := Bool.and_eq_true_iff.1 this
  exact ⟨of_decide_eq_true h1, of_decide_eq_true h2⟩
theorem imm_8 {x : RowT} (hx : x ∈ rowsL) (hf : formR x = 2) : -9223372036854775808 ≤ lowR x ∧ highR x < 9223372036854775808 := by
  have := List.all_eq_true.1 imm_all x hx
  unfold immR at this
  rw [hf] at this
  obtain ⟨h1, h2⟩ := Bool.and_eq_true_iff.1 this
  exact ⟨of_decide_eq_true h1, of_decide_eq_true h2⟩
theorem imm_4 {x : RowT} (hx : x ∈ rowsL) (hf : formR x = 4 ∨ formR x = 6 ∨ formR x = 9 ∨ formR x = 10 ∨ formR x = 11) : -2147483648 ≤ lowR x ∧ highR x < 2147483648 := by
  have := List.all_eq_true.1 imm_all x hx
  unfold immR at this
  have e : (formR x == 5 || formR x == 12) = false ∧ (formR x == 2) = false := by rcases hf with e | e | e | e | e <;> rw [e] <;> exact ⟨rfl, rfl⟩
  rw [e.1, e.2] at this
  obtain ⟨h1, h2⟩ := Bool.and_eq_true_iff.1 this
  exact ⟨of_decide_eq_true h1, of_decide_eq_true h2⟩
theorem formQ_2 (R : Int) (x : RowT) (op : List Int) (c : Int) (t : List Int) (k d : Int) : formQ 2 R x op c t k d = lastQ x op fun a => num8Q t k fun n _ k => finQ x (x.1, wi (a + bitF R 1), 0, 0, d, n) k := rfl
theorem formQ_11 (R : Int) (x : RowT) (op : List Int) (c : Int) (t : List Int) (k d : Int) : formQ 11 R x op c t k d = num4Q t k fun n _ k => finQ x (x.1, 0, 0, 0, d, n) k := rfl
theorem formQ_12 (R : Int) (x : RowT) (op : List Int) (c : Int) (t : List Int) (k d : Int) : formQ 12 R x op c t k d = num1Q t k fun n _ k => finQ x (x.1, 0, 0, 0, d, n) k := rfl
theorem back_2 {x : RowT} (hx : x ∈ rowsL) {i : InsT} (hn : x.1 = i.1) (he : faultyF x i = 0) (hf : formR x = 2) (t : List Int) (k : Int) :
    restQ (takR x i) x (headI x i) 0 (im8 i.2.2.2.2.2 ++ t) k = .ok (i, k + 8) := by
  have h := faulty_ok he
  have h9 : uM x = false := by unfold uM; rw [hf]; rfl
  obtain ⟨ha, hd⟩ := ok_rng h
  obtain ⟨z1, z2, z3, -⟩ := ok_zero h h9
  have e2 := z2 (by unfold uB; rw [hf]; rfl)
  have e3 := (ok_imm he).1 (by unfold uI; rw [hf]; rfl)
  have hr := reg_back hx h ha (.inr hf)
  have hs := say_reg hx h ha hd (.inr hf)
  have hi := imm_8 hx hf
  rw [rest_form hx h h9]
  obtain ⟨nm, a, b, c, d, n⟩ := i
  simp only at hn e2 e3 z3 hr hs ⊢
  subst hn e2 z3
  rw [hf, formQ_2, hs, num8Q_im (by omega) (by omega), hr]
  exact finQ_ok he (k + 8)
theorem back_11 {x : RowT} (hx : x ∈ rowsL) {i : InsT} (hn : x.1 = i.1) (he : faultyF x i = 0) (hf : formR x = 11) (t : List Int) (k : Int) :
    restQ (takR x i) x (headI x i) 0 (im4 i.2.2.2.2.2 ++ t) k = .ok (i, k + 4) := by
  have h := faulty_ok he
  have h9 : uM x = false := by unfold uM; rw [hf]; rfl
  obtain ⟨z1, z2, z3, -⟩ := ok_zero h h9
  have e1 := z1 (by unfold uA; rw [hf]; rfl)
  have e2 := z2 (by unfold uB; rw [hf]; rfl)
  have e3 := (ok_imm he).1 (by unfold uI; rw [hf]; rfl)
  have hi := imm_4 hx (by omega)
  rw [rest_form hx h h9]
  obtain ⟨nm, a, b, c, d, n⟩ := i
  simp only at hn e1 e2 e3 z3 ⊢
  subst hn e1 e2 z3
  rw [hf, formQ_11, num4Q_im (by omega) (by omega)]
  exact finQ_ok he (k + 4)
theorem back_12 {x : RowT} (hx : x ∈ rowsL) {i : InsT} (hn : x.1 = i.1) (he : faultyF x i = 0) (hf : formR x = 12) (t : List Int) (k : Int) :
    restQ (takR x i) x (headI x i) 0 (im1 i.2.2.2.2.2 ++ t) k = .ok (i, k + 1) := by
  have h := faulty_ok he
  have h9 : uM x = false := by unfold uM; rw [hf]; rfl
  obtain ⟨z1, z2, z3, -⟩ := ok_zero h h9
  have e1 := z1 (by unfold uA; rw [hf]; rfl)
  have e2 := z2 (by unfold uB; rw [hf]; rfl)
  have e3 := (ok_imm he).1 (by unfold uI; rw [hf]; rfl)
  have hi := imm_1 hx (.inr hf)
  rw [rest_form hx h h9]
  obtain ⟨nm, a, b, c, d, n⟩ := i
  simp only at hn e1 e2 e3 z3 ⊢
  subst hn e1 e2 z3
  rw [hf, formQ_12, num1Q_im (by omega) (by omega)]
  exact finQ_ok he (k + 1)
end Go.Amd

namespace Go.Amd
open Go Go.Ab Go.Proofs
theorem rI_grp {x : RowT} (hx : x ∈ rowsL) {i : InsT} (ha : 0 ≤ i.2.1 ∧ i.2.1 < 16) (hf : formR x = 3 ∨ formR x = 4 ∨ formR x = 5 ∨ formR x = 6) : rI x i = i.2.1 / 8 := by
  obtain ⟨d0, d1, d2⟩ := dg_rng hx
  have e : rI x i = rexM 0 (wi x.2.2.2.2.1) i.2.1 := by
    unfold rI
    rcases hf with e | e | e | e <;> rw [e] <;> rfl
  rw [e, d2, rexM_eq d0 (by omega) ha.1 ha.2]
  omega
theorem low_grp {x : RowT} (hx : x ∈ rowsL) {i : InsT} (h : okF x i.2.1 i.2.2.1 i.2.2.2.1 i.2.2.2.2.1 = true) (hf : formR x = 3 ∨ formR x = 4 ∨ formR x = 5 ∨ formR x = 6) :
    lowF (mrB 3 (wi x.2.2.2.2.1) i.2.1) (takR x i) = i.2.1 := by
  have ha := (ok_rng h).1
  obtain ⟨d0, d1, d2⟩ := dg_rng hx
  rw [d2]
  refine low_back hx h (by decide) (by decide) d0 (by omega) ha.1 ha.2 ?_
  rw [rI_grp hx ha hf]
  omega
theorem formQ_3 (R : Int) (x : RowT) (op : List Int) (c : Int) (t : List Int) (k d : Int) : formQ 3 R x op c t k d = finQ x (x.1, lowF c R, 0, 0, d, 0) k := rfl
theorem formQ_4 (R : Int) (x : RowT) (op : List Int) (c : Int) (t : List Int) (k d : Int) : formQ 4 R x op c t k d = num4Q t k fun n _ k => finQ x (x.1, lowF c R, 0, 0, d, n) k := rfl
theorem formQ_5 (R : Int) (x : RowT) (op : List Int) (c : Int) (t : List Int) (k d : Int) : formQ 5 R x op c t k d = num1Q t k fun n _ k => finQ x (x.1, lowF c R, 0, 0, d, n) k := rfl
theorem formQ_7 (R : Int) (x : RowT) (op : List Int) (c : Int) (t : List Int) (k d : Int) : formQ 7 R x op c t k d = finQ x (x.1, lowF c R, midF c R, 0, d, 0) k := rfl
theorem formQ_8 (R : Int) (x : RowT) (op : List Int) (c : Int) (t : List Int) (k d : Int) : formQ 8 R x op c t k d = finQ x (x.1, midF c R, lowF c R, 0, d, 0) k := rfl
theorem back_3 {x : RowT} (hx : x ∈ rowsL) {i : InsT} (hn : x.1 = i.1) (he : faultyF x i = 0) (hf : formR x = 3) (t : List Int) (k : Int) :
    restQ (takR x i) x (headI x i) (mrB 3 (wi x.2.2.2.2.1) i.2.1) (t) k = .ok (i, k) := by
  have h := faulty_ok he
  have h9 : uM x = false := by unfold uM; rw [hf]; rfl
  obtain ⟨z1, z2, z3, -⟩ := ok_zero h h9
  have e2 := z2 (by unfold uB; rw [hf]; rfl)
  have e3 := (ok_imm he).2 (by unfold uI; rw [hf]; rfl)
  have hl := low_grp hx h (by omega)
  rw [rest_form hx h h9]
  obtain ⟨nm, a, b, c, d, n⟩ := i
  simp only at hn e2 e3 z3 hl ⊢
  subst hn e2 e3 z3
  rw [hf, formQ_3, hl]
  exact finQ_ok he k
theorem back_4 {x : RowT} (hx : x ∈ rowsL) {i : InsT} (hn : x.1 = i.1) (he : faultyF x i = 0) (hf : formR x = 4) (t : List Int) (k : Int) :
    restQ (takR x i) x (headI x i) (mrB 3 (wi x.2.2.2.2.1) i.2.1) (im4 i.2.2.2.2.2 ++ t) k = .ok (i, k + 4) := by
  have h := faulty_ok he
  have h9 : uM x = false := by unfold uM; rw [hf]; rfl
  obtain ⟨z1, z2, z3, -⟩ := ok_zero h h9
  have e2 := z2 (by unfold uB; rw [hf]; rfl)
  have e3 := (ok_imm he).1 (by unfold uI; rw [hf]; rfl)
  have hl := low_grp hx h (by omega)
  have hi := imm_4 hx (by omega)
  rw [rest_form hx h h9]
  obtain ⟨nm, a, b, c, d, n⟩ := i
  simp only at hn e2 e3 z3 hl ⊢
  subst hn e2 z3
  rw [hf, formQ_4, num4Q_im (by omega) (by omega), hl]
  exact finQ_ok he (k + 4)
theorem back_5 {x : RowT} (hx : x ∈ rowsL) {i : InsT} (hn : x.1 = i.1) (he : faultyF x i = 0) (hf : formR x = 5) (t : List Int) (k : Int) :
    restQ (takR x i) x (headI x i) (mrB 3 (wi x.2.2.2.2.1) i.2.1) (im1 i.2.2.2.2.2 ++ t) k = .ok (i, k + 1) := by
  have h := faulty_ok he
  have h9 : uM x = false := by unfold uM; rw [hf]; rfl
  obtain ⟨z1, z2, z3, -⟩ := ok_zero h h9
  have e2 := z2 (by unfold uB; rw [hf]; rfl)
  have e3 := (ok_imm he).1 (by unfold uI; rw [hf]; rfl)
  have hl := low_grp hx h (by omega)
  have hi := imm_1 hx (.inl hf)
  rw [rest_form hx h h9]
  obtain ⟨nm, a, b, c, d, n⟩ := i
  simp only at hn e2 e3 z3 hl ⊢
  subst hn e2 z3
  rw [hf, formQ_5, num1Q_im (by omega) (by omega), hl]
  exact finQ_ok he (k + 1)
theorem back_7 {x : RowT} (hx : x ∈ rowsL) {i : InsT} (hn : x.1 = i.1) (he : faultyF x i = 0) (hf : formR x = 7) (t : List Int) (k : Int) :
    restQ (takR x i) x (headI x i) (mrB 3 i.2.2.1 i.2.1) t k = .ok (i, k) := by
  have h := faulty_ok he
  have h9 : uM x = false := by unfold uM; rw [hf]; rfl
  have ha := (ok_rng h).1
  obtain ⟨z1, z2, z3, hb⟩ := ok_zero h h9
  have e3 := (ok_imm he).2 (by unfold uI; rw [hf]; rfl)
  have hr : rI x i = 4 * (i.2.2.1 / 8) + i.2.1 / 8 := by
    have e : rI x i = rexM 0 i.2.2.1 i.2.1 := by
      unfold rI
      rw [hf]; rfl
    rw [e, rexM_eq (by omega) (by omega) (by omega) (by omega)]
  have hl := low_back hx h (m := 3) (p := i.2.2.1) (q := i.2.1) (by decide) (by decide) (by omega) (by omega) (by omega) (by omega) (by omega)
  have hm := mid_back hx h (m := 3) (p := i.2.2.1) (q := i.2.1) (by decide) (by decide) (by omega) (by omega) (by omega) (by omega) (by omega)
  rw [rest_form hx h h9]
  obtain ⟨nm, a, b, c, d, n⟩ := i
  simp only at hn e3 z3 hl hm ⊢
  subst hn e3 z3
  rw [hf, formQ_7, hl, hm]
  exact finQ_ok he k
theorem back_8 {x : RowT} (hx : x ∈ rowsL) {i : InsT} (hn : x.1 = i.1) (he : faultyF x i = 0) (hf : formR x = 8) (t : List Int) (k : Int) :
    restQ (takR x i) x (headI x i) (mrB 3 i.2.1 i.2.2.1) t k = .ok (i, k) := by
  have h := faulty_ok he
  have h9 : uM x = false := by unfold uM; rw [hf]; rfl
  have ha := (ok_rng h).1
  obtain ⟨z1, z2, z3, hb⟩ := ok_zero h h9
  have e3 := (ok_imm he).2 (by unfold uI; rw [hf]; rfl)
  have hr : rI x i = 4 * (i.2.1 / 8) + i.2.2.1 / 8 := by
    have e : rI x i = rexM 0 i.2.1 i.2.2.1 := by
      unfold rI
      rw [hf]; rfl
    rw [e, rexM_eq (by omega) (by omega) (by omega) (by omega)]
  have hl := low_back hx h (m := 3) (p := i.2.1) (q := i.2.2.1) (by decide) (by decide) (by omega) (by omega) (by omega) (by omega) (by omega)
  have hm := mid_back hx h (m := 3) (p := i.2.1) (q := i.2.2.1) (by decide) (by decide) (by omega) (by omega) (by omega) (by omega) (by omega)
  rw [rest_form hx h h9]
  obtain ⟨nm, a, b, c, d, n⟩ := i
  simp only at hn e3 z3 hl hm ⊢
  subst hn e3 z3
  rw [hf, formQ_8, hm, hl]
  exact finQ_ok he k
end Go.Amd

namespace Go.Amd
open Go Go.Ab Go.Proofs
theorem formQ_6 (R : Int) (x : RowT) (op : List Int) (c : Int) (t : List Int) (k d : Int) : formQ 6 R x op c t k d =
    cond (op.getD 0 0 == 131) (num1Q t k fun n _ k => finQ x (x.1, lowF c R, 0, 0, d, n) k) (num4Q t k fun n _ k => mustQ (!fitsF n) k (finQ x (x.1, lowF c R, 0, 0, d, n) k)) := rfl
theorem formQ_10 (R : Int) (x : RowT) (op : List Int) (c : Int) (t : List Int) (k d : Int) : formQ 10 R x op c t k d =
    nxQ t k fun e t k => mustQ (e == 37) k (num4Q t k fun n _ k => finQ x (x.1, midF c R, 0, 0, d, n) k) := rfl
theorem rows_six : rowsL.all (fun x => cond (formR x == 6) (w8 x.2.2.1 == 131 && decide (x.2.2.1 ≤ 255)) true) = true := by kernel_rfl
theorem six_of {x : RowT} (hx : x ∈ rowsL) (hf : formR x = 6) : w8 x.2.2.1 = 131 ∧ x.2.2.1 ≤ 255 := by
  have := List.all_eq_true.1 rows_six x hx
  rw [hf] at this
  obtain ⟨h1, h2⟩ := Bool.and_eq_true_iff.1 this
  exact ⟨eq_of_beq h1, of_decide_eq_true h2⟩
theorem head_six {x : RowT} (hx : x ∈ rowsL) (i : InsT) (hf : formR x = 6) : headI x i = [cond (fitsF i.2.2.2.2.2) 131 129] := by
  obtain ⟨h1, h2⟩ := six_of hx hf
  unfold headI hdF lastO lastF
  rw [hf, h1, decide_eq_false (by omega)]
  rfl
theorem back_10 {x : RowT} (hx : x ∈ rowsL) {i : InsT} (hn : x.1 = i.1) (he : faultyF x i = 0) (hf : formR x = 10) (t : List Int) (k : Int) :
    restQ (takR x i) x (headI x i) (mrB 0 i.2.1 4) (37 :: (im4 i.2.2.2.2.2 ++ t)) k = .ok (i, k + 5) := by
  have h := faulty_ok he
  have h9 : uM x = false := by unfold uM; rw [hf]; rfl
  have ha := (ok_rng h).1
  obtain ⟨z1, z2, z3, -⟩ := ok_zero h h9
  have e2 := z2 (by unfold uB; rw [hf]; rfl)
  have e3 := (ok_imm he).1 (by unfold uI; rw [hf]; rfl)
  have hi := imm_4 hx (by omega)
  have hr : rI x i = 4 * (i.2.1 / 8) := by
    have e : rI x i = rexM 0 i.2.1 4 := by
      unfold rI
      rw [hf]; rfl
    rw [e, rexM_eq (by omega) (by omega) (by omega) (by omega)]
    omega
  have hm := mid_back hx h (m := 0) (p := i.2.1) (q := 4) (by decide) (by decide) (by omega) (by omega) (by omega) (by omega) (by omega)
  rw [rest_form hx h h9]
  obtain ⟨nm, a, b, c, d, n⟩ := i
  simp only at hn e2 e3 z3 hm ⊢
  subst hn e2 z3
  rw [hf, formQ_10, hm]
  show mustQ true (k + 1) (num4Q (im4 n ++ t) (k + 1) fun n _ k => finQ x (x.1, a, 0, 0, d, n) k) = _
  rw [mustQ_ok rfl, num4Q_im (by omega) (by omega), show k + 1 + 4 = k + 5 by omega]
  exact finQ_ok he (k + 5)
end Go.Amd

namespace Go.Amd
open Go Go.Ab Go.Proofs
theorem formQ_6a (R : Int) (x : RowT) (c : Int) (t : List Int) (k d : Int) : formQ 6 R x [131] c t k d = num1Q t k fun n _ k => finQ x (x.1, lowF c R, 0, 0, d, n) k := rfl
theorem formQ_6b (R : Int) (x : RowT) (c : Int) (t : List Int) (k d : Int) : formQ 6 R x [129] c t k d = num4Q t k fun n _ k => mustQ (!fitsF n) k (finQ x (x.1, lowF c R, 0, 0, d, n) k) := rfl
def immS (n : Int) : List Int := cond (fitsF n) (im1 n) (im4 n)
theorem back_6 {x : RowT} (hx : x ∈ rowsL) {i : InsT} (hn : x.1 = i.1) (he : faultyF x i = 0) (hf : formR x = 6) (t : List Int) (k : Int) :
    restQ (takR x i) x (headI x i) (mrB 3 (wi x.2.2.2.2.1) i.2.1) (immS i.2.2.2.2.2 ++ t) k = .ok (i, k + ((immS i.2.2.2.2.2).length : Int)) := by
  have h := faulty_ok he
  have h9 : uM x = false := by unfold uM; rw [hf]; rfl
  obtain ⟨z1, z2, z3, -⟩ := ok_zero h h9
  have e2 := z2 (by unfold uB; rw [hf]; rfl)
  have e3 := (ok_imm he).1 (by unfold uI; rw [hf]; rfl)
  have hi := imm_4 hx (by omega)
  have hl := low_grp hx h (by omega)
  have hh := head_six hx i hf
  rw [rest_form hx h h9, hf, hh]
  generalize hc : mrB 3 (wi x.2.2.2.2.1) i.2.1 = c at hl
  obtain ⟨nm, a, b, cc, d, n⟩ := i
  simp only at hn e2 e3 z3 hl ⊢
  subst hn e2 z3
  unfold immS
  cases hq : fitsF n
  · have hm : (!fitsF n) = true := by rw [hq]; rfl
    rw [cond_false, cond_false, formQ_6b, hl, num4Q_im (by omega) (by omega), mustQ_ok hm]
    exact finQ_ok he (k + 4)
  · have hq2 := (fitsF_iff n).1 hq
    rw [cond_true, cond_true, formQ_6a, hl, num1Q_im (by omega) (by omega)]
    exact finQ_ok he (k + 1)
end Go.Amd

namespace Go.Amd
open Go Go.Ab Go.Proofs
theorem small_all : all1 16 (fun b => andi b 7 == b % 8 && (and8 b 3 == b % 4 && and8 b 2 == 2 * (b / 2 % 2))) = true := by kernel_rfl
theorem andi7 {b : Int} (b0 : 0 ≤ b) (b1 : b < 16) : andi b 7 = b % 8 := by
  have := all1_of small_all b0 b1
  simp only [Bool.and_eq_true, beq_iff_eq] at this
  exact this.1
theorem and83 {b : Int} (b0 : 0 ≤ b) (b1 : b < 16) : and8 b 3 = b % 4 ∧ and8 b 2 = 2 * (b / 2 % 2) := by
  have := all1_of small_all b0 b1
  simp only [Bool.and_eq_true, beq_iff_eq] at this
  exact this.2
theorem scF_all : all1 256 (fun e => cond (e / 64 == 0) (scF e == 1) (cond (e / 64 == 1) (scF e == 2) (cond (e / 64 == 2) (scF e == 4) (scF e == 8)))) = true := by kernel_rfl
theorem bits_of {R p q r : Int} (hp : p = 0 ∨ p = 1) (hq : q = 0 ∨ q = 1) (hr : r = 0 ∨ r = 1) (h : R % 8 = 4 * p + 2 * q + r) : R / 4 % 2 = p ∧ R / 2 % 2 = q ∧ R % 2 = r := by
  rcases hp with rfl | rfl <;> rcases hq with rfl | rfl <;> rcases hr with rfl | rfl <;> omega
def ModeOk (b n mod : Int) (imm : List Int) : Prop :=
  (mod = 0 ∧ imm = [] ∧ n = 0 ∧ b % 8 ≠ 5) ∨ (mod = 1 ∧ imm = im1 n ∧ (-128 ≤ n ∧ n < 128) ∧ (n = 0 → b % 8 = 5)) ∨ (mod = 2 ∧ imm = im4 n ∧ fitsF n = false)
theorem memP_mode {a b c d n : Int} (b0 : 0 ≤ b) (b1 : b < 16) : ∃ mod imm, ModeOk b n mod imm ∧ memP a b c d n = modP mod a b c d imm := by
  have hb : (b == 17) = false := beq_eq_false_iff_ne.2 (by omega)
  unfold memP
  rw [hb, cond_false, andi7 b0 b1]
  by_cases h0 : n = 0 ∧ b % 8 ≠ 5
  · have e1 : (n == 0) = true := by rw [h0.1]; rfl
    have e2 : (b % 8 != 5) = true := by simpa using h0.2
    rw [e1, e2]
    exact ⟨0, [], .inl ⟨rfl, rfl, h0.1, h0.2⟩, rfl⟩
  · have e : cond (n == 0) (b % 8 != 5) false = false := by
      cases hn : (n == 0)
      · rfl
      · rw [cond_true]
        have hn := eq_of_beq hn
        simp only [not_and, ne_eq, Decidable.not_not] at h0
        simp [h0 hn]
    rw [e, cond_false]
    cases hq : fitsF n
    · exact ⟨2, im4 n, .inr (.inr ⟨rfl, rfl, hq⟩), rfl⟩
    · refine ⟨1, im1 n, .inr (.inl ⟨rfl, rfl, (fitsF_iff n).1 hq, fun hz => ?_⟩), rfl⟩
      by_cases hb5 : b % 8 = 5
      · exact hb5
      · exact absurd ⟨hz, hb5⟩ h0
theorem modQ_back {b n mod : Int} {imm : List Int} (h : ModeOk b n mod imm) (b0 : 0 ≤ b) (b1 : b < 16) (n0 : -2147483648 ≤ n) (n1 : n < 2147483648) {c : Int} (hc : modF c = mod) (t : List Int) (k : Int) (K : Int → List Int → Int → RestR) :
    modQ c b (imm ++ t) k K = K n t (k + (imm.length : Int)) := by
  unfold modQ
  rw [hc]
  rcases h with ⟨rfl, rfl, rfl, -⟩ | ⟨rfl, rfl, hr, h5⟩ | ⟨rfl, rfl, hq⟩
  · rw [show ((0 : Int) == 1) = false from rfl, cond_false, show ((0 : Int) == 2) = false from rfl, cond_false]
    show K 0 t k = K 0 t (k + 0)
    rw [Int.add_zero]
  · rw [show ((1 : Int) == 1) = true from rfl, cond_true, num1Q_im hr.1 hr.2]
    cases hz : (n != 0)
    · have hz : n = 0 := by simpa using hz
      rw [cond_false, andi7 b0 b1, h5 hz]
      exact mustQ_ok rfl _ _
    · rfl
  · rw [show ((2 : Int) == 1) = false from rfl, cond_false, show ((2 : Int) == 2) = true from rfl, cond_true, num4Q_im n0 n1, hq]
    exact mustQ_ok rfl _ _
theorem modR_mod {m a b c d : Int} {imm : List Int} (a0 : 0 ≤ a ∧ a < 16) (b0 : 0 ≤ b ∧ b < 16) (m0 : 0 ≤ m ∧ m < 3) (hc : (c = 16 ∧ d = 0) ∨ ((0 ≤ c ∧ c < 16) ∧ c ≠ 4 ∧ (d = 1 ∨ d = 2 ∨ d = 4 ∨ d = 8))) {n : Int} (hmode : ModeOk b n m imm) (n0 : -2147483648 ≤ n) (n1 : n < 2147483648)
    {R : Int} (r0 : 0 ≤ R) (r1 : R < 16) (hR : R % 8 = (modP m a b c d imm).1) :
    ∃ e t, (modP m a b c d imm).2 = e :: t ∧ IsB e ∧ modF e = m ∧ midF e R = a ∧ ∀ (rest : List Int) (k : Int) (K : PlaceK), placeQ R e (t ++ rest) k K = K b c d n rest (k + (t.length : Int)) := by
  have h05 : m = 0 → b % 8 ≠ 5 := by
    intro hm
    rcases hmode with ⟨-, -, -, h⟩ | ⟨h, -⟩ | ⟨h, -⟩
    · exact h
    · omega
    · omega
  by_cases hs : c = 16 ∧ b % 8 ≠ 4
  · -- without SIB
    obtain ⟨hc16, hb4⟩ := hs
    have hd : d = 0 := by rcases hc with ⟨-, h⟩ | ⟨h, -⟩ <;> omega
    subst hc16 hd
    have hb : (b % 8 != 4) = true := by simpa using hb4
    have eP : modP m a b 16 0 imm = (rexM 0 a b, mrB m a b :: imm) := by
      unfold modP
      rw [andi7 b0.1 b0.2, hb]
      rfl
    rw [eP] at hR ⊢
    simp only at hR ⊢
    rw [rexM_eq a0.1 a0.2 b0.1 b0.2] at hR
    have hm := mrB_eq m0.1 (show m < 4 by omega) a0.1 a0.2 b0.1 b0.2
    have i0 : IsB (mrB m a b) := by rw [hm]; exact ⟨by omega, by omega⟩
    obtain ⟨q1, q2, q3, q4⟩ := byte_eq i0.1 i0.2
    have e1 : modF (mrB m a b) = m := by rw [q1, hm]; omega
    have e2 : rmF (mrB m a b) = b % 8 := by rw [q4, hm]; omega
    refine ⟨_, _, rfl, i0, e1, ?_, ?_⟩
    · rw [midF_eq i0.1 i0.2 r0 r1, hm]; omega
    · intro rest k K
      have eb : (b % 8 == 4) = false := beq_eq_false_iff_ne.2 hb4
      have key : baseQ R (mrB m a b) (imm ++ rest) k K = K b 16 0 n rest (k + (imm.length : Int)) := by
        unfold baseQ
        rw [e2, eb, cond_false, mustQ_ok (by rw [(and83 r0 r1).2]; exact beq_iff_eq.2 (by omega)), (bit_eq r0 r1).2.2, wi_small (by omega) (by omega), show b % 8 + 8 * (R % 2) = b by omega]
        exact modQ_back hmode b0.1 b0.2 n0 n1 e1 rest k (K b 16 0)
      unfold placeQ
      rw [e1, e2]
      cases hz : (m == 0)
      · exact key
      · have e5 : (b % 8 == 5) = false := beq_eq_false_iff_ne.2 (h05 (eq_of_beq hz))
        rw [e5]
        exact key
  · -- with SIB
    obtain ⟨ix, s, hix0, hix1, hs0, hs1, eP, hcd⟩ : ∃ ix s : Int, 0 ≤ ix ∧ ix < 16 ∧ 0 ≤ s ∧ s < 4 ∧ modP m a b c d imm = (sibR (rexM 0 a 4) ix b, mrB m a 4 :: mrB s ix b :: imm) ∧ ((ix = 4 ∧ c = 16 ∧ d = 0 ∧ s = 0 ∧ b % 8 = 4) ∨ (ix ≠ 4 ∧ c = ix ∧ ((s = 0 ∧ d = 1) ∨ (s = 1 ∧ d = 2) ∨ (s = 2 ∧ d = 4) ∨ (s = 3 ∧ d = 8)))) := by
      rcases hc with ⟨rfl, rfl⟩ | ⟨hc, h4, hd⟩
      · have hb4 : b % 8 = 4 := by
          by_cases h : b % 8 = 4
          · exact h
          · exact absurd ⟨rfl, h⟩ hs
        refine ⟨4, 0, by omega, by omega, by omega, by omega, ?_, .inl ⟨rfl, rfl, rfl, rfl, hb4⟩⟩
        unfold modP
        rw [andi7 b0.1 b0.2, hb4]
        rfl
      · have e16 : (c == 16) = false := beq_eq_false_iff_ne.2 (by omega)
        have e : ∀ s, scaleN d = s → modP m a b c d imm = (sibR (rexM 0 a 4) c b, mrB m a 4 :: mrB s c b :: imm) := by
          intro s hs
          unfold modP
          rw [e16, hs]
          rfl
        rcases hd with rfl | rfl | rfl | rfl
        · exact ⟨c, 0, hc.1, hc.2, by omega, by omega, e 0 rfl, .inr ⟨h4, rfl, .inl ⟨rfl, rfl⟩⟩⟩
        · exact ⟨c, 1, hc.1, hc.2, by omega, by omega, e 1 rfl, .inr ⟨h4, rfl, .inr (.inl ⟨rfl, rfl⟩)⟩⟩
        · exact ⟨c, 2, hc.1, hc.2, by omega, by omega, e 2 rfl, .inr ⟨h4, rfl, .inr (.inr (.inl ⟨rfl, rfl⟩))⟩⟩
        · exact ⟨c, 3, hc.1, hc.2, by omega, by omega, e 3 rfl, .inr ⟨h4, rfl, .inr (.inr (.inr ⟨rfl, rfl⟩))⟩⟩
    rw [eP] at hR ⊢
    simp only at hR ⊢
    rw [sibR_eq a0.1 a0.2 hix0 hix1 b0.1 b0.2] at hR
    have hm := mrB_eq m0.1 (show m < 4 by omega) a0.1 a0.2 (show (0 : Int) ≤ 4 by omega) (show (4 : Int) < 16 by omega)
    have i0 : IsB (mrB m a 4) := by rw [hm]; exact ⟨by omega, by omega⟩
    obtain ⟨q1, q2, q3, q4⟩ := byte_eq i0.1 i0.2
    have e1 : modF (mrB m a 4) = m := by rw [q1, hm]; omega
    have e2 : rmF (mrB m a 4) = 4 := by rw [q4, hm]; omega
    have hsb := mrB_eq hs0 hs1 hix0 hix1 b0.1 b0.2
    have j0 : IsB (mrB s ix b) := by rw [hsb]; exact ⟨by omega, by omega⟩
    have f1 : lowF (mrB s ix b) R = b := by rw [lowF_eq j0.1 j0.2 r0 r1, hsb]; omega
    have f2 : idxF (mrB s ix b) R = ix := by rw [idxF_eq j0.1 j0.2 r0 r1, hsb]; omega
    have f3 : modF (mrB s ix b) = s := by rw [(byte_eq j0.1 j0.2).1, hsb]; omega
    have f4 : mrB s ix b / 64 = s := by rw [hsb]; omega
    have g1 : R / 4 % 2 = a / 8 := (bits_of (by omega) (by omega) (by omega) hR).1
    have g2 : mrB m a 4 / 8 % 8 = a % 8 := by omega
    refine ⟨_, _, rfl, i0, e1, ?_, ?_⟩
    · rw [midF_eq i0.1 i0.2 r0 r1, g1, g2]; omega
    · intro rest k K
      have key2 : sibQ2 R (mrB m a 4) (mrB s ix b) (imm ++ rest) (k + 1) K = K b c d n rest (k + 1 + (imm.length : Int)) := by
        unfold sibQ2
        rw [f1, f2, f3]
        rcases hcd with ⟨rfl, rfl, rfl, rfl, hb4⟩ | ⟨h4, rfl, hsd⟩
        · show mustQ (andi b 7 == 4) (k + 1) _ = _
          rw [andi7 b0.1 b0.2, hb4]
          exact modQ_back hmode b0.1 b0.2 n0 n1 e1 rest (k + 1) (K b 16 0)
        · have e4 : (c == 4) = false := beq_eq_false_iff_ne.2 h4
          have hsc := all1_of scF_all j0.1 j0.2
          rw [f4] at hsc
          have hd : scF (mrB s c b) = d := by
            rcases hsd with ⟨rfl, rfl⟩ | ⟨rfl, rfl⟩ | ⟨rfl, rfl⟩ | ⟨rfl, rfl⟩ <;> exact eq_of_beq hsc
          rw [e4, hd, cond_false]
          exact modQ_back hmode b0.1 b0.2 n0 n1 e1 rest (k + 1) (K b c d)
      have key : baseQ R (mrB m a 4) (mrB s ix b :: imm ++ rest) k K = K b c d n rest (k + 1 + (imm.length : Int)) := by
        unfold baseQ
        rw [e2]
        show cond (modF (mrB m a 4) != 0) (sibQ2 R (mrB m a 4) (mrB s ix b) (imm ++ rest) (k + 1) K) (mustQ (andi (lowF (mrB s ix b) R) 7 != 5) (k + 1) (sibQ2 R (mrB m a 4) (mrB s ix b) (imm ++ rest) (k + 1) K)) = _
        rw [key2, e1, f1, andi7 b0.1 b0.2]
        cases hz : (m != 0)
        · have hz : m = 0 := by simpa using hz
          rw [cond_false, mustQ_ok (by simpa using h05 hz)]
        · rfl
      have hlen : k + ((mrB s ix b :: imm).length : Int) = k + 1 + (imm.length : Int) := by simp only [List.length_cons]; omega
      rw [hlen]
      unfold placeQ
      rw [e1, e2]
      cases hz : (m == 0)
      · exact key
      · exact key
theorem place_back {a b c d n : Int} (a0 : 0 ≤ a ∧ a < 16) (hp : placeF b c d = true) (n0 : -2147483648 ≤ n) (n1 : n < 2147483648) {R : Int} (r0 : 0 ≤ R) (r1 : R < 16) (hR : R % 8 = (memP a b c d n).1) :
    ∃ e t, (memP a b c d n).2 = e :: t ∧ IsB e ∧ modF e ≠ 3 ∧ midF e R = a ∧ ∀ (rest : List Int) (k : Int) (K : PlaceK), placeQ R e (t ++ rest) k K = K b c d n rest (k + (t.length : Int)) := by
  rcases place_rng hp with ⟨rfl, rfl, rfl⟩ | ⟨b0, rfl, rfl⟩ | ⟨b0, c0, c4, hd⟩
  · have hR : R % 8 = rexM 0 a 5 := hR
    rw [rexM_eq a0.1 a0.2 (by omega) (by omega)] at hR
    have hm := mrB_eq (m := 0) (by omega) (by omega) a0.1 a0.2 (show (0 : Int) ≤ 5 by omega) (show (5 : Int) < 16 by omega)
    have i0 : IsB (mrB 0 a 5) := by rw [hm]; exact ⟨by omega, by omega⟩
    obtain ⟨q1, q2, q3, q4⟩ := byte_eq i0.1 i0.2
    have e1 : modF (mrB 0 a 5) = 0 := by rw [q1, hm]; omega
    have e2 : rmF (mrB 0 a 5) = 5 := by rw [q4, hm]; omega
    refine ⟨mrB 0 a 5, im4 n, rfl, i0, by rw [e1]; decide, ?_, ?_⟩
    · rw [midF_eq i0.1 i0.2 r0 r1, hm]; omega
    · intro rest k K
      unfold placeQ
      rw [e1, e2]
      show mustQ (and8 R 3 == 0) k (num4Q (im4 n ++ rest) k fun n t k => K 17 16 0 n t k) = _
      rw [mustQ_ok (by rw [(and83 r0 r1).1]; exact beq_iff_eq.2 (by omega)), num4Q_im n0 n1]
      rfl
  · obtain ⟨mod, imm, hmode, e⟩ := memP_mode (a := a) (c := 16) (d := 0) (n := n) b0.1 b0.2
    have m0 : 0 ≤ mod ∧ mod < 3 := by rcases hmode with ⟨h, -⟩ | ⟨h, -⟩ | ⟨h, -⟩ <;> omega
    rw [e] at hR ⊢
    obtain ⟨x, t, h1, h2, h3, h4, h5⟩ := modR_mod a0 b0 m0 (.inl ⟨rfl, rfl⟩) hmode n0 n1 r0 r1 hR
    exact ⟨x, t, h1, h2, by omega, h4, h5⟩
  · obtain ⟨mod, imm, hmode, e⟩ := memP_mode (a := a) (c := c) (d := d) (n := n) b0.1 b0.2
    have m0 : 0 ≤ mod ∧ mod < 3 := by rcases hmode with ⟨h, -⟩ | ⟨h, -⟩ | ⟨h, -⟩ <;> omega
    rw [e] at hR ⊢
    obtain ⟨x, t, h1, h2, h3, h4, h5⟩ := modR_mod a0 b0 m0 (.inr ⟨c0, c4, hd⟩) hmode n0 n1 r0 r1 hR
    exact ⟨x, t, h1, h2, by omega, h4, h5⟩
end Go.Amd

namespace Go.Amd
open Go Go.Ab Go.Proofs
section
variable {x : RowT} {i : InsT}
theorem tail_e {f : Int} (hf : formR x = f) : tailI x i = tailB f x.2.2.2.2.1 i.2.1 i.2.2.1 i.2.2.2.1 i.2.2.2.2.1 i.2.2.2.2.2 := by unfold tailI; rw [hf]
theorem tail_0 (hf : formR x = 0) : tailI x i = [] := by rw [tail_e hf]; rfl
theorem tail_1 (hf : formR x = 1) : tailI x i = [] := by rw [tail_e hf]; rfl
theorem tail_2 (hf : formR x = 2) : tailI x i = im8 i.2.2.2.2.2 := by rw [tail_e hf]; rfl
theorem tail_3 (hf : formR x = 3) : tailI x i = [mrB 3 (wi x.2.2.2.2.1) i.2.1] := by rw [tail_e hf]; rfl
theorem tail_4 (hf : formR x = 4) : tailI x i = mrB 3 (wi x.2.2.2.2.1) i.2.1 :: im4 i.2.2.2.2.2 := by rw [tail_e hf]; rfl
theorem tail_5 (hf : formR x = 5) : tailI x i = mrB 3 (wi x.2.2.2.2.1) i.2.1 :: im1 i.2.2.2.2.2 := by rw [tail_e hf]; rfl
theorem tail_6 (hf : formR x = 6) : tailI x i = mrB 3 (wi x.2.2.2.2.1) i.2.1 :: immS i.2.2.2.2.2 := by rw [tail_e hf]; rfl
theorem tail_7 (hf : formR x = 7) : tailI x i = [mrB 3 i.2.2.1 i.2.1] := by rw [tail_e hf]; rfl
theorem tail_8 (hf : formR x = 8) : tailI x i = [mrB 3 i.2.1 i.2.2.1] := by rw [tail_e hf]; rfl
theorem tail_9 (hf : formR x = 9) : tailI x i = (memP i.2.1 i.2.2.1 i.2.2.2.1 i.2.2.2.2.1 i.2.2.2.2.2).2 := by rw [tail_e hf]; rfl
theorem tail_10 (hf : formR x = 10) : tailI x i = mrB 0 i.2.1 4 :: 37 :: im4 i.2.2.2.2.2 := by rw [tail_e hf]; rfl
theorem tail_11 (hf : formR x = 11) : tailI x i = im4 i.2.2.2.2.2 := by rw [tail_e hf]; rfl
theorem tail_12 (hf : formR x = 12) : tailI x i = im1 i.2.2.2.2.2 := by rw [tail_e hf]; rfl
end
theorem cond_9 {x : RowT} (hx : x ∈ rowsL) (hf : formR x = 9) : condR x = false := by
  have hr : rowsL.all (fun x => !(formR x == 9 && condR x)) = true := by kernel_rfl
  have := List.all_eq_true.1 hr x hx
  rw [hf] at this
  cases hc : condR x
  · rfl
  · rw [hc] at this; cases this
theorem formQ_9 (R : Int) (x : RowT) (op : List Int) (c : Int) (t : List Int) (k d : Int) : formQ 9 R x op c t k d = placeQ R c t k fun b cc d n _ k => finQ x (x.1, midF c R, b, cc, d, n) k := rfl
theorem back_9 {x : RowT} (hx : x ∈ rowsL) {i : InsT} (hn : x.1 = i.1) (he : faultyF x i = 0) (hf : formR x = 9) :
    ∃ e t, tailI x i = e :: t ∧ fitC e x = true ∧ ∀ (rest : List Int) (k : Int), restQ (takR x i) x (headI x i) e (t ++ rest) k = .ok (i, k + (t.length : Int)) := by
  have h := faulty_ok he
  have ha := (ok_rng h).1
  have e3 := (ok_imm he).1 (by unfold uI; rw [hf]; rfl)
  have hi := imm_4 hx (by omega)
  have hp : placeF i.2.2.1 i.2.2.2.1 i.2.2.2.2.1 = true := by
    rcases ok_parts h with ⟨-, -, h3⟩ | ⟨h1, -⟩
    · exact h3
    · unfold uM at h1; rw [hf] at h1; cases h1
  have hr : takR x i % 8 = (memP i.2.1 i.2.2.1 i.2.2.2.1 i.2.2.2.2.1 i.2.2.2.2.2).1 := by
    obtain ⟨r0, r1, -⟩ := rI_rng hx h
    have e : rI x i = (memP i.2.1 i.2.2.1 i.2.2.2.1 i.2.2.2.2.1 i.2.2.2.2.2).1 := by
      unfold rI
      rw [hf]; rfl
    rw [← e]
    unfold takR
    cases (x.2.1 == 1)
    · rw [cond_false]; omega
    · rw [cond_true]; omega
  obtain ⟨e, t, h1, h2, h3, h4, h5⟩ := place_back ha hp (n := i.2.2.2.2.2) (by omega) (by omega) (takR_rng hx h).1 (takR_rng hx h).2 hr
  refine ⟨e, t, (tail_9 hf).trans h1, ?_, ?_⟩
  · unfold fitC fitF
    rw [hf]
    show (modF e != 3) = true
    simpa using h3
  · intro rest k
    unfold restQ
    rw [cond_9 hx hf, cond_false, hf, formQ_9, h5, h4]
    obtain ⟨nm, a, b, c, d, n⟩ := i
    simp only at hn ⊢
    subst hn
    exact finQ_ok he _
theorem fitC_grp {x : RowT} (hx : x ∈ rowsL) {i : InsT} (ha : 0 ≤ i.2.1 ∧ i.2.1 < 16) (hf : formR x = 3 ∨ formR x = 4 ∨ formR x = 5 ∨ formR x = 6) : fitC (mrB 3 (wi x.2.2.2.2.1) i.2.1) x = true := by
  obtain ⟨d0, d1, d2⟩ := dg_rng hx
  have hm := mrB_eq (m := 3) (by decide) (by decide) (show 0 ≤ wi x.2.2.2.2.1 by omega) (show wi x.2.2.2.2.1 < 16 by omega) ha.1 ha.2
  obtain ⟨q1, q2, q3, q4⟩ := byte_eq (c := mrB 3 (wi x.2.2.2.2.1) i.2.1) (by omega) (by omega)
  have hg : grpF (formR x) = true := by unfold grpF; rcases hf with e | e | e | e <;> rw [e] <;> rfl
  unfold fitC
  rw [fit_grp hg, show Int.fdiv (mrB 3 (wi x.2.2.2.2.1) i.2.1) (2 ^ 6) = 3 from q1.trans (by omega), q2, show mrB 3 (wi x.2.2.2.2.1) i.2.1 / 8 % 8 = x.2.2.2.2.1 by omega]
  show (x.2.2.2.2.1 == x.2.2.2.2.1) = true
  exact beq_self_eq_true _
theorem fitC_two {x : RowT} {p q : Int} (p0 : 0 ≤ p ∧ p < 16) (q0 : 0 ≤ q ∧ q < 16) (hf : formR x = 7 ∨ formR x = 8) : fitC (mrB 3 p q) x = true := by
  have hm := mrB_eq (m := 3) (by decide) (by decide) p0.1 p0.2 q0.1 q0.2
  obtain ⟨q1, q2, q3, q4⟩ := byte_eq (c := mrB 3 p q) (by omega) (by omega)
  have e : Int.fdiv (mrB 3 p q) (2 ^ 6) = 3 := q1.trans (by omega)
  unfold fitC fitF
  rw [e]
  rcases hf with h | h <;> rw [h] <;> rfl
theorem fitC_10 {x : RowT} {p : Int} (p0 : 0 ≤ p ∧ p < 16) (hf : formR x = 10) : fitC (mrB 0 p 4) x = true := by
  have hm := mrB_eq (m := 0) (by decide) (by decide) p0.1 p0.2 (show (0 : Int) ≤ 4 by decide) (show (4 : Int) < 16 by decide)
  obtain ⟨q1, q2, q3, q4⟩ := byte_eq (c := mrB 0 p 4) (by omega) (by omega)
  have e : Int.fdiv (mrB 0 p 4) (2 ^ 6) = 0 := q1.trans (by omega)
  have e2 : and8 (mrB 0 p 4) 7 = 4 := q3.trans (by omega)
  unfold fitC fitF
  rw [e, e2, hf]
  rfl
theorem enc_split (i : InsT) : encL i = frontI (frow i.1) i ++ tailI (frow i.1) i := bytes_split _ _
theorem enc_row {i : InsT} (he : encE i = 0) : frow i.1 ∈ rowsL ∧ (frow i.1).1 = i.1 ∧ faultyF (frow i.1) i = 0 := by
  unfold encE at he
  cases hk : fok i.1
  · rw [hk] at he; cases he
  · rw [hk, cond_true] at he
    unfold fok at hk
    cases hfd : findL i.1 rowsL with
    | none => rw [hfd] at hk; cases hk
    | some r =>
      have e : frow i.1 = r := by unfold frow; rw [hfd]; rfl
      rw [e] at he ⊢
      refine ⟨List.mem_of_find?_eq_some hfd, ?_, he⟩
      have := List.find?_some hfd
      simpa using this
theorem dec_enc {i : InsT} (he : encE i = 0) (rest : List Int) : decQ (encL i ++ rest) = .ok (i, ((encL i).length : Int)) := by
  obtain ⟨hx, hn, hf⟩ := enc_row he
  rw [enc_split]
  generalize frow i.1 = x at hx hn hf
  have h := faulty_ok hf
  have ha := (ok_rng h).1
  have hfm : formR x ∈ forms := by simpa [formOk] using List.all_eq_true.1 rows_forms x hx
  have hl : ((frontI x i ++ tailI x i).length : Int) = takN x i + ((tailI x i).length : Int) := by rw [List.length_append, front_len hx]; omega
  rw [hl, List.append_assoc]
  have plain : ∀ {t : List Int}, tailI x i = t → modOf (formR x) = false → (∀ k, restQ (takR x i) x (headI x i) 0 (t ++ rest) k = .ok (i, k + (t.length : Int))) → decQ (frontI x i ++ (tailI x i ++ rest)) = .ok (i, takN x i + ((tailI x i).length : Int)) := by
    intro t e hm hk
    rw [e, dec_plain hx h hm, hk]
    rfl
  have modrm : ∀ {c : Int} {t : List Int}, tailI x i = c :: t → modOf (formR x) = true → fitC c x = true → (∀ k, restQ (takR x i) x (headI x i) c (t ++ rest) k = .ok (i, k + (t.length : Int))) → decQ (frontI x i ++ (tailI x i ++ rest)) = .ok (i, takN x i + ((tailI x i).length : Int)) := by
    intro c t e hm hc hk
    rw [e, List.cons_append, dec_mod hx h hm hc, hk]
    show Except.ok (i, takN x i + 1 + (t.length : Int)) = _
    rw [List.length_cons, show takN x i + 1 + (t.length : Int) = takN x i + ((t.length + 1 : Nat) : Int) by omega]
  unfold forms at hfm
  simp only [List.mem_cons, List.not_mem_nil, or_false] at hfm
  rcases hfm with e | e | e | e | e | e | e | e | e | e | e | e | e
  · exact plain (tail_0 e) (by rw [e]; rfl) fun k => (back_0 hx hn hf e rest k).trans (by rw [List.length_nil, show k + ((0 : Nat) : Int) = k by omega])
  · exact plain (tail_1 e) (by rw [e]; rfl) fun k => (back_1 hx hn hf e rest k).trans (by rw [List.length_nil, show k + ((0 : Nat) : Int) = k by omega])
  · exact plain (tail_2 e) (by rw [e]; rfl) fun k => back_2 hx hn hf e rest k
  · exact modrm (tail_3 e) (by rw [e]; rfl) (fitC_grp hx ha (by omega)) fun k => (back_3 hx hn hf e rest k).trans (by rw [List.length_nil, show k + ((0 : Nat) : Int) = k by omega])
  · exact modrm (tail_4 e) (by rw [e]; rfl) (fitC_grp hx ha (by omega)) fun k => back_4 hx hn hf e rest k
  · exact modrm (tail_5 e) (by rw [e]; rfl) (fitC_grp hx ha (by omega)) fun k => back_5 hx hn hf e rest k
  · exact modrm (tail_6 e) (by rw [e]; rfl) (fitC_grp hx ha (by omega)) fun k => back_6 hx hn hf e rest k
  · exact modrm (tail_7 e) (by rw [e]; rfl) (fitC_two (ok_zero h (by unfold uM; rw [e]; rfl)).2.2.2 ha (.inl e)) fun k => (back_7 hx hn hf e rest k).trans (by rw [List.length_nil, show k + ((0 : Nat) : Int) = k by omega])
  · exact modrm (tail_8 e) (by rw [e]; rfl) (fitC_two ha (ok_zero h (by unfold uM; rw [e]; rfl)).2.2.2 (.inr e)) fun k => (back_8 hx hn hf e rest k).trans (by rw [List.length_nil, show k + ((0 : Nat) : Int) = k by omega])
  · obtain ⟨c, t, h1, h2, h3⟩ := back_9 hx hn hf e
    exact modrm h1 (by rw [e]; rfl) h2 fun k => h3 rest k
  · exact modrm (tail_10 e) (by rw [e]; rfl) (fitC_10 ha e) fun k => back_10 hx hn hf e rest k
  · exact plain (tail_11 e) (by rw [e]; rfl) fun k => back_11 hx hn hf e rest k
  · exact plain (tail_12 e) (by rw [e]; rfl) fun k => back_12 hx hn hf e rest k
end Go.Amd

namespace Go.Amd
open Go Go.Ab Go.Proofs
theorem all_f {α : Type} {c : Bool} {x y : Tree α} {Q : α → Prop} (h : c = false) (hy : y.all Q) : (Tree.br c x y).all Q := ⟨fun e => Bool.noConfusion (h.symm.trans e), fun _ => hy⟩
theorem w8_b (x : Int) : IsB (w8 x) := by
  unfold w8
  rw [Go.Wd.wrap_u8]
  exact ⟨Int.emod_nonneg _ (by decide), Int.emod_lt_of_pos _ (by decide)⟩
def AllB (l : List Int) : Prop := ∀ c ∈ l, IsB c
theorem allB_nil : AllB [] := fun c h => by cases h
theorem allB_cons {c : Int} {l : List Int} (h : IsB c) (hl : AllB l) : AllB (c :: l) := fun d hd => by
  rcases List.mem_cons.1 hd with rfl | hd
  · exact h
  · exact hl d hd
theorem allB_app {l m : List Int} (hl : AllB l) (hm : AllB m) : AllB (l ++ m) := fun d hd => (List.mem_append.1 hd).elim (hl d) (hm d)
theorem im1_b (n : Int) : AllB (im1 n) := allB_cons (imB_b n 0) allB_nil
theorem im4_b (n : Int) : AllB (im4 n) := allB_cons (imB_b n 0) (allB_cons (imB_b n 8) (allB_cons (imB_b n 16) (allB_cons (imB_b n 24) allB_nil)))
theorem im8_b (n : Int) : AllB (im8 n) := allB_cons (imB_b n 0) (allB_cons (imB_b n 8) (allB_cons (imB_b n 16) (allB_cons (imB_b n 24) (allB_cons (imB_b n 32) (allB_cons (imB_b n 40) (allB_cons (imB_b n 48) (allB_cons (imB_b n 56) allB_nil)))))))
theorem immS_b (n : Int) : AllB (immS n) := by
  unfold immS
  cases fitsF n
  · exact im4_b n
  · exact im1_b n
theorem or8_b (a b : Int) : IsB (or8 a b) := w8_b _
theorem mrB_b (m a b : Int) : IsB (mrB m a b) := w8_b _
theorem mode_b {b n mod : Int} {imm : List Int} (h : ModeOk b n mod imm) : AllB imm ∧ imm.length ≤ 4 := by
  rcases h with ⟨-, rfl, -⟩ | ⟨-, rfl, -⟩ | ⟨-, rfl, -⟩
  · exact ⟨allB_nil, by simp⟩
  · exact ⟨im1_b n, by simp [im1]⟩
  · exact ⟨im4_b n, by simp [im4]⟩
theorem memP_b {a b c d n : Int} (hp : placeF b c d = true) : AllB (memP a b c d n).2 ∧ (memP a b c d n).2.length ≤ 6 ∧ 1 ≤ (memP a b c d n).2.length := by
  have key : ∀ {b c d : Int}, 0 ≤ b → b < 16 → AllB (memP a b c d n).2 ∧ (memP a b c d n).2.length ≤ 6 ∧ 1 ≤ (memP a b c d n).2.length := by
    intro b c d b0 b1
    obtain ⟨mod, imm, hm, e⟩ := memP_mode (a := a) (c := c) (d := d) (n := n) b0 b1
    obtain ⟨h1, h2⟩ := mode_b hm
    rw [e]
    unfold modP
    cases cond (c == 16) (andi b 7 != 4) false
    · rw [cond_false]
      refine ⟨allB_app (allB_app (allB_cons (mrB_b _ _ _) allB_nil) (allB_cons (mrB_b _ _ _) allB_nil)) h1, ?_, ?_⟩ <;> simp only [List.length_append, List.length_cons, List.length_nil] <;> omega
    · rw [cond_true]
      refine ⟨allB_app (allB_cons (mrB_b _ _ _) allB_nil) h1, ?_, ?_⟩ <;> simp only [List.length_append, List.length_cons, List.length_nil] <;> omega
  rcases place_rng hp with ⟨rfl, rfl, rfl⟩ | ⟨b0, rfl, rfl⟩ | ⟨b0, -, -, -⟩
  · exact ⟨allB_app (allB_cons (mrB_b 0 a 5) allB_nil) (im4_b n), show (1 + 4 : Nat) ≤ 6 by decide, show 1 ≤ (1 + 4 : Nat) by decide⟩
  · exact key b0.1 b0.2
  · exact key b0.1 b0.2
theorem rows_2 : rowsL.all (fun x => cond (formR x == 2) (decide (x.2.2.1 ≤ 255)) true) = true := by kernel_rfl
theorem front_b {x : RowT} (hx : x ∈ rowsL) {i : InsT} (h : okF x i.2.1 i.2.2.1 i.2.2.2.1 i.2.2.2.2.1 = true) : AllB (frontI x i) := by
  refine allB_app (allB_app ?_ ?_) ?_
  · unfold fsF
    cases (formR x == 10)
    · exact allB_nil
    · exact allB_cons ⟨by decide, by decide⟩ allB_nil
  · unfold rexL
    cases (x.2.1 == 0)
    · exact allB_cons (or8_b _ _) allB_nil
    · cases (rI x i != 0)
      · exact allB_nil
      · exact allB_cons (or8_b _ _) allB_nil
  · rcases (head_ok hx h).2 with ⟨e, -, hb⟩ | ⟨e, hb, -⟩
    · rw [e]; exact allB_cons hb allB_nil
    · rw [e]; exact allB_cons ⟨by decide, by decide⟩ (allB_cons hb allB_nil)
theorem tail_b {x : RowT} (hx : x ∈ rowsL) {i : InsT} (hf : faultyF x i = 0) : AllB (tailI x i) ∧ ((tailI x i).length ≤ 6 ∨ (formR x = 2 ∧ (tailI x i).length = 8)) := by
  have h := faulty_ok hf
  have hfm : formR x ∈ forms := by simpa [formOk] using List.all_eq_true.1 rows_forms x hx
  unfold forms at hfm
  simp only [List.mem_cons, List.not_mem_nil, or_false] at hfm
  have mr : ∀ (m a b : Int) {l : List Int}, AllB l → AllB (mrB m a b :: l) := fun m a b _ hl => allB_cons (mrB_b m a b) hl
  rcases hfm with e | e | e | e | e | e | e | e | e | e | e | e | e
  · rw [tail_0 e]; exact ⟨allB_nil, .inl (by decide)⟩
  · rw [tail_1 e]; exact ⟨allB_nil, .inl (by decide)⟩
  · rw [tail_2 e]; exact ⟨im8_b _, .inr ⟨e, rfl⟩⟩
  · rw [tail_3 e]; exact ⟨mr _ _ _ allB_nil, .inl (by simp)⟩
  · rw [tail_4 e]; exact ⟨mr _ _ _ (im4_b _), .inl (by simp [im4])⟩
  · rw [tail_5 e]; exact ⟨mr _ _ _ (im1_b _), .inl (by simp [im1])⟩
  · rw [tail_6 e]; refine ⟨mr _ _ _ (immS_b _), .inl ?_⟩
    unfold immS
    cases fitsF i.2.2.2.2.2 <;> simp [im1, im4]
  · rw [tail_7 e]; exact ⟨mr _ _ _ allB_nil, .inl (by simp)⟩
  · rw [tail_8 e]; exact ⟨mr _ _ _ allB_nil, .inl (by simp)⟩
  · rw [tail_9 e]
    have hp : placeF i.2.2.1 i.2.2.2.1 i.2.2.2.2.1 = true := by
      rcases ok_parts h with ⟨-, -, h3⟩ | ⟨h1, -⟩
      · exact h3
      · unfold uM at h1; rw [e] at h1; cases h1
    obtain ⟨h1, h2, -⟩ := memP_b (a := i.2.1) (n := i.2.2.2.2.2) hp
    exact ⟨h1, .inl h2⟩
  · rw [tail_10 e]; exact ⟨mr _ _ _ (allB_cons ⟨by decide, by decide⟩ (im4_b _)), .inl (by simp [im4])⟩
  · rw [tail_11 e]; exact ⟨im4_b _, .inl (by simp [im4])⟩
  · rw [tail_12 e]; exact ⟨im1_b _, .inl (by simp [im1])⟩
theorem enc_bytes {i : InsT} (he : encE i = 0) : AllB (encL i) ∧ 1 ≤ (encL i).length ∧ (encL i).length ≤ 10 := by
  obtain ⟨hx, hn, hf⟩ := enc_row he
  rw [enc_split]
  generalize frow i.1 = x at hx hn hf
  have h := faulty_ok hf
  obtain ⟨t1, t2⟩ := tail_b hx hf
  have hl := front_len hx i
  have h10 := (rex_of hx).2.2
  refine ⟨allB_app (front_b hx h) t1, ?_, ?_⟩
  · rw [List.length_append]
    have : 1 ≤ takN x i := by
      unfold takN
      cases takF x
      · rw [cond_false]
        cases takH x i <;> cases decide (255 < x.2.2.1) <;> decide
      · rw [cond_true]; omega
    omega
  · rw [List.length_append]
    have h3 : takN x i ≤ 3 ∧ (formR x = 2 → takN x i ≤ 2) := by
      unfold takN takF
      by_cases e : formR x = 10
      · rw [e]; exact ⟨show (3 : Int) ≤ 3 by omega, fun h => by omega⟩
      · rw [beq_eq_false_iff_ne.2 e, cond_false]
        refine ⟨?_, fun h2 => ?_⟩
        · cases takH x i <;> cases decide (255 < x.2.2.1) <;> decide
        · have := List.all_eq_true.1 rows_2 x hx
          rw [h2] at this
          have hle : x.2.2.1 ≤ 255 := of_decide_eq_true this
          rw [decide_eq_false (by omega)]
          cases takH x i <;> decide
    rcases t2 with t2 | ⟨t2, t3⟩
    · omega
    · have := h3.2 t2
      omega
end Go.Amd

namespace Go.Amd
open Go Go.Ab Go.Proofs
def MonoP (F : List Int → Int → RestR) : Prop := ∀ (t : List Int) (k : Int) (i : InsT) (m : Int), F t k = .ok (i, m) → ∃ u : Nat, m = k + u ∧ u ≤ t.length ∧ ∀ j < u, ∃ s, F (t.take j) k = .error (2, s)
theorem mono_fin (x : RowT) (i : InsT) : MonoP fun _ k => finQ x i k := by
  intro t k i' m h
  have h : finQ x i k = .ok (i', m) := h
  unfold finQ at h
  cases hc : (!(faultyF x i == 0))
  · rw [hc, cond_false] at h
    have h2 := Prod.mk.inj (Except.ok.inj h)
    exact ⟨0, by omega, by omega, fun j hj => by omega⟩
  · rw [hc, cond_true] at h; cases h
theorem mono_must {b : Bool} {F : List Int → Int → RestR} (h : MonoP F) : MonoP fun t k => mustQ b k (F t k) := by
  intro t k i m he
  cases b
  · cases he
  · exact h t k i m he
theorem mono_cond {b : Bool} {F G : List Int → Int → RestR} (h : MonoP F) (g : MonoP G) : MonoP fun t k => cond b (F t k) (G t k) := by
  cases b
  · exact g
  · exact h
theorem mono_nx {K : Int → List Int → Int → RestR} (h : ∀ c, MonoP (K c)) : MonoP fun t k => nxQ t k K := by
  intro t k i m he
  cases t with
  | nil => cases he
  | cons c t =>
    obtain ⟨u, h1, h2, h3⟩ := h c t (k + 1) i m he
    refine ⟨u + 1, by omega, by simp only [List.length_cons]; omega, fun j hj => ?_⟩
    cases j with
    | zero => exact ⟨k, rfl⟩
    | succ j => exact h3 j (by omega)
theorem mono_num1 {K : Int → List Int → Int → RestR} (h : ∀ c, MonoP (K c)) : MonoP fun t k => num1Q t k K := mono_nx fun _ => h _
theorem mono_num4 {K : Int → List Int → Int → RestR} (h : ∀ c, MonoP (K c)) : MonoP fun t k => num4Q t k K := mono_nx fun _ => mono_nx fun _ => mono_nx fun _ => mono_nx fun _ => h _
theorem mono_num8 {K : Int → List Int → Int → RestR} (h : ∀ c, MonoP (K c)) : MonoP fun t k => num8Q t k K :=
  mono_nx fun _ => mono_nx fun _ => mono_nx fun _ => mono_nx fun _ => mono_nx fun _ => mono_nx fun _ => mono_nx fun _ => mono_nx fun _ => h _
theorem mono_err (e : Int) : MonoP fun _ k => .error (e, k) := fun t k i m h => by cases h
theorem mono_mod (c b : Int) {K : Int → List Int → Int → RestR} (h : ∀ c, MonoP (K c)) : MonoP fun t k => modQ c b t k K :=
  mono_cond (mono_num1 fun n => mono_cond (h n) (mono_must (h n))) (mono_cond (mono_num4 fun n => mono_must (h n)) (h 0))
theorem mono_sib2 (R c e : Int) {K : PlaceK} (h : ∀ b cc d n, MonoP (K b cc d n)) : MonoP fun t k => sibQ2 R c e t k K :=
  mono_cond (mono_cond (mono_must (mono_mod _ _ fun n => h _ _ _ n)) (mono_err 22)) (mono_mod _ _ fun n => h _ _ _ n)
theorem mono_sib (R c : Int) {K : PlaceK} (h : ∀ b cc d n, MonoP (K b cc d n)) : MonoP fun t k => sibQ R c t k K :=
  mono_nx fun e => mono_cond (mono_sib2 R c e h) (mono_must (mono_sib2 R c e h))
theorem mono_base (R c : Int) {K : PlaceK} (h : ∀ b cc d n, MonoP (K b cc d n)) : MonoP fun t k => baseQ R c t k K :=
  mono_cond (mono_sib R c h) (mono_must (mono_mod _ _ fun n => h _ _ _ n))
theorem mono_place (R c : Int) {K : PlaceK} (h : ∀ b cc d n, MonoP (K b cc d n)) : MonoP fun t k => placeQ R c t k K :=
  mono_cond (mono_cond (mono_must (mono_num4 fun n => h _ _ _ n)) (mono_base R c h)) (mono_base R c h)
theorem mono_form (f R : Int) (x : RowT) (op : List Int) (c d : Int) : MonoP fun t k => formQ f R x op c t k d := by
  unfold formQ lastQ
  refine mono_cond (mono_fin x _) (mono_cond (mono_fin x _) (mono_cond (mono_num8 fun n => mono_fin x _) (mono_cond (mono_fin x _) (mono_cond (mono_num4 fun n => mono_fin x _) (mono_cond (mono_num1 fun n => mono_fin x _)
    (mono_cond (mono_cond (mono_num1 fun n => mono_fin x _) (mono_num4 fun n => mono_must (mono_fin x _))) (mono_cond (mono_fin x _) (mono_cond (mono_fin x _) (mono_cond (mono_place R c fun b cc d n => mono_fin x _)
    (mono_cond (mono_nx fun e => mono_must (mono_num4 fun n => mono_fin x _)) (mono_cond (mono_num4 fun n => mono_fin x _) (mono_num1 fun n => mono_fin x _))))))))))))
theorem mono_rest (R : Int) (x : RowT) (op : List Int) (c : Int) : MonoP fun t k => restQ R x op c t k := by
  unfold restQ lastQ
  exact mono_cond (mono_form _ R x op c _) (mono_form _ R x op c 0)
def OpcAt (l op : List Int) (k : Int) (fs : Bool) (R : Int) (has : Bool) : Prop :=
  (∃ t, l = op ++ t ∧ k = (op.length : Int) ∧ fs = false ∧ R = 0 ∧ has = false ∧ ((∃ c, op = [c] ∧ OneB c) ∨ (∃ d, op = [15, d]))) ∨
  (∃ r t, l = r :: op ++ t ∧ k = (op.length : Int) + 1 ∧ fs = false ∧ (r == 100) = false ∧ (sh4 r == 4) = true ∧ R = and8 r 15 ∧ has = true ∧ ((∃ c, op = [c] ∧ (c == 15) = false) ∨ (∃ d, op = [15, d] ∧ (and8 R 8 != 0) = true))) ∨
  (∃ r c t, l = 100 :: r :: c :: t ∧ op = [c] ∧ k = 3 ∧ fs = true ∧ (and8 r 251 == 72) = true ∧ (sh4 r == 4) = true ∧ R = and8 r 15 ∧ has = true ∧ (c == 15) = false)
theorem fs_all : all1 256 (fun r => cond (and8 r 251 == 72) (sh4 r == 4 && (and8 r 15 == 8 || and8 r 15 == 12)) true) = true := by kernel_rfl
theorem bne_ff {a b : Int} (h : (a != b) = true) : (a == b) = false := by
  unfold bne at h
  cases hb : (a == b)
  · rfl
  · rw [hb] at h; cases h
theorem bne_tt {a b : Int} (h : (a != b) = false) : a = b := by
  unfold bne at h
  cases hb : (a == b)
  · rw [hb] at h; cases h
  · exact eq_of_beq hb
theorem opc_at {l op : List Int} {k : Int} {fs : Bool} {R : Int} {has : Bool} (hl : AllB l) (h : opcP l = .ok (op, k, fs, R, has)) : OpcAt l op k fs R has := by
  have ok : ∀ {o : List Int} {j : Int} {f : Bool} {r : Int} {b : Bool}, (Except.ok (o, j, f, r, b) : OpR) = .ok (op, k, fs, R, has) → o = op ∧ j = k ∧ f = fs ∧ r = R ∧ b = has := by
    intro o j f r b h
    cases h
    exact ⟨rfl, rfl, rfl, rfl, rfl⟩
  cases l with
  | nil => cases h
  | cons c t =>
    unfold opcP opc0 at h
    simp only at h
    cases h0 : (c == 100)
    · rw [h0, cond_false] at h
      cases h4 : (sh4 c == 4)
      · rw [h4, cond_false] at h
        cases h15 : (c != 15)
        · rw [h15, cond_false] at h
          cases t with
          | nil => cases h
          | cons d t =>
            obtain ⟨rfl, rfl, rfl, rfl, rfl⟩ := ok h
            have := bne_tt h15
            subst this
            exact .inl ⟨t, rfl, rfl, rfl, rfl, rfl, .inr ⟨d, rfl⟩⟩
        · rw [h15, cond_true] at h
          obtain ⟨rfl, rfl, rfl, rfl, rfl⟩ := ok h
          exact .inl ⟨t, rfl, rfl, rfl, rfl, rfl, .inl ⟨c, rfl, bne_ff h15, h0, h4⟩⟩
      · rw [h4, cond_true] at h
        cases t with
        | nil => cases h
        | cons d t =>
          simp only at h
          unfold opc2 at h
          cases h15 : (d != 15)
          · rw [h15, cond_false] at h
            cases h8 : (!(and8 (and8 c 15) 8 != 0))
            · rw [h8, cond_false] at h
              cases t with
              | nil => cases h
              | cons e t =>
                obtain ⟨rfl, rfl, rfl, rfl, rfl⟩ := ok h
                have := bne_tt h15
                subst this
                exact .inr (.inl ⟨c, t, rfl, rfl, rfl, h0, h4, rfl, rfl, .inr ⟨e, rfl, by simpa using h8⟩⟩)
            · rw [h8] at h; cases h
          · rw [h15, cond_true] at h
            obtain ⟨rfl, rfl, rfl, rfl, rfl⟩ := ok h
            exact .inr (.inl ⟨c, t, rfl, rfl, rfl, h0, h4, rfl, rfl, .inl ⟨d, rfl, bne_ff h15⟩⟩)
    · rw [h0, cond_true] at h
      have hc := eq_of_beq h0
      subst hc
      cases t with
      | nil => cases h
      | cons d t =>
        simp only at h
        unfold opc1 at h
        cases h48 : (!(and8 d 251 == 72))
        · rw [h48, cond_false] at h
          have h48 : (and8 d 251 == 72) = true := by simpa using h48
          have hd : IsB d := hl d (List.mem_cons_of_mem _ List.mem_cons_self)
          have h4 : (sh4 d == 4) = true := by
            have := all1_of fs_all hd.1 hd.2
            rw [h48, cond_true] at this
            exact (Bool.and_eq_true_iff.1 this).1
          rw [h4, cond_true] at h
          cases t with
          | nil => cases h
          | cons e t =>
            simp only at h
            cases h15 : (e != 15)
            · rw [h15] at h; cases h
            · rw [h15, cond_true] at h
              obtain ⟨rfl, rfl, rfl, rfl, rfl⟩ := ok h
              exact .inr (.inr ⟨d, e, t, rfl, rfl, rfl, rfl, h48, h4, rfl, rfl, bne_ff h15⟩)
        · rw [h48] at h; cases h
theorem opc_take {l op : List Int} {k : Int} {fs : Bool} {R : Int} {has : Bool} (hl : AllB l) (h : opcP l = .ok (op, k, fs, R, has)) (j : Nat) :
    (((j : Int) < k) → ∃ s, opcP (l.take j) = .error (2, s)) ∧ (k ≤ (j : Int) → opcP (l.take j) = .ok (op, k, fs, R, has)) := by
  rcases opc_at hl h with ⟨t, rfl, rfl, rfl, rfl, rfl, ⟨c, rfl, h1, h2, h3⟩ | ⟨d, rfl⟩⟩ | ⟨r, t, rfl, rfl, rfl, h100, h4, rfl, rfl, ⟨c, rfl, h1⟩ | ⟨d, rfl, h8⟩⟩ | ⟨r, c, t, rfl, rfl, rfl, rfl, h48, h4, rfl, rfl, h15⟩
  · match j with
    | 0 => exact ⟨fun _ => ⟨_, rfl⟩, fun hj => absurd hj (by simp only [List.length_cons, List.length_nil]; omega)⟩
    | j + 1 => exact ⟨fun hj => absurd hj (by simp only [List.length_cons, List.length_nil]; omega), fun _ => opcP_one ⟨h1, h2, h3⟩ _⟩
  · match j with
    | 0 => exact ⟨fun _ => ⟨_, rfl⟩, fun hj => absurd hj (by simp only [List.length_cons, List.length_nil]; omega)⟩
    | 1 => exact ⟨fun _ => ⟨_, rfl⟩, fun hj => absurd hj (by simp only [List.length_cons, List.length_nil]; omega)⟩
    | j + 2 => exact ⟨fun hj => absurd hj (by simp only [List.length_cons, List.length_nil]; omega), fun _ => opcP_two d _⟩
  · match j with
    | 0 => exact ⟨fun _ => ⟨_, rfl⟩, fun hj => absurd hj (by simp only [List.length_cons, List.length_nil]; omega)⟩
    | 1 =>
      refine ⟨fun _ => ?_, fun hj => absurd hj (by simp only [List.length_cons, List.length_nil]; omega)⟩
      show ∃ s, opc0 r [] = _
      unfold opc0
      rw [h100, h4]
      exact ⟨_, rfl⟩
    | j + 2 =>
      refine ⟨fun hj => absurd hj (by simp only [List.length_cons, List.length_nil]; omega), fun _ => ?_⟩
      show opc0 r (c :: t.take j) = _
      unfold opc0
      rw [h100, h4, cond_false, cond_true]
      show opc2 (and8 r 15) c _ = _
      unfold opc2
      rw [bne_of h1]
      rfl
  · match j with
    | 0 => exact ⟨fun _ => ⟨_, rfl⟩, fun hj => absurd hj (by simp only [List.length_cons, List.length_nil]; omega)⟩
    | 1 =>
      refine ⟨fun _ => ?_, fun hj => absurd hj (by simp only [List.length_cons, List.length_nil]; omega)⟩
      show ∃ s, opc0 r [] = _
      unfold opc0
      rw [h100, h4]
      exact ⟨_, rfl⟩
    | 2 =>
      refine ⟨fun _ => ?_, fun hj => absurd hj (by simp only [List.length_cons, List.length_nil]; omega)⟩
      show ∃ s, opc0 r [15] = _
      unfold opc0
      rw [h100, h4, cond_false, cond_true]
      show ∃ s, opc2 (and8 r 15) 15 [] = _
      unfold opc2
      rw [h8]
      exact ⟨_, rfl⟩
    | j + 3 =>
      refine ⟨fun hj => absurd hj (by simp only [List.length_cons, List.length_nil]; omega), fun _ => ?_⟩
      show opc0 r (15 :: d :: t.take j) = _
      unfold opc0
      rw [h100, h4, cond_false, cond_true]
      show opc2 (and8 r 15) 15 (d :: _) = _
      unfold opc2
      rw [h8]
      rfl
  · match j with
    | 0 => exact ⟨fun _ => ⟨_, rfl⟩, fun hj => absurd hj (by omega)⟩
    | 1 => exact ⟨fun _ => ⟨_, rfl⟩, fun hj => absurd hj (by omega)⟩
    | 2 =>
      refine ⟨fun _ => ?_, fun hj => absurd hj (by omega)⟩
      show ∃ s, opc1 r [] = _
      unfold opc1
      rw [h48, h4]
      exact ⟨_, rfl⟩
    | j + 3 =>
      refine ⟨fun hj => absurd hj (by omega), fun _ => ?_⟩
      show opc1 r (c :: t.take j) = _
      unfold opc1
      rw [h48, h4]
      show cond (c != 15) _ _ = _
      rw [bne_of h15]
      rfl
theorem rexr_all : all1 256 (fun r => cond (sh4 r == 4) (r == 64 + and8 r 15 && (decide (0 ≤ and8 r 15) && decide (and8 r 15 < 16))) true) = true := by kernel_rfl
theorem rexr_of {r : Int} (hr : IsB r) (h : (sh4 r == 4) = true) : r = 64 + and8 r 15 ∧ 0 ≤ and8 r 15 ∧ and8 r 15 < 16 := by
  have := all1_of rexr_all hr.1 hr.2
  rw [h, cond_true] at this
  simp only [Bool.and_eq_true, beq_iff_eq, decide_eq_true_eq] at this
  exact this
theorem opc_split {l op : List Int} {k : Int} {fs : Bool} {R : Int} {has : Bool} (hl : AllB l) (h : opcP l = .ok (op, k, fs, R, has)) :
    OpB op ∧ (0 ≤ R ∧ R < 16) ∧ (has = false → R = 0) ∧ (fs = true → has = true ∧ (R = 8 ∨ R = 12)) ∧ 0 ≤ k ∧ l = (cond fs [100] [] ++ cond has [64 + R] [] ++ op) ++ l.drop k.toNat ∧ k = ((cond fs [100] [] ++ cond has [64 + R] [] ++ op).length : Int) := by
  have b0 : ∀ {c : Int} {t : List Int}, AllB (c :: t) → IsB c := fun h => h _ List.mem_cons_self
  have b1 : ∀ {c : Int} {t : List Int}, AllB (c :: t) → AllB t := fun h d hd => h d (List.mem_cons_of_mem _ hd)
  rcases opc_at hl h with ⟨t, rfl, rfl, rfl, rfl, rfl, ⟨c, rfl, h1, h2, h3⟩ | ⟨d, rfl⟩⟩ | ⟨r, t, rfl, rfl, rfl, h100, h4, rfl, rfl, ⟨c, rfl, h1⟩ | ⟨d, rfl, h8⟩⟩ | ⟨r, c, t, rfl, rfl, rfl, rfl, h48, h4, rfl, rfl, h15⟩
  · exact ⟨.inl ⟨c, b0 hl, rfl⟩, by decide, fun _ => rfl, (fun h => by cases h), by simp only [List.length_cons, List.length_nil]; omega, rfl, rfl⟩
  · exact ⟨.inr ⟨d, b0 (b1 hl), rfl⟩, by decide, fun _ => rfl, (fun h => by cases h), by simp only [List.length_cons, List.length_nil]; omega, rfl, rfl⟩
  · obtain ⟨e, e0, e1⟩ := rexr_of (b0 hl) h4
    refine ⟨.inl ⟨c, b0 (b1 hl), rfl⟩, ⟨e0, e1⟩, (fun h => by cases h), (fun h => by cases h), by simp only [List.length_cons, List.length_nil]; omega, ?_, rfl⟩
    rw [← e]; rfl
  · obtain ⟨e, e0, e1⟩ := rexr_of (b0 hl) h4
    refine ⟨.inr ⟨d, b0 (b1 (b1 hl)), rfl⟩, ⟨e0, e1⟩, (fun h => by cases h), (fun h => by cases h), by simp only [List.length_cons, List.length_nil]; omega, ?_, rfl⟩
    rw [← e]; rfl
  · obtain ⟨e, e0, e1⟩ := rexr_of (b0 (b1 hl)) h4
    have hR : and8 r 15 = 8 ∨ and8 r 15 = 12 := by
      have := all1_of fs_all (b0 (b1 hl)).1 (b0 (b1 hl)).2
      rw [h48, cond_true] at this
      simpa using (Bool.and_eq_true_iff.1 this).2
    refine ⟨.inl ⟨c, b0 (b1 (b1 hl)), rfl⟩, ⟨e0, e1⟩, (fun h => by cases h), fun _ => ⟨rfl, hR⟩, by decide, ?_, rfl⟩
    rw [← e]; rfl
theorem plainR_ok {r : RestR} {p : InsT × Int} (h : plainR r = .ok p) : r = .ok p := by
  cases r with
  | ok q => exact congrArg Except.ok (Except.ok.inj h)
  | error q => cases h
theorem dec_parts {l : List Int} (hl : AllB l) {i : InsT} {n : Int} (h : decQ l = .ok (i, n)) : ∃ op k fs R has, opcP l = .ok (op, k, fs, R, has) ∧ ∃ x, x ∈ cands R op fs has ∧
    ((modOf (formR x) = false ∧ restQ R x op 0 (l.drop k.toNat) k = .ok (i, n)) ∨ (modOf (formR x) = true ∧ ∃ c t, l.drop k.toNat = c :: t ∧ fitC c x = true ∧ restQ R x op c t (k + 1) = .ok (i, n))) := by
  unfold decQ at h
  cases ho : opcP l with
  | error p => rw [ho] at h; cases h
  | ok p =>
    obtain ⟨op, k, fs, R, has⟩ := p
    rw [ho] at h
    simp only at h
    refine ⟨op, k, fs, R, has, rfl, ?_⟩
    cases hc : cands R op fs has with
    | nil => rw [hc] at h; cases h
    | cons r0 G =>
      rw [hc] at h
      simp only at h
      have hmod : ∀ y ∈ r0 :: G, y ∈ cands R op fs has := fun y hy => by rw [hc]; exact hy
      cases hm : modOf (formR r0)
      · rw [hm, cond_false] at h
        exact ⟨r0, List.mem_cons_self, .inl ⟨hm, plainR_ok h⟩⟩
      · rw [hm, cond_true] at h
        cases hd : l.drop k.toNat with
        | nil => rw [hd] at h; cases h
        | cons c t =>
          rw [hd] at h
          unfold decC at h
          simp only at h
          cases hx : (r0 :: G).find? (fitC c) with
          | none => rw [hx] at h; cases h
          | some x =>
            rw [hx] at h
            have hfit : fitC c x = true := by
              have := List.find?_some hx
              exact this
            have hmem := List.mem_of_find?_eq_some hx
            refine ⟨x, hmem, .inr ⟨?_, c, t, rfl, hfit, plainR_ok h⟩⟩
            obtain ⟨s1, s2, -⟩ := opc_split hl ho
            by_cases hne : r0 = x
            · rw [← hne]; exact hm
            · exact (cand_apart s1 s2.1 s2.2 (hmod r0 List.mem_cons_self) (hmod x hmem) hne).2.1
theorem cands_of {op : List Int} {fs has : Bool} {R : Int} {x : RowT} (h : x ∈ cands R op fs has) : x ∈ rowsL ∧ opensF x op = true ∧ prefF x fs R has = true := by
  obtain ⟨h1, h2⟩ := List.mem_filter.1 h
  unfold cand at h2
  cases ho : opensF x op
  · rw [ho] at h2; cases h2
  · rw [ho] at h2; exact ⟨h1, rfl, h2⟩
theorem dec_short {l : List Int} (hl : AllB l) {i : InsT} {n : Int} (h : decQ l = .ok (i, n)) : 0 ≤ n ∧ n ≤ (l.length : Int) ∧ ∀ j : Nat, (j : Int) < n → decQ (l.take j) = .error 2 := by
  obtain ⟨op, k, fs, R, has, ho, x, hx, hr⟩ := dec_parts hl h
  obtain ⟨s1, s2, -, -, k0, e1, e2⟩ := opc_split hl ho
  have hk : k ≤ (l.length : Int) := by
    rw [e1, List.length_append]
    omega
  have hdl : ((l.drop k.toNat).length : Int) = (l.length : Int) - k := by rw [List.length_drop]; omega
  have tk := opc_take hl ho
  have early : ∀ j : Nat, (j : Int) < k → decQ (l.take j) = .error 2 := by
    intro j hj
    obtain ⟨s, hs⟩ := (tk j).1 hj
    unfold decQ
    rw [hs]
  have hone := chosen_one s1 s2.1 s2.2 hx
  rcases hr with ⟨hm, hr⟩ | ⟨hm, c, t, hd, hf, hr⟩
  · obtain ⟨u, h1, h2, h3⟩ := mono_rest R x op 0 _ _ _ _ hr
    refine ⟨by omega, by omega, fun j hj => ?_⟩
    by_cases hjk : (j : Int) < k
    · exact early j hjk
    obtain ⟨s, hs⟩ := h3 (j - k.toNat) (by omega)
    have hc : ∃ G, cands R op fs has = x :: G := by
      rcases hone.1 hm with e | ⟨G, e, -⟩
      · exact ⟨[], e⟩
      · exact ⟨G, e⟩
    obtain ⟨G, hc⟩ := hc
    unfold decQ
    rw [(tk j).2 (by omega)]
    simp only
    rw [hc]
    simp only
    rw [hm, cond_false, List.drop_take, show restQ R x op 0 (List.take (j - k.toNat) (List.drop k.toNat l)) k = .error (2, s) from hs]
    rfl
  · obtain ⟨u, h1, h2, h3⟩ := mono_rest R x op c _ _ _ _ hr
    have hdl2 : ((l.drop k.toNat).length : Int) = (t.length : Int) + 1 := by rw [hd, List.length_cons]; omega
    refine ⟨by omega, by omega, fun j hj => ?_⟩
    by_cases hjk : (j : Int) < k
    · exact early j hjk
    obtain ⟨r0, G, hc, hm0, hG⟩ := hone.2 hm
    have hg := hG c hf
    unfold decQ
    rw [(tk j).2 (by omega)]
    simp only
    rw [hc]
    simp only
    rw [hm0, cond_true, List.drop_take, hd]
    by_cases hj0 : j - k.toNat = 0
    · rw [hj0]; rfl
    · obtain ⟨s, hs⟩ := h3 (j - k.toNat - 1) (by omega)
      rw [show j - k.toNat = (j - k.toNat - 1) + 1 by omega, List.take_succ_cons]
      unfold decC
      simp only
      rw [hg]
      simp only
      rw [show restQ R x op c (List.take (j - k.toNat - 1) t) (k + 1) = .error (2, s) from hs]
      rfl
end Go.Amd
