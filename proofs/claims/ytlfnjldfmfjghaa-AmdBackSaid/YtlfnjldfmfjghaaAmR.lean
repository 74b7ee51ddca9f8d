/-
  Forms read back: numbers without a register; a register and a number of eight bytes. Conditions: none.
-/
import Derived.Test.YtlfnjldfmfjghaaAmQ
namespace Go.Amd
open Go Go.Ab Go.Proofs

def immR (x : RowT) : Bool := cond (formR x == 5 || formR x == 12) (decide (-128 ≤ lowR x) && decide (highR x < 128)) (cond (formR x == 2) (decide (-9223372036854775808 ≤ lowR x) && decide (highR x < 9223372036854775808))
  (decide (-2147483648 ≤ lowR x) && decide (highR x < 2147483648)))
theorem imm_all : rowsL.all immR = true := by kernel_rfl
theorem imm_1 {x : RowT} (hx : x ∈ rowsL) (hf : formR x = 5 ∨ formR x = 12) : -128 ≤ lowR x ∧ highR x < 128 := by
  have := List.all_eq_true.1 imm_all x hx
  unfold immR at this
  have e : (formR x == 5 || formR x == 12) = true := by rcases hf with e | e <;> rw [e] <;> rfl
  rw [e, cond_true] at this
  obtain ⟨h1, h2⟩ := Bool.and_eq_true_iff.1 this
  exact ⟨of_decide_eq_true h1, of_decide_eq_true h2⟩
theorem imm_8 {x : RowT} (hx : x ∈ rowsL) (hf : formR x = 2) : -9223372036854775808 ≤ lowR x ∧ highR x < 9223372036854775808 := by
  have := List.all_eq_true.1 imm_all x hx
  unfold immR at this
  rw [hf] at this
  obtain ⟨h1, h2⟩ := Bool.and_eq_true_iff.1 this
  exact ⟨of_decide_eq_true h1, of_decide_eq_true h2⟩
theorem imm_4 {x : RowT} (hx : x ∈ rowsL) (hf : formR x = 4 ∨ formR x = 6 ∨ formR x = 9 ∨ formR x = 10 ∨ formR x = 11) : -2147483648 ≤ lowR x ∧ highR x < 2147483648 := by
  have := List.all_eq_true.1 imm_all x hx
  unfold immR at this
  have e : (formR x == 5 || formR x == 12) = false ∧ (formR x == 2) = false := by rcases hf with e | e | e | e | e <;> rw [e] <;> exact ⟨rfl, rfl⟩
  rw [e.1, e.2] at this
  obtain ⟨h1, h2⟩ := Bool.and_eq_true_iff.1 this
  exact ⟨of_decide_eq_true h1, of_decide_eq_true h2⟩

theorem formQ_2 (R : Int) (x : RowT) (op : List Int) (c : Int) (t : List Int) (k d : Int) : formQ 2 R x op c t k d = lastQ x op fun a => num8Q t k fun n _ k => finQ x (x.1, wi (a + bitF R 1), 0, 0, d, n) k := rfl
theorem formQ_11 (R : Int) (x : RowT) (op : List Int) (c : Int) (t : List Int) (k d : Int) : formQ 11 R x op c t k d = num4Q t k fun n _ k => finQ x (x.1, 0, 0, 0, d, n) k := rfl
theorem formQ_12 (R : Int) (x : RowT) (op : List Int) (c : Int) (t : List Int) (k d : Int) : formQ 12 R x op c t k d = num1Q t k fun n _ k => finQ x (x.1, 0, 0, 0, d, n) k := rfl

/-- One register, in the opcode, and a number of eight bytes. -/
theorem back_2 {x : RowT} (hx : x ∈ rowsL) {i : InsT} (hn : x.1 = i.1) (he : faultyF x i = 0) (hf : formR x = 2) (t : List Int) (k : Int) :
    restQ (takR x i) x (headI x i) 0 (im8 i.2.2.2.2.2 ++ t) k = .ok (i, k + 8) := by
  have h := faulty_ok he
  have h9 : uM x = false := by unfold uM; rw [hf]; rfl
  obtain ⟨ha, hd⟩ := ok_rng h
  obtain ⟨z1, z2, z3, -⟩ := ok_zero h h9
  have e2 := z2 (by unfold uB; rw [hf]; rfl)
  have e3 := (ok_imm he).1 (by unfold uI; rw [hf]; rfl)
  have hr := reg_back hx h ha (.inr hf)
  have hs := say_reg hx h ha hd (.inr hf)
  have hi := imm_8 hx hf
  rw [rest_form hx h h9]
  obtain ⟨nm, a, b, c, d, n⟩ := i
  simp only at hn e2 e3 z3 hr hs ⊢
  subst hn e2 z3
  rw [hf, formQ_2, hs, num8Q_im (by omega) (by omega), hr]
  exact finQ_ok he (k + 8)
/-- A number of four bytes. -/
theorem back_11 {x : RowT} (hx : x ∈ rowsL) {i : InsT} (hn : x.1 = i.1) (he : faultyF x i = 0) (hf : formR x = 11) (t : List Int) (k : Int) :
    restQ (takR x i) x (headI x i) 0 (im4 i.2.2.2.2.2 ++ t) k = .ok (i, k + 4) := by
  have h := faulty_ok he
  have h9 : uM x = false := by unfold uM; rw [hf]; rfl
  obtain ⟨z1, z2, z3, -⟩ := ok_zero h h9
  have e1 := z1 (by unfold uA; rw [hf]; rfl)
  have e2 := z2 (by unfold uB; rw [hf]; rfl)
  have e3 := (ok_imm he).1 (by unfold uI; rw [hf]; rfl)
  have hi := imm_4 hx (by omega)
  rw [rest_form hx h h9]
  obtain ⟨nm, a, b, c, d, n⟩ := i
  simp only at hn e1 e2 e3 z3 ⊢
  subst hn e1 e2 z3
  rw [hf, formQ_11, num4Q_im (by omega) (by omega)]
  exact finQ_ok he (k + 4)
/-- A number of one byte. -/
theorem back_12 {x : RowT} (hx : x ∈ rowsL) {i : InsT} (hn : x.1 = i.1) (he : faultyF x i = 0) (hf : formR x = 12) (t : List Int) (k : Int) :
    restQ (takR x i) x (headI x i) 0 (im1 i.2.2.2.2.2 ++ t) k = .ok (i, k + 1) := by
  have h := faulty_ok he
  have h9 : uM x = false := by unfold uM; rw [hf]; rfl
  obtain ⟨z1, z2, z3, -⟩ := ok_zero h h9
  have e1 := z1 (by unfold uA; rw [hf]; rfl)
  have e2 := z2 (by unfold uB; rw [hf]; rfl)
  have e3 := (ok_imm he).1 (by unfold uI; rw [hf]; rfl)
  have hi := imm_1 hx (.inr hf)
  rw [rest_form hx h h9]
  obtain ⟨nm, a, b, c, d, n⟩ := i
  simp only at hn e1 e2 e3 z3 ⊢
  subst hn e1 e2 z3
  rw [hf, formQ_12, num1Q_im (by omega) (by omega)]
  exact finQ_ok he (k + 1)

end Go.Amd

namespace Go.Amd
open Go Go.Ab Go.Proofs

theorem rI_grp {x : RowT} (hx : x ∈ rowsL) {i : InsT} (ha : 0 ≤ i.2.1 ∧ i.2.1 < 16) (hf : formR x = 3 ∨ formR x = 4 ∨ formR x = 5 ∨ formR x = 6) : rI x i = i.2.1 / 8 := by
  obtain ⟨d0, d1, d2⟩ := dg_rng hx
  have e : rI x i = rexM 0 (wi x.2.2.2.2.1) i.2.1 := by
    unfold rI
    rcases hf with e | e | e | e <;> rw [e] <;> rfl
  rw [e, d2, rexM_eq d0 (by omega) ha.1 ha.2]
  omega
theorem low_grp {x : RowT} (hx : x ∈ rowsL) {i : InsT} (h : okF x i.2.1 i.2.2.1 i.2.2.2.1 i.2.2.2.2.1 = true) (hf : formR x = 3 ∨ formR x = 4 ∨ formR x = 5 ∨ formR x = 6) :
    lowF (mrB 3 (wi x.2.2.2.2.1) i.2.1) (takR x i) = i.2.1 := by
  have ha := (ok_rng h).1
  obtain ⟨d0, d1, d2⟩ := dg_rng hx
  rw [d2]
  refine low_back hx h (by decide) (by decide) d0 (by omega) ha.1 ha.2 ?_
  rw [rI_grp hx ha hf]
  omega

theorem formQ_3 (R : Int) (x : RowT) (op : List Int) (c : Int) (t : List Int) (k d : Int) : formQ 3 R x op c t k d = finQ x (x.1, lowF c R, 0, 0, d, 0) k := rfl
theorem formQ_4 (R : Int) (x : RowT) (op : List Int) (c : Int) (t : List Int) (k d : Int) : formQ 4 R x op c t k d = num4Q t k fun n _ k => finQ x (x.1, lowF c R, 0, 0, d, n) k := rfl
theorem formQ_5 (R : Int) (x : RowT) (op : List Int) (c : Int) (t : List Int) (k d : Int) : formQ 5 R x op c t k d = num1Q t k fun n _ k => finQ x (x.1, lowF c R, 0, 0, d, n) k := rfl
theorem formQ_7 (R : Int) (x : RowT) (op : List Int) (c : Int) (t : List Int) (k d : Int) : formQ 7 R x op c t k d = finQ x (x.1, lowF c R, midF c R, 0, d, 0) k := rfl
theorem formQ_8 (R : Int) (x : RowT) (op : List Int) (c : Int) (t : List Int) (k d : Int) : formQ 8 R x op c t k d = finQ x (x.1, midF c R, lowF c R, 0, d, 0) k := rfl
/-- Form 3. -/
theorem back_3 {x : RowT} (hx : x ∈ rowsL) {i : InsT} (hn : x.1 = i.1) (he : faultyF x i = 0) (hf : formR x = 3) (t : List Int) (k : Int) :
    restQ (takR x i) x (headI x i) (mrB 3 (wi x.2.2.2.2.1) i.2.1) (t) k = .ok (i, k) := by
  have h := faulty_ok he
  have h9 : uM x = false := by unfold uM; rw [hf]; rfl
  obtain ⟨z1, z2, z3, -⟩ := ok_zero h h9
  have e2 := z2 (by unfold uB; rw [hf]; rfl)
  have e3 := (ok_imm he).2 (by unfold uI; rw [hf]; rfl)
  have hl := low_grp hx h (by omega)
  rw [rest_form hx h h9]
  obtain ⟨nm, a, b, c, d, n⟩ := i
  simp only at hn e2 e3 z3 hl ⊢
  subst hn e2 e3 z3
  rw [hf, formQ_3, hl]
  exact finQ_ok he k
/-- Form 4. -/
theorem back_4 {x : RowT} (hx : x ∈ rowsL) {i : InsT} (hn : x.1 = i.1) (he : faultyF x i = 0) (hf : formR x = 4) (t : List Int) (k : Int) :
    restQ (takR x i) x (headI x i) (mrB 3 (wi x.2.2.2.2.1) i.2.1) (im4 i.2.2.2.2.2 ++ t) k = .ok (i, k + 4) := by
  have h := faulty_ok he
  have h9 : uM x = false := by unfold uM; rw [hf]; rfl
  obtain ⟨z1, z2, z3, -⟩ := ok_zero h h9
  have e2 := z2 (by unfold uB; rw [hf]; rfl)
  have e3 := (ok_imm he).1 (by unfold uI; rw [hf]; rfl)
  have hl := low_grp hx h (by omega)
  have hi := imm_4 hx (by omega)
  rw [rest_form hx h h9]
  obtain ⟨nm, a, b, c, d, n⟩ := i
  simp only at hn e2 e3 z3 hl ⊢
  subst hn e2 z3
  rw [hf, formQ_4, num4Q_im (by omega) (by omega), hl]
  exact finQ_ok he (k + 4)
/-- Form 5. -/
theorem back_5 {x : RowT} (hx : x ∈ rowsL) {i : InsT} (hn : x.1 = i.1) (he : faultyF x i = 0) (hf : formR x = 5) (t : List Int) (k : Int) :
    restQ (takR x i) x (headI x i) (mrB 3 (wi x.2.2.2.2.1) i.2.1) (im1 i.2.2.2.2.2 ++ t) k = .ok (i, k + 1) := by
  have h := faulty_ok he
  have h9 : uM x = false := by unfold uM; rw [hf]; rfl
  obtain ⟨z1, z2, z3, -⟩ := ok_zero h h9
  have e2 := z2 (by unfold uB; rw [hf]; rfl)
  have e3 := (ok_imm he).1 (by unfold uI; rw [hf]; rfl)
  have hl := low_grp hx h (by omega)
  have hi := imm_1 hx (.inl hf)
  rw [rest_form hx h h9]
  obtain ⟨nm, a, b, c, d, n⟩ := i
  simp only at hn e2 e3 z3 hl ⊢
  subst hn e2 z3
  rw [hf, formQ_5, num1Q_im (by omega) (by omega), hl]
  exact finQ_ok he (k + 1)
/-- Form 7: two registers. -/
theorem back_7 {x : RowT} (hx : x ∈ rowsL) {i : InsT} (hn : x.1 = i.1) (he : faultyF x i = 0) (hf : formR x = 7) (t : List Int) (k : Int) :
    restQ (takR x i) x (headI x i) (mrB 3 i.2.2.1 i.2.1) t k = .ok (i, k) := by
  have h := faulty_ok he
  have h9 : uM x = false := by unfold uM; rw [hf]; rfl
  have ha := (ok_rng h).1
  obtain ⟨z1, z2, z3, hb⟩ := ok_zero h h9
  have e3 := (ok_imm he).2 (by unfold uI; rw [hf]; rfl)
  have hr : rI x i = 4 * (i.2.2.1 / 8) + i.2.1 / 8 := by
    have e : rI x i = rexM 0 i.2.2.1 i.2.1 := by
      unfold rI
      rw [hf]; rfl
    rw [e, rexM_eq (by omega) (by omega) (by omega) (by omega)]
  have hl := low_back hx h (m := 3) (p := i.2.2.1) (q := i.2.1) (by decide) (by decide) (by omega) (by omega) (by omega) (by omega) (by omega)
  have hm := mid_back hx h (m := 3) (p := i.2.2.1) (q := i.2.1) (by decide) (by decide) (by omega) (by omega) (by omega) (by omega) (by omega)
  rw [rest_form hx h h9]
  obtain ⟨nm, a, b, c, d, n⟩ := i
  simp only at hn e3 z3 hl hm ⊢
  subst hn e3 z3
  rw [hf, formQ_7, hl, hm]
  exact finQ_ok he k
/-- Form 8: two registers. -/
theorem back_8 {x : RowT} (hx : x ∈ rowsL) {i : InsT} (hn : x.1 = i.1) (he : faultyF x i = 0) (hf : formR x = 8) (t : List Int) (k : Int) :
    restQ (takR x i) x (headI x i) (mrB 3 i.2.1 i.2.2.1) t k = .ok (i, k) := by
  have h := faulty_ok he
  have h9 : uM x = false := by unfold uM; rw [hf]; rfl
  have ha := (ok_rng h).1
  obtain ⟨z1, z2, z3, hb⟩ := ok_zero h h9
  have e3 := (ok_imm he).2 (by unfold uI; rw [hf]; rfl)
  have hr : rI x i = 4 * (i.2.1 / 8) + i.2.2.1 / 8 := by
    have e : rI x i = rexM 0 i.2.1 i.2.2.1 := by
      unfold rI
      rw [hf]; rfl
    rw [e, rexM_eq (by omega) (by omega) (by omega) (by omega)]
  have hl := low_back hx h (m := 3) (p := i.2.1) (q := i.2.2.1) (by decide) (by decide) (by omega) (by omega) (by omega) (by omega) (by omega)
  have hm := mid_back hx h (m := 3) (p := i.2.1) (q := i.2.2.1) (by decide) (by decide) (by omega) (by omega) (by omega) (by omega) (by omega)
  rw [rest_form hx h h9]
  obtain ⟨nm, a, b, c, d, n⟩ := i
  simp only at hn e3 z3 hl hm ⊢
  subst hn e3 z3
  rw [hf, formQ_8, hm, hl]
  exact finQ_ok he k

end Go.Amd

namespace Go.Amd
open Go Go.Ab Go.Proofs

theorem formQ_6 (R : Int) (x : RowT) (op : List Int) (c : Int) (t : List Int) (k d : Int) : formQ 6 R x op c t k d =
    cond (op.getD 0 0 == 131) (num1Q t k fun n _ k => finQ x (x.1, lowF c R, 0, 0, d, n) k) (num4Q t k fun n _ k => mustQ (!fitsF n) k (finQ x (x.1, lowF c R, 0, 0, d, n) k)) := rfl
theorem formQ_10 (R : Int) (x : RowT) (op : List Int) (c : Int) (t : List Int) (k d : Int) : formQ 10 R x op c t k d =
    nxQ t k fun e t k => mustQ (e == 37) k (num4Q t k fun n _ k => finQ x (x.1, midF c R, 0, 0, d, n) k) := rfl
theorem rows_six : rowsL.all (fun x => cond (formR x == 6) (w8 x.2.2.1 == 131 && decide (x.2.2.1 ≤ 255)) true) = true := by kernel_rfl
theorem six_of {x : RowT} (hx : x ∈ rowsL) (hf : formR x = 6) : w8 x.2.2.1 = 131 ∧ x.2.2.1 ≤ 255 := by
  have := List.all_eq_true.1 rows_six x hx
  rw [hf] at this
  obtain ⟨h1, h2⟩ := Bool.and_eq_true_iff.1 this
  exact ⟨eq_of_beq h1, of_decide_eq_true h2⟩
theorem head_six {x : RowT} (hx : x ∈ rowsL) (i : InsT) (hf : formR x = 6) : headI x i = [cond (fitsF i.2.2.2.2.2) 131 129] := by
  obtain ⟨h1, h2⟩ := six_of hx hf
  unfold headI hdF lastO lastF
  rw [hf, h1, decide_eq_false (by omega)]
  rfl

theorem back_10 {x : RowT} (hx : x ∈ rowsL) {i : InsT} (hn : x.1 = i.1) (he : faultyF x i = 0) (hf : formR x = 10) (t : List Int) (k : Int) :
    restQ (takR x i) x (headI x i) (mrB 0 i.2.1 4) (37 :: (im4 i.2.2.2.2.2 ++ t)) k = .ok (i, k + 5) := by
  have h := faulty_ok he
  have h9 : uM x = false := by unfold uM; rw [hf]; rfl
  have ha := (ok_rng h).1
  obtain ⟨z1, z2, z3, -⟩ := ok_zero h h9
  have e2 := z2 (by unfold uB; rw [hf]; rfl)
  have e3 := (ok_imm he).1 (by unfold uI; rw [hf]; rfl)
  have hi := imm_4 hx (by omega)
  have hr : rI x i = 4 * (i.2.1 / 8) := by
    have e : rI x i = rexM 0 i.2.1 4 := by
      unfold rI
      rw [hf]; rfl
    rw [e, rexM_eq (by omega) (by omega) (by omega) (by omega)]
    omega
  have hm := mid_back hx h (m := 0) (p := i.2.1) (q := 4) (by decide) (by decide) (by omega) (by omega) (by omega) (by omega) (by omega)
  rw [rest_form hx h h9]
  obtain ⟨nm, a, b, c, d, n⟩ := i
  simp only at hn e2 e3 z3 hm ⊢
  subst hn e2 z3
  rw [hf, formQ_10, hm]
  show mustQ true (k + 1) (num4Q (im4 n ++ t) (k + 1) fun n _ k => finQ x (x.1, a, 0, 0, d, n) k) = _
  rw [mustQ_ok rfl, num4Q_im (by omega) (by omega), show k + 1 + 4 = k + 5 by omega]
  exact finQ_ok he (k + 5)
end Go.Amd

namespace Go.Amd
open Go Go.Ab Go.Proofs

theorem formQ_6a (R : Int) (x : RowT) (c : Int) (t : List Int) (k d : Int) : formQ 6 R x [131] c t k d = num1Q t k fun n _ k => finQ x (x.1, lowF c R, 0, 0, d, n) k := rfl
theorem formQ_6b (R : Int) (x : RowT) (c : Int) (t : List Int) (k d : Int) : formQ 6 R x [129] c t k d = num4Q t k fun n _ k => mustQ (!fitsF n) k (finQ x (x.1, lowF c R, 0, 0, d, n) k) := rfl
def immS (n : Int) : List Int := cond (fitsF n) (im1 n) (im4 n)
theorem back_6 {x : RowT} (hx : x ∈ rowsL) {i : InsT} (hn : x.1 = i.1) (he : faultyF x i = 0) (hf : formR x = 6) (t : List Int) (k : Int) :
    restQ (takR x i) x (headI x i) (mrB 3 (wi x.2.2.2.2.1) i.2.1) (immS i.2.2.2.2.2 ++ t) k = .ok (i, k + ((immS i.2.2.2.2.2).length : Int)) := by
  have h := faulty_ok he
  have h9 : uM x = false := by unfold uM; rw [hf]; rfl
  obtain ⟨z1, z2, z3, -⟩ := ok_zero h h9
  have e2 := z2 (by unfold uB; rw [hf]; rfl)
  have e3 := (ok_imm he).1 (by unfold uI; rw [hf]; rfl)
  have hi := imm_4 hx (by omega)
  have hl := low_grp hx h (by omega)
  have hh := head_six hx i hf
  rw [rest_form hx h h9, hf, hh]
  generalize hc : mrB 3 (wi x.2.2.2.2.1) i.2.1 = c at hl
  obtain ⟨nm, a, b, cc, d, n⟩ := i
  simp only at hn e2 e3 z3 hl ⊢
  subst hn e2 z3
  unfold immS
  cases hq : fitsF n
  · have hm : (!fitsF n) = true := by rw [hq]; rfl
    rw [cond_false, cond_false, formQ_6b, hl, num4Q_im (by omega) (by omega), mustQ_ok hm]
    exact finQ_ok he (k + 4)
  · have hq2 := (fitsF_iff n).1 hq
    rw [cond_true, cond_true, formQ_6a, hl, num1Q_im (by omega) (by omega)]
    exact finQ_ok he (k + 1)

end Go.Amd

namespace Go.Amd
open Go Go.Ab Go.Proofs

theorem small_all : all1 16 (fun b => andi b 7 == b % 8 && (and8 b 3 == b % 4 && and8 b 2 == 2 * (b / 2 % 2))) = true := by kernel_rfl
theorem andi7 {b : Int} (b0 : 0 ≤ b) (b1 : b < 16) : andi b 7 = b % 8 := by
  have := all1_of small_all b0 b1
  simp only [Bool.and_eq_true, beq_iff_eq] at this
  exact this.1
theorem and83 {b : Int} (b0 : 0 ≤ b) (b1 : b < 16) : and8 b 3 = b % 4 ∧ and8 b 2 = 2 * (b / 2 % 2) := by
  have := all1_of small_all b0 b1
  simp only [Bool.and_eq_true, beq_iff_eq] at this
  exact this.2
theorem scF_all : all1 256 (fun e => cond (e / 64 == 0) (scF e == 1) (cond (e / 64 == 1) (scF e == 2) (cond (e / 64 == 2) (scF e == 4) (scF e == 8)))) = true := by kernel_rfl

theorem bits_of {R p q r : Int} (hp : p = 0 ∨ p = 1) (hq : q = 0 ∨ q = 1) (hr : r = 0 ∨ r = 1) (h : R % 8 = 4 * p + 2 * q + r) : R / 4 % 2 = p ∧ R / 2 % 2 = q ∧ R % 2 = r := by
  rcases hp with rfl | rfl <;> rcases hq with rfl | rfl <;> rcases hr with rfl | rfl <;> omega

/-- How a number stands behind a place. -/
def ModeOk (b n mod : Int) (imm : List Int) : Prop :=
  (mod = 0 ∧ imm = [] ∧ n = 0 ∧ b % 8 ≠ 5) ∨ (mod = 1 ∧ imm = im1 n ∧ (-128 ≤ n ∧ n < 128) ∧ (n = 0 → b % 8 = 5)) ∨ (mod = 2 ∧ imm = im4 n ∧ fitsF n = false)
theorem memP_mode {a b c d n : Int} (b0 : 0 ≤ b) (b1 : b < 16) : ∃ mod imm, ModeOk b n mod imm ∧ memP a b c d n = modP mod a b c d imm := by
  have hb : (b == 17) = false := beq_eq_false_iff_ne.2 (by omega)
  unfold memP
  rw [hb, cond_false, andi7 b0 b1]
  by_cases h0 : n = 0 ∧ b % 8 ≠ 5
  · have e1 : (n == 0) = true := by rw [h0.1]; rfl
    have e2 : (b % 8 != 5) = true := by simpa using h0.2
    rw [e1, e2]
    exact ⟨0, [], .inl ⟨rfl, rfl, h0.1, h0.2⟩, rfl⟩
  · have e : cond (n == 0) (b % 8 != 5) false = false := by
      cases hn : (n == 0)
      · rfl
      · rw [cond_true]
        have hn := eq_of_beq hn
        simp only [not_and, ne_eq, Decidable.not_not] at h0
        simp [h0 hn]
    rw [e, cond_false]
    cases hq : fitsF n
    · exact ⟨2, im4 n, .inr (.inr ⟨rfl, rfl, hq⟩), rfl⟩
    · refine ⟨1, im1 n, .inr (.inl ⟨rfl, rfl, (fitsF_iff n).1 hq, fun hz => ?_⟩), rfl⟩
      by_cases hb5 : b % 8 = 5
      · exact hb5
      · exact absurd ⟨hz, hb5⟩ h0
theorem modQ_back {b n mod : Int} {imm : List Int} (h : ModeOk b n mod imm) (b0 : 0 ≤ b) (b1 : b < 16) (n0 : -2147483648 ≤ n) (n1 : n < 2147483648) {c : Int} (hc : modF c = mod) (t : List Int) (k : Int) (K : Int → List Int → Int → RestR) :
    modQ c b (imm ++ t) k K = K n t (k + (imm.length : Int)) := by
  unfold modQ
  rw [hc]
  rcases h with ⟨rfl, rfl, rfl, -⟩ | ⟨rfl, rfl, hr, h5⟩ | ⟨rfl, rfl, hq⟩
  · rw [show ((0 : Int) == 1) = false from rfl, cond_false, show ((0 : Int) == 2) = false from rfl, cond_false]
    show K 0 t k = K 0 t (k + 0)
    rw [Int.add_zero]
  · rw [show ((1 : Int) == 1) = true from rfl, cond_true, num1Q_im hr.1 hr.2]
    cases hz : (n != 0)
    · have hz : n = 0 := by simpa using hz
      rw [cond_false, andi7 b0 b1, h5 hz]
      exact mustQ_ok rfl _ _
    · rfl
  · rw [show ((2 : Int) == 1) = false from rfl, cond_false, show ((2 : Int) == 2) = true from rfl, cond_true, num4Q_im n0 n1, hq]
    exact mustQ_ok rfl _ _

theorem modR_mod {m a b c d : Int} {imm : List Int} (a0 : 0 ≤ a ∧ a < 16) (b0 : 0 ≤ b ∧ b < 16) (m0 : 0 ≤ m ∧ m < 3) (hc : (c = 16 ∧ d = 0) ∨ ((0 ≤ c ∧ c < 16) ∧ c ≠ 4 ∧ (d = 1 ∨ d = 2 ∨ d = 4 ∨ d = 8))) {n : Int} (hmode : ModeOk b n m imm) (n0 : -2147483648 ≤ n) (n1 : n < 2147483648)
    {R : Int} (r0 : 0 ≤ R) (r1 : R < 16) (hR : R % 8 = (modP m a b c d imm).1) :
    ∃ e t, (modP m a b c d imm).2 = e :: t ∧ IsB e ∧ modF e = m ∧ midF e R = a ∧ ∀ (rest : List Int) (k : Int) (K : PlaceK), placeQ R e (t ++ rest) k K = K b c d n rest (k + (t.length : Int)) := by
  have h05 : m = 0 → b % 8 ≠ 5 := by
    intro hm
    rcases hmode with ⟨-, -, -, h⟩ | ⟨h, -⟩ | ⟨h, -⟩
    · exact h
    · omega
    · omega
  by_cases hs : c = 16 ∧ b % 8 ≠ 4
  · -- without SIB
    obtain ⟨hc16, hb4⟩ := hs
    have hd : d = 0 := by rcases hc with ⟨-, h⟩ | ⟨h, -⟩ <;> omega
    subst hc16 hd
    have hb : (b % 8 != 4) = true := by simpa using hb4
    have eP : modP m a b 16 0 imm = (rexM 0 a b, mrB m a b :: imm) := by
      unfold modP
      rw [andi7 b0.1 b0.2, hb]
      rfl
    rw [eP] at hR ⊢
    simp only at hR ⊢
    rw [rexM_eq a0.1 a0.2 b0.1 b0.2] at hR
    have hm := mrB_eq m0.1 (show m < 4 by omega) a0.1 a0.2 b0.1 b0.2
    have i0 : IsB (mrB m a b) := by rw [hm]; exact ⟨by omega, by omega⟩
    obtain ⟨q1, q2, q3, q4⟩ := byte_eq i0.1 i0.2
    have e1 : modF (mrB m a b) = m := by rw [q1, hm]; omega
    have e2 : rmF (mrB m a b) = b % 8 := by rw [q4, hm]; omega
    refine ⟨_, _, rfl, i0, e1, ?_, ?_⟩
    · rw [midF_eq i0.1 i0.2 r0 r1, hm]; omega
    · intro rest k K
      have eb : (b % 8 == 4) = false := beq_eq_false_iff_ne.2 hb4
      have key : baseQ R (mrB m a b) (imm ++ rest) k K = K b 16 0 n rest (k + (imm.length : Int)) := by
        unfold baseQ
        rw [e2, eb, cond_false, mustQ_ok (by rw [(and83 r0 r1).2]; exact beq_iff_eq.2 (by omega)), (bit_eq r0 r1).2.2, wi_small (by omega) (by omega), show b % 8 + 8 * (R % 2) = b by omega]
        exact modQ_back hmode b0.1 b0.2 n0 n1 e1 rest k (K b 16 0)
      unfold placeQ
      rw [e1, e2]
      cases hz : (m == 0)
      · exact key
      · have e5 : (b % 8 == 5) = false := beq_eq_false_iff_ne.2 (h05 (eq_of_beq hz))
        rw [e5]
        exact key
  · -- with SIB
    obtain ⟨ix, s, hix0, hix1, hs0, hs1, eP, hcd⟩ : ∃ ix s : Int, 0 ≤ ix ∧ ix < 16 ∧ 0 ≤ s ∧ s < 4 ∧ modP m a b c d imm = (sibR (rexM 0 a 4) ix b, mrB m a 4 :: mrB s ix b :: imm) ∧ ((ix = 4 ∧ c = 16 ∧ d = 0 ∧ s = 0 ∧ b % 8 = 4) ∨ (ix ≠ 4 ∧ c = ix ∧ ((s = 0 ∧ d = 1) ∨ (s = 1 ∧ d = 2) ∨ (s = 2 ∧ d = 4) ∨ (s = 3 ∧ d = 8)))) := by
      rcases hc with ⟨rfl, rfl⟩ | ⟨hc, h4, hd⟩
      · have hb4 : b % 8 = 4 := by
          by_cases h : b % 8 = 4
          · exact h
          · exact absurd ⟨rfl, h⟩ hs
        refine ⟨4, 0, by omega, by omega, by omega, by omega, ?_, .inl ⟨rfl, rfl, rfl, rfl, hb4⟩⟩
        unfold modP
        rw [andi7 b0.1 b0.2, hb4]
        rfl
      · have e16 : (c == 16) = false := beq_eq_false_iff_ne.2 (by omega)
        have e : ∀ s, scaleN d = s → modP m a b c d imm = (sibR (rexM 0 a 4) c b, mrB m a 4 :: mrB s c b :: imm) := by
          intro s hs
          unfold modP
          rw [e16, hs]
          rfl
        rcases hd with rfl | rfl | rfl | rfl
        · exact ⟨c, 0, hc.1, hc.2, by omega, by omega, e 0 rfl, .inr ⟨h4, rfl, .inl ⟨rfl, rfl⟩⟩⟩
        · exact ⟨c, 1, hc.1, hc.2, by omega, by omega, e 1 rfl, .inr ⟨h4, rfl, .inr (.inl ⟨rfl, rfl⟩)⟩⟩
        · exact ⟨c, 2, hc.1, hc.2, by omega, by omega, e 2 rfl, .inr ⟨h4, rfl, .inr (.inr (.inl ⟨rfl, rfl⟩))⟩⟩
        · exact ⟨c, 3, hc.1, hc.2, by omega, by omega, e 3 rfl, .inr ⟨h4, rfl, .inr (.inr (.inr ⟨rfl, rfl⟩))⟩⟩
    rw [eP] at hR ⊢
    simp only at hR ⊢
    rw [sibR_eq a0.1 a0.2 hix0 hix1 b0.1 b0.2] at hR
    have hm := mrB_eq m0.1 (show m < 4 by omega) a0.1 a0.2 (show (0 : Int) ≤ 4 by omega) (show (4 : Int) < 16 by omega)
    have i0 : IsB (mrB m a 4) := by rw [hm]; exact ⟨by omega, by omega⟩
    obtain ⟨q1, q2, q3, q4⟩ := byte_eq i0.1 i0.2
    have e1 : modF (mrB m a 4) = m := by rw [q1, hm]; omega
    have e2 : rmF (mrB m a 4) = 4 := by rw [q4, hm]; omega
    have hsb := mrB_eq hs0 hs1 hix0 hix1 b0.1 b0.2
    have j0 : IsB (mrB s ix b) := by rw [hsb]; exact ⟨by omega, by omega⟩
    have f1 : lowF (mrB s ix b) R = b := by rw [lowF_eq j0.1 j0.2 r0 r1, hsb]; omega
    have f2 : idxF (mrB s ix b) R = ix := by rw [idxF_eq j0.1 j0.2 r0 r1, hsb]; omega
    have f3 : modF (mrB s ix b) = s := by rw [(byte_eq j0.1 j0.2).1, hsb]; omega
    have f4 : mrB s ix b / 64 = s := by rw [hsb]; omega
    have g1 : R / 4 % 2 = a / 8 := (bits_of (by omega) (by omega) (by omega) hR).1
    have g2 : mrB m a 4 / 8 % 8 = a % 8 := by omega
    refine ⟨_, _, rfl, i0, e1, ?_, ?_⟩
    · rw [midF_eq i0.1 i0.2 r0 r1, g1, g2]; omega
    · intro rest k K
      have key2 : sibQ2 R (mrB m a 4) (mrB s ix b) (imm ++ rest) (k + 1) K = K b c d n rest (k + 1 + (imm.length : Int)) := by
        unfold sibQ2
        rw [f1, f2, f3]
        rcases hcd with ⟨rfl, rfl, rfl, rfl, hb4⟩ | ⟨h4, rfl, hsd⟩
        · show mustQ (andi b 7 == 4) (k + 1) _ = _
          rw [andi7 b0.1 b0.2, hb4]
          exact modQ_back hmode b0.1 b0.2 n0 n1 e1 rest (k + 1) (K b 16 0)
        · have e4 : (c == 4) = false := beq_eq_false_iff_ne.2 h4
          have hsc := all1_of scF_all j0.1 j0.2
          rw [f4] at hsc
          have hd : scF (mrB s c b) = d := by
            rcases hsd with ⟨rfl, rfl⟩ | ⟨rfl, rfl⟩ | ⟨rfl, rfl⟩ | ⟨rfl, rfl⟩ <;> exact eq_of_beq hsc
          rw [e4, hd, cond_false]
          exact modQ_back hmode b0.1 b0.2 n0 n1 e1 rest (k + 1) (K b c d)
      have key : baseQ R (mrB m a 4) (mrB s ix b :: imm ++ rest) k K = K b c d n rest (k + 1 + (imm.length : Int)) := by
        unfold baseQ
        rw [e2]
        show cond (modF (mrB m a 4) != 0) (sibQ2 R (mrB m a 4) (mrB s ix b) (imm ++ rest) (k + 1) K) (mustQ (andi (lowF (mrB s ix b) R) 7 != 5) (k + 1) (sibQ2 R (mrB m a 4) (mrB s ix b) (imm ++ rest) (k + 1) K)) = _
        rw [key2, e1, f1, andi7 b0.1 b0.2]
        cases hz : (m != 0)
        · have hz : m = 0 := by simpa using hz
          rw [cond_false, mustQ_ok (by simpa using h05 hz)]
        · rfl
      have hlen : k + ((mrB s ix b :: imm).length : Int) = k + 1 + (imm.length : Int) := by simp only [List.length_cons]; omega
      rw [hlen]
      unfold placeQ
      rw [e1, e2]
      cases hz : (m == 0)
      · exact key
      · exact key

theorem place_back {a b c d n : Int} (a0 : 0 ≤ a ∧ a < 16) (hp : placeF b c d = true) (n0 : -2147483648 ≤ n) (n1 : n < 2147483648) {R : Int} (r0 : 0 ≤ R) (r1 : R < 16) (hR : R % 8 = (memP a b c d n).1) :
    ∃ e t, (memP a b c d n).2 = e :: t ∧ IsB e ∧ modF e ≠ 3 ∧ midF e R = a ∧ ∀ (rest : List Int) (k : Int) (K : PlaceK), placeQ R e (t ++ rest) k K = K b c d n rest (k + (t.length : Int)) := by
  rcases place_rng hp with ⟨rfl, rfl, rfl⟩ | ⟨b0, rfl, rfl⟩ | ⟨b0, c0, c4, hd⟩
  · have hR : R % 8 = rexM 0 a 5 := hR
    rw [rexM_eq a0.1 a0.2 (by omega) (by omega)] at hR
    have hm := mrB_eq (m := 0) (by omega) (by omega) a0.1 a0.2 (show (0 : Int) ≤ 5 by omega) (show (5 : Int) < 16 by omega)
    have i0 : IsB (mrB 0 a 5) := by rw [hm]; exact ⟨by omega, by omega⟩
    obtain ⟨q1, q2, q3, q4⟩ := byte_eq i0.1 i0.2
    have e1 : modF (mrB 0 a 5) = 0 := by rw [q1, hm]; omega
    have e2 : rmF (mrB 0 a 5) = 5 := by rw [q4, hm]; omega
    refine ⟨mrB 0 a 5, im4 n, rfl, i0, by rw [e1]; decide, ?_, ?_⟩
    · rw [midF_eq i0.1 i0.2 r0 r1, hm]; omega
    · intro rest k K
      unfold placeQ
      rw [e1, e2]
      show mustQ (and8 R 3 == 0) k (num4Q (im4 n ++ rest) k fun n t k => K 17 16 0 n t k) = _
      rw [mustQ_ok (by rw [(and83 r0 r1).1]; exact beq_iff_eq.2 (by omega)), num4Q_im n0 n1]
      rfl
  · obtain ⟨mod, imm, hmode, e⟩ := memP_mode (a := a) (c := 16) (d := 0) (n := n) b0.1 b0.2
    have m0 : 0 ≤ mod ∧ mod < 3 := by rcases hmode with ⟨h, -⟩ | ⟨h, -⟩ | ⟨h, -⟩ <;> omega
    rw [e] at hR ⊢
    obtain ⟨x, t, h1, h2, h3, h4, h5⟩ := modR_mod a0 b0 m0 (.inl ⟨rfl, rfl⟩) hmode n0 n1 r0 r1 hR
    exact ⟨x, t, h1, h2, by omega, h4, h5⟩
  · obtain ⟨mod, imm, hmode, e⟩ := memP_mode (a := a) (c := c) (d := d) (n := n) b0.1 b0.2
    have m0 : 0 ≤ mod ∧ mod < 3 := by rcases hmode with ⟨h, -⟩ | ⟨h, -⟩ | ⟨h, -⟩ <;> omega
    rw [e] at hR ⊢
    obtain ⟨x, t, h1, h2, h3, h4, h5⟩ := modR_mod a0 b0 m0 (.inr ⟨c0, c4, hd⟩) hmode n0 n1 r0 r1 hR
    exact ⟨x, t, h1, h2, by omega, h4, h5⟩

end Go.Amd

namespace Go.Amd
open Go Go.Ab Go.Proofs

section
variable {x : RowT} {i : InsT}
theorem tail_e {f : Int} (hf : formR x = f) : tailI x i = tailB f x.2.2.2.2.1 i.2.1 i.2.2.1 i.2.2.2.1 i.2.2.2.2.1 i.2.2.2.2.2 := by unfold tailI; rw [hf]
theorem tail_0 (hf : formR x = 0) : tailI x i = [] := by rw [tail_e hf]; rfl
theorem tail_1 (hf : formR x = 1) : tailI x i = [] := by rw [tail_e hf]; rfl
theorem tail_2 (hf : formR x = 2) : tailI x i = im8 i.2.2.2.2.2 := by rw [tail_e hf]; rfl
theorem tail_3 (hf : formR x = 3) : tailI x i = [mrB 3 (wi x.2.2.2.2.1) i.2.1] := by rw [tail_e hf]; rfl
theorem tail_4 (hf : formR x = 4) : tailI x i = mrB 3 (wi x.2.2.2.2.1) i.2.1 :: im4 i.2.2.2.2.2 := by rw [tail_e hf]; rfl
theorem tail_5 (hf : formR x = 5) : tailI x i = mrB 3 (wi x.2.2.2.2.1) i.2.1 :: im1 i.2.2.2.2.2 := by rw [tail_e hf]; rfl
theorem tail_6 (hf : formR x = 6) : tailI x i = mrB 3 (wi x.2.2.2.2.1) i.2.1 :: immS i.2.2.2.2.2 := by rw [tail_e hf]; rfl
theorem tail_7 (hf : formR x = 7) : tailI x i = [mrB 3 i.2.2.1 i.2.1] := by rw [tail_e hf]; rfl
theorem tail_8 (hf : formR x = 8) : tailI x i = [mrB 3 i.2.1 i.2.2.1] := by rw [tail_e hf]; rfl
theorem tail_9 (hf : formR x = 9) : tailI x i = (memP i.2.1 i.2.2.1 i.2.2.2.1 i.2.2.2.2.1 i.2.2.2.2.2).2 := by rw [tail_e hf]; rfl
theorem tail_10 (hf : formR x = 10) : tailI x i = mrB 0 i.2.1 4 :: 37 :: im4 i.2.2.2.2.2 := by rw [tail_e hf]; rfl
theorem tail_11 (hf : formR x = 11) : tailI x i = im4 i.2.2.2.2.2 := by rw [tail_e hf]; rfl
theorem tail_12 (hf : formR x = 12) : tailI x i = im1 i.2.2.2.2.2 := by rw [tail_e hf]; rfl
end

theorem cond_9 {x : RowT} (hx : x ∈ rowsL) (hf : formR x = 9) : condR x = false := by
  have hr : rowsL.all (fun x => !(formR x == 9 && condR x)) = true := by kernel_rfl
  have := List.all_eq_true.1 hr x hx
  rw [hf] at this
  cases hc : condR x
  · rfl
  · rw [hc] at this; cases this
theorem formQ_9 (R : Int) (x : RowT) (op : List Int) (c : Int) (t : List Int) (k d : Int) : formQ 9 R x op c t k d = placeQ R c t k fun b cc d n _ k => finQ x (x.1, midF c R, b, cc, d, n) k := rfl

/-- Form 9: a place. -/
theorem back_9 {x : RowT} (hx : x ∈ rowsL) {i : InsT} (hn : x.1 = i.1) (he : faultyF x i = 0) (hf : formR x = 9) :
    ∃ e t, tailI x i = e :: t ∧ fitC e x = true ∧ ∀ (rest : List Int) (k : Int), restQ (takR x i) x (headI x i) e (t ++ rest) k = .ok (i, k + (t.length : Int)) := by
  have h := faulty_ok he
  have ha := (ok_rng h).1
  have e3 := (ok_imm he).1 (by unfold uI; rw [hf]; rfl)
  have hi := imm_4 hx (by omega)
  have hp : placeF i.2.2.1 i.2.2.2.1 i.2.2.2.2.1 = true := by
    rcases ok_parts h with ⟨-, -, h3⟩ | ⟨h1, -⟩
    · exact h3
    · unfold uM at h1; rw [hf] at h1; cases h1
  have hr : takR x i % 8 = (memP i.2.1 i.2.2.1 i.2.2.2.1 i.2.2.2.2.1 i.2.2.2.2.2).1 := by
    obtain ⟨r0, r1, -⟩ := rI_rng hx h
    have e : rI x i = (memP i.2.1 i.2.2.1 i.2.2.2.1 i.2.2.2.2.1 i.2.2.2.2.2).1 := by
      unfold rI
      rw [hf]; rfl
    rw [← e]
    unfold takR
    cases (x.2.1 == 1)
    · rw [cond_false]; omega
    · rw [cond_true]; omega
  obtain ⟨e, t, h1, h2, h3, h4, h5⟩ := place_back ha hp (n := i.2.2.2.2.2) (by omega) (by omega) (takR_rng hx h).1 (takR_rng hx h).2 hr
  refine ⟨e, t, (tail_9 hf).trans h1, ?_, ?_⟩
  · unfold fitC fitF
    rw [hf]
    show (modF e != 3) = true
    simpa using h3
  · intro rest k
    unfold restQ
    rw [cond_9 hx hf, cond_false, hf, formQ_9, h5, h4]
    obtain ⟨nm, a, b, c, d, n⟩ := i
    simp only at hn ⊢
    subst hn
    exact finQ_ok he _

theorem fitC_grp {x : RowT} (hx : x ∈ rowsL) {i : InsT} (ha : 0 ≤ i.2.1 ∧ i.2.1 < 16) (hf : formR x = 3 ∨ formR x = 4 ∨ formR x = 5 ∨ formR x = 6) : fitC (mrB 3 (wi x.2.2.2.2.1) i.2.1) x = true := by
  obtain ⟨d0, d1, d2⟩ := dg_rng hx
  have hm := mrB_eq (m := 3) (by decide) (by decide) (show 0 ≤ wi x.2.2.2.2.1 by omega) (show wi x.2.2.2.2.1 < 16 by omega) ha.1 ha.2
  obtain ⟨q1, q2, q3, q4⟩ := byte_eq (c := mrB 3 (wi x.2.2.2.2.1) i.2.1) (by omega) (by omega)
  have hg : grpF (formR x) = true := by unfold grpF; rcases hf with e | e | e | e <;> rw [e] <;> rfl
  unfold fitC
  rw [fit_grp hg, show Int.fdiv (mrB 3 (wi x.2.2.2.2.1) i.2.1) (2 ^ 6) = 3 from q1.trans (by omega), q2, show mrB 3 (wi x.2.2.2.2.1) i.2.1 / 8 % 8 = x.2.2.2.2.1 by omega]
  show (x.2.2.2.2.1 == x.2.2.2.2.1) = true
  exact beq_self_eq_true _
theorem fitC_two {x : RowT} {p q : Int} (p0 : 0 ≤ p ∧ p < 16) (q0 : 0 ≤ q ∧ q < 16) (hf : formR x = 7 ∨ formR x = 8) : fitC (mrB 3 p q) x = true := by
  have hm := mrB_eq (m := 3) (by decide) (by decide) p0.1 p0.2 q0.1 q0.2
  obtain ⟨q1, q2, q3, q4⟩ := byte_eq (c := mrB 3 p q) (by omega) (by omega)
  have e : Int.fdiv (mrB 3 p q) (2 ^ 6) = 3 := q1.trans (by omega)
  unfold fitC fitF
  rw [e]
  rcases hf with h | h <;> rw [h] <;> rfl
theorem fitC_10 {x : RowT} {p : Int} (p0 : 0 ≤ p ∧ p < 16) (hf : formR x = 10) : fitC (mrB 0 p 4) x = true := by
  have hm := mrB_eq (m := 0) (by decide) (by decide) p0.1 p0.2 (show (0 : Int) ≤ 4 by decide) (show (4 : Int) < 16 by decide)
  obtain ⟨q1, q2, q3, q4⟩ := byte_eq (c := mrB 0 p 4) (by omega) (by omega)
  have e : Int.fdiv (mrB 0 p 4) (2 ^ 6) = 0 := q1.trans (by omega)
  have e2 : and8 (mrB 0 p 4) 7 = 4 := q3.trans (by omega)
  unfold fitC fitF
  rw [e, e2, hf]
  rfl

theorem enc_split (i : InsT) : encL i = frontI (frow i.1) i ++ tailI (frow i.1) i := bytes_split _ _
theorem enc_row {i : InsT} (he : encE i = 0) : frow i.1 ∈ rowsL ∧ (frow i.1).1 = i.1 ∧ faultyF (frow i.1) i = 0 := by
  unfold encE at he
  cases hk : fok i.1
  · rw [hk] at he; cases he
  · rw [hk, cond_true] at he
    unfold fok at hk
    cases hfd : findL i.1 rowsL with
    | none => rw [hfd] at hk; cases hk
    | some r =>
      have e : frow i.1 = r := by unfold frow; rw [hfd]; rfl
      rw [e] at he ⊢
      refine ⟨List.mem_of_find?_eq_some hfd, ?_, he⟩
      have := List.find?_some hfd
      simpa using this

/-- What was encoded is decoded. -/
theorem dec_enc {i : InsT} (he : encE i = 0) (rest : List Int) : decQ (encL i ++ rest) = .ok (i, ((encL i).length : Int)) := by
  obtain ⟨hx, hn, hf⟩ := enc_row he
  rw [enc_split]
  generalize frow i.1 = x at hx hn hf
  have h := faulty_ok hf
  have ha := (ok_rng h).1
  have hfm : formR x ∈ forms := by simpa [formOk] using List.all_eq_true.1 rows_forms x hx
  have hl : ((frontI x i ++ tailI x i).length : Int) = takN x i + ((tailI x i).length : Int) := by rw [List.length_append, front_len hx]; omega
  rw [hl, List.append_assoc]
  have plain : ∀ {t : List Int}, tailI x i = t → modOf (formR x) = false → (∀ k, restQ (takR x i) x (headI x i) 0 (t ++ rest) k = .ok (i, k + (t.length : Int))) → decQ (frontI x i ++ (tailI x i ++ rest)) = .ok (i, takN x i + ((tailI x i).length : Int)) := by
    intro t e hm hk
    rw [e, dec_plain hx h hm, hk]
    rfl
  have modrm : ∀ {c : Int} {t : List Int}, tailI x i = c :: t → modOf (formR x) = true → fitC c x = true → (∀ k, restQ (takR x i) x (headI x i) c (t ++ rest) k = .ok (i, k + (t.length : Int))) → decQ (frontI x i ++ (tailI x i ++ rest)) = .ok (i, takN x i + ((tailI x i).length : Int)) := by
    intro c t e hm hc hk
    rw [e, List.cons_append, dec_mod hx h hm hc, hk]
    show Except.ok (i, takN x i + 1 + (t.length : Int)) = _
    rw [List.length_cons, show takN x i + 1 + (t.length : Int) = takN x i + ((t.length + 1 : Nat) : Int) by omega]
  unfold forms at hfm
  simp only [List.mem_cons, List.not_mem_nil, or_false] at hfm
  rcases hfm with e | e | e | e | e | e | e | e | e | e | e | e | e
  · exact plain (tail_0 e) (by rw [e]; rfl) fun k => (back_0 hx hn hf e rest k).trans (by rw [List.length_nil, show k + ((0 : Nat) : Int) = k by omega])
  · exact plain (tail_1 e) (by rw [e]; rfl) fun k => (back_1 hx hn hf e rest k).trans (by rw [List.length_nil, show k + ((0 : Nat) : Int) = k by omega])
  · exact plain (tail_2 e) (by rw [e]; rfl) fun k => back_2 hx hn hf e rest k
  · exact modrm (tail_3 e) (by rw [e]; rfl) (fitC_grp hx ha (by omega)) fun k => (back_3 hx hn hf e rest k).trans (by rw [List.length_nil, show k + ((0 : Nat) : Int) = k by omega])
  · exact modrm (tail_4 e) (by rw [e]; rfl) (fitC_grp hx ha (by omega)) fun k => back_4 hx hn hf e rest k
  · exact modrm (tail_5 e) (by rw [e]; rfl) (fitC_grp hx ha (by omega)) fun k => back_5 hx hn hf e rest k
  · exact modrm (tail_6 e) (by rw [e]; rfl) (fitC_grp hx ha (by omega)) fun k => back_6 hx hn hf e rest k
  · exact modrm (tail_7 e) (by rw [e]; rfl) (fitC_two (ok_zero h (by unfold uM; rw [e]; rfl)).2.2.2 ha (.inl e)) fun k => (back_7 hx hn hf e rest k).trans (by rw [List.length_nil, show k + ((0 : Nat) : Int) = k by omega])
  · exact modrm (tail_8 e) (by rw [e]; rfl) (fitC_two ha (ok_zero h (by unfold uM; rw [e]; rfl)).2.2.2 (.inr e)) fun k => (back_8 hx hn hf e rest k).trans (by rw [List.length_nil, show k + ((0 : Nat) : Int) = k by omega])
  · obtain ⟨c, t, h1, h2, h3⟩ := back_9 hx hn hf e
    exact modrm h1 (by rw [e]; rfl) h2 fun k => h3 rest k
  · exact modrm (tail_10 e) (by rw [e]; rfl) (fitC_10 ha e) fun k => back_10 hx hn hf e rest k
  · exact plain (tail_11 e) (by rw [e]; rfl) fun k => back_11 hx hn hf e rest k
  · exact plain (tail_12 e) (by rw [e]; rfl) fun k => back_12 hx hn hf e rest k

end Go.Amd

namespace Go.Amd
open Go Go.Ab Go.Proofs

theorem all_f {α : Type} {c : Bool} {x y : Tree α} {Q : α → Prop} (h : c = false) (hy : y.all Q) : (Tree.br c x y).all Q := ⟨fun e => Bool.noConfusion (h.symm.trans e), fun _ => hy⟩

theorem w8_b (x : Int) : IsB (w8 x) := by
  unfold w8
  rw [Go.Wd.wrap_u8]
  exact ⟨Int.emod_nonneg _ (by decide), Int.emod_lt_of_pos _ (by decide)⟩
def AllB (l : List Int) : Prop := ∀ c ∈ l, IsB c
theorem allB_nil : AllB [] := fun c h => by cases h
theorem allB_cons {c : Int} {l : List Int} (h : IsB c) (hl : AllB l) : AllB (c :: l) := fun d hd => by
  rcases List.mem_cons.1 hd with rfl | hd
  · exact h
  · exact hl d hd
theorem allB_app {l m : List Int} (hl : AllB l) (hm : AllB m) : AllB (l ++ m) := fun d hd => (List.mem_append.1 hd).elim (hl d) (hm d)
theorem im1_b (n : Int) : AllB (im1 n) := allB_cons (imB_b n 0) allB_nil
theorem im4_b (n : Int) : AllB (im4 n) := allB_cons (imB_b n 0) (allB_cons (imB_b n 8) (allB_cons (imB_b n 16) (allB_cons (imB_b n 24) allB_nil)))
theorem im8_b (n : Int) : AllB (im8 n) := allB_cons (imB_b n 0) (allB_cons (imB_b n 8) (allB_cons (imB_b n 16) (allB_cons (imB_b n 24) (allB_cons (imB_b n 32) (allB_cons (imB_b n 40) (allB_cons (imB_b n 48) (allB_cons (imB_b n 56) allB_nil)))))))
theorem immS_b (n : Int) : AllB (immS n) := by
  unfold immS
  cases fitsF n
  · exact im4_b n
  · exact im1_b n
theorem or8_b (a b : Int) : IsB (or8 a b) := w8_b _
theorem mrB_b (m a b : Int) : IsB (mrB m a b) := w8_b _

theorem mode_b {b n mod : Int} {imm : List Int} (h : ModeOk b n mod imm) : AllB imm ∧ imm.length ≤ 4 := by
  rcases h with ⟨-, rfl, -⟩ | ⟨-, rfl, -⟩ | ⟨-, rfl, -⟩
  · exact ⟨allB_nil, by simp⟩
  · exact ⟨im1_b n, by simp [im1]⟩
  · exact ⟨im4_b n, by simp [im4]⟩
theorem memP_b {a b c d n : Int} (hp : placeF b c d = true) : AllB (memP a b c d n).2 ∧ (memP a b c d n).2.length ≤ 6 ∧ 1 ≤ (memP a b c d n).2.length := by
  have key : ∀ {b c d : Int}, 0 ≤ b → b < 16 → AllB (memP a b c d n).2 ∧ (memP a b c d n).2.length ≤ 6 ∧ 1 ≤ (memP a b c d n).2.length := by
    intro b c d b0 b1
    obtain ⟨mod, imm, hm, e⟩ := memP_mode (a := a) (c := c) (d := d) (n := n) b0 b1
    obtain ⟨h1, h2⟩ := mode_b hm
    rw [e]
    unfold modP
    cases cond (c == 16) (andi b 7 != 4) false
    · rw [cond_false]
      refine ⟨allB_app (allB_app (allB_cons (mrB_b _ _ _) allB_nil) (allB_cons (mrB_b _ _ _) allB_nil)) h1, ?_, ?_⟩ <;> simp only [List.length_append, List.length_cons, List.length_nil] <;> omega
    · rw [cond_true]
      refine ⟨allB_app (allB_cons (mrB_b _ _ _) allB_nil) h1, ?_, ?_⟩ <;> simp only [List.length_append, List.length_cons, List.length_nil] <;> omega
  rcases place_rng hp with ⟨rfl, rfl, rfl⟩ | ⟨b0, rfl, rfl⟩ | ⟨b0, -, -, -⟩
  · exact ⟨allB_app (allB_cons (mrB_b 0 a 5) allB_nil) (im4_b n), show (1 + 4 : Nat) ≤ 6 by decide, show 1 ≤ (1 + 4 : Nat) by decide⟩
  · exact key b0.1 b0.2
  · exact key b0.1 b0.2

theorem rows_2 : rowsL.all (fun x => cond (formR x == 2) (decide (x.2.2.1 ≤ 255)) true) = true := by kernel_rfl
theorem front_b {x : RowT} (hx : x ∈ rowsL) {i : InsT} (h : okF x i.2.1 i.2.2.1 i.2.2.2.1 i.2.2.2.2.1 = true) : AllB (frontI x i) := by
  refine allB_app (allB_app ?_ ?_) ?_
  · unfold fsF
    cases (formR x == 10)
    · exact allB_nil
    · exact allB_cons ⟨by decide, by decide⟩ allB_nil
  · unfold rexL
    cases (x.2.1 == 0)
    · exact allB_cons (or8_b _ _) allB_nil
    · cases (rI x i != 0)
      · exact allB_nil
      · exact allB_cons (or8_b _ _) allB_nil
  · rcases (head_ok hx h).2 with ⟨e, -, hb⟩ | ⟨e, hb, -⟩
    · rw [e]; exact allB_cons hb allB_nil
    · rw [e]; exact allB_cons ⟨by decide, by decide⟩ (allB_cons hb allB_nil)
theorem tail_b {x : RowT} (hx : x ∈ rowsL) {i : InsT} (hf : faultyF x i = 0) : AllB (tailI x i) ∧ ((tailI x i).length ≤ 6 ∨ (formR x = 2 ∧ (tailI x i).length = 8)) := by
  have h := faulty_ok hf
  have hfm : formR x ∈ forms := by simpa [formOk] using List.all_eq_true.1 rows_forms x hx
  unfold forms at hfm
  simp only [List.mem_cons, List.not_mem_nil, or_false] at hfm
  have mr : ∀ (m a b : Int) {l : List Int}, AllB l → AllB (mrB m a b :: l) := fun m a b _ hl => allB_cons (mrB_b m a b) hl
  rcases hfm with e | e | e | e | e | e | e | e | e | e | e | e | e
  · rw [tail_0 e]; exact ⟨allB_nil, .inl (by decide)⟩
  · rw [tail_1 e]; exact ⟨allB_nil, .inl (by decide)⟩
  · rw [tail_2 e]; exact ⟨im8_b _, .inr ⟨e, rfl⟩⟩
  · rw [tail_3 e]; exact ⟨mr _ _ _ allB_nil, .inl (by simp)⟩
  · rw [tail_4 e]; exact ⟨mr _ _ _ (im4_b _), .inl (by simp [im4])⟩
  · rw [tail_5 e]; exact ⟨mr _ _ _ (im1_b _), .inl (by simp [im1])⟩
  · rw [tail_6 e]; refine ⟨mr _ _ _ (immS_b _), .inl ?_⟩
    unfold immS
    cases fitsF i.2.2.2.2.2 <;> simp [im1, im4]
  · rw [tail_7 e]; exact ⟨mr _ _ _ allB_nil, .inl (by simp)⟩
  · rw [tail_8 e]; exact ⟨mr _ _ _ allB_nil, .inl (by simp)⟩
  · rw [tail_9 e]
    have hp : placeF i.2.2.1 i.2.2.2.1 i.2.2.2.2.1 = true := by
      rcases ok_parts h with ⟨-, -, h3⟩ | ⟨h1, -⟩
      · exact h3
      · unfold uM at h1; rw [e] at h1; cases h1
    obtain ⟨h1, h2, -⟩ := memP_b (a := i.2.1) (n := i.2.2.2.2.2) hp
    exact ⟨h1, .inl h2⟩
  · rw [tail_10 e]; exact ⟨mr _ _ _ (allB_cons ⟨by decide, by decide⟩ (im4_b _)), .inl (by simp [im4])⟩
  · rw [tail_11 e]; exact ⟨im4_b _, .inl (by simp [im4])⟩
  · rw [tail_12 e]; exact ⟨im1_b _, .inl (by simp [im1])⟩

theorem enc_bytes {i : InsT} (he : encE i = 0) : AllB (encL i) ∧ 1 ≤ (encL i).length ∧ (encL i).length ≤ 10 := by
  obtain ⟨hx, hn, hf⟩ := enc_row he
  rw [enc_split]
  generalize frow i.1 = x at hx hn hf
  have h := faulty_ok hf
  obtain ⟨t1, t2⟩ := tail_b hx hf
  have hl := front_len hx i
  have h10 := (rex_of hx).2.2
  refine ⟨allB_app (front_b hx h) t1, ?_, ?_⟩
  · rw [List.length_append]
    have : 1 ≤ takN x i := by
      unfold takN
      cases takF x
      · rw [cond_false]
        cases takH x i <;> cases decide (255 < x.2.2.1) <;> decide
      · rw [cond_true]; omega
    omega
  · rw [List.length_append]
    have h3 : takN x i ≤ 3 ∧ (formR x = 2 → takN x i ≤ 2) := by
      unfold takN takF
      by_cases e : formR x = 10
      · rw [e]; exact ⟨show (3 : Int) ≤ 3 by omega, fun h => by omega⟩
      · rw [beq_eq_false_iff_ne.2 e, cond_false]
        refine ⟨?_, fun h2 => ?_⟩
        · cases takH x i <;> cases decide (255 < x.2.2.1) <;> decide
        · have := List.all_eq_true.1 rows_2 x hx
          rw [h2] at this
          have hle : x.2.2.1 ≤ 255 := of_decide_eq_true this
          rw [decide_eq_false (by omega)]
          cases takH x i <;> decide
    rcases t2 with t2 | ⟨t2, t3⟩
    · omega
    · have := h3.2 t2
      omega

/-- Neither is the front of the other. -/
theorem enc_only {i j : InsT} (hi : encE i = 0) (hj : encE j = 0) {m : Nat} (hm : m = min (encL i).length (encL j).length) (h : (encL i).take m = (encL j).take m) : i = j := by
  have key : ∀ {i j : InsT}, encE i = 0 → encE j = 0 → (encL i).length ≤ (encL j).length → encL i = (encL j).take (encL i).length → i = j := by
    intro i j hi hj hl h
    have e1 := dec_enc hi ((encL j).drop (encL i).length)
    have e2 := dec_enc hj []
    rw [List.append_nil] at e2
    have e3 : encL i ++ (encL j).drop (encL i).length = encL j := by
      rw [show encL i ++ (encL j).drop (encL i).length = (encL j).take (encL i).length ++ (encL j).drop (encL i).length from congrArg (· ++ (encL j).drop (encL i).length) h]
      exact List.take_append_drop _ _
    rw [e3, e2] at e1
    have := Except.ok.inj e1
    exact (Prod.mk.inj this).1.symm
  rcases Nat.le_total (encL i).length (encL j).length with hl | hl
  · rw [Nat.min_eq_left hl] at hm
    subst hm
    rw [List.take_length] at h
    exact key hi hj hl h
  · rw [Nat.min_eq_right hl] at hm
    subst hm
    rw [List.take_length] at h
    exact (key hj hi hl h.symm).symm

theorem u8_inj : ∀ {l m : List Int}, AllB l → AllB m → l.map (fun n => UInt8.ofNat (Int.toNat n)) = m.map (fun n => UInt8.ofNat (Int.toNat n)) → l = m
  | [], [], _, _, _ => rfl
  | [], _ :: _, _, _, h => by cases h
  | _ :: _, [], _, _, h => by cases h
  | a :: l, b :: m, hl, hm, h => by
    rw [List.map_cons, List.map_cons] at h
    obtain ⟨h1, h2⟩ := List.cons.inj h
    have ha := hl a List.mem_cons_self
    have hb := hm b List.mem_cons_self
    have e := congrArg UInt8.toNat h1
    rw [UInt8.toNat_ofNat', UInt8.toNat_ofNat'] at e
    obtain ⟨a0, a1⟩ := ha
    obtain ⟨b0, b1⟩ := hb
    have e2 : a = b := by omega
    rw [e2, u8_inj (fun c hc => hl c (List.mem_cons_of_mem _ hc)) (fun c hc => hm c (List.mem_cons_of_mem _ hc)) h2]

end Go.Amd
