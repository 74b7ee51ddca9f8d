/-
  compact: a long one of what may be, may be encoded. Conditions: none.
-/
import Derived.Test.YtaedihkgdmaofaaDoorCm43
namespace Go.Cmp
open Go Go.Ab Go.Proofs

/-! What is long of what may be, may be. -/

def fineReg (u : Bool) (p : Int × Int) : Bool :=
  cond u (p.1 == 1 || (p.1 == 2 || (p.1 == 3 || (decide (0 ≤ p.2) && decide (p.2 ≤ 31))))) (!(p.1 == 1) && (!(p.1 == 2) && (!(p.1 == 3) && p.2 == 0)))
theorem regB_of {n : Int} (h : 0 ≤ n ∧ n ≤ 31) : regB true n = true := by
  unfold regB
  by_cases e : n = 0
  · rw [e]; rfl
  · rw [decide_eq_true (by omega : 0 < n), decide_eq_true (by omega : n < 32)]
    simp
theorem selR_ok {x : RowT} {i : InsT} (h1 : regF x 97 i.2.1 = true) (h2 : regF x 98 i.2.2.1 = true) (h3 : regF x 99 i.2.2.2.1 = true) {u : Bool} {p : Int × Int} (h : fineReg u p = true) : regB u (selF p i) = true := by
  have r1 := reg_range h1
  have r2 := reg_range h2
  have r3 := reg_range h3
  unfold fineReg at h
  unfold selF
  cases u
  · rw [cond_false] at h
    simp only [Bool.and_eq_true, Bool.not_eq_true'] at h
    obtain ⟨a1, a2, a3, a4⟩ := h
    rw [a1, a2, a3, cond_false, cond_false, cond_false, eq_of_beq a4]
    rfl
  · rw [cond_true] at h
    refine regB_of ?_
    cases a1 : (p.1 == 1)
    · cases a2 : (p.1 == 2)
      · cases a3 : (p.1 == 3)
        · rw [a1, a2, a3] at h
          simp only [Bool.false_or, Bool.and_eq_true, decide_eq_true_eq] at h
          exact h
        · exact r3
      · exact r2
    · exact r1
def fineNum (x : RowT) (s : Bool) (f : Int) : Bool :=
  cond ((bndR f).1 == (bndR f).2.1) (!s && ((bndR f).1 == 0))
    (cond s (decide ((bndR f).1 ≤ x.2.2.1) && (decide (x.2.2.2.1 ≤ (bndR f).2.1) && x.2.2.2.2.1 % (bndR f).2.2 == 0)) (decide ((bndR f).1 ≤ 0) && decide (0 ≤ (bndR f).2.1)))
def fineR (p : RowT × LongT) : Bool := fineReg (usesR (formR p.2.1)).1 p.2.2.1 && (fineReg (usesR (formR p.2.1)).2.1 p.2.2.2.1 && (fineReg (usesR (formR p.2.1)).2.2 p.2.2.2.2.1 && fineNum p.1 p.2.2.2.2.2 (formR p.2.1)))
theorem fineR_all : pairsW.all fineR = true := by kernel_rfl
theorem ran_zero {f : Int} (h1 : (bndR f).1 ≤ 0) (h2 : 0 ≤ (bndR f).2.1) : ranR f 0 = some 0 := by
  unfold ranR
  rw [decide_eq_false (by omega), decide_eq_false (by omega), Int.zero_tmod]
  rfl
theorem numR_ok {x : RowT} {n : Int} {s : Bool} {f : Int} (h : rngF x n = 0) (hf : fineNum x s f = true) : numR f (cond s n 0) = some 0 := by
  obtain ⟨h1, h2, h3⟩ := rng_parts h
  unfold fineNum at hf
  unfold numR
  cases hb : ((bndR f).1 == (bndR f).2.1)
  · rw [hb, cond_false] at hf
    rw [cond_false]
    cases s
    · rw [cond_false] at hf
      simp only [Bool.and_eq_true, decide_eq_true_eq] at hf
      exact ran_zero hf.1 hf.2
    · rw [cond_true] at hf
      simp only [Bool.and_eq_true, decide_eq_true_eq, beq_iff_eq] at hf
      obtain ⟨f1, f2, f3⟩ := hf
      unfold ranR
      rw [cond_true, decide_eq_false (by omega), decide_eq_false (by omega)]
      have hd : (bndR f).2.2 ∣ n := Int.dvd_trans (Int.dvd_of_emod_eq_zero f3) (Int.dvd_of_tmod_eq_zero h3)
      rw [Int.tmod_eq_zero_of_dvd hd]
      rfl
  · rw [hb, cond_true] at hf
    simp only [Bool.and_eq_true, Bool.not_eq_true', beq_iff_eq] at hf
    have e := eq_of_beq hb
    rw [hf.1, cond_true, cond_false]
    exact ran_zero (by omega) (by omega)
theorem rv_zero {i : InsT} (h : encE i = 0) : rvO (frow i.1, longs (frow i.1)) (wideA i).2.1 (wideA i).2.2.1 (wideA i).2.2.2.1 (wideA i).2.2.2.2.2 = some 0 := by
  obtain ⟨h1, h2⟩ := enc_parts h
  obtain ⟨hx, hn, _⟩ := frow_mem h1
  have hw : wideA i = wideF (longs (frow i.1)) i := by unfold wideA; rw [h]; rfl
  have hf := List.all_eq_true.1 fineR_all _ (pairsW_mem hx)
  obtain ⟨p1, p2, p3, p4, p5, p6⟩ := faulty_parts h2
  unfold fineR at hf
  simp only [Bool.and_eq_true] at hf
  obtain ⟨f1, f2, f3, f4⟩ := hf
  rw [hw]
  unfold rvO wideF
  simp only
  rw [selR_ok p1 p2 p3 f1, selR_ok p1 p2 p3 f2, selR_ok p1 p2 p3 f3]
  exact numR_ok p6 f4
theorem wide_parts {i : InsT} (h : encE i = 0) : wideA i = ((longs (frow i.1)).1, (wideA i).2.1, (wideA i).2.2.1, (wideA i).2.2.2.1, 0, (wideA i).2.2.2.2.2) := by
  have hw : wideA i = wideF (longs (frow i.1)) i := by unfold wideA; rw [h]; rfl
  rw [hw]
  rfl

theorem pcall_weak {P : Program} {f : Nat} {args : List V} {out out' : V} (h : PCall P f args out) (hr : ∀ w X y, R w X [] out y → R w X [] out' y) : PCall P f args out' :=
  ⟨h.1, fun w E rargs hE hl hv => (h.2 w E rargs hE hl hv).mono fun _ _ ⟨y, h1, h2, h3⟩ => ⟨y, h1, h2, hr _ _ _ h3⟩⟩
theorem R_any2 {w : World} {X : Nat → Nat → Prop} {v : V} {e : Int} {y : Value} (h : R w X [] (.tup [v, .int .i64 e]) y) : R w X [] (.tup [.any, .int .i64 e]) y := by
  cases h with
  | tup _ _ xs hl hh =>
    refine .tup [] _ xs hl fun k u x hu hx => ?_
    match k, hu with
    | 0, hu => cases hu; exact .any [] x
    | 1, hu => exact hh 1 u x hu hx
/-- Encode of a long one of what may be. -/
theorem rv_ok {i : InsT} (h : encE i = 0) : PCall Tryd.prog 22 [insV (wideA i)] (.tup [.any, .int .i64 0]) := by
  obtain ⟨h1, _⟩ := enc_parts h
  obtain ⟨hx, _, _⟩ := frow_mem h1
  have hw := congrFun (congrFun (congrFun (congrFun (rv_all hx) (wideA i).2.1) (wideA i).2.2.1) (wideA i).2.2.2.1) (wideA i).2.2.2.2.2
  rw [rv_zero h] at hw
  unfold rvR at hw
  rw [Tree.fin_run] at hw
  obtain ⟨v, e1, e2⟩ := bind_run hw
  have e3 : insV (wideA i) = .agg [.str (longs (frow i.1)).1, .int .i64 (wideA i).2.1, .int .i64 (wideA i).2.2.1, .int .i64 (wideA i).2.2.2.1, .int .i64 0, .int .i64 (wideA i).2.2.2.2.2] := by
    have := congrArg insV (wide_parts h)
    exact this
  rw [e3]
  have hp := pcall_fun' (f := 22) (cx := cxRv) (fn := Tryd.f22) cxRv_ok (by kernel_rfl) (by kernel_rfl) rfl e1
  unfold errT at e2
  split at e2
  · have e2 := leaf_out e2
    subst e2
    exact pcall_weak hp fun _ _ _ hr => R_any2 hr
  · cases e2
noncomputable def isWide (w : InsT) : Bool := @decide (∃ i, encE i = 0 ∧ wideA i = w) (Classical.propDecidable _)
def rvS (p : InsT → Bool) : Ab.Spec := fun args => match args with
  | [.agg [.str nm, .int .i64 a, .int .i64 b, .int .i64 c, .int .i64 d, .int .i64 n]] => .req (p (nm, a, b, c, d, n)) (.leaf (.tup [.any, .int .i64 0]))
  | _ => .fail
theorem rvS_ok : Sound Tryd.prog 22 (rvS isWide) := by
  intro args out h
  unfold rvS at h
  split at h
  rotate_left
  · cases h
  obtain ⟨h1, h⟩ := req_run h
  have h := leaf_out h
  subst h
  unfold isWide at h1
  obtain ⟨i, hi, hw⟩ := @of_decide_eq_true _ (Classical.propDecidable _) h1
  have := rv_ok hi
  rw [hw] at this
  exact this
theorem isWide_of {i : InsT} (h : encE i = 0) : isWide (wideA i) = true := by
  unfold isWide
  exact @decide_eq_true _ (Classical.propDecidable _) ⟨i, h, rfl⟩

end Go.Cmp
