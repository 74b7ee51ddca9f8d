/-
  compact, plainly: the document finds the long one's short one as the program does; a long one may be. Conditions: none.
-/
import Derived.Test.YtaedihkgdmaofaaDoorCm39
import Derived.Test.YtaedihkgdmaofaaDoorCm40
import Derived.Test.YtaedihkgdmaofaaDoorCm22
namespace Go.Cmp
open Go Go.Ab

/-! A long one may be. -/

theorem reg_range {x : RowT} {c n : Int} (h : regF x c n = true) : 0 ≤ n ∧ n ≤ 31 := by
  unfold regF at h
  cases h2 : (hasF x c).2
  · rw [h2, cond_false] at h
    have := eq_of_beq h
    omega
  · rw [h2, cond_true] at h
    cases h1 : (hasF x c).1
    · rw [h1, cond_false] at h
      simp only [Bool.and_eq_true, decide_eq_true_eq] at h
      omega
    · rw [h1, cond_true] at h
      simp only [Bool.and_eq_true, decide_eq_true_eq] at h
      omega
def fineSel (o : List UInt8) (c : Int) (p : Int × Int) : Bool :=
  cond (o.contains (UInt8.ofNat c.toNat)) (p.1 == 1 || (p.1 == 2 || (p.1 == 3 || (decide (0 ≤ p.2) && decide (p.2 ≤ 31))))) (!(p.1 == 1) && (!(p.1 == 2) && (!(p.1 == 3) && p.2 == 0)))
theorem sel_ok {x : RowT} {i : InsT} (h1 : regF x 97 i.2.1 = true) (h2 : regF x 98 i.2.2.1 = true) (h3 : regF x 99 i.2.2.2.1 = true) {o : List UInt8} {c : Int} {p : Int × Int} (h : fineSel o c p = true) : reg8 o c (selF p i) = true := by
  have r1 := reg_range h1
  have r2 := reg_range h2
  have r3 := reg_range h3
  unfold fineSel at h
  unfold reg8 selF
  cases ho : o.contains (UInt8.ofNat c.toNat)
  · rw [ho, cond_false] at h
    rw [cond_false]
    simp only [Bool.and_eq_true, Bool.not_eq_true'] at h
    obtain ⟨a1, a2, a3, a4⟩ := h
    rw [a1, a2, a3]
    exact a4
  · rw [ho, cond_true] at h
    rw [cond_true]
    simp only [Bool.and_eq_true, decide_eq_true_eq]
    cases a1 : (p.1 == 1)
    · cases a2 : (p.1 == 2)
      · cases a3 : (p.1 == 3)
        · rw [a1, a2, a3] at h
          simp only [Bool.false_or, Bool.and_eq_true, decide_eq_true_eq] at h
          exact h
        · exact r3
      · exact r2
    · exact r1
def fineImm (x : RowT) (s : Bool) (f : Int) : Bool :=
  cond (!(ops8 f).contains 105 && !(ops8 f).contains 106) (!s)
    (cond s (decide ((bnd8 f).1 ≤ x.2.2.1) && (decide (x.2.2.2.1 ≤ (bnd8 f).2.1) && x.2.2.2.2.1 % (bnd8 f).2.2 == 0)) (decide ((bnd8 f).1 ≤ 0) && decide (0 ≤ (bnd8 f).2.1)))
def fineW (p : RowT × LongT) : Bool := match find8 p.2.1 with
  | some r => fineSel (ops8 r.1) 65 p.2.2.1 && (fineSel (ops8 r.1) 66 p.2.2.2.1 && (fineSel (ops8 r.1) 67 p.2.2.2.2.1 && fineImm p.1 p.2.2.2.2.2 r.1))
  | none => false
theorem fineW_all : pairsW.all fineW = true := by kernel_rfl
theorem rng_parts {x : RowT} {n : Int} (h : rngF x n = 0) : x.2.2.1 ≤ n ∧ n ≤ x.2.2.2.1 ∧ Int.tmod n x.2.2.2.2.1 = 0 := by
  unfold rngF at h
  by_cases a : n < x.2.2.1
  · rw [decide_eq_true a] at h; cases h
  rw [decide_eq_false a, cond_false] at h
  by_cases b : x.2.2.2.1 < n
  · rw [decide_eq_true b] at h; cases h
  rw [decide_eq_false b, cond_false] at h
  cases c : (n == 0 && bars x 115)
  · rw [c, cond_false] at h
    cases d : (Int.tmod n x.2.2.2.2.1 != 0)
    · refine ⟨by omega, by omega, ?_⟩
      simpa [bne] using d
    · rw [d] at h; cases h
  · rw [c] at h; cases h
theorem imm_ok {x : RowT} {n : Int} {s : Bool} {f : Int} (h : rngF x n = 0) (hf : fineImm x s f = true) :
    cond (!(ops8 f).contains 105 && !(ops8 f).contains 106) (cond (cond s n 0 != 0) 13 0) (cond (decide (cond s n 0 < (bnd8 f).1)) 3 (cond (decide ((bnd8 f).2.1 < cond s n 0)) 3 (cond (Int.tmod (cond s n 0) (bnd8 f).2.2 != 0) 10 0))) = (0 : Int) := by
  obtain ⟨h1, h2, h3⟩ := rng_parts h
  unfold fineImm at hf
  cases ho : (!(ops8 f).contains 105 && !(ops8 f).contains 106)
  · rw [ho, cond_false] at hf
    rw [cond_false]
    cases s
    · rw [cond_false] at hf
      rw [cond_false]
      simp only [Bool.and_eq_true, decide_eq_true_eq] at hf
      rw [decide_eq_false (by omega), decide_eq_false (by omega), Int.zero_tmod]
      rfl
    · rw [cond_true] at hf
      rw [cond_true]
      simp only [Bool.and_eq_true, decide_eq_true_eq, beq_iff_eq] at hf
      obtain ⟨f1, f2, f3⟩ := hf
      rw [decide_eq_false (by omega), decide_eq_false (by omega)]
      have hd : (bnd8 f).2.2 ∣ n := Int.dvd_trans (Int.dvd_of_emod_eq_zero f3) (Int.dvd_of_tmod_eq_zero h3)
      rw [Int.tmod_eq_zero_of_dvd hd]
      rfl
  · rw [ho, cond_true] at hf
    have : s = false := by simpa using hf
    subst this
    rfl
theorem wide_chk {i : InsT} (h : encE i = 0) : chkL (wideA i) = 0 := by
  obtain ⟨h1, h2⟩ := enc_parts h
  obtain ⟨hx, hn, _⟩ := frow_mem h1
  have hw : wideA i = wideF (longs (frow i.1)) i := by unfold wideA; rw [h]; rfl
  rw [hw]
  have hf := List.all_eq_true.1 fineW_all _ (pairsW_mem hx)
  obtain ⟨p1, p2, p3, p4, p5, p6⟩ := faulty_parts h2
  unfold fineW at hf
  simp only at hf
  cases hr : find8 (longs (frow i.1)).1 with
  | none => rw [hr] at hf; cases hf
  | some r =>
    rw [hr] at hf
    simp only [Bool.and_eq_true] at hf
    obtain ⟨f1, f2, f3, f4⟩ := hf
    have e : chkL (wideF (longs (frow i.1)) i) = chk8 r (wideF (longs (frow i.1)) i) := by
      unfold chkL
      rw [show (wideF (longs (frow i.1)) i).1 = (longs (frow i.1)).1 from rfl, hr]
    rw [e]
    unfold chk8 wideF num8
    simp only
    rw [sel_ok p1 p2 p3 f1, sel_ok p1 p2 p3 f2, sel_ok p1 p2 p3 f3]
    exact imm_ok p6 f4

/-! What is tried. -/

def idxF (c : Int) (t : LongT) : Nat := cond (t.2.2.2.1.1 == c) 2 (cond (t.2.2.1.1 == c) 1 (cond (t.2.1.1 == c) 0 3))
theorem last_idx (c : Int) (t : LongT) (w : InsT) : lastF c t w = rgX w (idxF c t) := by
  unfold lastF idxF
  cases (t.2.2.2.1.1 == c)
  · cases (t.2.2.1.1 == c)
    · cases (t.2.1.1 == c) <;> rfl
    · rfl
  · rfl
def fineAB (o : List UInt8) (t : LongT) (a b : Nat) : Bool :=
  cond (o.contains 65) (idxF 1 t == a) (idxF 1 t == 3) && (cond (o.contains 66) (idxF 2 t == b) (idxF 2 t == 3) && cond (o.contains 67) (cond (o.contains 66) (idxF 3 t == a) (idxF 3 t == b)) (idxF 3 t == 3))
def fineT (p : RowT × LongT × TabT) : Bool := (List.range 4).any fun a => (List.range 4).any fun b => fineAB p.2.2.2.2.1 p.2.1 a b
def pairs5 : List (RowT × LongT × TabT) := rowsL.zip ((longL.map (·.2)).zip tabL)
theorem pairs5_eq : (rowsL.map fun x => (x, longs x, tabs x)) = pairs5 := by kernel_rfl
theorem fineT_all : pairs5.all fineT = true := by kernel_rfl
theorem tried_mem (y : TabT) (w : InsT) {a b : Nat} (ha : a < 4) (hb : b < 4) : tryX y w a b ∈ triedX y w := by
  unfold triedX
  match a, ha with
  | 0, _ => match b, hb with
    | 0, _ => simp
    | 1, _ => simp
    | 2, _ => simp
    | 3, _ => simp
  | 1, _ => match b, hb with
    | 0, _ => simp
    | 1, _ => simp
    | 2, _ => simp
    | 3, _ => simp
  | 2, _ => match b, hb with
    | 0, _ => simp
    | 1, _ => simp
    | 2, _ => simp
    | 3, _ => simp
  | 3, _ => match b, hb with
    | 0, _ => simp
    | 1, _ => simp
    | 2, _ => simp
    | 3, _ => simp
theorem tried_name {y : TabT} {w t : InsT} (h : t ∈ triedX y w) : t.1 = y.1 := by
  unfold triedX at h
  simp only [List.mem_cons, List.not_mem_nil, or_false] at h
  rcases h with h | h | h | h | h | h | h | h | h | h | h | h | h | h | h | h <;> rw [h] <;> rfl
theorem narrow_tried {x : RowT} (hx : x ∈ rowsL) {w : InsT} (h : narrowB x (longs x) w = true) : narrowF x (longs x) w ∈ triedX (tabs x) w := by
  have hm : (x, longs x, tabs x) ∈ pairs5 := by
    rw [← pairs5_eq]
    exact List.mem_map_of_mem hx
  have hf := List.all_eq_true.1 fineT_all _ hm
  unfold fineT at hf
  simp only [List.any_eq_true, List.mem_range] at hf
  obtain ⟨a, ha, b, hb, hab⟩ := hf
  obtain ⟨_, g2⟩ := narrow_spec h
  have himm : cond (longs x).2.2.2.2 w.2.2.2.2.2 0 = w.2.2.2.2.2 := by
    have e := congrArg (fun z : InsT => z.2.2.2.2.2) g2
    unfold wideF narrowF at e
    simp only at e
    cases hs : (longs x).2.2.2.2
    · rw [hs, cond_false] at e
      exact e
    · rfl
  have e : tryX (tabs x) w a b = narrowF x (longs x) w := by
    unfold fineAB at hab
    simp only [Bool.and_eq_true] at hab
    obtain ⟨c1, c2, c3⟩ := hab
    unfold tryX narrowF
    rw [himm, last_idx, last_idx, last_idx, tabs_name hx]
    have g1 : cond ((tabs x).2.2.1.contains 65) (rgX w a) 0 = rgX w (idxF 1 (longs x)) := by
      cases hc : (tabs x).2.2.1.contains 65
      · rw [hc, cond_false] at c1
        rw [eq_of_beq c1]; rfl
      · rw [hc, cond_true] at c1
        rw [eq_of_beq c1]; rfl
    have g2 : cond ((tabs x).2.2.1.contains 66) (rgX w b) 0 = rgX w (idxF 2 (longs x)) := by
      cases hc : (tabs x).2.2.1.contains 66
      · rw [hc, cond_false] at c2
        rw [eq_of_beq c2]; rfl
      · rw [hc, cond_true] at c2
        rw [eq_of_beq c2]; rfl
    have g3 : cond ((tabs x).2.2.1.contains 67) (cond ((tabs x).2.2.1.contains 66) (rgX w a) (rgX w b)) 0 = rgX w (idxF 3 (longs x)) := by
      cases hc : (tabs x).2.2.1.contains 67
      · rw [hc, cond_false] at c3
        rw [eq_of_beq c3]; rfl
      · rw [hc, cond_true] at c3
        cases hb : (tabs x).2.2.1.contains 66
        · rw [hb, cond_false] at c3
          rw [eq_of_beq c3]; rfl
        · rw [hb, cond_true] at c3
          rw [eq_of_beq c3]; rfl
    rw [g1, g2, g3]
  rw [← e]
  exact tried_mem _ _ ha hb
/-- Is it the one? -/
def hit (w t : InsT) : Bool := cond (encE t == 0) (insEq (wideA t) w) false
theorem hit_parts {w t : InsT} (h : hit w t = true) : encE t = 0 ∧ wideA t = w := by
  unfold hit at h
  cases he : (encE t == 0)
  · rw [he] at h; cases h
  · rw [he, cond_true] at h
    exact ⟨eq_of_beq he, insEq_eq h⟩
theorem hit_narrow {x : RowT} (hx : x ∈ rowsL) {w t : InsT} (ht : t.1 = x.1) (h : hit w t = true) : narrowB x (longs x) w = true ∧ narrowF x (longs x) w = t := by
  obtain ⟨h1, h2⟩ := hit_parts h
  obtain ⟨g1, g2⟩ := enc_parts h1
  obtain ⟨o1, o2⟩ := row_names hx
  rw [ht, o1] at g2
  have hw : wideA t = wideF (longs x) t := by
    unfold wideA
    rw [h1, ht, o1]
    rfl
  rw [hw] at h2
  have n1 := narrow_of hx g2 ht
  have n2 := narrow_wide hx g2 ht
  rw [h2] at n1 n2
  exact ⟨n1, n2⟩
theorem narrow_hit {x : RowT} (hx : x ∈ rowsL) {w : InsT} (h : narrowB x (longs x) w = true) : hit w (narrowF x (longs x) w) = true := by
  obtain ⟨g1, g2⟩ := narrow_spec h
  obtain ⟨o1, o2⟩ := row_names hx
  have hE : encE (narrowF x (longs x) w) = 0 := by
    unfold encE
    show cond (fok x.1) (faultyF (frow x.1) (narrowF x (longs x) w)) 7 = 0
    rw [o1, o2, cond_true, g1]
  have hW : wideA (narrowF x (longs x) w) = w := by
    unfold wideA
    rw [hE]
    show wideF (longs (frow x.1)) (narrowF x (longs x) w) = w
    rw [o1, g2]
  unfold hit
  rw [hE, hW, insEq_self]
  rfl
theorem tried_find {x : RowT} (hx : x ∈ rowsL) (w : InsT) : (triedX (tabs x) w).find? (hit w) = cond (narrowB x (longs x) w) (some (narrowF x (longs x) w)) none := by
  cases hf : (triedX (tabs x) w).find? (hit w) with
  | none =>
    cases hb : narrowB x (longs x) w
    · rfl
    · exfalso
      have := List.find?_eq_none.1 hf _ (narrow_tried hx hb)
      exact this (narrow_hit hx hb)
  | some t =>
    have hm : t ∈ triedX (tabs x) w := List.mem_of_find?_eq_some hf
    have hh : hit w t = true := List.find?_some (p := hit w) hf
    obtain ⟨n1, n2⟩ := hit_narrow hx ((tried_name hm).trans (tabs_name hx)) hh
    rw [n1, n2]
    rfl
theorem short_chk {w : InsT} (h : shOk w = true) : chkL w = 0 := by
  obtain ⟨h1, h2⟩ := short_wide h
  have := wide_chk h1
  rw [h2] at this
  exact this

end Go.Cmp
