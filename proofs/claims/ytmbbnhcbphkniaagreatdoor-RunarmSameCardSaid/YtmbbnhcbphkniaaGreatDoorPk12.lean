/-
  The engine, part Yo: rows of numbers among cells, at places that are not known, plainly. Conditions: none.
-/
import Derived.Test.YtmbbnhcbphkniaaGreatDoorPk11
set_option linter.unusedVariables false
set_option linter.unusedSimpArgs false
namespace Go.Ab
theorem setC_out {k : IntKind} {o j : Nat} {x : Int} (h : j ≠ o) (v : V) : setC k o x j v = v := by
  have hb : Nat.beq j o = false := by
    cases hb : Nat.beq j o
    · rfl
    · exact absurd (Nat.eq_of_beq_eq_true hb) h
  cases v with
  | int l n =>
    show cond (decide (l = k)) (V.int k (cond (Nat.beq j o) x n)) (V.int l n) = V.int l n
    rw [hb, cond_false]
    by_cases hl : l = k
    · rw [decide_eq_true hl, cond_true, hl]
    · rw [decide_eq_false hl, cond_false]
  | _ => rfl
theorem setI_out {k : IntKind} {o : Nat} {x : Int} : ∀ (l : List V) (j : Nat), (o < j ∨ j + l.length ≤ o) → setI k o x j l = l
  | [], _, _ => rfl
  | v :: r, j, h => by
    simp only [List.length_cons] at h
    show setC k o x j v :: setI k o x (j + 1) r = v :: r
    rw [setC_out (by omega), setI_out r (j + 1) (by omega)]
theorem setI_append {k : IntKind} {o : Nat} {x : Int} : ∀ (l m : List V) (j : Nat), setI k o x j (l ++ m) = setI k o x j l ++ setI k o x (j + l.length) m
  | [], _, _ => rfl
  | v :: r, m, j => by
    show setC k o x j v :: setI k o x (j + 1) (r ++ m) = setC k o x j v :: (setI k o x (j + 1) r ++ _)
    rw [setI_append r m (j + 1), List.length_cons, show j + 1 + r.length = j + (r.length + 1) by omega]
theorem setI_in {k : IntKind} {o : Nat} {x : Int} : ∀ (l : List Int) (j : Nat), j ≤ o → o < j + l.length → setI k o x j (l.map (V.int k)) = (l.set (o - j) x).map (V.int k)
  | [], j, h1, h2 => by
    simp only [List.length_nil] at h2
    omega
  | n :: r, j, h1, h2 => by
    simp only [List.length_cons] at h2
    show setC k o x j (.int k n) :: setI k o x (j + 1) (r.map (V.int k)) = _
    by_cases h : j = o
    · subst h
      rw [setI_out _ _ (by omega), Nat.sub_self]
      show cond (decide (k = k)) (V.int k (cond (Nat.beq j j) x n)) (V.int k n) :: _ = _
      rw [decide_eq_true rfl, Nat.beq_refl]
      rfl
    · rw [setC_out h, setI_in r (j + 1) (by omega) (by omega)]
      obtain ⟨d, hd⟩ : ∃ d, o - j = d + 1 := ⟨o - j - 1, by omega⟩
      rw [hd, show o - (j + 1) = d by omega]
      rfl
theorem intAt_append {l m : List V} : ∀ {o : Nat}, l.length ≤ o → intAt (l ++ m) o = intAt m (o - l.length) := by
  induction l with
  | nil => intro o _; rfl
  | cons v r ih =>
    intro o h
    simp only [List.length_cons] at h
    obtain ⟨d, rfl⟩ : ∃ d, o = d + 1 := ⟨o - 1, by omega⟩
    rw [List.length_cons, show d + 1 - (r.length + 1) = d - r.length by omega]
    exact ih (by omega)
theorem intAt_front {l m : List V} : ∀ {o : Nat}, o < l.length → intAt (l ++ m) o = intAt l o := by
  induction l with
  | nil => intro o h; exact absurd h (Nat.not_lt_zero _)
  | cons v r ih =>
    intro o h
    simp only [List.length_cons] at h
    cases o with
    | zero => rfl
    | succ d => exact ih (by omega)
theorem intAt_map {k : IntKind} : ∀ {l : List Int} {o : Nat}, intAt (l.map (V.int k)) o = l.getD o 0
  | [], _ => rfl
  | _ :: _, 0 => rfl
  | _ :: r, d + 1 => by
    show intAt (r.map (V.int k)) d = _
    rw [intAt_map]
    rfl
theorem isIntAt_row {k : IntKind} {l m : List V} {xs : List Int} {o : Nat} (h1 : l.length ≤ o) (h2 : o < l.length + xs.length) : isIntAt k (l ++ (xs.map (V.int k) ++ m)) o = true := by
  unfold isIntAt
  rw [List.getElem?_append_right h1, List.getElem?_append_left (by rw [List.length_map]; omega), List.getElem?_map, List.getElem?_eq_getElem (by omega)]
  exact decide_eq_true rfl
end Go.Ab

namespace Go.Ab
theorem mcall_in {P : Program} {f : Nat} {args : List V} {A B : List O} {pre post : List V} {e : TypeId} {k : IntKind} {lo hi m : Int} {v : V} {H' : List O} (h1 : lo ≤ m) (h2 : m < hi)
    (h : MCall P f args (rngH A pre (.rng k lo hi) post e B) (.ok v H')) : MCall P f args (rngH A pre (.int k m) post e B) (.ok v H') := by
  obtain ⟨hn, hc⟩ := h
  refine ⟨hn, fun w E β rargs hE hR hl hv => ?_⟩
  have eX : Xs E (rngH A pre (.int k m) post e B) β = Xs E (rngH A pre (.rng k lo hi) post e B) β := rngH_X
  have hR' : Rel w (Xs E (rngH A pre (.rng k lo hi) post e B) β) (rngH A pre (.rng k lo hi) post e B) β := by
    rw [← eX]
    refine rngH_rel hR fun loc c e' _ _ x _ hx => ?_
    cases hx
    exact .rng _ _ _ _ _ ⟨h1, h2⟩
  refine (hc w E β rargs ⟨fun b o hb => ⟨(hE.1 b o hb).1, fun ho => (hE.1 b o hb).2 (rngH_own b o ho)⟩, by rw [← eX]; exact hE.2⟩ hR' hl (by rw [← eX]; exact hv)).mono ?_
  rintro ev w' ⟨y, β', rfl, st, hr⟩
  refine ⟨y, β', rfl, ⟨st.rel, st.os, st.tape, st.output, st.size, fun b hb => ?_, fun b o ho => ?_, st.locs⟩, hr⟩
  · rcases st.pres b hb with g | ⟨⟨o, g⟩, c1, c2, e3, q1, q2, q3, q4⟩ | ⟨⟨o, g⟩, q⟩
    · exact .inl g
    · exact .inr (.inl ⟨⟨o, rngH_own b o g⟩, c1, c2, e3, q1, q2, q3, fun o ho => q4 o fun h => ho (rngH_own b o h)⟩)
    · exact .inr (.inr ⟨⟨o, rngH_own b o g⟩, q⟩)
  · exact (st.own b o ho).imp (rngH_own b o) id
end Go.Ab
