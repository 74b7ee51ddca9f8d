/-
  The engine, part Ym: a call that keeps a number within a range. Conditions: none.
-/
import Derived.Test.YtmbbnhcbphkniaaGreatDoorBbYl
namespace Go.Ab

/-- A heap with such a cell in one of its objects. -/
def rngH (A : List O) (pre : List V) (v : V) (post : List V) (e : TypeId) (B : List O) : List O := A ++ .cells (pre ++ v :: post) e :: B

section
variable {P : Program} {E : Nat → Nat → Prop} {β : List Loc} {w : World} {X : Nat → Nat → Prop} {A B : List O} {pre post : List V} {e : TypeId} {u v : V}

theorem rngH_get (id : Nat) (ob : O) (h : (rngH A pre u post e B)[id]? = some ob) : (id = A.length ∧ ob = .cells (pre ++ u :: post) e ∧ (rngH A pre v post e B)[id]? = some (.cells (pre ++ v :: post) e)) ∨ (id ≠ A.length ∧ (rngH A pre v post e B)[id]? = some ob) := by
  unfold rngH at h ⊢
  by_cases h1 : id < A.length
  · rw [List.getElem?_append_left h1] at h ⊢
    exact .inr ⟨by omega, h⟩
  · rw [List.getElem?_append_right (by omega)] at h ⊢
    cases hk : id - A.length with
    | zero =>
      rw [hk] at h
      simp only [List.getElem?_cons_zero, Option.some.injEq] at h ⊢
      exact .inl ⟨by omega, h.symm, trivial⟩
    | succ m =>
      rw [hk] at h
      simp only [List.getElem?_cons_succ] at h ⊢
      exact .inr ⟨by omega, h⟩
theorem rngH_own (b o : Nat) (h : Own (rngH A pre u post e B) β b o) : Own (rngH A pre v post e B) β b o := by
  obtain ⟨id, loc, h1, h2, h3⟩ := h
  refine ⟨id, loc, h1, h2, ?_⟩
  rcases h3 with ⟨cs, e', h3⟩ | ⟨n, sz, h3, h4⟩ | ⟨sh, vs, h3⟩
  · rcases rngH_get (v := v) id _ h3 with ⟨_, _, g⟩ | ⟨_, g⟩
    · exact .inl ⟨_, _, g⟩
    · exact .inl ⟨_, _, g⟩
  · rcases rngH_get (v := v) id _ h3 with ⟨_, g, _⟩ | ⟨_, g⟩
    · cases g
    · exact .inr (.inl ⟨_, _, g, h4⟩)
  · rcases rngH_get (v := v) id _ h3 with ⟨_, g, _⟩ | ⟨_, g⟩
    · cases g
    · exact .inr (.inr ⟨_, _, g⟩)
theorem rngH_X : Xs E (rngH A pre u post e B) β = Xs E (rngH A pre v post e B) β := by
  funext b o
  exact propext ⟨fun h => h.imp id (rngH_own b o), fun h => h.imp id (rngH_own b o)⟩
theorem rngH_live {i : Nat} (h : live (rngH A pre u post e B) i) : live (rngH A pre v post e B) i := by
  obtain ⟨o, h1, h2⟩ := h
  rcases rngH_get (v := v) i _ h1 with ⟨_, _, g⟩ | ⟨_, g⟩
  · exact ⟨_, g, by simp⟩
  · exact ⟨o, g, h2⟩
/-- From one such heap to another, if what lies there fits. -/
theorem rngH_rel (hR : Rel w X (rngH A pre u post e B) β) (hv : ∀ loc c e', β[A.length]? = some loc → w.heap[loc.block]? = some (.cells c e' (0, 0)) → ∀ x, c[loc.base + pre.length]? = some x → R w X β u x → R w X β v x) : Rel w X (rngH A pre v post e B) β := by
  have hlen : (rngH A pre v post e B).length = (rngH A pre u post e B).length := by unfold rngH; simp
  refine ⟨hlen.trans hR.len, fun id cs e1 loc h1 h2 => ?_, fun id n sz loc h1 h2 => ?_, fun id sh vs loc h1 h2 => ?_, fun i j l l' h1 h2 h3 h4 h5 => hR.disj i j l l' (rngH_live h1) (rngH_live h2) h3 h4 h5⟩
  · rcases rngH_get (v := u) id _ h1 with ⟨g1, g2, g3⟩ | ⟨_, g⟩
    · simp only [O.cells.injEq] at g2
      obtain ⟨rfl, rfl⟩ := g2
      obtain ⟨a1, c, e', a2, a3, a4, a5⟩ := hR.cells id _ _ loc g3 h2
      refine ⟨a1, c, e', a2, a3, ?_, fun k y hy => ?_⟩
      · simpa using a4
      · by_cases hk : k = pre.length
        · subst hk
          rw [List.getElem?_append_right (Nat.le_refl _), Nat.sub_self] at hy
          cases hy
          obtain ⟨x, hx, hr⟩ := a5 pre.length u (by rw [List.getElem?_append_right (Nat.le_refl _), Nat.sub_self]; rfl)
          exact ⟨x, hx, hv loc c e' (by rw [← g1]; exact h2) a2 x hx hr⟩
        · refine a5 k y ?_
          by_cases hlt : k < pre.length
          · rw [List.getElem?_append_left hlt] at hy ⊢; exact hy
          · rw [List.getElem?_append_right (by omega)] at hy ⊢
            obtain ⟨m, hm⟩ : ∃ m, k - pre.length = m + 1 := ⟨k - pre.length - 1, by omega⟩
            rw [hm, List.getElem?_cons_succ] at hy ⊢
            exact hy
    · exact hR.cells id cs e1 loc g h2
  · rcases rngH_get (v := u) id _ h1 with ⟨_, g, _⟩ | ⟨_, g⟩
    · cases g
    · exact hR.tok id n sz loc g h2
  · rcases rngH_get (v := u) id _ h1 with ⟨_, g, _⟩ | ⟨_, g⟩
    · cases g
    · exact hR.objs id sh vs loc g h2
end

/-- A call that is known for each number of a range, and stays within it. -/
theorem mcall_rng {P : Program} {f : Nat} {args : List V} {A B : List O} {pre post : List V} {e : TypeId} {k : IntKind} {lo hi : Int} {v : V} (hlt : lo < hi)
    (h : ∀ n, lo ≤ n → n < hi → ∃ n', lo ≤ n' ∧ n' < hi ∧ MCall P f args (rngH A pre (.int k n) post e B) (.ok v (rngH A pre (.int k n') post e B))) :
    MCall P f args (rngH A pre (.rng k lo hi) post e B) (.ok v (rngH A pre (.rng k lo hi) post e B)) := by
  refine ⟨(h lo (Int.le_refl _) hlt).choose_spec.2.2.1, fun w E β rargs hE hR hl hv => ?_⟩
  -- which one
  have hid : (rngH A pre (.rng k lo hi) post e B)[A.length]? = some (.cells (pre ++ .rng k lo hi :: post) e) := by
    unfold rngH
    rw [List.getElem?_append_right (Nat.le_refl _), Nat.sub_self]
    rfl
  obtain ⟨loc, hloc⟩ : ∃ loc, β[A.length]? = some loc := by
    have : A.length < β.length := by rw [← hR.len]; exact (List.getElem?_eq_some_iff.1 hid).1
    exact ⟨β[A.length], by simp [this]⟩
  obtain ⟨_, c, e', a2, _, _, a5⟩ := hR.cells _ _ _ loc hid hloc
  obtain ⟨x, hx, hr⟩ := a5 pre.length (.rng k lo hi) (by rw [List.getElem?_append_right (Nat.le_refl _), Nat.sub_self]; rfl)
  cases hr with
  | rng _ _ _ _ n hn =>
  obtain ⟨n', g1, g2, _, hc⟩ := h n hn.1 hn.2
  have eX : ∀ (u u' : V) (β : List Loc), Xs E (rngH A pre u post e B) β = Xs E (rngH A pre u' post e B) β := fun _ _ _ => rngH_X
  have hR' : Rel w (Xs E (rngH A pre (.int k n) post e B) β) (rngH A pre (.int k n) post e B) β := by
    rw [eX _ (.rng k lo hi)]
    refine rngH_rel hR fun loc2 c2 e2 q1 q2 y q3 q4 => ?_
    rw [hloc] at q1
    cases q1
    rw [a2] at q2
    cases q2
    rw [hx] at q3
    cases q3
    exact .int _ _ _
  refine (hc w E β rargs ⟨fun b o hb => ⟨(hE.1 b o hb).1, fun ho => (hE.1 b o hb).2 (rngH_own b o ho)⟩, by rw [eX _ (.rng k lo hi)]; exact hE.2⟩ hR' hl (by rw [eX _ (.rng k lo hi)]; exact hv)).mono ?_
  rintro ev w' ⟨y, β', rfl, st, hr⟩
  rw [eX _ (.rng k lo hi)] at hr
  refine ⟨y, β', rfl, ⟨?_, st.os, st.tape, st.output, st.size, fun b hb => ?_, fun b o ho => ?_, st.locs⟩, hr⟩
  · have := st.rel
    rw [eX _ (.rng k lo hi)] at this
    refine rngH_rel this fun loc2 c2 e2 q1 q2 y q3 q4 => ?_
    cases q4
    exact .rng _ _ _ _ _ ⟨g1, g2⟩
  · rcases st.pres b hb with g | ⟨⟨o, g⟩, c1, c2, e3, q1, q2, q3, q4⟩ | ⟨⟨o, g⟩, q⟩
    · exact .inl g
    · exact .inr (.inl ⟨⟨o, rngH_own b o g⟩, c1, c2, e3, q1, q2, q3, fun o ho => q4 o fun h => ho (rngH_own b o h)⟩)
    · exact .inr (.inr ⟨⟨o, rngH_own b o g⟩, q⟩)
  · exact (st.own b o (rngH_own b o ho)).imp (rngH_own b o) id
end Go.Ab
