/-
  The engine, part Ob: into a call that writes, and back. Conditions: none.
-/
import Derived.Test.YtffamklolgjjdaaAbOa
namespace Go.Ab
section
variable {E : Nat → Nat → Prop} {H Hs os : List O} {β : List Loc} {w : World} {σ : List Nat}

/-- The places of the chosen objects. -/
def pickL (β : List Loc) (σ : List Nat) : List Loc := σ.filterMap fun i => β[i]?

theorem pickL_get : ∀ {σ : List Nat}, (∀ i ∈ σ, i < β.length) → (pickL β σ).length = σ.length ∧ ∀ (k i : Nat), σ[k]? = some i → (pickL β σ)[k]? = β[i]?
  | [], _ => ⟨rfl, by simp⟩
  | s :: σ, h => by
    have hs : s < β.length := h s (by simp)
    obtain ⟨g1, g2⟩ := pickL_get (σ := σ) (fun i hi => h i (by simp [hi]))
    have e : pickL β (s :: σ) = β[s] :: pickL β σ := by simp [pickL, hs]
    rw [e]
    refine ⟨by simp [g1], fun k i hk => ?_⟩
    cases k with
    | zero => simp only [List.getElem?_cons_zero, Option.some.injEq] at hk; subst hk; simp [hs]
    | succ k => simpa using g2 k i (by simpa using hk)

/-- An object, numbered anew, is as it was. -/
theorem oren_tok {ρ : Nat → Option Nat} {o : O} {n sz : Nat} (h : O.ren? ρ o = some (.tok n sz)) : o = .tok n sz := by
  cases o with
  | cells cs e =>
    simp only [O.ren?] at h
    split at h <;> cases h
  | tok a b => simpa [O.ren?] using h
  | dead => simp [O.ren?] at h
theorem oren_cells {ρ : Nat → Option Nat} {o : O} {cs : List V} {e : TypeId} (h : O.ren? ρ o = some (.cells cs e)) : ∃ cs', o = .cells cs' e ∧ V.rens? ρ cs' = some cs := by
  cases o with
  | cells ds e' =>
    simp only [O.ren?] at h
    split at h
    rotate_left
    · cases h
    rename_i us hu
    cases h
    exact ⟨ds, rfl, hu⟩
  | tok a b => simp [O.ren?] at h
  | dead => simp [O.ren?] at h
theorem oren_live {ρ : Nat → Option Nat} {o o' : O} (h : O.ren? ρ o = some o') : o' ≠ .dead ↔ o ≠ .dead := by
  cases o with
  | cells cs e =>
    simp only [O.ren?] at h
    split at h
    · cases h; simp
    · cases h
  | tok a b => simp only [O.ren?, Option.some.injEq] at h; subst h; simp
  | dead => simp only [O.ren?, Option.some.injEq] at h; subst h; simp

/-- Who owns a cell lives; who lives owns one. -/
theorem own_at {b o i : Nat} {loc : Loc} (hl : β[i]? = some loc) (hb : loc.block = b) (h : (∃ cs e, H[i]? = some (.cells cs e)) ∨ (∃ n sz, H[i]? = some (.tok n sz) ∧ loc.base + n * sz ≤ o)) : Own H β b o ∧ live H i :=
  ⟨⟨i, loc, hl, hb, h⟩, by
    rcases h with ⟨cs, e, h⟩ | ⟨n, sz, h, _⟩
    · exact ⟨_, h, by simp⟩
    · exact ⟨_, h, by simp⟩⟩

theorem live_own {i : Nat} {loc : Loc} (h : live H i) (hl : β[i]? = some loc) : ∃ o, Own H β loc.block o := by
  obtain ⟨o, h1, h2⟩ := h
  cases o with
  | cells cs e => exact ⟨0, i, loc, hl, rfl, .inl ⟨cs, e, h1⟩⟩
  | tok n sz => exact ⟨loc.base + n * sz, i, loc, hl, rfl, .inr ⟨n, sz, h1, Nat.le_refl _⟩⟩
  | dead => exact absurd rfl h2

theorem Own.live_of {b o : Nat} (h : Own H β b o) : ∃ i loc, live H i ∧ β[i]? = some loc ∧ loc.block = b := by
  obtain ⟨i, loc, h1, h2, h3⟩ := h
  exact ⟨i, loc, (own_at (o := o) h1 h2 h3).2, h1, h2⟩

/-- What stays closed in the call. -/
def Shut (E : Nat → Nat → Prop) (H : List O) (β : List Loc) (Hs : List O) (βs : List Loc) (b o : Nat) : Prop := Xs E H β b o ∧ ¬ Own Hs βs b o

structure Into (E : Nat → Nat → Prop) (H : List O) (β : List Loc) (w : World) (σ : List Nat) (Hs : List O) (βs : List Loc) : Prop where
  rel : Rel w (Xs (Shut E H β Hs βs) Hs βs) Hs βs
  sub : ∀ b o, Own Hs βs b o → Own H β b o
  same : Xs (Shut E H β Hs βs) Hs βs = Xs E H β
  old : ∀ b o, Shut E H β Hs βs b o → b < w.heap.size ∧ ¬ Own Hs βs b o
  lens : βs.length = σ.length ∧ Hs.length = σ.length
  get : ∀ (k i : Nat), σ[k]? = some i → i < H.length ∧ βs[k]? = β[i]? ∧ (live Hs k ↔ live H i)

theorem into (hE : ∀ b o, E b o → b < w.heap.size ∧ ¬ Own H β b o) (hR : Rel w (Xs E H β) H β) (hσ : noDup σ = true) (hp : pickO H σ = some os)
    (hr : rensO (fun i => place i σ) os = some Hs) : Into E H β w σ Hs (pickL β σ) ∧ Turned (fun i => place i σ) β (pickL β σ) := by
  obtain ⟨p1, p2⟩ := pickO_get hp
  obtain ⟨r1, r2⟩ := rensO_get hr
  have hlt : ∀ i ∈ σ, i < β.length := fun i hi => by
    obtain ⟨k, hk⟩ := List.getElem?_of_mem hi
    rw [← hR.len]; exact (p2 k i hk).1
  obtain ⟨l1, l2⟩ := pickL_get (β := β) hlt
  have hturn : Turned (fun i => place i σ) β (pickL β σ) := fun i j loc h1 h2 => by rw [l2 j i (place_some h1), h2]
  -- an object of the call is one of the caller's
  have back : ∀ (k : Nat) o, Hs[k]? = some o → ∃ i u, σ[k]? = some i ∧ H[i]? = some u ∧ O.ren? (fun i => place i σ) u = some o := by
    intro k o h
    obtain ⟨u, hu, hu'⟩ := r2 k o h
    have hk : k < σ.length := by rw [← p1]; exact (List.getElem?_eq_some_iff.1 hu).1
    refine ⟨σ[k], u, by simp [hk], ?_, hu'⟩
    rw [← (p2 k σ[k] (by simp [hk])).2, hu]
  have hsub : ∀ b o, Own Hs (pickL β σ) b o → Own H β b o := by
    rintro b o ⟨k, loc, h1, h2, h3⟩
    have hk : k < σ.length := by rw [← l1]; exact (List.getElem?_eq_some_iff.1 h1).1
    have hk' : σ[k]? = some σ[k] := by simp [hk]
    rw [l2 k _ hk'] at h1
    refine ⟨σ[k], loc, h1, h2, ?_⟩
    rcases h3 with ⟨cs, e, h⟩ | ⟨n, sz, h, h'⟩
    · obtain ⟨i, u, e1, e2, e3⟩ := back k _ h
      rw [hk'] at e1
      simp only [Option.some.injEq] at e1
      subst e1
      obtain ⟨cs', rfl, _⟩ := oren_cells e3
      exact .inl ⟨cs', e, e2⟩
    · obtain ⟨i, u, e1, e2, e3⟩ := back k _ h
      rw [hk'] at e1
      simp only [Option.some.injEq] at e1
      subst e1
      have := oren_tok e3
      subst this
      exact .inr ⟨n, sz, e2, h'⟩
  have hsame : Xs (Shut E H β Hs (pickL β σ)) Hs (pickL β σ) = Xs E H β := by
    funext b o
    apply propext
    constructor
    · rintro (⟨h, _⟩ | h)
      · exact h
      · exact .inr (hsub b o h)
    · intro h
      by_cases hh : Own Hs (pickL β σ) b o
      · exact .inr hh
      · exact .inl ⟨h, hh⟩
  have hlive : ∀ (k i : Nat), σ[k]? = some i → (live Hs k ↔ live H i) := by
    intro k i hk
    constructor
    · rintro ⟨o, h1, h2⟩
      obtain ⟨i', u, e1, e2, e3⟩ := back k o h1
      rw [hk] at e1
      simp only [Option.some.injEq] at e1
      subst e1
      exact ⟨u, e2, (oren_live e3).1 h2⟩
    · rintro ⟨u, h1, h2⟩
      have hk' : k < Hs.length := by rw [r1, p1]; exact (List.getElem?_eq_some_iff.1 hk).1
      have hget : Hs[k]? = some Hs[k] := by simp [hk']
      obtain ⟨i', u', e1, e2, e3⟩ := back k _ hget
      rw [hk] at e1
      simp only [Option.some.injEq] at e1
      subst e1
      rw [h1] at e2
      simp only [Option.some.injEq] at e2
      subst e2
      exact ⟨_, hget, (oren_live e3).2 h2⟩
  refine ⟨⟨?_, hsub, hsame, ?_, ⟨l1, by omega⟩, fun k i hk => ⟨(p2 k i hk).1, l2 k i hk, hlive k i hk⟩⟩, hturn⟩
  · rw [hsame]
    refine ⟨by omega, fun k cs e loc h1 h2 => ?_, fun k n sz loc h1 h2 => ?_, fun k k' l l' h1 h2 h3 h4 h5 => ?_⟩
    · obtain ⟨i, u, e1, e2, e3⟩ := back k _ h1
      obtain ⟨cs', rfl, hren⟩ := oren_cells e3
      rw [l2 k i e1] at h2
      obtain ⟨g1, c, e', g2, g3, g4, g5⟩ := hR.cells i cs' e loc e2 h2
      obtain ⟨q1, q2⟩ := rens_get hren
      refine ⟨g1, c, e', g2, g3, ⟨by have := g4.1; omega, fun he => by have := g4.2 he; omega⟩, fun m v hv => ?_⟩
      obtain ⟨u, hu, hu'⟩ := q2 m v hv
      obtain ⟨x, hx, hr⟩ := g5 m u hu
      exact ⟨x, hx, ren_R hturn hr v hu'⟩
    · obtain ⟨i, u, e1, e2, e3⟩ := back k _ h1
      have := oren_tok e3
      subst this
      rw [l2 k i e1] at h2
      exact hR.tok i n sz loc e2 h2
    · have hk : k < σ.length := by rw [← l1]; exact (List.getElem?_eq_some_iff.1 h3).1
      have hk' : k' < σ.length := by rw [← l1]; exact (List.getElem?_eq_some_iff.1 h4).1
      have g1 : σ[k]? = some σ[k] := by simp [hk]
      have g2 : σ[k']? = some σ[k'] := by simp [hk']
      have := hR.disj σ[k] σ[k'] l l' ((hlive _ _ g1).1 h1) ((hlive _ _ g2).1 h2) (by rw [← l2 _ _ g1, h3]) (by rw [← l2 _ _ g2, h4]) h5
      rw [this] at g1
      exact noDup_inj hσ g1 g2
  · rintro b o ⟨h1, h2⟩
    refine ⟨?_, h2⟩
    rcases h1 with h | h
    · exact (hE b o h).1
    · exact own_lt hR h

variable {βs β2 : List Loc} {w' : World} {H2 H2' : List O}

theorem back_out (hE : ∀ b o, E b o → b < w.heap.size ∧ ¬ Own H β b o) (hR : Rel w (Xs E H β) H β) (hσ : noDup σ = true) (hi : Into E H β w σ Hs βs)
    (s : Step (Shut E H β Hs βs) Hs βs w H2 β2 w') (hl : σ.length ≤ H2.length) (hr : rensO (backTo σ H.length) H2 = some H2') :
    Step E H β w (setAll H σ H2') (setAll β σ β2) w' ∧ ∀ v v' y, R w' (Xs (Shut E H β Hs βs) H2 β2) β2 v y → V.ren? (backTo σ H.length) v = some v' → R w' (Xs E (setAll H σ H2') (setAll β σ β2)) (setAll β σ β2) v' y := by
  obtain ⟨r1, r2⟩ := rensO_get hr
  have hlb := hR.len
  have hl2 := s.rel.len
  have hlt : ∀ i ∈ σ, i < H.length := fun i h => by
    obtain ⟨k, hk⟩ := List.getElem?_of_mem h
    exact (hi.get k i hk).1
  have hlt' : ∀ i ∈ σ, i < β.length := fun i h => hlb ▸ hlt i h
  have newH : ∀ i j, backTo σ H.length j = some i → (setAll H σ H2')[i]? = H2'[j]? := fun i j h => setAll_new H σ H2' i j hσ hlt (by omega) h
  have newB : ∀ i j, backTo σ H.length j = some i → (setAll β σ β2)[i]? = β2[j]? := fun i j h => setAll_new β σ β2 i j hσ hlt' (by omega) (by rw [← hlb]; exact h)
  have oldH : ∀ i, i < H.length → i ∉ σ → (setAll H σ H2')[i]? = H[i]? := fun i h1 h2 => setAll_old H σ H2' i h1 h2 (by omega)
  have oldB : ∀ i, i < H.length → i ∉ σ → (setAll β σ β2)[i]? = β[i]? := fun i h1 h2 => setAll_old β σ β2 i (by omega) h2 (by omega)
  -- an object is an old one, or the call's
  have cases3 : ∀ (i : Nat) loc, (setAll β σ β2)[i]? = some loc → (i < H.length ∧ i ∉ σ ∧ β[i]? = some loc) ∨ ∃ j, backTo σ H.length j = some i ∧ β2[j]? = some loc := by
    intro i loc h
    by_cases hc : i < H.length ∧ i ∉ σ
    · exact .inl ⟨hc.1, hc.2, by rw [← oldB i hc.1 hc.2, h]⟩
    · obtain ⟨j, hj⟩ := backTo_all (σ := σ) (n := H.length) hc
      exact .inr ⟨j, hj, by rw [← newB i j hj, h]⟩
  have backH : ∀ (j : Nat) o, H2'[j]? = some o → ∃ u, H2[j]? = some u ∧ O.ren? (backTo σ H.length) u = some o := r2
  have ownNew : ∀ i j loc b o, backTo σ H.length j = some i → β2[j]? = some loc → loc.block = b →
      ((∃ cs e, (setAll H σ H2')[i]? = some (.cells cs e)) ∨ (∃ n sz, (setAll H σ H2')[i]? = some (.tok n sz) ∧ loc.base + n * sz ≤ o)) → Own H2 β2 b o := by
    intro i j loc b o h1 h2 h3 h4
    refine ⟨j, loc, h2, h3, ?_⟩
    rw [newH i j h1] at h4
    rcases h4 with ⟨cs, e, h⟩ | ⟨n, sz, h, h'⟩
    · obtain ⟨u, hu, hu'⟩ := backH j _ h
      obtain ⟨cs', rfl, _⟩ := oren_cells hu'
      exact .inl ⟨cs', e, hu⟩
    · obtain ⟨u, hu, hu'⟩ := backH j _ h
      have := oren_tok hu'
      subst this
      exact .inr ⟨n, sz, hu, h'⟩
  have ownSplit : ∀ b o, Own (setAll H σ H2') (setAll β σ β2) b o → (∃ i loc, i < H.length ∧ i ∉ σ ∧ β[i]? = some loc ∧ loc.block = b ∧ live H i ∧ Own H β b o) ∨ Own H2 β2 b o := by
    rintro b o ⟨i, loc, h1, h2, h3⟩
    rcases cases3 i loc h1 with ⟨g1, g2, g3⟩ | ⟨j, g1, g2⟩
    · rw [oldH i g1 g2] at h3
      obtain ⟨a1, a2⟩ := own_at (o := o) g3 h2 h3
      exact .inl ⟨i, loc, g1, g2, g3, h2, a2, a1⟩
    · exact .inr (ownNew i j loc b o g1 g2 h2 h3)
  -- the old ones stand apart
  have apart : ∀ i loc, i ∉ σ → β[i]? = some loc → live H i → ∀ o, ¬ Own Hs βs loc.block o := by
    rintro i loc h1 h2 h3 o ho
    obtain ⟨k, l, g1, g2, g3⟩ := ho.live_of
    have hk : k < σ.length := by rw [← hi.lens.1]; exact (List.getElem?_eq_some_iff.1 g2).1
    obtain ⟨_, q2, q3⟩ := hi.get k σ[k] (by simp [hk])
    have := hR.disj i σ[k] loc l h3 (q3.1 g1) h2 (by rw [← q2, g2]) g3.symm
    exact h1 (by rw [this]; simp)
  have hX : ∀ b o, Xs E (setAll H σ H2') (setAll β σ β2) b o → Xs (Shut E H β Hs βs) H2 β2 b o := by
    rintro b o (h | h)
    · exact .inl ⟨.inl h, fun h' => (hE b o h).2 (hi.sub b o h')⟩
    · rcases ownSplit b o h with ⟨i, loc, g1, g2, g3, g4, g5, g6⟩ | h
      · subst g4
        exact .inl ⟨.inr g6, apart i loc g2 g3 g5 o⟩
      · exact .inr h
  have hturn : Turned (backTo σ H.length) β2 (setAll β σ β2) := fun j i loc h1 h2 => by rw [newB i j h1, h2]
  have hlocs : LocLe β (setAll β σ β2) := by
    intro i loc h
    by_cases hc : i ∈ σ
    · obtain ⟨k, hk⟩ := List.getElem?_of_mem hc
      obtain ⟨q1, q2, _⟩ := hi.get k i hk
      obtain ⟨loc', g1, g2⟩ := s.locs k loc (by rw [q2, h])
      exact ⟨loc', by rw [newB i k (by simp [backTo, hk]), g1], g2⟩
    · have : i < H.length := by rw [hlb]; exact (List.getElem?_eq_some_iff.1 h).1
      exact ⟨loc, by rw [oldB i this hc, h], .inl rfl⟩
  have hstab := s.stab
  rw [hi.same] at hstab
  have keep : ∀ v x, R w (Xs E H β) β v x → R w' (Xs E (setAll H σ H2') (setAll β σ β2)) (setAll β σ β2) v x := fun v x h => (h.stab hstab _ hlocs).weak hX
  have turnR : ∀ v v' y, R w' (Xs (Shut E H β Hs βs) H2 β2) β2 v y → V.ren? (backTo σ H.length) v = some v' → R w' (Xs E (setAll H σ H2') (setAll β σ β2)) (setAll β σ β2) v' y :=
    fun v v' y h hv => (ren_R hturn h v' hv).weak hX
  -- a block of an old object stays
  have stay : ∀ i loc, i ∉ σ → β[i]? = some loc → live H i → loc.block < w.heap.size → w'.heap[loc.block]? = w.heap[loc.block]? := by
    intro i loc h1 h2 h3 h4
    rcases s.pres loc.block h4 with h | ⟨⟨o, h⟩, _⟩
    · exact h
    · exact absurd h (apart i loc h1 h2 h3 o)
  refine ⟨⟨⟨?_, fun i cs e loc h1 h2 => ?_, fun i n sz loc h1 h2 => ?_, ?_⟩, s.os, s.tape, s.output, s.size, fun b hb => ?_, fun b o h => ?_, hlocs⟩, turnR⟩
  · rw [setAll_len _ _ _ (by omega), setAll_len _ _ _ (by omega)]; omega
  · rcases cases3 i loc h2 with ⟨g1, g2, g3⟩ | ⟨j, g1, g2⟩
    · rw [oldH i g1 g2] at h1
      obtain ⟨a1, c, e', a2, a3, a4, a5⟩ := hR.cells i cs e loc h1 g3
      refine ⟨a1, c, e', ?_, a3, a4, fun k v hv => let ⟨x, hx, hr⟩ := a5 k v hv; ⟨x, hx, keep v x hr⟩⟩
      rw [stay i loc g2 g3 ⟨_, h1, by simp⟩ (heap_lt a2)]; exact a2
    · rw [newH i j g1] at h1
      obtain ⟨u, hu, hu'⟩ := backH j _ h1
      obtain ⟨cs', rfl, hcs⟩ := oren_cells hu'
      obtain ⟨a1, c, e', a2, a3, a4, a5⟩ := s.rel.cells j cs' e loc hu g2
      obtain ⟨q1, q2⟩ := rens_get hcs
      refine ⟨a1, c, e', a2, a3, ⟨by have := a4.1; omega, fun he => by have := a4.2 he; omega⟩, fun k v hv => ?_⟩
      obtain ⟨u, hu, hu'⟩ := q2 k v hv
      obtain ⟨x, hx, hr⟩ := a5 k u hu
      exact ⟨x, hx, turnR u v x hr hu'⟩
  · rcases cases3 i loc h2 with ⟨g1, g2, g3⟩ | ⟨j, g1, g2⟩
    · rw [oldH i g1 g2] at h1
      obtain ⟨a1, a2, c, e', a3, a4⟩ := hR.tok i n sz loc h1 g3
      refine ⟨a1, a2, c, e', ?_, a4⟩
      rw [stay i loc g2 g3 ⟨_, h1, by simp⟩ (heap_lt a3)]; exact a3
    · rw [newH i j g1] at h1
      obtain ⟨u, hu, hu'⟩ := backH j _ h1
      have := oren_tok hu'
      subst this
      exact s.rel.tok j n sz loc hu g2
  · -- two that live lie apart
    have half : ∀ i i' l l', live (setAll H σ H2') i → live (setAll H σ H2') i' → i < H.length ∧ i ∉ σ ∧ β[i]? = some l → (∃ j, backTo σ H.length j = some i' ∧ β2[j]? = some l') → l.block = l'.block → False := by
      rintro i i' l l' h1 h2 ⟨g1, g2, g3⟩ ⟨j, a1, a2⟩ hb
      have hli : live H i := by obtain ⟨o, e1, e2⟩ := h1; exact ⟨o, by rw [← oldH i g1 g2, e1], e2⟩
      have hlj : live H2 j := by
        obtain ⟨o, e1, e2⟩ := h2
        rw [newH i' j a1] at e1
        obtain ⟨u, hu, hu'⟩ := backH j _ e1
        exact ⟨u, hu, (oren_live hu').1 e2⟩
      obtain ⟨o, ho⟩ := live_own hlj a2
      rcases s.own _ o ho with h | h
      · rw [← hb] at h; exact apart i l g2 g3 hli o h
      · obtain ⟨o', ho'⟩ := live_own hli g3
        have := own_lt hR ho'
        omega
    intro i i' l l' h1 h2 h3 h4 h5
    rcases cases3 i l h3 with g | g
    · rcases cases3 i' l' h4 with k | k
      · have hli : live H i := by obtain ⟨o, e1, e2⟩ := h1; exact ⟨o, by rw [← oldH i g.1 g.2.1, e1], e2⟩
        have hli' : live H i' := by obtain ⟨o, e1, e2⟩ := h2; exact ⟨o, by rw [← oldH i' k.1 k.2.1, e1], e2⟩
        exact hR.disj i i' l l' hli hli' g.2.2 k.2.2 h5
      · exact (half i i' l l' h1 h2 g k h5).elim
    · rcases cases3 i' l' h4 with k | k
      · exact (half i' i l' l h2 h1 k g h5.symm).elim
      · obtain ⟨j, a1, a2⟩ := g
        obtain ⟨j', b1, b2⟩ := k
        have lv : ∀ i j, live (setAll H σ H2') i → backTo σ H.length j = some i → live H2 j := by
          rintro i j ⟨o, e1, e2⟩ a1
          rw [newH i j a1] at e1
          obtain ⟨u, hu, hu'⟩ := backH j _ e1
          exact ⟨u, hu, (oren_live hu').1 e2⟩
        have := s.rel.disj j j' l l' (lv i j h1 a1) (lv i' j' h2 b1) a2 b2 h5
        subst this
        rw [a1] at b1
        exact Option.some.inj b1
  · rcases s.pres b hb with h | ⟨⟨o, ho⟩, c, c', e, h1, h2, h3, h4⟩
    · exact .inl h
    · exact .inr ⟨⟨o, hi.sub b o ho⟩, c, c', e, h1, h2, h3, fun o h => h4 o (fun h' => h (hi.sub b o h'))⟩
  · rcases ownSplit b o h with ⟨i, loc, g1, g2, g3, g4, g5, g6⟩ | h
    · exact .inl g6
    · rcases s.own b o h with h | h
      · exact .inl (hi.sub b o h)
      · exact .inr h

end
end Go.Ab
