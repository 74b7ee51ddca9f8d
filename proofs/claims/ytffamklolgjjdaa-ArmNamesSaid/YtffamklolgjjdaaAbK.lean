/-
  The engine, part K: append, make, composite slices, slice expressions are sound. Conditions: none.
-/
import Derived.Test.YtffamklolgjjdaaAbJ
namespace Go.Ab
section
variable {P : Program} {E : Nat → Nat → Prop} {H : List O} {β : List Loc} {w : World} {X : Nat → Nat → Prop}

theorem bind_run {β γ : Type} {x : Tree β} {f : β → Tree γ} {c : γ} (h : (x.bind f).run = some c) : ∃ b, x.run = some b ∧ (f b).run = some c := by
  induction x with
  | leaf b => exact ⟨b, rfl, h⟩
  | fail => cases h
  | br cd x y ihx ihy =>
    cases cd
    · exact ihy h
    · exact ihx h

theorem isEmpty_nil {α : Type} {l : List α} (h : l.isEmpty = true) : l = [] := by cases l <;> simp_all
theorem isEmpty_cons {α : Type} {l : List α} (h : l.isEmpty = false) : 0 < l.length := by cases l <;> simp_all

theorem sound_append {argTypes : Array TypeId} {ty : TypeId} {s x v : V} {sy y : Value} {H' : List O} (hE : ∀ b o, E b o → b < w.heap.size ∧ ¬ Own H β b o) (hR : Rel w (Xs E H β) H β)
    (hs : R w (Xs E H β) β s sy) (hx : R w (Xs E H β) β x y) (h : (oAppend P H argTypes s x).run = some (v, H')) :
    ∃ z w' β', (Builtin.append_ argTypes ty #[sy, y]).run P w = .ok z w' ∧ Step E H β w H' β' w' ∧ R w' (Xs E H' β') β' v z := by
  unfold oAppend at h
  split at h
  rotate_left
  · cases h
  rename_i st h0
  split at h
  rotate_left
  · cases h
  rename_i i hi
  split at h
  rotate_left
  · cases h
  rename_i e hk
  have hu := slice_spec hi hk
  split at h
  rotate_left
  · cases h
  rename_i j c hj hc
  cases hb : (Nat.beq c.size j.size && (Nat.blt 0 j.bytes && (Nat.beq j.zero.length j.size && appendable P argTypes)))
  · simp [hb, Tree.run] at h
  simp only [hb, cond_true] at h
  obtain ⟨b1, hb⟩ := Bool.and_eq_true_iff.1 hb
  obtain ⟨b2, hb⟩ := Bool.and_eq_true_iff.1 hb
  obtain ⟨b3, b4⟩ := Bool.and_eq_true_iff.1 hb
  have b1 := Nat.eq_of_beq_eq_true b1
  have b2 : 0 < j.bytes := by simpa [Nat.blt_eq] using b2
  have b3 := Nat.eq_of_beq_eq_true b3
  have happ : AppT P argTypes e j := by
    refine ⟨⟨st, h0, hu⟩, hj, ?_, b2, b3⟩
    unfold appendable at b4
    split at b4
    · rename_i t ht
      split at b4
      · rename_i e' hd; exact ⟨t, _, ht, hd, .inl ⟨e', rfl⟩⟩
      · rename_i hd; exact ⟨t, _, ht, hd, .inr rfl⟩
      · cases b4
    · cases b4
  split at h
  rotate_left
  · cases h
  rename_i xs hxs
  obtain ⟨news, N⟩ := elems_R (P := P) hR hx hxs
  have hfirst := N.first
  rw [b1] at hfirst
  unfold grow at h
  split at h
  · -- nil
    cases hs
    cases he : xs.isEmpty
    · simp only [he, Tree.run, cond_false] at h
      obtain ⟨hroom, h⟩ := req_run h
      simp only [Tree.run, Option.some.injEq, Prod.mk.injEq] at h
      obtain ⟨rfl, rfl⟩ := h
      have hpos := isEmpty_cons he
      obtain ⟨rest, hrest, hrun⟩ := run_append_out (ty := ty) happ (olds := []) (base := none) (sLen := 0) (sCap := 0) (N.lenOf w) (hfirst w.drew rfl) (by rfl) (by omega) (by rw [Nat.zero_add]; exact roomy_spec hroom)
      rw [Nat.zero_add] at hrest hrun
      have hge := grownCap_ge w xs.length 0 e
      obtain ⟨β', st, hr⟩ := new_gro (ll := xs) (row := news) (rest := rest) (e := e) (cap := grownCap w xs.length 0 e) hE hR N.len hge (by rw [hrest, b1]) N.get
      exact ⟨_, _, β', by simpa using hrun, st, hr⟩
    · simp only [he, Tree.run, cond_true, Option.some.injEq, Prod.mk.injEq] at h
      obtain ⟨rfl, rfl⟩ := h
      have := isEmpty_nil he
      subst this
      exact ⟨_, w, β, run_append_in (w' := w) happ (n := 0) (N.lenOf w) (hfirst w rfl) (by omega) (fun a h => by cases h) (fun _ => rfl), Step.refl hR, .val _ _⟩
  · -- a fixed one
    rename_i d l spare fl
    split at h
    rotate_left
    · cases h
    rename_i l' hl'
    obtain ⟨e', rfl⟩ := sameL_spec hl'
    subst e'
    simp only [castL] at h ⊢
    rcases sl_get hs with ⟨rfl, rfl, rfl, rfl⟩ | ⟨b, o, cap, rfl, hcap, hfull, _, hh⟩
    · cases he : xs.isEmpty
      · simp [he, Tree.run] at h
      · simp only [he, Tree.run, cond_true, Option.some.injEq, Prod.mk.injEq] at h
        obtain ⟨rfl, rfl⟩ := h
        have := isEmpty_nil he
        subst this
        exact ⟨_, w, β, run_append_in (w' := w) happ (n := 0) (N.lenOf w) (hfirst w rfl) (by omega) (fun a h => by cases h) (fun _ => rfl), Step.refl hR, .nil _ _⟩
    cases he : xs.isEmpty
    · simp only [he, Tree.run, cond_false] at h
      split at h
      · obtain ⟨hroom, h⟩ := req_run h
        simp only [Tree.run, Option.some.injEq, Prod.mk.injEq] at h
        obtain ⟨rfl, rfl⟩ := h
        have hpos := isEmpty_cons he
        have hc0 := hfull rfl
        simp only [List.length_nil, Nat.add_zero] at hc0
        subst hc0
        obtain ⟨olds, o1, o2, o3, o4⟩ := row_cells (P := P) (w := w) (X := Xs E H β) (l := l) (b := b) (o := o) (fun i x k v g1 g2 => (hh i x k v (by
          have : i < l.length := (List.getElem?_eq_some_iff.1 g1).1
          rw [List.getElem?_append_left this]; exact g1) g2).2)
        obtain ⟨rest, hrest, hrun⟩ := run_append_out (ty := ty) happ (olds := olds) (base := some ⟨b, o, none⟩) (sLen := l.length) (sCap := l.length) (N.lenOf w) (hfirst w.drew rfl)
          (by rw [← b1]; exact o4 w.drew rfl) (by omega) (roomy_spec hroom)
        have hge := grownCap_ge w (l.length + xs.length) l.length e
        obtain ⟨β', st, hr⟩ := new_gro (ll := l ++ xs) (row := olds ++ news) (rest := rest) (e := e) (cap := grownCap w (l.length + xs.length) l.length e) hE hR
          (by simp [o1, N.len, Nat.add_mul]) (by simpa using hge) (by rw [hrest, b1]; simp) (join_cells o1 o3 N.get)
        rw [List.length_append] at st hr
        exact ⟨_, _, β', hrun, st, hr⟩
      · cases h
    · simp only [he, Tree.run, cond_true, Option.some.injEq, Prod.mk.injEq] at h
      obtain ⟨rfl, rfl⟩ := h
      have := isEmpty_nil he
      subst this
      have hn : news = [] := List.length_eq_zero_iff.1 (by simpa using N.len)
      subst hn
      exact ⟨_, w, β, run_append_in (w' := w) happ (n := 0) (N.lenOf w) (hfirst w rfl) (by omega) (fun a h => by simp [storeCells]) (fun h => by cases h), Step.refl hR, by simpa using hs⟩
  · -- one that grows
    rename_i id d l
    split at h
    · rename_i l' n sz hl' hH
      obtain ⟨e', rfl⟩ := sameL_spec hl'
      subst e'
      simp only [castL] at h ⊢
      cases hb : Nat.beq sz d.size
      · simp [hb, Tree.run] at h
      simp only [hb, cond_true] at h
      have hb := Nat.eq_of_beq_eq_true hb
      subst hb
      obtain ⟨hroom, h⟩ := req_run h
      simp only [Tree.run, Option.some.injEq, Prod.mk.injEq] at h
      obtain ⟨rfl, rfl⟩ := h
      obtain ⟨hn, hroom2⟩ := Bool.and_eq_true_iff.1 hroom
      have hn := of_decide_eq_true hn
      subst hn
      have hs' := hs
      obtain ⟨b, o, cap, loc, rfl, hloc, hkind, hln, hl, hcap, hh⟩ := gro_get hs
      cases he : xs.isEmpty
      · have hpos := isEmpty_cons he
        by_cases hin : l.length + xs.length ≤ cap
        · obtain ⟨w', β', g1, g2, g3⟩ := in_gro (P := P) hE hR hs' hH hpos hin N.len N.one N.get
          rw [List.length_append] at g2 g3
          exact ⟨_, w', β', run_append_in (w' := w') happ (N.lenOf w) (hfirst w rfl) hin (fun a h => by cases h; rw [← b1]; exact g1) (fun h => by cases h), g2, g3⟩
        · obtain ⟨olds, o1, o2, o3, o4⟩ := row_cells (P := P) (w := w) (X := Xs E H β) (l := l) (b := b) (o := o) (fun i x k v g1 g2 => (hh i x k v g1 g2).2)
          obtain ⟨rest, hrest, hrun⟩ := run_append_out (ty := ty) happ (olds := olds) (base := some ⟨b, o, none⟩) (sLen := l.length) (sCap := cap) (N.lenOf w) (hfirst w.drew rfl)
            (by rw [← b1]; exact o4 w.drew rfl) (by omega) (roomy_spec hroom2)
          have hge := grownCap_ge w (l.length + xs.length) cap e
          obtain ⟨β', st, hr⟩ := move_gro (ll := l ++ xs) (row := olds ++ news) (rest := rest) (e := e) (cap := grownCap w (l.length + xs.length) cap e) hE hR hH hloc (by simp; omega)
            (by simp [o1, N.len, Nat.add_mul]) (by simpa using hge) (by rw [hrest, b1]; simp) (join_cells o1 o3 N.get)
          rw [List.length_append] at st hr
          exact ⟨_, _, β', hrun, st, hr⟩
      · have := isEmpty_nil he
        subst this
        have hnw : news = [] := List.length_eq_zero_iff.1 (by simpa using N.len)
        subst hnw
        have hset : H.set id (.tok (l.length + ([] : List d.ty).length) d.size) = H := by
          apply List.ext_getElem?
          intro k
          rw [get_set]
          split
          · subst_vars
            have := (List.getElem?_eq_some_iff.1 hH).1
            simp only [this, if_true, List.length_nil, Nat.add_zero]
            exact hH.symm
          · rfl
        rw [hset]
        refine ⟨_, w, β, run_append_in (w' := w) happ (n := 0) (N.lenOf w) (hfirst w rfl) (by omega) (fun a h => by simp [storeCells]) (fun h => by cases h), Step.refl hR, ?_⟩
        rw [List.append_nil]
        simpa using hs'
    · cases h
  · cases h

/-- A new block that is read only: cells in a row. -/
theorem fresh_sl {c : EC} {l : List c.ty} {arr : Array Value} {e : TypeId} {fl : Fl} {cap len : Nat} (hE : ∀ b o, E b o → b < w.heap.size ∧ ¬ Own H β b o) (hR : Rel w (Xs E H β) H β)
    (hlen : len = l.length) (hcap : l.length ≤ cap) (hfull : fl = .full → cap = l.length)
    (h : ∀ (i : Nat) x (k : Nat) v, l[i]? = some x → (enc c x)[k]? = some v → ∃ z, arr[i * c.size + k]? = some z ∧ R w (Xs E H β) [] v z) :
    Step E H β w H β (w.alloc (.cells arr e)) ∧ R (w.alloc (.cells arr e)) (Xs E H β) β (.sl c l [] fl) (.slice (some ⟨w.heap.size, 0, none⟩) len cap) := by
  have st := Step.alloc hR (.cells arr e)
  refine ⟨st, mk_sl hlen (by simpa using hcap) (by simpa using hfull) (fun _ => ⟨arr, e, heap_alloc_new w _⟩) ?_⟩
  intro i x k v hx hv
  rw [List.append_nil] at hx
  obtain ⟨z, hz, hr⟩ := h i x k v hx hv
  refine ⟨?_, z, ?_, hr.stab st.stab _ (.nil _)⟩
  · rintro (g | g)
    · exact absurd (hE _ _ g).1 (Nat.lt_irrefl _)
    · exact absurd (own_lt hR g) (Nat.lt_irrefl _)
  · rw [World.cell?_alloc_new]
    simpa using hz

end
end Go.Ab
