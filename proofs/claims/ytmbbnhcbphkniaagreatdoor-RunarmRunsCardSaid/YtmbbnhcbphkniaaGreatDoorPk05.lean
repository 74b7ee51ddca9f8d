/-
  The engine, part K: append, make, composite slices, slice expressions are sound. Conditions: none.
-/
import Derived.Test.YtmbbnhcbphkniaaGreatDoorPk04
set_option linter.unusedVariables false
set_option linter.unusedSimpArgs false
namespace Go.Ab
section
variable {P : Program} {E : Nat → Nat → Prop} {H : List O} {β : List Loc} {w : World} {X : Nat → Nat → Prop}

theorem bind_run {β γ : Type} {x : Tree β} {f : β → Tree γ} {c : γ} (h : (x.bind f).run = some c) : ∃ b, x.run = some b ∧ (f b).run = some c := by
  induction x with
  | leaf b => exact ⟨b, rfl, h⟩
  | fail => cases h
  | br cd x y ihx ihy =>
    cases cd
    · exact ihy h
    · exact ihx h

theorem isEmpty_nil {α : Type} {l : List α} (h : l.isEmpty = true) : l = [] := by cases l <;> simp_all
theorem isEmpty_cons {α : Type} {l : List α} (h : l.isEmpty = false) : 0 < l.length := by cases l <;> simp_all

theorem sound_append {argTypes : Array TypeId} {ty : TypeId} {s x v : V} {sy y : Value} {H' : List O} (hE : ∀ b o, E b o → b < w.heap.size ∧ ¬ Own H β b o) (hR : Rel w (Xs E H β) H β)
    (hs : R w (Xs E H β) β s sy) (hx : R w (Xs E H β) β x y) (h : (oAppend P H argTypes s x).run = some (v, H')) :
    ∃ z w' β', (Builtin.append_ argTypes ty #[sy, y]).run P w = .ok z w' ∧ Step E H β w H' β' w' ∧ R w' (Xs E H' β') β' v z := by
  unfold oAppend at h
  split at h
  rotate_left
  · cases h
  rename_i st h0
  split at h
  rotate_left
  · cases h
  rename_i i hi
  split at h
  rotate_left
  · cases h
  rename_i e hk
  have hu := slice_spec hi hk
  split at h
  rotate_left
  · cases h
  rename_i j c hj hc
  cases hb : (Nat.beq c.size j.size && (Nat.blt 0 j.bytes && (Nat.beq j.zero.length j.size && appendable P argTypes)))
  · simp [hb, Tree.run] at h
  simp only [hb, cond_true] at h
  obtain ⟨b1, hb⟩ := Bool.and_eq_true_iff.1 hb
  obtain ⟨b2, hb⟩ := Bool.and_eq_true_iff.1 hb
  obtain ⟨b3, b4⟩ := Bool.and_eq_true_iff.1 hb
  have b1 := Nat.eq_of_beq_eq_true b1
  have b2 : 0 < j.bytes := by simpa [Nat.blt_eq] using b2
  have b3 := Nat.eq_of_beq_eq_true b3
  have happ : AppT P argTypes e j := by
    refine ⟨⟨st, h0, hu⟩, hj, ?_, b2, b3⟩
    unfold appendable at b4
    split at b4
    · rename_i t ht
      split at b4
      · rename_i e' hd; exact ⟨t, _, ht, hd, .inl ⟨e', rfl⟩⟩
      · rename_i hd; exact ⟨t, _, ht, hd, .inr rfl⟩
      · cases b4
    · cases b4
  split at h
  rotate_left
  · cases h
  rename_i xs hxs
  obtain ⟨news, N⟩ := elems_R (P := P) hR hx hxs
  have hfirst := N.first
  rw [b1] at hfirst
  unfold grow at h
  split at h
  · -- nil
    cases hs
    cases he : xs.isEmpty
    · simp only [he, Tree.run, cond_false] at h
      obtain ⟨hroom, h⟩ := req_run h
      simp only [Tree.run, Option.some.injEq, Prod.mk.injEq] at h
      obtain ⟨rfl, rfl⟩ := h
      have hpos := isEmpty_cons he
      obtain ⟨rest, hrest, hrun⟩ := run_append_out (ty := ty) happ (olds := []) (base := none) (sLen := 0) (sCap := 0) (N.lenOf w) (hfirst w.drew rfl) (by rfl) (by omega) (by rw [Nat.zero_add]; exact roomy_spec hroom)
      rw [Nat.zero_add] at hrest hrun
      have hge := grownCap_ge w xs.length 0 e
      obtain ⟨β', st, hr⟩ := new_gro (ll := xs) (row := news) (rest := rest) (e := e) (cap := grownCap w xs.length 0 e) hE hR N.len hge (by rw [hrest, b1]) N.get
      exact ⟨_, _, β', by simpa using hrun, st, hr⟩
    · simp only [he, Tree.run, cond_true, Option.some.injEq, Prod.mk.injEq] at h
      obtain ⟨rfl, rfl⟩ := h
      have := isEmpty_nil he
      subst this
      exact ⟨_, w, β, run_append_in (w' := w) happ (n := 0) (N.lenOf w) (hfirst w rfl) (by omega) (fun a h => by cases h) (fun _ => rfl), Step.refl hR, .val _ _⟩
  · -- a fixed one
    rename_i d l spare fl
    split at h
    rotate_left
    · cases h
    rename_i l' hl'
    obtain ⟨e', rfl⟩ := sameL_spec hl'
    subst e'
    simp only [castL] at h ⊢
    rcases sl_get hs with ⟨rfl, rfl, rfl, rfl⟩ | ⟨b, o, cap, rfl, hcap, hfull, _, hh⟩
    · cases he : xs.isEmpty
      · simp [he, Tree.run] at h
      · simp only [he, Tree.run, cond_true, Option.some.injEq, Prod.mk.injEq] at h
        obtain ⟨rfl, rfl⟩ := h
        have := isEmpty_nil he
        subst this
        exact ⟨_, w, β, run_append_in (w' := w) happ (n := 0) (N.lenOf w) (hfirst w rfl) (by omega) (fun a h => by cases h) (fun _ => rfl), Step.refl hR, .nil _ _⟩
    cases he : xs.isEmpty
    · simp only [he, Tree.run, cond_false] at h
      split at h
      · obtain ⟨hroom, h⟩ := req_run h
        simp only [Tree.run, Option.some.injEq, Prod.mk.injEq] at h
        obtain ⟨rfl, rfl⟩ := h
        have hpos := isEmpty_cons he
        have hc0 := hfull rfl
        simp only [List.length_nil, Nat.add_zero] at hc0
        subst hc0
        obtain ⟨olds, o1, o2, o3, o4⟩ := row_cells (P := P) (w := w) (X := Xs E H β) (l := l) (b := b) (o := o) (fun i x k v g1 g2 => (hh i x k v (by
          have : i < l.length := (List.getElem?_eq_some_iff.1 g1).1
          rw [List.getElem?_append_left this]; exact g1) g2).2)
        obtain ⟨rest, hrest, hrun⟩ := run_append_out (ty := ty) happ (olds := olds) (base := some ⟨b, o, none⟩) (sLen := l.length) (sCap := l.length) (N.lenOf w) (hfirst w.drew rfl)
          (by rw [← b1]; exact o4 w.drew rfl) (by omega) (roomy_spec hroom)
        have hge := grownCap_ge w (l.length + xs.length) l.length e
        obtain ⟨β', st, hr⟩ := new_gro (ll := l ++ xs) (row := olds ++ news) (rest := rest) (e := e) (cap := grownCap w (l.length + xs.length) l.length e) hE hR
          (by simp [o1, N.len, Nat.add_mul]) (by simpa using hge) (by rw [hrest, b1]; simp) (join_cells o1 o3 N.get)
        rw [List.length_append] at st hr
        exact ⟨_, _, β', hrun, st, hr⟩
      · cases h
    · simp only [he, Tree.run, cond_true, Option.some.injEq, Prod.mk.injEq] at h
      obtain ⟨rfl, rfl⟩ := h
      have := isEmpty_nil he
      subst this
      have hn : news = [] := List.length_eq_zero_iff.1 (by simpa using N.len)
      subst hn
      exact ⟨_, w, β, run_append_in (w' := w) happ (n := 0) (N.lenOf w) (hfirst w rfl) (by omega) (fun a h => by simp [storeCells]) (fun h => by cases h), Step.refl hR, by simpa using hs⟩
  · -- one that grows
    rename_i id d l
    split at h
    · rename_i l' n sz hl' hH
      obtain ⟨e', rfl⟩ := sameL_spec hl'
      subst e'
      simp only [castL] at h ⊢
      cases hb : Nat.beq sz d.size
      · simp [hb, Tree.run] at h
      simp only [hb, cond_true] at h
      have hb := Nat.eq_of_beq_eq_true hb
      subst hb
      obtain ⟨hroom, h⟩ := req_run h
      simp only [Tree.run, Option.some.injEq, Prod.mk.injEq] at h
      obtain ⟨rfl, rfl⟩ := h
      obtain ⟨hn, hroom2⟩ := Bool.and_eq_true_iff.1 hroom
      have hn := of_decide_eq_true hn
      subst hn
      have hs' := hs
      obtain ⟨b, o, cap, loc, rfl, hloc, hkind, hln, hl, hcap, hh⟩ := gro_get hs
      cases he : xs.isEmpty
      · have hpos := isEmpty_cons he
        by_cases hin : l.length + xs.length ≤ cap
        · obtain ⟨w', β', g1, g2, g3⟩ := in_gro (P := P) hE hR hs' hH hpos hin N.len N.one N.get
          rw [List.length_append] at g2 g3
          exact ⟨_, w', β', run_append_in (w' := w') happ (N.lenOf w) (hfirst w rfl) hin (fun a h => by cases h; rw [← b1]; exact g1) (fun h => by cases h), g2, g3⟩
        · obtain ⟨olds, o1, o2, o3, o4⟩ := row_cells (P := P) (w := w) (X := Xs E H β) (l := l) (b := b) (o := o) (fun i x k v g1 g2 => (hh i x k v g1 g2).2)
          obtain ⟨rest, hrest, hrun⟩ := run_append_out (ty := ty) happ (olds := olds) (base := some ⟨b, o, none⟩) (sLen := l.length) (sCap := cap) (N.lenOf w) (hfirst w.drew rfl)
            (by rw [← b1]; exact o4 w.drew rfl) (by omega) (roomy_spec hroom2)
          have hge := grownCap_ge w (l.length + xs.length) cap e
          obtain ⟨β', st, hr⟩ := move_gro (ll := l ++ xs) (row := olds ++ news) (rest := rest) (e := e) (cap := grownCap w (l.length + xs.length) cap e) hE hR hH hloc (by simp; omega)
            (by simp [o1, N.len, Nat.add_mul]) (by simpa using hge) (by rw [hrest, b1]; simp) (join_cells o1 o3 N.get)
          rw [List.length_append] at st hr
          exact ⟨_, _, β', hrun, st, hr⟩
      · have := isEmpty_nil he
        subst this
        have hnw : news = [] := List.length_eq_zero_iff.1 (by simpa using N.len)
        subst hnw
        have hset : H.set id (.tok (l.length + ([] : List d.ty).length) d.size) = H := by
          apply List.ext_getElem?
          intro k
          rw [get_set]
          split
          · subst_vars
            have := (List.getElem?_eq_some_iff.1 hH).1
            simp only [this, if_true, List.length_nil, Nat.add_zero]
            exact hH.symm
          · rfl
        rw [hset]
        refine ⟨_, w, β, run_append_in (w' := w) happ (n := 0) (N.lenOf w) (hfirst w rfl) (by omega) (fun a h => by simp [storeCells]) (fun h => by cases h), Step.refl hR, ?_⟩
        rw [List.append_nil]
        simpa using hs'
    · cases h
  · cases h

/-- A new block that is read only: cells in a row. -/
theorem fresh_sl {c : EC} {l : List c.ty} {arr : Array Value} {e : TypeId} {fl : Fl} {cap len : Nat} (hE : ∀ b o, E b o → b < w.heap.size ∧ ¬ Own H β b o) (hR : Rel w (Xs E H β) H β)
    (hlen : len = l.length) (hcap : l.length ≤ cap) (hfull : fl = .full → cap = l.length)
    (h : ∀ (i : Nat) x (k : Nat) v, l[i]? = some x → (enc c x)[k]? = some v → ∃ z, arr[i * c.size + k]? = some z ∧ R w (Xs E H β) [] v z) :
    Step E H β w H β (w.alloc (.cells arr e)) ∧ R (w.alloc (.cells arr e)) (Xs E H β) β (.sl c l [] fl) (.slice (some ⟨w.heap.size, 0, none⟩) len cap) := by
  have st := Step.alloc hR (.cells arr e)
  refine ⟨st, mk_sl hlen (by simpa using hcap) (by simpa using hfull) (fun _ => ⟨arr, e, heap_alloc_new w _⟩) ?_⟩
  intro i x k v hx hv
  rw [List.append_nil] at hx
  obtain ⟨z, hz, hr⟩ := h i x k v hx hv
  refine ⟨?_, z, ?_, hr.stab st.stab _ (.nil _)⟩
  · rintro (g | g)
    · exact absurd (hE _ _ g).1 (Nat.lt_irrefl _)
    · exact absurd (own_lt hR g) (Nat.lt_irrefl _)
  · rw [World.cell?_alloc_new]
    simpa using hz

/-! append, onto what may be written: a new object. -/

theorem getElem?_dead {id j : Nat} {ob : O} (h : (H.set id .dead)[j]? = some ob) (hd : ob ≠ .dead) : H[j]? = some ob ∧ id ≠ j := by
  rw [get_set] at h
  split at h
  · split at h
    · cases h; exact absurd rfl hd
    · cases h
  · exact ⟨h, by assumption⟩

/-- The old object closed, its block (with other cells) as a new object. -/
theorem Step.regrow (hR : Rel w (Xs E H β) H β) {id : Nat} {cs cs' : List V} {e e0 : TypeId} {loc : Loc} {c c' : Array Value}
    (hid : H[id]? = some (.cells cs e)) (hloc : β[id]? = some loc) (hb : w.heap[loc.block]? = some (.cells c e0 (0, 0))) (hsz : c'.size = c.size)
    (hl : loc.base + cs'.length ≤ loc.size) (hv : ∀ (k : Nat) v, cs'[k]? = some v → ∃ x, c'[loc.base + k]? = some x ∧ R w (Xs E H β) β v x) :
    Step E H β w (H.set id .dead ++ [.cells cs' 0]) (β ++ [loc]) (w.setRow loc.block c') := by
  obtain ⟨hk0, c0, e1, hb0, hs0, _, _⟩ := hR.cells id cs e loc hid hloc
  rw [hb] at hb0
  cases hb0
  have hne : ∀ b, b ≠ loc.block → (w.setRow loc.block c').heap[b]? = w.heap[b]? := fun b h => setRow_other w _ _ _ h
  have hsame : (w.setRow loc.block c').heap[loc.block]? = some (.cells c' e0 (0, 0)) := setRow_heap w _ c c' e0 (0, 0) hb
  have hself : ∀ o, Own H β loc.block o := fun o => ⟨id, loc, hloc, rfl, .inl ⟨cs, e, hid⟩⟩
  have hlen : (H.set id O.dead).length = β.length := by rw [List.length_set]; exact hR.len
  have getO : ∀ {j ob}, (H.set id O.dead ++ [O.cells cs' 0])[j]? = some ob → ob ≠ .dead → (H[j]? = some ob ∧ id ≠ j ∧ j < β.length) ∨ (j = β.length ∧ ob = .cells cs' 0) := by
    intro j ob h hd
    rw [getElem?_concat] at h
    split at h
    · rename_i hlt
      obtain ⟨g1, g2⟩ := getElem?_dead h hd
      exact .inl ⟨g1, g2, by omega⟩
    · split at h
      · rename_i hj
        cases h
        exact .inr ⟨by omega, rfl⟩
      · cases h
  have getL : ∀ {j l}, (β ++ [loc])[j]? = some l → (j < β.length ∧ β[j]? = some l) ∨ (j = β.length ∧ l = loc) := by
    intro j l h
    rw [getElem?_concat] at h
    split at h
    · exact .inl ⟨by assumption, h⟩
    · split at h
      · cases h; exact .inr ⟨by assumption, rfl⟩
      · cases h
  have hown : ∀ b o, Own (H.set id .dead ++ [.cells cs' 0]) (β ++ [loc]) b o → Own H β b o := by
    rintro b o ⟨j, l, h1, rfl, h2⟩
    have key : ∀ ob, (H.set id O.dead ++ [O.cells cs' 0])[j]? = some ob → ob ≠ .dead → (H[j]? = some ob ∧ β[j]? = some l) ∨ l = loc := by
      intro ob hob hd
      rcases getO hob hd with ⟨g1, g2, g3⟩ | ⟨g1, g2⟩
      · rcases getL h1 with ⟨_, g⟩ | ⟨g, _⟩
        · exact .inl ⟨g1, g⟩
        · omega
      · rcases getL h1 with ⟨g, _⟩ | ⟨_, g⟩
        · omega
        · exact .inr g
    rcases h2 with ⟨cs2, e2, h2⟩ | ⟨n2, sz2, h2, h3⟩ | ⟨sh2, vs2, h2⟩
    · rcases key _ h2 (by simp) with ⟨g1, g2⟩ | rfl
      · exact ⟨j, l, g2, rfl, .inl ⟨_, _, g1⟩⟩
      · exact hself o
    · rcases key _ h2 (by simp) with ⟨g1, g2⟩ | rfl
      · exact ⟨j, l, g2, rfl, .inr (.inl ⟨_, _, g1, h3⟩)⟩
      · exact hself o
    · rcases key _ h2 (by simp) with ⟨g1, g2⟩ | rfl
      · exact ⟨j, l, g2, rfl, .inr (.inr ⟨_, _, g1⟩)⟩
      · exact hself o
  have hle : LocLe β (β ++ [loc]) := fun j l h => ⟨l, by
    have : j < β.length := (List.getElem?_eq_some_iff.1 h).1
    rw [List.getElem?_append_left this]; exact h, .inl rfl⟩
  have st : Stab w (Xs E H β) (w.setRow loc.block c') (Xs E (H.set id .dead ++ [.cells cs' 0]) (β ++ [loc])) := by
    refine ⟨fun b o v hx hv => ?_, fun b cs e h => ?_⟩
    · have hbb : b ≠ loc.block := fun h => hx (.inr (h ▸ hself o))
      refine ⟨fun h => hx ?_, by rw [cell_heap (hne b hbb)]; exact hv⟩
      exact h.imp _root_.id (hown b o)
    · by_cases hbb : b = loc.block
      · subst hbb; exact ⟨c', e0, hsame⟩
      · exact ⟨cs, e, by rw [hne b hbb]; exact h⟩
  have oth : ∀ {j l ob}, H[j]? = some ob → ob ≠ .dead → id ≠ j → β[j]? = some l → l.block ≠ loc.block := by
    intro j l ob h1 h2 h3 h4 h5
    exact h3 (hR.disj id j loc l (live_cells hid) ⟨ob, h1, h2⟩ hloc h4 h5.symm)
  refine ⟨⟨by simp [hR.len], fun j cs1 e1 l g1 g2 => ?_, fun j n sz l g1 g2 => ?_, fun j sh vs l g1 g2 => ?_, fun i j l l' hi hj g1 g2 hb => ?_⟩,
    rfl, rfl, rfl, by simp, fun b hb' => ?_, fun b o h => .inl (hown b o h), hle⟩
  · rcases getO g1 (by simp) with ⟨h1, h2, h3⟩ | ⟨h1, h2⟩
    · rcases getL g2 with ⟨_, g2⟩ | ⟨g, _⟩
      · obtain ⟨k, c2, e2, a1, a2, a3, a4⟩ := hR.cells j cs1 e1 l h1 g2
        exact ⟨k, c2, e2, by rw [hne _ (oth h1 (by simp) h2 g2)]; exact a1, a2, a3, fun k v hv => let ⟨x, hx, hr⟩ := a4 k v hv; ⟨x, hx, hr.stab st _ hle⟩⟩
      · omega
    · rcases getL g2 with ⟨g, _⟩ | ⟨_, g2⟩
      · omega
      · cases h2
        subst g2
        exact ⟨hk0, c', e0, hsame, by omega, ⟨hl, fun h => by simp at h⟩, fun k v hv' => let ⟨x, hx, hr⟩ := hv k v hv'; ⟨x, hx, hr.stab st _ hle⟩⟩
  · rcases getO g1 (by simp) with ⟨h1, h2, h3⟩ | ⟨h1, h2⟩
    · rcases getL g2 with ⟨_, g2⟩ | ⟨g, _⟩
      · obtain ⟨k, m, c2, e2, a1, a2⟩ := hR.tok j n sz l h1 g2
        exact ⟨k, m, c2, e2, by rw [hne _ (oth h1 (by simp) h2 g2)]; exact a1, a2⟩
      · omega
    · cases h2
  · rcases getO g1 (by simp) with ⟨h1, h2, h3⟩ | ⟨h1, h2⟩
    · rcases getL g2 with ⟨_, g2⟩ | ⟨g, _⟩
      · obtain ⟨k, kb, ob, xs, a1, a2, a3⟩ := hR.objs j sh vs l h1 g2
        exact ⟨k, kb, ob, xs, by rw [hne _ (oth h1 (by simp) h2 g2)]; exact a1, a2, fun k v hv => let ⟨x, hx, hr⟩ := a3 k v hv; ⟨x, hx, hr.stab st _ hle⟩⟩
      · omega
    · cases h2
  · have cl : ∀ {i l}, live (H.set id .dead ++ [.cells cs' 0]) i → (β ++ [loc])[i]? = some l → (live H i ∧ id ≠ i ∧ β[i]? = some l) ∨ (i = β.length ∧ l = loc) := by
      rintro i l ⟨o, g1, g2⟩ g3
      rcases getO g1 g2 with ⟨h1, h2, h3⟩ | ⟨h1, h2⟩
      · rcases getL g3 with ⟨_, g3⟩ | ⟨g, _⟩
        · exact .inl ⟨⟨o, h1, g2⟩, h2, g3⟩
        · omega
      · rcases getL g3 with ⟨g, _⟩ | ⟨_, g3⟩
        · omega
        · exact .inr ⟨h1, g3⟩
    rcases cl hi g1 with ⟨a1, a2, a3⟩ | ⟨a1, a2⟩ <;> rcases cl hj g2 with ⟨b1, b2, b3⟩ | ⟨b1, b2⟩
    · exact hR.disj i j l l' a1 b1 a3 b3 hb
    · exact absurd (hR.disj id i loc l (live_cells hid) a1 hloc a3 (by rw [hb, b2])) a2
    · exact absurd (hR.disj id j loc l' (live_cells hid) b1 hloc b3 (by rw [← hb, a2])) b2
    · omega
  · by_cases hbb : b = loc.block
    · subst hbb
      exact .inr (.inl ⟨⟨0, hself 0⟩, c, c', e0, hb, hsame, hsz, fun o ho => absurd (hself o) ho⟩)
    · exact .inl (hne b hbb)

/-- The old object closed. -/
theorem Step.close (hR : Rel w (Xs E H β) H β) (id : Nat) : Step E H β w (H.set id .dead) β w := by
  have own : ∀ {b o}, Own (H.set id .dead) β b o → Own H β b o := by
    rintro b o ⟨j, l, h1, h2, h3⟩
    refine ⟨j, l, h1, h2, ?_⟩
    rcases h3 with ⟨cs, e, h3⟩ | ⟨m, sz, h3, h4⟩ | ⟨sh, vs, h3⟩
    · exact .inl ⟨cs, e, (getElem?_dead h3 (by simp)).1⟩
    · exact .inr (.inl ⟨m, sz, (getElem?_dead h3 (by simp)).1, h4⟩)
    · exact .inr (.inr ⟨sh, vs, (getElem?_dead h3 (by simp)).1⟩)
  have st : Stab w (Xs E H β) w (Xs E (H.set id .dead) β) := ⟨fun b o v hx hv => ⟨fun h => hx (h.imp _root_.id own), hv⟩, fun b cs e h => ⟨cs, e, h⟩⟩
  refine ⟨⟨by rw [List.length_set]; exact hR.len, fun j cs e loc h1 h2 => ?_, fun j m sz loc h1 h2 => hR.tok j m sz loc (getElem?_dead h1 (by simp)).1 h2, fun j sh vs loc h1 h2 => ?_, fun i j l l' h1 h2 h3 h4 h5 => ?_⟩, rfl, rfl, rfl, Nat.le_refl _, fun _ _ => .inl rfl,
    fun b o h => .inl (own h), .refl _⟩
  · obtain ⟨a1, c, e', a2, a3, a4, a5⟩ := hR.cells j cs e loc (getElem?_dead h1 (by simp)).1 h2
    exact ⟨a1, c, e', a2, a3, a4, fun k v hv => let ⟨x, hx, hr⟩ := a5 k v hv; ⟨x, hx, hr.stab st β (.refl _)⟩⟩
  · obtain ⟨a1, a2, ob, xs, a3, a4, a5⟩ := hR.objs j sh vs loc (getElem?_dead h1 (by simp)).1 h2
    exact ⟨a1, a2, ob, xs, a3, a4, fun k v hv => let ⟨x, hx, hr⟩ := a5 k v hv; ⟨x, hx, hr.stab st β (.refl _)⟩⟩
  · obtain ⟨o1, g1, g2⟩ := h1
    obtain ⟨o2, g3, g4⟩ := h2
    exact hR.disj i j l l' ⟨o1, (getElem?_dead g1 g2).1, g2⟩ ⟨o2, (getElem?_dead g3 g4).1, g4⟩ h3 h4 h5

/-- The cells of a slice that may be written, as they lie. -/
theorem refCells_R {x : V} {y : Value} {sz n : Nat} {news : List V} (hR : Rel w (Xs E H β) H β) (hx : R w (Xs E H β) β x y) (h : refCells H x = some (sz, n, news)) (h0 : 0 < n) (hone : allOne news = true) :
    ∃ ns : List Value, ns.length = n * sz ∧ news.length = n * sz ∧ (∀ z ∈ ns, z.oneCell' = true) ∧ (∀ (k : Nat) v z, news[k]? = some v → ns[k]? = some z → R w (Xs E H β) β v z) ∧ (∀ w' : World, (Builtin.lenOf y).run P w' = .ok n w') ∧
      ∀ w' : World, w'.heap = w.heap → (Builtin.firstCells sz n y).run P w' = .ok ns.toArray w' := by
  unfold refCells at h
  split at h
  rotate_left
  · cases h
  rename_i id sz' off len
  split at h
  rotate_left
  · cases h
  rename_i cs e hH
  cases hb : Nat.ble (off + len * sz') cs.length
  · rw [hb] at h; cases h
  rw [hb, cond_true] at h
  simp only [Option.some.injEq, Prod.mk.injEq] at h
  obtain ⟨rfl, rfl, rfl⟩ := h
  have hb := Nat.le_of_ble_eq_true hb
  cases hx with
  | ref _ _ _ _ _ loc b o cap hid hk hlen ha hcap =>
  obtain ⟨rfl, rfl⟩ := ha (by omega)
  obtain ⟨_, arr, e', a1, a2, a3, a4⟩ := hR.cells id cs e loc hH hid
  let f : Nat → Value := fun k => (arr[loc.base + off + k]?).getD undef
  have hf : ∀ k, k < len * sz' → ∃ v x, ((cs.drop off).take (len * sz'))[k]? = some v ∧ arr[loc.base + off + k]? = some x ∧ f k = x ∧ R w (Xs E H β) β v x := by
    intro k hk
    have hkc : off + k < cs.length := by omega
    obtain ⟨x, hx, hr⟩ := a4 (off + k) cs[off + k] (by simp [hkc])
    refine ⟨cs[off + k], x, ?_, by rw [Nat.add_assoc]; exact hx, ?_, hr⟩
    · rw [List.getElem?_take, if_pos hk, List.getElem?_drop, List.getElem?_eq_getElem hkc]
    · show (arr[loc.base + off + k]?).getD undef = x
      rw [Nat.add_assoc, hx]
      rfl
  have hnl : ((cs.drop off).take (len * sz')).length = len * sz' := by simp; omega
  refine ⟨(List.range (len * sz')).map f, by simp, hnl, fun z hz => ?_, fun k v z h1 h2 => ?_, fun w' => rfl, fun w' hw => ?_⟩
  · obtain ⟨k, hk, rfl⟩ := List.mem_map.1 hz
    obtain ⟨v, x, g1, g2, g3, g4⟩ := hf k (List.mem_range.1 hk)
    rw [g3]
    exact one_spec g4 (allOne_spec hone v (List.mem_of_getElem? g1))
  · have hk : k < len * sz' := by rw [← hnl]; exact (List.getElem?_eq_some_iff.1 h1).1
    obtain ⟨v', x, g1, g2, g3, g4⟩ := hf k hk
    rw [h1] at g1
    cases g1
    rw [List.getElem?_map, List.getElem?_range hk] at h2
    simp only [Option.map_some, Option.some.injEq] at h2
    rw [← h2, g3]
    exact g4
  · have hcell : ∀ j, j < len * sz' → w'.cell? ((⟨loc.block, loc.base + off, none⟩ : Addr).add j) = some (f j) := by
      intro j hj
      obtain ⟨v, x, g1, g2, g3, g4⟩ := hf j hj
      rw [addr_add, cell_of_row w' _ _ arr e' (0, 0) (by rw [hw]; exact a1), g2, g3]
    have := run_loadCells (P := P) w' ⟨loc.block, loc.base + off, none⟩ (len * sz') f hcell
    show (loadCells ⟨loc.block, loc.base + off, none⟩ (len * sz')).run P w' = _
    rw [this]

/-- Old cells and new ones in a new block. -/
theorem push_ref {cs' : List V} {row rest : List Value} {e : TypeId} (hR : Rel w (Xs E H β) H β) (hlen : row.length = cs'.length) (h : ∀ (k : Nat) v z, cs'[k]? = some v → row[k]? = some z → R w (Xs E H β) β v z) :
    Step E H β w (H ++ [.cells cs' 0]) (β ++ [{ kind := false, block := w.heap.size, base := 0, n := 0, size := row.length + rest.length }]) (w.alloc (.cells (row ++ rest).toArray e)) := by
  refine Step.push hR (row ++ rest).toArray e (.cells cs' 0) _ rfl (by simp) (fun cs e' h' => ?_) (fun n sz h => by cases h)
  simp only [O.cells.injEq] at h'
  obtain ⟨rfl, rfl⟩ := h'
  refine ⟨rfl, ⟨by simp; omega, fun h => by simp at h⟩, fun q v hv => ?_⟩
  have hq : q < row.length := by rw [hlen]; exact (List.getElem?_eq_some_iff.1 hv).1
  exact ⟨row[q], by rw [List.getElem?_toArray, Nat.zero_add, List.getElem?_append_left hq]; simp [hq], h q v _ hv (by simp [hq])⟩

theorem sound_appendR {argTypes : Array TypeId} {ty : TypeId} {s x v : V} {sy y : Value} {H' : List O} (hR : Rel w (Xs E H β) H β)
    (hs : R w (Xs E H β) β s sy) (hx : R w (Xs E H β) β x y) (h : oAppendR P H argTypes s x = some (v, H')) :
    ∃ z w' β', (Builtin.append_ argTypes ty #[sy, y]).run P w = .ok z w' ∧ Step E H β w H' β' w' ∧ R w' (Xs E H' β') β' v z := by
  unfold oAppendR at h
  split at h
  rotate_left
  · cases h
  rename_i st h0
  split at h
  rotate_left
  · cases h
  rename_i i hi
  split at h
  rotate_left
  · cases h
  rename_i e hk
  have hu := slice_spec hi hk
  split at h
  rotate_left
  · cases h
  rename_i j sz n news hj hnews
  cases hb : (Nat.beq sz j.size && (Nat.blt 0 n && (allOne news && (Nat.blt 0 j.bytes && (Nat.beq j.zero.length j.size && appendable P argTypes)))))
  · rw [hb] at h; cases h
  rw [hb, cond_true] at h
  obtain ⟨b1, hb⟩ := Bool.and_eq_true_iff.1 hb
  obtain ⟨bn, hb⟩ := Bool.and_eq_true_iff.1 hb
  obtain ⟨bo, hb⟩ := Bool.and_eq_true_iff.1 hb
  obtain ⟨b2, hb⟩ := Bool.and_eq_true_iff.1 hb
  obtain ⟨b3, b4⟩ := Bool.and_eq_true_iff.1 hb
  have b1 := Nat.eq_of_beq_eq_true b1
  have bn : 0 < n := by simpa [Nat.blt_eq] using bn
  have b2 : 0 < j.bytes := by simpa [Nat.blt_eq] using b2
  have b3 := Nat.eq_of_beq_eq_true b3
  subst b1
  have happ : AppT P argTypes e j := by
    refine ⟨⟨st, h0, hu⟩, hj, ?_, b2, b3⟩
    unfold appendable at b4
    split at b4
    · rename_i t ht
      split at b4
      · rename_i e' hd; exact ⟨t, _, ht, hd, .inl ⟨e', rfl⟩⟩
      · rename_i hd; exact ⟨t, _, ht, hd, .inr rfl⟩
      · cases b4
    · cases b4
  obtain ⟨ns, n1, n2, n3, n4, n5, n6⟩ := refCells_R (P := P) hR hx hnews bn bo
  split at h
  · -- nil
    cases hs
    cases hr : roomy n j.bytes
    · rw [hr] at h; cases h
    rw [hr, cond_true] at h
    simp only [Option.some.injEq, Prod.mk.injEq] at h
    obtain ⟨rfl, rfl⟩ := h
    obtain ⟨rest, hrest, hrun⟩ := run_append_out (ty := ty) happ (olds := []) (base := none) (sLen := 0) (sCap := 0) (n5 w) (n6 w.drew rfl) (by rfl) (by omega) (by rw [Nat.zero_add]; exact roomy_spec hr)
    rw [Nat.zero_add] at hrest hrun
    have hge := grownCap_ge w n 0 e
    have hd := Step.drew hR
    have hp := push_ref (rest := rest) (e := e) hd.rel (cs' := news) (row := ns) (by omega) (fun k v z a b => hd.keepR (n4 k v z a b))
    refine ⟨_, _, _, by simpa using hrun, hd.trans hp, ?_⟩
    refine .ref _ H.length j.size 0 n { kind := false, block := w.drew.heap.size, base := 0, n := 0, size := ns.length + rest.length } w.heap.size 0 (grownCap w n 0 e) (by rw [hR.len]; simp) rfl hge (fun _ => ⟨rfl, rfl⟩) ?_
    simp only [Nat.zero_add, n1, hrest, ← Nat.add_mul]
    rw [show n + (grownCap w n 0 e - n) = grownCap w n 0 e by omega]
    exact Nat.le_refl _
  · rename_i id sz' len
    split at h
    rotate_left
    · cases h
    rename_i cs e1 hH
    cases hr : (Nat.beq sz' j.size && (Nat.ble (len * j.size) cs.length && roomy (len + n) j.bytes))
    · rw [hr] at h; cases h
    rw [hr, cond_true] at h
    simp only [Option.some.injEq, Prod.mk.injEq] at h
    obtain ⟨rfl, rfl⟩ := h
    obtain ⟨c1, hr⟩ := Bool.and_eq_true_iff.1 hr
    obtain ⟨c2, c3⟩ := Bool.and_eq_true_iff.1 hr
    have c1 := Nat.eq_of_beq_eq_true c1
    have c2 := Nat.le_of_ble_eq_true c2
    subst c1
    have hs' := hs
    cases hs with
    | ref _ _ _ _ _ loc b o cap hid hkd hlen ha hcap =>
    obtain ⟨_, arr, e', a1, a2, a3, a4⟩ := hR.cells id cs e1 loc hH hid
    by_cases hin : len + n ≤ cap
    · -- in its own room
      obtain ⟨rfl, rfl⟩ := ha (by omega)
      have hm : (len + n) * j.size ≤ cap * j.size := Nat.mul_le_mul_right _ hin
      rw [Nat.add_mul] at hm
      have hroom : loc.base + len * j.size + ns.length ≤ arr.size := by omega
      have hst := run_storeCells_at P loc.block (loc.base + len * j.size) e' ns 0 arr w a1 (by simpa using hroom) n3
      simp only [Nat.add_zero] at hst
      have hget : ∀ q, (arr.toList.take (loc.base + len * j.size) ++ ns ++ arr.toList.drop (loc.base + len * j.size + ns.length))[q]? =
          if loc.base + len * j.size ≤ q ∧ q < loc.base + len * j.size + ns.length then ns[q - (loc.base + len * j.size)]? else arr.toList[q]? := splice_get _ _ _ (by simpa using hroom)
      have st := Step.regrow hR (cs' := cs.take (len * j.size) ++ news) hH hid a1 (c' := (arr.toList.take (loc.base + len * j.size) ++ ns ++ arr.toList.drop (loc.base + len * j.size + ns.length)).toArray) (by simp; omega)
        (by simp; omega) (fun k v hv => by
          have ht : (cs.take (len * j.size)).length = len * j.size := by simp; omega
          rw [List.getElem?_toArray, hget]
          by_cases hk : k < len * j.size
          · rw [List.getElem?_append_left (by omega), List.getElem?_take, if_pos hk] at hv
            obtain ⟨z, hz, hz'⟩ := a4 k v hv
            exact ⟨z, by rw [if_neg (by omega)]; simpa using hz, hz'⟩
          · rw [List.getElem?_append_right (by omega), ht] at hv
            have hk2 : k - len * j.size < ns.length := by
              have := (List.getElem?_eq_some_iff.1 hv).1
              omega
            refine ⟨ns[k - len * j.size], ?_, n4 _ v _ hv (by simp [hk2])⟩
            rw [if_pos (by omega), show loc.base + k - (loc.base + len * j.size) = k - len * j.size by omega]
            simp [hk2])
      refine ⟨_, _, _, run_append_in (w' := w.setRow loc.block _) happ (n5 w) (n6 w rfl) hin (fun a h => by cases h; rw [addr_add]; exact hst) (fun h => by cases h), st, ?_⟩
      refine .ref _ H.length j.size 0 (len + n) loc loc.block (loc.base + 0) cap (by rw [hR.len]; simp) hkd hin (fun _ => ⟨rfl, rfl⟩) hcap
    · -- in a new block
      let f : Nat → Value := fun k => (arr[loc.base + k]?).getD undef
      have hf : ∀ k, k < len * j.size → ∃ x, arr[loc.base + k]? = some x ∧ f k = x ∧ ∀ v, cs[k]? = some v → R w (Xs E H β) β v x := by
        intro k hk
        have hkc : k < cs.length := by omega
        obtain ⟨x, hx, hr⟩ := a4 k cs[k] (by simp [hkc])
        refine ⟨x, hx, ?_, fun v hv => ?_⟩
        · show (arr[loc.base + k]?).getD undef = x
          rw [hx]; rfl
        · rw [List.getElem?_eq_getElem hkc] at hv
          cases hv
          exact hr
      have hold : (Builtin.firstCells j.size len (.slice (some ⟨b, o, none⟩) len cap)).run P w.drew = .ok ((List.range (len * j.size)).map f).toArray w.drew := by
        show (loadCells ⟨b, o, none⟩ (len * j.size)).run P w.drew = _
        by_cases hl0 : 0 < cap
        · obtain ⟨rfl, rfl⟩ := ha hl0
          have := run_loadCells (P := P) w.drew ⟨loc.block, loc.base + 0, none⟩ (len * j.size) f (fun q hq => by
            obtain ⟨x, g1, g2, _⟩ := hf q hq
            rw [addr_add, Nat.add_zero, cell_of_row w.drew _ _ arr e' (0, 0) a1, g1, g2])
          rw [this]
        · have : len = 0 := by omega
          subst this
          simp [loadCells, loadCellsFrom]
      obtain ⟨rest, hrest, hrun⟩ := run_append_out (ty := ty) happ (olds := (List.range (len * j.size)).map f) (base := some ⟨b, o, none⟩) (sLen := len) (sCap := cap) (n5 w) (n6 w.drew rfl) hold (by omega) (roomy_spec c3)
      have hge := grownCap_ge w (len + n) cap e
      have hd := Step.drew hR
      have hc := Step.close hd.rel id
      have hp := push_ref (rest := rest) (e := e) hc.rel (cs' := cs.take (len * j.size) ++ news) (row := (List.range (len * j.size)).map f ++ ns) (by simp; omega) (fun k v z p q => by
        refine (hd.trans hc).keepR ?_
        have ht : (cs.take (len * j.size)).length = len * j.size := by simp; omega
        by_cases hk : k < len * j.size
        · rw [List.getElem?_append_left (by omega), List.getElem?_take, if_pos hk] at p
          rw [List.getElem?_append_left (by simp; omega), List.getElem?_map, List.getElem?_range hk] at q
          simp only [Option.map_some, Option.some.injEq] at q
          obtain ⟨x, _, g2, g3⟩ := hf k hk
          rw [← q, g2]
          exact g3 v p
        · rw [List.getElem?_append_right (by omega), ht] at p
          rw [List.getElem?_append_right (by simp; omega)] at q
          simp only [List.length_map, List.length_range] at q
          exact n4 _ v z p q)
      refine ⟨_, _, _, hrun, (hd.trans hc).trans hp, ?_⟩
      refine .ref _ H.length j.size 0 (len + n) { kind := false, block := w.drew.heap.size, base := 0, n := 0, size := ((List.range (len * j.size)).map f ++ ns).length + rest.length } w.heap.size 0 (grownCap w (len + n) cap e) (by rw [hR.len]; simp) rfl hge (fun _ => ⟨rfl, rfl⟩) ?_
      simp only [Nat.zero_add, List.length_append, List.length_map, List.length_range, n1, hrest, ← Nat.add_mul]
      rw [show len + n + (grownCap w (len + n) cap e - (len + n)) = grownCap w (len + n) cap e by omega]
      exact Nat.le_refl _
  · cases h
end
end Go.Ab

namespace Go.Ab
section
variable {P : Program} {E : Nat → Nat → Prop} {H : List O} {β : List Loc} {w : World} {X : Nat → Nat → Prop}

theorem flat_rep {α : Type} (z : List α) : ∀ (n : Nat), (List.replicate n z).flatten.length = n * z.length ∧ ∀ k, k < n * z.length → (List.replicate n z).flatten[k]? = z[k % z.length]?
  | 0 => ⟨by simp, fun k hk => by simp at hk⟩
  | n + 1 => by
    obtain ⟨h1, h2⟩ := flat_rep z n
    rw [List.replicate_succ, List.flatten_cons]
    refine ⟨by rw [List.length_append, h1, Nat.add_mul]; omega, fun k hk => ?_⟩
    by_cases hz : k < z.length
    · rw [List.getElem?_append_left hz, Nat.mod_eq_of_lt hz]
    · have hmod : k % z.length = (k - z.length) % z.length := Nat.mod_eq_sub_mod (by omega)
      rw [List.getElem?_append_right (by omega), hmod]
      apply h2
      rw [Nat.add_mul] at hk
      omega

theorem zero_arr {z : Value} {n : Nat} {zs : List V} (hs : z.cells.size = zs.length) (hr : ∀ (k : Nat) v x, zs[k]? = some v → z.cells[k]? = some x → R w X β v x) :
    ((Array.range (n * zs.length)).map (z.cells[· % z.cells.size]!)).size = (List.replicate n zs).flatten.length ∧
    ∀ (k : Nat) v x, (List.replicate n zs).flatten[k]? = some v → ((Array.range (n * zs.length)).map (z.cells[· % z.cells.size]!))[k]? = some x → R w X β v x := by
  obtain ⟨h1, h2⟩ := flat_rep zs n
  refine ⟨by simp [h1], fun k v x hv hx => ?_⟩
  have hk : k < n * zs.length := by rw [← h1]; exact (List.getElem?_eq_some_iff.1 hv).1
  rw [h2 k hk] at hv
  simp only [Array.getElem?_map, Array.getElem?_range, hk, if_true, Option.map_some, Option.some.injEq] at hx
  have hpos : 0 < zs.length := by
    rcases Nat.eq_zero_or_pos zs.length with h0 | h0
    · simp [h0] at hk
    · exact h0
  have hm := Nat.mod_lt k hpos
  refine hr (k % zs.length) v x hv ?_
  rw [← hx, hs]
  have : k % zs.length < z.cells.size := by omega
  simp [this]

theorem sound_buildSlice {ref : Bool} {t : TypeId} {len : Nat} {ps : List (Nat × V)} {qs : Array (Nat × Value)} {v : V} {H' : List O} (hE : ∀ b o, E b o → b < w.heap.size ∧ ¬ Own H β b o)
    (hR : Rel w (Xs E H β) H β) (hlen : ps.length = qs.size)
    (hpq : ∀ (k : Nat) p q, ps[k]? = some p → qs.toList[k]? = some q → p.1 = q.1 ∧ R w (Xs E H β) β p.2 q.2) (h : oBuildSlice P H ref t len ps = some (v, H')) :
    ∃ z w' β', (Instr.buildSlice t len qs).run P w = .ok z w' ∧ Step E H β w H' β' w' ∧ R w' (Xs E H' β') β' v z := by
  unfold oBuildSlice at h
  split at h
  rotate_left
  · cases h
  rename_i i hi
  split at h
  rotate_left
  · cases h
  rename_i e hk
  have hu := slice_spec hi hk
  split at h
  rotate_left
  · cases h
  rename_i j hj
  cases hb : (Nat.ble (len * j.size) 16777216 && Nat.beq j.zero.length j.size)
  · simp [hb] at h
  simp only [hb, cond_true] at h
  obtain ⟨b1, b2⟩ := Bool.and_eq_true_iff.1 hb
  have b1 := Nat.le_of_ble_eq_true b1
  have b2 := Nat.eq_of_beq_eq_true b2
  split at h
  rotate_left
  · cases h
  rename_i es hes
  obtain ⟨z, hz, hzs, hzr⟩ := zero_R (w := w) (X := Xs E H β) (β := β) hj
  obtain ⟨a1, a2⟩ := zero_arr (n := len) hzs hzr
  obtain ⟨arr, g1, g2, g3, g4⟩ := fill_R (w := w) (X := Xs E H β) (β := β) (place := fun i => some (i * j.size, j.size)) (fun i x hx => hx) ps qs.toList _ es _ (by simpa using hlen) hpq a1 a2 hes
  obtain ⟨f1, f2⟩ := flat_rep j.zero len
  have hrun : (Instr.buildSlice t len qs).run P w = .ok (.slice (some ⟨w.heap.size, 0, none⟩) len len) (w.alloc (.cells arr e)) := by
    have hn : ¬ (16777216 < len * j.size) := by omega
    rw [b2] at g1
    by_cases h0 : len * j.size = 0
    · have e0 : ∀ f : Nat → Value, (Array.range (len * j.size)).map f = #[] := by intro f; rw [h0]; simp
      rw [e0] at g1
      simp only [Instr.buildSlice, Sem.run_bind, run_und w hu, Result.andThen_ok, ti_size w hj]
      simp [h0, newRow, show Array.range 0 = #[] from rfl, g1]
    · simp only [Instr.buildSlice, Sem.run_bind, run_und w hu, Result.andThen_ok, ti_size w hj]
      simp [h0, hn, hz, newRow]
      simp [g1]
  cases ref
  · simp only [cond_false] at h
    split at h
    rotate_left
    · cases h
    rename_i c hc
    cases hcs : Nat.beq c.size j.size
    · simp [hcs] at h
    simp only [hcs, cond_true] at h
    have hcs := Nat.eq_of_beq_eq_true hcs
    obtain ⟨l, hl, he⟩ := Option.map_eq_some_iff.1 h
    simp only [Prod.mk.injEq] at he
    obtain ⟨rfl, rfl⟩ := he
    rw [← hcs] at hl
    obtain ⟨l1, l2⟩ := chunk_dec hl
    obtain ⟨st, hr⟩ := fresh_sl (l := l) (arr := arr) (e := e) (fl := .full) (cap := len) (len := len) hE hR l1.symm (by omega) (fun _ => l1.symm) (by
      intro i x k v hx hv
      obtain ⟨u, hu, _, hu'⟩ := l2 i x k v hx hv
      have hk : i * c.size + k < arr.size := by rw [g2]; exact (List.getElem?_eq_some_iff.1 hu).1
      exact ⟨arr[i * c.size + k], by simp [hk], hu' w (Xs E H β) β _ (g4 _ u _ hu (by simp [hk]))⟩)
    exact ⟨_, _, β, hrun, st, hr⟩
  · simp only [cond_true, Option.some.injEq, Prod.mk.injEq] at h
    obtain ⟨rfl, rfl⟩ := h
    have st := Step.push hR arr e (.cells es (e + 4294967296)) { kind := false, block := w.heap.size, base := 0, n := 0, size := arr.size } rfl rfl
      (fun cs e' h => by
        simp only [O.cells.injEq] at h
        obtain ⟨rfl, rfl⟩ := h
        refine ⟨rfl, by simp [g2], fun k v hv => ?_⟩
        have hk : k < arr.size := by rw [g2]; exact (List.getElem?_eq_some_iff.1 hv).1
        exact ⟨arr[k], by simp [hk], g4 k v _ hv (by simp [hk])⟩) (fun n sz h => by cases h)
    refine ⟨_, _, _, hrun, st, ?_⟩
    refine .ref _ H.length j.size 0 len { kind := false, block := w.heap.size, base := 0, n := 0, size := arr.size } w.heap.size 0 len (by rw [hR.len]; simp) rfl (Nat.le_refl _) (fun _ => ⟨rfl, rfl⟩) ?_
    have : es.length = len * j.size := by rw [g3, f1, b2]
    simp only [Nat.zero_add]
    omega

theorem sound_makeSlice {ref : Bool} {t : TypeId} {l c v : V} {ly cy : Value} {H' : List O} (hE : ∀ b o, E b o → b < w.heap.size ∧ ¬ Own H β b o)
    (hR : Rel w (Xs E H β) H β) (hl : R w (Xs E H β) β l ly) (hc : R w (Xs E H β) β c cy) (h : (oMakeSlice P H ref t l c).run = some (v, H')) :
    ∃ z w' β', (Instr.makeSlice t ly cy).run P w = .ok z w' ∧ Step E H β w H' β' w' ∧ R w' (Xs E H' β') β' v z := by
  unfold oMakeSlice at h
  split at h
  rotate_left
  · cases h
  rename_i i k1 l k2 c hi
  cases hl
  cases hc
  split at h
  rotate_left
  · cases h
  rename_i e hk
  have hu := slice_spec hi hk
  split at h
  rotate_left
  · cases h
  rename_i j hj
  obtain ⟨hreq, h⟩ := req_run h
  cases hb : (Nat.beq j.zero.length j.size && Nat.blt 0 j.bytes)
  · simp [hb, Tree.run] at h
  simp only [hb, cond_true] at h
  obtain ⟨b1, b2⟩ := Bool.and_eq_true_iff.1 hb
  have b1 := Nat.eq_of_beq_eq_true b1
  have b2 : 0 < j.bytes := by simpa [Nat.blt_eq] using b2
  simp only [Bool.and_eq_true, decide_eq_true_eq] at hreq
  obtain ⟨⟨r1, r2⟩, r3⟩ := hreq
  have r3 := roomy_spec r3
  obtain ⟨ti1, d1, i1, i2, i3, i4, ⟨z, z1, z2⟩, _⟩ := (ti_spec hj).info
  have hcb : (ti1.bytes : Int) * c ≤ 281474976710656 := by
    have e1 : c = (c.toNat : Int) := by omega
    rw [e1, i4]
    have : ((j.bytes * c.toNat : Nat) : Int) ≤ 281474976710656 := by rw [Nat.mul_comm]; omega
    simpa using this
  have hc63 : c ≤ 9223372036854775807 := by
    have : c.toNat * 1 ≤ c.toNat * j.bytes := Nat.mul_le_mul_left _ b2
    omega
  have hrun := run_make (P := P) w t e ti1 z hu i1 z1 k1 k2 l c r1 r2 hcb hc63
  rw [i3] at hrun
  have hz : z.cells.size = j.zero.length := by simp [z2]
  obtain ⟨a1, a2⟩ := zero_arr (w := w) (X := Xs E H β) (β := β) (z := z) (n := c.toNat) (zs := j.zero) hz (by
    intro k v x hv hx
    rw [z2] at hv
    have : z.cells.toList[k]? = some x := by simpa using hx
    simp only [List.getElem?_map, this, Option.map_some, Option.some.injEq] at hv
    subst hv
    exact ofVal1_R _ _ _ _)
  rw [b1] at a1 a2
  obtain ⟨f1, f2⟩ := flat_rep j.zero c.toNat
  obtain ⟨f3, f4⟩ := flat_rep j.zero l.toNat
  have hlc : l.toNat ≤ c.toNat := by omega
  have hmul : l.toNat * j.zero.length ≤ c.toNat * j.zero.length := Nat.mul_le_mul_right _ hlc
  have hget : ∀ (k : Nat) u, (List.replicate l.toNat j.zero).flatten[k]? = some u → ∃ x, (madeCells z.cells (c.toNat * j.size))[k]? = some x ∧ R w (Xs E H β) β u x := by
    intro k u hu
    have hk : k < l.toNat * j.zero.length := by rw [← f3]; exact (List.getElem?_eq_some_iff.1 hu).1
    rw [f4 k hk, ← f2 k (by omega)] at hu
    have hk' : k < (madeCells z.cells (c.toNat * j.size)).size := by rw [size_madeCells, ← b1]; omega
    exact ⟨_, by rw [Array.getElem?_eq_getElem hk'], a2 k u _ hu (by show (madeCells z.cells (c.toNat * j.size))[k]? = _; rw [Array.getElem?_eq_getElem hk'])⟩
  cases ref
  · simp only [cond_false] at h
    split at h
    rotate_left
    · cases h
    rename_i d hd
    cases hds : Nat.beq d.size j.size
    · simp [hds, Tree.run] at h
    simp only [hds, cond_true] at h
    have hds := Nat.eq_of_beq_eq_true hds
    split at h
    rotate_left
    · cases h
    rename_i x0 hx0
    simp only [Tree.run, Option.some.injEq, Prod.mk.injEq] at h
    obtain ⟨rfl, rfl⟩ := h
    obtain ⟨q1, q2⟩ := dec1_spec hx0
    have st := Step.push hR (madeCells z.cells (c.toNat * j.size)) e (.tok l.toNat d.size) { kind := true, block := w.heap.size, base := 0, n := l.toNat, size := c.toNat * j.size } rfl (size_madeCells _ _)
      (fun cs e h => by cases h) (fun n sz h => by cases h; exact ⟨rfl, rfl⟩)
    refine ⟨_, _, _, hrun, st, mk_gro (loc := { kind := true, block := w.heap.size, base := 0, n := l.toNat, size := c.toNat * j.size }) (by simp) (by rw [hR.len]; simp) rfl (by simp) ?_ (by simpa using hlc) ?_⟩
    · intro _
      refine ⟨rfl, rfl, ?_⟩
      simp only [hds]; omega
    · intro i' x k u hx hv
      have hi : i' < l.toNat := by have := (List.getElem?_eq_some_iff.1 hx).1; simpa using this
      have hlt := idx_lt hi hv
      rw [List.getElem?_replicate, if_pos hi] at hx
      simp only [Option.some.injEq] at hx
      subst hx
      obtain ⟨u0, hu0, _, hu0'⟩ := q2 k u hv
      have hk : k < d.size := by have := (List.getElem?_eq_some_iff.1 hv).1; rwa [enc_size] at this
      have hflat : (List.replicate l.toNat j.zero).flatten[i' * d.size + k]? = some u0 := by
        rw [f4 _ (by rw [q1]; exact hlt), q1, Nat.add_comm, Nat.add_mul_mod_self_right, Nat.mod_eq_of_lt hk]
        exact hu0
      obtain ⟨x, hx, hr⟩ := hget _ _ hflat
      refine ⟨?_, x, ?_, (hu0' w _ _ x hr).stab st.stab _ (.nil _)⟩
      · rintro (g | ⟨id, lo, g1, g2, g3⟩)
        · exact absurd (hE _ _ g).1 (Nat.lt_irrefl _)
        · rw [getElem?_concat] at g1
          by_cases hid : id < β.length
          · simp only [hid, if_true] at g1
            have hid' : id < H.length := by rw [hR.len]; exact hid
            rcases g3 with ⟨cs, e, g3⟩ | ⟨n, sz, g3, g4⟩ | ⟨sh, vs, g3⟩
            · rw [List.getElem?_append_left hid'] at g3
              have := live_lt hR (live_cells g3) g1
              omega
            · rw [List.getElem?_append_left hid'] at g3
              have := live_lt hR (live_tok g3) g1
              omega
            · rw [List.getElem?_append_left hid'] at g3
              have := live_lt hR (live_obj g3) g1
              omega
          · simp only [hid, if_false] at g1
            split at g1
            · rename_i hid2
              rcases g3 with ⟨cs, e, g3⟩ | ⟨n, sz, g3, g4⟩ | ⟨sh, vs, g3⟩
              · rw [hid2, ← hR.len] at g3; simp at g3
              · rw [hid2, ← hR.len] at g3
                simp at g3
                obtain ⟨rfl, rfl⟩ := g3
                simp only [Option.some.injEq] at g1
                subst g1
                simp at g4
                omega
              · rw [hid2, ← hR.len] at g3; simp at g3
            · cases g1
      · rw [World.cell?_alloc_new]
        simpa using hx
  · simp only [cond_true, Tree.run, Option.some.injEq, Prod.mk.injEq] at h
    obtain ⟨rfl, rfl⟩ := h
    have st := Step.push hR (madeCells z.cells (c.toNat * j.size)) e (.cells (List.replicate l.toNat j.zero).flatten 0) { kind := false, block := w.heap.size, base := 0, n := 0, size := c.toNat * j.size } rfl (size_madeCells _ _)
      (fun cs e' h => by
        simp only [O.cells.injEq] at h
        obtain ⟨rfl, rfl⟩ := h
        refine ⟨rfl, ⟨by rw [f3]; simp only [Nat.zero_add]; rw [← b1]; exact hmul, fun h => absurd h (by decide)⟩, fun k v hv => ?_⟩
        obtain ⟨x, hx, hr⟩ := hget k v hv
        exact ⟨x, by simpa using hx, hr⟩) (fun n sz h => by cases h)
    refine ⟨_, _, _, hrun, st, ?_⟩
    exact .ref _ H.length j.size 0 l.toNat { kind := false, block := w.heap.size, base := 0, n := 0, size := c.toNat * j.size } w.heap.size 0 c.toNat (by rw [hR.len]; simp) rfl hlc (fun _ => ⟨rfl, rfl⟩) (by simp)

theorem sound_makePage {t : TypeId} {l c v : V} {ly cy : Value} {H' : List O}
    (hR : Rel w (Xs E H β) H β) (hl : R w (Xs E H β) β l ly) (hc : R w (Xs E H β) β c cy) (h : (oMakePage P H t l c).run = some (v, H')) :
    ∃ z w' β', (Instr.makeSlice t ly cy).run P w = .ok z w' ∧ Step E H β w H' β' w' ∧ R w' (Xs E H' β') β' v z := by
  unfold oMakePage at h
  split at h
  rotate_left
  · cases h
  rename_i i k1 l k2 c hi
  cases hl
  cases hc
  split at h
  rotate_left
  · cases h
  rename_i e hk
  have hu := slice_spec hi hk
  split at h
  rotate_left
  · cases h
  rename_i j k hj hik
  obtain ⟨j', hj', _, hjs⟩ := intOf_spec hik
  rw [hj] at hj'
  cases hj'
  obtain ⟨hreq, h⟩ := req_run h
  cases hb : (isZeroK k j.zero && Nat.blt 0 j.bytes)
  · simp [hb, Tree.run] at h
  simp only [hb, cond_true] at h
  obtain ⟨b1, b2⟩ := Bool.and_eq_true_iff.1 hb
  have b2 : 0 < j.bytes := by simpa [Nat.blt_eq] using b2
  have b1 : j.zero = [.int k 0] := by
    unfold isZeroK at b1
    split at b1
    · rename_i l n heq
      simp only [Bool.and_eq_true, decide_eq_true_eq, beq_iff_eq] at b1
      obtain ⟨rfl, rfl⟩ := b1
      exact heq
    · cases b1
  simp only [Bool.and_eq_true, decide_eq_true_eq] at hreq
  obtain ⟨⟨r1, r2⟩, r3⟩ := hreq
  have r3 := roomy_spec r3
  obtain ⟨ti1, d1, i1, i2, i3, i4, ⟨z, z1, z2⟩, _⟩ := (ti_spec hj).info
  have hcb : (ti1.bytes : Int) * c ≤ 281474976710656 := by
    have e1 : c = (c.toNat : Int) := by omega
    rw [e1, i4]
    have : ((j.bytes * c.toNat : Nat) : Int) ≤ 281474976710656 := by rw [Nat.mul_comm]; omega
    simpa using this
  have hc63 : c ≤ 9223372036854775807 := by
    have : c.toNat * 1 ≤ c.toNat * j.bytes := Nat.mul_le_mul_left _ b2
    omega
  have hrun := run_make (P := P) w t e ti1 z hu i1 z1 k1 k2 l c r1 r2 hcb hc63
  rw [i3, hjs, Nat.mul_one] at hrun
  have hz : z.cells.size = j.zero.length := by simp [z2]
  obtain ⟨a1, a2⟩ := zero_arr (w := w) (X := Xs E H β) (β := β) (z := z) (n := c.toNat) (zs := j.zero) hz (by
    intro k v x hv hx
    rw [z2] at hv
    have : z.cells.toList[k]? = some x := by simpa using hx
    simp only [List.getElem?_map, this, Option.map_some, Option.some.injEq] at hv
    subst hv
    exact ofVal1_R _ _ _ _)
  simp only [Tree.run, Option.some.injEq, Prod.mk.injEq] at h
  obtain ⟨rfl, rfl⟩ := h
  have harr : madeCells z.cells c.toNat = (([] : List Value) ++ (List.replicate c.toNat (0 : Int)).map (Value.int k)).toArray := by
    rw [b1] at a1 a2
    simp only [List.length_cons, List.length_nil, Nat.zero_add, Nat.mul_one] at a1 a2
    have hsz : (madeCells z.cells c.toNat).size = c.toNat := size_madeCells _ _
    apply Array.ext_getElem?
    intro q
    have er : ((List.replicate c.toNat (Value.int k 0)).toArray)[q]? = if q < c.toNat then some (Value.int k 0) else none := by rw [List.getElem?_toArray, List.getElem?_replicate]
    rw [List.nil_append, List.map_replicate, er]
    by_cases hq : q < c.toNat
    · rw [if_pos hq]
      have hq' : q < (madeCells z.cells c.toNat).size := by omega
      have hx : (madeCells z.cells c.toNat)[q]? = some (madeCells z.cells c.toNat)[q] := Array.getElem?_eq_getElem hq'
      have hv : ((List.replicate c.toNat [V.int k 0]).flatten)[q]? = some (.int k 0) := by
        have : (List.replicate c.toNat [V.int k 0]).flatten = List.replicate c.toNat (V.int k 0) := by
          generalize c.toNat = m
          induction m with
          | zero => rfl
          | succ m ih => rw [List.replicate_succ, List.replicate_succ, List.flatten_cons, ih]; rfl
        rw [this, List.getElem?_replicate, if_pos hq]
      have := a2 q (.int k 0) (madeCells z.cells c.toNat)[q] hv hx
      rw [hx]
      generalize (madeCells z.cells c.toNat)[q] = y at this
      cases this
      rfl
    · rw [if_neg hq]
      exact Array.getElem?_eq_none (by omega)
  have st := Step.pushObjD hR (.cells (madeCells z.cells c.toNat) e (0, 0)) (sh := .page 0 k (List.replicate c.toNat 0)) (xs := []) (vs := []) (loc := { kind := false, block := w.heap.size, base := 0, n := 0, size := c.toNat })
    ⟨rfl, e, by rw [harr]⟩ (fun q v hv => by simp at hv) rfl rfl rfl
  refine ⟨_, _, _, hrun, st, ?_⟩
  refine .ref _ H.length 1 0 l.toNat { kind := false, block := w.heap.size, base := 0, n := 0, size := c.toNat } w.heap.size 0 c.toNat (by rw [hR.len]; simp) rfl (by omega) (fun _ => ⟨rfl, rfl⟩) (by simp)
end
end Go.Ab

namespace Go.Ab
section
variable {P : Program} {E : Nat → Nat → Prop} {H : List O} {β : List Loc} {w : World} {X : Nat → Nat → Prop}

/-- Bounds of a slice expression, and what the model has. -/
def optR (w : World) (X : Nat → Nat → Prop) (β : List Loc) : Option V → Option Value → Prop
  | none, none => True
  | some v, some y => R w X β v y
  | _, _ => False

theorem run_bounds {isS : Bool} {len cap : Nat} {lo hi : Option V} {loy hiy : Option Value} {l h : Int} (hlo : optR w X β lo loy) (hhi : optR w X β hi hiy)
    (bl : bound? lo 0 = some l) (bh : bound? hi len = some h) (h0 : 0 ≤ l) (h1 : l ≤ h) (h2 : h ≤ cap) (_h3 : len ≤ cap) :
    (Instr.sliceBounds isS len cap loy hiy none).run P w = .ok (l.toNat, h.toNat, cap) w := by
  have e1 : ((h.toNat : Nat) : Int) = h := by omega
  unfold Instr.sliceBounds
  cases hi with
  | none =>
    cases hiy with
    | some _ => cases hhi
    | none =>
      simp only [bound?, Option.some.injEq] at bh
      subst bh
      cases lo with
      | none =>
        cases loy with
        | some _ => cases hlo
        | none => simp only [bound?, Option.some.injEq] at bl; subst bl; simp
      | some v =>
        cases loy with
        | none => cases hlo
        | some y =>
          cases v <;> simp only [bound?, reduceCtorEq, Option.some.injEq] at bl
          subst bl
          cases hlo
          simp [Instr.sliceBound, asIntOf, h0, h1]
  | some hv =>
    cases hiy with
    | none => cases hhi
    | some hy =>
      cases hv <;> simp only [bound?, reduceCtorEq, Option.some.injEq] at bh
      rename_i kh nh
      subst bh
      cases hhi
      have h00 : 0 ≤ nh := by omega
      cases lo with
      | none =>
        cases loy with
        | some _ => cases hlo
        | none => simp only [bound?, Option.some.injEq] at bl; subst bl; simp [Instr.sliceBound, asIntOf, h00, h2]
      | some v =>
        cases loy with
        | none => cases hlo
        | some y =>
          cases v <;> simp only [bound?, reduceCtorEq, Option.some.injEq] at bl
          subst bl
          cases hlo
          simp [Instr.sliceBound, asIntOf, h0, h1, h00, h2, e1]

theorem sub_get {α : Type} (l : List α) (lo hi i : Nat) : (sub l lo hi)[i]? = if lo + i < hi then l[lo + i]? else none := by
  unfold sub
  rw [List.getElem?_drop, List.getElem?_take]

theorem sub_length {α : Type} (l : List α) (lo hi : Nat) (h : hi ≤ l.length) : (sub l lo hi).length = hi - lo := by
  unfold sub; simp; omega

/-- A piece of fixed cells. -/
theorem sl_piece {c : EC} {all : List c.ty} {b o cap l h : Nat} {fl : Fl} (hl : l ≤ h) (hh : h ≤ all.length) (hcap : all.length ≤ cap) (hfull : fl = .full → cap = all.length)
    (hrw : fl.fixed = false → ∃ (cs : Array Value) (e : TypeId), w.heap[b]? = some (.cells cs e (0, 0)))
    (hc : ∀ (i : Nat) x (k : Nat) v, all[i]? = some x → (enc c x)[k]? = some v → ¬ X b (o + i * c.size + k) ∧ ∃ y, w.cell? ⟨b, o + i * c.size + k, none⟩ = some y ∧ R w X [] v y) :
    R w X β (.sl c (sub all l h) (all.drop h) fl) (.slice (if cap = l then some ⟨b, o, none⟩ else (some (⟨b, o, none⟩ : Addr)).map (·.add (l * c.size))) (h - l) (cap - l)) := by
  have hlen := sub_length all l h hh
  have hshift : ∀ (i : Nat) x (k : Nat) v, (sub all l h ++ all.drop h)[i]? = some x → (enc c x)[k]? = some v →
      ¬ X b (o + l * c.size + i * c.size + k) ∧ ∃ y, w.cell? ⟨b, o + l * c.size + i * c.size + k, none⟩ = some y ∧ R w X [] v y := by
    intro i x k v hx hv
    have hx' : all[l + i]? = some x := by
      by_cases hi : i < h - l
      · rw [List.getElem?_append_left (by rw [hlen]; exact hi), sub_get, if_pos (by omega)] at hx
        exact hx
      · rw [List.getElem?_append_right (by rw [hlen]; omega), hlen, List.getElem?_drop] at hx
        rw [← hx]; congr 1; omega
    have := hc (l + i) x k v hx' hv
    rwa [Nat.add_mul, show o + (l * c.size + i * c.size) + k = o + l * c.size + i * c.size + k from by omega] at this
  split
  · rename_i hcl
    have h1 : sub all l h = [] := List.length_eq_zero_iff.1 (by rw [hlen]; omega)
    have h2 : all.drop h = [] := List.length_eq_zero_iff.1 (by simp; omega)
    rw [h1, h2]
    exact mk_sl (by simp; omega) (by simp) (fun e => by have := hfull e; simp; omega) hrw (by simp)
  · simp only [Option.map_some, addr_add]
    exact mk_sl hlen.symm (by rw [hlen]; simp; omega) (fun e => by have := hfull e; rw [hlen]; simp; omega) hrw hshift

theorem run_slice_sl {t e : TypeId} {a : Option Addr} {len cap size : Nat} {loy hiy : Option Value} {l h : Nat} (hu : P.underlying t = some (.slice e)) (hs : (sizeOf e).run P w = .ok size w)
    (hb : (Instr.sliceBounds true len cap loy hiy none).run P w = .ok (l, h, cap) w) :
    (Instr.sliceAt t (.slice a len cap) loy hiy none).run P w = .ok (.slice (if cap = l then a else a.map (·.add (l * size))) (h - l) (cap - l)) w := by
  simp [Instr.sliceAt, Instr.slice, run_und w hu, hb, hs]

theorem run_slice_str {t : TypeId} {s : ByteArray} {loy hiy : Option Value} {l h : Nat} (hu : P.underlying t = some .string)
    (hb : (Instr.sliceBounds false s.size s.size loy hiy none).run P w = .ok (l, h, s.size) w) :
    (Instr.sliceAt t (.string s) loy hiy none).run P w = .ok (.string (s.extract l h)) w := by
  simp [Instr.sliceAt, Instr.slice, run_und w hu, hb]

theorem extract_sub (s : List UInt8) (l h : Nat) : (ByteArray.mk s.toArray).extract l h = ⟨(sub s l h).toArray⟩ := by
  apply ByteArray.ext
  apply Array.ext'
  simp [sub, List.extract_eq_take_drop, List.drop_take]

theorem sound_slice {t : TypeId} {x v : V} {y : Value} {lo hi : Option V} {loy hiy : Option Value} (_hR : Rel w X H β) (hx : R w X β x y) (hlo : optR w X β lo loy) (hhi : optR w X β hi hiy)
    (h : (oSlice P H t x lo hi).run = some v) : ∃ z, (Instr.sliceAt t y loy hiy none).run P w = .ok z w ∧ R w X β v z := by
  unfold oSlice at h
  split at h
  · rename_i s
    split at h
    rotate_left
    · cases h
    rename_i h1 l1 hu bh bl
    obtain ⟨hreq, h⟩ := req_run h
    simp only [Tree.run, Option.some.injEq] at h
    subst h
    simp only [Bool.and_eq_true, decide_eq_true_eq] at hreq
    obtain ⟨⟨r1, r2⟩, r3⟩ := hreq
    cases hx
    have hsz : (ByteArray.mk s.toArray).size = s.length := by simp [ByteArray.size]
    have hb := run_bounds (P := P) (isS := false) (len := s.length) (cap := s.length) hlo hhi bl bh r1 r2 r3 (Nat.le_refl _)
    refine ⟨_, run_slice_str hu (by rw [hsz]; exact hb), ?_⟩
    rw [extract_sub]
    exact .str _ _
  · split at h
    rotate_left
    · cases h
    rename_i i hi'
    split at h
    rotate_left
    · cases h
    rename_i e hk
    have hu := slice_spec hi' hk
    split at h
    rotate_left
    · cases h
    rename_i j hj
    split at h
    · rename_i c ls spare fl _
      rcases sl_get hx with ⟨rfl, rfl, rfl, rfl⟩ | ⟨b, o, cap, rfl, hcap, hfull, hrw, hh⟩
      · split at h
        · rename_i h1 l1 bl bh
          obtain ⟨hreq, g⟩ := req_run h
          simp only [Bool.and_eq_true, decide_eq_true_eq] at hreq
          obtain ⟨r1, r2⟩ := hreq
          have bh' : h1 = 0 := by simpa [bound?] using bh.symm
          subst bh'
          cases hcs : Nat.beq c.size j.size
          · rw [hcs] at g; simp [Tree.run] at g
          rw [hcs] at g
          simp only [cond_true, Tree.run, Option.some.injEq] at g
          subst g
          have l0 : l1 = 0 := by omega
          subst l0
          have hb := run_bounds (P := P) (isS := true) (len := 0) (cap := 0) hlo hhi bl bh (by omega) (by omega) (by omega) (by omega)
          exact ⟨_, run_slice_sl hu (ti_size w hj) hb, .nil _ _⟩
        · rename_i h1 l1 bl _ bh
          obtain ⟨hreq, h⟩ := req_run h
          simp only [Bool.and_eq_true, decide_eq_true_eq] at hreq
          obtain ⟨⟨r1, r2⟩, r3⟩ := hreq
          cases hcs : Nat.beq c.size j.size
          · simp [hcs, Tree.run] at h
          simp only [hcs, cond_true, Tree.run, Option.some.injEq] at h
          subst h
          have r3' : h1 ≤ 0 := by simpa using r3
          have h0 : h1 = 0 := by omega
          have l0 : l1 = 0 := by omega
          subst h0
          subst l0
          have hb := run_bounds (P := P) (isS := true) (len := 0) (cap := 0) hlo hhi bl bh (by omega) (by omega) (by omega) (by omega)
          exact ⟨_, run_slice_sl hu (ti_size w hj) hb, .nil _ _⟩
        · cases h
      split at h
      · rename_i h1 l1 bl bh
        obtain ⟨hreq, g⟩ := req_run h
        simp only [Bool.and_eq_true, decide_eq_true_eq] at hreq
        obtain ⟨r1, r2⟩ := hreq
        have bh' : h1 = ls.length := by simpa [bound?] using bh.symm
        subst bh'
        cases hcs : Nat.beq c.size j.size
        · rw [hcs] at g; simp [Tree.run] at g
        rw [hcs] at g
        simp only [cond_true, Tree.run, Option.some.injEq] at g
        subst g
        have hcs := Nat.eq_of_beq_eq_true hcs
        have hb := run_bounds (P := P) (isS := true) (len := ls.length) (cap := cap) hlo hhi bl bh r1 r2 (by omega) (by omega)
        refine ⟨_, run_slice_sl hu (ti_size w hj) hb, ?_⟩
        have := sl_piece (w := w) (X := X) (β := β) (all := ls ++ spare) (b := b) (o := o) (cap := cap) (l := l1.toNat) (h := ls.length) (fl := fl) (by omega) (by simp) (by simpa using hcap) (by simpa using hfull) hrw hh
        rw [hcs] at this
        simpa [sub] using this
      · rename_i h1 l1 bl _ bh
        obtain ⟨hreq, h⟩ := req_run h
        simp only [Bool.and_eq_true, decide_eq_true_eq] at hreq
        obtain ⟨⟨r1, r2⟩, r3⟩ := hreq
        cases hcs : Nat.beq c.size j.size
        · simp [hcs, Tree.run] at h
        simp only [hcs, cond_true, Tree.run, Option.some.injEq] at h
        subst h
        have hcs := Nat.eq_of_beq_eq_true hcs
        have hb := run_bounds (P := P) (isS := true) (len := ls.length) (cap := cap) hlo hhi bl bh r1 r2 (by omega) (by omega)
        refine ⟨_, run_slice_sl hu (ti_size w hj) hb, ?_⟩
        have := sl_piece (w := w) (X := X) (β := β) (all := ls ++ spare) (b := b) (o := o) (cap := cap) (l := l1.toNat) (h := h1.toNat) (fl := fl) (by omega) (by simp; omega) (by simpa using hcap) (by simpa using hfull) hrw hh
        rw [hcs] at this
        exact this
      · cases h
    · rename_i id c ls _
      obtain ⟨b, o, cap, loc, rfl, _, _, _, _, hcap, hh⟩ := gro_get hx
      split at h
      · rename_i h1 l1 bh bl
        obtain ⟨hreq, h⟩ := req_run h
        simp only [Bool.and_eq_true, decide_eq_true_eq] at hreq
        obtain ⟨⟨r1, r2⟩, r3⟩ := hreq
        cases hcs : Nat.beq c.size j.size
        · simp [hcs, Tree.run] at h
        simp only [hcs, cond_true, Tree.run, Option.some.injEq] at h
        subst h
        have hcs := Nat.eq_of_beq_eq_true hcs
        have hb := run_bounds (P := P) (isS := true) (len := ls.length) (cap := cap) hlo hhi bl bh r1 r2 (by omega) (by omega)
        refine ⟨_, run_slice_sl hu (ti_size w hj) hb, ?_⟩
        have := sl_piece (w := w) (X := X) (β := β) (all := ls) (b := b) (o := o) (cap := cap) (l := l1.toNat) (h := h1.toNat) (fl := .ro) (by omega) (by omega) hcap (fun h => by cases h) (fun h => by cases h) hh
        rw [hcs] at this
        exact this
      · cases h
    · rename_i id sz off len _
      split at h
      rotate_left
      · cases h
      rename_i cs e' hH
      split at h
      rotate_left
      · cases h
      rename_i h1 l1 bh bl
      obtain ⟨hreq, h⟩ := req_run h
      simp only [Bool.and_eq_true, decide_eq_true_eq] at hreq
      obtain ⟨⟨r1, r2⟩, r3⟩ := hreq
      cases hcs : Nat.beq sz j.size
      · simp [hcs, Tree.run] at h
      simp only [hcs, cond_true, Tree.run, Option.some.injEq] at h
      subst h
      have hcs := Nat.eq_of_beq_eq_true hcs
      subst hcs
      cases hx with
      | ref _ _ _ _ _ loc b o cap hid hkd hlen ha hcap =>
        have hb := run_bounds (P := P) (isS := true) (len := len) (cap := cap) hlo hhi bl bh r1 r2 (by omega) hlen
        refine ⟨_, run_slice_sl hu (ti_size w hj) hb, ?_⟩
        have hm : l1.toNat * j.size + (cap - l1.toNat) * j.size = cap * j.size := by rw [← Nat.add_mul]; congr 1; omega
        split
        · rename_i hcl
          exact .ref β id j.size _ _ loc b o _ hid hkd (by omega) (fun h => by omega) (by omega)
        · obtain ⟨rfl, rfl⟩ := ha (by omega)
          simp only [Option.map_some, addr_add]
          exact .ref β id j.size _ _ loc _ _ _ hid hkd (by omega) (fun _ => ⟨rfl, by omega⟩) (by omega)
    · split at h
      rotate_left
      · cases h
      rename_i h1 l1 bh bl
      obtain ⟨hreq, h⟩ := req_run h
      simp only [Tree.run, Option.some.injEq] at h
      subst h
      simp only [Bool.and_eq_true, decide_eq_true_eq] at hreq
      obtain ⟨rfl, rfl⟩ := hreq
      cases hx
      have hb := run_bounds (P := P) (isS := true) (len := 0) (cap := 0) hlo hhi bl bh (by omega) (by omega) (by omega) (by omega)
      refine ⟨_, run_slice_sl hu (ti_size w hj) hb, ?_⟩
      exact .val _ _
    · cases h

end
end Go.Ab
