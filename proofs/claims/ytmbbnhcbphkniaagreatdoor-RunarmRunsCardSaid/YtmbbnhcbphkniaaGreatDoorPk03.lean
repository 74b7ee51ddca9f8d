/-
  The engine, part D: the steps that the heap makes. Conditions: none.
-/
import Derived.Test.YtmbbnhcbphkniaaGreatDoorPk02
set_option linter.unusedVariables false
set_option linter.unusedSimpArgs false
namespace Go.Ab
section
variable {E : Nat → Nat → Prop} {H : List O} {β : List Loc} {w : World}

theorem heap_lt {w : World} {b : Nat} {o : Obj} (h : w.heap[b]? = some o) : b < w.heap.size := by
  rcases Nat.lt_or_ge b w.heap.size with h' | h'
  · exact h'
  · simp [Array.getElem?_eq_none h'] at h

theorem cell_heap {w w' : World} {b : Nat} (h : w'.heap[b]? = w.heap[b]?) (o : Nat) : w'.cell? ⟨b, o, none⟩ = w.cell? ⟨b, o, none⟩ := by
  unfold World.cell?; rw [h]

/-- Nothing but draws. -/
theorem Step.heap_same {w' : World} (hR : Rel w (Xs E H β) H β) (hh : w'.heap = w.heap) (h1 : w'.os = w.os) (h2 : w'.tape = w.tape) (h3 : w'.output = w.output) : Step E H β w H β w' := by
  have st : Stab w (Xs E H β) w' (Xs E H β) := ⟨fun b o v hx hv => ⟨hx, (cell_heap (w := w) (w' := w') (by rw [hh]) o).trans hv⟩, fun b cs e h => ⟨cs, e, by rw [hh]; exact h⟩⟩
  refine ⟨⟨hR.len, fun id cs e loc g1 g2 => ?_, fun id n sz loc g1 g2 => ?_, fun id sh vs loc g1 g2 => ?_, hR.disj⟩, h1, h2, h3, by rw [hh]; exact Nat.le_refl _, fun b _ => .inl (by rw [hh]), fun b o h => .inl h, .refl _⟩
  · obtain ⟨k, c, e', a1, a2, a3, a4⟩ := hR.cells id cs e loc g1 g2
    exact ⟨k, c, e', by rw [hh]; exact a1, a2, a3, fun k v hv => let ⟨x, hx, hr⟩ := a4 k v hv; ⟨x, hx, hr.stab st _ (.refl _)⟩⟩
  · obtain ⟨k, m, c, e', a1, a2⟩ := hR.tok id n sz loc g1 g2
    exact ⟨k, m, c, e', by rw [hh]; exact a1, a2⟩
  · obtain ⟨k, kb, ob, xs, a1, a2, a3⟩ := hR.objs id sh vs loc g1 g2
    exact ⟨k, kb, ob, xs, by rw [hh]; exact a1, a2, fun k v hv => let ⟨x, hx, hr⟩ := a3 k v hv; ⟨x, hx, hr.stab st _ (.refl _)⟩⟩

theorem own_lt (hR : Rel w (Xs E H β) H β) {b o : Nat} (h : Own H β b o) : b < w.heap.size := by
  obtain ⟨id, loc, h1, rfl, h2⟩ := h
  rcases h2 with ⟨cs, e, h2⟩ | ⟨n, sz, h2, _⟩ | ⟨sh, vs, h2⟩
  · obtain ⟨_, c, e', h3, _⟩ := hR.cells id cs e loc h2 h1
    exact heap_lt h3
  · obtain ⟨_, _, c, e', h3, _⟩ := hR.tok id n sz loc h2 h1
    exact heap_lt h3
  · obtain ⟨_, _, ob, xs, h3, _⟩ := hR.objs id sh vs loc h2 h1
    exact heap_lt h3

theorem live_lt (hR : Rel w (Xs E H β) H β) {id : Nat} {loc : Loc} (hl : live H id) (h1 : β[id]? = some loc) : loc.block < w.heap.size := by
  obtain ⟨o, h2, h3⟩ := hl
  cases o with
  | cells cs e => obtain ⟨_, c, e', h3, _⟩ := hR.cells id cs e loc h2 h1; exact heap_lt h3
  | tok n sz => obtain ⟨_, _, c, e', h3, _⟩ := hR.tok id n sz loc h2 h1; exact heap_lt h3
  | obj sh vs => obtain ⟨_, _, ob, xs, h3, _⟩ := hR.objs id sh vs loc h2 h1; exact heap_lt h3
  | dead => exact absurd rfl h3

theorem live_cells {id : Nat} {cs e} (h : H[id]? = some (.cells cs e)) : live H id := ⟨_, h, by simp⟩
theorem live_obj {id : Nat} {sh vs} (h : H[id]? = some (.obj sh vs)) : live H id := ⟨_, h, by simp⟩
theorem live_tok {id n sz : Nat} (h : H[id]? = some (.tok n sz)) : live H id := ⟨_, h, by simp⟩

/-- A new block that no object is. -/
theorem Step.alloc (hR : Rel w (Xs E H β) H β) (ob : Obj) : Step E H β w H β (w.alloc ob) := by
  have hold : ∀ b, b < w.heap.size → (w.alloc ob).heap[b]? = w.heap[b]? := fun b hb => heap_alloc_old w ob b hb
  have st : Stab w (Xs E H β) (w.alloc ob) (Xs E H β) :=
    ⟨fun b o v hx hv => ⟨hx, by rw [cell_heap (hold b (cell_lt hv))]; exact hv⟩, fun b cs e h => ⟨cs, e, by rw [hold b (heap_lt h)]; exact h⟩⟩
  refine ⟨⟨hR.len, fun id cs e loc g1 g2 => ?_, fun id n sz loc g1 g2 => ?_, fun id sh vs loc g1 g2 => ?_, hR.disj⟩, rfl, rfl, rfl, by simp, fun b hb => .inl (hold b hb), fun b o h => .inl h, .refl _⟩
  · obtain ⟨k, c, e', a1, a2, a3, a4⟩ := hR.cells id cs e loc g1 g2
    exact ⟨k, c, e', by rw [hold _ (heap_lt a1)]; exact a1, a2, a3, fun k v hv => let ⟨x, hx, hr⟩ := a4 k v hv; ⟨x, hx, hr.stab st _ (.refl _)⟩⟩
  · obtain ⟨k, m, c, e', a1, a2⟩ := hR.tok id n sz loc g1 g2
    exact ⟨k, m, c, e', by rw [hold _ (heap_lt a1)]; exact a1, a2⟩
  · obtain ⟨k, kb, ob, xs, a1, a2, a3⟩ := hR.objs id sh vs loc g1 g2
    exact ⟨k, kb, ob, xs, by rw [hold _ (heap_lt a1)]; exact a1, a2, fun k v hv => let ⟨x, hx, hr⟩ := a3 k v hv; ⟨x, hx, hr.stab st _ (.refl _)⟩⟩

theorem getElem?_concat {α : Type} (l : List α) (x : α) (i : Nat) : (l ++ [x])[i]? = if i < l.length then l[i]? else if i = l.length then some x else none := by
  rw [List.getElem?_append]
  split
  · rfl
  · split
    · subst i; simp
    · rw [List.getElem?_eq_none]; simp; omega

/-- A new object in a new block. -/
theorem Step.push (hR : Rel w (Xs E H β) H β) (c : Array Value) (e' : TypeId) (ob : O) (loc : Loc)
    (hloc : loc.block = w.heap.size) (hsize : c.size = loc.size)
    (hcells : ∀ cs e, ob = .cells cs e → loc.kind = false ∧ (loc.base + cs.length ≤ loc.size ∧ (4294967296 ≤ e → loc.size = loc.base + cs.length)) ∧ ∀ (k : Nat) v, cs[k]? = some v → ∃ x, c[loc.base + k]? = some x ∧ R w (Xs E H β) β v x)
    (htok : ∀ n sz, ob = .tok n sz → loc.kind = true ∧ loc.n = n) (hobj : ∀ sh vs, ob ≠ .obj sh vs := by intro _ _ h; cases h) :
    Step E H β w (H ++ [ob]) (β ++ [loc]) (w.alloc (.cells c e')) := by
  have hold : ∀ b, b < w.heap.size → (w.alloc (.cells c e')).heap[b]? = w.heap[b]? := fun b hb => heap_alloc_old w _ b hb
  have hnew : (w.alloc (.cells c e')).heap[w.heap.size]? = some (.cells c e' (0, 0)) := heap_alloc_new w _
  have hH : ∀ id, (H ++ [ob])[id]? = if id < H.length then H[id]? else if id = H.length then some ob else none := getElem?_concat H ob
  have hB : ∀ id, (β ++ [loc])[id]? = if id < H.length then β[id]? else if id = H.length then some loc else none := fun id => by rw [hR.len]; exact getElem?_concat β loc id
  have hown : ∀ b o, Own (H ++ [ob]) (β ++ [loc]) b o → Own H β b o ∨ w.heap.size ≤ b := by
    rintro b o ⟨id, l, h1, rfl, h2⟩
    rw [hB] at h1
    rw [hH] at h2
    by_cases hlt : id < H.length
    · simp only [hlt, if_true] at h1 h2
      exact .inl ⟨id, l, h1, rfl, h2⟩
    · simp only [hlt, if_false] at h1
      split at h1
      · simp only [Option.some.injEq] at h1
        subst h1
        exact .inr (by omega)
      · cases h1
  have hle : LocLe β (β ++ [loc]) := fun id l h => ⟨l, by
    have : id < β.length := (List.getElem?_eq_some_iff.1 h).1
    rw [List.getElem?_append_left this]; exact h, .inl rfl⟩
  have st : Stab w (Xs E H β) (w.alloc (.cells c e')) (Xs E (H ++ [ob]) (β ++ [loc])) := by
    refine ⟨fun b o v hx hv => ⟨fun h => ?_, by rw [cell_heap (hold b (cell_lt hv))]; exact hv⟩, fun b cs e h => ⟨cs, e, by rw [hold b (heap_lt h)]; exact h⟩⟩
    have := cell_lt hv
    rcases h with h | h
    · exact hx (.inl h)
    · rcases hown b o h with h | h
      · exact hx (.inr h)
      · omega
  refine ⟨⟨by simp [hR.len], fun id cs e l g1 g2 => ?_, fun id n sz l g1 g2 => ?_, fun id sh vs l g1 g2 => ?_, fun i j l l' hi hj g1 g2 hb => ?_⟩, rfl, rfl, rfl, by simp, fun b hb => .inl (hold b hb), hown, hle⟩
  · rw [hH] at g1
    rw [hB] at g2
    by_cases hlt : id < H.length
    · simp only [hlt, if_true] at g1 g2
      obtain ⟨k, c, e', a1, a2, a3, a4⟩ := hR.cells id cs e l g1 g2
      exact ⟨k, c, e', by rw [hold _ (heap_lt a1)]; exact a1, a2, a3, fun k v hv => let ⟨x, hx, hr⟩ := a4 k v hv; ⟨x, hx, hr.stab st _ hle⟩⟩
    · simp only [hlt, if_false] at g1 g2
      split at g1
      · simp only [Option.some.injEq, *] at g1 g2
        simp only [if_true, Option.some.injEq] at g2
        subst g2
        obtain ⟨h1, h2, h3⟩ := hcells cs e (by simpa using g1)
        exact ⟨h1, c, e', by rw [hloc]; exact hnew, hsize, h2, fun k v hv => let ⟨x, hx, hr⟩ := h3 k v hv; ⟨x, hx, hr.stab st _ hle⟩⟩
      · cases g1
  · rw [hH] at g1
    rw [hB] at g2
    by_cases hlt : id < H.length
    · simp only [hlt, if_true] at g1 g2
      obtain ⟨k, m, c, e', a1, a2⟩ := hR.tok id n sz l g1 g2
      exact ⟨k, m, c, e', by rw [hold _ (heap_lt a1)]; exact a1, a2⟩
    · simp only [hlt, if_false] at g1 g2
      split at g1
      · simp only [Option.some.injEq, *] at g1 g2
        simp only [if_true, Option.some.injEq] at g2
        subst g2
        obtain ⟨h1, h2⟩ := htok n sz (by simpa using g1)
        exact ⟨h1, h2, c, e', by rw [hloc]; exact hnew, hsize⟩
      · cases g1
  · rw [hH] at g1
    rw [hB] at g2
    by_cases hlt : id < H.length
    · simp only [hlt, if_true] at g1 g2
      obtain ⟨k, kb, ob, xs, a1, a2, a3⟩ := hR.objs id sh vs l g1 g2
      exact ⟨k, kb, ob, xs, by rw [hold _ (heap_lt a1)]; exact a1, a2, fun k v hv => let ⟨x, hx, hr⟩ := a3 k v hv; ⟨x, hx, hr.stab st _ hle⟩⟩
    · simp only [hlt, if_false] at g1
      split at g1
      · exact absurd (Option.some.inj g1) (hobj sh vs)
      · cases g1
  · have hl : ∀ i l, live (H ++ [ob]) i → (β ++ [loc])[i]? = some l → (i < H.length ∧ live H i ∧ β[i]? = some l ∧ l.block < w.heap.size) ∨ (i = H.length ∧ l.block = w.heap.size) := by
      rintro i l ⟨o, h1, h2⟩ h3
      rw [hH] at h1
      rw [hB] at h3
      by_cases hlt : i < H.length
      · simp only [hlt, if_true] at h1 h3
        exact .inl ⟨hlt, ⟨o, h1, h2⟩, h3, live_lt hR ⟨o, h1, h2⟩ h3⟩
      · simp only [hlt, if_false] at h1 h3
        split at h3
        · simp only [Option.some.injEq] at h3
          subst h3
          exact .inr ⟨by assumption, hloc⟩
        · cases h3
    rcases hl i l hi g1 with ⟨_, a1, a2, a3⟩ | ⟨a1, a2⟩ <;> rcases hl j l' hj g2 with ⟨_, b1, b2, b3⟩ | ⟨b1, b2⟩
    · exact hR.disj i j l l' a1 b1 a2 b2 hb
    · omega
    · omega
    · omega

theorem get_set {α : Type} (l : List α) (i : Nat) (x : α) (j : Nat) : (l.set i x)[j]? = if i = j then (if i < l.length then some x else none) else l[j]? := by
  rw [List.getElem?_set]

/-- A store into an object's cells. -/
theorem Step.setCells (hR : Rel w (Xs E H β) H β) {id : Nat} {cs cs' : List V} {e e0 : TypeId} {loc : Loc} {c c' : Array Value}
    (hid : H[id]? = some (.cells cs e)) (hloc : β[id]? = some loc) (hb : w.heap[loc.block]? = some (.cells c e0 (0, 0))) (hsz : c'.size = c.size)
    (hl : cs'.length = cs.length) (hv : ∀ (k : Nat) v, cs'[k]? = some v → ∃ x, c'[loc.base + k]? = some x ∧ R w (Xs E H β) β v x) :
    Step E H β w (H.set id (.cells cs' e)) β (w.setRow loc.block c') := by
  have hne : ∀ b, b ≠ loc.block → (w.setRow loc.block c').heap[b]? = w.heap[b]? := fun b h => setRow_other w _ _ _ h
  have hsame : (w.setRow loc.block c').heap[loc.block]? = some (.cells c' e0 (0, 0)) := setRow_heap w _ c c' e0 (0, 0) hb
  have hilt : id < H.length := (List.getElem?_eq_some_iff.1 hid).1
  have hH : ∀ j, (H.set id (.cells cs' e))[j]? = if id = j then some (.cells cs' e) else H[j]? := fun j => by rw [get_set]; simp [hilt]
  have hown : ∀ b o, Own (H.set id (.cells cs' e)) β b o ↔ Own H β b o := by
    intro b o
    constructor
    · rintro ⟨j, l, h1, rfl, h2⟩
      rw [hH] at h2
      by_cases hj : id = j
      · subst hj; exact ⟨id, l, h1, rfl, .inl ⟨cs, e, hid⟩⟩
      · simp only [hj, if_false] at h2; exact ⟨j, l, h1, rfl, h2⟩
    · rintro ⟨j, l, h1, rfl, h2⟩
      refine ⟨j, l, h1, rfl, ?_⟩
      rw [hH]
      by_cases hj : id = j
      · subst hj; exact .inl ⟨cs', e, by simp⟩
      · simpa only [hj, if_false] using h2
  have hself : ∀ o, Own H β loc.block o := fun o => ⟨id, loc, hloc, rfl, .inl ⟨cs, e, hid⟩⟩
  have hblk : ∀ (b : Nat) (cs : Array Value) (e : TypeId), w.heap[b]? = some (Obj.cells cs e (0, 0)) → ∃ (cs' : Array Value) (e' : TypeId), (w.setRow loc.block c').heap[b]? = some (Obj.cells cs' e' (0, 0)) := by
    intro b cs e h
    by_cases hbb : b = loc.block
    · subst hbb; exact ⟨c', e0, hsame⟩
    · exact ⟨cs, e, by rw [hne b hbb]; exact h⟩
  have st : Stab w (Xs E H β) (w.setRow loc.block c') (Xs E (H.set id (.cells cs' e)) β) := by
    refine ⟨fun b o v hx hv => ?_, hblk⟩
    have hbb : b ≠ loc.block := fun h => hx (.inr (h ▸ hself o))
    refine ⟨fun h => hx ?_, by rw [cell_heap (hne b hbb)]; exact hv⟩
    rcases h with h | h
    · exact .inl h
    · exact .inr ((hown b o).1 h)
  have hlive : ∀ j, live (H.set id (.cells cs' e)) j → live H j := by
    rintro j ⟨o, h1, h2⟩
    rw [hH] at h1
    by_cases hj : id = j
    · subst hj; exact live_cells hid
    · simp only [hj, if_false] at h1; exact ⟨o, h1, h2⟩
  refine ⟨⟨by simp [hR.len], fun j cs1 e1 l g1 g2 => ?_, fun j n sz l g1 g2 => ?_, fun j sh vs l g1 g2 => ?_, fun i j l l' hi hj g1 g2 hb => hR.disj i j l l' (hlive i hi) (hlive j hj) g1 g2 hb⟩,
    rfl, rfl, rfl, by simp, fun b hb' => ?_, fun b o h => .inl ((hown b o).1 h), .refl _⟩
  · rw [hH] at g1
    by_cases hj : id = j
    · subst hj
      simp only [if_true, Option.some.injEq, O.cells.injEq] at g1
      obtain ⟨rfl, rfl⟩ := g1
      rw [hloc] at g2
      simp only [Option.some.injEq] at g2
      subst g2
      obtain ⟨h1, c2, e2, h2, h3, h4, _⟩ := hR.cells id cs e loc hid hloc
      rw [hb] at h2
      simp only [Option.some.injEq, Obj.cells.injEq, and_true] at h2
      obtain ⟨rfl, rfl⟩ := h2
      exact ⟨h1, c', e0, hsame, by omega, ⟨by have := h4.1; omega, fun he => by have := h4.2 he; omega⟩, fun k v hk => let ⟨x, hx, hr⟩ := hv k v hk; ⟨x, hx, hr.stab st _ (.refl _)⟩⟩
    · simp only [hj, if_false] at g1
      obtain ⟨k, c2, e2, a1, a2, a3, a4⟩ := hR.cells j cs1 e1 l g1 g2
      have : l.block ≠ loc.block := fun h => hj (hR.disj id j loc l (live_cells hid) (live_cells g1) hloc g2 h.symm)
      exact ⟨k, c2, e2, by rw [hne _ this]; exact a1, a2, a3, fun k v hv => let ⟨x, hx, hr⟩ := a4 k v hv; ⟨x, hx, hr.stab st _ (.refl _)⟩⟩
  · rw [hH] at g1
    by_cases hj : id = j
    · subst hj; simp at g1
    · simp only [hj, if_false] at g1
      obtain ⟨k, m, c2, e2, a1, a2⟩ := hR.tok j n sz l g1 g2
      have : l.block ≠ loc.block := fun h => hj (hR.disj id j loc l (live_cells hid) (live_tok g1) hloc g2 h.symm)
      exact ⟨k, m, c2, e2, by rw [hne _ this]; exact a1, a2⟩
  · rw [hH] at g1
    by_cases hj : id = j
    · subst hj; simp at g1
    · simp only [hj, if_false] at g1
      obtain ⟨k, kb, ob, xs, a1, a2, a3⟩ := hR.objs j sh vs l g1 g2
      have : l.block ≠ loc.block := fun h => hj (hR.disj id j loc l (live_cells hid) (live_obj g1) hloc g2 h.symm)
      exact ⟨k, kb, ob, xs, by rw [hne _ this]; exact a1, a2, fun k v hv => let ⟨x, hx, hr⟩ := a3 k v hv; ⟨x, hx, hr.stab st _ (.refl _)⟩⟩
  · by_cases hbb : b = loc.block
    · subst hbb
      exact .inr (.inl ⟨⟨0, hself 0⟩, c, c', e0, hb, hsame, hsz, fun o ho => absurd (hself o) ho⟩)
    · exact .inl (hne b hbb)

/-- A slice that grows, in its own room. -/
theorem Step.setTok (hR : Rel w (Xs E H β) H β) {id n n' sz : Nat} {e0 : TypeId} {loc : Loc} {c c' : Array Value}
    (hid : H[id]? = some (.tok n sz)) (hloc : β[id]? = some loc) (hb : w.heap[loc.block]? = some (.cells c e0 (0, 0))) (hsz : c'.size = c.size)
    (hn : n < n') (hc : ∀ o, o < loc.base + n * sz → c'[o]? = c[o]?) :
    Step E H β w (H.set id (.tok n' sz)) (β.set id { loc with n := n' }) (w.setRow loc.block c') := by
  have hne : ∀ b, b ≠ loc.block → (w.setRow loc.block c').heap[b]? = w.heap[b]? := fun b h => setRow_other w _ _ _ h
  have hsame : (w.setRow loc.block c').heap[loc.block]? = some (.cells c' e0 (0, 0)) := setRow_heap w _ c c' e0 (0, 0) hb
  have hilt : id < H.length := (List.getElem?_eq_some_iff.1 hid).1
  have hilt' : id < β.length := by rw [← hR.len]; exact hilt
  have hH : ∀ j, (H.set id (.tok n' sz))[j]? = if id = j then some (.tok n' sz) else H[j]? := fun j => by rw [get_set]; simp [hilt]
  have hB : ∀ j, (β.set id { loc with n := n' })[j]? = if id = j then some { loc with n := n' } else β[j]? := fun j => by rw [get_set]; simp [hilt']
  obtain ⟨hkind, hlocn, c0, e1, hb0, hsize⟩ := hR.tok id n sz loc hid hloc
  rw [hb] at hb0
  simp only [Option.some.injEq, Obj.cells.injEq, and_true] at hb0
  obtain ⟨rfl, rfl⟩ := hb0
  have hown : ∀ b o, Own (H.set id (.tok n' sz)) (β.set id { loc with n := n' }) b o → Own H β b o := by
    rintro b o ⟨j, l, h1, rfl, h2⟩
    rw [hH] at h2
    rw [hB] at h1
    by_cases hj : id = j
    · subst hj
      simp only [if_true, Option.some.injEq] at h1
      subst h1
      refine ⟨id, loc, hloc, rfl, .inr (.inl ⟨n, sz, hid, ?_⟩)⟩
      rcases h2 with ⟨_, _, h2⟩ | ⟨m, s, h2, h3⟩ | ⟨_, _, h2⟩
      · simp at h2
      rotate_left
      · simp at h2
      · simp only [if_true, Option.some.injEq, O.tok.injEq] at h2
        obtain ⟨rfl, rfl⟩ := h2
        have : n * sz ≤ n' * sz := Nat.mul_le_mul_right sz (Nat.le_of_lt hn)
        simp only at h3
        omega
    · simp only [hj, if_false] at h1 h2; exact ⟨j, l, h1, rfl, h2⟩
  have hself : ∀ o, ¬ Own H β loc.block o → o < loc.base + n * sz := fun o h => by
    rcases Nat.lt_or_ge o (loc.base + n * sz) with h' | h'
    · exact h'
    · exact absurd ⟨id, loc, hloc, rfl, .inr (.inl ⟨n, sz, hid, h'⟩)⟩ h
  have hle : LocLe β (β.set id { loc with n := n' }) := fun j l h => by
    rw [hB]
    by_cases hj : id = j
    · subst hj
      rw [hloc] at h
      simp only [Option.some.injEq] at h
      subst h
      exact ⟨{ loc with n := n' }, by simp, .inr ⟨hkind, hkind, by rw [hlocn]; exact hn⟩⟩
    · exact ⟨l, by simp [hj, h], .inl rfl⟩
  have hblk : ∀ (b : Nat) (cs : Array Value) (e : TypeId), w.heap[b]? = some (Obj.cells cs e (0, 0)) → ∃ (cs' : Array Value) (e' : TypeId), (w.setRow loc.block c').heap[b]? = some (Obj.cells cs' e' (0, 0)) := by
    intro b cs e h
    by_cases hbb : b = loc.block
    · subst hbb; exact ⟨c', e0, hsame⟩
    · exact ⟨cs, e, by rw [hne b hbb]; exact h⟩
  have st : Stab w (Xs E H β) (w.setRow loc.block c') (Xs E (H.set id (.tok n' sz)) (β.set id { loc with n := n' })) := by
    refine ⟨fun b o v hx hv => ⟨fun h => hx ?_, ?_⟩, hblk⟩
    · rcases h with h | h
      · exact .inl h
      · exact .inr (hown b o h)
    · by_cases hbb : b = loc.block
      · subst hbb
        rw [cell_of_row w _ _ c e0 (0, 0) hb] at hv
        rw [cell_of_row _ _ _ c' e0 (0, 0) hsame, hc o (hself o (fun h => hx (.inr h))), hv]
      · rw [cell_heap (hne b hbb)]; exact hv
  have hlive : ∀ j, live (H.set id (.tok n' sz)) j → live H j := by
    rintro j ⟨o, h1, h2⟩
    rw [hH] at h1
    by_cases hj : id = j
    · subst hj; exact live_tok hid
    · simp only [hj, if_false] at h1; exact ⟨o, h1, h2⟩
  have hblock : ∀ (j : Nat) l, (β.set id { loc with n := n' })[j]? = some l → ∃ l', β[j]? = some l' ∧ l'.block = l.block := by
    intro j l h
    rw [hB] at h
    by_cases hj : id = j
    · subst hj
      simp only [if_true, Option.some.injEq] at h
      subst h
      exact ⟨loc, hloc, rfl⟩
    · simp only [hj, if_false] at h; exact ⟨l, h, rfl⟩
  refine ⟨⟨by simp [hR.len], fun j cs1 e1 l g1 g2 => ?_, fun j m s l g1 g2 => ?_, fun j sh vs l g1 g2 => ?_, fun i j l l' hi hj g1 g2 hbk => ?_⟩,
    rfl, rfl, rfl, by simp, fun b hb' => ?_, fun b o h => .inl (hown b o h), hle⟩
  · rw [hH] at g1
    rw [hB] at g2
    by_cases hj : id = j
    · subst hj; simp at g1
    · simp only [hj, if_false] at g1 g2
      obtain ⟨k, c2, e2, a1, a2, a3, a4⟩ := hR.cells j cs1 e1 l g1 g2
      have : l.block ≠ loc.block := fun h => hj (hR.disj id j loc l (live_tok hid) (live_cells g1) hloc g2 h.symm)
      exact ⟨k, c2, e2, by rw [hne _ this]; exact a1, a2, a3, fun k v hv => let ⟨x, hx, hr⟩ := a4 k v hv; ⟨x, hx, hr.stab st _ hle⟩⟩
  · rw [hH] at g1
    rw [hB] at g2
    by_cases hj : id = j
    · subst hj
      simp only [if_true, Option.some.injEq, O.tok.injEq] at g1 g2
      obtain ⟨rfl, rfl⟩ := g1
      subst g2
      exact ⟨hkind, rfl, c', e0, hsame, by simp only; omega⟩
    · simp only [hj, if_false] at g1 g2
      obtain ⟨k, m, c2, e2, a1, a2⟩ := hR.tok j m s l g1 g2
      have : l.block ≠ loc.block := fun h => hj (hR.disj id j loc l (live_tok hid) (live_tok g1) hloc g2 h.symm)
      exact ⟨k, m, c2, e2, by rw [hne _ this]; exact a1, a2⟩
  · rw [hH] at g1
    rw [hB] at g2
    by_cases hj : id = j
    · subst hj; simp at g1
    · simp only [hj, if_false] at g1 g2
      obtain ⟨k, kb, ob, xs, a1, a2, a3⟩ := hR.objs j sh vs l g1 g2
      have : l.block ≠ loc.block := fun h => hj (hR.disj id j loc l (live_tok hid) (live_obj g1) hloc g2 h.symm)
      exact ⟨k, kb, ob, xs, by rw [hne _ this]; exact a1, a2, fun k v hv => let ⟨x, hx, hr⟩ := a3 k v hv; ⟨x, hx, hr.stab st _ hle⟩⟩
  · obtain ⟨m, h1, h2⟩ := hblock i l g1
    obtain ⟨m', h1', h2'⟩ := hblock j l' g2
    exact hR.disj i j m m' (hlive i hi) (hlive j hj) h1 h1' (by omega)
  · by_cases hbb : b = loc.block
    · subst hbb
      by_cases hex : ∃ o, Own H β loc.block o
      · exact .inr (.inl ⟨hex, c, c', e0, hb, hsame, hsz, fun o ho => hc o (hself o ho)⟩)
      · exact absurd ⟨loc.base + n * sz, id, loc, hloc, rfl, .inr (.inl ⟨n, sz, hid, Nat.le_refl _⟩)⟩ hex
    · exact .inl (hne b hbb)

/-- A slice that grows into a new block. -/
theorem Step.moveTok (hR : Rel w (Xs E H β) H β) {id n n' sz : Nat} {e' : TypeId} {loc : Loc} {c : Array Value}
    (hid : H[id]? = some (.tok n sz)) (hloc : β[id]? = some loc) (hn : n < n') :
    Step E H β w (H.set id (.tok n' sz)) (β.set id { kind := true, block := w.heap.size, base := 0, n := n', size := c.size }) (w.alloc (.cells c e')) := by
  have hold : ∀ b, b < w.heap.size → (w.alloc (.cells c e')).heap[b]? = w.heap[b]? := fun b hb => heap_alloc_old w _ b hb
  have hnew : (w.alloc (.cells c e')).heap[w.heap.size]? = some (.cells c e' (0, 0)) := heap_alloc_new w _
  have hilt : id < H.length := (List.getElem?_eq_some_iff.1 hid).1
  have hilt' : id < β.length := by rw [← hR.len]; exact hilt
  generalize hL : ({ kind := true, block := w.heap.size, base := 0, n := n', size := c.size } : Loc) = L
  have hH : ∀ j, (H.set id (.tok n' sz))[j]? = if id = j then some (.tok n' sz) else H[j]? := fun j => by rw [get_set]; simp [hilt]
  have hB : ∀ j, (β.set id L)[j]? = if id = j then some L else β[j]? := fun j => by rw [get_set]; simp [hilt']
  obtain ⟨hkind, hlocn, _⟩ := hR.tok id n sz loc hid hloc
  have hown : ∀ b o, Own (H.set id (.tok n' sz)) (β.set id L) b o → Own H β b o ∨ w.heap.size ≤ b := by
    rintro b o ⟨j, l, h1, rfl, h2⟩
    rw [hH] at h2
    rw [hB] at h1
    by_cases hj : id = j
    · subst hj
      simp only [if_true, Option.some.injEq] at h1
      subst h1
      exact .inr (by simp [← hL])
    · simp only [hj, if_false] at h1 h2; exact .inl ⟨j, l, h1, rfl, h2⟩
  have hle : LocLe β (β.set id L) := fun j l h => by
    rw [hB]
    by_cases hj : id = j
    · subst hj
      rw [hloc] at h
      simp only [Option.some.injEq] at h
      subst h
      exact ⟨L, by simp, .inr ⟨hkind, by simp [← hL], by rw [hlocn, ← hL]; exact hn⟩⟩
    · exact ⟨l, by simp [hj, h], .inl rfl⟩
  have st : Stab w (Xs E H β) (w.alloc (.cells c e')) (Xs E (H.set id (.tok n' sz)) (β.set id L)) := by
    refine ⟨fun b o v hx hv => ⟨fun h => ?_, by rw [cell_heap (hold b (cell_lt hv))]; exact hv⟩, fun b cs e h => ⟨cs, e, by rw [hold b (heap_lt h)]; exact h⟩⟩
    have := cell_lt hv
    rcases h with h | h
    · exact hx (.inl h)
    · rcases hown b o h with h | h
      · exact hx (.inr h)
      · omega
  refine ⟨⟨by simp [hR.len], fun j cs1 e1 l g1 g2 => ?_, fun j m s l g1 g2 => ?_, fun j sh vs l g1 g2 => ?_, fun i j l l' hi hj g1 g2 hbk => ?_⟩,
    rfl, rfl, rfl, by simp, fun b hb' => .inl (hold b hb'), hown, hle⟩
  · rw [hH] at g1
    rw [hB] at g2
    by_cases hj : id = j
    · subst hj; simp at g1
    · simp only [hj, if_false] at g1 g2
      obtain ⟨k, c2, e2, a1, a2, a3, a4⟩ := hR.cells j cs1 e1 l g1 g2
      exact ⟨k, c2, e2, by rw [hold _ (heap_lt a1)]; exact a1, a2, a3, fun k v hv => let ⟨x, hx, hr⟩ := a4 k v hv; ⟨x, hx, hr.stab st _ hle⟩⟩
  · rw [hH] at g1
    rw [hB] at g2
    by_cases hj : id = j
    · subst hj
      simp only [if_true, Option.some.injEq, O.tok.injEq] at g1 g2
      obtain ⟨rfl, rfl⟩ := g1
      subst g2
      exact ⟨by simp [← hL], by simp [← hL], c, e', by simpa [← hL] using hnew, by simp [← hL]⟩
    · simp only [hj, if_false] at g1 g2
      obtain ⟨k, m, c2, e2, a1, a2⟩ := hR.tok j m s l g1 g2
      exact ⟨k, m, c2, e2, by rw [hold _ (heap_lt a1)]; exact a1, a2⟩
  · rw [hH] at g1
    rw [hB] at g2
    by_cases hj : id = j
    · subst hj; simp at g1
    · simp only [hj, if_false] at g1 g2
      obtain ⟨k, kb, ob, xs, a1, a2, a3⟩ := hR.objs j sh vs l g1 g2
      exact ⟨k, kb, ob, xs, by rw [hold _ (heap_lt a1)]; exact a1, a2, fun k v hv => let ⟨x, hx, hr⟩ := a3 k v hv; ⟨x, hx, hr.stab st _ hle⟩⟩
  · have hl : ∀ i l, live (H.set id (.tok n' sz)) i → (β.set id L)[i]? = some l → (live H i ∧ β[i]? = some l ∧ l.block < w.heap.size) ∨ (i = id ∧ l.block = w.heap.size) := by
      rintro i l ⟨o, h1, h2⟩ h3
      rw [hH] at h1
      rw [hB] at h3
      by_cases hlt : id = i
      · subst hlt
        simp only [if_true, Option.some.injEq] at h3
        subst h3
        exact .inr ⟨rfl, by simp [← hL]⟩
      · simp only [hlt, if_false] at h1 h3
        exact .inl ⟨⟨o, h1, h2⟩, h3, live_lt hR ⟨o, h1, h2⟩ h3⟩
    rcases hl i l hi g1 with ⟨a1, a2, a3⟩ | ⟨a1, a2⟩ <;> rcases hl j l' hj g2 with ⟨b1, b2, b3⟩ | ⟨b1, b2⟩
    · exact hR.disj i j l l' a1 b1 a2 b2 hbk
    · omega
    · omega
    · omega

/-- An object that is no row of cells, or a row of numbers, changed. -/
theorem Step.setObjG (hR : Rel w (Xs E H β) H β) {id : Nat} {sh sh' : Shape} {vs vs' : List V} {loc : Loc} {ob' : Obj} {xs' : List Value}
    (hid : H[id]? = some (.obj sh vs)) (hloc : β[id]? = some loc) (hsh : Shp sh' ob' xs') (hv : ∀ (k : Nat) v, vs'[k]? = some v → ∃ x, xs'[k]? = some x ∧ R w (Xs E H β) β v x)
    (hkind : ∀ ob xs, w.heap[loc.block]? = some ob → Shp sh ob xs → (special ob = true ∧ special ob' = true) ∨ ∃ c c' e, ob = .cells c e (0, 0) ∧ ob' = .cells c' e (0, 0) ∧ c'.size = c.size) :
    Step E H β w (H.set id (.obj sh' vs')) β { w with heap := w.heap.setIfInBounds loc.block ob' } := by
  obtain ⟨hk0, hb0, ob, xs, hob, hsh0, _⟩ := hR.objs id sh vs loc hid hloc
  obtain ⟨hsame, hne⟩ := Go.MapKept.heap_set (o' := ob') hob
  have hilt : id < H.length := (List.getElem?_eq_some_iff.1 hid).1
  have hH : ∀ j, (H.set id (.obj sh' vs'))[j]? = if id = j then some (.obj sh' vs') else H[j]? := fun j => by rw [get_set]; simp [hilt]
  have hown : ∀ b o, Own (H.set id (.obj sh' vs')) β b o ↔ Own H β b o := by
    intro b o
    constructor
    · rintro ⟨j, l, h1, rfl, h2⟩
      rw [hH] at h2
      by_cases hj : id = j
      · subst hj; exact ⟨id, l, h1, rfl, .inr (.inr ⟨sh, vs, hid⟩)⟩
      · simp only [hj, if_false] at h2; exact ⟨j, l, h1, rfl, h2⟩
    · rintro ⟨j, l, h1, rfl, h2⟩
      refine ⟨j, l, h1, rfl, ?_⟩
      rw [hH]
      by_cases hj : id = j
      · subst hj; exact .inr (.inr ⟨sh', vs', by simp⟩)
      · simpa only [hj, if_false] using h2
  have hself : ∀ o, Own H β loc.block o := fun o => ⟨id, loc, hloc, rfl, .inr (.inr ⟨sh, vs, hid⟩)⟩
  have st : Stab w (Xs E H β) { w with heap := w.heap.setIfInBounds loc.block ob' } (Xs E (H.set id (.obj sh' vs')) β) := by
    refine ⟨fun b o v hx hv => ?_, fun b cs e h => ?_⟩
    · have hbb : b ≠ loc.block := fun h => hx (.inr (h ▸ hself o))
      refine ⟨fun h => hx ?_, by rw [cell_heap (hne b hbb)]; exact hv⟩
      rcases h with h | h
      · exact .inl h
      · exact .inr ((hown b o).1 h)
    · by_cases hbb : b = loc.block
      · subst hbb
        rcases hkind ob xs hob hsh0 with ⟨g, _⟩ | ⟨c, c', e2, _, g, _⟩
        · rw [hob] at h
          cases h
          cases g
        · subst g
          exact ⟨c', e2, hsame⟩
      · exact ⟨cs, e, by rw [hne b hbb]; exact h⟩
  have hlive : ∀ j, live (H.set id (.obj sh' vs')) j → live H j := by
    rintro j ⟨o, h1, h2⟩
    rw [hH] at h1
    by_cases hj : id = j
    · subst hj; exact live_obj hid
    · simp only [hj, if_false] at h1; exact ⟨o, h1, h2⟩
  refine ⟨⟨by simp [hR.len], fun j cs1 e1 l g1 g2 => ?_, fun j n sz l g1 g2 => ?_, fun j sh1 vs1 l g1 g2 => ?_, fun i j l l' hi hj g1 g2 hb => hR.disj i j l l' (hlive i hi) (hlive j hj) g1 g2 hb⟩,
    rfl, rfl, rfl, by simp, fun b hb' => ?_, fun b o h => .inl ((hown b o).1 h), .refl _⟩
  · rw [hH] at g1
    by_cases hj : id = j
    · subst hj; simp at g1
    · simp only [hj, if_false] at g1
      obtain ⟨k, c2, e2, a1, a2, a3, a4⟩ := hR.cells j cs1 e1 l g1 g2
      have : l.block ≠ loc.block := fun h => hj (hR.disj id j loc l (live_obj hid) (live_cells g1) hloc g2 h.symm)
      exact ⟨k, c2, e2, by rw [hne _ this]; exact a1, a2, a3, fun k v hv => let ⟨x, hx, hr⟩ := a4 k v hv; ⟨x, hx, hr.stab st _ (.refl _)⟩⟩
  · rw [hH] at g1
    by_cases hj : id = j
    · subst hj; simp at g1
    · simp only [hj, if_false] at g1
      obtain ⟨k, m, c2, e2, a1, a2⟩ := hR.tok j n sz l g1 g2
      have : l.block ≠ loc.block := fun h => hj (hR.disj id j loc l (live_obj hid) (live_tok g1) hloc g2 h.symm)
      exact ⟨k, m, c2, e2, by rw [hne _ this]; exact a1, a2⟩
  · rw [hH] at g1
    by_cases hj : id = j
    · subst hj
      simp only [if_true, Option.some.injEq, O.obj.injEq] at g1
      obtain ⟨rfl, rfl⟩ := g1
      rw [hloc] at g2
      simp only [Option.some.injEq] at g2
      subst g2
      exact ⟨hk0, hb0, ob', xs', hsame, hsh, fun k v hv' => let ⟨x, hx, hr⟩ := hv k v hv'; ⟨x, hx, hr.stab st _ (.refl _)⟩⟩
    · simp only [hj, if_false] at g1
      obtain ⟨k, kb, ob1, xs1, a1, a2, a3⟩ := hR.objs j sh1 vs1 l g1 g2
      have : l.block ≠ loc.block := fun h => hj (hR.disj id j loc l (live_obj hid) (live_obj g1) hloc g2 h.symm)
      exact ⟨k, kb, ob1, xs1, by rw [hne _ this]; exact a1, a2, fun k v hv => let ⟨x, hx, hr⟩ := a3 k v hv; ⟨x, hx, hr.stab st _ (.refl _)⟩⟩
  · by_cases hbb : b = loc.block
    · subst hbb
      rcases hkind ob xs hob hsh0 with ⟨g1, g2⟩ | ⟨c, c', e2, g1, g2, g3⟩
      · exact .inr (.inr ⟨⟨0, hself 0⟩, ob, ob', hob, hsame, g1, g2⟩)
      · subst g1
        subst g2
        exact .inr (.inl ⟨⟨0, hself 0⟩, c, c', e2, hob, hsame, g3, fun o ho => absurd (hself o) ho⟩)
    · exact .inl (hne b hbb)

/-- A row of numbers, one of them set; the cells ahead, some of them set. -/
theorem Step.setPage (hR : Rel w (Xs E H β) H β) {id n : Nat} {k : IntKind} {l l' : List Int} {hd hd' : List V} {loc : Loc} {arr' : Array Value} {e : TypeId} {xs xs' : List Value}
    (hid : H[id]? = some (.obj (.page n k l) hd)) (hloc : β[id]? = some loc) (hob : w.heap[loc.block]? = some (.cells (xs ++ l.map (Value.int k)).toArray e (0, 0)))
    (hn : xs'.length = n) (hxs : xs.length = n) (harr : arr' = (xs' ++ l'.map (Value.int k)).toArray) (hl : l'.length = l.length) (hv : ∀ (k : Nat) v, hd'[k]? = some v → ∃ x, xs'[k]? = some x ∧ R w (Xs E H β) β v x) :
    Step E H β w (H.set id (.obj (.page n k l') hd')) β (w.setRow loc.block arr') := by
  have hw : w.setRow loc.block arr' = { w with heap := w.heap.setIfInBounds loc.block (.cells arr' e (0, 0)) } := by
    unfold World.setRow
    congr 1
    apply Array.ext_getElem?
    intro i
    rw [Array.getElem?_modify, Array.getElem?_setIfInBounds]
    by_cases hi : loc.block = i
    · subst hi
      have hlt : loc.block < w.heap.size := heap_lt hob
      rw [if_pos rfl, if_pos rfl, hob, if_pos hlt]
      rfl
    · rw [if_neg hi, if_neg hi]
  rw [hw]
  refine Step.setObjG hR hid hloc (xs' := xs') ⟨hn, e, by rw [harr]⟩ hv fun ob ys h1 h2 => .inr ?_
  rw [hob] at h1
  cases h1
  refine ⟨_, arr', e, rfl, rfl, ?_⟩
  rw [harr]
  simp [hn, hxs, hl]

/-- A new object that is no row of cells. -/
theorem Step.pushObjD (hR : Rel w (Xs E H β) H β) (ob : Obj) {sh : Shape} {xs : List Value} {vs : List V} {loc : Loc} (hsh : Shp sh ob xs)
    (hv : ∀ (k : Nat) v, vs[k]? = some v → ∃ x, xs[k]? = some x ∧ R w (Xs E H β) β v x) (hloc : loc.block = w.heap.size) (hk : loc.kind = false) (hb : loc.base = 0) :
    Step E H β w (H ++ [.obj sh vs]) (β ++ [loc]) (w.alloc ob) := by
  have hold : ∀ b, b < w.heap.size → (w.alloc ob).heap[b]? = w.heap[b]? := fun b hb => heap_alloc_old w _ b hb
  have hnew : (w.alloc ob).heap[w.heap.size]? = some ob := heap_alloc_new w _
  have hH : ∀ id, (H ++ [O.obj sh vs])[id]? = if id < H.length then H[id]? else if id = H.length then some (.obj sh vs) else none := getElem?_concat H _
  have hB : ∀ id, (β ++ [loc])[id]? = if id < H.length then β[id]? else if id = H.length then some loc else none := fun id => by rw [hR.len]; exact getElem?_concat β loc id
  have hown : ∀ b o, Own (H ++ [.obj sh vs]) (β ++ [loc]) b o → Own H β b o ∨ w.heap.size ≤ b := by
    rintro b o ⟨id, l, h1, rfl, h2⟩
    rw [hB] at h1
    rw [hH] at h2
    by_cases hlt : id < H.length
    · simp only [hlt, if_true] at h1 h2
      exact .inl ⟨id, l, h1, rfl, h2⟩
    · simp only [hlt, if_false] at h1
      split at h1
      · simp only [Option.some.injEq] at h1
        subst h1
        exact .inr (by omega)
      · cases h1
  have hle : LocLe β (β ++ [loc]) := fun id l h => ⟨l, by
    have : id < β.length := (List.getElem?_eq_some_iff.1 h).1
    rw [List.getElem?_append_left this]; exact h, .inl rfl⟩
  have st : Stab w (Xs E H β) (w.alloc ob) (Xs E (H ++ [.obj sh vs]) (β ++ [loc])) := by
    refine ⟨fun b o v hx hv => ⟨fun h => ?_, by rw [cell_heap (hold b (cell_lt hv))]; exact hv⟩, fun b cs e h => ⟨cs, e, by rw [hold b (heap_lt h)]; exact h⟩⟩
    have := cell_lt hv
    rcases h with h | h
    · exact hx (.inl h)
    · rcases hown b o h with h | h
      · exact hx (.inr h)
      · omega
  refine ⟨⟨by simp [hR.len], fun id cs e l g1 g2 => ?_, fun id n sz l g1 g2 => ?_, fun id sh' vs' l g1 g2 => ?_, fun i j l l' hi hj g1 g2 hb => ?_⟩, rfl, rfl, rfl, by simp, fun b hb => .inl (hold b hb), hown, hle⟩
  · rw [hH] at g1
    rw [hB] at g2
    by_cases hlt : id < H.length
    · simp only [hlt, if_true] at g1 g2
      obtain ⟨k, c, e', a1, a2, a3, a4⟩ := hR.cells id cs e l g1 g2
      exact ⟨k, c, e', by rw [hold _ (heap_lt a1)]; exact a1, a2, a3, fun k v hv => let ⟨x, hx, hr⟩ := a4 k v hv; ⟨x, hx, hr.stab st _ hle⟩⟩
    · simp only [hlt, if_false] at g1
      split at g1 <;> cases g1
  · rw [hH] at g1
    rw [hB] at g2
    by_cases hlt : id < H.length
    · simp only [hlt, if_true] at g1 g2
      obtain ⟨k, m, c, e', a1, a2⟩ := hR.tok id n sz l g1 g2
      exact ⟨k, m, c, e', by rw [hold _ (heap_lt a1)]; exact a1, a2⟩
    · simp only [hlt, if_false] at g1
      split at g1 <;> cases g1
  · rw [hH] at g1
    rw [hB] at g2
    by_cases hlt : id < H.length
    · simp only [hlt, if_true] at g1 g2
      obtain ⟨k, kb, ob', xs', a1, a2, a3⟩ := hR.objs id sh' vs' l g1 g2
      exact ⟨k, kb, ob', xs', by rw [hold _ (heap_lt a1)]; exact a1, a2, fun k v hv => let ⟨x, hx, hr⟩ := a3 k v hv; ⟨x, hx, hr.stab st _ hle⟩⟩
    · simp only [hlt, if_false] at g1 g2
      split at g1
      · rename_i hid
        simp only [hid, if_true, Option.some.injEq] at g2
        simp only [Option.some.injEq, O.obj.injEq] at g1
        obtain ⟨rfl, rfl⟩ := g1
        subst g2
        exact ⟨hk, hb, ob, xs, by rw [hloc]; exact hnew, hsh, fun k v hv' => let ⟨x, hx, hr⟩ := hv k v hv'; ⟨x, hx, hr.stab st _ hle⟩⟩
      · cases g1
  · have hl : ∀ i l, live (H ++ [.obj sh vs]) i → (β ++ [loc])[i]? = some l → (i < H.length ∧ live H i ∧ β[i]? = some l ∧ l.block < w.heap.size) ∨ (i = H.length ∧ l.block = w.heap.size) := by
      rintro i l ⟨o, h1, h2⟩ h3
      rw [hH] at h1
      rw [hB] at h3
      by_cases hlt : i < H.length
      · simp only [hlt, if_true] at h1 h3
        exact .inl ⟨hlt, ⟨o, h1, h2⟩, h3, live_lt hR ⟨o, h1, h2⟩ h3⟩
      · simp only [hlt, if_false] at h1 h3
        split at h3
        · simp only [Option.some.injEq] at h3
          subst h3
          exact .inr ⟨by assumption, hloc⟩
        · cases h3
    rcases hl i l hi g1 with ⟨_, a1, a2, a3⟩ | ⟨a1, a2⟩ <;> rcases hl j l' hj g2 with ⟨_, b1, b2, b3⟩ | ⟨b1, b2⟩
    · exact hR.disj i j l l' a1 b1 a2 b2 hb
    · omega
    · omega
    · omega

end
end Go.Ab

namespace Go.Ab
section
variable {P : Program} {E : Nat → Nat → Prop} {H : List O} {β : List Loc} {w : World} {X : Nat → Nat → Prop}

theorem one_spec {v : V} {y : Value} (h : R w X β v y) (h1 : v.one = true) : y.oneCell' = true := by
  cases h <;> first | rfl | (simp [V.one] at h1; done) | skip
  cases y <;> first | rfl | (simp [V.one] at h1)

theorem allOne_spec {vs : List V} (h : allOne vs = true) : ∀ v ∈ vs, v.one = true := by
  induction vs with
  | nil => simp
  | cons u r ih =>
    unfold allOne at h
    cases hu : u.one
    · simp [hu] at h
    · simp only [hu, cond_true] at h
      intro v hv
      rcases List.mem_cons.1 hv with rfl | hv
      · exact hu
      · exact ih h v hv

theorem cells_spec {v : V} {y : Value} {vs : List V} (h : R w X β v y) (hc : v.cells? = some vs) :
    ∃ ys : List Value, y.cells = ys.toArray ∧ ys.length = vs.length ∧ (∀ (k : Nat) v z, vs[k]? = some v → ys[k]? = some z → R w X β v z) ∧ ∀ z ∈ ys, z.oneCell' = true := by
  have single : v.one = true → vs = [v] → y.cells = #[y] → ∃ ys : List Value, y.cells = ys.toArray ∧ ys.length = vs.length ∧ (∀ (k : Nat) v z, vs[k]? = some v → ys[k]? = some z → R w X β v z) ∧ ∀ z ∈ ys, z.oneCell' = true := by
    intro h1 h2 h3
    subst h2
    refine ⟨[y], h3, rfl, ?_, by simpa using one_spec h h1⟩
    intro k v' z hv hz
    cases k with
    | zero => simp at hv hz; subst hv; subst hz; exact h
    | succ k => simp at hv
  cases h with
  | agg _ cells xs hl hh =>
    simp only [V.cells?] at hc
    cases ha : allOne cells
    · simp [ha] at hc
    · simp only [ha, cond_true, Option.some.injEq] at hc
      subst hc
      refine ⟨xs, rfl, hl, hh, fun z hz => ?_⟩
      obtain ⟨k, hk, hk'⟩ := List.getElem_of_mem hz
      have hkc : k < cells.length := by omega
      exact one_spec (hh k cells[k] z (by simp [hkc]) (by simp [hk, hk'])) (allOne_spec ha _ (List.getElem_mem hkc))
  | val _ =>
    simp only [V.cells?] at hc
    cases ha : V.one (.val y)
    · simp [ha] at hc
    · simp only [ha, cond_true, Option.some.injEq] at hc
      refine single ha hc.symm ?_
      cases y <;> first | rfl | (simp [V.one] at ha)
  | tup => simp [V.cells?] at hc
  | any => simp [V.cells?] at hc
  | _ => exact single rfl (by simpa [V.cells?] using hc.symm) rfl

theorem sound_store {ty : TypeId} {a v : V} {x y : Value} {H' : List O} (hR : Rel w (Xs E H β) H β) (hx : R w (Xs E H β) β a x) (hy : R w (Xs E H β) β v y)
    (h : oStore P H ty a v = some H') : ∃ w', (Instr.storeAt ty x y).run P w = .ok () w' ∧ Step E H β w H' β w' := by
  unfold oStore at h
  split at h
  · rename_i i vs id off h1 h2
    split at h
    · rename_i cs e hH
      cases hcond : (Nat.beq vs.length i.size && Nat.ble (off + vs.length) cs.length)
      · simp [hcond] at h
      · simp only [hcond, cond_true, Option.some.injEq] at h
        subst h
        obtain ⟨hsz, hfit⟩ := Bool.and_eq_true_iff.1 hcond
        have hsz := Nat.eq_of_beq_eq_true hsz
        have hfit := Nat.le_of_ble_eq_true hfit
        cases hx with
        | ptr _ _ _ loc hid hk =>
          obtain ⟨_, c, e', a1, a2, a3, a4⟩ := hR.cells id cs e loc hH hid
          obtain ⟨ys, hys, hl, hr, hone⟩ := cells_spec hy h2
          have hrun := run_storeCells_at P loc.block (loc.base + off) e' ys 0 c w a1 (by simp; omega) hone
          simp only [Nat.add_zero] at hrun
          refine ⟨_, ?_, Step.setCells (e0 := e') hR hH hid a1 (c' := (c.toList.take (loc.base + off) ++ ys ++ c.toList.drop (loc.base + off + ys.length)).toArray) ?_ ?_ ?_⟩
          · simp [Instr.storeAt, Instr.sureAddr, storeVar, hys, ti_size w h1, hl, hsz]
            rw [← hl] at hsz
            simpa [hsz, hl] using hrun
          · simp; omega
          · simp [splice]; omega
          · intro k u hu
            unfold splice at hu
            rw [List.append_assoc] at hu
            by_cases hk1 : k < off
            · rw [List.getElem?_append_left (by simp; omega), List.getElem?_take, if_pos hk1] at hu
              obtain ⟨z, hz, hz'⟩ := a4 k u hu
              refine ⟨z, ?_, hz'⟩
              simp only [List.getElem?_toArray, List.append_assoc]
              rw [List.getElem?_append_left (by simp; omega), List.getElem?_take, if_pos (by omega)]
              simpa using hz
            · rw [List.getElem?_append_right (by simp; omega)] at hu
              have hmin : min off cs.length = off := by omega
              simp only [List.length_take, hmin] at hu
              by_cases hk2 : k - off < vs.length
              · rw [List.getElem?_append_left hk2] at hu
                have hky : k - off < ys.length := by omega
                refine ⟨ys[k - off], ?_, hr (k - off) u _ hu (by simp [hky])⟩
                simp only [List.getElem?_toArray, List.append_assoc]
                have hmin2 : min (loc.base + off) c.size = loc.base + off := by omega
                rw [List.getElem?_append_right (by simp; omega), List.getElem?_append_left (by simp [hmin2]; omega)]
                simp only [List.length_take, Array.length_toList, hmin2]
                rw [show loc.base + k - (loc.base + off) = k - off from by omega]
                simp [hky]
              · rw [List.getElem?_append_right (by omega), List.getElem?_drop] at hu
                have hkk : off + vs.length + (k - off - vs.length) = k := by omega
                rw [hkk] at hu
                obtain ⟨z, hz, hz'⟩ := a4 k u hu
                refine ⟨z, ?_, hz'⟩
                simp only [List.getElem?_toArray, List.append_assoc]
                have hmin2 : min (loc.base + off) c.size = loc.base + off := by omega
                rw [List.getElem?_append_right (by simp; omega), List.getElem?_append_right (by simp [hmin2]; omega), List.getElem?_drop]
                simp only [List.length_take, Array.length_toList, hmin2]
                rw [show loc.base + off + ys.length + (loc.base + k - (loc.base + off) - ys.length) = loc.base + k from by omega]
                simpa using hz
    · rename_i n k xs hd hH
      cases hcond : (Nat.beq vs.length i.size && Nat.ble (off + vs.length) hd.length)
      · simp [hcond] at h
      · simp only [hcond, cond_true, Option.some.injEq] at h
        subst h
        obtain ⟨hsz, hfit⟩ := Bool.and_eq_true_iff.1 hcond
        have hsz := Nat.eq_of_beq_eq_true hsz
        have hfit := Nat.le_of_ble_eq_true hfit
        cases hx with
        | ptr _ _ _ loc hid hk =>
          obtain ⟨_, hb0, ob, zs, a1, ⟨hn, e', rfl⟩, a4⟩ := hR.objs id _ _ loc hH hid
          obtain ⟨ys, hys, hl, hr, hone⟩ := cells_spec hy h2
          have hdn : hd.length ≤ n := by
            rcases Nat.lt_or_ge n hd.length with g | g
            · obtain ⟨z, hz, _⟩ := a4 n hd[n] (by simp [g])
              have := (List.getElem?_eq_some_iff.1 hz).1
              omega
            · exact g
          have hrun := run_storeCells_at P loc.block (loc.base + off) e' ys 0 (zs ++ xs.map (Value.int k)).toArray w a1 (by simp; omega) hone
          simp only [Nat.add_zero] at hrun
          have harr : ((zs ++ xs.map (Value.int k)).toArray.toList.take (loc.base + off) ++ ys ++ (zs ++ xs.map (Value.int k)).toArray.toList.drop (loc.base + off + ys.length)).toArray = ((zs.take off ++ ys ++ zs.drop (off + ys.length)) ++ xs.map (Value.int k)).toArray := by
            rw [hb0, Nat.zero_add]
            congr 1
            rw [List.toList_toArray, List.take_append_of_le_length (by omega), List.drop_append_of_le_length (by omega)]
            simp only [List.append_assoc]
          refine ⟨_, ?_, Step.setPage (n := n) (k := k) (l' := xs) (xs' := zs.take off ++ ys ++ zs.drop (off + ys.length)) hR hH hid a1 (by simp; omega) hn harr rfl fun q v hv => ?_⟩
          · simp [Instr.storeAt, Instr.sureAddr, storeVar, hys, ti_size w h1, hl, hsz]
            rw [← hl] at hsz
            simpa [hsz, hl] using hrun
          · unfold splice at hv
            rw [List.append_assoc] at hv ⊢
            by_cases hq1 : q < off
            · rw [List.getElem?_append_left (by simp; omega), List.getElem?_take, if_pos hq1] at hv
              obtain ⟨z, hz, hz'⟩ := a4 q v hv
              exact ⟨z, by rw [List.getElem?_append_left (by simp; omega), List.getElem?_take, if_pos hq1]; exact hz, hz'⟩
            · have hm1 : (hd.take off).length = off := by simp; omega
              have hm2 : (zs.take off).length = off := by simp; omega
              rw [List.getElem?_append_right (by omega), hm1] at hv
              by_cases hq2 : q - off < vs.length
              · rw [List.getElem?_append_left hq2] at hv
                have hky : q - off < ys.length := by omega
                exact ⟨ys[q - off], by rw [List.getElem?_append_right (by omega), hm2, List.getElem?_append_left hky]; simp [hky], hr (q - off) v _ hv (by simp [hky])⟩
              · rw [List.getElem?_append_right (by omega), List.getElem?_drop, show off + vs.length + (q - off - vs.length) = q by omega] at hv
                obtain ⟨z, hz, hz'⟩ := a4 q v hv
                exact ⟨z, by rw [List.getElem?_append_right (by omega), hm2, List.getElem?_append_right (by omega), List.getElem?_drop, show off + ys.length + (q - off - ys.length) = q by omega]; exact hz, hz'⟩
    · cases h
  · cases h

theorem sound_storeZ {ty : TypeId} {a v : V} {x y : Value} {H' : List O} (hR : Rel w (Xs E H β) H β) (hx : R w (Xs E H β) β a x) (hy : R w (Xs E H β) β v y)
    (h : (oStoreZ P H ty a v).run = some H') : ∃ w', (Instr.storeAt ty x y).run P w = .ok () w' ∧ Step E H β w H' β w' := by
  rcases oStoreZ_spec h with h | ⟨id, off, n, k, xs, hd, m, i, rfl, rfl, hH, h1, h2, rfl, hi, hs⟩
  · exact sound_store hR hx hy h
  · cases hy
    cases hx with
    | ptr _ _ _ loc hid hk =>
    obtain ⟨_, hb0, ob, zs, a1, ⟨hn, e', rfl⟩, a4⟩ := hR.objs id _ _ loc hH hid
    have hrun := run_storeCells_at P loc.block (loc.base + off) e' [.int k m] 0 (zs ++ xs.map (Value.int k)).toArray w a1 (by simp; omega) (by simp [Value.oneCell'])
    simp only [Nat.add_zero] at hrun
    have harr : ((zs ++ xs.map (Value.int k)).toArray.toList.take (loc.base + off) ++ [Value.int k m] ++ (zs ++ xs.map (Value.int k)).toArray.toList.drop (loc.base + off + [Value.int k m].length)).toArray = (zs ++ (xs.set (off - n) m).map (Value.int k)).toArray := by
      rw [hb0, Nat.zero_add]
      congr 1
      apply List.ext_getElem?
      intro q
      simp only [List.length_cons, List.length_nil, Nat.zero_add, List.map_set]
      have hlen : (List.take off (zs ++ xs.map (Value.int k))).length = off := by simp; omega
      rw [List.append_assoc]
      by_cases hq : q < off
      · rw [List.getElem?_append_left (by omega), List.getElem?_take, if_pos hq]
        by_cases hq2 : q < n
        · rw [List.getElem?_append_left (by omega), List.getElem?_append_left (by omega)]
        · rw [List.getElem?_append_right (by omega), List.getElem?_append_right (by omega), List.getElem?_set_ne (by omega)]
      · rw [List.getElem?_append_right (by omega), hlen]
        by_cases hq2 : q = off
        · subst hq2
          rw [Nat.sub_self, List.getElem?_append_right (l₁ := zs) (by omega), hn, List.getElem?_set_self (by simp; omega)]
          rfl
        · rw [List.getElem?_append_right (by simp; omega), List.getElem?_drop]
          simp only [List.length_cons, List.length_nil, Nat.zero_add]
          rw [show off + 1 + (q - off - 1) = q by omega, List.getElem?_append_right (by omega), List.getElem?_append_right (by omega), List.getElem?_set_ne (by omega)]
    refine ⟨_, ?_, Step.setPage (n := n) (k := k) (l' := xs.set (off - n) m) (xs' := zs) hR hH hid a1 hn hn harr (by simp) a4⟩
    simp [Instr.storeAt, Instr.sureAddr, storeVar, Value.cells, ti_size w hi, hs]
    simpa using hrun

theorem sound_newVar {vs : List V} {y : Value} {ys : List Value} (e : TypeId) (hR : Rel w (Xs E H β) H β) (hys : y.cells = ys.toArray) (hl : ys.length = vs.length)
    (hr : ∀ (k : Nat) v z, vs[k]? = some v → ys[k]? = some z → R w (Xs E H β) β v z) :
    ∃ w' β', (newVar e y).run P w = .ok ⟨w.heap.size, 0, none⟩ w' ∧ Step E H β w (H ++ [.cells vs e]) β' w' ∧ R w' (Xs E (H ++ [.cells vs e]) β') β' (.ptr H.length 0) (.pointer (some ⟨w.heap.size, 0, none⟩)) := by
  refine ⟨w.alloc (.cells ys.toArray e), β ++ [{ kind := false, block := w.heap.size, base := 0, n := 0, size := ys.length }], ?_, ?_, ?_⟩
  · simp [newVar, newRow, hys]
  · refine Step.push hR ys.toArray e _ _ rfl (by simp) ?_ ?_
    · intro cs e' h
      simp only [O.cells.injEq] at h
      obtain ⟨rfl, rfl⟩ := h
      refine ⟨rfl, by simp [hl], fun k v hv => ?_⟩
      have hk : k < ys.length := by rw [hl]; exact (List.getElem?_eq_some_iff.1 hv).1
      exact ⟨ys[k], by simp [hk], hr k v _ hv (by simp [hk])⟩
    · intro n sz h; cases h
  · have := R.ptr (w := w.alloc (.cells ys.toArray e)) (X := Xs E (H ++ [.cells vs e]) (β ++ [{ kind := false, block := w.heap.size, base := 0, n := 0, size := ys.length }]))
      (β ++ [{ kind := false, block := w.heap.size, base := 0, n := 0, size := ys.length }]) H.length 0 { kind := false, block := w.heap.size, base := 0, n := 0, size := ys.length } (by rw [hR.len]; simp) rfl
    simpa using this

theorem zero_cells {t : TypeId} {i : TI} (h : ti P t = some i) : ∃ z, (∀ w, (zeroValue t).run P w = .ok z w) ∧ i.zero = z.cells.toList.map ofVal1 := by
  obtain ⟨j, d, h1, _, _, _, ⟨z, hz, hz'⟩, _⟩ := (ti_spec h).info
  exact ⟨z, fun w => by simp [zeroValue, typeInfo, h1, hz], hz'⟩

theorem sound_alloc {e : TypeId} {i : TI} (hR : Rel w (Xs E H β) H β) (h : ti P e = some i) :
    ∃ w' β', (Instr.alloc e true (.tuple #[])).run P w = .ok (.pointer (some ⟨w.heap.size, 0, none⟩)) w' ∧ Step E H β w (H ++ [.cells i.zero e]) β' w' ∧
      R w' (Xs E (H ++ [.cells i.zero e]) β') β' (.ptr H.length 0) (.pointer (some ⟨w.heap.size, 0, none⟩)) := by
  obtain ⟨z, hz, hz'⟩ := zero_cells h
  obtain ⟨w', β', h1, h2, h3⟩ := sound_newVar (P := P) (vs := i.zero) (y := z) (ys := z.cells.toList) e hR (by simp) (by simp [hz']) (by
    intro k v y hv hy
    rw [hz'] at hv
    simp only [List.getElem?_map, hy, Option.map_some, Option.some.injEq] at hv
    subst hv
    exact ofVal1_R _ _ _ _)
  exact ⟨w', β', by simp [Instr.alloc, hz, h1], h2, h3⟩

theorem sameInts_spec {k : IntKind} {x : Int} : ∀ {m : Nat} {cs : List V}, sameInts k x m cs = true → cs = (List.replicate m x).map (V.int k)
  | 0, [], _ => rfl
  | 0, _ :: _, h => by cases h
  | m + 1, [], h => by cases h
  | m + 1, v :: r, h => by
    cases v with
    | int l y =>
      unfold sameInts at h
      cases hl : decide (l = k) && decide (y = x)
      · rw [hl] at h; cases h
      rw [hl, cond_true] at h
      obtain ⟨h1, h2⟩ := Bool.and_eq_true_iff.1 hl
      have h1 := of_decide_eq_true h1
      have h2 := of_decide_eq_true h2
      subst h1 h2
      rw [List.replicate_succ, List.map_cons, ← sameInts_spec h]
    | _ => cases h
theorem newO_spec (P : Program) (e : TypeId) (cs : List V) : newO P e cs = .cells cs e ∨ ∃ n k l, newO P e cs = .obj (.page n k l) (cs.take n) ∧ cs = cs.take n ++ l.map (V.int k) ∧ n ≤ cs.length := by
  unfold newO
  split
  rotate_left
  · exact .inl rfl
  rename_i n m _
  split
  rotate_left
  · exact .inl rfl
  rename_i k x r hd
  cases hb : sameInts k x m (.int k x :: r) && Nat.ble n (cs.take n).length
  · exact .inl rfl
  · obtain ⟨h1, h2⟩ := Bool.and_eq_true_iff.1 hb
    refine .inr ⟨n, k, List.replicate m x, rfl, ?_, ?_⟩
    · rw [← sameInts_spec h1, ← hd, List.take_append_drop]
    · have h2 := Nat.le_of_ble_eq_true h2
      rw [List.length_take] at h2
      omega

theorem sound_box {e : TypeId} {v : V} {y : Value} {vs : List V} (hR : Rel w (Xs E H β) H β) (hy : R w (Xs E H β) β v y) (h : v.cells? = some vs) :
    ∃ w' β', (Instr.box e y).run P w = .ok (.pointer (some ⟨w.heap.size, 0, none⟩)) w' ∧ Step E H β w (H ++ [newO P e vs]) β' w' ∧
      R w' (Xs E (H ++ [newO P e vs]) β') β' (.ptr H.length 0) (.pointer (some ⟨w.heap.size, 0, none⟩)) := by
  obtain ⟨ys, hys, hl, hr, _⟩ := cells_spec hy h
  rcases newO_spec P e vs with h0 | ⟨n, k, l, h0, hvs, hn⟩
  · rw [h0]
    obtain ⟨w', β', h1, h2, h3⟩ := sound_newVar (P := P) e hR hys hl hr
    exact ⟨w', β', by simp [Instr.box, h1], h2, h3⟩
  · rw [h0]
    have hys2 : ys = ys.take n ++ l.map (Value.int k) := by
      apply List.ext_getElem?
      intro q
      have hlt : vs.length = n + l.length := by
        have := congrArg List.length hvs
        simp only [List.length_append, List.length_take, List.length_map] at this
        omega
      by_cases hq : q < n
      · rw [List.getElem?_append_left (by simp; omega), List.getElem?_take, if_pos hq]
      · rw [List.getElem?_append_right (by simp; omega)]
        have hm : (ys.take n).length = n := by simp; omega
        rw [hm, List.getElem?_map]
        by_cases hq2 : q - n < l.length
        · have hv : vs[q]? = some (.int k l[q - n]) := by
            rw [hvs, List.getElem?_append_right (by simp; omega), List.length_take, Nat.min_eq_left hn, List.getElem?_map, List.getElem?_eq_getElem hq2]
            rfl
          have hy' : ys[q]? = some ys[q] := List.getElem?_eq_getElem (by omega)
          have := hr q _ _ hv hy'
          rw [hy', List.getElem?_eq_getElem hq2]
          generalize ys[q] = z at this
          cases this
          rfl
        · rw [List.getElem?_eq_none (by omega), List.getElem?_eq_none (by omega)]
          rfl
    let loc : Loc := { kind := false, block := w.heap.size, base := 0, n := 0, size := ys.length }
    refine ⟨w.alloc (.cells ys.toArray e), β ++ [loc], by simp [Instr.box, newVar, newRow, hys], ?_, ?_⟩
    · refine Step.pushObjD hR (.cells ys.toArray e (0, 0)) (loc := loc) (xs := ys.take n) ⟨by simp; omega, e, by rw [← hys2]⟩ (fun q v hv => ?_) rfl rfl rfl
      have hq : q < n := by
        have := (List.getElem?_eq_some_iff.1 hv).1
        simp only [List.length_take] at this
        omega
      rw [List.getElem?_take, if_pos hq] at hv
      have hq2 : q < ys.length := by rw [hl]; exact (List.getElem?_eq_some_iff.1 hv).1
      exact ⟨ys[q], by rw [List.getElem?_take, if_pos hq]; simp [hq2], hr q v _ hv (by simp [hq2])⟩
    · have := R.ptr (w := w.alloc (.cells ys.toArray e)) (X := Xs E (H ++ [.obj (.page n k l) (vs.take n)]) (β ++ [loc])) (β ++ [loc]) H.length 0 loc (by rw [hR.len]; simp) rfl
      simpa [loc] using this

theorem pin_drop {cells : List V} {b o : Nat} (h : R w X β (.pin cells) (.pointer (some ⟨b, o, none⟩))) (k : Nat) : R w X β (.pin (cells.drop k)) (.pointer (some ⟨b, o + k, none⟩)) := by
  cases h with
  | pin _ _ _ _ f hc hr =>
    refine .pin β _ b (o + k) (fun j => f (k + j)) (fun j hj => ?_) (fun j v hv => ?_)
    · rw [Nat.add_assoc]
      exact hc (k + j) (by simp at hj; omega)
    · rw [List.getElem?_drop] at hv
      exact hr (k + j) v hv

theorem offs_spec {t : TypeId} {i : TI} {offs : List (Nat × Nat × Bool)} (h : ti P t = some i) (hk : i.k = .st offs) :
    ∃ fs : Array Field, P.underlying t = some (.struct fs) ∧ offs = fs.toList.map fun f => (f.offset, P.cellsOf f.type, isAggB P f.type) := by
  obtain ⟨j, d, h1, h2, _, _, _, h6, _⟩ := (ti_spec h).info
  rw [hk] at h6
  cases d with
  | struct fs => simp only [TK.st.injEq] at h6; exact ⟨fs, h2, h6⟩
  | _ => cases h6

theorem slice_spec {t : TypeId} {i : TI} {e : TypeId} (h : ti P t = some i) (hk : i.k = .slice e) : P.underlying t = some (.slice e) := by
  obtain ⟨j, d, h1, h2, _, _, _, h6, _⟩ := (ti_spec h).info
  rw [hk] at h6
  cases d with
  | slice e' => simp only [TK.slice.injEq] at h6; rw [h6]; exact h2
  | _ => cases h6

theorem arr_spec {t : TypeId} {i : TI} {n : Nat} {e : TypeId} (h : ti P t = some i) (hk : i.k = .arr n e) : P.underlying t = some (.array n e) := by
  obtain ⟨j, d, h1, h2, _, _, _, h6, _⟩ := (ti_spec h).info
  rw [hk] at h6
  cases d with
  | array n' e' => simp only [TK.arr.injEq] at h6; obtain ⟨rfl, rfl⟩ := h6; exact h2
  | _ => cases h6

theorem sound_fieldAddr {t : TypeId} {x v : V} {y : Value} {f : Nat} (hx : R w X β x y) (h : oFieldAddr P t x f = some v) :
    ∃ z, (Instr.fieldAt t y f).run P w = .ok z w ∧ R w X β v z := by
  unfold oFieldAddr at h
  split at h
  · rename_i i h1
    split at h
    · rename_i offs hk
      obtain ⟨fs, hu, hoffs⟩ := offs_spec h1 hk
      split at h
      · rename_i off size _ ho
        rw [hoffs] at ho
        simp only [List.getElem?_map, Option.map_eq_some_iff, Prod.mk.injEq] at ho
        obtain ⟨fl, hf, rfl, hsz, _⟩ := ho
        cases hb : Nat.beq size 0
        · simp only [hb, cond_false] at h
          have hne : size ≠ 0 := fun e => by subst e; simp at hb
          have hinfo : ∃ j, P.info? fl.type = some j ∧ j.size = size := by
            unfold Program.cellsOf at hsz
            cases hj : P.info? fl.type with
            | none => simp [hj] at hsz; omega
            | some j => exact ⟨j, rfl, by simpa [hj] using hsz⟩
          obtain ⟨j, hj, hjs⟩ := hinfo
          have hfa : fs[f]? = some fl := by simpa using hf
          have hrun : ∀ b o, (Instr.fieldAt t (.pointer (some ⟨b, o, none⟩)) f).run P w = .ok (.pointer (some ⟨b, o + fl.offset, none⟩)) w := by
            intro b o
            simp [Instr.fieldAt, run_und w hu, hfa, Instr.sureAddr, fieldPlace, run_sizeOf' w hj, hjs, hne, addr_add]
          split at h
          · rename_i id o
            simp only [Option.some.injEq] at h
            subst h
            cases hx with
            | ptr _ _ _ loc hid hk' =>
              refine ⟨_, hrun _ _, ?_⟩
              rw [Nat.add_assoc]
              exact .ptr β id (o + fl.offset) loc hid hk'
          · rename_i cells
            simp only [Option.some.injEq] at h
            subst h
            cases hx with
            | pin _ _ b o f' hc hr => exact ⟨_, hrun _ _, pin_drop (.pin β cells b o f' hc hr) _⟩
          · cases h
        · simp [hb] at h
      · cases h
    · cases h
  · cases h

theorem enc_size : ∀ (c : EC) (x : c.ty), (enc c x).length = c.size := by
  intro c
  refine EC.rec (motive_1 := fun c => ∀ x : c.ty, (enc c x).length = c.size) (motive_2 := fun cs => ∀ x : EC.tys cs, (encs cs x).length = EC.sizes cs) ?_ ?_ ?_ ?_ ?_ ?_ ?_ c
  · intro k x; rfl
  · intro x; rfl
  · intro x; rfl
  · intro c _ x; simp [enc, EC.size]
  · intro cs ih x; simpa [enc, EC.size] using ih x
  · intro x; rfl
  · intro c cs ih ihs x
    cases cs with
    | nil => simpa [encs, EC.sizes] using ih x
    | cons d cs =>
      simp only [encs, EC.sizes, List.length_append]
      rw [ih x.1, ihs x.2]

/-- An element's place. -/
theorem elem_pin {c : EC} {l : List c.ty} {m : Nat} {b o : Nat} {f : Nat → Nat → Value} {x : c.ty} (_hx : l[m]? = some x) (hc : ∀ k, k < c.size → ¬ X b (o + k) ∧ w.cell? ⟨b, o + k, none⟩ = some (f m k))
    (hr : ∀ (k : Nat) (v : V), (enc c x)[k]? = some v → R w X [] v (f m k)) : R w X β (.pin (enc c x)) (.pointer (some ⟨b, o, none⟩)) :=
  .pin β _ b o (f m) (fun k hk => hc k (by rw [enc_size] at hk; exact hk)) hr

theorem inside_spec {i : Int} {n : Nat} (h : inside i n = true) : 0 ≤ i ∧ i < n ∧ i.toNat < n := by
  simp only [inside, Bool.and_eq_true, decide_eq_true_eq] at h
  exact ⟨h.1, h.2, by omega⟩

theorem req_run {β : Type} {c : Bool} {x : Tree β} {b : β} (h : (Tree.req c x).run = some b) : c = true ∧ x.run = some b := by
  cases c
  · simp [Tree.req, Tree.run] at h
  · exact ⟨rfl, h⟩

theorem sound_indexAddr {t : TypeId} {x ix v : V} {y iy : Value} (hx : R w X β x y) (hi : R w X β ix iy) (h : (oIndexAddr P t x ix).run = some v) :
    ∃ z, (Instr.indexAt t y iy).run P w = .ok z w ∧ R w X β v z := by
  unfold oIndexAddr at h
  split at h
  · rename_i i k n h1
    cases hi
    split at h
    · rename_i e hk
      have hu := slice_spec h1 hk
      split at h
      · rename_i j hj
        split at h
        · rename_i c l sp fl
          cases hb : Nat.beq c.size j.size
          · simp [hb, Tree.run] at h
          · simp only [hb, cond_true] at h
            have hsz := Nat.eq_of_beq_eq_true hb
            obtain ⟨hin, h⟩ := req_run h
            simp only [Tree.run, Option.some.injEq] at h
            subst h
            obtain ⟨i0, i1, i2⟩ := inside_spec hin
            cases hx with
            | nil => simp at i2
            | sl _ _ _ _ _ b o cap f hcap hfull hrw hc hr =>
              refine ⟨.pointer (some ⟨b, o + n.toNat * j.size, none⟩), ?_, ?_⟩
              · simp [Instr.indexAt, asIntOf, run_und w hu, i0, i1, ti_size w hj, addr_add]
              · rw [List.getD_eq_getElem?_getD, List.getElem?_eq_getElem i2, Option.getD_some]
                refine elem_pin (l := l) (f := f) (m := n.toNat) (List.getElem?_eq_getElem i2) (fun k hk => ?_) (fun k u hu => ?_)
                · rw [← hsz]; exact hc n.toNat k (by omega) hk
                · exact hr n.toNat _ k u (by rw [List.getElem?_append_left i2]; exact List.getElem?_eq_getElem i2) hu
        · rename_i id c l
          cases hb : Nat.beq c.size j.size
          · simp [hb, Tree.run] at h
          · simp only [hb, cond_true] at h
            have hsz := Nat.eq_of_beq_eq_true hb
            obtain ⟨hin, h⟩ := req_run h
            simp only [Tree.run, Option.some.injEq] at h
            subst h
            obtain ⟨i0, i1, i2⟩ := inside_spec hin
            cases hx with
            | gro _ _ _ _ b o cap loc f hid hk hn hl hcap hc hr =>
              refine ⟨.pointer (some ⟨b, o + n.toNat * j.size, none⟩), ?_, ?_⟩
              · simp [Instr.indexAt, asIntOf, run_und w hu, i0, i1, ti_size w hj, addr_add]
              · rw [List.getD_eq_getElem?_getD, List.getElem?_eq_getElem i2, Option.getD_some]
                refine elem_pin (l := l) (f := f) (m := n.toNat) (List.getElem?_eq_getElem i2) (fun k hk => ?_) (fun k u hu => ?_)
                · rw [← hsz]; exact hc n.toNat k (by omega) hk
                · exact hr n.toNat _ k u (List.getElem?_eq_getElem i2) hu
        · rename_i id sz off len
          cases hb : Nat.beq sz j.size
          · simp [hb, Tree.run] at h
          · simp only [hb, cond_true] at h
            have hsz := Nat.eq_of_beq_eq_true hb
            obtain ⟨hin, h⟩ := req_run h
            simp only [Tree.run, Option.some.injEq] at h
            subst h
            obtain ⟨i0, i1, i2⟩ := inside_spec hin
            cases hx with
            | ref _ _ _ _ _ loc b o cap hid hk hlen ha hcap =>
              obtain ⟨rfl, rfl⟩ := ha (by omega)
              refine ⟨.pointer (some ⟨loc.block, loc.base + off + n.toNat * j.size, none⟩), ?_, ?_⟩
              · simp [Instr.indexAt, asIntOf, run_und w hu, i0, i1, ti_size w hj, addr_add]
              · rw [Nat.add_assoc, ← hsz]
                exact .ptr β id _ loc hid hk
        · cases h
      · cases h
    · rename_i len e hk
      have hu := arr_spec h1 hk
      split at h
      · rename_i j hj
        have hrun : ∀ b o, 0 ≤ n → n < len → (Instr.indexAt t (.pointer (some ⟨b, o, none⟩)) (.int k n)).run P w = .ok (.pointer (some ⟨b, o + n.toNat * j.size, none⟩)) w := by
          intro b o i0 i1
          simp [Instr.indexAt, asIntOf, run_und w hu, i0, i1, ti_size w hj, addr_add, Instr.sureAddr]
        split at h
        · rename_i id off
          obtain ⟨hin, h⟩ := req_run h
          simp only [Tree.run, Option.some.injEq] at h
          subst h
          obtain ⟨i0, i1, i2⟩ := inside_spec hin
          cases hx with
          | ptr _ _ _ loc hid hk' =>
            refine ⟨_, hrun _ _ i0 i1, ?_⟩
            rw [Nat.add_assoc]
            exact .ptr β id _ loc hid hk'
        · rename_i cells
          obtain ⟨hin, h⟩ := req_run h
          simp only [Tree.run, Option.some.injEq] at h
          subst h
          obtain ⟨i0, i1, i2⟩ := inside_spec hin
          cases hx with
          | pin _ _ b o f' hc hr => exact ⟨_, hrun _ _ i0 i1, pin_drop (.pin β cells b o f' hc hr) _⟩
        · cases h
      · cases h
    · cases h
  · cases h

end
end Go.Ab
