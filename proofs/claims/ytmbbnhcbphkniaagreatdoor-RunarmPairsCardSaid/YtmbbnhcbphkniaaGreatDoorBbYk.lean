/-
  The engine, part Yk: a loop over a map, in whatever order; the map is left alone. Conditions: none.
-/
import Derived.Test.YtmbbnhcbphkniaaGreatDoorBbYj
import Derived.Maps.RangeRun
namespace Go.Ab
open Go.ChangeMaps (setBlock)

section
variable {E : Nat → Nat → Prop} {H0 H H' : List O} {β0 β β' : List Loc} {w0 w w' : World} {n : Nat} {D : List Deferred} {t : T} {a : Act}

theorem Step.same {b : Nat} (s : Step E H β w H' β' w') (hu : ∀ o, ¬ Own H β b o) (hb : b < w.heap.size) : w'.heap[b]? = w.heap[b]? := by
  rcases s.pres b hb with h | ⟨⟨o, h⟩, _⟩ | ⟨⟨o, h⟩, _⟩
  · exact h
  · exact absurd h (hu o)
  · exact absurd h (hu o)
theorem Step.notOwn {b : Nat} (s : Step E H β w H' β' w') (hu : ∀ o, ¬ Own H β b o) (hb : b < w.heap.size) : ∀ o, ¬ Own H' β' b o := by
  intro o h
  rcases s.own b o h with h | h
  · exact hu o h
  · omega

/-- A block that is no row of cells and no object of ours is changed. -/
structure Side (H : List O) (β : List Loc) (r : Nat) (w w' : World) : Prop where
  other : ∀ b, b ≠ r → w'.heap[b]? = w.heap[b]?
  size : w.heap.size ≤ w'.heap.size
  spec : ∀ x, w.heap[r]? = some x → special x = true
  unowned : ∀ o, ¬ Own H β r o
  os : w'.os = w.os
  tape : w'.tape = w.tape
  output : w'.output = w.output

theorem Side.stab {r : Nat} {X : Nat → Nat → Prop} (h : Side H β r w w') : Stab w X w' X := by
  refine ⟨fun b o v hx hv => ⟨hx, ?_⟩, fun b cs e hb => ?_⟩
  · by_cases hb : b = r
    · subst hb
      exfalso
      cases hc : w.heap[b]? with
      | none =>
        have := cell_lt hv
        simp only [Array.getElem?_eq_none_iff] at hc
        omega
      | some x => rw [cell_special hc (h.spec x hc)] at hv; cases hv
    · rw [cell_heap (h.other b hb)]; exact hv
  · have hne : b ≠ r := fun e' => by
      subst e'
      have := h.spec _ hb
      cases this
    exact ⟨cs, e, by rw [h.other b hne]; exact hb⟩

theorem Side.rel {r : Nat} (h : Side H β r w w') (hR : Rel w (Xs E H β) H β) : Rel w' (Xs E H β) H β := by
  have ne : ∀ {id loc}, live H id → β[id]? = some loc → loc.block ≠ r := by
    intro id loc h1 h2 e
    obtain ⟨o, ho⟩ := live_own h1 h2
    rw [e] at ho
    exact h.unowned o ho
  refine ⟨hR.len, fun id cs e loc h1 h2 => ?_, fun id m sz loc h1 h2 => ?_, fun id sh vs loc h1 h2 => ?_, hR.disj⟩
  · obtain ⟨a1, c, e', a2, a3, a4, a5⟩ := hR.cells id cs e loc h1 h2
    exact ⟨a1, c, e', by rw [h.other _ (ne (live_cells h1) h2)]; exact a2, a3, a4, fun k v hv => let ⟨x, hx, hr⟩ := a5 k v hv; ⟨x, hx, hr.stab h.stab β (.refl _)⟩⟩
  · obtain ⟨a1, a2, c, e', a3, a4⟩ := hR.tok id m sz loc h1 h2
    exact ⟨a1, a2, c, e', by rw [h.other _ (ne (live_tok h1) h2)]; exact a3, a4⟩
  · obtain ⟨a1, a2, ob, xs, a3, a4, a5⟩ := hR.objs id sh vs loc h1 h2
    exact ⟨a1, a2, ob, xs, by rw [h.other _ (ne (live_obj h1) h2)]; exact a3, a4, fun k v hv => let ⟨x, hx, hr⟩ := a5 k v hv; ⟨x, hx, hr.stab h.stab β (.refl _)⟩⟩

theorem Good.side {r : Nat} (h : Side H β r w w') (hr : w0.heap.size ≤ r) (hg : Good E H0 β0 w0 n D t H β a w) : Good E H0 β0 w0 n D t H β a w' := by
  refine ⟨⟨h.rel hg.step.rel, h.os.trans hg.step.os, h.tape.trans hg.step.tape, h.output.trans hg.step.output, Nat.le_trans hg.step.size h.size, fun b hb => ?_, hg.step.own, hg.step.locs⟩,
    ⟨hg.fr.size, fun d => (hg.fr.slot d).stab h.stab β (.refl _)⟩, hg.defers⟩
  have e := h.other b (by omega)
  rcases hg.step.pres b hb with g | ⟨g1, c, c', e', g2, g3, g4⟩ | ⟨g1, x, y, g2, g3, g4⟩
  · exact .inl (e.trans g)
  · exact .inr (.inl ⟨g1, c, c', e', g2, e.trans g3, g4⟩)
  · exact .inr (.inr ⟨g1, x, y, g2, e.trans g3, g4⟩)

theorem own_dead {mid b o : Nat} (h : Own (H.set mid .dead) β b o) : Own H β b o := by
  obtain ⟨id, loc, h1, h2, h3⟩ := h
  refine ⟨id, loc, h1, h2, ?_⟩
  by_cases e : mid = id
  · subst e
    rcases h3 with ⟨cs, e, h3⟩ | ⟨m, sz, h3, _⟩ | ⟨sh, vs, h3⟩
    all_goals (rw [get_set] at h3; split at h3 <;> simp_all)
  · rw [List.getElem?_set_ne e] at h3
    exact h3

/-- An object is closed for a while. -/
theorem Good.hide {mid : Nat} (hg : Good E H0 β0 w0 n D t H β a w) : Good E H0 β0 w0 n D t (H.set mid .dead) β a w := by
  have hX : ∀ b o, Xs E (H.set mid .dead) β b o → Xs E H β b o := fun b o h => h.imp id own_dead
  have get : ∀ {id : Nat} {ob : O}, (H.set mid .dead)[id]? = some ob → ob ≠ O.dead → H[id]? = some ob := by
    intro id ob h1 h2
    by_cases e : mid = id
    · subst e
      rw [get_set] at h1
      split at h1 <;> simp_all
    · rw [List.getElem?_set_ne e] at h1; exact h1
  have hR := hg.step.rel
  refine ⟨⟨⟨by rw [List.length_set]; exact hR.len, fun id cs e loc h1 h2 => ?_, fun id m sz loc h1 h2 => hR.tok id m sz loc (get h1 (by simp)) h2, fun id sh vs loc h1 h2 => ?_, fun i j l l' h1 h2 h3 h4 h5 => ?_⟩, hg.step.os, hg.step.tape, hg.step.output, hg.step.size, hg.step.pres,
    fun b o h => hg.step.own b o (own_dead h), hg.step.locs⟩, ⟨hg.fr.size, fun d => (hg.fr.slot d).weak hX⟩, hg.defers⟩
  · obtain ⟨a1, c, e', a2, a3, a4, a5⟩ := hR.cells id cs e loc (get h1 (by simp)) h2
    exact ⟨a1, c, e', a2, a3, a4, fun k v hv => let ⟨x, hx, hr⟩ := a5 k v hv; ⟨x, hx, hr.weak hX⟩⟩
  · obtain ⟨a1, a2, ob, xs, a3, a4, a5⟩ := hR.objs id sh vs loc (get h1 (by simp)) h2
    exact ⟨a1, a2, ob, xs, a3, a4, fun k v hv => let ⟨x, hx, hr⟩ := a5 k v hv; ⟨x, hx, hr.weak hX⟩⟩
  · obtain ⟨o1, g1, g2⟩ := h1
    obtain ⟨o2, g3, g4⟩ := h2
    exact hR.disj i j l l' ⟨o1, get g1 g2, g2⟩ ⟨o2, get g3 g4, g4⟩ h3 h4 h5

/-- It is opened again. -/
theorem Good.show {mid : Nat} {sh : Shape} {vs : List V} {loc : Loc} {ob : Obj} {xs : List Value} (hg : Good E H0 β0 w0 n D t H β a w) (hm : H[mid]? = some .dead) (hl : β[mid]? = some loc)
    (hk : loc.kind = false) (hb : loc.base = 0) (ho : w.heap[loc.block]? = some ob) (hs : Shp sh ob xs) (hv : ∀ (k : Nat) v, vs[k]? = some v → ∃ x, xs[k]? = some x ∧ R w (Xs E H β) β v x)
    (hu : ∀ o, ¬ Own H β loc.block o) (hown : w0.heap.size ≤ loc.block ∨ ∀ o, Own H0 β0 loc.block o) (hp : sh.isPage = false := by rfl) : Good E H0 β0 w0 n D t (H.set mid (.obj sh vs)) β a w := by
  have hlt : mid < H.length := (List.getElem?_eq_some_iff.1 hm).1
  have get : ∀ id : Nat, (H.set mid (.obj sh vs))[id]? = if mid = id then some (.obj sh vs) else H[id]? := by
    intro id
    rw [get_set]
    by_cases e : mid = id
    · subst e; simp [hlt]
    · simp [e]
  have own2 : ∀ b o, Own (H.set mid (.obj sh vs)) β b o → Own H β b o ∨ b = loc.block := by
    rintro b o ⟨id, l, h1, h2, h3⟩
    by_cases e : mid = id
    · subst e
      rw [hl] at h1
      cases h1
      exact .inr h2.symm
    · refine .inl ⟨id, l, h1, h2, ?_⟩
      simp only [get, e, if_false] at h3
      exact h3
  have st : Stab w (Xs E H β) w (Xs E (H.set mid (.obj sh vs)) β) := by
    refine ⟨fun b o v hx hv => ⟨fun h => ?_, hv⟩, fun b cs e h => ⟨cs, e, h⟩⟩
    rcases h with h | h
    · exact hx (.inl h)
    · rcases own2 b o h with h | h
      · exact hx (.inr h)
      · subst h
        rw [cell_special ho (hs.special hp)] at hv
        cases hv
  have hR := hg.step.rel
  have up : ∀ {v x}, R w (Xs E H β) β v x → R w (Xs E (H.set mid (.obj sh vs)) β) β v x := fun h => h.stab st β (.refl _)
  refine ⟨⟨⟨by rw [List.length_set]; exact hR.len, fun id cs e l h1 h2 => ?_, fun id m sz l h1 h2 => ?_, fun id sh' vs' l h1 h2 => ?_, fun i j l l' h1 h2 h3 h4 h5 => ?_⟩, hg.step.os, hg.step.tape, hg.step.output, hg.step.size, hg.step.pres,
    fun b o h => ?_, hg.step.locs⟩, ⟨hg.fr.size, fun d => up (hg.fr.slot d)⟩, hg.defers⟩
  · rw [get] at h1
    split at h1
    · cases h1
    · obtain ⟨a1, c, e', a2, a3, a4, a5⟩ := hR.cells id cs e l h1 h2
      exact ⟨a1, c, e', a2, a3, a4, fun k v hv => let ⟨x, hx, hr⟩ := a5 k v hv; ⟨x, hx, up hr⟩⟩
  · rw [get] at h1
    split at h1
    · cases h1
    · exact hR.tok id m sz l h1 h2
  · rw [get] at h1
    split at h1
    · rename_i e
      subst e
      cases h1
      rw [hl] at h2
      cases h2
      exact ⟨hk, hb, ob, xs, ho, hs, fun k v h => let ⟨x, hx, hr⟩ := hv k v h; ⟨x, hx, up hr⟩⟩
    · obtain ⟨a1, a2, ob', xs', a3, a4, a5⟩ := hR.objs id sh' vs' l h1 h2
      exact ⟨a1, a2, ob', xs', a3, a4, fun k v hv => let ⟨x, hx, hr⟩ := a5 k v hv; ⟨x, hx, up hr⟩⟩
  · have cl : ∀ {i l}, live (H.set mid (.obj sh vs)) i → β[i]? = some l → (i = mid ∧ l = loc) ∨ (i ≠ mid ∧ live H i ∧ l.block ≠ loc.block) := by
      rintro i l ⟨o, g1, g2⟩ g3
      by_cases e : mid = i
      · subst e
        rw [hl] at g3
        cases g3
        exact .inl ⟨rfl, rfl⟩
      · simp only [get, e, if_false] at g1
        refine .inr ⟨fun h => e h.symm, ⟨o, g1, g2⟩, fun he => ?_⟩
        obtain ⟨o', ho'⟩ := live_own ⟨o, g1, g2⟩ g3
        rw [he] at ho'
        exact hu o' ho'
    rcases cl h1 h3 with ⟨e1, e2⟩ | ⟨e1, e2, e3⟩ <;> rcases cl h2 h4 with ⟨f1, f2⟩ | ⟨f1, f2, f3⟩
    · rw [e1, f1]
    · rw [e2] at h5; exact absurd h5.symm f3
    · rw [f2] at h5; exact absurd h5 e3
    · exact hR.disj i j l l' e2 f2 h3 h4 h5
  · rcases own2 b o h with h | h
    · exact hg.step.own b o h
    · subst h
      rcases hown with h | h
      · exact .inr h
      · exact .inl (h o)

/-! What an iterator has not handed out. -/

/-- The entries that are left, as keys and values. -/
def LeftOk (w : World) (X : Nat → Nat → Prop) (β : List Loc) (es : Array MapEntry) (seen : Array Nat) (left : List (Int × V)) : Prop :=
  ∃ l : List MapEntry, l.Perm (leftOf es seen).toList ∧ l.map (·.key) = left.map (fun p => Value.int .u64 p.1) ∧ ∀ (k : Nat) p e, left[k]? = some p → l[k]? = some e → R w X β p.2 e.val

theorem LeftOk.stab {X X' : Nat → Nat → Prop} {es : Array MapEntry} {seen : Array Nat} {left : List (Int × V)} (h : LeftOk w X β es seen left) (s : Stab w X w' X') (hl : LocLe β β') : LeftOk w' X' β' es seen left := by
  obtain ⟨l, h1, h2, h3⟩ := h
  exact ⟨l, h1, h2, fun k p e a b => (h3 k p e a b).stab s β' hl⟩

theorem filter_drop {e : MapEntry} : ∀ {l1 l2 : List MapEntry}, ((l1 ++ e :: l2).map (·.born)).Nodup → (l1 ++ e :: l2).filter (fun x => !(x.born == e.born)) = l1 ++ l2 := by
  intro l1 l2 h
  simp only [List.map_append, List.map_cons] at h
  obtain ⟨h1, h2, h3⟩ := List.nodup_append.1 h
  obtain ⟨h4, h5⟩ := List.nodup_cons.1 h2
  rw [List.filter_append, List.filter_cons]
  have e1 : l1.filter (fun x => !(x.born == e.born)) = l1 := List.filter_eq_self.2 fun x hx => by
    have := h3 x.born (List.mem_map_of_mem hx) e.born List.mem_cons_self
    simpa using this
  have e2 : l2.filter (fun x => !(x.born == e.born)) = l2 := List.filter_eq_self.2 fun x hx => by
    have : x.born ≠ e.born := fun he => h4 (he ▸ List.mem_map_of_mem hx)
    simpa using this
  rw [e1, e2]
  simp

theorem LeftOk.take {X : Nat → Nat → Prop} {es : Array MapEntry} {clock : Nat} {seen : Array Nat} {left : List (Int × V)} (hs : Go.MapKept.Stamped es clock) (h : LeftOk w X β es seen left) {e : MapEntry} (he : e ∈ (leftOf es seen).toList) :
    ∃ A p B, left = A ++ p :: B ∧ e.key = .int .u64 p.1 ∧ R w X β p.2 e.val ∧ LeftOk w X β es (seen.push e.born) (A ++ B) := by
  obtain ⟨l, h1, h2, h3⟩ := h
  have hm : e ∈ l := h1.mem_iff.2 he
  obtain ⟨l1, l2, rfl⟩ := List.append_of_mem hm
  have hlen : left.length = (l1 ++ e :: l2).length := by
    have := congrArg List.length h2
    simpa using this.symm
  have hlt : l1.length < left.length := by rw [hlen]; simp
  refine ⟨left.take l1.length, left[l1.length], left.drop (l1.length + 1), ?_, ?_, ?_, l1 ++ l2, ?_, ?_, ?_⟩
  · rw [← List.drop_eq_getElem_cons hlt, List.take_append_drop]
  · have := congrArg (fun x => x[l1.length]?) h2
    simp only [List.getElem?_map] at this
    rw [List.getElem?_append_right (Nat.le_refl _), Nat.sub_self, List.getElem?_eq_getElem hlt] at this
    simpa using this
  · refine h3 l1.length _ _ (List.getElem?_eq_getElem hlt) ?_
    rw [List.getElem?_append_right (Nat.le_refl _), Nat.sub_self]
    rfl
  · have hn : ((l1 ++ e :: l2).map (·.born)).Nodup := by
      have := (h1.map (·.born)).nodup_iff.2 ?_
      · exact this
      · unfold leftOf
        rw [Array.toList_filter]
        exact (List.filter_sublist.map _).nodup hs.2.1
    rw [← filter_drop hn]
    refine (h1.filter _).trans ?_
    have : (leftOf es (seen.push e.born)).toList = (leftOf es seen).toList.filter (fun x => !(x.born == e.born)) := by
      unfold leftOf
      rw [Array.toList_filter, Array.toList_filter, List.filter_filter]
      congr 1
      funext x
      rw [Array.contains_push]
      cases seen.contains x.born <;> cases x.born == e.born <;> rfl
    rw [this]
  · have e1 := congrArg (List.take l1.length) h2
    have e2 := congrArg (List.drop (l1.length + 1)) h2
    simp only [List.map_append, List.map_cons] at e1 e2
    rw [List.take_left' (by simp)] at e1
    have e2' : (l1.map (·.key) ++ e.key :: l2.map (·.key)).drop (l1.length + 1) = l2.map (·.key) := by
      rw [show l1.length + 1 = (l1.map (·.key)).length + 1 by simp, ← List.drop_drop, List.drop_left]
      rfl
    rw [e2'] at e2
    rw [List.map_append, List.map_append, e1, e2, List.map_take, List.map_drop]
  · intro k p e' hp he'
    by_cases hk : k < l1.length
    · rw [List.getElem?_append_left (by rw [List.length_take]; omega), List.getElem?_take, if_pos hk] at hp
      rw [List.getElem?_append_left hk] at he'
      exact h3 k p e' hp (by rw [List.getElem?_append_left hk]; exact he')
    · have hmin : (left.take l1.length).length = l1.length := by rw [List.length_take]; omega
      rw [List.getElem?_append_right (by omega), List.getElem?_drop, hmin] at hp
      rw [List.getElem?_append_right (by omega)] at he'
      refine h3 (l1.length + 1 + (k - l1.length)) p e' hp ?_
      rw [List.getElem?_append_right (by omega), show l1.length + 1 + (k - l1.length) - l1.length = (k - l1.length) + 1 by omega, List.getElem?_cons_succ]
      exact he'

theorem LeftOk.none {X : Nat → Nat → Prop} {es : Array MapEntry} {seen : Array Nat} {left : List (Int × V)} (h : LeftOk w X β es seen left) (h0 : (leftOf es seen).size = 0) : left = [] := by
  obtain ⟨l, h1, h2, _⟩ := h
  have : l.length = 0 := by rw [h1.length_eq]; simpa using h0
  have e := congrArg List.length h2
  simp only [List.length_map] at e
  exact List.length_eq_zero_iff.1 (by omega)
end
end Go.Ab
