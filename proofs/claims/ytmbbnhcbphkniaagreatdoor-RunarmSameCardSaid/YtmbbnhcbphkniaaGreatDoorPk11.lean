/-
  The engine, part Yk: a loop over a map, in whatever order; the map is left alone. Conditions: none.
-/
import Derived.Test.YtmbbnhcbphkniaaGreatDoorPk10
import Derived.Maps.RangeRun
import Derived.LoopN
set_option linter.unusedVariables false
set_option linter.unusedSimpArgs false
namespace Go.Ab
open Go.ChangeMaps (setBlock)
section
variable {E : Nat → Nat → Prop} {H0 H H' : List O} {β0 β β' : List Loc} {w0 w w' : World} {n : Nat} {D : List Deferred} {t : T} {a : Act}
theorem Step.same {b : Nat} (s : Step E H β w H' β' w') (hu : ∀ o, ¬ Own H β b o) (hb : b < w.heap.size) : w'.heap[b]? = w.heap[b]? := by
  rcases s.pres b hb with h | ⟨⟨o, h⟩, _⟩ | ⟨⟨o, h⟩, _⟩
  · exact h
  · exact absurd h (hu o)
  · exact absurd h (hu o)
theorem Step.notOwn {b : Nat} (s : Step E H β w H' β' w') (hu : ∀ o, ¬ Own H β b o) (hb : b < w.heap.size) : ∀ o, ¬ Own H' β' b o := by
  intro o h
  rcases s.own b o h with h | h
  · exact hu o h
  · omega
structure Side (H : List O) (β : List Loc) (r : Nat) (w w' : World) : Prop where
  other : ∀ b, b ≠ r → w'.heap[b]? = w.heap[b]?
  size : w.heap.size ≤ w'.heap.size
  spec : ∀ x, w.heap[r]? = some x → special x = true
  unowned : ∀ o, ¬ Own H β r o
  os : w'.os = w.os
  tape : w'.tape = w.tape
  output : w'.output = w.output
theorem Side.stab {r : Nat} {X : Nat → Nat → Prop} (h : Side H β r w w') : Stab w X w' X := by
  refine ⟨fun b o v hx hv => ⟨hx, ?_⟩, fun b cs e hb => ?_⟩
  · by_cases hb : b = r
    · subst hb
      exfalso
      cases hc : w.heap[b]? with
      | none =>
        have := cell_lt hv
        simp only [Array.getElem?_eq_none_iff] at hc
        omega
      | some x => rw [cell_special hc (h.spec x hc)] at hv; cases hv
    · rw [cell_heap (h.other b hb)]; exact hv
  · have hne : b ≠ r := fun e' => by
      subst e'
      have := h.spec _ hb
      cases this
    exact ⟨cs, e, by rw [h.other b hne]; exact hb⟩
theorem Side.rel {r : Nat} (h : Side H β r w w') (hR : Rel w (Xs E H β) H β) : Rel w' (Xs E H β) H β := by
  have ne : ∀ {id loc}, live H id → β[id]? = some loc → loc.block ≠ r := by
    intro id loc h1 h2 e
    obtain ⟨o, ho⟩ := live_own h1 h2
    rw [e] at ho
    exact h.unowned o ho
  refine ⟨hR.len, fun id cs e loc h1 h2 => ?_, fun id m sz loc h1 h2 => ?_, fun id sh vs loc h1 h2 => ?_, hR.disj⟩
  · obtain ⟨a1, c, e', a2, a3, a4, a5⟩ := hR.cells id cs e loc h1 h2
    exact ⟨a1, c, e', by rw [h.other _ (ne (live_cells h1) h2)]; exact a2, a3, a4, fun k v hv => let ⟨x, hx, hr⟩ := a5 k v hv; ⟨x, hx, hr.stab h.stab β (.refl _)⟩⟩
  · obtain ⟨a1, a2, c, e', a3, a4⟩ := hR.tok id m sz loc h1 h2
    exact ⟨a1, a2, c, e', by rw [h.other _ (ne (live_tok h1) h2)]; exact a3, a4⟩
  · obtain ⟨a1, a2, ob, xs, a3, a4, a5⟩ := hR.objs id sh vs loc h1 h2
    exact ⟨a1, a2, ob, xs, by rw [h.other _ (ne (live_obj h1) h2)]; exact a3, a4, fun k v hv => let ⟨x, hx, hr⟩ := a5 k v hv; ⟨x, hx, hr.stab h.stab β (.refl _)⟩⟩
theorem Good.side {r : Nat} (h : Side H β r w w') (hr : w0.heap.size ≤ r) (hg : Good E H0 β0 w0 n D t H β a w) : Good E H0 β0 w0 n D t H β a w' := by
  refine ⟨⟨h.rel hg.step.rel, h.os.trans hg.step.os, h.tape.trans hg.step.tape, h.output.trans hg.step.output, Nat.le_trans hg.step.size h.size, fun b hb => ?_, hg.step.own, hg.step.locs⟩,
    ⟨hg.fr.size, fun d => (hg.fr.slot d).stab h.stab β (.refl _)⟩, hg.defers⟩
  have e := h.other b (by omega)
  rcases hg.step.pres b hb with g | ⟨g1, c, c', e', g2, g3, g4⟩ | ⟨g1, x, y, g2, g3, g4⟩
  · exact .inl (e.trans g)
  · exact .inr (.inl ⟨g1, c, c', e', g2, e.trans g3, g4⟩)
  · exact .inr (.inr ⟨g1, x, y, g2, e.trans g3, g4⟩)
theorem own_dead {mid b o : Nat} (h : Own (H.set mid .dead) β b o) : Own H β b o := by
  obtain ⟨id, loc, h1, h2, h3⟩ := h
  refine ⟨id, loc, h1, h2, ?_⟩
  by_cases e : mid = id
  · subst e
    rcases h3 with ⟨cs, e, h3⟩ | ⟨m, sz, h3, _⟩ | ⟨sh, vs, h3⟩
    all_goals (rw [get_set] at h3; split at h3 <;> simp_all)
  · rw [List.getElem?_set_ne e] at h3
    exact h3
theorem Good.hide {mid : Nat} (hg : Good E H0 β0 w0 n D t H β a w) : Good E H0 β0 w0 n D t (H.set mid .dead) β a w := by
  have hX : ∀ b o, Xs E (H.set mid .dead) β b o → Xs E H β b o := fun b o h => h.imp id own_dead
  have get : ∀ {id : Nat} {ob : O}, (H.set mid .dead)[id]? = some ob → ob ≠ O.dead → H[id]? = some ob := by
    intro id ob h1 h2
    by_cases e : mid = id
    · subst e
      rw [get_set] at h1
      split at h1 <;> simp_all
    · rw [List.getElem?_set_ne e] at h1; exact h1
  have hR := hg.step.rel
  refine ⟨⟨⟨by rw [List.length_set]; exact hR.len, fun id cs e loc h1 h2 => ?_, fun id m sz loc h1 h2 => hR.tok id m sz loc (get h1 (by simp)) h2, fun id sh vs loc h1 h2 => ?_, fun i j l l' h1 h2 h3 h4 h5 => ?_⟩, hg.step.os, hg.step.tape, hg.step.output, hg.step.size, hg.step.pres,
    fun b o h => hg.step.own b o (own_dead h), hg.step.locs⟩, ⟨hg.fr.size, fun d => (hg.fr.slot d).weak hX⟩, hg.defers⟩
  · obtain ⟨a1, c, e', a2, a3, a4, a5⟩ := hR.cells id cs e loc (get h1 (by simp)) h2
    exact ⟨a1, c, e', a2, a3, a4, fun k v hv => let ⟨x, hx, hr⟩ := a5 k v hv; ⟨x, hx, hr.weak hX⟩⟩
  · obtain ⟨a1, a2, ob, xs, a3, a4, a5⟩ := hR.objs id sh vs loc (get h1 (by simp)) h2
    exact ⟨a1, a2, ob, xs, a3, a4, fun k v hv => let ⟨x, hx, hr⟩ := a5 k v hv; ⟨x, hx, hr.weak hX⟩⟩
  · obtain ⟨o1, g1, g2⟩ := h1
    obtain ⟨o2, g3, g4⟩ := h2
    exact hR.disj i j l l' ⟨o1, get g1 g2, g2⟩ ⟨o2, get g3 g4, g4⟩ h3 h4 h5
theorem Good.show {mid : Nat} {sh : Shape} {vs : List V} {loc : Loc} {ob : Obj} {xs : List Value} (hg : Good E H0 β0 w0 n D t H β a w) (hm : H[mid]? = some .dead) (hl : β[mid]? = some loc)
    (hk : loc.kind = false) (hb : loc.base = 0) (ho : w.heap[loc.block]? = some ob) (hs : Shp sh ob xs) (hv : ∀ (k : Nat) v, vs[k]? = some v → ∃ x, xs[k]? = some x ∧ R w (Xs E H β) β v x)
    (hu : ∀ o, ¬ Own H β loc.block o) (hown : w0.heap.size ≤ loc.block ∨ ∀ o, Own H0 β0 loc.block o) (hp : sh.isPage = false := by rfl) : Good E H0 β0 w0 n D t (H.set mid (.obj sh vs)) β a w := by
  have hlt : mid < H.length := (List.getElem?_eq_some_iff.1 hm).1
  have get : ∀ id : Nat, (H.set mid (.obj sh vs))[id]? = if mid = id then some (.obj sh vs) else H[id]? := by
    intro id
    rw [get_set]
    by_cases e : mid = id
    · subst e; simp [hlt]
    · simp [e]
  have own2 : ∀ b o, Own (H.set mid (.obj sh vs)) β b o → Own H β b o ∨ b = loc.block := by
    rintro b o ⟨id, l, h1, h2, h3⟩
    by_cases e : mid = id
    · subst e
      rw [hl] at h1
      cases h1
      exact .inr h2.symm
    · refine .inl ⟨id, l, h1, h2, ?_⟩
      simp only [get, e, if_false] at h3
      exact h3
  have st : Stab w (Xs E H β) w (Xs E (H.set mid (.obj sh vs)) β) := by
    refine ⟨fun b o v hx hv => ⟨fun h => ?_, hv⟩, fun b cs e h => ⟨cs, e, h⟩⟩
    rcases h with h | h
    · exact hx (.inl h)
    · rcases own2 b o h with h | h
      · exact hx (.inr h)
      · subst h
        rw [cell_special ho (hs.special hp)] at hv
        cases hv
  have hR := hg.step.rel
  have up : ∀ {v x}, R w (Xs E H β) β v x → R w (Xs E (H.set mid (.obj sh vs)) β) β v x := fun h => h.stab st β (.refl _)
  refine ⟨⟨⟨by rw [List.length_set]; exact hR.len, fun id cs e l h1 h2 => ?_, fun id m sz l h1 h2 => ?_, fun id sh' vs' l h1 h2 => ?_, fun i j l l' h1 h2 h3 h4 h5 => ?_⟩, hg.step.os, hg.step.tape, hg.step.output, hg.step.size, hg.step.pres,
    fun b o h => ?_, hg.step.locs⟩, ⟨hg.fr.size, fun d => up (hg.fr.slot d)⟩, hg.defers⟩
  · rw [get] at h1
    split at h1
    · cases h1
    · obtain ⟨a1, c, e', a2, a3, a4, a5⟩ := hR.cells id cs e l h1 h2
      exact ⟨a1, c, e', a2, a3, a4, fun k v hv => let ⟨x, hx, hr⟩ := a5 k v hv; ⟨x, hx, up hr⟩⟩
  · rw [get] at h1
    split at h1
    · cases h1
    · exact hR.tok id m sz l h1 h2
  · rw [get] at h1
    split at h1
    · rename_i e
      subst e
      cases h1
      rw [hl] at h2
      cases h2
      exact ⟨hk, hb, ob, xs, ho, hs, fun k v h => let ⟨x, hx, hr⟩ := hv k v h; ⟨x, hx, up hr⟩⟩
    · obtain ⟨a1, a2, ob', xs', a3, a4, a5⟩ := hR.objs id sh' vs' l h1 h2
      exact ⟨a1, a2, ob', xs', a3, a4, fun k v hv => let ⟨x, hx, hr⟩ := a5 k v hv; ⟨x, hx, up hr⟩⟩
  · have cl : ∀ {i l}, live (H.set mid (.obj sh vs)) i → β[i]? = some l → (i = mid ∧ l = loc) ∨ (i ≠ mid ∧ live H i ∧ l.block ≠ loc.block) := by
      rintro i l ⟨o, g1, g2⟩ g3
      by_cases e : mid = i
      · subst e
        rw [hl] at g3
        cases g3
        exact .inl ⟨rfl, rfl⟩
      · simp only [get, e, if_false] at g1
        refine .inr ⟨fun h => e h.symm, ⟨o, g1, g2⟩, fun he => ?_⟩
        obtain ⟨o', ho'⟩ := live_own ⟨o, g1, g2⟩ g3
        rw [he] at ho'
        exact hu o' ho'
    rcases cl h1 h3 with ⟨e1, e2⟩ | ⟨e1, e2, e3⟩ <;> rcases cl h2 h4 with ⟨f1, f2⟩ | ⟨f1, f2, f3⟩
    · rw [e1, f1]
    · rw [e2] at h5; exact absurd h5.symm f3
    · rw [f2] at h5; exact absurd h5 e3
    · exact hR.disj i j l l' e2 f2 h3 h4 h5
  · rcases own2 b o h with h | h
    · exact hg.step.own b o h
    · subst h
      rcases hown with h | h
      · exact .inr h
      · exact .inl (h o)
def LeftOk (w : World) (X : Nat → Nat → Prop) (β : List Loc) (es : Array MapEntry) (seen : Array Nat) (left : List (Int × V)) : Prop :=
  ∃ l : List MapEntry, l.Perm (leftOf es seen).toList ∧ l.map (·.key) = left.map (fun p => Value.int .u64 p.1) ∧ ∀ (k : Nat) p e, left[k]? = some p → l[k]? = some e → R w X β p.2 e.val
theorem LeftOk.stab {X X' : Nat → Nat → Prop} {es : Array MapEntry} {seen : Array Nat} {left : List (Int × V)} (h : LeftOk w X β es seen left) (s : Stab w X w' X') (hl : LocLe β β') : LeftOk w' X' β' es seen left := by
  obtain ⟨l, h1, h2, h3⟩ := h
  exact ⟨l, h1, h2, fun k p e a b => (h3 k p e a b).stab s β' hl⟩
theorem filter_drop {e : MapEntry} : ∀ {l1 l2 : List MapEntry}, ((l1 ++ e :: l2).map (·.born)).Nodup → (l1 ++ e :: l2).filter (fun x => !(x.born == e.born)) = l1 ++ l2 := by
  intro l1 l2 h
  simp only [List.map_append, List.map_cons] at h
  obtain ⟨h1, h2, h3⟩ := List.nodup_append.1 h
  obtain ⟨h4, h5⟩ := List.nodup_cons.1 h2
  rw [List.filter_append, List.filter_cons]
  have e1 : l1.filter (fun x => !(x.born == e.born)) = l1 := List.filter_eq_self.2 fun x hx => by
    have := h3 x.born (List.mem_map_of_mem hx) e.born List.mem_cons_self
    simpa using this
  have e2 : l2.filter (fun x => !(x.born == e.born)) = l2 := List.filter_eq_self.2 fun x hx => by
    have : x.born ≠ e.born := fun he => h4 (he ▸ List.mem_map_of_mem hx)
    simpa using this
  rw [e1, e2]
  simp
theorem LeftOk.take {X : Nat → Nat → Prop} {es : Array MapEntry} {clock : Nat} {seen : Array Nat} {left : List (Int × V)} (hs : Go.MapKept.Stamped es clock) (h : LeftOk w X β es seen left) {e : MapEntry} (he : e ∈ (leftOf es seen).toList) :
    ∃ A p B, left = A ++ p :: B ∧ e.key = .int .u64 p.1 ∧ R w X β p.2 e.val ∧ LeftOk w X β es (seen.push e.born) (A ++ B) := by
  obtain ⟨l, h1, h2, h3⟩ := h
  have hm : e ∈ l := h1.mem_iff.2 he
  obtain ⟨l1, l2, rfl⟩ := List.append_of_mem hm
  have hlen : left.length = (l1 ++ e :: l2).length := by
    have := congrArg List.length h2
    simpa using this.symm
  have hlt : l1.length < left.length := by rw [hlen]; simp
  refine ⟨left.take l1.length, left[l1.length], left.drop (l1.length + 1), ?_, ?_, ?_, l1 ++ l2, ?_, ?_, ?_⟩
  · rw [← List.drop_eq_getElem_cons hlt, List.take_append_drop]
  · have := congrArg (fun x => x[l1.length]?) h2
    simp only [List.getElem?_map] at this
    rw [List.getElem?_append_right (Nat.le_refl _), Nat.sub_self, List.getElem?_eq_getElem hlt] at this
    simpa using this
  · refine h3 l1.length _ _ (List.getElem?_eq_getElem hlt) ?_
    rw [List.getElem?_append_right (Nat.le_refl _), Nat.sub_self]
    rfl
  · have hn : ((l1 ++ e :: l2).map (·.born)).Nodup := by
      have := (h1.map (·.born)).nodup_iff.2 ?_
      · exact this
      · unfold leftOf
        rw [Array.toList_filter]
        exact (List.filter_sublist.map _).nodup hs.2.1
    rw [← filter_drop hn]
    refine (h1.filter _).trans ?_
    have : (leftOf es (seen.push e.born)).toList = (leftOf es seen).toList.filter (fun x => !(x.born == e.born)) := by
      unfold leftOf
      rw [Array.toList_filter, Array.toList_filter, List.filter_filter]
      congr 1
      funext x
      rw [Array.contains_push]
      cases seen.contains x.born <;> cases x.born == e.born <;> rfl
    rw [this]
  · have e1 := congrArg (List.take l1.length) h2
    have e2 := congrArg (List.drop (l1.length + 1)) h2
    simp only [List.map_append, List.map_cons] at e1 e2
    rw [List.take_left' (by simp)] at e1
    have e2' : (l1.map (·.key) ++ e.key :: l2.map (·.key)).drop (l1.length + 1) = l2.map (·.key) := by
      rw [show l1.length + 1 = (l1.map (·.key)).length + 1 by simp, ← List.drop_drop, List.drop_left]
      rfl
    rw [e2'] at e2
    rw [List.map_append, List.map_append, e1, e2, List.map_take, List.map_drop]
  · intro k p e' hp he'
    by_cases hk : k < l1.length
    · rw [List.getElem?_append_left (by rw [List.length_take]; omega), List.getElem?_take, if_pos hk] at hp
      rw [List.getElem?_append_left hk] at he'
      exact h3 k p e' hp (by rw [List.getElem?_append_left hk]; exact he')
    · have hmin : (left.take l1.length).length = l1.length := by rw [List.length_take]; omega
      rw [List.getElem?_append_right (by omega), List.getElem?_drop, hmin] at hp
      rw [List.getElem?_append_right (by omega)] at he'
      refine h3 (l1.length + 1 + (k - l1.length)) p e' hp ?_
      rw [List.getElem?_append_right (by omega), show l1.length + 1 + (k - l1.length) - l1.length = (k - l1.length) + 1 by omega, List.getElem?_cons_succ]
      exact he'
theorem LeftOk.none {X : Nat → Nat → Prop} {es : Array MapEntry} {seen : Array Nat} {left : List (Int × V)} (h : LeftOk w X β es seen left) (h0 : (leftOf es seen).size = 0) : left = [] := by
  obtain ⟨l, h1, h2, _⟩ := h
  have : l.length = 0 := by rw [h1.length_eq]; simpa using h0
  have e := congrArg List.length h2
  simp only [List.length_map] at e
  exact List.length_eq_zero_iff.1 (by omega)
end
end Go.Ab

namespace Go.Ab
open Go.ChangeMaps (setBlock)
section
variable {P : Program} {n : Nat} {t : T} {H : List O}
theorem runs_cont {cx : Cx} (hT : CxOk cx) {ops : Array Oper} {E H0 β0 w0 D} (hs : StartOk cx.P E H0 β0 w0) {Q : AEx → T → List O → Prop} {K : Exit → Act → World → Prop} {l2 : List Oper} (hnone : ∀ v t H, ¬ Q (.panic v) t H) :
    ∀ (l : List Oper) (k : Nat) (t : T) (H : List O) (β : List Loc) (a : Act) (w : World), ops.toList.drop k = l ++ l2 → (druns cx ops l t H).all (fun s => Q s.1 s.2.1 s.2.2) →
      (∀ t H β a w, Q .normal t H → Good E H0 β0 w0 cx.n D t H β a w → wpOps cx.P ops K (List.range' (k + l.length) l2.length) a w) → Good E H0 β0 w0 cx.n D t H β a w → wpOps cx.P ops K (List.range' k (l.length + l2.length)) a w
  | [], k, t, H, β, a, w, _, h, hk, hg => by
    have := hk (keep cx.keeps t) H β a w h ⟨hg.step, hg.fr.keep _, hg.defers⟩
    simpa using this
  | o :: r, k, t, H, β, a, w, hl, h, hcont, hg => by
    have hk : ops.toList[k]? = some o := by
      have := congrArg (fun l => l[0]?) hl
      simpa using this
    have hk' : ops[k]? = some o := by simpa using hk
    have hr : ops.toList.drop (k + 1) = r ++ l2 := by
      have := congrArg List.tail hl
      simpa [List.tail_drop] using this
    have hcont' : ∀ t H β a w, Q .normal t H → Good E H0 β0 w0 cx.n D t H β a w → wpOps cx.P ops K (List.range' (k + 1 + r.length) l2.length) a w := by
      intro t H β a w h1 h2
      have := hcont t H β a w h1 h2
      rw [List.length_cons] at this
      rw [show k + 1 + r.length = k + (r.length + 1) by omega]
      exact this
    have ih := fun t H β a w h1 h2 => runs_cont hT hs (ops := ops) (Q := Q) (D := D) (K := K) hnone r (k + 1) t H β a w hr h1 hcont' h2
    rw [show (o :: r).length + l2.length = (r.length + l2.length) + 1 by rw [List.length_cons]; omega]
    simp only [List.range'_succ, wpOps, hk']
    have put : ∀ v x t H β a w, (dputs cx o v t H (druns cx ops r)).all (fun s => Q s.1 s.2.1 s.2.2) → R w (Xs E H β) β v x → Good E H0 β0 w0 cx.n D t H β a w →
        wpOps cx.P ops K (List.range' (k + 1) (r.length + l2.length)) (a.put o.dst x) w := by
      intro v x t H β a w hp hv hg
      unfold dputs putO at hp
      cases hd : o.dst with
      | none =>
        simp only [hd] at hp
        simp only [Act.put]
        exact ih t H β a w hp hg
      | some d =>
        simp only [hd] at hp
        cases hb : Nat.blt d cx.n
        · simp [hb, Tree.all] at hp
        · simp only [hb, cond_true] at hp
          have hlt : d < cx.n := by simpa [Nat.blt_eq] using hb
          exact ih _ H β _ w hp ⟨hg.step, hg.fr.put hlt hv, hg.defers⟩
    have run : ∀ t, FR w (Xs E H β) β cx.n t a → ((dop cx t H o).bind (dres cx o t (druns cx ops r))).all (fun s => Q s.1 s.2.1 s.2.2) →
        o.wp cx.P a w (wpOps cx.P ops K (List.range' (k + 1) (r.length + l2.length))) K := by
      intro t hfr hall
      obtain ⟨s, hs1, hs2⟩ := Tree.all_run hall
      obtain ⟨res, hres, hd⟩ := bind_run hs1
      refine dop_sound hT (hs.now hg.step) hg.step.rel hfr hres ?_
      cases res with
      | ok v H' =>
        intro x w' β' st hv
        exact put v x t H' β' a w' (Tree.run_all hd hs2) hv ⟨hg.step.trans st, hfr.step st, hg.defers⟩
      | pan v H' =>
        intro x w' β' st hv
        simp only [dres, Tree.run, Option.some.injEq] at hd
        subst hd
        exact absurd hs2 (hnone _ _ _)
    unfold druns dstep at h
    split at h
    · rename_i hgd
      have hw : Region.wanted o (yielded ops a.tmps) = true := by simp [Region.wanted, hgd]
      simp only [hw, if_true]
      exact .inl (run t hg.fr h)
    · rename_i j want hgd
      split at h
      rotate_left
      · exact h.elim
      rename_i d hd
      have hslot := hg.fr.slot d
      have hyield : ∀ b, a.tmps.getD d undef = .bool b → yielded ops a.tmps j = some b := by
        intro b hb
        unfold yielded
        rw [hd]
        simp only [Option.bind_some]
        rw [Array.getD_eq_getD_getElem?] at hb
        cases hq : a.tmps[d]? with
        | none => rw [hq] at hb; simp [undef] at hb
        | some q => rw [hq] at hb; simp at hb; subst hb; rfl
      split at h
      · rename_i b hb
        rw [hb] at hslot
        generalize hv : a.tmps.getD d undef = v at hslot
        cases hslot
        have hy := hyield b hv
        have hfr' := put_true hg.fr hb
        cases b
        · have h := h.2 rfl
          cases want
          · have hw : Region.wanted o (yielded ops a.tmps) = true := by simp [Region.wanted, hgd, hy]
            simp only [hw, if_true]
            exact .inl (run _ hfr' h)
          · have hw : Region.wanted o (yielded ops a.tmps) = false := by simp [Region.wanted, hgd, hy]
            simp only [hw, Bool.false_eq_true, if_false]
            exact put vundef undef _ H β a w h (.val _ _) ⟨hg.step, hfr', hg.defers⟩
        · have h := h.1 rfl
          cases want
          · have hw : Region.wanted o (yielded ops a.tmps) = false := by simp [Region.wanted, hgd, hy]
            simp only [hw, Bool.false_eq_true, if_false]
            exact put vundef undef _ H β a w h (.val _ _) ⟨hg.step, hfr', hg.defers⟩
          · have hw : Region.wanted o (yielded ops a.tmps) = true := by simp [Region.wanted, hgd, hy]
            simp only [hw, if_true]
            exact .inl (run _ hfr' h)
      · rename_i vs hb
        rw [hb] at hslot
        generalize hv : a.tmps.getD d undef = v at hslot
        cases hslot
        have hy : yielded ops a.tmps j = none := by
          unfold yielded
          rw [hd]
          simp only [Option.bind_some]
          rw [Array.getD_eq_getD_getElem?] at hv
          cases hq : a.tmps[d]? with
          | none => rfl
          | some q => rw [hq] at hv; simp at hv; subst hv; rfl
        have hw : Region.wanted o (yielded ops a.tmps) = false := by simp [Region.wanted, hgd, hy]
        simp only [hw, Bool.false_eq_true, if_false]
        exact put vundef undef t H β a w h (.val _ _) hg
      · exact h.elim
end
def itV (r : Nat) : V := .val (.pointer (some ⟨r, 0, none⟩))
section
variable {cx : Cx} {n : Nat} {E : Nat → Nat → Prop} {H0 : List O} {β0 : List Loc} {w0 : World} {D : List Deferred}
variable {ops3 ops4 : Array Oper} {post4 : List Oper} {rest : Code} {o3a o3b o4 : Oper} {i3 i0 i1 i4 d18 d19 d20 d21 : Nat}
structure ForMap (cx : Cx) (ops3 ops4 : Array Oper) (post4 : List Oper) (o3a o3b o4 : Oper) (d18 d19 d20 d21 : Nat) : Prop where
  ops3 : ops3 = #[o3a, o3b]
  ops4 : ops4.toList = o4 :: post4
  next : o3a.op = .next (.tmp d18) false
  ok : o3b.op = .extract (.tmp d19) 0
  entry : o4.op = .entry (.tmp d18)
  g3a : o3a.guard = none
  g3b : o3b.guard = none
  g4 : o4.guard = none
  t3a : o3a.dst = some d19
  t3b : o3b.dst = some d20
  t4 : o4.dst = some d21
  l19 : Nat.blt d19 cx.n = true
  l20 : Nat.blt d20 cx.n = true
  l21 : Nat.blt d21 cx.n = true
  n1 : Nat.beq d18 d19 = false
  n2 : Nat.beq d18 d20 = false
theorem eval_of_val {β : List Loc} {w : World} {X : Nat → Nat → Prop} {a : Act} {t : T} {d r : Nat} (h : FR w X β n t a) (hd : get d t = itV r) : a.eval (.tmp d) = .pointer (some ⟨r, 0, none⟩) := by
  have := rd_R h (.tmp d)
  simp only [rd, hd, itV] at this
  generalize a.eval (.tmp d) = y at this
  cases this
  rfl
theorem getD_set {a : Act} {d : Nat} {x : Value} (h : d < a.tmps.size) : Act.eval { a with tmps := a.tmps.setIfInBounds d x } (.tmp d) = x := by
  simp [Act.eval, Array.getD_eq_getD_getElem?, h]
theorem forMapW_rounds (hT : CxOk cx) (hs : StartOk cx.P E H0 β0 w0) (F : ForMap cx ops3 ops4 post4 o3a o3b o4 d18 d19 d20 d21) {r bm : Nat} {es : Array MapEntry} {clock : Nat} (hr0 : w0.heap.size ≤ r) (hst : Go.MapKept.Stamped es clock)
    {Inv : List (Int × V) → T → List O → Prop} (hInv : ∀ left t H, Inv left t H → get d18 t = itV r)
    (round : ∀ A p B t H, Inv (A ++ p :: B) t H → ∃ t1 H1, (druns cx ops4 post4 (put d21 (.tup [.int .u64 p.1, p.2]) (put d20 (.bool true) (put d19 .any t))) H).run = some (.normal, t1, H1) ∧ AWP cx.P cx.n rest (fun e t'' H'' => (e = .normal ∨ e = .exit i1) ∧ ∃ t2, TLe t'' t2 ∧ Inv (A ++ B) t2 H'') t1 H1)
    {K : Exit → Act → World → Prop} {J : List O → List Loc → World → Prop} (hJ : ∀ {H β w H' β' w'}, J H β w → Stab w (Xs E H β) w' (Xs E H' β') → LocLe β β' → J H' β' w')
    (done : ∀ t H β a w, J H β w → Inv [] t H → Good E H0 β0 w0 cx.n D (put d20 (.bool false) (put d19 .any t)) H β a w → w.heap[bm]? = some (.map es clock) → (∀ o, ¬ Own H β bm o) → K (.exit i0) a w) :
    ∀ (m : Nat) (left : List (Int × V)) (t : T) (H : List O) (β : List Loc) (a : Act) (w : World) (seen : Array Nat), left.length = m → J H β w → Inv left t H → Good E H0 β0 w0 cx.n D t H β a w →
      w.heap[r]? = some (.mapIter (some bm) clock seen clock) → w.heap[bm]? = some (.map es clock) → (∀ o, ¬ Own H β r o) → (∀ o, ¬ Own H β bm o) → LeftOk w (Xs E H β) β es seen left →
      Code.rounds cx.P (.seq (.region i3 ops3 false) (.seq (.cond (.tmp d20) .skip (.exit i0)) (.block i1 (.seq (.region i4 ops4 false) rest)))) K (m + 1) a w := by
  intro m
  induction m using Nat.strongRecOn with
  | _ m ih =>
  intro left t H β a w seen hlen hj hI hg hr hb hur hub hleft
  rw [rounds_succ]
  have hit := eval_of_val hg.fr (hInv _ _ _ hI)
  have hrlt : r < w.heap.size := heap_lt hr
  have hblt : bm < w.heap.size := heap_lt hb
  have hold : ∀ x ∈ es.toList, x.born < clock := hst.1
  have l19 : d19 < cx.n := by simpa [Nat.blt_eq] using F.l19
  have l20 : d20 < cx.n := by simpa [Nat.blt_eq] using F.l20
  have l21 : d21 < cx.n := by simpa [Nat.blt_eq] using F.l21
  have region3 : ∀ (w' : World) (b : Bool) (vs : Array Value) (K' : Exit → Act → World → Prop), (Instr.next (.pointer (some ⟨r, 0, none⟩)) false o3a.type).run cx.P w = .ok (.tuple vs) w' → vs[0]? = some (.bool b) →
      K' .normal ((a.put (some d19) (.tuple vs)).put (some d20) (.bool b)) w' → (Code.region i3 ops3 false).wp cx.P K' a w := by
    intro w' b vs K' hn hv hk
    refine wp_region ?_
    have h3 := F.ops3
    subst h3
    show wpOps cx.P #[o3a, o3b] K' [0, 1] a w
    have w1 : Region.wanted o3a (yielded #[o3a, o3b] a.tmps) = true := by simp [Region.wanted, F.g3a]
    have w2 : Region.wanted o3b (yielded #[o3a, o3b] (a.put (some d19) (.tuple vs)).tmps) = true := by simp [Region.wanted, F.g3b]
    have e1 : (a.put (some d19) (.tuple vs)).eval (.tmp d19) = .tuple vs := getD_set (by rw [hg.fr.size]; exact l19)
    have i0 : (#[o3a, o3b] : Array Oper)[0]? = some o3a := rfl
    have i1 : (#[o3a, o3b] : Array Oper)[1]? = some o3b := rfl
    simp only [wpOps, i0, i1, w1, if_true]
    refine .inl (wp_sem (s := Instr.next (.pointer (some ⟨r, 0, none⟩)) false o3a.type) (by simp only [execOp, F.next, hit]) hn ?_)
    rw [F.t3a]
    simp only [w2, if_true]
    refine .inl (wp_sem (s := Instr.extract (.tuple vs) 0) (w' := w') (x := .bool b) (by simp only [execOp, F.ok, e1]) (by simp [Instr.extract, hv]) ?_)
    rw [F.t3b]
    exact hk
  rcases run_next_at (P := cx.P) w o3a.type r bm clock clock seen es clock hr hb hold (Nat.le_refl _) with ⟨h0, hrun⟩ | ⟨e, he, w1, hw1, hrun⟩
  · -- nothing is left
    have hl := hleft.none h0
    subst hl
    refine wp_seq (region3 w false _ _ hrun rfl ?_)
    have hfr : FR w (Xs E H β) β cx.n (put d20 (.bool false) (put d19 .any t)) ((a.put (some d19) (.tuple #[.bool false])).put (some d20) (.bool false)) := (hg.fr.put l19 (.any _ _)).put l20 (.bool _ _)
    refine wp_seq ?_
    have hc : ((a.put (some d19) (.tuple #[.bool false])).put (some d20) (.bool false)).eval (.tmp d20) = .bool false := getD_set (Nat.lt_of_lt_of_eq l20 ((hg.fr.put (v := .any) (x := .tuple #[.bool false]) l19 (.any _ _)).size).symm)
    refine wp_cond hc ?_
    exact wp_exit (done _ _ _ _ _ hj hI ⟨hg.step, hfr, hg.defers⟩ hb hub)
  · obtain ⟨A, p, B, rfl, hkey, hval, hleft'⟩ := hleft.take hst he
    have hpar : (setBlock w1 r (.mapIter (some bm) clock (seen.push e.born) clock)).heap = w.heap.setIfInBounds r (.mapIter (some bm) clock (seen.push e.born) clock) := by
      rcases hw1 with rfl | rfl <;> rfl
    generalize hw2 : setBlock w1 r (.mapIter (some bm) clock (seen.push e.born) clock) = w2 at hrun hpar
    have hpos : w2.os = w.os ∧ w2.tape = w.tape ∧ w2.output = w.output := by
      subst hw2
      rcases hw1 with rfl | rfl <;> exact ⟨rfl, rfl, rfl⟩
    obtain ⟨hsame, hne⟩ := Go.MapKept.heap_set (o' := .mapIter (some bm) clock (seen.push e.born) clock) hr
    have sd : Side H β r w w2 := ⟨fun b hb => by rw [hpar]; exact hne b hb, by rw [hpar]; simp, fun x hx => by rw [hr] at hx; cases hx; rfl, hur, hpos.1, hpos.2.1, hpos.2.2⟩
    have hg2 := hg.side sd hr0
    have hr2 : w2.heap[r]? = some (.mapIter (some bm) clock (seen.push e.born) clock) := by rw [hpar]; exact hsame
    have hrb : bm ≠ r := fun h => by rw [h] at hb; rw [hr] at hb; cases hb
    have hb2 : w2.heap[bm]? = some (.map es clock) := by rw [hpar, hne bm hrb]; exact hb
    refine wp_seq (region3 w2 true _ _ hrun rfl ?_)
    generalize ha2 : (a.put (some d19) (.tuple #[.bool true, e.key, e.val])).put (some d20) (.bool true) = a2
    have hfr : FR w2 (Xs E H β) β cx.n (put d20 (.bool true) (put d19 .any t)) a2 := by
      rw [← ha2]
      exact (hg2.fr.put l19 (.any _ _)).put l20 (.bool _ _)
    refine wp_seq ?_
    have hc : a2.eval (.tmp d20) = .bool true := by
      rw [← ha2]
      exact getD_set (Nat.lt_of_lt_of_eq l20 ((hg2.fr.put (v := .any) (x := .tuple #[.bool true, e.key, e.val]) l19 (.any _ _)).size).symm)
    refine wp_cond hc ?_
    refine wp_skip ?_
    refine wp_block ?_
    have hdef : a2.defers = D := by rw [← ha2]; exact hg.defers
    have gself : Good E H β w2 cx.n D (put d20 (.bool true) (put d19 .any t)) H β a2 w2 := ⟨Step.refl hg2.step.rel, hfr, hdef⟩
    have hit2 : a2.eval (.tmp d18) = .pointer (some ⟨r, 0, none⟩) := by
      refine eval_of_val hfr ?_
      have n1 : d18 ≠ d19 := fun h => by have := F.n1; rw [h] at this; simp at this
      have n2 : d18 ≠ d20 := fun h => by have := F.n2; rw [h] at this; simp at this
      rw [get_put, if_neg n2, get_put, if_neg n1]
      exact hInv _ _ _ hI
    have hent := run_entry_at (P := cx.P) w2 r bm clock seen es clock e hr2 hb2 (by
      have := he
      unfold leftOf at this
      simp only [Array.toList_filter, List.mem_filter] at this
      exact this.1) hst.2.1
    obtain ⟨t1, H1, hs1, hrest⟩ := round A p B t H hI
    refine wp_seq (wp_region ?_)
    have hsz4 : List.range ops4.size = 0 :: List.range' 1 post4.length := by
      have : ops4.size = post4.length + 1 := by
        have := congrArg List.length F.ops4
        simpa using this
      rw [this, List.range_eq_range', List.range'_succ]
    rw [hsz4]
    have h40 : ops4[0]? = some o4 := by
      have := congrArg (fun l => l[0]?) F.ops4
      simpa using this
    have w4 : Region.wanted o4 (yielded ops4 a2.tmps) = true := by simp [Region.wanted, F.g4]
    simp only [wpOps, h40, w4, if_true]
    refine .inl (wp_sem (s := Instr.entry (.pointer (some ⟨r, 0, none⟩))) (by simp only [execOp, F.entry, hit2]) hent ?_)
    rw [F.t4]
    have gent : Good E H β w2 cx.n D (put d21 (.tup [.int .u64 p.1, p.2]) (put d20 (.bool true) (put d19 .any t))) H β (a2.put (some d21) (.tuple #[e.key, e.val])) w2 := by
      refine ⟨gself.step, hfr.put l21 ?_, hdef⟩
      refine .tup _ _ [e.key, e.val] rfl fun k v x h1 h2 => ?_
      match k, h1, h2 with
      | 0, h1, h2 => cases h1; cases h2; rw [hkey]; exact .int _ _ _
      | 1, h1, h2 => cases h1; cases h2; exact hval.stab sd.stab β (.refl _)
      | k + 2, h1, h2 => simp at h1
    have hs' : StartOk cx.P E H β w2 := hs.now hg2.step
    show wpOps cx.P ops4 _ (List.range' 1 (post4.length + ([] : List Oper).length)) _ _
    refine runs_cont hT hs' (ops := ops4) (D := D) (l2 := []) (Q := fun e t' H' => e = .normal ∧ t' = t1 ∧ H' = H1) (fun v t H h => by cases h.1) post4 1 _ _ _ _ _ (by rw [F.ops4, List.append_nil]; rfl) (Tree.run_all hs1 ⟨rfl, rfl, rfl⟩) ?_ gent
    · rintro t' H' β3 a3 w3 ⟨_, rfl, rfl⟩ g3
      show Exit.then _ _ .normal a3 w3
      have hcode := hrest E H β w2 D β3 a3 w3 hs' g3
      refine wp_mono hcode fun ex a4 w4 hp => ?_
      have fin : ∀ t4 H4 β4, (∃ t2, TLe t4 t2 ∧ Inv (A ++ B) t2 H4) → Good E H β w2 cx.n D t4 H4 β4 a4 w4 →
          Code.rounds cx.P (.seq (.region i3 ops3 false) (.seq (.cond (.tmp d20) .skip (.exit i0)) (.block i1 (.seq (.region i4 ops4 false) rest)))) K m a4 w4 := by
        rintro t4 H4 β4 ⟨t5, hle, hI5⟩ g4
        have hm : m = (A ++ B).length + 1 := by rw [← hlen]; simp; omega
        rw [hm]
        have st := g4.step
        have hrl : r < w2.heap.size := heap_lt hr2
        have hbl : bm < w2.heap.size := heap_lt hb2
        refine ih (A ++ B).length (by omega) (A ++ B) t5 H4 β4 a4 w4 (seen.push e.born) rfl (hJ (hJ hj sd.stab (.refl _)) st.stab st.locs) hI5 ⟨hg2.step.trans st, g4.fr.le hle, g4.defers⟩ ?_ ?_ (st.notOwn hur hrl) (st.notOwn hub hbl) ?_
        · rw [st.same hur hrl]; exact hr2
        · rw [st.same hub hbl]; exact hb2
        · exact (hleft'.stab sd.stab (.refl _)).stab st.stab st.locs
      cases ex with
      | normal => obtain ⟨t4, H4, β4, ⟨_, h2⟩, g4⟩ := hp; exact fin t4 H4 β4 h2 g4
      | exit id =>
        obtain ⟨t4, H4, β4, ⟨h1, h2⟩, g4⟩ := hp
        have : id = i1 := by rcases h1 with h | h <;> cases h; rfl
        subst this
        show (if id = id then _ else _)
        rw [if_pos rfl]
        exact fin t4 H4 β4 h2 g4
      | ret => obtain ⟨t4, H4, β4, ⟨h1, h2⟩, g4⟩ := hp; rcases h1 with h | h <;> cases h
      | panic ch => obtain ⟨t4, H4, β4, v, x, ⟨h1, h2⟩, g4⟩ := hp; rcases h1 with h | h <;> cases h
      | goto l => exact hp.elim
      | outgrown => exact hp.elim
theorem AWP_forMapW {P : Program} {Q : AEx → T → List O → Prop} (hP : cx.P = P) (hn : cx.n = n) (hT : CxOk cx) (F : ForMap cx ops3 ops4 post4 o3a o3b o4 d18 d19 d20 d21)
    {ops2 : Array Oper} {o2 : Oper} {pre : List Oper} {mt kt et : TypeId} {mop : Operand} {i2 : Nat} (h2 : ops2.toList = pre ++ [o2]) (hop : o2.op = .range mt mop) (hg2 : o2.guard = none) (hd2 : o2.dst = some d18) (h18 : Nat.blt d18 cx.n = true)
    (hmt : cx.P.underlying mt = some (.map kt et)) {t t1 : T} {H : List O} {mid : Nat} {keys : List Int} {vs : List V} (ks : List Nat)
    (hpre : (druns { cx with keeps := ks } ops2 pre t H).run = some (.normal, t1, H)) (hm : rd t1 mop = .mp mid) (hH : H[mid]? = some (.obj (.map keys) vs)) (hlen : vs.length = keys.length)
    (Inv : Nat → List (Int × V) → T → List O → Prop) (start : ∀ r, ∃ t2, TLe (put d18 (itV r) t1) t2 ∧ Inv r (keys.zip vs) t2 (H.set mid .dead))
    (hdead : ∀ r left t H, Inv r left t H → H[mid]? = some .dead) (hit : ∀ r left t H, Inv r left t H → get d18 t = itV r)
    (round : ∀ r A p B t H, Inv r (A ++ p :: B) t H → ∃ t1 H1, (druns cx ops4 post4 (put d21 (.tup [.int .u64 p.1, p.2]) (put d20 (.bool true) (put d19 .any t))) H).run = some (.normal, t1, H1) ∧ AWP cx.P cx.n rest (fun e t'' H'' => (e = .normal ∨ e = .exit i1) ∧ ∃ t2, TLe t'' t2 ∧ Inv r (A ++ B) t2 H'') t1 H1)
    (done : ∀ r t H', Inv r [] t H' → Q .normal (put d20 (.bool false) (put d19 .any t)) (H'.set mid (.obj (.map keys) vs))) :
    AWP P n (.seq (.region i2 ops2 false) (.block i0 (.loop (.seq (.region i3 ops3 false) (.seq (.cond (.tmp d20) .skip (.exit i0)) (.block i1 (.seq (.region i4 ops4 false) rest))))))) Q t H := by
  subst hP
  subst hn
  intro E H0 β0 w0 D β a w hs hg
  refine wp_seq (wp_region ?_)
  have hsz : List.range ops2.size = List.range' 0 (pre.length + [o2].length) := by
    have : ops2.size = pre.length + 1 := by
      have := congrArg List.length h2
      simpa using this
    rw [this, List.range_eq_range']
    rfl
  rw [hsz]
  have h20 : ops2[pre.length]? = some o2 := by
    have := congrArg (fun l => l[pre.length]?) h2
    simpa using this
  refine runs_cont (cx := { cx with keeps := ks }) hT hs (ops := ops2) (D := D) (l2 := [o2]) (Q := fun e t' H' => e = .normal ∧ t' = t1 ∧ H' = H) (fun v t H h => by cases h.1) pre 0 _ _ _ _ _ (by rw [h2]; rfl) (Tree.run_all hpre ⟨rfl, rfl, rfl⟩) ?_ hg
  rintro t' H' β a w ⟨_, rfl, rfl⟩ hg
  rw [Nat.zero_add]
  have wd : Region.wanted o2 (yielded ops2 a.tmps) = true := by simp [Region.wanted, hg2]
  show wpOps cx.P ops2 _ [pre.length] a w
  simp only [wpOps, h20, wd, if_true]
  have hmR := rd_R hg.fr mop
  rw [hm] at hmR
  generalize hmv : a.eval mop = mv at hmR
  cases hmR with
  | mp _ _ loc hid hk =>
  obtain ⟨_, hb0, ob, xs, hob, ⟨arr, clock, l, rfl, hst, hpw, hperm, hkeys, hvals⟩, hvR⟩ := hg.step.rel.objs mid _ _ loc hH hid
  refine .inl (wp_sem (s := Instr.range mt (.map (some loc.block))) (by simp only [execOp, hop, hmv]) (run_range_map w mt kt et loc.block arr clock hmt hob) ?_)
  rw [hd2]
  have hblt : loc.block < w.heap.size := heap_lt hob
  have l18 : d18 < cx.n := by simpa [Nat.blt_eq] using h18
  have hown : w0.heap.size ≤ loc.block ∨ ∀ o, Own H0 β0 loc.block o := by
    by_cases h : w0.heap.size ≤ loc.block
    · exact .inl h
    · refine .inr fun o => ?_
      rcases hg.step.own loc.block o ⟨mid, loc, hid, rfl, .inr (.inr ⟨_, _, hH⟩)⟩ with h' | h'
      · exact h'
      · exact absurd h' h
  have hlt : mid < H'.length := (List.getElem?_eq_some_iff.1 hH).1
  have hdeadAt : (H'.set mid O.dead)[mid]? = some .dead := by rw [get_set]; simp [hlt]
  have hub : ∀ o, ¬ Own (H'.set mid .dead) β loc.block o := by
    rintro o ⟨id, l', h1, h2', h3⟩
    by_cases e : mid = id
    · subst e
      rw [hdeadAt] at h3
      rcases h3 with ⟨_, _, h3⟩ | ⟨_, _, h3, _⟩ | ⟨_, _, h3⟩ <;> cases h3
    · rw [List.getElem?_set_ne e] at h3
      refine e (hg.step.rel.disj mid id loc l' (live_obj hH) ?_ hid h1 h2'.symm)
      rcases h3 with ⟨_, _, h3⟩ | ⟨_, _, h3, _⟩ | ⟨_, _, h3⟩
      · exact live_cells h3
      · exact live_tok h3
      · exact live_obj h3
  have hur : ∀ o, ¬ Own (H'.set mid .dead) β w.heap.size o := by
    rintro o ⟨id, l', h1, h2', h3⟩
    have hl : live (H'.set mid .dead) id := by
      rcases h3 with ⟨_, _, h3⟩ | ⟨_, _, h3, _⟩ | ⟨_, _, h3⟩
      · exact live_cells h3
      · exact live_tok h3
      · exact live_obj h3
    have := live_lt hg.hide.step.rel hl h1
    omega
  have sd : Side (H'.set mid .dead) β w.heap.size w (w.alloc (.mapIter (some loc.block) clock #[] clock)) := by
    refine ⟨fun b hb => ?_, by simp, fun x hx => ?_, hur, rfl, rfl, rfl⟩
    · by_cases h : b < w.heap.size
      · exact heap_alloc_old w _ h
      · have h1 : w.heap[b]? = none := by simp; omega
        rw [h1]
        show (w.heap.push _)[b]? = none
        simp
        omega
    · simp at hx
  have hg1 : Good E H0 β0 w0 cx.n D t' (H'.set mid .dead) β a (w.alloc (.mapIter (some loc.block) clock #[] clock)) := (hg.hide).side sd hg.step.size
  obtain ⟨t2, hle, hI⟩ := start w.heap.size
  have hg2' : Good E H0 β0 w0 cx.n D t2 (H'.set mid .dead) β (a.put (some d18) (.pointer (some ⟨w.heap.size, 0, none⟩))) (w.alloc (.mapIter (some loc.block) clock #[] clock)) :=
    ⟨hg1.step, (hg1.fr.put (v := itV w.heap.size) l18 (.val _ _)).le hle, hg1.defers⟩
  show (Code.block i0 _).wp cx.P _ _ _
  refine wp_block (wp_loop_rounds ((keys.zip vs).length + 1) ?_)
  have hvals' : ∀ (k : Nat) v x, vs[k]? = some v → xs[k]? = some x → R w (Xs E H' β) β v x := by
    intro k v x h1 h2
    obtain ⟨x', h3, h4⟩ := hvR k v h1
    rw [h2] at h3
    cases h3
    exact h4
  have hxl : xs.length = keys.length := by
    rw [← hvals, List.length_map]
    have := congrArg List.length hkeys
    simpa using this
  have hXd : ∀ b o, Xs E (H'.set mid .dead) β b o → Xs E H' β b o := fun b o h => h.imp id own_dead
  let J : List O → List Loc → World → Prop := fun H β w => β[mid]? = some loc ∧ ∀ (k : Nat) v x, vs[k]? = some v → xs[k]? = some x → R w (Xs E H β) β v x
  refine forMapW_rounds (cx := cx) hT hs F (r := w.heap.size) (bm := loc.block) (es := arr) (clock := clock) (Inv := Inv w.heap.size) (J := J) hg.step.size hst (hit _) (round _) ?_ ?_ _ (keys.zip vs) t2 (H'.set mid .dead) β _ _ #[] rfl ⟨hid, fun k v x h1 h2 => ((hvals' k v x h1 h2).weak hXd).stab sd.stab β (.refl _)⟩ hI hg2'
    (heap_alloc_new _ _) ((heap_alloc_old _ _ hblt).trans hob) hur hub ?_
  · rintro H1 β1 w1 H2 β2 w2 ⟨h1, h2⟩ st hl
    refine ⟨?_, fun k v x a b => (h2 k v x a b).stab st β2 hl⟩
    obtain ⟨loc', g1, g2⟩ := hl mid loc h1
    rcases g2 with rfl | ⟨g2, _⟩
    · exact g1
    · rw [hk] at g2; cases g2
  · rintro t3 H3 β3 a3 w3 ⟨h1, h2⟩ hI3 hg3 hb3 hu3
    show (if i0 = i0 then _ else _)
    rw [if_pos rfl]
    refine ⟨_, _, β3, done _ _ _ hI3, hg3.show (hdead _ _ _ _ hI3) h1 hk hb0 hb3 ⟨arr, clock, l, rfl, hst, hpw, hperm, hkeys, hvals⟩ (fun k v hv => ?_) hu3 hown⟩
    have hk' : k < xs.length := by rw [hxl, ← hlen]; exact (List.getElem?_eq_some_iff.1 hv).1
    exact ⟨xs[k], by simp [hk'], h2 k v _ hv (by simp [hk'])⟩
  · refine ⟨l, ?_, ?_, fun k p e hp he => ?_⟩
    · have : leftOf arr #[] = arr := by
        unfold leftOf
        exact Array.filter_eq_self.2 fun x _ => by simp
      rw [this]
      exact hperm
    · rw [hkeys]
      have : keys = (keys.zip vs).map (·.1) := by rw [List.map_fst_zip]; omega
      conv => lhs; rw [this]
      rw [List.map_map]
      rfl
    · have hkv : vs[k]? = some p.2 := by
        have := List.getElem?_zip_eq_some.1 hp
        exact this.2
      have hx : xs[k]? = some e.val := by rw [← hvals, List.getElem?_map, he]; rfl
      exact ((hvals' k _ _ hkv hx).weak hXd).stab sd.stab β (.refl _)
end
end Go.Ab

namespace Go.Ab
def rngH (A : List O) (pre : List V) (v : V) (post : List V) (e : TypeId) (B : List O) : List O := A ++ .cells (pre ++ v :: post) e :: B
section
variable {P : Program} {E : Nat → Nat → Prop} {β : List Loc} {w : World} {X : Nat → Nat → Prop} {A B : List O} {pre post : List V} {e : TypeId} {u v : V}
theorem rngH_get (id : Nat) (ob : O) (h : (rngH A pre u post e B)[id]? = some ob) : (id = A.length ∧ ob = .cells (pre ++ u :: post) e ∧ (rngH A pre v post e B)[id]? = some (.cells (pre ++ v :: post) e)) ∨ (id ≠ A.length ∧ (rngH A pre v post e B)[id]? = some ob) := by
  unfold rngH at h ⊢
  by_cases h1 : id < A.length
  · rw [List.getElem?_append_left h1] at h ⊢
    exact .inr ⟨by omega, h⟩
  · rw [List.getElem?_append_right (by omega)] at h ⊢
    cases hk : id - A.length with
    | zero =>
      rw [hk] at h
      simp only [List.getElem?_cons_zero, Option.some.injEq] at h ⊢
      exact .inl ⟨by omega, h.symm, trivial⟩
    | succ m =>
      rw [hk] at h
      simp only [List.getElem?_cons_succ] at h ⊢
      exact .inr ⟨by omega, h⟩
theorem rngH_own (b o : Nat) (h : Own (rngH A pre u post e B) β b o) : Own (rngH A pre v post e B) β b o := by
  obtain ⟨id, loc, h1, h2, h3⟩ := h
  refine ⟨id, loc, h1, h2, ?_⟩
  rcases h3 with ⟨cs, e', h3⟩ | ⟨n, sz, h3, h4⟩ | ⟨sh, vs, h3⟩
  · rcases rngH_get (v := v) id _ h3 with ⟨_, _, g⟩ | ⟨_, g⟩
    · exact .inl ⟨_, _, g⟩
    · exact .inl ⟨_, _, g⟩
  · rcases rngH_get (v := v) id _ h3 with ⟨_, g, _⟩ | ⟨_, g⟩
    · cases g
    · exact .inr (.inl ⟨_, _, g, h4⟩)
  · rcases rngH_get (v := v) id _ h3 with ⟨_, g, _⟩ | ⟨_, g⟩
    · cases g
    · exact .inr (.inr ⟨_, _, g⟩)
theorem rngH_X : Xs E (rngH A pre u post e B) β = Xs E (rngH A pre v post e B) β := by
  funext b o
  exact propext ⟨fun h => h.imp id (rngH_own b o), fun h => h.imp id (rngH_own b o)⟩
theorem rngH_live {i : Nat} (h : live (rngH A pre u post e B) i) : live (rngH A pre v post e B) i := by
  obtain ⟨o, h1, h2⟩ := h
  rcases rngH_get (v := v) i _ h1 with ⟨_, _, g⟩ | ⟨_, g⟩
  · exact ⟨_, g, by simp⟩
  · exact ⟨o, g, h2⟩
theorem rngH_rel (hR : Rel w X (rngH A pre u post e B) β) (hv : ∀ loc c e', β[A.length]? = some loc → w.heap[loc.block]? = some (.cells c e' (0, 0)) → ∀ x, c[loc.base + pre.length]? = some x → R w X β u x → R w X β v x) : Rel w X (rngH A pre v post e B) β := by
  have hlen : (rngH A pre v post e B).length = (rngH A pre u post e B).length := by unfold rngH; simp
  refine ⟨hlen.trans hR.len, fun id cs e1 loc h1 h2 => ?_, fun id n sz loc h1 h2 => ?_, fun id sh vs loc h1 h2 => ?_, fun i j l l' h1 h2 h3 h4 h5 => hR.disj i j l l' (rngH_live h1) (rngH_live h2) h3 h4 h5⟩
  · rcases rngH_get (v := u) id _ h1 with ⟨g1, g2, g3⟩ | ⟨_, g⟩
    · simp only [O.cells.injEq] at g2
      obtain ⟨rfl, rfl⟩ := g2
      obtain ⟨a1, c, e', a2, a3, a4, a5⟩ := hR.cells id _ _ loc g3 h2
      refine ⟨a1, c, e', a2, a3, ?_, fun k y hy => ?_⟩
      · simpa using a4
      · by_cases hk : k = pre.length
        · subst hk
          rw [List.getElem?_append_right (Nat.le_refl _), Nat.sub_self] at hy
          cases hy
          obtain ⟨x, hx, hr⟩ := a5 pre.length u (by rw [List.getElem?_append_right (Nat.le_refl _), Nat.sub_self]; rfl)
          exact ⟨x, hx, hv loc c e' (by rw [← g1]; exact h2) a2 x hx hr⟩
        · refine a5 k y ?_
          by_cases hlt : k < pre.length
          · rw [List.getElem?_append_left hlt] at hy ⊢; exact hy
          · rw [List.getElem?_append_right (by omega)] at hy ⊢
            obtain ⟨m, hm⟩ : ∃ m, k - pre.length = m + 1 := ⟨k - pre.length - 1, by omega⟩
            rw [hm, List.getElem?_cons_succ] at hy ⊢
            exact hy
    · exact hR.cells id cs e1 loc g h2
  · rcases rngH_get (v := u) id _ h1 with ⟨_, g, _⟩ | ⟨_, g⟩
    · cases g
    · exact hR.tok id n sz loc g h2
  · rcases rngH_get (v := u) id _ h1 with ⟨_, g, _⟩ | ⟨_, g⟩
    · cases g
    · exact hR.objs id sh vs loc g h2
end
theorem mcall_rng {P : Program} {f : Nat} {args : List V} {A B : List O} {pre post : List V} {e : TypeId} {k : IntKind} {lo hi : Int} {v : V} (hlt : lo < hi)
    (h : ∀ n, lo ≤ n → n < hi → ∃ n', lo ≤ n' ∧ n' < hi ∧ MCall P f args (rngH A pre (.int k n) post e B) (.ok v (rngH A pre (.int k n') post e B))) :
    MCall P f args (rngH A pre (.rng k lo hi) post e B) (.ok v (rngH A pre (.rng k lo hi) post e B)) := by
  refine ⟨(h lo (Int.le_refl _) hlt).choose_spec.2.2.1, fun w E β rargs hE hR hl hv => ?_⟩
  have hid : (rngH A pre (.rng k lo hi) post e B)[A.length]? = some (.cells (pre ++ .rng k lo hi :: post) e) := by
    unfold rngH
    rw [List.getElem?_append_right (Nat.le_refl _), Nat.sub_self]
    rfl
  obtain ⟨loc, hloc⟩ : ∃ loc, β[A.length]? = some loc := by
    have : A.length < β.length := by rw [← hR.len]; exact (List.getElem?_eq_some_iff.1 hid).1
    exact ⟨β[A.length], by simp [this]⟩
  obtain ⟨_, c, e', a2, _, _, a5⟩ := hR.cells _ _ _ loc hid hloc
  obtain ⟨x, hx, hr⟩ := a5 pre.length (.rng k lo hi) (by rw [List.getElem?_append_right (Nat.le_refl _), Nat.sub_self]; rfl)
  cases hr with
  | rng _ _ _ _ n hn =>
  obtain ⟨n', g1, g2, _, hc⟩ := h n hn.1 hn.2
  have eX : ∀ (u u' : V) (β : List Loc), Xs E (rngH A pre u post e B) β = Xs E (rngH A pre u' post e B) β := fun _ _ _ => rngH_X
  have hR' : Rel w (Xs E (rngH A pre (.int k n) post e B) β) (rngH A pre (.int k n) post e B) β := by
    rw [eX _ (.rng k lo hi)]
    refine rngH_rel hR fun loc2 c2 e2 q1 q2 y q3 q4 => ?_
    rw [hloc] at q1
    cases q1
    rw [a2] at q2
    cases q2
    rw [hx] at q3
    cases q3
    exact .int _ _ _
  refine (hc w E β rargs ⟨fun b o hb => ⟨(hE.1 b o hb).1, fun ho => (hE.1 b o hb).2 (rngH_own b o ho)⟩, by rw [eX _ (.rng k lo hi)]; exact hE.2⟩ hR' hl (by rw [eX _ (.rng k lo hi)]; exact hv)).mono ?_
  rintro ev w' ⟨y, β', rfl, st, hr⟩
  rw [eX _ (.rng k lo hi)] at hr
  refine ⟨y, β', rfl, ⟨?_, st.os, st.tape, st.output, st.size, fun b hb => ?_, fun b o ho => ?_, st.locs⟩, hr⟩
  · have := st.rel
    rw [eX _ (.rng k lo hi)] at this
    refine rngH_rel this fun loc2 c2 e2 q1 q2 y q3 q4 => ?_
    cases q4
    exact .rng _ _ _ _ _ ⟨g1, g2⟩
  · rcases st.pres b hb with g | ⟨⟨o, g⟩, c1, c2, e3, q1, q2, q3, q4⟩ | ⟨⟨o, g⟩, q⟩
    · exact .inl g
    · exact .inr (.inl ⟨⟨o, rngH_own b o g⟩, c1, c2, e3, q1, q2, q3, fun o ho => q4 o fun h => ho (rngH_own b o h)⟩)
    · exact .inr (.inr ⟨⟨o, rngH_own b o g⟩, q⟩)
  · exact (st.own b o (rngH_own b o ho)).imp (rngH_own b o) id
end Go.Ab

namespace Go.Ab
def layLast : List Oper → Option (List Oper × Oper × Nat × List Operand)
  | [] => none
  | [o] => match o.op, o.dst, o.guard with
    | .defer { callee := .value (.func g), args, .. }, none, none => some ([], o, g, args.toList)
    | _, _, _ => none
  | o :: r => match layLast r with
    | some (l, d, g, as) => some (o :: l, d, g, as)
    | none => none
abbrev Lay := Option (Nat × List V)
def dlay (cx : Cx) (g : Nat) (as : List Operand) : St → Tree (St × Lay)
  | (.normal, t, H) => .leaf ((.normal, keep cx.keeps t, H), some (g, as.map (rd t)))
  | _ => .fail
def dthen (cx : Cx) (b : Code) (kl : T → List O → Tree (St × Lay)) : St × Lay → Tree (St × Lay)
  | ((.normal, t, H), none) => kl t H
  | ((.normal, t, H), some d) => (dcode cx b t H).bind fun s => .leaf (s, some d)
  | s => .leaf s
def dblk (id : Nat) : St × Lay → Tree (St × Lay)
  | ((.exit j, t, H), d) => .leaf ((cond (Nat.beq j id) .normal (.exit j), t, H), d)
  | s => .leaf s
def dcodeL (cx : Cx) : Code → T → List O → Tree (St × Lay)
  | .seq a b, t, H => (dcodeL cx a t H).bind (dthen cx b (dcodeL cx b))
  | .cond (.tmp d) a b, t, H => (match get d t with
    | .bool v => .br v (dcodeL cx a (put d (.bool true) t) H) (dcodeL cx b (put d (.bool false) t) H)
    | _ => .fail)
  | .block id c, t, H => (dcodeL cx c t H).bind (dblk id)
  | .region id ops false, t, H => match layLast ops.toList with
    | some (l, _, g, as) => (druns { cx with keeps := List.range cx.n } ops l t H).bind (dlay cx g as)
    | none => (dcode cx (.region id ops false) t H).bind fun s => .leaf (s, none)
  | c, t, H => (dcode cx c t H).bind fun s => .leaf (s, none)
def layEnd (P : Program) (cl : Cx) (rs : List ResultVar) (g : Nat) (fg : Func) : St × Lay → Tree Res
  | (s, none) => answerM P rs s
  | (s, some (g', vs)) => cond (Nat.beq g' g && Nat.ble vs.length fg.ntmps) (match s with
    | (.ret, t, H) | (.normal, t, H) => (mfun cl fg vs H).bind fun r => match r with
      | .ok _ H => answerM P rs (.ret, t, H)
      | .pan _ _ => .fail
    | _ => .fail) .fail
def dfunL (cx cl : Cx) (fn : Func) (g : Nat) (fg : Func) (args : List V) (H : List O) : Tree Res :=
  match fn.body with
  | some c => (dcodeL { cx with n := fn.ntmps } c (initT 0 args) H).bind (layEnd cx.P cl fn.results.toList g fg)
  | none => .fail
section
variable {P : Program} {E : Nat → Nat → Prop} {H : List O} {β : List Loc} {w : World} {X : Nat → Nat → Prop}
theorem layLast_spec : ∀ {ops l : List Oper} {o : Oper} {g : Nat} {as : List Operand}, layLast ops = some (l, o, g, as) →
    ops = l ++ [o] ∧ ∃ c, o.op = .defer c ∧ c.callee = .value (.func g) ∧ c.args.toList = as ∧ o.dst = none ∧ o.guard = none
  | [], _, _, _, _, h => by cases h
  | [o'], l, o, g, as, h => by
    unfold layLast at h
    split at h
    · rename_i g' args at' h1 h2 h3
      simp only [Option.some.injEq, Prod.mk.injEq] at h
      obtain ⟨rfl, rfl, rfl, rfl⟩ := h
      exact ⟨rfl, _, h1, rfl, rfl, h2, h3⟩
    · cases h
  | o1 :: o2 :: r, l, o, g, as, h => by
    unfold layLast at h
    split at h
    rotate_left
    · cases h
    rename_i l' d g' as' h1
    simp only [Option.some.injEq, Prod.mk.injEq] at h
    obtain ⟨rfl, rfl, rfl, rfl⟩ := h
    obtain ⟨e, rest⟩ := layLast_spec h1
    exact ⟨by rw [e]; rfl, rest⟩
def PostL (E : Nat → Nat → Prop) (H0 : List O) (β0 : List Loc) (w0 : World) (n : Nat) (s : St) (d : Lay) (e : Exit) (a : Act) (w : World) : Prop :=
  match d with
  | none => Post E H0 β0 w0 n [] (fun e t H => (e, t, H) = s) e a w
  | some (g, vs) => ∃ (xs : List Value) (H1 : List O) (β1 : List Loc) (w1 : World), Step E H0 β0 w0 H1 β1 w1 ∧ xs.length = vs.length ∧ (∀ (k : Nat) (v : V) (x : Value), vs[k]? = some v → xs[k]? = some x → R w1 (Xs E H1 β1) β1 v x) ∧
      Post E H1 β1 w1 n [{ target := .fn (.func g) #[], args := xs.toArray }] (fun e t H => (e, t, H) = s) e a w
theorem inBlock_mono {id : Nat} {Q Q' : Exit → Act → World → Prop} (h : ∀ e a w, Q e a w → Q' e a w) {e : Exit} {a : Act} {w : World} (hq : Exit.inBlock id Q e a w) : Exit.inBlock id Q' e a w := by
  cases e with
  | exit j =>
    simp only [Exit.inBlock] at hq ⊢
    by_cases hj : j = id
    · simp only [hj, if_true] at hq ⊢
      exact h _ _ _ hq
    · simp only [hj, if_false] at hq ⊢
      exact h _ _ _ hq
  | _ => exact h _ _ _ hq
theorem wp_dcodeL {cx : Cx} (hT : CxOk cx) {H0 : List O} {β0 : List Loc} {w0 : World} (hs : StartOk cx.P E H0 β0 w0) : ∀ (c : Code) (t : T) (H : List O) (s : St) (d : Lay), (dcodeL cx c t H).run = some (s, d) →
    ∀ β a w, Good E H0 β0 w0 cx.n [] t H β a w → c.wp cx.P (PostL E H0 β0 w0 cx.n s d) a w := by
  intro c
  have plain : ∀ (c : Code) (t : T) (H : List O) (s : St) (d : Lay), ((dcode cx c t H).bind fun s => Tree.leaf (s, (none : Lay))).run = some (s, d) →
      ∀ β a w, Good E H0 β0 w0 cx.n [] t H β a w → c.wp cx.P (PostL E H0 β0 w0 cx.n s d) a w := by
    intro c t H s d h β a w hg
    obtain ⟨s', h1, h2⟩ := bind_run h
    simp only [Tree.run, Option.some.injEq, Prod.mk.injEq] at h2
    obtain ⟨rfl, rfl⟩ := h2
    exact wp_mono (wp_plain hT h1 hs hg) fun _ _ _ hp => hp
  induction c with
  | seq x y ihx ihy =>
    intro t H s d h β a w hg
    obtain ⟨⟨s', d'⟩, h1, h2⟩ := bind_run h
    refine wp_seq (wp_mono (ihx t H s' d' h1 β a w hg) ?_)
    intro e a' w' hp
    obtain ⟨ex, t', H'⟩ := s'
    cases d' with
    | none =>
      cases e with
      | normal =>
        obtain ⟨t2, H2, β2, hq, hg2⟩ := hp
        cases hq
        exact ihy t' H' s d h2 β2 a' w' hg2
      | exit id =>
        obtain ⟨t2, H2, β2, hq, hg2⟩ := hp
        cases hq
        simp only [dthen, Tree.run, Option.some.injEq, Prod.mk.injEq] at h2
        obtain ⟨rfl, rfl⟩ := h2
        exact ⟨t', H', β2, rfl, hg2⟩
      | ret =>
        obtain ⟨t2, H2, β2, hq, hg2⟩ := hp
        cases hq
        simp only [dthen, Tree.run, Option.some.injEq, Prod.mk.injEq] at h2
        obtain ⟨rfl, rfl⟩ := h2
        exact ⟨t', H', β2, rfl, hg2⟩
      | panic ch =>
        obtain ⟨t2, H2, β2, v, x, hq, hg2⟩ := hp
        cases hq
        simp only [dthen, Tree.run, Option.some.injEq, Prod.mk.injEq] at h2
        obtain ⟨rfl, rfl⟩ := h2
        exact ⟨t', H', β2, v, x, rfl, hg2⟩
      | goto l => exact hp.elim
      | outgrown => exact hp.elim
    | some p =>
      obtain ⟨g, vs⟩ := p
      obtain ⟨xs, H1, β1, w1, hst, hl, hr, hp⟩ := hp
      cases e with
      | normal =>
        obtain ⟨t2, H2, β2, hq, hg2⟩ := hp
        cases hq
        obtain ⟨s3, h3, h4⟩ := bind_run h2
        simp only [Tree.run, Option.some.injEq, Prod.mk.injEq] at h4
        obtain ⟨rfl, rfl⟩ := h4
        exact wp_mono (wp_plain hT h3 (hs.now hst) hg2) fun e a w hp => ⟨xs, H1, β1, w1, hst, hl, hr, hp⟩
      | exit id =>
        obtain ⟨t2, H2, β2, hq, hg2⟩ := hp
        cases hq
        simp only [dthen, Tree.run, Option.some.injEq, Prod.mk.injEq] at h2
        obtain ⟨rfl, rfl⟩ := h2
        exact ⟨xs, H1, β1, w1, hst, hl, hr, t', H', β2, rfl, hg2⟩
      | ret =>
        obtain ⟨t2, H2, β2, hq, hg2⟩ := hp
        cases hq
        simp only [dthen, Tree.run, Option.some.injEq, Prod.mk.injEq] at h2
        obtain ⟨rfl, rfl⟩ := h2
        exact ⟨xs, H1, β1, w1, hst, hl, hr, t', H', β2, rfl, hg2⟩
      | panic ch =>
        obtain ⟨t2, H2, β2, v, x, hq, hg2⟩ := hp
        cases hq
        simp only [dthen, Tree.run, Option.some.injEq, Prod.mk.injEq] at h2
        obtain ⟨rfl, rfl⟩ := h2
        exact ⟨xs, H1, β1, w1, hst, hl, hr, t', H', β2, v, x, rfl, hg2⟩
      | goto l => exact hp.elim
      | outgrown => exact hp.elim
  | cond o x y ihx ihy =>
    intro t H s d h β a w hg
    cases o with
    | tmp k =>
      unfold dcodeL at h
      split at h
      rotate_left
      · cases h
      rename_i b hb
      have hx := rd_R hg.fr (.tmp k)
      simp only [rd, hb] at hx
      generalize he : a.eval (.tmp k) = v at hx
      cases hx
      have hg' : Good E H0 β0 w0 cx.n [] (put k (.bool b) t) H β a w := ⟨hg.step, put_true hg.fr hb, hg.defers⟩
      refine wp_cond he ?_
      cases b
      · exact ihy _ H s d h β a w hg'
      · exact ihx _ H s d h β a w hg'
    | _ => exact plain _ t H s d h β a w hg
  | block id x ih =>
    intro t H s d h β a w hg
    obtain ⟨⟨s', d'⟩, h1, h2⟩ := bind_run h
    refine wp_block (wp_mono (ih t H s' d' h1 β a w hg) ?_)
    intro e a' w' hp
    obtain ⟨ex, t', H'⟩ := s'
    have key : ∀ {D E1 H1 β1 w1}, Post E1 H1 β1 w1 cx.n D (fun e t H => (e, t, H) = (ex, t', H')) e a' w' → d' = d ∧ Exit.inBlock id (Post E1 H1 β1 w1 cx.n D fun e t H => (e, t, H) = s) e a' w' := by
      intro D E1 H1 β1 w1 hp
      cases e with
      | normal =>
        obtain ⟨t2, H2, β2, hq, hg2⟩ := hp
        cases hq
        simp only [dblk, Tree.run, Option.some.injEq, Prod.mk.injEq] at h2
        obtain ⟨rfl, rfl⟩ := h2
        exact ⟨rfl, t', H', β2, rfl, hg2⟩
      | exit j =>
        obtain ⟨t2, H2, β2, hq, hg2⟩ := hp
        cases hq
        simp only [dblk, Tree.run, Option.some.injEq, Prod.mk.injEq] at h2
        obtain ⟨rfl, rfl⟩ := h2
        refine ⟨rfl, ?_⟩
        simp only [Exit.inBlock]
        by_cases hj : j = id
        · subst hj
          simp only [if_true]
          exact ⟨t', H', β2, by rw [Nat.beq_refl]; rfl, hg2⟩
        · simp only [hj, if_false]
          have : Nat.beq j id = false := by
            cases hb : Nat.beq j id
            · rfl
            · exact absurd (Nat.eq_of_beq_eq_true hb) hj
          exact ⟨t', H', β2, by rw [this]; rfl, hg2⟩
      | ret =>
        obtain ⟨t2, H2, β2, hq, hg2⟩ := hp
        cases hq
        simp only [dblk, Tree.run, Option.some.injEq, Prod.mk.injEq] at h2
        obtain ⟨rfl, rfl⟩ := h2
        exact ⟨rfl, t', H', β2, rfl, hg2⟩
      | panic ch =>
        obtain ⟨t2, H2, β2, v, x, hq, hg2⟩ := hp
        cases hq
        simp only [dblk, Tree.run, Option.some.injEq, Prod.mk.injEq] at h2
        obtain ⟨rfl, rfl⟩ := h2
        exact ⟨rfl, t', H', β2, v, x, rfl, hg2⟩
      | goto l => exact hp.elim
      | outgrown => exact hp.elim
    cases d' with
    | none =>
      obtain ⟨rfl, q⟩ := key hp
      exact q
    | some p =>
      obtain ⟨g, vs⟩ := p
      obtain ⟨xs, H1, β1, w1, hst, hl, hr, hp⟩ := hp
      obtain ⟨rfl, q⟩ := key hp
      exact inBlock_mono (fun e a w hq => ⟨xs, H1, β1, w1, hst, hl, hr, hq⟩) q
  | region id ops draw =>
    intro t H s d h β a w hg
    cases draw with
    | true => exact plain _ t H s d h β a w hg
    | false =>
      unfold dcodeL at h
      split at h
      rotate_left
      · exact plain _ t H s d h β a w hg
      rename_i l o g as hlay
      obtain ⟨hops, c, e1, e2, e3, e4, e5⟩ := layLast_spec hlay
      obtain ⟨s', h1, h2⟩ := bind_run h
      obtain ⟨ex, t', H'⟩ := s'
      cases ex with
      | exit _ => cases h2
      | ret => cases h2
      | panic _ => cases h2
      | normal =>
      simp only [dlay, Tree.run, Option.some.injEq, Prod.mk.injEq] at h2
      obtain ⟨rfl, rfl⟩ := h2
      refine wp_region ?_
      have hsz : ops.size = l.length + 1 := by
        have := congrArg List.length hops
        simpa using this
      have hl : List.range ops.size = List.range' 0 (l.length + [o].length) := by
        rw [List.range_eq_range', hsz]
        rfl
      rw [hl]
      refine runs_cont (cx := { cx with keeps := List.range cx.n }) hT hs (D := []) (Q := fun e t H => (e, t, H) = (AEx.normal, t', H')) (l2 := [o]) (fun v t H hq => by cases hq) l 0 t H β a w hops (Tree.run_all h1 rfl) ?_ hg
      intro t2 H2 β2 a2 w2 hq hg2
      cases hq
      have hget : ops[0 + l.length]? = some o := by
        have : ops.toList[l.length]? = some o := by rw [hops]; simp
        simpa using this
      have hw : ∀ y, Region.wanted o y = true := fun y => by simp [Region.wanted, e5]
      simp only [List.length_cons, List.length_nil, Nat.zero_add, List.range'_succ, List.range'_zero, wpOps] at hget ⊢
      simp only [hget, hw, if_true]
      refine .inl ?_
      have r2 : (execOp a2.eval o).run cx.P w2 = .ok (.defer { target := .fn (.func g) #[], args := (as.map a2.eval).toArray }) w2 := by
        have hmap : c.args.map a2.eval = (as.map a2.eval).toArray := by rw [← e3]; apply Array.ext'; simp
        simp only [execOp, e1, resolve, e2, Deferred.ofValue, Act.eval]
        simp [hmap]
      unfold Oper.wp
      rw [r2, Oper.upon_defer]
      simp only [e4, Act.put]
      refine ⟨as.map a2.eval, H', β2, w2, hg2.step, by simp, ?_, keep cx.keeps t', H', β2, rfl, Step.refl hg2.step.rel, ?_, by rw [hg2.defers]⟩
      · intro k v x hv hx
        simp only [List.getElem?_map, Option.map_eq_some_iff] at hv hx
        obtain ⟨u, hu, rfl⟩ := hv
        obtain ⟨u', hu', rfl⟩ := hx
        rw [hu] at hu'
        simp only [Option.some.injEq] at hu'
        subst hu'
        exact rd_R hg2.fr u
      · exact ⟨hg2.fr.size, fun k => (hg2.fr.keep cx.keeps).slot k⟩
  | _ => exact plain _
theorem callsD_mfun {cx : Cx} (hT : CxOk cx) {g : Nat} {fn : Func} {args : List V} {v : V} {H' : List O} {rargs : List Value} {u : FrameMode} (hf : cx.P.funcs[g]? = some fn)
    (h : (mfun cx fn args H).run = some (.ok v H')) (hE : StartOk cx.P E H β w) (hR : Rel w (Xs E H β) H β) (hlen : rargs.length = args.length) (hn : args.length ≤ fn.ntmps)
    (hargs : ∀ (k : Nat) (v : V) (x : Value), args[k]? = some v → rargs[k]? = some x → R w (Xs E H β) β v x) :
    CallsD cx.P g rargs.toArray u w fun e u' w' => u' = u ∧ (∃ y, e = .returned y) ∧ ∃ β', Step E H β w H' β' w' := by
  unfold mfun at h
  split at h
  rotate_left
  · cases h
  rename_i c hb
  obtain ⟨s, h1, h2⟩ := bind_run h
  have hg : Good E H β w fn.ntmps [] (initT 0 args) H β _ w := ⟨Step.refl hR, fr_init hlen hn hargs, rfl⟩
  refine callsD_of_wp hf hb (wp_mono (AWP_code (cx := { cx with n := fn.ntmps }) rfl rfl hT c _ _ _ (Tree.run_all h1 (answerM_post h2)) E H β w [] β _ w hE hg) ?_)
  intro e a w' hp
  have fin : ∀ t H2 β2 ex, MPost cx.P fn (.ok v H') ex t H2 → Good E H β w fn.ntmps [] t H2 β2 a w' →
      a.defers = [] ∧ ∃ y, (results fn a.tmps).run cx.P w' = .ok y w' ∧ ((∃ z, Ending.returned y = .returned z) ∧ ∃ β', Step E H β w H' β' w') := by
    intro t H2 β2 ex hq hg
    obtain ⟨_, rfl, h3⟩ := hq
    obtain ⟨y, q1, q2⟩ := answerI_R hg.step.rel hg.fr h3
    exact ⟨hg.defers, y, q1, ⟨y, rfl⟩, β2, hg.step⟩
  cases e with
  | normal => obtain ⟨t, H2, β2, hq, hg⟩ := hp; exact fin t H2 β2 _ hq hg
  | ret => obtain ⟨t, H2, β2, hq, hg⟩ := hp; exact fin t H2 β2 _ hq hg
  | exit id => obtain ⟨t, H2, β2, hq, hg⟩ := hp; rcases hq.1 with h | h <;> cases h
  | panic ch => obtain ⟨t, H2, β2, v, x, hq, hg, _⟩ := hp; rcases hq.1 with h | h <;> cases h
  | goto l => exact hp.elim
  | outgrown => exact hp.elim
theorem mcall_lay {cx cl : Cx} {f g : Nat} {fn fg : Func} {args : List V} {r : Res} (hT : CxOk cx) (hL : CxOk cl) (hP : cl.P = cx.P) (hf : cx.P.funcs[f]? = some fn)
    (hname : (fn.name == "runtime.NumGoroutine") = false) (hg : cx.P.funcs[g]? = some fg) (hgname : (fg.name == "runtime.NumGoroutine") = false) (hn : Nat.ble args.length fn.ntmps = true)
    (h : (dfunL cx cl fn g fg args H).run = some r) : MCall cx.P f args H r := by
  have hname : fn.name ≠ "runtime.NumGoroutine" := by intro e; rw [e] at hname; simp at hname
  have hgname : fg.name ≠ "runtime.NumGoroutine" := by intro e; rw [e] at hgname; simp at hgname
  unfold dfunL at h
  split at h
  rotate_left
  · cases h
  rename_i c hb
  obtain ⟨⟨s, d⟩, h1, h2⟩ := bind_run h
  refine ⟨⟨fn, hf, hname, by simp [hb]⟩, ?_⟩
  intro w E β rargs hE hrel hlen hargs
  refine calls_of_wp_defers hf hb ?_
  have hgood : Good E H β w fn.ntmps [] (initT 0 args) H β _ w := ⟨Step.refl hrel, fr_init hlen (Nat.le_of_ble_eq_true hn) hargs, rfl⟩
  refine wp_mono (wp_dcodeL (cx := { cx with n := fn.ntmps }) hT hE c _ _ s d h1 β _ w hgood) ?_
  intro e a w' hp
  cases d with
  | none =>
    have fin : ∀ t H2 β2, answerM cx.P fn.results.toList (.ret, t, H2) = answerM cx.P fn.results.toList s → Good E H β w fn.ntmps [] t H2 β2 a w' → Leaves cx.P fn a.tmps (Outcome E H β w r) a.defers .returning w' := by
      intro t H2 β2 hs hg
      rw [hg.defers]
      have h2 : (answerM cx.P fn.results.toList (.ret, t, H2)).run = some r := by rw [hs]; exact h2
      unfold answerM at h2
      simp only at h2
      split at h2
      rotate_left
      · cases h2
      rename_i v hv
      simp only [Tree.run, Option.some.injEq] at h2
      subst h2
      obtain ⟨y, q1, q2⟩ := answerI_R hg.step.rel hg.fr hv
      exact ⟨y, q1, y, β2, rfl, hg.step, q2⟩
    cases e with
    | normal => obtain ⟨t, H, β, hq, hg⟩ := hp; subst hq; exact fin t H β rfl hg
    | ret => obtain ⟨t, H, β, hq, hg⟩ := hp; subst hq; exact fin t H β rfl hg
    | exit id => obtain ⟨t, H, β, hq, hg⟩ := hp; subst hq; cases h2
    | panic ch =>
      obtain ⟨t, H, β, v, x, hq, hg, hx, rfl⟩ := hp
      subst hq
      simp only [layEnd, answerM, Tree.run, Option.some.injEq] at h2
      subst h2
      simp only [bodyPostD, hg.defers]
      exact ⟨x, β, rfl, hg.step, hx⟩
    | goto l => exact hp.elim
    | outgrown => exact hp.elim
  | some p =>
    obtain ⟨g', vs⟩ := p
    obtain ⟨xs, H1, β1, w1, hst, hl, hr, hp⟩ := hp
    unfold layEnd at h2
    split at h2
    · rename_i heq; cases heq
    rename_i s' g2 vs2 heq
    simp only [Prod.mk.injEq, Option.some.injEq] at heq
    obtain ⟨rfl, rfl, rfl⟩ := heq
    cases hbq : (Nat.beq g' g && Nat.ble vs.length fg.ntmps)
    · rw [hbq] at h2; cases h2
    rw [hbq, cond_true] at h2
    obtain ⟨b1, b2⟩ := Bool.and_eq_true_iff.1 hbq
    have b1 := Nat.eq_of_beq_eq_true b1
    subst b1
    have b2 := Nat.le_of_ble_eq_true b2
    have fin : ∀ (t : T) (H2 : List O) (β2 : List Loc), Good E H1 β1 w1 fn.ntmps [{ target := .fn (.func g') #[], args := xs.toArray }] t H2 β2 a w' →
        ((mfun cl fg vs H2).bind fun r => match r with
          | .ok _ H => answerM cx.P fn.results.toList (.ret, t, H)
          | .pan _ _ => .fail).run = some r → Leaves cx.P fn a.tmps (Outcome E H β w r) a.defers .returning w' := by
      intro t H2 β2 hg2 hh
      rw [hg2.defers]
      obtain ⟨r3, q1, q2⟩ := bind_run hh
      cases r3 with
      | pan _ _ => cases q2
      | ok v3 H3 =>
      have hbody : fg.body.isSome = true := by
        unfold mfun at q1
        split at q1
        · rename_i hbody; rw [hbody]; rfl
        · cases q1
      have hinv : (invoke (.fn (.func g') #[]) xs.toArray).run cx.P w' = .ok (.enter g' xs.toArray) w' := by
        obtain ⟨bd, hbd⟩ := Option.isSome_iff_exists.1 hbody
        simp [invoke, callFunc, hg, hgname, hbd]
      refine leaves_cons (by simp) hinv ?_
      have hs2 : StartOk cl.P E H2 β2 w' := by rw [hP]; exact (StartOk.now (StartOk.now hE hst) hg2.step : _)
      have := callsD_mfun (cx := cl) hL (g := g') (u := .returning) (by rw [hP]; exact hg) q1 hs2 hg2.step.rel hl b2 (fun k v x h1 h2 => hg2.step.keepR (hr k v x h1 h2))
      rw [hP] at this
      refine this.mono ?_
      rintro e u' w2 ⟨rfl, ⟨y, rfl⟩, β3, hst3⟩
      simp only [settle]
      unfold answerM at q2
      simp only at q2
      split at q2
      rotate_left
      · cases q2
      rename_i v hv
      simp only [Tree.run, Option.some.injEq] at q2
      subst q2
      obtain ⟨z, z1, z2⟩ := answerI_R hst3.rel (hg2.fr.step hst3) hv
      exact ⟨z, z1, z, β3, rfl, (hst.trans hg2.step).trans hst3, z2⟩
    cases e with
    | normal => obtain ⟨t, H2, β2, hq, hg2⟩ := hp; subst hq; exact fin t H2 β2 hg2 h2
    | ret => obtain ⟨t, H2, β2, hq, hg2⟩ := hp; subst hq; exact fin t H2 β2 hg2 h2
    | exit id => obtain ⟨t, H2, β2, hq, hg2⟩ := hp; subst hq; cases h2
    | panic ch => obtain ⟨t, H2, β2, v, x, hq, hg2, hx2, rfl⟩ := hp; subst hq; cases h2
    | goto l => exact hp.elim
    | outgrown => exact hp.elim
end
end Go.Ab
