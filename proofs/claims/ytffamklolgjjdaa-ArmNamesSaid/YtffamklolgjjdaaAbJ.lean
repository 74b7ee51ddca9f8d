/-
  The engine, part J: append is sound. Conditions: none.
-/
import Derived.Test.YtffamklolgjjdaaAbI
namespace Go.Ab
section
variable {P : Program} {E : Nat → Nat → Prop} {H : List O} {β : List Loc} {w : World} {X : Nat → Nat → Prop}

theorem Step.drew (hR : Rel w (Xs E H β) H β) : Step E H β w H β w.drew := Step.heap_same hR rfl rfl rfl rfl

theorem idx_lt {c : EC} {n i k : Nat} {x : c.ty} {v : V} (hi : i < n) (hv : (enc c x)[k]? = some v) : i * c.size + k < n * c.size := by
  have hk : k < c.size := by have := (List.getElem?_eq_some_iff.1 hv).1; rwa [enc_size] at this
  have : (i + 1) * c.size ≤ n * c.size := Nat.mul_le_mul_right _ hi
  rw [Nat.add_mul] at this
  omega

/-- Old cells and new ones, one behind the other. -/
theorem join_cells {c : EC} {l xs : List c.ty} {olds news : List Value} (ho : olds.length = l.length * c.size)
    (h1 : ∀ (i : Nat) x (k : Nat) v, l[i]? = some x → (enc c x)[k]? = some v → ∃ z, olds[i * c.size + k]? = some z ∧ R w X [] v z)
    (h2 : ∀ (i : Nat) x (k : Nat) v, xs[i]? = some x → (enc c x)[k]? = some v → ∃ z, news[i * c.size + k]? = some z ∧ R w X [] v z) :
    ∀ (i : Nat) x (k : Nat) v, (l ++ xs)[i]? = some x → (enc c x)[k]? = some v → ∃ z, (olds ++ news)[i * c.size + k]? = some z ∧ R w X [] v z := by
  intro i x k v hx hv
  by_cases hi : i < l.length
  · rw [List.getElem?_append_left hi] at hx
    rw [List.getElem?_append_left (by rw [ho]; exact idx_lt hi hv)]
    exact h1 i x k v hx hv
  · rw [List.getElem?_append_right (by omega)] at hx
    have hle : l.length * c.size ≤ i * c.size := Nat.mul_le_mul_right _ (by omega)
    rw [List.getElem?_append_right (by omega), ho]
    have e : i * c.size + k - l.length * c.size = (i - l.length) * c.size + k := by
      rw [Nat.sub_mul]; omega
    rw [e]
    exact h2 _ x k v hx hv

theorem new_gro {c : EC} {ll : List c.ty} {row rest : List Value} {e : TypeId} {cap : Nat} (hE : ∀ b o, E b o → b < w.heap.size ∧ ¬ Own H β b o) (hR : Rel w (Xs E H β) H β)
    (hrow : row.length = ll.length * c.size) (hcap : ll.length ≤ cap) (hrest : rest.length = (cap - ll.length) * c.size)
    (h : ∀ (i : Nat) x (k : Nat) v, ll[i]? = some x → (enc c x)[k]? = some v → ∃ z, row[i * c.size + k]? = some z ∧ R w (Xs E H β) [] v z) :
    ∃ β', Step E H β w (H ++ [.tok ll.length c.size]) β' (w.drew.alloc (.cells (row ++ rest).toArray e)) ∧
      R (w.drew.alloc (.cells (row ++ rest).toArray e)) (Xs E (H ++ [.tok ll.length c.size]) β') β' (.gro H.length c ll) (.slice (some ⟨w.heap.size, 0, none⟩) ll.length cap) := by
  have hd := Step.drew hR
  have hs := Step.push hd.rel (row ++ rest).toArray e (.tok ll.length c.size) { kind := true, block := w.heap.size, base := 0, n := ll.length, size := row.length + rest.length } rfl (by simp)
    (fun cs e h => by cases h) (fun n sz h => by cases h; exact ⟨rfl, rfl⟩)
  have st := hd.trans hs
  refine ⟨_, st, mk_gro (loc := { kind := true, block := w.heap.size, base := 0, n := ll.length, size := row.length + rest.length }) rfl (by rw [hR.len]; simp) rfl (Nat.le_refl _) ?_ hcap ?_⟩
  · intro _
    refine ⟨rfl, rfl, ?_⟩
    simp only [hrow, hrest, ← Nat.add_mul]
    rw [show ll.length + (cap - ll.length) = cap from by omega]; omega
  · intro i x k v hx hv
    have hi : i < ll.length := (List.getElem?_eq_some_iff.1 hx).1
    have hlt := idx_lt hi hv
    obtain ⟨z, hz, hr⟩ := h i x k v hx hv
    refine ⟨?_, z, ?_, hr.stab st.stab _ (.nil _)⟩
    · rintro (g | ⟨id, l, g1, g2, g3⟩)
      · exact absurd (hE _ _ g).1 (Nat.lt_irrefl _)
      · rw [getElem?_concat] at g1
        by_cases hid : id < β.length
        · simp only [hid, if_true] at g1
          have hid' : id < H.length := by rw [hR.len]; exact hid
          rcases g3 with ⟨cs, e, g3⟩ | ⟨n, sz, g3, g4⟩
          · rw [List.getElem?_append_left hid'] at g3
            have := live_lt hR (live_cells g3) g1
            omega
          · rw [List.getElem?_append_left hid'] at g3
            have := live_lt hR (live_tok g3) g1
            omega
        · simp only [hid, if_false] at g1
          split at g1
          · rename_i hid2
            rcases g3 with ⟨cs, e, g3⟩ | ⟨n, sz, g3, g4⟩
            · rw [hid2, ← hR.len] at g3; simp at g3
            · rw [hid2, ← hR.len] at g3
              simp at g3
              obtain ⟨rfl, rfl⟩ := g3
              simp only [Option.some.injEq] at g1
              subst g1
              simp at g4
              omega
          · cases g1
    · have hc := World.cell?_alloc_new w.drew (row ++ rest).toArray e (0 + i * c.size + k)
      rw [show w.drew.heap.size = w.heap.size from rfl] at hc
      rw [hc]
      simp only [Nat.zero_add, List.getElem?_toArray]
      rw [List.getElem?_append_left (by omega)]
      exact hz

theorem move_gro {c : EC} {ll : List c.ty} {row rest : List Value} {e : TypeId} {cap id n : Nat} {loc : Loc} (hE : ∀ b o, E b o → b < w.heap.size ∧ ¬ Own H β b o) (hR : Rel w (Xs E H β) H β)
    (hid : H[id]? = some (.tok n c.size)) (hloc : β[id]? = some loc) (hn : n < ll.length)
    (hrow : row.length = ll.length * c.size) (hcap : ll.length ≤ cap) (hrest : rest.length = (cap - ll.length) * c.size)
    (h : ∀ (i : Nat) x (k : Nat) v, ll[i]? = some x → (enc c x)[k]? = some v → ∃ z, row[i * c.size + k]? = some z ∧ R w (Xs E H β) [] v z) :
    ∃ β', Step E H β w (H.set id (.tok ll.length c.size)) β' (w.drew.alloc (.cells (row ++ rest).toArray e)) ∧
      R (w.drew.alloc (.cells (row ++ rest).toArray e)) (Xs E (H.set id (.tok ll.length c.size)) β') β' (.gro id c ll) (.slice (some ⟨w.heap.size, 0, none⟩) ll.length cap) := by
  have hd := Step.drew hR
  have hs := Step.moveTok (e' := e) (c := (row ++ rest).toArray) hd.rel hid hloc hn
  have st := hd.trans hs
  have hilt : id < β.length := (List.getElem?_eq_some_iff.1 hloc).1
  have hsz : (row ++ rest).toArray.size = row.length + rest.length := by simp
  rw [hsz] at st
  refine ⟨_, st, mk_gro (loc := { kind := true, block := w.heap.size, base := 0, n := ll.length, size := row.length + rest.length }) rfl
    (by rw [get_set]; simp [hilt]) rfl (Nat.le_refl _) ?_ hcap ?_⟩
  · intro _
    refine ⟨rfl, rfl, ?_⟩
    simp only [hrow, hrest, ← Nat.add_mul]
    rw [show ll.length + (cap - ll.length) = cap from by omega]; omega
  · intro i x k v hx hv
    have hi : i < ll.length := (List.getElem?_eq_some_iff.1 hx).1
    have hlt := idx_lt hi hv
    obtain ⟨z, hz, hr⟩ := h i x k v hx hv
    refine ⟨?_, z, ?_, hr.stab st.stab _ (.nil _)⟩
    · rintro (g | ⟨j, l, g1, g2, g3⟩)
      · exact absurd (hE _ _ g).1 (Nat.lt_irrefl _)
      · rw [get_set] at g1
        rw [get_set] at g3
        by_cases hj : id = j
        · subst hj
          have hilt' : id < H.length := by rw [hR.len]; exact hilt
          simp only [if_true, hilt, hilt'] at g1 g3
          simp only [Option.some.injEq] at g1
          subst g1
          rcases g3 with ⟨cs, e, g3⟩ | ⟨m, sz, g3, g4⟩
          · cases g3
          · simp only [Option.some.injEq, O.tok.injEq] at g3
            obtain ⟨rfl, rfl⟩ := g3
            simp at g4
            omega
        · simp only [hj, if_false] at g1 g3
          rcases g3 with ⟨cs, e, g3⟩ | ⟨m, sz, g3, g4⟩
          · have := live_lt hR (live_cells g3) g1
            omega
          · have := live_lt hR (live_tok g3) g1
            omega
    · have hc := World.cell?_alloc_new w.drew (row ++ rest).toArray e (0 + i * c.size + k)
      rw [show w.drew.heap.size = w.heap.size from rfl] at hc
      rw [hc]
      simp only [Nat.zero_add, List.getElem?_toArray]
      rw [List.getElem?_append_left (by omega)]
      exact hz

/-- In its own room. -/
theorem in_gro {c : EC} {l xs : List c.ty} {news : List Value} {cap id : Nat} {y0 : Addr} (hE : ∀ b o, E b o → b < w.heap.size ∧ ¬ Own H β b o) (hR : Rel w (Xs E H β) H β)
    (hy : R w (Xs E H β) β (.gro id c l) (.slice (some y0) l.length cap)) (hid : H[id]? = some (.tok l.length c.size)) (hx : 0 < xs.length) (hcap : l.length + xs.length ≤ cap)
    (hlen : news.length = xs.length * c.size) (hone : ∀ z ∈ news, z.oneCell' = true)
    (h : ∀ (i : Nat) x (k : Nat) v, xs[i]? = some x → (enc c x)[k]? = some v → ∃ z, news[i * c.size + k]? = some z ∧ R w (Xs E H β) [] v z) :
    ∃ w' β', (storeCells (y0.add (l.length * c.size)) news).run P w = .ok () w' ∧ Step E H β w (H.set id (.tok (l ++ xs).length c.size)) β' w' ∧
      R w' (Xs E (H.set id (.tok (l ++ xs).length c.size)) β') β' (.gro id c (l ++ xs)) (.slice (some y0) (l.length + xs.length) cap) := by
  obtain ⟨b, o, cap', loc, he, hloc, hk, hn, hl, hcap', hh⟩ := gro_get hy
  simp only [Value.slice.injEq, Option.some.injEq, true_and] at he
  obtain ⟨rfl, rfl⟩ := he
  obtain ⟨_, hlocn, arr, e', a1, a2⟩ := hR.tok id _ _ loc hid hloc
  obtain ⟨rfl, rfl, hfit⟩ := hl hlocn
  have hmul : (l.length + xs.length) * c.size ≤ cap * c.size := Nat.mul_le_mul_right _ hcap
  rw [Nat.add_mul] at hmul
  have hroom : loc.base + l.length * c.size + news.length ≤ arr.size := by omega
  have hrun := run_storeCells_at P loc.block (loc.base + l.length * c.size) e' news 0 arr w a1 (by simpa using hroom) hone
  simp only [Nat.add_zero] at hrun
  have hgetnew : ∀ j, (arr.toList.take (loc.base + l.length * c.size) ++ news ++ arr.toList.drop (loc.base + l.length * c.size + news.length))[j]? =
      if loc.base + l.length * c.size ≤ j ∧ j < loc.base + l.length * c.size + news.length then news[j - (loc.base + l.length * c.size)]? else arr.toList[j]? := splice_get _ _ _ (by simpa using hroom)
  have st := Step.setTok (n' := (l ++ xs).length) (c' := (arr.toList.take (loc.base + l.length * c.size) ++ news ++ arr.toList.drop (loc.base + l.length * c.size + news.length)).toArray) hR hid hloc a1
    (by simp; omega) (by simp; omega) (by
      intro j hj
      rw [List.getElem?_toArray, hgetnew, if_neg (by omega)]
      simp)
  have hilt : id < β.length := (List.getElem?_eq_some_iff.1 hloc).1
  have hilt' : id < H.length := by rw [hR.len]; exact hilt
  refine ⟨_, _, by rw [addr_add]; exact hrun, st, mk_gro (loc := { loc with n := (l ++ xs).length }) (by simp) (by rw [get_set]; simp [hilt]) hk (Nat.le_refl _) (fun _ => ⟨rfl, rfl, hfit⟩) (by simpa using hcap) ?_⟩
  intro i x k v hx hv
  have hi : i < (l ++ xs).length := (List.getElem?_eq_some_iff.1 hx).1
  have hlt := idx_lt hi hv
  have hheap := setRow_heap w loc.block arr ((arr.toList.take (loc.base + l.length * c.size) ++ news ++ arr.toList.drop (loc.base + l.length * c.size + news.length)).toArray) e' (0, 0) a1
  have hmul2 : (l ++ xs).length * c.size = l.length * c.size + xs.length * c.size := by simp [Nat.add_mul]
  by_cases hil : i < l.length
  · rw [List.getElem?_append_left hil] at hx
    obtain ⟨hx1, z, hz, hr⟩ := hh i x k v hx hv
    obtain ⟨s1, s2⟩ := st.stab.cell _ _ _ hx1 hz
    exact ⟨s1, z, s2, hr.stab st.stab _ (.nil _)⟩
  · rw [List.getElem?_append_right (by omega)] at hx
    obtain ⟨z, hz, hr⟩ := h (i - l.length) x k v hx hv
    have hle : l.length * c.size ≤ i * c.size := Nat.mul_le_mul_right _ (by omega)
    have e1 : loc.base + i * c.size + k - (loc.base + l.length * c.size) = (i - l.length) * c.size + k := by rw [Nat.sub_mul]; omega
    refine ⟨?_, z, ?_, hr.stab st.stab _ (.nil _)⟩
    · rintro (g | ⟨j, lo, g1, g2, g3⟩)
      · exact (hE _ _ g).2 ⟨id, loc, hloc, rfl, .inr ⟨_, _, hid, by omega⟩⟩
      · rw [get_set] at g1
        rw [get_set] at g3
        by_cases hj : id = j
        · subst hj
          simp only [if_true, hilt, hilt'] at g1 g3
          simp only [Option.some.injEq] at g1
          subst g1
          rcases g3 with ⟨cs, e, g3⟩ | ⟨m, sz, g3, g4⟩
          · cases g3
          · simp only [Option.some.injEq, O.tok.injEq] at g3
            obtain ⟨rfl, rfl⟩ := g3
            simp only at g4
            omega
        · simp only [hj, if_false] at g1 g3
          rcases g3 with ⟨cs, e, g3⟩ | ⟨m, sz, g3, g4⟩
          · exact hj (hR.disj id j loc lo (live_tok hid) (live_cells g3) hloc g1 g2.symm)
          · exact hj (hR.disj id j loc lo (live_tok hid) (live_tok g3) hloc g1 g2.symm)
    · rw [cell_of_row _ _ _ _ e' (0, 0) hheap, List.getElem?_toArray, hgetnew, if_pos (by omega), e1]
      exact hz

end
end Go.Ab
