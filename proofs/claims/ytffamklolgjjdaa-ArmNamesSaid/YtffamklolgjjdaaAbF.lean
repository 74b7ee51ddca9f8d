/-
  The engine, part F: structs, composite literals, pieces of slices. Conditions: none.
-/
import Derived.Test.YtffamklolgjjdaaAbE
import Derived.Laws.Tables
import Derived.Laws.Slices
namespace Go.Ab
section
variable {P : Program} {E : Nat → Nat → Prop} {H : List O} {β : List Loc} {w : World} {X : Nat → Nat → Prop}

theorem known_spec {fs : List Field} (h : allKnown P fs = true) : ∀ f ∈ fs, ∃ d, P.underlying f.type = some d := by
  induction fs with
  | nil => simp
  | cons f r ih =>
    unfold allKnown at h
    cases hu : P.underlying f.type with
    | none => simp [hu] at h
    | some d =>
      simp only [hu, Option.isSome_some, cond_true] at h
      intro g hg
      rcases List.mem_cons.1 hg with rfl | hg
      · exact ⟨d, hu⟩
      · exact ih h g hg

theorem und_info {t : TypeId} {d : TypeDesc} (h : P.underlying t = some d) : ∃ j, P.info? t = some j := by
  unfold Program.underlying at h
  cases hj : P.info? t with
  | none => simp [hj] at h
  | some j => exact ⟨j, rfl⟩

theorem run_isAgg' (w : World) {t : TypeId} {d : TypeDesc} (h : P.underlying t = some d) : (isAgg t).run P w = .ok (isAggB P t) w := by
  unfold isAggB
  rw [h]
  cases d <;> simp [isAgg, run_und w h]

theorem offs_known {t : TypeId} {i : TI} {fs : Array Field} (h : ti P t = some i) (hu : P.underlying t = some (.struct fs)) : ∀ f ∈ fs.toList, ∃ d, P.underlying f.type = some d := by
  obtain ⟨j, d, h1, h2, _, _, _, _, h7⟩ := (ti_spec h).info
  rw [hu] at h2
  simp only [Option.some.injEq] at h2
  subst h2
  exact known_spec h7

/-- A part of a struct's cells. -/
theorem sound_part {agg : Bool} {cells : List V} {xs : List Value} {off size : Nat} {v : V} {ft : TypeId} (hl : xs.length = cells.length)
    (hr : ∀ (k : Nat) v x, cells[k]? = some v → xs[k]? = some x → R w X β v x) (hagg : (isAgg ft).run P w = .ok agg w) (hsz : (sizeOf ft).run P w = .ok size w)
    (h : part? agg cells off size = some v) : ∃ z, (part ft xs.toArray off).run P w = .ok z w ∧ R w X β v z := by
  cases agg
  · simp only [part?, cond_false] at h
    have hk : off < xs.length := by rw [hl]; exact (List.getElem?_eq_some_iff.1 h).1
    refine ⟨xs[off], by simp [part, hagg, hk], hr off v _ h (by simp [hk])⟩
  · simp only [part?, cond_true, Option.some.injEq] at h
    subst h
    refine ⟨.agg (xs.toArray.extract off (off + size)), by simp [part, hagg, hsz], ?_⟩
    rw [List.extract_toArray]
    refine .agg β _ _ ?_ ?_
    · simp [List.extract_eq_take_drop, hl]
    · intro k v x h1 h2
      rw [List.getElem?_take] at h1
      rw [List.extract_eq_take_drop, List.getElem?_take] at h2
      split at h1
      · rw [if_pos (by omega), List.getElem?_drop] at h2
        rw [List.getElem?_drop] at h1
        exact hr _ v x h1 h2
      · cases h1

theorem sound_field {t : TypeId} {x v : V} {y : Value} {f : Nat} (hx : R w X β x y) (h : oField P t x f = some v) : ∃ z, (Instr.field t y f).run P w = .ok z w ∧ R w X β v z := by
  unfold oField at h
  split at h
  · rename_i i cells h1
    split at h
    · rename_i offs hk
      obtain ⟨fs, hu, hoffs⟩ := offs_spec h1 hk
      split at h
      · rename_i off size agg ho
        rw [hoffs] at ho
        simp only [List.getElem?_map, Option.map_eq_some_iff, Prod.mk.injEq] at ho
        obtain ⟨fl, hf, rfl, hsz, hag⟩ := ho
        obtain ⟨d, hd⟩ := offs_known h1 hu fl (List.mem_of_getElem? hf)
        obtain ⟨j, hj⟩ := und_info hd
        have hfa : fs[f]? = some fl := by simpa using hf
        cases hx with
        | agg _ _ xs hl hr =>
          have hsz' : (sizeOf fl.type).run P w = .ok size w := by rw [run_sizeOf' w hj, ← hsz]; simp [Program.cellsOf, hj]
          obtain ⟨z, hz, hz'⟩ := sound_part (ft := fl.type) hl hr (by rw [run_isAgg' w hd, hag]) hsz' h
          exact ⟨z, by simp [Instr.field, run_und w hu, hfa, asAgg, hz], hz'⟩
      · cases h
    · cases h
  · cases h

theorem splice_get {α : Type} (cs : List α) (off : Nat) (vs : List α) (h : off + vs.length ≤ cs.length) (k : Nat) :
    (cs.take off ++ vs ++ cs.drop (off + vs.length))[k]? = if off ≤ k ∧ k < off + vs.length then vs[k - off]? else cs[k]? := by
  have hmin : min off cs.length = off := by omega
  rw [List.append_assoc]
  by_cases h1 : k < off
  · rw [List.getElem?_append_left (by simp; omega), List.getElem?_take, if_pos h1, if_neg (by omega)]
  · rw [List.getElem?_append_right (by simp; omega)]
    simp only [List.length_take, hmin]
    by_cases h2 : k < off + vs.length
    · rw [List.getElem?_append_left (by omega), if_pos (by omega)]
    · rw [List.getElem?_append_right (by omega), List.getElem?_drop, if_neg (by omega)]
      congr 1
      omega

theorem foldl_set {vs : List Value} : ∀ (off j : Nat) (c : Array Value) , off + j + vs.length ≤ c.size →
    ((vs.zipIdx j).foldl (fun cs (p : Value × Nat) => cs.setIfInBounds (off + p.2) p.1) c).toList = c.toList.take (off + j) ++ vs ++ c.toList.drop (off + j + vs.length) := by
  induction vs with
  | nil => intro off j c _; simp
  | cons u r ih =>
    intro off j c h
    simp only [List.length_cons] at h
    simp only [List.zipIdx_cons, List.foldl_cons]
    rw [ih off (j + 1) _ (by simp; omega)]
    have e := list_seg_step c.toList (off + j) u r (by simp; omega)
    simpa [Array.toList_setIfInBounds, Nat.add_assoc] using e

/-- Filling: the parts of a composite literal. -/
theorem fill_R {place : Nat → Option (Nat × Nat)} {offs : Nat → Option (Nat × Nat)} (hp : ∀ i x, offs i = some x → place i = some x) :
    ∀ (ps : List (Nat × V)) (qs : List (Nat × Value)) (l l' : List V) (c : Array Value), ps.length = qs.length →
    (∀ (k : Nat) p q, ps[k]? = some p → qs[k]? = some q → p.1 = q.1 ∧ R w X β p.2 q.2) → c.size = l.length → (∀ (k : Nat) v x, l[k]? = some v → c[k]? = some x → R w X β v x) →
    fillCells offs ps l = some l' → ∃ c' : Array Value, Instr.fill place c qs = some c' ∧ c'.size = l'.length ∧ l'.length = l.length ∧ ∀ (k : Nat) v x, l'[k]? = some v → c'[k]? = some x → R w X β v x
  | [], qs, l, l', c, hlen, _, hs, hr, h => by
    have : qs = [] := List.length_eq_zero_iff.1 (by simpa using hlen.symm)
    subst this
    simp only [fillCells, Option.some.injEq] at h
    subst h
    exact ⟨c, rfl, hs, rfl, hr⟩
  | (i, v) :: ps, [], _, _, _, hlen, _, _, _, _ => by simp at hlen
  | (i, v) :: ps, (i', y) :: qs, l, l', c, hlen, hpq, hs, hr, h => by
    obtain ⟨e, hvy⟩ := hpq 0 _ _ rfl rfl
    simp only at e hvy
    subst e
    unfold fillCells at h
    split at h
    · rename_i cs off size hcs hoff
      cases hb : (Nat.beq cs.length size && Nat.ble (off + cs.length) l.length)
      · simp [hb] at h
      · simp only [hb, cond_true] at h
        obtain ⟨b1, b2⟩ := Bool.and_eq_true_iff.1 hb
        have b1 := Nat.eq_of_beq_eq_true b1
        have b2 := Nat.le_of_ble_eq_true b2
        obtain ⟨ys, hys, hyl, hyr, _⟩ := cells_spec hvy hcs
        have hl2 : (splice l off cs).length = l.length := by simp [splice]; omega
        have htl := foldl_set (vs := ys) off 0 c (by omega)
        simp only [Nat.add_zero] at htl
        obtain ⟨c', h1, h2, h3, h4⟩ := fill_R hp ps qs (splice l off cs) l' ((ys.zipIdx).foldl (fun cs (p : Value × Nat) => cs.setIfInBounds (off + p.2) p.1) c) (by simpa using hlen)
          (fun k p q hp hq => hpq (k + 1) p q (by simpa using hp) (by simpa using hq)) (by rw [hl2, ← hs, ← Array.length_toList, htl]; simp; omega)
          (by
            intro k u x hu hx
            rw [← Array.getElem?_toList, htl, splice_get c.toList off ys (by simp; omega)] at hx
            unfold splice at hu
            rw [splice_get l off cs (by omega)] at hu
            by_cases hk : off ≤ k ∧ k < off + cs.length
            · rw [if_pos hk] at hu
              rw [if_pos (by omega)] at hx
              exact hyr _ u x hu hx
            · rw [if_neg hk] at hu
              rw [if_neg (by omega)] at hx
              exact hr k u x hu (by simpa using hx)) h
        refine ⟨c', ?_, h2, by rw [h3, hl2], h4⟩
        unfold Instr.fill
        simp only [hp i _ hoff]
        have hcsz : y.cells.size = cs.length := by rw [hys]; simp [hyl]
        have hcond : (decide (y.cells.size ≠ size) || decide (off + y.cells.size > c.size)) = false := by
          simp only [Bool.or_eq_false_iff, decide_eq_false_iff_not]
          omega
        have e1 : (y.cells.zipIdx.foldl (fun cs (p : Value × Nat) => cs.setIfInBounds (off + p.2) p.1) c) = (ys.zipIdx).foldl (fun cs (p : Value × Nat) => cs.setIfInBounds (off + p.2) p.1) c := by
          rw [hys]; simp
        rw [← e1] at h1
        have hne : ¬ (y.cells.size ≠ size || off + y.cells.size > c.size) = true := by
          simp only [Bool.or_eq_true, decide_eq_true_eq]
          omega
        rw [if_neg hne]
        exact h1
    · cases h

theorem zero_R {t : TypeId} {i : TI} (h : ti P t = some i) : ∃ z, (∀ w, (zeroValue t).run P w = .ok z w) ∧ z.cells.size = i.zero.length ∧ ∀ (k : Nat) v x, i.zero[k]? = some v → z.cells[k]? = some x → R w X β v x := by
  obtain ⟨z, h1, h2⟩ := zero_cells h
  refine ⟨z, h1, by simp [h2], fun k v x hv hx => ?_⟩
  rw [h2] at hv
  have : z.cells.toList[k]? = some x := by simpa using hx
  simp only [List.getElem?_map, this, Option.map_some, Option.some.injEq] at hv
  subst hv
  exact ofVal1_R _ _ _ _

theorem mapM_offs {fs : List Field} (hk : ∀ f ∈ fs, ∃ d, P.underlying f.type = some d) :
    fs.mapM (fun f => (P.info? f.type).map fun i => (f.offset, i.size)) = some (fs.map fun f => (f.offset, P.cellsOf f.type)) := by
  induction fs with
  | nil => rfl
  | cons f r ih =>
    obtain ⟨d, hd⟩ := hk f (by simp)
    obtain ⟨j, hj⟩ := und_info hd
    simp [List.mapM_cons, hj, ih (fun g hg => hk g (by simp [hg])), Program.cellsOf]

theorem sound_build {t : TypeId} {ps : List (Nat × V)} {qs : Array (Nat × Value)} {v : V} (hlen : ps.length = qs.size)
    (hpq : ∀ (k : Nat) p q, ps[k]? = some p → qs.toList[k]? = some q → p.1 = q.1 ∧ R w X β p.2 q.2) (h : oBuild P t ps = some v) :
    ∃ z, (Instr.build t qs).run P w = .ok z w ∧ R w X β v z := by
  unfold oBuild at h
  split at h
  · rename_i i h1
    obtain ⟨z, hz, hzs, hzr⟩ := zero_R (w := w) (X := X) (β := β) h1
    split at h
    · rename_i offs hk
      obtain ⟨fs, hu, hoffs⟩ := offs_spec h1 hk
      obtain ⟨l', hl', rfl⟩ := Option.map_eq_some_iff.1 h
      have hmm := run_places (P := P) w _ _ (mapM_offs (offs_known h1 hu))
      obtain ⟨c', g1, g2, g3, g4⟩ := fill_R (w := w) (X := X) (β := β) (place := fun x => (fs.toList.map fun f => (f.offset, P.cellsOf f.type))[x]?)
        (by
          intro i x hx
          rw [hoffs] at hx
          simp only [List.getElem?_map, Option.map_map] at hx ⊢
          rw [← hx]; rfl) ps qs.toList i.zero l' z.cells (by simpa using hlen) hpq hzs hzr hl'
      refine ⟨.agg c', ?_, ?_⟩
      · have g1' : Instr.fill (fun x => Option.map (fun f => (f.offset, P.cellsOf f.type)) fs[x]?) z.cells qs.toList = some c' := by simpa using g1
        simp [Instr.build, hz, run_und w hu, Array.mapM_eq_mapM_toList, hmm, g1']
      · have : c' = c'.toList.toArray := by simp
        rw [this]
        exact .agg β l' c'.toList (by simpa using g2) (fun k v x h1 h2 => g4 k v x h1 (by simpa using h2))
    · rename_i n e hk
      have hu := arr_spec h1 hk
      split at h
      · rename_i j hj
        obtain ⟨l', hl', rfl⟩ := Option.map_eq_some_iff.1 h
        obtain ⟨c', g1, g2, g3, g4⟩ := fill_R (w := w) (X := X) (β := β) (place := fun i => some (i * j.size, j.size)) (fun i x hx => hx) ps qs.toList i.zero l' z.cells (by simpa using hlen) hpq hzs hzr hl'
        refine ⟨.agg c', ?_, ?_⟩
        · simp [Instr.build, hz, run_und w hu, ti_size w hj, g1]
        · have : c' = c'.toList.toArray := by simp
          rw [this]
          exact .agg β l' c'.toList (by simpa using g2) (fun k v x h1 h2 => g4 k v x h1 (by simpa using h2))
      · cases h
    · cases h
  · cases h

end
end Go.Ab
