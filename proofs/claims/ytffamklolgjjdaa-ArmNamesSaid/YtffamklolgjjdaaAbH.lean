/-
  The engine, part H: composite slices, make, append. Conditions: none.
-/
import Derived.Test.YtffamklolgjjdaaAbG
namespace Go.Ab
section
variable {P : Program} {E : Nat → Nat → Prop} {H : List O} {β : List Loc} {w : World} {X : Nat → Nat → Prop}

def OneOk (c : EC) : Prop := ∀ (x : c.ty) v, v ∈ enc c x → v.one = true
def OnesOk (cs : List EC) : Prop := ∀ (x : EC.tys cs) v, v ∈ encs cs x → v.one = true

theorem enc_one (c : EC) : OneOk c := by
  refine EC.rec (motive_1 := OneOk) (motive_2 := OnesOk) ?_ ?_ ?_ ?_ ?_ ?_ ?_ c
  · intro k x v hv; change v ∈ [V.int k x] at hv; simp at hv; subst hv; rfl
  · intro x v hv; change v ∈ [V.bool x] at hv; simp at hv; subst hv; rfl
  · intro x v hv; change v ∈ [V.str x] at hv; simp at hv; subst hv; rfl
  · intro c _ x v hv
    change Option (List c.ty) at x
    cases x with
    | none => change v ∈ [nilSl] at hv; simp at hv; subst hv; rfl
    | some l => change v ∈ [V.sl c l [] .ro] at hv; simp at hv; subst hv; rfl
  · intro cs ih x v hv; exact ih x v hv
  · intro x v hv; change v ∈ [] at hv; simp at hv
  · intro c cs ih ihs x v hv
    cases cs with
    | nil => exact ih x v hv
    | cons d cs =>
      change c.ty × EC.tys (d :: cs) at x
      change v ∈ enc c x.1 ++ encs (d :: cs) x.2 at hv
      rcases List.mem_append.1 hv with hv | hv
      · exact ih _ v hv
      · exact ihs _ v hv

/-- The cells of a slice's elements, read. -/
theorem row_cells {c : EC} {l : List c.ty} {b o : Nat}
    (h : ∀ (i : Nat) x (k : Nat) v, l[i]? = some x → (enc c x)[k]? = some v → ∃ y, w.cell? ⟨b, o + i * c.size + k, none⟩ = some y ∧ R w X [] v y) :
    ∃ news : List Value, news.length = l.length * c.size ∧ (∀ z ∈ news, z.oneCell' = true) ∧
      (∀ (i : Nat) x (k : Nat) v, l[i]? = some x → (enc c x)[k]? = some v → ∃ z, news[i * c.size + k]? = some z ∧ R w X [] v z) ∧
      ∀ w' : World, w'.heap = w.heap → (loadCells ⟨b, o, none⟩ (l.length * c.size)).run P w' = .ok news.toArray w' := by
  let f : Nat → Value := fun j => (w.cell? ⟨b, o + j, none⟩).getD undef
  have split : ∀ j, j < l.length * c.size → ∃ i k x v, j = i * c.size + k ∧ l[i]? = some x ∧ (enc c x)[k]? = some v := by
    intro j hj
    have hpos : 0 < c.size := by
      rcases Nat.eq_zero_or_pos c.size with h0 | h0
      · simp [h0] at hj
      · exact h0
    have hi : j / c.size < l.length := (Nat.div_lt_iff_lt_mul hpos).2 hj
    obtain ⟨v, hv⟩ := enc_get l[j / c.size] (Nat.mod_lt j hpos)
    exact ⟨j / c.size, j % c.size, _, v, (Nat.div_add_mod' j c.size).symm, List.getElem?_eq_getElem hi, hv⟩
  have hf : ∀ j, j < l.length * c.size → w.cell? ⟨b, o + j, none⟩ = some (f j) := by
    intro j hj
    obtain ⟨i, k, x, v, rfl, h1, h2⟩ := split j hj
    obtain ⟨y, hy, _⟩ := h i x k v h1 h2
    rw [Nat.add_assoc] at hy
    simp [f, hy]
  refine ⟨(List.range (l.length * c.size)).map f, by simp, ?_, ?_, ?_⟩
  · intro z hz
    obtain ⟨j, hj, rfl⟩ := List.mem_map.1 hz
    obtain ⟨i, k, x, v, rfl, h1, h2⟩ := split j (List.mem_range.1 hj)
    obtain ⟨y, hy, hr⟩ := h i x k v h1 h2
    have : f (i * c.size + k) = y := by rw [Nat.add_assoc] at hy; simp [f, hy]
    rw [this]
    exact one_spec hr (enc_one c x v (List.mem_of_getElem? h2))
  · intro i x k v h1 h2
    obtain ⟨y, hy, hr⟩ := h i x k v h1 h2
    have hk : k < c.size := by have := (List.getElem?_eq_some_iff.1 h2).1; rwa [enc_size] at this
    have hi : i < l.length := (List.getElem?_eq_some_iff.1 h1).1
    have hlt : i * c.size + k < l.length * c.size := by
      have : (i + 1) * c.size ≤ l.length * c.size := Nat.mul_le_mul_right _ hi
      rw [Nat.add_mul] at this
      omega
    refine ⟨y, ?_, hr⟩
    rw [Nat.add_assoc] at hy
    simp [List.getElem?_range hlt, f, hy]
  · intro w' hw
    rw [run_loadCells (P := P) w' ⟨b, o, none⟩ _ f]
    intro j hj
    rw [addr_add]
    exact (cell_heap (w := w) (w' := w') (by rw [hw]) (o + j)).trans (hf j hj)

/-- What is appended. -/
structure News (P : Program) (w : World) (X : Nat → Nat → Prop) (c : EC) (xs : List c.ty) (y : Value) (news : List Value) : Prop where
  len : news.length = xs.length * c.size
  one : ∀ z ∈ news, z.oneCell' = true
  get : ∀ (i : Nat) x (k : Nat) v, xs[i]? = some x → (enc c x)[k]? = some v → ∃ z, news[i * c.size + k]? = some z ∧ R w X [] v z
  lenOf : ∀ w' : World, (Builtin.lenOf y).run P w' = .ok xs.length w'
  first : ∀ w' : World, w'.heap = w.heap → (Builtin.firstCells c.size xs.length y).run P w' = .ok news.toArray w'

theorem str_news (s : List UInt8) (xs : List Int) (h : xs = s.map fun b => (b.toNat : Int)) :
    News P w X (.int .u8) xs (.string ⟨s.toArray⟩) (s.map fun b => .int .u8 b.toNat) := by
  have hl : xs.length = s.length := by rw [h]; simp
  refine ⟨?_, ?_, ?_, fun w' => ?_, fun w' hw => ?_⟩
  · show (s.map _).length = xs.length * 1
    simp [hl]
  · intro z hz; obtain ⟨b, _, rfl⟩ := List.mem_map.1 hz; rfl
  · intro i (x : Int) k v (h1 : xs[i]? = some x) h2
    change ([V.int .u8 x] : List V)[k]? = some v at h2
    cases k with
    | zero =>
      simp at h2
      subst h2
      rw [h, List.getElem?_map] at h1
      obtain ⟨b, hb, rfl⟩ := Option.map_eq_some_iff.1 h1
      refine ⟨.int .u8 b.toNat, ?_, .int _ _ _⟩
      show (s.map _)[i * 1 + 0]? = _
      simp [hb]
    | succ k => simp at h2
  · show _ = Result.ok xs.length w'
    rw [hl]; rfl
  · show (Builtin.firstCells 1 xs.length _).run P w' = _
    rw [hl]
    simp [Builtin.firstCells]

theorem elems_R {c : EC} {x : V} {y : Value} {xs : List c.ty} (hR : Rel w X H β) (hx : R w X β x y) (h : elemsOf c H x = some xs) : ∃ news, News P w X c xs y news := by
  unfold elemsOf at h
  split at h
  · rename_i d l sp fl
    obtain ⟨e, rfl⟩ := sameL_spec h
    subst e
    rcases sl_get hx with ⟨rfl, rfl, rfl, rfl⟩ | ⟨b, o, cap, rfl, hcap, _, _, hh⟩
    · exact ⟨[], by simp [castL], by simp, by simp [castL], fun w' => rfl, fun w' hw => rfl⟩
    obtain ⟨news, h1, h2, h3, h4⟩ := row_cells (P := P) (w := w) (X := X) (l := l) (b := b) (o := o) (fun i x k v g1 g2 => (hh i x k v (by
      have : i < l.length := (List.getElem?_eq_some_iff.1 g1).1
      rw [List.getElem?_append_left this]; exact g1) g2).2)
    exact ⟨news, h1, h2, h3, fun w' => rfl, fun w' hw => h4 w' hw⟩
  · rename_i id d l
    obtain ⟨e, rfl⟩ := sameL_spec h
    subst e
    obtain ⟨b, o, cap, loc, rfl, _, _, _, _, hcap, hh⟩ := gro_get hx
    obtain ⟨news, h1, h2, h3, h4⟩ := row_cells (P := P) (w := w) (X := X) (l := l) (b := b) (o := o) (fun i x k v g1 g2 => (hh i x k v g1 g2).2)
    exact ⟨news, h1, h2, h3, fun w' => rfl, fun w' hw => h4 w' hw⟩
  · rename_i id s off len
    split at h
    · rename_i cs e hH
      cases hb : (Nat.beq s c.size && Nat.ble (off + len * s) cs.length)
      · simp [hb] at h
      · simp only [hb, cond_true] at h
        obtain ⟨b1, b2⟩ := Bool.and_eq_true_iff.1 hb
        have b1 := Nat.eq_of_beq_eq_true b1
        have b2 := Nat.le_of_ble_eq_true b2
        subst b1
        obtain ⟨g1, g2⟩ := chunk_dec h
        cases hx with
        | ref _ _ _ _ _ loc b o cap hid hk hlen ha hcap =>
          obtain ⟨_, arr, e', a1, a2, a3, a4⟩ := hR.cells id cs e loc hH hid
          by_cases h0 : 0 < cap
          · obtain ⟨rfl, rfl⟩ := ha h0
            obtain ⟨news, h1, h2, h3, h4⟩ := row_cells (P := P) (w := w) (X := X) (l := xs) (b := loc.block) (o := loc.base + off) (fun i x k v q1 q2 => by
              obtain ⟨u, hu, hone, hu'⟩ := g2 i x k v q1 q2
              rw [List.getElem?_drop] at hu
              obtain ⟨z, hz, hz'⟩ := a4 _ u hu
              refine ⟨z, ?_, hu' w X β z hz'⟩
              rw [cell_of_row w _ _ arr e' (0, 0) a1, ← hz]
              congr 1; omega)
            refine ⟨news, h1, h2, h3, fun w' => ?_, fun w' hw => ?_⟩
            · rw [g1]; rfl
            · rw [g1] at h4 ⊢; exact h4 w' hw
          · have hl0 : len = 0 := by omega
            subst hl0
            have hx0 : xs = [] := List.length_eq_zero_iff.1 g1
            subst hx0
            exact ⟨[], by simp, by simp, by simp, fun w' => rfl, fun w' hw => by simp [Builtin.firstCells, loadCells, loadCellsFrom]⟩
    · cases h
  · simp only [Option.some.injEq] at h
    subst h
    cases hx
    exact ⟨[], by simp, by simp, by simp, fun w' => rfl, fun w' hw => rfl⟩
  · rename_i s
    unfold strElems at h
    split at h <;> first | (cases h; done) | skip
    cases hx
    exact ⟨_, str_news s xs (Option.some.inj h).symm⟩
  · cases h

end
end Go.Ab
