/-
  The engine, part L: composite slices, make, slice expressions. Conditions: none.
-/
import Derived.Test.YtffamklolgjjdaaAbK
namespace Go.Ab
section
variable {P : Program} {E : Nat → Nat → Prop} {H : List O} {β : List Loc} {w : World} {X : Nat → Nat → Prop}

theorem flat_rep {α : Type} (z : List α) : ∀ (n : Nat), (List.replicate n z).flatten.length = n * z.length ∧ ∀ k, k < n * z.length → (List.replicate n z).flatten[k]? = z[k % z.length]?
  | 0 => ⟨by simp, fun k hk => by simp at hk⟩
  | n + 1 => by
    obtain ⟨h1, h2⟩ := flat_rep z n
    rw [List.replicate_succ, List.flatten_cons]
    refine ⟨by rw [List.length_append, h1, Nat.add_mul]; omega, fun k hk => ?_⟩
    by_cases hz : k < z.length
    · rw [List.getElem?_append_left hz, Nat.mod_eq_of_lt hz]
    · have hmod : k % z.length = (k - z.length) % z.length := Nat.mod_eq_sub_mod (by omega)
      rw [List.getElem?_append_right (by omega), hmod]
      apply h2
      rw [Nat.add_mul] at hk
      omega

theorem zero_arr {z : Value} {n : Nat} {zs : List V} (hs : z.cells.size = zs.length) (hr : ∀ (k : Nat) v x, zs[k]? = some v → z.cells[k]? = some x → R w X β v x) :
    ((Array.range (n * zs.length)).map (z.cells[· % z.cells.size]!)).size = (List.replicate n zs).flatten.length ∧
    ∀ (k : Nat) v x, (List.replicate n zs).flatten[k]? = some v → ((Array.range (n * zs.length)).map (z.cells[· % z.cells.size]!))[k]? = some x → R w X β v x := by
  obtain ⟨h1, h2⟩ := flat_rep zs n
  refine ⟨by simp [h1], fun k v x hv hx => ?_⟩
  have hk : k < n * zs.length := by rw [← h1]; exact (List.getElem?_eq_some_iff.1 hv).1
  rw [h2 k hk] at hv
  simp only [Array.getElem?_map, Array.getElem?_range, hk, if_true, Option.map_some, Option.some.injEq] at hx
  have hpos : 0 < zs.length := by
    rcases Nat.eq_zero_or_pos zs.length with h0 | h0
    · simp [h0] at hk
    · exact h0
  have hm := Nat.mod_lt k hpos
  refine hr (k % zs.length) v x hv ?_
  rw [← hx, hs]
  have : k % zs.length < z.cells.size := by omega
  simp [this]

theorem sound_buildSlice {ref : Bool} {t : TypeId} {len : Nat} {ps : List (Nat × V)} {qs : Array (Nat × Value)} {v : V} {H' : List O} (hE : ∀ b o, E b o → b < w.heap.size ∧ ¬ Own H β b o)
    (hR : Rel w (Xs E H β) H β) (hlen : ps.length = qs.size)
    (hpq : ∀ (k : Nat) p q, ps[k]? = some p → qs.toList[k]? = some q → p.1 = q.1 ∧ R w (Xs E H β) β p.2 q.2) (h : oBuildSlice P H ref t len ps = some (v, H')) :
    ∃ z w' β', (Instr.buildSlice t len qs).run P w = .ok z w' ∧ Step E H β w H' β' w' ∧ R w' (Xs E H' β') β' v z := by
  unfold oBuildSlice at h
  split at h
  rotate_left
  · cases h
  rename_i i hi
  split at h
  rotate_left
  · cases h
  rename_i e hk
  have hu := slice_spec hi hk
  split at h
  rotate_left
  · cases h
  rename_i j hj
  cases hb : (Nat.ble (len * j.size) 16777216 && Nat.beq j.zero.length j.size)
  · simp [hb] at h
  simp only [hb, cond_true] at h
  obtain ⟨b1, b2⟩ := Bool.and_eq_true_iff.1 hb
  have b1 := Nat.le_of_ble_eq_true b1
  have b2 := Nat.eq_of_beq_eq_true b2
  split at h
  rotate_left
  · cases h
  rename_i es hes
  obtain ⟨z, hz, hzs, hzr⟩ := zero_R (w := w) (X := Xs E H β) (β := β) hj
  obtain ⟨a1, a2⟩ := zero_arr (n := len) hzs hzr
  obtain ⟨arr, g1, g2, g3, g4⟩ := fill_R (w := w) (X := Xs E H β) (β := β) (place := fun i => some (i * j.size, j.size)) (fun i x hx => hx) ps qs.toList _ es _ (by simpa using hlen) hpq a1 a2 hes
  obtain ⟨f1, f2⟩ := flat_rep j.zero len
  have hrun : (Instr.buildSlice t len qs).run P w = .ok (.slice (some ⟨w.heap.size, 0, none⟩) len len) (w.alloc (.cells arr e)) := by
    have hn : ¬ (16777216 < len * j.size) := by omega
    rw [b2] at g1
    by_cases h0 : len * j.size = 0
    · have e0 : ∀ f : Nat → Value, (Array.range (len * j.size)).map f = #[] := by intro f; rw [h0]; simp
      rw [e0] at g1
      simp only [Instr.buildSlice, Sem.run_bind, run_und w hu, Result.andThen_ok, ti_size w hj]
      simp [h0, newRow, show Array.range 0 = #[] from rfl, g1]
    · simp only [Instr.buildSlice, Sem.run_bind, run_und w hu, Result.andThen_ok, ti_size w hj]
      simp [h0, hn, hz, newRow]
      simp [g1]
  cases ref
  · simp only [cond_false] at h
    split at h
    rotate_left
    · cases h
    rename_i c hc
    cases hcs : Nat.beq c.size j.size
    · simp [hcs] at h
    simp only [hcs, cond_true] at h
    have hcs := Nat.eq_of_beq_eq_true hcs
    obtain ⟨l, hl, he⟩ := Option.map_eq_some_iff.1 h
    simp only [Prod.mk.injEq] at he
    obtain ⟨rfl, rfl⟩ := he
    rw [← hcs] at hl
    obtain ⟨l1, l2⟩ := chunk_dec hl
    obtain ⟨st, hr⟩ := fresh_sl (l := l) (arr := arr) (e := e) (fl := .full) (cap := len) (len := len) hE hR l1.symm (by omega) (fun _ => l1.symm) (by
      intro i x k v hx hv
      obtain ⟨u, hu, _, hu'⟩ := l2 i x k v hx hv
      have hk : i * c.size + k < arr.size := by rw [g2]; exact (List.getElem?_eq_some_iff.1 hu).1
      exact ⟨arr[i * c.size + k], by simp [hk], hu' w (Xs E H β) β _ (g4 _ u _ hu (by simp [hk]))⟩)
    exact ⟨_, _, β, hrun, st, hr⟩
  · simp only [cond_true, Option.some.injEq, Prod.mk.injEq] at h
    obtain ⟨rfl, rfl⟩ := h
    have st := Step.push hR arr e (.cells es (e + 4294967296)) { kind := false, block := w.heap.size, base := 0, n := 0, size := arr.size } rfl rfl
      (fun cs e' h => by
        simp only [O.cells.injEq] at h
        obtain ⟨rfl, rfl⟩ := h
        refine ⟨rfl, by simp [g2], fun k v hv => ?_⟩
        have hk : k < arr.size := by rw [g2]; exact (List.getElem?_eq_some_iff.1 hv).1
        exact ⟨arr[k], by simp [hk], g4 k v _ hv (by simp [hk])⟩) (fun n sz h => by cases h)
    refine ⟨_, _, _, hrun, st, ?_⟩
    refine .ref _ H.length j.size 0 len { kind := false, block := w.heap.size, base := 0, n := 0, size := arr.size } w.heap.size 0 len (by rw [hR.len]; simp) rfl (Nat.le_refl _) (fun _ => ⟨rfl, rfl⟩) ?_
    have : es.length = len * j.size := by rw [g3, f1, b2]
    simp only [Nat.zero_add]
    omega

theorem sound_makeSlice {ref : Bool} {t : TypeId} {l c v : V} {ly cy : Value} {H' : List O} (hE : ∀ b o, E b o → b < w.heap.size ∧ ¬ Own H β b o)
    (hR : Rel w (Xs E H β) H β) (hl : R w (Xs E H β) β l ly) (hc : R w (Xs E H β) β c cy) (h : (oMakeSlice P H ref t l c).run = some (v, H')) :
    ∃ z w' β', (Instr.makeSlice t ly cy).run P w = .ok z w' ∧ Step E H β w H' β' w' ∧ R w' (Xs E H' β') β' v z := by
  unfold oMakeSlice at h
  split at h
  rotate_left
  · cases h
  rename_i i k1 l k2 c hi
  cases hl
  cases hc
  split at h
  rotate_left
  · cases h
  rename_i e hk
  have hu := slice_spec hi hk
  split at h
  rotate_left
  · cases h
  rename_i j hj
  obtain ⟨hreq, h⟩ := req_run h
  cases hb : (Nat.beq j.zero.length j.size && Nat.blt 0 j.bytes)
  · simp [hb, Tree.run] at h
  simp only [hb, cond_true] at h
  obtain ⟨b1, b2⟩ := Bool.and_eq_true_iff.1 hb
  have b1 := Nat.eq_of_beq_eq_true b1
  have b2 : 0 < j.bytes := by simpa [Nat.blt_eq] using b2
  simp only [Bool.and_eq_true, decide_eq_true_eq] at hreq
  obtain ⟨⟨r1, r2⟩, r3⟩ := hreq
  have r3 := roomy_spec r3
  obtain ⟨ti1, d1, i1, i2, i3, i4, ⟨z, z1, z2⟩, _⟩ := (ti_spec hj).info
  have hcb : (ti1.bytes : Int) * c ≤ 281474976710656 := by
    have e1 : c = (c.toNat : Int) := by omega
    rw [e1, i4]
    have : ((j.bytes * c.toNat : Nat) : Int) ≤ 281474976710656 := by rw [Nat.mul_comm]; omega
    simpa using this
  have hc63 : c ≤ 9223372036854775807 := by
    have : c.toNat * 1 ≤ c.toNat * j.bytes := Nat.mul_le_mul_left _ b2
    omega
  have hrun := run_make (P := P) w t e ti1 z hu i1 z1 k1 k2 l c r1 r2 hcb hc63
  rw [i3] at hrun
  have hz : z.cells.size = j.zero.length := by simp [z2]
  obtain ⟨a1, a2⟩ := zero_arr (w := w) (X := Xs E H β) (β := β) (z := z) (n := c.toNat) (zs := j.zero) hz (by
    intro k v x hv hx
    rw [z2] at hv
    have : z.cells.toList[k]? = some x := by simpa using hx
    simp only [List.getElem?_map, this, Option.map_some, Option.some.injEq] at hv
    subst hv
    exact ofVal1_R _ _ _ _)
  rw [b1] at a1 a2
  obtain ⟨f1, f2⟩ := flat_rep j.zero c.toNat
  obtain ⟨f3, f4⟩ := flat_rep j.zero l.toNat
  have hlc : l.toNat ≤ c.toNat := by omega
  have hmul : l.toNat * j.zero.length ≤ c.toNat * j.zero.length := Nat.mul_le_mul_right _ hlc
  have hget : ∀ (k : Nat) u, (List.replicate l.toNat j.zero).flatten[k]? = some u → ∃ x, (madeCells z.cells (c.toNat * j.size))[k]? = some x ∧ R w (Xs E H β) β u x := by
    intro k u hu
    have hk : k < l.toNat * j.zero.length := by rw [← f3]; exact (List.getElem?_eq_some_iff.1 hu).1
    rw [f4 k hk, ← f2 k (by omega)] at hu
    have hk' : k < (madeCells z.cells (c.toNat * j.size)).size := by rw [size_madeCells, ← b1]; omega
    exact ⟨_, by rw [Array.getElem?_eq_getElem hk'], a2 k u _ hu (by show (madeCells z.cells (c.toNat * j.size))[k]? = _; rw [Array.getElem?_eq_getElem hk'])⟩
  cases ref
  · simp only [cond_false] at h
    split at h
    rotate_left
    · cases h
    rename_i d hd
    cases hds : Nat.beq d.size j.size
    · simp [hds, Tree.run] at h
    simp only [hds, cond_true] at h
    have hds := Nat.eq_of_beq_eq_true hds
    split at h
    rotate_left
    · cases h
    rename_i x0 hx0
    simp only [Tree.run, Option.some.injEq, Prod.mk.injEq] at h
    obtain ⟨rfl, rfl⟩ := h
    obtain ⟨q1, q2⟩ := dec1_spec hx0
    have st := Step.push hR (madeCells z.cells (c.toNat * j.size)) e (.tok l.toNat d.size) { kind := true, block := w.heap.size, base := 0, n := l.toNat, size := c.toNat * j.size } rfl (size_madeCells _ _)
      (fun cs e h => by cases h) (fun n sz h => by cases h; exact ⟨rfl, rfl⟩)
    refine ⟨_, _, _, hrun, st, mk_gro (loc := { kind := true, block := w.heap.size, base := 0, n := l.toNat, size := c.toNat * j.size }) (by simp) (by rw [hR.len]; simp) rfl (by simp) ?_ (by simpa using hlc) ?_⟩
    · intro _
      refine ⟨rfl, rfl, ?_⟩
      simp only [hds]; omega
    · intro i' x k u hx hv
      have hi : i' < l.toNat := by have := (List.getElem?_eq_some_iff.1 hx).1; simpa using this
      have hlt := idx_lt hi hv
      rw [List.getElem?_replicate, if_pos hi] at hx
      simp only [Option.some.injEq] at hx
      subst hx
      obtain ⟨u0, hu0, _, hu0'⟩ := q2 k u hv
      have hk : k < d.size := by have := (List.getElem?_eq_some_iff.1 hv).1; rwa [enc_size] at this
      have hflat : (List.replicate l.toNat j.zero).flatten[i' * d.size + k]? = some u0 := by
        rw [f4 _ (by rw [q1]; exact hlt), q1, Nat.add_comm, Nat.add_mul_mod_self_right, Nat.mod_eq_of_lt hk]
        exact hu0
      obtain ⟨x, hx, hr⟩ := hget _ _ hflat
      refine ⟨?_, x, ?_, (hu0' w _ _ x hr).stab st.stab _ (.nil _)⟩
      · rintro (g | ⟨id, lo, g1, g2, g3⟩)
        · exact absurd (hE _ _ g).1 (Nat.lt_irrefl _)
        · rw [getElem?_concat] at g1
          by_cases hid : id < β.length
          · simp only [hid, if_true] at g1
            have hid' : id < H.length := by rw [hR.len]; exact hid
            rcases g3 with ⟨cs, e, g3⟩ | ⟨n, sz, g3, g4⟩
            · rw [List.getElem?_append_left hid'] at g3
              have := live_lt hR (live_cells g3) g1
              omega
            · rw [List.getElem?_append_left hid'] at g3
              have := live_lt hR (live_tok g3) g1
              omega
          · simp only [hid, if_false] at g1
            split at g1
            · rename_i hid2
              rcases g3 with ⟨cs, e, g3⟩ | ⟨n, sz, g3, g4⟩
              · rw [hid2, ← hR.len] at g3; simp at g3
              · rw [hid2, ← hR.len] at g3
                simp at g3
                obtain ⟨rfl, rfl⟩ := g3
                simp only [Option.some.injEq] at g1
                subst g1
                simp at g4
                omega
            · cases g1
      · rw [World.cell?_alloc_new]
        simpa using hx
  · simp only [cond_true, Tree.run, Option.some.injEq, Prod.mk.injEq] at h
    obtain ⟨rfl, rfl⟩ := h
    have st := Step.push hR (madeCells z.cells (c.toNat * j.size)) e (.cells (List.replicate l.toNat j.zero).flatten 0) { kind := false, block := w.heap.size, base := 0, n := 0, size := c.toNat * j.size } rfl (size_madeCells _ _)
      (fun cs e' h => by
        simp only [O.cells.injEq] at h
        obtain ⟨rfl, rfl⟩ := h
        refine ⟨rfl, ⟨by rw [f3]; simp only [Nat.zero_add]; rw [← b1]; exact hmul, fun h => absurd h (by decide)⟩, fun k v hv => ?_⟩
        obtain ⟨x, hx, hr⟩ := hget k v hv
        exact ⟨x, by simpa using hx, hr⟩) (fun n sz h => by cases h)
    refine ⟨_, _, _, hrun, st, ?_⟩
    exact .ref _ H.length j.size 0 l.toNat { kind := false, block := w.heap.size, base := 0, n := 0, size := c.toNat * j.size } w.heap.size 0 c.toNat (by rw [hR.len]; simp) rfl hlc (fun _ => ⟨rfl, rfl⟩) (by simp)

end
end Go.Ab
