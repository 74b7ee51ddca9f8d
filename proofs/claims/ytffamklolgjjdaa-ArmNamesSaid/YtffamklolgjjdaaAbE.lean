/-
  The engine, part E: operations on memory and values. Conditions: none.
-/
import Derived.Test.YtffamklolgjjdaaAbD
namespace Go.Ab
section
variable {P : Program} {E : Nat → Nat → Prop} {H : List O} {β : List Loc} {w : World} {X : Nat → Nat → Prop}

theorem one_spec {v : V} {y : Value} (h : R w X β v y) (h1 : v.one = true) : y.oneCell' = true := by
  cases h <;> first | rfl | (simp [V.one] at h1; done) | skip
  cases y <;> first | rfl | (simp [V.one] at h1)

theorem allOne_spec {vs : List V} (h : allOne vs = true) : ∀ v ∈ vs, v.one = true := by
  induction vs with
  | nil => simp
  | cons u r ih =>
    unfold allOne at h
    cases hu : u.one
    · simp [hu] at h
    · simp only [hu, cond_true] at h
      intro v hv
      rcases List.mem_cons.1 hv with rfl | hv
      · exact hu
      · exact ih h v hv

theorem cells_spec {v : V} {y : Value} {vs : List V} (h : R w X β v y) (hc : v.cells? = some vs) :
    ∃ ys : List Value, y.cells = ys.toArray ∧ ys.length = vs.length ∧ (∀ (k : Nat) v z, vs[k]? = some v → ys[k]? = some z → R w X β v z) ∧ ∀ z ∈ ys, z.oneCell' = true := by
  have single : v.one = true → vs = [v] → y.cells = #[y] → ∃ ys : List Value, y.cells = ys.toArray ∧ ys.length = vs.length ∧ (∀ (k : Nat) v z, vs[k]? = some v → ys[k]? = some z → R w X β v z) ∧ ∀ z ∈ ys, z.oneCell' = true := by
    intro h1 h2 h3
    subst h2
    refine ⟨[y], h3, rfl, ?_, by simpa using one_spec h h1⟩
    intro k v' z hv hz
    cases k with
    | zero => simp at hv hz; subst hv; subst hz; exact h
    | succ k => simp at hv
  cases h with
  | agg _ cells xs hl hh =>
    simp only [V.cells?] at hc
    cases ha : allOne cells
    · simp [ha] at hc
    · simp only [ha, cond_true, Option.some.injEq] at hc
      subst hc
      refine ⟨xs, rfl, hl, hh, fun z hz => ?_⟩
      obtain ⟨k, hk, hk'⟩ := List.getElem_of_mem hz
      have hkc : k < cells.length := by omega
      exact one_spec (hh k cells[k] z (by simp [hkc]) (by simp [hk, hk'])) (allOne_spec ha _ (List.getElem_mem hkc))
  | val _ =>
    simp only [V.cells?] at hc
    cases ha : V.one (.val y)
    · simp [ha] at hc
    · simp only [ha, cond_true, Option.some.injEq] at hc
      refine single ha hc.symm ?_
      cases y <;> first | rfl | (simp [V.one] at ha)
  | tup => simp [V.cells?] at hc
  | any => simp [V.cells?] at hc
  | _ => exact single rfl (by simpa [V.cells?] using hc.symm) rfl

theorem sound_store {ty : TypeId} {a v : V} {x y : Value} {H' : List O} (hR : Rel w (Xs E H β) H β) (hx : R w (Xs E H β) β a x) (hy : R w (Xs E H β) β v y)
    (h : oStore P H ty a v = some H') : ∃ w', (Instr.storeAt ty x y).run P w = .ok () w' ∧ Step E H β w H' β w' := by
  unfold oStore at h
  split at h
  · rename_i i vs id off h1 h2
    split at h
    · rename_i cs e hH
      cases hcond : (Nat.beq vs.length i.size && Nat.ble (off + vs.length) cs.length)
      · simp [hcond] at h
      · simp only [hcond, cond_true, Option.some.injEq] at h
        subst h
        obtain ⟨hsz, hfit⟩ := Bool.and_eq_true_iff.1 hcond
        have hsz := Nat.eq_of_beq_eq_true hsz
        have hfit := Nat.le_of_ble_eq_true hfit
        cases hx with
        | ptr _ _ _ loc hid hk =>
          obtain ⟨_, c, e', a1, a2, a3, a4⟩ := hR.cells id cs e loc hH hid
          obtain ⟨ys, hys, hl, hr, hone⟩ := cells_spec hy h2
          have hrun := run_storeCells_at P loc.block (loc.base + off) e' ys 0 c w a1 (by simp; omega) hone
          simp only [Nat.add_zero] at hrun
          refine ⟨_, ?_, Step.setCells (e0 := e') hR hH hid a1 (c' := (c.toList.take (loc.base + off) ++ ys ++ c.toList.drop (loc.base + off + ys.length)).toArray) ?_ ?_ ?_⟩
          · simp [Instr.storeAt, Instr.sureAddr, storeVar, hys, ti_size w h1, hl, hsz]
            rw [← hl] at hsz
            simpa [hsz, hl] using hrun
          · simp; omega
          · simp [splice]; omega
          · intro k u hu
            unfold splice at hu
            rw [List.append_assoc] at hu
            by_cases hk1 : k < off
            · rw [List.getElem?_append_left (by simp; omega), List.getElem?_take, if_pos hk1] at hu
              obtain ⟨z, hz, hz'⟩ := a4 k u hu
              refine ⟨z, ?_, hz'⟩
              simp only [List.getElem?_toArray, List.append_assoc]
              rw [List.getElem?_append_left (by simp; omega), List.getElem?_take, if_pos (by omega)]
              simpa using hz
            · rw [List.getElem?_append_right (by simp; omega)] at hu
              have hmin : min off cs.length = off := by omega
              simp only [List.length_take, hmin] at hu
              by_cases hk2 : k - off < vs.length
              · rw [List.getElem?_append_left hk2] at hu
                have hky : k - off < ys.length := by omega
                refine ⟨ys[k - off], ?_, hr (k - off) u _ hu (by simp [hky])⟩
                simp only [List.getElem?_toArray, List.append_assoc]
                have hmin2 : min (loc.base + off) c.size = loc.base + off := by omega
                rw [List.getElem?_append_right (by simp; omega), List.getElem?_append_left (by simp [hmin2]; omega)]
                simp only [List.length_take, Array.length_toList, hmin2]
                rw [show loc.base + k - (loc.base + off) = k - off from by omega]
                simp [hky]
              · rw [List.getElem?_append_right (by omega), List.getElem?_drop] at hu
                have hkk : off + vs.length + (k - off - vs.length) = k := by omega
                rw [hkk] at hu
                obtain ⟨z, hz, hz'⟩ := a4 k u hu
                refine ⟨z, ?_, hz'⟩
                simp only [List.getElem?_toArray, List.append_assoc]
                have hmin2 : min (loc.base + off) c.size = loc.base + off := by omega
                rw [List.getElem?_append_right (by simp; omega), List.getElem?_append_right (by simp [hmin2]; omega), List.getElem?_drop]
                simp only [List.length_take, Array.length_toList, hmin2]
                rw [show loc.base + off + ys.length + (loc.base + k - (loc.base + off) - ys.length) = loc.base + k from by omega]
                simpa using hz
    · cases h
  · cases h

theorem sound_newVar {vs : List V} {y : Value} {ys : List Value} (e : TypeId) (hR : Rel w (Xs E H β) H β) (hys : y.cells = ys.toArray) (hl : ys.length = vs.length)
    (hr : ∀ (k : Nat) v z, vs[k]? = some v → ys[k]? = some z → R w (Xs E H β) β v z) :
    ∃ w' β', (newVar e y).run P w = .ok ⟨w.heap.size, 0, none⟩ w' ∧ Step E H β w (H ++ [.cells vs e]) β' w' ∧ R w' (Xs E (H ++ [.cells vs e]) β') β' (.ptr H.length 0) (.pointer (some ⟨w.heap.size, 0, none⟩)) := by
  refine ⟨w.alloc (.cells ys.toArray e), β ++ [{ kind := false, block := w.heap.size, base := 0, n := 0, size := ys.length }], ?_, ?_, ?_⟩
  · simp [newVar, newRow, hys]
  · refine Step.push hR ys.toArray e _ _ rfl (by simp) ?_ ?_
    · intro cs e' h
      simp only [O.cells.injEq] at h
      obtain ⟨rfl, rfl⟩ := h
      refine ⟨rfl, by simp [hl], fun k v hv => ?_⟩
      have hk : k < ys.length := by rw [hl]; exact (List.getElem?_eq_some_iff.1 hv).1
      exact ⟨ys[k], by simp [hk], hr k v _ hv (by simp [hk])⟩
    · intro n sz h; cases h
  · have := R.ptr (w := w.alloc (.cells ys.toArray e)) (X := Xs E (H ++ [.cells vs e]) (β ++ [{ kind := false, block := w.heap.size, base := 0, n := 0, size := ys.length }]))
      (β ++ [{ kind := false, block := w.heap.size, base := 0, n := 0, size := ys.length }]) H.length 0 { kind := false, block := w.heap.size, base := 0, n := 0, size := ys.length } (by rw [hR.len]; simp) rfl
    simpa using this

theorem zero_cells {t : TypeId} {i : TI} (h : ti P t = some i) : ∃ z, (∀ w, (zeroValue t).run P w = .ok z w) ∧ i.zero = z.cells.toList.map ofVal1 := by
  obtain ⟨j, d, h1, _, _, _, ⟨z, hz, hz'⟩, _⟩ := (ti_spec h).info
  exact ⟨z, fun w => by simp [zeroValue, typeInfo, h1, hz], hz'⟩

theorem sound_alloc {e : TypeId} {i : TI} (hR : Rel w (Xs E H β) H β) (h : ti P e = some i) :
    ∃ w' β', (Instr.alloc e true (.tuple #[])).run P w = .ok (.pointer (some ⟨w.heap.size, 0, none⟩)) w' ∧ Step E H β w (H ++ [.cells i.zero e]) β' w' ∧
      R w' (Xs E (H ++ [.cells i.zero e]) β') β' (.ptr H.length 0) (.pointer (some ⟨w.heap.size, 0, none⟩)) := by
  obtain ⟨z, hz, hz'⟩ := zero_cells h
  obtain ⟨w', β', h1, h2, h3⟩ := sound_newVar (P := P) (vs := i.zero) (y := z) (ys := z.cells.toList) e hR (by simp) (by simp [hz']) (by
    intro k v y hv hy
    rw [hz'] at hv
    simp only [List.getElem?_map, hy, Option.map_some, Option.some.injEq] at hv
    subst hv
    exact ofVal1_R _ _ _ _)
  exact ⟨w', β', by simp [Instr.alloc, hz, h1], h2, h3⟩

theorem sound_box {e : TypeId} {v : V} {y : Value} {vs : List V} (hR : Rel w (Xs E H β) H β) (hy : R w (Xs E H β) β v y) (h : v.cells? = some vs) :
    ∃ w' β', (Instr.box e y).run P w = .ok (.pointer (some ⟨w.heap.size, 0, none⟩)) w' ∧ Step E H β w (H ++ [.cells vs e]) β' w' ∧
      R w' (Xs E (H ++ [.cells vs e]) β') β' (.ptr H.length 0) (.pointer (some ⟨w.heap.size, 0, none⟩)) := by
  obtain ⟨ys, hys, hl, hr, _⟩ := cells_spec hy h
  obtain ⟨w', β', h1, h2, h3⟩ := sound_newVar (P := P) e hR hys hl hr
  exact ⟨w', β', by simp [Instr.box, h1], h2, h3⟩

theorem pin_drop {cells : List V} {b o : Nat} (h : R w X β (.pin cells) (.pointer (some ⟨b, o, none⟩))) (k : Nat) : R w X β (.pin (cells.drop k)) (.pointer (some ⟨b, o + k, none⟩)) := by
  cases h with
  | pin _ _ _ _ f hc hr =>
    refine .pin β _ b (o + k) (fun j => f (k + j)) (fun j hj => ?_) (fun j v hv => ?_)
    · rw [Nat.add_assoc]
      exact hc (k + j) (by simp at hj; omega)
    · rw [List.getElem?_drop] at hv
      exact hr (k + j) v hv

theorem offs_spec {t : TypeId} {i : TI} {offs : List (Nat × Nat × Bool)} (h : ti P t = some i) (hk : i.k = .st offs) :
    ∃ fs : Array Field, P.underlying t = some (.struct fs) ∧ offs = fs.toList.map fun f => (f.offset, P.cellsOf f.type, isAggB P f.type) := by
  obtain ⟨j, d, h1, h2, _, _, _, h6, _⟩ := (ti_spec h).info
  rw [hk] at h6
  cases d with
  | struct fs => simp only [TK.st.injEq] at h6; exact ⟨fs, h2, h6⟩
  | _ => cases h6

theorem slice_spec {t : TypeId} {i : TI} {e : TypeId} (h : ti P t = some i) (hk : i.k = .slice e) : P.underlying t = some (.slice e) := by
  obtain ⟨j, d, h1, h2, _, _, _, h6, _⟩ := (ti_spec h).info
  rw [hk] at h6
  cases d with
  | slice e' => simp only [TK.slice.injEq] at h6; rw [h6]; exact h2
  | _ => cases h6

theorem arr_spec {t : TypeId} {i : TI} {n : Nat} {e : TypeId} (h : ti P t = some i) (hk : i.k = .arr n e) : P.underlying t = some (.array n e) := by
  obtain ⟨j, d, h1, h2, _, _, _, h6, _⟩ := (ti_spec h).info
  rw [hk] at h6
  cases d with
  | array n' e' => simp only [TK.arr.injEq] at h6; obtain ⟨rfl, rfl⟩ := h6; exact h2
  | _ => cases h6

theorem sound_fieldAddr {t : TypeId} {x v : V} {y : Value} {f : Nat} (hx : R w X β x y) (h : oFieldAddr P t x f = some v) :
    ∃ z, (Instr.fieldAt t y f).run P w = .ok z w ∧ R w X β v z := by
  unfold oFieldAddr at h
  split at h
  · rename_i i h1
    split at h
    · rename_i offs hk
      obtain ⟨fs, hu, hoffs⟩ := offs_spec h1 hk
      split at h
      · rename_i off size _ ho
        rw [hoffs] at ho
        simp only [List.getElem?_map, Option.map_eq_some_iff, Prod.mk.injEq] at ho
        obtain ⟨fl, hf, rfl, hsz, _⟩ := ho
        cases hb : Nat.beq size 0
        · simp only [hb, cond_false] at h
          have hne : size ≠ 0 := fun e => by subst e; simp at hb
          have hinfo : ∃ j, P.info? fl.type = some j ∧ j.size = size := by
            unfold Program.cellsOf at hsz
            cases hj : P.info? fl.type with
            | none => simp [hj] at hsz; omega
            | some j => exact ⟨j, rfl, by simpa [hj] using hsz⟩
          obtain ⟨j, hj, hjs⟩ := hinfo
          have hfa : fs[f]? = some fl := by simpa using hf
          have hrun : ∀ b o, (Instr.fieldAt t (.pointer (some ⟨b, o, none⟩)) f).run P w = .ok (.pointer (some ⟨b, o + fl.offset, none⟩)) w := by
            intro b o
            simp [Instr.fieldAt, run_und w hu, hfa, Instr.sureAddr, fieldPlace, run_sizeOf' w hj, hjs, hne, addr_add]
          split at h
          · rename_i id o
            simp only [Option.some.injEq] at h
            subst h
            cases hx with
            | ptr _ _ _ loc hid hk' =>
              refine ⟨_, hrun _ _, ?_⟩
              rw [Nat.add_assoc]
              exact .ptr β id (o + fl.offset) loc hid hk'
          · rename_i cells
            simp only [Option.some.injEq] at h
            subst h
            cases hx with
            | pin _ _ b o f' hc hr => exact ⟨_, hrun _ _, pin_drop (.pin β cells b o f' hc hr) _⟩
          · cases h
        · simp [hb] at h
      · cases h
    · cases h
  · cases h

theorem enc_size : ∀ (c : EC) (x : c.ty), (enc c x).length = c.size := by
  intro c
  refine EC.rec (motive_1 := fun c => ∀ x : c.ty, (enc c x).length = c.size) (motive_2 := fun cs => ∀ x : EC.tys cs, (encs cs x).length = EC.sizes cs) ?_ ?_ ?_ ?_ ?_ ?_ ?_ c
  · intro k x; rfl
  · intro x; rfl
  · intro x; rfl
  · intro c _ x; simp [enc, EC.size]
  · intro cs ih x; simpa [enc, EC.size] using ih x
  · intro x; rfl
  · intro c cs ih ihs x
    cases cs with
    | nil => simpa [encs, EC.sizes] using ih x
    | cons d cs =>
      simp only [encs, EC.sizes, List.length_append]
      rw [ih x.1, ihs x.2]

/-- An element's place. -/
theorem elem_pin {c : EC} {l : List c.ty} {m : Nat} {b o : Nat} {f : Nat → Nat → Value} {x : c.ty} (_hx : l[m]? = some x) (hc : ∀ k, k < c.size → ¬ X b (o + k) ∧ w.cell? ⟨b, o + k, none⟩ = some (f m k))
    (hr : ∀ (k : Nat) (v : V), (enc c x)[k]? = some v → R w X [] v (f m k)) : R w X β (.pin (enc c x)) (.pointer (some ⟨b, o, none⟩)) :=
  .pin β _ b o (f m) (fun k hk => hc k (by rw [enc_size] at hk; exact hk)) hr

theorem inside_spec {i : Int} {n : Nat} (h : inside i n = true) : 0 ≤ i ∧ i < n ∧ i.toNat < n := by
  simp only [inside, Bool.and_eq_true, decide_eq_true_eq] at h
  exact ⟨h.1, h.2, by omega⟩

theorem req_run {β : Type} {c : Bool} {x : Tree β} {b : β} (h : (Tree.req c x).run = some b) : c = true ∧ x.run = some b := by
  cases c
  · simp [Tree.req, Tree.run] at h
  · exact ⟨rfl, h⟩

theorem sound_indexAddr {t : TypeId} {x ix v : V} {y iy : Value} (hx : R w X β x y) (hi : R w X β ix iy) (h : (oIndexAddr P t x ix).run = some v) :
    ∃ z, (Instr.indexAt t y iy).run P w = .ok z w ∧ R w X β v z := by
  unfold oIndexAddr at h
  split at h
  · rename_i i k n h1
    cases hi
    split at h
    · rename_i e hk
      have hu := slice_spec h1 hk
      split at h
      · rename_i j hj
        split at h
        · rename_i c l sp fl
          cases hb : Nat.beq c.size j.size
          · simp [hb, Tree.run] at h
          · simp only [hb, cond_true] at h
            have hsz := Nat.eq_of_beq_eq_true hb
            obtain ⟨hin, h⟩ := req_run h
            simp only [Tree.run, Option.some.injEq] at h
            subst h
            obtain ⟨i0, i1, i2⟩ := inside_spec hin
            cases hx with
            | nil => simp at i2
            | sl _ _ _ _ _ b o cap f hcap hfull hrw hc hr =>
              refine ⟨.pointer (some ⟨b, o + n.toNat * j.size, none⟩), ?_, ?_⟩
              · simp [Instr.indexAt, asIntOf, run_und w hu, i0, i1, ti_size w hj, addr_add]
              · rw [List.getD_eq_getElem?_getD, List.getElem?_eq_getElem i2, Option.getD_some]
                refine elem_pin (l := l) (f := f) (m := n.toNat) (List.getElem?_eq_getElem i2) (fun k hk => ?_) (fun k u hu => ?_)
                · rw [← hsz]; exact hc n.toNat k (by omega) hk
                · exact hr n.toNat _ k u (by rw [List.getElem?_append_left i2]; exact List.getElem?_eq_getElem i2) hu
        · rename_i id c l
          cases hb : Nat.beq c.size j.size
          · simp [hb, Tree.run] at h
          · simp only [hb, cond_true] at h
            have hsz := Nat.eq_of_beq_eq_true hb
            obtain ⟨hin, h⟩ := req_run h
            simp only [Tree.run, Option.some.injEq] at h
            subst h
            obtain ⟨i0, i1, i2⟩ := inside_spec hin
            cases hx with
            | gro _ _ _ _ b o cap loc f hid hk hn hl hcap hc hr =>
              refine ⟨.pointer (some ⟨b, o + n.toNat * j.size, none⟩), ?_, ?_⟩
              · simp [Instr.indexAt, asIntOf, run_und w hu, i0, i1, ti_size w hj, addr_add]
              · rw [List.getD_eq_getElem?_getD, List.getElem?_eq_getElem i2, Option.getD_some]
                refine elem_pin (l := l) (f := f) (m := n.toNat) (List.getElem?_eq_getElem i2) (fun k hk => ?_) (fun k u hu => ?_)
                · rw [← hsz]; exact hc n.toNat k (by omega) hk
                · exact hr n.toNat _ k u (List.getElem?_eq_getElem i2) hu
        · rename_i id sz off len
          cases hb : Nat.beq sz j.size
          · simp [hb, Tree.run] at h
          · simp only [hb, cond_true] at h
            have hsz := Nat.eq_of_beq_eq_true hb
            obtain ⟨hin, h⟩ := req_run h
            simp only [Tree.run, Option.some.injEq] at h
            subst h
            obtain ⟨i0, i1, i2⟩ := inside_spec hin
            cases hx with
            | ref _ _ _ _ _ loc b o cap hid hk hlen ha hcap =>
              obtain ⟨rfl, rfl⟩ := ha (by omega)
              refine ⟨.pointer (some ⟨loc.block, loc.base + off + n.toNat * j.size, none⟩), ?_, ?_⟩
              · simp [Instr.indexAt, asIntOf, run_und w hu, i0, i1, ti_size w hj, addr_add]
              · rw [Nat.add_assoc, ← hsz]
                exact .ptr β id _ loc hid hk
        · cases h
      · cases h
    · rename_i len e hk
      have hu := arr_spec h1 hk
      split at h
      · rename_i j hj
        have hrun : ∀ b o, 0 ≤ n → n < len → (Instr.indexAt t (.pointer (some ⟨b, o, none⟩)) (.int k n)).run P w = .ok (.pointer (some ⟨b, o + n.toNat * j.size, none⟩)) w := by
          intro b o i0 i1
          simp [Instr.indexAt, asIntOf, run_und w hu, i0, i1, ti_size w hj, addr_add, Instr.sureAddr]
        split at h
        · rename_i id off
          obtain ⟨hin, h⟩ := req_run h
          simp only [Tree.run, Option.some.injEq] at h
          subst h
          obtain ⟨i0, i1, i2⟩ := inside_spec hin
          cases hx with
          | ptr _ _ _ loc hid hk' =>
            refine ⟨_, hrun _ _ i0 i1, ?_⟩
            rw [Nat.add_assoc]
            exact .ptr β id _ loc hid hk'
        · rename_i cells
          obtain ⟨hin, h⟩ := req_run h
          simp only [Tree.run, Option.some.injEq] at h
          subst h
          obtain ⟨i0, i1, i2⟩ := inside_spec hin
          cases hx with
          | pin _ _ b o f' hc hr => exact ⟨_, hrun _ _ i0 i1, pin_drop (.pin β cells b o f' hc hr) _⟩
        · cases h
      · cases h
    · cases h
  · cases h

end
end Go.Ab
