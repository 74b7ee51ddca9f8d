/-
  The engine, part C: each operation's answer is the model's. Conditions: none.
-/
import Derived.Test.YtffamklolgjjdaaAbB
import Derived.Laws.StructEq
import Derived.Laws.Strings
import Derived.Laws.CopyRow
import Derived.Laws.AppendOwn
namespace Go.Ab

theorem Stab.refl (w : World) (X : Nat → Nat → Prop) : Stab w X w X := ⟨fun _ _ _ h1 h2 => ⟨h1, h2⟩, fun _ cs e h => ⟨cs, e, h⟩⟩

theorem R.up {w X v x} (β : List Loc) (h : R w X [] v x) : R w X β v x := h.stab (Stab.refl w X) β (.nil β)

theorem ofVal1_R (w X β) (x : Value) : R w X β (ofVal1 x) x := by
  cases x with
  | int k n => exact .int _ _ _
  | bool b => exact .bool _ _
  | string s => obtain ⟨⟨l⟩⟩ := s; exact .str β l
  | _ => exact .val _ _

theorem ofVal_R (w X β) (x : Value) : R w X β (ofVal x) x := by
  cases x with
  | agg cs =>
    obtain ⟨l⟩ := cs
    refine .agg β _ l (by simp) ?_
    intro k v x h1 h2
    simp only [List.getElem?_map, h2, Option.map_some, Option.some.injEq] at h1
    subst h1
    exact ofVal1_R _ _ _ _
  | _ => simp only [ofVal]; exact ofVal1_R _ _ _ _

section
variable {w : World} {X : Nat → Nat → Prop} {β : List Loc} {n : Nat} {t : T} {a : Act}

theorem rd_R (h : FR w X β n t a) (x : Operand) : R w X β (rd t x) (a.eval x) := by
  cases x with
  | tmp i => exact h.slot i
  | const v => exact ofVal_R _ _ _ _
  | global g => exact .val _ _
  | func f => exact .val _ _

/-- What is told of a type. -/
structure TIs (P : Program) (t : TypeId) (i : TI) : Prop where
  info : ∃ (j : TypeInfo) (d : TypeDesc), P.info? t = some j ∧ P.underlying t = some d ∧ j.size = i.size ∧ j.bytes = i.bytes ∧
    (∃ z, j.zero = some z ∧ i.zero = z.cells.toList.map ofVal1) ∧
    i.k = (match d with
      | .slice e => .slice e
      | .struct fs => .st (fs.toList.map fun f => (f.offset, P.cellsOf f.type, isAggB P f.type))
      | .array n e => .arr n e
      | _ => .scal) ∧ knownFields P d = true

theorem ti_spec {P : Program} {t : TypeId} {i : TI} (h : ti P t = some i) : TIs P t i := by
  unfold ti at h
  split at h
  · rename_i j d h1 h2
    dsimp only at h
    split at h
    · rename_i z hz
      cases hk : knownFields P d
      · simp [hk] at h
      · simp only [hk, cond_true, Option.some.injEq] at h
        subst h
        exact ⟨j, d, h1, h2, rfl, rfl, ⟨z, hz, rfl⟩, rfl, hk⟩
    · cases h
  · cases h

theorem run_typeInfo' {P : Program} {t : TypeId} {j : TypeInfo} (w : World) (h : P.info? t = some j) : (typeInfo t).run P w = .ok j w := by
  simp [typeInfo, h]

theorem run_sizeOf' {P : Program} {t : TypeId} {j : TypeInfo} (w : World) (h : P.info? t = some j) : (sizeOf t).run P w = .ok j.size w := by
  simp [sizeOf, typeInfo, h]

theorem run_und {P : Program} {t : TypeId} {d : TypeDesc} (w : World) (h : P.underlying t = some d) : (underlying t).run P w = .ok d w := by
  simp [underlying, h]

theorem ti_size {P : Program} {t : TypeId} {i : TI} (w : World) (h : ti P t = some i) : (sizeOf t).run P w = .ok i.size w := by
  obtain ⟨j, d, h1, _, h3, _⟩ := (ti_spec h).info
  rw [run_sizeOf' w h1, h3]

theorem ti_isAgg {P : Program} {t : TypeId} {i : TI} (w : World) (h : ti P t = some i) : (isAgg t).run P w = .ok (aggTK i.k) w := by
  obtain ⟨j, d, h1, h2, _, _, _, h6, _⟩ := (ti_spec h).info
  rw [h6]
  cases d <;> simp [isAgg, run_und w h2, aggTK]

theorem cell_ptr {H : List O} {x : V} {y : Value} {cells : List V} (hR : Rel w X H β) (hx : R w X β x y) (h : cellsAt H x = some cells) :
    ∃ b o, y = .pointer (some ⟨b, o, none⟩) ∧ ∀ (k : Nat) v, cells[k]? = some v → ∃ z, w.cell? ⟨b, o + k, none⟩ = some z ∧ R w X β v z := by
  cases hx with
  | pin _ cs b o f hc hr =>
    simp only [cellsAt, Option.some.injEq] at h
    subst h
    refine ⟨b, o, rfl, fun k v hv => ⟨f k, (hc k ?_).2, (hr k v hv).up β⟩⟩
    exact (List.getElem?_eq_some_iff.1 hv).1
  | ptr _ id off loc hid hk =>
    simp only [cellsAt] at h
    split at h
    · rename_i cs e hH
      simp only [Option.some.injEq] at h
      subst h
      obtain ⟨_, c, e', h1, h2, h3, h4⟩ := hR.cells id cs e loc hH hid
      refine ⟨loc.block, loc.base + off, rfl, fun k v hv => ?_⟩
      rw [List.getElem?_drop] at hv
      obtain ⟨z, hz, hz'⟩ := h4 (off + k) v hv
      refine ⟨z, ?_, hz'⟩
      rw [cell_of_row w _ _ c e' (0, 0) h1, ← hz, Nat.add_assoc]
    · cases h
  | _ => cases h

theorem addr_add (b o k : Nat) : (⟨b, o, none⟩ : Addr).add k = ⟨b, o + k, none⟩ := by
  unfold Addr.add; split <;> simp_all

theorem R_cells_agg {l : List V} (f : Nat → Value) (h : ∀ k v, l[k]? = some v → R w X β v (f k)) :
    R w X β (.agg l) (.agg ((List.range l.length).map f).toArray) := by
  refine .agg β l _ (by simp) ?_
  intro k v x h1 h2
  have hk := (List.getElem?_eq_some_iff.1 h1).1
  simp only [List.getElem?_map, List.getElem?_range hk, Option.map_some, Option.some.injEq] at h2
  subst h2
  exact h k v h1

theorem sound_loadVar {P : Program} {H : List O} {ty : TypeId} {x v : V} {y : Value} (hR : Rel w X H β) (hx : R w X β x y) (h : oLoad P H ty x = some v) :
    ∃ b o z, y = .pointer (some ⟨b, o, none⟩) ∧ (loadVar ty ⟨b, o, none⟩).run P w = .ok z w ∧ R w X β v z := by
  unfold oLoad at h
  split at h
  · rename_i i cells h1 h2
    obtain ⟨b, o, rfl, hc⟩ := cell_ptr hR hx h2
    refine ⟨b, o, ?_⟩
    unfold ofCells at h
    cases hk : aggTK i.k
    · simp only [hk, cond_false] at h
      cases cells with
      | nil => cases h
      | cons u r =>
        simp only [Option.some.injEq] at h
        subst h
        obtain ⟨z, hz, hz'⟩ := hc 0 u rfl
        refine ⟨z, rfl, ?_, hz'⟩
        simp only [Nat.add_zero] at hz
        simp [loadVar, ti_isAgg w h1, hk, hz]
    · simp only [hk, cond_true] at h
      cases hb : Nat.ble i.size cells.length
      · simp [hb] at h
      · simp only [hb, cond_true, Option.some.injEq] at h
        subst h
        have hle : i.size ≤ cells.length := Nat.le_of_ble_eq_true hb
        let f : Nat → Value := fun k => (w.cell? ⟨b, o + k, none⟩).getD undef
        have hf : ∀ k, k < i.size → w.cell? ((⟨b, o, none⟩ : Addr).add k) = some (f k) := by
          intro k hk
          obtain ⟨z, hz, _⟩ := hc k cells[k] (by simp [List.getElem?_eq_getElem (Nat.lt_of_lt_of_le hk hle)])
          rw [addr_add, hz]; simp [f, hz]
        have hl : (cells.take i.size).length = i.size := by simp [hle]
        refine ⟨.agg ((List.range i.size).map f).toArray, rfl, ?_, ?_⟩
        · simp [loadVar, ti_isAgg w h1, hk, ti_size w h1, run_loadCells (P := P) w ⟨b, o, none⟩ i.size f hf]
        · have := R_cells_agg (w := w) (X := X) (β := β) (l := cells.take i.size) f ?_
          · rwa [hl] at this
          · intro k v hv
            rw [List.getElem?_take] at hv
            split at hv
            · obtain ⟨z, hz, hz'⟩ := hc k v hv
              simpa [f, hz] using hz'
            · cases hv
  · cases h

theorem sound_load {P : Program} {H : List O} {ty : TypeId} {x v : V} {y : Value} (hR : Rel w X H β) (hx : R w X β x y) (h : oLoad P H ty x = some v) :
    ∃ z, (Instr.loadAt ty y).run P w = .ok z w ∧ R w X β v z := by
  obtain ⟨b, o, z, rfl, h1, h2⟩ := sound_loadVar hR hx h
  exact ⟨z, by simp [Instr.loadAt, Instr.sureAddr, h1], h2⟩

end
end Go.Ab
