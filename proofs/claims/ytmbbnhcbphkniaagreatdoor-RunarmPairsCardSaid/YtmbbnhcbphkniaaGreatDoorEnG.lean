/-
  The engine, part G: slices are made, grow and are cut. Conditions: none.
-/
import Derived.Test.YtmbbnhcbphkniaaGreatDoorEnF
import Derived.Laws.Append
import Derived.Laws.MakeOwn
import Derived.Laws.BytesArg
import Derived.Laws.IdiomStrings
import Derived.Laws.Runes
import Derived.ChangeKeysEq
namespace Go.Ab
section
variable {P : Program} {E : Nat → Nat → Prop} {H : List O} {β : List Loc} {w : World} {X : Nat → Nat → Prop}

theorem enc_get {c : EC} (x : c.ty) {k : Nat} (hk : k < c.size) : ∃ v, (enc c x)[k]? = some v :=
  ⟨(enc c x)[k]'(by rw [enc_size]; exact hk), by simp [enc_size, hk]⟩

theorem mk_sl {c : EC} {l spare : List c.ty} {fl : Fl} {b o len cap : Nat} (hlen : len = l.length) (hcap : l.length + spare.length ≤ cap)
    (hfull : fl = .full → cap = l.length + spare.length) (hrw : fl.fixed = false → ∃ (cs : Array Value) (e : TypeId), w.heap[b]? = some (.cells cs e (0, 0)))
    (h : ∀ (i : Nat) x (k : Nat) v, (l ++ spare)[i]? = some x → (enc c x)[k]? = some v → ¬ X b (o + i * c.size + k) ∧ ∃ y, w.cell? ⟨b, o + i * c.size + k, none⟩ = some y ∧ R w X [] v y) :
    R w X β (.sl c l spare fl) (.slice (some ⟨b, o, none⟩) len cap) := by
  subst hlen
  refine .sl β c l spare fl b o cap (fun i k => (w.cell? ⟨b, o + i * c.size + k, none⟩).getD undef) hcap hfull hrw (fun i k hi hk => ?_) (fun i x k v h1 h2 => ?_)
  · have hi' : i < (l ++ spare).length := by simpa using hi
    obtain ⟨v, hv⟩ := enc_get (l ++ spare)[i] hk
    obtain ⟨h1, y, h2, _⟩ := h i _ k v (by rw [List.getElem?_eq_getElem hi']) hv
    exact ⟨h1, by rw [h2]; rfl⟩
  · obtain ⟨_, y, h3, h4⟩ := h i x k v h1 h2
    rw [h3]; exact h4

theorem sl_get {c : EC} {l spare : List c.ty} {fl : Fl} {y : Value} (h : R w X β (.sl c l spare fl) y) :
    (y = .slice none 0 0 ∧ l = [] ∧ spare = [] ∧ fl = .may) ∨
    ∃ b o cap, y = .slice (some ⟨b, o, none⟩) l.length cap ∧ l.length + spare.length ≤ cap ∧ (fl = .full → cap = l.length + spare.length) ∧
      (fl.fixed = false → ∃ (cs : Array Value) (e : TypeId), w.heap[b]? = some (.cells cs e (0, 0))) ∧
      ∀ (i : Nat) x (k : Nat) v, (l ++ spare)[i]? = some x → (enc c x)[k]? = some v → ¬ X b (o + i * c.size + k) ∧ ∃ y, w.cell? ⟨b, o + i * c.size + k, none⟩ = some y ∧ R w X [] v y := by
  cases h with
  | sl _ _ _ _ _ b o cap f hcap hfull hrw hc hr =>
    refine .inr ⟨b, o, cap, rfl, hcap, hfull, hrw, fun i x k v h1 h2 => ?_⟩
    have hk : k < c.size := by have := (List.getElem?_eq_some_iff.1 h2).1; rwa [enc_size] at this
    have hi : i < l.length + spare.length := by have := (List.getElem?_eq_some_iff.1 h1).1; simpa using this
    exact ⟨(hc i k hi hk).1, f i k, (hc i k hi hk).2, hr i x k v h1 h2⟩
  | nil => exact .inl ⟨rfl, rfl, rfl, rfl⟩

theorem sl_get_may {c : EC} {l spare : List c.ty} {fl : Fl} {y : Value} (h : R w X β (.sl c l spare fl) y) (hf : fl.isMay = false) :
    ∃ b o cap, y = .slice (some ⟨b, o, none⟩) l.length cap ∧ l.length + spare.length ≤ cap ∧ (fl = .full → cap = l.length + spare.length) ∧
      (fl.fixed = false → ∃ (cs : Array Value) (e : TypeId), w.heap[b]? = some (.cells cs e (0, 0))) ∧
      ∀ (i : Nat) x (k : Nat) v, (l ++ spare)[i]? = some x → (enc c x)[k]? = some v → ¬ X b (o + i * c.size + k) ∧ ∃ y, w.cell? ⟨b, o + i * c.size + k, none⟩ = some y ∧ R w X [] v y := by
  rcases sl_get h with ⟨_, _, _, rfl⟩ | h
  · cases hf
  · exact h

theorem gro_get {id : Nat} {c : EC} {l : List c.ty} {y : Value} (h : R w X β (.gro id c l) y) :
    ∃ b o cap loc, y = .slice (some ⟨b, o, none⟩) l.length cap ∧ β[id]? = some loc ∧ loc.kind = true ∧ l.length ≤ loc.n ∧
      (loc.n = l.length → b = loc.block ∧ o = loc.base ∧ o + cap * c.size ≤ loc.size) ∧ l.length ≤ cap ∧
      ∀ (i : Nat) x (k : Nat) v, l[i]? = some x → (enc c x)[k]? = some v → ¬ X b (o + i * c.size + k) ∧ ∃ y, w.cell? ⟨b, o + i * c.size + k, none⟩ = some y ∧ R w X [] v y := by
  cases h with
  | gro _ _ _ _ b o cap loc f hid hk hn hl hcap hc hr =>
    refine ⟨b, o, cap, loc, rfl, hid, hk, hn, hl, hcap, fun i x k v h1 h2 => ?_⟩
    have hk : k < c.size := by have := (List.getElem?_eq_some_iff.1 h2).1; rwa [enc_size] at this
    have hi : i < l.length := (List.getElem?_eq_some_iff.1 h1).1
    exact ⟨(hc i k hi hk).1, f i k, (hc i k hi hk).2, hr i x k v h1 h2⟩

theorem mk_gro {id : Nat} {c : EC} {l : List c.ty} {b o len cap : Nat} {loc : Loc} (hlen : len = l.length) (hid : β[id]? = some loc) (hk : loc.kind = true) (hn : l.length ≤ loc.n)
    (hl : loc.n = l.length → b = loc.block ∧ o = loc.base ∧ o + cap * c.size ≤ loc.size) (hcap : l.length ≤ cap)
    (h : ∀ (i : Nat) x (k : Nat) v, l[i]? = some x → (enc c x)[k]? = some v → ¬ X b (o + i * c.size + k) ∧ ∃ y, w.cell? ⟨b, o + i * c.size + k, none⟩ = some y ∧ R w X [] v y) :
    R w X β (.gro id c l) (.slice (some ⟨b, o, none⟩) len cap) := by
  subst hlen
  refine .gro β id c l b o cap loc (fun i k => (w.cell? ⟨b, o + i * c.size + k, none⟩).getD undef) hid hk hn hl hcap (fun i k hi hk => ?_) (fun i x k v h1 h2 => ?_)
  · obtain ⟨v, hv⟩ := enc_get l[i] hk
    obtain ⟨h1, y, h2, _⟩ := h i _ k v (by rw [List.getElem?_eq_getElem hi]) hv
    exact ⟨h1, by rw [h2]; rfl⟩
  · obtain ⟨_, y, h3, h4⟩ := h i x k v h1 h2
    rw [h3]; exact h4

theorem gro_sl {id : Nat} {c : EC} {l : List c.ty} {y : Value} (h : R w X β (.gro id c l) y) : R w X [] (.sl c l [] .ro) y := by
  obtain ⟨b, o, cap, loc, rfl, _, _, _, _, hcap, hh⟩ := gro_get h
  exact mk_sl rfl (by simpa using hcap) (fun h => by cases h) (fun h => by cases h) (by simpa using hh)

theorem sl_weak {c : EC} {l spare : List c.ty} {fl : Fl} {y : Value} (h : R w X β (.sl c l spare fl) y) (hf : fl.isMay = false) : R w X [] (.sl c l [] .ro) y := by
  obtain ⟨b, o, cap, rfl, hcap, _, _, hh⟩ := sl_get_may h hf
  refine mk_sl rfl (by simp; omega) (fun h => by cases h) (fun h => by cases h) (fun i x k v h1 h2 => hh i x k v ?_ h2)
  have : i < l.length := by have := (List.getElem?_eq_some_iff.1 h1).1; simpa using this
  rw [List.getElem?_append_left this]
  simpa using h1

/-- What is decoded is what stood there. -/
def DecOk (c : EC) : Prop := ∀ (l : List V) (x : c.ty) (rest : List V), dec c l = some (x, rest) → rest = l.drop c.size ∧ c.size ≤ l.length ∧
  ∀ (k : Nat) v, (enc c x)[k]? = some v → ∃ u, l[k]? = some u ∧ u.one = true ∧ ∀ (w : World) (X : Nat → Nat → Prop) (β : List Loc) (y : Value), R w X β u y → R w X [] v y

def DecsOk (cs : List EC) : Prop := ∀ (l : List V) (x : EC.tys cs) (rest : List V), decs cs l = some (x, rest) → rest = l.drop (EC.sizes cs) ∧ EC.sizes cs ≤ l.length ∧
  ∀ (k : Nat) v, (encs cs x)[k]? = some v → ∃ u, l[k]? = some u ∧ u.one = true ∧ ∀ (w : World) (X : Nat → Nat → Prop) (β : List Loc) (y : Value), R w X β u y → R w X [] v y

theorem one_cell {u v : V} {k : Nat} {r : List V} (h1 : u.one = true) (h : ∀ (w : World) (X : Nat → Nat → Prop) (β : List Loc) (y : Value), R w X β u y → R w X [] v y) (z : V) (hz : [v][k]? = some z) :
    ∃ u', (u :: r)[k]? = some u' ∧ u'.one = true ∧ ∀ (w : World) (X : Nat → Nat → Prop) (β : List Loc) (y : Value), R w X β u' y → R w X [] z y := by
  cases k with
  | zero => simp at hz; subst hz; exact ⟨u, rfl, h1, h⟩
  | succ k => simp at hz

theorem sameL_spec {c d : EC} {l : List d.ty} {l' : List c.ty} (h : sameL c d l = some l') : ∃ e : d = c, l' = castL e l := by
  unfold sameL at h
  split at h
  · rename_i e _
    simp only [Option.some.injEq] at h
    exact ⟨e, h.symm⟩
  · cases h

theorem decInt_spec {k : IntKind} {l rest : List V} {x : Int} (h : decInt k l = some (x, rest)) : l = .int k x :: rest := by
  unfold decInt at h
  split at h
  · rename_i k' n r
    cases hk : decide (k = k')
    · simp [hk] at h
    · simp only [hk, cond_true, Option.some.injEq, Prod.mk.injEq] at h
      obtain ⟨rfl, rfl⟩ := h
      rw [of_decide_eq_true hk]
  · cases h

theorem decBool_spec {l rest : List V} {x : Bool} (h : decBool l = some (x, rest)) : l = .bool x :: rest := by
  unfold decBool at h
  split at h
  · simp only [Option.some.injEq, Prod.mk.injEq] at h
    obtain ⟨rfl, rfl⟩ := h
    rfl
  · cases h

theorem decStr_spec {l rest : List V} {x : List UInt8} (h : decStr l = some (x, rest)) : l = .str x :: rest := by
  unfold decStr at h
  split at h
  · simp only [Option.some.injEq, Prod.mk.injEq] at h
    obtain ⟨rfl, rfl⟩ := h
    rfl
  · cases h

theorem dec_ok (c : EC) : DecOk c := by
  refine EC.rec (motive_1 := DecOk) (motive_2 := DecsOk) ?_ ?_ ?_ ?_ ?_ ?_ ?_ c
  · intro k l x rest h
    have e := decInt_spec (k := k) (x := x) h
    subst e
    exact ⟨by simp [EC.size], by simp [EC.size], fun j v hv => one_cell rfl (fun w X β y hy => by cases hy; exact .int _ _ _) v hv⟩
  · intro l x rest h
    have e := decBool_spec (x := x) h
    subst e
    exact ⟨by simp [EC.size], by simp [EC.size], fun j v hv => one_cell rfl (fun w X β y hy => by cases hy; exact .bool _ _) v hv⟩
  · intro l x rest h
    have e := decStr_spec (x := x) h
    subst e
    exact ⟨by simp [EC.size], by simp [EC.size], fun j v hv => one_cell rfl (fun w X β y hy => by cases hy; exact .str _ _) v hv⟩
  · intro c _ l x rest h
    change Option (List c.ty) at x
    change decSl c l = some (x, rest) at h
    show _ ∧ _ ∧ ∀ (k : Nat) v, ([match x with | none => nilSl | some l => V.sl c l [] .ro] : List V)[k]? = some v → _
    unfold decSl at h
    split at h
    · simp only [Option.some.injEq, Prod.mk.injEq] at h
      obtain ⟨rfl, rfl⟩ := h
      exact ⟨by simp [EC.size], by simp [EC.size], fun j v hv => one_cell rfl (fun w X β y hy => by cases hy; exact .val _ _) v hv⟩
    · rename_i _ d ll sp fl r
      cases hf : fl.isMay
      rotate_left
      · rw [hf] at h; cases h
      rw [hf] at h
      obtain ⟨l', hl', e⟩ := Option.map_eq_some_iff.1 h
      simp only [Prod.mk.injEq] at e
      obtain ⟨rfl, rfl⟩ := e
      obtain ⟨e, rfl⟩ := sameL_spec hl'
      subst e
      exact ⟨by simp [EC.size], by simp [EC.size], fun j v hv => one_cell rfl (fun w X β y hy => sl_weak hy hf) v hv⟩
    · obtain ⟨l', hl', e⟩ := Option.map_eq_some_iff.1 h
      simp only [Prod.mk.injEq] at e
      obtain ⟨rfl, rfl⟩ := e
      obtain ⟨e, rfl⟩ := sameL_spec hl'
      subst e
      exact ⟨by simp [EC.size], by simp [EC.size], fun j v hv => one_cell rfl (fun w X β y hy => gro_sl hy) v hv⟩
    · cases h
  · intro cs ih l x rest h
    exact ih l x rest h
  · intro l x rest h
    change some ((), l) = some (x, rest) at h
    have : l = rest := congrArg Prod.snd (Option.some.inj h)
    subst this
    exact ⟨by simp [EC.sizes], by simp [EC.sizes], fun k v hv => by simp [encs] at hv⟩
  · intro c cs ih ihs l x rest h
    cases cs with
    | nil => exact ih l x rest h
    | cons d cs =>
      change c.ty × EC.tys (d :: cs) at x
      change (match dec c l with
        | some (x, r) => match decs (d :: cs) r with
          | some (y, r) => some ((x, y), r)
          | none => none
        | none => none) = some (x, rest) at h
      split at h
      · rename_i x1 r1 h1
        split at h
        · rename_i x2 r2 h2
          simp only [Option.some.injEq, Prod.mk.injEq] at h
          obtain ⟨rfl, rfl⟩ := h
          obtain ⟨a1, a2, a3⟩ := ih l x1 r1 h1
          obtain ⟨b1, b2, b3⟩ := ihs r1 x2 r2 h2
          subst a1
          refine ⟨?_, ?_, ?_⟩
          · rw [b1, List.drop_drop]; rfl
          · simp only [List.length_drop] at b2
            show c.size + EC.sizes (d :: cs) ≤ l.length
            omega
          · intro k v hv
            have hv : (enc c x1 ++ encs (d :: cs) x2)[k]? = some v := hv
            by_cases hk : k < c.size
            · rw [List.getElem?_append_left (by rw [enc_size]; exact hk)] at hv
              exact a3 k v hv
            · rw [List.getElem?_append_right (by rw [enc_size]; omega), enc_size] at hv
              obtain ⟨u, hu, h1⟩ := b3 _ v hv
              rw [List.getElem?_drop] at hu
              exact ⟨u, by rw [← hu]; congr 1; omega, h1⟩
        · cases h
      · cases h

theorem dec1_spec {c : EC} {l : List V} {x : c.ty} (h : dec1 c l = some x) : l.length = c.size ∧
    ∀ (k : Nat) v, (enc c x)[k]? = some v → ∃ u, l[k]? = some u ∧ u.one = true ∧ ∀ (w : World) (X : Nat → Nat → Prop) (β : List Loc) (y : Value), R w X β u y → R w X [] v y := by
  unfold dec1 at h
  split at h
  · rename_i y hy
    simp only [Option.some.injEq] at h
    subst h
    obtain ⟨h1, h2, h3⟩ := dec_ok c l _ _ hy
    have : (l.drop c.size).length = 0 := by rw [← h1]; rfl
    simp at this
    exact ⟨by omega, h3⟩
  · cases h

theorem decAll_spec {c : EC} : ∀ {rows : List (List V)} {xs : List c.ty}, decAll c rows = some xs → xs.length = rows.length ∧
    ∀ (i : Nat) x, xs[i]? = some x → ∃ row, rows[i]? = some row ∧ dec1 c row = some x
  | [], xs, h => by
    simp only [decAll, Option.some.injEq] at h
    subst h
    exact ⟨rfl, fun i x h => by simp at h⟩
  | row :: rows, xs, h => by
    unfold decAll at h
    split at h
    · rename_i y ys h1 h2
      simp only [Option.some.injEq] at h
      subst h
      obtain ⟨a, b⟩ := decAll_spec h2
      refine ⟨by simp [a], fun i x hx => ?_⟩
      cases i with
      | zero => simp at hx; subst hx; exact ⟨row, rfl, h1⟩
      | succ i => simp at hx; obtain ⟨r, hr, hr'⟩ := b i x hx; exact ⟨r, by simpa using hr, hr'⟩
    · cases h

theorem chunks_spec (sz : Nat) : ∀ (n : Nat) (l : List V), (chunks sz n l).length = n ∧ ∀ (i : Nat) row, (chunks sz n l)[i]? = some row → row = (l.drop (i * sz)).take sz
  | 0, l => ⟨rfl, fun i row h => by simp [chunks] at h⟩
  | n + 1, l => by
    obtain ⟨h1, h2⟩ := chunks_spec sz n (l.drop sz)
    refine ⟨by simp [chunks, h1], fun i row h => ?_⟩
    cases i with
    | zero => simp [chunks] at h; simp [h]
    | succ i =>
      simp only [chunks, List.getElem?_cons_succ] at h
      rw [h2 i row h, List.drop_drop]
      congr 2
      rw [Nat.add_mul]; omega

/-- Elements out of a row of cells. -/
theorem chunk_dec {c : EC} {n : Nat} {cells : List V} {xs : List c.ty} (h : decAll c (chunks c.size n cells) = some xs) : xs.length = n ∧
    ∀ (i : Nat) x (k : Nat) v, xs[i]? = some x → (enc c x)[k]? = some v → ∃ u, cells[i * c.size + k]? = some u ∧ u.one = true ∧
      ∀ (w : World) (X : Nat → Nat → Prop) (β : List Loc) (y : Value), R w X β u y → R w X [] v y := by
  obtain ⟨h1, h2⟩ := decAll_spec h
  obtain ⟨g1, g2⟩ := chunks_spec c.size n cells
  refine ⟨by rw [h1, g1], fun i x k v hx hv => ?_⟩
  obtain ⟨row, hr, hd⟩ := h2 i x hx
  have hrow := g2 i row hr
  obtain ⟨hl, hh⟩ := dec1_spec hd
  obtain ⟨u, hu, hu'⟩ := hh k v hv
  refine ⟨u, ?_, hu'⟩
  rw [hrow, List.getElem?_take] at hu
  split at hu
  · rw [List.getElem?_drop] at hu; exact hu
  · cases hu

end
end Go.Ab

namespace Go.Ab
section
variable {P : Program} {E : Nat → Nat → Prop} {H : List O} {β : List Loc} {w : World} {X : Nat → Nat → Prop}

def OneOk (c : EC) : Prop := ∀ (x : c.ty) v, v ∈ enc c x → v.one = true
def OnesOk (cs : List EC) : Prop := ∀ (x : EC.tys cs) v, v ∈ encs cs x → v.one = true

theorem enc_one (c : EC) : OneOk c := by
  refine EC.rec (motive_1 := OneOk) (motive_2 := OnesOk) ?_ ?_ ?_ ?_ ?_ ?_ ?_ c
  · intro k x v hv; change v ∈ [V.int k x] at hv; simp at hv; subst hv; rfl
  · intro x v hv; change v ∈ [V.bool x] at hv; simp at hv; subst hv; rfl
  · intro x v hv; change v ∈ [V.str x] at hv; simp at hv; subst hv; rfl
  · intro c _ x v hv
    change Option (List c.ty) at x
    cases x with
    | none => change v ∈ [nilSl] at hv; simp at hv; subst hv; rfl
    | some l => change v ∈ [V.sl c l [] .ro] at hv; simp at hv; subst hv; rfl
  · intro cs ih x v hv; exact ih x v hv
  · intro x v hv; change v ∈ [] at hv; simp at hv
  · intro c cs ih ihs x v hv
    cases cs with
    | nil => exact ih x v hv
    | cons d cs =>
      change c.ty × EC.tys (d :: cs) at x
      change v ∈ enc c x.1 ++ encs (d :: cs) x.2 at hv
      rcases List.mem_append.1 hv with hv | hv
      · exact ih _ v hv
      · exact ihs _ v hv

/-- The cells of a slice's elements, read. -/
theorem row_cells {c : EC} {l : List c.ty} {b o : Nat}
    (h : ∀ (i : Nat) x (k : Nat) v, l[i]? = some x → (enc c x)[k]? = some v → ∃ y, w.cell? ⟨b, o + i * c.size + k, none⟩ = some y ∧ R w X [] v y) :
    ∃ news : List Value, news.length = l.length * c.size ∧ (∀ z ∈ news, z.oneCell' = true) ∧
      (∀ (i : Nat) x (k : Nat) v, l[i]? = some x → (enc c x)[k]? = some v → ∃ z, news[i * c.size + k]? = some z ∧ R w X [] v z) ∧
      ∀ w' : World, w'.heap = w.heap → (loadCells ⟨b, o, none⟩ (l.length * c.size)).run P w' = .ok news.toArray w' := by
  let f : Nat → Value := fun j => (w.cell? ⟨b, o + j, none⟩).getD undef
  have split : ∀ j, j < l.length * c.size → ∃ i k x v, j = i * c.size + k ∧ l[i]? = some x ∧ (enc c x)[k]? = some v := by
    intro j hj
    have hpos : 0 < c.size := by
      rcases Nat.eq_zero_or_pos c.size with h0 | h0
      · simp [h0] at hj
      · exact h0
    have hi : j / c.size < l.length := (Nat.div_lt_iff_lt_mul hpos).2 hj
    obtain ⟨v, hv⟩ := enc_get l[j / c.size] (Nat.mod_lt j hpos)
    exact ⟨j / c.size, j % c.size, _, v, (Nat.div_add_mod' j c.size).symm, List.getElem?_eq_getElem hi, hv⟩
  have hf : ∀ j, j < l.length * c.size → w.cell? ⟨b, o + j, none⟩ = some (f j) := by
    intro j hj
    obtain ⟨i, k, x, v, rfl, h1, h2⟩ := split j hj
    obtain ⟨y, hy, _⟩ := h i x k v h1 h2
    rw [Nat.add_assoc] at hy
    simp [f, hy]
  refine ⟨(List.range (l.length * c.size)).map f, by simp, ?_, ?_, ?_⟩
  · intro z hz
    obtain ⟨j, hj, rfl⟩ := List.mem_map.1 hz
    obtain ⟨i, k, x, v, rfl, h1, h2⟩ := split j (List.mem_range.1 hj)
    obtain ⟨y, hy, hr⟩ := h i x k v h1 h2
    have : f (i * c.size + k) = y := by rw [Nat.add_assoc] at hy; simp [f, hy]
    rw [this]
    exact one_spec hr (enc_one c x v (List.mem_of_getElem? h2))
  · intro i x k v h1 h2
    obtain ⟨y, hy, hr⟩ := h i x k v h1 h2
    have hk : k < c.size := by have := (List.getElem?_eq_some_iff.1 h2).1; rwa [enc_size] at this
    have hi : i < l.length := (List.getElem?_eq_some_iff.1 h1).1
    have hlt : i * c.size + k < l.length * c.size := by
      have : (i + 1) * c.size ≤ l.length * c.size := Nat.mul_le_mul_right _ hi
      rw [Nat.add_mul] at this
      omega
    refine ⟨y, ?_, hr⟩
    rw [Nat.add_assoc] at hy
    simp [List.getElem?_range hlt, f, hy]
  · intro w' hw
    rw [run_loadCells (P := P) w' ⟨b, o, none⟩ _ f]
    intro j hj
    rw [addr_add]
    exact (cell_heap (w := w) (w' := w') (by rw [hw]) (o + j)).trans (hf j hj)

/-- What is appended. -/
structure News (P : Program) (w : World) (X : Nat → Nat → Prop) (c : EC) (xs : List c.ty) (y : Value) (news : List Value) : Prop where
  len : news.length = xs.length * c.size
  one : ∀ z ∈ news, z.oneCell' = true
  get : ∀ (i : Nat) x (k : Nat) v, xs[i]? = some x → (enc c x)[k]? = some v → ∃ z, news[i * c.size + k]? = some z ∧ R w X [] v z
  lenOf : ∀ w' : World, (Builtin.lenOf y).run P w' = .ok xs.length w'
  first : ∀ w' : World, w'.heap = w.heap → (Builtin.firstCells c.size xs.length y).run P w' = .ok news.toArray w'

theorem str_news (s : List UInt8) (xs : List Int) (h : xs = s.map fun b => (b.toNat : Int)) :
    News P w X (.int .u8) xs (.string ⟨s.toArray⟩) (s.map fun b => .int .u8 b.toNat) := by
  have hl : xs.length = s.length := by rw [h]; simp
  refine ⟨?_, ?_, ?_, fun w' => ?_, fun w' hw => ?_⟩
  · show (s.map _).length = xs.length * 1
    simp [hl]
  · intro z hz; obtain ⟨b, _, rfl⟩ := List.mem_map.1 hz; rfl
  · intro i (x : Int) k v (h1 : xs[i]? = some x) h2
    change ([V.int .u8 x] : List V)[k]? = some v at h2
    cases k with
    | zero =>
      simp at h2
      subst h2
      rw [h, List.getElem?_map] at h1
      obtain ⟨b, hb, rfl⟩ := Option.map_eq_some_iff.1 h1
      refine ⟨.int .u8 b.toNat, ?_, .int _ _ _⟩
      show (s.map _)[i * 1 + 0]? = _
      simp [hb]
    | succ k => simp at h2
  · show _ = Result.ok xs.length w'
    rw [hl]; rfl
  · show (Builtin.firstCells 1 xs.length _).run P w' = _
    rw [hl]
    simp [Builtin.firstCells]

theorem int_news {k : IntKind} {L : List (EC.int k).ty} {len b o cap : Nat} (hlen : L.length = len) (hc : ∀ (i : Nat) (x : (EC.int k).ty), L[i]? = some x → w.cell? ⟨b, o + i, none⟩ = some (.int k x)) :
    ∃ news, News P w X (.int k) L (.slice (some ⟨b, o, none⟩) len cap) news := by
  obtain ⟨news, h1, h2, h3, h4⟩ := row_cells (P := P) (w := w) (X := X) (c := .int k) (l := L) (b := b) (o := o) (fun i x q v q1 q2 => by
    have hq : q = 0 := by
      have := (List.getElem?_eq_some_iff.1 q2).1
      simp only [enc, List.length_cons, List.length_nil] at this
      omega
    subst hq
    simp only [enc, List.getElem?_cons_zero, Option.some.injEq] at q2
    subst q2
    have hsz : (EC.int k).size = 1 := rfl
    rw [hsz, Nat.mul_one, Nat.add_zero]
    exact ⟨.int k x, hc i x q1, .int _ _ _⟩)
  subst hlen
  exact ⟨news, h1, h2, h3, fun w' => rfl, fun w' hw => h4 w' hw⟩
theorem nil_news {c : EC} {b o cap : Nat} : News P w X c ([] : List c.ty) (.slice (some ⟨b, o, none⟩) 0 cap) [] :=
  ⟨by simp, by simp, fun i x k v h => by simp at h, fun w' => rfl, fun w' hw => by simp [Builtin.firstCells, loadCells, loadCellsFrom]⟩
theorem drop_take_get {l : List Int} {m len i : Nat} {x : Int} (h : ((l.drop m).take len)[i]? = some x) : i < len ∧ l[m + i]? = some x := by
  have hi : i < len := by
    have := (List.getElem?_eq_some_iff.1 h).1
    simp at this
    omega
  rw [List.getElem?_take, if_pos hi, List.getElem?_drop] at h
  exact ⟨hi, h⟩
theorem drop_take_len {l : List Int} {m len : Nat} (h : m + len ≤ l.length) : ((l.drop m).take len).length = len := by simp; omega

theorem elems_R {c : EC} {x : V} {y : Value} {xs : List c.ty} (hR : Rel w X H β) (hx : R w X β x y) (h : elemsOf c H x = some xs) : ∃ news, News P w X c xs y news := by
  unfold elemsOf at h
  split at h
  · rename_i d l sp fl
    obtain ⟨e, rfl⟩ := sameL_spec h
    subst e
    rcases sl_get hx with ⟨rfl, rfl, rfl, rfl⟩ | ⟨b, o, cap, rfl, hcap, _, _, hh⟩
    · exact ⟨[], by simp [castL], by simp, by simp [castL], fun w' => rfl, fun w' hw => rfl⟩
    obtain ⟨news, h1, h2, h3, h4⟩ := row_cells (P := P) (w := w) (X := X) (l := l) (b := b) (o := o) (fun i x k v g1 g2 => (hh i x k v (by
      have : i < l.length := (List.getElem?_eq_some_iff.1 g1).1
      rw [List.getElem?_append_left this]; exact g1) g2).2)
    exact ⟨news, h1, h2, h3, fun w' => rfl, fun w' hw => h4 w' hw⟩
  · rename_i id d l
    obtain ⟨e, rfl⟩ := sameL_spec h
    subst e
    obtain ⟨b, o, cap, loc, rfl, _, _, _, _, hcap, hh⟩ := gro_get hx
    obtain ⟨news, h1, h2, h3, h4⟩ := row_cells (P := P) (w := w) (X := X) (l := l) (b := b) (o := o) (fun i x k v g1 g2 => (hh i x k v g1 g2).2)
    exact ⟨news, h1, h2, h3, fun w' => rfl, fun w' hw => h4 w' hw⟩
  · rename_i id s off len
    split at h
    · rename_i cs e hH
      cases hb : (Nat.beq s c.size && Nat.ble (off + len * s) cs.length)
      · simp [hb] at h
      · simp only [hb, cond_true] at h
        obtain ⟨b1, b2⟩ := Bool.and_eq_true_iff.1 hb
        have b1 := Nat.eq_of_beq_eq_true b1
        have b2 := Nat.le_of_ble_eq_true b2
        subst b1
        obtain ⟨g1, g2⟩ := chunk_dec h
        cases hx with
        | ref _ _ _ _ _ loc b o cap hid hk hlen ha hcap =>
          obtain ⟨_, arr, e', a1, a2, a3, a4⟩ := hR.cells id cs e loc hH hid
          by_cases h0 : 0 < cap
          · obtain ⟨rfl, rfl⟩ := ha h0
            obtain ⟨news, h1, h2, h3, h4⟩ := row_cells (P := P) (w := w) (X := X) (l := xs) (b := loc.block) (o := loc.base + off) (fun i x k v q1 q2 => by
              obtain ⟨u, hu, hone, hu'⟩ := g2 i x k v q1 q2
              rw [List.getElem?_drop] at hu
              obtain ⟨z, hz, hz'⟩ := a4 _ u hu
              refine ⟨z, ?_, hu' w X β z hz'⟩
              rw [cell_of_row w _ _ arr e' (0, 0) a1, ← hz]
              congr 1; omega)
            refine ⟨news, h1, h2, h3, fun w' => ?_, fun w' hw => ?_⟩
            · rw [g1]; rfl
            · rw [g1] at h4 ⊢; exact h4 w' hw
          · have hl0 : len = 0 := by omega
            subst hl0
            have hx0 : xs = [] := List.length_eq_zero_iff.1 g1
            subst hx0
            exact ⟨[], by simp, by simp, by simp, fun w' => rfl, fun w' hw => by simp [Builtin.firstCells, loadCells, loadCellsFrom]⟩
    · rename_i n k l hd hH
      cases hb : (Nat.beq s 1 && (Nat.ble n off && Nat.ble (off - n + len) l.length))
      · rw [hb] at h; cases h
      rw [hb, cond_true] at h
      obtain ⟨b1, hb⟩ := Bool.and_eq_true_iff.1 hb
      obtain ⟨b2, b3⟩ := Bool.and_eq_true_iff.1 hb
      have b1 := Nat.eq_of_beq_eq_true b1
      have b2 := Nat.le_of_ble_eq_true b2
      have b3 := Nat.le_of_ble_eq_true b3
      subst b1
      unfold pageElems at h
      split at h
      rotate_left
      · cases h
      rename_i k'
      cases hk : decide (k' = k)
      · rw [hk] at h; cases h
      rw [hk, cond_true] at h
      have := of_decide_eq_true hk
      subst this
      cases h
      cases hx with
      | ref _ _ _ _ _ loc b o cap hid hkd hlen' ha hcap =>
        obtain ⟨_, hb0, ob, ys, a1, ⟨hn, e', rfl⟩, _⟩ := hR.objs id _ _ loc hH hid
        by_cases h0 : 0 < cap
        · obtain ⟨rfl, rfl⟩ := ha h0
          exact int_news (drop_take_len b3) fun i x hx => by
            obtain ⟨hi, hx⟩ := drop_take_get hx
            rw [cell_of_row w _ _ _ e' (0, 0) a1, hb0, Nat.zero_add, List.getElem?_toArray, List.getElem?_append_right (by omega), hn, List.getElem?_map, show off + i - n = (off - n) + i by omega, hx]
            rfl
        · have hl0 : len = 0 := by omega
          subst hl0
          have e0 : ((l.drop (off - n)).take 0 : List Int) = [] := List.take_zero
          have e1 : (((l.drop (off - n)).take 0 : List Int) : List (EC.int k').ty) = [] := e0
          rw [e1]
          exact ⟨[], nil_news⟩
    · cases h
  · simp only [Option.some.injEq] at h
    subst h
    cases hx
    exact ⟨[], by simp, by simp, by simp, fun w' => rfl, fun w' hw => rfl⟩
  · rename_i s
    unfold strElems at h
    split at h <;> first | (cases h; done) | skip
    cases hx
    exact ⟨_, str_news s xs (Option.some.inj h).symm⟩
  · cases h

end
end Go.Ab

namespace Go.Ab
section
variable {P : Program} {E : Nat → Nat → Prop} {H : List O} {β : List Loc} {w : World} {X : Nat → Nat → Prop}

structure AppT (P : Program) (argTypes : Array TypeId) (e : TypeId) (j : TI) : Prop where
  st : ∃ st, argTypes[0]? = some st ∧ P.underlying st = some (.slice e)
  el : ti P e = some j
  xt : ∃ t d, argTypes[1]? = some t ∧ P.underlying t = some d ∧ ((∃ e, d = .slice e) ∨ d = .string)
  bytes : 0 < j.bytes
  zero : j.zero.length = j.size

theorem roomy_spec {n b : Nat} (h : roomy n b = true) : n * b ≤ 140737488355328 := of_decide_eq_true h

theorem run_append_in {argTypes : Array TypeId} {e ty : TypeId} {j : TI} (t : AppT P argTypes e j) {n : Nat} {news : List Value} {y : Value} {base : Option Addr} {sLen sCap : Nat}
    (hlen : (Builtin.lenOf y).run P w = .ok n w) (hfirst : (Builtin.firstCells j.size n y).run P w = .ok news.toArray w) (hneed : sLen + n ≤ sCap) {w' : World}
    (hst : ∀ a, base = some a → (storeCells (a.add (sLen * j.size)) news).run P w = .ok () w') (hnone : base = none → w' = w) :
    (Builtin.append_ argTypes ty #[.slice base sLen sCap, y]).run P w = .ok (.slice base (sLen + n) sCap) w' := by
  obtain ⟨st, h0, h1⟩ := t.st
  obtain ⟨xt, d, h2, h3, h4⟩ := t.xt
  cases base with
  | none =>
    rw [hnone rfl]
    rcases h4 with ⟨e', rfl⟩ | rfl <;> simp [Builtin.append_, h0, h2, run_und w h1, run_und w h3, ti_size w t.el, hlen, hfirst, hneed]
  | some a =>
    rcases h4 with ⟨e', rfl⟩ | rfl <;> simp [Builtin.append_, h0, h2, run_und w h1, run_und w h3, ti_size w t.el, hlen, hfirst, hneed, hst a rfl]

theorem run_append_out {argTypes : Array TypeId} {e ty : TypeId} {j : TI} (t : AppT P argTypes e j) {n : Nat} {olds news : List Value} {y : Value} {base : Option Addr} {sLen sCap : Nat}
    (hlen : (Builtin.lenOf y).run P w = .ok n w) (hfirst : (Builtin.firstCells j.size n y).run P w.drew = .ok news.toArray w.drew)
    (hold : (Builtin.firstCells j.size sLen (.slice base sLen sCap)).run P w.drew = .ok olds.toArray w.drew) (hneed : sCap < sLen + n) (hb : (sLen + n) * j.bytes ≤ 140737488355328) :
    ∃ rest : List Value, rest.length = (grownCap w (sLen + n) sCap e - (sLen + n)) * j.size ∧
    (Builtin.append_ argTypes ty #[.slice base sLen sCap, y]).run P w = .ok (.slice (some ⟨w.heap.size, 0, none⟩) (sLen + n) (grownCap w (sLen + n) sCap e))
      (w.drew.alloc (.cells (olds ++ news ++ rest).toArray e)) := by
  obtain ⟨st, h0, h1⟩ := t.st
  obtain ⟨xt, d, h2, h3, h4⟩ := t.xt
  obtain ⟨ti1, d1, i1, i2, i3, i4, ⟨z, z1, z2⟩, _⟩ := (ti_spec t.el).info
  have hz : z.cells.size = j.size := by have := t.zero; rw [z2] at this; simpa using this
  have hfit := growslice_fits hneed hb
  rw [← i4] at hfit
  refine ⟨(Builtin.zeroCells z.cells (grownCap w (sLen + n) sCap e - (sLen + n))).toList, by simp [size_zeroCells, hz], ?_⟩
  have hnb : ¬ (ti1.bytes = 0) := by rw [i4]; have := t.bytes; omega
  have hn : ¬ (sLen + n ≤ sCap) := by omega
  have hfit' : ¬ (281474976710656 < Builtin.nextslicecap (sLen + n) sCap * ti1.bytes) := by omega
  have hcat : ∀ Z : Array Value, w.drew.alloc (Obj.cells (olds.toArray ++ (news.toArray ++ Z)) e) = w.drew.alloc (Obj.cells (olds ++ (news ++ Z.toList)).toArray e) := by
    intro Z
    congr 2
    apply Array.ext'
    simp
  rcases h4 with ⟨e', rfl⟩ | rfl <;>
    simp [Builtin.append_, h0, h2, run_und w h1, run_und w h3, ti_size w t.el, hlen, hn, hcat, run_typeInfo' w i1, run_typeInfo' w.drew i1, hnb, hfit', Question.forced, grownCap, hfirst, hold, zeroValue, z1, newRow]

end
end Go.Ab

namespace Go.Ab
section
variable {P : Program} {E : Nat → Nat → Prop} {H : List O} {β : List Loc} {w : World} {X : Nat → Nat → Prop}

theorem Step.drew (hR : Rel w (Xs E H β) H β) : Step E H β w H β w.drew := Step.heap_same hR rfl rfl rfl rfl

theorem idx_lt {c : EC} {n i k : Nat} {x : c.ty} {v : V} (hi : i < n) (hv : (enc c x)[k]? = some v) : i * c.size + k < n * c.size := by
  have hk : k < c.size := by have := (List.getElem?_eq_some_iff.1 hv).1; rwa [enc_size] at this
  have : (i + 1) * c.size ≤ n * c.size := Nat.mul_le_mul_right _ hi
  rw [Nat.add_mul] at this
  omega

/-- Old cells and new ones, one behind the other. -/
theorem join_cells {c : EC} {l xs : List c.ty} {olds news : List Value} (ho : olds.length = l.length * c.size)
    (h1 : ∀ (i : Nat) x (k : Nat) v, l[i]? = some x → (enc c x)[k]? = some v → ∃ z, olds[i * c.size + k]? = some z ∧ R w X [] v z)
    (h2 : ∀ (i : Nat) x (k : Nat) v, xs[i]? = some x → (enc c x)[k]? = some v → ∃ z, news[i * c.size + k]? = some z ∧ R w X [] v z) :
    ∀ (i : Nat) x (k : Nat) v, (l ++ xs)[i]? = some x → (enc c x)[k]? = some v → ∃ z, (olds ++ news)[i * c.size + k]? = some z ∧ R w X [] v z := by
  intro i x k v hx hv
  by_cases hi : i < l.length
  · rw [List.getElem?_append_left hi] at hx
    rw [List.getElem?_append_left (by rw [ho]; exact idx_lt hi hv)]
    exact h1 i x k v hx hv
  · rw [List.getElem?_append_right (by omega)] at hx
    have hle : l.length * c.size ≤ i * c.size := Nat.mul_le_mul_right _ (by omega)
    rw [List.getElem?_append_right (by omega), ho]
    have e : i * c.size + k - l.length * c.size = (i - l.length) * c.size + k := by
      rw [Nat.sub_mul]; omega
    rw [e]
    exact h2 _ x k v hx hv

theorem new_gro {c : EC} {ll : List c.ty} {row rest : List Value} {e : TypeId} {cap : Nat} (hE : ∀ b o, E b o → b < w.heap.size ∧ ¬ Own H β b o) (hR : Rel w (Xs E H β) H β)
    (hrow : row.length = ll.length * c.size) (hcap : ll.length ≤ cap) (hrest : rest.length = (cap - ll.length) * c.size)
    (h : ∀ (i : Nat) x (k : Nat) v, ll[i]? = some x → (enc c x)[k]? = some v → ∃ z, row[i * c.size + k]? = some z ∧ R w (Xs E H β) [] v z) :
    ∃ β', Step E H β w (H ++ [.tok ll.length c.size]) β' (w.drew.alloc (.cells (row ++ rest).toArray e)) ∧
      R (w.drew.alloc (.cells (row ++ rest).toArray e)) (Xs E (H ++ [.tok ll.length c.size]) β') β' (.gro H.length c ll) (.slice (some ⟨w.heap.size, 0, none⟩) ll.length cap) := by
  have hd := Step.drew hR
  have hs := Step.push hd.rel (row ++ rest).toArray e (.tok ll.length c.size) { kind := true, block := w.heap.size, base := 0, n := ll.length, size := row.length + rest.length } rfl (by simp)
    (fun cs e h => by cases h) (fun n sz h => by cases h; exact ⟨rfl, rfl⟩)
  have st := hd.trans hs
  refine ⟨_, st, mk_gro (loc := { kind := true, block := w.heap.size, base := 0, n := ll.length, size := row.length + rest.length }) rfl (by rw [hR.len]; simp) rfl (Nat.le_refl _) ?_ hcap ?_⟩
  · intro _
    refine ⟨rfl, rfl, ?_⟩
    simp only [hrow, hrest, ← Nat.add_mul]
    rw [show ll.length + (cap - ll.length) = cap from by omega]; omega
  · intro i x k v hx hv
    have hi : i < ll.length := (List.getElem?_eq_some_iff.1 hx).1
    have hlt := idx_lt hi hv
    obtain ⟨z, hz, hr⟩ := h i x k v hx hv
    refine ⟨?_, z, ?_, hr.stab st.stab _ (.nil _)⟩
    · rintro (g | ⟨id, l, g1, g2, g3⟩)
      · exact absurd (hE _ _ g).1 (Nat.lt_irrefl _)
      · rw [getElem?_concat] at g1
        by_cases hid : id < β.length
        · simp only [hid, if_true] at g1
          have hid' : id < H.length := by rw [hR.len]; exact hid
          rcases g3 with ⟨cs, e, g3⟩ | ⟨n, sz, g3, g4⟩ | ⟨sh, vs, g3⟩
          · rw [List.getElem?_append_left hid'] at g3
            have := live_lt hR (live_cells g3) g1
            omega
          · rw [List.getElem?_append_left hid'] at g3
            have := live_lt hR (live_tok g3) g1
            omega
          · rw [List.getElem?_append_left hid'] at g3
            have := live_lt hR (live_obj g3) g1
            omega
        · simp only [hid, if_false] at g1
          split at g1
          · rename_i hid2
            rcases g3 with ⟨cs, e, g3⟩ | ⟨n, sz, g3, g4⟩ | ⟨sh, vs, g3⟩
            · rw [hid2, ← hR.len] at g3; simp at g3
            · rw [hid2, ← hR.len] at g3
              simp at g3
              obtain ⟨rfl, rfl⟩ := g3
              simp only [Option.some.injEq] at g1
              subst g1
              simp at g4
              omega
            · rw [hid2, ← hR.len] at g3; simp at g3
          · cases g1
    · have hc := World.cell?_alloc_new w.drew (row ++ rest).toArray e (0 + i * c.size + k)
      rw [show w.drew.heap.size = w.heap.size from rfl] at hc
      rw [hc]
      simp only [Nat.zero_add, List.getElem?_toArray]
      rw [List.getElem?_append_left (by omega)]
      exact hz

theorem move_gro {c : EC} {ll : List c.ty} {row rest : List Value} {e : TypeId} {cap id n : Nat} {loc : Loc} (hE : ∀ b o, E b o → b < w.heap.size ∧ ¬ Own H β b o) (hR : Rel w (Xs E H β) H β)
    (hid : H[id]? = some (.tok n c.size)) (hloc : β[id]? = some loc) (hn : n < ll.length)
    (hrow : row.length = ll.length * c.size) (hcap : ll.length ≤ cap) (hrest : rest.length = (cap - ll.length) * c.size)
    (h : ∀ (i : Nat) x (k : Nat) v, ll[i]? = some x → (enc c x)[k]? = some v → ∃ z, row[i * c.size + k]? = some z ∧ R w (Xs E H β) [] v z) :
    ∃ β', Step E H β w (H.set id (.tok ll.length c.size)) β' (w.drew.alloc (.cells (row ++ rest).toArray e)) ∧
      R (w.drew.alloc (.cells (row ++ rest).toArray e)) (Xs E (H.set id (.tok ll.length c.size)) β') β' (.gro id c ll) (.slice (some ⟨w.heap.size, 0, none⟩) ll.length cap) := by
  have hd := Step.drew hR
  have hs := Step.moveTok (e' := e) (c := (row ++ rest).toArray) hd.rel hid hloc hn
  have st := hd.trans hs
  have hilt : id < β.length := (List.getElem?_eq_some_iff.1 hloc).1
  have hsz : (row ++ rest).toArray.size = row.length + rest.length := by simp
  rw [hsz] at st
  refine ⟨_, st, mk_gro (loc := { kind := true, block := w.heap.size, base := 0, n := ll.length, size := row.length + rest.length }) rfl
    (by rw [get_set]; simp [hilt]) rfl (Nat.le_refl _) ?_ hcap ?_⟩
  · intro _
    refine ⟨rfl, rfl, ?_⟩
    simp only [hrow, hrest, ← Nat.add_mul]
    rw [show ll.length + (cap - ll.length) = cap from by omega]; omega
  · intro i x k v hx hv
    have hi : i < ll.length := (List.getElem?_eq_some_iff.1 hx).1
    have hlt := idx_lt hi hv
    obtain ⟨z, hz, hr⟩ := h i x k v hx hv
    refine ⟨?_, z, ?_, hr.stab st.stab _ (.nil _)⟩
    · rintro (g | ⟨j, l, g1, g2, g3⟩)
      · exact absurd (hE _ _ g).1 (Nat.lt_irrefl _)
      · rw [get_set] at g1
        rw [get_set] at g3
        by_cases hj : id = j
        · subst hj
          have hilt' : id < H.length := by rw [hR.len]; exact hilt
          simp only [if_true, hilt, hilt'] at g1 g3
          simp only [Option.some.injEq] at g1
          subst g1
          rcases g3 with ⟨cs, e, g3⟩ | ⟨m, sz, g3, g4⟩ | ⟨sh, vs, g3⟩
          · cases g3
          · simp only [Option.some.injEq, O.tok.injEq] at g3
            obtain ⟨rfl, rfl⟩ := g3
            simp at g4
            omega
          · cases g3
        · simp only [hj, if_false] at g1 g3
          rcases g3 with ⟨cs, e, g3⟩ | ⟨m, sz, g3, g4⟩ | ⟨sh, vs, g3⟩
          · have := live_lt hR (live_cells g3) g1
            omega
          · have := live_lt hR (live_tok g3) g1
            omega
          · have := live_lt hR (live_obj g3) g1
            omega
    · have hc := World.cell?_alloc_new w.drew (row ++ rest).toArray e (0 + i * c.size + k)
      rw [show w.drew.heap.size = w.heap.size from rfl] at hc
      rw [hc]
      simp only [Nat.zero_add, List.getElem?_toArray]
      rw [List.getElem?_append_left (by omega)]
      exact hz

/-- In its own room. -/
theorem in_gro {c : EC} {l xs : List c.ty} {news : List Value} {cap id : Nat} {y0 : Addr} (hE : ∀ b o, E b o → b < w.heap.size ∧ ¬ Own H β b o) (hR : Rel w (Xs E H β) H β)
    (hy : R w (Xs E H β) β (.gro id c l) (.slice (some y0) l.length cap)) (hid : H[id]? = some (.tok l.length c.size)) (hx : 0 < xs.length) (hcap : l.length + xs.length ≤ cap)
    (hlen : news.length = xs.length * c.size) (hone : ∀ z ∈ news, z.oneCell' = true)
    (h : ∀ (i : Nat) x (k : Nat) v, xs[i]? = some x → (enc c x)[k]? = some v → ∃ z, news[i * c.size + k]? = some z ∧ R w (Xs E H β) [] v z) :
    ∃ w' β', (storeCells (y0.add (l.length * c.size)) news).run P w = .ok () w' ∧ Step E H β w (H.set id (.tok (l ++ xs).length c.size)) β' w' ∧
      R w' (Xs E (H.set id (.tok (l ++ xs).length c.size)) β') β' (.gro id c (l ++ xs)) (.slice (some y0) (l.length + xs.length) cap) := by
  obtain ⟨b, o, cap', loc, he, hloc, hk, hn, hl, hcap', hh⟩ := gro_get hy
  simp only [Value.slice.injEq, Option.some.injEq, true_and] at he
  obtain ⟨rfl, rfl⟩ := he
  obtain ⟨_, hlocn, arr, e', a1, a2⟩ := hR.tok id _ _ loc hid hloc
  obtain ⟨rfl, rfl, hfit⟩ := hl hlocn
  have hmul : (l.length + xs.length) * c.size ≤ cap * c.size := Nat.mul_le_mul_right _ hcap
  rw [Nat.add_mul] at hmul
  have hroom : loc.base + l.length * c.size + news.length ≤ arr.size := by omega
  have hrun := run_storeCells_at P loc.block (loc.base + l.length * c.size) e' news 0 arr w a1 (by simpa using hroom) hone
  simp only [Nat.add_zero] at hrun
  have hgetnew : ∀ j, (arr.toList.take (loc.base + l.length * c.size) ++ news ++ arr.toList.drop (loc.base + l.length * c.size + news.length))[j]? =
      if loc.base + l.length * c.size ≤ j ∧ j < loc.base + l.length * c.size + news.length then news[j - (loc.base + l.length * c.size)]? else arr.toList[j]? := splice_get _ _ _ (by simpa using hroom)
  have st := Step.setTok (n' := (l ++ xs).length) (c' := (arr.toList.take (loc.base + l.length * c.size) ++ news ++ arr.toList.drop (loc.base + l.length * c.size + news.length)).toArray) hR hid hloc a1
    (by simp; omega) (by simp; omega) (by
      intro j hj
      rw [List.getElem?_toArray, hgetnew, if_neg (by omega)]
      simp)
  have hilt : id < β.length := (List.getElem?_eq_some_iff.1 hloc).1
  have hilt' : id < H.length := by rw [hR.len]; exact hilt
  refine ⟨_, _, by rw [addr_add]; exact hrun, st, mk_gro (loc := { loc with n := (l ++ xs).length }) (by simp) (by rw [get_set]; simp [hilt]) hk (Nat.le_refl _) (fun _ => ⟨rfl, rfl, hfit⟩) (by simpa using hcap) ?_⟩
  intro i x k v hx hv
  have hi : i < (l ++ xs).length := (List.getElem?_eq_some_iff.1 hx).1
  have hlt := idx_lt hi hv
  have hheap := setRow_heap w loc.block arr ((arr.toList.take (loc.base + l.length * c.size) ++ news ++ arr.toList.drop (loc.base + l.length * c.size + news.length)).toArray) e' (0, 0) a1
  have hmul2 : (l ++ xs).length * c.size = l.length * c.size + xs.length * c.size := by simp [Nat.add_mul]
  by_cases hil : i < l.length
  · rw [List.getElem?_append_left hil] at hx
    obtain ⟨hx1, z, hz, hr⟩ := hh i x k v hx hv
    obtain ⟨s1, s2⟩ := st.stab.cell _ _ _ hx1 hz
    exact ⟨s1, z, s2, hr.stab st.stab _ (.nil _)⟩
  · rw [List.getElem?_append_right (by omega)] at hx
    obtain ⟨z, hz, hr⟩ := h (i - l.length) x k v hx hv
    have hle : l.length * c.size ≤ i * c.size := Nat.mul_le_mul_right _ (by omega)
    have e1 : loc.base + i * c.size + k - (loc.base + l.length * c.size) = (i - l.length) * c.size + k := by rw [Nat.sub_mul]; omega
    refine ⟨?_, z, ?_, hr.stab st.stab _ (.nil _)⟩
    · rintro (g | ⟨j, lo, g1, g2, g3⟩)
      · exact (hE _ _ g).2 ⟨id, loc, hloc, rfl, .inr (.inl ⟨_, _, hid, by omega⟩)⟩
      · rw [get_set] at g1
        rw [get_set] at g3
        by_cases hj : id = j
        · subst hj
          simp only [if_true, hilt, hilt'] at g1 g3
          simp only [Option.some.injEq] at g1
          subst g1
          rcases g3 with ⟨cs, e, g3⟩ | ⟨m, sz, g3, g4⟩ | ⟨sh, vs, g3⟩
          · cases g3
          · simp only [Option.some.injEq, O.tok.injEq] at g3
            obtain ⟨rfl, rfl⟩ := g3
            simp only at g4
            omega
          · cases g3
        · simp only [hj, if_false] at g1 g3
          rcases g3 with ⟨cs, e, g3⟩ | ⟨m, sz, g3, g4⟩ | ⟨sh, vs, g3⟩
          · exact hj (hR.disj id j loc lo (live_tok hid) (live_cells g3) hloc g1 g2.symm)
          · exact hj (hR.disj id j loc lo (live_tok hid) (live_tok g3) hloc g1 g2.symm)
          · exact hj (hR.disj id j loc lo (live_tok hid) (live_obj g3) hloc g1 g2.symm)
    · rw [cell_of_row _ _ _ _ e' (0, 0) hheap, List.getElem?_toArray, hgetnew, if_pos (by omega), e1]
      exact hz

end
end Go.Ab

namespace Go.Ab
section
variable {P : Program} {E : Nat → Nat → Prop} {H : List O} {β : List Loc} {w : World} {X : Nat → Nat → Prop}

theorem bind_run {β γ : Type} {x : Tree β} {f : β → Tree γ} {c : γ} (h : (x.bind f).run = some c) : ∃ b, x.run = some b ∧ (f b).run = some c := by
  induction x with
  | leaf b => exact ⟨b, rfl, h⟩
  | fail => cases h
  | br cd x y ihx ihy =>
    cases cd
    · exact ihy h
    · exact ihx h

theorem isEmpty_nil {α : Type} {l : List α} (h : l.isEmpty = true) : l = [] := by cases l <;> simp_all
theorem isEmpty_cons {α : Type} {l : List α} (h : l.isEmpty = false) : 0 < l.length := by cases l <;> simp_all

theorem sound_append {argTypes : Array TypeId} {ty : TypeId} {s x v : V} {sy y : Value} {H' : List O} (hE : ∀ b o, E b o → b < w.heap.size ∧ ¬ Own H β b o) (hR : Rel w (Xs E H β) H β)
    (hs : R w (Xs E H β) β s sy) (hx : R w (Xs E H β) β x y) (h : (oAppend P H argTypes s x).run = some (v, H')) :
    ∃ z w' β', (Builtin.append_ argTypes ty #[sy, y]).run P w = .ok z w' ∧ Step E H β w H' β' w' ∧ R w' (Xs E H' β') β' v z := by
  unfold oAppend at h
  split at h
  rotate_left
  · cases h
  rename_i st h0
  split at h
  rotate_left
  · cases h
  rename_i i hi
  split at h
  rotate_left
  · cases h
  rename_i e hk
  have hu := slice_spec hi hk
  split at h
  rotate_left
  · cases h
  rename_i j c hj hc
  cases hb : (Nat.beq c.size j.size && (Nat.blt 0 j.bytes && (Nat.beq j.zero.length j.size && appendable P argTypes)))
  · simp [hb, Tree.run] at h
  simp only [hb, cond_true] at h
  obtain ⟨b1, hb⟩ := Bool.and_eq_true_iff.1 hb
  obtain ⟨b2, hb⟩ := Bool.and_eq_true_iff.1 hb
  obtain ⟨b3, b4⟩ := Bool.and_eq_true_iff.1 hb
  have b1 := Nat.eq_of_beq_eq_true b1
  have b2 : 0 < j.bytes := by simpa [Nat.blt_eq] using b2
  have b3 := Nat.eq_of_beq_eq_true b3
  have happ : AppT P argTypes e j := by
    refine ⟨⟨st, h0, hu⟩, hj, ?_, b2, b3⟩
    unfold appendable at b4
    split at b4
    · rename_i t ht
      split at b4
      · rename_i e' hd; exact ⟨t, _, ht, hd, .inl ⟨e', rfl⟩⟩
      · rename_i hd; exact ⟨t, _, ht, hd, .inr rfl⟩
      · cases b4
    · cases b4
  split at h
  rotate_left
  · cases h
  rename_i xs hxs
  obtain ⟨news, N⟩ := elems_R (P := P) hR hx hxs
  have hfirst := N.first
  rw [b1] at hfirst
  unfold grow at h
  split at h
  · -- nil
    cases hs
    cases he : xs.isEmpty
    · simp only [he, Tree.run, cond_false] at h
      obtain ⟨hroom, h⟩ := req_run h
      simp only [Tree.run, Option.some.injEq, Prod.mk.injEq] at h
      obtain ⟨rfl, rfl⟩ := h
      have hpos := isEmpty_cons he
      obtain ⟨rest, hrest, hrun⟩ := run_append_out (ty := ty) happ (olds := []) (base := none) (sLen := 0) (sCap := 0) (N.lenOf w) (hfirst w.drew rfl) (by rfl) (by omega) (by rw [Nat.zero_add]; exact roomy_spec hroom)
      rw [Nat.zero_add] at hrest hrun
      have hge := grownCap_ge w xs.length 0 e
      obtain ⟨β', st, hr⟩ := new_gro (ll := xs) (row := news) (rest := rest) (e := e) (cap := grownCap w xs.length 0 e) hE hR N.len hge (by rw [hrest, b1]) N.get
      exact ⟨_, _, β', by simpa using hrun, st, hr⟩
    · simp only [he, Tree.run, cond_true, Option.some.injEq, Prod.mk.injEq] at h
      obtain ⟨rfl, rfl⟩ := h
      have := isEmpty_nil he
      subst this
      exact ⟨_, w, β, run_append_in (w' := w) happ (n := 0) (N.lenOf w) (hfirst w rfl) (by omega) (fun a h => by cases h) (fun _ => rfl), Step.refl hR, .val _ _⟩
  · -- a fixed one
    rename_i d l spare fl
    split at h
    rotate_left
    · cases h
    rename_i l' hl'
    obtain ⟨e', rfl⟩ := sameL_spec hl'
    subst e'
    simp only [castL] at h ⊢
    rcases sl_get hs with ⟨rfl, rfl, rfl, rfl⟩ | ⟨b, o, cap, rfl, hcap, hfull, _, hh⟩
    · cases he : xs.isEmpty
      · simp [he, Tree.run] at h
      · simp only [he, Tree.run, cond_true, Option.some.injEq, Prod.mk.injEq] at h
        obtain ⟨rfl, rfl⟩ := h
        have := isEmpty_nil he
        subst this
        exact ⟨_, w, β, run_append_in (w' := w) happ (n := 0) (N.lenOf w) (hfirst w rfl) (by omega) (fun a h => by cases h) (fun _ => rfl), Step.refl hR, .nil _ _⟩
    cases he : xs.isEmpty
    · simp only [he, Tree.run, cond_false] at h
      split at h
      · obtain ⟨hroom, h⟩ := req_run h
        simp only [Tree.run, Option.some.injEq, Prod.mk.injEq] at h
        obtain ⟨rfl, rfl⟩ := h
        have hpos := isEmpty_cons he
        have hc0 := hfull rfl
        simp only [List.length_nil, Nat.add_zero] at hc0
        subst hc0
        obtain ⟨olds, o1, o2, o3, o4⟩ := row_cells (P := P) (w := w) (X := Xs E H β) (l := l) (b := b) (o := o) (fun i x k v g1 g2 => (hh i x k v (by
          have : i < l.length := (List.getElem?_eq_some_iff.1 g1).1
          rw [List.getElem?_append_left this]; exact g1) g2).2)
        obtain ⟨rest, hrest, hrun⟩ := run_append_out (ty := ty) happ (olds := olds) (base := some ⟨b, o, none⟩) (sLen := l.length) (sCap := l.length) (N.lenOf w) (hfirst w.drew rfl)
          (by rw [← b1]; exact o4 w.drew rfl) (by omega) (roomy_spec hroom)
        have hge := grownCap_ge w (l.length + xs.length) l.length e
        obtain ⟨β', st, hr⟩ := new_gro (ll := l ++ xs) (row := olds ++ news) (rest := rest) (e := e) (cap := grownCap w (l.length + xs.length) l.length e) hE hR
          (by simp [o1, N.len, Nat.add_mul]) (by simpa using hge) (by rw [hrest, b1]; simp) (join_cells o1 o3 N.get)
        rw [List.length_append] at st hr
        exact ⟨_, _, β', hrun, st, hr⟩
      · cases h
    · simp only [he, Tree.run, cond_true, Option.some.injEq, Prod.mk.injEq] at h
      obtain ⟨rfl, rfl⟩ := h
      have := isEmpty_nil he
      subst this
      have hn : news = [] := List.length_eq_zero_iff.1 (by simpa using N.len)
      subst hn
      exact ⟨_, w, β, run_append_in (w' := w) happ (n := 0) (N.lenOf w) (hfirst w rfl) (by omega) (fun a h => by simp [storeCells]) (fun h => by cases h), Step.refl hR, by simpa using hs⟩
  · -- one that grows
    rename_i id d l
    split at h
    · rename_i l' n sz hl' hH
      obtain ⟨e', rfl⟩ := sameL_spec hl'
      subst e'
      simp only [castL] at h ⊢
      cases hb : Nat.beq sz d.size
      · simp [hb, Tree.run] at h
      simp only [hb, cond_true] at h
      have hb := Nat.eq_of_beq_eq_true hb
      subst hb
      obtain ⟨hroom, h⟩ := req_run h
      simp only [Tree.run, Option.some.injEq, Prod.mk.injEq] at h
      obtain ⟨rfl, rfl⟩ := h
      obtain ⟨hn, hroom2⟩ := Bool.and_eq_true_iff.1 hroom
      have hn := of_decide_eq_true hn
      subst hn
      have hs' := hs
      obtain ⟨b, o, cap, loc, rfl, hloc, hkind, hln, hl, hcap, hh⟩ := gro_get hs
      cases he : xs.isEmpty
      · have hpos := isEmpty_cons he
        by_cases hin : l.length + xs.length ≤ cap
        · obtain ⟨w', β', g1, g2, g3⟩ := in_gro (P := P) hE hR hs' hH hpos hin N.len N.one N.get
          rw [List.length_append] at g2 g3
          exact ⟨_, w', β', run_append_in (w' := w') happ (N.lenOf w) (hfirst w rfl) hin (fun a h => by cases h; rw [← b1]; exact g1) (fun h => by cases h), g2, g3⟩
        · obtain ⟨olds, o1, o2, o3, o4⟩ := row_cells (P := P) (w := w) (X := Xs E H β) (l := l) (b := b) (o := o) (fun i x k v g1 g2 => (hh i x k v g1 g2).2)
          obtain ⟨rest, hrest, hrun⟩ := run_append_out (ty := ty) happ (olds := olds) (base := some ⟨b, o, none⟩) (sLen := l.length) (sCap := cap) (N.lenOf w) (hfirst w.drew rfl)
            (by rw [← b1]; exact o4 w.drew rfl) (by omega) (roomy_spec hroom2)
          have hge := grownCap_ge w (l.length + xs.length) cap e
          obtain ⟨β', st, hr⟩ := move_gro (ll := l ++ xs) (row := olds ++ news) (rest := rest) (e := e) (cap := grownCap w (l.length + xs.length) cap e) hE hR hH hloc (by simp; omega)
            (by simp [o1, N.len, Nat.add_mul]) (by simpa using hge) (by rw [hrest, b1]; simp) (join_cells o1 o3 N.get)
          rw [List.length_append] at st hr
          exact ⟨_, _, β', hrun, st, hr⟩
      · have := isEmpty_nil he
        subst this
        have hnw : news = [] := List.length_eq_zero_iff.1 (by simpa using N.len)
        subst hnw
        have hset : H.set id (.tok (l.length + ([] : List d.ty).length) d.size) = H := by
          apply List.ext_getElem?
          intro k
          rw [get_set]
          split
          · subst_vars
            have := (List.getElem?_eq_some_iff.1 hH).1
            simp only [this, if_true, List.length_nil, Nat.add_zero]
            exact hH.symm
          · rfl
        rw [hset]
        refine ⟨_, w, β, run_append_in (w' := w) happ (n := 0) (N.lenOf w) (hfirst w rfl) (by omega) (fun a h => by simp [storeCells]) (fun h => by cases h), Step.refl hR, ?_⟩
        rw [List.append_nil]
        simpa using hs'
    · cases h
  · cases h

/-- A new block that is read only: cells in a row. -/
theorem fresh_sl {c : EC} {l : List c.ty} {arr : Array Value} {e : TypeId} {fl : Fl} {cap len : Nat} (hE : ∀ b o, E b o → b < w.heap.size ∧ ¬ Own H β b o) (hR : Rel w (Xs E H β) H β)
    (hlen : len = l.length) (hcap : l.length ≤ cap) (hfull : fl = .full → cap = l.length)
    (h : ∀ (i : Nat) x (k : Nat) v, l[i]? = some x → (enc c x)[k]? = some v → ∃ z, arr[i * c.size + k]? = some z ∧ R w (Xs E H β) [] v z) :
    Step E H β w H β (w.alloc (.cells arr e)) ∧ R (w.alloc (.cells arr e)) (Xs E H β) β (.sl c l [] fl) (.slice (some ⟨w.heap.size, 0, none⟩) len cap) := by
  have st := Step.alloc hR (.cells arr e)
  refine ⟨st, mk_sl hlen (by simpa using hcap) (by simpa using hfull) (fun _ => ⟨arr, e, heap_alloc_new w _⟩) ?_⟩
  intro i x k v hx hv
  rw [List.append_nil] at hx
  obtain ⟨z, hz, hr⟩ := h i x k v hx hv
  refine ⟨?_, z, ?_, hr.stab st.stab _ (.nil _)⟩
  · rintro (g | g)
    · exact absurd (hE _ _ g).1 (Nat.lt_irrefl _)
    · exact absurd (own_lt hR g) (Nat.lt_irrefl _)
  · rw [World.cell?_alloc_new]
    simpa using hz


/-! append, onto what may be written: a new object. -/

theorem getElem?_dead {id j : Nat} {ob : O} (h : (H.set id .dead)[j]? = some ob) (hd : ob ≠ .dead) : H[j]? = some ob ∧ id ≠ j := by
  rw [get_set] at h
  split at h
  · split at h
    · cases h; exact absurd rfl hd
    · cases h
  · exact ⟨h, by assumption⟩

/-- The old object closed, its block (with other cells) as a new object. -/
theorem Step.regrow (hR : Rel w (Xs E H β) H β) {id : Nat} {cs cs' : List V} {e e0 : TypeId} {loc : Loc} {c c' : Array Value}
    (hid : H[id]? = some (.cells cs e)) (hloc : β[id]? = some loc) (hb : w.heap[loc.block]? = some (.cells c e0 (0, 0))) (hsz : c'.size = c.size)
    (hl : loc.base + cs'.length ≤ loc.size) (hv : ∀ (k : Nat) v, cs'[k]? = some v → ∃ x, c'[loc.base + k]? = some x ∧ R w (Xs E H β) β v x) :
    Step E H β w (H.set id .dead ++ [.cells cs' 0]) (β ++ [loc]) (w.setRow loc.block c') := by
  obtain ⟨hk0, c0, e1, hb0, hs0, _, _⟩ := hR.cells id cs e loc hid hloc
  rw [hb] at hb0
  cases hb0
  have hne : ∀ b, b ≠ loc.block → (w.setRow loc.block c').heap[b]? = w.heap[b]? := fun b h => setRow_other w _ _ _ h
  have hsame : (w.setRow loc.block c').heap[loc.block]? = some (.cells c' e0 (0, 0)) := setRow_heap w _ c c' e0 (0, 0) hb
  have hself : ∀ o, Own H β loc.block o := fun o => ⟨id, loc, hloc, rfl, .inl ⟨cs, e, hid⟩⟩
  have hlen : (H.set id O.dead).length = β.length := by rw [List.length_set]; exact hR.len
  have getO : ∀ {j ob}, (H.set id O.dead ++ [O.cells cs' 0])[j]? = some ob → ob ≠ .dead → (H[j]? = some ob ∧ id ≠ j ∧ j < β.length) ∨ (j = β.length ∧ ob = .cells cs' 0) := by
    intro j ob h hd
    rw [getElem?_concat] at h
    split at h
    · rename_i hlt
      obtain ⟨g1, g2⟩ := getElem?_dead h hd
      exact .inl ⟨g1, g2, by omega⟩
    · split at h
      · rename_i hj
        cases h
        exact .inr ⟨by omega, rfl⟩
      · cases h
  have getL : ∀ {j l}, (β ++ [loc])[j]? = some l → (j < β.length ∧ β[j]? = some l) ∨ (j = β.length ∧ l = loc) := by
    intro j l h
    rw [getElem?_concat] at h
    split at h
    · exact .inl ⟨by assumption, h⟩
    · split at h
      · cases h; exact .inr ⟨by assumption, rfl⟩
      · cases h
  have hown : ∀ b o, Own (H.set id .dead ++ [.cells cs' 0]) (β ++ [loc]) b o → Own H β b o := by
    rintro b o ⟨j, l, h1, rfl, h2⟩
    have key : ∀ ob, (H.set id O.dead ++ [O.cells cs' 0])[j]? = some ob → ob ≠ .dead → (H[j]? = some ob ∧ β[j]? = some l) ∨ l = loc := by
      intro ob hob hd
      rcases getO hob hd with ⟨g1, g2, g3⟩ | ⟨g1, g2⟩
      · rcases getL h1 with ⟨_, g⟩ | ⟨g, _⟩
        · exact .inl ⟨g1, g⟩
        · omega
      · rcases getL h1 with ⟨g, _⟩ | ⟨_, g⟩
        · omega
        · exact .inr g
    rcases h2 with ⟨cs2, e2, h2⟩ | ⟨n2, sz2, h2, h3⟩ | ⟨sh2, vs2, h2⟩
    · rcases key _ h2 (by simp) with ⟨g1, g2⟩ | rfl
      · exact ⟨j, l, g2, rfl, .inl ⟨_, _, g1⟩⟩
      · exact hself o
    · rcases key _ h2 (by simp) with ⟨g1, g2⟩ | rfl
      · exact ⟨j, l, g2, rfl, .inr (.inl ⟨_, _, g1, h3⟩)⟩
      · exact hself o
    · rcases key _ h2 (by simp) with ⟨g1, g2⟩ | rfl
      · exact ⟨j, l, g2, rfl, .inr (.inr ⟨_, _, g1⟩)⟩
      · exact hself o
  have hle : LocLe β (β ++ [loc]) := fun j l h => ⟨l, by
    have : j < β.length := (List.getElem?_eq_some_iff.1 h).1
    rw [List.getElem?_append_left this]; exact h, .inl rfl⟩
  have st : Stab w (Xs E H β) (w.setRow loc.block c') (Xs E (H.set id .dead ++ [.cells cs' 0]) (β ++ [loc])) := by
    refine ⟨fun b o v hx hv => ?_, fun b cs e h => ?_⟩
    · have hbb : b ≠ loc.block := fun h => hx (.inr (h ▸ hself o))
      refine ⟨fun h => hx ?_, by rw [cell_heap (hne b hbb)]; exact hv⟩
      exact h.imp _root_.id (hown b o)
    · by_cases hbb : b = loc.block
      · subst hbb; exact ⟨c', e0, hsame⟩
      · exact ⟨cs, e, by rw [hne b hbb]; exact h⟩
  have oth : ∀ {j l ob}, H[j]? = some ob → ob ≠ .dead → id ≠ j → β[j]? = some l → l.block ≠ loc.block := by
    intro j l ob h1 h2 h3 h4 h5
    exact h3 (hR.disj id j loc l (live_cells hid) ⟨ob, h1, h2⟩ hloc h4 h5.symm)
  refine ⟨⟨by simp [hR.len], fun j cs1 e1 l g1 g2 => ?_, fun j n sz l g1 g2 => ?_, fun j sh vs l g1 g2 => ?_, fun i j l l' hi hj g1 g2 hb => ?_⟩,
    rfl, rfl, rfl, by simp, fun b hb' => ?_, fun b o h => .inl (hown b o h), hle⟩
  · rcases getO g1 (by simp) with ⟨h1, h2, h3⟩ | ⟨h1, h2⟩
    · rcases getL g2 with ⟨_, g2⟩ | ⟨g, _⟩
      · obtain ⟨k, c2, e2, a1, a2, a3, a4⟩ := hR.cells j cs1 e1 l h1 g2
        exact ⟨k, c2, e2, by rw [hne _ (oth h1 (by simp) h2 g2)]; exact a1, a2, a3, fun k v hv => let ⟨x, hx, hr⟩ := a4 k v hv; ⟨x, hx, hr.stab st _ hle⟩⟩
      · omega
    · rcases getL g2 with ⟨g, _⟩ | ⟨_, g2⟩
      · omega
      · cases h2
        subst g2
        exact ⟨hk0, c', e0, hsame, by omega, ⟨hl, fun h => by simp at h⟩, fun k v hv' => let ⟨x, hx, hr⟩ := hv k v hv'; ⟨x, hx, hr.stab st _ hle⟩⟩
  · rcases getO g1 (by simp) with ⟨h1, h2, h3⟩ | ⟨h1, h2⟩
    · rcases getL g2 with ⟨_, g2⟩ | ⟨g, _⟩
      · obtain ⟨k, m, c2, e2, a1, a2⟩ := hR.tok j n sz l h1 g2
        exact ⟨k, m, c2, e2, by rw [hne _ (oth h1 (by simp) h2 g2)]; exact a1, a2⟩
      · omega
    · cases h2
  · rcases getO g1 (by simp) with ⟨h1, h2, h3⟩ | ⟨h1, h2⟩
    · rcases getL g2 with ⟨_, g2⟩ | ⟨g, _⟩
      · obtain ⟨k, kb, ob, xs, a1, a2, a3⟩ := hR.objs j sh vs l h1 g2
        exact ⟨k, kb, ob, xs, by rw [hne _ (oth h1 (by simp) h2 g2)]; exact a1, a2, fun k v hv => let ⟨x, hx, hr⟩ := a3 k v hv; ⟨x, hx, hr.stab st _ hle⟩⟩
      · omega
    · cases h2
  · have cl : ∀ {i l}, live (H.set id .dead ++ [.cells cs' 0]) i → (β ++ [loc])[i]? = some l → (live H i ∧ id ≠ i ∧ β[i]? = some l) ∨ (i = β.length ∧ l = loc) := by
      rintro i l ⟨o, g1, g2⟩ g3
      rcases getO g1 g2 with ⟨h1, h2, h3⟩ | ⟨h1, h2⟩
      · rcases getL g3 with ⟨_, g3⟩ | ⟨g, _⟩
        · exact .inl ⟨⟨o, h1, g2⟩, h2, g3⟩
        · omega
      · rcases getL g3 with ⟨g, _⟩ | ⟨_, g3⟩
        · omega
        · exact .inr ⟨h1, g3⟩
    rcases cl hi g1 with ⟨a1, a2, a3⟩ | ⟨a1, a2⟩ <;> rcases cl hj g2 with ⟨b1, b2, b3⟩ | ⟨b1, b2⟩
    · exact hR.disj i j l l' a1 b1 a3 b3 hb
    · exact absurd (hR.disj id i loc l (live_cells hid) a1 hloc a3 (by rw [hb, b2])) a2
    · exact absurd (hR.disj id j loc l' (live_cells hid) b1 hloc b3 (by rw [← hb, a2])) b2
    · omega
  · by_cases hbb : b = loc.block
    · subst hbb
      exact .inr (.inl ⟨⟨0, hself 0⟩, c, c', e0, hb, hsame, hsz, fun o ho => absurd (hself o) ho⟩)
    · exact .inl (hne b hbb)

/-- The old object closed. -/
theorem Step.close (hR : Rel w (Xs E H β) H β) (id : Nat) : Step E H β w (H.set id .dead) β w := by
  have own : ∀ {b o}, Own (H.set id .dead) β b o → Own H β b o := by
    rintro b o ⟨j, l, h1, h2, h3⟩
    refine ⟨j, l, h1, h2, ?_⟩
    rcases h3 with ⟨cs, e, h3⟩ | ⟨m, sz, h3, h4⟩ | ⟨sh, vs, h3⟩
    · exact .inl ⟨cs, e, (getElem?_dead h3 (by simp)).1⟩
    · exact .inr (.inl ⟨m, sz, (getElem?_dead h3 (by simp)).1, h4⟩)
    · exact .inr (.inr ⟨sh, vs, (getElem?_dead h3 (by simp)).1⟩)
  have st : Stab w (Xs E H β) w (Xs E (H.set id .dead) β) := ⟨fun b o v hx hv => ⟨fun h => hx (h.imp _root_.id own), hv⟩, fun b cs e h => ⟨cs, e, h⟩⟩
  refine ⟨⟨by rw [List.length_set]; exact hR.len, fun j cs e loc h1 h2 => ?_, fun j m sz loc h1 h2 => hR.tok j m sz loc (getElem?_dead h1 (by simp)).1 h2, fun j sh vs loc h1 h2 => ?_, fun i j l l' h1 h2 h3 h4 h5 => ?_⟩, rfl, rfl, rfl, Nat.le_refl _, fun _ _ => .inl rfl,
    fun b o h => .inl (own h), .refl _⟩
  · obtain ⟨a1, c, e', a2, a3, a4, a5⟩ := hR.cells j cs e loc (getElem?_dead h1 (by simp)).1 h2
    exact ⟨a1, c, e', a2, a3, a4, fun k v hv => let ⟨x, hx, hr⟩ := a5 k v hv; ⟨x, hx, hr.stab st β (.refl _)⟩⟩
  · obtain ⟨a1, a2, ob, xs, a3, a4, a5⟩ := hR.objs j sh vs loc (getElem?_dead h1 (by simp)).1 h2
    exact ⟨a1, a2, ob, xs, a3, a4, fun k v hv => let ⟨x, hx, hr⟩ := a5 k v hv; ⟨x, hx, hr.stab st β (.refl _)⟩⟩
  · obtain ⟨o1, g1, g2⟩ := h1
    obtain ⟨o2, g3, g4⟩ := h2
    exact hR.disj i j l l' ⟨o1, (getElem?_dead g1 g2).1, g2⟩ ⟨o2, (getElem?_dead g3 g4).1, g4⟩ h3 h4 h5

/-- The cells of a slice that may be written, as they lie. -/
theorem refCells_R {x : V} {y : Value} {sz n : Nat} {news : List V} (hR : Rel w (Xs E H β) H β) (hx : R w (Xs E H β) β x y) (h : refCells H x = some (sz, n, news)) (h0 : 0 < n) (hone : allOne news = true) :
    ∃ ns : List Value, ns.length = n * sz ∧ news.length = n * sz ∧ (∀ z ∈ ns, z.oneCell' = true) ∧ (∀ (k : Nat) v z, news[k]? = some v → ns[k]? = some z → R w (Xs E H β) β v z) ∧ (∀ w' : World, (Builtin.lenOf y).run P w' = .ok n w') ∧
      ∀ w' : World, w'.heap = w.heap → (Builtin.firstCells sz n y).run P w' = .ok ns.toArray w' := by
  unfold refCells at h
  split at h
  rotate_left
  · cases h
  rename_i id sz' off len
  split at h
  rotate_left
  · cases h
  rename_i cs e hH
  cases hb : Nat.ble (off + len * sz') cs.length
  · rw [hb] at h; cases h
  rw [hb, cond_true] at h
  simp only [Option.some.injEq, Prod.mk.injEq] at h
  obtain ⟨rfl, rfl, rfl⟩ := h
  have hb := Nat.le_of_ble_eq_true hb
  cases hx with
  | ref _ _ _ _ _ loc b o cap hid hk hlen ha hcap =>
  obtain ⟨rfl, rfl⟩ := ha (by omega)
  obtain ⟨_, arr, e', a1, a2, a3, a4⟩ := hR.cells id cs e loc hH hid
  let f : Nat → Value := fun k => (arr[loc.base + off + k]?).getD undef
  have hf : ∀ k, k < len * sz' → ∃ v x, ((cs.drop off).take (len * sz'))[k]? = some v ∧ arr[loc.base + off + k]? = some x ∧ f k = x ∧ R w (Xs E H β) β v x := by
    intro k hk
    have hkc : off + k < cs.length := by omega
    obtain ⟨x, hx, hr⟩ := a4 (off + k) cs[off + k] (by simp [hkc])
    refine ⟨cs[off + k], x, ?_, by rw [Nat.add_assoc]; exact hx, ?_, hr⟩
    · rw [List.getElem?_take, if_pos hk, List.getElem?_drop, List.getElem?_eq_getElem hkc]
    · show (arr[loc.base + off + k]?).getD undef = x
      rw [Nat.add_assoc, hx]
      rfl
  have hnl : ((cs.drop off).take (len * sz')).length = len * sz' := by simp; omega
  refine ⟨(List.range (len * sz')).map f, by simp, hnl, fun z hz => ?_, fun k v z h1 h2 => ?_, fun w' => rfl, fun w' hw => ?_⟩
  · obtain ⟨k, hk, rfl⟩ := List.mem_map.1 hz
    obtain ⟨v, x, g1, g2, g3, g4⟩ := hf k (List.mem_range.1 hk)
    rw [g3]
    exact one_spec g4 (allOne_spec hone v (List.mem_of_getElem? g1))
  · have hk : k < len * sz' := by rw [← hnl]; exact (List.getElem?_eq_some_iff.1 h1).1
    obtain ⟨v', x, g1, g2, g3, g4⟩ := hf k hk
    rw [h1] at g1
    cases g1
    rw [List.getElem?_map, List.getElem?_range hk] at h2
    simp only [Option.map_some, Option.some.injEq] at h2
    rw [← h2, g3]
    exact g4
  · have hcell : ∀ j, j < len * sz' → w'.cell? ((⟨loc.block, loc.base + off, none⟩ : Addr).add j) = some (f j) := by
      intro j hj
      obtain ⟨v, x, g1, g2, g3, g4⟩ := hf j hj
      rw [addr_add, cell_of_row w' _ _ arr e' (0, 0) (by rw [hw]; exact a1), g2, g3]
    have := run_loadCells (P := P) w' ⟨loc.block, loc.base + off, none⟩ (len * sz') f hcell
    show (loadCells ⟨loc.block, loc.base + off, none⟩ (len * sz')).run P w' = _
    rw [this]

/-- Old cells and new ones in a new block. -/
theorem push_ref {cs' : List V} {row rest : List Value} {e : TypeId} (hR : Rel w (Xs E H β) H β) (hlen : row.length = cs'.length) (h : ∀ (k : Nat) v z, cs'[k]? = some v → row[k]? = some z → R w (Xs E H β) β v z) :
    Step E H β w (H ++ [.cells cs' 0]) (β ++ [{ kind := false, block := w.heap.size, base := 0, n := 0, size := row.length + rest.length }]) (w.alloc (.cells (row ++ rest).toArray e)) := by
  refine Step.push hR (row ++ rest).toArray e (.cells cs' 0) _ rfl (by simp) (fun cs e' h' => ?_) (fun n sz h => by cases h)
  simp only [O.cells.injEq] at h'
  obtain ⟨rfl, rfl⟩ := h'
  refine ⟨rfl, ⟨by simp; omega, fun h => by simp at h⟩, fun q v hv => ?_⟩
  have hq : q < row.length := by rw [hlen]; exact (List.getElem?_eq_some_iff.1 hv).1
  exact ⟨row[q], by rw [List.getElem?_toArray, Nat.zero_add, List.getElem?_append_left hq]; simp [hq], h q v _ hv (by simp [hq])⟩

theorem sound_appendR {argTypes : Array TypeId} {ty : TypeId} {s x v : V} {sy y : Value} {H' : List O} (hR : Rel w (Xs E H β) H β)
    (hs : R w (Xs E H β) β s sy) (hx : R w (Xs E H β) β x y) (h : oAppendR P H argTypes s x = some (v, H')) :
    ∃ z w' β', (Builtin.append_ argTypes ty #[sy, y]).run P w = .ok z w' ∧ Step E H β w H' β' w' ∧ R w' (Xs E H' β') β' v z := by
  unfold oAppendR at h
  split at h
  rotate_left
  · cases h
  rename_i st h0
  split at h
  rotate_left
  · cases h
  rename_i i hi
  split at h
  rotate_left
  · cases h
  rename_i e hk
  have hu := slice_spec hi hk
  split at h
  rotate_left
  · cases h
  rename_i j sz n news hj hnews
  cases hb : (Nat.beq sz j.size && (Nat.blt 0 n && (allOne news && (Nat.blt 0 j.bytes && (Nat.beq j.zero.length j.size && appendable P argTypes)))))
  · rw [hb] at h; cases h
  rw [hb, cond_true] at h
  obtain ⟨b1, hb⟩ := Bool.and_eq_true_iff.1 hb
  obtain ⟨bn, hb⟩ := Bool.and_eq_true_iff.1 hb
  obtain ⟨bo, hb⟩ := Bool.and_eq_true_iff.1 hb
  obtain ⟨b2, hb⟩ := Bool.and_eq_true_iff.1 hb
  obtain ⟨b3, b4⟩ := Bool.and_eq_true_iff.1 hb
  have b1 := Nat.eq_of_beq_eq_true b1
  have bn : 0 < n := by simpa [Nat.blt_eq] using bn
  have b2 : 0 < j.bytes := by simpa [Nat.blt_eq] using b2
  have b3 := Nat.eq_of_beq_eq_true b3
  subst b1
  have happ : AppT P argTypes e j := by
    refine ⟨⟨st, h0, hu⟩, hj, ?_, b2, b3⟩
    unfold appendable at b4
    split at b4
    · rename_i t ht
      split at b4
      · rename_i e' hd; exact ⟨t, _, ht, hd, .inl ⟨e', rfl⟩⟩
      · rename_i hd; exact ⟨t, _, ht, hd, .inr rfl⟩
      · cases b4
    · cases b4
  obtain ⟨ns, n1, n2, n3, n4, n5, n6⟩ := refCells_R (P := P) hR hx hnews bn bo
  split at h
  · -- nil
    cases hs
    cases hr : roomy n j.bytes
    · rw [hr] at h; cases h
    rw [hr, cond_true] at h
    simp only [Option.some.injEq, Prod.mk.injEq] at h
    obtain ⟨rfl, rfl⟩ := h
    obtain ⟨rest, hrest, hrun⟩ := run_append_out (ty := ty) happ (olds := []) (base := none) (sLen := 0) (sCap := 0) (n5 w) (n6 w.drew rfl) (by rfl) (by omega) (by rw [Nat.zero_add]; exact roomy_spec hr)
    rw [Nat.zero_add] at hrest hrun
    have hge := grownCap_ge w n 0 e
    have hd := Step.drew hR
    have hp := push_ref (rest := rest) (e := e) hd.rel (cs' := news) (row := ns) (by omega) (fun k v z a b => hd.keepR (n4 k v z a b))
    refine ⟨_, _, _, by simpa using hrun, hd.trans hp, ?_⟩
    refine .ref _ H.length j.size 0 n { kind := false, block := w.drew.heap.size, base := 0, n := 0, size := ns.length + rest.length } w.heap.size 0 (grownCap w n 0 e) (by rw [hR.len]; simp) rfl hge (fun _ => ⟨rfl, rfl⟩) ?_
    simp only [Nat.zero_add, n1, hrest, ← Nat.add_mul]
    rw [show n + (grownCap w n 0 e - n) = grownCap w n 0 e by omega]
    exact Nat.le_refl _
  · rename_i id sz' len
    split at h
    rotate_left
    · cases h
    rename_i cs e1 hH
    cases hr : (Nat.beq sz' j.size && (Nat.ble (len * j.size) cs.length && roomy (len + n) j.bytes))
    · rw [hr] at h; cases h
    rw [hr, cond_true] at h
    simp only [Option.some.injEq, Prod.mk.injEq] at h
    obtain ⟨rfl, rfl⟩ := h
    obtain ⟨c1, hr⟩ := Bool.and_eq_true_iff.1 hr
    obtain ⟨c2, c3⟩ := Bool.and_eq_true_iff.1 hr
    have c1 := Nat.eq_of_beq_eq_true c1
    have c2 := Nat.le_of_ble_eq_true c2
    subst c1
    have hs' := hs
    cases hs with
    | ref _ _ _ _ _ loc b o cap hid hkd hlen ha hcap =>
    obtain ⟨_, arr, e', a1, a2, a3, a4⟩ := hR.cells id cs e1 loc hH hid
    by_cases hin : len + n ≤ cap
    · -- in its own room
      obtain ⟨rfl, rfl⟩ := ha (by omega)
      have hm : (len + n) * j.size ≤ cap * j.size := Nat.mul_le_mul_right _ hin
      rw [Nat.add_mul] at hm
      have hroom : loc.base + len * j.size + ns.length ≤ arr.size := by omega
      have hst := run_storeCells_at P loc.block (loc.base + len * j.size) e' ns 0 arr w a1 (by simpa using hroom) n3
      simp only [Nat.add_zero] at hst
      have hget : ∀ q, (arr.toList.take (loc.base + len * j.size) ++ ns ++ arr.toList.drop (loc.base + len * j.size + ns.length))[q]? =
          if loc.base + len * j.size ≤ q ∧ q < loc.base + len * j.size + ns.length then ns[q - (loc.base + len * j.size)]? else arr.toList[q]? := splice_get _ _ _ (by simpa using hroom)
      have st := Step.regrow hR (cs' := cs.take (len * j.size) ++ news) hH hid a1 (c' := (arr.toList.take (loc.base + len * j.size) ++ ns ++ arr.toList.drop (loc.base + len * j.size + ns.length)).toArray) (by simp; omega)
        (by simp; omega) (fun k v hv => by
          have ht : (cs.take (len * j.size)).length = len * j.size := by simp; omega
          rw [List.getElem?_toArray, hget]
          by_cases hk : k < len * j.size
          · rw [List.getElem?_append_left (by omega), List.getElem?_take, if_pos hk] at hv
            obtain ⟨z, hz, hz'⟩ := a4 k v hv
            exact ⟨z, by rw [if_neg (by omega)]; simpa using hz, hz'⟩
          · rw [List.getElem?_append_right (by omega), ht] at hv
            have hk2 : k - len * j.size < ns.length := by
              have := (List.getElem?_eq_some_iff.1 hv).1
              omega
            refine ⟨ns[k - len * j.size], ?_, n4 _ v _ hv (by simp [hk2])⟩
            rw [if_pos (by omega), show loc.base + k - (loc.base + len * j.size) = k - len * j.size by omega]
            simp [hk2])
      refine ⟨_, _, _, run_append_in (w' := w.setRow loc.block _) happ (n5 w) (n6 w rfl) hin (fun a h => by cases h; rw [addr_add]; exact hst) (fun h => by cases h), st, ?_⟩
      refine .ref _ H.length j.size 0 (len + n) loc loc.block (loc.base + 0) cap (by rw [hR.len]; simp) hkd hin (fun _ => ⟨rfl, rfl⟩) hcap
    · -- in a new block
      let f : Nat → Value := fun k => (arr[loc.base + k]?).getD undef
      have hf : ∀ k, k < len * j.size → ∃ x, arr[loc.base + k]? = some x ∧ f k = x ∧ ∀ v, cs[k]? = some v → R w (Xs E H β) β v x := by
        intro k hk
        have hkc : k < cs.length := by omega
        obtain ⟨x, hx, hr⟩ := a4 k cs[k] (by simp [hkc])
        refine ⟨x, hx, ?_, fun v hv => ?_⟩
        · show (arr[loc.base + k]?).getD undef = x
          rw [hx]; rfl
        · rw [List.getElem?_eq_getElem hkc] at hv
          cases hv
          exact hr
      have hold : (Builtin.firstCells j.size len (.slice (some ⟨b, o, none⟩) len cap)).run P w.drew = .ok ((List.range (len * j.size)).map f).toArray w.drew := by
        show (loadCells ⟨b, o, none⟩ (len * j.size)).run P w.drew = _
        by_cases hl0 : 0 < cap
        · obtain ⟨rfl, rfl⟩ := ha hl0
          have := run_loadCells (P := P) w.drew ⟨loc.block, loc.base + 0, none⟩ (len * j.size) f (fun q hq => by
            obtain ⟨x, g1, g2, _⟩ := hf q hq
            rw [addr_add, Nat.add_zero, cell_of_row w.drew _ _ arr e' (0, 0) a1, g1, g2])
          rw [this]
        · have : len = 0 := by omega
          subst this
          simp [loadCells, loadCellsFrom]
      obtain ⟨rest, hrest, hrun⟩ := run_append_out (ty := ty) happ (olds := (List.range (len * j.size)).map f) (base := some ⟨b, o, none⟩) (sLen := len) (sCap := cap) (n5 w) (n6 w.drew rfl) hold (by omega) (roomy_spec c3)
      have hge := grownCap_ge w (len + n) cap e
      have hd := Step.drew hR
      have hc := Step.close hd.rel id
      have hp := push_ref (rest := rest) (e := e) hc.rel (cs' := cs.take (len * j.size) ++ news) (row := (List.range (len * j.size)).map f ++ ns) (by simp; omega) (fun k v z p q => by
        refine (hd.trans hc).keepR ?_
        have ht : (cs.take (len * j.size)).length = len * j.size := by simp; omega
        by_cases hk : k < len * j.size
        · rw [List.getElem?_append_left (by omega), List.getElem?_take, if_pos hk] at p
          rw [List.getElem?_append_left (by simp; omega), List.getElem?_map, List.getElem?_range hk] at q
          simp only [Option.map_some, Option.some.injEq] at q
          obtain ⟨x, _, g2, g3⟩ := hf k hk
          rw [← q, g2]
          exact g3 v p
        · rw [List.getElem?_append_right (by omega), ht] at p
          rw [List.getElem?_append_right (by simp; omega)] at q
          simp only [List.length_map, List.length_range] at q
          exact n4 _ v z p q)
      refine ⟨_, _, _, hrun, (hd.trans hc).trans hp, ?_⟩
      refine .ref _ H.length j.size 0 (len + n) { kind := false, block := w.drew.heap.size, base := 0, n := 0, size := ((List.range (len * j.size)).map f ++ ns).length + rest.length } w.heap.size 0 (grownCap w (len + n) cap e) (by rw [hR.len]; simp) rfl hge (fun _ => ⟨rfl, rfl⟩) ?_
      simp only [Nat.zero_add, List.length_append, List.length_map, List.length_range, n1, hrest, ← Nat.add_mul]
      rw [show len + n + (grownCap w (len + n) cap e - (len + n)) = grownCap w (len + n) cap e by omega]
      exact Nat.le_refl _
  · cases h
end
end Go.Ab

namespace Go.Ab
section
variable {P : Program} {E : Nat → Nat → Prop} {H : List O} {β : List Loc} {w : World} {X : Nat → Nat → Prop}

theorem flat_rep {α : Type} (z : List α) : ∀ (n : Nat), (List.replicate n z).flatten.length = n * z.length ∧ ∀ k, k < n * z.length → (List.replicate n z).flatten[k]? = z[k % z.length]?
  | 0 => ⟨by simp, fun k hk => by simp at hk⟩
  | n + 1 => by
    obtain ⟨h1, h2⟩ := flat_rep z n
    rw [List.replicate_succ, List.flatten_cons]
    refine ⟨by rw [List.length_append, h1, Nat.add_mul]; omega, fun k hk => ?_⟩
    by_cases hz : k < z.length
    · rw [List.getElem?_append_left hz, Nat.mod_eq_of_lt hz]
    · have hmod : k % z.length = (k - z.length) % z.length := Nat.mod_eq_sub_mod (by omega)
      rw [List.getElem?_append_right (by omega), hmod]
      apply h2
      rw [Nat.add_mul] at hk
      omega

theorem zero_arr {z : Value} {n : Nat} {zs : List V} (hs : z.cells.size = zs.length) (hr : ∀ (k : Nat) v x, zs[k]? = some v → z.cells[k]? = some x → R w X β v x) :
    ((Array.range (n * zs.length)).map (z.cells[· % z.cells.size]!)).size = (List.replicate n zs).flatten.length ∧
    ∀ (k : Nat) v x, (List.replicate n zs).flatten[k]? = some v → ((Array.range (n * zs.length)).map (z.cells[· % z.cells.size]!))[k]? = some x → R w X β v x := by
  obtain ⟨h1, h2⟩ := flat_rep zs n
  refine ⟨by simp [h1], fun k v x hv hx => ?_⟩
  have hk : k < n * zs.length := by rw [← h1]; exact (List.getElem?_eq_some_iff.1 hv).1
  rw [h2 k hk] at hv
  simp only [Array.getElem?_map, Array.getElem?_range, hk, if_true, Option.map_some, Option.some.injEq] at hx
  have hpos : 0 < zs.length := by
    rcases Nat.eq_zero_or_pos zs.length with h0 | h0
    · simp [h0] at hk
    · exact h0
  have hm := Nat.mod_lt k hpos
  refine hr (k % zs.length) v x hv ?_
  rw [← hx, hs]
  have : k % zs.length < z.cells.size := by omega
  simp [this]

theorem sound_buildSlice {ref : Bool} {t : TypeId} {len : Nat} {ps : List (Nat × V)} {qs : Array (Nat × Value)} {v : V} {H' : List O} (hE : ∀ b o, E b o → b < w.heap.size ∧ ¬ Own H β b o)
    (hR : Rel w (Xs E H β) H β) (hlen : ps.length = qs.size)
    (hpq : ∀ (k : Nat) p q, ps[k]? = some p → qs.toList[k]? = some q → p.1 = q.1 ∧ R w (Xs E H β) β p.2 q.2) (h : oBuildSlice P H ref t len ps = some (v, H')) :
    ∃ z w' β', (Instr.buildSlice t len qs).run P w = .ok z w' ∧ Step E H β w H' β' w' ∧ R w' (Xs E H' β') β' v z := by
  unfold oBuildSlice at h
  split at h
  rotate_left
  · cases h
  rename_i i hi
  split at h
  rotate_left
  · cases h
  rename_i e hk
  have hu := slice_spec hi hk
  split at h
  rotate_left
  · cases h
  rename_i j hj
  cases hb : (Nat.ble (len * j.size) 16777216 && Nat.beq j.zero.length j.size)
  · simp [hb] at h
  simp only [hb, cond_true] at h
  obtain ⟨b1, b2⟩ := Bool.and_eq_true_iff.1 hb
  have b1 := Nat.le_of_ble_eq_true b1
  have b2 := Nat.eq_of_beq_eq_true b2
  split at h
  rotate_left
  · cases h
  rename_i es hes
  obtain ⟨z, hz, hzs, hzr⟩ := zero_R (w := w) (X := Xs E H β) (β := β) hj
  obtain ⟨a1, a2⟩ := zero_arr (n := len) hzs hzr
  obtain ⟨arr, g1, g2, g3, g4⟩ := fill_R (w := w) (X := Xs E H β) (β := β) (place := fun i => some (i * j.size, j.size)) (fun i x hx => hx) ps qs.toList _ es _ (by simpa using hlen) hpq a1 a2 hes
  obtain ⟨f1, f2⟩ := flat_rep j.zero len
  have hrun : (Instr.buildSlice t len qs).run P w = .ok (.slice (some ⟨w.heap.size, 0, none⟩) len len) (w.alloc (.cells arr e)) := by
    have hn : ¬ (16777216 < len * j.size) := by omega
    rw [b2] at g1
    by_cases h0 : len * j.size = 0
    · have e0 : ∀ f : Nat → Value, (Array.range (len * j.size)).map f = #[] := by intro f; rw [h0]; simp
      rw [e0] at g1
      simp only [Instr.buildSlice, Sem.run_bind, run_und w hu, Result.andThen_ok, ti_size w hj]
      simp [h0, newRow, show Array.range 0 = #[] from rfl, g1]
    · simp only [Instr.buildSlice, Sem.run_bind, run_und w hu, Result.andThen_ok, ti_size w hj]
      simp [h0, hn, hz, newRow]
      simp [g1]
  cases ref
  · simp only [cond_false] at h
    split at h
    rotate_left
    · cases h
    rename_i c hc
    cases hcs : Nat.beq c.size j.size
    · simp [hcs] at h
    simp only [hcs, cond_true] at h
    have hcs := Nat.eq_of_beq_eq_true hcs
    obtain ⟨l, hl, he⟩ := Option.map_eq_some_iff.1 h
    simp only [Prod.mk.injEq] at he
    obtain ⟨rfl, rfl⟩ := he
    rw [← hcs] at hl
    obtain ⟨l1, l2⟩ := chunk_dec hl
    obtain ⟨st, hr⟩ := fresh_sl (l := l) (arr := arr) (e := e) (fl := .full) (cap := len) (len := len) hE hR l1.symm (by omega) (fun _ => l1.symm) (by
      intro i x k v hx hv
      obtain ⟨u, hu, _, hu'⟩ := l2 i x k v hx hv
      have hk : i * c.size + k < arr.size := by rw [g2]; exact (List.getElem?_eq_some_iff.1 hu).1
      exact ⟨arr[i * c.size + k], by simp [hk], hu' w (Xs E H β) β _ (g4 _ u _ hu (by simp [hk]))⟩)
    exact ⟨_, _, β, hrun, st, hr⟩
  · simp only [cond_true, Option.some.injEq, Prod.mk.injEq] at h
    obtain ⟨rfl, rfl⟩ := h
    have st := Step.push hR arr e (.cells es (e + 4294967296)) { kind := false, block := w.heap.size, base := 0, n := 0, size := arr.size } rfl rfl
      (fun cs e' h => by
        simp only [O.cells.injEq] at h
        obtain ⟨rfl, rfl⟩ := h
        refine ⟨rfl, by simp [g2], fun k v hv => ?_⟩
        have hk : k < arr.size := by rw [g2]; exact (List.getElem?_eq_some_iff.1 hv).1
        exact ⟨arr[k], by simp [hk], g4 k v _ hv (by simp [hk])⟩) (fun n sz h => by cases h)
    refine ⟨_, _, _, hrun, st, ?_⟩
    refine .ref _ H.length j.size 0 len { kind := false, block := w.heap.size, base := 0, n := 0, size := arr.size } w.heap.size 0 len (by rw [hR.len]; simp) rfl (Nat.le_refl _) (fun _ => ⟨rfl, rfl⟩) ?_
    have : es.length = len * j.size := by rw [g3, f1, b2]
    simp only [Nat.zero_add]
    omega

theorem sound_makeSlice {ref : Bool} {t : TypeId} {l c v : V} {ly cy : Value} {H' : List O} (hE : ∀ b o, E b o → b < w.heap.size ∧ ¬ Own H β b o)
    (hR : Rel w (Xs E H β) H β) (hl : R w (Xs E H β) β l ly) (hc : R w (Xs E H β) β c cy) (h : (oMakeSlice P H ref t l c).run = some (v, H')) :
    ∃ z w' β', (Instr.makeSlice t ly cy).run P w = .ok z w' ∧ Step E H β w H' β' w' ∧ R w' (Xs E H' β') β' v z := by
  unfold oMakeSlice at h
  split at h
  rotate_left
  · cases h
  rename_i i k1 l k2 c hi
  cases hl
  cases hc
  split at h
  rotate_left
  · cases h
  rename_i e hk
  have hu := slice_spec hi hk
  split at h
  rotate_left
  · cases h
  rename_i j hj
  obtain ⟨hreq, h⟩ := req_run h
  cases hb : (Nat.beq j.zero.length j.size && Nat.blt 0 j.bytes)
  · simp [hb, Tree.run] at h
  simp only [hb, cond_true] at h
  obtain ⟨b1, b2⟩ := Bool.and_eq_true_iff.1 hb
  have b1 := Nat.eq_of_beq_eq_true b1
  have b2 : 0 < j.bytes := by simpa [Nat.blt_eq] using b2
  simp only [Bool.and_eq_true, decide_eq_true_eq] at hreq
  obtain ⟨⟨r1, r2⟩, r3⟩ := hreq
  have r3 := roomy_spec r3
  obtain ⟨ti1, d1, i1, i2, i3, i4, ⟨z, z1, z2⟩, _⟩ := (ti_spec hj).info
  have hcb : (ti1.bytes : Int) * c ≤ 281474976710656 := by
    have e1 : c = (c.toNat : Int) := by omega
    rw [e1, i4]
    have : ((j.bytes * c.toNat : Nat) : Int) ≤ 281474976710656 := by rw [Nat.mul_comm]; omega
    simpa using this
  have hc63 : c ≤ 9223372036854775807 := by
    have : c.toNat * 1 ≤ c.toNat * j.bytes := Nat.mul_le_mul_left _ b2
    omega
  have hrun := run_make (P := P) w t e ti1 z hu i1 z1 k1 k2 l c r1 r2 hcb hc63
  rw [i3] at hrun
  have hz : z.cells.size = j.zero.length := by simp [z2]
  obtain ⟨a1, a2⟩ := zero_arr (w := w) (X := Xs E H β) (β := β) (z := z) (n := c.toNat) (zs := j.zero) hz (by
    intro k v x hv hx
    rw [z2] at hv
    have : z.cells.toList[k]? = some x := by simpa using hx
    simp only [List.getElem?_map, this, Option.map_some, Option.some.injEq] at hv
    subst hv
    exact ofVal1_R _ _ _ _)
  rw [b1] at a1 a2
  obtain ⟨f1, f2⟩ := flat_rep j.zero c.toNat
  obtain ⟨f3, f4⟩ := flat_rep j.zero l.toNat
  have hlc : l.toNat ≤ c.toNat := by omega
  have hmul : l.toNat * j.zero.length ≤ c.toNat * j.zero.length := Nat.mul_le_mul_right _ hlc
  have hget : ∀ (k : Nat) u, (List.replicate l.toNat j.zero).flatten[k]? = some u → ∃ x, (madeCells z.cells (c.toNat * j.size))[k]? = some x ∧ R w (Xs E H β) β u x := by
    intro k u hu
    have hk : k < l.toNat * j.zero.length := by rw [← f3]; exact (List.getElem?_eq_some_iff.1 hu).1
    rw [f4 k hk, ← f2 k (by omega)] at hu
    have hk' : k < (madeCells z.cells (c.toNat * j.size)).size := by rw [size_madeCells, ← b1]; omega
    exact ⟨_, by rw [Array.getElem?_eq_getElem hk'], a2 k u _ hu (by show (madeCells z.cells (c.toNat * j.size))[k]? = _; rw [Array.getElem?_eq_getElem hk'])⟩
  cases ref
  · simp only [cond_false] at h
    split at h
    rotate_left
    · cases h
    rename_i d hd
    cases hds : Nat.beq d.size j.size
    · simp [hds, Tree.run] at h
    simp only [hds, cond_true] at h
    have hds := Nat.eq_of_beq_eq_true hds
    split at h
    rotate_left
    · cases h
    rename_i x0 hx0
    simp only [Tree.run, Option.some.injEq, Prod.mk.injEq] at h
    obtain ⟨rfl, rfl⟩ := h
    obtain ⟨q1, q2⟩ := dec1_spec hx0
    have st := Step.push hR (madeCells z.cells (c.toNat * j.size)) e (.tok l.toNat d.size) { kind := true, block := w.heap.size, base := 0, n := l.toNat, size := c.toNat * j.size } rfl (size_madeCells _ _)
      (fun cs e h => by cases h) (fun n sz h => by cases h; exact ⟨rfl, rfl⟩)
    refine ⟨_, _, _, hrun, st, mk_gro (loc := { kind := true, block := w.heap.size, base := 0, n := l.toNat, size := c.toNat * j.size }) (by simp) (by rw [hR.len]; simp) rfl (by simp) ?_ (by simpa using hlc) ?_⟩
    · intro _
      refine ⟨rfl, rfl, ?_⟩
      simp only [hds]; omega
    · intro i' x k u hx hv
      have hi : i' < l.toNat := by have := (List.getElem?_eq_some_iff.1 hx).1; simpa using this
      have hlt := idx_lt hi hv
      rw [List.getElem?_replicate, if_pos hi] at hx
      simp only [Option.some.injEq] at hx
      subst hx
      obtain ⟨u0, hu0, _, hu0'⟩ := q2 k u hv
      have hk : k < d.size := by have := (List.getElem?_eq_some_iff.1 hv).1; rwa [enc_size] at this
      have hflat : (List.replicate l.toNat j.zero).flatten[i' * d.size + k]? = some u0 := by
        rw [f4 _ (by rw [q1]; exact hlt), q1, Nat.add_comm, Nat.add_mul_mod_self_right, Nat.mod_eq_of_lt hk]
        exact hu0
      obtain ⟨x, hx, hr⟩ := hget _ _ hflat
      refine ⟨?_, x, ?_, (hu0' w _ _ x hr).stab st.stab _ (.nil _)⟩
      · rintro (g | ⟨id, lo, g1, g2, g3⟩)
        · exact absurd (hE _ _ g).1 (Nat.lt_irrefl _)
        · rw [getElem?_concat] at g1
          by_cases hid : id < β.length
          · simp only [hid, if_true] at g1
            have hid' : id < H.length := by rw [hR.len]; exact hid
            rcases g3 with ⟨cs, e, g3⟩ | ⟨n, sz, g3, g4⟩ | ⟨sh, vs, g3⟩
            · rw [List.getElem?_append_left hid'] at g3
              have := live_lt hR (live_cells g3) g1
              omega
            · rw [List.getElem?_append_left hid'] at g3
              have := live_lt hR (live_tok g3) g1
              omega
            · rw [List.getElem?_append_left hid'] at g3
              have := live_lt hR (live_obj g3) g1
              omega
          · simp only [hid, if_false] at g1
            split at g1
            · rename_i hid2
              rcases g3 with ⟨cs, e, g3⟩ | ⟨n, sz, g3, g4⟩ | ⟨sh, vs, g3⟩
              · rw [hid2, ← hR.len] at g3; simp at g3
              · rw [hid2, ← hR.len] at g3
                simp at g3
                obtain ⟨rfl, rfl⟩ := g3
                simp only [Option.some.injEq] at g1
                subst g1
                simp at g4
                omega
              · rw [hid2, ← hR.len] at g3; simp at g3
            · cases g1
      · rw [World.cell?_alloc_new]
        simpa using hx
  · simp only [cond_true, Tree.run, Option.some.injEq, Prod.mk.injEq] at h
    obtain ⟨rfl, rfl⟩ := h
    have st := Step.push hR (madeCells z.cells (c.toNat * j.size)) e (.cells (List.replicate l.toNat j.zero).flatten 0) { kind := false, block := w.heap.size, base := 0, n := 0, size := c.toNat * j.size } rfl (size_madeCells _ _)
      (fun cs e' h => by
        simp only [O.cells.injEq] at h
        obtain ⟨rfl, rfl⟩ := h
        refine ⟨rfl, ⟨by rw [f3]; simp only [Nat.zero_add]; rw [← b1]; exact hmul, fun h => absurd h (by decide)⟩, fun k v hv => ?_⟩
        obtain ⟨x, hx, hr⟩ := hget k v hv
        exact ⟨x, by simpa using hx, hr⟩) (fun n sz h => by cases h)
    refine ⟨_, _, _, hrun, st, ?_⟩
    exact .ref _ H.length j.size 0 l.toNat { kind := false, block := w.heap.size, base := 0, n := 0, size := c.toNat * j.size } w.heap.size 0 c.toNat (by rw [hR.len]; simp) rfl hlc (fun _ => ⟨rfl, rfl⟩) (by simp)


theorem sound_makePage {t : TypeId} {l c v : V} {ly cy : Value} {H' : List O}
    (hR : Rel w (Xs E H β) H β) (hl : R w (Xs E H β) β l ly) (hc : R w (Xs E H β) β c cy) (h : (oMakePage P H t l c).run = some (v, H')) :
    ∃ z w' β', (Instr.makeSlice t ly cy).run P w = .ok z w' ∧ Step E H β w H' β' w' ∧ R w' (Xs E H' β') β' v z := by
  unfold oMakePage at h
  split at h
  rotate_left
  · cases h
  rename_i i k1 l k2 c hi
  cases hl
  cases hc
  split at h
  rotate_left
  · cases h
  rename_i e hk
  have hu := slice_spec hi hk
  split at h
  rotate_left
  · cases h
  rename_i j k hj hik
  obtain ⟨j', hj', _, hjs⟩ := intOf_spec hik
  rw [hj] at hj'
  cases hj'
  obtain ⟨hreq, h⟩ := req_run h
  cases hb : (isZeroK k j.zero && Nat.blt 0 j.bytes)
  · simp [hb, Tree.run] at h
  simp only [hb, cond_true] at h
  obtain ⟨b1, b2⟩ := Bool.and_eq_true_iff.1 hb
  have b2 : 0 < j.bytes := by simpa [Nat.blt_eq] using b2
  have b1 : j.zero = [.int k 0] := by
    unfold isZeroK at b1
    split at b1
    · rename_i l n heq
      simp only [Bool.and_eq_true, decide_eq_true_eq, beq_iff_eq] at b1
      obtain ⟨rfl, rfl⟩ := b1
      exact heq
    · cases b1
  simp only [Bool.and_eq_true, decide_eq_true_eq] at hreq
  obtain ⟨⟨r1, r2⟩, r3⟩ := hreq
  have r3 := roomy_spec r3
  obtain ⟨ti1, d1, i1, i2, i3, i4, ⟨z, z1, z2⟩, _⟩ := (ti_spec hj).info
  have hcb : (ti1.bytes : Int) * c ≤ 281474976710656 := by
    have e1 : c = (c.toNat : Int) := by omega
    rw [e1, i4]
    have : ((j.bytes * c.toNat : Nat) : Int) ≤ 281474976710656 := by rw [Nat.mul_comm]; omega
    simpa using this
  have hc63 : c ≤ 9223372036854775807 := by
    have : c.toNat * 1 ≤ c.toNat * j.bytes := Nat.mul_le_mul_left _ b2
    omega
  have hrun := run_make (P := P) w t e ti1 z hu i1 z1 k1 k2 l c r1 r2 hcb hc63
  rw [i3, hjs, Nat.mul_one] at hrun
  have hz : z.cells.size = j.zero.length := by simp [z2]
  obtain ⟨a1, a2⟩ := zero_arr (w := w) (X := Xs E H β) (β := β) (z := z) (n := c.toNat) (zs := j.zero) hz (by
    intro k v x hv hx
    rw [z2] at hv
    have : z.cells.toList[k]? = some x := by simpa using hx
    simp only [List.getElem?_map, this, Option.map_some, Option.some.injEq] at hv
    subst hv
    exact ofVal1_R _ _ _ _)
  simp only [Tree.run, Option.some.injEq, Prod.mk.injEq] at h
  obtain ⟨rfl, rfl⟩ := h
  have harr : madeCells z.cells c.toNat = (([] : List Value) ++ (List.replicate c.toNat (0 : Int)).map (Value.int k)).toArray := by
    rw [b1] at a1 a2
    simp only [List.length_cons, List.length_nil, Nat.zero_add, Nat.mul_one] at a1 a2
    have hsz : (madeCells z.cells c.toNat).size = c.toNat := size_madeCells _ _
    apply Array.ext_getElem?
    intro q
    have er : ((List.replicate c.toNat (Value.int k 0)).toArray)[q]? = if q < c.toNat then some (Value.int k 0) else none := by rw [List.getElem?_toArray, List.getElem?_replicate]
    rw [List.nil_append, List.map_replicate, er]
    by_cases hq : q < c.toNat
    · rw [if_pos hq]
      have hq' : q < (madeCells z.cells c.toNat).size := by omega
      have hx : (madeCells z.cells c.toNat)[q]? = some (madeCells z.cells c.toNat)[q] := Array.getElem?_eq_getElem hq'
      have hv : ((List.replicate c.toNat [V.int k 0]).flatten)[q]? = some (.int k 0) := by
        have : (List.replicate c.toNat [V.int k 0]).flatten = List.replicate c.toNat (V.int k 0) := by
          generalize c.toNat = m
          induction m with
          | zero => rfl
          | succ m ih => rw [List.replicate_succ, List.replicate_succ, List.flatten_cons, ih]; rfl
        rw [this, List.getElem?_replicate, if_pos hq]
      have := a2 q (.int k 0) (madeCells z.cells c.toNat)[q] hv hx
      rw [hx]
      generalize (madeCells z.cells c.toNat)[q] = y at this
      cases this
      rfl
    · rw [if_neg hq]
      exact Array.getElem?_eq_none (by omega)
  have st := Step.pushObjD hR (.cells (madeCells z.cells c.toNat) e (0, 0)) (sh := .page 0 k (List.replicate c.toNat 0)) (xs := []) (vs := []) (loc := { kind := false, block := w.heap.size, base := 0, n := 0, size := c.toNat })
    ⟨rfl, e, by rw [harr]⟩ (fun q v hv => by simp at hv) rfl rfl rfl
  refine ⟨_, _, _, hrun, st, ?_⟩
  refine .ref _ H.length 1 0 l.toNat { kind := false, block := w.heap.size, base := 0, n := 0, size := c.toNat } w.heap.size 0 c.toNat (by rw [hR.len]; simp) rfl (by omega) (fun _ => ⟨rfl, rfl⟩) (by simp)
end
end Go.Ab

namespace Go.Ab
section
variable {P : Program} {E : Nat → Nat → Prop} {H : List O} {β : List Loc} {w : World} {X : Nat → Nat → Prop}

/-- Bounds of a slice expression, and what the model has. -/
def optR (w : World) (X : Nat → Nat → Prop) (β : List Loc) : Option V → Option Value → Prop
  | none, none => True
  | some v, some y => R w X β v y
  | _, _ => False

theorem run_bound {y : Value} {k : IntKind} {n : Int} {m : Nat} (code : BoundsCode) (hy : y = .int k n) (h0 : 0 ≤ n) (h1 : n ≤ m) : (Instr.sliceBound y m code).run P w = .ok n.toNat w := by
  subst hy
  simp [Instr.sliceBound, asIntOf, h0, h1]

theorem run_bounds {isS : Bool} {len cap : Nat} {lo hi : Option V} {loy hiy : Option Value} {l h : Int} (hlo : optR w X β lo loy) (hhi : optR w X β hi hiy)
    (bl : bound? lo 0 = some l) (bh : bound? hi len = some h) (h0 : 0 ≤ l) (h1 : l ≤ h) (h2 : h ≤ cap) (_h3 : len ≤ cap) :
    (Instr.sliceBounds isS len cap loy hiy none).run P w = .ok (l.toNat, h.toNat, cap) w := by
  have e1 : ((h.toNat : Nat) : Int) = h := by omega
  unfold Instr.sliceBounds
  cases hi with
  | none =>
    cases hiy with
    | some _ => cases hhi
    | none =>
      simp only [bound?, Option.some.injEq] at bh
      subst bh
      cases lo with
      | none =>
        cases loy with
        | some _ => cases hlo
        | none => simp only [bound?, Option.some.injEq] at bl; subst bl; simp
      | some v =>
        cases loy with
        | none => cases hlo
        | some y =>
          cases v <;> simp only [bound?, reduceCtorEq, Option.some.injEq] at bl
          subst bl
          cases hlo
          simp [Instr.sliceBound, asIntOf, h0, h1]
  | some hv =>
    cases hiy with
    | none => cases hhi
    | some hy =>
      cases hv <;> simp only [bound?, reduceCtorEq, Option.some.injEq] at bh
      rename_i kh nh
      subst bh
      cases hhi
      have h00 : 0 ≤ nh := by omega
      cases lo with
      | none =>
        cases loy with
        | some _ => cases hlo
        | none => simp only [bound?, Option.some.injEq] at bl; subst bl; simp [Instr.sliceBound, asIntOf, h00, h2]
      | some v =>
        cases loy with
        | none => cases hlo
        | some y =>
          cases v <;> simp only [bound?, reduceCtorEq, Option.some.injEq] at bl
          subst bl
          cases hlo
          simp [Instr.sliceBound, asIntOf, h0, h1, h00, h2, e1]

theorem sub_get {α : Type} (l : List α) (lo hi i : Nat) : (sub l lo hi)[i]? = if lo + i < hi then l[lo + i]? else none := by
  unfold sub
  rw [List.getElem?_drop, List.getElem?_take]

theorem sub_length {α : Type} (l : List α) (lo hi : Nat) (h : hi ≤ l.length) : (sub l lo hi).length = hi - lo := by
  unfold sub; simp; omega

/-- A piece of fixed cells. -/
theorem sl_piece {c : EC} {all : List c.ty} {b o cap l h : Nat} {fl : Fl} (hl : l ≤ h) (hh : h ≤ all.length) (hcap : all.length ≤ cap) (hfull : fl = .full → cap = all.length)
    (hrw : fl.fixed = false → ∃ (cs : Array Value) (e : TypeId), w.heap[b]? = some (.cells cs e (0, 0)))
    (hc : ∀ (i : Nat) x (k : Nat) v, all[i]? = some x → (enc c x)[k]? = some v → ¬ X b (o + i * c.size + k) ∧ ∃ y, w.cell? ⟨b, o + i * c.size + k, none⟩ = some y ∧ R w X [] v y) :
    R w X β (.sl c (sub all l h) (all.drop h) fl) (.slice (if cap = l then some ⟨b, o, none⟩ else (some (⟨b, o, none⟩ : Addr)).map (·.add (l * c.size))) (h - l) (cap - l)) := by
  have hlen := sub_length all l h hh
  have hshift : ∀ (i : Nat) x (k : Nat) v, (sub all l h ++ all.drop h)[i]? = some x → (enc c x)[k]? = some v →
      ¬ X b (o + l * c.size + i * c.size + k) ∧ ∃ y, w.cell? ⟨b, o + l * c.size + i * c.size + k, none⟩ = some y ∧ R w X [] v y := by
    intro i x k v hx hv
    have hx' : all[l + i]? = some x := by
      by_cases hi : i < h - l
      · rw [List.getElem?_append_left (by rw [hlen]; exact hi), sub_get, if_pos (by omega)] at hx
        exact hx
      · rw [List.getElem?_append_right (by rw [hlen]; omega), hlen, List.getElem?_drop] at hx
        rw [← hx]; congr 1; omega
    have := hc (l + i) x k v hx' hv
    rwa [Nat.add_mul, show o + (l * c.size + i * c.size) + k = o + l * c.size + i * c.size + k from by omega] at this
  split
  · rename_i hcl
    have h1 : sub all l h = [] := List.length_eq_zero_iff.1 (by rw [hlen]; omega)
    have h2 : all.drop h = [] := List.length_eq_zero_iff.1 (by simp; omega)
    rw [h1, h2]
    exact mk_sl (by simp; omega) (by simp) (fun e => by have := hfull e; simp; omega) hrw (by simp)
  · simp only [Option.map_some, addr_add]
    exact mk_sl hlen.symm (by rw [hlen]; simp; omega) (fun e => by have := hfull e; rw [hlen]; simp; omega) hrw hshift

theorem run_slice_sl {t e : TypeId} {a : Option Addr} {len cap size : Nat} {loy hiy : Option Value} {l h : Nat} (hu : P.underlying t = some (.slice e)) (hs : (sizeOf e).run P w = .ok size w)
    (hb : (Instr.sliceBounds true len cap loy hiy none).run P w = .ok (l, h, cap) w) :
    (Instr.sliceAt t (.slice a len cap) loy hiy none).run P w = .ok (.slice (if cap = l then a else a.map (·.add (l * size))) (h - l) (cap - l)) w := by
  simp [Instr.sliceAt, Instr.slice, run_und w hu, hb, hs]

theorem run_slice_str {t : TypeId} {s : ByteArray} {loy hiy : Option Value} {l h : Nat} (hu : P.underlying t = some .string)
    (hb : (Instr.sliceBounds false s.size s.size loy hiy none).run P w = .ok (l, h, s.size) w) :
    (Instr.sliceAt t (.string s) loy hiy none).run P w = .ok (.string (s.extract l h)) w := by
  simp [Instr.sliceAt, Instr.slice, run_und w hu, hb]

theorem extract_sub (s : List UInt8) (l h : Nat) : (ByteArray.mk s.toArray).extract l h = ⟨(sub s l h).toArray⟩ := by
  apply ByteArray.ext
  apply Array.ext'
  simp [sub, List.extract_eq_take_drop, List.drop_take]

theorem sound_slice {t : TypeId} {x v : V} {y : Value} {lo hi : Option V} {loy hiy : Option Value} (_hR : Rel w X H β) (hx : R w X β x y) (hlo : optR w X β lo loy) (hhi : optR w X β hi hiy)
    (h : (oSlice P H t x lo hi).run = some v) : ∃ z, (Instr.sliceAt t y loy hiy none).run P w = .ok z w ∧ R w X β v z := by
  unfold oSlice at h
  split at h
  · rename_i s
    split at h
    rotate_left
    · cases h
    rename_i h1 l1 hu bh bl
    obtain ⟨hreq, h⟩ := req_run h
    simp only [Tree.run, Option.some.injEq] at h
    subst h
    simp only [Bool.and_eq_true, decide_eq_true_eq] at hreq
    obtain ⟨⟨r1, r2⟩, r3⟩ := hreq
    cases hx
    have hsz : (ByteArray.mk s.toArray).size = s.length := by simp [ByteArray.size]
    have hb := run_bounds (P := P) (isS := false) (len := s.length) (cap := s.length) hlo hhi bl bh r1 r2 r3 (Nat.le_refl _)
    refine ⟨_, run_slice_str hu (by rw [hsz]; exact hb), ?_⟩
    rw [extract_sub]
    exact .str _ _
  · split at h
    rotate_left
    · cases h
    rename_i i hi'
    split at h
    rotate_left
    · cases h
    rename_i e hk
    have hu := slice_spec hi' hk
    split at h
    rotate_left
    · cases h
    rename_i j hj
    split at h
    · rename_i c ls spare fl _
      rcases sl_get hx with ⟨rfl, rfl, rfl, rfl⟩ | ⟨b, o, cap, rfl, hcap, hfull, hrw, hh⟩
      · split at h
        · rename_i h1 l1 bl bh
          obtain ⟨hreq, g⟩ := req_run h
          simp only [Bool.and_eq_true, decide_eq_true_eq] at hreq
          obtain ⟨r1, r2⟩ := hreq
          have bh' : h1 = 0 := by simpa [bound?] using bh.symm
          subst bh'
          cases hcs : Nat.beq c.size j.size
          · rw [hcs] at g; simp [Tree.run] at g
          rw [hcs] at g
          simp only [cond_true, Tree.run, Option.some.injEq] at g
          subst g
          have l0 : l1 = 0 := by omega
          subst l0
          have hb := run_bounds (P := P) (isS := true) (len := 0) (cap := 0) hlo hhi bl bh (by omega) (by omega) (by omega) (by omega)
          exact ⟨_, run_slice_sl hu (ti_size w hj) hb, .nil _ _⟩
        · rename_i h1 l1 bl _ bh
          obtain ⟨hreq, h⟩ := req_run h
          simp only [Bool.and_eq_true, decide_eq_true_eq] at hreq
          obtain ⟨⟨r1, r2⟩, r3⟩ := hreq
          cases hcs : Nat.beq c.size j.size
          · simp [hcs, Tree.run] at h
          simp only [hcs, cond_true, Tree.run, Option.some.injEq] at h
          subst h
          have r3' : h1 ≤ 0 := by simpa using r3
          have h0 : h1 = 0 := by omega
          have l0 : l1 = 0 := by omega
          subst h0
          subst l0
          have hb := run_bounds (P := P) (isS := true) (len := 0) (cap := 0) hlo hhi bl bh (by omega) (by omega) (by omega) (by omega)
          exact ⟨_, run_slice_sl hu (ti_size w hj) hb, .nil _ _⟩
        · cases h
      split at h
      · rename_i h1 l1 bl bh
        obtain ⟨hreq, g⟩ := req_run h
        simp only [Bool.and_eq_true, decide_eq_true_eq] at hreq
        obtain ⟨r1, r2⟩ := hreq
        have bh' : h1 = ls.length := by simpa [bound?] using bh.symm
        subst bh'
        cases hcs : Nat.beq c.size j.size
        · rw [hcs] at g; simp [Tree.run] at g
        rw [hcs] at g
        simp only [cond_true, Tree.run, Option.some.injEq] at g
        subst g
        have hcs := Nat.eq_of_beq_eq_true hcs
        have hb := run_bounds (P := P) (isS := true) (len := ls.length) (cap := cap) hlo hhi bl bh r1 r2 (by omega) (by omega)
        refine ⟨_, run_slice_sl hu (ti_size w hj) hb, ?_⟩
        have := sl_piece (w := w) (X := X) (β := β) (all := ls ++ spare) (b := b) (o := o) (cap := cap) (l := l1.toNat) (h := ls.length) (fl := fl) (by omega) (by simp) (by simpa using hcap) (by simpa using hfull) hrw hh
        rw [hcs] at this
        simpa [sub] using this
      · rename_i h1 l1 bl _ bh
        obtain ⟨hreq, h⟩ := req_run h
        simp only [Bool.and_eq_true, decide_eq_true_eq] at hreq
        obtain ⟨⟨r1, r2⟩, r3⟩ := hreq
        cases hcs : Nat.beq c.size j.size
        · simp [hcs, Tree.run] at h
        simp only [hcs, cond_true, Tree.run, Option.some.injEq] at h
        subst h
        have hcs := Nat.eq_of_beq_eq_true hcs
        have hb := run_bounds (P := P) (isS := true) (len := ls.length) (cap := cap) hlo hhi bl bh r1 r2 (by omega) (by omega)
        refine ⟨_, run_slice_sl hu (ti_size w hj) hb, ?_⟩
        have := sl_piece (w := w) (X := X) (β := β) (all := ls ++ spare) (b := b) (o := o) (cap := cap) (l := l1.toNat) (h := h1.toNat) (fl := fl) (by omega) (by simp; omega) (by simpa using hcap) (by simpa using hfull) hrw hh
        rw [hcs] at this
        exact this
      · cases h
    · rename_i id c ls _
      obtain ⟨b, o, cap, loc, rfl, _, _, _, _, hcap, hh⟩ := gro_get hx
      split at h
      · rename_i h1 l1 bh bl
        obtain ⟨hreq, h⟩ := req_run h
        simp only [Bool.and_eq_true, decide_eq_true_eq] at hreq
        obtain ⟨⟨r1, r2⟩, r3⟩ := hreq
        cases hcs : Nat.beq c.size j.size
        · simp [hcs, Tree.run] at h
        simp only [hcs, cond_true, Tree.run, Option.some.injEq] at h
        subst h
        have hcs := Nat.eq_of_beq_eq_true hcs
        have hb := run_bounds (P := P) (isS := true) (len := ls.length) (cap := cap) hlo hhi bl bh r1 r2 (by omega) (by omega)
        refine ⟨_, run_slice_sl hu (ti_size w hj) hb, ?_⟩
        have := sl_piece (w := w) (X := X) (β := β) (all := ls) (b := b) (o := o) (cap := cap) (l := l1.toNat) (h := h1.toNat) (fl := .ro) (by omega) (by omega) hcap (fun h => by cases h) (fun h => by cases h) hh
        rw [hcs] at this
        exact this
      · cases h
    · rename_i id sz off len _
      split at h
      rotate_left
      · cases h
      rename_i cs e' hH
      split at h
      rotate_left
      · cases h
      rename_i h1 l1 bh bl
      obtain ⟨hreq, h⟩ := req_run h
      simp only [Bool.and_eq_true, decide_eq_true_eq] at hreq
      obtain ⟨⟨r1, r2⟩, r3⟩ := hreq
      cases hcs : Nat.beq sz j.size
      · simp [hcs, Tree.run] at h
      simp only [hcs, cond_true, Tree.run, Option.some.injEq] at h
      subst h
      have hcs := Nat.eq_of_beq_eq_true hcs
      subst hcs
      cases hx with
      | ref _ _ _ _ _ loc b o cap hid hkd hlen ha hcap =>
        have hb := run_bounds (P := P) (isS := true) (len := len) (cap := cap) hlo hhi bl bh r1 r2 (by omega) hlen
        refine ⟨_, run_slice_sl hu (ti_size w hj) hb, ?_⟩
        have hm : l1.toNat * j.size + (cap - l1.toNat) * j.size = cap * j.size := by rw [← Nat.add_mul]; congr 1; omega
        split
        · rename_i hcl
          exact .ref β id j.size _ _ loc b o _ hid hkd (by omega) (fun h => by omega) (by omega)
        · obtain ⟨rfl, rfl⟩ := ha (by omega)
          simp only [Option.map_some, addr_add]
          exact .ref β id j.size _ _ loc _ _ _ hid hkd (by omega) (fun _ => ⟨rfl, by omega⟩) (by omega)
    · split at h
      rotate_left
      · cases h
      rename_i h1 l1 bh bl
      obtain ⟨hreq, h⟩ := req_run h
      simp only [Tree.run, Option.some.injEq] at h
      subst h
      simp only [Bool.and_eq_true, decide_eq_true_eq] at hreq
      obtain ⟨rfl, rfl⟩ := hreq
      cases hx
      have hb := run_bounds (P := P) (isS := true) (len := 0) (cap := 0) hlo hhi bl bh (by omega) (by omega) (by omega) (by omega)
      refine ⟨_, run_slice_sl hu (ti_size w hj) hb, ?_⟩
      exact .val _ _
    · cases h

end
end Go.Ab

namespace Go.Ab
section
variable {P : Program} {E : Nat → Nat → Prop} {H : List O} {β : List Loc} {w : World} {X : Nat → Nat → Prop}

theorem nums_of (c : List Int) : ∀ (news : List Value), news.length = c.length → (∀ (i : Nat) n, c[i]? = some n → news[i]? = some (Value.int .u8 n)) → news = c.map (Value.int .u8) := by
  intro news hl h
  apply List.ext_getElem?
  intro i
  by_cases hi : i < c.length
  · rw [h i c[i] (by simp [hi])]
    simp [hi]
  · rw [List.getElem?_eq_none (by omega), List.getElem?_eq_none (by simp; omega)]

theorem News.nums {xs : List Int} {y : Value} {news : List Value} (N : News P w X (.int .u8) xs y news) : news = xs.map (Value.int .u8) := by
  refine nums_of xs news (by have : news.length = xs.length * 1 := N.len; omega) ?_
  intro i n hn
  obtain ⟨z, hz, hr⟩ := N.get i n 0 (.int .u8 n) hn rfl
  have hz : news[i * 1 + 0]? = some z := hz
  simp only [Nat.mul_one, Nat.add_zero] at hz
  rw [hz]
  cases hr
  rfl

theorem foldl_bytes (ns : List Int) : ns.foldl (fun (r : ByteArray) n => r.push (UInt8.ofNat n.toNat)) ByteArray.empty = ⟨(ns.map fun n => UInt8.ofNat n.toNat).toArray⟩ := by
  rw [foldl_push_bytes]
  congr 1
  show (#[] : Array UInt8) ++ _ = _
  simp

theorem Step.allocAny (hR : Rel w (Xs E H β) H β) {w' : World} {ob : Obj} (hh : w'.heap = w.heap.push ob) (h1 : w'.os = w.os) (h2 : w'.tape = w.tape) (h3 : w'.output = w.output) : Step E H β w H β w' := by
  have s1 := Step.alloc hR ob
  exact s1.trans (Step.heap_same s1.rel hh h1 h2 h3)

/-- Bytes of a text, made anew. -/
theorem sound_strBytes {src dst : TypeId} {x v : V} {y : Value} (hE : ∀ b o, E b o → b < w.heap.size ∧ ¬ Own H β b o) (hR : Rel w (Xs E H β) H β) (hx : R w (Xs E H β) β x y)
    (ht : isStrSl P src dst = true) (h : strBytes x = some v) : ∃ z w', (convert src dst y).run P w = .ok z w' ∧ Step E H β w H β w' ∧ R w' (Xs E H β) β v z := by
  unfold isStrSl at ht
  split at ht
  rotate_left
  · cases ht
  rename_i e hs hd
  split at ht
  rotate_left
  · cases ht
  rename_i he
  unfold strBytes at h
  split at h
  rotate_left
  · cases h
  rename_i s
  simp only [Option.some.injEq] at h
  subst h
  cases hx
  have hrun := run_bytes_of_string (P := P) w src dst e ⟨s.toArray⟩ hs hd he
  have hge : s.length ≤ grownCap w s.length 0 e := grownCap_ge w s.length 0 e
  refine ⟨_, _, hrun, Step.allocAny hR (w' := w.drew.alloc _) rfl rfl rfl rfl, ?_⟩
  have hl : List.length (α := Int) (s.map fun b => (b.toNat : Int)) = s.length := List.length_map _
  refine mk_sl (l := (s.map fun b => (b.toNat : Int) : List Int)) (spare := []) (c := .int .u8) (fl := .ro) hl.symm (show List.length (α := Int) (s.map fun b => (b.toNat : Int)) + 0 ≤ _ by rw [hl]; exact hge) (fun h => by cases h) (fun h => by cases h) ?_
  intro i n k v hi hv
  have hi : ((s.map fun b => (b.toNat : Int)) ++ ([] : List Int))[i]? = some n := hi
  rw [List.append_nil] at hi
  have hk : k = 0 := by
    cases k with
    | zero => rfl
    | succ k => cases hv
  subst hk
  cases hv
  rw [List.getElem?_map] at hi
  obtain ⟨b, hb, rfl⟩ := Option.map_eq_some_iff.1 hi
  have hil : i < s.length := (List.getElem?_eq_some_iff.1 hb).1
  refine ⟨?_, .int .u8 (b.toNat : Int), ?_, .int _ _ _⟩
  · rintro (g | g)
    · exact absurd (hE _ _ g).1 (Nat.lt_irrefl _)
    · exact absurd (own_lt hR g) (Nat.lt_irrefl _)
  · have h1 : (EC.int .u8).size = 1 := rfl
    refine (cell_of_row _ _ _ _ _ _ (heap_alloc_new w.drew _)).trans ?_
    show (bytesRow ⟨s.toArray⟩ (grownCap w s.length 0 e))[0 + i * (EC.int .u8).size + 0]? = _
    rw [h1, show 0 + i * 1 + 0 = i by omega]
    unfold bytesRow
    rw [Array.getElem?_append_left (by simpa using hil)]
    simp [hb]

theorem elemsOf_val {c : EC} {y : Value} {l : List c.ty} (h : elemsOf c H (.val y) = some l) : y = .slice none 0 0 ∧ l = [] := by
  unfold elemsOf at h
  split at h <;> first | (rename_i e; cases e; done) | skip
  all_goals first
    | (rename_i e; cases e; simp only [Option.some.injEq] at h; exact ⟨rfl, h.symm⟩)
    | (cases h; done)
    | skip
  all_goals simp_all

theorem sound_convert {src dst : TypeId} {x v : V} {y : Value} (hR : Rel w X H β)
    (hx : R w X β x y) (h : oConvert P H src dst x = some v) :
    ∃ z, (convert src dst y).run P w = .ok z w ∧ R w X β v z := by
  unfold oConvert at h
  split at h
  · rename_i e hs hd
    split at h
    rotate_left
    · cases h
    rename_i he
    split at h
    · cases h
    rename_i hnot
    obtain ⟨l, hl, rfl⟩ := Option.map_eq_some_iff.1 h
    obtain ⟨news, N⟩ := elems_R (P := P) hR hx hl
    change List Int at l
    have hnums := News.nums (xs := l) N
    have key : ∀ a len cap, y = .slice (some a) len cap → ∃ z, (convert src dst y).run P w = .ok z w ∧
        R w X β (.str (l.map fun (n : Int) => UInt8.ofNat n.toNat)) z := by
      intro a len cap hy
      subst hy
      have h1 := N.first w rfl
      have hlen : (Result.ok len w : Result Nat) = .ok (List.length (α := Int) l) w := N.lenOf w
      have hlen : len = List.length (α := Int) l := by simpa using hlen
      subst hlen
      have h2 : (loadCells a (List.length (α := Int) l)).run P w = .ok (l.map (Value.int .u8)).toArray w := by
        rw [← hnums]
        have : (Builtin.firstCells 1 (List.length (α := Int) l) (.slice (some a) (List.length (α := Int) l) cap)).run P w = .ok news.toArray w := h1
        simpa [Builtin.firstCells] using this
      refine ⟨_, by rw [run_convert_bytes_string w src dst e _ _ _ hs he hd, run_bytesToString w a _ cap l h2], ?_⟩
      rw [foldl_bytes]
      exact .str _ _
    cases hx with
    | sl _ _ _ _ _ b o cap f => exact key _ _ _ rfl
    | nil _ c0 =>
      have hl0 : l = [] := by
        have hl2 : sameL (.int .u8) c0 ([] : List c0.ty) = some (show List (EC.ty (.int .u8)) from l) := hl
        obtain ⟨e1, e2⟩ := sameL_spec hl2
        subst e1
        exact e2
      subst hl0
      exact ⟨_, run_convert_bytes_nil (P := P) w src e hs he 0 0 dst hd, .str _ []⟩
    | gro _ _ _ _ b o cap => exact key _ _ _ rfl
    | ref _ _ _ _ _ _ b o cap => exact key _ _ _ rfl
    | str => exact absurd rfl (hnot _)
    | val _ =>
      obtain ⟨rfl, rfl⟩ := elemsOf_val hl
      exact ⟨_, run_convert_bytes_nil (P := P) w src e hs he 0 0 dst hd, .str _ []⟩
    | _ => simp [elemsOf] at hl
  · rename_i hs hd
    split at h
    · simp only [Option.some.injEq] at h
      subst h
      cases hx
      exact ⟨_, by simp [convert, run_und w hs, run_und w hd], .str _ _⟩
    · cases h
  · rename_i k1 k hs hd
    split at h
    · simp only [Option.some.injEq] at h
      subst h
      cases hx
      exact ⟨_, by simp [convert, run_und w hs, run_und w hd, Conv.intToInt], .int _ _ _⟩
    · cases h
  · rename_i k1 hs hd
    split at h
    · rename_i k n
      cases hb : (decide (0 ≤ n) && decide (n < 128))
      · rw [hb] at h; cases h
      · rw [hb, cond_true] at h
        simp only [Option.some.injEq] at h
        subst h
        cases hx
        obtain ⟨h1, h2⟩ := Bool.and_eq_true_iff.1 hb
        have h1 := of_decide_eq_true h1
        have h2 := of_decide_eq_true h2
        refine ⟨_, run_convert_int_string w src dst k n (by rw [hs]; rfl) hd, ?_⟩
        have e : Utf8.encode n = ⟨([UInt8.ofNat n.toNat] : List UInt8).toArray⟩ := by
          have hv : Utf8.valid n = true := by
            unfold Utf8.valid
            simp only [Bool.and_eq_true, Bool.or_eq_true, decide_eq_true_eq]
            omega
          unfold Utf8.encode
          rw [if_pos hv, if_pos (by omega)]
        rw [e]
        exact .str _ _
    · cases h
  · cases h

theorem guard_int (op : BinOp) (t : TypeId) (x y : Operand) (k l : IntKind) (a b : Int) : (eqGuard op t x y (.int k a) (.int l b)).run P w = .ok () w := by
  cases op <;> simp [eqGuard]

theorem guard_str (op : BinOp) (t : TypeId) (x y : Operand) (a b : ByteArray) : (eqGuard op t x y (.string a) (.string b)).run P w = .ok () w := by
  cases op <;> simp [eqGuard]

theorem guard_bool (op : BinOp) (t : TypeId) (x y : Operand) (a b : Bool) : (eqGuard op t x y (.bool a) (.bool b)).run P w = .ok () w := by
  cases op <;> simp [eqGuard]

/-- A comparison and its guard. -/
def bin (op : BinOp) (t : TypeId) (xo yo : Operand) (x y : Value) : Sem Value := do eqGuard op t xo yo x y; binOp op t x y

theorem sound_int {op : BinOp} {t : TypeId} {xo yo : Operand} {k l : IntKind} {a b : Int} {v : V} (hop : op ≠ .shl ∧ op ≠ .shr) (hk : k = l) (h : (intBin op k a b).run = some v) :
    ∃ z, (bin op t xo yo (.int k a) (.int l b)).run P w = .ok z w ∧ R w X β v z := by
  subst hk
  unfold intBin at h
  cases op <;> first | (exact absurd rfl hop.1) | (exact absurd rfl hop.2) | skip
  case quo =>
    obtain ⟨h0, h⟩ := req_run h
    simp only [Tree.run, Option.some.injEq] at h
    subst h
    have h0 : ¬ b = 0 := by simpa using h0
    exact ⟨_, by simp [bin, guard_int, binOp, Op.intDiv, h0], .int _ _ _⟩
  case rem =>
    obtain ⟨h0, h⟩ := req_run h
    simp only [Tree.run, Option.some.injEq] at h
    subst h
    have h0 : ¬ b = 0 := by simpa using h0
    exact ⟨_, by simp [bin, guard_int, binOp, Op.intDiv, h0], .int _ _ _⟩
  all_goals
    simp only [Tree.run, Option.some.injEq] at h
    subst h
    first
      | exact ⟨_, by simp only [bin, Sem.run_bind, guard_int, Result.andThen_ok, binOp, ne_eq, not_true_eq_false, if_false]; rfl, .int _ _ _⟩
      | exact ⟨_, by simp only [bin, Sem.run_bind, guard_int, Result.andThen_ok, binOp, ne_eq, not_true_eq_false, if_false]; rfl, .bool _ _⟩

theorem sound_shift {op : BinOp} {t : TypeId} {xo yo : Operand} {k l : IntKind} {a b : Int} {v : V} (h : (intShift op k a b).run = some v) :
    ∃ z, (bin op t xo yo (.int k a) (.int l b)).run P w = .ok z w ∧ R w X β v z := by
  unfold intShift at h
  cases op <;> first | (cases h; done) | skip
  all_goals
    obtain ⟨h0, h⟩ := req_run h
    simp only [Tree.run, Option.some.injEq] at h
    subst h
    have h0 : ¬ b < 0 := by have := of_decide_eq_true h0; omega
    exact ⟨_, by simp [bin, guard_int, binOp, Op.shift, h0] <;> rfl, .int _ _ _⟩

theorem str_append (a b : List UInt8) : (ByteArray.mk a.toArray) ++ (ByteArray.mk b.toArray) = ⟨(a ++ b).toArray⟩ := by
  apply ByteArray.ext
  apply Array.ext'
  simp

theorem sound_str {op : BinOp} {t : TypeId} {xo yo : Operand} {a b : List UInt8} {v : V} (h : (strBin op a b).run = some v) :
    ∃ z, (bin op t xo yo (.string ⟨a.toArray⟩) (.string ⟨b.toArray⟩)).run P w = .ok z w ∧ R w X β v z := by
  unfold strBin at h
  cases op <;> first | (cases h; done) | skip
  case add =>
    obtain ⟨h0, h⟩ := req_run h
    simp only [Tree.run, Option.some.injEq] at h
    subst h
    have h0 := of_decide_eq_true h0
    have e1 : (ByteArray.mk a.toArray).size = a.length := by simp [ByteArray.size]
    have e2 : (ByteArray.mk b.toArray).size = b.length := by simp [ByteArray.size]
    have hmax : IntKind.i64.max = 9223372036854775807 := by decide
    have h1 : ¬ (9223372036854775807 < (a.length : Int) + (b.length : Int)) := by simp at h0; omega
    refine ⟨.string ⟨(a ++ b).toArray⟩, ?_, .str _ _⟩
    simp [bin, guard_str, binOp, Op.stringOp, e1, e2, hmax, h1, str_append]
  all_goals
    simp only [Tree.run, Option.some.injEq] at h
    subst h
    exact ⟨_, by simp [bin, guard_str, binOp, Op.stringOp] <;> rfl, .bool _ _⟩

theorem cellEq_spec {a b : V} {x y : Value} {r : Bool} {t : TypeId} (d : Nat) (hx : R w X β a x) (hy : R w X β b y) (h : cellEq a b = some r)
    (hfit : (∃ k n, a = .int k n ∧ ∃ k', P.underlying t = some (.int k')) ∨ (∃ c, a = .bool c ∧ P.underlying t = some .bool) ∨ (∃ s, a = .str s ∧ P.underlying t = some .string)) :
    (Op.equalIn (d + 1) t x y).run P w = .ok r w := by
  unfold cellEq at h
  split at h
  · rename_i k n l m
    cases hk : decide (k = l)
    · simp [hk] at h
    simp only [hk, cond_true, Option.some.injEq] at h
    subst h
    have := of_decide_eq_true hk
    subst this
    cases hx
    cases hy
    rcases hfit with ⟨_, _, _, k', hu⟩ | ⟨_, e, _⟩ | ⟨_, e, _⟩
    · exact run_equalIn_int w d t k k' n m hu
    · cases e
    · cases e
  · simp only [Option.some.injEq] at h
    subst h
    cases hx
    cases hy
    rcases hfit with ⟨_, _, e, _⟩ | ⟨_, _, hu⟩ | ⟨_, e, _⟩
    · cases e
    · exact run_equalIn_bool w d t _ _ hu
    · cases e
  · simp only [Option.some.injEq] at h
    subst h
    cases hx
    cases hy
    rcases hfit with ⟨_, _, e, _⟩ | ⟨_, e, _⟩ | ⟨_, _, hu⟩
    · cases e
    · cases e
    · rw [run_equalIn_string w d t _ _ hu]; simp
  · cases h

end
end Go.Ab

namespace Go.Ab
section
variable {P : Program} {E : Nat → Nat → Prop} {H : List O} {β : List Loc} {w : World} {X : Nat → Nat → Prop}

theorem run_part_scal {ft : TypeId} {xs : List Value} {off : Nat} {d : TypeDesc} {z : Value} (hu : P.underlying ft = some d) (hd : isAggB P ft = false) (hz : xs[off]? = some z) :
    (part ft xs.toArray off).run P w = .ok z w := by
  have h1 := run_isAgg' w hu
  rw [hd] at h1
  simp [part, h1, hz]

theorem fit_spec {t : TypeId} {a : V} (h : fitT P t a = true) :
    (∃ k n, a = .int k n ∧ ∃ k', P.underlying t = some (.int k')) ∨ (∃ c, a = .bool c ∧ P.underlying t = some .bool) ∨ (∃ s, a = .str s ∧ P.underlying t = some .string) := by
  unfold fitT at h
  split at h
  · rename_i k' k n hu; exact .inl ⟨k, n, rfl, _, hu⟩
  · rename_i c hu; exact .inr (.inl ⟨c, rfl, hu⟩)
  · rename_i s hu; exact .inr (.inr ⟨s, rfl, hu⟩)
  · cases h
theorem fit_und {t : TypeId} {a : V} (h : fitT P t a = true) : ∃ dd, P.underlying t = some dd ∧ isAggB P t = false := by
  rcases fit_spec h with ⟨_, _, _, k', hu⟩ | ⟨_, _, hu⟩ | ⟨_, _, hu⟩ <;> exact ⟨_, hu, by simp [isAggB, hu]⟩

theorem eqItems_spec (d : Nat) {e : TypeId} {xs ys : List Value} : ∀ (cx cy : List V) (k : Nat) (r : Bool), eqCells P e cx cy = some r →
    (∀ (j : Nat) (v : V), cx[j]? = some v → ∃ x, xs[k + j]? = some x ∧ R w X β v x) → (∀ (j : Nat) (v : V), cy[j]? = some v → ∃ x, ys[k + j]? = some x ∧ R w X β v x) →
    (Op.eqItems (d + 1) e 1 xs.toArray ys.toArray (List.range' k cx.length)).run P w = .ok r w
  | [], [], k, r, h, _, _ => by
    simp only [eqCells, Option.some.injEq] at h
    subst h
    simp [Op.eqItems]
  | a :: cx, b :: cy, k, r, h, hx, hy => by
    have h : (match eqCells P e cx cy with | some d => cond (fitT P e a) ((cellEq a b).map (· && d)) none | none => none) = some r := h
    split at h
    rotate_left
    · cases h
    rename_i q hq
    cases hf : fitT P e a
    · simp [hf] at h
    simp only [hf, cond_true] at h
    obtain ⟨c, hc, rfl⟩ := Option.map_eq_some_iff.1 h
    obtain ⟨dd, hu, hag⟩ := fit_und hf
    obtain ⟨x, hx0, rx⟩ := hx 0 a rfl
    obtain ⟨y, hy0, ry⟩ := hy 0 b rfl
    have p1 := run_part_scal (w := w) hu hag (show xs[k]? = some x by simpa using hx0)
    have p2 := run_part_scal (w := w) hu hag (show ys[k]? = some y by simpa using hy0)
    have heq := cellEq_spec (P := P) d rx ry hc (fit_spec hf)
    have ih := eqItems_spec d cx cy (k + 1) q hq (fun j v hv => by
      obtain ⟨x, h1, h2⟩ := hx (j + 1) v hv
      exact ⟨x, by rw [show k + 1 + j = k + (j + 1) by omega]; exact h1, h2⟩) (fun j v hv => by
      obtain ⟨x, h1, h2⟩ := hy (j + 1) v hv
      exact ⟨x, by rw [show k + 1 + j = k + (j + 1) by omega]; exact h1, h2⟩)
    simp only [List.length_cons, List.range'_succ, Op.eqItems, Nat.mul_one, Sem.run_bind, p1, p2, heq, Result.andThen_ok]
    cases c
    · simp
    · simpa using ih
  | [], _ :: _, _, _, h, _, _ => by cases h
  | _ :: _, [], _, _, h, _, _ => by cases h

theorem eqF_spec {cx cy : List V} {xs ys : List Value} (d : Nat) (hlx : xs.length = cx.length) (hly : ys.length = cy.length)
    (hx : ∀ (k : Nat) (v : V) (x : Value), cx[k]? = some v → xs[k]? = some x → R w X β v x) (hy : ∀ (k : Nat) (v : V) (x : Value), cy[k]? = some v → ys[k]? = some x → R w X β v x)
    {f : Field} {r : Bool} (h : eqF P f cx cy = some r) :
    ∃ a b, (part f.type xs.toArray f.offset).run P w = .ok a w ∧ (part f.type ys.toArray f.offset).run P w = .ok b w ∧ (Op.equalIn (d + 2) f.type a b).run P w = .ok r w := by
  unfold eqF at h
  split at h
  · rename_i n e hu
    generalize hc : (Nat.beq (P.cellsOf e) 1 && (Nat.beq (P.cellsOf f.type) n && (Nat.ble (f.offset + n) cx.length && (Nat.ble (f.offset + n) cy.length && (!isAggB P e && ((P.info? e).isSome && (P.info? f.type).isSome)))))) = c at h
    cases c
    · cases h
    rw [cond_true] at h
    simp only [Bool.and_eq_true] at hc
    obtain ⟨c1, c2, c3, c4, _, c6, c7⟩ := hc
    have c1 := Nat.eq_of_beq_eq_true c1
    have c2 := Nat.eq_of_beq_eq_true c2
    have c3 := Nat.le_of_ble_eq_true c3
    have c4 := Nat.le_of_ble_eq_true c4
    obtain ⟨i, hi⟩ := Option.isSome_iff_exists.1 c6
    obtain ⟨j, hj⟩ := Option.isSome_iff_exists.1 c7
    have hagg : (isAgg f.type).run P w = .ok true w := by rw [run_isAgg' w hu]; simp [isAggB, hu]
    have hsz : (sizeOf f.type).run P w = .ok n w := by rw [run_sizeOf' w hj, ← c2]; simp [Program.cellsOf, hj]
    refine ⟨_, _, by simp [part, hagg, hsz]; rfl, by simp [part, hagg, hsz]; rfl, ?_⟩
    rw [run_equalIn_array w (d + 1) _ _ hu hi, c1, List.range_eq_range']
    have look : ∀ {cs : List V} {zs : List Value}, zs.length = cs.length → (∀ (k : Nat) (v : V) (x : Value), cs[k]? = some v → zs[k]? = some x → R w X β v x) →
        ∀ (j : Nat) (v : V), ((cs.drop f.offset).take n)[j]? = some v → ∃ x, ((zs.drop f.offset).take n)[0 + j]? = some x ∧ R w X β v x := by
      intro cs zs hl hr j v hv
      rw [Nat.zero_add]
      rw [List.getElem?_take] at hv ⊢
      split at hv
      · rename_i hlt
        rw [if_pos hlt, List.getElem?_drop]
        rw [List.getElem?_drop] at hv
        have : f.offset + j < zs.length := by rw [hl]; exact (List.getElem?_eq_some_iff.1 hv).1
        exact ⟨zs[f.offset + j], by simp [this], hr _ _ _ hv (by simp [this])⟩
      · cases hv
    have := eqItems_spec (P := P) (w := w) d (xs := (xs.drop f.offset).take n) (ys := (ys.drop f.offset).take n) _ _ 0 r h (look hlx hx) (look hly hy)
    have hlen : ((cx.drop f.offset).take n).length = n := by simp; omega
    rw [hlen] at this
    exact this
  · split at h
    rotate_left
    · cases h
    rename_i a b ha hb
    cases hf : fitT P f.type a
    · simp [hf] at h
    simp only [hf, cond_true] at h
    obtain ⟨dd, hu, hag⟩ := fit_und hf
    have hkx : f.offset < xs.length := by rw [hlx]; exact (List.getElem?_eq_some_iff.1 ha).1
    have hky : f.offset < ys.length := by rw [hly]; exact (List.getElem?_eq_some_iff.1 hb).1
    have rx := hx _ a xs[f.offset] ha (by simp [hkx])
    have ry := hy _ b ys[f.offset] hb (by simp [hky])
    exact ⟨_, _, run_part_scal (w := w) hu hag (show xs[f.offset]? = some xs[f.offset] by simp [hkx]), run_part_scal (w := w) hu hag (show ys[f.offset]? = some ys[f.offset] by simp [hky]),
      cellEq_spec (P := P) (d + 1) rx ry h (fit_spec hf)⟩

theorem eqBy_spec {cx cy : List V} {xs ys : List Value} (d : Nat) (hlx : xs.length = cx.length) (hly : ys.length = cy.length)
    (hx : ∀ (k : Nat) (v : V) (x : Value), cx[k]? = some v → xs[k]? = some x → R w X β v x) (hy : ∀ (k : Nat) (v : V) (x : Value), cy[k]? = some v → ys[k]? = some x → R w X β v x) :
    ∀ (fs : List Field) (r : Bool), eqBy P cx cy fs = some r → (Op.eqFields (d + 2) xs.toArray ys.toArray fs).run P w = .ok r w
  | [], r, h => by
    simp only [eqBy, Option.some.injEq] at h
    subst h
    simp [Op.eqFields]
  | f :: fs, r, h => by
    unfold eqBy at h
    split at h
    rotate_left
    · cases h
    rename_i a q ha hq
    cases hc : (!(f.name == "_"))
    · simp [hc] at h
    simp only [hc, cond_true, Option.some.injEq] at h
    subst h
    have ih := eqBy_spec d hlx hly hx hy fs q hq
    have hname : f.name ≠ "_" := by simpa using hc
    obtain ⟨x, y, p1, p2, heq⟩ := eqF_spec d hlx hly hx hy ha
    cases a <;> simp [Op.eqFields, hname, p1, p2, heq, ih]

theorem nil_in (d : Nat) {t : TypeId} {e : TypeId} (h : P.underlying t = some (.slice e)) (b : Option Addr) (n m n' m' : Nat) :
    (Op.equalIn (d + 1) t (.slice b n m) (.slice none n' m')).run P w = .ok b.isNone w := by
  cases b <;> simp [Op.equalIn, run_und w h]

theorem und_nil {t : TypeId} {e : TypeId} (h : P.underlying t = some (.slice e)) (b : Option Addr) (n m n' m' : Nat) :
    (Op.equal t (.slice b n m) (.slice none n' m')).run P w = .ok b.isNone w := nil_in 9999 h b n m n' m'

theorem nilp_in (d : Nat) {t : TypeId} {e : TypeId} (h : P.underlying t = some (.pointer e)) (b : Option Addr) :
    (Op.equalIn (d + 1) t (.pointer b) (.pointer none)).run P w = .ok b.isNone w := by
  cases b <;> simp [Op.equalIn, run_und w h]

theorem und_nilp {t : TypeId} {e : TypeId} (h : P.underlying t = some (.pointer e)) (b : Option Addr) :
    (Op.equal t (.pointer b) (.pointer none)).run P w = .ok b.isNone w := nilp_in 9999 h b

theorem iface_in (d : Nat) {t : TypeId} {ms : Array (String × TypeId)} (h : P.underlying t = some (.interface ms)) (tx : TypeId) (vx : Value) :
    (Op.equalIn (d + 1) t (.iface tx vx) .nilIface).run P w = .ok false w := by
  simp [Op.equalIn, run_und w h]

theorem iface_nil {t : TypeId} {ms : Array (String × TypeId)} (h : P.underlying t = some (.interface ms)) (tx : TypeId) (vx : Value) :
    (Op.equal t (.iface tx vx) .nilIface).run P w = .ok false w := iface_in 9999 h tx vx

theorem nil_nil_in (d : Nat) {t : TypeId} {ms : Array (String × TypeId)} (h : P.underlying t = some (.interface ms)) :
    (Op.equalIn (d + 1) t .nilIface .nilIface).run P w = .ok true w := by
  simp [Op.equalIn, run_und w h]

theorem nil_nil {t : TypeId} {ms : Array (String × TypeId)} (h : P.underlying t = some (.interface ms)) :
    (Op.equal t .nilIface .nilIface).run P w = .ok true w := nil_nil_in 9999 h

theorem iface_guard {op : BinOp} {t : TypeId} {xo yo : Operand} {tx : TypeId} {vx : Value} : (eqGuard op t xo yo (.iface tx vx) .nilIface).run P w = .ok () w := by
  cases op <;> simp [eqGuard]

theorem nil_guard_in (d : Nat) {t : TypeId} {ms : Array (String × TypeId)} (h : P.underlying t = some (.interface ms)) (hm : ms.isEmpty = true) :
    (Op.eqGuardIn (d + 1) t .nilIface .nilIface).run P w = .ok false w := by
  simp [Op.eqGuardIn, run_und w h, hm]

theorem nil_guard {op : BinOp} {t : TypeId} {xo yo : Operand} {ms : Array (String × TypeId)} (h : P.underlying t = some (.interface ms)) (hm : ms.isEmpty = true) :
    (eqGuard op t xo yo .nilIface .nilIface).run P w = .ok () w := by
  have hg : (Op.eqGuardIn Op.maxDepth t .nilIface .nilIface).run P w = .ok false w := nil_guard_in 9999 h hm
  unfold eqGuard
  cases op <;> simp [hg] <;> (split <;> rfl)

theorem sound_ifc {op : BinOp} {t tx ty : TypeId} {k l : IntKind} {a b : Int} {xo yo : Operand} {v : V} {X : Nat → Nat → Prop} {β : List Loc} (h : (oIfc P op t tx k a ty l b).run = some v) :
    ∃ z, (bin op t xo yo (.iface tx (.int k a)) (.iface ty (.int l b))).run P w = .ok z w ∧ R w X β v z := by
  unfold oIfc at h
  split at h
  rotate_left
  · cases h
  rename_i ms k0 i hi hn hinfo
  cases hb : (Nat.beq tx ty && (i.comparable && decide (k = l)))
  · rw [hb] at h; cases h
  rw [hb, cond_true] at h
  obtain ⟨q1, q2⟩ := Bool.and_eq_true_iff.1 hb
  obtain ⟨hcmp, q3⟩ := Bool.and_eq_true_iff.1 q2
  have q1 := Nat.eq_of_beq_eq_true q1
  have q3 := of_decide_eq_true q3
  clear hb q2
  subst q1
  subst q3
  have hg : ∀ op, (eqGuard op t xo yo (.iface tx (.int k a)) (.iface tx (.int k b))).run P w = .ok () w := by intro op; cases op <;> simp [eqGuard]
  have he : (Op.equal t (.iface tx (.int k a)) (.iface tx (.int k b))).run P w = .ok (a == b) w := by
    have : ∀ d, (Op.equalIn (d + 2) t (.iface tx (.int k a)) (.iface tx (.int k b))).run P w = .ok (a == b) w := by
      intro d
      simp [Op.equalIn, run_und w hi, run_und w hn, typeInfo, hinfo, hcmp]
    exact this 9998
  split at h
  · simp only [Tree.run, Option.some.injEq] at h
    subst h
    exact ⟨_, by simp only [bin, Sem.run_bind, hg, Result.andThen_ok, binOp]; simp [he], .bool _ _⟩
  · simp only [Tree.run, Option.some.injEq] at h
    subst h
    exact ⟨_, by simp only [bin, Sem.run_bind, hg, Result.andThen_ok, binOp]; simp [he], .bool _ _⟩
  · cases h

/-- A comparison with nil. -/
theorem sound_nil {op : BinOp} {t : TypeId} {xo : Operand} {x v : V} {sx : Value} (hx : R w X β x sx) (h : (oNil P op t x).run = some v) :
    ∃ z, (bin op t xo (.const .nilIface) sx .nilIface).run P w = .ok z w ∧ R w X β v z := by
  unfold oNil at h
  have ng : ∀ op, (eqGuard op t xo (.const .nilIface) .nilIface .nilIface).run P w = .ok () w := by intro op; cases op <;> simp [eqGuard]
  split at h
  · rename_i ms _ _ hu
    simp only [Tree.run, Option.some.injEq] at h
    subst h
    cases hx
    exact ⟨_, by simp only [bin, Sem.run_bind, iface_guard, Result.andThen_ok, binOp]; simp [iface_nil hu], .bool _ _⟩
  · rename_i ms _ _ hu
    simp only [Tree.run, Option.some.injEq] at h
    subst h
    cases hx
    exact ⟨_, by simp only [bin, Sem.run_bind, iface_guard, Result.andThen_ok, binOp]; simp [iface_nil hu], .bool _ _⟩
  · rename_i ms hu
    simp only [Tree.run, Option.some.injEq] at h
    subst h
    cases hx
    exact ⟨_, by simp only [bin, Sem.run_bind, ng, Result.andThen_ok, binOp]; simp [nil_nil hu], .bool _ _⟩
  · rename_i ms hu
    simp only [Tree.run, Option.some.injEq] at h
    subst h
    cases hx
    exact ⟨_, by simp only [bin, Sem.run_bind, ng, Result.andThen_ok, binOp]; simp [nil_nil hu], .bool _ _⟩
  · cases h

theorem sound_bin {op : BinOp} {t : TypeId} {xo yo : Operand} {x y v : V} {sx sy : Value} (hx : R w X β x sx) (hy : R w X β y sy) (h : (oBin P op t x y).run = some v) :
    ∃ z, (bin op t xo yo sx sy).run P w = .ok z w ∧ R w X β v z := by
  unfold oBin at h
  split at h
  · cases hx
    cases hy
    split at h
    · exact sound_shift h
    · exact sound_shift h
    · rename_i k a l b _ h1 h2
      cases hk : decide (k = l)
      · simp [hk, Tree.run] at h
      · simp only [hk, cond_true] at h
        exact sound_int ⟨h1, h2⟩ (of_decide_eq_true hk) h
  · cases hx
    cases hy
    exact sound_str h
  · cases hx
    cases hy
    split at h
    · rename_i hu
      simp only [Tree.run, Option.some.injEq] at h
      subst h
      exact ⟨_, by simp only [bin, Sem.run_bind, guard_bool, Result.andThen_ok]; exact run_eql_bool w t _ _ hu, .bool _ _⟩
    · rename_i hu
      simp only [Tree.run, Option.some.injEq] at h
      subst h
      exact ⟨_, by simp only [bin, Sem.run_bind, guard_bool, Result.andThen_ok]; exact run_neq_bool w t _ _ hu, .bool _ _⟩
    · cases h
  · rename_i a b
    cases hx with
    | agg _ _ xs hlx hrx =>
    cases hy with
    | agg _ _ ys hly hry =>
    have key : ∀ c, aggEq P t a b = some c → P.eqGuardType P.depth t = false ∧ (Op.equalIn 10000 t (.agg xs.toArray) (.agg ys.toArray)).run P w = .ok c w := by
      intro c hc
      unfold aggEq at hc
      split at hc
      · rename_i fs hu
        cases hg : (!P.stoodInHeld t && !P.eqGuardType P.depth t)
        · simp [hg] at hc
        simp only [hg, cond_true] at hc
        obtain ⟨g1, g2⟩ := Bool.and_eq_true_iff.1 hg
        have hf : P.fieldsOf t = fs := by simp [Program.fieldsOf, hu]
        refine ⟨by simpa using g2, ?_⟩
        rw [run_equalIn_struct w 9999 t _ _ (by rw [hf]; exact hu) (by simpa using g1), hf]
        exact eqBy_spec 9997 hlx hly hrx hry _ c hc
      · cases hc
    split at h
    · rename_i c hc
      simp only [Tree.run, Option.some.injEq] at h
      subst h
      obtain ⟨k1, k2⟩ := key c hc
      exact ⟨_, by simp only [bin, Sem.run_bind, run_eqGuard_agg w _ t _ _ _ _ k1, Result.andThen_ok, run_eql_struct, k2], .bool _ _⟩
    · rename_i c hc
      simp only [Tree.run, Option.some.injEq] at h
      subst h
      obtain ⟨k1, k2⟩ := key c hc
      exact ⟨_, by simp only [bin, Sem.run_bind, run_eqGuard_agg w _ t _ _ _ _ k1, Result.andThen_ok, run_neq_struct, k2], .bool _ _⟩
    · cases h
  · cases hy
    split at h
    rotate_left
    · cases h
    rename_i e hu
    have hg : ∀ op a n m n' m', (eqGuard op t xo yo (.slice a n m) (.slice none n' m')).run P w = .ok () w := by intro op a n m n' m'; cases op <;> simp [eqGuard]
    have h1 : ∀ a n m n' m', (bin .eql t xo yo (.slice a n m) (.slice none n' m')).run P w = .ok (.bool a.isNone) w := by
      intro a n m n' m'; simp only [bin, Sem.run_bind, hg, Result.andThen_ok, binOp]; simp [und_nil hu]
    have h2 : ∀ a n m n' m', (bin .neq t xo yo (.slice a n m) (.slice none n' m')).run P w = .ok (.bool (!a.isNone)) w := by
      intro a n m n' m'; simp only [bin, Sem.run_bind, hg, Result.andThen_ok, binOp]; simp [und_nil hu]
    split at h <;> first | (cases h; done) | skip
    all_goals
      simp only [Tree.run, Option.some.injEq] at h
      subst h
      cases hx <;> first | exact ⟨_, h1 _ _ _ _ _, .bool _ _⟩ | exact ⟨_, h2 _ _ _ _ _, .bool _ _⟩ | (rename_i hm; exact (hm rfl).elim)
  · cases hy
    split at h
    rotate_left
    · cases h
    rename_i e hu
    have hg : ∀ op a, (eqGuard op t xo yo (.pointer a) (.pointer none)).run P w = .ok () w := by intro op a; cases op <;> simp [eqGuard]
    have h1 : ∀ a, (bin .eql t xo yo (.pointer a) (.pointer none)).run P w = .ok (.bool a.isNone) w := by
      intro a; simp only [bin, Sem.run_bind, hg, Result.andThen_ok, binOp]; simp [und_nilp hu]
    have h2 : ∀ a, (bin .neq t xo yo (.pointer a) (.pointer none)).run P w = .ok (.bool (!a.isNone)) w := by
      intro a; simp only [bin, Sem.run_bind, hg, Result.andThen_ok, binOp]; simp [und_nilp hu]
    split at h <;> first | (cases h; done) | skip
    all_goals
      simp only [Tree.run, Option.some.injEq] at h
      subst h
      cases hx
      first | exact ⟨_, h1 _, .bool _ _⟩ | exact ⟨_, h2 _, .bool _ _⟩
  · cases hy
    split at h
    rotate_left
    · cases h
    rename_i ms hu
    cases hms : ms.isEmpty
    · rw [hms] at h; cases h
    rw [hms, cond_true] at h
    split at h
    · simp only [Tree.run, Option.some.injEq] at h
      subst h
      cases hx
      exact ⟨_, by simp only [bin, Sem.run_bind, iface_guard, Result.andThen_ok, binOp]; simp [iface_nil hu], .bool _ _⟩
    · simp only [Tree.run, Option.some.injEq] at h
      subst h
      cases hx
      exact ⟨_, by simp only [bin, Sem.run_bind, iface_guard, Result.andThen_ok, binOp]; simp [iface_nil hu], .bool _ _⟩
    · simp only [Tree.run, Option.some.injEq] at h
      subst h
      cases hx
      exact ⟨_, by simp only [bin, Sem.run_bind, nil_guard hu hms, Result.andThen_ok, binOp]; simp [nil_nil hu], .bool _ _⟩
    · simp only [Tree.run, Option.some.injEq] at h
      subst h
      cases hx
      exact ⟨_, by simp only [bin, Sem.run_bind, nil_guard hu hms, Result.andThen_ok, binOp]; simp [nil_nil hu], .bool _ _⟩
    · cases h
  · cases hx with
    | ifc _ _ _ _ hx => cases hy with
      | ifc _ _ _ _ hy =>
        cases hx
        cases hy
        exact sound_ifc h
  · cases h

theorem sound_un {op : UnOp} {x v : V} {y : Value} (hx : R w X β x y) (h : oUn op x = some v) : ∃ z, (Op.unary op y).run P w = .ok z w ∧ R w X β v z := by
  unfold oUn at h
  split at h
  · simp only [Option.some.injEq] at h
    subst h
    cases hx
    exact ⟨_, rfl, .int _ _ _⟩
  · simp only [Option.some.injEq] at h
    subst h
    cases hx
    exact ⟨_, rfl, .int _ _ _⟩
  · simp only [Option.some.injEq] at h
    subst h
    cases hx
    exact ⟨_, rfl, .bool _ _⟩
  · cases h

theorem sound_index {t : TypeId} {x ix v : V} {y iy : Value} (hx : R w X β x y) (hi : R w X β ix iy) (h : (oIndex P t x ix).run = some v) :
    ∃ z, (Instr.index t y iy).run P w = .ok z w ∧ R w X β v z := by
  unfold oIndex at h
  split at h
  · rename_i s k n
    split at h
    rotate_left
    · cases h
    rename_i hu
    obtain ⟨hin, h⟩ := req_run h
    simp only [Tree.run, Option.some.injEq] at h
    subst h
    obtain ⟨i0, i1, i2⟩ := inside_spec hin
    cases hx
    cases hi
    have hsz : (ByteArray.mk s.toArray).size = s.length := by simp [ByteArray.size]
    refine ⟨.int .u8 (s.getD n.toNat 0).toNat, ?_, .int _ _ _⟩
    rw [run_index_string w t _ k n hu, dif_pos ⟨i0, by rw [hsz]; exact i1⟩]
    have : (ByteArray.mk s.toArray)[n.toNat]'(by rw [hsz]; exact i2) = s.getD n.toNat 0 := by
      rw [List.getD_eq_getElem?_getD, List.getElem?_eq_getElem i2, Option.getD_some]
      rfl
    rw [this]
  · rename_i cells k n
    split at h
    rotate_left
    · cases h
    rename_i i hti
    split at h
    rotate_left
    · cases h
    rename_i len e hk
    have hu := arr_spec hti hk
    split at h
    rotate_left
    · cases h
    rename_i j hj
    obtain ⟨hin, h⟩ := req_run h
    obtain ⟨i0, i1, i2⟩ := inside_spec hin
    split at h
    rotate_left
    · cases h
    rename_i u hu'
    simp only [Tree.run, Option.some.injEq] at h
    subst h
    cases hi
    cases hx with
    | agg _ _ xs hl hr =>
      obtain ⟨z, hz, hz'⟩ := sound_part (P := P) (ft := e) hl hr (ti_isAgg w hj) (ti_size w hj) hu'
      exact ⟨z, by simp [Instr.index, asIntOf, run_und w hu, i0, i1, ti_size w hj, hz], hz'⟩
  · cases h

theorem sound_len {argTypes : Array TypeId} {ty : TypeId} {x v : V} {y : Value} (hx : R w X β x y) (h : oLen P argTypes x = some v) :
    ∃ z, (Builtin.len_ argTypes ty #[y]).run P w = .ok z w ∧ R w X β v z := by
  unfold oLen at h
  split at h
  rotate_left
  · cases h
  rename_i t ht
  split at h
  · rename_i s hu
    simp only [Option.some.injEq] at h
    subst h
    cases hx
    have hsz : (ByteArray.mk s.toArray).size = s.length := by simp [ByteArray.size]
    exact ⟨_, by simp [Builtin.len_, ht, run_und w hu, hsz, goInt], .int _ _ _⟩
  · cases h
  · rename_i e hu hnot
    split at h
    rotate_left
    · cases h
    rename_i n hn
    simp only [Option.some.injEq] at h
    subst h
    have key : ∀ a cap, y = .slice a n cap → ∃ z, (Builtin.len_ argTypes ty #[y]).run P w = .ok z w ∧ R w X β (.int .i64 n) z := by
      intro a cap hy
      subst hy
      exact ⟨.int .i64 n, by simp [Builtin.len_, ht, run_und w hu, goInt], .int _ _ _⟩
    unfold lenOf? at hn
    split at hn <;> first | (cases hn; done) | skip
    · cases hn; cases hx <;> exact key _ _ rfl
    · cases hn; cases hx; exact key _ _ rfl
    · cases hn; cases hx; exact key _ _ rfl
    · cases hn; cases hx; exact key _ _ rfl
    · exact absurd rfl (hnot _)
  · rename_i n e hu
    simp only [Option.some.injEq] at h
    subst h
    refine ⟨.int .i64 n, ?_, .int _ _ _⟩
    simp [Builtin.len_, ht, run_und w hu, goInt]
  · cases h

theorem sound_cap {H : List O} {argTypes : Array TypeId} {ty : TypeId} {x v : V} {y : Value} (hR : Rel w X H β) (hx : R w X β x y) (h : oCap P H argTypes x = some v) :
    ∃ z, (Builtin.cap_ argTypes ty #[y]).run P w = .ok z w ∧ R w X β v z := by
  unfold oCap at h
  split at h
  rotate_left
  · cases h
  rename_i t ht
  split at h
  rotate_left
  · cases h
  rename_i e hu
  split at h
  · rename_i id sz off len
    split at h
    rotate_left
    · cases h
    rename_i cs e' hH
    cases hb : (Nat.ble 4294967296 e' && (Nat.beq off 0 && (Nat.beq (len * sz) cs.length && Nat.blt 0 sz)))
    · rw [hb] at h; cases h
    rw [hb] at h
    simp only [cond_true, Option.some.injEq] at h
    subst h
    simp only [Bool.and_eq_true] at hb
    obtain ⟨b1, b2, b3, b4⟩ := hb
    have b1 := Nat.le_of_ble_eq_true b1
    have b2 := Nat.eq_of_beq_eq_true b2
    have b3 := Nat.eq_of_beq_eq_true b3
    have b4 : 1 ≤ sz := by simpa [Nat.blt] using b4
    cases hx with
    | ref _ _ _ _ _ loc b o cap hid hk hlen ha hcap =>
      obtain ⟨_, arr, e2, a1, a2, a3, a4⟩ := hR.cells id cs e' loc hH hid
      have hs := a3.2 b1
      have hle : cap * sz ≤ len * sz := by omega
      have hc : cap = len := Nat.le_antisymm (Nat.le_of_mul_le_mul_right hle b4) hlen
      subst hc
      exact ⟨.int .i64 cap, by simp [Builtin.cap_, ht, run_und w hu, goInt], .int _ _ _⟩
  · simp only [Option.some.injEq] at h
    subst h
    cases hx
    exact ⟨.int .i64 0, by simp [Builtin.cap_, ht, run_und w hu, goInt], .int _ _ _⟩
  · cases h

theorem sound_max {argTypes : Array TypeId} {ty : TypeId} {x y v : V} {sx sy : Value} (hx : R w X β x sx) (hy : R w X β y sy) (h : vmax x y = some v) :
    ∃ z, (Builtin.max_ argTypes ty #[sx, sy]).run P w = .ok z w ∧ R w X β v z := by
  unfold vmax at h
  split at h
  rotate_left
  · cases h
  rename_i k a l b
  cases hk : decide (k = l)
  · simp [hk] at h
  simp only [hk, cond_true, Option.some.injEq] at h
  subst h
  cases hx
  cases hy
  exact ⟨_, run_max_int2 w argTypes ty k l a b, .int _ _ _⟩

theorem sound_min {argTypes : Array TypeId} {ty : TypeId} {x y v : V} {sx sy : Value} (hx : R w X β x sx) (hy : R w X β y sy) (h : vmin x y = some v) :
    ∃ z, (Builtin.min_ argTypes ty #[sx, sy]).run P w = .ok z w ∧ R w X β v z := by
  unfold vmin at h
  split at h
  rotate_left
  · cases h
  rename_i k a l b
  cases hk : decide (k = l)
  · simp [hk] at h
  simp only [hk, cond_true, Option.some.injEq] at h
  subst h
  cases hx
  cases hy
  exact ⟨_, run_min_int2 w argTypes ty k l a b, .int _ _ _⟩

theorem pures_get : ∀ {cs ds : List V}, V.pures? cs = some ds → ds.length = cs.length ∧ ∀ (k : Nat) v, ds[k]? = some v → ∃ u, cs[k]? = some u ∧ V.pure? u = some v
  | [], ds, h => by
    simp only [V.pures?, Option.some.injEq] at h
    subst h
    exact ⟨rfl, fun k v h => by simp at h⟩
  | c :: cs, ds, h => by
    unfold V.pures? at h
    split at h
    · rename_i v r h1 h2
      simp only [Option.some.injEq] at h
      subst h
      obtain ⟨a, b⟩ := pures_get h2
      refine ⟨by simp [a], fun k u hu => ?_⟩
      cases k with
      | zero => simp at hu; subst hu; exact ⟨c, rfl, h1⟩
      | succ k => simp at hu; obtain ⟨z, hz, hz'⟩ := b k u hu; exact ⟨z, by simpa using hz, hz'⟩
    · cases h

theorem pure_R {β : List Loc} {v : V} {y : Value} (h : R w X β v y) : ∀ v', V.pure? v = some v' → R w X [] v' y := by
  induction h with
  | int => intro v' h; simp only [V.pure?, Option.some.injEq] at h; subst h; exact .int _ _ _
  | bool => intro v' h; simp only [V.pure?, Option.some.injEq] at h; subst h; exact .bool _ _
  | str => intro v' h; simp only [V.pure?, Option.some.injEq] at h; subst h; exact .str _ _
  | val => intro v' h; simp only [V.pure?, Option.some.injEq] at h; subst h; exact .val _ _
  | any => intro v' h; simp only [V.pure?, Option.some.injEq] at h; subst h; exact .any _ _
  | rng β k lo hi n hr => intro v' h; simp only [V.pure?, Option.some.injEq] at h; subst h; exact .any _ _
  | pin β cells b o f hc hr ih => intro v' h; simp only [V.pure?, Option.some.injEq] at h; subst h; exact .pin [] cells b o f hc hr
  | sl β c l spare fl b o cap f hcap hfull hrw hc hr ih =>
    intro v' h; simp only [V.pure?, Option.some.injEq] at h; subst h; exact .sl [] c l spare fl b o cap f hcap hfull hrw hc hr
  | nil β c => intro v' h; simp only [V.pure?, Option.some.injEq] at h; subst h; exact .nil [] c
  | gro β id c l b o cap loc f hid hk hn hl hcap hc hr ih =>
    intro v' h; simp only [V.pure?, Option.some.injEq] at h; subst h
    exact gro_sl (.gro β id c l b o cap loc f hid hk hn hl hcap hc hr)
  | ptr => intro v' h; simp only [V.pure?, Option.some.injEq] at h; subst h; exact .any _ _
  | ref => intro v' h; simp only [V.pure?, Option.some.injEq] at h; subst h; exact .any _ _
  | mp => intro v' h; simp only [V.pure?, Option.some.injEq] at h; subst h; exact .any _ _
  | agg β cells xs hl h ih =>
    intro v' h
    simp only [V.pure?] at h
    obtain ⟨ds, hd, rfl⟩ := Option.map_eq_some_iff.1 h
    obtain ⟨a, b⟩ := pures_get hd
    exact .agg [] ds xs (by omega) (fun k v x h1 h2 => let ⟨u, hu, hp⟩ := b k v h1; ih k u x hu h2 v hp)
  | tup β cells xs hl h ih =>
    intro v' h
    simp only [V.pure?] at h
    obtain ⟨ds, hd, rfl⟩ := Option.map_eq_some_iff.1 h
    obtain ⟨a, b⟩ := pures_get hd
    exact .tup [] ds xs (by omega) (fun k v x h1 h2 => let ⟨u, hu, hp⟩ := b k v h1; ih k u x hu h2 v hp)
  | ifc β t v x h ih =>
    intro v' h
    simp only [V.pure?] at h
    obtain ⟨d, hd, rfl⟩ := Option.map_eq_some_iff.1 h
    exact .ifc [] t d x (ih d hd)
  | clo β fn as bs xs ys hl hm h h' ih ih' =>
    intro v' h
    simp only [V.pure?] at h
    split at h
    · rename_i a b ha hb
      simp only [Option.some.injEq] at h
      subst h
      obtain ⟨a1, a2⟩ := pures_get ha
      obtain ⟨b1, b2⟩ := pures_get hb
      exact .clo [] fn a b xs ys (by omega) (by omega) (fun k v x h1 h2 => let ⟨u, hu, hp⟩ := a2 k v h1; ih k u x hu h2 v hp)
        (fun k v x h1 h2 => let ⟨u, hu, hp⟩ := b2 k v h1; ih' k u x hu h2 v hp)
    · cases h

end
end Go.Ab
