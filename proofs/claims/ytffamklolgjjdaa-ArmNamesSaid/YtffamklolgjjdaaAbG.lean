/-
  The engine, part G: slices are made, grow and are cut. Conditions: none.
-/
import Derived.Test.YtffamklolgjjdaaAbF
import Derived.Laws.Append
import Derived.Laws.MakeOwn
namespace Go.Ab
section
variable {P : Program} {E : Nat → Nat → Prop} {H : List O} {β : List Loc} {w : World} {X : Nat → Nat → Prop}

theorem enc_get {c : EC} (x : c.ty) {k : Nat} (hk : k < c.size) : ∃ v, (enc c x)[k]? = some v :=
  ⟨(enc c x)[k]'(by rw [enc_size]; exact hk), by simp [enc_size, hk]⟩

theorem mk_sl {c : EC} {l spare : List c.ty} {fl : Fl} {b o len cap : Nat} (hlen : len = l.length) (hcap : l.length + spare.length ≤ cap)
    (hfull : fl = .full → cap = l.length + spare.length) (hrw : fl.fixed = false → ∃ (cs : Array Value) (e : TypeId), w.heap[b]? = some (.cells cs e (0, 0)))
    (h : ∀ (i : Nat) x (k : Nat) v, (l ++ spare)[i]? = some x → (enc c x)[k]? = some v → ¬ X b (o + i * c.size + k) ∧ ∃ y, w.cell? ⟨b, o + i * c.size + k, none⟩ = some y ∧ R w X [] v y) :
    R w X β (.sl c l spare fl) (.slice (some ⟨b, o, none⟩) len cap) := by
  subst hlen
  refine .sl β c l spare fl b o cap (fun i k => (w.cell? ⟨b, o + i * c.size + k, none⟩).getD undef) hcap hfull hrw (fun i k hi hk => ?_) (fun i x k v h1 h2 => ?_)
  · have hi' : i < (l ++ spare).length := by simpa using hi
    obtain ⟨v, hv⟩ := enc_get (l ++ spare)[i] hk
    obtain ⟨h1, y, h2, _⟩ := h i _ k v (by rw [List.getElem?_eq_getElem hi']) hv
    exact ⟨h1, by rw [h2]; rfl⟩
  · obtain ⟨_, y, h3, h4⟩ := h i x k v h1 h2
    rw [h3]; exact h4

theorem sl_get {c : EC} {l spare : List c.ty} {fl : Fl} {y : Value} (h : R w X β (.sl c l spare fl) y) :
    (y = .slice none 0 0 ∧ l = [] ∧ spare = [] ∧ fl = .may) ∨
    ∃ b o cap, y = .slice (some ⟨b, o, none⟩) l.length cap ∧ l.length + spare.length ≤ cap ∧ (fl = .full → cap = l.length + spare.length) ∧
      (fl.fixed = false → ∃ (cs : Array Value) (e : TypeId), w.heap[b]? = some (.cells cs e (0, 0))) ∧
      ∀ (i : Nat) x (k : Nat) v, (l ++ spare)[i]? = some x → (enc c x)[k]? = some v → ¬ X b (o + i * c.size + k) ∧ ∃ y, w.cell? ⟨b, o + i * c.size + k, none⟩ = some y ∧ R w X [] v y := by
  cases h with
  | sl _ _ _ _ _ b o cap f hcap hfull hrw hc hr =>
    refine .inr ⟨b, o, cap, rfl, hcap, hfull, hrw, fun i x k v h1 h2 => ?_⟩
    have hk : k < c.size := by have := (List.getElem?_eq_some_iff.1 h2).1; rwa [enc_size] at this
    have hi : i < l.length + spare.length := by have := (List.getElem?_eq_some_iff.1 h1).1; simpa using this
    exact ⟨(hc i k hi hk).1, f i k, (hc i k hi hk).2, hr i x k v h1 h2⟩
  | nil => exact .inl ⟨rfl, rfl, rfl, rfl⟩

theorem sl_get_may {c : EC} {l spare : List c.ty} {fl : Fl} {y : Value} (h : R w X β (.sl c l spare fl) y) (hf : fl.isMay = false) :
    ∃ b o cap, y = .slice (some ⟨b, o, none⟩) l.length cap ∧ l.length + spare.length ≤ cap ∧ (fl = .full → cap = l.length + spare.length) ∧
      (fl.fixed = false → ∃ (cs : Array Value) (e : TypeId), w.heap[b]? = some (.cells cs e (0, 0))) ∧
      ∀ (i : Nat) x (k : Nat) v, (l ++ spare)[i]? = some x → (enc c x)[k]? = some v → ¬ X b (o + i * c.size + k) ∧ ∃ y, w.cell? ⟨b, o + i * c.size + k, none⟩ = some y ∧ R w X [] v y := by
  rcases sl_get h with ⟨_, _, _, rfl⟩ | h
  · cases hf
  · exact h

theorem gro_get {id : Nat} {c : EC} {l : List c.ty} {y : Value} (h : R w X β (.gro id c l) y) :
    ∃ b o cap loc, y = .slice (some ⟨b, o, none⟩) l.length cap ∧ β[id]? = some loc ∧ loc.kind = true ∧ l.length ≤ loc.n ∧
      (loc.n = l.length → b = loc.block ∧ o = loc.base ∧ o + cap * c.size ≤ loc.size) ∧ l.length ≤ cap ∧
      ∀ (i : Nat) x (k : Nat) v, l[i]? = some x → (enc c x)[k]? = some v → ¬ X b (o + i * c.size + k) ∧ ∃ y, w.cell? ⟨b, o + i * c.size + k, none⟩ = some y ∧ R w X [] v y := by
  cases h with
  | gro _ _ _ _ b o cap loc f hid hk hn hl hcap hc hr =>
    refine ⟨b, o, cap, loc, rfl, hid, hk, hn, hl, hcap, fun i x k v h1 h2 => ?_⟩
    have hk : k < c.size := by have := (List.getElem?_eq_some_iff.1 h2).1; rwa [enc_size] at this
    have hi : i < l.length := (List.getElem?_eq_some_iff.1 h1).1
    exact ⟨(hc i k hi hk).1, f i k, (hc i k hi hk).2, hr i x k v h1 h2⟩

theorem mk_gro {id : Nat} {c : EC} {l : List c.ty} {b o len cap : Nat} {loc : Loc} (hlen : len = l.length) (hid : β[id]? = some loc) (hk : loc.kind = true) (hn : l.length ≤ loc.n)
    (hl : loc.n = l.length → b = loc.block ∧ o = loc.base ∧ o + cap * c.size ≤ loc.size) (hcap : l.length ≤ cap)
    (h : ∀ (i : Nat) x (k : Nat) v, l[i]? = some x → (enc c x)[k]? = some v → ¬ X b (o + i * c.size + k) ∧ ∃ y, w.cell? ⟨b, o + i * c.size + k, none⟩ = some y ∧ R w X [] v y) :
    R w X β (.gro id c l) (.slice (some ⟨b, o, none⟩) len cap) := by
  subst hlen
  refine .gro β id c l b o cap loc (fun i k => (w.cell? ⟨b, o + i * c.size + k, none⟩).getD undef) hid hk hn hl hcap (fun i k hi hk => ?_) (fun i x k v h1 h2 => ?_)
  · obtain ⟨v, hv⟩ := enc_get l[i] hk
    obtain ⟨h1, y, h2, _⟩ := h i _ k v (by rw [List.getElem?_eq_getElem hi]) hv
    exact ⟨h1, by rw [h2]; rfl⟩
  · obtain ⟨_, y, h3, h4⟩ := h i x k v h1 h2
    rw [h3]; exact h4

theorem gro_sl {id : Nat} {c : EC} {l : List c.ty} {y : Value} (h : R w X β (.gro id c l) y) : R w X [] (.sl c l [] .ro) y := by
  obtain ⟨b, o, cap, loc, rfl, _, _, _, _, hcap, hh⟩ := gro_get h
  exact mk_sl rfl (by simpa using hcap) (fun h => by cases h) (fun h => by cases h) (by simpa using hh)

theorem sl_weak {c : EC} {l spare : List c.ty} {fl : Fl} {y : Value} (h : R w X β (.sl c l spare fl) y) (hf : fl.isMay = false) : R w X [] (.sl c l [] .ro) y := by
  obtain ⟨b, o, cap, rfl, hcap, _, _, hh⟩ := sl_get_may h hf
  refine mk_sl rfl (by simp; omega) (fun h => by cases h) (fun h => by cases h) (fun i x k v h1 h2 => hh i x k v ?_ h2)
  have : i < l.length := by have := (List.getElem?_eq_some_iff.1 h1).1; simpa using this
  rw [List.getElem?_append_left this]
  simpa using h1

/-- What is decoded is what stood there. -/
def DecOk (c : EC) : Prop := ∀ (l : List V) (x : c.ty) (rest : List V), dec c l = some (x, rest) → rest = l.drop c.size ∧ c.size ≤ l.length ∧
  ∀ (k : Nat) v, (enc c x)[k]? = some v → ∃ u, l[k]? = some u ∧ u.one = true ∧ ∀ (w : World) (X : Nat → Nat → Prop) (β : List Loc) (y : Value), R w X β u y → R w X [] v y

def DecsOk (cs : List EC) : Prop := ∀ (l : List V) (x : EC.tys cs) (rest : List V), decs cs l = some (x, rest) → rest = l.drop (EC.sizes cs) ∧ EC.sizes cs ≤ l.length ∧
  ∀ (k : Nat) v, (encs cs x)[k]? = some v → ∃ u, l[k]? = some u ∧ u.one = true ∧ ∀ (w : World) (X : Nat → Nat → Prop) (β : List Loc) (y : Value), R w X β u y → R w X [] v y

theorem one_cell {u v : V} {k : Nat} {r : List V} (h1 : u.one = true) (h : ∀ (w : World) (X : Nat → Nat → Prop) (β : List Loc) (y : Value), R w X β u y → R w X [] v y) (z : V) (hz : [v][k]? = some z) :
    ∃ u', (u :: r)[k]? = some u' ∧ u'.one = true ∧ ∀ (w : World) (X : Nat → Nat → Prop) (β : List Loc) (y : Value), R w X β u' y → R w X [] z y := by
  cases k with
  | zero => simp at hz; subst hz; exact ⟨u, rfl, h1, h⟩
  | succ k => simp at hz

theorem sameL_spec {c d : EC} {l : List d.ty} {l' : List c.ty} (h : sameL c d l = some l') : ∃ e : d = c, l' = castL e l := by
  unfold sameL at h
  split at h
  · rename_i e _
    simp only [Option.some.injEq] at h
    exact ⟨e, h.symm⟩
  · cases h

theorem decInt_spec {k : IntKind} {l rest : List V} {x : Int} (h : decInt k l = some (x, rest)) : l = .int k x :: rest := by
  unfold decInt at h
  split at h
  · rename_i k' n r
    cases hk : decide (k = k')
    · simp [hk] at h
    · simp only [hk, cond_true, Option.some.injEq, Prod.mk.injEq] at h
      obtain ⟨rfl, rfl⟩ := h
      rw [of_decide_eq_true hk]
  · cases h

theorem decBool_spec {l rest : List V} {x : Bool} (h : decBool l = some (x, rest)) : l = .bool x :: rest := by
  unfold decBool at h
  split at h
  · simp only [Option.some.injEq, Prod.mk.injEq] at h
    obtain ⟨rfl, rfl⟩ := h
    rfl
  · cases h

theorem decStr_spec {l rest : List V} {x : List UInt8} (h : decStr l = some (x, rest)) : l = .str x :: rest := by
  unfold decStr at h
  split at h
  · simp only [Option.some.injEq, Prod.mk.injEq] at h
    obtain ⟨rfl, rfl⟩ := h
    rfl
  · cases h

theorem dec_ok (c : EC) : DecOk c := by
  refine EC.rec (motive_1 := DecOk) (motive_2 := DecsOk) ?_ ?_ ?_ ?_ ?_ ?_ ?_ c
  · intro k l x rest h
    have e := decInt_spec (k := k) (x := x) h
    subst e
    exact ⟨by simp [EC.size], by simp [EC.size], fun j v hv => one_cell rfl (fun w X β y hy => by cases hy; exact .int _ _ _) v hv⟩
  · intro l x rest h
    have e := decBool_spec (x := x) h
    subst e
    exact ⟨by simp [EC.size], by simp [EC.size], fun j v hv => one_cell rfl (fun w X β y hy => by cases hy; exact .bool _ _) v hv⟩
  · intro l x rest h
    have e := decStr_spec (x := x) h
    subst e
    exact ⟨by simp [EC.size], by simp [EC.size], fun j v hv => one_cell rfl (fun w X β y hy => by cases hy; exact .str _ _) v hv⟩
  · intro c _ l x rest h
    change Option (List c.ty) at x
    change decSl c l = some (x, rest) at h
    show _ ∧ _ ∧ ∀ (k : Nat) v, ([match x with | none => nilSl | some l => V.sl c l [] .ro] : List V)[k]? = some v → _
    unfold decSl at h
    split at h
    · simp only [Option.some.injEq, Prod.mk.injEq] at h
      obtain ⟨rfl, rfl⟩ := h
      exact ⟨by simp [EC.size], by simp [EC.size], fun j v hv => one_cell rfl (fun w X β y hy => by cases hy; exact .val _ _) v hv⟩
    · rename_i _ d ll sp fl r
      cases hf : fl.isMay
      rotate_left
      · rw [hf] at h; cases h
      rw [hf] at h
      obtain ⟨l', hl', e⟩ := Option.map_eq_some_iff.1 h
      simp only [Prod.mk.injEq] at e
      obtain ⟨rfl, rfl⟩ := e
      obtain ⟨e, rfl⟩ := sameL_spec hl'
      subst e
      exact ⟨by simp [EC.size], by simp [EC.size], fun j v hv => one_cell rfl (fun w X β y hy => sl_weak hy hf) v hv⟩
    · obtain ⟨l', hl', e⟩ := Option.map_eq_some_iff.1 h
      simp only [Prod.mk.injEq] at e
      obtain ⟨rfl, rfl⟩ := e
      obtain ⟨e, rfl⟩ := sameL_spec hl'
      subst e
      exact ⟨by simp [EC.size], by simp [EC.size], fun j v hv => one_cell rfl (fun w X β y hy => gro_sl hy) v hv⟩
    · cases h
  · intro cs ih l x rest h
    exact ih l x rest h
  · intro l x rest h
    change some ((), l) = some (x, rest) at h
    have : l = rest := congrArg Prod.snd (Option.some.inj h)
    subst this
    exact ⟨by simp [EC.sizes], by simp [EC.sizes], fun k v hv => by simp [encs] at hv⟩
  · intro c cs ih ihs l x rest h
    cases cs with
    | nil => exact ih l x rest h
    | cons d cs =>
      change c.ty × EC.tys (d :: cs) at x
      change (match dec c l with
        | some (x, r) => match decs (d :: cs) r with
          | some (y, r) => some ((x, y), r)
          | none => none
        | none => none) = some (x, rest) at h
      split at h
      · rename_i x1 r1 h1
        split at h
        · rename_i x2 r2 h2
          simp only [Option.some.injEq, Prod.mk.injEq] at h
          obtain ⟨rfl, rfl⟩ := h
          obtain ⟨a1, a2, a3⟩ := ih l x1 r1 h1
          obtain ⟨b1, b2, b3⟩ := ihs r1 x2 r2 h2
          subst a1
          refine ⟨?_, ?_, ?_⟩
          · rw [b1, List.drop_drop]; rfl
          · simp only [List.length_drop] at b2
            show c.size + EC.sizes (d :: cs) ≤ l.length
            omega
          · intro k v hv
            have hv : (enc c x1 ++ encs (d :: cs) x2)[k]? = some v := hv
            by_cases hk : k < c.size
            · rw [List.getElem?_append_left (by rw [enc_size]; exact hk)] at hv
              exact a3 k v hv
            · rw [List.getElem?_append_right (by rw [enc_size]; omega), enc_size] at hv
              obtain ⟨u, hu, h1⟩ := b3 _ v hv
              rw [List.getElem?_drop] at hu
              exact ⟨u, by rw [← hu]; congr 1; omega, h1⟩
        · cases h
      · cases h

theorem dec1_spec {c : EC} {l : List V} {x : c.ty} (h : dec1 c l = some x) : l.length = c.size ∧
    ∀ (k : Nat) v, (enc c x)[k]? = some v → ∃ u, l[k]? = some u ∧ u.one = true ∧ ∀ (w : World) (X : Nat → Nat → Prop) (β : List Loc) (y : Value), R w X β u y → R w X [] v y := by
  unfold dec1 at h
  split at h
  · rename_i y hy
    simp only [Option.some.injEq] at h
    subst h
    obtain ⟨h1, h2, h3⟩ := dec_ok c l _ _ hy
    have : (l.drop c.size).length = 0 := by rw [← h1]; rfl
    simp at this
    exact ⟨by omega, h3⟩
  · cases h

theorem decAll_spec {c : EC} : ∀ {rows : List (List V)} {xs : List c.ty}, decAll c rows = some xs → xs.length = rows.length ∧
    ∀ (i : Nat) x, xs[i]? = some x → ∃ row, rows[i]? = some row ∧ dec1 c row = some x
  | [], xs, h => by
    simp only [decAll, Option.some.injEq] at h
    subst h
    exact ⟨rfl, fun i x h => by simp at h⟩
  | row :: rows, xs, h => by
    unfold decAll at h
    split at h
    · rename_i y ys h1 h2
      simp only [Option.some.injEq] at h
      subst h
      obtain ⟨a, b⟩ := decAll_spec h2
      refine ⟨by simp [a], fun i x hx => ?_⟩
      cases i with
      | zero => simp at hx; subst hx; exact ⟨row, rfl, h1⟩
      | succ i => simp at hx; obtain ⟨r, hr, hr'⟩ := b i x hx; exact ⟨r, by simpa using hr, hr'⟩
    · cases h

theorem chunks_spec (sz : Nat) : ∀ (n : Nat) (l : List V), (chunks sz n l).length = n ∧ ∀ (i : Nat) row, (chunks sz n l)[i]? = some row → row = (l.drop (i * sz)).take sz
  | 0, l => ⟨rfl, fun i row h => by simp [chunks] at h⟩
  | n + 1, l => by
    obtain ⟨h1, h2⟩ := chunks_spec sz n (l.drop sz)
    refine ⟨by simp [chunks, h1], fun i row h => ?_⟩
    cases i with
    | zero => simp [chunks] at h; simp [h]
    | succ i =>
      simp only [chunks, List.getElem?_cons_succ] at h
      rw [h2 i row h, List.drop_drop]
      congr 2
      rw [Nat.add_mul]; omega

/-- Elements out of a row of cells. -/
theorem chunk_dec {c : EC} {n : Nat} {cells : List V} {xs : List c.ty} (h : decAll c (chunks c.size n cells) = some xs) : xs.length = n ∧
    ∀ (i : Nat) x (k : Nat) v, xs[i]? = some x → (enc c x)[k]? = some v → ∃ u, cells[i * c.size + k]? = some u ∧ u.one = true ∧
      ∀ (w : World) (X : Nat → Nat → Prop) (β : List Loc) (y : Value), R w X β u y → R w X [] v y := by
  obtain ⟨h1, h2⟩ := decAll_spec h
  obtain ⟨g1, g2⟩ := chunks_spec c.size n cells
  refine ⟨by rw [h1, g1], fun i x k v hx hv => ?_⟩
  obtain ⟨row, hr, hd⟩ := h2 i x hx
  have hrow := g2 i row hr
  obtain ⟨hl, hh⟩ := dec1_spec hd
  obtain ⟨u, hu, hu'⟩ := hh k v hv
  refine ⟨u, ?_, hu'⟩
  rw [hrow, List.getElem?_take] at hu
  split at hu
  · rw [List.getElem?_drop] at hu; exact hu
  · cases hu

end
end Go.Ab
