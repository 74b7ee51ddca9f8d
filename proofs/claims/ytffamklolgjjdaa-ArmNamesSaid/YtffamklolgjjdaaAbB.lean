/-
  The engine, part B: how simple values stand to the model's, and what a step keeps. Conditions: none.
-/
import Derived.Test.YtffamklolgjjdaaAbA
import Derived.Laws.World
import Derived.Laws.Sem
import Derived.Laws.Cells
import Derived.Laws.Rows
namespace Go.Ab

structure Loc where
  kind : Bool
  block : Nat
  base : Nat
  n : Nat
  size : Nat

inductive R (w : World) (X : Nat → Nat → Prop) : List Loc → V → Value → Prop where
  | int (β k n) : R w X β (.int k n) (.int k n)
  | bool (β b) : R w X β (.bool b) (.bool b)
  | str (β s) : R w X β (.str s) (.string ⟨List.toArray s⟩)
  | val (β x) : R w X β (.val x) x
  | any (β x) : R w X β .any x
  | pin (β) (cells : List V) (b o) (f : Nat → Value) (hc : ∀ k, k < cells.length → ¬ X b (o + k) ∧ w.cell? ⟨b, o + k, none⟩ = some (f k))
      (hr : ∀ (k : Nat) (v : V), cells[k]? = some v → R w X [] v (f k)) : R w X β (.pin cells) (.pointer (some ⟨b, o, none⟩))
  | sl (β) (c : EC) (l spare : List c.ty) (fl b o cap) (f : Nat → Nat → Value) (hcap : l.length + spare.length ≤ cap)
      (hfull : fl = .full → cap = l.length + spare.length) (hrw : fl.fixed = false → ∃ (cs : Array Value) (e : TypeId), w.heap[b]? = some (.cells cs e (0, 0)))
      (hc : ∀ i k, i < l.length + spare.length → k < c.size → ¬ X b (o + i * c.size + k) ∧ w.cell? ⟨b, o + i * c.size + k, none⟩ = some (f i k))
      (hr : ∀ (i : Nat) (x : c.ty) (k : Nat) (v : V), (l ++ spare)[i]? = some x → (enc c x)[k]? = some v → R w X [] v (f i k)) :
      R w X β (.sl c l spare fl) (.slice (some ⟨b, o, none⟩) l.length cap)
  | nil (β) (c : EC) : R w X β (.sl c [] [] .may) (.slice none 0 0)
  | gro (β) (id) (c : EC) (l : List c.ty) (b o cap loc) (f : Nat → Nat → Value) (hid : β[id]? = some loc) (hk : loc.kind = true) (hn : l.length ≤ loc.n)
      (hl : loc.n = l.length → b = loc.block ∧ o = loc.base ∧ o + cap * c.size ≤ loc.size) (hcap : l.length ≤ cap)
      (hc : ∀ i k, i < l.length → k < c.size → ¬ X b (o + i * c.size + k) ∧ w.cell? ⟨b, o + i * c.size + k, none⟩ = some (f i k))
      (hr : ∀ (i : Nat) (x : c.ty) (k : Nat) (v : V), l[i]? = some x → (enc c x)[k]? = some v → R w X [] v (f i k)) :
      R w X β (.gro id c l) (.slice (some ⟨b, o, none⟩) l.length cap)
  | ptr (β id off loc) (hid : β[id]? = some loc) (hk : loc.kind = false) : R w X β (.ptr id off) (.pointer (some ⟨loc.block, loc.base + off, none⟩))
  | ref (β id sz off len loc b o cap) (hid : β[id]? = some loc) (hk : loc.kind = false) (hlen : len ≤ cap)
      (ha : 0 < cap → b = loc.block ∧ o = loc.base + off) (hcap : loc.base + off + cap * sz ≤ loc.size) :
      R w X β (.ref id sz off len) (.slice (some ⟨b, o, none⟩) len cap)
  | agg (β) (cells : List V) (xs : List Value) (hl : xs.length = cells.length) (h : ∀ (k : Nat) (v : V) (x : Value), cells[k]? = some v → xs[k]? = some x → R w X β v x) :
      R w X β (.agg cells) (.agg xs.toArray)
  | tup (β) (cells : List V) (xs : List Value) (hl : xs.length = cells.length) (h : ∀ (k : Nat) (v : V) (x : Value), cells[k]? = some v → xs[k]? = some x → R w X β v x) :
      R w X β (.tup cells) (.tuple xs.toArray)
  | ifc (β t v x) (h : R w X β v x) : R w X β (.ifc t v) (.iface t x)
  | clo (β fn) (as bs : List V) (xs ys : List Value) (hl : xs.length = as.length) (hm : ys.length = bs.length)
      (h : ∀ (k : Nat) (v : V) (x : Value), as[k]? = some v → xs[k]? = some x → R w X β v x) (h' : ∀ (k : Nat) (v : V) (x : Value), bs[k]? = some v → ys[k]? = some x → R w X β v x) :
      R w X β (.clo fn as bs) (.func fn xs.toArray ys.toArray)

def LocLe (β β' : List Loc) : Prop :=
  ∀ (id : Nat) (loc : Loc), β[id]? = some loc → ∃ loc', β'[id]? = some loc' ∧ (loc' = loc ∨ (loc.kind = true ∧ loc'.kind = true ∧ loc.n < loc'.n))

theorem LocLe.refl (β : List Loc) : LocLe β β := fun _ loc h => ⟨loc, h, .inl rfl⟩
theorem LocLe.nil (β : List Loc) : LocLe [] β := fun _ _ h => by simp at h
theorem LocLe.trans {a b c : List Loc} (h : LocLe a b) (k : LocLe b c) : LocLe a c := by
  intro id loc e
  obtain ⟨l1, e1, h1⟩ := h id loc e
  obtain ⟨l2, e2, h2⟩ := k id l1 e1
  refine ⟨l2, e2, ?_⟩
  rcases h1 with rfl | ⟨a1, a2, a3⟩
  · exact h2
  · rcases h2 with rfl | ⟨b1, b2, b3⟩
    · exact .inr ⟨a1, a2, a3⟩
    · exact .inr ⟨a1, b2, by omega⟩

structure Stab (w : World) (X : Nat → Nat → Prop) (w' : World) (X' : Nat → Nat → Prop) : Prop where
  cell : ∀ b o v, ¬ X b o → w.cell? ⟨b, o, none⟩ = some v → ¬ X' b o ∧ w'.cell? ⟨b, o, none⟩ = some v
  blk : ∀ (b : Nat) (cs : Array Value) (e : TypeId), w.heap[b]? = some (.cells cs e (0, 0)) → ∃ (cs' : Array Value) (e' : TypeId), w'.heap[b]? = some (.cells cs' e' (0, 0))

theorem R.stab {w w' : World} {X X' : Nat → Nat → Prop} (s : Stab w X w' X') {β : List Loc} {v : V} {x : Value} (h : R w X β v x) :
    ∀ β', LocLe β β' → R w' X' β' v x := by
  induction h with
  | int => exact fun β' _ => .int β' _ _
  | bool => exact fun β' _ => .bool β' _
  | str => exact fun β' _ => .str β' _
  | val => exact fun β' _ => .val β' _
  | any => exact fun β' _ => .any β' _
  | pin β cells b o f hc hr ih =>
    exact fun β' _ => .pin β' cells b o f (fun k hk => s.cell _ _ _ (hc k hk).1 (hc k hk).2) (fun k v hv => ih k v hv [] (.nil _))
  | sl β c l spare fl b o cap f hcap hfull hrw hc hr ih =>
    exact fun β' _ => .sl β' c l spare fl b o cap f hcap hfull (fun e => let ⟨cs, t, h⟩ := hrw e; s.blk _ _ _ h)
      (fun i k hi hk => s.cell _ _ _ (hc i k hi hk).1 (hc i k hi hk).2) (fun i x k v h1 h2 => ih i x k v h1 h2 [] (.nil _))
  | nil β c => exact fun β' _ => .nil β' c
  | gro β id c l b o cap loc f hid hk hn hl hcap hc hr ih =>
    intro β' hle
    obtain ⟨loc', hid', h⟩ := hle id loc hid
    refine .gro β' id c l b o cap loc' f hid' ?_ ?_ ?_ hcap (fun i k hi hk => s.cell _ _ _ (hc i k hi hk).1 (hc i k hi hk).2) (fun i x k v h1 h2 => ih i x k v h1 h2 [] (.nil _))
    · rcases h with rfl | ⟨_, h, _⟩ <;> assumption
    · rcases h with rfl | ⟨_, _, h⟩ <;> omega
    · rcases h with rfl | ⟨_, _, h⟩
      · exact hl
      · intro e; omega
  | ptr β id off loc hid hk =>
    intro β' hle
    obtain ⟨loc', hid', h⟩ := hle id loc hid
    rcases h with rfl | ⟨h, _⟩
    · exact .ptr β' id off _ hid' hk
    · simp [hk] at h
  | ref β id sz off len loc b o cap hid hk hlen ha hcap =>
    intro β' hle
    obtain ⟨loc', hid', h⟩ := hle id loc hid
    rcases h with rfl | ⟨h, _⟩
    · exact .ref β' id sz off len _ b o cap hid' hk hlen ha hcap
    · simp [hk] at h
  | agg β cells xs hl h ih => exact fun β' hle => .agg β' cells xs hl (fun k v x h1 h2 => ih k v x h1 h2 β' hle)
  | tup β cells xs hl h ih => exact fun β' hle => .tup β' cells xs hl (fun k v x h1 h2 => ih k v x h1 h2 β' hle)
  | ifc β t v x h ih => exact fun β' hle => .ifc β' t v x (ih β' hle)
  | clo β fn as bs xs ys hl hm h h' ih ih' =>
    exact fun β' hle => .clo β' fn as bs xs ys hl hm (fun k v x h1 h2 => ih k v x h1 h2 β' hle) (fun k v x h1 h2 => ih' k v x h1 h2 β' hle)

/-- What may be written: the objects' cells. -/
def Own (H : List O) (β : List Loc) (b o : Nat) : Prop :=
  ∃ (id : Nat) (loc : Loc), β[id]? = some loc ∧ loc.block = b ∧ ((∃ cs e, H[id]? = some (.cells cs e)) ∨ (∃ n sz, H[id]? = some (.tok n sz) ∧ loc.base + n * sz ≤ o))

def Xs (E : Nat → Nat → Prop) (H : List O) (β : List Loc) (b o : Nat) : Prop := E b o ∨ Own H β b o

def live (H : List O) (id : Nat) : Prop := ∃ o, H[id]? = some o ∧ o ≠ .dead

structure Rel (w : World) (X : Nat → Nat → Prop) (H : List O) (β : List Loc) : Prop where
  len : H.length = β.length
  cells : ∀ (id : Nat) cs e (loc : Loc), H[id]? = some (.cells cs e) → β[id]? = some loc → loc.kind = false ∧ ∃ (c : Array Value) (e' : TypeId),
    w.heap[loc.block]? = some (.cells c e' (0, 0)) ∧ c.size = loc.size ∧ (loc.base + cs.length ≤ loc.size ∧ (4294967296 ≤ e → loc.size = loc.base + cs.length)) ∧
    ∀ (k : Nat) v, cs[k]? = some v → ∃ x, c[loc.base + k]? = some x ∧ R w X β v x
  tok : ∀ (id : Nat) n sz (loc : Loc), H[id]? = some (.tok n sz) → β[id]? = some loc → loc.kind = true ∧ loc.n = n ∧ ∃ (c : Array Value) (e' : TypeId),
    w.heap[loc.block]? = some (.cells c e' (0, 0)) ∧ c.size = loc.size
  disj : ∀ (i j : Nat) (l l' : Loc), live H i → live H j → β[i]? = some l → β[j]? = some l' → l.block = l'.block → i = j

structure Step (E : Nat → Nat → Prop) (H : List O) (β : List Loc) (w : World) (H' : List O) (β' : List Loc) (w' : World) : Prop where
  rel : Rel w' (Xs E H' β') H' β'
  os : w'.os = w.os
  tape : w'.tape = w.tape
  output : w'.output = w.output
  size : w.heap.size ≤ w'.heap.size
  pres : ∀ (b : Nat), b < w.heap.size → w'.heap[b]? = w.heap[b]? ∨ ((∃ o, Own H β b o) ∧ ∃ (c c' : Array Value) (e : TypeId), w.heap[b]? = some (.cells c e (0, 0)) ∧
    w'.heap[b]? = some (.cells c' e (0, 0)) ∧ c'.size = c.size ∧ ∀ (o : Nat), ¬ Own H β b o → c'[o]? = c[o]?)
  own : ∀ b o, Own H' β' b o → Own H β b o ∨ w.heap.size ≤ b
  locs : LocLe β β'

theorem cell_lt {w : World} {b o : Nat} {v : Value} (h : w.cell? ⟨b, o, none⟩ = some v) : b < w.heap.size := block_lt_of_cell h

theorem Step.stab {E H β w H' β' w'} (s : Step E H β w H' β' w') : Stab w (Xs E H β) w' (Xs E H' β') := by
  constructor
  · intro b o v hx hv
    have hlt := cell_lt hv
    have hE : ¬ E b o := fun h => hx (.inl h)
    have hO : ¬ Own H β b o := fun h => hx (.inr h)
    refine ⟨fun h => ?_, ?_⟩
    · rcases h with h | h
      · exact hE h
      · rcases s.own b o h with h | h
        · exact hO h
        · omega
    · rcases s.pres b hlt with h | ⟨_, c, c', e, h1, h2, _, h4⟩
      · unfold World.cell? at hv ⊢; rw [h]; exact hv
      · rw [cell_of_row w b o c e (0, 0) h1] at hv
        rw [cell_of_row w' b o c' e (0, 0) h2, h4 o hO, hv]
  · intro b cs e h
    have hlt : b < w.heap.size := by
      rcases Nat.lt_or_ge b w.heap.size with h' | h'
      · exact h'
      · simp [Array.getElem?_eq_none h'] at h
    rcases s.pres b hlt with h' | ⟨_, c, c', e', h1, h2, _⟩
    · exact ⟨cs, e, by rw [h', h]⟩
    · exact ⟨c', e', h2⟩

theorem Step.keepR {E H β w H' β' w' v x} (s : Step E H β w H' β' w') (h : R w (Xs E H β) β v x) : R w' (Xs E H' β') β' v x := h.stab s.stab β' s.locs

theorem Step.refl {E H β w} (h : Rel w (Xs E H β) H β) : Step E H β w H β w :=
  ⟨h, rfl, rfl, rfl, Nat.le_refl _, fun _ _ => .inl rfl, fun _ _ h => .inl h, .refl _⟩

theorem Step.trans {E H β w H' β' w' H'' β'' w''} (s : Step E H β w H' β' w') (t : Step E H' β' w' H'' β'' w'') : Step E H β w H'' β'' w'' := by
  refine ⟨t.rel, t.os.trans s.os, t.tape.trans s.tape, t.output.trans s.output, Nat.le_trans s.size t.size, fun b hb => ?_, fun b o h => ?_, s.locs.trans t.locs⟩
  · have hown : ∀ o, Own H' β' b o → Own H β b o := fun o h => by
      rcases s.own b o h with h | h
      · exact h
      · omega
    rcases t.pres b (Nat.lt_of_lt_of_le hb s.size) with h | ⟨⟨o, ho⟩, c, c', e, h1, h2, h3, h4⟩
    · rcases s.pres b hb with g | ⟨g0, c, c', e, g1, g2, g3, g4⟩
      · exact .inl (h.trans g)
      · exact .inr ⟨g0, c, c', e, g1, h.trans g2, g3, g4⟩
    · refine .inr ⟨⟨o, hown o ho⟩, ?_⟩
      rcases s.pres b hb with g | ⟨_, d, d', e', g1, g2, g3, g4⟩
      · exact ⟨c, c', e, g ▸ h1, h2, h3, fun o ho => h4 o (fun h => ho (hown o h))⟩
      · rw [g2] at h1
        simp only [Option.some.injEq, Obj.cells.injEq, and_true] at h1
        obtain ⟨rfl, rfl⟩ := h1
        exact ⟨d, c', e', g1, h2, h3.trans g3, fun o ho => (h4 o (fun h => ho (hown o h))).trans (g4 o ho)⟩
  · rcases t.own b o h with h | h
    · rcases s.own b o h with h | h
      · exact .inl h
      · exact .inr h
    · exact .inr (Nat.le_trans s.size h)

/-- The frame: what is known of the slots. -/
structure FR (w : World) (X : Nat → Nat → Prop) (β : List Loc) (n : Nat) (t : T) (a : Act) : Prop where
  size : a.tmps.size = n
  slot : ∀ d, R w X β (get d t) (a.tmps.getD d undef)

theorem FR.step {E H β w H' β' w' n t a} (s : Step E H β w H' β' w') (h : FR w (Xs E H β) β n t a) : FR w' (Xs E H' β') β' n t a :=
  ⟨h.size, fun d => s.keepR (h.slot d)⟩

theorem nbeq_ne {d e : Nat} (h : ¬ d = e) : Nat.beq d e = false := by
  cases hh : Nat.beq d e
  · rfl
  · exact absurd (Nat.eq_of_beq_eq_true hh) h

theorem get_put (d e : Nat) (v : V) (t : T) : get d (put e v t) = if d = e then v else get d t := by
  induction t with
  | nil =>
    simp only [put, get]
    by_cases h : d = e
    · simp [h]
    · simp [h, nbeq_ne h]
  | cons p r ih =>
    obtain ⟨f, u⟩ := p
    unfold put
    cases hb : Nat.blt e f
    · cases hq : Nat.beq e f
      · simp only [cond_false, get, ih]
        by_cases h : d = e
        · subst h
          simp [hq]
        · simp [h]
      · have : e = f := Nat.eq_of_beq_eq_true hq
        subst this
        simp only [cond_true, cond_false, get]
        by_cases h : d = e
        · simp [h]
        · have : Nat.beq d e = false := by cases hh : Nat.beq d e; rfl; exact absurd (Nat.eq_of_beq_eq_true hh) h
          simp [h, this]
    · simp only [cond_true, get]
      by_cases h : d = e
      · simp [h]
      · have : Nat.beq d e = false := by cases hh : Nat.beq d e; rfl; exact absurd (Nat.eq_of_beq_eq_true hh) h
        simp [h, this]

theorem get_keep (l : List Nat) (d : Nat) (t : T) : get d (keep l t) = get d t ∨ get d (keep l t) = .any := by
  induction t with
  | nil => exact .inl rfl
  | cons p r ih =>
    obtain ⟨e, u⟩ := p
    unfold keep
    cases h : hasN e l
    · simp only [cond_false, get]
      cases hq : Nat.beq d e
      · simpa using ih
      · right
        have : d = e := Nat.eq_of_beq_eq_true hq
        subst this
        -- not among the kept
        clear ih hq u
        induction r with
        | nil => rfl
        | cons q r ih =>
          obtain ⟨f, u⟩ := q
          unfold keep
          cases h' : hasN f l
          · simpa using ih
          · simp only [cond_true, get]
            cases hq : Nat.beq d f
            · simpa using ih
            · have : d = f := Nat.eq_of_beq_eq_true hq
              subst this
              rw [h] at h'; cases h'
    · simp only [cond_true, get]
      cases hq : Nat.beq d e
      · simpa using ih
      · simp

theorem FR.keep {w X β n t a} (l : List Nat) (h : FR w X β n t a) : FR w X β n (keep l t) a :=
  ⟨h.size, fun d => by rcases get_keep l d t with e | e <;> rw [e]; exact h.slot d; exact .any _ _⟩

theorem FR.put {w X β n t a d v x} (h : FR w X β n t a) (hd : d < n) (hv : R w X β v x) : FR w X β n (put d v t) { a with tmps := a.tmps.setIfInBounds d x } := by
  refine ⟨by simp [h.size], fun e => ?_⟩
  rw [get_put]
  by_cases he : e = d
  · subst he
    have : e < a.tmps.size := by rw [h.size]; exact hd
    simp [Array.getD_eq_getD_getElem?, this, hv]
  · have hs := h.slot e
    simp only [he, if_false]
    simpa [Array.getD_eq_getD_getElem?, Array.getElem?_setIfInBounds, Ne.symm he] using hs

end Go.Ab
