/-
  The engine, part Z: from a function's contract to the given statement of a law. Conditions: arguments are numbers, bools, strings, structs of these, or slices of such.
-/
import Derived.Test.YtmbbnhcbphkniaaGreatDoorPk10
import Derived.ProofKit
import Derived.Deep.Slices
import Derived.OpenShut
import Derived.Test.YtmbbnhcbphkniaaGreatDoorProg
set_option linter.unusedVariables false
set_option linter.unusedSimpArgs false
namespace Go.Ab
open Go.ChangeShapes Go.WideShapes Go.ChangeAt Go.RowKit
def arrFs (P : Program) (n : Nat) (e : TypeId) : List Field := (List.range n).map fun i => { name := "", type := e, offset := i * P.cellsOf e, embedded := false, tag := "", pkgPath := "", byteOffset := 0 }
mutual
def lay (P : Program) : Nat → TypeId → Option EC
  | 0, _ => none
  | d + 1, t => match P.underlying t with
    | some (.int k) => some (.int k)
    | some .bool => some .bool
    | some .string => some .str
    | some (.struct fs) => match layF P d 0 fs.toList with
      | some cs => if P.cellsOf t = EC.sizes cs then some (.prod cs) else none
      | none => none
    | some (.array n e) => match layF P d 0 (arrFs P n e) with
      | some cs => if P.cellsOf t = EC.sizes cs then some (.prod cs) else none
      | none => none
    | _ => none
def layF (P : Program) : Nat → Nat → List Field → Option (List EC)
  | 0, _, _ => none
  | _ + 1, _, [] => some []
  | d + 1, off, f :: r => match lay P d f.type with
    | some c => if f.offset = off ∧ P.cellsOf f.type = c.size then (layF P d (off + c.size) r).map (c :: ·) else none
    | none => none
end
def layP (P : Program) (t : TypeId) : Option EC :=
  match P.underlying t with
  | some (.slice e) => match lay P 80 e with
    | some c => if P.cellsOf e = c.size ∧ 0 < c.size then some (.sl c) else none
    | none => none
  | _ => lay P 80 t
mutual
def okE : (c : EC) → c.ty → Prop
  | .int k, (n : Int) => k.has n
  | .bool, _ => True
  | .str, (s : List UInt8) => s.length ≤ maxLen
  | .sl _, none => True
  | .sl c, some l => l.length ≤ maxLen ∧ ∀ x ∈ l, okE c x
  | .prod cs, x => okEs cs x
def okEs : (cs : List EC) → EC.tys cs → Prop
  | [], _ => True
  | [c], x => okE c x
  | c :: d :: cs, x => okE c x.1 ∧ okEs (d :: cs) x.2
end
def argV : (c : EC) → c.ty → V
  | .int k, n => .int k n
  | .bool, b => .bool b
  | .str, s => .str s
  | .sl c, o => .sl c (o.getD []) [] .may
  | .prod cs, x => .agg (encs cs x)
def argVs : (cs : List EC) → EC.tys cs → List V
  | [], _ => []
  | [c], x => [argV c x]
  | c :: d :: cs, x => argV c x.1 :: argVs (d :: cs) x.2
section
variable {H : Type} {en : TypeId × Value → H} {P : Program} {w : World} {base : Nat} {sp : Nat → Bool} {hd : Bool} {X : Nat → Nat → Prop}
theorem wf_has {k : IntKind} {n : Int} (h : (Lit.int k n).wf = true) : k.has n := by
  simpa [Lit.wf, IntKind.has] using h
theorem take_get {α : Type} {l : List α} {off n k : Nat} {z : α} (h : ((l.drop off).take n)[k]? = some z) : l[off + k]? = some z := by
  rw [List.getElem?_take] at h
  split at h
  · rwa [List.getElem?_drop] at h
  · cases h
mutual
theorem trod_lay : ∀ (d : Nat) (t : TypeId) (c : EC) (fuel : Nat) (cs : List Value) (y : DataW H × List MemPlace), lay P d t = some c → DataW.trod en P w base sp hd fuel t cs = some y →
    ∃ x : c.ty, okE c x ∧ ∀ (k : Nat) v, (enc c x)[k]? = some v → ∃ z, cs[k]? = some z ∧ R w X [] v z
  | 0, t, c, fuel, cs, y, hl, ht => by simp [lay] at hl
  | d + 1, t, c, fuel, cs, y, hl, ht => by
    unfold lay at hl
    split at hl
    · rename_i k hu
      simp only [Option.some.injEq] at hl
      subst hl
      obtain ⟨n, rfl, _, hw⟩ := DataW.trod_int hu ht
      refine ⟨(n : Int), wf_has hw, ?_⟩
      intro k v hv
      match k, hv with
      | 0, hv =>
        simp only [enc, List.getElem?_cons_zero, Option.some.injEq] at hv
        subst hv
        exact ⟨_, rfl, .int _ _ _⟩
    · rename_i hu
      simp only [Option.some.injEq] at hl
      subst hl
      obtain ⟨b, rfl, _⟩ := DataW.trod_bool hu ht
      refine ⟨(b : Bool), trivial, ?_⟩
      intro k v hv
      match k, hv with
      | 0, hv =>
        simp only [enc, List.getElem?_cons_zero, Option.some.injEq] at hv
        subst hv
        exact ⟨_, rfl, .bool _ _⟩
    · rename_i hu
      simp only [Option.some.injEq] at hl
      subst hl
      obtain ⟨s, rfl, _, hs⟩ := DataW.trod_string hu ht
      refine ⟨(s.data.toList : List UInt8), by simpa [okE] using hs, ?_⟩
      intro k v hv
      match k, hv with
      | 0, hv =>
        simp only [enc, List.getElem?_cons_zero, Option.some.injEq] at hv
        subst hv
        refine ⟨_, rfl, ?_⟩
        have := R.str (w := w) (X := X) [] s.data.toList
        simpa using this
    · rename_i fs hu
      split at hl
      rotate_left
      · cases hl
      rename_i cs' hcs'
      split at hl
      rotate_left
      · cases hl
      simp only [Option.some.injEq] at hl
      subst hl
      obtain ⟨xs, n, _, _, hlen, hxs, hf⟩ := DataW.trod_struct hu ht
      obtain ⟨x, h1, h2⟩ := trod_layF d 0 fs.toList cs' n cs hcs' (fun f hf' => by
        obtain ⟨i, hi, hfi⟩ := List.getElem_of_mem hf'
        have h1 := hf i f (by simp at hi; rw [Array.getElem?_eq_getElem hi]; simpa using hfi)
        rw [List.getElem?_eq_getElem (by simp at hi; omega)] at h1
        exact ⟨_, h1⟩)
      exact ⟨x, by simpa [okE] using h1, fun k v hv => by simpa using h2 k v (by simpa [enc] using hv)⟩
    · rename_i n e hu
      split at hl
      rotate_left
      · cases hl
      rename_i cs' hcs'
      split at hl
      rotate_left
      · cases hl
      simp only [Option.some.injEq] at hl
      subst hl
      obtain ⟨xs, m, _, _, hlen, hxs, hf⟩ := DataW.trod_array hu ht
      obtain ⟨x, h1, h2⟩ := trod_layF d 0 (arrFs P n e) cs' m cs hcs' (fun f hf' => by
        obtain ⟨i, hi, rfl⟩ := List.mem_map.1 hf'
        have hi : i < n := List.mem_range.1 hi
        have h1 := hf i hi
        rw [List.getElem?_eq_getElem (by omega)] at h1
        exact ⟨_, h1⟩)
      exact ⟨x, by simpa [okE] using h1, fun k v hv => by simpa using h2 k v (by simpa [enc] using hv)⟩
    · cases hl
theorem trod_layF : ∀ (d off : Nat) (fs : List Field) (cs' : List EC) (n : Nat) (cs : List Value), layF P d off fs = some cs' →
    (∀ f ∈ fs, ∃ y, DataW.trod en P w base sp hd n f.type ((cs.drop f.offset).take (P.cellsOf f.type)) = some y) →
    ∃ x : EC.tys cs', okEs cs' x ∧ ∀ (k : Nat) v, (encs cs' x)[k]? = some v → ∃ z, cs[off + k]? = some z ∧ R w X [] v z
  | 0, off, fs, cs', n, cs, hl, h => by simp [layF] at hl
  | d + 1, off, [], cs', n, cs, hl, h => by
    simp only [layF, Option.some.injEq] at hl
    subst hl
    exact ⟨(), trivial, fun k v hv => by simp [encs] at hv⟩
  | d + 1, off, f :: r, cs', n, cs, hl, h => by
    unfold layF at hl
    split at hl
    rotate_left
    · cases hl
    rename_i c hc
    split at hl
    rotate_left
    · cases hl
    rename_i ho
    obtain ⟨ho, hz⟩ := ho
    obtain ⟨ds, hds, rfl⟩ := Option.map_eq_some_iff.1 hl
    obtain ⟨y, hy⟩ := h f List.mem_cons_self
    obtain ⟨x1, a1, a2⟩ := trod_lay d f.type c n _ y hc hy
    obtain ⟨x2, b1, b2⟩ := trod_layF d (off + c.size) r ds n cs hds (fun g hg => h g (List.mem_cons_of_mem _ hg))
    have hfirst : ∀ (k : Nat) v, (enc c x1)[k]? = some v → ∃ z, cs[off + k]? = some z ∧ R w X [] v z := fun k v hv => by
      obtain ⟨z, hz, hr⟩ := a2 k v hv
      rw [ho] at hz
      exact ⟨z, take_get hz, hr⟩
    match ds, x2, b1, b2 with
    | [], _, _, _ => exact ⟨x1, by simpa [okEs] using a1, fun k v hv => hfirst k v (by simpa [encs] using hv)⟩
    | e :: es, x2, b1, b2 =>
      refine ⟨(x1, x2), by simpa [okEs] using ⟨a1, b1⟩, fun k v hv => ?_⟩
      simp only [encs] at hv
      by_cases hk : k < (enc c x1).length
      · rw [List.getElem?_append_left hk] at hv
        exact hfirst k v hv
      · rw [List.getElem?_append_right (by omega)] at hv
        rw [enc_size] at hv hk
        obtain ⟨z, hz, hr⟩ := b2 (k - c.size) v hv
        rw [show off + c.size + (k - c.size) = off + k from by omega] at hz
        exact ⟨z, hz, hr⟩
end
theorem choose_lt' {α : Type} [Inhabited α] {p : Nat → α → Prop} {m : Nat} (h : ∀ i, i < m → ∃ x, p i x) : ∃ f : Nat → α, ∀ i, i < m → p i (f i) := by
  refine ⟨fun i => if hi : i < m then Classical.choose (h i hi) else default, fun i hi => ?_⟩
  simp only [hi, dif_pos]
  exact Classical.choose_spec (h i hi)
instance (c : EC) : Inhabited c.ty := ⟨c.dflt⟩
theorem flat_not_sl {d : Nat} {t : TypeId} {c : EC} (h : lay P d t = some (.sl c)) : False := by
  cases d with
  | zero => simp [lay] at h
  | succ d =>
    unfold lay at h
    split at h
    all_goals first | (simp at h; done) | skip
    all_goals (repeat' (split at h))
    all_goals first | (cases h; done) | (simp at h; done)
theorem cells_one {t : TypeId} {c : EC} {v : Value} {r : Reach} (hl : lay P 80 t = some c) (hv : Value.okWide P w r base t v) (hc : ∀ cs, c ≠ .prod cs) : v.cells = #[v] := by
  unfold lay at hl
  unfold Value.okWide at hv
  split at hl
  · rename_i k hu
    simp only [hu] at hv
    simp only [Cell.okWide, hu, Cell.ok] at hv
    cases v <;> first | rfl | (simp at hv; done)
  · rename_i hu
    simp only [hu] at hv
    simp only [Cell.okWide, hu, Cell.ok] at hv
    cases v <;> first | rfl | (simp at hv; done)
  · rename_i hu
    simp only [hu] at hv
    simp only [Cell.okWide, hu, Cell.ok] at hv
    cases v <;> first | rfl | (simp at hv; done)
  · split at hl
    rotate_left
    · cases hl
    split at hl
    rotate_left
    · cases hl
    simp only [Option.some.injEq] at hl
    exact absurd hl.symm (hc _)
  · split at hl
    rotate_left
    · cases hl
    split at hl
    rotate_left
    · cases hl
    simp only [Option.some.injEq] at hl
    exact absurd hl.symm (hc _)
  · cases hl
theorem cells_agg {t : TypeId} {cs : List EC} {v : Value} {r : Reach} (hl : lay P 80 t = some (.prod cs)) (hv : Value.okWide P w r base t v) : ∃ xs : Array Value, v = .agg xs ∧ xs.size = EC.sizes cs := by
  unfold lay at hl
  unfold Value.okWide at hv
  split at hl
  · simp at hl
  · simp at hl
  · simp at hl
  · rename_i fs hu
    simp only [hu] at hv
    split at hl
    rotate_left
    · cases hl
    split at hl
    rotate_left
    · cases hl
    rename_i hsz
    simp only [Option.some.injEq, EC.prod.injEq] at hl
    subst hl
    obtain ⟨xs, rfl, h1, _⟩ := hv
    exact ⟨xs, rfl, by rw [h1, hsz]⟩
  · rename_i n e hu
    simp only [hu] at hv
    split at hl
    rotate_left
    · cases hl
    split at hl
    rotate_left
    · cases hl
    rename_i hsz
    simp only [Option.some.injEq, EC.prod.injEq] at hl
    subst hl
    obtain ⟨xs, rfl, h1, _⟩ := hv
    exact ⟨xs, rfl, by rw [h1, hsz]⟩
  · cases hl
theorem okWide_sl {t e : TypeId} {v : Value} {r : Reach} (hu : P.underlying t = some (.slice e)) (hv : Value.okWide P w r base t v) :
    v = .slice none 0 0 ∨ ∃ b o len cap, v = .slice (some ⟨b, o, none⟩) len cap := by
  unfold Value.okWide at hv
  simp only [hu] at hv
  cases v
  case slice a len cap =>
    cases a with
    | none =>
      simp only [Cell.okWide, hu, Cell.ok] at hv
      split at hv
      all_goals first | (simp_all; done) | skip
    | some a =>
      simp only [Cell.okWide, hu, Cell.ok] at hv
      obtain ⟨_, _, _, hs, _⟩ := hv
      obtain ⟨b, o, s⟩ := a
      simp only at hs
      subst hs
      exact .inr ⟨b, o, len, cap, rfl⟩
  all_goals simp [Cell.okWide, hu, Cell.ok] at hv
theorem arg_R {t : TypeId} {c : EC} {v : Value} {d : DataW H} {ps : List MemPlace} {r : Reach} (hl : layP P t = some c) (hv : Value.okWide P w r base t v)
    (ht : DataW.Trod en P w 0 sp hd t v d ps) : ∃ x : c.ty, okE c x ∧ R w (fun _ _ => False) [] (argV c x) v := by
  obtain ⟨fuel, ht⟩ := ht
  unfold layP at hl
  split at hl
  · rename_i e hu
    split at hl
    rotate_left
    · cases hl
    rename_i c' hc'
    split at hl
    rotate_left
    · cases hl
    rename_i hsz
    simp only [Option.some.injEq] at hl
    subst hl
    rcases okWide_sl hu hv with rfl | ⟨b, o, len, cap, rfl⟩
    · exact ⟨(none : Option (List c'.ty)), trivial, .nil _ _⟩
    · rcases Go.Deep.open_slice hu ht with ⟨h0, _⟩ | ⟨a, len', cap', m, n, D, Pl, hcs, _, hle, hmax, hm, _, hx⟩
      · simp [Value.cells] at h0
      simp only [Value.cells, List.cons.injEq, Value.slice.injEq, Option.some.injEq, and_true] at hcs
      obtain ⟨rfl, rfl, rfl⟩ := hcs
      have hlm : len ≤ m := by rw [hm]; split <;> omega
      have hel : ∀ i, i < len → ∃ x : c'.ty, okE c' x ∧ ∀ (k : Nat) v, (enc c' x)[k]? = some v → ∃ z, w.cell? ⟨b, o + i * c'.size + k, none⟩ = some z ∧ R w (fun _ _ => False) [] v z := by
        intro i hi
        obtain ⟨cs', h1, h2⟩ := hx i (by omega)
        obtain ⟨x, x1, x2⟩ := trod_lay (X := fun _ _ => False) 80 e c' n cs' _ hc' h2
        obtain ⟨_, hlen, hcell⟩ := World.cells?_some h1
        refine ⟨x, x1, fun k v hv => ?_⟩
        obtain ⟨z, hz, hr⟩ := x2 k v hv
        refine ⟨z, ?_, hr⟩
        have hk : k < P.cellsOf e := by
          rw [← hlen]
          exact (List.getElem?_eq_some_iff.1 hz).1
        have := hcell k hk
        rw [hz, add_plain, add_plain, hsz.1] at this
        exact this
      obtain ⟨f, hf⟩ := choose_lt' hel
      have hg : ∀ i k, i < len → k < c'.size → ∃ z, w.cell? ⟨b, o + i * c'.size + k, none⟩ = some z := fun i k hi hk => by
        obtain ⟨z, hz, _⟩ := (hf i hi).2 k _ (List.getElem?_eq_getElem (by rw [enc_size]; exact hk))
        exact ⟨z, hz⟩
      refine ⟨(some ((List.range len).map f) : Option (List c'.ty)), ⟨by simp; omega, fun x hx => ?_⟩, ?_⟩
      · obtain ⟨i, hi, rfl⟩ := List.mem_map.1 hx
        exact (hf i (List.mem_range.1 hi)).1
      · have := R.sl (w := w) (X := fun _ _ => False) [] c' ((List.range len).map f) [] .may b o cap (fun i k => (w.cell? ⟨b, o + i * c'.size + k, none⟩).getD undef)
          (by simp; omega) (fun h => by cases h) (fun h => by cases h) (fun i k hi hk => ⟨fun h => h, by
            obtain ⟨z, hz⟩ := hg i k (by simpa using hi) hk
            rw [hz]; rfl⟩) (fun i x k v h1 h2 => by
            simp only [List.append_nil, List.getElem?_map, Option.map_eq_some_iff] at h1
            obtain ⟨j, hj, rfl⟩ := h1
            obtain ⟨hj1, hj2⟩ := List.getElem?_eq_some_iff.1 hj
            simp only [List.length_range] at hj1
            simp only [List.getElem_range] at hj2
            subst hj2
            obtain ⟨z, hz, hr⟩ := (hf i hj1).2 k v h2
            rw [hz]; exact hr)
        simp only [List.length_map, List.length_range] at this
        exact this
  · cases c with
    | prod cs =>
      obtain ⟨xs, rfl, hsz⟩ := cells_agg hl hv
      obtain ⟨x, x1, x2⟩ := trod_lay (X := fun _ _ => False) 80 t _ fuel _ _ hl ht
      refine ⟨x, x1, ?_⟩
      have := R.agg (w := w) (X := fun _ _ => False) [] (encs cs x) xs.toList (by rw [show (encs cs x).length = EC.sizes cs from enc_size (.prod cs) x]; simpa using hsz) (fun k v y h1 h2 => by
        obtain ⟨z, hz, hr⟩ := x2 k v (by simpa [enc] using h1)
        simp only [Value.cells] at hz
        rw [hz] at h2
        simp only [Option.some.injEq] at h2
        subst h2
        exact hr)
      simpa [argV] using this
    | sl c => exact (flat_not_sl hl).elim
    | int k =>
      have hc := cells_one hl hv (by simp)
      obtain ⟨x, x1, x2⟩ := trod_lay (X := fun _ _ => False) 80 t _ fuel _ _ hl ht
      obtain ⟨z, hz, hr⟩ := x2 0 _ rfl
      simp only [hc, List.getElem?_cons_zero, Option.some.injEq] at hz
      subst hz
      exact ⟨x, x1, hr⟩
    | bool =>
      have hc := cells_one hl hv (by simp)
      obtain ⟨x, x1, x2⟩ := trod_lay (X := fun _ _ => False) 80 t _ fuel _ _ hl ht
      obtain ⟨z, hz, hr⟩ := x2 0 _ rfl
      simp only [hc, List.getElem?_cons_zero, Option.some.injEq] at hz
      subst hz
      exact ⟨x, x1, hr⟩
    | str =>
      have hc := cells_one hl hv (by simp)
      obtain ⟨x, x1, x2⟩ := trod_lay (X := fun _ _ => False) 80 t _ fuel _ _ hl ht
      obtain ⟨z, hz, hr⟩ := x2 0 _ rfl
      simp only [hc, List.getElem?_cons_zero, Option.some.injEq] at hz
      subst hz
      exact ⟨x, x1, hr⟩
theorem okWide_of_get {ts : List TypeId} {vs : List Value} {t : TypeId} {v : Value} {r : Reach} (h : ∀ (j : Nat) t' v', (t :: ts)[j]? = some t' → (v :: vs)[j]? = some v' → Value.okWide P w r base t' v') :
    Value.okWide P w r base t v ∧ ∀ (j : Nat) t' v', ts[j]? = some t' → vs[j]? = some v' → Value.okWide P w r base t' v' :=
  ⟨h 0 t v rfl rfl, fun j t' v' h1 h2 => h (j + 1) t' v' (by simpa using h1) (by simpa using h2)⟩
def layPs (P : Program) : List TypeId → Option (List EC)
  | [] => some []
  | t :: r => match layP P t, layPs P r with
    | some c, some cs => some (c :: cs)
    | _, _ => none
theorem args_R {r : Reach} : ∀ {ts : List TypeId} {cs : List EC} {vs : List Value} {ds : List (DataW H)} {ps : List MemPlace}, layPs P ts = some cs →
    (∀ (j : Nat) t v, ts[j]? = some t → vs[j]? = some v → Value.okWide P w r base t v) → DataW.TrodAll en P w 0 sp hd ts vs ds ps →
    ∃ x : EC.tys cs, okEs cs x ∧ vs.length = (argVs cs x).length ∧ ds.length = ts.length ∧ ∀ (k : Nat) v z, (argVs cs x)[k]? = some v → vs[k]? = some z → R w (fun _ _ => False) [] v z
  | [], cs, vs, ds, ps, hl, hv, ht => by
    simp only [layPs, Option.some.injEq] at hl
    subst hl
    obtain ⟨rfl, rfl, rfl⟩ := trodAll_nil ht
    exact ⟨(), trivial, rfl, rfl, fun k v z h => by simp [argVs] at h⟩
  | t :: ts, cs, vs, ds, ps, hl, hv, ht => by
    unfold layPs at hl
    split at hl
    rotate_left
    · cases hl
    rename_i c cs' hc hcs
    simp only [Option.some.injEq] at hl
    subst hl
    obtain ⟨v, vs', d, ds', p, q, rfl, rfl, rfl, h1, h2⟩ := trodAll_cons ht
    obtain ⟨g1, g2⟩ := okWide_of_get hv
    obtain ⟨x1, a1, a2⟩ := arg_R hc g1 h1
    obtain ⟨x2, b1, b2, b3, b4⟩ := args_R hcs g2 h2
    match cs', x2, b1, b2, b4 with
    | [], x2, b1, b2, b4 =>
      refine ⟨x1, by simpa [okEs] using a1, by simpa [argVs] using b2, by simp [b3], fun k u z hu hz => ?_⟩
      match k, hu, hz with
      | 0, hu, hz =>
        simp only [argVs, List.getElem?_cons_zero, Option.some.injEq] at hu hz
        subst hu; subst hz
        exact a2
    | e :: es, x2, b1, b2, b4 =>
      refine ⟨(x1, x2), by simpa [okEs] using ⟨a1, b1⟩, by simpa [argVs] using b2, by simp [b3], fun k u z hu hz => ?_⟩
      cases k with
      | zero =>
        simp only [argVs, List.getElem?_cons_zero, Option.some.injEq] at hu hz
        subst hu; subst hz
        exact a2
      | succ k => exact b4 k u z (by simpa [argVs] using hu) (by simpa using hz)
def readable (P : Program) (ts : List TypeId) : Bool := ts.all fun t => P.readableRec t && decide (t < P.types.size)
theorem args_stay {W W' : World} (hlaid : laidOutB P = true) (hb : Below W.heap.size W W') : ∀ {ts : List TypeId} {vs : List Value} {ds : List (DataW H)} {ps : List MemPlace}, readable P ts = true →
    DataW.TrodAll en P W 0 (fun _ => true) true ts vs ds ps → (∀ x ∈ ps, x.block < W.heap.size) → DataW.TrodAll en P W' 0 (fun b => decide (b < W.heap.size)) true ts vs ds ps
  | [], vs, ds, ps, _, ht, _ => by
    obtain ⟨rfl, rfl, rfl⟩ := trodAll_nil ht
    rfl
  | t :: ts, vs, ds, ps, hr, ht, hlt => by
    obtain ⟨v, vs', d, ds', p, q, rfl, rfl, rfl, h1, h2⟩ := trodAll_cons ht
    simp only [readable, List.all_cons, Bool.and_eq_true, decide_eq_true_eq] at hr
    exact ⟨p, q, Below.trod hlaid hr.1.1 hr.1.2 h1 hb (fun x hx => hlt x (by simp [hx])), args_stay hlaid hb (by simpa [readable] using hr.2) h2 (fun x hx => hlt x (by simp [hx])), rfl⟩
theorem below_step {W W' : World} (s : Step (fun _ _ => False) [] [] W [] [] W') : Below W.heap.size W W' :=
  ⟨s.os, s.tape, s.output, s.size, fun b hb => by
    rcases s.pres b hb with h | ⟨⟨o, h⟩, _⟩ | ⟨⟨o, h⟩, _⟩
    · exact h
    · exact absurd h (own_nil b o)
    · exact absurd h (own_nil b o)⟩
def resBool (P : Program) (ts : List TypeId) : Bool :=
  match ts with
  | [t] => match P.underlying t with
    | some .bool => true
    | _ => false
  | _ => false
theorem resBool_some {ts : Array TypeId} (h : resBool P ts.toList = true) : ∃ t, ts = #[t] ∧ P.underlying t = some .bool := by
  unfold resBool at h
  split at h
  · rename_i t ht
    split at h
    · rename_i hu
      exact ⟨t, by apply Array.ext'; simpa using ht, hu⟩
    · cases h
  · cases h
theorem law_contract {f : FuncId} {fn : Func} {s : ChangeSpec} {cs : List EC} {apart fresh handsOn : Bool} (hlaid : laidOutB P = true) (hts : layPs P fn.params.toList = some cs) (hrd : readable P fn.params.toList = true)
    (hrb : resBool P fn.resultTypes.toList = true) (hvars : s.vars = [])
    (hs : ∀ ds : List (DataW H), ds.length = fn.params.toList.length → s.fn H ds = { results := [.lit (.bool true)], args := ds })
    (hpc : ∀ x : EC.tys cs, okEs cs x → PCall P f (argVs cs x) (.bool true))
    (W : World) (base : Nat) (args : Array Value) (ds gs : List (DataW H)) (before : List MemPlace) (hG : Gs P W fun _ _ => False)
    (hval : ∀ (j : Nat) t v, fn.params[j]? = some t → args[j]? = some v → Value.okWide P W .any base t v)
    (hW : DataW.Whole en P fn.params.toList s.vars apart W args.toList ds gs before) :
    Calls P f args W fun e W' => ∃ v, e = .returned v ∧ s.post en P fn apart fresh handsOn false W args v W' := by
  have hW0 := hW
  obtain ⟨tb, hres, htb⟩ := resBool_some hrb
  obtain ⟨p, q, hA, hV, rfl, hfz, hnd⟩ := hW
  rw [hvars] at hV
  obtain ⟨rfl, rfl⟩ : gs = [] ∧ q = [] := by
    cases gs with
    | nil => exact ⟨rfl, hV⟩
    | cons g gs => exact hV.elim
  obtain ⟨x, x1, x2, x3, x4⟩ := args_R hts (fun j t v h1 h2 => hval j t v (by simpa using h1) (by simpa using h2)) hA
  have hlt := hW0.lt
  simp only [List.append_nil] at hlt hW0
  have := (hpc x x1).2 W (fun _ _ => False) args.toList ⟨fun _ _ h => h.elim, hG⟩ x2 x4
  simp only [Array.toArray_toList] at this
  refine this.mono ?_
  rintro e W' ⟨y, rfl, st, hr⟩
  have hb := below_step st
  cases hr
  refine ⟨_, rfl, ds, [], p, [], p, [], hW0, ?_, ?_, ?_, ?_, fun h => by cases h⟩
  · rw [List.append_nil, hs ds x3, hres]
    exact trodAll_mk1 (shut_bool htb true)
  · rw [List.append_nil, hs ds x3]
    exact args_stay hlaid hb hrd hA hlt
  · rw [List.append_nil, hs ds x3, hvars]
    rfl
  · exact hb.frame _
end
end Go.Ab

namespace Go.Ra
open Go Go.Ab Go.Proofs
theorem cx0_ok {cx : Cx} (h1 : cx.tab = []) (h2 : cx.mtab = []) (h3 : cx.rtab = [] := by rfl) (h4 : ∀ p ∈ cx.globs, p ∈ globsOf cx.P := by intro p h; cases h) : CxOk cx := by
  refine ⟨?_, ?_, ?_, h4⟩
  · rw [h1]; exact .nil _
  · rw [h2]; intro p h; cases h
  · rw [h3]; exact .nil _
theorem cx1_ok {cx : Cx} {t : List (Nat × Ab.Spec)} {m : List (Nat × MSpec)} (ht : TabOk cx.P t) (hm : MTabOk cx.P m) (h1 : cx.tab = t) (h2 : cx.mtab = m) (h3 : cx.rtab = [] := by rfl) (h4 : ∀ p ∈ cx.globs, p ∈ globsOf cx.P := by intro p h; cases h) : CxOk cx := by
  refine ⟨?_, ?_, ?_, h4⟩
  · rw [h1]; exact ht
  · rw [h2]; exact hm
  · rw [h3]; exact .nil _
theorem ok1 {P : Program} {f : Nat} {s : Ab.Spec} (h : Sound P f s) : TabOk P [(f, s)] := .cons h (.nil _)
abbrev numE : EC := .prod [.int .i8, .int .i8, .int .i8, .int .i8, .int .i32, .int .i32]
abbrev rowE : EC := .prod [.str, .int .u32, numE, numE, numE, numE, numE, .str]
abbrev NumT := Int × Int × Int × Int × Int × Int
abbrev RowT := List UInt8 × Int × NumT × NumT × NumT × NumT × NumT × List UInt8
noncomputable def cx193 : Cx := { P := Tryz.prog, n := 5, tab := [], mtab := [], refs := [], keeps := [0, 2] }
noncomputable def cx195 : Cx := { P := Tryz.prog, n := 11, tab := [], mtab := [], refs := [], keeps := [0, 1, 2, 6] }
noncomputable def cx196 : Cx := { P := Tryz.prog, n := 17, tab := [], mtab := [], refs := [], keeps := [0, 1, 2, 3, 4, 10] }
noncomputable def cx194 : Cx := { P := Tryz.prog, n := 29, tab := [], mtab := [], refs := [], keeps := [0, 1, 2, 4, 7, 8, 9, 10, 11], fuel := 10 }
noncomputable def regS : Ab.Spec := fun args => .req (Nat.ble args.length Tryz.f193.ntmps) (dfun cx193 Tryz.f193 args)
theorem regS_ok : Sound Tryz.prog 193 regS := sound_fun (cx := cx193) (fn := Tryz.f193) (cx0_ok rfl rfl) (by kernel_rfl) (by kernel_rfl)
noncomputable def countS : Ab.Spec := fun args => .req (Nat.ble args.length Tryz.f195.ntmps) (dfun cx195 Tryz.f195 args)
theorem countS_ok : Sound Tryz.prog 195 countS := sound_fun (cx := cx195) (fn := Tryz.f195) (cx0_ok rfl rfl) (by kernel_rfl) (by kernel_rfl)
noncomputable def stepS : Ab.Spec := fun args => .req (Nat.ble args.length Tryz.f196.ntmps) (dfun cx196 Tryz.f196 args)
theorem stepS_ok : Sound Tryz.prog 196 stepS := sound_fun (cx := cx196) (fn := Tryz.f196) (cx0_ok rfl rfl) (by kernel_rfl) (by kernel_rfl)
noncomputable def likeS : MSpec := fun args H => .req (Nat.ble args.length Tryz.f194.ntmps) (mfun cx194 Tryz.f194 args H)
theorem likeS_ok : MSound Tryz.prog 194 likeS := msound_fun (cx := cx194) (fn := Tryz.f194) (cx0_ok rfl rfl) (by kernel_rfl) (by kernel_rfl)
noncomputable def cx144 : Cx := { P := Tryz.prog, n := 107, tab := [(193, regS), (195, countS), (196, stepS)], mtab := [(194, likeS)], refs := [], keeps := [0, 2, 3, 4] }
noncomputable def cx145 : Cx := { P := Tryz.prog, n := 95, tab := [(193, regS), (195, countS), (196, stepS)], mtab := [(194, likeS)], refs := [], keeps := [0, 2, 3] }
noncomputable def sumsS : MSpec := fun args H => .req (Nat.ble args.length Tryz.f144.ntmps) (mfun cx144 Tryz.f144 args H)
theorem sumsS_ok : MSound Tryz.prog 144 sumsS := msound_fun (cx := cx144) (fn := Tryz.f144) (cx1_ok (.cons regS_ok (.cons countS_ok (.cons stepS_ok (.nil _)))) (.cons likeS_ok fun p h => by cases h) rfl rfl) (by kernel_rfl) (by kernel_rfl)
noncomputable def othersS : MSpec := fun args H => .req (Nat.ble args.length Tryz.f145.ntmps) (mfun cx145 Tryz.f145 args H)
theorem othersS_ok : MSound Tryz.prog 145 othersS := msound_fun (cx := cx145) (fn := Tryz.f145) (cx1_ok (.cons regS_ok (.cons countS_ok (.cons stepS_ok (.nil _)))) (.cons likeS_ok fun p h => by cases h) rfl rfl) (by kernel_rfl) (by kernel_rfl)
noncomputable def cx107 : Cx := { P := Tryz.prog, n := 6, tab := [], mtab := [(144, sumsS), (145, othersS)], refs := [], keeps := [0, 1] }
@[irreducible] def rowsL : List RowT := [
  ([109, 111, 118, 110], 2457862144, (0, 5, 1, 1, 0, 31), (0, 0, 0, 0, 0, 0), (0, 0, 0, 0, 0, 0), (21, 2, 1, 1, 0, 3), (5, 16, 1, 1, 0, 65535), [65, 105, 115]),
  ([109, 111, 118, 122], 3531603968, (0, 5, 1, 1, 0, 31), (0, 0, 0, 0, 0, 0), (0, 0, 0, 0, 0, 0), (21, 2, 1, 1, 0, 3), (5, 16, 1, 1, 0, 65535), [65, 105, 115]),
  ([109, 111, 118, 107], 4068474880, (0, 5, 1, 1, 0, 31), (0, 0, 0, 0, 0, 0), (0, 0, 0, 0, 0, 0), (21, 2, 1, 1, 0, 3), (5, 16, 1, 1, 0, 65535), [65, 105, 115]),
  ([97, 100, 100, 46, 105], 2432696320, (0, 5, 1, 1, 0, 31), (5, 5, 1, 1, 0, 31), (0, 0, 0, 0, 0, 0), (22, 1, 1, 1, 0, 1), (10, 12, 1, 1, 0, 4095), [65, 66, 105, 115]),
  ([97, 100, 100, 115, 46, 105], 2969567232, (0, 5, 1, 1, 0, 31), (5, 5, 1, 1, 0, 31), (0, 0, 0, 0, 0, 0), (22, 1, 1, 1, 0, 1), (10, 12, 1, 1, 0, 4095), [65, 66, 105, 115]),
  ([115, 117, 98, 46, 105], 3506438144, (0, 5, 1, 1, 0, 31), (5, 5, 1, 1, 0, 31), (0, 0, 0, 0, 0, 0), (22, 1, 1, 1, 0, 1), (10, 12, 1, 1, 0, 4095), [65, 66, 105, 115]),
  ([115, 117, 98, 115, 46, 105], 4043309056, (0, 5, 1, 1, 0, 31), (5, 5, 1, 1, 0, 31), (0, 0, 0, 0, 0, 0), (22, 1, 1, 1, 0, 1), (10, 12, 1, 1, 0, 4095), [65, 66, 105, 115]),
  ([97, 100, 100], 2332033024, (0, 5, 1, 1, 0, 31), (5, 5, 1, 1, 0, 31), (16, 5, 1, 1, 0, 31), (10, 6, 1, 1, 0, 63), (0, 0, 0, 0, 0, 0), [65, 66, 67, 115]),
  ([97, 100, 100, 115], 2868903936, (0, 5, 1, 1, 0, 31), (5, 5, 1, 1, 0, 31), (16, 5, 1, 1, 0, 31), (10, 6, 1, 1, 0, 63), (0, 0, 0, 0, 0, 0), [65, 66, 67, 115]),
  ([115, 117, 98], 3405774848, (0, 5, 1, 1, 0, 31), (5, 5, 1, 1, 0, 31), (16, 5, 1, 1, 0, 31), (10, 6, 1, 1, 0, 63), (0, 0, 0, 0, 0, 0), [65, 66, 67, 115]),
  ([115, 117, 98, 115], 3942645760, (0, 5, 1, 1, 0, 31), (5, 5, 1, 1, 0, 31), (16, 5, 1, 1, 0, 31), (10, 6, 1, 1, 0, 63), (0, 0, 0, 0, 0, 0), [65, 66, 67, 115]),
  ([97, 110, 100], 2315255808, (0, 5, 1, 1, 0, 31), (5, 5, 1, 1, 0, 31), (16, 5, 1, 1, 0, 31), (10, 6, 1, 1, 0, 63), (0, 0, 0, 0, 0, 0), [65, 66, 67, 115]),
  ([111, 114, 114], 2852126720, (0, 5, 1, 1, 0, 31), (5, 5, 1, 1, 0, 31), (16, 5, 1, 1, 0, 31), (10, 6, 1, 1, 0, 63), (0, 0, 0, 0, 0, 0), [65, 66, 67, 115]),
  ([101, 111, 114], 3388997632, (0, 5, 1, 1, 0, 31), (5, 5, 1, 1, 0, 31), (16, 5, 1, 1, 0, 31), (10, 6, 1, 1, 0, 63), (0, 0, 0, 0, 0, 0), [65, 66, 67, 115]),
  ([97, 110, 100, 115], 3925868544, (0, 5, 1, 1, 0, 31), (5, 5, 1, 1, 0, 31), (16, 5, 1, 1, 0, 31), (10, 6, 1, 1, 0, 63), (0, 0, 0, 0, 0, 0), [65, 66, 67, 115]),
  ([97, 110, 100, 46, 105], 2449473536, (0, 5, 1, 1, 0, 31), (5, 5, 1, 1, 0, 31), (0, 0, 0, 0, 0, 0), (0, 0, 0, 0, 0, 0), (0, 0, 3, 0, 0, 0), [65, 66, 105]),
  ([111, 114, 114, 46, 105], 2986344448, (0, 5, 1, 1, 0, 31), (5, 5, 1, 1, 0, 31), (0, 0, 0, 0, 0, 0), (0, 0, 0, 0, 0, 0), (0, 0, 3, 0, 0, 0), [65, 66, 105]),
  ([101, 111, 114, 46, 105], 3523215360, (0, 5, 1, 1, 0, 31), (5, 5, 1, 1, 0, 31), (0, 0, 0, 0, 0, 0), (0, 0, 0, 0, 0, 0), (0, 0, 3, 0, 0, 0), [65, 66, 105]),
  ([97, 110, 100, 115, 46, 105], 4060086272, (0, 5, 1, 1, 0, 31), (5, 5, 1, 1, 0, 31), (0, 0, 0, 0, 0, 0), (0, 0, 0, 0, 0, 0), (0, 0, 3, 0, 0, 0), [65, 66, 105]),
  ([109, 97, 100, 100], 2600468480, (0, 5, 1, 1, 0, 31), (5, 5, 1, 1, 0, 31), (16, 5, 1, 1, 0, 31), (10, 5, 1, 1, 0, 31), (0, 0, 0, 0, 0, 0), [65, 66, 67, 68]),
  ([109, 115, 117, 98], 2600501248, (0, 5, 1, 1, 0, 31), (5, 5, 1, 1, 0, 31), (16, 5, 1, 1, 0, 31), (10, 5, 1, 1, 0, 31), (0, 0, 0, 0, 0, 0), [65, 66, 67, 68]),
  ([117, 100, 105, 118], 2596276224, (0, 5, 1, 1, 0, 31), (5, 5, 1, 1, 0, 31), (16, 5, 1, 1, 0, 31), (0, 0, 0, 0, 0, 0), (0, 0, 0, 0, 0, 0), [65, 66, 67]),
  ([115, 100, 105, 118], 2596277248, (0, 5, 1, 1, 0, 31), (5, 5, 1, 1, 0, 31), (16, 5, 1, 1, 0, 31), (0, 0, 0, 0, 0, 0), (0, 0, 0, 0, 0, 0), [65, 66, 67]),
  ([108, 115, 108, 118], 2596282368, (0, 5, 1, 1, 0, 31), (5, 5, 1, 1, 0, 31), (16, 5, 1, 1, 0, 31), (0, 0, 0, 0, 0, 0), (0, 0, 0, 0, 0, 0), [65, 66, 67]),
  ([108, 115, 114, 118], 2596283392, (0, 5, 1, 1, 0, 31), (5, 5, 1, 1, 0, 31), (16, 5, 1, 1, 0, 31), (0, 0, 0, 0, 0, 0), (0, 0, 0, 0, 0, 0), [65, 66, 67]),
  ([97, 115, 114, 118], 2596284416, (0, 5, 1, 1, 0, 31), (5, 5, 1, 1, 0, 31), (16, 5, 1, 1, 0, 31), (0, 0, 0, 0, 0, 0), (0, 0, 0, 0, 0, 0), [65, 66, 67]),
  ([115, 98, 102, 109], 2470445056, (0, 5, 1, 1, 0, 31), (5, 5, 1, 1, 0, 31), (16, 6, 1, 1, 0, 63), (10, 6, 1, 1, 0, 63), (0, 0, 0, 0, 0, 0), [65, 66, 116, 115]),
  ([117, 98, 102, 109], 3544186880, (0, 5, 1, 1, 0, 31), (5, 5, 1, 1, 0, 31), (16, 6, 1, 1, 0, 63), (10, 6, 1, 1, 0, 63), (0, 0, 0, 0, 0, 0), [65, 66, 116, 115]),
  ([99, 115, 101, 108], 2592079872, (0, 5, 1, 1, 0, 31), (5, 5, 1, 1, 0, 31), (16, 5, 1, 1, 0, 31), (12, 4, 1, 1, 0, 13), (0, 0, 0, 0, 0, 0), [65, 66, 67, 99]),
  ([99, 115, 105, 110, 99], 2592080896, (0, 5, 1, 1, 0, 31), (5, 5, 1, 1, 0, 31), (16, 5, 1, 1, 0, 31), (12, 4, 1, 1, 0, 13), (0, 0, 0, 0, 0, 0), [65, 66, 67, 99]),
  ([97, 100, 114], 268435456, (0, 5, 1, 1, 0, 31), (0, 0, 0, 0, 0, 0), (0, 0, 0, 0, 0, 0), (0, 0, 0, 0, 0, 0), (0, 0, 2, 1, -1048576, 1048575), [65, 106]),
  ([97, 100, 114, 112], 2415919104, (0, 5, 1, 1, 0, 31), (0, 0, 0, 0, 0, 0), (0, 0, 0, 0, 0, 0), (0, 0, 0, 0, 0, 0), (0, 0, 2, 1, -1048576, 1048575), [65, 106]),
  ([108, 100, 114, 98], 960495616, (0, 5, 1, 1, 0, 31), (5, 5, 1, 1, 0, 31), (0, 0, 0, 0, 0, 0), (0, 0, 0, 0, 0, 0), (10, 12, 1, 1, 0, 4095), [65, 66, 105]),
  ([115, 116, 114, 98], 956301312, (0, 5, 1, 1, 0, 31), (5, 5, 1, 1, 0, 31), (0, 0, 0, 0, 0, 0), (0, 0, 0, 0, 0, 0), (10, 12, 1, 1, 0, 4095), [65, 66, 105]),
  ([108, 100, 114, 104], 2034237440, (0, 5, 1, 1, 0, 31), (5, 5, 1, 1, 0, 31), (0, 0, 0, 0, 0, 0), (0, 0, 0, 0, 0, 0), (10, 12, 1, 2, 0, 8190), [65, 66, 105]),
  ([115, 116, 114, 104], 2030043136, (0, 5, 1, 1, 0, 31), (5, 5, 1, 1, 0, 31), (0, 0, 0, 0, 0, 0), (0, 0, 0, 0, 0, 0), (10, 12, 1, 2, 0, 8190), [65, 66, 105]),
  ([108, 100, 114, 46, 119], 3107979264, (0, 5, 1, 1, 0, 31), (5, 5, 1, 1, 0, 31), (0, 0, 0, 0, 0, 0), (0, 0, 0, 0, 0, 0), (10, 12, 1, 4, 0, 16380), [65, 66, 105]),
  ([115, 116, 114, 46, 119], 3103784960, (0, 5, 1, 1, 0, 31), (5, 5, 1, 1, 0, 31), (0, 0, 0, 0, 0, 0), (0, 0, 0, 0, 0, 0), (10, 12, 1, 4, 0, 16380), [65, 66, 105]),
  ([108, 100, 114, 115, 119], 3112173568, (0, 5, 1, 1, 0, 31), (5, 5, 1, 1, 0, 31), (0, 0, 0, 0, 0, 0), (0, 0, 0, 0, 0, 0), (10, 12, 1, 4, 0, 16380), [65, 66, 105]),
  ([108, 100, 114], 4181721088, (0, 5, 1, 1, 0, 31), (5, 5, 1, 1, 0, 31), (0, 0, 0, 0, 0, 0), (0, 0, 0, 0, 0, 0), (10, 12, 1, 8, 0, 32760), [65, 66, 105]),
  ([115, 116, 114], 4177526784, (0, 5, 1, 1, 0, 31), (5, 5, 1, 1, 0, 31), (0, 0, 0, 0, 0, 0), (0, 0, 0, 0, 0, 0), (10, 12, 1, 8, 0, 32760), [65, 66, 105]),
  ([108, 100, 112], 2839543808, (0, 5, 1, 1, 0, 31), (5, 5, 1, 1, 0, 31), (10, 5, 1, 1, 0, 31), (0, 0, 0, 0, 0, 0), (15, 7, 1, 8, -512, 504), [65, 67, 66, 105]),
  ([115, 116, 112], 2835349504, (0, 5, 1, 1, 0, 31), (5, 5, 1, 1, 0, 31), (10, 5, 1, 1, 0, 31), (0, 0, 0, 0, 0, 0), (15, 7, 1, 8, -512, 504), [65, 67, 66, 105]),
  ([98], 335544320, (0, 0, 0, 0, 0, 0), (0, 0, 0, 0, 0, 0), (0, 0, 0, 0, 0, 0), (0, 0, 0, 0, 0, 0), (0, 26, 1, 4, -134217728, 134217724), [106]),
  ([98, 108], 2483027968, (0, 0, 0, 0, 0, 0), (0, 0, 0, 0, 0, 0), (0, 0, 0, 0, 0, 0), (0, 0, 0, 0, 0, 0), (0, 26, 1, 4, -134217728, 134217724), [106]),
  ([98, 46, 99], 1409286144, (0, 0, 0, 0, 0, 0), (0, 0, 0, 0, 0, 0), (0, 0, 0, 0, 0, 0), (0, 4, 1, 1, 0, 13), (5, 19, 1, 4, -1048576, 1048572), [99, 106]),
  ([99, 98, 122], 3019898880, (0, 5, 1, 1, 0, 31), (0, 0, 0, 0, 0, 0), (0, 0, 0, 0, 0, 0), (0, 0, 0, 0, 0, 0), (5, 19, 1, 4, -1048576, 1048572), [65, 106]),
  ([99, 98, 110, 122], 3036676096, (0, 5, 1, 1, 0, 31), (0, 0, 0, 0, 0, 0), (0, 0, 0, 0, 0, 0), (0, 0, 0, 0, 0, 0), (5, 19, 1, 4, -1048576, 1048572), [65, 106]),
  ([98, 114], 3592355840, (0, 0, 0, 0, 0, 0), (5, 5, 1, 1, 0, 31), (0, 0, 0, 0, 0, 0), (0, 0, 0, 0, 0, 0), (0, 0, 0, 0, 0, 0), [66]),
  ([98, 108, 114], 3594452992, (0, 0, 0, 0, 0, 0), (5, 5, 1, 1, 0, 31), (0, 0, 0, 0, 0, 0), (0, 0, 0, 0, 0, 0), (0, 0, 0, 0, 0, 0), [66]),
  ([114, 101, 116], 3596550144, (0, 0, 0, 0, 0, 0), (5, 5, 1, 1, 0, 31), (0, 0, 0, 0, 0, 0), (0, 0, 0, 0, 0, 0), (0, 0, 0, 0, 0, 0), [66]),
  ([115, 118, 99], 3556769793, (0, 0, 0, 0, 0, 0), (0, 0, 0, 0, 0, 0), (0, 0, 0, 0, 0, 0), (0, 0, 0, 0, 0, 0), (5, 16, 1, 1, 0, 65535), [105]),
  ([98, 114, 107], 3558866944, (0, 0, 0, 0, 0, 0), (0, 0, 0, 0, 0, 0), (0, 0, 0, 0, 0, 0), (0, 0, 0, 0, 0, 0), (5, 16, 1, 1, 0, 65535), [105]),
  ([110, 111, 112], 3573751839, (0, 0, 0, 0, 0, 0), (0, 0, 0, 0, 0, 0), (0, 0, 0, 0, 0, 0), (0, 0, 0, 0, 0, 0), (0, 0, 0, 0, 0, 0), [])]
def rowsS : Ab.Spec := fun args => match args with
  | [] => .leaf (.sl rowE rowsL [] .ro)
  | _ => .fail
theorem rows_run : (dfun cx107 Tryz.f107 []).run = some (.sl rowE rowsL [] .ro) := by kernel_rfl
theorem rowsL_len : rowsL.length = 54 := by kernel_rfl
theorem rowsS_ok : Sound Tryz.prog 107 rowsS := by
  intro args out h
  unfold rowsS at h
  split at h
  rotate_left
  · cases h
  simp only [Tree.run, Option.some.injEq] at h
  subst h
  exact pcall_fun' (cx := cx107) (fn := Tryz.f107) (cx1_ok (.nil _) (.cons sumsS_ok (.cons othersS_ok fun p h => by cases h)) rfl rfl) (by kernel_rfl) (by kernel_rfl) (by kernel_rfl) rows_run
end Go.Ra
