/-
  The engine, part M: slice expressions, numbers, texts, comparisons. Conditions: none.
-/
import Derived.Test.YtffamklolgjjdaaAbL
namespace Go.Ab
section
variable {P : Program} {E : Nat → Nat → Prop} {H : List O} {β : List Loc} {w : World} {X : Nat → Nat → Prop}

/-- Bounds of a slice expression, and what the model has. -/
def optR (w : World) (X : Nat → Nat → Prop) (β : List Loc) : Option V → Option Value → Prop
  | none, none => True
  | some v, some y => R w X β v y
  | _, _ => False

theorem run_bound {y : Value} {k : IntKind} {n : Int} {m : Nat} (code : BoundsCode) (hy : y = .int k n) (h0 : 0 ≤ n) (h1 : n ≤ m) : (Instr.sliceBound y m code).run P w = .ok n.toNat w := by
  subst hy
  simp [Instr.sliceBound, asIntOf, h0, h1]

theorem run_bounds {isS : Bool} {len cap : Nat} {lo hi : Option V} {loy hiy : Option Value} {l h : Int} (hlo : optR w X β lo loy) (hhi : optR w X β hi hiy)
    (bl : bound? lo 0 = some l) (bh : bound? hi len = some h) (h0 : 0 ≤ l) (h1 : l ≤ h) (h2 : h ≤ cap) (_h3 : len ≤ cap) :
    (Instr.sliceBounds isS len cap loy hiy none).run P w = .ok (l.toNat, h.toNat, cap) w := by
  have e1 : ((h.toNat : Nat) : Int) = h := by omega
  unfold Instr.sliceBounds
  cases hi with
  | none =>
    cases hiy with
    | some _ => cases hhi
    | none =>
      simp only [bound?, Option.some.injEq] at bh
      subst bh
      cases lo with
      | none =>
        cases loy with
        | some _ => cases hlo
        | none => simp only [bound?, Option.some.injEq] at bl; subst bl; simp
      | some v =>
        cases loy with
        | none => cases hlo
        | some y =>
          cases v <;> simp only [bound?, reduceCtorEq, Option.some.injEq] at bl
          subst bl
          cases hlo
          simp [Instr.sliceBound, asIntOf, h0, h1]
  | some hv =>
    cases hiy with
    | none => cases hhi
    | some hy =>
      cases hv <;> simp only [bound?, reduceCtorEq, Option.some.injEq] at bh
      rename_i kh nh
      subst bh
      cases hhi
      have h00 : 0 ≤ nh := by omega
      cases lo with
      | none =>
        cases loy with
        | some _ => cases hlo
        | none => simp only [bound?, Option.some.injEq] at bl; subst bl; simp [Instr.sliceBound, asIntOf, h00, h2]
      | some v =>
        cases loy with
        | none => cases hlo
        | some y =>
          cases v <;> simp only [bound?, reduceCtorEq, Option.some.injEq] at bl
          subst bl
          cases hlo
          simp [Instr.sliceBound, asIntOf, h0, h1, h00, h2, e1]

theorem sub_get {α : Type} (l : List α) (lo hi i : Nat) : (sub l lo hi)[i]? = if lo + i < hi then l[lo + i]? else none := by
  unfold sub
  rw [List.getElem?_drop, List.getElem?_take]

theorem sub_length {α : Type} (l : List α) (lo hi : Nat) (h : hi ≤ l.length) : (sub l lo hi).length = hi - lo := by
  unfold sub; simp; omega

/-- A piece of fixed cells. -/
theorem sl_piece {c : EC} {all : List c.ty} {b o cap l h : Nat} {fl : Fl} (hl : l ≤ h) (hh : h ≤ all.length) (hcap : all.length ≤ cap) (hfull : fl = .full → cap = all.length)
    (hrw : fl.fixed = false → ∃ (cs : Array Value) (e : TypeId), w.heap[b]? = some (.cells cs e (0, 0)))
    (hc : ∀ (i : Nat) x (k : Nat) v, all[i]? = some x → (enc c x)[k]? = some v → ¬ X b (o + i * c.size + k) ∧ ∃ y, w.cell? ⟨b, o + i * c.size + k, none⟩ = some y ∧ R w X [] v y) :
    R w X β (.sl c (sub all l h) (all.drop h) fl) (.slice (if cap = l then some ⟨b, o, none⟩ else (some (⟨b, o, none⟩ : Addr)).map (·.add (l * c.size))) (h - l) (cap - l)) := by
  have hlen := sub_length all l h hh
  have hshift : ∀ (i : Nat) x (k : Nat) v, (sub all l h ++ all.drop h)[i]? = some x → (enc c x)[k]? = some v →
      ¬ X b (o + l * c.size + i * c.size + k) ∧ ∃ y, w.cell? ⟨b, o + l * c.size + i * c.size + k, none⟩ = some y ∧ R w X [] v y := by
    intro i x k v hx hv
    have hx' : all[l + i]? = some x := by
      by_cases hi : i < h - l
      · rw [List.getElem?_append_left (by rw [hlen]; exact hi), sub_get, if_pos (by omega)] at hx
        exact hx
      · rw [List.getElem?_append_right (by rw [hlen]; omega), hlen, List.getElem?_drop] at hx
        rw [← hx]; congr 1; omega
    have := hc (l + i) x k v hx' hv
    rwa [Nat.add_mul, show o + (l * c.size + i * c.size) + k = o + l * c.size + i * c.size + k from by omega] at this
  split
  · rename_i hcl
    have h1 : sub all l h = [] := List.length_eq_zero_iff.1 (by rw [hlen]; omega)
    have h2 : all.drop h = [] := List.length_eq_zero_iff.1 (by simp; omega)
    rw [h1, h2]
    exact mk_sl (by simp; omega) (by simp) (fun e => by have := hfull e; simp; omega) hrw (by simp)
  · simp only [Option.map_some, addr_add]
    exact mk_sl hlen.symm (by rw [hlen]; simp; omega) (fun e => by have := hfull e; rw [hlen]; simp; omega) hrw hshift

theorem run_slice_sl {t e : TypeId} {a : Option Addr} {len cap size : Nat} {loy hiy : Option Value} {l h : Nat} (hu : P.underlying t = some (.slice e)) (hs : (sizeOf e).run P w = .ok size w)
    (hb : (Instr.sliceBounds true len cap loy hiy none).run P w = .ok (l, h, cap) w) :
    (Instr.sliceAt t (.slice a len cap) loy hiy none).run P w = .ok (.slice (if cap = l then a else a.map (·.add (l * size))) (h - l) (cap - l)) w := by
  simp [Instr.sliceAt, Instr.slice, run_und w hu, hb, hs]

theorem run_slice_str {t : TypeId} {s : ByteArray} {loy hiy : Option Value} {l h : Nat} (hu : P.underlying t = some .string)
    (hb : (Instr.sliceBounds false s.size s.size loy hiy none).run P w = .ok (l, h, s.size) w) :
    (Instr.sliceAt t (.string s) loy hiy none).run P w = .ok (.string (s.extract l h)) w := by
  simp [Instr.sliceAt, Instr.slice, run_und w hu, hb]

theorem extract_sub (s : List UInt8) (l h : Nat) : (ByteArray.mk s.toArray).extract l h = ⟨(sub s l h).toArray⟩ := by
  apply ByteArray.ext
  apply Array.ext'
  simp [sub, List.extract_eq_take_drop, List.drop_take]

theorem sound_slice {t : TypeId} {x v : V} {y : Value} {lo hi : Option V} {loy hiy : Option Value} (_hR : Rel w X H β) (hx : R w X β x y) (hlo : optR w X β lo loy) (hhi : optR w X β hi hiy)
    (h : (oSlice P H t x lo hi).run = some v) : ∃ z, (Instr.sliceAt t y loy hiy none).run P w = .ok z w ∧ R w X β v z := by
  unfold oSlice at h
  split at h
  · rename_i s
    split at h
    rotate_left
    · cases h
    rename_i h1 l1 hu bh bl
    obtain ⟨hreq, h⟩ := req_run h
    simp only [Tree.run, Option.some.injEq] at h
    subst h
    simp only [Bool.and_eq_true, decide_eq_true_eq] at hreq
    obtain ⟨⟨r1, r2⟩, r3⟩ := hreq
    cases hx
    have hsz : (ByteArray.mk s.toArray).size = s.length := by simp [ByteArray.size]
    have hb := run_bounds (P := P) (isS := false) (len := s.length) (cap := s.length) hlo hhi bl bh r1 r2 r3 (Nat.le_refl _)
    refine ⟨_, run_slice_str hu (by rw [hsz]; exact hb), ?_⟩
    rw [extract_sub]
    exact .str _ _
  · split at h
    rotate_left
    · cases h
    rename_i i hi'
    split at h
    rotate_left
    · cases h
    rename_i e hk
    have hu := slice_spec hi' hk
    split at h
    rotate_left
    · cases h
    rename_i j hj
    split at h
    · rename_i c ls spare fl _
      rcases sl_get hx with ⟨rfl, rfl, rfl, rfl⟩ | ⟨b, o, cap, rfl, hcap, hfull, hrw, hh⟩
      · split at h
        · rename_i h1 l1 bl bh
          obtain ⟨hreq, g⟩ := req_run h
          simp only [Bool.and_eq_true, decide_eq_true_eq] at hreq
          obtain ⟨r1, r2⟩ := hreq
          have bh' : h1 = 0 := by simpa [bound?] using bh.symm
          subst bh'
          cases hcs : Nat.beq c.size j.size
          · rw [hcs] at g; simp [Tree.run] at g
          rw [hcs] at g
          simp only [cond_true, Tree.run, Option.some.injEq] at g
          subst g
          have l0 : l1 = 0 := by omega
          subst l0
          have hb := run_bounds (P := P) (isS := true) (len := 0) (cap := 0) hlo hhi bl bh (by omega) (by omega) (by omega) (by omega)
          exact ⟨_, run_slice_sl hu (ti_size w hj) hb, .nil _ _⟩
        · rename_i h1 l1 bl _ bh
          obtain ⟨hreq, h⟩ := req_run h
          simp only [Bool.and_eq_true, decide_eq_true_eq] at hreq
          obtain ⟨⟨r1, r2⟩, r3⟩ := hreq
          cases hcs : Nat.beq c.size j.size
          · simp [hcs, Tree.run] at h
          simp only [hcs, cond_true, Tree.run, Option.some.injEq] at h
          subst h
          have r3' : h1 ≤ 0 := by simpa using r3
          have h0 : h1 = 0 := by omega
          have l0 : l1 = 0 := by omega
          subst h0
          subst l0
          have hb := run_bounds (P := P) (isS := true) (len := 0) (cap := 0) hlo hhi bl bh (by omega) (by omega) (by omega) (by omega)
          exact ⟨_, run_slice_sl hu (ti_size w hj) hb, .nil _ _⟩
        · cases h
      split at h
      · rename_i h1 l1 bl bh
        obtain ⟨hreq, g⟩ := req_run h
        simp only [Bool.and_eq_true, decide_eq_true_eq] at hreq
        obtain ⟨r1, r2⟩ := hreq
        have bh' : h1 = ls.length := by simpa [bound?] using bh.symm
        subst bh'
        cases hcs : Nat.beq c.size j.size
        · rw [hcs] at g; simp [Tree.run] at g
        rw [hcs] at g
        simp only [cond_true, Tree.run, Option.some.injEq] at g
        subst g
        have hcs := Nat.eq_of_beq_eq_true hcs
        have hb := run_bounds (P := P) (isS := true) (len := ls.length) (cap := cap) hlo hhi bl bh r1 r2 (by omega) (by omega)
        refine ⟨_, run_slice_sl hu (ti_size w hj) hb, ?_⟩
        have := sl_piece (w := w) (X := X) (β := β) (all := ls ++ spare) (b := b) (o := o) (cap := cap) (l := l1.toNat) (h := ls.length) (fl := fl) (by omega) (by simp) (by simpa using hcap) (by simpa using hfull) hrw hh
        rw [hcs] at this
        simpa [sub] using this
      · rename_i h1 l1 bl _ bh
        obtain ⟨hreq, h⟩ := req_run h
        simp only [Bool.and_eq_true, decide_eq_true_eq] at hreq
        obtain ⟨⟨r1, r2⟩, r3⟩ := hreq
        cases hcs : Nat.beq c.size j.size
        · simp [hcs, Tree.run] at h
        simp only [hcs, cond_true, Tree.run, Option.some.injEq] at h
        subst h
        have hcs := Nat.eq_of_beq_eq_true hcs
        have hb := run_bounds (P := P) (isS := true) (len := ls.length) (cap := cap) hlo hhi bl bh r1 r2 (by omega) (by omega)
        refine ⟨_, run_slice_sl hu (ti_size w hj) hb, ?_⟩
        have := sl_piece (w := w) (X := X) (β := β) (all := ls ++ spare) (b := b) (o := o) (cap := cap) (l := l1.toNat) (h := h1.toNat) (fl := fl) (by omega) (by simp; omega) (by simpa using hcap) (by simpa using hfull) hrw hh
        rw [hcs] at this
        exact this
      · cases h
    · rename_i id c ls _
      obtain ⟨b, o, cap, loc, rfl, _, _, _, _, hcap, hh⟩ := gro_get hx
      split at h
      · rename_i h1 l1 bh bl
        obtain ⟨hreq, h⟩ := req_run h
        simp only [Bool.and_eq_true, decide_eq_true_eq] at hreq
        obtain ⟨⟨r1, r2⟩, r3⟩ := hreq
        cases hcs : Nat.beq c.size j.size
        · simp [hcs, Tree.run] at h
        simp only [hcs, cond_true, Tree.run, Option.some.injEq] at h
        subst h
        have hcs := Nat.eq_of_beq_eq_true hcs
        have hb := run_bounds (P := P) (isS := true) (len := ls.length) (cap := cap) hlo hhi bl bh r1 r2 (by omega) (by omega)
        refine ⟨_, run_slice_sl hu (ti_size w hj) hb, ?_⟩
        have := sl_piece (w := w) (X := X) (β := β) (all := ls) (b := b) (o := o) (cap := cap) (l := l1.toNat) (h := h1.toNat) (fl := .ro) (by omega) (by omega) hcap (fun h => by cases h) (fun h => by cases h) hh
        rw [hcs] at this
        exact this
      · cases h
    · rename_i id sz off len _
      split at h
      rotate_left
      · cases h
      rename_i cs e' hH
      split at h
      rotate_left
      · cases h
      rename_i h1 l1 bh bl
      obtain ⟨hreq, h⟩ := req_run h
      simp only [Bool.and_eq_true, decide_eq_true_eq] at hreq
      obtain ⟨⟨r1, r2⟩, r3⟩ := hreq
      cases hcs : Nat.beq sz j.size
      · simp [hcs, Tree.run] at h
      simp only [hcs, cond_true, Tree.run, Option.some.injEq] at h
      subst h
      have hcs := Nat.eq_of_beq_eq_true hcs
      subst hcs
      cases hx with
      | ref _ _ _ _ _ loc b o cap hid hkd hlen ha hcap =>
        have hb := run_bounds (P := P) (isS := true) (len := len) (cap := cap) hlo hhi bl bh r1 r2 (by omega) hlen
        refine ⟨_, run_slice_sl hu (ti_size w hj) hb, ?_⟩
        have hm : l1.toNat * j.size + (cap - l1.toNat) * j.size = cap * j.size := by rw [← Nat.add_mul]; congr 1; omega
        split
        · rename_i hcl
          exact .ref β id j.size _ _ loc b o _ hid hkd (by omega) (fun h => by omega) (by omega)
        · obtain ⟨rfl, rfl⟩ := ha (by omega)
          simp only [Option.map_some, addr_add]
          exact .ref β id j.size _ _ loc _ _ _ hid hkd (by omega) (fun _ => ⟨rfl, by omega⟩) (by omega)
    · split at h
      rotate_left
      · cases h
      rename_i h1 l1 bh bl
      obtain ⟨hreq, h⟩ := req_run h
      simp only [Tree.run, Option.some.injEq] at h
      subst h
      simp only [Bool.and_eq_true, decide_eq_true_eq] at hreq
      obtain ⟨rfl, rfl⟩ := hreq
      cases hx
      have hb := run_bounds (P := P) (isS := true) (len := 0) (cap := 0) hlo hhi bl bh (by omega) (by omega) (by omega) (by omega)
      refine ⟨_, run_slice_sl hu (ti_size w hj) hb, ?_⟩
      exact .val _ _
    · cases h

end
end Go.Ab
