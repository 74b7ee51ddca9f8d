/-
  The engine, part Om: objects that are no rows of cells: maps by numbers, strings that are ranged over. Conditions: none.
-/
import Derived.Test.YtmbbnhcbphkniaaGreatDoorEnG
import Derived.Laws.RangeString
namespace Go.Ab
open Go.MapKept
section
variable {P : Program} {E : Nat → Nat → Prop} {H : List O} {β : List Loc} {w : World}

/-- A new object that is no row of cells. -/
theorem Step.pushObj (hR : Rel w (Xs E H β) H β) (ob : Obj) {sh : Shape} {xs : List Value} {vs : List V} {loc : Loc} (hsh : Shp sh ob xs)
    (hv : ∀ (k : Nat) v, vs[k]? = some v → ∃ x, xs[k]? = some x ∧ R w (Xs E H β) β v x) (hloc : loc.block = w.heap.size) (hk : loc.kind = false) (hb : loc.base = 0) :
    Step E H β w (H ++ [.obj sh vs]) (β ++ [loc]) (w.alloc ob) := Step.pushObjD hR ob hsh hv hloc hk hb

/-- Such an object, changed; no row of numbers. -/
theorem Step.setObj (hR : Rel w (Xs E H β) H β) {id : Nat} {sh sh' : Shape} {vs vs' : List V} {loc : Loc} {ob' : Obj} {xs' : List Value}
    (hid : H[id]? = some (.obj sh vs)) (hloc : β[id]? = some loc) (hsh : Shp sh' ob' xs') (hv : ∀ (k : Nat) v, vs'[k]? = some v → ∃ x, xs'[k]? = some x ∧ R w (Xs E H β) β v x)
    (hp : sh.isPage = false := by rfl) (hp' : sh'.isPage = false := by rfl) :
    Step E H β w (H.set id (.obj sh' vs')) β { w with heap := w.heap.setIfInBounds loc.block ob' } :=
  Step.setObjG hR hid hloc hsh hv fun ob xs _ h => .inl ⟨h.special hp, hsh.special hp'⟩

theorem zeroPtr_run {t : TypeId} (h : zeroPtr P t = true) (w : World) : (zeroValue t).run P w = .ok (.pointer none) w := by
  unfold zeroPtr at h
  split at h
  · rename_i i hi
    split at h
    · rename_i hz
      simp [zeroValue, typeInfo, hi, hz]
    · cases h
  · cases h
theorem isU64_und {t : TypeId} (h : isU64 P t = true) : P.underlying t = some (.int .u64) := by
  unfold isU64 at h
  split at h
  · assumption
  · cases h

theorem sound_makeMap (hR : Rel w (Xs E H β) H β) (t : TypeId) :
    ∃ z w' β', (Instr.makeMap t none).run P w = .ok z w' ∧ Step E H β w (H ++ [.obj (.map []) []]) β' w' ∧ R w' (Xs E (H ++ [.obj (.map []) []]) β') β' (.mp H.length) z := by
  refine ⟨.map (some w.heap.size), _, β ++ [{ kind := false, block := w.heap.size, base := 0, n := 0, size := 0 }], rfl,
    Step.pushObj hR (.map #[] 0) (xs := []) ⟨#[], 0, [], rfl, stamped_empty 0, .nil, .refl _, rfl, rfl⟩ (fun k v h => by simp at h) rfl rfl rfl, ?_⟩
  exact .mp _ _ { kind := false, block := w.heap.size, base := 0, n := 0, size := 0 } (by rw [hR.len]; simp) rfl

theorem lookK_run {z : V} {f : V → Bool → V} {u : V} {n : Int} : ∀ {keys : List Int} {vs : List V}, (lookK z f keys vs n).run = some u →
    (∃ (i : Nat) (v : V), keys[i]? = some n ∧ vs[i]? = some v ∧ u = f v true) ∨ (n ∉ keys ∧ u = f z false)
  | [], [], h => by simp only [lookK, Tree.run, Option.some.injEq] at h; exact .inr ⟨by simp, h.symm⟩
  | k :: ks, v :: vs, h => by
    unfold lookK at h
    simp only [Tree.run] at h
    cases hb : (n == k)
    · rw [hb, cond_false] at h
      rcases lookK_run h with ⟨i, v', h1, h2, h3⟩ | ⟨h1, h2⟩
      · exact .inl ⟨i + 1, v', by simpa using h1, by simpa using h2, h3⟩
      · refine .inr ⟨?_, h2⟩
        simp only [List.mem_cons, not_or]
        exact ⟨fun e => by rw [e] at hb; simp at hb, h1⟩
    · rw [hb, cond_true] at h
      simp only [Option.some.injEq] at h
      exact .inl ⟨0, v, by simp [eq_of_beq hb], rfl, h.symm⟩
  | [], _ :: _, h => by cases h
  | _ :: _, [], h => by cases h

/-- What is known of a map that lies. -/
theorem map_facts {keys : List Int} {ob : Obj} {xs : List Value} (h : Shp (.map keys) ob xs) :
    ∃ (arr : Array MapEntry) (clock : Nat) (l : List MapEntry), ob = .map arr clock ∧ Stamped arr clock ∧ keys.Pairwise (· < ·) ∧ l.Perm arr.toList ∧ l.map (·.key) = keys.map (Value.int .u64) ∧ l.map (·.val) = xs ∧
      (∀ x ∈ arr.toList, IsKey (.int .u64) x.key) ∧ ∀ (i : Nat) e n, l[i]? = some e → e.key = .int .u64 n → keys[i]? = some n ∧ xs[i]? = some e.val := by
  obtain ⟨arr, clock, l, h1, h2, h3, h4, h5, h6⟩ := h
  refine ⟨arr, clock, l, h1, h2, h3, h4, h5, h6, fun x hx => ?_, fun i e n hi he => ⟨?_, ?_⟩⟩
  · have : x.key ∈ l.map (·.key) := List.mem_map_of_mem (h4.mem_iff.2 hx)
    rw [h5] at this
    obtain ⟨n, _, hn⟩ := List.mem_map.1 this
    rw [← hn]
    rfl
  · have : (l.map (·.key))[i]? = some (.int .u64 n) := by rw [List.getElem?_map, hi]; exact congrArg some he
    rw [h5, List.getElem?_map] at this
    obtain ⟨m, hm, hm'⟩ := Option.map_eq_some_iff.1 this
    cases hm'
    exact hm
  · rw [← h6, List.getElem?_map, hi]
    rfl
theorem sorted_inj {keys : List Int} (h : keys.Pairwise (· < ·)) {i j : Nat} {n : Int} (hi : keys[i]? = some n) (hj : keys[j]? = some n) : i = j := by
  obtain ⟨hi', ei⟩ := List.getElem?_eq_some_iff.1 hi
  obtain ⟨hj', ej⟩ := List.getElem?_eq_some_iff.1 hj
  rcases Nat.lt_trichotomy i j with hlt | heq | hgt
  · have := List.pairwise_iff_getElem.1 h i j hi' hj' hlt
    omega
  · exact heq
  · have := List.pairwise_iff_getElem.1 h j i hj' hi' hgt
    omega

theorem sound_lookup {t : TypeId} {x ix u : V} {sx si : Value} {ok : Bool} (hR : Rel w (Xs E H β) H β) (hx : R w (Xs E H β) β x sx) (hi : R w (Xs E H β) β ix si) (h : (oLookup P H t x ix ok).run = some u) :
    ∃ z, (Instr.lookup t sx si ok).run P w = .ok z w ∧ R w (Xs E H β) β u z := by
  unfold oLookup at h
  split at h
  rotate_left
  · cases h
  rename_i kt et hm
  split at h
  rotate_left
  · cases h
  rename_i n id
  split at h
  rotate_left
  · cases h
  rename_i keys vs hid
  cases hc : (isU64 P kt && zeroPtr P et)
  · rw [hc] at h; cases h
  rw [hc, cond_true] at h
  rw [Bool.and_eq_true] at hc
  have hd := isU64_und hc.1
  cases hi
  cases hx with
  | mp _ _ loc hloc hk =>
    obtain ⟨_, _, ob, xs, hob, hsh, hval⟩ := hR.objs id _ _ loc hid hloc
    obtain ⟨arr, clock, l, rfl, hst, hsort, hperm, hkeys, hvals, hisk, hat⟩ := map_facts hsh
    have hk : IsKey (.int .u64) (.int .u64 n) := rfl
    have fin : ∀ (r : Option (Nat × Value)) (v : V) (b : Bool) (y : Value), Instr.findNow (.int .u64) (.int .u64 n) arr.toList 0 = some r → u = okV ok v b → R w (Xs E H β) β v y →
        (r = none → y = .pointer none ∧ b = false) → (∀ q, r = some q → y = q.2 ∧ b = true) → ∃ z, (Instr.lookup t (.map (some loc.block)) (.int .u64 n) ok).run P w = .ok z w ∧ R w (Xs E H β) β u z := by
      intro r v b y hf hu hr h1 h2
      have hpair : R w (Xs E H β) β (.tup [v, .bool b]) (.tuple #[y, .bool b]) := .tup _ _ [y, .bool b] rfl fun k v' x hv hx => by
        match k, hv, hx with
        | 0, hv, hx => cases hv; cases hx; exact hr
        | 1, hv, hx => cases hv; cases hx; exact .bool _ _
      cases r with
      | none =>
        obtain ⟨rfl, rfl⟩ := h1 rfl
        refine ⟨if ok then .tuple #[.pointer none, .bool false] else .pointer none, ?_, ?_⟩
        · simp [Instr.lookup, run_underlying hm, run_getObj_map hob, run_checkKey hd hk, run_findKey hd hf, zeroPtr_run hc.2, Result.andThen]
        · rw [hu]
          cases ok
          · exact hr
          · exact hpair
      | some q =>
        obtain ⟨rfl, rfl⟩ := h2 q rfl
        refine ⟨if ok then .tuple #[q.2, .bool true] else q.2, ?_, ?_⟩
        · obtain ⟨q1, q2⟩ := q
          simp [Instr.lookup, run_underlying hm, run_getObj_map hob, run_checkKey hd hk, run_findKey hd hf, Result.andThen]
        · rw [hu]
          cases ok
          · exact hr
          · exact hpair
    rcases findNow_spec hk arr.toList 0 hisk with ⟨f1, f2⟩ | ⟨j, e, f1, f2, f3⟩
    · rcases lookK_run h with ⟨i, v, g1, g2, g3⟩ | ⟨g1, g2⟩
      · exfalso
        have hl : (l.map (·.key))[i]? = some (.int .u64 n) := by rw [hkeys, List.getElem?_map, g1]; rfl
        obtain ⟨e, he, he'⟩ := List.mem_map.1 (List.mem_of_getElem? hl)
        exact f2 e (hperm.mem_iff.1 he) he'
      · exact fin none _ false (.pointer none) f1 g2 (.val _ _) (fun _ => ⟨rfl, rfl⟩) (fun q hq => by cases hq)
    · have hel : e ∈ l := hperm.mem_iff.2 (List.mem_of_getElem? f2)
      obtain ⟨i, hi⟩ := List.getElem?_of_mem hel
      obtain ⟨k1, k2⟩ := hat i e n hi f3
      rcases lookK_run h with ⟨i', v, g1, g2, g3⟩ | ⟨g1, g2⟩
      · have := sorted_inj hsort k1 g1
        subst this
        obtain ⟨y, hy, hr⟩ := hval i v g2
        rw [k2] at hy
        cases hy
        exact fin _ v true e.val f1 g3 hr (fun hq => by cases hq) (fun q hq => by cases hq; exact ⟨rfl, rfl⟩)
      · exact absurd (List.mem_of_getElem? k1) g1

theorem sound_range {t : TypeId} {x : V} {sx : Value} {res : Res} (hR : Rel w (Xs E H β) H β) (hx : R w (Xs E H β) β x sx) (h : (oRange P H t x).run = some res) :
    ∃ u H', res = .ok u H' ∧ ∃ z w' β', (Instr.range t sx).run P w = .ok z w' ∧ Step E H β w H' β' w' ∧ R w' (Xs E H' β') β' u z := by
  unfold oRange at h
  split at h
  rotate_left
  · cases h
  rename_i s hs
  simp only [Tree.run, Option.some.injEq] at h
  subst h
  cases hx
  refine ⟨_, _, rfl, .pointer (some ⟨w.heap.size, 0, none⟩), _, β ++ [{ kind := false, block := w.heap.size, base := 0, n := 0, size := 0 }], run_range_string w t _ hs,
    Step.pushObj hR (.stringIter ⟨s.toArray⟩ 0) (xs := []) ⟨rfl, rfl⟩ (fun k v h => by simp at h) rfl rfl rfl, ?_⟩
  exact .ptr _ _ 0 { kind := false, block := w.heap.size, base := 0, n := 0, size := 0 } (by rw [hR.len]; simp) rfl

theorem sound_next {it : V} {si : Value} {res : Res} {ty : TypeId} (hR : Rel w (Xs E H β) H β) (hx : R w (Xs E H β) β it si) (h : (oNext H it).run = some res) :
    ∃ u H', res = .ok u H' ∧ ∃ z w' β', (Instr.next si true ty).run P w = .ok z w' ∧ Step E H β w H' β' w' ∧ R w' (Xs E H' β') β' u z := by
  unfold oNext at h
  split at h
  rotate_left
  · cases h
  rename_i id off
  split at h
  rotate_left
  · cases h
  rename_i s pos vs hid
  cases hc : Nat.beq off 0
  · rw [hc] at h; cases h
  rw [hc, cond_true] at h
  have h0 := Nat.eq_of_beq_eq_true hc
  subst h0
  cases hx with
  | ptr _ _ _ loc hloc hk =>
    obtain ⟨_, hb, ob, xs, hob, hsh, hval⟩ := hR.objs id _ _ loc hid hloc
    obtain ⟨rfl, rfl⟩ := hsh
    rw [hb]
    simp only [Tree.run] at h
    have hsz : (⟨s.toArray⟩ : ByteArray).size = s.length := by simp [ByteArray.size]
    cases hp : decide (pos < s.length)
    · rw [hp, cond_false] at h
      simp only [Option.some.injEq] at h
      subst h
      have hp := of_decide_eq_false hp
      refine ⟨_, _, rfl, .tuple #[.bool false], w, β, ?_, Step.refl hR, ?_⟩
      · simp [Instr.next, getObj, Sem.run, hob, Result.andThen, hsz, hp]
      · exact .tup _ _ [.bool false] rfl fun k v x hv hx => by
          match k, hv, hx with
          | 0, hv, hx => cases hv; cases hx; exact .bool _ _
    · rw [hp, cond_true] at h
      obtain ⟨h1, h2⟩ := req_run h
      simp only [Tree.run, Option.some.injEq] at h2
      subst h2
      have hp := of_decide_eq_true hp
      have h1 := of_decide_eq_true h1
      have hps : pos < (⟨s.toArray⟩ : ByteArray).size := by rw [hsz]; exact hp
      have hget : ((⟨s.toArray⟩ : ByteArray)[pos]'hps) = s.getD pos 0 := by
        have : ((⟨s.toArray⟩ : ByteArray)[pos]'hps) = s[pos] := rfl
        rw [this, List.getD, List.getElem?_eq_getElem hp]
        rfl
      have hdec := decode_ascii ⟨s.toArray⟩ pos hps (by rw [hget]; exact h1)
      rw [hget] at hdec
      refine ⟨_, _, rfl, .tuple #[.bool true, .int .i64 pos, .int .i32 (s.getD pos 0).toNat], _, β, ?_, Step.setObj hR hid hloc (sh' := .siter s (pos + 1)) (ob' := .stringIter ⟨s.toArray⟩ (pos + 1)) (xs' := []) ⟨rfl, rfl⟩ (fun k v h => by simp at h), ?_⟩
      · simp [Instr.next, getObj, setObj, Sem.run, hob, Result.andThen, hsz, hp, hdec, goInt]
      · exact .tup _ _ [.bool true, .int .i64 pos, .int .i32 (s.getD pos 0).toNat] rfl fun k v x hv hx => by
          match k, hv, hx with
          | 0, hv, hx => cases hv; cases hx; exact .bool _ _
          | 1, hv, hx => cases hv; cases hx; exact .int _ _ _
          | 2, hv, hx => cases hv; cases hx; exact .int _ _ _

theorem setK_run {n : Int} {v : V} : ∀ {keys : List Int} {vs : List V} {p : List Int × List V}, (setK n v keys vs).run = some p → keys.Pairwise (· < ·) → vs.length = keys.length →
    (∃ i : Nat, keys[i]? = some n ∧ p = (keys, vs.set i v)) ∨
    (n ∉ keys ∧ ∃ i : Nat, i ≤ keys.length ∧ p = (keys.take i ++ n :: keys.drop i, vs.take i ++ v :: vs.drop i) ∧ p.1.Pairwise (· < ·))
  | [], [], p, h, _, _ => by
    simp only [setK, Tree.run, Option.some.injEq] at h
    subst h
    exact .inr ⟨by simp, 0, Nat.le_refl _, rfl, by simp⟩
  | k :: ks, u :: us, p, h, hs, hl => by
    unfold setK at h
    simp only [Tree.run] at h
    have hs1 := (List.pairwise_cons.1 hs).1
    have hs2 := (List.pairwise_cons.1 hs).2
    cases hb : (n == k)
    · have hne : n ≠ k := fun e => by rw [e] at hb; simp at hb
      rw [hb, cond_false] at h
      cases hlt : decide (n < k)
      · rw [hlt, cond_false] at h
        have hlt := of_decide_eq_false hlt
        obtain ⟨q, h1, h2⟩ := bind_run h
        simp only [Tree.run, Option.some.injEq] at h2
        subst h2
        rcases setK_run h1 hs2 (by simpa using hl) with ⟨i, g1, rfl⟩ | ⟨g1, i, g2, rfl, g5⟩
        · exact .inl ⟨i + 1, by simpa using g1, by simp⟩
        · refine .inr ⟨?_, i + 1, by simpa using g2, by simp, ?_⟩
          · simp only [List.mem_cons, not_or]
            exact ⟨hne, g1⟩
          · refine List.pairwise_cons.2 ⟨fun a ha => ?_, g5⟩
            simp only [List.mem_append, List.mem_cons] at ha
            rcases ha with ha | ha | ha
            · exact hs1 a (List.mem_of_mem_take ha)
            · omega
            · exact hs1 a (List.mem_of_mem_drop ha)
      · rw [hlt, cond_true] at h
        have hlt := of_decide_eq_true hlt
        simp only [Option.some.injEq] at h
        subst h
        refine .inr ⟨?_, 0, by simp, by simp, ?_⟩
        · simp only [List.mem_cons, not_or]
          exact ⟨hne, fun hm => by have := hs1 n hm; omega⟩
        · refine List.pairwise_cons.2 ⟨fun a ha => ?_, hs⟩
          simp only [List.mem_cons] at ha
          rcases ha with ha | ha
          · omega
          · have := hs1 a ha; omega
    · rw [hb, cond_true] at h
      simp only [Option.some.injEq] at h
      subst h
      exact .inl ⟨0, by simp [eq_of_beq hb], rfl⟩
  | [], _ :: _, _, h, _, _ => by cases h
  | _ :: _, [], _, h, _, _ => by cases h

theorem split_at {α : Type} {l : List α} {i : Nat} {e : α} (h : l[i]? = some e) : l = l.take i ++ e :: l.drop (i + 1) := by
  obtain ⟨hi, rfl⟩ := List.getElem?_eq_some_iff.1 h
  rw [List.getElem_cons_drop, List.take_append_drop]
theorem set_split {α : Type} {l : List α} {i : Nat} {e x : α} (h : l[i]? = some e) : l.set i x = l.take i ++ x :: l.drop (i + 1) := by
  obtain ⟨hi, _⟩ := List.getElem?_eq_some_iff.1 h
  rw [List.set_eq_take_append_cons_drop, if_pos hi]
theorem perm_set {α : Type} {l m : List α} {i j : Nat} {e x : α} (h : l.Perm m) (hi : l[i]? = some e) (hj : m[j]? = some e) : (l.set i x).Perm (m.set j x) := by
  rw [set_split hi, set_split hj]
  rw [split_at hi, split_at hj] at h
  have h1 := (List.perm_middle.symm.trans (h.trans List.perm_middle)).cons_inv
  exact List.perm_middle.trans ((h1.cons x).trans List.perm_middle.symm)
theorem modify_list {α : Type} {a : Array α} {i : Nat} {e : α} (f : α → α) (h : a[i]? = some e) : (a.modify i f).toList = a.toList.set i (f e) := by
  apply List.ext_getElem?
  intro j
  rw [Array.getElem?_toList, Array.getElem?_modify, List.getElem?_set]
  by_cases hij : i = j
  · subst hij
    obtain ⟨hlt, _⟩ := Array.getElem?_eq_some_iff.1 h
    rw [h]
    simp [hlt]
  · simp [hij]

theorem sound_mapUpdate {t : TypeId} {m k v : V} {sm sk sv : Value} {H' : List O} (hR : Rel w (Xs E H β) H β) (hm : R w (Xs E H β) β m sm) (hk : R w (Xs E H β) β k sk) (hv : R w (Xs E H β) β v sv)
    (h : (oMapUpdate P H t m k v).run = some H') : ∃ w' β', (Instr.mapUpdate t sm sk sv).run P w = .ok () w' ∧ Step E H β w H' β' w' := by
  unfold oMapUpdate at h
  split at h
  rotate_left
  · cases h
  rename_i kt et hty
  split at h
  rotate_left
  · cases h
  rename_i n id
  split at h
  rotate_left
  · cases h
  rename_i keys vs hid
  cases hc : (isU64 P kt && Nat.beq vs.length keys.length)
  · rw [hc] at h; cases h
  rw [hc, cond_true] at h
  rw [Bool.and_eq_true] at hc
  have hd := isU64_und hc.1
  have hlen := Nat.eq_of_beq_eq_true hc.2
  obtain ⟨p, hp, h2⟩ := bind_run h
  simp only [Tree.run, Option.some.injEq] at h2
  subst h2
  cases hk
  cases hm with
  | mp _ _ loc hloc hkd =>
    obtain ⟨_, _, ob, xs, hob, hsh, hval⟩ := hR.objs id _ _ loc hid hloc
    obtain ⟨arr, clock, l, rfl, hst, hsort, hperm, hkeys, hvals, hisk, hat⟩ := map_facts hsh
    have hk : IsKey (.int .u64) (.int .u64 n) := rfl
    have hll : l.length = keys.length := by have := congrArg List.length hkeys; simpa using this
    have hxl : xs.length = keys.length := by rw [← hvals, List.length_map, hll]
    rcases findNow_spec hk arr.toList 0 hisk with ⟨f1, f2⟩ | ⟨j, e, f1, f2, f3⟩
    · rcases setK_run hp hsort hlen with ⟨i, g1, rfl⟩ | ⟨g1, i, g2, rfl, g5⟩
      · exfalso
        have hl : (l.map (·.key))[i]? = some (.int .u64 n) := by rw [hkeys, List.getElem?_map, g1]; rfl
        obtain ⟨e, he, he'⟩ := List.mem_map.1 (List.mem_of_getElem? hl)
        exact f2 e (hperm.mem_iff.1 he) he'
      · refine ⟨{ w with heap := w.heap.setIfInBounds loc.block (.map (arr.push { key := .int .u64 n, val := sv, born := clock }) (clock + 1)) }, β, ?_,
          Step.setObj hR hid hloc (xs' := xs.take i ++ sv :: xs.drop i) ⟨_, _, l.take i ++ { key := .int .u64 n, val := sv, born := clock } :: l.drop i, rfl, stamped_push hst f2, g5, ?_, ?_, ?_⟩ (fun q u hu => ?_)⟩
        · simp [Instr.mapUpdate, run_underlying hty, run_getObj_map hob, run_checkKey hd hk, run_findKey hd f1, run_setObj_map _ hob, Result.andThen]
        · rw [Array.toList_push]
          refine List.perm_middle.trans ?_
          rw [List.take_append_drop]
          exact (hperm.cons _).trans (List.perm_append_singleton _ _).symm
        · simp only [List.map_append, List.map_cons, List.map_take, List.map_drop, hkeys]
        · simp only [List.map_append, List.map_cons, List.map_take, List.map_drop, hvals]
        · have hti : (vs.take i).length = i := by rw [List.length_take]; omega
          have htx : (xs.take i).length = i := by rw [List.length_take]; omega
          by_cases hq : q < i
          · rw [List.getElem?_append_left (by omega)] at hu ⊢
            rw [List.getElem?_take_of_lt hq] at hu ⊢
            exact hval q u hu
          · rw [List.getElem?_append_right (by omega), hti] at hu
            rw [List.getElem?_append_right (by omega), htx]
            cases hqi : q - i with
            | zero => rw [hqi] at hu; simp at hu; subst hu; exact ⟨sv, by simp, hv⟩
            | succ r =>
              rw [hqi] at hu
              simp only [List.getElem?_cons_succ, List.getElem?_drop] at hu ⊢
              exact hval (i + r) u hu
    · have hel : e ∈ l := hperm.mem_iff.2 (List.mem_of_getElem? f2)
      obtain ⟨i0, hi0⟩ := List.getElem?_of_mem hel
      obtain ⟨k1, k2⟩ := hat i0 e n hi0 f3
      rcases setK_run hp hsort hlen with ⟨i, g1, rfl⟩ | ⟨g1, _⟩
      · have := sorted_inj hsort k1 g1
        subst this
        have hj : arr[j]? = some e := by simpa using f2
        have hmod := modify_list (fun e : MapEntry => { e with key := .int .u64 n, val := sv }) hj
        refine ⟨{ w with heap := w.heap.setIfInBounds loc.block (.map (arr.modify j fun e => { e with key := .int .u64 n, val := sv }) clock) }, β, ?_,
          Step.setObj hR hid hloc (xs' := xs.set i0 sv) ⟨_, _, l.set i0 { e with key := .int .u64 n, val := sv }, rfl, ?_, hsort, ?_, ?_, ?_⟩ (fun q u hu => ?_)⟩
        · simp [Instr.mapUpdate, run_underlying hty, run_getObj_map hob, run_checkKey hd hk, run_findKey hd f1, hj, f3, run_keyThatStays hk, run_setObj_map _ hob, Result.andThen]
        · exact stamped_modify hst _ _ (fun _ _ => rfl) (fun e' _ he' => by rw [hj] at he'; cases he'; exact f3.symm)
        · rw [hmod]
          exact perm_set hperm hi0 (by simpa using hj)
        · rw [List.map_set, hkeys]
          apply List.ext_getElem?
          intro q
          rw [List.getElem?_set]
          split
          · rename_i hq
            subst hq
            have : i0 < (keys.map (Value.int .u64)).length := by rw [List.length_map]; exact (List.getElem?_eq_some_iff.1 k1).1
            rw [if_pos this, List.getElem?_map, k1]
            rfl
          · rfl
        · rw [List.map_set, hvals]
        · rw [List.getElem?_set] at hu ⊢
          by_cases hq : i0 = q
          · subst hq
            simp only [if_true] at hu ⊢
            have hlt : i0 < vs.length := by rw [hlen]; exact (List.getElem?_eq_some_iff.1 k1).1
            rw [if_pos hlt] at hu
            cases hu
            rw [if_pos (by omega)]
            exact ⟨sv, rfl, hv⟩
          · simp only [hq, if_false] at hu ⊢
            exact hval q u hu
      · exact absurd (List.mem_of_getElem? k1) g1


theorem sound_lenM {argTypes : Array TypeId} {ty : TypeId} {x v : V} {y : Value} (hR : Rel w (Xs E H β) H β) (hx : R w (Xs E H β) β x y) (h : oLenM P H argTypes x = some v) :
    ∃ z, (Builtin.len_ argTypes ty #[y]).run P w = .ok z w ∧ R w (Xs E H β) β v z := by
  unfold oLenM at h
  cases hm : mapArg P argTypes
  · rw [hm, cond_false] at h
    exact sound_len hx h
  · rw [hm, cond_true] at h
    unfold mapArg at hm
    split at hm
    rotate_left
    · cases hm
    rename_i t ht
    split at hm
    rotate_left
    · cases hm
    rename_i kt et hu
    split at h
    rotate_left
    · cases h
    rename_i id
    split at h
    rotate_left
    · cases h
    rename_i keys vs hH
    cases h
    cases hx with
    | mp _ _ loc hid hk =>
    obtain ⟨_, _, ob, xs, hob, ⟨arr, clock, l, rfl, _, _, hperm, hkeys, _⟩, _⟩ := hR.objs id _ _ loc hH hid
    have hsz : arr.size = keys.length := by
      have h1 := congrArg List.length hkeys
      have h2 := hperm.length_eq
      simp only [List.length_map, Array.length_toList] at h1 h2
      omega
    refine ⟨.int .i64 (keys.length : Int), ?_, .int _ _ _⟩
    simp [Builtin.len_, ht, run_und w hu, run_getObj_map hob, hsz, goInt]
end
end Go.Ab

namespace Go.Ab

def Normal (P : Program) (f : Nat) : Prop := ∃ fn, P.funcs[f]? = some fn ∧ fn.name ≠ "runtime.NumGoroutine" ∧ fn.body.isSome = true

/-- A call that only reads what it is handed, and makes what is new. -/
def PCall (P : Program) (f : Nat) (args : List V) (out : V) : Prop :=
  Normal P f ∧ ∀ (w : World) (E : Nat → Nat → Prop) (rargs : List Value), ((∀ b o, E b o → b < w.heap.size) ∧ Gs P w E) → rargs.length = args.length →
    (∀ (k : Nat) (v : V) (x : Value), args[k]? = some v → rargs[k]? = some x → R w E [] v x) →
    Calls P f rargs.toArray w fun e w' => ∃ y, e = .returned y ∧ Step E [] [] w [] [] w' ∧ R w' E [] out y

/-- How a call comes out. -/
def Outcome (E : Nat → Nat → Prop) (H : List O) (β : List Loc) (w : World) (r : Res) (e : Ending) (w' : World) : Prop :=
  match r with
  | .ok v H' => ∃ y β', e = .returned y ∧ Step E H β w H' β' w' ∧ R w' (Xs E H' β') β' v y
  | .pan v H' => ∃ y β', e = .panicked [{ v := y, recovered := false }] ∧ Step E H β w H' β' w' ∧ R w' (Xs E H' β') β' v y

/-- Where a function's call starts: what is closed is there, and nobody's; what is known of variables. -/
def StartOk (P : Program) (E : Nat → Nat → Prop) (H0 : List O) (β0 : List Loc) (w0 : World) : Prop := (∀ b o, E b o → b < w0.heap.size ∧ ¬ Own H0 β0 b o) ∧ Gs P w0 (Xs E H0 β0)

/-- A call that may write to what it is handed. -/
def MCall (P : Program) (f : Nat) (args : List V) (H : List O) (r : Res) : Prop :=
  Normal P f ∧ ∀ (w : World) (E : Nat → Nat → Prop) (β : List Loc) (rargs : List Value), StartOk P E H β w → Rel w (Xs E H β) H β →
    rargs.length = args.length → (∀ (k : Nat) (v : V) (x : Value), args[k]? = some v → rargs[k]? = some x → R w (Xs E H β) β v x) →
    Calls P f rargs.toArray w (Outcome E H β w r)

def MSound (P : Program) (f : Nat) (s : MSpec) : Prop := ∀ args H r, (s args H).run = some r → MCall P f args H r

def MTabOk (P : Program) (tab : List (Nat × MSpec)) : Prop := ∀ p ∈ tab, MSound P p.1 p.2

/-- A call that looks into what it is handed, and leaves it. -/
def RSound (P : Program) (f : Nat) (s : RSpec) : Prop := ∀ args H v, (s args H).run = some v → MCall P f args H (.ok v H)
def RTabOk (P : Program) (tab : List (Nat × RSpec)) : Prop := ∀ p ∈ tab, RSound P p.1 p.2
theorem RTabOk.nil (P : Program) : RTabOk P [] := fun p h => by cases h
theorem RTabOk.cons {P : Program} {f : Nat} {s : RSpec} {tab : List (Nat × RSpec)} (h : RSound P f s) (ht : RTabOk P tab) : RTabOk P ((f, s) :: tab) := by
  intro p hp
  rcases List.mem_cons.1 hp with rfl | hp
  · exact h
  · exact ht p hp
theorem lookR_spec {f : Nat} {args : List V} {H : List O} {r : V} : ∀ {tab : List (Nat × RSpec)}, (lookR f tab args H).run = some r → ∃ s, (f, s) ∈ tab ∧ (s args H).run = some r
  | [], h => by cases h
  | (g, s) :: r, h => by
    unfold lookR at h
    cases hb : Nat.beq f g
    · simp only [hb, cond_false] at h
      obtain ⟨s', h1, h2⟩ := lookR_spec h
      exact ⟨s', List.mem_cons_of_mem _ h1, h2⟩
    · simp only [hb, cond_true] at h
      have := Nat.eq_of_beq_eq_true hb
      subst this
      exact ⟨s, List.mem_cons_self, h⟩

theorem MTabOk.nil (P : Program) : MTabOk P [] := fun p h => by cases h
theorem MTabOk.cons {P : Program} {f : Nat} {s : MSpec} {tab : List (Nat × MSpec)} (h : MSound P f s) (ht : MTabOk P tab) : MTabOk P ((f, s) :: tab) := by
  intro p hp
  rcases List.mem_cons.1 hp with rfl | hp
  · exact h
  · exact ht p hp

theorem lookM_spec {f : Nat} {args : List V} {H : List O} {r : Res} : ∀ {tab : List (Nat × MSpec)}, (lookM f tab args H).run = some r → ∃ s, (f, s) ∈ tab ∧ (s args H).run = some r
  | [], h => by cases h
  | (g, s) :: r, h => by
    unfold lookM at h
    cases hb : Nat.beq f g
    · simp only [hb, cond_false] at h
      obtain ⟨s', h1, h2⟩ := lookM_spec h
      exact ⟨s', List.mem_cons_of_mem _ h1, h2⟩
    · simp only [hb, cond_true] at h
      have := Nat.eq_of_beq_eq_true hb
      subst this
      exact ⟨s, List.mem_cons_self, h⟩

/-! Objects numbered anew. -/

theorem rens_get {ρ : Nat → Option Nat} : ∀ {cs ds : List V}, V.rens? ρ cs = some ds → ds.length = cs.length ∧ ∀ (k : Nat) v, ds[k]? = some v → ∃ u, cs[k]? = some u ∧ V.ren? ρ u = some v
  | [], ds, h => by
    simp only [V.rens?, Option.some.injEq] at h
    subst h
    exact ⟨rfl, by simp⟩
  | c :: cs, ds, h => by
    unfold V.rens? at h
    split at h
    rotate_left
    · cases h
    rename_i u us h1 h2
    simp only [Option.some.injEq] at h
    subst h
    obtain ⟨g1, g2⟩ := rens_get h2
    refine ⟨by simp [g1], fun k v hv => ?_⟩
    cases k with
    | zero => simp only [List.getElem?_cons_zero, Option.some.injEq] at hv; subst hv; exact ⟨c, rfl, h1⟩
    | succ k => exact g2 k v (by simpa using hv)

theorem rensO_get {ρ : Nat → Option Nat} : ∀ {cs ds : List O}, rensO ρ cs = some ds → ds.length = cs.length ∧ ∀ (k : Nat) v, ds[k]? = some v → ∃ u, cs[k]? = some u ∧ O.ren? ρ u = some v
  | [], ds, h => by
    simp only [rensO, Option.some.injEq] at h
    subst h
    exact ⟨rfl, by simp⟩
  | c :: cs, ds, h => by
    unfold rensO at h
    split at h
    rotate_left
    · cases h
    rename_i u us h1 h2
    simp only [Option.some.injEq] at h
    subst h
    obtain ⟨g1, g2⟩ := rensO_get h2
    refine ⟨by simp [g1], fun k v hv => ?_⟩
    cases k with
    | zero => simp only [List.getElem?_cons_zero, Option.some.injEq] at hv; subst hv; exact ⟨c, rfl, h1⟩
    | succ k => exact g2 k v (by simpa using hv)

/-- What lies at a number lies, numbered anew, at the other. -/
def Turned (ρ : Nat → Option Nat) (β β' : List Loc) : Prop := ∀ i j loc, ρ i = some j → β[i]? = some loc → β'[j]? = some loc

theorem ren_R {w : World} {X : Nat → Nat → Prop} {ρ : Nat → Option Nat} {β β' : List Loc} (hρ : Turned ρ β β') {v : V} {x : Value} (h : R w X β v x) :
    ∀ v', V.ren? ρ v = some v' → R w X β' v' x := by
  induction h generalizing β' with
  | int => intro v' h; simp only [V.ren?, Option.some.injEq] at h; subst h; exact .int β' _ _
  | bool => intro v' h; simp only [V.ren?, Option.some.injEq] at h; subst h; exact .bool β' _
  | str => intro v' h; simp only [V.ren?, Option.some.injEq] at h; subst h; exact .str β' _
  | val => intro v' h; simp only [V.ren?, Option.some.injEq] at h; subst h; exact .val β' _
  | any => intro v' h; simp only [V.ren?, Option.some.injEq] at h; subst h; exact .any β' _
  | rng β k lo hi n hr => intro v' h; simp only [V.ren?, Option.some.injEq] at h; subst h; exact .rng β' k lo hi n hr
  | pin β cells b o f hc hr ih => intro v' h; simp only [V.ren?, Option.some.injEq] at h; subst h; exact .pin β' cells b o f hc hr
  | sl β c l spare fl b o cap f hcap hfull hrw hc hr ih =>
    intro v' h; simp only [V.ren?, Option.some.injEq] at h; subst h; exact .sl β' c l spare fl b o cap f hcap hfull hrw hc hr
  | nil β c => intro v' h; simp only [V.ren?, Option.some.injEq] at h; subst h; exact .nil β' c
  | gro β id c l b o cap loc f hid hk hn hl hcap hc hr ih =>
    intro v' h
    unfold V.ren? at h
    split at h
    rotate_left
    · cases h
    rename_i j hj
    simp only [Option.some.injEq] at h
    subst h
    exact .gro β' j c l b o cap loc f (hρ _ _ _ hj hid) hk hn hl hcap hc hr
  | ptr β id off loc hid hk =>
    intro v' h
    unfold V.ren? at h
    split at h
    rotate_left
    · cases h
    rename_i j hj
    simp only [Option.some.injEq] at h
    subst h
    exact .ptr β' j off loc (hρ _ _ _ hj hid) hk
  | ref β id sz off len loc b o cap hid hk hlen ha hcap =>
    intro v' h
    unfold V.ren? at h
    split at h
    rotate_left
    · cases h
    rename_i j hj
    simp only [Option.some.injEq] at h
    subst h
    exact .ref β' j sz off len loc b o cap (hρ _ _ _ hj hid) hk hlen ha hcap
  | mp β id loc hid hk =>
    intro v' h
    unfold V.ren? at h
    split at h
    rotate_left
    · cases h
    rename_i j hj
    simp only [Option.some.injEq] at h
    subst h
    exact .mp β' j loc (hρ _ _ _ hj hid) hk
  | agg β cells xs hl h ih =>
    intro v' h
    unfold V.ren? at h
    split at h
    rotate_left
    · cases h
    rename_i cs hcs
    simp only [Option.some.injEq] at h
    subst h
    obtain ⟨g1, g2⟩ := rens_get hcs
    refine .agg β' cs xs (by omega) (fun k v x hv hx => ?_)
    obtain ⟨u, hu, hu'⟩ := g2 k v hv
    exact ih k u x hu hx hρ v hu'
  | tup β cells xs hl h ih =>
    intro v' h
    unfold V.ren? at h
    split at h
    rotate_left
    · cases h
    rename_i cs hcs
    simp only [Option.some.injEq] at h
    subst h
    obtain ⟨g1, g2⟩ := rens_get hcs
    refine .tup β' cs xs (by omega) (fun k v x hv hx => ?_)
    obtain ⟨u, hu, hu'⟩ := g2 k v hv
    exact ih k u x hu hx hρ v hu'
  | ifc β t v x h ih =>
    intro v' h
    unfold V.ren? at h
    split at h
    rotate_left
    · cases h
    rename_i u hu
    simp only [Option.some.injEq] at h
    subst h
    exact .ifc β' t u x (ih hρ u hu)
  | clo β fn as bs xs ys hl hm h h' ih ih' =>
    intro v' h
    unfold V.ren? at h
    split at h
    rotate_left
    · cases h
    rename_i cs ds hcs hds
    simp only [Option.some.injEq] at h
    subst h
    obtain ⟨g1, g2⟩ := rens_get hcs
    obtain ⟨g3, g4⟩ := rens_get hds
    refine .clo β' fn cs ds xs ys (by omega) (by omega) (fun k v x hv hx => ?_) (fun k v x hv hx => ?_)
    · obtain ⟨u, hu, hu'⟩ := g2 k v hv
      exact ih k u x hu hx hρ v hu'
    · obtain ⟨u, hu, hu'⟩ := g4 k v hv
      exact ih' k u x hu hx hρ v hu'

theorem R.weak {w : World} {X X' : Nat → Nat → Prop} {β : List Loc} {v : V} {x : Value} (h : R w X β v x) (hX : ∀ b o, X' b o → X b o) : R w X' β v x :=
  h.stab ⟨fun b o _ h1 h2 => ⟨fun h => h1 (hX b o h), h2⟩, fun _ cs e h => ⟨cs, e, h⟩⟩ β (.refl _)

/-! The numbers. -/

theorem hasN_iff {i : Nat} : ∀ {l : List Nat}, hasN i l = true ↔ i ∈ l
  | [] => by simp [hasN]
  | j :: l => by
    unfold hasN
    cases hb : Nat.beq i j
    · have : i ≠ j := fun e => by subst e; simp at hb
      simp [hasN_iff, this]
    · have := Nat.eq_of_beq_eq_true hb
      simp [this]

theorem place_some {i k : Nat} : ∀ {σ : List Nat}, place i σ = some k → σ[k]? = some i
  | [], h => by cases h
  | j :: σ, h => by
    unfold place at h
    cases hb : Nat.beq i j
    · simp only [hb, cond_false] at h
      split at h
      rotate_left
      · cases h
      rename_i m hm
      simp only [Option.some.injEq] at h
      subst h
      simpa using place_some hm
    · simp only [hb, cond_true, Option.some.injEq] at h
      subst h
      simp [Nat.eq_of_beq_eq_true hb]

theorem noDup_cons {i : Nat} {σ : List Nat} (h : noDup (i :: σ) = true) : i ∉ σ ∧ noDup σ = true := by
  unfold noDup at h
  cases hb : hasN i σ
  · simp only [hb, cond_false] at h
    exact ⟨fun hm => (by rw [hasN_iff.2 hm] at hb; cases hb), h⟩
  · simp [hb] at h

theorem noDup_inj : ∀ {σ : List Nat} {i j k : Nat}, noDup σ = true → σ[i]? = some k → σ[j]? = some k → i = j
  | [], i, j, k, _, h, _ => by simp at h
  | s :: σ, i, j, k, hd, hi, hj => by
    obtain ⟨h1, h2⟩ := noDup_cons hd
    cases i with
    | zero =>
      cases j with
      | zero => rfl
      | succ j =>
        simp only [List.getElem?_cons_zero, Option.some.injEq, List.getElem?_cons_succ] at hi hj
        subst hi
        exact absurd (List.mem_of_getElem? hj) h1
    | succ i =>
      cases j with
      | zero =>
        simp only [List.getElem?_cons_zero, Option.some.injEq, List.getElem?_cons_succ] at hi hj
        subst hj
        exact absurd (List.mem_of_getElem? hi) h1
      | succ j =>
        simp only [List.getElem?_cons_succ] at hi hj
        rw [noDup_inj h2 hi hj]

theorem setAll_len {α : Type} : ∀ (H : List α) (σ : List Nat) (os : List α), σ.length ≤ os.length → (setAll H σ os).length = H.length + (os.length - σ.length)
  | H, [], os, _ => by cases os <;> simp [setAll]
  | H, s :: σ, [], h => by simp at h
  | H, s :: σ, o :: os, h => by
    simp only [setAll]
    rw [setAll_len _ σ os (by simpa using h)]
    simp

theorem setAll_old {α : Type} : ∀ (H : List α) (σ : List Nat) (os : List α) (i : Nat), i < H.length → i ∉ σ → σ.length ≤ os.length → (setAll H σ os)[i]? = H[i]?
  | H, [], os, i, hi, _, _ => by cases os <;> simp [setAll, List.getElem?_append_left, hi]
  | H, s :: σ, [], i, _, _, h => by simp at h
  | H, s :: σ, o :: os, i, hi, hn, h => by
    simp only [setAll]
    rw [setAll_old _ σ os i (by simpa using hi) (fun h => hn (List.mem_cons_of_mem _ h)) (by simpa using h)]
    have : s ≠ i := fun e => hn (by simp [e])
    simp [this]

theorem backTo_succ (s : Nat) (σ : List Nat) (n k : Nat) : backTo (s :: σ) n (k + 1) = backTo σ n k := by
  simp [backTo, Nat.succ_sub_succ]

theorem setAll_new {α : Type} : ∀ (H : List α) (σ : List Nat) (os : List α) (i j : Nat), noDup σ = true → (∀ s ∈ σ, s < H.length) → σ.length ≤ os.length → backTo σ H.length j = some i → (setAll H σ os)[i]? = os[j]?
  | H, [], os, i, j, _, _, _, h => by
    simp only [backTo, List.getElem?_nil, List.length_nil, Nat.sub_zero, Option.some.injEq] at h
    subst h
    have : setAll H [] os = H ++ os := by cases os <;> rfl
    rw [this, List.getElem?_append_right (by omega)]
    simp
  | H, s :: σ, [], _, _, _, _, h, _ => by simp at h
  | H, s :: σ, o :: os, i, j, hd, hs, hl, h => by
    obtain ⟨h1, h2⟩ := noDup_cons hd
    simp only [setAll]
    cases j with
    | zero =>
      simp only [backTo, List.getElem?_cons_zero, Option.some.injEq] at h
      subst h
      rw [setAll_old _ σ os s (by simpa using hs s (by simp)) h1 (by simpa using hl)]
      simp [hs s (by simp)]
    | succ j =>
      rw [backTo_succ] at h
      rw [setAll_new (H.set s o) σ os i j h2 (fun s' h' => by simpa using hs s' (by simp [h'])) (by simpa using hl) (by simpa using h)]
      simp

theorem backTo_all {σ : List Nat} {n i : Nat} (h : ¬ (i < n ∧ i ∉ σ)) : ∃ j, backTo σ n j = some i := by
  by_cases hi : i ∈ σ
  · obtain ⟨j, hj, he⟩ := List.getElem_of_mem hi
    exact ⟨j, by simp [backTo, hj, he]⟩
  · refine ⟨σ.length + (i - n), ?_⟩
    have : n ≤ i := by
      rcases Nat.lt_or_ge i n with h' | h'
      · exact absurd ⟨h', hi⟩ h
      · exact h'
    simp only [backTo]
    rw [List.getElem?_eq_none (by omega)]
    simp
    omega

theorem pickO_get {H : List O} : ∀ {σ : List Nat} {os : List O}, pickO H σ = some os → os.length = σ.length ∧ ∀ (k i : Nat), σ[k]? = some i → i < H.length ∧ os[k]? = H[i]?
  | [], os, h => by
    simp only [pickO, Option.some.injEq] at h
    subst h
    exact ⟨rfl, by simp⟩
  | s :: σ, os, h => by
    unfold pickO at h
    split at h
    rotate_left
    · cases h
    rename_i o os' h1 h2
    simp only [Option.some.injEq] at h
    subst h
    obtain ⟨g1, g2⟩ := pickO_get h2
    refine ⟨by simp [g1], fun k i hk => ?_⟩
    cases k with
    | zero =>
      simp only [List.getElem?_cons_zero, Option.some.injEq] at hk
      subst hk
      exact ⟨(List.getElem?_eq_some_iff.1 h1).1, by simp [h1]⟩
    | succ k => simpa using g2 k i (by simpa using hk)

end Go.Ab

namespace Go.Ab
section
variable {E : Nat → Nat → Prop} {H Hs os : List O} {β : List Loc} {w : World} {σ : List Nat}

/-- The places of the chosen objects. -/
def pickL (β : List Loc) (σ : List Nat) : List Loc := σ.filterMap fun i => β[i]?

theorem pickL_get : ∀ {σ : List Nat}, (∀ i ∈ σ, i < β.length) → (pickL β σ).length = σ.length ∧ ∀ (k i : Nat), σ[k]? = some i → (pickL β σ)[k]? = β[i]?
  | [], _ => ⟨rfl, by simp⟩
  | s :: σ, h => by
    have hs : s < β.length := h s (by simp)
    obtain ⟨g1, g2⟩ := pickL_get (σ := σ) (fun i hi => h i (by simp [hi]))
    have e : pickL β (s :: σ) = β[s] :: pickL β σ := by simp [pickL, hs]
    rw [e]
    refine ⟨by simp [g1], fun k i hk => ?_⟩
    cases k with
    | zero => simp only [List.getElem?_cons_zero, Option.some.injEq] at hk; subst hk; simp [hs]
    | succ k => simpa using g2 k i (by simpa using hk)

/-- An object, numbered anew, is as it was. -/
theorem oren_tok {ρ : Nat → Option Nat} {o : O} {n sz : Nat} (h : O.ren? ρ o = some (.tok n sz)) : o = .tok n sz := by
  cases o with
  | cells cs e =>
    simp only [O.ren?] at h
    split at h <;> cases h
  | tok a b => simpa [O.ren?] using h
  | obj sh vs =>
    simp only [O.ren?] at h
    split at h <;> cases h
  | dead => simp [O.ren?] at h
theorem oren_cells {ρ : Nat → Option Nat} {o : O} {cs : List V} {e : TypeId} (h : O.ren? ρ o = some (.cells cs e)) : ∃ cs', o = .cells cs' e ∧ V.rens? ρ cs' = some cs := by
  cases o with
  | cells ds e' =>
    simp only [O.ren?] at h
    split at h
    rotate_left
    · cases h
    rename_i us hu
    cases h
    exact ⟨ds, rfl, hu⟩
  | tok a b => simp [O.ren?] at h
  | obj sh vs =>
    simp only [O.ren?] at h
    split at h <;> cases h
  | dead => simp [O.ren?] at h
theorem oren_obj {ρ : Nat → Option Nat} {o : O} {sh : Shape} {vs : List V} (h : O.ren? ρ o = some (.obj sh vs)) : ∃ vs', o = .obj sh vs' ∧ V.rens? ρ vs' = some vs := by
  cases o with
  | obj sh' ds =>
    simp only [O.ren?] at h
    split at h
    rotate_left
    · cases h
    rename_i us hu
    cases h
    exact ⟨ds, rfl, hu⟩
  | tok a b => simp [O.ren?] at h
  | cells cs e =>
    simp only [O.ren?] at h
    split at h <;> cases h
  | dead => simp [O.ren?] at h
theorem oren_live {ρ : Nat → Option Nat} {o o' : O} (h : O.ren? ρ o = some o') : o' ≠ .dead ↔ o ≠ .dead := by
  cases o with
  | cells cs e =>
    simp only [O.ren?] at h
    split at h
    · cases h; simp
    · cases h
  | tok a b => simp only [O.ren?, Option.some.injEq] at h; subst h; simp
  | obj sh vs =>
    simp only [O.ren?] at h
    split at h
    · cases h; simp
    · cases h
  | dead => simp only [O.ren?, Option.some.injEq] at h; subst h; simp

/-- Who owns a cell lives; who lives owns one. -/
theorem own_at {b o i : Nat} {loc : Loc} (hl : β[i]? = some loc) (hb : loc.block = b) (h : (∃ cs e, H[i]? = some (.cells cs e)) ∨ (∃ n sz, H[i]? = some (.tok n sz) ∧ loc.base + n * sz ≤ o) ∨ (∃ sh vs, H[i]? = some (.obj sh vs))) : Own H β b o ∧ live H i :=
  ⟨⟨i, loc, hl, hb, h⟩, by
    rcases h with ⟨cs, e, h⟩ | ⟨n, sz, h, _⟩ | ⟨sh, vs, h⟩
    · exact ⟨_, h, by simp⟩
    · exact ⟨_, h, by simp⟩
    · exact ⟨_, h, by simp⟩⟩

theorem live_own {i : Nat} {loc : Loc} (h : live H i) (hl : β[i]? = some loc) : ∃ o, Own H β loc.block o := by
  obtain ⟨o, h1, h2⟩ := h
  cases o with
  | cells cs e => exact ⟨0, i, loc, hl, rfl, .inl ⟨cs, e, h1⟩⟩
  | tok n sz => exact ⟨loc.base + n * sz, i, loc, hl, rfl, .inr (.inl ⟨n, sz, h1, Nat.le_refl _⟩)⟩
  | obj sh vs => exact ⟨0, i, loc, hl, rfl, .inr (.inr ⟨sh, vs, h1⟩)⟩
  | dead => exact absurd rfl h2

theorem Own.live_of {b o : Nat} (h : Own H β b o) : ∃ i loc, live H i ∧ β[i]? = some loc ∧ loc.block = b := by
  obtain ⟨i, loc, h1, h2, h3⟩ := h
  exact ⟨i, loc, (own_at (o := o) h1 h2 h3).2, h1, h2⟩

/-- What stays closed in the call. -/
def Shut (E : Nat → Nat → Prop) (H : List O) (β : List Loc) (Hs : List O) (βs : List Loc) (b o : Nat) : Prop := Xs E H β b o ∧ ¬ Own Hs βs b o

structure Into (E : Nat → Nat → Prop) (H : List O) (β : List Loc) (w : World) (σ : List Nat) (Hs : List O) (βs : List Loc) : Prop where
  rel : Rel w (Xs (Shut E H β Hs βs) Hs βs) Hs βs
  sub : ∀ b o, Own Hs βs b o → Own H β b o
  same : Xs (Shut E H β Hs βs) Hs βs = Xs E H β
  old : ∀ b o, Shut E H β Hs βs b o → b < w.heap.size ∧ ¬ Own Hs βs b o
  lens : βs.length = σ.length ∧ Hs.length = σ.length
  get : ∀ (k i : Nat), σ[k]? = some i → i < H.length ∧ βs[k]? = β[i]? ∧ (live Hs k ↔ live H i)

theorem into (hE : ∀ b o, E b o → b < w.heap.size ∧ ¬ Own H β b o) (hR : Rel w (Xs E H β) H β) (hσ : noDup σ = true) (hp : pickO H σ = some os)
    (hr : rensO (fun i => place i σ) os = some Hs) : Into E H β w σ Hs (pickL β σ) ∧ Turned (fun i => place i σ) β (pickL β σ) := by
  obtain ⟨p1, p2⟩ := pickO_get hp
  obtain ⟨r1, r2⟩ := rensO_get hr
  have hlt : ∀ i ∈ σ, i < β.length := fun i hi => by
    obtain ⟨k, hk⟩ := List.getElem?_of_mem hi
    rw [← hR.len]; exact (p2 k i hk).1
  obtain ⟨l1, l2⟩ := pickL_get (β := β) hlt
  have hturn : Turned (fun i => place i σ) β (pickL β σ) := fun i j loc h1 h2 => by rw [l2 j i (place_some h1), h2]
  -- an object of the call is one of the caller's
  have back : ∀ (k : Nat) o, Hs[k]? = some o → ∃ i u, σ[k]? = some i ∧ H[i]? = some u ∧ O.ren? (fun i => place i σ) u = some o := by
    intro k o h
    obtain ⟨u, hu, hu'⟩ := r2 k o h
    have hk : k < σ.length := by rw [← p1]; exact (List.getElem?_eq_some_iff.1 hu).1
    refine ⟨σ[k], u, by simp [hk], ?_, hu'⟩
    rw [← (p2 k σ[k] (by simp [hk])).2, hu]
  have hsub : ∀ b o, Own Hs (pickL β σ) b o → Own H β b o := by
    rintro b o ⟨k, loc, h1, h2, h3⟩
    have hk : k < σ.length := by rw [← l1]; exact (List.getElem?_eq_some_iff.1 h1).1
    have hk' : σ[k]? = some σ[k] := by simp [hk]
    rw [l2 k _ hk'] at h1
    refine ⟨σ[k], loc, h1, h2, ?_⟩
    rcases h3 with ⟨cs, e, h⟩ | ⟨n, sz, h, h'⟩ | ⟨sh, vs, h⟩
    · obtain ⟨i, u, e1, e2, e3⟩ := back k _ h
      rw [hk'] at e1
      simp only [Option.some.injEq] at e1
      subst e1
      obtain ⟨cs', rfl, _⟩ := oren_cells e3
      exact .inl ⟨cs', e, e2⟩
    · obtain ⟨i, u, e1, e2, e3⟩ := back k _ h
      rw [hk'] at e1
      simp only [Option.some.injEq] at e1
      subst e1
      have := oren_tok e3
      subst this
      exact .inr (.inl ⟨n, sz, e2, h'⟩)
    · obtain ⟨i, u, e1, e2, e3⟩ := back k _ h
      rw [hk'] at e1
      simp only [Option.some.injEq] at e1
      subst e1
      obtain ⟨vs', rfl, _⟩ := oren_obj e3
      exact .inr (.inr ⟨sh, vs', e2⟩)
  have hsame : Xs (Shut E H β Hs (pickL β σ)) Hs (pickL β σ) = Xs E H β := by
    funext b o
    apply propext
    constructor
    · rintro (⟨h, _⟩ | h)
      · exact h
      · exact .inr (hsub b o h)
    · intro h
      by_cases hh : Own Hs (pickL β σ) b o
      · exact .inr hh
      · exact .inl ⟨h, hh⟩
  have hlive : ∀ (k i : Nat), σ[k]? = some i → (live Hs k ↔ live H i) := by
    intro k i hk
    constructor
    · rintro ⟨o, h1, h2⟩
      obtain ⟨i', u, e1, e2, e3⟩ := back k o h1
      rw [hk] at e1
      simp only [Option.some.injEq] at e1
      subst e1
      exact ⟨u, e2, (oren_live e3).1 h2⟩
    · rintro ⟨u, h1, h2⟩
      have hk' : k < Hs.length := by rw [r1, p1]; exact (List.getElem?_eq_some_iff.1 hk).1
      have hget : Hs[k]? = some Hs[k] := by simp [hk']
      obtain ⟨i', u', e1, e2, e3⟩ := back k _ hget
      rw [hk] at e1
      simp only [Option.some.injEq] at e1
      subst e1
      rw [h1] at e2
      simp only [Option.some.injEq] at e2
      subst e2
      exact ⟨_, hget, (oren_live e3).2 h2⟩
  refine ⟨⟨?_, hsub, hsame, ?_, ⟨l1, by omega⟩, fun k i hk => ⟨(p2 k i hk).1, l2 k i hk, hlive k i hk⟩⟩, hturn⟩
  · rw [hsame]
    refine ⟨by omega, fun k cs e loc h1 h2 => ?_, fun k n sz loc h1 h2 => ?_, fun k sh vs loc h1 h2 => ?_, fun k k' l l' h1 h2 h3 h4 h5 => ?_⟩
    · obtain ⟨i, u, e1, e2, e3⟩ := back k _ h1
      obtain ⟨cs', rfl, hren⟩ := oren_cells e3
      rw [l2 k i e1] at h2
      obtain ⟨g1, c, e', g2, g3, g4, g5⟩ := hR.cells i cs' e loc e2 h2
      obtain ⟨q1, q2⟩ := rens_get hren
      refine ⟨g1, c, e', g2, g3, ⟨by have := g4.1; omega, fun he => by have := g4.2 he; omega⟩, fun m v hv => ?_⟩
      obtain ⟨u, hu, hu'⟩ := q2 m v hv
      obtain ⟨x, hx, hr⟩ := g5 m u hu
      exact ⟨x, hx, ren_R hturn hr v hu'⟩
    · obtain ⟨i, u, e1, e2, e3⟩ := back k _ h1
      have := oren_tok e3
      subst this
      rw [l2 k i e1] at h2
      exact hR.tok i n sz loc e2 h2
    · obtain ⟨i, u, e1, e2, e3⟩ := back k _ h1
      obtain ⟨vs', rfl, hren⟩ := oren_obj e3
      rw [l2 k i e1] at h2
      obtain ⟨g1, gb, ob, xs, g2, g3, g5⟩ := hR.objs i sh vs' loc e2 h2
      obtain ⟨q1, q2⟩ := rens_get hren
      refine ⟨g1, gb, ob, xs, g2, g3, fun m v hv => ?_⟩
      obtain ⟨u, hu, hu'⟩ := q2 m v hv
      obtain ⟨x, hx, hr⟩ := g5 m u hu
      exact ⟨x, hx, ren_R hturn hr v hu'⟩
    · have hk : k < σ.length := by rw [← l1]; exact (List.getElem?_eq_some_iff.1 h3).1
      have hk' : k' < σ.length := by rw [← l1]; exact (List.getElem?_eq_some_iff.1 h4).1
      have g1 : σ[k]? = some σ[k] := by simp [hk]
      have g2 : σ[k']? = some σ[k'] := by simp [hk']
      have := hR.disj σ[k] σ[k'] l l' ((hlive _ _ g1).1 h1) ((hlive _ _ g2).1 h2) (by rw [← l2 _ _ g1, h3]) (by rw [← l2 _ _ g2, h4]) h5
      rw [this] at g1
      exact noDup_inj hσ g1 g2
  · rintro b o ⟨h1, h2⟩
    refine ⟨?_, h2⟩
    rcases h1 with h | h
    · exact (hE b o h).1
    · exact own_lt hR h

variable {βs β2 : List Loc} {w' : World} {H2 H2' : List O}

theorem back_out (hE : ∀ b o, E b o → b < w.heap.size ∧ ¬ Own H β b o) (hR : Rel w (Xs E H β) H β) (hσ : noDup σ = true) (hi : Into E H β w σ Hs βs)
    (s : Step (Shut E H β Hs βs) Hs βs w H2 β2 w') (hl : σ.length ≤ H2.length) (hr : rensO (backTo σ H.length) H2 = some H2') :
    Step E H β w (setAll H σ H2') (setAll β σ β2) w' ∧ ∀ v v' y, R w' (Xs (Shut E H β Hs βs) H2 β2) β2 v y → V.ren? (backTo σ H.length) v = some v' → R w' (Xs E (setAll H σ H2') (setAll β σ β2)) (setAll β σ β2) v' y := by
  obtain ⟨r1, r2⟩ := rensO_get hr
  have hlb := hR.len
  have hl2 := s.rel.len
  have hlt : ∀ i ∈ σ, i < H.length := fun i h => by
    obtain ⟨k, hk⟩ := List.getElem?_of_mem h
    exact (hi.get k i hk).1
  have hlt' : ∀ i ∈ σ, i < β.length := fun i h => hlb ▸ hlt i h
  have newH : ∀ i j, backTo σ H.length j = some i → (setAll H σ H2')[i]? = H2'[j]? := fun i j h => setAll_new H σ H2' i j hσ hlt (by omega) h
  have newB : ∀ i j, backTo σ H.length j = some i → (setAll β σ β2)[i]? = β2[j]? := fun i j h => setAll_new β σ β2 i j hσ hlt' (by omega) (by rw [← hlb]; exact h)
  have oldH : ∀ i, i < H.length → i ∉ σ → (setAll H σ H2')[i]? = H[i]? := fun i h1 h2 => setAll_old H σ H2' i h1 h2 (by omega)
  have oldB : ∀ i, i < H.length → i ∉ σ → (setAll β σ β2)[i]? = β[i]? := fun i h1 h2 => setAll_old β σ β2 i (by omega) h2 (by omega)
  -- an object is an old one, or the call's
  have cases3 : ∀ (i : Nat) loc, (setAll β σ β2)[i]? = some loc → (i < H.length ∧ i ∉ σ ∧ β[i]? = some loc) ∨ ∃ j, backTo σ H.length j = some i ∧ β2[j]? = some loc := by
    intro i loc h
    by_cases hc : i < H.length ∧ i ∉ σ
    · exact .inl ⟨hc.1, hc.2, by rw [← oldB i hc.1 hc.2, h]⟩
    · obtain ⟨j, hj⟩ := backTo_all (σ := σ) (n := H.length) hc
      exact .inr ⟨j, hj, by rw [← newB i j hj, h]⟩
  have backH : ∀ (j : Nat) o, H2'[j]? = some o → ∃ u, H2[j]? = some u ∧ O.ren? (backTo σ H.length) u = some o := r2
  have ownNew : ∀ i j loc b o, backTo σ H.length j = some i → β2[j]? = some loc → loc.block = b →
      ((∃ cs e, (setAll H σ H2')[i]? = some (.cells cs e)) ∨ (∃ n sz, (setAll H σ H2')[i]? = some (.tok n sz) ∧ loc.base + n * sz ≤ o) ∨ (∃ sh vs, (setAll H σ H2')[i]? = some (.obj sh vs))) → Own H2 β2 b o := by
    intro i j loc b o h1 h2 h3 h4
    refine ⟨j, loc, h2, h3, ?_⟩
    rw [newH i j h1] at h4
    rcases h4 with ⟨cs, e, h⟩ | ⟨n, sz, h, h'⟩ | ⟨sh, vs, h⟩
    · obtain ⟨u, hu, hu'⟩ := backH j _ h
      obtain ⟨cs', rfl, _⟩ := oren_cells hu'
      exact .inl ⟨cs', e, hu⟩
    · obtain ⟨u, hu, hu'⟩ := backH j _ h
      have := oren_tok hu'
      subst this
      exact .inr (.inl ⟨n, sz, hu, h'⟩)
    · obtain ⟨u, hu, hu'⟩ := backH j _ h
      obtain ⟨vs', rfl, _⟩ := oren_obj hu'
      exact .inr (.inr ⟨sh, vs', hu⟩)
  have ownSplit : ∀ b o, Own (setAll H σ H2') (setAll β σ β2) b o → (∃ i loc, i < H.length ∧ i ∉ σ ∧ β[i]? = some loc ∧ loc.block = b ∧ live H i ∧ Own H β b o) ∨ Own H2 β2 b o := by
    rintro b o ⟨i, loc, h1, h2, h3⟩
    rcases cases3 i loc h1 with ⟨g1, g2, g3⟩ | ⟨j, g1, g2⟩
    · rw [oldH i g1 g2] at h3
      obtain ⟨a1, a2⟩ := own_at (o := o) g3 h2 h3
      exact .inl ⟨i, loc, g1, g2, g3, h2, a2, a1⟩
    · exact .inr (ownNew i j loc b o g1 g2 h2 h3)
  -- the old ones stand apart
  have apart : ∀ i loc, i ∉ σ → β[i]? = some loc → live H i → ∀ o, ¬ Own Hs βs loc.block o := by
    rintro i loc h1 h2 h3 o ho
    obtain ⟨k, l, g1, g2, g3⟩ := ho.live_of
    have hk : k < σ.length := by rw [← hi.lens.1]; exact (List.getElem?_eq_some_iff.1 g2).1
    obtain ⟨_, q2, q3⟩ := hi.get k σ[k] (by simp [hk])
    have := hR.disj i σ[k] loc l h3 (q3.1 g1) h2 (by rw [← q2, g2]) g3.symm
    exact h1 (by rw [this]; simp)
  have hX : ∀ b o, Xs E (setAll H σ H2') (setAll β σ β2) b o → Xs (Shut E H β Hs βs) H2 β2 b o := by
    rintro b o (h | h)
    · exact .inl ⟨.inl h, fun h' => (hE b o h).2 (hi.sub b o h')⟩
    · rcases ownSplit b o h with ⟨i, loc, g1, g2, g3, g4, g5, g6⟩ | h
      · subst g4
        exact .inl ⟨.inr g6, apart i loc g2 g3 g5 o⟩
      · exact .inr h
  have hturn : Turned (backTo σ H.length) β2 (setAll β σ β2) := fun j i loc h1 h2 => by rw [newB i j h1, h2]
  have hlocs : LocLe β (setAll β σ β2) := by
    intro i loc h
    by_cases hc : i ∈ σ
    · obtain ⟨k, hk⟩ := List.getElem?_of_mem hc
      obtain ⟨q1, q2, _⟩ := hi.get k i hk
      obtain ⟨loc', g1, g2⟩ := s.locs k loc (by rw [q2, h])
      exact ⟨loc', by rw [newB i k (by simp [backTo, hk]), g1], g2⟩
    · have : i < H.length := by rw [hlb]; exact (List.getElem?_eq_some_iff.1 h).1
      exact ⟨loc, by rw [oldB i this hc, h], .inl rfl⟩
  have hstab := s.stab
  rw [hi.same] at hstab
  have keep : ∀ v x, R w (Xs E H β) β v x → R w' (Xs E (setAll H σ H2') (setAll β σ β2)) (setAll β σ β2) v x := fun v x h => (h.stab hstab _ hlocs).weak hX
  have turnR : ∀ v v' y, R w' (Xs (Shut E H β Hs βs) H2 β2) β2 v y → V.ren? (backTo σ H.length) v = some v' → R w' (Xs E (setAll H σ H2') (setAll β σ β2)) (setAll β σ β2) v' y :=
    fun v v' y h hv => (ren_R hturn h v' hv).weak hX
  -- a block of an old object stays
  have stay : ∀ i loc, i ∉ σ → β[i]? = some loc → live H i → loc.block < w.heap.size → w'.heap[loc.block]? = w.heap[loc.block]? := by
    intro i loc h1 h2 h3 h4
    rcases s.pres loc.block h4 with h | ⟨⟨o, h⟩, _⟩ | ⟨⟨o, h⟩, _⟩
    · exact h
    · exact absurd h (apart i loc h1 h2 h3 o)
    · exact absurd h (apart i loc h1 h2 h3 o)
  refine ⟨⟨⟨?_, fun i cs e loc h1 h2 => ?_, fun i n sz loc h1 h2 => ?_, fun i sh vs loc h1 h2 => ?_, ?_⟩, s.os, s.tape, s.output, s.size, fun b hb => ?_, fun b o h => ?_, hlocs⟩, turnR⟩
  · rw [setAll_len _ _ _ (by omega), setAll_len _ _ _ (by omega)]; omega
  · rcases cases3 i loc h2 with ⟨g1, g2, g3⟩ | ⟨j, g1, g2⟩
    · rw [oldH i g1 g2] at h1
      obtain ⟨a1, c, e', a2, a3, a4, a5⟩ := hR.cells i cs e loc h1 g3
      refine ⟨a1, c, e', ?_, a3, a4, fun k v hv => let ⟨x, hx, hr⟩ := a5 k v hv; ⟨x, hx, keep v x hr⟩⟩
      rw [stay i loc g2 g3 ⟨_, h1, by simp⟩ (heap_lt a2)]; exact a2
    · rw [newH i j g1] at h1
      obtain ⟨u, hu, hu'⟩ := backH j _ h1
      obtain ⟨cs', rfl, hcs⟩ := oren_cells hu'
      obtain ⟨a1, c, e', a2, a3, a4, a5⟩ := s.rel.cells j cs' e loc hu g2
      obtain ⟨q1, q2⟩ := rens_get hcs
      refine ⟨a1, c, e', a2, a3, ⟨by have := a4.1; omega, fun he => by have := a4.2 he; omega⟩, fun k v hv => ?_⟩
      obtain ⟨u, hu, hu'⟩ := q2 k v hv
      obtain ⟨x, hx, hr⟩ := a5 k u hu
      exact ⟨x, hx, turnR u v x hr hu'⟩
  · rcases cases3 i loc h2 with ⟨g1, g2, g3⟩ | ⟨j, g1, g2⟩
    · rw [oldH i g1 g2] at h1
      obtain ⟨a1, a2, c, e', a3, a4⟩ := hR.tok i n sz loc h1 g3
      refine ⟨a1, a2, c, e', ?_, a4⟩
      rw [stay i loc g2 g3 ⟨_, h1, by simp⟩ (heap_lt a3)]; exact a3
    · rw [newH i j g1] at h1
      obtain ⟨u, hu, hu'⟩ := backH j _ h1
      have := oren_tok hu'
      subst this
      exact s.rel.tok j n sz loc hu g2
  · rcases cases3 i loc h2 with ⟨g1, g2, g3⟩ | ⟨j, g1, g2⟩
    · rw [oldH i g1 g2] at h1
      obtain ⟨a1, ab, ob, xs, a2, a3, a5⟩ := hR.objs i sh vs loc h1 g3
      refine ⟨a1, ab, ob, xs, ?_, a3, fun k v hv => let ⟨x, hx, hr⟩ := a5 k v hv; ⟨x, hx, keep v x hr⟩⟩
      rw [stay i loc g2 g3 ⟨_, h1, by simp⟩ (heap_lt a2)]; exact a2
    · rw [newH i j g1] at h1
      obtain ⟨u, hu, hu'⟩ := backH j _ h1
      obtain ⟨vs', rfl, hcs⟩ := oren_obj hu'
      obtain ⟨a1, ab, ob, xs, a2, a3, a5⟩ := s.rel.objs j sh vs' loc hu g2
      obtain ⟨q1, q2⟩ := rens_get hcs
      refine ⟨a1, ab, ob, xs, a2, a3, fun k v hv => ?_⟩
      obtain ⟨u, hu, hu'⟩ := q2 k v hv
      obtain ⟨x, hx, hr⟩ := a5 k u hu
      exact ⟨x, hx, turnR u v x hr hu'⟩
  · -- two that live lie apart
    have half : ∀ i i' l l', live (setAll H σ H2') i → live (setAll H σ H2') i' → i < H.length ∧ i ∉ σ ∧ β[i]? = some l → (∃ j, backTo σ H.length j = some i' ∧ β2[j]? = some l') → l.block = l'.block → False := by
      rintro i i' l l' h1 h2 ⟨g1, g2, g3⟩ ⟨j, a1, a2⟩ hb
      have hli : live H i := by obtain ⟨o, e1, e2⟩ := h1; exact ⟨o, by rw [← oldH i g1 g2, e1], e2⟩
      have hlj : live H2 j := by
        obtain ⟨o, e1, e2⟩ := h2
        rw [newH i' j a1] at e1
        obtain ⟨u, hu, hu'⟩ := backH j _ e1
        exact ⟨u, hu, (oren_live hu').1 e2⟩
      obtain ⟨o, ho⟩ := live_own hlj a2
      rcases s.own _ o ho with h | h
      · rw [← hb] at h; exact apart i l g2 g3 hli o h
      · obtain ⟨o', ho'⟩ := live_own hli g3
        have := own_lt hR ho'
        omega
    intro i i' l l' h1 h2 h3 h4 h5
    rcases cases3 i l h3 with g | g
    · rcases cases3 i' l' h4 with k | k
      · have hli : live H i := by obtain ⟨o, e1, e2⟩ := h1; exact ⟨o, by rw [← oldH i g.1 g.2.1, e1], e2⟩
        have hli' : live H i' := by obtain ⟨o, e1, e2⟩ := h2; exact ⟨o, by rw [← oldH i' k.1 k.2.1, e1], e2⟩
        exact hR.disj i i' l l' hli hli' g.2.2 k.2.2 h5
      · exact (half i i' l l' h1 h2 g k h5).elim
    · rcases cases3 i' l' h4 with k | k
      · exact (half i' i l' l h2 h1 k g h5.symm).elim
      · obtain ⟨j, a1, a2⟩ := g
        obtain ⟨j', b1, b2⟩ := k
        have lv : ∀ i j, live (setAll H σ H2') i → backTo σ H.length j = some i → live H2 j := by
          rintro i j ⟨o, e1, e2⟩ a1
          rw [newH i j a1] at e1
          obtain ⟨u, hu, hu'⟩ := backH j _ e1
          exact ⟨u, hu, (oren_live hu').1 e2⟩
        have := s.rel.disj j j' l l' (lv i j h1 a1) (lv i' j' h2 b1) a2 b2 h5
        subst this
        rw [a1] at b1
        exact Option.some.inj b1
  · rcases s.pres b hb with h | ⟨⟨o, ho⟩, c, c', e, h1, h2, h3, h4⟩ | ⟨⟨o, ho⟩, x, y, h1, h2, h3, h4⟩
    · exact .inl h
    · exact .inr (.inl ⟨⟨o, hi.sub b o ho⟩, c, c', e, h1, h2, h3, fun o h => h4 o (fun h' => h (hi.sub b o h'))⟩)
    · exact .inr (.inr ⟨⟨o, hi.sub b o ho⟩, x, y, h1, h2, h3, h4⟩)
  · rcases ownSplit b o h with ⟨i, loc, g1, g2, g3, g4, g5, g6⟩ | h
    · exact .inl g6
    · rcases s.own b o h with h | h
      · exact .inl (hi.sub b o h)
      · exact .inr h

end
end Go.Ab

namespace Go.Ab

def Sound (P : Program) (f : Nat) (s : Spec) : Prop := ∀ args out, (s args).run = some out → PCall P f args out

/-- A call of a function that the model stands in for: it answers at once, and leaves the world. -/
def XCall (P : Program) (f : Nat) (args : List V) (out : V) : Prop :=
  ∀ (w : World) (X : Nat → Nat → Prop) (β : List Loc) (rargs : List Value), rargs.length = args.length →
    (∀ (k : Nat) (v : V) (x : Value), args[k]? = some v → rargs[k]? = some x → R w X β v x) → ∃ y, (callFunc f rargs.toArray).run P w = .ok (.value y) w ∧ R w X β out y
def XSound (P : Program) (f : Nat) (s : Spec) : Prop := ∀ args out, (s args).run = some out → XCall P f args out

def TabOk (P : Program) (tab : List (Nat × Spec)) : Prop := ∀ p ∈ tab, Sound P p.1 p.2 ∨ XSound P p.1 p.2

theorem TabOk.nil (P : Program) : TabOk P [] := fun p h => by cases h
theorem TabOk.cons {P : Program} {f : Nat} {s : Spec} {tab : List (Nat × Spec)} (h : Sound P f s) (ht : TabOk P tab) : TabOk P ((f, s) :: tab) := by
  intro p hp
  rcases List.mem_cons.1 hp with rfl | hp
  · exact .inl h
  · exact ht p hp
theorem TabOk.consX {P : Program} {f : Nat} {s : Spec} {tab : List (Nat × Spec)} (h : XSound P f s) (ht : TabOk P tab) : TabOk P ((f, s) :: tab) := by
  intro p hp
  rcases List.mem_cons.1 hp with rfl | hp
  · exact .inr h
  · exact ht p hp

/-- All that a function's context tells is so. -/
def CxOk (cx : Cx) : Prop := TabOk cx.P cx.tab ∧ MTabOk cx.P cx.mtab ∧ RTabOk cx.P cx.rtab ∧ ∀ p ∈ cx.globs, p ∈ globsOf cx.P

theorem look_spec {f : Nat} {args : List V} {out : V} : ∀ {tab : List (Nat × Spec)}, (look f tab args).run = some out → ∃ s, (f, s) ∈ tab ∧ (s args).run = some out
  | [], h => by cases h
  | (g, s) :: r, h => by
    unfold look at h
    cases hb : Nat.beq f g
    · simp only [hb, cond_false] at h
      obtain ⟨s', h1, h2⟩ := look_spec h
      exact ⟨s', List.mem_cons_of_mem _ h1, h2⟩
    · simp only [hb, cond_true] at h
      have := Nat.eq_of_beq_eq_true hb
      subst this
      exact ⟨s, List.mem_cons_self, h⟩

section
variable {E : Nat → Nat → Prop} {H : List O} {β : List Loc} {w : World}

theorem own_nil (b o : Nat) : ¬ Own [] [] b o := by
  rintro ⟨id, l, h, _⟩
  simp at h

theorem rel_nil (w : World) (X : Nat → Nat → Prop) : Rel w X [] [] :=
  ⟨rfl, fun id cs e loc h => by simp at h, fun id n sz loc h => by simp at h, fun id sh vs loc h => by simp at h, fun i j l l' hi => by obtain ⟨o, h, _⟩ := hi; simp at h⟩

/-- What a call that only reads leaves. -/
theorem Step.of_pure {w' : World} (hR : Rel w (Xs E H β) H β) (s : Step (Xs E H β) [] [] w [] [] w') : Step E H β w H β w' ∧ ∀ v y, R w' (Xs E H β) [] v y → R w' (Xs E H β) β v y := by
  have hold : ∀ b, b < w.heap.size → w'.heap[b]? = w.heap[b]? := fun b hb => by
    rcases s.pres b hb with h | ⟨⟨o, h⟩, _⟩ | ⟨⟨o, h⟩, _⟩
    · exact h
    · exact absurd h (own_nil b o)
    · exact absurd h (own_nil b o)
  have st : Stab w (Xs E H β) w' (Xs E H β) :=
    ⟨fun b o v hx hv => ⟨hx, (cell_heap (hold b (cell_lt hv)) o).trans hv⟩, fun b cs e h => ⟨cs, e, by rw [hold b (heap_lt h)]; exact h⟩⟩
  refine ⟨⟨⟨hR.len, fun id cs e loc g1 g2 => ?_, fun id n sz loc g1 g2 => ?_, fun id sh vs loc g1 g2 => ?_, hR.disj⟩, s.os, s.tape, s.output, s.size, fun b hb => .inl (hold b hb), fun b o h => .inl h, .refl _⟩, fun v y h => h.up β⟩
  · obtain ⟨k, c, e', a1, a2, a3, a4⟩ := hR.cells id cs e loc g1 g2
    exact ⟨k, c, e', by rw [hold _ (heap_lt a1)]; exact a1, a2, a3, fun k v hv => let ⟨x, hx, hr⟩ := a4 k v hv; ⟨x, hx, hr.stab st _ (.refl _)⟩⟩
  · obtain ⟨k, m, c, e', a1, a2⟩ := hR.tok id n sz loc g1 g2
    exact ⟨k, m, c, e', by rw [hold _ (heap_lt a1)]; exact a1, a2⟩
  · obtain ⟨k, kb, ob, xs, a1, a2, a3⟩ := hR.objs id sh vs loc g1 g2
    exact ⟨k, kb, ob, xs, by rw [hold _ (heap_lt a1)]; exact a1, a2, fun k v hv => let ⟨x, hx, hr⟩ := a3 k v hv; ⟨x, hx, hr.stab st _ (.refl _)⟩⟩

variable {n : Nat} {t : T} {a : Act} {o : Oper} {cx : Cx} {K : Act → World → Prop} {Q : Exit → Act → World → Prop}

/-- What is to be shown behind an operation. -/
def Then (E : Nat → Nat → Prop) (H : List O) (β : List Loc) (w : World) (a : Act) (o : Oper) (K : Act → World → Prop) (Q : Exit → Act → World → Prop) : Res → Prop
  | .ok v H' => ∀ x w' β', Step E H β w H' β' w' → R w' (Xs E H' β') β' v x → K (a.put o.dst x) w'
  | .pan v H' => ∀ x w' β', Step E H β w H' β' w' → R w' (Xs E H' β') β' v x → Q (.panic [{ v := x, recovered := false }]) a w'

theorem wp_sem {P : Program} {s : Sem Value} {x : Value} {w' : World} (he : execOp a.eval o = (do pure (Next.value (← s)))) (hrun : s.run P w = .ok x w') (hk : K (a.put o.dst x) w') : o.wp P a w K Q := by
  unfold Oper.wp
  rw [he]
  simp only [Sem.run_bind, hrun, Result.andThen_ok]
  exact hk

theorem wp_unit {P : Program} {s : Sem Unit} {w' : World} (he : execOp a.eval o = (do s; pure Next.skip)) (hrun : s.run P w = .ok () w') (hk : K (a.put o.dst undef) w') : o.wp P a w K Q := by
  unfold Oper.wp
  rw [he]
  simp only [Sem.run_bind, hrun, Result.andThen_ok]
  exact hk

theorem pieces_get {X : Nat → Nat → Prop} {l : List (Nat × Operand)} (h : ∀ x : Operand, R w X β (rd t x) (a.eval x)) :
    ∀ (k : Nat) p q, (l.map fun p => (p.1, rd t p.2))[k]? = some p → (l.map fun p => (p.1, a.eval p.2))[k]? = some q → p.1 = q.1 ∧ R w X β p.2 q.2 := by
  intro k p q hp hq
  simp only [List.getElem?_map, Option.map_eq_some_iff] at hp hq
  obtain ⟨u, hu, rfl⟩ := hp
  obtain ⟨v, hv, rfl⟩ := hq
  rw [hu] at hv
  simp only [Option.some.injEq] at hv
  subst hv
  exact ⟨rfl, h u.2⟩

theorem holdO_run {H : List O} {v : Option V} {r : Res} (h : (holdO H v).run = some r) : ∃ u, v = some u ∧ r = .ok u H := by
  cases v with
  | none => cases h
  | some u => simp only [holdO, Tree.run, Option.some.injEq] at h; exact ⟨u, rfl, h.symm⟩

theorem bind_hold {H : List O} {x : Tree V} {r : Res} (h : (x.bind (hold H)).run = some r) : ∃ u, x.run = some u ∧ r = .ok u H := by
  obtain ⟨u, h1, h2⟩ := bind_run h
  simp only [hold, Tree.run, Option.some.injEq] at h2
  exact ⟨u, h1, h2.symm⟩

theorem bind_both {x : Tree (V × List O)} {r : Res} (h : (x.bind both).run = some r) : ∃ u H', x.run = some (u, H') ∧ r = .ok u H' := by
  obtain ⟨⟨u, H'⟩, h1, h2⟩ := bind_run h
  simp only [both, Tree.run, Option.some.injEq] at h2
  exact ⟨u, H', h1, h2.symm⟩

theorem optR_map {X : Nat → Nat → Prop} (h : ∀ x : Operand, R w X β (rd t x) (a.eval x)) (lo : Option Operand) : optR w X β (lo.map (rd t)) (lo.map a.eval) := by
  cases lo with
  | none => trivial
  | some x => exact h x

theorem sound_callM {P : Program} {cx : Cx} {f : Nat} {vs : List V} {xs : List Value} {res : Res} (hM : MTabOk P cx.mtab) (hE : StartOk P E H β w)
    (hR : Rel w (Xs E H β) H β) (hl : xs.length = vs.length) (hv : ∀ (k : Nat) (v : V) (x : Value), vs[k]? = some v → xs[k]? = some x → R w (Xs E H β) β v x)
    (h : (callM cx H f vs).run = some res) : Normal P f ∧ Calls P f xs.toArray w (Outcome E H β w res) := by
  unfold callM at h
  generalize reach H 64 (V.idss vs) [] = σ at h
  simp only at h
  split at h
  rotate_left
  · cases h
  rename_i os hos
  split at h
  rotate_left
  · cases h
  rename_i as Hs has hHs
  cases hd : noDup σ
  · simp [hd, Tree.run] at h
  simp only [hd, cond_true] at h
  obtain ⟨r, h1, h2⟩ := bind_run h
  obtain ⟨s, hs, hs'⟩ := lookM_spec h1
  obtain ⟨hnorm, hcalls⟩ := hM _ hs as Hs r hs'
  obtain ⟨hi, hturn⟩ := into hE.1 hR hd hos hHs
  obtain ⟨q1, q2⟩ := rens_get has
  refine ⟨hnorm, ?_⟩
  have := hcalls w (Shut E H β Hs (pickL β σ)) (pickL β σ) xs ⟨hi.old, by rw [hi.same]; exact hE.2⟩ hi.rel (by omega) (fun k v x h1 h2 => by
    obtain ⟨u, hu, hu'⟩ := q2 k v h1
    rw [hi.same]
    exact ren_R hturn (hv k u x hu h2) v hu')
  refine this.mono ?_
  intro e w' ho
  have back : ∀ v H2 k, (backRes H σ v H2 k).run = some res → ∃ v' H2', V.ren? (backTo σ H.length) v = some v' ∧ rensO (backTo σ H.length) H2 = some H2' ∧ σ.length ≤ H2.length ∧ res = k v' (setAll H σ H2') := by
    intro v H2 k hb
    unfold backRes at hb
    split at hb
    rotate_left
    · cases hb
    rename_i v' H2' e1 e2
    cases hle : Nat.ble σ.length H2'.length
    · simp [hle, Tree.run] at hb
    simp only [hle, cond_true, Tree.run, Option.some.injEq] at hb
    exact ⟨v', H2', e1, e2, by rw [← (rensO_get e2).1]; exact Nat.le_of_ble_eq_true hle, hb.symm⟩
  cases r with
  | ok v H2 =>
    obtain ⟨v', H2', e1, e2, e3, rfl⟩ := back v H2 _ h2
    obtain ⟨y, β2, he, st, hr⟩ := ho
    obtain ⟨s1, s2⟩ := back_out hE.1 hR hd hi st e3 e2
    exact ⟨y, _, he, s1, s2 v v' y hr e1⟩
  | pan v H2 =>
    obtain ⟨v', H2', e1, e2, e3, rfl⟩ := back v H2 _ h2
    obtain ⟨y, β2, he, st, hr⟩ := ho
    obtain ⟨s1, s2⟩ := back_out hE.1 hR hd hi st e3 e2
    exact ⟨y, _, he, s1, s2 v v' y hr e1⟩

/-! There and back. -/

mutual
theorem ren_back {ρ τ : Nat → Option Nat} (h : ∀ i j, ρ i = some j → τ j = some i) : ∀ (v u : V), V.ren? ρ v = some u → V.ren? τ u = some v
  | .int _ _, u, e => by simp only [V.ren?, Option.some.injEq] at e; subst e; rfl
  | .bool _, u, e => by simp only [V.ren?, Option.some.injEq] at e; subst e; rfl
  | .str _, u, e => by simp only [V.ren?, Option.some.injEq] at e; subst e; rfl
  | .val _, u, e => by simp only [V.ren?, Option.some.injEq] at e; subst e; rfl
  | .pin _, u, e => by simp only [V.ren?, Option.some.injEq] at e; subst e; rfl
  | .sl _ _ _ _, u, e => by simp only [V.ren?, Option.some.injEq] at e; subst e; rfl
  | .any, u, e => by simp only [V.ren?, Option.some.injEq] at e; subst e; rfl
  | .rng _ _ _, u, e => by simp only [V.ren?, Option.some.injEq] at e; subst e; rfl
  | .gro id c l, u, e => by
    unfold V.ren? at e
    split at e
    · rename_i j hj; simp only [Option.some.injEq] at e; subst e; unfold V.ren?; rw [h _ _ hj]
    · cases e
  | .ptr id off, u, e => by
    unfold V.ren? at e
    split at e
    · rename_i j hj; simp only [Option.some.injEq] at e; subst e; unfold V.ren?; rw [h _ _ hj]
    · cases e
  | .ref id sz off len, u, e => by
    unfold V.ren? at e
    split at e
    · rename_i j hj; simp only [Option.some.injEq] at e; subst e; unfold V.ren?; rw [h _ _ hj]
    · cases e
  | .mp id, u, e => by
    unfold V.ren? at e
    split at e
    · rename_i j hj; simp only [Option.some.injEq] at e; subst e; unfold V.ren?; rw [h _ _ hj]
    · cases e
  | .agg cs, u, e => by
    unfold V.ren? at e
    split at e
    · rename_i ds hd; simp only [Option.some.injEq] at e; subst e; unfold V.ren?; rw [rens_back h cs ds hd]
    · cases e
  | .tup cs, u, e => by
    unfold V.ren? at e
    split at e
    · rename_i ds hd; simp only [Option.some.injEq] at e; subst e; unfold V.ren?; rw [rens_back h cs ds hd]
    · cases e
  | .ifc t v, u, e => by
    unfold V.ren? at e
    split at e
    · rename_i d hd; simp only [Option.some.injEq] at e; subst e; unfold V.ren?; rw [ren_back h v d hd]
    · cases e
  | .clo g a b, u, e => by
    unfold V.ren? at e
    split at e
    · rename_i d f hd hf; simp only [Option.some.injEq] at e; subst e; unfold V.ren?; rw [rens_back h a d hd, rens_back h b f hf]
    · cases e
theorem rens_back {ρ τ : Nat → Option Nat} (h : ∀ i j, ρ i = some j → τ j = some i) : ∀ (l m : List V), V.rens? ρ l = some m → V.rens? τ m = some l
  | [], m, e => by simp only [V.rens?, Option.some.injEq] at e; subst e; rfl
  | v :: r, m, e => by
    unfold V.rens? at e
    split at e
    · rename_i d f hd hf; simp only [Option.some.injEq] at e; subst e; unfold V.rens?; rw [ren_back h v d hd, rens_back h r f hf]
    · cases e
end

mutual
theorem ren_le {ρ τ : Nat → Option Nat} (h : ∀ i j, ρ i = some j → τ i = some j) : ∀ (v u : V), V.ren? ρ v = some u → V.ren? τ v = some u
  | .int _ _, u, e => by simp only [V.ren?, Option.some.injEq] at e; subst e; rfl
  | .bool _, u, e => by simp only [V.ren?, Option.some.injEq] at e; subst e; rfl
  | .str _, u, e => by simp only [V.ren?, Option.some.injEq] at e; subst e; rfl
  | .val _, u, e => by simp only [V.ren?, Option.some.injEq] at e; subst e; rfl
  | .pin _, u, e => by simp only [V.ren?, Option.some.injEq] at e; subst e; rfl
  | .sl _ _ _ _, u, e => by simp only [V.ren?, Option.some.injEq] at e; subst e; rfl
  | .any, u, e => by simp only [V.ren?, Option.some.injEq] at e; subst e; rfl
  | .rng _ _ _, u, e => by simp only [V.ren?, Option.some.injEq] at e; subst e; rfl
  | .gro id c l, u, e => by
    unfold V.ren? at e
    split at e
    · rename_i j hj; simp only [Option.some.injEq] at e; subst e; unfold V.ren?; rw [h _ _ hj]
    · cases e
  | .ptr id off, u, e => by
    unfold V.ren? at e
    split at e
    · rename_i j hj; simp only [Option.some.injEq] at e; subst e; unfold V.ren?; rw [h _ _ hj]
    · cases e
  | .ref id sz off len, u, e => by
    unfold V.ren? at e
    split at e
    · rename_i j hj; simp only [Option.some.injEq] at e; subst e; unfold V.ren?; rw [h _ _ hj]
    · cases e
  | .mp id, u, e => by
    unfold V.ren? at e
    split at e
    · rename_i j hj; simp only [Option.some.injEq] at e; subst e; unfold V.ren?; rw [h _ _ hj]
    · cases e
  | .agg cs, u, e => by
    unfold V.ren? at e
    split at e
    · rename_i ds hd; simp only [Option.some.injEq] at e; subst e; unfold V.ren?; rw [rens_le h cs ds hd]
    · cases e
  | .tup cs, u, e => by
    unfold V.ren? at e
    split at e
    · rename_i ds hd; simp only [Option.some.injEq] at e; subst e; unfold V.ren?; rw [rens_le h cs ds hd]
    · cases e
  | .ifc t v, u, e => by
    unfold V.ren? at e
    split at e
    · rename_i d hd; simp only [Option.some.injEq] at e; subst e; unfold V.ren?; rw [ren_le h v d hd]
    · cases e
  | .clo g a b, u, e => by
    unfold V.ren? at e
    split at e
    · rename_i d f hd hf; simp only [Option.some.injEq] at e; subst e; unfold V.ren?; rw [rens_le h a d hd, rens_le h b f hf]
    · cases e
theorem rens_le {ρ τ : Nat → Option Nat} (h : ∀ i j, ρ i = some j → τ i = some j) : ∀ (l m : List V), V.rens? ρ l = some m → V.rens? τ l = some m
  | [], m, e => by simp only [V.rens?, Option.some.injEq] at e; subst e; rfl
  | v :: r, m, e => by
    unfold V.rens? at e
    split at e
    · rename_i d f hd hf; simp only [Option.some.injEq] at e; subst e; unfold V.rens?; rw [ren_le h v d hd, rens_le h r f hf]
    · cases e
end

theorem oren_back {ρ τ : Nat → Option Nat} (h : ∀ i j, ρ i = some j → τ j = some i) (o u : O) (e : O.ren? ρ o = some u) : O.ren? τ u = some o := by
  cases o with
  | cells cs t =>
    unfold O.ren? at e
    simp only at e
    split at e
    · rename_i ds hd; simp only [Option.some.injEq] at e; subst e; unfold O.ren?; simp only; rw [rens_back h cs ds hd]
    · cases e
  | tok n sz => simp only [O.ren?, Option.some.injEq] at e; subst e; rfl
  | obj sh vs =>
    unfold O.ren? at e
    simp only at e
    split at e
    · rename_i ds hd; simp only [Option.some.injEq] at e; subst e; unfold O.ren?; simp only; rw [rens_back h vs ds hd]
    · cases e
  | dead => simp only [O.ren?, Option.some.injEq] at e; subst e; rfl
theorem rensO_back {ρ τ : Nat → Option Nat} (h : ∀ i j, ρ i = some j → τ j = some i) : ∀ (l m : List O), rensO ρ l = some m → rensO τ m = some l
  | [], m, e => by simp only [rensO, Option.some.injEq] at e; subst e; rfl
  | v :: r, m, e => by
    unfold rensO at e
    split at e
    · rename_i d f hd hf; simp only [Option.some.injEq] at e; subst e; unfold rensO; rw [oren_back h v d hd, rensO_back h r f hf]
    · cases e
theorem setAll_same : ∀ (σ : List Nat) (H os : List O), pickO H σ = some os → setAll H σ os = H
  | [], H, os, e => by simp only [pickO, Option.some.injEq] at e; subst e; simp [setAll]
  | i :: σ, H, os, e => by
    unfold pickO at e
    split at e
    · rename_i o r h1 h2
      simp only [Option.some.injEq] at e
      subst e
      have hset : H.set i o = H := by
        apply List.ext_getElem?
        intro j
        rw [List.getElem?_set]
        split
        · rename_i hj; subst hj; split
          · exact h1.symm
          · rename_i hlt; rw [List.getElem?_eq_none (by omega)]
        · rfl
      unfold setAll
      rw [hset]
      exact setAll_same σ H r h2
    · cases e

theorem sound_callR {P : Program} {cx : Cx} {f : Nat} {vs : List V} {xs : List Value} {res : Res} (hM : RTabOk P cx.rtab) (hE : StartOk P E H β w)
    (hR : Rel w (Xs E H β) H β) (hl : xs.length = vs.length) (hv : ∀ (k : Nat) (v : V) (x : Value), vs[k]? = some v → xs[k]? = some x → R w (Xs E H β) β v x)
    (h : (callR cx H f vs).run = some res) : Normal P f ∧ Calls P f xs.toArray w (Outcome E H β w res) := by
  unfold callR at h
  generalize reach H 64 (V.idss vs) [] = σ at h
  simp only at h
  split at h
  rotate_left
  · cases h
  rename_i os hos
  split at h
  rotate_left
  · cases h
  rename_i as Hs has hHs
  cases hd : noDup σ
  · simp [hd, Tree.run] at h
  simp only [hd, cond_true] at h
  obtain ⟨v, h1, h2⟩ := bind_run h
  obtain ⟨s, hs, hs'⟩ := lookR_spec h1
  obtain ⟨hnorm, hcalls⟩ := hM _ hs as Hs v hs'
  obtain ⟨hi, hturn⟩ := into hE.1 hR hd hos hHs
  obtain ⟨q1, q2⟩ := rens_get has
  refine ⟨hnorm, ?_⟩
  have := hcalls w (Shut E H β Hs (pickL β σ)) (pickL β σ) xs ⟨hi.old, by rw [hi.same]; exact hE.2⟩ hi.rel (by omega) (fun k v x h1 h2 => by
    obtain ⟨u, hu, hu'⟩ := q2 k v h1
    rw [hi.same]
    exact ren_R hturn (hv k u x hu h2) v hu')
  refine this.mono ?_
  intro e w' ho
  split at h2
  rotate_left
  · cases h2
  rename_i v' e1
  simp only [Tree.run, Option.some.injEq] at h2
  subst h2
  obtain ⟨y, β2, he, st, hr⟩ := ho
  have hτ : ∀ i j, (fun i => place i σ) i = some j → backTo σ H.length j = some i := fun i j hij => by
    unfold backTo
    rw [place_some hij]
  have e2 := rensO_back (τ := backTo σ H.length) hτ os Hs hHs
  have e3 : σ.length ≤ Hs.length := by rw [hi.lens.2]; exact Nat.le_refl _
  obtain ⟨s1, s2⟩ := back_out hE.1 hR hd hi st e3 e2
  have hset := setAll_same σ H os hos
  rw [hset] at s1 s2
  exact ⟨y, _, he, s1, s2 v v' y hr (ren_le (fun a b hab => by unfold backTo; rw [hab]) v v' e1)⟩

theorem sound_call {P : Program} {c : Call} {fo : Operand} {res : Res} (_hP : P = cx.P) (hT : TabOk P cx.tab) (hM : MTabOk P cx.mtab) (hRt : RTabOk P cx.rtab) (hE : StartOk P E H β w) (hR : Rel w (Xs E H β) H β)
    (hF : FR w (Xs E H β) β n t a) (ho : o.op = .call c) (hc : c.callee = .value fo) (h : (oCall cx H (rd t fo) (c.args.toList.map (rd t))).run = some res) (hk : Then E H β w a o K Q res) : o.wp P a w K Q := by
  have hrd := fun x => rd_R hF x
  have enter : ∀ (f : Nat) (xs : List Value), Normal P f → (callFunc f xs.toArray).run P w = .ok (.enter f xs.toArray) w := by
    rintro f xs ⟨fn, h1, h2, h3⟩
    obtain ⟨b, hb⟩ := Option.isSome_iff_exists.1 h3
    simp [callFunc, h1, h2, hb]
  -- a call of f with such arguments
  have key : ∀ (f : Nat) (vs : List V) (xs : List Value), xs.length = vs.length → (∀ (k : Nat) (v : V) (x : Value), vs[k]? = some v → xs[k]? = some x → R w (Xs E H β) β v x) →
      (callF cx H f vs).run = some res → ∃ q : Result Next, (callFunc f xs.toArray).run P w = q ∧ o.upon P a K Q q := by
    intro f vs xs hl hv hcall
    unfold callF at hcall
    cases hkey : hasKey f cx.mtab
    rotate_left
    · simp only [hkey, cond_true] at hcall
      obtain ⟨m1, m2⟩ := sound_callM hM hE hR hl hv hcall
      refine ⟨_, enter f xs m1, ?_⟩
      rw [Oper.upon_enter]
      refine m2.mono ?_
      intro e w' ho
      cases res with
      | ok v H' =>
        obtain ⟨y, β', rfl, st, hr⟩ := ho
        exact hk y w' β' st hr
      | pan v H' =>
        obtain ⟨y, β', rfl, st, hr⟩ := ho
        exact hk y w' β' st hr
    simp only [hkey, cond_false] at hcall
    cases hkr : hasKey f cx.rtab
    rotate_left
    · simp only [hkr, cond_true] at hcall
      obtain ⟨m1, m2⟩ := sound_callR hRt hE hR hl hv hcall
      refine ⟨_, enter f xs m1, ?_⟩
      rw [Oper.upon_enter]
      refine m2.mono ?_
      intro e w' ho
      cases res with
      | ok v H' =>
        obtain ⟨y, β', rfl, st, hr⟩ := ho
        exact hk y w' β' st hr
      | pan v H' =>
        obtain ⟨y, β', rfl, st, hr⟩ := ho
        exact hk y w' β' st hr
    simp only [hkr, cond_false] at hcall
    unfold callP at hcall
    split at hcall
    rotate_left
    · cases hcall
    rename_i as has
    obtain ⟨out, h1, h2⟩ := bind_run hcall
    simp only [Tree.run, Option.some.injEq] at h2
    subst h2
    obtain ⟨s, hs, hs'⟩ := look_spec h1
    obtain ⟨p1, p2⟩ := pures_get has
    rcases hT _ hs with hsnd | hsnd
    rotate_left
    · obtain ⟨y, hy, hr⟩ := hsnd as out hs' w (Xs E H β) [] xs (by omega) (fun k v x h1 h2 => by
        obtain ⟨u, hu, hp⟩ := p2 k v h1
        exact pure_R (hv k u x hu h2) v hp)
      refine ⟨_, hy, ?_⟩
      rw [Oper.upon_value]
      exact hk y w β (Step.refl hR) (hr.up β)
    obtain ⟨hnorm, hcalls⟩ := hsnd as out hs'
    refine ⟨_, enter f xs hnorm, ?_⟩
    rw [Oper.upon_enter]
    have hEX : ∀ b o, Xs E H β b o → b < w.heap.size := fun b o h => by
      rcases h with h | h
      · exact (hE.1 b o h).1
      · exact own_lt hR h
    have := hcalls w (Xs E H β) xs ⟨hEX, hE.2⟩ (by omega) (fun k v x h1 h2 => by
      obtain ⟨u, hu, hp⟩ := p2 k v h1
      exact pure_R (hv k u x hu h2) v hp)
    intro cs
    obtain ⟨e, w', fr, ⟨y, he, st, hr⟩, rest⟩ := this cs
    obtain ⟨s1, s2⟩ := Step.of_pure hR st
    refine ⟨e, w', fr, ?_, rest⟩
    subst he
    exact hk y w' β s1 (s2 _ _ hr)
  have hargs : ∀ (k : Nat) (v : V) (x : Value), (c.args.toList.map (rd t))[k]? = some v → (c.args.toList.map a.eval)[k]? = some x → R w (Xs E H β) β v x := by
    intro k v x h1 h2
    simp only [List.getElem?_map, Option.map_eq_some_iff] at h1 h2
    obtain ⟨u, hu, rfl⟩ := h1
    obtain ⟨u', hu', rfl⟩ := h2
    rw [hu] at hu'
    simp only [Option.some.injEq] at hu'
    subst hu'
    exact hrd u
  have hmap : c.args.map a.eval = (c.args.toList.map a.eval).toArray := by apply Array.ext'; simp
  unfold oCall at h
  split at h
  · rename_i g first captured heq
    have hfo := hrd fo
    rw [heq] at hfo
    generalize hev : a.eval fo = fv at hfo
    cases hfo
    cases hb : (Nat.beq first.size 0 && Nat.beq captured.size 0)
    · simp [hb, Tree.run] at h
    simp only [hb, cond_true] at h
    obtain ⟨b1, b2⟩ := Bool.and_eq_true_iff.1 hb
    have b1 : first = #[] := Array.eq_empty_of_size_eq_zero (Nat.eq_of_beq_eq_true b1)
    have b2 : captured = #[] := Array.eq_empty_of_size_eq_zero (Nat.eq_of_beq_eq_true b2)
    subst b1
    subst b2
    obtain ⟨q, k1, k2⟩ := key g _ (c.args.toList.map a.eval) (by simp) hargs h
    unfold Oper.wp
    rw [← hmap] at k1
    simp only [execOp, ho, resolve, hc, hev, Deferred.ofValue, invoke, Sem.run_bind, Sem.run_pure, Result.andThen_ok, Array.empty_append, Array.append_empty]
    rw [k1]
    exact k2
  · rename_i g first captured heq
    have hfo := hrd fo
    rw [heq] at hfo
    generalize hev : a.eval fo = fv at hfo
    cases hfo with
    | clo _ _ _ _ xs ys hl hm h1 h2 =>
      obtain ⟨q, k1, k2⟩ := key g _ (xs ++ c.args.toList.map a.eval ++ ys) (by simp [hl, hm]) (by
        intro k v x hv hx
        by_cases hk1 : k < first.length
        · rw [List.append_assoc, List.getElem?_append_left hk1] at hv
          rw [List.append_assoc, List.getElem?_append_left (by omega)] at hx
          exact h1 k v x hv hx
        · rw [List.append_assoc, List.getElem?_append_right (by omega)] at hv
          rw [List.append_assoc, List.getElem?_append_right (by omega), hl] at hx
          by_cases hk2 : k - first.length < c.args.toList.length
          · rw [List.getElem?_append_left (by simpa using hk2)] at hv hx
            exact hargs _ v x hv hx
          · rw [List.getElem?_append_right (by simpa using hk2)] at hv hx
            simp only [List.length_map] at hv hx
            exact h2 _ v x hv hx) h
      unfold Oper.wp
      have e : (xs ++ c.args.toList.map a.eval ++ ys).toArray = xs.toArray ++ c.args.map a.eval ++ ys.toArray := by rw [hmap]; simp
      rw [e] at k1
      simp only [execOp, ho, resolve, hc, hev, Deferred.ofValue, invoke, Sem.run_bind, Sem.run_pure, Result.andThen_ok]
      rw [k1]
      exact k2
  · cases h

end
end Go.Ab

namespace Go.Ab
section
variable {E : Nat → Nat → Prop} {H : List O} {β : List Loc} {w : World} {n : Nat} {t : T} {a : Act} {o : Oper} {cx : Cx} {K : Act → World → Prop} {Q : Exit → Act → World → Prop}

theorem dop_sound (hT : CxOk cx) (hE : StartOk cx.P E H β w) (hR : Rel w (Xs E H β) H β) (hF : FR w (Xs E H β) β n t a) {res : Res}
    (h : (dop cx t H o).run = some res) (hk : Then E H β w a o K Q res) : o.wp cx.P a w K Q := by
  have hrd := fun x => rd_R hF x
  have hrg := fun x => rdG_R hE.2 hT.2.2.2 hF x
  have same : ∀ {s : Sem Value} {u : V}, execOp a.eval o = (do pure (Next.value (← s))) → (∃ z, s.run cx.P w = .ok z w ∧ R w (Xs E H β) β u z) → res = .ok u H → o.wp cx.P a w K Q := by
    rintro s u he ⟨z, h1, h2⟩ rfl
    exact wp_sem he h1 (hk z w β (Step.refl hR) h2)
  have some' : ∀ {s : Sem Value} {u : V} {H' : List O}, execOp a.eval o = (do pure (Next.value (← s))) →
      (∃ z w' β', s.run cx.P w = .ok z w' ∧ Step E H β w H' β' w' ∧ R w' (Xs E H' β') β' u z) → res = .ok u H' → o.wp cx.P a w K Q := by
    rintro s u H' he ⟨z, w', β', h1, h2, h3⟩ rfl
    exact wp_sem he h1 (hk z w' β' h2 h3)
  unfold dop at h
  split at h
  · -- move
    rename_i x ho
    simp only [hold, Tree.run, Option.some.injEq] at h
    subst h
    unfold Oper.wp
    simp only [execOp, ho]
    exact hk _ w β (Step.refl hR) (hrd x)
  · -- assign
    rename_i x ho
    simp only [hold, Tree.run, Option.some.injEq] at h
    subst h
    unfold Oper.wp
    simp only [execOp, ho]
    exact hk _ w β (Step.refl hR) (hrd x)
  · -- pick
    rename_i c x y ho
    split at h
    rotate_left
    · cases h
    rename_i b hb
    have hc := hrd c
    rw [hb] at hc
    generalize hev : a.eval c = cv at hc
    cases hc
    have run : ∀ u, R w (Xs E H β) β u (if b = true then a.eval x else a.eval y) → res = .ok u H → o.wp cx.P a w K Q := by
      intro u hu hr
      subst hr
      unfold Oper.wp
      simp only [execOp, ho, hev, asBool, Sem.run_bind, Sem.run_pure, Result.andThen_ok]
      exact hk _ w β (Step.refl hR) hu
    obtain ⟨u, hu, rfl⟩ := bind_hold h
    refine run u ?_ rfl
    unfold pickV at hu
    split at hu
    · rename_i p q hp hq
      simp only [Tree.run, Option.some.injEq] at hu
      subst hu
      have h1 := hrd x
      have h2 := hrd y
      rw [hp] at h1
      rw [hq] at h2
      cases b
      · simpa using h2
      · simpa using h1
    · cases b
      · simp only [Tree.run, cond_false, Option.some.injEq] at hu
        subst hu
        simpa using hrd y
      · simp only [Tree.run, cond_true, Option.some.injEq] at hu
        subst hu
        simpa using hrd x
  · -- alloc
    rename_i e ho
    split at h
    rotate_left
    · cases h
    rename_i i hi
    simp only [Tree.run, Option.some.injEq] at h
    obtain ⟨w', β', h1, h2, h3⟩ := sound_alloc (P := cx.P) hR hi
    exact some' (s := Instr.alloc e true (.tuple #[])) (by simp only [execOp, ho]) ⟨_, w', β', h1, h2, h3⟩ h.symm
  · -- box
    rename_i e x ho
    split at h
    rotate_left
    · cases h
    rename_i cs hcs
    simp only [Tree.run, Option.some.injEq] at h
    obtain ⟨w', β', h1, h2, h3⟩ := sound_box (P := cx.P) (e := e) hR (hrd x) hcs
    exact some' (s := Instr.box e (a.eval x)) (by simp only [execOp, ho]) ⟨_, w', β', h1, h2, h3⟩ h.symm
  · -- build
    rename_i ty parts ho
    obtain ⟨u, hu, rfl⟩ := holdO_run h
    refine same (s := Instr.build ty (parts.map fun (i, x) => (i, a.eval x))) (by simp only [execOp, ho]) (sound_build (by simp) ?_ hu) rfl
    have := pieces_get (a := a) (l := parts.toList) hrd
    simpa using this
  · -- buildSlice
    rename_i ty len parts ho
    unfold bothO at h
    split at h
    rotate_left
    · cases h
    rename_i p hp
    obtain ⟨u, H'⟩ := p
    simp only [Tree.run, Option.some.injEq] at h
    refine some' (s := Instr.buildSlice ty len (parts.map fun (i, x) => (i, a.eval x))) (by simp only [execOp, ho]) (sound_buildSlice hE.1 hR (by simp) ?_ hp) h.symm
    have := pieces_get (a := a) (l := parts.toList) hrd
    simpa using this
  · -- load
    rename_i ty x ho
    cases hz : isLz cx.lz x
    · rw [hz, cond_false] at h
      obtain ⟨u, hu, rfl⟩ := holdO_run h
      exact same (s := Instr.loadAt ty (a.eval x)) (by simp only [execOp, ho]) (sound_load hR (hrg x) hu) rfl
    · rw [hz, cond_true] at h
      obtain ⟨u, hu, rfl⟩ := bind_hold h
      exact same (s := Instr.loadAt ty (a.eval x)) (by simp only [execOp, ho]) (sound_loadZ hR (hrd x) hu) rfl
  · -- store
    rename_i ty x v ho
    have hs : ∃ H', res = .ok .any H' ∧ ∃ w', (Instr.storeAt ty (a.eval x) (a.eval v)).run cx.P w = .ok () w' ∧ Step E H β w H' β w' := by
      cases hz : isLz cx.lz x
      · rw [hz, cond_false] at h
        split at h
        rotate_left
        · cases h
        rename_i H' hH
        simp only [Tree.run, Option.some.injEq] at h
        exact ⟨H', h.symm, sound_store (P := cx.P) hR (hrd x) (hrd v) hH⟩
      · rw [hz, cond_true] at h
        obtain ⟨H', hH, h⟩ := bind_run h
        simp only [Tree.run, Option.some.injEq] at h
        exact ⟨H', h.symm, sound_storeZ (P := cx.P) hR (hrd x) (hrd v) hH⟩
    obtain ⟨H', rfl, w', h1, h2⟩ := hs
    exact wp_unit (s := Instr.storeAt ty (a.eval x) (a.eval v)) (by simp only [execOp, ho]) h1 (hk undef w' β h2 (.any _ _))
  · -- nilCheck
    rename_i x ho
    have run : ∀ u b o', a.eval x = .pointer (some ⟨b, o', none⟩) → R w (Xs E H β) β u (a.eval x) → res = .ok u H → o.wp cx.P a w K Q := by
      intro u b o' he hu hr
      subst hr
      unfold Oper.wp
      simp only [execOp, ho, he, Sem.run_pure]
      rw [he] at hu
      exact hk _ w β (Step.refl hR) hu
    have hx := hrd x
    split at h
    · rename_i id off hv
      simp only [hold, Tree.run, Option.some.injEq] at h
      rw [hv] at hx
      generalize he : a.eval x = xv at hx run
      have hx' := hx
      cases hx
      exact run _ _ _ rfl hx' h.symm
    · rename_i cells hv
      simp only [hold, Tree.run, Option.some.injEq] at h
      rw [hv] at hx
      generalize he : a.eval x = xv at hx run
      have hx' := hx
      cases hx
      exact run _ _ _ rfl hx' h.symm
    · cases h
  · -- binOp
    rename_i op ty x y _ ho
    obtain ⟨u, hu, rfl⟩ := bind_hold h
    cases hnil : isNilC y
    · rw [hnil, cond_false] at hu
      exact same (s := bin op ty x y (a.eval x) (a.eval y)) (by simp only [execOp, ho, bin]) (sound_bin (hrd x) (hrd y) hu) rfl
    · rw [hnil, cond_true] at hu
      have hy : y = .const .nilIface := by
        unfold isNilC at hnil
        split at hnil
        · rfl
        · cases hnil
      subst hy
      exact same (s := bin op ty x (.const .nilIface) (a.eval x) .nilIface) (by simp only [execOp, ho, bin]; rfl) (sound_nil (hrd x) hu) rfl
  · -- unOp
    rename_i op _ x ho
    obtain ⟨u, hu, rfl⟩ := holdO_run h
    exact same (s := Op.unary op (a.eval x)) (by simp only [execOp, ho]) (sound_un (hrd x) hu) rfl
  · -- convert
    rename_i src dst x ho
    cases hss : isStrSl cx.P src dst
    · rw [hss, cond_false] at h
      obtain ⟨u, hu, rfl⟩ := holdO_run h
      exact same (s := convert src dst (a.eval x)) (by simp only [execOp, ho]) (sound_convert hR (hrd x) hu) rfl
    · rw [hss, cond_true] at h
      obtain ⟨u, hu, rfl⟩ := holdO_run h
      obtain ⟨z, w', h1, h2, h3⟩ := sound_strBytes hE.1 hR (hrd x) hss hu
      exact some' (s := convert src dst (a.eval x)) (by simp only [execOp, ho]) ⟨z, w', β, h1, h2, h3⟩ rfl
  · -- makeFunc
    rename_i fn first captured ho
    simp only [hold, Tree.run, Option.some.injEq] at h
    refine same (s := Instr.makeFunc fn (first.map a.eval) (captured.map a.eval)) (by simp only [execOp, ho]) ⟨.func fn (first.toList.map a.eval).toArray (captured.toList.map a.eval).toArray, ?_, ?_⟩ h.symm
    · have e1 : (first.toList.map a.eval).toArray = first.map a.eval := by apply Array.ext'; simp
      have e2 : (captured.toList.map a.eval).toArray = captured.map a.eval := by apply Array.ext'; simp
      rw [e1, e2]; rfl
    · have get : ∀ (l : List Operand) (k : Nat) (v : V) (x : Value), (l.map (rd t))[k]? = some v → (l.map a.eval)[k]? = some x → R w (Xs E H β) β v x := by
        intro l k v x h1 h2
        simp only [List.getElem?_map, Option.map_eq_some_iff] at h1 h2
        obtain ⟨u, hu, rfl⟩ := h1
        obtain ⟨u', hu', rfl⟩ := h2
        rw [hu] at hu'
        simp only [Option.some.injEq] at hu'
        subst hu'
        exact hrd u
      exact .clo β fn _ _ _ _ (by simp) (by simp) (get _) (get _)
  · -- makeSlice
    rename_i ty l c ho
    cases hpg : dstIn o cx.lz
    · rw [hpg, cond_false] at h
      obtain ⟨u, H', hu, rfl⟩ := bind_both h
      exact some' (s := Instr.makeSlice ty (a.eval l) (a.eval c)) (by simp only [execOp, ho]) (sound_makeSlice hE.1 hR (hrd l) (hrd c) hu) rfl
    · rw [hpg, cond_true] at h
      obtain ⟨u, H', hu, rfl⟩ := bind_both h
      exact some' (s := Instr.makeSlice ty (a.eval l) (a.eval c)) (by simp only [execOp, ho]) (sound_makePage hR (hrd l) (hrd c) hu) rfl
  · -- slice
    rename_i ty x lo hi ho
    obtain ⟨u, hu, rfl⟩ := bind_hold h
    exact same (s := Instr.sliceAt ty (a.eval x) (lo.map a.eval) (hi.map a.eval) none) (by simp only [execOp, ho, Option.map_none]) (sound_slice hR (hrd x) (optR_map hrd lo) (optR_map hrd hi) hu) rfl
  · -- fieldAddr
    rename_i ty x f ho
    obtain ⟨u, hu, rfl⟩ := holdO_run h
    exact same (s := Instr.fieldAt ty (a.eval x) f) (by simp only [execOp, ho]) (sound_fieldAddr (hrd x) hu) rfl
  · -- field
    rename_i ty x f ho
    obtain ⟨u, hu, rfl⟩ := holdO_run h
    exact same (s := Instr.field ty (a.eval x) f) (by simp only [execOp, ho]) (sound_field (hrd x) hu) rfl
  · -- indexAddr
    rename_i ty x i ho
    obtain ⟨u, hu, rfl⟩ := bind_hold h
    exact same (s := Instr.indexAt ty (a.eval x) (a.eval i)) (by simp only [execOp, ho]) (sound_indexAddr (hrg x) (hrd i) hu) rfl
  · -- index
    rename_i ty x i ho
    obtain ⟨u, hu, rfl⟩ := bind_hold h
    exact same (s := Instr.index ty (a.eval x) (a.eval i)) (by simp only [execOp, ho]) (sound_index (hrd x) (hrd i) hu) rfl
  · -- extract
    rename_i x i ho
    split at h
    rotate_left
    · cases h
    rename_i vs hvs
    obtain ⟨u, hu, rfl⟩ := holdO_run h
    have hx := hrd x
    rw [hvs] at hx
    generalize he : a.eval x = xv at hx
    cases hx with
    | tup _ _ xs hl hr =>
      have hi : i < xs.length := by rw [hl]; exact (List.getElem?_eq_some_iff.1 hu).1
      exact same (s := Instr.extract (a.eval x) i) (by simp only [execOp, ho]) ⟨xs[i], by rw [he]; simp [Instr.extract, hi], hr i u _ hu (by simp [hi])⟩ rfl
  · -- makeInterface
    rename_i ty x ho
    split at h
    · cases h
    · rename_i d hu hd
      simp only [hold, Tree.run, Option.some.injEq] at h
      refine same (s := Instr.makeInterface ty (a.eval x)) (by simp only [execOp, ho]) ⟨.iface ty (a.eval x), ?_, .ifc β ty _ _ (hrd x)⟩ h.symm
      simp only [Instr.makeInterface, Sem.run_bind, run_und w hd, Result.andThen_ok]
      cases d <;> first | rfl | (exfalso; simp_all)
    · cases h
  · -- typeAssert
    rename_i x ty' as ok ho
    split at h
    · cases h
    · rename_i ty v d hd hv hu
      cases hb : Nat.beq ty as
      · rw [hb] at h; cases h
      rw [hb] at h
      simp only [cond_true, hold, Tree.run, Option.some.injEq] at h
      have hb := Nat.eq_of_beq_eq_true hb
      subst hb
      have hx := hrd x
      rw [hv] at hx
      generalize hev : a.eval x = xv at hx
      cases hx with
      | ifc _ _ _ z hz =>
        refine same (s := Instr.typeAssert (a.eval x) ty' ty ok) (by simp only [execOp, ho]) ⟨if ok then .tuple #[z, .bool true] else z, ?_, ?_⟩ h.symm
        · rw [hev]
          simp only [Instr.typeAssert, Sem.run_bind, run_und w hu, Result.andThen_ok]
          cases d <;> first | (exfalso; simp_all; done) | (simp; done)
        · cases ok
          · exact hz
          · exact .tup β _ [z, .bool true] rfl (fun k v x h1 h2 => by
              match k with
              | 0 => simp only [List.getElem?_cons_zero, Option.some.injEq] at h1 h2; subst h1; subst h2; exact hz
              | 1 => simp only [List.getElem?_cons_succ, List.getElem?_cons_zero, Option.some.injEq] at h1 h2; subst h1; subst h2; exact .bool _ _
              | k + 2 => simp at h1)
    · cases h
  · -- panic
    rename_i x ho
    split at h
    rotate_left
    · cases h
    rename_i ty v hv
    simp only [Tree.run, Option.some.injEq] at h
    subst h
    have hx := hrd x
    rw [hv] at hx
    generalize hev : a.eval x = xv at hx
    have hx' := hx
    cases hx
    unfold Oper.wp
    simp only [execOp, ho, hev]
    exact hk _ w β (Step.refl hR) hx'
  · -- makeMap
    rename_i ty ho
    simp only [Tree.run, Option.some.injEq] at h
    exact some' (s := Instr.makeMap ty none) (by simp only [execOp, ho]; rfl) (sound_makeMap hR ty) h.symm
  · -- lookup
    rename_i ty x i ok ho
    obtain ⟨u, hu, rfl⟩ := bind_hold h
    exact same (s := Instr.lookup ty (a.eval x) (a.eval i) ok) (by simp only [execOp, ho]) (sound_lookup hR (hrd x) (hrd i) hu) rfl
  · -- mapUpdate
    rename_i ty m k x ho
    obtain ⟨H', h1, h2⟩ := bind_run h
    simp only [Tree.run, Option.some.injEq] at h2
    subst h2
    obtain ⟨w', β', g1, g2⟩ := sound_mapUpdate hR (hrd m) (hrd k) (hrd x) h1
    exact wp_unit (s := Instr.mapUpdate ty (a.eval m) (a.eval k) (a.eval x)) (by simp only [execOp, ho]) g1 (hk _ w' β' g2 (.any _ _))
  · -- range
    rename_i ty x ho
    obtain ⟨u, H', rfl, z, w', β', g1, g2, g3⟩ := sound_range hR (hrd x) h
    exact some' (s := Instr.range ty (a.eval x)) (by simp only [execOp, ho]) ⟨z, w', β', g1, g2, g3⟩ rfl
  · -- next
    rename_i it isString ho
    cases isString
    · cases h
    rw [cond_true] at h
    obtain ⟨u, H', rfl, z, w', β', g1, g2, g3⟩ := sound_next (ty := o.type) hR (hrd it) h
    exact some' (s := Instr.next (a.eval it) true o.type) (by simp only [execOp, ho]) ⟨z, w', β', g1, g2, g3⟩ rfl
  · -- builtin
    rename_i b args argTypes ho
    have he : execOp a.eval o = (builtin b argTypes o.type (args.map fun | .const _ => true | _ => false) (args.map a.eval)) := by
      simp only [execOp, ho, resolve, invoke]
      rfl
    have val : ∀ {s : Sem Value} {u : V} {H' : List O}, builtin b argTypes o.type (args.map fun | .const _ => true | _ => false) (args.map a.eval) = (do pure (Next.value (← s))) →
        (∃ z w' β', s.run cx.P w = .ok z w' ∧ Step E H β w H' β' w' ∧ R w' (Xs E H' β') β' u z) → res = .ok u H' → o.wp cx.P a w K Q := by
      intro s u H' hb
      exact some' (he.trans hb)
    have two : ∀ x y, args.toList = [x, y] → args.map a.eval = #[a.eval x, a.eval y] := by
      intro x y h; apply Array.ext'; simp [h]
    have one : ∀ x, args.toList = [x] → args.map a.eval = #[a.eval x] := by
      intro x h; apply Array.ext'; simp [h]
    cases hap : appR cx o b
    rotate_left
    · rw [hap, cond_true] at h
      have hbb : b = .append := by
        unfold appR at hap
        split at hap
        · rfl
        · cases hap
      subst hbb
      unfold appB at h
      split at h
      rotate_left
      · cases h
      rename_i s x hargs
      obtain ⟨x1, x2, hl, rfl, rfl⟩ : ∃ x1 x2, args.toList = [x1, x2] ∧ s = rd t x1 ∧ x = rd t x2 := by
        rcases hl : args.toList with _ | ⟨x1, _ | ⟨x2, _ | ⟨_, _⟩⟩⟩ <;> simp [hl] at hargs
        exact ⟨x1, x2, rfl, hargs.1.symm, hargs.2.symm⟩
      unfold bothO at h
      split at h
      rotate_left
      · cases h
      rename_i p hp
      obtain ⟨u, H'⟩ := p
      simp only [Tree.run, Option.some.injEq] at h
      exact val (s := Builtin.append_ argTypes o.type (args.map a.eval)) rfl (by rw [two _ _ hl]; exact sound_appendR hR (hrd x1) (hrd x2) hp) h.symm
    rw [hap, cond_false] at h
    unfold oBuiltin at h
    split at h
    · rename_i s x hargs
      obtain ⟨x1, x2, hl, rfl, rfl⟩ : ∃ x1 x2, args.toList = [x1, x2] ∧ s = rd t x1 ∧ x = rd t x2 := by
        rcases hl : args.toList with _ | ⟨x1, _ | ⟨x2, _ | ⟨_, _⟩⟩⟩ <;> simp [hl] at hargs
        exact ⟨x1, x2, rfl, hargs.1.symm, hargs.2.symm⟩
      obtain ⟨u, H', hu, rfl⟩ := bind_both h
      exact val (s := Builtin.append_ argTypes o.type (args.map a.eval)) rfl (by rw [two _ _ hl]; exact sound_append hE.1 hR (hrd x1) (hrd x2) hu) rfl
    · rename_i x hargs
      obtain ⟨x1, hl, rfl⟩ : ∃ x1, args.toList = [x1] ∧ x = rd t x1 := by
        rcases hl : args.toList with _ | ⟨x1, _ | ⟨_, _⟩⟩ <;> simp [hl] at hargs
        exact ⟨x1, rfl, hargs.symm⟩
      obtain ⟨u, hu, rfl⟩ := holdO_run h
      obtain ⟨z, h1, h2⟩ := sound_lenM (ty := o.type) hR (hrd x1) hu
      exact val (s := Builtin.len_ argTypes o.type (args.map a.eval)) rfl ⟨z, w, β, by rw [one _ hl]; exact h1, Step.refl hR, h2⟩ rfl
    · rename_i x hargs
      obtain ⟨x1, hl, rfl⟩ : ∃ x1, args.toList = [x1] ∧ x = rd t x1 := by
        rcases hl : args.toList with _ | ⟨x1, _ | ⟨_, _⟩⟩ <;> simp [hl] at hargs
        exact ⟨x1, rfl, hargs.symm⟩
      obtain ⟨u, hu, rfl⟩ := holdO_run h
      obtain ⟨z, h1, h2⟩ := sound_cap (ty := o.type) hR (hrd x1) hu
      exact val (s := Builtin.cap_ argTypes o.type (args.map a.eval)) rfl ⟨z, w, β, by rw [one _ hl]; exact h1, Step.refl hR, h2⟩ rfl
    · rename_i s x hargs
      obtain ⟨x1, x2, hl, rfl, rfl⟩ : ∃ x1 x2, args.toList = [x1, x2] ∧ s = rd t x1 ∧ x = rd t x2 := by
        rcases hl : args.toList with _ | ⟨x1, _ | ⟨x2, _ | ⟨_, _⟩⟩⟩ <;> simp [hl] at hargs
        exact ⟨x1, x2, rfl, hargs.1.symm, hargs.2.symm⟩
      obtain ⟨u, hu, rfl⟩ := holdO_run h
      obtain ⟨z, h1, h2⟩ := sound_max (argTypes := argTypes) (ty := o.type) (hrd x1) (hrd x2) hu
      exact val (s := Builtin.max_ argTypes o.type (args.map a.eval)) rfl ⟨z, w, β, by rw [two _ _ hl]; exact h1, Step.refl hR, h2⟩ rfl
    · rename_i s x hargs
      obtain ⟨x1, x2, hl, rfl, rfl⟩ : ∃ x1 x2, args.toList = [x1, x2] ∧ s = rd t x1 ∧ x = rd t x2 := by
        rcases hl : args.toList with _ | ⟨x1, _ | ⟨x2, _ | ⟨_, _⟩⟩⟩ <;> simp [hl] at hargs
        exact ⟨x1, x2, rfl, hargs.1.symm, hargs.2.symm⟩
      obtain ⟨u, hu, rfl⟩ := holdO_run h
      obtain ⟨z, h1, h2⟩ := sound_min (argTypes := argTypes) (ty := o.type) (hrd x1) (hrd x2) hu
      exact val (s := Builtin.min_ argTypes o.type (args.map a.eval)) rfl ⟨z, w, β, by rw [two _ _ hl]; exact h1, Step.refl hR, h2⟩ rfl
    · rename_i ty v hargs
      obtain ⟨x1, hl, hv⟩ : ∃ x1, args.toList = [x1] ∧ rd t x1 = .ifc ty v := by
        rcases hl : args.toList with _ | ⟨x1, _ | ⟨_, _⟩⟩ <;> simp [hl] at hargs
        exact ⟨x1, rfl, hargs⟩
      simp only [Tree.run, Option.some.injEq] at h
      subst h
      have hx := hrd x1
      rw [hv] at hx
      generalize hev : a.eval x1 = xv at hx
      have hx' := hx
      cases hx
      unfold Oper.wp
      rw [he]
      simp only [builtin, one _ hl, hev]
      exact hk _ w β (Step.refl hR) hx'
    · cases h
  · -- call
    rename_i f args argTypes ho
    exact sound_call rfl hT.1 hT.2.1 hT.2.2.1 hE hR hF ho rfl h hk
  · cases h

end
end Go.Ab

namespace Go.Ab

/-- All leaves that can be reached. -/
def Tree.all {β : Type} (Q : β → Prop) : Tree β → Prop
  | .leaf b => Q b
  | .fail => False
  | .br c x y => (c = true → x.all Q) ∧ (c = false → y.all Q)

theorem Tree.all_run {β : Type} {Q : β → Prop} {x : Tree β} (h : x.all Q) : ∃ b, x.run = some b ∧ Q b := by
  induction x with
  | leaf b => exact ⟨b, rfl, h⟩
  | fail => exact h.elim
  | br c x y ihx ihy =>
    cases c
    · exact ihy (h.2 rfl)
    · exact ihx (h.1 rfl)

theorem Tree.run_all {β : Type} {Q : β → Prop} {x : Tree β} {b : β} (h : x.run = some b) (hq : Q b) : x.all Q := by
  induction x with
  | leaf c => simp only [Tree.run, Option.some.injEq] at h; subst h; exact hq
  | fail => cases h
  | br c x y ihx ihy =>
    refine ⟨fun hc => ?_, fun hc => ?_⟩
    · subst hc; exact ihx h
    · subst hc; exact ihy h

/-- Where a function stands: since its call the steps that may be; its frame. -/
structure Good (E : Nat → Nat → Prop) (H0 : List O) (β0 : List Loc) (w0 : World) (n : Nat) (D : List Deferred) (t : T) (H : List O) (β : List Loc) (a : Act) (w : World) : Prop where
  step : Step E H0 β0 w0 H β w
  fr : FR w (Xs E H β) β n t a
  defers : a.defers = D

def Post (E : Nat → Nat → Prop) (H0 : List O) (β0 : List Loc) (w0 : World) (n : Nat) (D : List Deferred) (Q : AEx → T → List O → Prop) : Exit → Act → World → Prop
  | .normal, a, w => ∃ t H β, Q .normal t H ∧ Good E H0 β0 w0 n D t H β a w
  | .exit id, a, w => ∃ t H β, Q (.exit id) t H ∧ Good E H0 β0 w0 n D t H β a w
  | .ret, a, w => ∃ t H β, Q .ret t H ∧ Good E H0 β0 w0 n D t H β a w
  | .panic chain, a, w => ∃ t H β v x, Q (.panic v) t H ∧ Good E H0 β0 w0 n D t H β a w ∧ R w (Xs E H β) β v x ∧ chain = [{ v := x, recovered := false }]
  | _, _, _ => False


/-- From what is known of slots and heap, the code comes to what Q says. -/
def AWP (P : Program) (n : Nat) (c : Code) (Q : AEx → T → List O → Prop) (t : T) (H : List O) : Prop :=
  ∀ E H0 β0 w0 D β a w, StartOk P E H0 β0 w0 → Good E H0 β0 w0 n D t H β a w → c.wp P (Post E H0 β0 w0 n D Q) a w

theorem StartOk.now {P : Program} {E H0 β0 w0 H β w} (h : StartOk P E H0 β0 w0) (s : Step E H0 β0 w0 H β w) : StartOk P E H β w := by
  refine ⟨fun b o hb => ?_, fun p hp => (h.2 p hp).stab s.stab [] (.refl _)⟩
  obtain ⟨h1, h2⟩ := h.1 b o hb
  refine ⟨Nat.lt_of_lt_of_le h1 s.size, fun ho => ?_⟩
  rcases s.own b o ho with h | h
  · exact h2 h
  · omega

section
variable {P : Program} {n : Nat} {Q Q' : AEx → T → List O → Prop} {t : T} {H : List O}

theorem Post.mono {E H0 β0 w0 D} (h : ∀ e t H, Q e t H → Q' e t H) {e : Exit} {a : Act} {w : World} (hp : Post E H0 β0 w0 n D Q e a w) : Post E H0 β0 w0 n D Q' e a w := by
  cases e with
  | normal => obtain ⟨t, H, β, h1, h2⟩ := hp; exact ⟨t, H, β, h _ _ _ h1, h2⟩
  | exit id => obtain ⟨t, H, β, h1, h2⟩ := hp; exact ⟨t, H, β, h _ _ _ h1, h2⟩
  | ret => obtain ⟨t, H, β, h1, h2⟩ := hp; exact ⟨t, H, β, h _ _ _ h1, h2⟩
  | panic ch => obtain ⟨t, H, β, v, x, h1, h2⟩ := hp; exact ⟨t, H, β, v, x, h _ _ _ h1, h2⟩
  | goto l => exact hp.elim
  | outgrown => exact hp.elim

theorem AWP.mono {c : Code} (h : AWP P n c Q t H) (hq : ∀ e t H, Q e t H → Q' e t H) : AWP P n c Q' t H :=
  fun E H0 β0 w0 D β a w hs hg => wp_mono (h E H0 β0 w0 D β a w hs hg) fun _ _ _ hp => Post.mono hq hp

theorem AWP_skip (h : Q .normal t H) : AWP P n .skip Q t H := fun _ _ _ _ _ β _ _ _ hg => wp_skip ⟨t, H, β, h, hg⟩
theorem AWP_ret (h : Q .ret t H) : AWP P n .ret Q t H := fun _ _ _ _ _ β _ _ _ hg => wp_ret ⟨t, H, β, h, hg⟩
theorem AWP_exit {id : Nat} (h : Q (.exit id) t H) : AWP P n (.exit id) Q t H := fun _ _ _ _ _ β _ _ _ hg => wp_exit ⟨t, H, β, h, hg⟩

def seqQ (K : T → List O → Prop) (Q : AEx → T → List O → Prop) : AEx → T → List O → Prop
  | .normal, t, H => K t H
  | e, t, H => Q e t H

theorem AWP_seq {x y : Code} (h : AWP P n x (seqQ (AWP P n y Q) Q) t H) : AWP P n (.seq x y) Q t H := by
  intro E H0 β0 w0 D β a w hs hg
  refine wp_seq (wp_mono (h E H0 β0 w0 D β a w hs hg) ?_)
  intro e a' w' hp
  cases e with
  | normal => obtain ⟨t', H', β', h1, h2⟩ := hp; exact h1 E H0 β0 w0 D β' a' w' hs h2
  | exit id => exact hp
  | ret => exact hp
  | panic ch => exact hp
  | goto l => exact hp.elim
  | outgrown => exact hp.elim

def blockQ (id : Nat) (Q : AEx → T → List O → Prop) : AEx → T → List O → Prop
  | .exit j, t, H => if j = id then Q .normal t H else Q (.exit j) t H
  | e, t, H => Q e t H

theorem AWP_block {id : Nat} {c : Code} (h : AWP P n c (blockQ id Q) t H) : AWP P n (.block id c) Q t H := by
  intro E H0 β0 w0 D β a w hs hg
  refine wp_block (wp_mono (h E H0 β0 w0 D β a w hs hg) ?_)
  intro e a' w' hp
  cases e with
  | normal => exact hp
  | exit j =>
    obtain ⟨t', H', β', h1, h2⟩ := hp
    simp only [Exit.inBlock]
    simp only [blockQ] at h1
    by_cases hj : j = id
    · simp only [hj, if_true] at h1 ⊢; exact ⟨t', H', β', h1, h2⟩
    · simp only [hj, if_false] at h1 ⊢; exact ⟨t', H', β', h1, h2⟩
  | ret => exact hp
  | panic ch => exact hp
  | goto l => exact hp.elim
  | outgrown => exact hp.elim

theorem put_true {β : List Loc} {w : World} {X : Nat → Nat → Prop} {a : Act} {d : Nat} {b : Bool} (h : FR w X β n t a) (hb : get d t = .bool b) : FR w X β n (put d (.bool b) t) a := by
  refine ⟨h.size, fun e => ?_⟩
  rw [get_put]
  split
  · rename_i he
    subst he
    rw [← hb]; exact h.slot e
  · exact h.slot e

theorem AWP_cond {d : Nat} {x y : Code} {b : Bool} (hc : get d t = .bool b) (ht : b = true → AWP P n x Q (put d (.bool true) t) H) (hf : b = false → AWP P n y Q (put d (.bool false) t) H) :
    AWP P n (.cond (.tmp d) x y) Q t H := by
  intro E H0 β0 w0 D β a w hs hg
  have hx := rd_R hg.fr (.tmp d)
  simp only [rd, hc] at hx
  generalize he : a.eval (.tmp d) = v at hx
  cases hx
  have hg' : Good E H0 β0 w0 n D (put d (.bool b) t) H β a w := ⟨hg.step, put_true hg.fr hc, hg.defers⟩
  refine wp_cond he ?_
  cases b
  · exact hf rfl E H0 β0 w0 D β a w hs hg'
  · exact ht rfl E H0 β0 w0 D β a w hs hg'

theorem AWP_cond' {c : Operand} {x y : Code} {b : Bool} (hc : rd t c = .bool b) (ht : b = true → AWP P n x Q t H) (hf : b = false → AWP P n y Q t H) :
    AWP P n (.cond c x y) Q t H := by
  intro E H0 β0 w0 D β a w hs hg
  have hx := rd_R hg.fr c
  rw [hc] at hx
  generalize he : a.eval c = v at hx
  cases hx
  refine wp_cond he ?_
  cases b
  · exact hf rfl E H0 β0 w0 D β a w hs hg
  · exact ht rfl E H0 β0 w0 D β a w hs hg

/-- Less may be known. -/
def TLe (t s : T) : Prop := ∀ d, get d s = get d t ∨ get d s = .any

theorem TLe.refl (t : T) : TLe t t := fun _ => .inl rfl
theorem TLe.keep (l : List Nat) (t : T) : TLe t (keep l t) := fun d => get_keep l d t

theorem FR.le {β : List Loc} {w : World} {X : Nat → Nat → Prop} {a : Act} {s : T} (h : FR w X β n t a) (hl : TLe t s) : FR w X β n s a :=
  ⟨h.size, fun d => by rcases hl d with e | e <;> rw [e]; exact h.slot d; exact .any _ _⟩

theorem AWP.less {c : Code} {s : T} (hl : TLe t s) (h : AWP P n c Q s H) : AWP P n c Q t H :=
  fun E H0 β0 w0 D β a w hs hg => h E H0 β0 w0 D β a w hs ⟨hg.step, hg.fr.le hl, hg.defers⟩

/-- A loop whose rounds are counted by what goes down. -/
theorem AWP_loop {α : Type} (st : α → T × List O) (μ : α → Nat) {body : Code}
    (h : ∀ i, AWP P n body (fun e t H => match e with | .normal => ∃ j, μ j < μ i ∧ TLe t (st j).1 ∧ H = (st j).2 | e => Q e t H) (st i).1 (st i).2) (i : α) :
    AWP P n (.loop body) Q (st i).1 (st i).2 := by
  intro E H0 β0 w0 D β a w hs hg b k cs
  have key : ∀ m i β a w, μ i = m → Good E H0 β0 w0 n D (st i).1 (st i).2 β a w →
      ∃ e a' w', Post E H0 β0 w0 n D Q e a' w' ∧ Arrives P (lone (b.at a (.code body :: .inLoop body :: k)) cs w) b k cs e a' w' := by
    intro m
    induction m using Nat.strongRecOn with
    | _ m ih =>
      intro i β a w hm hg
      obtain ⟨e, a₁, w₁, hq, harr⟩ := h i E H0 β0 w0 D β a w hs hg b (.inLoop body :: k) cs
      cases e with
      | normal =>
        obtain ⟨t', H', β', ⟨j, hlt, hle, rfl⟩, hg'⟩ := hq
        obtain ⟨e₂, a₂, w₂, hq₂, harr₂⟩ := ih (μ j) (hm ▸ hlt) j β' a₁ w₁ rfl ⟨hg'.step, hg'.fr.le hle, hg'.defers⟩
        exact ⟨e₂, a₂, w₂, hq₂, .of_steps (Steps.trans harr (.one step_inLoop)) harr₂⟩
      | exit id => exact ⟨.exit id, a₁, w₁, hq, .pass (x := .inLoop body) rfl (fun _ _ => .inl (by simp)) harr⟩
      | ret => exact ⟨.ret, a₁, w₁, hq, .pass (x := .inLoop body) rfl (fun _ _ => .inl (by simp)) harr⟩
      | panic ch => exact ⟨.panic ch, a₁, w₁, hq, .pass (x := .inLoop body) rfl (fun _ _ => .inl (by simp)) harr⟩
      | goto l => exact hq.elim
      | outgrown => exact hq.elim
  obtain ⟨e, a', w', hq, harr⟩ := key _ i β a w rfl hg
  exact ⟨e, a', w', hq, .of_steps (.one step_loop) harr⟩

/-- One region, in the order of the text. -/
theorem runs_sound {cx : Cx} (hT : CxOk cx) {ops : Array Oper} {E H0 β0 w0 D} (hs : StartOk cx.P E H0 β0 w0) {Q : AEx → T → List O → Prop} :
    ∀ (l : List Oper) (k : Nat) (t : T) (H : List O) (β : List Loc) (a : Act) (w : World), ops.toList.drop k = l → (druns cx ops l t H).all (fun s => Q s.1 s.2.1 s.2.2) →
      Good E H0 β0 w0 cx.n D t H β a w → wpOps cx.P ops (Post E H0 β0 w0 cx.n D Q) (List.range' k l.length) a w
  | [], k, t, H, β, a, w, _, h, hg => ⟨keep cx.keeps t, H, β, h, ⟨hg.step, hg.fr.keep _, hg.defers⟩⟩
  | o :: r, k, t, H, β, a, w, hl, h, hg => by
    have hk : ops.toList[k]? = some o := by
      have := congrArg (fun l => l[0]?) hl
      simpa using this
    have hk' : ops[k]? = some o := by simpa using hk
    have hr : ops.toList.drop (k + 1) = r := by
      have := congrArg List.tail hl
      simpa [List.tail_drop] using this
    have ih := runs_sound hT hs (ops := ops) (Q := Q) (D := D) r (k + 1)
    simp only [List.length_cons, List.range'_succ, wpOps, hk']
    -- a slot is written
    have put : ∀ v x t H β a w, (dputs cx o v t H (druns cx ops r)).all (fun s => Q s.1 s.2.1 s.2.2) → R w (Xs E H β) β v x → Good E H0 β0 w0 cx.n D t H β a w →
        wpOps cx.P ops (Post E H0 β0 w0 cx.n D Q) (List.range' (k + 1) r.length) (a.put o.dst x) w := by
      intro v x t H β a w hp hv hg
      unfold dputs putO at hp
      cases hd : o.dst with
      | none =>
        simp only [hd] at hp
        simp only [Act.put]
        exact ih t H β a w hr hp hg
      | some d =>
        simp only [hd] at hp
        cases hb : Nat.blt d cx.n
        · simp [hb, Tree.all] at hp
        · simp only [hb, cond_true] at hp
          have hlt : d < cx.n := by simpa [Nat.blt_eq] using hb
          exact ih _ H β _ w hr hp ⟨hg.step, hg.fr.put hlt hv, hg.defers⟩
    -- an operation is carried out
    have run : ∀ t, FR w (Xs E H β) β cx.n t a → ((dop cx t H o).bind (dres cx o t (druns cx ops r))).all (fun s => Q s.1 s.2.1 s.2.2) →
        o.wp cx.P a w (wpOps cx.P ops (Post E H0 β0 w0 cx.n D Q) (List.range' (k + 1) r.length)) (Post E H0 β0 w0 cx.n D Q) := by
      intro t hfr hall
      obtain ⟨s, hs1, hs2⟩ := Tree.all_run hall
      obtain ⟨res, hres, hd⟩ := bind_run hs1
      refine dop_sound hT (hs.now hg.step) hg.step.rel hfr hres ?_
      cases res with
      | ok v H' =>
        intro x w' β' st hv
        exact put v x t H' β' a w' (Tree.run_all hd hs2) hv ⟨hg.step.trans st, hfr.step st, hg.defers⟩
      | pan v H' =>
        intro x w' β' st hv
        simp only [dres, Tree.run, Option.some.injEq] at hd
        subst hd
        exact ⟨t, H', β', v, x, hs2, ⟨hg.step.trans st, hfr.step st, hg.defers⟩, hv, rfl⟩
    unfold druns dstep at h
    split at h
    · rename_i hgd
      have hw : Region.wanted o (yielded ops a.tmps) = true := by simp [Region.wanted, hgd]
      simp only [hw, if_true]
      exact .inl (run t hg.fr h)
    · rename_i j want hgd
      split at h
      rotate_left
      · exact h.elim
      rename_i d hd
      have hslot := hg.fr.slot d
      have hyield : ∀ b, a.tmps.getD d undef = .bool b → yielded ops a.tmps j = some b := by
        intro b hb
        unfold yielded
        rw [hd]
        simp only [Option.bind_some]
        rw [Array.getD_eq_getD_getElem?] at hb
        cases hq : a.tmps[d]? with
        | none => rw [hq] at hb; simp [undef] at hb
        | some q => rw [hq] at hb; simp at hb; subst hb; rfl
      split at h
      · rename_i b hb
        rw [hb] at hslot
        generalize hv : a.tmps.getD d undef = v at hslot
        cases hslot
        have hy := hyield b hv
        have hfr' := put_true hg.fr hb
        cases b
        · have h := h.2 rfl
          cases want
          · have hw : Region.wanted o (yielded ops a.tmps) = true := by simp [Region.wanted, hgd, hy]
            simp only [hw, if_true]
            exact .inl (run _ hfr' h)
          · have hw : Region.wanted o (yielded ops a.tmps) = false := by simp [Region.wanted, hgd, hy]
            simp only [hw, Bool.false_eq_true, if_false]
            exact put vundef undef _ H β a w h (.val _ _) ⟨hg.step, hfr', hg.defers⟩
        · have h := h.1 rfl
          cases want
          · have hw : Region.wanted o (yielded ops a.tmps) = false := by simp [Region.wanted, hgd, hy]
            simp only [hw, Bool.false_eq_true, if_false]
            exact put vundef undef _ H β a w h (.val _ _) ⟨hg.step, hfr', hg.defers⟩
          · have hw : Region.wanted o (yielded ops a.tmps) = true := by simp [Region.wanted, hgd, hy]
            simp only [hw, if_true]
            exact .inl (run _ hfr' h)
      · rename_i vs hb
        rw [hb] at hslot
        generalize hv : a.tmps.getD d undef = v at hslot
        cases hslot
        have hy : yielded ops a.tmps j = none := by
          unfold yielded
          rw [hd]
          simp only [Option.bind_some]
          rw [Array.getD_eq_getD_getElem?] at hv
          cases hq : a.tmps[d]? with
          | none => rfl
          | some q => rw [hq] at hv; simp at hv; subst hv; rfl
        have hw : Region.wanted o (yielded ops a.tmps) = false := by simp [Region.wanted, hgd, hy]
        simp only [hw, Bool.false_eq_true, if_false]
        exact put vundef undef t H β a w h (.val _ _) hg
      · exact h.elim

theorem AWP_region {cx : Cx} (hP : cx.P = P) (hn : cx.n = n) (hT : CxOk cx) {id : Nat} {ops : Array Oper} (h : (druns cx ops ops.toList t H).all (fun s => Q s.1 s.2.1 s.2.2)) :
    AWP P n (.region id ops false) Q t H := by
  intro E H0 β0 w0 D β a w hs hg
  refine wp_region ?_
  subst hP
  subst hn
  have := runs_sound hT hs (ops := ops) (Q := Q) (D := D) ops.toList 0 t H β a w rfl h hg
  simpa [List.range_eq_range'] using this

end
end Go.Ab

namespace Go.Ab
section
variable {P : Program} {E : Nat → Nat → Prop} {H : List O} {β : List Loc} {w : World} {X : Nat → Nat → Prop}

def resOne (tmps : Array Value) : ResultVar → Sem Value
  | .tmp t => pure (tmps.getD t undef)
  | .cell a t => do loadVar t (← asAddr (tmps.getD a undef))

theorem results_eq (fn : Func) (tmps : Array Value) : results fn tmps = (do let vs ← fn.results.mapM (resOne tmps); pure (if h : vs.size = 1 then vs[0] else .tuple vs)) := by
  unfold results
  have : (fun r : ResultVar => (match r with | .tmp t => pure (tmps.getD t undef) | .cell a t => do loadVar t (← asAddr (tmps.getD a undef)) : Sem Value)) = resOne tmps := by
    funext r; cases r <;> rfl
  rw [← this]
  rfl

theorem resV_R {n : Nat} {t : T} {a : Act} (hR : Rel w X H β) (hF : FR w X β n t a) : ∀ (rs : List ResultVar) (vs : List V), resV P H t rs = some vs →
    ∃ ys : List Value, (rs.mapM (resOne a.tmps)).run P w = .ok ys w ∧
      ys.length = vs.length ∧ ∀ (k : Nat) v x, vs[k]? = some v → ys[k]? = some x → R w X β v x
  | [], vs, h => by
    simp only [resV, Option.some.injEq] at h
    subst h
    exact ⟨[], by simp, rfl, by simp⟩
  | .tmp i :: rs, vs, h => by
    simp only [resV] at h
    obtain ⟨us, hu, rfl⟩ := Option.map_eq_some_iff.1 h
    obtain ⟨ys, h1, h2, h3⟩ := resV_R hR hF rs us hu
    refine ⟨a.tmps.getD i undef :: ys, by simp [List.mapM_cons, resOne, h1], by simp [h2], ?_⟩
    intro k v x hv hx
    cases k with
    | zero => simp only [List.getElem?_cons_zero, Option.some.injEq] at hv hx; subst hv; subst hx; exact hF.slot i
    | succ k => exact h3 k v x (by simpa using hv) (by simpa using hx)
  | .cell b ty :: rs, vs, h => by
    unfold resV at h
    split at h
    rotate_left
    · cases h
    rename_i u us hl hu
    simp only [Option.some.injEq] at h
    subst h
    obtain ⟨ys, h1, h2, h3⟩ := resV_R hR hF rs us hu
    obtain ⟨bl, o, z, hz, hrun, hr⟩ := sound_loadVar (P := P) hR (hF.slot b) hl
    refine ⟨z :: ys, ?_, by simp [h2], ?_⟩
    · simp only [List.mapM_cons, resOne, Sem.run_bind, hz, asAddr, Sem.run_pure, Result.andThen_ok, hrun, h1]
    · intro k v x hv hx
      cases k with
      | zero => simp only [List.getElem?_cons_zero, Option.some.injEq] at hv hx; subst hv; subst hx; exact hr
      | succ k => exact h3 k v x (by simpa using hv) (by simpa using hx)

theorem answer_R {n : Nat} {t : T} {a : Act} {fn : Func} {out : V} (hR : Rel w X H β) (hF : FR w X β n t a) (h : answerV P fn.results.toList H t = some out) :
    ∃ y, (results fn a.tmps).run P w = .ok y w ∧ R w X [] out y := by
  unfold answerV at h
  have key : ∀ ds, (resV P H t fn.results.toList).bind V.pures? = some ds → ∃ ys : List Value, (results fn a.tmps).run P w = .ok (if hh : ys.length = 1 then ys[0] else .tuple ys.toArray) w ∧
      ys.length = ds.length ∧ ∀ (k : Nat) v x, ds[k]? = some v → ys[k]? = some x → R w X [] v x := by
    intro ds hds
    obtain ⟨vs, hvs, hp⟩ := Option.bind_eq_some_iff.1 hds
    obtain ⟨ys, h1, h2, h3⟩ := resV_R hR hF fn.results.toList vs hvs
    obtain ⟨p1, p2⟩ := pures_get hp
    refine ⟨ys, ?_, by omega, fun k v x hv hx => ?_⟩
    · rw [results_eq]
      simp only [Array.mapM_eq_mapM_toList, Sem.run_bind, Sem.run_map]
      rw [h1]
      simp
    · obtain ⟨u, hu, hu'⟩ := p2 k v hv
      exact pure_R (h3 k u x hu hx) v hu'
  split at h
  · rename_i v hv
    simp only [Option.some.injEq] at h
    subst h
    obtain ⟨ys, h1, h2, h3⟩ := key _ hv
    have hl : ys.length = 1 := h2
    refine ⟨ys[0], by rw [h1, dif_pos hl], h3 0 v _ rfl (by simp [hl])⟩
  · rename_i vs hne hv
    simp only [Option.some.injEq] at h
    subst h
    obtain ⟨ys, h1, h2, h3⟩ := key _ hv
    have hl : ¬ ys.length = 1 := fun e => by
      rw [e] at h2
      match vs, h2 with
      | [v], _ => exact hne v rfl
    exact ⟨.tuple ys.toArray, by rw [h1, dif_neg hl], .tup [] vs ys h2 h3⟩
  · cases h

theorem get_initT : ∀ (args : List V) (i d : Nat), get d (initT i args) = if d < i then .any else (args[d - i]?).getD .any
  | [], i, d => by simp [initT, get]
  | v :: r, i, d => by
    simp only [initT, get]
    by_cases h : d = i
    · subst h; simp
    · rw [nbeq_ne h, cond_false, get_initT r (i + 1) d]
      by_cases h1 : d < i
      · simp [h1, Nat.lt_succ_of_lt h1]
      · have : ¬ d < i + 1 := by omega
        simp only [h1, this, if_false]
        rw [show d - i = (d - (i + 1)) + 1 from by omega, List.getElem?_cons_succ]

/-- A function's contract. -/
theorem pcall_of {f : Nat} {fn : Func} {c : Code} {args : List V} {out : V} (hf : P.funcs[f]? = some fn) (hb : fn.body = some c) (hname : fn.name ≠ "runtime.NumGoroutine")
    (hn : args.length ≤ fn.ntmps) (h : AWP P fn.ntmps c (fun e t H => (e = .ret ∨ e = .normal) ∧ answerV P fn.results.toList H t = some out) (initT 0 args) []) : PCall P f args out := by
  refine ⟨⟨fn, hf, hname, by simp [hb]⟩, ?_⟩
  intro w E rargs hE hlen hargs
  refine calls_of_wp hf hb ?_
  have hX0 : ∀ v x, R w E [] v x → R w (Xs E [] []) [] v x := fun v x h => h.stab ⟨fun b o v h1 h2 => ⟨fun h => h.elim h1 (own_nil b o), h2⟩, fun b cs e h => ⟨cs, e, h⟩⟩ [] (.refl _)
  have hg : Good E [] [] w fn.ntmps [] (initT 0 args) [] [] { tmps := rargs.toArray ++ Array.replicate (fn.ntmps - rargs.toArray.size) undef, defers := [] } w := by
    have hX : ∀ v x, R w E [] v x → R w (Xs E [] []) [] v x := fun v x h => h.stab ⟨fun b o v h1 h2 => ⟨fun h => h.elim h1 (own_nil b o), h2⟩, fun b cs e h => ⟨cs, e, h⟩⟩ [] (.refl _)
    refine ⟨Step.refl (rel_nil _ _), ⟨by simp; omega, fun d => ?_⟩, rfl⟩
    rw [get_initT]
    simp only [Nat.not_lt_zero, if_false, Nat.sub_zero]
    cases hd : args[d]? with
    | none => exact .any _ _
    | some v =>
      have hlt : d < rargs.length := by rw [hlen]; exact (List.getElem?_eq_some_iff.1 hd).1
      have := hargs d v rargs[d] hd (by simp [hlt])
      simp only [Option.getD_some]
      have e : (rargs.toArray ++ Array.replicate (fn.ntmps - rargs.toArray.size) undef).getD d undef = rargs[d] := by
        rw [Array.getD_eq_getD_getElem?, Array.getElem?_append_left (by simpa using hlt)]
        simp [hlt]
      rw [e]
      exact hX _ _ this
  have := h E [] [] w [] [] _ w ⟨fun b o hb => ⟨hE.1 b o hb, own_nil b o⟩, fun p hp => hX0 _ _ (hE.2 p hp)⟩ hg
  refine wp_mono this ?_
  intro e a w' hp
  have fin : ∀ t H β ex, (ex = AEx.ret ∨ ex = AEx.normal) ∧ answerV P fn.results.toList H t = some out → Good E [] [] w fn.ntmps [] t H β a w' →
      a.defers = [] ∧ ∃ v, (results fn a.tmps).run P w' = .ok v w' ∧ (∃ y, Ending.returned v = .returned y ∧ Step E [] [] w [] [] w' ∧ R w' E [] out y) := by
    intro t H β ex hq hg
    obtain ⟨y, h1, h2⟩ := answer_R hg.step.rel hg.fr hq.2
    refine ⟨hg.defers, y, h1, y, rfl, ?_, ?_⟩
    · exact ⟨rel_nil _ _, hg.step.os, hg.step.tape, hg.step.output, hg.step.size, fun b hb => by
        rcases hg.step.pres b hb with h | ⟨⟨o, h⟩, _⟩ | ⟨⟨o, h⟩, _⟩
        · exact .inl h
        · exact absurd h (own_nil b o)
        · exact absurd h (own_nil b o), fun b o h => absurd h (own_nil b o), .nil _⟩
    · exact h2.stab ⟨fun b o v h1 h2 => ⟨fun h => h1 (.inl h), h2⟩, fun b cs e h => ⟨cs, e, h⟩⟩ [] (.refl _)
  cases e with
  | normal => obtain ⟨t, H, β, hq, hg⟩ := hp; exact fin t H β _ hq hg
  | ret => obtain ⟨t, H, β, hq, hg⟩ := hp; exact fin t H β _ hq hg
  | exit id => obtain ⟨t, H, β, hq, hg⟩ := hp; rcases hq.1 with h | h <;> cases h
  | panic ch => obtain ⟨t, H, β, v, x, hq, hg⟩ := hp; rcases hq.1 with h | h <;> cases h
  | goto l => exact hp.elim
  | outgrown => exact hp.elim

end
end Go.Ab
