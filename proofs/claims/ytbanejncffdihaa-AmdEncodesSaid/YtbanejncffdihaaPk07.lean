/-
  The engine, part Om: objects that are no rows of cells: maps by numbers, strings that are ranged over. Conditions: none.
-/
import Derived.Test.YtbanejncffdihaaPk05
import Derived.Laws.RangeString
import Derived.Test.YtbanejncffdihaaPk06
set_option linter.unusedVariables false
set_option linter.unusedSimpArgs false
namespace Go.Ab
open Go.MapKept
section
variable {P : Program} {E : Nat → Nat → Prop} {H : List O} {β : List Loc} {w : World}
theorem Step.pushObj (hR : Rel w (Xs E H β) H β) (ob : Obj) {sh : Shape} {xs : List Value} {vs : List V} {loc : Loc} (hsh : Shp sh ob xs)
    (hv : ∀ (k : Nat) v, vs[k]? = some v → ∃ x, xs[k]? = some x ∧ R w (Xs E H β) β v x) (hloc : loc.block = w.heap.size) (hk : loc.kind = false) (hb : loc.base = 0) :
    Step E H β w (H ++ [.obj sh vs]) (β ++ [loc]) (w.alloc ob) := Step.pushObjD hR ob hsh hv hloc hk hb
theorem Step.setObj (hR : Rel w (Xs E H β) H β) {id : Nat} {sh sh' : Shape} {vs vs' : List V} {loc : Loc} {ob' : Obj} {xs' : List Value}
    (hid : H[id]? = some (.obj sh vs)) (hloc : β[id]? = some loc) (hsh : Shp sh' ob' xs') (hv : ∀ (k : Nat) v, vs'[k]? = some v → ∃ x, xs'[k]? = some x ∧ R w (Xs E H β) β v x)
    (hp : sh.isPage = false := by rfl) (hp' : sh'.isPage = false := by rfl) :
    Step E H β w (H.set id (.obj sh' vs')) β { w with heap := w.heap.setIfInBounds loc.block ob' } :=
  Step.setObjG hR hid hloc hsh hv fun _ _ _ h => .inl ⟨h.special hp, hsh.special hp'⟩
theorem zeroPtr_run {t : TypeId} (h : zeroPtr P t = true) (w : World) : (zeroValue t).run P w = .ok (.pointer none) w := by
  unfold zeroPtr at h
  split at h
  · rename_i i hi
    split at h
    · rename_i hz
      simp [zeroValue, typeInfo, hi, hz]
    · cases h
  · cases h
theorem isU64_und {t : TypeId} (h : isU64 P t = true) : P.underlying t = some (.int .u64) := by
  unfold isU64 at h
  split at h
  · assumption
  · cases h
theorem sound_makeMap (hR : Rel w (Xs E H β) H β) (t : TypeId) :
    ∃ z w' β', (Instr.makeMap t none).run P w = .ok z w' ∧ Step E H β w (H ++ [.obj (.map []) []]) β' w' ∧ R w' (Xs E (H ++ [.obj (.map []) []]) β') β' (.mp H.length) z := by
  refine ⟨.map (some w.heap.size), _, β ++ [{ kind := false, block := w.heap.size, base := 0, n := 0, size := 0 }], rfl,
    Step.pushObj hR (.map #[] 0) (xs := []) ⟨#[], 0, [], rfl, stamped_empty 0, .nil, .refl _, rfl, rfl⟩ (fun k v h => by simp at h) rfl rfl rfl, ?_⟩
  exact .mp _ _ { kind := false, block := w.heap.size, base := 0, n := 0, size := 0 } (by rw [hR.len]; simp) rfl
theorem lookK_run {z : V} {f : V → Bool → V} {u : V} {n : Int} : ∀ {keys : List Int} {vs : List V}, (lookK z f keys vs n).run = some u →
    (∃ (i : Nat) (v : V), keys[i]? = some n ∧ vs[i]? = some v ∧ u = f v true) ∨ (n ∉ keys ∧ u = f z false)
  | [], [], h => by simp only [lookK, Tree.run, Option.some.injEq] at h; exact .inr ⟨by simp, h.symm⟩
  | k :: ks, v :: vs, h => by
    unfold lookK at h
    simp only [Tree.run] at h
    cases hb : (n == k)
    · rw [hb, cond_false] at h
      rcases lookK_run h with ⟨i, v', h1, h2, h3⟩ | ⟨h1, h2⟩
      · exact .inl ⟨i + 1, v', by simpa using h1, by simpa using h2, h3⟩
      · refine .inr ⟨?_, h2⟩
        simp only [List.mem_cons, not_or]
        exact ⟨fun e => by rw [e] at hb; simp at hb, h1⟩
    · rw [hb, cond_true] at h
      simp only [Option.some.injEq] at h
      exact .inl ⟨0, v, by simp [eq_of_beq hb], rfl, h.symm⟩
  | [], _ :: _, h => by cases h
  | _ :: _, [], h => by cases h
theorem map_facts {keys : List Int} {ob : Obj} {xs : List Value} (h : Shp (.map keys) ob xs) :
    ∃ (arr : Array MapEntry) (clock : Nat) (l : List MapEntry), ob = .map arr clock ∧ Stamped arr clock ∧ keys.Pairwise (· < ·) ∧ l.Perm arr.toList ∧ l.map (·.key) = keys.map (Value.int .u64) ∧ l.map (·.val) = xs ∧
      (∀ x ∈ arr.toList, IsKey (.int .u64) x.key) ∧ ∀ (i : Nat) e n, l[i]? = some e → e.key = .int .u64 n → keys[i]? = some n ∧ xs[i]? = some e.val := by
  obtain ⟨arr, clock, l, h1, h2, h3, h4, h5, h6⟩ := h
  refine ⟨arr, clock, l, h1, h2, h3, h4, h5, h6, fun x hx => ?_, fun i e n hi he => ⟨?_, ?_⟩⟩
  · have : x.key ∈ l.map (·.key) := List.mem_map_of_mem (h4.mem_iff.2 hx)
    rw [h5] at this
    obtain ⟨n, _, hn⟩ := List.mem_map.1 this
    rw [← hn]
    rfl
  · have : (l.map (·.key))[i]? = some (.int .u64 n) := by rw [List.getElem?_map, hi]; exact congrArg some he
    rw [h5, List.getElem?_map] at this
    obtain ⟨m, hm, hm'⟩ := Option.map_eq_some_iff.1 this
    cases hm'
    exact hm
  · rw [← h6, List.getElem?_map, hi]
    rfl
theorem sorted_inj {keys : List Int} (h : keys.Pairwise (· < ·)) {i j : Nat} {n : Int} (hi : keys[i]? = some n) (hj : keys[j]? = some n) : i = j := by
  obtain ⟨hi', ei⟩ := List.getElem?_eq_some_iff.1 hi
  obtain ⟨hj', ej⟩ := List.getElem?_eq_some_iff.1 hj
  rcases Nat.lt_trichotomy i j with hlt | heq | hgt
  · have := List.pairwise_iff_getElem.1 h i j hi' hj' hlt
    omega
  · exact heq
  · have := List.pairwise_iff_getElem.1 h j i hj' hi' hgt
    omega
theorem sound_lookup {t : TypeId} {x ix u : V} {sx si : Value} {ok : Bool} (hR : Rel w (Xs E H β) H β) (hx : R w (Xs E H β) β x sx) (hi : R w (Xs E H β) β ix si) (h : (oLookup P H t x ix ok).run = some u) :
    ∃ z, (Instr.lookup t sx si ok).run P w = .ok z w ∧ R w (Xs E H β) β u z := by
  unfold oLookup at h
  split at h
  rotate_left
  · cases h
  rename_i kt et hm
  split at h
  rotate_left
  · cases h
  rename_i n id
  split at h
  rotate_left
  · cases h
  rename_i keys vs hid
  cases hc : (isU64 P kt && zeroPtr P et)
  · rw [hc] at h; cases h
  rw [hc, cond_true] at h
  rw [Bool.and_eq_true] at hc
  have hd := isU64_und hc.1
  cases hi
  cases hx with
  | mp _ _ loc hloc hk =>
    obtain ⟨_, _, ob, xs, hob, hsh, hval⟩ := hR.objs id _ _ loc hid hloc
    obtain ⟨arr, clock, l, rfl, hst, hsort, hperm, hkeys, hvals, hisk, hat⟩ := map_facts hsh
    have hk : IsKey (.int .u64) (.int .u64 n) := rfl
    have fin : ∀ (r : Option (Nat × Value)) (v : V) (b : Bool) (y : Value), Instr.findNow (.int .u64) (.int .u64 n) arr.toList 0 = some r → u = okV ok v b → R w (Xs E H β) β v y →
        (r = none → y = .pointer none ∧ b = false) → (∀ q, r = some q → y = q.2 ∧ b = true) → ∃ z, (Instr.lookup t (.map (some loc.block)) (.int .u64 n) ok).run P w = .ok z w ∧ R w (Xs E H β) β u z := by
      intro r v b y hf hu hr h1 h2
      have hpair : R w (Xs E H β) β (.tup [v, .bool b]) (.tuple #[y, .bool b]) := .tup _ _ [y, .bool b] rfl fun k v' x hv hx => by
        match k, hv, hx with
        | 0, hv, hx => cases hv; cases hx; exact hr
        | 1, hv, hx => cases hv; cases hx; exact .bool _ _
      cases r with
      | none =>
        obtain ⟨rfl, rfl⟩ := h1 rfl
        refine ⟨if ok then .tuple #[.pointer none, .bool false] else .pointer none, ?_, ?_⟩
        · simp [Instr.lookup, run_underlying hm, run_getObj_map hob, run_checkKey hd hk, run_findKey hd hf, zeroPtr_run hc.2, Result.andThen]
        · rw [hu]
          cases ok
          · exact hr
          · exact hpair
      | some q =>
        obtain ⟨rfl, rfl⟩ := h2 q rfl
        refine ⟨if ok then .tuple #[q.2, .bool true] else q.2, ?_, ?_⟩
        · obtain ⟨q1, q2⟩ := q
          simp [Instr.lookup, run_underlying hm, run_getObj_map hob, run_checkKey hd hk, run_findKey hd hf, Result.andThen]
        · rw [hu]
          cases ok
          · exact hr
          · exact hpair
    rcases findNow_spec hk arr.toList 0 hisk with ⟨f1, f2⟩ | ⟨j, e, f1, f2, f3⟩
    · rcases lookK_run h with ⟨i, v, g1, g2, g3⟩ | ⟨g1, g2⟩
      · exfalso
        have hl : (l.map (·.key))[i]? = some (.int .u64 n) := by rw [hkeys, List.getElem?_map, g1]; rfl
        obtain ⟨e, he, he'⟩ := List.mem_map.1 (List.mem_of_getElem? hl)
        exact f2 e (hperm.mem_iff.1 he) he'
      · exact fin none _ false (.pointer none) f1 g2 (.val _ _) (fun _ => ⟨rfl, rfl⟩) (fun q hq => by cases hq)
    · have hel : e ∈ l := hperm.mem_iff.2 (List.mem_of_getElem? f2)
      obtain ⟨i, hi⟩ := List.getElem?_of_mem hel
      obtain ⟨k1, k2⟩ := hat i e n hi f3
      rcases lookK_run h with ⟨i', v, g1, g2, g3⟩ | ⟨g1, g2⟩
      · have := sorted_inj hsort k1 g1
        subst this
        obtain ⟨y, hy, hr⟩ := hval i v g2
        rw [k2] at hy
        cases hy
        exact fin _ v true e.val f1 g3 hr (fun hq => by cases hq) (fun q hq => by cases hq; exact ⟨rfl, rfl⟩)
      · exact absurd (List.mem_of_getElem? k1) g1
theorem sound_range {t : TypeId} {x : V} {sx : Value} {res : Res} (hR : Rel w (Xs E H β) H β) (hx : R w (Xs E H β) β x sx) (h : (oRange P H t x).run = some res) :
    ∃ u H', res = .ok u H' ∧ ∃ z w' β', (Instr.range t sx).run P w = .ok z w' ∧ Step E H β w H' β' w' ∧ R w' (Xs E H' β') β' u z := by
  unfold oRange at h
  split at h
  rotate_left
  · cases h
  rename_i s hs
  simp only [Tree.run, Option.some.injEq] at h
  subst h
  cases hx
  refine ⟨_, _, rfl, .pointer (some ⟨w.heap.size, 0, none⟩), _, β ++ [{ kind := false, block := w.heap.size, base := 0, n := 0, size := 0 }], run_range_string w t _ hs,
    Step.pushObj hR (.stringIter ⟨s.toArray⟩ 0) (xs := []) ⟨rfl, rfl⟩ (fun k v h => by simp at h) rfl rfl rfl, ?_⟩
  exact .ptr _ _ 0 { kind := false, block := w.heap.size, base := 0, n := 0, size := 0 } (by rw [hR.len]; simp) rfl
theorem sound_next {it : V} {si : Value} {res : Res} {ty : TypeId} (hR : Rel w (Xs E H β) H β) (hx : R w (Xs E H β) β it si) (h : (oNext H it).run = some res) :
    ∃ u H', res = .ok u H' ∧ ∃ z w' β', (Instr.next si true ty).run P w = .ok z w' ∧ Step E H β w H' β' w' ∧ R w' (Xs E H' β') β' u z := by
  unfold oNext at h
  split at h
  rotate_left
  · cases h
  rename_i id off
  split at h
  rotate_left
  · cases h
  rename_i s pos vs hid
  cases hc : Nat.beq off 0
  · rw [hc] at h; cases h
  rw [hc, cond_true] at h
  have h0 := Nat.eq_of_beq_eq_true hc
  subst h0
  cases hx with
  | ptr _ _ _ loc hloc hk =>
    obtain ⟨_, hb, ob, xs, hob, hsh, hval⟩ := hR.objs id _ _ loc hid hloc
    obtain ⟨rfl, rfl⟩ := hsh
    rw [hb]
    simp only [Tree.run] at h
    have hsz : (⟨s.toArray⟩ : ByteArray).size = s.length := by simp [ByteArray.size]
    cases hp : decide (pos < s.length)
    · rw [hp, cond_false] at h
      simp only [Option.some.injEq] at h
      subst h
      have hp := of_decide_eq_false hp
      refine ⟨_, _, rfl, .tuple #[.bool false], w, β, ?_, Step.refl hR, ?_⟩
      · simp [Instr.next, getObj, Sem.run, hob, Result.andThen, hsz, hp]
      · exact .tup _ _ [.bool false] rfl fun k v x hv hx => by
          match k, hv, hx with
          | 0, hv, hx => cases hv; cases hx; exact .bool _ _
    · rw [hp, cond_true] at h
      obtain ⟨h1, h2⟩ := req_run h
      simp only [Tree.run, Option.some.injEq] at h2
      subst h2
      have hp := of_decide_eq_true hp
      have h1 := of_decide_eq_true h1
      have hps : pos < (⟨s.toArray⟩ : ByteArray).size := by rw [hsz]; exact hp
      have hget : ((⟨s.toArray⟩ : ByteArray)[pos]'hps) = s.getD pos 0 := by
        have : ((⟨s.toArray⟩ : ByteArray)[pos]'hps) = s[pos] := rfl
        rw [this, List.getD, List.getElem?_eq_getElem hp]
        rfl
      have hdec := decode_ascii ⟨s.toArray⟩ pos hps (by rw [hget]; exact h1)
      rw [hget] at hdec
      refine ⟨_, _, rfl, .tuple #[.bool true, .int .i64 pos, .int .i32 (s.getD pos 0).toNat], _, β, ?_, Step.setObj hR hid hloc (sh' := .siter s (pos + 1)) (ob' := .stringIter ⟨s.toArray⟩ (pos + 1)) (xs' := []) ⟨rfl, rfl⟩ (fun k v h => by simp at h), ?_⟩
      · simp [Instr.next, getObj, setObj, Sem.run, hob, Result.andThen, hsz, hp, hdec, goInt]
      · exact .tup _ _ [.bool true, .int .i64 pos, .int .i32 (s.getD pos 0).toNat] rfl fun k v x hv hx => by
          match k, hv, hx with
          | 0, hv, hx => cases hv; cases hx; exact .bool _ _
          | 1, hv, hx => cases hv; cases hx; exact .int _ _ _
          | 2, hv, hx => cases hv; cases hx; exact .int _ _ _
theorem setK_run {n : Int} {v : V} : ∀ {keys : List Int} {vs : List V} {p : List Int × List V}, (setK n v keys vs).run = some p → keys.Pairwise (· < ·) → vs.length = keys.length →
    (∃ i : Nat, keys[i]? = some n ∧ p = (keys, vs.set i v)) ∨
    (n ∉ keys ∧ ∃ i : Nat, i ≤ keys.length ∧ p = (keys.take i ++ n :: keys.drop i, vs.take i ++ v :: vs.drop i) ∧ p.1.Pairwise (· < ·))
  | [], [], p, h, _, _ => by
    simp only [setK, Tree.run, Option.some.injEq] at h
    subst h
    exact .inr ⟨by simp, 0, Nat.le_refl _, rfl, by simp⟩
  | k :: ks, u :: us, p, h, hs, hl => by
    unfold setK at h
    simp only [Tree.run] at h
    have hs1 := (List.pairwise_cons.1 hs).1
    have hs2 := (List.pairwise_cons.1 hs).2
    cases hb : (n == k)
    · have hne : n ≠ k := fun e => by rw [e] at hb; simp at hb
      rw [hb, cond_false] at h
      cases hlt : decide (n < k)
      · rw [hlt, cond_false] at h
        have hlt := of_decide_eq_false hlt
        obtain ⟨q, h1, h2⟩ := bind_run h
        simp only [Tree.run, Option.some.injEq] at h2
        subst h2
        rcases setK_run h1 hs2 (by simpa using hl) with ⟨i, g1, rfl⟩ | ⟨g1, i, g2, rfl, g5⟩
        · exact .inl ⟨i + 1, by simpa using g1, by simp⟩
        · refine .inr ⟨?_, i + 1, by simpa using g2, by simp, ?_⟩
          · simp only [List.mem_cons, not_or]
            exact ⟨hne, g1⟩
          · refine List.pairwise_cons.2 ⟨fun a ha => ?_, g5⟩
            simp only [List.mem_append, List.mem_cons] at ha
            rcases ha with ha | ha | ha
            · exact hs1 a (List.mem_of_mem_take ha)
            · omega
            · exact hs1 a (List.mem_of_mem_drop ha)
      · rw [hlt, cond_true] at h
        have hlt := of_decide_eq_true hlt
        simp only [Option.some.injEq] at h
        subst h
        refine .inr ⟨?_, 0, by simp, by simp, ?_⟩
        · simp only [List.mem_cons, not_or]
          exact ⟨hne, fun hm => by have := hs1 n hm; omega⟩
        · refine List.pairwise_cons.2 ⟨fun a ha => ?_, hs⟩
          simp only [List.mem_cons] at ha
          rcases ha with ha | ha
          · omega
          · have := hs1 a ha; omega
    · rw [hb, cond_true] at h
      simp only [Option.some.injEq] at h
      subst h
      exact .inl ⟨0, by simp [eq_of_beq hb], rfl⟩
  | [], _ :: _, _, h, _, _ => by cases h
  | _ :: _, [], _, h, _, _ => by cases h
theorem split_at {α : Type} {l : List α} {i : Nat} {e : α} (h : l[i]? = some e) : l = l.take i ++ e :: l.drop (i + 1) := by
  obtain ⟨hi, rfl⟩ := List.getElem?_eq_some_iff.1 h
  rw [List.getElem_cons_drop, List.take_append_drop]
theorem set_split {α : Type} {l : List α} {i : Nat} {e x : α} (h : l[i]? = some e) : l.set i x = l.take i ++ x :: l.drop (i + 1) := by
  obtain ⟨hi, _⟩ := List.getElem?_eq_some_iff.1 h
  rw [List.set_eq_take_append_cons_drop, if_pos hi]
theorem perm_set {α : Type} {l m : List α} {i j : Nat} {e x : α} (h : l.Perm m) (hi : l[i]? = some e) (hj : m[j]? = some e) : (l.set i x).Perm (m.set j x) := by
  rw [set_split hi, set_split hj]
  rw [split_at hi, split_at hj] at h
  have h1 := (List.perm_middle.symm.trans (h.trans List.perm_middle)).cons_inv
  exact List.perm_middle.trans ((h1.cons x).trans List.perm_middle.symm)
theorem modify_list {α : Type} {a : Array α} {i : Nat} {e : α} (f : α → α) (h : a[i]? = some e) : (a.modify i f).toList = a.toList.set i (f e) := by
  apply List.ext_getElem?
  intro j
  rw [Array.getElem?_toList, Array.getElem?_modify, List.getElem?_set]
  by_cases hij : i = j
  · subst hij
    obtain ⟨hlt, _⟩ := Array.getElem?_eq_some_iff.1 h
    rw [h]
    simp [hlt]
  · simp [hij]
theorem sound_mapUpdate {t : TypeId} {m k v : V} {sm sk sv : Value} {H' : List O} (hR : Rel w (Xs E H β) H β) (hm : R w (Xs E H β) β m sm) (hk : R w (Xs E H β) β k sk) (hv : R w (Xs E H β) β v sv)
    (h : (oMapUpdate P H t m k v).run = some H') : ∃ w' β', (Instr.mapUpdate t sm sk sv).run P w = .ok () w' ∧ Step E H β w H' β' w' := by
  unfold oMapUpdate at h
  split at h
  rotate_left
  · cases h
  rename_i kt et hty
  split at h
  rotate_left
  · cases h
  rename_i n id
  split at h
  rotate_left
  · cases h
  rename_i keys vs hid
  cases hc : (isU64 P kt && Nat.beq vs.length keys.length)
  · rw [hc] at h; cases h
  rw [hc, cond_true] at h
  rw [Bool.and_eq_true] at hc
  have hd := isU64_und hc.1
  have hlen := Nat.eq_of_beq_eq_true hc.2
  obtain ⟨p, hp, h2⟩ := bind_run h
  simp only [Tree.run, Option.some.injEq] at h2
  subst h2
  cases hk
  cases hm with
  | mp _ _ loc hloc hkd =>
    obtain ⟨_, _, ob, xs, hob, hsh, hval⟩ := hR.objs id _ _ loc hid hloc
    obtain ⟨arr, clock, l, rfl, hst, hsort, hperm, hkeys, hvals, hisk, hat⟩ := map_facts hsh
    have hk : IsKey (.int .u64) (.int .u64 n) := rfl
    have hll : l.length = keys.length := by have := congrArg List.length hkeys; simpa using this
    have hxl : xs.length = keys.length := by rw [← hvals, List.length_map, hll]
    rcases findNow_spec hk arr.toList 0 hisk with ⟨f1, f2⟩ | ⟨j, e, f1, f2, f3⟩
    · rcases setK_run hp hsort hlen with ⟨i, g1, rfl⟩ | ⟨g1, i, g2, rfl, g5⟩
      · exfalso
        have hl : (l.map (·.key))[i]? = some (.int .u64 n) := by rw [hkeys, List.getElem?_map, g1]; rfl
        obtain ⟨e, he, he'⟩ := List.mem_map.1 (List.mem_of_getElem? hl)
        exact f2 e (hperm.mem_iff.1 he) he'
      · refine ⟨{ w with heap := w.heap.setIfInBounds loc.block (.map (arr.push { key := .int .u64 n, val := sv, born := clock }) (clock + 1)) }, β, ?_,
          Step.setObj hR hid hloc (xs' := xs.take i ++ sv :: xs.drop i) ⟨_, _, l.take i ++ { key := .int .u64 n, val := sv, born := clock } :: l.drop i, rfl, stamped_push hst f2, g5, ?_, ?_, ?_⟩ (fun q u hu => ?_)⟩
        · simp [Instr.mapUpdate, run_underlying hty, run_getObj_map hob, run_checkKey hd hk, run_findKey hd f1, run_setObj_map _ hob, Result.andThen]
        · rw [Array.toList_push]
          refine List.perm_middle.trans ?_
          rw [List.take_append_drop]
          exact (hperm.cons _).trans (List.perm_append_singleton _ _).symm
        · simp only [List.map_append, List.map_cons, List.map_take, List.map_drop, hkeys]
        · simp only [List.map_append, List.map_cons, List.map_take, List.map_drop, hvals]
        · have hti : (vs.take i).length = i := by rw [List.length_take]; omega
          have htx : (xs.take i).length = i := by rw [List.length_take]; omega
          by_cases hq : q < i
          · rw [List.getElem?_append_left (by omega)] at hu ⊢
            rw [List.getElem?_take_of_lt hq] at hu ⊢
            exact hval q u hu
          · rw [List.getElem?_append_right (by omega), hti] at hu
            rw [List.getElem?_append_right (by omega), htx]
            cases hqi : q - i with
            | zero => rw [hqi] at hu; simp at hu; subst hu; exact ⟨sv, by simp, hv⟩
            | succ r =>
              rw [hqi] at hu
              simp only [List.getElem?_cons_succ, List.getElem?_drop] at hu ⊢
              exact hval (i + r) u hu
    · have hel : e ∈ l := hperm.mem_iff.2 (List.mem_of_getElem? f2)
      obtain ⟨i0, hi0⟩ := List.getElem?_of_mem hel
      obtain ⟨k1, k2⟩ := hat i0 e n hi0 f3
      rcases setK_run hp hsort hlen with ⟨i, g1, rfl⟩ | ⟨g1, _⟩
      · have := sorted_inj hsort k1 g1
        subst this
        have hj : arr[j]? = some e := by simpa using f2
        have hmod := modify_list (fun e : MapEntry => { e with key := .int .u64 n, val := sv }) hj
        refine ⟨{ w with heap := w.heap.setIfInBounds loc.block (.map (arr.modify j fun e => { e with key := .int .u64 n, val := sv }) clock) }, β, ?_,
          Step.setObj hR hid hloc (xs' := xs.set i0 sv) ⟨_, _, l.set i0 { e with key := .int .u64 n, val := sv }, rfl, ?_, hsort, ?_, ?_, ?_⟩ (fun q u hu => ?_)⟩
        · simp [Instr.mapUpdate, run_underlying hty, run_getObj_map hob, run_checkKey hd hk, run_findKey hd f1, hj, f3, run_keyThatStays hk, run_setObj_map _ hob, Result.andThen]
        · exact stamped_modify hst _ _ (fun _ _ => rfl) (fun e' _ he' => by rw [hj] at he'; cases he'; exact f3.symm)
        · rw [hmod]
          exact perm_set hperm hi0 (by simpa using hj)
        · rw [List.map_set, hkeys]
          apply List.ext_getElem?
          intro q
          rw [List.getElem?_set]
          split
          · rename_i hq
            subst hq
            have : i0 < (keys.map (Value.int .u64)).length := by rw [List.length_map]; exact (List.getElem?_eq_some_iff.1 k1).1
            rw [if_pos this, List.getElem?_map, k1]
            rfl
          · rfl
        · rw [List.map_set, hvals]
        · rw [List.getElem?_set] at hu ⊢
          by_cases hq : i0 = q
          · subst hq
            simp only [if_true] at hu ⊢
            have hlt : i0 < vs.length := by rw [hlen]; exact (List.getElem?_eq_some_iff.1 k1).1
            rw [if_pos hlt] at hu
            cases hu
            rw [if_pos (by omega)]
            exact ⟨sv, rfl, hv⟩
          · simp only [hq, if_false] at hu ⊢
            exact hval q u hu
      · exact absurd (List.mem_of_getElem? k1) g1
theorem sound_lenM {argTypes : Array TypeId} {ty : TypeId} {x v : V} {y : Value} (hR : Rel w (Xs E H β) H β) (hx : R w (Xs E H β) β x y) (h : oLenM P H argTypes x = some v) :
    ∃ z, (Builtin.len_ argTypes ty #[y]).run P w = .ok z w ∧ R w (Xs E H β) β v z := by
  unfold oLenM at h
  cases hm : mapArg P argTypes
  · rw [hm, cond_false] at h
    exact sound_len hx h
  · rw [hm, cond_true] at h
    unfold mapArg at hm
    split at hm
    rotate_left
    · cases hm
    rename_i t ht
    split at hm
    rotate_left
    · cases hm
    rename_i kt et hu
    split at h
    rotate_left
    · cases h
    rename_i id
    split at h
    rotate_left
    · cases h
    rename_i keys vs hH
    cases h
    cases hx with
    | mp _ _ loc hid hk =>
    obtain ⟨_, _, ob, xs, hob, ⟨arr, clock, l, rfl, _, _, hperm, hkeys, _⟩, _⟩ := hR.objs id _ _ loc hH hid
    have hsz : arr.size = keys.length := by
      have h1 := congrArg List.length hkeys
      have h2 := hperm.length_eq
      simp only [List.length_map, Array.length_toList] at h1 h2
      omega
    refine ⟨.int .i64 (keys.length : Int), ?_, .int _ _ _⟩
    simp [Builtin.len_, ht, run_und w hu, run_getObj_map hob, hsz, goInt]
end
end Go.Ab

namespace Go.Ab
section
variable {E : Nat → Nat → Prop} {H : List O} {β : List Loc} {w : World} {n : Nat} {t : T} {a : Act} {o : Oper} {cx : Cx} {K : Act → World → Prop} {Q : Exit → Act → World → Prop}
theorem dop_sound (hT : CxOk cx) (hE : StartOk cx.P E H β w) (hR : Rel w (Xs E H β) H β) (hF : FR w (Xs E H β) β n t a) {res : Res}
    (h : (dop cx t H o).run = some res) (hk : Then E H β w a o K Q res) : o.wp cx.P a w K Q := by
  have hrd := fun x => rd_R hF x
  have hrg := fun x => rdG_R hE.2 hT.2.2.2 hF x
  have same : ∀ {s : Sem Value} {u : V}, execOp a.eval o = (do pure (Next.value (← s))) → (∃ z, s.run cx.P w = .ok z w ∧ R w (Xs E H β) β u z) → res = .ok u H → o.wp cx.P a w K Q := by
    rintro s u he ⟨z, h1, h2⟩ rfl
    exact wp_sem he h1 (hk z w β (Step.refl hR) h2)
  have some' : ∀ {s : Sem Value} {u : V} {H' : List O}, execOp a.eval o = (do pure (Next.value (← s))) →
      (∃ z w' β', s.run cx.P w = .ok z w' ∧ Step E H β w H' β' w' ∧ R w' (Xs E H' β') β' u z) → res = .ok u H' → o.wp cx.P a w K Q := by
    rintro s u H' he ⟨z, w', β', h1, h2, h3⟩ rfl
    exact wp_sem he h1 (hk z w' β' h2 h3)
  unfold dop at h
  split at h
  · -- move
    rename_i x ho
    simp only [hold, Tree.run, Option.some.injEq] at h
    subst h
    unfold Oper.wp
    simp only [execOp, ho]
    exact hk _ w β (Step.refl hR) (hrd x)
  · -- assign
    rename_i x ho
    simp only [hold, Tree.run, Option.some.injEq] at h
    subst h
    unfold Oper.wp
    simp only [execOp, ho]
    exact hk _ w β (Step.refl hR) (hrd x)
  · -- pick
    rename_i c x y ho
    split at h
    rotate_left
    · cases h
    rename_i b hb
    have hc := hrd c
    rw [hb] at hc
    generalize hev : a.eval c = cv at hc
    cases hc
    have run : ∀ u, R w (Xs E H β) β u (if b = true then a.eval x else a.eval y) → res = .ok u H → o.wp cx.P a w K Q := by
      intro u hu hr
      subst hr
      unfold Oper.wp
      simp only [execOp, ho, hev, asBool, Sem.run_bind, Sem.run_pure, Result.andThen_ok]
      exact hk _ w β (Step.refl hR) hu
    obtain ⟨u, hu, rfl⟩ := bind_hold h
    refine run u ?_ rfl
    unfold pickV at hu
    split at hu
    · rename_i p q hp hq
      simp only [Tree.run, Option.some.injEq] at hu
      subst hu
      have h1 := hrd x
      have h2 := hrd y
      rw [hp] at h1
      rw [hq] at h2
      cases b
      · simpa using h2
      · simpa using h1
    · cases b
      · simp only [Tree.run, cond_false, Option.some.injEq] at hu
        subst hu
        simpa using hrd y
      · simp only [Tree.run, cond_true, Option.some.injEq] at hu
        subst hu
        simpa using hrd x
  · -- alloc
    rename_i e ho
    split at h
    rotate_left
    · cases h
    rename_i i hi
    simp only [Tree.run, Option.some.injEq] at h
    obtain ⟨w', β', h1, h2, h3⟩ := sound_alloc (P := cx.P) hR hi
    exact some' (s := Instr.alloc e true (.tuple #[])) (by simp only [execOp, ho]) ⟨_, w', β', h1, h2, h3⟩ h.symm
  · -- box
    rename_i e x ho
    split at h
    rotate_left
    · cases h
    rename_i cs hcs
    simp only [Tree.run, Option.some.injEq] at h
    obtain ⟨w', β', h1, h2, h3⟩ := sound_box (P := cx.P) (e := e) hR (hrd x) hcs
    exact some' (s := Instr.box e (a.eval x)) (by simp only [execOp, ho]) ⟨_, w', β', h1, h2, h3⟩ h.symm
  · -- build
    rename_i ty parts ho
    obtain ⟨u, hu, rfl⟩ := holdO_run h
    refine same (s := Instr.build ty (parts.map fun (i, x) => (i, a.eval x))) (by simp only [execOp, ho]) (sound_build (by simp) ?_ hu) rfl
    have := pieces_get (a := a) (l := parts.toList) hrd
    simpa using this
  · -- buildSlice
    rename_i ty len parts ho
    unfold bothO at h
    split at h
    rotate_left
    · cases h
    rename_i p hp
    obtain ⟨u, H'⟩ := p
    simp only [Tree.run, Option.some.injEq] at h
    refine some' (s := Instr.buildSlice ty len (parts.map fun (i, x) => (i, a.eval x))) (by simp only [execOp, ho]) (sound_buildSlice hE.1 hR (by simp) ?_ hp) h.symm
    have := pieces_get (a := a) (l := parts.toList) hrd
    simpa using this
  · -- load
    rename_i ty x ho
    cases hz : isLz cx.lz x
    · rw [hz, cond_false] at h
      obtain ⟨u, hu, rfl⟩ := holdO_run h
      exact same (s := Instr.loadAt ty (a.eval x)) (by simp only [execOp, ho]) (sound_load hR (hrg x) hu) rfl
    · rw [hz, cond_true] at h
      obtain ⟨u, hu, rfl⟩ := bind_hold h
      exact same (s := Instr.loadAt ty (a.eval x)) (by simp only [execOp, ho]) (sound_loadZ hR (hrd x) hu) rfl
  · -- store
    rename_i ty x v ho
    have hs : ∃ H', res = .ok .any H' ∧ ∃ w', (Instr.storeAt ty (a.eval x) (a.eval v)).run cx.P w = .ok () w' ∧ Step E H β w H' β w' := by
      cases hz : isLz cx.lz x
      · rw [hz, cond_false] at h
        split at h
        rotate_left
        · cases h
        rename_i H' hH
        simp only [Tree.run, Option.some.injEq] at h
        exact ⟨H', h.symm, sound_store (P := cx.P) hR (hrd x) (hrd v) hH⟩
      · rw [hz, cond_true] at h
        obtain ⟨H', hH, h⟩ := bind_run h
        simp only [Tree.run, Option.some.injEq] at h
        exact ⟨H', h.symm, sound_storeZ (P := cx.P) hR (hrd x) (hrd v) hH⟩
    obtain ⟨H', rfl, w', h1, h2⟩ := hs
    exact wp_unit (s := Instr.storeAt ty (a.eval x) (a.eval v)) (by simp only [execOp, ho]) h1 (hk undef w' β h2 (.any _ _))
  · -- nilCheck
    rename_i x ho
    have run : ∀ u b o', a.eval x = .pointer (some ⟨b, o', none⟩) → R w (Xs E H β) β u (a.eval x) → res = .ok u H → o.wp cx.P a w K Q := by
      intro u b o' he hu hr
      subst hr
      unfold Oper.wp
      simp only [execOp, ho, he, Sem.run_pure]
      rw [he] at hu
      exact hk _ w β (Step.refl hR) hu
    have hx := hrd x
    split at h
    · rename_i id off hv
      simp only [hold, Tree.run, Option.some.injEq] at h
      rw [hv] at hx
      generalize he : a.eval x = xv at hx run
      have hx' := hx
      cases hx
      exact run _ _ _ rfl hx' h.symm
    · rename_i cells hv
      simp only [hold, Tree.run, Option.some.injEq] at h
      rw [hv] at hx
      generalize he : a.eval x = xv at hx run
      have hx' := hx
      cases hx
      exact run _ _ _ rfl hx' h.symm
    · cases h
  · -- binOp
    rename_i op ty x y _ ho
    obtain ⟨u, hu, rfl⟩ := bind_hold h
    cases hnil : isNilC y
    · rw [hnil, cond_false] at hu
      exact same (s := bin op ty x y (a.eval x) (a.eval y)) (by simp only [execOp, ho, bin]) (sound_bin (hrd x) (hrd y) hu) rfl
    · rw [hnil, cond_true] at hu
      have hy : y = .const .nilIface := by
        unfold isNilC at hnil
        split at hnil
        · rfl
        · cases hnil
      subst hy
      exact same (s := bin op ty x (.const .nilIface) (a.eval x) .nilIface) (by simp only [execOp, ho, bin]; rfl) (sound_nil (hrd x) hu) rfl
  · -- unOp
    rename_i op _ x ho
    obtain ⟨u, hu, rfl⟩ := holdO_run h
    exact same (s := Op.unary op (a.eval x)) (by simp only [execOp, ho]) (sound_un (hrd x) hu) rfl
  · -- convert
    rename_i src dst x ho
    cases hss : isStrSl cx.P src dst
    · rw [hss, cond_false] at h
      obtain ⟨u, hu, rfl⟩ := bind_hold h
      exact same (s := convert src dst (a.eval x)) (by simp only [execOp, ho]) (sound_convert hR (hrd x) (convT_run hu)) rfl
    · rw [hss, cond_true] at h
      obtain ⟨u, hu, rfl⟩ := holdO_run h
      obtain ⟨z, w', h1, h2, h3⟩ := sound_strBytes hE.1 hR (hrd x) hss hu
      exact some' (s := convert src dst (a.eval x)) (by simp only [execOp, ho]) ⟨z, w', β, h1, h2, h3⟩ rfl
  · -- makeFunc
    rename_i fn first captured ho
    simp only [hold, Tree.run, Option.some.injEq] at h
    refine same (s := Instr.makeFunc fn (first.map a.eval) (captured.map a.eval)) (by simp only [execOp, ho]) ⟨.func fn (first.toList.map a.eval).toArray (captured.toList.map a.eval).toArray, ?_, ?_⟩ h.symm
    · have e1 : (first.toList.map a.eval).toArray = first.map a.eval := by apply Array.ext'; simp
      have e2 : (captured.toList.map a.eval).toArray = captured.map a.eval := by apply Array.ext'; simp
      rw [e1, e2]; rfl
    · have get : ∀ (l : List Operand) (k : Nat) (v : V) (x : Value), (l.map (rd t))[k]? = some v → (l.map a.eval)[k]? = some x → R w (Xs E H β) β v x := by
        intro l k v x h1 h2
        simp only [List.getElem?_map, Option.map_eq_some_iff] at h1 h2
        obtain ⟨u, hu, rfl⟩ := h1
        obtain ⟨u', hu', rfl⟩ := h2
        rw [hu] at hu'
        simp only [Option.some.injEq] at hu'
        subst hu'
        exact hrd u
      exact .clo β fn _ _ _ _ (by simp) (by simp) (get _) (get _)
  · -- makeSlice
    rename_i ty l c ho
    cases hpg : dstIn o cx.lz
    · rw [hpg, cond_false] at h
      obtain ⟨u, H', hu, rfl⟩ := bind_both h
      exact some' (s := Instr.makeSlice ty (a.eval l) (a.eval c)) (by simp only [execOp, ho]) (sound_makeSlice hE.1 hR (hrd l) (hrd c) hu) rfl
    · rw [hpg, cond_true] at h
      obtain ⟨u, H', hu, rfl⟩ := bind_both h
      exact some' (s := Instr.makeSlice ty (a.eval l) (a.eval c)) (by simp only [execOp, ho]) (sound_makePage hR (hrd l) (hrd c) hu) rfl
  · -- slice
    rename_i ty x lo hi ho
    obtain ⟨u, hu, rfl⟩ := bind_hold h
    exact same (s := Instr.sliceAt ty (a.eval x) (lo.map a.eval) (hi.map a.eval) none) (by simp only [execOp, ho, Option.map_none]) (sound_slice hR (hrd x) (optR_map hrd lo) (optR_map hrd hi) hu) rfl
  · -- fieldAddr
    rename_i ty x f ho
    obtain ⟨u, hu, rfl⟩ := holdO_run h
    exact same (s := Instr.fieldAt ty (a.eval x) f) (by simp only [execOp, ho]) (sound_fieldAddr (hrd x) hu) rfl
  · -- field
    rename_i ty x f ho
    obtain ⟨u, hu, rfl⟩ := holdO_run h
    exact same (s := Instr.field ty (a.eval x) f) (by simp only [execOp, ho]) (sound_field (hrd x) hu) rfl
  · -- indexAddr
    rename_i ty x i ho
    obtain ⟨u, hu, rfl⟩ := bind_hold h
    exact same (s := Instr.indexAt ty (a.eval x) (a.eval i)) (by simp only [execOp, ho]) (sound_indexAddr (hrg x) (hrd i) hu) rfl
  · -- index
    rename_i ty x i ho
    obtain ⟨u, hu, rfl⟩ := bind_hold h
    exact same (s := Instr.index ty (a.eval x) (a.eval i)) (by simp only [execOp, ho]) (sound_index (hrd x) (hrd i) hu) rfl
  · -- extract
    rename_i x i ho
    split at h
    rotate_left
    · cases h
    rename_i vs hvs
    obtain ⟨u, hu, rfl⟩ := holdO_run h
    have hx := hrd x
    rw [hvs] at hx
    generalize he : a.eval x = xv at hx
    cases hx with
    | tup _ _ xs hl hr =>
      have hi : i < xs.length := by rw [hl]; exact (List.getElem?_eq_some_iff.1 hu).1
      exact same (s := Instr.extract (a.eval x) i) (by simp only [execOp, ho]) ⟨xs[i], by rw [he]; simp [Instr.extract, hi], hr i u _ hu (by simp [hi])⟩ rfl
  · -- makeInterface
    rename_i ty x ho
    split at h
    · cases h
    · rename_i d hu hd
      simp only [hold, Tree.run, Option.some.injEq] at h
      refine same (s := Instr.makeInterface ty (a.eval x)) (by simp only [execOp, ho]) ⟨.iface ty (a.eval x), ?_, .ifc β ty _ _ (hrd x)⟩ h.symm
      simp only [Instr.makeInterface, Sem.run_bind, run_und w hd, Result.andThen_ok]
      cases d <;> first | rfl | (exfalso; simp_all)
    · cases h
  · -- typeAssert
    rename_i x ty' as ok ho
    split at h
    · cases h
    · rename_i ty v d hd hv hu
      cases hb : Nat.beq ty as
      · rw [hb] at h; cases h
      rw [hb] at h
      simp only [cond_true, hold, Tree.run, Option.some.injEq] at h
      have hb := Nat.eq_of_beq_eq_true hb
      subst hb
      have hx := hrd x
      rw [hv] at hx
      generalize hev : a.eval x = xv at hx
      cases hx with
      | ifc _ _ _ z hz =>
        refine same (s := Instr.typeAssert (a.eval x) ty' ty ok) (by simp only [execOp, ho]) ⟨if ok then .tuple #[z, .bool true] else z, ?_, ?_⟩ h.symm
        · rw [hev]
          simp only [Instr.typeAssert, Sem.run_bind, run_und w hu, Result.andThen_ok]
          cases d <;> first | (exfalso; simp_all; done) | (simp; done)
        · cases ok
          · exact hz
          · exact .tup β _ [z, .bool true] rfl (fun k v x h1 h2 => by
              match k with
              | 0 => simp only [List.getElem?_cons_zero, Option.some.injEq] at h1 h2; subst h1; subst h2; exact hz
              | 1 => simp only [List.getElem?_cons_succ, List.getElem?_cons_zero, Option.some.injEq] at h1 h2; subst h1; subst h2; exact .bool _ _
              | k + 2 => simp at h1)
    · cases h
  · -- panic
    rename_i x ho
    split at h
    rotate_left
    · cases h
    rename_i ty v hv
    simp only [Tree.run, Option.some.injEq] at h
    subst h
    have hx := hrd x
    rw [hv] at hx
    generalize hev : a.eval x = xv at hx
    have hx' := hx
    cases hx
    unfold Oper.wp
    simp only [execOp, ho, hev]
    exact hk _ w β (Step.refl hR) hx'
  · -- makeMap
    rename_i ty ho
    simp only [Tree.run, Option.some.injEq] at h
    exact some' (s := Instr.makeMap ty none) (by simp only [execOp, ho]; rfl) (sound_makeMap hR ty) h.symm
  · -- lookup
    rename_i ty x i ok ho
    obtain ⟨u, hu, rfl⟩ := bind_hold h
    exact same (s := Instr.lookup ty (a.eval x) (a.eval i) ok) (by simp only [execOp, ho]) (sound_lookup hR (hrd x) (hrd i) hu) rfl
  · -- mapUpdate
    rename_i ty m k x ho
    obtain ⟨H', h1, h2⟩ := bind_run h
    simp only [Tree.run, Option.some.injEq] at h2
    subst h2
    obtain ⟨w', β', g1, g2⟩ := sound_mapUpdate hR (hrd m) (hrd k) (hrd x) h1
    exact wp_unit (s := Instr.mapUpdate ty (a.eval m) (a.eval k) (a.eval x)) (by simp only [execOp, ho]) g1 (hk _ w' β' g2 (.any _ _))
  · -- range
    rename_i ty x ho
    obtain ⟨u, H', rfl, z, w', β', g1, g2, g3⟩ := sound_range hR (hrd x) h
    exact some' (s := Instr.range ty (a.eval x)) (by simp only [execOp, ho]) ⟨z, w', β', g1, g2, g3⟩ rfl
  · -- next
    rename_i it isString ho
    cases isString
    · cases h
    rw [cond_true] at h
    obtain ⟨u, H', rfl, z, w', β', g1, g2, g3⟩ := sound_next (ty := o.type) hR (hrd it) h
    exact some' (s := Instr.next (a.eval it) true o.type) (by simp only [execOp, ho]) ⟨z, w', β', g1, g2, g3⟩ rfl
  · -- builtin
    rename_i b args argTypes ho
    have he : execOp a.eval o = (builtin b argTypes o.type (args.map fun | .const _ => true | _ => false) (args.map a.eval)) := by
      simp only [execOp, ho, resolve, invoke]
      rfl
    have val : ∀ {s : Sem Value} {u : V} {H' : List O}, builtin b argTypes o.type (args.map fun | .const _ => true | _ => false) (args.map a.eval) = (do pure (Next.value (← s))) →
        (∃ z w' β', s.run cx.P w = .ok z w' ∧ Step E H β w H' β' w' ∧ R w' (Xs E H' β') β' u z) → res = .ok u H' → o.wp cx.P a w K Q := by
      intro s u H' hb
      exact some' (he.trans hb)
    have two : ∀ x y, args.toList = [x, y] → args.map a.eval = #[a.eval x, a.eval y] := by
      intro x y h; apply Array.ext'; simp [h]
    have one : ∀ x, args.toList = [x] → args.map a.eval = #[a.eval x] := by
      intro x h; apply Array.ext'; simp [h]
    cases hap : appR cx o b
    rotate_left
    · rw [hap, cond_true] at h
      have hbb : b = .append := by
        unfold appR at hap
        split at hap
        · rfl
        · cases hap
      subst hbb
      unfold appB at h
      split at h
      rotate_left
      · cases h
      rename_i s x hargs
      obtain ⟨x1, x2, hl, rfl, rfl⟩ : ∃ x1 x2, args.toList = [x1, x2] ∧ s = rd t x1 ∧ x = rd t x2 := by
        rcases hl : args.toList with _ | ⟨x1, _ | ⟨x2, _ | ⟨_, _⟩⟩⟩ <;> simp [hl] at hargs
        exact ⟨x1, x2, rfl, hargs.1.symm, hargs.2.symm⟩
      unfold bothO at h
      split at h
      rotate_left
      · cases h
      rename_i p hp
      obtain ⟨u, H'⟩ := p
      simp only [Tree.run, Option.some.injEq] at h
      exact val (s := Builtin.append_ argTypes o.type (args.map a.eval)) rfl (by rw [two _ _ hl]; exact sound_appendR hR (hrd x1) (hrd x2) hp) h.symm
    rw [hap, cond_false] at h
    unfold oBuiltin at h
    split at h
    · rename_i s x hargs
      obtain ⟨x1, x2, hl, rfl, rfl⟩ : ∃ x1 x2, args.toList = [x1, x2] ∧ s = rd t x1 ∧ x = rd t x2 := by
        rcases hl : args.toList with _ | ⟨x1, _ | ⟨x2, _ | ⟨_, _⟩⟩⟩ <;> simp [hl] at hargs
        exact ⟨x1, x2, rfl, hargs.1.symm, hargs.2.symm⟩
      obtain ⟨u, H', hu, rfl⟩ := bind_both h
      exact val (s := Builtin.append_ argTypes o.type (args.map a.eval)) rfl (by rw [two _ _ hl]; exact sound_append hE.1 hR (hrd x1) (hrd x2) hu) rfl
    · rename_i x hargs
      obtain ⟨x1, hl, rfl⟩ : ∃ x1, args.toList = [x1] ∧ x = rd t x1 := by
        rcases hl : args.toList with _ | ⟨x1, _ | ⟨_, _⟩⟩ <;> simp [hl] at hargs
        exact ⟨x1, rfl, hargs.symm⟩
      obtain ⟨u, hu, rfl⟩ := holdO_run h
      obtain ⟨z, h1, h2⟩ := sound_lenM (ty := o.type) hR (hrd x1) hu
      exact val (s := Builtin.len_ argTypes o.type (args.map a.eval)) rfl ⟨z, w, β, by rw [one _ hl]; exact h1, Step.refl hR, h2⟩ rfl
    · rename_i x hargs
      obtain ⟨x1, hl, rfl⟩ : ∃ x1, args.toList = [x1] ∧ x = rd t x1 := by
        rcases hl : args.toList with _ | ⟨x1, _ | ⟨_, _⟩⟩ <;> simp [hl] at hargs
        exact ⟨x1, rfl, hargs.symm⟩
      obtain ⟨u, hu, rfl⟩ := holdO_run h
      obtain ⟨z, h1, h2⟩ := sound_cap (ty := o.type) hR (hrd x1) hu
      exact val (s := Builtin.cap_ argTypes o.type (args.map a.eval)) rfl ⟨z, w, β, by rw [one _ hl]; exact h1, Step.refl hR, h2⟩ rfl
    · rename_i s x hargs
      obtain ⟨x1, x2, hl, rfl, rfl⟩ : ∃ x1 x2, args.toList = [x1, x2] ∧ s = rd t x1 ∧ x = rd t x2 := by
        rcases hl : args.toList with _ | ⟨x1, _ | ⟨x2, _ | ⟨_, _⟩⟩⟩ <;> simp [hl] at hargs
        exact ⟨x1, x2, rfl, hargs.1.symm, hargs.2.symm⟩
      obtain ⟨u, hu, rfl⟩ := holdO_run h
      obtain ⟨z, h1, h2⟩ := sound_max (argTypes := argTypes) (ty := o.type) (hrd x1) (hrd x2) hu
      exact val (s := Builtin.max_ argTypes o.type (args.map a.eval)) rfl ⟨z, w, β, by rw [two _ _ hl]; exact h1, Step.refl hR, h2⟩ rfl
    · rename_i s x hargs
      obtain ⟨x1, x2, hl, rfl, rfl⟩ : ∃ x1 x2, args.toList = [x1, x2] ∧ s = rd t x1 ∧ x = rd t x2 := by
        rcases hl : args.toList with _ | ⟨x1, _ | ⟨x2, _ | ⟨_, _⟩⟩⟩ <;> simp [hl] at hargs
        exact ⟨x1, x2, rfl, hargs.1.symm, hargs.2.symm⟩
      obtain ⟨u, hu, rfl⟩ := holdO_run h
      obtain ⟨z, h1, h2⟩ := sound_min (argTypes := argTypes) (ty := o.type) (hrd x1) (hrd x2) hu
      exact val (s := Builtin.min_ argTypes o.type (args.map a.eval)) rfl ⟨z, w, β, by rw [two _ _ hl]; exact h1, Step.refl hR, h2⟩ rfl
    · rename_i ty v hargs
      obtain ⟨x1, hl, hv⟩ : ∃ x1, args.toList = [x1] ∧ rd t x1 = .ifc ty v := by
        rcases hl : args.toList with _ | ⟨x1, _ | ⟨_, _⟩⟩ <;> simp [hl] at hargs
        exact ⟨x1, rfl, hargs⟩
      simp only [Tree.run, Option.some.injEq] at h
      subst h
      have hx := hrd x1
      rw [hv] at hx
      generalize hev : a.eval x1 = xv at hx
      have hx' := hx
      cases hx
      unfold Oper.wp
      rw [he]
      simp only [builtin, one _ hl, hev]
      exact hk _ w β (Step.refl hR) hx'
    · cases h
  · -- call
    rename_i f args argTypes ho
    exact sound_call rfl hT.1 hT.2.1 hT.2.2.1 hE hR hF ho rfl h hk
  · cases h
end
end Go.Ab

namespace Go.Ab
def Tree.all {β : Type} (Q : β → Prop) : Tree β → Prop
  | .leaf b => Q b
  | .fail => False
  | .br c x y => (c = true → x.all Q) ∧ (c = false → y.all Q)
theorem Tree.all_run {β : Type} {Q : β → Prop} {x : Tree β} (h : x.all Q) : ∃ b, x.run = some b ∧ Q b := by
  induction x with
  | leaf b => exact ⟨b, rfl, h⟩
  | fail => exact h.elim
  | br c x y ihx ihy =>
    cases c
    · exact ihy (h.2 rfl)
    · exact ihx (h.1 rfl)
theorem Tree.run_all {β : Type} {Q : β → Prop} {x : Tree β} {b : β} (h : x.run = some b) (hq : Q b) : x.all Q := by
  induction x with
  | leaf c => simp only [Tree.run, Option.some.injEq] at h; subst h; exact hq
  | fail => cases h
  | br c x y ihx ihy =>
    refine ⟨fun hc => ?_, fun hc => ?_⟩
    · subst hc; exact ihx h
    · subst hc; exact ihy h
structure Good (E : Nat → Nat → Prop) (H0 : List O) (β0 : List Loc) (w0 : World) (n : Nat) (D : List Deferred) (t : T) (H : List O) (β : List Loc) (a : Act) (w : World) : Prop where
  step : Step E H0 β0 w0 H β w
  fr : FR w (Xs E H β) β n t a
  defers : a.defers = D
def Post (E : Nat → Nat → Prop) (H0 : List O) (β0 : List Loc) (w0 : World) (n : Nat) (D : List Deferred) (Q : AEx → T → List O → Prop) : Exit → Act → World → Prop
  | .normal, a, w => ∃ t H β, Q .normal t H ∧ Good E H0 β0 w0 n D t H β a w
  | .exit id, a, w => ∃ t H β, Q (.exit id) t H ∧ Good E H0 β0 w0 n D t H β a w
  | .ret, a, w => ∃ t H β, Q .ret t H ∧ Good E H0 β0 w0 n D t H β a w
  | .panic chain, a, w => ∃ t H β v x, Q (.panic v) t H ∧ Good E H0 β0 w0 n D t H β a w ∧ R w (Xs E H β) β v x ∧ chain = [{ v := x, recovered := false }]
  | _, _, _ => False
def AWP (P : Program) (n : Nat) (c : Code) (Q : AEx → T → List O → Prop) (t : T) (H : List O) : Prop :=
  ∀ E H0 β0 w0 D β a w, StartOk P E H0 β0 w0 → Good E H0 β0 w0 n D t H β a w → c.wp P (Post E H0 β0 w0 n D Q) a w
theorem StartOk.now {P : Program} {E H0 β0 w0 H β w} (h : StartOk P E H0 β0 w0) (s : Step E H0 β0 w0 H β w) : StartOk P E H β w := by
  refine ⟨fun b o hb => ?_, fun p hp => (h.2 p hp).stab s.stab [] (.refl _)⟩
  obtain ⟨h1, h2⟩ := h.1 b o hb
  refine ⟨Nat.lt_of_lt_of_le h1 s.size, fun ho => ?_⟩
  rcases s.own b o ho with h | h
  · exact h2 h
  · omega
section
variable {P : Program} {n : Nat} {Q Q' : AEx → T → List O → Prop} {t : T} {H : List O}
theorem Post.mono {E H0 β0 w0 D} (h : ∀ e t H, Q e t H → Q' e t H) {e : Exit} {a : Act} {w : World} (hp : Post E H0 β0 w0 n D Q e a w) : Post E H0 β0 w0 n D Q' e a w := by
  cases e with
  | normal => obtain ⟨t, H, β, h1, h2⟩ := hp; exact ⟨t, H, β, h _ _ _ h1, h2⟩
  | exit id => obtain ⟨t, H, β, h1, h2⟩ := hp; exact ⟨t, H, β, h _ _ _ h1, h2⟩
  | ret => obtain ⟨t, H, β, h1, h2⟩ := hp; exact ⟨t, H, β, h _ _ _ h1, h2⟩
  | panic ch => obtain ⟨t, H, β, v, x, h1, h2⟩ := hp; exact ⟨t, H, β, v, x, h _ _ _ h1, h2⟩
  | goto l => exact hp.elim
  | outgrown => exact hp.elim
theorem AWP.mono {c : Code} (h : AWP P n c Q t H) (hq : ∀ e t H, Q e t H → Q' e t H) : AWP P n c Q' t H :=
  fun E H0 β0 w0 D β a w hs hg => wp_mono (h E H0 β0 w0 D β a w hs hg) fun _ _ _ hp => Post.mono hq hp
theorem AWP_skip (h : Q .normal t H) : AWP P n .skip Q t H := fun _ _ _ _ _ β _ _ _ hg => wp_skip ⟨t, H, β, h, hg⟩
theorem AWP_ret (h : Q .ret t H) : AWP P n .ret Q t H := fun _ _ _ _ _ β _ _ _ hg => wp_ret ⟨t, H, β, h, hg⟩
theorem AWP_exit {id : Nat} (h : Q (.exit id) t H) : AWP P n (.exit id) Q t H := fun _ _ _ _ _ β _ _ _ hg => wp_exit ⟨t, H, β, h, hg⟩
def seqQ (K : T → List O → Prop) (Q : AEx → T → List O → Prop) : AEx → T → List O → Prop
  | .normal, t, H => K t H
  | e, t, H => Q e t H
theorem AWP_seq {x y : Code} (h : AWP P n x (seqQ (AWP P n y Q) Q) t H) : AWP P n (.seq x y) Q t H := by
  intro E H0 β0 w0 D β a w hs hg
  refine wp_seq (wp_mono (h E H0 β0 w0 D β a w hs hg) ?_)
  intro e a' w' hp
  cases e with
  | normal => obtain ⟨t', H', β', h1, h2⟩ := hp; exact h1 E H0 β0 w0 D β' a' w' hs h2
  | exit id => exact hp
  | ret => exact hp
  | panic ch => exact hp
  | goto l => exact hp.elim
  | outgrown => exact hp.elim
def blockQ (id : Nat) (Q : AEx → T → List O → Prop) : AEx → T → List O → Prop
  | .exit j, t, H => if j = id then Q .normal t H else Q (.exit j) t H
  | e, t, H => Q e t H
theorem AWP_block {id : Nat} {c : Code} (h : AWP P n c (blockQ id Q) t H) : AWP P n (.block id c) Q t H := by
  intro E H0 β0 w0 D β a w hs hg
  refine wp_block (wp_mono (h E H0 β0 w0 D β a w hs hg) ?_)
  intro e a' w' hp
  cases e with
  | normal => exact hp
  | exit j =>
    obtain ⟨t', H', β', h1, h2⟩ := hp
    simp only [Exit.inBlock]
    simp only [blockQ] at h1
    by_cases hj : j = id
    · simp only [hj, if_true] at h1 ⊢; exact ⟨t', H', β', h1, h2⟩
    · simp only [hj, if_false] at h1 ⊢; exact ⟨t', H', β', h1, h2⟩
  | ret => exact hp
  | panic ch => exact hp
  | goto l => exact hp.elim
  | outgrown => exact hp.elim
theorem put_true {β : List Loc} {w : World} {X : Nat → Nat → Prop} {a : Act} {d : Nat} {b : Bool} (h : FR w X β n t a) (hb : get d t = .bool b) : FR w X β n (put d (.bool b) t) a := by
  refine ⟨h.size, fun e => ?_⟩
  rw [get_put]
  split
  · rename_i he
    subst he
    rw [← hb]; exact h.slot e
  · exact h.slot e
theorem AWP_cond {d : Nat} {x y : Code} {b : Bool} (hc : get d t = .bool b) (ht : b = true → AWP P n x Q (put d (.bool true) t) H) (hf : b = false → AWP P n y Q (put d (.bool false) t) H) :
    AWP P n (.cond (.tmp d) x y) Q t H := by
  intro E H0 β0 w0 D β a w hs hg
  have hx := rd_R hg.fr (.tmp d)
  simp only [rd, hc] at hx
  generalize he : a.eval (.tmp d) = v at hx
  cases hx
  have hg' : Good E H0 β0 w0 n D (put d (.bool b) t) H β a w := ⟨hg.step, put_true hg.fr hc, hg.defers⟩
  refine wp_cond he ?_
  cases b
  · exact hf rfl E H0 β0 w0 D β a w hs hg'
  · exact ht rfl E H0 β0 w0 D β a w hs hg'
theorem AWP_cond' {c : Operand} {x y : Code} {b : Bool} (hc : rd t c = .bool b) (ht : b = true → AWP P n x Q t H) (hf : b = false → AWP P n y Q t H) :
    AWP P n (.cond c x y) Q t H := by
  intro E H0 β0 w0 D β a w hs hg
  have hx := rd_R hg.fr c
  rw [hc] at hx
  generalize he : a.eval c = v at hx
  cases hx
  refine wp_cond he ?_
  cases b
  · exact hf rfl E H0 β0 w0 D β a w hs hg
  · exact ht rfl E H0 β0 w0 D β a w hs hg
def TLe (t s : T) : Prop := ∀ d, get d s = get d t ∨ get d s = .any
theorem TLe.refl (t : T) : TLe t t := fun _ => .inl rfl
theorem TLe.keep (l : List Nat) (t : T) : TLe t (keep l t) := fun d => get_keep l d t
theorem FR.le {β : List Loc} {w : World} {X : Nat → Nat → Prop} {a : Act} {s : T} (h : FR w X β n t a) (hl : TLe t s) : FR w X β n s a :=
  ⟨h.size, fun d => by rcases hl d with e | e <;> rw [e]; exact h.slot d; exact .any _ _⟩
theorem AWP.less {c : Code} {s : T} (hl : TLe t s) (h : AWP P n c Q s H) : AWP P n c Q t H :=
  fun E H0 β0 w0 D β a w hs hg => h E H0 β0 w0 D β a w hs ⟨hg.step, hg.fr.le hl, hg.defers⟩
theorem AWP_loop {α : Type} (st : α → T × List O) (μ : α → Nat) {body : Code}
    (h : ∀ i, AWP P n body (fun e t H => match e with | .normal => ∃ j, μ j < μ i ∧ TLe t (st j).1 ∧ H = (st j).2 | e => Q e t H) (st i).1 (st i).2) (i : α) :
    AWP P n (.loop body) Q (st i).1 (st i).2 := by
  intro E H0 β0 w0 D β a w hs hg b k cs
  have key : ∀ m i β a w, μ i = m → Good E H0 β0 w0 n D (st i).1 (st i).2 β a w →
      ∃ e a' w', Post E H0 β0 w0 n D Q e a' w' ∧ Arrives P (lone (b.at a (.code body :: .inLoop body :: k)) cs w) b k cs e a' w' := by
    intro m
    induction m using Nat.strongRecOn with
    | _ m ih =>
      intro i β a w hm hg
      obtain ⟨e, a₁, w₁, hq, harr⟩ := h i E H0 β0 w0 D β a w hs hg b (.inLoop body :: k) cs
      cases e with
      | normal =>
        obtain ⟨t', H', β', ⟨j, hlt, hle, rfl⟩, hg'⟩ := hq
        obtain ⟨e₂, a₂, w₂, hq₂, harr₂⟩ := ih (μ j) (hm ▸ hlt) j β' a₁ w₁ rfl ⟨hg'.step, hg'.fr.le hle, hg'.defers⟩
        exact ⟨e₂, a₂, w₂, hq₂, .of_steps (Steps.trans harr (.one step_inLoop)) harr₂⟩
      | exit id => exact ⟨.exit id, a₁, w₁, hq, .pass (x := .inLoop body) rfl (fun _ _ => .inl (by simp)) harr⟩
      | ret => exact ⟨.ret, a₁, w₁, hq, .pass (x := .inLoop body) rfl (fun _ _ => .inl (by simp)) harr⟩
      | panic ch => exact ⟨.panic ch, a₁, w₁, hq, .pass (x := .inLoop body) rfl (fun _ _ => .inl (by simp)) harr⟩
      | goto l => exact hq.elim
      | outgrown => exact hq.elim
  obtain ⟨e, a', w', hq, harr⟩ := key _ i β a w rfl hg
  exact ⟨e, a', w', hq, .of_steps (.one step_loop) harr⟩
theorem runs_sound {cx : Cx} (hT : CxOk cx) {ops : Array Oper} {E H0 β0 w0 D} (hs : StartOk cx.P E H0 β0 w0) {Q : AEx → T → List O → Prop} :
    ∀ (l : List Oper) (k : Nat) (t : T) (H : List O) (β : List Loc) (a : Act) (w : World), ops.toList.drop k = l → (druns cx ops l t H).all (fun s => Q s.1 s.2.1 s.2.2) →
      Good E H0 β0 w0 cx.n D t H β a w → wpOps cx.P ops (Post E H0 β0 w0 cx.n D Q) (List.range' k l.length) a w
  | [], k, t, H, β, a, w, _, h, hg => ⟨keep cx.keeps t, H, β, h, ⟨hg.step, hg.fr.keep _, hg.defers⟩⟩
  | o :: r, k, t, H, β, a, w, hl, h, hg => by
    have hk : ops.toList[k]? = some o := by
      have := congrArg (fun l => l[0]?) hl
      simpa using this
    have hk' : ops[k]? = some o := by simpa using hk
    have hr : ops.toList.drop (k + 1) = r := by
      have := congrArg List.tail hl
      simpa [List.tail_drop] using this
    have ih := runs_sound hT hs (ops := ops) (Q := Q) (D := D) r (k + 1)
    simp only [List.length_cons, List.range'_succ, wpOps, hk']
    have put : ∀ v x t H β a w, (dputs cx o v t H (druns cx ops r)).all (fun s => Q s.1 s.2.1 s.2.2) → R w (Xs E H β) β v x → Good E H0 β0 w0 cx.n D t H β a w →
        wpOps cx.P ops (Post E H0 β0 w0 cx.n D Q) (List.range' (k + 1) r.length) (a.put o.dst x) w := by
      intro v x t H β a w hp hv hg
      unfold dputs putO at hp
      cases hd : o.dst with
      | none =>
        simp only [hd] at hp
        simp only [Act.put]
        exact ih t H β a w hr hp hg
      | some d =>
        simp only [hd] at hp
        cases hb : Nat.blt d cx.n
        · simp [hb, Tree.all] at hp
        · simp only [hb, cond_true] at hp
          have hlt : d < cx.n := by simpa [Nat.blt_eq] using hb
          exact ih _ H β _ w hr hp ⟨hg.step, hg.fr.put hlt hv, hg.defers⟩
    have run : ∀ t, FR w (Xs E H β) β cx.n t a → ((dop cx t H o).bind (dres cx o t (druns cx ops r))).all (fun s => Q s.1 s.2.1 s.2.2) →
        o.wp cx.P a w (wpOps cx.P ops (Post E H0 β0 w0 cx.n D Q) (List.range' (k + 1) r.length)) (Post E H0 β0 w0 cx.n D Q) := by
      intro t hfr hall
      obtain ⟨s, hs1, hs2⟩ := Tree.all_run hall
      obtain ⟨res, hres, hd⟩ := bind_run hs1
      refine dop_sound hT (hs.now hg.step) hg.step.rel hfr hres ?_
      cases res with
      | ok v H' =>
        intro x w' β' st hv
        exact put v x t H' β' a w' (Tree.run_all hd hs2) hv ⟨hg.step.trans st, hfr.step st, hg.defers⟩
      | pan v H' =>
        intro x w' β' st hv
        simp only [dres, Tree.run, Option.some.injEq] at hd
        subst hd
        exact ⟨t, H', β', v, x, hs2, ⟨hg.step.trans st, hfr.step st, hg.defers⟩, hv, rfl⟩
    unfold druns dstep at h
    split at h
    · rename_i hgd
      have hw : Region.wanted o (yielded ops a.tmps) = true := by simp [Region.wanted, hgd]
      simp only [hw, if_true]
      exact .inl (run t hg.fr h)
    · rename_i j want hgd
      split at h
      rotate_left
      · exact h.elim
      rename_i d hd
      have hslot := hg.fr.slot d
      have hyield : ∀ b, a.tmps.getD d undef = .bool b → yielded ops a.tmps j = some b := by
        intro b hb
        unfold yielded
        rw [hd]
        simp only [Option.bind_some]
        rw [Array.getD_eq_getD_getElem?] at hb
        cases hq : a.tmps[d]? with
        | none => rw [hq] at hb; simp [undef] at hb
        | some q => rw [hq] at hb; simp at hb; subst hb; rfl
      split at h
      · rename_i b hb
        rw [hb] at hslot
        generalize hv : a.tmps.getD d undef = v at hslot
        cases hslot
        have hy := hyield b hv
        have hfr' := put_true hg.fr hb
        cases b
        · have h := h.2 rfl
          cases want
          · have hw : Region.wanted o (yielded ops a.tmps) = true := by simp [Region.wanted, hgd, hy]
            simp only [hw, if_true]
            exact .inl (run _ hfr' h)
          · have hw : Region.wanted o (yielded ops a.tmps) = false := by simp [Region.wanted, hgd, hy]
            simp only [hw, Bool.false_eq_true, if_false]
            exact put vundef undef _ H β a w h (.val _ _) ⟨hg.step, hfr', hg.defers⟩
        · have h := h.1 rfl
          cases want
          · have hw : Region.wanted o (yielded ops a.tmps) = false := by simp [Region.wanted, hgd, hy]
            simp only [hw, Bool.false_eq_true, if_false]
            exact put vundef undef _ H β a w h (.val _ _) ⟨hg.step, hfr', hg.defers⟩
          · have hw : Region.wanted o (yielded ops a.tmps) = true := by simp [Region.wanted, hgd, hy]
            simp only [hw, if_true]
            exact .inl (run _ hfr' h)
      · rename_i vs hb
        rw [hb] at hslot
        generalize hv : a.tmps.getD d undef = v at hslot
        cases hslot
        have hy : yielded ops a.tmps j = none := by
          unfold yielded
          rw [hd]
          simp only [Option.bind_some]
          rw [Array.getD_eq_getD_getElem?] at hv
          cases hq : a.tmps[d]? with
          | none => rfl
          | some q => rw [hq] at hv; simp at hv; subst hv; rfl
        have hw : Region.wanted o (yielded ops a.tmps) = false := by simp [Region.wanted, hgd, hy]
        simp only [hw, Bool.false_eq_true, if_false]
        exact put vundef undef t H β a w h (.val _ _) hg
      · exact h.elim
theorem AWP_region {cx : Cx} (hP : cx.P = P) (hn : cx.n = n) (hT : CxOk cx) {id : Nat} {ops : Array Oper} (h : (druns cx ops ops.toList t H).all (fun s => Q s.1 s.2.1 s.2.2)) :
    AWP P n (.region id ops false) Q t H := by
  intro E H0 β0 w0 D β a w hs hg
  refine wp_region ?_
  subst hP
  subst hn
  have := runs_sound hT hs (ops := ops) (Q := Q) (D := D) ops.toList 0 t H β a w rfl h hg
  simpa [List.range_eq_range'] using this
end
end Go.Ab

namespace Go.Ab
section
variable {P : Program} {E : Nat → Nat → Prop} {H : List O} {β : List Loc} {w : World} {X : Nat → Nat → Prop}
def resOne (tmps : Array Value) : ResultVar → Sem Value
  | .tmp t => pure (tmps.getD t undef)
  | .cell a t => do loadVar t (← asAddr (tmps.getD a undef))
theorem results_eq (fn : Func) (tmps : Array Value) : results fn tmps = (do let vs ← fn.results.mapM (resOne tmps); pure (if h : vs.size = 1 then vs[0] else .tuple vs)) := by
  unfold results
  have : (fun r : ResultVar => (match r with | .tmp t => pure (tmps.getD t undef) | .cell a t => do loadVar t (← asAddr (tmps.getD a undef)) : Sem Value)) = resOne tmps := by
    funext r; cases r <;> rfl
  rw [← this]
  rfl
theorem resV_R {n : Nat} {t : T} {a : Act} (hR : Rel w X H β) (hF : FR w X β n t a) : ∀ (rs : List ResultVar) (vs : List V), resV P H t rs = some vs →
    ∃ ys : List Value, (rs.mapM (resOne a.tmps)).run P w = .ok ys w ∧
      ys.length = vs.length ∧ ∀ (k : Nat) v x, vs[k]? = some v → ys[k]? = some x → R w X β v x
  | [], vs, h => by
    simp only [resV, Option.some.injEq] at h
    subst h
    exact ⟨[], by simp, rfl, by simp⟩
  | .tmp i :: rs, vs, h => by
    simp only [resV] at h
    obtain ⟨us, hu, rfl⟩ := Option.map_eq_some_iff.1 h
    obtain ⟨ys, h1, h2, h3⟩ := resV_R hR hF rs us hu
    refine ⟨a.tmps.getD i undef :: ys, by simp [List.mapM_cons, resOne, h1], by simp [h2], ?_⟩
    intro k v x hv hx
    cases k with
    | zero => simp only [List.getElem?_cons_zero, Option.some.injEq] at hv hx; subst hv; subst hx; exact hF.slot i
    | succ k => exact h3 k v x (by simpa using hv) (by simpa using hx)
  | .cell b ty :: rs, vs, h => by
    unfold resV at h
    split at h
    rotate_left
    · cases h
    rename_i u us hl hu
    simp only [Option.some.injEq] at h
    subst h
    obtain ⟨ys, h1, h2, h3⟩ := resV_R hR hF rs us hu
    obtain ⟨bl, o, z, hz, hrun, hr⟩ := sound_loadVar (P := P) hR (hF.slot b) hl
    refine ⟨z :: ys, ?_, by simp [h2], ?_⟩
    · simp only [List.mapM_cons, resOne, Sem.run_bind, hz, asAddr, Sem.run_pure, Result.andThen_ok, hrun, h1]
    · intro k v x hv hx
      cases k with
      | zero => simp only [List.getElem?_cons_zero, Option.some.injEq] at hv hx; subst hv; subst hx; exact hr
      | succ k => exact h3 k v x (by simpa using hv) (by simpa using hx)
theorem answer_R {n : Nat} {t : T} {a : Act} {fn : Func} {out : V} (hR : Rel w X H β) (hF : FR w X β n t a) (h : answerV P fn.results.toList H t = some out) :
    ∃ y, (results fn a.tmps).run P w = .ok y w ∧ R w X [] out y := by
  unfold answerV at h
  have key : ∀ ds, (resV P H t fn.results.toList).bind V.pures? = some ds → ∃ ys : List Value, (results fn a.tmps).run P w = .ok (if hh : ys.length = 1 then ys[0] else .tuple ys.toArray) w ∧
      ys.length = ds.length ∧ ∀ (k : Nat) v x, ds[k]? = some v → ys[k]? = some x → R w X [] v x := by
    intro ds hds
    obtain ⟨vs, hvs, hp⟩ := Option.bind_eq_some_iff.1 hds
    obtain ⟨ys, h1, h2, h3⟩ := resV_R hR hF fn.results.toList vs hvs
    obtain ⟨p1, p2⟩ := pures_get hp
    refine ⟨ys, ?_, by omega, fun k v x hv hx => ?_⟩
    · rw [results_eq]
      simp only [Array.mapM_eq_mapM_toList, Sem.run_bind, Sem.run_map]
      rw [h1]
      simp
    · obtain ⟨u, hu, hu'⟩ := p2 k v hv
      exact pure_R (h3 k u x hu hx) v hu'
  split at h
  · rename_i v hv
    simp only [Option.some.injEq] at h
    subst h
    obtain ⟨ys, h1, h2, h3⟩ := key _ hv
    have hl : ys.length = 1 := h2
    refine ⟨ys[0], by rw [h1, dif_pos hl], h3 0 v _ rfl (by simp [hl])⟩
  · rename_i vs hne hv
    simp only [Option.some.injEq] at h
    subst h
    obtain ⟨ys, h1, h2, h3⟩ := key _ hv
    have hl : ¬ ys.length = 1 := fun e => by
      rw [e] at h2
      match vs, h2 with
      | [v], _ => exact hne v rfl
    exact ⟨.tuple ys.toArray, by rw [h1, dif_neg hl], .tup [] vs ys h2 h3⟩
  · cases h
theorem get_initT : ∀ (args : List V) (i d : Nat), get d (initT i args) = if d < i then .any else (args[d - i]?).getD .any
  | [], i, d => by simp [initT, get]
  | v :: r, i, d => by
    simp only [initT, get]
    by_cases h : d = i
    · subst h; simp
    · rw [nbeq_ne h, cond_false, get_initT r (i + 1) d]
      by_cases h1 : d < i
      · simp [h1, Nat.lt_succ_of_lt h1]
      · have : ¬ d < i + 1 := by omega
        simp only [h1, this, if_false]
        rw [show d - i = (d - (i + 1)) + 1 from by omega, List.getElem?_cons_succ]
theorem pcall_of {f : Nat} {fn : Func} {c : Code} {args : List V} {out : V} (hf : P.funcs[f]? = some fn) (hb : fn.body = some c) (hname : fn.name ≠ "runtime.NumGoroutine")
    (hn : args.length ≤ fn.ntmps) (h : AWP P fn.ntmps c (fun e t H => (e = .ret ∨ e = .normal) ∧ answerV P fn.results.toList H t = some out) (initT 0 args) []) : PCall P f args out := by
  refine ⟨⟨fn, hf, hname, by simp [hb]⟩, ?_⟩
  intro w E rargs hE hlen hargs
  refine calls_of_wp hf hb ?_
  have hX0 : ∀ v x, R w E [] v x → R w (Xs E [] []) [] v x := fun v x h => h.stab ⟨fun b o v h1 h2 => ⟨fun h => h.elim h1 (own_nil b o), h2⟩, fun b cs e h => ⟨cs, e, h⟩⟩ [] (.refl _)
  have hg : Good E [] [] w fn.ntmps [] (initT 0 args) [] [] { tmps := rargs.toArray ++ Array.replicate (fn.ntmps - rargs.toArray.size) undef, defers := [] } w := by
    have hX : ∀ v x, R w E [] v x → R w (Xs E [] []) [] v x := fun v x h => h.stab ⟨fun b o v h1 h2 => ⟨fun h => h.elim h1 (own_nil b o), h2⟩, fun b cs e h => ⟨cs, e, h⟩⟩ [] (.refl _)
    refine ⟨Step.refl (rel_nil _ _), ⟨by simp; omega, fun d => ?_⟩, rfl⟩
    rw [get_initT]
    simp only [Nat.not_lt_zero, if_false, Nat.sub_zero]
    cases hd : args[d]? with
    | none => exact .any _ _
    | some v =>
      have hlt : d < rargs.length := by rw [hlen]; exact (List.getElem?_eq_some_iff.1 hd).1
      have := hargs d v rargs[d] hd (by simp [hlt])
      simp only [Option.getD_some]
      have e : (rargs.toArray ++ Array.replicate (fn.ntmps - rargs.toArray.size) undef).getD d undef = rargs[d] := by
        rw [Array.getD_eq_getD_getElem?, Array.getElem?_append_left (by simpa using hlt)]
        simp [hlt]
      rw [e]
      exact hX _ _ this
  have := h E [] [] w [] [] _ w ⟨fun b o hb => ⟨hE.1 b o hb, own_nil b o⟩, fun p hp => hX0 _ _ (hE.2 p hp)⟩ hg
  refine wp_mono this ?_
  intro e a w' hp
  have fin : ∀ t H β ex, (ex = AEx.ret ∨ ex = AEx.normal) ∧ answerV P fn.results.toList H t = some out → Good E [] [] w fn.ntmps [] t H β a w' →
      a.defers = [] ∧ ∃ v, (results fn a.tmps).run P w' = .ok v w' ∧ (∃ y, Ending.returned v = .returned y ∧ Step E [] [] w [] [] w' ∧ R w' E [] out y) := by
    intro t H β ex hq hg
    obtain ⟨y, h1, h2⟩ := answer_R hg.step.rel hg.fr hq.2
    refine ⟨hg.defers, y, h1, y, rfl, ?_, ?_⟩
    · exact ⟨rel_nil _ _, hg.step.os, hg.step.tape, hg.step.output, hg.step.size, fun b hb => by
        rcases hg.step.pres b hb with h | ⟨⟨o, h⟩, _⟩ | ⟨⟨o, h⟩, _⟩
        · exact .inl h
        · exact absurd h (own_nil b o)
        · exact absurd h (own_nil b o), fun b o h => absurd h (own_nil b o), .nil _⟩
    · exact h2.stab ⟨fun b o v h1 h2 => ⟨fun h => h1 (.inl h), h2⟩, fun b cs e h => ⟨cs, e, h⟩⟩ [] (.refl _)
  cases e with
  | normal => obtain ⟨t, H, β, hq, hg⟩ := hp; exact fin t H β _ hq hg
  | ret => obtain ⟨t, H, β, hq, hg⟩ := hp; exact fin t H β _ hq hg
  | exit id => obtain ⟨t, H, β, hq, hg⟩ := hp; rcases hq.1 with h | h <;> cases h
  | panic ch => obtain ⟨t, H, β, v, x, hq, hg⟩ := hp; rcases hq.1 with h | h <;> cases h
  | goto l => exact hp.elim
  | outgrown => exact hp.elim
end
end Go.Ab
