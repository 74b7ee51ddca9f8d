/-
  The engine, part V: regions that draw their order; code; functions without loops. Conditions: none.
-/
import Derived.Test.YtffamklolgjjdaaAbU
namespace Go.Ab
section
variable {cx : Cx} {ops : Array Oper} {I : T × List O → Prop}

/-- One operation that is not about to panic. -/
theorem step1_sound (hT : CxOk cx) {E H0 β0 w0 D} (hs : StartOk E H0 β0 w0) {i : Nat} {o : Oper} (ho : ops[i]? = some o) {t : T} {H : List O} {β : List Loc} {a : Act} {w : World} {r : T × List O}
    (hg : Good E H0 β0 w0 cx.n D t H β a w) (h : step1 cx ops o (t, H) = some r) {K : Act → World → Prop} {Q : Exit → Act → World → Prop}
    (hk : ∀ β' a' w', Good E H0 β0 w0 cx.n D r.1 r.2 β' a' w' → K a' w') : wpOp cx.P ops Q i K a w := by
  have put : ∀ {v x t H β a w}, puts cx o v t H = some r → R w (Xs E H β) β v x → Good E H0 β0 w0 cx.n D t H β a w → K (a.put o.dst x) w := by
    intro v x t H β a w hp hv hg
    unfold puts putO at hp
    cases hd : o.dst with
    | none =>
      simp only [hd, Option.map_some, Option.some.injEq] at hp
      subst hp
      exact hk β a w hg
    | some d =>
      simp only [hd] at hp
      cases hb : Nat.blt d cx.n
      · simp [hb] at hp
      · simp only [hb, cond_true, Option.map_some, Option.some.injEq] at hp
        subst hp
        have hlt : d < cx.n := by simpa [Nat.blt_eq] using hb
        exact hk β _ w ⟨hg.step, hg.fr.put hlt hv, hg.defers⟩
  have hwant : ∀ b, wantedT ops t o = some b → Region.wanted o (yielded ops a.tmps) = b := by
    intro b hb
    unfold wantedT at hb
    split at hb
    · rename_i hgd
      simp only [Option.some.injEq] at hb
      subst hb
      simp [Region.wanted, hgd]
    · rename_i j want hgd
      split at hb
      rotate_left
      · cases hb
      rename_i d hd
      have hslot := hg.fr.slot d
      split at hb
      · rename_i c hc
        simp only [Option.some.injEq] at hb
        subst hb
        rw [hc] at hslot
        generalize hv : a.tmps.getD d undef = v at hslot
        cases hslot
        have hy : yielded ops a.tmps j = some c := by
          unfold yielded
          rw [hd]
          simp only [Option.bind_some]
          rw [Array.getD_eq_getD_getElem?] at hv
          cases hq : a.tmps[d]? with
          | none => rw [hq] at hv; simp [undef] at hv
          | some q => rw [hq] at hv; simp at hv; subst hv; rfl
        simp only [Region.wanted, hgd, hy]
        cases c <;> cases want <;> rfl
      · rename_i vs hc
        simp only [Option.some.injEq] at hb
        subst hb
        rw [hc] at hslot
        generalize hv : a.tmps.getD d undef = v at hslot
        cases hslot
        have hy : yielded ops a.tmps j = none := by
          unfold yielded
          rw [hd]
          simp only [Option.bind_some]
          rw [Array.getD_eq_getD_getElem?] at hv
          cases hq : a.tmps[d]? with
          | none => rfl
          | some q => rw [hq] at hv; simp at hv; subst hv; rfl
        simp [Region.wanted, hgd, hy]
      · cases hb
  unfold step1 at h
  simp only at h
  unfold wpOp
  simp only [ho]
  cases hw : wantedT ops t o with
  | none => rw [hw] at h; cases h
  | some b =>
    rw [hw] at h
    rw [hwant b hw]
    cases b
    · simp only [Bool.false_eq_true, if_false]
      exact put h (.val _ _) hg
    · simp only at h
      cases hu : (dop cx t H o).run with
      | none => rw [hu] at h; cases h
      | some res =>
        rw [hu] at h
        cases res with
        | pan u H2 => cases h
        | ok u H2 =>
          simp only [if_true]
          refine .inl (dop_sound hT (hs.now hg.step) hg.step.rel hg.fr hu ?_)
          intro x w' β' st hv
          exact put h hv ⟨hg.step.trans st, hg.fr.step st, hg.defers⟩

theorem Good.like {E H0 β0 w0 n D t s H β a w} (hg : Good E H0 β0 w0 n D t H β a w) (h : TEq s t) : Good E H0 β0 w0 n D s H β a w :=
  ⟨hg.step, hg.fr.le (fun d => .inl (h d)), hg.defers⟩

/-- In any order. -/
theorem any_sound (hT : CxOk cx) {E H0 β0 w0 D} (hs : StartOk E H0 β0 w0) (hd : DrawOk cx ops I) {p0 r0 : T × List O} (hI : I p0) (h : runI cx ops (List.range ops.size) p0 = some r0) {Q : AEx → T → List O → Prop}
    (hq : ∀ β a w, Good E H0 β0 w0 cx.n D r0.1 r0.2 β a w → Post E H0 β0 w0 cx.n D Q .normal a w) :
    ∀ (fuel : Nat) (listed : Array Bool) (p : T × List O) (β : List Loc) (a : Act) (w : World), listed.size = ops.size → missing ops.size (fun i => listed.getD i false) = fuel →
      Closed ops (fun i => listed.getD i false) → stateOf cx ops (fun i => listed.getD i false) p0 = some p → Good E H0 β0 w0 cx.n D p.1 p.2 β a w →
      wpAny cx.P .any ops (Post E H0 β0 w0 cx.n D Q) fuel listed a w
  | 0, listed, p, β, a, w, hsz, hm, _, hp, hg => by
    rw [stateOf_full hm] at hp
    rw [h] at hp
    simp only [Option.some.injEq] at hp
    subst hp
    refine ⟨?_, hq β a w hg⟩
    apply List.eq_nil_iff_forall_not_mem.2
    intro i hi
    obtain ⟨h1, o, h2, _⟩ := mem_ready.1 hi
    have hlt : i < ops.size := (Array.getElem?_eq_some_iff.1 h2).1
    have : listed.getD i false = false := by
      rw [Array.getD_eq_getD_getElem?] at h1 ⊢
      have : i < listed.size := by omega
      simp [this] at h1 ⊢
      exact h1
    have hin : i ∈ (List.range ops.size).filter fun i => !(listed.getD i false) := List.mem_filter.2 ⟨List.mem_range.2 hlt, by simp [this]⟩
    have h0 := List.length_eq_zero_iff.1 hm
    rw [h0] at hin; cases hin
  | fuel + 1, listed, p, β, a, w, hsz, hm, hc, hp, hg => by
    refine ⟨fun hr => ?_, fun i hi => ?_⟩
    · -- something can be carried out
      obtain ⟨i, h1, h2, h3⟩ := first_missing (S := fun i => listed.getD i false) (n := ops.size) (by omega)
      obtain ⟨o, ho⟩ : ∃ o, ops[i]? = some o := ⟨ops[i], by simp [h1]⟩
      have : i ∈ Region.ready .any ops listed := mem_ready.2 ⟨by
        rw [Array.getD_eq_getD_getElem?] at h2 ⊢
        have : i < listed.size := by omega
        simp [this] at h2 ⊢; exact h2, o, ho, fun e he hb => h3 _ (hd.back i o ho e he hb)⟩
      rw [hr] at this; cases this
    · obtain ⟨h1, o, ho, h3⟩ := mem_ready.1 hi
      have hlt : i < ops.size := (Array.getElem?_eq_some_iff.1 ho).1
      have hS : listed.getD i false = false := by
        rw [Array.getD_eq_getD_getElem?] at h1 ⊢
        have : i < listed.size := by omega
        simp [this] at h1 ⊢; exact h1
      have hw : (fun j => (listed.setIfInBounds i true).getD j false) = with1 (fun j => listed.getD j false) i := by
        funext j
        unfold with1
        by_cases hj : j = i
        · subst hj
          have : j < listed.size := by omega
          simp [Array.getD_eq_getD_getElem?, this]
        · have hji : (j == i) = false := by simpa using hj
          rw [getD_set_ne false (fun e => hj e.symm), hji, Bool.or_false]
      have hc' : Closed ops (with1 (fun j => listed.getD j false) i) := closed_with hc fun o' ho' e he hb => by
        rw [ho] at ho'
        simp only [Option.some.injEq] at ho'
        subst ho'
        exact h3 e he hb
      have hm' := missing_with (S := fun j => listed.getD j false) hlt hS
      obtain ⟨r, hr⟩ := closed_some hd hI h fuel (with1 (fun j => listed.getD j false) i) (by omega) hc'
      obtain ⟨p', r', hp', hst, hl⟩ := step_to hd hc hlt hS hI hr
      rw [hp] at hp'
      simp only [Option.some.injEq] at hp'
      subst hp'
      refine step1_sound hT hs ho (t := p.1) (H := p.2) hg (hst o ho) ?_
      intro β' a' w' hg'
      refine any_sound hT hs hd hI h hq fuel _ r β' a' w' (by simp [hsz]) (by rw [hw]; omega) (by rw [hw]; exact hc') (by rw [hw]; exact hr) ?_
      have := hg'.like hl.1
      rw [hl.2]
      exact this

/-- What the evaluator does is what the steps do. -/
theorem druns_run : ∀ (l : List Oper) (k : Nat) (t : T) (H : List O) (p : T × List O) (t' : T) (H' : List O), ops.toList.drop k = l → Like (t, H) p → (druns cx ops l t H).run = some (.normal, t', H') →
    ∃ r, runI cx ops (List.range' k l.length) p = some r ∧ r.2 = H' ∧ ∀ d, get d t' = get d r.1 ∨ get d t' = .any
  | [], k, t, H, p, t', H', _, hp, h => by
    simp only [druns, Tree.run, Option.some.injEq, Prod.mk.injEq, true_and] at h
    obtain ⟨rfl, rfl⟩ := h
    refine ⟨p, rfl, hp.2.symm, fun d => ?_⟩
    rcases get_keep cx.keeps d t with e | e
    · left; rw [e]; exact hp.1 d
    · exact .inr e
  | o :: r, k, t, H, p, t', H', hl, hp, h => by
    have hk : ops.toList[k]? = some o := by
      have := congrArg (fun l => l[0]?) hl
      simpa using this
    have hk' : ops[k]? = some o := by simpa using hk
    have hr : ops.toList.drop (k + 1) = r := by
      have := congrArg List.tail hl
      simpa [List.tail_drop] using this
    have ih := druns_run r (k + 1)
    simp only [List.length_cons, List.range'_succ, runI, hk']
    have put : ∀ {v t1 H1}, Like (t1, H1) (p.1, H1) → (dputs cx o v t1 H1 (druns cx ops r)).run = some (.normal, t', H') → ∃ q, puts cx o v p.1 H1 = some q ∧
        ∃ s, runI cx ops (List.range' (k + 1) r.length) q = some s ∧ s.2 = H' ∧ ∀ d, get d t' = get d s.1 ∨ get d t' = .any := by
      intro v t1 H1 hl1 h
      unfold dputs at h
      split at h
      · rename_i t2 h2
        have h3 : puts cx o v t1 H1 = some (t2, H1) := by unfold puts; rw [h2]; rfl
        obtain ⟨q, hq, hq'⟩ := puts_like (p := (t1, H1)) (q := (p.1, H1)) hl1.1 h3
        exact ⟨q, hq, ih t2 H1 q t' H' hr hq' h⟩
      · cases h
    have op : ∀ {t1}, Like (t1, H) p → ((dop cx t1 H o).bind (dres cx o t1 (druns cx ops r))).run = some (.normal, t', H') → wantedT ops p.1 o = some true →
        ∃ q, step1 cx ops o p = some q ∧ ∃ s, runI cx ops (List.range' (k + 1) r.length) q = some s ∧ s.2 = H' ∧ ∀ d, get d t' = get d s.1 ∨ get d t' = .any := by
      intro t1 hl1 h hw
      obtain ⟨res, hres, hd⟩ := bind_run h
      have ed : dop cx p.1 p.2 o = dop cx t1 H o := by rw [← hl1.2]; exact dop_congr fun x _ => (rd_eq hl1.1 x).symm
      cases res with
      | pan v H1 =>
        simp [dres, Tree.run] at hd
      | ok v H1 =>
        obtain ⟨q, hq, hh⟩ := put (v := v) (t1 := t1) (H1 := H1) ⟨hl1.1, rfl⟩ hd
        refine ⟨q, ?_, hh⟩
        unfold step1
        simp only [hw, ed, hres]
        exact hq
    have no : ∀ {t1}, Like (t1, H) p → (dputs cx o vundef t1 H (druns cx ops r)).run = some (.normal, t', H') → wantedT ops p.1 o = some false →
        ∃ q, step1 cx ops o p = some q ∧ ∃ s, runI cx ops (List.range' (k + 1) r.length) q = some s ∧ s.2 = H' ∧ ∀ d, get d t' = get d s.1 ∨ get d t' = .any := by
      intro t1 hl1 h hw
      have e : p.2 = H := hl1.2.symm
      obtain ⟨q, hq, hh⟩ := put (v := vundef) (t1 := t1) (H1 := H) ⟨hl1.1, rfl⟩ h
      refine ⟨q, ?_, hh⟩
      unfold step1
      simp only [hw, e]
      exact hq
    have done : (∃ q, step1 cx ops o p = some q ∧ ∃ s, runI cx ops (List.range' (k + 1) r.length) q = some s ∧ s.2 = H' ∧ ∀ d, get d t' = get d s.1 ∨ get d t' = .any) →
        ∃ s, (match step1 cx ops o p with | some q => runI cx ops (List.range' (k + 1) r.length) q | none => none) = some s ∧ s.2 = H' ∧ ∀ d, get d t' = get d s.1 ∨ get d t' = .any := by
      rintro ⟨q, h1, s, h2, h3⟩
      exact ⟨s, by rw [h1]; exact h2, h3⟩
    refine done ?_
    unfold druns dstep at h
    split at h
    · rename_i hgd
      exact op hp h (by simp [wantedT, hgd])
    · rename_i j want hgd
      split at h
      rotate_left
      · cases h
      rename_i d hd
      have hpd : get d p.1 = get d t := (hp.1 d).symm
      split at h
      · rename_i b hb
        have pinned : Like (Ab.put d (.bool b) t, H) p := by
          refine ⟨fun e => ?_, hp.2⟩
          simp only [get_put]
          split
          · rename_i he; subst he; rw [← hb]; exact hp.1 e
          · exact hp.1 e
        have hw : wantedT ops p.1 o = some (b == want) := by simp only [wantedT, hgd, hd, hpd, hb]
        cases b <;> cases want
        · exact op pinned h hw
        · exact no pinned h hw
        · exact no pinned h hw
        · exact op pinned h hw
      · rename_i vs hb
        exact no hp h (by simp only [wantedT, hgd, hd, hpd, hb])
      · cases h

theorem union1_mem {m : Nat} : ∀ (l r : List Nat), m ∈ aheads.union1 l r → m ∈ l ∨ m ∈ r
  | [], r, h => .inr h
  | n :: l, r, h => by
    unfold aheads.union1 at h
    cases hb : hasN n r
    · rw [hb, cond_false] at h
      rcases union1_mem l _ h with h | h
      · exact .inl (List.mem_cons_of_mem _ h)
      · rcases List.mem_cons.1 h with rfl | h
        · exact .inl List.mem_cons_self
        · exact .inr h
    · rw [hb, cond_true] at h
      rcases union1_mem l _ h with h | h
      · exact .inl (List.mem_cons_of_mem _ h)
      · exact .inr h

theorem hasN_mem {n : Nat} : ∀ {l : List Nat}, hasN n l = true → n ∈ l
  | [], h => by cases h
  | m :: l, h => by
    unfold hasN at h
    cases hb : Nat.beq n m
    · rw [hb, cond_false] at h; exact List.mem_cons_of_mem _ (hasN_mem h)
    · have := Nat.eq_of_beq_eq_true hb; subst this; exact List.mem_cons_self

/-- What is listed as ahead is ahead. -/
theorem aheads_ok : ∀ (l : List Oper) (k : Nat) (acc : List (List Nat)), ops.toList.drop k = l → acc.length = k → (∀ (j : Nat) a, acc[j]? = some a → ∀ i ∈ a, Anc ops i j) →
    ∀ (j : Nat) a, (aheads l acc)[j]? = some a → ∀ i ∈ a, Anc ops i j
  | [], k, acc, _, _, h => h
  | o :: r, k, acc, hl, hk, h => by
    have ho : ops.toList[k]? = some o := by
      have := congrArg (fun l => l[0]?) hl
      simpa using this
    have ho' : ops[k]? = some o := by simpa using ho
    have hr : ops.toList.drop (k + 1) = r := by
      have := congrArg List.tail hl
      simpa [List.tail_drop] using this
    unfold aheads
    refine aheads_ok r (k + 1) _ hr (by simp [hk]) ?_
    intro j a hj i hi
    rw [getElem?_concat] at hj
    split at hj
    · exact h j a hj i hi
    · split at hj
      · rename_i hjk
        simp only [Option.some.injEq] at hj
        subst hj
        have hjk : j = k := by omega
        subst hjk
        have key : ∀ (es : List Edge), (∀ e ∈ es, e ∈ o.after) → ∀ (l0 : List Nat), (∀ m ∈ l0, Anc ops m j) →
            ∀ m ∈ es.foldl (fun l e => cond (Region.binds .any e) (aheads.union1 (e.on :: acc.getD e.on []) l) l) l0, Anc ops m j := by
          intro es
          induction es with
          | nil => intro _ l0 h0 m hm; exact h0 m hm
          | cons e es ih =>
            intro hes l0 h0 m hm
            refine ih (fun e he => hes e (List.mem_cons_of_mem _ he)) _ ?_ m hm
            intro m hm
            simp only at hm
            cases hb : Region.binds .any e
            · rw [hb, cond_false] at hm; exact h0 m hm
            · rw [hb, cond_true] at hm
              rcases union1_mem _ _ hm with hm | hm
              · have he : Anc ops e.on j := fun S hS hj => hS j o ho' hj e (hes e List.mem_cons_self) hb
                rcases List.mem_cons.1 hm with rfl | hm
                · exact he
                · rw [List.getD_eq_getElem?_getD] at hm
                  cases ha : acc[e.on]? with
                  | none => rw [ha] at hm; cases hm
                  | some b =>
                    rw [ha] at hm
                    exact fun S hS hj => h e.on b ha m hm S hS (he S hS hj)
              · exact h0 m hm
        exact key o.after.toList (fun e he => by simpa using he) [] (fun m hm => by cases hm) i hi
      · cases hj

theorem backs_spec (h2 : backs 0 ops.toList = true) : ∀ (j : Nat) o, ops[j]? = some o → ∀ e ∈ o.after, Region.binds .any e = true → e.on < j := by
    have key : ∀ (l : List Oper) (k : Nat), ops.toList.drop k = l → backs k l = true → ∀ (j : Nat) o, l[j]? = some o → ∀ e ∈ o.after, Region.binds .any e = true → e.on < k + j := by
      intro l
      induction l with
      | nil => intro k _ _ j o h; simp at h
      | cons o r ih =>
        intro k hl hb j o' ho' e he hbe
        unfold backs at hb
        obtain ⟨b1, b2⟩ := Bool.and_eq_true_iff.1 hb
        cases j with
        | zero =>
          simp only [List.getElem?_cons_zero, Option.some.injEq] at ho'
          subst ho'
          have := List.all_eq_true.1 b1 e (by simpa using he)
          rw [hbe] at this
          simp [Nat.blt_eq] at this
          omega
        | succ j =>
          have hr : ops.toList.drop (k + 1) = r := by
            have := congrArg List.tail hl
            simpa [List.tail_drop] using this
          have := ih (k + 1) hr b2 j o' (by simpa using ho') e he hbe
          omega
    intro j o ho e he hb
    have := key ops.toList 0 rfl h2 j o (by simpa using ho) e he hb
    omega

theorem pairs_spec : ∀ (n : Nat), pairsOk cx ops (aheads ops.toList []) n = true → ∀ i j, i < j → j < n → Anc ops i j ∨ Turns cx ops I i j := by
  have hah := aheads_ok (ops := ops) ops.toList 0 [] rfl rfl (fun j a h => by simp at h)
  intro n
  induction n with
  | zero => intro _ i j _ h; omega
  | succ n ih =>
    intro hp i j hij hj
    unfold pairsOk at hp
    obtain ⟨p1, p2⟩ := Bool.and_eq_true_iff.1 hp
    by_cases hjn : j = n
    · subst hjn
      have := List.all_eq_true.1 p1 i (List.mem_range.2 hij)
      rcases Bool.or_eq_true_iff.1 this with h | h
      · left
        have hm := hasN_mem h
        rw [List.getD_eq_getElem?_getD] at hm
        cases ha : (aheads ops.toList [])[j]? with
        | none => rw [ha] at hm; cases hm
        | some b => rw [ha] at hm; exact hah j b ha i hm
      · right
        intro x y hx hy
        simp only [hx, hy] at h
        obtain ⟨h1, h2⟩ := Bool.and_eq_true_iff.1 h
        exact ⟨h1, .inl h2⟩
    · exact ih p2 i j hij (by omega)

theorem drawOk_spec (h : drawOk cx ops = true) : cx.P.follows .mixedOrders = true ∧ DrawOk cx ops (fun _ => True) := by
  unfold drawOk at h
  obtain ⟨h1, h⟩ := Bool.and_eq_true_iff.1 h
  obtain ⟨h2, h3⟩ := Bool.and_eq_true_iff.1 h
  exact ⟨h1, fun _ _ _ _ _ _ _ => trivial, backs_spec h2, fun i j g1 g2 => pairs_spec ops.size h3 i j g1 g2⟩

/-! What lies in two objects is apart. -/

def RootsInv (S : Roots) (p : T × List O) : Prop := ∀ d i, (d, i) ∈ S → rootAt i (get d p.1) = true

theorem rootOf_mem {d i : Nat} : ∀ {S : Roots}, rootOf d S = some i → (d, i) ∈ S
  | [], h => by cases h
  | (e, j) :: r, h => by
    unfold rootOf at h
    cases hb : Nat.beq d e
    · rw [hb] at h; exact List.mem_cons_of_mem _ (rootOf_mem h)
    · rw [hb] at h
      have := Nat.eq_of_beq_eq_true hb
      simp only [cond_true, Option.some.injEq] at h
      subst this; subst h
      exact List.mem_cons_self

theorem root_ptr {i : Nat} {v : V} (h : rootAt i v = true) : v = .any ∨ ∃ o, v = .ptr i o := by
  unfold rootAt at h
  split at h
  · exact .inl rfl
  · have := Nat.eq_of_beq_eq_true h
    subst this
    exact .inr ⟨_, rfl⟩
  · cases h

theorem sepB_spec {S : Roots} {x y : Oper} (h : sepB S x y = true) (p : T × List O) (hp : RootsInv S p) : SepAt x y p.1 := by
  unfold sepB at h
  split at h
  rotate_left
  · cases h
  rename_i a b ha hb
  split at h
  rotate_left
  · cases h
  rename_i i j hi hj
  refine ⟨_, _, ha, hb, fun i' j' o o' h1 h2 e => ?_⟩
  subst e
  have g1 := root_ptr (hp _ _ (rootOf_mem hi))
  have g2 := root_ptr (hp _ _ (rootOf_mem hj))
  have h1 : get a p.1 = .ptr i' o := h1
  have h2 : get b p.1 = .ptr i' o' := h2
  rw [h1] at g1
  rw [h2] at g2
  rcases g1 with g1 | ⟨_, g1⟩
  · cases g1
  rcases g2 with g2 | ⟨_, g2⟩
  · cases g2
  cases g1
  cases g2
  simp at h

theorem rootsOk_spec {t : T} {H : List O} {S : Roots} (h : rootsOk ops t S = true) : RootsInv S (t, H) ∧ Keeps cx ops (RootsInv S) := by
  have hall := List.all_eq_true.1 h
  refine ⟨fun d i hm => (Bool.and_eq_true_iff.1 (hall _ hm)).1, ?_⟩
  intro k o p q ho hI hs d i hm
  have hw := (Bool.and_eq_true_iff.1 (hall _ hm)).2
  have hw := List.all_eq_true.1 hw o (Array.mem_toList_iff.2 (Array.mem_of_getElem? ho))
  have same : o.dst ≠ some d → rootAt i (get d q.1) = true := by
    intro hne
    have e : get d q.1 = get d p.1 := by
      unfold step1 at hs
      split at hs
      · split at hs
        · exact (puts_spec hs).2.1 d hne
        · cases hs
      · exact (puts_spec hs).2.1 d hne
      · cases hs
    rw [e]
    exact hI d i hm
  rcases Bool.or_eq_true_iff.1 hw with hw | hw
  · refine same fun e => ?_
    unfold notDst at hw
    rw [e] at hw
    simp at hw
  · by_cases hd : o.dst = some d
    rotate_left
    · exact same hd
    cases hf : fromSlot o with
    | none => rw [hf] at hw; cases hw
    | some c =>
      rw [hf] at hw
      unfold isRoot at hw
      simp only at hw
      cases hc : rootOf c S with
      | none => rw [hc] at hw; cases hw
      | some j =>
        rw [hc] at hw
        have := Nat.eq_of_beq_eq_true hw
        subst this
        have hroot := root_ptr (hI _ _ (rootOf_mem hc))
        have hg : o.guard = none := by
          unfold fromSlot at hf
          split at hf
          · assumption
          · cases hf
        unfold step1 at hs
        rw [show wantedT ops p.1 o = some true from by unfold wantedT; rw [hg]] at hs
        simp only at hs
        cases hu : (dop cx p.1 p.2 o).run with
        | none => rw [hu] at hs; cases hs
        | some res =>
          rw [hu] at hs
          cases res with
          | pan u H2 => cases hs
          | ok u H2 =>
            rw [((puts_spec hs).2.2 d hd).1]
            unfold fromSlot at hf
            rw [hg] at hf
            simp only at hf
            unfold dop at hu
            split at hf
            · rename_i ty c' f ho
              simp only [Option.some.injEq] at hf
              subst hf
              simp only [ho, rd] at hu
              obtain ⟨w, hw, e⟩ := holdO_run hu
              simp only [Res.ok.injEq] at e
              obtain ⟨rfl, rfl⟩ := e
              rcases hroot with g | ⟨off, g⟩
              · rw [g] at hw
                unfold oFieldAddr at hw
                split at hw
                · split at hw
                  · split at hw
                    · rename_i size _ _
                      cases hz : Nat.beq size 0
                      · rw [hz] at hw; cases hw
                      · rw [hz] at hw; cases hw
                    · cases hw
                  · cases hw
                · cases hw
              · rw [g] at hw
                unfold oFieldAddr at hw
                split at hw
                · split at hw
                  · split at hw
                    · rename_i size _ _
                      cases hz : Nat.beq size 0
                      · rw [hz] at hw
                        simp only [cond_false, Option.some.injEq] at hw
                        subst hw
                        exact Nat.beq_refl _
                      · rw [hz] at hw; cases hw
                    · cases hw
                  · cases hw
                · cases hw
            · rename_i c' ho
              simp only [Option.some.injEq] at hf
              subst hf
              simp only [ho, rd] at hu
              rcases hroot with g | ⟨off, g⟩
              · rw [g] at hu; cases hu
              · rw [g] at hu
                simp only [hold, Tree.run, Option.some.injEq, Res.ok.injEq] at hu
                rw [← hu.1]
                exact Nat.beq_refl _
            · cases hf

theorem pairsS_spec {S : Roots} : ∀ (n : Nat), pairsOkS cx ops (aheads ops.toList []) S n = true → ∀ i j, i < j → j < n → Anc ops i j ∨ Turns cx ops (RootsInv S) i j := by
  have hah := aheads_ok (ops := ops) ops.toList 0 [] rfl rfl (fun j a h => by simp at h)
  intro n
  induction n with
  | zero => intro _ i j _ h; omega
  | succ n ih =>
    intro hp i j hij hj
    unfold pairsOkS at hp
    obtain ⟨p1, p2⟩ := Bool.and_eq_true_iff.1 hp
    by_cases hjn : j = n
    · subst hjn
      have := List.all_eq_true.1 p1 i (List.mem_range.2 hij)
      rcases Bool.or_eq_true_iff.1 this with h | h
      · left
        have hm := hasN_mem h
        rw [List.getD_eq_getElem?_getD] at hm
        cases ha : (aheads ops.toList [])[j]? with
        | none => rw [ha] at hm; cases hm
        | some b => rw [ha] at hm; exact hah j b ha i hm
      · right
        intro x y hx hy
        simp only [hx, hy] at h
        obtain ⟨h1, h2⟩ := Bool.and_eq_true_iff.1 h
        exact ⟨h1, (Bool.or_eq_true_iff.1 h2).imp id (fun h p hp => sepB_spec h p hp)⟩
    · exact ih p2 i j hij (by omega)

theorem drawOkT_spec {t : T} {H : List O} (h : drawOkT cx ops t = true) : cx.P.follows .mixedOrders = true ∧ ∃ I, I (t, H) ∧ DrawOk cx ops I := by
  unfold drawOkT at h
  obtain ⟨h1, h⟩ := Bool.and_eq_true_iff.1 h
  obtain ⟨h2, h⟩ := Bool.and_eq_true_iff.1 h
  obtain ⟨h3, h4⟩ := Bool.and_eq_true_iff.1 h
  generalize roots1 ops.toList (roots0 t) = S at h3 h4
  obtain ⟨r1, r2⟩ := rootsOk_spec (cx := cx) (H := H) h3
  exact ⟨h1, RootsInv S, r1, r2, backs_spec h2, fun i j g1 g2 => pairsS_spec ops.size h4 i j g1 g2⟩

theorem drawAny_spec {t : T} {H : List O} (h : (drawOk cx ops || drawOkT cx ops t) = true) : cx.P.follows .mixedOrders = true ∧ ∃ I, I (t, H) ∧ DrawOk cx ops I := by
  rcases Bool.or_eq_true_iff.1 h with h | h
  · exact ⟨(drawOk_spec h).1, _, trivial, (drawOk_spec h).2⟩
  · exact drawOkT_spec h

variable {P : Program} {n : Nat} {Q : AEx → T → List O → Prop} {t : T} {H : List O}

theorem AWP_draw (hP : cx.P = P) (hn : cx.n = n) (hT : CxOk cx) {id : Nat} (h : (dcode cx (.region id ops true) t H).all (fun s => Q s.1 s.2.1 s.2.2)) :
    AWP P n (.region id ops true) Q t H := by
  subst hP
  subst hn
  simp only [dcode, cond_true] at h
  cases hd : (drawOk cx ops || drawOkT cx ops t)
  · rw [hd] at h; exact h.elim
  rw [hd, cond_true] at h
  obtain ⟨hm, I, hI, hok⟩ := drawAny_spec (H := H) hd
  obtain ⟨s, hs1, hs2⟩ := Tree.all_run h
  obtain ⟨s', h1, h2⟩ := bind_run hs1
  obtain ⟨e, t', H'⟩ := s'
  cases e with
  | normal =>
    simp only [dnorm, Tree.run, Option.some.injEq] at h2
    subst h2
    obtain ⟨r, r1, r2, r3⟩ := druns_run (cx := cx) (ops := ops) ops.toList 0 t H (t, H) t' H' rfl (.refl _) h1
    have r1 : runI cx ops (List.range ops.size) (t, H) = some r := by simpa [List.range_eq_range'] using r1
    intro E H0 β0 w0 D β a w hs hg
    refine wp_region_any hm ?_
    have hg' : Good E H0 β0 w0 cx.n D t H β a { w with drawn := w.drawn + 1 } :=
      have st := Step.heap_same (w' := { w with drawn := w.drawn + 1 }) hg.step.rel rfl rfl rfl rfl
      ⟨hg.step.trans st, hg.fr.step st, hg.defers⟩
    have hnone : (fun i => (Array.replicate ops.size false).getD i false) = fun _ => false := by
      funext i
      rw [Array.getD_eq_getD_getElem?, Array.getElem?_replicate]
      split <;> rfl
    refine any_sound hT hs hok hI r1 (Q := Q) ?_ ops.size _ (t, H) β a _ (by simp) ?_ ?_ ?_ hg'
    · intro β a w hg
      refine ⟨t', H', β, hs2, ?_⟩
      rw [r2] at hg
      exact ⟨hg.step, hg.fr.le r3, hg.defers⟩
    · rw [hnone]; unfold missing
      have : (List.range ops.size).filter (fun _ => !false) = List.range ops.size := List.filter_eq_self.2 (fun _ _ => rfl)
      rw [this]; simp
    · rw [hnone]; intro j o _ hj; cases hj
    · rw [hnone]
      have : (List.range ops.size).filter (fun _ => false) = [] := by simp
      unfold stateOf
      rw [this]; rfl
  | exit _ => cases h2
  | ret => cases h2
  | panic _ => cases h2

/-- Code, of a loop as many rounds as there is fuel for. -/
theorem AWP_code {cx : Cx} (hP : cx.P = P) (hn : cx.n = n) (hT : CxOk cx) : ∀ (c : Code) (Q : AEx → T → List O → Prop) (t : T) (H : List O),
    (dcode cx c t H).all (fun s => Q s.1 s.2.1 s.2.2) → AWP P n c Q t H
  | .skip, Q, t, H, h => AWP_skip h
  | .region id ops draw, Q, t, H, h => by
    cases draw
    · exact AWP_region hP hn hT h
    · exact AWP_draw hP hn hT h
  | .seq a b, Q, t, H, h => by
    refine AWP_seq (AWP_code hP hn hT a _ t H ?_)
    obtain ⟨s, hs1, hs2⟩ := Tree.all_run h
    obtain ⟨s', h1, h2⟩ := bind_run hs1
    refine Tree.run_all h1 ?_
    obtain ⟨e, t', H'⟩ := s'
    cases e with
    | normal => exact AWP_code hP hn hT b Q t' H' (Tree.run_all h2 hs2)
    | exit id => simp only [dseq, Tree.run, Option.some.injEq] at h2; subst h2; exact hs2
    | ret => simp only [dseq, Tree.run, Option.some.injEq] at h2; subst h2; exact hs2
    | panic v => simp only [dseq, Tree.run, Option.some.injEq] at h2; subst h2; exact hs2
  | .cond c a b, Q, t, H, h => by
    unfold dcode at h
    split at h
    · rename_i d
      split at h
      · rename_i v hv
        exact AWP_cond hv (fun e => AWP_code hP hn hT a Q _ H (h.1 e)) (fun e => AWP_code hP hn hT b Q _ H (h.2 e))
      · exact h.elim
    · split at h
      · rename_i v hv
        exact AWP_cond' hv (fun e => AWP_code hP hn hT a Q _ H (h.1 e)) (fun e => AWP_code hP hn hT b Q _ H (h.2 e))
      · exact h.elim
  | .block id c, Q, t, H, h => by
    refine AWP_block (AWP_code hP hn hT c _ t H ?_)
    obtain ⟨s, hs1, hs2⟩ := Tree.all_run h
    obtain ⟨s', h1, h2⟩ := bind_run hs1
    refine Tree.run_all h1 ?_
    obtain ⟨e, t', H'⟩ := s'
    cases e with
    | exit j =>
      simp only [dblock, Tree.run, Option.some.injEq] at h2
      subst h2
      simp only [blockQ]
      by_cases hj : j = id
      · subst hj; simpa using hs2
      · simpa [hj, nbeq_ne hj] using hs2
    | normal => simp only [dblock, Tree.run, Option.some.injEq] at h2; subst h2; exact hs2
    | ret => simp only [dblock, Tree.run, Option.some.injEq] at h2; subst h2; exact hs2
    | panic v => simp only [dblock, Tree.run, Option.some.injEq] at h2; subst h2; exact hs2
  | .exit id, Q, t, H, h => AWP_exit h
  | .ret, Q, t, H, h => AWP_ret h
  | .loop c, Q, t, H, h => by
    have round := AWP_code hP hn hT c
    have h : (dloop (dcode cx c) cx.fuel t H).all (fun s => Q s.1 s.2.1 s.2.2) := h
    refine AWP_loop (α := { s : Nat × T × List O // (dloop (dcode cx c) s.1 s.2.1 s.2.2).all (fun s => Q s.1 s.2.1 s.2.2) }) (fun i => i.1.2) (fun i => i.1.1) ?_ ⟨(cx.fuel, t, H), h⟩
    rintro ⟨⟨m, t', H'⟩, hm⟩
    cases m with
    | zero => exact hm.elim
    | succ m =>
      refine round _ t' H' ?_
      obtain ⟨s, hs1, hs2⟩ := Tree.all_run hm
      obtain ⟨s', h1, h2⟩ := bind_run hs1
      refine Tree.run_all h1 ?_
      obtain ⟨e, t2, H2⟩ := s'
      cases e with
      | normal => exact ⟨⟨(m, t2, H2), Tree.run_all h2 hs2⟩, Nat.lt_succ_self m, fun _ => .inl rfl, rfl⟩
      | exit id => simp only [dseq, Tree.run, Option.some.injEq] at h2; subst h2; exact hs2
      | ret => simp only [dseq, Tree.run, Option.some.injEq] at h2; subst h2; exact hs2
      | panic v => simp only [dseq, Tree.run, Option.some.injEq] at h2; subst h2; exact hs2
  | .rangeFunc .., _, _, _, h => h.elim
  | .scope _, _, _, _, h => h.elim
  | .label _, _, _, _, h => h.elim
  | .goto _, _, _, _, h => h.elim
  | .refuse _, _, _, _, h => h.elim

/-- A function without loops. -/
theorem pcall_fun {cx : Cx} {f : Nat} {fn : Func} {c : Code} {args : List V} {out : V} (hP : cx.P = P) (hT : CxOk cx) (hf : P.funcs[f]? = some fn) (hb : fn.body = some c)
    (hname : fn.name ≠ "runtime.NumGoroutine") (hn : Nat.ble args.length fn.ntmps = true) (h : (dfun cx fn args).run = some out) : PCall P f args out := by
  subst hP
  refine pcall_of hf hb hname (Nat.le_of_ble_eq_true hn) ?_
  unfold dfun at h
  rw [hb] at h
  obtain ⟨s, h1, h2⟩ := bind_run h
  refine AWP_code (cx := { cx with n := fn.ntmps }) rfl rfl hT c _ _ _ (Tree.run_all h1 ?_)
  obtain ⟨e, t, H⟩ := s
  have ans : (match answerV cx.P fn.results.toList H t with | some v => Tree.leaf v | none => .fail).run = some out → answerV cx.P fn.results.toList H t = some out := by
    intro h
    cases hv : answerV cx.P fn.results.toList H t with
    | none => rw [hv] at h; cases h
    | some v => rw [hv] at h; simpa [Tree.run] using h
  cases e with
  | normal => exact ⟨.inr rfl, ans h2⟩
  | ret => exact ⟨.inl rfl, ans h2⟩
  | exit id => cases h2
  | panic v => cases h2

end
end Go.Ab
