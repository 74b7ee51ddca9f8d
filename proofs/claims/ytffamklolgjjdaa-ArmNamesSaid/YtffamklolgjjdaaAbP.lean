/-
  The engine, part P: one operation is sound. Conditions: none.
-/
import Derived.Test.YtffamklolgjjdaaAbOb
namespace Go.Ab

def Sound (P : Program) (f : Nat) (s : Spec) : Prop := ∀ args out, (s args).run = some out → PCall P f args out

def TabOk (P : Program) (tab : List (Nat × Spec)) : Prop := ∀ p ∈ tab, Sound P p.1 p.2

theorem TabOk.nil (P : Program) : TabOk P [] := fun p h => by cases h
theorem TabOk.cons {P : Program} {f : Nat} {s : Spec} {tab : List (Nat × Spec)} (h : Sound P f s) (ht : TabOk P tab) : TabOk P ((f, s) :: tab) := by
  intro p hp
  rcases List.mem_cons.1 hp with rfl | hp
  · exact h
  · exact ht p hp

/-- All that a function's context tells is so. -/
def CxOk (cx : Cx) : Prop := TabOk cx.P cx.tab ∧ MTabOk cx.P cx.mtab

theorem look_spec {f : Nat} {args : List V} {out : V} : ∀ {tab : List (Nat × Spec)}, (look f tab args).run = some out → ∃ s, (f, s) ∈ tab ∧ (s args).run = some out
  | [], h => by cases h
  | (g, s) :: r, h => by
    unfold look at h
    cases hb : Nat.beq f g
    · simp only [hb, cond_false] at h
      obtain ⟨s', h1, h2⟩ := look_spec h
      exact ⟨s', List.mem_cons_of_mem _ h1, h2⟩
    · simp only [hb, cond_true] at h
      have := Nat.eq_of_beq_eq_true hb
      subst this
      exact ⟨s, List.mem_cons_self, h⟩

section
variable {E : Nat → Nat → Prop} {H : List O} {β : List Loc} {w : World}

theorem own_nil (b o : Nat) : ¬ Own [] [] b o := by
  rintro ⟨id, l, h, _⟩
  simp at h

theorem rel_nil (w : World) (X : Nat → Nat → Prop) : Rel w X [] [] :=
  ⟨rfl, fun id cs e loc h => by simp at h, fun id n sz loc h => by simp at h, fun i j l l' hi => by obtain ⟨o, h, _⟩ := hi; simp at h⟩

/-- What a call that only reads leaves. -/
theorem Step.of_pure {w' : World} (hR : Rel w (Xs E H β) H β) (s : Step (Xs E H β) [] [] w [] [] w') : Step E H β w H β w' ∧ ∀ v y, R w' (Xs E H β) [] v y → R w' (Xs E H β) β v y := by
  have hold : ∀ b, b < w.heap.size → w'.heap[b]? = w.heap[b]? := fun b hb => by
    rcases s.pres b hb with h | ⟨⟨o, h⟩, _⟩
    · exact h
    · exact absurd h (own_nil b o)
  have st : Stab w (Xs E H β) w' (Xs E H β) :=
    ⟨fun b o v hx hv => ⟨hx, (cell_heap (hold b (cell_lt hv)) o).trans hv⟩, fun b cs e h => ⟨cs, e, by rw [hold b (heap_lt h)]; exact h⟩⟩
  refine ⟨⟨⟨hR.len, fun id cs e loc g1 g2 => ?_, fun id n sz loc g1 g2 => ?_, hR.disj⟩, s.os, s.tape, s.output, s.size, fun b hb => .inl (hold b hb), fun b o h => .inl h, .refl _⟩, fun v y h => h.up β⟩
  · obtain ⟨k, c, e', a1, a2, a3, a4⟩ := hR.cells id cs e loc g1 g2
    exact ⟨k, c, e', by rw [hold _ (heap_lt a1)]; exact a1, a2, a3, fun k v hv => let ⟨x, hx, hr⟩ := a4 k v hv; ⟨x, hx, hr.stab st _ (.refl _)⟩⟩
  · obtain ⟨k, m, c, e', a1, a2⟩ := hR.tok id n sz loc g1 g2
    exact ⟨k, m, c, e', by rw [hold _ (heap_lt a1)]; exact a1, a2⟩

variable {n : Nat} {t : T} {a : Act} {o : Oper} {cx : Cx} {K : Act → World → Prop} {Q : Exit → Act → World → Prop}

/-- What is to be shown behind an operation. -/
def Then (E : Nat → Nat → Prop) (H : List O) (β : List Loc) (w : World) (a : Act) (o : Oper) (K : Act → World → Prop) (Q : Exit → Act → World → Prop) : Res → Prop
  | .ok v H' => ∀ x w' β', Step E H β w H' β' w' → R w' (Xs E H' β') β' v x → K (a.put o.dst x) w'
  | .pan v H' => ∀ x w' β', Step E H β w H' β' w' → R w' (Xs E H' β') β' v x → Q (.panic [{ v := x, recovered := false }]) a w'

theorem wp_sem {P : Program} {s : Sem Value} {x : Value} {w' : World} (he : execOp a.eval o = (do pure (Next.value (← s)))) (hrun : s.run P w = .ok x w') (hk : K (a.put o.dst x) w') : o.wp P a w K Q := by
  unfold Oper.wp
  rw [he]
  simp only [Sem.run_bind, hrun, Result.andThen_ok]
  exact hk

theorem wp_unit {P : Program} {s : Sem Unit} {w' : World} (he : execOp a.eval o = (do s; pure Next.skip)) (hrun : s.run P w = .ok () w') (hk : K (a.put o.dst undef) w') : o.wp P a w K Q := by
  unfold Oper.wp
  rw [he]
  simp only [Sem.run_bind, hrun, Result.andThen_ok]
  exact hk

theorem pieces_get {X : Nat → Nat → Prop} {l : List (Nat × Operand)} (h : ∀ x : Operand, R w X β (rd t x) (a.eval x)) :
    ∀ (k : Nat) p q, (l.map fun p => (p.1, rd t p.2))[k]? = some p → (l.map fun p => (p.1, a.eval p.2))[k]? = some q → p.1 = q.1 ∧ R w X β p.2 q.2 := by
  intro k p q hp hq
  simp only [List.getElem?_map, Option.map_eq_some_iff] at hp hq
  obtain ⟨u, hu, rfl⟩ := hp
  obtain ⟨v, hv, rfl⟩ := hq
  rw [hu] at hv
  simp only [Option.some.injEq] at hv
  subst hv
  exact ⟨rfl, h u.2⟩

theorem holdO_run {H : List O} {v : Option V} {r : Res} (h : (holdO H v).run = some r) : ∃ u, v = some u ∧ r = .ok u H := by
  cases v with
  | none => cases h
  | some u => simp only [holdO, Tree.run, Option.some.injEq] at h; exact ⟨u, rfl, h.symm⟩

theorem bind_hold {H : List O} {x : Tree V} {r : Res} (h : (x.bind (hold H)).run = some r) : ∃ u, x.run = some u ∧ r = .ok u H := by
  obtain ⟨u, h1, h2⟩ := bind_run h
  simp only [hold, Tree.run, Option.some.injEq] at h2
  exact ⟨u, h1, h2.symm⟩

theorem bind_both {x : Tree (V × List O)} {r : Res} (h : (x.bind both).run = some r) : ∃ u H', x.run = some (u, H') ∧ r = .ok u H' := by
  obtain ⟨⟨u, H'⟩, h1, h2⟩ := bind_run h
  simp only [both, Tree.run, Option.some.injEq] at h2
  exact ⟨u, H', h1, h2.symm⟩

theorem optR_map {X : Nat → Nat → Prop} (h : ∀ x : Operand, R w X β (rd t x) (a.eval x)) (lo : Option Operand) : optR w X β (lo.map (rd t)) (lo.map a.eval) := by
  cases lo with
  | none => trivial
  | some x => exact h x

theorem sound_callM {P : Program} {cx : Cx} {f : Nat} {vs : List V} {xs : List Value} {res : Res} (hM : MTabOk P cx.mtab) (hE : ∀ b o, E b o → b < w.heap.size ∧ ¬ Own H β b o)
    (hR : Rel w (Xs E H β) H β) (hl : xs.length = vs.length) (hv : ∀ (k : Nat) (v : V) (x : Value), vs[k]? = some v → xs[k]? = some x → R w (Xs E H β) β v x)
    (h : (callM cx H f vs).run = some res) : Normal P f ∧ Calls P f xs.toArray w (Outcome E H β w res) := by
  unfold callM at h
  generalize reach H 64 (V.idss vs) [] = σ at h
  simp only at h
  split at h
  rotate_left
  · cases h
  rename_i os hos
  split at h
  rotate_left
  · cases h
  rename_i as Hs has hHs
  cases hd : noDup σ
  · simp [hd, Tree.run] at h
  simp only [hd, cond_true] at h
  obtain ⟨r, h1, h2⟩ := bind_run h
  obtain ⟨s, hs, hs'⟩ := lookM_spec h1
  obtain ⟨hnorm, hcalls⟩ := hM _ hs as Hs r hs'
  obtain ⟨hi, hturn⟩ := into hE hR hd hos hHs
  obtain ⟨q1, q2⟩ := rens_get has
  refine ⟨hnorm, ?_⟩
  have := hcalls w (Shut E H β Hs (pickL β σ)) (pickL β σ) xs hi.old hi.rel (by omega) (fun k v x h1 h2 => by
    obtain ⟨u, hu, hu'⟩ := q2 k v h1
    rw [hi.same]
    exact ren_R hturn (hv k u x hu h2) v hu')
  refine this.mono ?_
  intro e w' ho
  have back : ∀ v H2 k, (backRes H σ v H2 k).run = some res → ∃ v' H2', V.ren? (backTo σ H.length) v = some v' ∧ rensO (backTo σ H.length) H2 = some H2' ∧ σ.length ≤ H2.length ∧ res = k v' (setAll H σ H2') := by
    intro v H2 k hb
    unfold backRes at hb
    split at hb
    rotate_left
    · cases hb
    rename_i v' H2' e1 e2
    cases hle : Nat.ble σ.length H2'.length
    · simp [hle, Tree.run] at hb
    simp only [hle, cond_true, Tree.run, Option.some.injEq] at hb
    exact ⟨v', H2', e1, e2, by rw [← (rensO_get e2).1]; exact Nat.le_of_ble_eq_true hle, hb.symm⟩
  cases r with
  | ok v H2 =>
    obtain ⟨v', H2', e1, e2, e3, rfl⟩ := back v H2 _ h2
    obtain ⟨y, β2, he, st, hr⟩ := ho
    obtain ⟨s1, s2⟩ := back_out hE hR hd hi st e3 e2
    exact ⟨y, _, he, s1, s2 v v' y hr e1⟩
  | pan v H2 =>
    obtain ⟨v', H2', e1, e2, e3, rfl⟩ := back v H2 _ h2
    obtain ⟨y, β2, he, st, hr⟩ := ho
    obtain ⟨s1, s2⟩ := back_out hE hR hd hi st e3 e2
    exact ⟨y, _, he, s1, s2 v v' y hr e1⟩

theorem sound_call {P : Program} {c : Call} {fo : Operand} {res : Res} (_hP : P = cx.P) (hT : TabOk P cx.tab) (hM : MTabOk P cx.mtab) (hE : ∀ b o, E b o → b < w.heap.size ∧ ¬ Own H β b o) (hR : Rel w (Xs E H β) H β)
    (hF : FR w (Xs E H β) β n t a) (ho : o.op = .call c) (hc : c.callee = .value fo) (h : (oCall cx H (rd t fo) (c.args.toList.map (rd t))).run = some res) (hk : Then E H β w a o K Q res) : o.wp P a w K Q := by
  have hrd := fun x => rd_R hF x
  -- a call of f with such arguments
  have key : ∀ (f : Nat) (vs : List V) (xs : List Value), xs.length = vs.length → (∀ (k : Nat) (v : V) (x : Value), vs[k]? = some v → xs[k]? = some x → R w (Xs E H β) β v x) →
      (callF cx H f vs).run = some res → (∀ (q : Result Next), q = .ok (.enter f xs.toArray) w → o.upon P a K Q q) ∧ Normal P f := by
    intro f vs xs hl hv hcall
    unfold callF at hcall
    cases hkey : hasKey f cx.mtab
    rotate_left
    · simp only [hkey, cond_true] at hcall
      obtain ⟨m1, m2⟩ := sound_callM hM hE hR hl hv hcall
      refine ⟨fun q hq => ?_, m1⟩
      subst hq
      rw [Oper.upon_enter]
      refine m2.mono ?_
      intro e w' ho
      cases res with
      | ok v H' =>
        obtain ⟨y, β', rfl, st, hr⟩ := ho
        exact hk y w' β' st hr
      | pan v H' =>
        obtain ⟨y, β', rfl, st, hr⟩ := ho
        exact hk y w' β' st hr
    simp only [hkey, cond_false] at hcall
    split at hcall
    rotate_left
    · cases hcall
    rename_i as has
    obtain ⟨out, h1, h2⟩ := bind_run hcall
    simp only [Tree.run, Option.some.injEq] at h2
    subst h2
    obtain ⟨s, hs, hs'⟩ := look_spec h1
    obtain ⟨hnorm, hcalls⟩ := hT _ hs as out hs'
    obtain ⟨p1, p2⟩ := pures_get has
    refine ⟨fun q hq => ?_, hnorm⟩
    subst hq
    rw [Oper.upon_enter]
    have hEX : ∀ b o, Xs E H β b o → b < w.heap.size := fun b o h => by
      rcases h with h | h
      · exact (hE b o h).1
      · exact own_lt hR h
    have := hcalls w (Xs E H β) xs hEX (by omega) (fun k v x h1 h2 => by
      obtain ⟨u, hu, hp⟩ := p2 k v h1
      exact pure_R (hv k u x hu h2) v hp)
    intro cs
    obtain ⟨e, w', fr, ⟨y, he, st, hr⟩, rest⟩ := this cs
    obtain ⟨s1, s2⟩ := Step.of_pure hR st
    refine ⟨e, w', fr, ?_, rest⟩
    subst he
    exact hk y w' β s1 (s2 _ _ hr)
  have hargs : ∀ (k : Nat) (v : V) (x : Value), (c.args.toList.map (rd t))[k]? = some v → (c.args.toList.map a.eval)[k]? = some x → R w (Xs E H β) β v x := by
    intro k v x h1 h2
    simp only [List.getElem?_map, Option.map_eq_some_iff] at h1 h2
    obtain ⟨u, hu, rfl⟩ := h1
    obtain ⟨u', hu', rfl⟩ := h2
    rw [hu] at hu'
    simp only [Option.some.injEq] at hu'
    subst hu'
    exact hrd u
  have hmap : c.args.map a.eval = (c.args.toList.map a.eval).toArray := by apply Array.ext'; simp
  have enter : ∀ (f : Nat) (xs : List Value), Normal P f → (callFunc f xs.toArray).run P w = .ok (.enter f xs.toArray) w := by
    rintro f xs ⟨fn, h1, h2, h3⟩
    obtain ⟨b, hb⟩ := Option.isSome_iff_exists.1 h3
    simp [callFunc, h1, h2, hb]
  unfold oCall at h
  split at h
  · rename_i g first captured heq
    have hfo := hrd fo
    rw [heq] at hfo
    generalize hev : a.eval fo = fv at hfo
    cases hfo
    cases hb : (Nat.beq first.size 0 && Nat.beq captured.size 0)
    · simp [hb, Tree.run] at h
    simp only [hb, cond_true] at h
    obtain ⟨b1, b2⟩ := Bool.and_eq_true_iff.1 hb
    have b1 : first = #[] := Array.eq_empty_of_size_eq_zero (Nat.eq_of_beq_eq_true b1)
    have b2 : captured = #[] := Array.eq_empty_of_size_eq_zero (Nat.eq_of_beq_eq_true b2)
    subst b1
    subst b2
    obtain ⟨k1, k2⟩ := key g _ (c.args.toList.map a.eval) (by simp) hargs h
    unfold Oper.wp
    refine k1 _ ?_
    have := enter g (c.args.toList.map a.eval) k2
    rw [← hmap] at this ⊢
    simp only [execOp, ho, resolve, hc, hev, Deferred.ofValue, invoke, Sem.run_bind, Sem.run_pure, Result.andThen_ok, Array.empty_append, Array.append_empty]
    exact this
  · rename_i g first captured heq
    have hfo := hrd fo
    rw [heq] at hfo
    generalize hev : a.eval fo = fv at hfo
    cases hfo with
    | clo _ _ _ _ xs ys hl hm h1 h2 =>
      obtain ⟨k1, k2⟩ := key g _ (xs ++ c.args.toList.map a.eval ++ ys) (by simp [hl, hm]) (by
        intro k v x hv hx
        by_cases hk1 : k < first.length
        · rw [List.append_assoc, List.getElem?_append_left hk1] at hv
          rw [List.append_assoc, List.getElem?_append_left (by omega)] at hx
          exact h1 k v x hv hx
        · rw [List.append_assoc, List.getElem?_append_right (by omega)] at hv
          rw [List.append_assoc, List.getElem?_append_right (by omega), hl] at hx
          by_cases hk2 : k - first.length < c.args.toList.length
          · rw [List.getElem?_append_left (by simpa using hk2)] at hv hx
            exact hargs _ v x hv hx
          · rw [List.getElem?_append_right (by simpa using hk2)] at hv hx
            simp only [List.length_map] at hv hx
            exact h2 _ v x hv hx) h
      unfold Oper.wp
      refine k1 _ ?_
      have := enter g (xs ++ c.args.toList.map a.eval ++ ys) k2
      have e : (xs ++ c.args.toList.map a.eval ++ ys).toArray = xs.toArray ++ c.args.map a.eval ++ ys.toArray := by rw [hmap]; simp
      rw [e] at this ⊢
      simp only [execOp, ho, resolve, hc, hev, Deferred.ofValue, invoke, Sem.run_bind, Sem.run_pure, Result.andThen_ok]
      exact this
  · cases h

end
end Go.Ab
