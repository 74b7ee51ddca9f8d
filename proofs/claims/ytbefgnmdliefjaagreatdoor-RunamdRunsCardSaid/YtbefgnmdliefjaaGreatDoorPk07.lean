/-
  The engine, part P: one operation is sound. Conditions: none.
-/
import Derived.Test.YtbefgnmdliefjaaGreatDoorPk06
set_option linter.unusedVariables false
set_option linter.unusedSimpArgs false
namespace Go.Ab
def Sound (P : Program) (f : Nat) (s : Spec) : Prop := ∀ args out, (s args).run = some out → PCall P f args out
def XCall (P : Program) (f : Nat) (args : List V) (out : V) : Prop :=
  ∀ (w : World) (X : Nat → Nat → Prop) (β : List Loc) (rargs : List Value), rargs.length = args.length →
    (∀ (k : Nat) (v : V) (x : Value), args[k]? = some v → rargs[k]? = some x → R w X β v x) → ∃ y, (callFunc f rargs.toArray).run P w = .ok (.value y) w ∧ R w X β out y
def XSound (P : Program) (f : Nat) (s : Spec) : Prop := ∀ args out, (s args).run = some out → XCall P f args out
def TabOk (P : Program) (tab : List (Nat × Spec)) : Prop := ∀ p ∈ tab, Sound P p.1 p.2 ∨ XSound P p.1 p.2
theorem TabOk.nil (P : Program) : TabOk P [] := fun p h => by cases h
theorem TabOk.cons {P : Program} {f : Nat} {s : Spec} {tab : List (Nat × Spec)} (h : Sound P f s) (ht : TabOk P tab) : TabOk P ((f, s) :: tab) := by
  intro p hp
  rcases List.mem_cons.1 hp with rfl | hp
  · exact .inl h
  · exact ht p hp
theorem TabOk.consX {P : Program} {f : Nat} {s : Spec} {tab : List (Nat × Spec)} (h : XSound P f s) (ht : TabOk P tab) : TabOk P ((f, s) :: tab) := by
  intro p hp
  rcases List.mem_cons.1 hp with rfl | hp
  · exact .inr h
  · exact ht p hp
def CxOk (cx : Cx) : Prop := TabOk cx.P cx.tab ∧ MTabOk cx.P cx.mtab ∧ RTabOk cx.P cx.rtab ∧ ∀ p ∈ cx.globs, p ∈ globsOf cx.P
theorem look_spec {f : Nat} {args : List V} {out : V} : ∀ {tab : List (Nat × Spec)}, (look f tab args).run = some out → ∃ s, (f, s) ∈ tab ∧ (s args).run = some out
  | [], h => by cases h
  | (g, s) :: r, h => by
    unfold look at h
    cases hb : Nat.beq f g
    · simp only [hb, cond_false] at h
      obtain ⟨s', h1, h2⟩ := look_spec h
      exact ⟨s', List.mem_cons_of_mem _ h1, h2⟩
    · simp only [hb, cond_true] at h
      have := Nat.eq_of_beq_eq_true hb
      subst this
      exact ⟨s, List.mem_cons_self, h⟩
section
variable {E : Nat → Nat → Prop} {H : List O} {β : List Loc} {w : World}
theorem own_nil (b o : Nat) : ¬ Own [] [] b o := by
  rintro ⟨id, l, h, _⟩
  simp at h
theorem rel_nil (w : World) (X : Nat → Nat → Prop) : Rel w X [] [] :=
  ⟨rfl, fun id cs e loc h => by simp at h, fun id n sz loc h => by simp at h, fun id sh vs loc h => by simp at h, fun i j l l' hi => by obtain ⟨o, h, _⟩ := hi; simp at h⟩
theorem Step.of_pure {w' : World} (hR : Rel w (Xs E H β) H β) (s : Step (Xs E H β) [] [] w [] [] w') : Step E H β w H β w' ∧ ∀ v y, R w' (Xs E H β) [] v y → R w' (Xs E H β) β v y := by
  have hold : ∀ b, b < w.heap.size → w'.heap[b]? = w.heap[b]? := fun b hb => by
    rcases s.pres b hb with h | ⟨⟨o, h⟩, _⟩ | ⟨⟨o, h⟩, _⟩
    · exact h
    · exact absurd h (own_nil b o)
    · exact absurd h (own_nil b o)
  have st : Stab w (Xs E H β) w' (Xs E H β) :=
    ⟨fun b o v hx hv => ⟨hx, (cell_heap (hold b (cell_lt hv)) o).trans hv⟩, fun b cs e h => ⟨cs, e, by rw [hold b (heap_lt h)]; exact h⟩⟩
  refine ⟨⟨⟨hR.len, fun id cs e loc g1 g2 => ?_, fun id n sz loc g1 g2 => ?_, fun id sh vs loc g1 g2 => ?_, hR.disj⟩, s.os, s.tape, s.output, s.size, fun b hb => .inl (hold b hb), fun b o h => .inl h, .refl _⟩, fun v y h => h.up β⟩
  · obtain ⟨k, c, e', a1, a2, a3, a4⟩ := hR.cells id cs e loc g1 g2
    exact ⟨k, c, e', by rw [hold _ (heap_lt a1)]; exact a1, a2, a3, fun k v hv => let ⟨x, hx, hr⟩ := a4 k v hv; ⟨x, hx, hr.stab st _ (.refl _)⟩⟩
  · obtain ⟨k, m, c, e', a1, a2⟩ := hR.tok id n sz loc g1 g2
    exact ⟨k, m, c, e', by rw [hold _ (heap_lt a1)]; exact a1, a2⟩
  · obtain ⟨k, kb, ob, xs, a1, a2, a3⟩ := hR.objs id sh vs loc g1 g2
    exact ⟨k, kb, ob, xs, by rw [hold _ (heap_lt a1)]; exact a1, a2, fun k v hv => let ⟨x, hx, hr⟩ := a3 k v hv; ⟨x, hx, hr.stab st _ (.refl _)⟩⟩
variable {n : Nat} {t : T} {a : Act} {o : Oper} {cx : Cx} {K : Act → World → Prop} {Q : Exit → Act → World → Prop}
def Then (E : Nat → Nat → Prop) (H : List O) (β : List Loc) (w : World) (a : Act) (o : Oper) (K : Act → World → Prop) (Q : Exit → Act → World → Prop) : Res → Prop
  | .ok v H' => ∀ x w' β', Step E H β w H' β' w' → R w' (Xs E H' β') β' v x → K (a.put o.dst x) w'
  | .pan v H' => ∀ x w' β', Step E H β w H' β' w' → R w' (Xs E H' β') β' v x → Q (.panic [{ v := x, recovered := false }]) a w'
theorem wp_sem {P : Program} {s : Sem Value} {x : Value} {w' : World} (he : execOp a.eval o = (do pure (Next.value (← s)))) (hrun : s.run P w = .ok x w') (hk : K (a.put o.dst x) w') : o.wp P a w K Q := by
  unfold Oper.wp
  rw [he]
  simp only [Sem.run_bind, hrun, Result.andThen_ok]
  exact hk
theorem wp_unit {P : Program} {s : Sem Unit} {w' : World} (he : execOp a.eval o = (do s; pure Next.skip)) (hrun : s.run P w = .ok () w') (hk : K (a.put o.dst undef) w') : o.wp P a w K Q := by
  unfold Oper.wp
  rw [he]
  simp only [Sem.run_bind, hrun, Result.andThen_ok]
  exact hk
theorem pieces_get {X : Nat → Nat → Prop} {l : List (Nat × Operand)} (h : ∀ x : Operand, R w X β (rd t x) (a.eval x)) :
    ∀ (k : Nat) p q, (l.map fun p => (p.1, rd t p.2))[k]? = some p → (l.map fun p => (p.1, a.eval p.2))[k]? = some q → p.1 = q.1 ∧ R w X β p.2 q.2 := by
  intro k p q hp hq
  simp only [List.getElem?_map, Option.map_eq_some_iff] at hp hq
  obtain ⟨u, hu, rfl⟩ := hp
  obtain ⟨v, hv, rfl⟩ := hq
  rw [hu] at hv
  simp only [Option.some.injEq] at hv
  subst hv
  exact ⟨rfl, h u.2⟩
theorem holdO_run {H : List O} {v : Option V} {r : Res} (h : (holdO H v).run = some r) : ∃ u, v = some u ∧ r = .ok u H := by
  cases v with
  | none => cases h
  | some u => simp only [holdO, Tree.run, Option.some.injEq] at h; exact ⟨u, rfl, h.symm⟩
theorem bind_hold {H : List O} {x : Tree V} {r : Res} (h : (x.bind (hold H)).run = some r) : ∃ u, x.run = some u ∧ r = .ok u H := by
  obtain ⟨u, h1, h2⟩ := bind_run h
  simp only [hold, Tree.run, Option.some.injEq] at h2
  exact ⟨u, h1, h2.symm⟩
theorem bind_both {x : Tree (V × List O)} {r : Res} (h : (x.bind both).run = some r) : ∃ u H', x.run = some (u, H') ∧ r = .ok u H' := by
  obtain ⟨⟨u, H'⟩, h1, h2⟩ := bind_run h
  simp only [both, Tree.run, Option.some.injEq] at h2
  exact ⟨u, H', h1, h2.symm⟩
theorem convT_run {P : Program} {H : List O} {src dst : TypeId} {x v : V} (h : (oConvertT P H src dst x).run = some v) : oConvert P H src dst x = some v := by
  unfold oConvertT at h
  split at h
  · rename_i k l b hp
    split at h
    rotate_left
    · cases h
    rename_i e hs hd
    split at h
    rotate_left
    · cases h
    rename_i he
    cases hk : decide (k = IntKind.u8)
    · rw [hk] at h; cases h
    rw [hk, cond_true] at h
    have hk := of_decide_eq_true hk
    subst hk
    unfold pageRef at hp
    split at hp
    rotate_left
    · cases hp
    rename_i id s off len
    split at hp
    rotate_left
    · cases hp
    rename_i n k2 l2 vs hH
    simp only [Option.some.injEq, Prod.mk.injEq] at hp
    obtain ⟨rfl, rfl, rfl⟩ := hp
    have hb : (Nat.beq s 1 && (Nat.ble n off && Nat.ble (off - n + len) l2.length)) = true := by
      cases hb : (Nat.beq s 1 && (Nat.ble n off && Nat.ble (off - n + len) l2.length))
      · rw [hb] at h; cases h
      · rfl
    rw [hb] at h
    simp only [Tree.req, Tree.run, cond_true, Option.some.injEq] at h
    subst h
    have e1 : elemsOf (.int .u8) H (.ref id s off len) = some ((l2.drop (off - n)).take len) := by
      simp only [elemsOf, hH, hb, cond_true]
      rfl
    unfold oConvert
    rw [hs, hd]
    simp only [he]
    exact congrArg (Option.map fun l => V.str (List.map (fun (n : Int) => UInt8.ofNat n.toNat) l)) e1
  · cases hc : oConvert P H src dst x with
    | none => rw [hc] at h; cases h
    | some u => rw [hc] at h; exact h
theorem optR_map {X : Nat → Nat → Prop} (h : ∀ x : Operand, R w X β (rd t x) (a.eval x)) (lo : Option Operand) : optR w X β (lo.map (rd t)) (lo.map a.eval) := by
  cases lo with
  | none => trivial
  | some x => exact h x
theorem sound_callM0 {P : Program} {cx : Cx} {f : Nat} {vs : List V} {xs : List Value} {res : Res} (hM : MTabOk P cx.mtab) (hE : StartOk P E H β w)
    (hR : Rel w (Xs E H β) H β) (hl : xs.length = vs.length) (hv : ∀ (k : Nat) (v : V) (x : Value), vs[k]? = some v → xs[k]? = some x → R w (Xs E H β) β v x)
    (h : (callM0 cx H f vs).run = some res) : Normal P f ∧ Calls P f xs.toArray w (Outcome E H β w res) := by
  unfold callM0 at h
  generalize reach H 64 (V.idss vs) [] = σ at h
  simp only at h
  split at h
  rotate_left
  · cases h
  rename_i os hos
  split at h
  rotate_left
  · cases h
  rename_i as Hs has hHs
  cases hd : noDup σ
  · simp [hd, Tree.run] at h
  simp only [hd, cond_true] at h
  obtain ⟨r, h1, h2⟩ := bind_run h
  obtain ⟨s, hs, hs'⟩ := lookM_spec h1
  obtain ⟨hnorm, hcalls⟩ := hM _ hs as Hs r hs'
  obtain ⟨hi, hturn⟩ := into hE.1 hR hd hos hHs
  obtain ⟨q1, q2⟩ := rens_get has
  refine ⟨hnorm, ?_⟩
  have := hcalls w (Shut E H β Hs (pickL β σ)) (pickL β σ) xs ⟨hi.old, by rw [hi.same]; exact hE.2⟩ hi.rel (by omega) (fun k v x h1 h2 => by
    obtain ⟨u, hu, hu'⟩ := q2 k v h1
    rw [hi.same]
    exact ren_R hturn (hv k u x hu h2) v hu')
  refine this.mono ?_
  intro e w' ho
  have back : ∀ v H2 k, (backRes H σ v H2 k).run = some res → ∃ v' H2', V.ren? (backTo σ H.length) v = some v' ∧ rensO (backTo σ H.length) H2 = some H2' ∧ σ.length ≤ H2.length ∧ res = k v' (setAll H σ H2') := by
    intro v H2 k hb
    unfold backRes at hb
    split at hb
    rotate_left
    · cases hb
    rename_i v' H2' e1 e2
    cases hle : Nat.ble σ.length H2'.length
    · simp [hle, Tree.run] at hb
    simp only [hle, cond_true, Tree.run, Option.some.injEq] at hb
    exact ⟨v', H2', e1, e2, by rw [← (rensO_get e2).1]; exact Nat.le_of_ble_eq_true hle, hb.symm⟩
  cases r with
  | ok v H2 =>
    obtain ⟨v', H2', e1, e2, e3, rfl⟩ := back v H2 _ h2
    obtain ⟨y, β2, he, st, hr⟩ := ho
    obtain ⟨s1, s2⟩ := back_out hE.1 hR hd hi st e3 e2
    exact ⟨y, _, he, s1, s2 v v' y hr e1⟩
  | pan v H2 =>
    obtain ⟨v', H2', e1, e2, e3, rfl⟩ := back v H2 _ h2
    obtain ⟨y, β2, he, st, hr⟩ := ho
    obtain ⟨s1, s2⟩ := back_out hE.1 hR hd hi st e3 e2
    exact ⟨y, _, he, s1, s2 v v' y hr e1⟩
mutual
theorem ren_back {ρ τ : Nat → Option Nat} (h : ∀ i j, ρ i = some j → τ j = some i) : ∀ (v u : V), V.ren? ρ v = some u → V.ren? τ u = some v
  | .int _ _, u, e => by simp only [V.ren?, Option.some.injEq] at e; subst e; rfl
  | .bool _, u, e => by simp only [V.ren?, Option.some.injEq] at e; subst e; rfl
  | .str _, u, e => by simp only [V.ren?, Option.some.injEq] at e; subst e; rfl
  | .val _, u, e => by simp only [V.ren?, Option.some.injEq] at e; subst e; rfl
  | .pin _, u, e => by simp only [V.ren?, Option.some.injEq] at e; subst e; rfl
  | .sl _ _ _ _, u, e => by simp only [V.ren?, Option.some.injEq] at e; subst e; rfl
  | .any, u, e => by simp only [V.ren?, Option.some.injEq] at e; subst e; rfl
  | .rng _ _ _, u, e => by simp only [V.ren?, Option.some.injEq] at e; subst e; rfl
  | .gro id c l, u, e => by
    unfold V.ren? at e
    split at e
    · rename_i j hj; simp only [Option.some.injEq] at e; subst e; unfold V.ren?; rw [h _ _ hj]
    · cases e
  | .ptr id off, u, e => by
    unfold V.ren? at e
    split at e
    · rename_i j hj; simp only [Option.some.injEq] at e; subst e; unfold V.ren?; rw [h _ _ hj]
    · cases e
  | .ref id sz off len, u, e => by
    unfold V.ren? at e
    split at e
    · rename_i j hj; simp only [Option.some.injEq] at e; subst e; unfold V.ren?; rw [h _ _ hj]
    · cases e
  | .mp id, u, e => by
    unfold V.ren? at e
    split at e
    · rename_i j hj; simp only [Option.some.injEq] at e; subst e; unfold V.ren?; rw [h _ _ hj]
    · cases e
  | .agg cs, u, e => by
    unfold V.ren? at e
    split at e
    · rename_i ds hd; simp only [Option.some.injEq] at e; subst e; unfold V.ren?; rw [rens_back h cs ds hd]
    · cases e
  | .tup cs, u, e => by
    unfold V.ren? at e
    split at e
    · rename_i ds hd; simp only [Option.some.injEq] at e; subst e; unfold V.ren?; rw [rens_back h cs ds hd]
    · cases e
  | .ifc t v, u, e => by
    unfold V.ren? at e
    split at e
    · rename_i d hd; simp only [Option.some.injEq] at e; subst e; unfold V.ren?; rw [ren_back h v d hd]
    · cases e
  | .clo g a b, u, e => by
    unfold V.ren? at e
    split at e
    · rename_i d f hd hf; simp only [Option.some.injEq] at e; subst e; unfold V.ren?; rw [rens_back h a d hd, rens_back h b f hf]
    · cases e
theorem rens_back {ρ τ : Nat → Option Nat} (h : ∀ i j, ρ i = some j → τ j = some i) : ∀ (l m : List V), V.rens? ρ l = some m → V.rens? τ m = some l
  | [], m, e => by simp only [V.rens?, Option.some.injEq] at e; subst e; rfl
  | v :: r, m, e => by
    unfold V.rens? at e
    split at e
    · rename_i d f hd hf; simp only [Option.some.injEq] at e; subst e; unfold V.rens?; rw [ren_back h v d hd, rens_back h r f hf]
    · cases e
end
mutual
theorem ren_le {ρ τ : Nat → Option Nat} (h : ∀ i j, ρ i = some j → τ i = some j) : ∀ (v u : V), V.ren? ρ v = some u → V.ren? τ v = some u
  | .int _ _, u, e => by simp only [V.ren?, Option.some.injEq] at e; subst e; rfl
  | .bool _, u, e => by simp only [V.ren?, Option.some.injEq] at e; subst e; rfl
  | .str _, u, e => by simp only [V.ren?, Option.some.injEq] at e; subst e; rfl
  | .val _, u, e => by simp only [V.ren?, Option.some.injEq] at e; subst e; rfl
  | .pin _, u, e => by simp only [V.ren?, Option.some.injEq] at e; subst e; rfl
  | .sl _ _ _ _, u, e => by simp only [V.ren?, Option.some.injEq] at e; subst e; rfl
  | .any, u, e => by simp only [V.ren?, Option.some.injEq] at e; subst e; rfl
  | .rng _ _ _, u, e => by simp only [V.ren?, Option.some.injEq] at e; subst e; rfl
  | .gro id c l, u, e => by
    unfold V.ren? at e
    split at e
    · rename_i j hj; simp only [Option.some.injEq] at e; subst e; unfold V.ren?; rw [h _ _ hj]
    · cases e
  | .ptr id off, u, e => by
    unfold V.ren? at e
    split at e
    · rename_i j hj; simp only [Option.some.injEq] at e; subst e; unfold V.ren?; rw [h _ _ hj]
    · cases e
  | .ref id sz off len, u, e => by
    unfold V.ren? at e
    split at e
    · rename_i j hj; simp only [Option.some.injEq] at e; subst e; unfold V.ren?; rw [h _ _ hj]
    · cases e
  | .mp id, u, e => by
    unfold V.ren? at e
    split at e
    · rename_i j hj; simp only [Option.some.injEq] at e; subst e; unfold V.ren?; rw [h _ _ hj]
    · cases e
  | .agg cs, u, e => by
    unfold V.ren? at e
    split at e
    · rename_i ds hd; simp only [Option.some.injEq] at e; subst e; unfold V.ren?; rw [rens_le h cs ds hd]
    · cases e
  | .tup cs, u, e => by
    unfold V.ren? at e
    split at e
    · rename_i ds hd; simp only [Option.some.injEq] at e; subst e; unfold V.ren?; rw [rens_le h cs ds hd]
    · cases e
  | .ifc t v, u, e => by
    unfold V.ren? at e
    split at e
    · rename_i d hd; simp only [Option.some.injEq] at e; subst e; unfold V.ren?; rw [ren_le h v d hd]
    · cases e
  | .clo g a b, u, e => by
    unfold V.ren? at e
    split at e
    · rename_i d f hd hf; simp only [Option.some.injEq] at e; subst e; unfold V.ren?; rw [rens_le h a d hd, rens_le h b f hf]
    · cases e
theorem rens_le {ρ τ : Nat → Option Nat} (h : ∀ i j, ρ i = some j → τ i = some j) : ∀ (l m : List V), V.rens? ρ l = some m → V.rens? τ l = some m
  | [], m, e => by simp only [V.rens?, Option.some.injEq] at e; subst e; rfl
  | v :: r, m, e => by
    unfold V.rens? at e
    split at e
    · rename_i d f hd hf; simp only [Option.some.injEq] at e; subst e; unfold V.rens?; rw [ren_le h v d hd, rens_le h r f hf]
    · cases e
end
theorem oren_le {ρ τ : Nat → Option Nat} (h : ∀ i j, ρ i = some j → τ i = some j) (o u : O) (e : O.ren? ρ o = some u) : O.ren? τ o = some u := by
  cases o with
  | cells cs t =>
    simp only [O.ren?] at e ⊢
    cases hc : V.rens? ρ cs with
    | none => rw [hc] at e; cases e
    | some ds =>
      rw [hc] at e
      rw [rens_le h _ _ hc]
      exact e
  | tok n sz => exact e
  | obj sh vs =>
    simp only [O.ren?] at e ⊢
    cases hc : V.rens? ρ vs with
    | none => rw [hc] at e; cases e
    | some ds =>
      rw [hc] at e
      rw [rens_le h _ _ hc]
      exact e
  | dead => exact e
theorem rensO_le {ρ τ : Nat → Option Nat} (h : ∀ i j, ρ i = some j → τ i = some j) : ∀ (l m : List O), rensO ρ l = some m → rensO τ l = some m
  | [], _, e => e
  | o :: r, m, e => by
    unfold rensO at e ⊢
    cases h1 : O.ren? ρ o with
    | none => rw [h1] at e; cases e
    | some u =>
      cases h2 : rensO ρ r with
      | none => rw [h1, h2] at e; cases e
      | some us =>
        rw [h1, h2] at e
        rw [oren_le h _ _ h1, rensO_le h _ _ h2]
        exact e
theorem bind_again {α γ : Type} {x : Tree α} {f g : α → Tree γ} {c : γ} (h : (x.bind f).run = some c) (hfg : ∀ a, (f a).run = some c → (g a).run = some c) : (x.bind g).run = some c := by
  induction x with
  | leaf b => exact hfg b h
  | fail => cases h
  | br cd x y ihx ihy =>
    cases cd
    · exact ihy h
    · exact ihx h
theorem backS_spec {H : List O} {σ : List Nat} {u r : Res} (h : (backS H σ u).run = some r) : ∃ (v : V) (H2 : List O) (v1 : V) (H3 : List O), u = .ok v H2 ∧ V.ren? (fun j => σ[j]?) v = some v1 ∧ rensO (fun j => σ[j]?) H2 = some H3 ∧ σ.length = H3.length ∧ r = .ok v1 (setAll H σ H3) := by
  cases u with
  | pan v H2 => cases h
  | ok v H2 =>
    simp only [backS] at h
    cases e1 : V.ren? (fun j => σ[j]?) v with
    | none => rw [e1] at h; cases h
    | some v1 =>
    cases e2 : rensO (fun j => σ[j]?) H2 with
    | none => rw [e1, e2] at h; cases h
    | some H3 =>
    rw [e1, e2] at h
    simp only at h
    cases hb : Nat.beq σ.length H3.length
    · rw [hb] at h; cases h
    rw [hb] at h
    simp only [cond_true, Tree.run, Option.some.injEq] at h
    exact ⟨v, H2, v1, H3, rfl, e1, e2, Nat.eq_of_beq_eq_true hb, h.symm⟩
theorem callM_0 {cx : Cx} {H : List O} {f : Nat} {vs : List V} {res : Res} (h : (callM cx H f vs).run = some res) : (callM0 cx H f vs).run = some res := by
  unfold callM at h
  cases hs : hasN f cx.still
  · rw [hs] at h; exact h
  rw [hs, cond_true] at h
  unfold callS at h
  unfold callM0
  simp only at h ⊢
  split at h
  rotate_left
  · cases h
  split at h
  rotate_left
  · cases h
  cases hd : noDup (reach H 64 (V.idss vs) [])
  · rw [hd] at h; cases h
  rw [hd, cond_true] at h
  rw [cond_true]
  refine bind_again h fun u hu => ?_
  obtain ⟨v, H2, v', H2', rfl, e1, e2, e3, rfl⟩ := backS_spec hu
  have le : ∀ i j, (reach H 64 (V.idss vs) [])[i]? = some j → backTo (reach H 64 (V.idss vs) []) H.length i = some j := fun i j hij => by
    unfold backTo
    rw [hij]
  show (backRes H (reach H 64 (V.idss vs) []) v H2 .ok).run = _
  unfold backRes
  rw [ren_le le _ _ e1, rensO_le le _ _ e2]
  simp only
  rw [e3, Nat.ble_eq_true_of_le (Nat.le_refl _)]
  rfl
theorem sound_callM {P : Program} {cx : Cx} {f : Nat} {vs : List V} {xs : List Value} {res : Res} (hM : MTabOk P cx.mtab) (hE : StartOk P E H β w)
    (hR : Rel w (Xs E H β) H β) (hl : xs.length = vs.length) (hv : ∀ (k : Nat) (v : V) (x : Value), vs[k]? = some v → xs[k]? = some x → R w (Xs E H β) β v x)
    (h : (callM cx H f vs).run = some res) : Normal P f ∧ Calls P f xs.toArray w (Outcome E H β w res) := sound_callM0 hM hE hR hl hv (callM_0 h)
theorem oren_back {ρ τ : Nat → Option Nat} (h : ∀ i j, ρ i = some j → τ j = some i) (o u : O) (e : O.ren? ρ o = some u) : O.ren? τ u = some o := by
  cases o with
  | cells cs t =>
    unfold O.ren? at e
    simp only at e
    split at e
    · rename_i ds hd; simp only [Option.some.injEq] at e; subst e; unfold O.ren?; simp only; rw [rens_back h cs ds hd]
    · cases e
  | tok n sz => simp only [O.ren?, Option.some.injEq] at e; subst e; rfl
  | obj sh vs =>
    unfold O.ren? at e
    simp only at e
    split at e
    · rename_i ds hd; simp only [Option.some.injEq] at e; subst e; unfold O.ren?; simp only; rw [rens_back h vs ds hd]
    · cases e
  | dead => simp only [O.ren?, Option.some.injEq] at e; subst e; rfl
theorem rensO_back {ρ τ : Nat → Option Nat} (h : ∀ i j, ρ i = some j → τ j = some i) : ∀ (l m : List O), rensO ρ l = some m → rensO τ m = some l
  | [], m, e => by simp only [rensO, Option.some.injEq] at e; subst e; rfl
  | v :: r, m, e => by
    unfold rensO at e
    split at e
    · rename_i d f hd hf; simp only [Option.some.injEq] at e; subst e; unfold rensO; rw [oren_back h v d hd, rensO_back h r f hf]
    · cases e
theorem setAll_same : ∀ (σ : List Nat) (H os : List O), pickO H σ = some os → setAll H σ os = H
  | [], H, os, e => by simp only [pickO, Option.some.injEq] at e; subst e; simp [setAll]
  | i :: σ, H, os, e => by
    unfold pickO at e
    split at e
    · rename_i o r h1 h2
      simp only [Option.some.injEq] at e
      subst e
      have hset : H.set i o = H := by
        apply List.ext_getElem?
        intro j
        rw [List.getElem?_set]
        split
        · rename_i hj; subst hj; split
          · exact h1.symm
          · rename_i hlt; rw [List.getElem?_eq_none (by omega)]
        · rfl
      unfold setAll
      rw [hset]
      exact setAll_same σ H r h2
    · cases e
theorem numO_run {cx : Cx} {f : Nat} {v : V} {H : List O} {r : Res} (h : (numO cx f v H).run = some r) : r = .ok v H ∧ ∀ H', (numO cx f v H').run = some (.ok v H') := by
  unfold numO at h ⊢
  cases hc : (hasN f cx.nums && !V.isInt v)
  · rw [hc] at h
    cases h
    exact ⟨rfl, fun _ => rfl⟩
  · rw [hc] at h
    cases h
theorem numO_ids {cx : Cx} {f : Nat} {v : V} {H : List O} {r : Res} (h : (numO cx f v H).run = some r) (hf : hasN f cx.nums = true) : V.ids v = [] := by
  unfold numO at h
  rw [hf, Bool.true_and] at h
  cases v with
  | int k n => rfl
  | _ => cases h
theorem sound_callR {P : Program} {cx : Cx} {f : Nat} {vs : List V} {xs : List Value} {res : Res} (hM : RTabOk P cx.rtab) (hE : StartOk P E H β w)
    (hR : Rel w (Xs E H β) H β) (hl : xs.length = vs.length) (hv : ∀ (k : Nat) (v : V) (x : Value), vs[k]? = some v → xs[k]? = some x → R w (Xs E H β) β v x)
    (h : (callR cx H f vs).run = some res) : Normal P f ∧ Calls P f xs.toArray w (Outcome E H β w res) := by
  unfold callR at h
  generalize reach H 64 (V.idss vs) [] = σ at h
  simp only at h
  split at h
  rotate_left
  · cases h
  rename_i os hos
  split at h
  rotate_left
  · cases h
  rename_i as Hs has hHs
  cases hd : noDup σ
  · simp [hd, Tree.run] at h
  simp only [hd, cond_true] at h
  obtain ⟨v, h1, h2⟩ := bind_run h
  obtain ⟨s, hs, hs'⟩ := lookR_spec h1
  obtain ⟨hnorm, hcalls⟩ := hM _ hs as Hs v hs'
  obtain ⟨hi, hturn⟩ := into hE.1 hR hd hos hHs
  obtain ⟨q1, q2⟩ := rens_get has
  refine ⟨hnorm, ?_⟩
  have := hcalls w (Shut E H β Hs (pickL β σ)) (pickL β σ) xs ⟨hi.old, by rw [hi.same]; exact hE.2⟩ hi.rel (by omega) (fun k v x h1 h2 => by
    obtain ⟨u, hu, hu'⟩ := q2 k v h1
    rw [hi.same]
    exact ren_R hturn (hv k u x hu h2) v hu')
  refine this.mono ?_
  intro e w' ho
  split at h2
  rotate_left
  · cases h2
  rename_i v' e1
  obtain ⟨rfl, _⟩ := numO_run h2
  obtain ⟨y, β2, he, st, hr⟩ := ho
  have hτ : ∀ i j, (fun i => place i σ) i = some j → backTo σ H.length j = some i := fun i j hij => by
    unfold backTo
    rw [place_some hij]
  have e2 := rensO_back (τ := backTo σ H.length) hτ os Hs hHs
  have e3 : σ.length ≤ Hs.length := by rw [hi.lens.2]; exact Nat.le_refl _
  obtain ⟨s1, s2⟩ := back_out hE.1 hR hd hi st e3 e2
  have hset := setAll_same σ H os hos
  rw [hset] at s1 s2
  exact ⟨y, _, he, s1, s2 v v' y hr (ren_le (fun a b hab => by unfold backTo; rw [hab]) v v' e1)⟩
theorem sound_call {P : Program} {c : Call} {fo : Operand} {res : Res} (_hP : P = cx.P) (hT : TabOk P cx.tab) (hM : MTabOk P cx.mtab) (hRt : RTabOk P cx.rtab) (hE : StartOk P E H β w) (hR : Rel w (Xs E H β) H β)
    (hF : FR w (Xs E H β) β n t a) (ho : o.op = .call c) (hc : c.callee = .value fo) (h : (oCall cx H (rd t fo) (c.args.toList.map (rd t))).run = some res) (hk : Then E H β w a o K Q res) : o.wp P a w K Q := by
  have hrd := fun x => rd_R hF x
  have enter : ∀ (f : Nat) (xs : List Value), Normal P f → (callFunc f xs.toArray).run P w = .ok (.enter f xs.toArray) w := by
    rintro f xs ⟨fn, h1, h2, h3⟩
    obtain ⟨b, hb⟩ := Option.isSome_iff_exists.1 h3
    simp [callFunc, h1, h2, hb]
  have key : ∀ (f : Nat) (vs : List V) (xs : List Value), xs.length = vs.length → (∀ (k : Nat) (v : V) (x : Value), vs[k]? = some v → xs[k]? = some x → R w (Xs E H β) β v x) →
      (callF cx H f vs).run = some res → ∃ q : Result Next, (callFunc f xs.toArray).run P w = q ∧ o.upon P a K Q q := by
    intro f vs xs hl hv hcall
    unfold callF at hcall
    cases hkey : hasKey f cx.mtab
    rotate_left
    · simp only [hkey, cond_true] at hcall
      obtain ⟨m1, m2⟩ := sound_callM hM hE hR hl hv hcall
      refine ⟨_, enter f xs m1, ?_⟩
      rw [Oper.upon_enter]
      refine m2.mono ?_
      intro e w' ho
      cases res with
      | ok v H' =>
        obtain ⟨y, β', rfl, st, hr⟩ := ho
        exact hk y w' β' st hr
      | pan v H' =>
        obtain ⟨y, β', rfl, st, hr⟩ := ho
        exact hk y w' β' st hr
    simp only [hkey, cond_false] at hcall
    cases hkr : hasKey f cx.rtab
    rotate_left
    · simp only [hkr, cond_true] at hcall
      obtain ⟨m1, m2⟩ := sound_callR hRt hE hR hl hv hcall
      refine ⟨_, enter f xs m1, ?_⟩
      rw [Oper.upon_enter]
      refine m2.mono ?_
      intro e w' ho
      cases res with
      | ok v H' =>
        obtain ⟨y, β', rfl, st, hr⟩ := ho
        exact hk y w' β' st hr
      | pan v H' =>
        obtain ⟨y, β', rfl, st, hr⟩ := ho
        exact hk y w' β' st hr
    simp only [hkr, cond_false] at hcall
    unfold callP at hcall
    split at hcall
    rotate_left
    · cases hcall
    rename_i as has
    obtain ⟨out, h1, h2⟩ := bind_run hcall
    simp only [Tree.run, Option.some.injEq] at h2
    subst h2
    obtain ⟨s, hs, hs'⟩ := look_spec h1
    obtain ⟨p1, p2⟩ := pures_get has
    rcases hT _ hs with hsnd | hsnd
    rotate_left
    · obtain ⟨y, hy, hr⟩ := hsnd as out hs' w (Xs E H β) [] xs (by omega) (fun k v x h1 h2 => by
        obtain ⟨u, hu, hp⟩ := p2 k v h1
        exact pure_R (hv k u x hu h2) v hp)
      refine ⟨_, hy, ?_⟩
      rw [Oper.upon_value]
      exact hk y w β (Step.refl hR) (hr.up β)
    obtain ⟨hnorm, hcalls⟩ := hsnd as out hs'
    refine ⟨_, enter f xs hnorm, ?_⟩
    rw [Oper.upon_enter]
    have hEX : ∀ b o, Xs E H β b o → b < w.heap.size := fun b o h => by
      rcases h with h | h
      · exact (hE.1 b o h).1
      · exact own_lt hR h
    have := hcalls w (Xs E H β) xs ⟨hEX, hE.2⟩ (by omega) (fun k v x h1 h2 => by
      obtain ⟨u, hu, hp⟩ := p2 k v h1
      exact pure_R (hv k u x hu h2) v hp)
    intro cs
    obtain ⟨e, w', fr, ⟨y, he, st, hr⟩, rest⟩ := this cs
    obtain ⟨s1, s2⟩ := Step.of_pure hR st
    refine ⟨e, w', fr, ?_, rest⟩
    subst he
    exact hk y w' β s1 (s2 _ _ hr)
  have hargs : ∀ (k : Nat) (v : V) (x : Value), (c.args.toList.map (rd t))[k]? = some v → (c.args.toList.map a.eval)[k]? = some x → R w (Xs E H β) β v x := by
    intro k v x h1 h2
    simp only [List.getElem?_map, Option.map_eq_some_iff] at h1 h2
    obtain ⟨u, hu, rfl⟩ := h1
    obtain ⟨u', hu', rfl⟩ := h2
    rw [hu] at hu'
    simp only [Option.some.injEq] at hu'
    subst hu'
    exact hrd u
  have hmap : c.args.map a.eval = (c.args.toList.map a.eval).toArray := by apply Array.ext'; simp
  unfold oCall at h
  split at h
  · rename_i g first captured heq
    have hfo := hrd fo
    rw [heq] at hfo
    generalize hev : a.eval fo = fv at hfo
    cases hfo
    cases hb : (Nat.beq first.size 0 && Nat.beq captured.size 0)
    · simp [hb, Tree.run] at h
    simp only [hb, cond_true] at h
    obtain ⟨b1, b2⟩ := Bool.and_eq_true_iff.1 hb
    have b1 : first = #[] := Array.eq_empty_of_size_eq_zero (Nat.eq_of_beq_eq_true b1)
    have b2 : captured = #[] := Array.eq_empty_of_size_eq_zero (Nat.eq_of_beq_eq_true b2)
    subst b1
    subst b2
    obtain ⟨q, k1, k2⟩ := key g _ (c.args.toList.map a.eval) (by simp) hargs h
    unfold Oper.wp
    rw [← hmap] at k1
    simp only [execOp, ho, resolve, hc, hev, Deferred.ofValue, invoke, Sem.run_bind, Sem.run_pure, Result.andThen_ok, Array.empty_append, Array.append_empty]
    rw [k1]
    exact k2
  · rename_i g first captured heq
    have hfo := hrd fo
    rw [heq] at hfo
    generalize hev : a.eval fo = fv at hfo
    cases hfo with
    | clo _ _ _ _ xs ys hl hm h1 h2 =>
      obtain ⟨q, k1, k2⟩ := key g _ (xs ++ c.args.toList.map a.eval ++ ys) (by simp [hl, hm]) (by
        intro k v x hv hx
        by_cases hk1 : k < first.length
        · rw [List.append_assoc, List.getElem?_append_left hk1] at hv
          rw [List.append_assoc, List.getElem?_append_left (by omega)] at hx
          exact h1 k v x hv hx
        · rw [List.append_assoc, List.getElem?_append_right (by omega)] at hv
          rw [List.append_assoc, List.getElem?_append_right (by omega), hl] at hx
          by_cases hk2 : k - first.length < c.args.toList.length
          · rw [List.getElem?_append_left (by simpa using hk2)] at hv hx
            exact hargs _ v x hv hx
          · rw [List.getElem?_append_right (by simpa using hk2)] at hv hx
            simp only [List.length_map] at hv hx
            exact h2 _ v x hv hx) h
      unfold Oper.wp
      have e : (xs ++ c.args.toList.map a.eval ++ ys).toArray = xs.toArray ++ c.args.map a.eval ++ ys.toArray := by rw [hmap]; simp
      rw [e] at k1
      simp only [execOp, ho, resolve, hc, hev, Deferred.ofValue, invoke, Sem.run_bind, Sem.run_pure, Result.andThen_ok]
      rw [k1]
      exact k2
  · cases h
end
end Go.Ab

namespace Go.Ab
section
variable {E : Nat → Nat → Prop} {H : List O} {β : List Loc} {w : World} {n : Nat} {t : T} {a : Act} {o : Oper} {cx : Cx} {K : Act → World → Prop} {Q : Exit → Act → World → Prop}
theorem dop_sound (hT : CxOk cx) (hE : StartOk cx.P E H β w) (hR : Rel w (Xs E H β) H β) (hF : FR w (Xs E H β) β n t a) {res : Res}
    (h : (dop cx t H o).run = some res) (hk : Then E H β w a o K Q res) : o.wp cx.P a w K Q := by
  have hrd := fun x => rd_R hF x
  have hrg := fun x => rdG_R hE.2 hT.2.2.2 hF x
  have same : ∀ {s : Sem Value} {u : V}, execOp a.eval o = (do pure (Next.value (← s))) → (∃ z, s.run cx.P w = .ok z w ∧ R w (Xs E H β) β u z) → res = .ok u H → o.wp cx.P a w K Q := by
    rintro s u he ⟨z, h1, h2⟩ rfl
    exact wp_sem he h1 (hk z w β (Step.refl hR) h2)
  have some' : ∀ {s : Sem Value} {u : V} {H' : List O}, execOp a.eval o = (do pure (Next.value (← s))) →
      (∃ z w' β', s.run cx.P w = .ok z w' ∧ Step E H β w H' β' w' ∧ R w' (Xs E H' β') β' u z) → res = .ok u H' → o.wp cx.P a w K Q := by
    rintro s u H' he ⟨z, w', β', h1, h2, h3⟩ rfl
    exact wp_sem he h1 (hk z w' β' h2 h3)
  unfold dop at h
  split at h
  · -- move
    rename_i x ho
    simp only [hold, Tree.run, Option.some.injEq] at h
    subst h
    unfold Oper.wp
    simp only [execOp, ho]
    exact hk _ w β (Step.refl hR) (hrd x)
  · -- assign
    rename_i x ho
    simp only [hold, Tree.run, Option.some.injEq] at h
    subst h
    unfold Oper.wp
    simp only [execOp, ho]
    exact hk _ w β (Step.refl hR) (hrd x)
  · -- pick
    rename_i c x y ho
    split at h
    rotate_left
    · cases h
    rename_i b hb
    have hc := hrd c
    rw [hb] at hc
    generalize hev : a.eval c = cv at hc
    cases hc
    have run : ∀ u, R w (Xs E H β) β u (if b = true then a.eval x else a.eval y) → res = .ok u H → o.wp cx.P a w K Q := by
      intro u hu hr
      subst hr
      unfold Oper.wp
      simp only [execOp, ho, hev, asBool, Sem.run_bind, Sem.run_pure, Result.andThen_ok]
      exact hk _ w β (Step.refl hR) hu
    obtain ⟨u, hu, rfl⟩ := bind_hold h
    refine run u ?_ rfl
    unfold pickV at hu
    split at hu
    · rename_i p q hp hq
      simp only [Tree.run, Option.some.injEq] at hu
      subst hu
      have h1 := hrd x
      have h2 := hrd y
      rw [hp] at h1
      rw [hq] at h2
      cases b
      · simpa using h2
      · simpa using h1
    · cases b
      · simp only [Tree.run, cond_false, Option.some.injEq] at hu
        subst hu
        simpa using hrd y
      · simp only [Tree.run, cond_true, Option.some.injEq] at hu
        subst hu
        simpa using hrd x
  · -- alloc
    rename_i e ho
    split at h
    rotate_left
    · cases h
    rename_i i hi
    simp only [Tree.run, Option.some.injEq] at h
    obtain ⟨w', β', h1, h2, h3⟩ := sound_alloc (P := cx.P) hR hi
    exact some' (s := Instr.alloc e true (.tuple #[])) (by simp only [execOp, ho]) ⟨_, w', β', h1, h2, h3⟩ h.symm
  · -- box
    rename_i e x ho
    split at h
    rotate_left
    · cases h
    rename_i cs hcs
    simp only [Tree.run, Option.some.injEq] at h
    obtain ⟨w', β', h1, h2, h3⟩ := sound_box (P := cx.P) (e := e) hR (hrd x) hcs
    exact some' (s := Instr.box e (a.eval x)) (by simp only [execOp, ho]) ⟨_, w', β', h1, h2, h3⟩ h.symm
  · -- build
    rename_i ty parts ho
    obtain ⟨u, hu, rfl⟩ := holdO_run h
    refine same (s := Instr.build ty (parts.map fun (i, x) => (i, a.eval x))) (by simp only [execOp, ho]) (sound_build (by simp) ?_ hu) rfl
    have := pieces_get (a := a) (l := parts.toList) hrd
    simpa using this
  · -- buildSlice
    rename_i ty len parts ho
    unfold bothO at h
    split at h
    rotate_left
    · cases h
    rename_i p hp
    obtain ⟨u, H'⟩ := p
    simp only [Tree.run, Option.some.injEq] at h
    refine some' (s := Instr.buildSlice ty len (parts.map fun (i, x) => (i, a.eval x))) (by simp only [execOp, ho]) (sound_buildSlice hE.1 hR (by simp) ?_ hp) h.symm
    have := pieces_get (a := a) (l := parts.toList) hrd
    simpa using this
  · -- load
    rename_i ty x ho
    cases hz : isLz cx.lz x
    · rw [hz, cond_false] at h
      obtain ⟨u, hu, rfl⟩ := holdO_run h
      exact same (s := Instr.loadAt ty (a.eval x)) (by simp only [execOp, ho]) (sound_load hR (hrg x) hu) rfl
    · rw [hz, cond_true] at h
      obtain ⟨u, hu, rfl⟩ := bind_hold h
      exact same (s := Instr.loadAt ty (a.eval x)) (by simp only [execOp, ho]) (sound_loadZ hR (hrd x) hu) rfl
  · -- store
    rename_i ty x v ho
    have hs : ∃ H', res = .ok .any H' ∧ ∃ w', (Instr.storeAt ty (a.eval x) (a.eval v)).run cx.P w = .ok () w' ∧ Step E H β w H' β w' := by
      cases hz : isLz cx.lz x
      · rw [hz, cond_false] at h
        split at h
        rotate_left
        · cases h
        rename_i H' hH
        simp only [Tree.run, Option.some.injEq] at h
        exact ⟨H', h.symm, sound_store (P := cx.P) hR (hrd x) (hrd v) hH⟩
      · rw [hz, cond_true] at h
        obtain ⟨H', hH, h⟩ := bind_run h
        simp only [Tree.run, Option.some.injEq] at h
        exact ⟨H', h.symm, sound_storeZ (P := cx.P) hR (hrd x) (hrd v) hH⟩
    obtain ⟨H', rfl, w', h1, h2⟩ := hs
    exact wp_unit (s := Instr.storeAt ty (a.eval x) (a.eval v)) (by simp only [execOp, ho]) h1 (hk undef w' β h2 (.any _ _))
  · -- nilCheck
    rename_i x ho
    have run : ∀ u b o', a.eval x = .pointer (some ⟨b, o', none⟩) → R w (Xs E H β) β u (a.eval x) → res = .ok u H → o.wp cx.P a w K Q := by
      intro u b o' he hu hr
      subst hr
      unfold Oper.wp
      simp only [execOp, ho, he, Sem.run_pure]
      rw [he] at hu
      exact hk _ w β (Step.refl hR) hu
    have hx := hrd x
    split at h
    · rename_i id off hv
      simp only [hold, Tree.run, Option.some.injEq] at h
      rw [hv] at hx
      generalize he : a.eval x = xv at hx run
      have hx' := hx
      cases hx
      exact run _ _ _ rfl hx' h.symm
    · rename_i cells hv
      simp only [hold, Tree.run, Option.some.injEq] at h
      rw [hv] at hx
      generalize he : a.eval x = xv at hx run
      have hx' := hx
      cases hx
      exact run _ _ _ rfl hx' h.symm
    · cases h
  · -- binOp
    rename_i op ty x y _ ho
    obtain ⟨u, hu, rfl⟩ := bind_hold h
    cases hnil : isNilC y
    · rw [hnil, cond_false] at hu
      exact same (s := bin op ty x y (a.eval x) (a.eval y)) (by simp only [execOp, ho, bin]) (sound_bin (hrd x) (hrd y) hu) rfl
    · rw [hnil, cond_true] at hu
      have hy : y = .const .nilIface := by
        unfold isNilC at hnil
        split at hnil
        · rfl
        · cases hnil
      subst hy
      exact same (s := bin op ty x (.const .nilIface) (a.eval x) .nilIface) (by simp only [execOp, ho, bin]; rfl) (sound_nil (hrd x) hu) rfl
  · -- unOp
    rename_i op _ x ho
    obtain ⟨u, hu, rfl⟩ := holdO_run h
    exact same (s := Op.unary op (a.eval x)) (by simp only [execOp, ho]) (sound_un (hrd x) hu) rfl
  · -- convert
    rename_i src dst x ho
    cases hss : isStrSl cx.P src dst
    · rw [hss, cond_false] at h
      obtain ⟨u, hu, rfl⟩ := bind_hold h
      exact same (s := convert src dst (a.eval x)) (by simp only [execOp, ho]) (sound_convert hR (hrd x) (convT_run hu)) rfl
    · rw [hss, cond_true] at h
      obtain ⟨u, hu, rfl⟩ := holdO_run h
      obtain ⟨z, w', h1, h2, h3⟩ := sound_strBytes hE.1 hR (hrd x) hss hu
      exact some' (s := convert src dst (a.eval x)) (by simp only [execOp, ho]) ⟨z, w', β, h1, h2, h3⟩ rfl
  · -- makeFunc
    rename_i fn first captured ho
    simp only [hold, Tree.run, Option.some.injEq] at h
    refine same (s := Instr.makeFunc fn (first.map a.eval) (captured.map a.eval)) (by simp only [execOp, ho]) ⟨.func fn (first.toList.map a.eval).toArray (captured.toList.map a.eval).toArray, ?_, ?_⟩ h.symm
    · have e1 : (first.toList.map a.eval).toArray = first.map a.eval := by apply Array.ext'; simp
      have e2 : (captured.toList.map a.eval).toArray = captured.map a.eval := by apply Array.ext'; simp
      rw [e1, e2]; rfl
    · have get : ∀ (l : List Operand) (k : Nat) (v : V) (x : Value), (l.map (rd t))[k]? = some v → (l.map a.eval)[k]? = some x → R w (Xs E H β) β v x := by
        intro l k v x h1 h2
        simp only [List.getElem?_map, Option.map_eq_some_iff] at h1 h2
        obtain ⟨u, hu, rfl⟩ := h1
        obtain ⟨u', hu', rfl⟩ := h2
        rw [hu] at hu'
        simp only [Option.some.injEq] at hu'
        subst hu'
        exact hrd u
      exact .clo β fn _ _ _ _ (by simp) (by simp) (get _) (get _)
  · -- makeSlice
    rename_i ty l c ho
    cases hpg : dstIn o cx.lz
    · rw [hpg, cond_false] at h
      obtain ⟨u, H', hu, rfl⟩ := bind_both h
      exact some' (s := Instr.makeSlice ty (a.eval l) (a.eval c)) (by simp only [execOp, ho]) (sound_makeSlice hE.1 hR (hrd l) (hrd c) hu) rfl
    · rw [hpg, cond_true] at h
      obtain ⟨u, H', hu, rfl⟩ := bind_both h
      exact some' (s := Instr.makeSlice ty (a.eval l) (a.eval c)) (by simp only [execOp, ho]) (sound_makePage hR (hrd l) (hrd c) hu) rfl
  · -- slice
    rename_i ty x lo hi ho
    obtain ⟨u, hu, rfl⟩ := bind_hold h
    exact same (s := Instr.sliceAt ty (a.eval x) (lo.map a.eval) (hi.map a.eval) none) (by simp only [execOp, ho, Option.map_none]) (sound_slice hR (hrd x) (optR_map hrd lo) (optR_map hrd hi) hu) rfl
  · -- fieldAddr
    rename_i ty x f ho
    obtain ⟨u, hu, rfl⟩ := holdO_run h
    exact same (s := Instr.fieldAt ty (a.eval x) f) (by simp only [execOp, ho]) (sound_fieldAddr (hrd x) hu) rfl
  · -- field
    rename_i ty x f ho
    obtain ⟨u, hu, rfl⟩ := holdO_run h
    exact same (s := Instr.field ty (a.eval x) f) (by simp only [execOp, ho]) (sound_field (hrd x) hu) rfl
  · -- indexAddr
    rename_i ty x i ho
    obtain ⟨u, hu, rfl⟩ := bind_hold h
    exact same (s := Instr.indexAt ty (a.eval x) (a.eval i)) (by simp only [execOp, ho]) (sound_indexAddr (hrg x) (hrd i) hu) rfl
  · -- index
    rename_i ty x i ho
    obtain ⟨u, hu, rfl⟩ := bind_hold h
    exact same (s := Instr.index ty (a.eval x) (a.eval i)) (by simp only [execOp, ho]) (sound_index (hrd x) (hrd i) hu) rfl
  · -- extract
    rename_i x i ho
    split at h
    rotate_left
    · cases h
    rename_i vs hvs
    obtain ⟨u, hu, rfl⟩ := holdO_run h
    have hx := hrd x
    rw [hvs] at hx
    generalize he : a.eval x = xv at hx
    cases hx with
    | tup _ _ xs hl hr =>
      have hi : i < xs.length := by rw [hl]; exact (List.getElem?_eq_some_iff.1 hu).1
      exact same (s := Instr.extract (a.eval x) i) (by simp only [execOp, ho]) ⟨xs[i], by rw [he]; simp [Instr.extract, hi], hr i u _ hu (by simp [hi])⟩ rfl
  · -- makeInterface
    rename_i ty x ho
    split at h
    · cases h
    · rename_i d hu hd
      simp only [hold, Tree.run, Option.some.injEq] at h
      refine same (s := Instr.makeInterface ty (a.eval x)) (by simp only [execOp, ho]) ⟨.iface ty (a.eval x), ?_, .ifc β ty _ _ (hrd x)⟩ h.symm
      simp only [Instr.makeInterface, Sem.run_bind, run_und w hd, Result.andThen_ok]
      cases d <;> first | rfl | (exfalso; simp_all)
    · cases h
  · -- typeAssert
    rename_i x ty' as ok ho
    split at h
    · cases h
    · rename_i ty v d hd hv hu
      cases hb : Nat.beq ty as
      · rw [hb] at h; cases h
      rw [hb] at h
      simp only [cond_true, hold, Tree.run, Option.some.injEq] at h
      have hb := Nat.eq_of_beq_eq_true hb
      subst hb
      have hx := hrd x
      rw [hv] at hx
      generalize hev : a.eval x = xv at hx
      cases hx with
      | ifc _ _ _ z hz =>
        refine same (s := Instr.typeAssert (a.eval x) ty' ty ok) (by simp only [execOp, ho]) ⟨if ok then .tuple #[z, .bool true] else z, ?_, ?_⟩ h.symm
        · rw [hev]
          simp only [Instr.typeAssert, Sem.run_bind, run_und w hu, Result.andThen_ok]
          cases d <;> first | (exfalso; simp_all; done) | (simp; done)
        · cases ok
          · exact hz
          · exact .tup β _ [z, .bool true] rfl (fun k v x h1 h2 => by
              match k with
              | 0 => simp only [List.getElem?_cons_zero, Option.some.injEq] at h1 h2; subst h1; subst h2; exact hz
              | 1 => simp only [List.getElem?_cons_succ, List.getElem?_cons_zero, Option.some.injEq] at h1 h2; subst h1; subst h2; exact .bool _ _
              | k + 2 => simp at h1)
    · cases h
  · -- panic
    rename_i x ho
    split at h
    rotate_left
    · cases h
    rename_i ty v hv
    simp only [Tree.run, Option.some.injEq] at h
    subst h
    have hx := hrd x
    rw [hv] at hx
    generalize hev : a.eval x = xv at hx
    have hx' := hx
    cases hx
    unfold Oper.wp
    simp only [execOp, ho, hev]
    exact hk _ w β (Step.refl hR) hx'
  · -- makeMap
    rename_i ty ho
    simp only [Tree.run, Option.some.injEq] at h
    exact some' (s := Instr.makeMap ty none) (by simp only [execOp, ho]; rfl) (sound_makeMap hR ty) h.symm
  · -- lookup
    rename_i ty x i ok ho
    obtain ⟨u, hu, rfl⟩ := bind_hold h
    exact same (s := Instr.lookup ty (a.eval x) (a.eval i) ok) (by simp only [execOp, ho]) (sound_lookup hR (hrd x) (hrd i) hu) rfl
  · -- mapUpdate
    rename_i ty m k x ho
    obtain ⟨H', h1, h2⟩ := bind_run h
    simp only [Tree.run, Option.some.injEq] at h2
    subst h2
    obtain ⟨w', β', g1, g2⟩ := sound_mapUpdate hR (hrd m) (hrd k) (hrd x) h1
    exact wp_unit (s := Instr.mapUpdate ty (a.eval m) (a.eval k) (a.eval x)) (by simp only [execOp, ho]) g1 (hk _ w' β' g2 (.any _ _))
  · -- range
    rename_i ty x ho
    obtain ⟨u, H', rfl, z, w', β', g1, g2, g3⟩ := sound_range hR (hrd x) h
    exact some' (s := Instr.range ty (a.eval x)) (by simp only [execOp, ho]) ⟨z, w', β', g1, g2, g3⟩ rfl
  · -- next
    rename_i it isString ho
    cases isString
    · cases h
    rw [cond_true] at h
    obtain ⟨u, H', rfl, z, w', β', g1, g2, g3⟩ := sound_next (ty := o.type) hR (hrd it) h
    exact some' (s := Instr.next (a.eval it) true o.type) (by simp only [execOp, ho]) ⟨z, w', β', g1, g2, g3⟩ rfl
  · -- builtin
    rename_i b args argTypes ho
    have he : execOp a.eval o = (builtin b argTypes o.type (args.map fun | .const _ => true | _ => false) (args.map a.eval)) := by
      simp only [execOp, ho, resolve, invoke]
      rfl
    have val : ∀ {s : Sem Value} {u : V} {H' : List O}, builtin b argTypes o.type (args.map fun | .const _ => true | _ => false) (args.map a.eval) = (do pure (Next.value (← s))) →
        (∃ z w' β', s.run cx.P w = .ok z w' ∧ Step E H β w H' β' w' ∧ R w' (Xs E H' β') β' u z) → res = .ok u H' → o.wp cx.P a w K Q := by
      intro s u H' hb
      exact some' (he.trans hb)
    have two : ∀ x y, args.toList = [x, y] → args.map a.eval = #[a.eval x, a.eval y] := by
      intro x y h; apply Array.ext'; simp [h]
    have one : ∀ x, args.toList = [x] → args.map a.eval = #[a.eval x] := by
      intro x h; apply Array.ext'; simp [h]
    cases hap : appR cx o b
    rotate_left
    · rw [hap, cond_true] at h
      have hbb : b = .append := by
        unfold appR at hap
        split at hap
        · rfl
        · cases hap
      subst hbb
      unfold appB at h
      split at h
      rotate_left
      · cases h
      rename_i s x hargs
      obtain ⟨x1, x2, hl, rfl, rfl⟩ : ∃ x1 x2, args.toList = [x1, x2] ∧ s = rd t x1 ∧ x = rd t x2 := by
        rcases hl : args.toList with _ | ⟨x1, _ | ⟨x2, _ | ⟨_, _⟩⟩⟩ <;> simp [hl] at hargs
        exact ⟨x1, x2, rfl, hargs.1.symm, hargs.2.symm⟩
      unfold bothO at h
      split at h
      rotate_left
      · cases h
      rename_i p hp
      obtain ⟨u, H'⟩ := p
      simp only [Tree.run, Option.some.injEq] at h
      exact val (s := Builtin.append_ argTypes o.type (args.map a.eval)) rfl (by rw [two _ _ hl]; exact sound_appendR hR (hrd x1) (hrd x2) hp) h.symm
    rw [hap, cond_false] at h
    unfold oBuiltin at h
    split at h
    · rename_i s x hargs
      obtain ⟨x1, x2, hl, rfl, rfl⟩ : ∃ x1 x2, args.toList = [x1, x2] ∧ s = rd t x1 ∧ x = rd t x2 := by
        rcases hl : args.toList with _ | ⟨x1, _ | ⟨x2, _ | ⟨_, _⟩⟩⟩ <;> simp [hl] at hargs
        exact ⟨x1, x2, rfl, hargs.1.symm, hargs.2.symm⟩
      obtain ⟨u, H', hu, rfl⟩ := bind_both h
      exact val (s := Builtin.append_ argTypes o.type (args.map a.eval)) rfl (by rw [two _ _ hl]; exact sound_append hE.1 hR (hrd x1) (hrd x2) hu) rfl
    · rename_i x hargs
      obtain ⟨x1, hl, rfl⟩ : ∃ x1, args.toList = [x1] ∧ x = rd t x1 := by
        rcases hl : args.toList with _ | ⟨x1, _ | ⟨_, _⟩⟩ <;> simp [hl] at hargs
        exact ⟨x1, rfl, hargs.symm⟩
      obtain ⟨u, hu, rfl⟩ := holdO_run h
      obtain ⟨z, h1, h2⟩ := sound_lenM (ty := o.type) hR (hrd x1) hu
      exact val (s := Builtin.len_ argTypes o.type (args.map a.eval)) rfl ⟨z, w, β, by rw [one _ hl]; exact h1, Step.refl hR, h2⟩ rfl
    · rename_i x hargs
      obtain ⟨x1, hl, rfl⟩ : ∃ x1, args.toList = [x1] ∧ x = rd t x1 := by
        rcases hl : args.toList with _ | ⟨x1, _ | ⟨_, _⟩⟩ <;> simp [hl] at hargs
        exact ⟨x1, rfl, hargs.symm⟩
      obtain ⟨u, hu, rfl⟩ := holdO_run h
      obtain ⟨z, h1, h2⟩ := sound_cap (ty := o.type) hR (hrd x1) hu
      exact val (s := Builtin.cap_ argTypes o.type (args.map a.eval)) rfl ⟨z, w, β, by rw [one _ hl]; exact h1, Step.refl hR, h2⟩ rfl
    · rename_i s x hargs
      obtain ⟨x1, x2, hl, rfl, rfl⟩ : ∃ x1 x2, args.toList = [x1, x2] ∧ s = rd t x1 ∧ x = rd t x2 := by
        rcases hl : args.toList with _ | ⟨x1, _ | ⟨x2, _ | ⟨_, _⟩⟩⟩ <;> simp [hl] at hargs
        exact ⟨x1, x2, rfl, hargs.1.symm, hargs.2.symm⟩
      obtain ⟨u, hu, rfl⟩ := holdO_run h
      obtain ⟨z, h1, h2⟩ := sound_max (argTypes := argTypes) (ty := o.type) (hrd x1) (hrd x2) hu
      exact val (s := Builtin.max_ argTypes o.type (args.map a.eval)) rfl ⟨z, w, β, by rw [two _ _ hl]; exact h1, Step.refl hR, h2⟩ rfl
    · rename_i s x hargs
      obtain ⟨x1, x2, hl, rfl, rfl⟩ : ∃ x1 x2, args.toList = [x1, x2] ∧ s = rd t x1 ∧ x = rd t x2 := by
        rcases hl : args.toList with _ | ⟨x1, _ | ⟨x2, _ | ⟨_, _⟩⟩⟩ <;> simp [hl] at hargs
        exact ⟨x1, x2, rfl, hargs.1.symm, hargs.2.symm⟩
      obtain ⟨u, hu, rfl⟩ := holdO_run h
      obtain ⟨z, h1, h2⟩ := sound_min (argTypes := argTypes) (ty := o.type) (hrd x1) (hrd x2) hu
      exact val (s := Builtin.min_ argTypes o.type (args.map a.eval)) rfl ⟨z, w, β, by rw [two _ _ hl]; exact h1, Step.refl hR, h2⟩ rfl
    · rename_i ty v hargs
      obtain ⟨x1, hl, hv⟩ : ∃ x1, args.toList = [x1] ∧ rd t x1 = .ifc ty v := by
        rcases hl : args.toList with _ | ⟨x1, _ | ⟨_, _⟩⟩ <;> simp [hl] at hargs
        exact ⟨x1, rfl, hargs⟩
      simp only [Tree.run, Option.some.injEq] at h
      subst h
      have hx := hrd x1
      rw [hv] at hx
      generalize hev : a.eval x1 = xv at hx
      have hx' := hx
      cases hx
      unfold Oper.wp
      rw [he]
      simp only [builtin, one _ hl, hev]
      exact hk _ w β (Step.refl hR) hx'
    · cases h
  · -- call
    rename_i f args argTypes ho
    exact sound_call rfl hT.1 hT.2.1 hT.2.2.1 hE hR hF ho rfl h hk
  · cases h
end
end Go.Ab

namespace Go.Ab
def Tree.all {β : Type} (Q : β → Prop) : Tree β → Prop
  | .leaf b => Q b
  | .fail => False
  | .br c x y => (c = true → x.all Q) ∧ (c = false → y.all Q)
theorem Tree.all_run {β : Type} {Q : β → Prop} {x : Tree β} (h : x.all Q) : ∃ b, x.run = some b ∧ Q b := by
  induction x with
  | leaf b => exact ⟨b, rfl, h⟩
  | fail => exact h.elim
  | br c x y ihx ihy =>
    cases c
    · exact ihy (h.2 rfl)
    · exact ihx (h.1 rfl)
theorem Tree.run_all {β : Type} {Q : β → Prop} {x : Tree β} {b : β} (h : x.run = some b) (hq : Q b) : x.all Q := by
  induction x with
  | leaf c => simp only [Tree.run, Option.some.injEq] at h; subst h; exact hq
  | fail => cases h
  | br c x y ihx ihy =>
    refine ⟨fun hc => ?_, fun hc => ?_⟩
    · subst hc; exact ihx h
    · subst hc; exact ihy h
structure Good (E : Nat → Nat → Prop) (H0 : List O) (β0 : List Loc) (w0 : World) (n : Nat) (D : List Deferred) (t : T) (H : List O) (β : List Loc) (a : Act) (w : World) : Prop where
  step : Step E H0 β0 w0 H β w
  fr : FR w (Xs E H β) β n t a
  defers : a.defers = D
def Post (E : Nat → Nat → Prop) (H0 : List O) (β0 : List Loc) (w0 : World) (n : Nat) (D : List Deferred) (Q : AEx → T → List O → Prop) : Exit → Act → World → Prop
  | .normal, a, w => ∃ t H β, Q .normal t H ∧ Good E H0 β0 w0 n D t H β a w
  | .exit id, a, w => ∃ t H β, Q (.exit id) t H ∧ Good E H0 β0 w0 n D t H β a w
  | .ret, a, w => ∃ t H β, Q .ret t H ∧ Good E H0 β0 w0 n D t H β a w
  | .panic chain, a, w => ∃ t H β v x, Q (.panic v) t H ∧ Good E H0 β0 w0 n D t H β a w ∧ R w (Xs E H β) β v x ∧ chain = [{ v := x, recovered := false }]
  | _, _, _ => False
def AWP (P : Program) (n : Nat) (c : Code) (Q : AEx → T → List O → Prop) (t : T) (H : List O) : Prop :=
  ∀ E H0 β0 w0 D β a w, StartOk P E H0 β0 w0 → Good E H0 β0 w0 n D t H β a w → c.wp P (Post E H0 β0 w0 n D Q) a w
theorem StartOk.now {P : Program} {E H0 β0 w0 H β w} (h : StartOk P E H0 β0 w0) (s : Step E H0 β0 w0 H β w) : StartOk P E H β w := by
  refine ⟨fun b o hb => ?_, fun p hp => (h.2 p hp).stab s.stab [] (.refl _)⟩
  obtain ⟨h1, h2⟩ := h.1 b o hb
  refine ⟨Nat.lt_of_lt_of_le h1 s.size, fun ho => ?_⟩
  rcases s.own b o ho with h | h
  · exact h2 h
  · omega
section
variable {P : Program} {n : Nat} {Q Q' : AEx → T → List O → Prop} {t : T} {H : List O}
theorem Post.mono {E H0 β0 w0 D} (h : ∀ e t H, Q e t H → Q' e t H) {e : Exit} {a : Act} {w : World} (hp : Post E H0 β0 w0 n D Q e a w) : Post E H0 β0 w0 n D Q' e a w := by
  cases e with
  | normal => obtain ⟨t, H, β, h1, h2⟩ := hp; exact ⟨t, H, β, h _ _ _ h1, h2⟩
  | exit id => obtain ⟨t, H, β, h1, h2⟩ := hp; exact ⟨t, H, β, h _ _ _ h1, h2⟩
  | ret => obtain ⟨t, H, β, h1, h2⟩ := hp; exact ⟨t, H, β, h _ _ _ h1, h2⟩
  | panic ch => obtain ⟨t, H, β, v, x, h1, h2⟩ := hp; exact ⟨t, H, β, v, x, h _ _ _ h1, h2⟩
  | goto l => exact hp.elim
  | outgrown => exact hp.elim
theorem AWP.mono {c : Code} (h : AWP P n c Q t H) (hq : ∀ e t H, Q e t H → Q' e t H) : AWP P n c Q' t H :=
  fun E H0 β0 w0 D β a w hs hg => wp_mono (h E H0 β0 w0 D β a w hs hg) fun _ _ _ hp => Post.mono hq hp
theorem AWP_skip (h : Q .normal t H) : AWP P n .skip Q t H := fun _ _ _ _ _ β _ _ _ hg => wp_skip ⟨t, H, β, h, hg⟩
theorem AWP_ret (h : Q .ret t H) : AWP P n .ret Q t H := fun _ _ _ _ _ β _ _ _ hg => wp_ret ⟨t, H, β, h, hg⟩
theorem AWP_exit {id : Nat} (h : Q (.exit id) t H) : AWP P n (.exit id) Q t H := fun _ _ _ _ _ β _ _ _ hg => wp_exit ⟨t, H, β, h, hg⟩
def seqQ (K : T → List O → Prop) (Q : AEx → T → List O → Prop) : AEx → T → List O → Prop
  | .normal, t, H => K t H
  | e, t, H => Q e t H
theorem AWP_seq {x y : Code} (h : AWP P n x (seqQ (AWP P n y Q) Q) t H) : AWP P n (.seq x y) Q t H := by
  intro E H0 β0 w0 D β a w hs hg
  refine wp_seq (wp_mono (h E H0 β0 w0 D β a w hs hg) ?_)
  intro e a' w' hp
  cases e with
  | normal => obtain ⟨t', H', β', h1, h2⟩ := hp; exact h1 E H0 β0 w0 D β' a' w' hs h2
  | exit id => exact hp
  | ret => exact hp
  | panic ch => exact hp
  | goto l => exact hp.elim
  | outgrown => exact hp.elim
def blockQ (id : Nat) (Q : AEx → T → List O → Prop) : AEx → T → List O → Prop
  | .exit j, t, H => if j = id then Q .normal t H else Q (.exit j) t H
  | e, t, H => Q e t H
theorem AWP_block {id : Nat} {c : Code} (h : AWP P n c (blockQ id Q) t H) : AWP P n (.block id c) Q t H := by
  intro E H0 β0 w0 D β a w hs hg
  refine wp_block (wp_mono (h E H0 β0 w0 D β a w hs hg) ?_)
  intro e a' w' hp
  cases e with
  | normal => exact hp
  | exit j =>
    obtain ⟨t', H', β', h1, h2⟩ := hp
    simp only [Exit.inBlock]
    simp only [blockQ] at h1
    by_cases hj : j = id
    · simp only [hj, if_true] at h1 ⊢; exact ⟨t', H', β', h1, h2⟩
    · simp only [hj, if_false] at h1 ⊢; exact ⟨t', H', β', h1, h2⟩
  | ret => exact hp
  | panic ch => exact hp
  | goto l => exact hp.elim
  | outgrown => exact hp.elim
theorem put_true {β : List Loc} {w : World} {X : Nat → Nat → Prop} {a : Act} {d : Nat} {b : Bool} (h : FR w X β n t a) (hb : get d t = .bool b) : FR w X β n (put d (.bool b) t) a := by
  refine ⟨h.size, fun e => ?_⟩
  rw [get_put]
  split
  · rename_i he
    subst he
    rw [← hb]; exact h.slot e
  · exact h.slot e
theorem AWP_cond {d : Nat} {x y : Code} {b : Bool} (hc : get d t = .bool b) (ht : b = true → AWP P n x Q (put d (.bool true) t) H) (hf : b = false → AWP P n y Q (put d (.bool false) t) H) :
    AWP P n (.cond (.tmp d) x y) Q t H := by
  intro E H0 β0 w0 D β a w hs hg
  have hx := rd_R hg.fr (.tmp d)
  simp only [rd, hc] at hx
  generalize he : a.eval (.tmp d) = v at hx
  cases hx
  have hg' : Good E H0 β0 w0 n D (put d (.bool b) t) H β a w := ⟨hg.step, put_true hg.fr hc, hg.defers⟩
  refine wp_cond he ?_
  cases b
  · exact hf rfl E H0 β0 w0 D β a w hs hg'
  · exact ht rfl E H0 β0 w0 D β a w hs hg'
theorem AWP_cond' {c : Operand} {x y : Code} {b : Bool} (hc : rd t c = .bool b) (ht : b = true → AWP P n x Q t H) (hf : b = false → AWP P n y Q t H) :
    AWP P n (.cond c x y) Q t H := by
  intro E H0 β0 w0 D β a w hs hg
  have hx := rd_R hg.fr c
  rw [hc] at hx
  generalize he : a.eval c = v at hx
  cases hx
  refine wp_cond he ?_
  cases b
  · exact hf rfl E H0 β0 w0 D β a w hs hg
  · exact ht rfl E H0 β0 w0 D β a w hs hg
def TLe (t s : T) : Prop := ∀ d, get d s = get d t ∨ get d s = .any
theorem TLe.refl (t : T) : TLe t t := fun _ => .inl rfl
theorem TLe.keep (l : List Nat) (t : T) : TLe t (keep l t) := fun d => get_keep l d t
theorem FR.le {β : List Loc} {w : World} {X : Nat → Nat → Prop} {a : Act} {s : T} (h : FR w X β n t a) (hl : TLe t s) : FR w X β n s a :=
  ⟨h.size, fun d => by rcases hl d with e | e <;> rw [e]; exact h.slot d; exact .any _ _⟩
theorem AWP.less {c : Code} {s : T} (hl : TLe t s) (h : AWP P n c Q s H) : AWP P n c Q t H :=
  fun E H0 β0 w0 D β a w hs hg => h E H0 β0 w0 D β a w hs ⟨hg.step, hg.fr.le hl, hg.defers⟩
theorem AWP_loop {α : Type} (st : α → T × List O) (μ : α → Nat) {body : Code}
    (h : ∀ i, AWP P n body (fun e t H => match e with | .normal => ∃ j, μ j < μ i ∧ TLe t (st j).1 ∧ H = (st j).2 | e => Q e t H) (st i).1 (st i).2) (i : α) :
    AWP P n (.loop body) Q (st i).1 (st i).2 := by
  intro E H0 β0 w0 D β a w hs hg b k cs
  have key : ∀ m i β a w, μ i = m → Good E H0 β0 w0 n D (st i).1 (st i).2 β a w →
      ∃ e a' w', Post E H0 β0 w0 n D Q e a' w' ∧ Arrives P (lone (b.at a (.code body :: .inLoop body :: k)) cs w) b k cs e a' w' := by
    intro m
    induction m using Nat.strongRecOn with
    | _ m ih =>
      intro i β a w hm hg
      obtain ⟨e, a₁, w₁, hq, harr⟩ := h i E H0 β0 w0 D β a w hs hg b (.inLoop body :: k) cs
      cases e with
      | normal =>
        obtain ⟨t', H', β', ⟨j, hlt, hle, rfl⟩, hg'⟩ := hq
        obtain ⟨e₂, a₂, w₂, hq₂, harr₂⟩ := ih (μ j) (hm ▸ hlt) j β' a₁ w₁ rfl ⟨hg'.step, hg'.fr.le hle, hg'.defers⟩
        exact ⟨e₂, a₂, w₂, hq₂, .of_steps (Steps.trans harr (.one step_inLoop)) harr₂⟩
      | exit id => exact ⟨.exit id, a₁, w₁, hq, .pass (x := .inLoop body) rfl (fun _ _ => .inl (by simp)) harr⟩
      | ret => exact ⟨.ret, a₁, w₁, hq, .pass (x := .inLoop body) rfl (fun _ _ => .inl (by simp)) harr⟩
      | panic ch => exact ⟨.panic ch, a₁, w₁, hq, .pass (x := .inLoop body) rfl (fun _ _ => .inl (by simp)) harr⟩
      | goto l => exact hq.elim
      | outgrown => exact hq.elim
  obtain ⟨e, a', w', hq, harr⟩ := key _ i β a w rfl hg
  exact ⟨e, a', w', hq, .of_steps (.one step_loop) harr⟩
theorem runs_sound {cx : Cx} (hT : CxOk cx) {ops : Array Oper} {E H0 β0 w0 D} (hs : StartOk cx.P E H0 β0 w0) {Q : AEx → T → List O → Prop} :
    ∀ (l : List Oper) (k : Nat) (t : T) (H : List O) (β : List Loc) (a : Act) (w : World), ops.toList.drop k = l → (druns cx ops l t H).all (fun s => Q s.1 s.2.1 s.2.2) →
      Good E H0 β0 w0 cx.n D t H β a w → wpOps cx.P ops (Post E H0 β0 w0 cx.n D Q) (List.range' k l.length) a w
  | [], k, t, H, β, a, w, _, h, hg => ⟨keep cx.keeps t, H, β, h, ⟨hg.step, hg.fr.keep _, hg.defers⟩⟩
  | o :: r, k, t, H, β, a, w, hl, h, hg => by
    have hk : ops.toList[k]? = some o := by
      have := congrArg (fun l => l[0]?) hl
      simpa using this
    have hk' : ops[k]? = some o := by simpa using hk
    have hr : ops.toList.drop (k + 1) = r := by
      have := congrArg List.tail hl
      simpa [List.tail_drop] using this
    have ih := runs_sound hT hs (ops := ops) (Q := Q) (D := D) r (k + 1)
    simp only [List.length_cons, List.range'_succ, wpOps, hk']
    have put : ∀ v x t H β a w, (dputs cx o v t H (druns cx ops r)).all (fun s => Q s.1 s.2.1 s.2.2) → R w (Xs E H β) β v x → Good E H0 β0 w0 cx.n D t H β a w →
        wpOps cx.P ops (Post E H0 β0 w0 cx.n D Q) (List.range' (k + 1) r.length) (a.put o.dst x) w := by
      intro v x t H β a w hp hv hg
      unfold dputs putO at hp
      cases hd : o.dst with
      | none =>
        simp only [hd] at hp
        simp only [Act.put]
        exact ih t H β a w hr hp hg
      | some d =>
        simp only [hd] at hp
        cases hb : Nat.blt d cx.n
        · simp [hb, Tree.all] at hp
        · simp only [hb, cond_true] at hp
          have hlt : d < cx.n := by simpa [Nat.blt_eq] using hb
          exact ih _ H β _ w hr hp ⟨hg.step, hg.fr.put hlt hv, hg.defers⟩
    have run : ∀ t, FR w (Xs E H β) β cx.n t a → ((dop cx t H o).bind (dres cx o t (druns cx ops r))).all (fun s => Q s.1 s.2.1 s.2.2) →
        o.wp cx.P a w (wpOps cx.P ops (Post E H0 β0 w0 cx.n D Q) (List.range' (k + 1) r.length)) (Post E H0 β0 w0 cx.n D Q) := by
      intro t hfr hall
      obtain ⟨s, hs1, hs2⟩ := Tree.all_run hall
      obtain ⟨res, hres, hd⟩ := bind_run hs1
      refine dop_sound hT (hs.now hg.step) hg.step.rel hfr hres ?_
      cases res with
      | ok v H' =>
        intro x w' β' st hv
        exact put v x t H' β' a w' (Tree.run_all hd hs2) hv ⟨hg.step.trans st, hfr.step st, hg.defers⟩
      | pan v H' =>
        intro x w' β' st hv
        simp only [dres, Tree.run, Option.some.injEq] at hd
        subst hd
        exact ⟨t, H', β', v, x, hs2, ⟨hg.step.trans st, hfr.step st, hg.defers⟩, hv, rfl⟩
    unfold druns dstep at h
    split at h
    · rename_i hgd
      have hw : Region.wanted o (yielded ops a.tmps) = true := by simp [Region.wanted, hgd]
      simp only [hw, if_true]
      exact .inl (run t hg.fr h)
    · rename_i j want hgd
      split at h
      rotate_left
      · exact h.elim
      rename_i d hd
      have hslot := hg.fr.slot d
      have hyield : ∀ b, a.tmps.getD d undef = .bool b → yielded ops a.tmps j = some b := by
        intro b hb
        unfold yielded
        rw [hd]
        simp only [Option.bind_some]
        rw [Array.getD_eq_getD_getElem?] at hb
        cases hq : a.tmps[d]? with
        | none => rw [hq] at hb; simp [undef] at hb
        | some q => rw [hq] at hb; simp at hb; subst hb; rfl
      split at h
      · rename_i b hb
        rw [hb] at hslot
        generalize hv : a.tmps.getD d undef = v at hslot
        cases hslot
        have hy := hyield b hv
        have hfr' := put_true hg.fr hb
        cases b
        · have h := h.2 rfl
          cases want
          · have hw : Region.wanted o (yielded ops a.tmps) = true := by simp [Region.wanted, hgd, hy]
            simp only [hw, if_true]
            exact .inl (run _ hfr' h)
          · have hw : Region.wanted o (yielded ops a.tmps) = false := by simp [Region.wanted, hgd, hy]
            simp only [hw, Bool.false_eq_true, if_false]
            exact put vundef undef _ H β a w h (.val _ _) ⟨hg.step, hfr', hg.defers⟩
        · have h := h.1 rfl
          cases want
          · have hw : Region.wanted o (yielded ops a.tmps) = false := by simp [Region.wanted, hgd, hy]
            simp only [hw, Bool.false_eq_true, if_false]
            exact put vundef undef _ H β a w h (.val _ _) ⟨hg.step, hfr', hg.defers⟩
          · have hw : Region.wanted o (yielded ops a.tmps) = true := by simp [Region.wanted, hgd, hy]
            simp only [hw, if_true]
            exact .inl (run _ hfr' h)
      · rename_i vs hb
        rw [hb] at hslot
        generalize hv : a.tmps.getD d undef = v at hslot
        cases hslot
        have hy : yielded ops a.tmps j = none := by
          unfold yielded
          rw [hd]
          simp only [Option.bind_some]
          rw [Array.getD_eq_getD_getElem?] at hv
          cases hq : a.tmps[d]? with
          | none => rfl
          | some q => rw [hq] at hv; simp at hv; subst hv; rfl
        have hw : Region.wanted o (yielded ops a.tmps) = false := by simp [Region.wanted, hgd, hy]
        simp only [hw, Bool.false_eq_true, if_false]
        exact put vundef undef t H β a w h (.val _ _) hg
      · exact h.elim
theorem AWP_region {cx : Cx} (hP : cx.P = P) (hn : cx.n = n) (hT : CxOk cx) {id : Nat} {ops : Array Oper} (h : (druns cx ops ops.toList t H).all (fun s => Q s.1 s.2.1 s.2.2)) :
    AWP P n (.region id ops false) Q t H := by
  intro E H0 β0 w0 D β a w hs hg
  refine wp_region ?_
  subst hP
  subst hn
  have := runs_sound hT hs (ops := ops) (Q := Q) (D := D) ops.toList 0 t H β a w rfl h hg
  simpa [List.range_eq_range'] using this
end
end Go.Ab
