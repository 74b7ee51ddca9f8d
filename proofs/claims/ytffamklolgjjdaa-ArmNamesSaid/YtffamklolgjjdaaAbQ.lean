/-
  The engine, part Q: every operation of the evaluator is sound. Conditions: none.
-/
import Derived.Test.YtffamklolgjjdaaAbP
namespace Go.Ab
section
variable {E : Nat → Nat → Prop} {H : List O} {β : List Loc} {w : World} {n : Nat} {t : T} {a : Act} {o : Oper} {cx : Cx} {K : Act → World → Prop} {Q : Exit → Act → World → Prop}

theorem dop_sound (hT : CxOk cx) (hE : ∀ b o, E b o → b < w.heap.size ∧ ¬ Own H β b o) (hR : Rel w (Xs E H β) H β) (hF : FR w (Xs E H β) β n t a) {res : Res}
    (h : (dop cx t H o).run = some res) (hk : Then E H β w a o K Q res) : o.wp cx.P a w K Q := by
  have hrd := fun x => rd_R hF x
  have same : ∀ {s : Sem Value} {u : V}, execOp a.eval o = (do pure (Next.value (← s))) → (∃ z, s.run cx.P w = .ok z w ∧ R w (Xs E H β) β u z) → res = .ok u H → o.wp cx.P a w K Q := by
    rintro s u he ⟨z, h1, h2⟩ rfl
    exact wp_sem he h1 (hk z w β (Step.refl hR) h2)
  have some' : ∀ {s : Sem Value} {u : V} {H' : List O}, execOp a.eval o = (do pure (Next.value (← s))) →
      (∃ z w' β', s.run cx.P w = .ok z w' ∧ Step E H β w H' β' w' ∧ R w' (Xs E H' β') β' u z) → res = .ok u H' → o.wp cx.P a w K Q := by
    rintro s u H' he ⟨z, w', β', h1, h2, h3⟩ rfl
    exact wp_sem he h1 (hk z w' β' h2 h3)
  unfold dop at h
  split at h
  · -- move
    rename_i x ho
    simp only [hold, Tree.run, Option.some.injEq] at h
    subst h
    unfold Oper.wp
    simp only [execOp, ho]
    exact hk _ w β (Step.refl hR) (hrd x)
  · -- assign
    rename_i x ho
    simp only [hold, Tree.run, Option.some.injEq] at h
    subst h
    unfold Oper.wp
    simp only [execOp, ho]
    exact hk _ w β (Step.refl hR) (hrd x)
  · -- pick
    rename_i c x y ho
    split at h
    rotate_left
    · cases h
    rename_i b hb
    have hc := hrd c
    rw [hb] at hc
    generalize hev : a.eval c = cv at hc
    cases hc
    have run : ∀ u, R w (Xs E H β) β u (if b = true then a.eval x else a.eval y) → res = .ok u H → o.wp cx.P a w K Q := by
      intro u hu hr
      subst hr
      unfold Oper.wp
      simp only [execOp, ho, hev, asBool, Sem.run_bind, Sem.run_pure, Result.andThen_ok]
      exact hk _ w β (Step.refl hR) hu
    obtain ⟨u, hu, rfl⟩ := bind_hold h
    refine run u ?_ rfl
    unfold pickV at hu
    split at hu
    · rename_i p q hp hq
      simp only [Tree.run, Option.some.injEq] at hu
      subst hu
      have h1 := hrd x
      have h2 := hrd y
      rw [hp] at h1
      rw [hq] at h2
      cases b
      · simpa using h2
      · simpa using h1
    · cases b
      · simp only [Tree.run, cond_false, Option.some.injEq] at hu
        subst hu
        simpa using hrd y
      · simp only [Tree.run, cond_true, Option.some.injEq] at hu
        subst hu
        simpa using hrd x
  · -- alloc
    rename_i e ho
    split at h
    rotate_left
    · cases h
    rename_i i hi
    simp only [Tree.run, Option.some.injEq] at h
    obtain ⟨w', β', h1, h2, h3⟩ := sound_alloc (P := cx.P) hR hi
    exact some' (s := Instr.alloc e true (.tuple #[])) (by simp only [execOp, ho]) ⟨_, w', β', h1, h2, h3⟩ h.symm
  · -- box
    rename_i e x ho
    split at h
    rotate_left
    · cases h
    rename_i cs hcs
    simp only [Tree.run, Option.some.injEq] at h
    obtain ⟨w', β', h1, h2, h3⟩ := sound_box (P := cx.P) (e := e) hR (hrd x) hcs
    exact some' (s := Instr.box e (a.eval x)) (by simp only [execOp, ho]) ⟨_, w', β', h1, h2, h3⟩ h.symm
  · -- build
    rename_i ty parts ho
    obtain ⟨u, hu, rfl⟩ := holdO_run h
    refine same (s := Instr.build ty (parts.map fun (i, x) => (i, a.eval x))) (by simp only [execOp, ho]) (sound_build (by simp) ?_ hu) rfl
    have := pieces_get (a := a) (l := parts.toList) hrd
    simpa using this
  · -- buildSlice
    rename_i ty len parts ho
    unfold bothO at h
    split at h
    rotate_left
    · cases h
    rename_i p hp
    obtain ⟨u, H'⟩ := p
    simp only [Tree.run, Option.some.injEq] at h
    refine some' (s := Instr.buildSlice ty len (parts.map fun (i, x) => (i, a.eval x))) (by simp only [execOp, ho]) (sound_buildSlice hE hR (by simp) ?_ hp) h.symm
    have := pieces_get (a := a) (l := parts.toList) hrd
    simpa using this
  · -- load
    rename_i ty x ho
    obtain ⟨u, hu, rfl⟩ := holdO_run h
    exact same (s := Instr.loadAt ty (a.eval x)) (by simp only [execOp, ho]) (sound_load hR (hrd x) hu) rfl
  · -- store
    rename_i ty x v ho
    split at h
    rotate_left
    · cases h
    rename_i H' hH
    simp only [Tree.run, Option.some.injEq] at h
    subst h
    obtain ⟨w', h1, h2⟩ := sound_store (P := cx.P) hR (hrd x) (hrd v) hH
    exact wp_unit (s := Instr.storeAt ty (a.eval x) (a.eval v)) (by simp only [execOp, ho]) h1 (hk undef w' β h2 (.any _ _))
  · -- nilCheck
    rename_i x ho
    have run : ∀ u b o', a.eval x = .pointer (some ⟨b, o', none⟩) → R w (Xs E H β) β u (a.eval x) → res = .ok u H → o.wp cx.P a w K Q := by
      intro u b o' he hu hr
      subst hr
      unfold Oper.wp
      simp only [execOp, ho, he, Sem.run_pure]
      rw [he] at hu
      exact hk _ w β (Step.refl hR) hu
    have hx := hrd x
    split at h
    · rename_i id off hv
      simp only [hold, Tree.run, Option.some.injEq] at h
      rw [hv] at hx
      generalize he : a.eval x = xv at hx run
      have hx' := hx
      cases hx
      exact run _ _ _ rfl hx' h.symm
    · rename_i cells hv
      simp only [hold, Tree.run, Option.some.injEq] at h
      rw [hv] at hx
      generalize he : a.eval x = xv at hx run
      have hx' := hx
      cases hx
      exact run _ _ _ rfl hx' h.symm
    · cases h
  · -- binOp
    rename_i op ty x y _ ho
    obtain ⟨u, hu, rfl⟩ := bind_hold h
    exact same (s := bin op ty x y (a.eval x) (a.eval y)) (by simp only [execOp, ho, bin]) (sound_bin (hrd x) (hrd y) hu) rfl
  · -- unOp
    rename_i op _ x ho
    obtain ⟨u, hu, rfl⟩ := holdO_run h
    exact same (s := Op.unary op (a.eval x)) (by simp only [execOp, ho]) (sound_un (hrd x) hu) rfl
  · -- convert
    rename_i src dst x ho
    obtain ⟨u, hu, rfl⟩ := holdO_run h
    exact same (s := convert src dst (a.eval x)) (by simp only [execOp, ho]) (sound_convert hR (hrd x) hu) rfl
  · -- makeFunc
    rename_i fn first captured ho
    simp only [hold, Tree.run, Option.some.injEq] at h
    refine same (s := Instr.makeFunc fn (first.map a.eval) (captured.map a.eval)) (by simp only [execOp, ho]) ⟨.func fn (first.toList.map a.eval).toArray (captured.toList.map a.eval).toArray, ?_, ?_⟩ h.symm
    · have e1 : (first.toList.map a.eval).toArray = first.map a.eval := by apply Array.ext'; simp
      have e2 : (captured.toList.map a.eval).toArray = captured.map a.eval := by apply Array.ext'; simp
      rw [e1, e2]; rfl
    · have get : ∀ (l : List Operand) (k : Nat) (v : V) (x : Value), (l.map (rd t))[k]? = some v → (l.map a.eval)[k]? = some x → R w (Xs E H β) β v x := by
        intro l k v x h1 h2
        simp only [List.getElem?_map, Option.map_eq_some_iff] at h1 h2
        obtain ⟨u, hu, rfl⟩ := h1
        obtain ⟨u', hu', rfl⟩ := h2
        rw [hu] at hu'
        simp only [Option.some.injEq] at hu'
        subst hu'
        exact hrd u
      exact .clo β fn _ _ _ _ (by simp) (by simp) (get _) (get _)
  · -- makeSlice
    rename_i ty l c ho
    obtain ⟨u, H', hu, rfl⟩ := bind_both h
    exact some' (s := Instr.makeSlice ty (a.eval l) (a.eval c)) (by simp only [execOp, ho]) (sound_makeSlice hE hR (hrd l) (hrd c) hu) rfl
  · -- slice
    rename_i ty x lo hi ho
    obtain ⟨u, hu, rfl⟩ := bind_hold h
    exact same (s := Instr.sliceAt ty (a.eval x) (lo.map a.eval) (hi.map a.eval) none) (by simp only [execOp, ho, Option.map_none]) (sound_slice hR (hrd x) (optR_map hrd lo) (optR_map hrd hi) hu) rfl
  · -- fieldAddr
    rename_i ty x f ho
    obtain ⟨u, hu, rfl⟩ := holdO_run h
    exact same (s := Instr.fieldAt ty (a.eval x) f) (by simp only [execOp, ho]) (sound_fieldAddr (hrd x) hu) rfl
  · -- field
    rename_i ty x f ho
    obtain ⟨u, hu, rfl⟩ := holdO_run h
    exact same (s := Instr.field ty (a.eval x) f) (by simp only [execOp, ho]) (sound_field (hrd x) hu) rfl
  · -- indexAddr
    rename_i ty x i ho
    obtain ⟨u, hu, rfl⟩ := bind_hold h
    exact same (s := Instr.indexAt ty (a.eval x) (a.eval i)) (by simp only [execOp, ho]) (sound_indexAddr (hrd x) (hrd i) hu) rfl
  · -- index
    rename_i ty x i ho
    obtain ⟨u, hu, rfl⟩ := bind_hold h
    exact same (s := Instr.index ty (a.eval x) (a.eval i)) (by simp only [execOp, ho]) (sound_index (hrd x) (hrd i) hu) rfl
  · -- extract
    rename_i x i ho
    split at h
    rotate_left
    · cases h
    rename_i vs hvs
    obtain ⟨u, hu, rfl⟩ := holdO_run h
    have hx := hrd x
    rw [hvs] at hx
    generalize he : a.eval x = xv at hx
    cases hx with
    | tup _ _ xs hl hr =>
      have hi : i < xs.length := by rw [hl]; exact (List.getElem?_eq_some_iff.1 hu).1
      exact same (s := Instr.extract (a.eval x) i) (by simp only [execOp, ho]) ⟨xs[i], by rw [he]; simp [Instr.extract, hi], hr i u _ hu (by simp [hi])⟩ rfl
  · -- makeInterface
    rename_i ty x ho
    split at h
    · cases h
    · rename_i d hu hd
      simp only [hold, Tree.run, Option.some.injEq] at h
      refine same (s := Instr.makeInterface ty (a.eval x)) (by simp only [execOp, ho]) ⟨.iface ty (a.eval x), ?_, .ifc β ty _ _ (hrd x)⟩ h.symm
      simp only [Instr.makeInterface, Sem.run_bind, run_und w hd, Result.andThen_ok]
      cases d <;> first | rfl | (exfalso; simp_all)
    · cases h
  · -- builtin
    rename_i b args argTypes ho
    have he : execOp a.eval o = (builtin b argTypes o.type (args.map fun | .const _ => true | _ => false) (args.map a.eval)) := by
      simp only [execOp, ho, resolve, invoke]
      rfl
    have val : ∀ {s : Sem Value} {u : V} {H' : List O}, builtin b argTypes o.type (args.map fun | .const _ => true | _ => false) (args.map a.eval) = (do pure (Next.value (← s))) →
        (∃ z w' β', s.run cx.P w = .ok z w' ∧ Step E H β w H' β' w' ∧ R w' (Xs E H' β') β' u z) → res = .ok u H' → o.wp cx.P a w K Q := by
      intro s u H' hb
      exact some' (he.trans hb)
    have two : ∀ x y, args.toList = [x, y] → args.map a.eval = #[a.eval x, a.eval y] := by
      intro x y h; apply Array.ext'; simp [h]
    have one : ∀ x, args.toList = [x] → args.map a.eval = #[a.eval x] := by
      intro x h; apply Array.ext'; simp [h]
    unfold oBuiltin at h
    split at h
    · rename_i s x hargs
      obtain ⟨x1, x2, hl, rfl, rfl⟩ : ∃ x1 x2, args.toList = [x1, x2] ∧ s = rd t x1 ∧ x = rd t x2 := by
        rcases hl : args.toList with _ | ⟨x1, _ | ⟨x2, _ | ⟨_, _⟩⟩⟩ <;> simp [hl] at hargs
        exact ⟨x1, x2, rfl, hargs.1.symm, hargs.2.symm⟩
      obtain ⟨u, H', hu, rfl⟩ := bind_both h
      exact val (s := Builtin.append_ argTypes o.type (args.map a.eval)) rfl (by rw [two _ _ hl]; exact sound_append hE hR (hrd x1) (hrd x2) hu) rfl
    · rename_i x hargs
      obtain ⟨x1, hl, rfl⟩ : ∃ x1, args.toList = [x1] ∧ x = rd t x1 := by
        rcases hl : args.toList with _ | ⟨x1, _ | ⟨_, _⟩⟩ <;> simp [hl] at hargs
        exact ⟨x1, rfl, hargs.symm⟩
      obtain ⟨u, hu, rfl⟩ := holdO_run h
      obtain ⟨z, h1, h2⟩ := sound_len (ty := o.type) (hrd x1) hu
      exact val (s := Builtin.len_ argTypes o.type (args.map a.eval)) rfl ⟨z, w, β, by rw [one _ hl]; exact h1, Step.refl hR, h2⟩ rfl
    · rename_i x hargs
      obtain ⟨x1, hl, rfl⟩ : ∃ x1, args.toList = [x1] ∧ x = rd t x1 := by
        rcases hl : args.toList with _ | ⟨x1, _ | ⟨_, _⟩⟩ <;> simp [hl] at hargs
        exact ⟨x1, rfl, hargs.symm⟩
      obtain ⟨u, hu, rfl⟩ := holdO_run h
      obtain ⟨z, h1, h2⟩ := sound_cap (ty := o.type) hR (hrd x1) hu
      exact val (s := Builtin.cap_ argTypes o.type (args.map a.eval)) rfl ⟨z, w, β, by rw [one _ hl]; exact h1, Step.refl hR, h2⟩ rfl
    · rename_i s x hargs
      obtain ⟨x1, x2, hl, rfl, rfl⟩ : ∃ x1 x2, args.toList = [x1, x2] ∧ s = rd t x1 ∧ x = rd t x2 := by
        rcases hl : args.toList with _ | ⟨x1, _ | ⟨x2, _ | ⟨_, _⟩⟩⟩ <;> simp [hl] at hargs
        exact ⟨x1, x2, rfl, hargs.1.symm, hargs.2.symm⟩
      obtain ⟨u, hu, rfl⟩ := holdO_run h
      obtain ⟨z, h1, h2⟩ := sound_max (argTypes := argTypes) (ty := o.type) (hrd x1) (hrd x2) hu
      exact val (s := Builtin.max_ argTypes o.type (args.map a.eval)) rfl ⟨z, w, β, by rw [two _ _ hl]; exact h1, Step.refl hR, h2⟩ rfl
    · rename_i s x hargs
      obtain ⟨x1, x2, hl, rfl, rfl⟩ : ∃ x1 x2, args.toList = [x1, x2] ∧ s = rd t x1 ∧ x = rd t x2 := by
        rcases hl : args.toList with _ | ⟨x1, _ | ⟨x2, _ | ⟨_, _⟩⟩⟩ <;> simp [hl] at hargs
        exact ⟨x1, x2, rfl, hargs.1.symm, hargs.2.symm⟩
      obtain ⟨u, hu, rfl⟩ := holdO_run h
      obtain ⟨z, h1, h2⟩ := sound_min (argTypes := argTypes) (ty := o.type) (hrd x1) (hrd x2) hu
      exact val (s := Builtin.min_ argTypes o.type (args.map a.eval)) rfl ⟨z, w, β, by rw [two _ _ hl]; exact h1, Step.refl hR, h2⟩ rfl
    · rename_i ty v hargs
      obtain ⟨x1, hl, hv⟩ : ∃ x1, args.toList = [x1] ∧ rd t x1 = .ifc ty v := by
        rcases hl : args.toList with _ | ⟨x1, _ | ⟨_, _⟩⟩ <;> simp [hl] at hargs
        exact ⟨x1, rfl, hargs⟩
      simp only [Tree.run, Option.some.injEq] at h
      subst h
      have hx := hrd x1
      rw [hv] at hx
      generalize hev : a.eval x1 = xv at hx
      have hx' := hx
      cases hx
      unfold Oper.wp
      rw [he]
      simp only [builtin, one _ hl, hev]
      exact hk _ w β (Step.refl hR) hx'
    · cases h
  · -- call
    rename_i f args argTypes ho
    exact sound_call rfl hT.1 hT.2 hE hR hF ho rfl h hk
  · cases h

end
end Go.Ab
