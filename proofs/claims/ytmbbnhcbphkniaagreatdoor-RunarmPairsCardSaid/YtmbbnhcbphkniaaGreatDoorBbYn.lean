/-
  The engine, part Yn: a function that lays one call by, in a branch. Conditions: none.
-/
import Derived.Test.YtmbbnhcbphkniaaGreatDoorEnJ
import Derived.Test.YtmbbnhcbphkniaaGreatDoorBbYl
import Derived.Test.YtmbbnhcbphkniaaGreatDoorBbYf
namespace Go.Ab

/-- A region that ends with a call that is laid by: what is ahead; whose call; of what. -/
def layLast : List Oper → Option (List Oper × Oper × Nat × List Operand)
  | [] => none
  | [o] => match o.op, o.dst, o.guard with
    | .defer { callee := .value (.func g), args, .. }, none, none => some ([], o, g, args.toList)
    | _, _, _ => none
  | o :: r => match layLast r with
    | some (l, d, g, as) => some (o :: l, d, g, as)
    | none => none

abbrev Lay := Option (Nat × List V)

def dlay (cx : Cx) (g : Nat) (as : List Operand) : St → Tree (St × Lay)
  | (.normal, t, H) => .leaf ((.normal, keep cx.keeps t, H), some (g, as.map (rd t)))
  | _ => .fail
def dthen (cx : Cx) (b : Code) (kl : T → List O → Tree (St × Lay)) : St × Lay → Tree (St × Lay)
  | ((.normal, t, H), none) => kl t H
  | ((.normal, t, H), some d) => (dcode cx b t H).bind fun s => .leaf (s, some d)
  | s => .leaf s
def dblk (id : Nat) : St × Lay → Tree (St × Lay)
  | ((.exit j, t, H), d) => .leaf ((cond (Nat.beq j id) .normal (.exit j), t, H), d)
  | s => .leaf s

/-- Code that lays one call by on its way, or none. -/
def dcodeL (cx : Cx) : Code → T → List O → Tree (St × Lay)
  | .seq a b, t, H => (dcodeL cx a t H).bind (dthen cx b (dcodeL cx b))
  | .cond (.tmp d) a b, t, H => (match get d t with
    | .bool v => .br v (dcodeL cx a (put d (.bool true) t) H) (dcodeL cx b (put d (.bool false) t) H)
    | _ => .fail)
  | .block id c, t, H => (dcodeL cx c t H).bind (dblk id)
  | .region id ops false, t, H => match layLast ops.toList with
    | some (l, _, g, as) => (druns { cx with keeps := List.range cx.n } ops l t H).bind (dlay cx g as)
    | none => (dcode cx (.region id ops false) t H).bind fun s => .leaf (s, none)
  | c, t, H => (dcode cx c t H).bind fun s => .leaf (s, none)

/-- The call that was laid by, at last. -/
def layEnd (P : Program) (cl : Cx) (rs : List ResultVar) (g : Nat) (fg : Func) : St × Lay → Tree Res
  | (s, none) => answerM P rs s
  | (s, some (g', vs)) => cond (Nat.beq g' g && Nat.ble vs.length fg.ntmps) (match s with
    | (.ret, t, H) | (.normal, t, H) => (mfun cl fg vs H).bind fun r => match r with
      | .ok _ H => answerM P rs (.ret, t, H)
      | .pan _ _ => .fail
    | _ => .fail) .fail

/-- A function that may lay a call of one function by; that function's number and text; the contexts of both. -/
def dfunL (cx cl : Cx) (fn : Func) (g : Nat) (fg : Func) (args : List V) (H : List O) : Tree Res :=
  match fn.body with
  | some c => (dcodeL { cx with n := fn.ntmps } c (initT 0 args) H).bind (layEnd cx.P cl fn.results.toList g fg)
  | none => .fail

section
variable {P : Program} {E : Nat → Nat → Prop} {H : List O} {β : List Loc} {w : World} {X : Nat → Nat → Prop}

theorem layLast_spec : ∀ {ops l : List Oper} {o : Oper} {g : Nat} {as : List Operand}, layLast ops = some (l, o, g, as) →
    ops = l ++ [o] ∧ ∃ c, o.op = .defer c ∧ c.callee = .value (.func g) ∧ c.args.toList = as ∧ o.dst = none ∧ o.guard = none
  | [], _, _, _, _, h => by cases h
  | [o'], l, o, g, as, h => by
    unfold layLast at h
    split at h
    · rename_i g' args at' h1 h2 h3
      simp only [Option.some.injEq, Prod.mk.injEq] at h
      obtain ⟨rfl, rfl, rfl, rfl⟩ := h
      exact ⟨rfl, _, h1, rfl, rfl, h2, h3⟩
    · cases h
  | o1 :: o2 :: r, l, o, g, as, h => by
    unfold layLast at h
    split at h
    rotate_left
    · cases h
    rename_i l' d g' as' h1
    simp only [Option.some.injEq, Prod.mk.injEq] at h
    obtain ⟨rfl, rfl, rfl, rfl⟩ := h
    obtain ⟨e, rest⟩ := layLast_spec h1
    exact ⟨by rw [e]; rfl, rest⟩

def PostL (E : Nat → Nat → Prop) (H0 : List O) (β0 : List Loc) (w0 : World) (n : Nat) (s : St) (d : Lay) (e : Exit) (a : Act) (w : World) : Prop :=
  match d with
  | none => Post E H0 β0 w0 n [] (fun e t H => (e, t, H) = s) e a w
  | some (g, vs) => ∃ (xs : List Value) (H1 : List O) (β1 : List Loc) (w1 : World), Step E H0 β0 w0 H1 β1 w1 ∧ xs.length = vs.length ∧ (∀ (k : Nat) (v : V) (x : Value), vs[k]? = some v → xs[k]? = some x → R w1 (Xs E H1 β1) β1 v x) ∧
      Post E H1 β1 w1 n [{ target := .fn (.func g) #[], args := xs.toArray }] (fun e t H => (e, t, H) = s) e a w

theorem inBlock_mono {id : Nat} {Q Q' : Exit → Act → World → Prop} (h : ∀ e a w, Q e a w → Q' e a w) {e : Exit} {a : Act} {w : World} (hq : Exit.inBlock id Q e a w) : Exit.inBlock id Q' e a w := by
  cases e with
  | exit j =>
    simp only [Exit.inBlock] at hq ⊢
    by_cases hj : j = id
    · simp only [hj, if_true] at hq ⊢
      exact h _ _ _ hq
    · simp only [hj, if_false] at hq ⊢
      exact h _ _ _ hq
  | _ => exact h _ _ _ hq

theorem wp_dcodeL {cx : Cx} (hT : CxOk cx) {H0 : List O} {β0 : List Loc} {w0 : World} (hs : StartOk cx.P E H0 β0 w0) : ∀ (c : Code) (t : T) (H : List O) (s : St) (d : Lay), (dcodeL cx c t H).run = some (s, d) →
    ∀ β a w, Good E H0 β0 w0 cx.n [] t H β a w → c.wp cx.P (PostL E H0 β0 w0 cx.n s d) a w := by
  intro c
  have plain : ∀ (c : Code) (t : T) (H : List O) (s : St) (d : Lay), ((dcode cx c t H).bind fun s => Tree.leaf (s, (none : Lay))).run = some (s, d) →
      ∀ β a w, Good E H0 β0 w0 cx.n [] t H β a w → c.wp cx.P (PostL E H0 β0 w0 cx.n s d) a w := by
    intro c t H s d h β a w hg
    obtain ⟨s', h1, h2⟩ := bind_run h
    simp only [Tree.run, Option.some.injEq, Prod.mk.injEq] at h2
    obtain ⟨rfl, rfl⟩ := h2
    exact wp_mono (wp_plain hT h1 hs hg) fun _ _ _ hp => hp
  induction c with
  | seq x y ihx ihy =>
    intro t H s d h β a w hg
    obtain ⟨⟨s', d'⟩, h1, h2⟩ := bind_run h
    refine wp_seq (wp_mono (ihx t H s' d' h1 β a w hg) ?_)
    intro e a' w' hp
    obtain ⟨ex, t', H'⟩ := s'
    cases d' with
    | none =>
      cases e with
      | normal =>
        obtain ⟨t2, H2, β2, hq, hg2⟩ := hp
        cases hq
        exact ihy t' H' s d h2 β2 a' w' hg2
      | exit id =>
        obtain ⟨t2, H2, β2, hq, hg2⟩ := hp
        cases hq
        simp only [dthen, Tree.run, Option.some.injEq, Prod.mk.injEq] at h2
        obtain ⟨rfl, rfl⟩ := h2
        exact ⟨t', H', β2, rfl, hg2⟩
      | ret =>
        obtain ⟨t2, H2, β2, hq, hg2⟩ := hp
        cases hq
        simp only [dthen, Tree.run, Option.some.injEq, Prod.mk.injEq] at h2
        obtain ⟨rfl, rfl⟩ := h2
        exact ⟨t', H', β2, rfl, hg2⟩
      | panic ch =>
        obtain ⟨t2, H2, β2, v, x, hq, hg2⟩ := hp
        cases hq
        simp only [dthen, Tree.run, Option.some.injEq, Prod.mk.injEq] at h2
        obtain ⟨rfl, rfl⟩ := h2
        exact ⟨t', H', β2, v, x, rfl, hg2⟩
      | goto l => exact hp.elim
      | outgrown => exact hp.elim
    | some p =>
      obtain ⟨g, vs⟩ := p
      obtain ⟨xs, H1, β1, w1, hst, hl, hr, hp⟩ := hp
      cases e with
      | normal =>
        obtain ⟨t2, H2, β2, hq, hg2⟩ := hp
        cases hq
        obtain ⟨s3, h3, h4⟩ := bind_run h2
        simp only [Tree.run, Option.some.injEq, Prod.mk.injEq] at h4
        obtain ⟨rfl, rfl⟩ := h4
        exact wp_mono (wp_plain hT h3 (hs.now hst) hg2) fun e a w hp => ⟨xs, H1, β1, w1, hst, hl, hr, hp⟩
      | exit id =>
        obtain ⟨t2, H2, β2, hq, hg2⟩ := hp
        cases hq
        simp only [dthen, Tree.run, Option.some.injEq, Prod.mk.injEq] at h2
        obtain ⟨rfl, rfl⟩ := h2
        exact ⟨xs, H1, β1, w1, hst, hl, hr, t', H', β2, rfl, hg2⟩
      | ret =>
        obtain ⟨t2, H2, β2, hq, hg2⟩ := hp
        cases hq
        simp only [dthen, Tree.run, Option.some.injEq, Prod.mk.injEq] at h2
        obtain ⟨rfl, rfl⟩ := h2
        exact ⟨xs, H1, β1, w1, hst, hl, hr, t', H', β2, rfl, hg2⟩
      | panic ch =>
        obtain ⟨t2, H2, β2, v, x, hq, hg2⟩ := hp
        cases hq
        simp only [dthen, Tree.run, Option.some.injEq, Prod.mk.injEq] at h2
        obtain ⟨rfl, rfl⟩ := h2
        exact ⟨xs, H1, β1, w1, hst, hl, hr, t', H', β2, v, x, rfl, hg2⟩
      | goto l => exact hp.elim
      | outgrown => exact hp.elim
  | cond o x y ihx ihy =>
    intro t H s d h β a w hg
    cases o with
    | tmp k =>
      unfold dcodeL at h
      split at h
      rotate_left
      · cases h
      rename_i b hb
      have hx := rd_R hg.fr (.tmp k)
      simp only [rd, hb] at hx
      generalize he : a.eval (.tmp k) = v at hx
      cases hx
      have hg' : Good E H0 β0 w0 cx.n [] (put k (.bool b) t) H β a w := ⟨hg.step, put_true hg.fr hb, hg.defers⟩
      refine wp_cond he ?_
      cases b
      · exact ihy _ H s d h β a w hg'
      · exact ihx _ H s d h β a w hg'
    | _ => exact plain _ t H s d h β a w hg
  | block id x ih =>
    intro t H s d h β a w hg
    obtain ⟨⟨s', d'⟩, h1, h2⟩ := bind_run h
    refine wp_block (wp_mono (ih t H s' d' h1 β a w hg) ?_)
    intro e a' w' hp
    obtain ⟨ex, t', H'⟩ := s'
    have key : ∀ {D E1 H1 β1 w1}, Post E1 H1 β1 w1 cx.n D (fun e t H => (e, t, H) = (ex, t', H')) e a' w' → d' = d ∧ Exit.inBlock id (Post E1 H1 β1 w1 cx.n D fun e t H => (e, t, H) = s) e a' w' := by
      intro D E1 H1 β1 w1 hp
      cases e with
      | normal =>
        obtain ⟨t2, H2, β2, hq, hg2⟩ := hp
        cases hq
        simp only [dblk, Tree.run, Option.some.injEq, Prod.mk.injEq] at h2
        obtain ⟨rfl, rfl⟩ := h2
        exact ⟨rfl, t', H', β2, rfl, hg2⟩
      | exit j =>
        obtain ⟨t2, H2, β2, hq, hg2⟩ := hp
        cases hq
        simp only [dblk, Tree.run, Option.some.injEq, Prod.mk.injEq] at h2
        obtain ⟨rfl, rfl⟩ := h2
        refine ⟨rfl, ?_⟩
        simp only [Exit.inBlock]
        by_cases hj : j = id
        · subst hj
          simp only [if_true]
          exact ⟨t', H', β2, by rw [Nat.beq_refl]; rfl, hg2⟩
        · simp only [hj, if_false]
          have : Nat.beq j id = false := by
            cases hb : Nat.beq j id
            · rfl
            · exact absurd (Nat.eq_of_beq_eq_true hb) hj
          exact ⟨t', H', β2, by rw [this]; rfl, hg2⟩
      | ret =>
        obtain ⟨t2, H2, β2, hq, hg2⟩ := hp
        cases hq
        simp only [dblk, Tree.run, Option.some.injEq, Prod.mk.injEq] at h2
        obtain ⟨rfl, rfl⟩ := h2
        exact ⟨rfl, t', H', β2, rfl, hg2⟩
      | panic ch =>
        obtain ⟨t2, H2, β2, v, x, hq, hg2⟩ := hp
        cases hq
        simp only [dblk, Tree.run, Option.some.injEq, Prod.mk.injEq] at h2
        obtain ⟨rfl, rfl⟩ := h2
        exact ⟨rfl, t', H', β2, v, x, rfl, hg2⟩
      | goto l => exact hp.elim
      | outgrown => exact hp.elim
    cases d' with
    | none =>
      obtain ⟨rfl, q⟩ := key hp
      exact q
    | some p =>
      obtain ⟨g, vs⟩ := p
      obtain ⟨xs, H1, β1, w1, hst, hl, hr, hp⟩ := hp
      obtain ⟨rfl, q⟩ := key hp
      exact inBlock_mono (fun e a w hq => ⟨xs, H1, β1, w1, hst, hl, hr, hq⟩) q
  | region id ops draw =>
    intro t H s d h β a w hg
    cases draw with
    | true => exact plain _ t H s d h β a w hg
    | false =>
      unfold dcodeL at h
      split at h
      rotate_left
      · exact plain _ t H s d h β a w hg
      rename_i l o g as hlay
      obtain ⟨hops, c, e1, e2, e3, e4, e5⟩ := layLast_spec hlay
      obtain ⟨s', h1, h2⟩ := bind_run h
      obtain ⟨ex, t', H'⟩ := s'
      cases ex with
      | exit _ => cases h2
      | ret => cases h2
      | panic _ => cases h2
      | normal =>
      simp only [dlay, Tree.run, Option.some.injEq, Prod.mk.injEq] at h2
      obtain ⟨rfl, rfl⟩ := h2
      refine wp_region ?_
      have hsz : ops.size = l.length + 1 := by
        have := congrArg List.length hops
        simpa using this
      have hl : List.range ops.size = List.range' 0 (l.length + [o].length) := by
        rw [List.range_eq_range', hsz]
        rfl
      rw [hl]
      refine runs_cont (cx := { cx with keeps := List.range cx.n }) hT hs (D := []) (Q := fun e t H => (e, t, H) = (AEx.normal, t', H')) (l2 := [o]) (fun v t H hq => by cases hq) l 0 t H β a w hops (Tree.run_all h1 rfl) ?_ hg
      intro t2 H2 β2 a2 w2 hq hg2
      cases hq
      have hget : ops[0 + l.length]? = some o := by
        have : ops.toList[l.length]? = some o := by rw [hops]; simp
        simpa using this
      have hw : ∀ y, Region.wanted o y = true := fun y => by simp [Region.wanted, e5]
      simp only [List.length_cons, List.length_nil, Nat.zero_add, List.range'_succ, List.range'_zero, wpOps] at hget ⊢
      simp only [hget, hw, if_true]
      refine .inl ?_
      have r2 : (execOp a2.eval o).run cx.P w2 = .ok (.defer { target := .fn (.func g) #[], args := (as.map a2.eval).toArray }) w2 := by
        have hmap : c.args.map a2.eval = (as.map a2.eval).toArray := by rw [← e3]; apply Array.ext'; simp
        simp only [execOp, e1, resolve, e2, Deferred.ofValue, Act.eval]
        simp [hmap]
      unfold Oper.wp
      rw [r2, Oper.upon_defer]
      simp only [e4, Act.put]
      refine ⟨as.map a2.eval, H', β2, w2, hg2.step, by simp, ?_, keep cx.keeps t', H', β2, rfl, Step.refl hg2.step.rel, ?_, by rw [hg2.defers]⟩
      · intro k v x hv hx
        simp only [List.getElem?_map, Option.map_eq_some_iff] at hv hx
        obtain ⟨u, hu, rfl⟩ := hv
        obtain ⟨u', hu', rfl⟩ := hx
        rw [hu] at hu'
        simp only [Option.some.injEq] at hu'
        subst hu'
        exact rd_R hg2.fr u
      · exact ⟨hg2.fr.size, fun k => (hg2.fr.keep cx.keeps).slot k⟩
  | _ => exact plain _

/-- A call that is laid by, of a function that does not recover. -/
theorem callsD_mfun {cx : Cx} (hT : CxOk cx) {g : Nat} {fn : Func} {args : List V} {v : V} {H' : List O} {rargs : List Value} {u : FrameMode} (hf : cx.P.funcs[g]? = some fn)
    (h : (mfun cx fn args H).run = some (.ok v H')) (hE : StartOk cx.P E H β w) (hR : Rel w (Xs E H β) H β) (hlen : rargs.length = args.length) (hn : args.length ≤ fn.ntmps)
    (hargs : ∀ (k : Nat) (v : V) (x : Value), args[k]? = some v → rargs[k]? = some x → R w (Xs E H β) β v x) :
    CallsD cx.P g rargs.toArray u w fun e u' w' => u' = u ∧ (∃ y, e = .returned y) ∧ ∃ β', Step E H β w H' β' w' := by
  unfold mfun at h
  split at h
  rotate_left
  · cases h
  rename_i c hb
  obtain ⟨s, h1, h2⟩ := bind_run h
  have hg : Good E H β w fn.ntmps [] (initT 0 args) H β _ w := ⟨Step.refl hR, fr_init hlen hn hargs, rfl⟩
  refine callsD_of_wp hf hb (wp_mono (AWP_code (cx := { cx with n := fn.ntmps }) rfl rfl hT c _ _ _ (Tree.run_all h1 (answerM_post h2)) E H β w [] β _ w hE hg) ?_)
  intro e a w' hp
  have fin : ∀ t H2 β2 ex, MPost cx.P fn (.ok v H') ex t H2 → Good E H β w fn.ntmps [] t H2 β2 a w' →
      a.defers = [] ∧ ∃ y, (results fn a.tmps).run cx.P w' = .ok y w' ∧ ((∃ z, Ending.returned y = .returned z) ∧ ∃ β', Step E H β w H' β' w') := by
    intro t H2 β2 ex hq hg
    obtain ⟨_, rfl, h3⟩ := hq
    obtain ⟨y, q1, q2⟩ := answerI_R hg.step.rel hg.fr h3
    exact ⟨hg.defers, y, q1, ⟨y, rfl⟩, β2, hg.step⟩
  cases e with
  | normal => obtain ⟨t, H2, β2, hq, hg⟩ := hp; exact fin t H2 β2 _ hq hg
  | ret => obtain ⟨t, H2, β2, hq, hg⟩ := hp; exact fin t H2 β2 _ hq hg
  | exit id => obtain ⟨t, H2, β2, hq, hg⟩ := hp; rcases hq.1 with h | h <;> cases h
  | panic ch => obtain ⟨t, H2, β2, v, x, hq, hg, _⟩ := hp; rcases hq.1 with h | h <;> cases h
  | goto l => exact hp.elim
  | outgrown => exact hp.elim

/-- A function that may lay a call by. -/
theorem mcall_lay {cx cl : Cx} {f g : Nat} {fn fg : Func} {args : List V} {r : Res} (hT : CxOk cx) (hL : CxOk cl) (hP : cl.P = cx.P) (hf : cx.P.funcs[f]? = some fn)
    (hname : (fn.name == "runtime.NumGoroutine") = false) (hg : cx.P.funcs[g]? = some fg) (hgname : (fg.name == "runtime.NumGoroutine") = false) (hn : Nat.ble args.length fn.ntmps = true)
    (h : (dfunL cx cl fn g fg args H).run = some r) : MCall cx.P f args H r := by
  have hname : fn.name ≠ "runtime.NumGoroutine" := by intro e; rw [e] at hname; simp at hname
  have hgname : fg.name ≠ "runtime.NumGoroutine" := by intro e; rw [e] at hgname; simp at hgname
  unfold dfunL at h
  split at h
  rotate_left
  · cases h
  rename_i c hb
  obtain ⟨⟨s, d⟩, h1, h2⟩ := bind_run h
  refine ⟨⟨fn, hf, hname, by simp [hb]⟩, ?_⟩
  intro w E β rargs hE hrel hlen hargs
  refine calls_of_wp_defers hf hb ?_
  have hgood : Good E H β w fn.ntmps [] (initT 0 args) H β _ w := ⟨Step.refl hrel, fr_init hlen (Nat.le_of_ble_eq_true hn) hargs, rfl⟩
  refine wp_mono (wp_dcodeL (cx := { cx with n := fn.ntmps }) hT hE c _ _ s d h1 β _ w hgood) ?_
  intro e a w' hp
  cases d with
  | none =>
    have fin : ∀ t H2 β2, answerM cx.P fn.results.toList (.ret, t, H2) = answerM cx.P fn.results.toList s → Good E H β w fn.ntmps [] t H2 β2 a w' → Leaves cx.P fn a.tmps (Outcome E H β w r) a.defers .returning w' := by
      intro t H2 β2 hs hg
      rw [hg.defers]
      have h2 : (answerM cx.P fn.results.toList (.ret, t, H2)).run = some r := by rw [hs]; exact h2
      unfold answerM at h2
      simp only at h2
      split at h2
      rotate_left
      · cases h2
      rename_i v hv
      simp only [Tree.run, Option.some.injEq] at h2
      subst h2
      obtain ⟨y, q1, q2⟩ := answerI_R hg.step.rel hg.fr hv
      exact ⟨y, q1, y, β2, rfl, hg.step, q2⟩
    cases e with
    | normal => obtain ⟨t, H, β, hq, hg⟩ := hp; subst hq; exact fin t H β rfl hg
    | ret => obtain ⟨t, H, β, hq, hg⟩ := hp; subst hq; exact fin t H β rfl hg
    | exit id => obtain ⟨t, H, β, hq, hg⟩ := hp; subst hq; cases h2
    | panic ch =>
      obtain ⟨t, H, β, v, x, hq, hg, hx, rfl⟩ := hp
      subst hq
      simp only [layEnd, answerM, Tree.run, Option.some.injEq] at h2
      subst h2
      simp only [bodyPostD, hg.defers]
      exact ⟨x, β, rfl, hg.step, hx⟩
    | goto l => exact hp.elim
    | outgrown => exact hp.elim
  | some p =>
    obtain ⟨g', vs⟩ := p
    obtain ⟨xs, H1, β1, w1, hst, hl, hr, hp⟩ := hp
    unfold layEnd at h2
    split at h2
    · rename_i heq; cases heq
    rename_i s' g2 vs2 heq
    simp only [Prod.mk.injEq, Option.some.injEq] at heq
    obtain ⟨rfl, rfl, rfl⟩ := heq
    cases hbq : (Nat.beq g' g && Nat.ble vs.length fg.ntmps)
    · rw [hbq] at h2; cases h2
    rw [hbq, cond_true] at h2
    obtain ⟨b1, b2⟩ := Bool.and_eq_true_iff.1 hbq
    have b1 := Nat.eq_of_beq_eq_true b1
    subst b1
    have b2 := Nat.le_of_ble_eq_true b2
    have fin : ∀ (t : T) (H2 : List O) (β2 : List Loc), Good E H1 β1 w1 fn.ntmps [{ target := .fn (.func g') #[], args := xs.toArray }] t H2 β2 a w' →
        ((mfun cl fg vs H2).bind fun r => match r with
          | .ok _ H => answerM cx.P fn.results.toList (.ret, t, H)
          | .pan _ _ => .fail).run = some r → Leaves cx.P fn a.tmps (Outcome E H β w r) a.defers .returning w' := by
      intro t H2 β2 hg2 hh
      rw [hg2.defers]
      obtain ⟨r3, q1, q2⟩ := bind_run hh
      cases r3 with
      | pan _ _ => cases q2
      | ok v3 H3 =>
      have hbody : fg.body.isSome = true := by
        unfold mfun at q1
        split at q1
        · rename_i hbody; rw [hbody]; rfl
        · cases q1
      have hinv : (invoke (.fn (.func g') #[]) xs.toArray).run cx.P w' = .ok (.enter g' xs.toArray) w' := by
        obtain ⟨bd, hbd⟩ := Option.isSome_iff_exists.1 hbody
        simp [invoke, callFunc, hg, hgname, hbd]
      refine leaves_cons (by simp) hinv ?_
      have hs2 : StartOk cl.P E H2 β2 w' := by rw [hP]; exact (StartOk.now (StartOk.now hE hst) hg2.step : _)
      have := callsD_mfun (cx := cl) hL (g := g') (u := .returning) (by rw [hP]; exact hg) q1 hs2 hg2.step.rel hl b2 (fun k v x h1 h2 => hg2.step.keepR (hr k v x h1 h2))
      rw [hP] at this
      refine this.mono ?_
      rintro e u' w2 ⟨rfl, ⟨y, rfl⟩, β3, hst3⟩
      simp only [settle]
      unfold answerM at q2
      simp only at q2
      split at q2
      rotate_left
      · cases q2
      rename_i v hv
      simp only [Tree.run, Option.some.injEq] at q2
      subst q2
      obtain ⟨z, z1, z2⟩ := answerI_R hst3.rel (hg2.fr.step hst3) hv
      exact ⟨z, z1, z, β3, rfl, (hst.trans hg2.step).trans hst3, z2⟩
    cases e with
    | normal => obtain ⟨t, H2, β2, hq, hg2⟩ := hp; subst hq; exact fin t H2 β2 hg2 h2
    | ret => obtain ⟨t, H2, β2, hq, hg2⟩ := hp; subst hq; exact fin t H2 β2 hg2 h2
    | exit id => obtain ⟨t, H2, β2, hq, hg2⟩ := hp; subst hq; cases h2
    | panic ch => obtain ⟨t, H2, β2, v, x, hq, hg2, hx2, rfl⟩ := hp; subst hq; cases h2
    | goto l => exact hp.elim
    | outgrown => exact hp.elim

end
end Go.Ab
