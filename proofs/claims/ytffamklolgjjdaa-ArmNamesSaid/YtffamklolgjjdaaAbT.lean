/-
  The engine, part T: regions whose operations come in an order that is open. Conditions: none.
-/
import Derived.Test.YtffamklolgjjdaaAbS
namespace Go.Ab

section
variable {cx : Cx} {t s : T} {H H' H1 : List O} {o x y : Oper} {v : V}

def TEq (t s : T) : Prop := ∀ d, get d t = get d s

theorem rd_eq (h : TEq t s) (x : Operand) : rd t x = rd s x := by
  cases x <;> first | exact h _ | rfl

theorem map_rd {l : List Operand} (h : ∀ x ∈ l, rd t x = rd s x) : l.map (rd t) = l.map (rd s) := List.map_congr_left h

theorem dop_congr (h : ∀ x ∈ o.op.operands, rd t x = rd s x) : dop cx t H o = dop cx s H o := by
  unfold dop
  split <;> rename_i ho
  all_goals (try simp only [ho, Op.operands, Call.operands] at h)
  all_goals (try (simp only [List.mem_toArray, Array.mem_append, List.mem_cons, List.not_mem_nil, or_false, forall_eq_or_imp, forall_eq] at h))
  all_goals first
    | (simp only [h]; done)
    | (obtain ⟨h1, h2⟩ := h; simp only [h1]; done)
    | (obtain ⟨h1, h2, h3⟩ := h; simp only [h1, h2, h3]; done)
    | rfl
    | skip
  · rename_i ty parts
    have e : parts.toList.map (fun p => (p.1, rd t p.2)) = parts.toList.map (fun p => (p.1, rd s p.2)) :=
      List.map_congr_left fun p hp => by rw [h p.2 (List.mem_map.2 ⟨p, hp, rfl⟩)]
    rw [e]
  · rename_i ty len parts
    have e : parts.toList.map (fun p => (p.1, rd t p.2)) = parts.toList.map (fun p => (p.1, rd s p.2)) :=
      List.map_congr_left fun p hp => by rw [h p.2 (List.mem_map.2 ⟨p, hp, rfl⟩)]
    rw [e]
  · rw [map_rd (fun x hx => h x (.inl (by simpa using hx))), map_rd (fun x hx => h x (.inr (by simpa using hx)))]
  · rename_i ty x lo hi
    have e1 : lo.map (rd t) = lo.map (rd s) := by
      cases lo with
      | none => rfl
      | some y => simp only [Option.map_some, h y (.inl (.inl (.inr (by simp))))]
    have e2 : hi.map (rd t) = hi.map (rd s) := by
      cases hi with
      | none => rfl
      | some y => simp only [Option.map_some, h y (.inl (.inr (by simp)))]
    rw [e1, e2, h x (.inl (.inl (.inl rfl)))]
  · rw [map_rd (fun x hx => h x (.inr (by simpa using hx)))]
  · rw [h.1, map_rd (fun x hx => h.2 x (by simpa using hx))]

theorem holdO_calm {x : Option V} (h : (holdO H x).run = some (.ok v H1)) : H1 = H ∧ ∀ H', (holdO H' x).run = some (.ok v H') := by
  obtain ⟨u, rfl, e⟩ := holdO_run h
  simp only [Res.ok.injEq] at e
  exact ⟨e.2, fun H' => by simp [holdO, Tree.run, e.1]⟩

theorem hold_calm {x : V} (h : (hold H x).run = some (.ok v H1)) : H1 = H ∧ ∀ H', (hold H' x).run = some (.ok v H') := by
  simp only [hold, Tree.run, Option.some.injEq, Res.ok.injEq] at h
  exact ⟨h.2.symm, fun H' => by simp [hold, Tree.run, h.1]⟩

theorem bind_calm {x : Tree V} (h : (x.bind (hold H)).run = some (.ok v H1)) : H1 = H ∧ ∀ H', (x.bind (hold H')).run = some (.ok v H') := by
  induction x with
  | leaf b => exact hold_calm h
  | fail => cases h
  | br c x y ihx ihy =>
    cases c
    · exact ihy h
    · exact ihx h

theorem look_calm {x : Tree V} (h : (x.bind fun v => Tree.leaf (Res.ok v H)).run = some (.ok v H1)) : H1 = H ∧ ∀ H', (x.bind fun v => Tree.leaf (Res.ok v H')).run = some (.ok v H') :=
  bind_calm (H := H) h

theorem build_calm {P : Program} {H H1 : List O} {ty : TypeId} {len : Nat} {parts : List (Nat × V)} {v : V} (h : (bothO (oBuildSlice P H false ty len parts)).run = some (.ok v H1)) :
    H1 = H ∧ ∀ H', (bothO (oBuildSlice P H' false ty len parts)).run = some (.ok v H') := by
  cases hb : oBuildSlice P H false ty len parts with
  | none => rw [hb] at h; cases h
  | some p =>
    have key : p.2 = H ∧ ∀ H', oBuildSlice P H' false ty len parts = some (p.1, H') := by
      unfold oBuildSlice at hb ⊢
      split at hb
      rotate_left
      · cases hb
      split at hb
      rotate_left
      · cases hb
      split at hb
      rotate_left
      · cases hb
      rename_i j _
      revert hb
      cases (Nat.ble (len * j.size) 16777216 && Nat.beq j.zero.length j.size)
      · intro hb; cases hb
      simp only [cond_true, cond_false]
      intro hb
      split at hb
      rotate_left
      · cases hb
      split at hb
      rotate_left
      · cases hb
      rename_i c _
      revert hb
      cases Nat.beq c.size j.size
      · intro hb; cases hb
      simp only [cond_true]
      intro hb
      obtain ⟨l, hl, rfl⟩ := Option.map_eq_some_iff.1 hb
      exact ⟨rfl, fun H' => by rw [hl]; rfl⟩
    rw [hb] at h
    obtain ⟨u, H2⟩ := p
    simp only [bothO, Tree.run, Option.some.injEq, Res.ok.injEq] at h
    obtain ⟨rfl, rfl⟩ := h
    exact ⟨key.1, fun H' => by rw [key.2 H']; rfl⟩

theorem callP_calm {f : Nat} {as : List V} (h : (match V.pures? as with | some as => (look f cx.tab as).bind fun v => Tree.leaf (Res.ok v H) | none => .fail).run = some (.ok v H1)) :
    H1 = H ∧ ∀ H', (match V.pures? as with | some as => (look f cx.tab as).bind fun v => Tree.leaf (Res.ok v H') | none => .fail).run = some (.ok v H') := by
  split at h
  · exact look_calm h
  · cases h

theorem calm_spec (hc : calm cx o = true) (h : (dop cx t H o).run = some (.ok v H1)) : H1 = H ∧ ∀ H', (dop cx t H' o).run = some (.ok v H') := by
  unfold calm at hc
  unfold dop at h ⊢
  split at hc <;> (rename_i ho; simp only [ho] at h ⊢)
  all_goals first
    | exact hold_calm h
    | exact holdO_calm h
    | exact bind_calm h
    | skip
  · -- pick
    split at h
    · exact bind_calm h
    · cases h
  · split at h
    · exact hold_calm h
    · exact hold_calm h
    · cases h
  · split at h
    · exact holdO_calm h
    · cases h
  · split at h
    · cases h
    · exact hold_calm h
    · cases h
  · -- a literal
    cases hd : o.dst with
    | none => simp only [hd] at h ⊢; exact build_calm h
    | some d =>
      have hr : hasN d cx.refs = false := by rw [hd] at hc; simpa using hc
      simp only [hd, hr] at h ⊢
      exact build_calm h
  · -- a named function
    rename_i g _ _
    have hm : hasKey g cx.mtab = false := by simpa using hc
    simp only [rd, oCall, callF, hm, cond_false] at h ⊢
    exact callP_calm h
  · -- a value
    have hm : cx.mtab = [] := List.eq_nil_of_length_eq_zero (Nat.eq_of_beq_eq_true hc)
    unfold oCall at h ⊢
    have key : ∀ f as, (callF cx H f as).run = some (.ok v H1) → H1 = H ∧ ∀ H', (callF cx H' f as).run = some (.ok v H') := by
      intro f as h
      unfold callF at h ⊢
      simp only [hm, hasKey, cond_false] at h ⊢
      exact callP_calm (cx := cx) h
    split at h
    · rename_i g first captured _
      cases hb : (Nat.beq first.size 0 && Nat.beq captured.size 0)
      · rw [hb] at h; cases h
      · rw [hb] at h; exact key _ _ h
    · exact key _ _ h
    · cases h
  · rename_i args _
    generalize args.toList.map (rd t) = l at h ⊢
    match l with
    | [x] => exact holdO_calm h
    | [] => cases h
    | _ :: _ :: _ => cases h
  · rename_i args _
    generalize args.toList.map (rd t) = l at h ⊢
    match l with
    | [x, y] => exact holdO_calm h
    | [] => cases h
    | [_] => cases h
    | _ :: _ :: _ :: _ => cases h
  · rename_i args _
    generalize args.toList.map (rd t) = l at h ⊢
    match l with
    | [x, y] => exact holdO_calm h
    | [] => cases h
    | [_] => cases h
    | _ :: _ :: _ :: _ => cases h
  · cases hc

theorem quiet_spec (hc : quiet cx o = true) (h : (dop cx t H o).run = some (.ok v H1)) : H1 = H := by
  unfold quiet at hc
  rcases Bool.or_eq_true_iff.1 hc with hc | hc
  · exact (calm_spec hc h).1
  · unfold dop at h
    split at hc <;> first | (cases hc; done) | (rename_i ho; simp only [ho] at h)
    · exact (holdO_calm h).1
    · exact (holdO_calm h).1
    · exact (bind_calm h).1

/-- What is loaded is not what is new. -/
theorem load_more (hl : isLoad o = true) (h : (dop cx t H o).run = some (.ok v H1)) (ob : O) : (dop cx t (H ++ [ob]) o).run = some (.ok v (H ++ [ob])) := by
  unfold isLoad at hl
  unfold dop at h ⊢
  split at hl
  rotate_left
  · cases hl
  rename_i ho
  simp only [ho] at h ⊢
  rename_i ty a
  obtain ⟨u, hu, e⟩ := holdO_run h
  simp only [Res.ok.injEq] at e
  obtain ⟨rfl, rfl⟩ := e
  have : oLoad cx.P (H1 ++ [ob]) ty (rd t a) = some v := by
    unfold oLoad at hu ⊢
    split at hu
    · rename_i i cells h1 h2
      have : cellsAt (H1 ++ [ob]) (rd t a) = some cells := by
        unfold cellsAt at h2 ⊢
        split at h2
        · exact h2
        · rename_i id off _
          split at h2
          · rename_i cs e hH
            have hlt : id < H1.length := (List.getElem?_eq_some_iff.1 hH).1
            rw [List.getElem?_append_left hlt, hH]
            exact h2
          · cases h2
        · cases h2
      simp only [h1, this]
      exact hu
    · cases hu
  rw [this]
  rfl

theorem new_spec (hn : isNew o = true) (h : (dop cx t H o).run = some (.ok v H1)) : ∃ ob, H1 = H ++ [ob] := by
  unfold isNew at hn
  unfold dop at h
  split at hn <;> first | (cases hn; done) | (rename_i ho; simp only [ho] at h)
  · split at h
    · simp only [Tree.run, Option.some.injEq, Res.ok.injEq] at h
      exact ⟨_, h.2.symm⟩
    · cases h
  · split at h
    · simp only [Tree.run, Option.some.injEq, Res.ok.injEq] at h
      exact ⟨_, h.2.symm⟩
    · cases h

/-- Is the operation wanted, as the slots stand? -/
def wantedT (ops : Array Oper) (t : T) (o : Oper) : Option Bool :=
  match o.guard with
  | none => some true
  | some (j, want) => match (ops[j]?).bind (·.dst) with
    | some d => match get d t with
      | .bool b => some (b == want)
      | .val (.tuple _) => some false
      | _ => none
    | none => none

def puts (cx : Cx) (o : Oper) (v : V) (t : T) (H : List O) : Option (T × List O) := (putO cx.n o.dst v t).map (·, H)

/-- One operation, all conditions being what they are. -/
def step1 (cx : Cx) (ops : Array Oper) (o : Oper) (q : T × List O) : Option (T × List O) :=
  match wantedT ops q.1 o with
  | some true => match (dop cx q.1 q.2 o).run with
    | some (.ok v H) => puts cx o v q.1 H
    | _ => none
  | some false => puts cx o vundef q.1 q.2
  | none => none

def Like (p q : T × List O) : Prop := TEq p.1 q.1 ∧ p.2 = q.2

theorem Like.refl (p : T × List O) : Like p p := ⟨fun _ => rfl, rfl⟩
theorem Like.trans {p q r : T × List O} (h : Like p q) (g : Like q r) : Like p r := ⟨fun d => (h.1 d).trans (g.1 d), h.2.trans g.2⟩
theorem Like.symm {p q : T × List O} (h : Like p q) : Like q p := ⟨fun d => (h.1 d).symm, h.2.symm⟩

variable {ops : Array Oper}

/-- It looks at these slots alone. -/
theorem wanted_eq (h : ∀ d ∈ o.looksAt ops, get d t = get d s) : wantedT ops t o = wantedT ops s o := by
  unfold wantedT
  split
  · rfl
  · rename_i j want hg
    split
    · rename_i d hd
      rw [h d (by unfold Oper.looksAt; rw [hg]; simp [hd])]
    · rfl

theorem dop_eq (h : ∀ d ∈ o.looksAt ops, get d t = get d s) : dop cx t H o = dop cx s H o := by
  refine dop_congr fun x hx => ?_
  cases x with
  | tmp d =>
    refine h d ?_
    unfold Oper.looksAt
    refine List.mem_append.2 (.inl (List.mem_filterMap.2 ⟨.tmp d, by simpa using hx, rfl⟩))
  | _ => rfl

theorem puts_like {p q : T × List O} (h : TEq p.1 q.1) {r : T × List O} (hp : puts cx o v p.1 H = some r) : ∃ r', puts cx o v q.1 H = some r' ∧ Like r r' := by
  unfold puts putO at hp ⊢
  cases hd : o.dst with
  | none => simp only [hd, Option.map_some, Option.some.injEq] at hp ⊢; subst hp; exact ⟨_, rfl, h, rfl⟩
  | some d =>
    simp only [hd] at hp ⊢
    cases hb : Nat.blt d cx.n
    · simp [hb] at hp
    · simp only [hb, cond_true, Option.map_some, Option.some.injEq] at hp ⊢
      subst hp
      exact ⟨_, rfl, fun e => by simp only [get_put]; split; rfl; exact h e, rfl⟩

theorem step1_like {p q r : T × List O} (h : Like p q) (hp : step1 cx ops o p = some r) : ∃ r', step1 cx ops o q = some r' ∧ Like r r' := by
  obtain ⟨t, H⟩ := p
  obtain ⟨s, H'⟩ := q
  obtain ⟨h1, h2⟩ := h
  simp only at h1 h2
  subst h2
  unfold step1 at hp ⊢
  have e1 : wantedT ops s o = wantedT ops t o := wanted_eq fun d _ => (h1 d).symm
  have e2 : dop cx s H o = dop cx t H o := dop_congr fun x _ => (rd_eq h1 x).symm
  simp only at hp ⊢
  rw [e1, e2]
  cases hw : wantedT ops t o with
  | none => rw [hw] at hp; cases hp
  | some b =>
    rw [hw] at hp
    cases b
    · exact puts_like (p := (t, H)) (q := (s, H)) h1 hp
    · simp only at hp ⊢
      cases hu : (dop cx t H o).run with
      | none => rw [hu] at hp; cases hp
      | some res =>
        rw [hu] at hp
        cases res with
        | pan u H2 => cases hp
        | ok u H2 => exact puts_like (p := (t, H)) (q := (s, H)) h1 hp

/-- What an operation writes. -/
theorem puts_spec {r : T × List O} (h : puts cx o v t H = some r) : r.2 = H ∧ (∀ d, o.dst ≠ some d → get d r.1 = get d t) ∧ (∀ d, o.dst = some d → get d r.1 = v ∧ Nat.blt d cx.n = true) := by
  unfold puts putO at h
  cases hd : o.dst with
  | none =>
    simp only [hd, Option.map_some, Option.some.injEq] at h
    subst h
    exact ⟨rfl, fun _ _ => rfl, fun d h => by cases h⟩
  | some d =>
    simp only [hd] at h
    cases hb : Nat.blt d cx.n
    · simp [hb] at h
    · simp only [hb, cond_true, Option.map_some, Option.some.injEq] at h
      subst h
      refine ⟨rfl, fun e he => ?_, fun e he => ?_⟩
      · simp only [get_put]; rw [if_neg]; intro h; exact he (by rw [h])
      · simp only [Option.some.injEq] at he; subst he; exact ⟨by simp [get_put], hb⟩

theorem puts_make (hb : ∀ d, o.dst = some d → Nat.blt d cx.n = true) : ∃ r, puts cx o v t H = some r := by
  unfold puts putO
  cases hd : o.dst with
  | none => exact ⟨_, rfl⟩
  | some d => simp [hb d hd]


/-- Two operations on memory that are at two objects. -/
def SepAt (x y : Oper) (t : T) : Prop := ∃ a b, memAt x = some a ∧ memAt y = some b ∧ ∀ i j o o', rd t a = .ptr i o → rd t b = .ptr j o' → i ≠ j

theorem mem_spec {a : Operand} (hm : memAt x = some a) (h : (dop cx t H x).run = some (.ok v H1)) :
    (H1 = H ∧ ∀ H', (∀ id off, rd t a = .ptr id off → H'[id]? = H[id]?) → (dop cx t H' x).run = some (.ok v H')) ∨
    (∃ id off ob, rd t a = .ptr id off ∧ H1 = H.set id ob ∧ ∀ H', H'[id]? = H[id]? → (dop cx t H' x).run = some (.ok v (H'.set id ob))) := by
  unfold memAt at hm
  unfold dop at h ⊢
  split at hm
  · rename_i ty b u ho
    simp only [Option.some.injEq] at hm
    subst hm
    simp only [ho] at h ⊢
    right
    cases hst : oStore cx.P H ty (rd t b) (rd t u) with
    | none => rw [hst] at h; cases h
    | some H2 =>
      rw [hst] at h
      simp only [Tree.run, Option.some.injEq, Res.ok.injEq] at h
      obtain ⟨rfl, rfl⟩ := h
      unfold oStore at hst ⊢
      split at hst
      rotate_left
      · cases hst
      rename_i i vs id off hi hvs ha
      split at hst
      rotate_left
      · cases hst
      rename_i cs e hH
      cases hc : (Nat.beq vs.length i.size && Nat.ble (off + vs.length) cs.length)
      · rw [hc] at hst; cases hst
      rw [hc, cond_true] at hst
      simp only [Option.some.injEq] at hst
      refine ⟨id, off, .cells (splice cs off vs) e, ha, hst.symm, fun H' hH' => ?_⟩
      simp only [hH', hH, hc, cond_true]
      rfl
  · rename_i ty b ho
    simp only [Option.some.injEq] at hm
    subst hm
    simp only [ho] at h ⊢
    left
    obtain ⟨w, hu, e⟩ := holdO_run h
    simp only [Res.ok.injEq] at e
    obtain ⟨rfl, rfl⟩ := e
    refine ⟨rfl, fun H' hH' => ?_⟩
    have : oLoad cx.P H' ty (rd t b) = some v := by
      unfold oLoad at hu ⊢
      split at hu
      · rename_i i cells h1 h2
        have : cellsAt H' (rd t b) = some cells := by
          unfold cellsAt at h2 ⊢
          split at h2
          · exact h2
          · rename_i id off hb
            rw [hH' id off hb]
            exact h2
          · cases h2
        simp only [h1, this]
        exact hu
      · cases hu
    rw [this]
    rfl
  · cases hm

theorem mem_turn {vx vy : V} {H2 : List O} (hs : SepAt x y t) (h1 : (dop cx t H x).run = some (.ok vx H1)) (h2 : (dop cx t H1 y).run = some (.ok vy H2)) :
    ∃ Hy', (dop cx t H y).run = some (.ok vy Hy') ∧ (dop cx t Hy' x).run = some (.ok vx H2) := by
  obtain ⟨a, b, ha, hb, sep⟩ := hs
  rcases mem_spec ha h1 with ⟨rfl, g1⟩ | ⟨i, oi, ob, ri, rfl, g1⟩
  · rcases mem_spec hb h2 with ⟨rfl, g2⟩ | ⟨j, oj, oc, rj, rfl, g2⟩
    · exact ⟨H2, h2, h1⟩
    · refine ⟨H1.set j oc, h2, g1 _ fun id off hr => ?_⟩
      exact List.getElem?_set_ne (fun e => sep id j off oj hr rj e.symm)
  · rcases mem_spec hb h2 with ⟨rfl, g2⟩ | ⟨j, oj, oc, rj, rfl, g2⟩
    · refine ⟨H, g2 H fun id off hr => ?_, g1 H rfl⟩
      exact (List.getElem?_set_ne (fun e => sep i id oi off ri hr e)).symm
    · have hne : i ≠ j := sep i j oi oj ri rj
      refine ⟨H.set j oc, g2 H (List.getElem?_set_ne hne).symm, ?_⟩
      rw [List.set_comm _ _ hne]
      exact g1 _ (List.getElem?_set_ne (fun e => hne e.symm))

/-- Two operations that touch nothing in common, turned. -/
theorem turn {p q r : T × List O} (hap : x.apart ops y = true) (hmS : mayTurn cx x y = true ∨ SepAt x y p.1) (h1 : step1 cx ops x p = some q) (h2 : step1 cx ops y q = some r) :
    ∃ q' r', step1 cx ops y p = some q' ∧ step1 cx ops x q' = some r' ∧ Like r r' := by
  obtain ⟨t, H⟩ := p
  obtain ⟨a1, a2, a3⟩ := Oper.apart_spec hap
  -- what each writes
  have out : ∀ {o : Oper} {p q : T × List O}, step1 cx ops o p = some q →
      (∃ v, wantedT ops p.1 o = some true ∧ (dop cx p.1 p.2 o).run = some (.ok v q.2) ∧ puts cx o v p.1 q.2 = some q) ∨ (wantedT ops p.1 o = some false ∧ puts cx o vundef p.1 p.2 = some q) := by
    intro o p q h
    unfold step1 at h
    cases hw : wantedT ops p.1 o with
    | none => rw [hw] at h; cases h
    | some b =>
      rw [hw] at h
      cases b
      · exact .inr ⟨rfl, h⟩
      · simp only at h
        cases hu : (dop cx p.1 p.2 o).run with
        | none => rw [hu] at h; cases h
        | some res =>
          rw [hu] at h
          cases res with
          | pan u H2 => cases h
          | ok u H2 =>
            have := (puts_spec h).1
            subst this
            exact .inl ⟨u, rfl, rfl, h⟩
  -- y looks as before x
  have ex : ∀ {v : V} {H' : List O}, puts cx x v t H' = some q → ∀ d ∈ y.looksAt ops, get d q.1 = get d t := fun hp d hd =>
    (puts_spec hp).2.1 d fun e => a1 d e hd
  have mk : ∀ {o : Oper} {p : T × List O} {v : V} {H' : List O} {q : T × List O}, wantedT ops p.1 o = some true → (dop cx p.1 p.2 o).run = some (.ok v H') → puts cx o v p.1 H' = some q → step1 cx ops o p = some q := by
    intro o p v H' q h1 h2 h3
    unfold step1; simp only [h1, h2]; exact h3
  have mk0 : ∀ {o : Oper} {p : T × List O} {q : T × List O}, wantedT ops p.1 o = some false → puts cx o vundef p.1 p.2 = some q → step1 cx ops o p = some q := by
    intro o p q h1 h3
    unfold step1; simp only [h1]; exact h3
  -- the end: x's slot and y's slot, the same heap
  have fin : ∀ {vx vy : V} {Hx Hy Hx' Hy' : List O}, puts cx x vx t Hx = some q → puts cx y vy q.1 Hy = some r →
      ∃ q' r', puts cx y vy t Hx' = some q' ∧ puts cx x vx q'.1 Hy' = some r' ∧ TEq r.1 r'.1 ∧ q'.2 = Hx' ∧ r'.2 = Hy' ∧ ∀ d ∈ x.looksAt ops, get d q'.1 = get d t := by
    intro vx vy Hx Hy Hx' Hy' hq hr
    obtain ⟨b1, b2, b3⟩ := puts_spec hq
    obtain ⟨c1, c2, c3⟩ := puts_spec hr
    obtain ⟨q', hq'⟩ := puts_make (cx := cx) (o := y) (v := vy) (t := t) (H := Hx') (fun d hd => (c3 d hd).2)
    obtain ⟨r', hr'⟩ := puts_make (cx := cx) (o := x) (v := vx) (t := q'.1) (H := Hy') (fun d hd => (b3 d hd).2)
    obtain ⟨d1, d2, d3⟩ := puts_spec hq'
    obtain ⟨e1, e2, e3⟩ := puts_spec hr'
    refine ⟨q', r', hq', hr', fun d => ?_, d1, e1, fun d hd => d2 d fun e => a3 d e hd⟩
    by_cases hx : x.dst = some d
    · have hy : y.dst ≠ some d := a2 d hx
      rw [c2 d hy, (b3 d hx).1, (e3 d hx).1]
    · rw [e2 d hx]
      by_cases hy : y.dst = some d
      · rw [(c3 d hy).1, (d3 d hy).1]
      · rw [c2 d hy, b2 d hx, d2 d hy]
  rcases out h1 with ⟨vx, w1, d1, p1⟩ | ⟨w1, p1⟩
  · have ly := ex p1
    simp only at w1 d1 p1
    have ew : wantedT ops q.1 y = wantedT ops t y := wanted_eq ly
    have ed : ∀ H, dop cx q.1 H y = dop cx t H y := fun H => dop_eq ly
    rcases out h2 with ⟨vy, w2, d2, p2⟩ | ⟨w2, p2⟩
    · rw [ew] at w2
      rw [ed] at d2
      -- the heaps
      have heaps : ∃ Hy', (dop cx t H y).run = some (.ok vy Hy') ∧ (dop cx t Hy' x).run = some (.ok vx r.2) := by
        rcases hmS with hm | hsep
        rotate_left
        · exact mem_turn hsep d1 d2
        unfold mayTurn at hm
        rcases Bool.or_eq_true_iff.1 hm with hm | hm
        · obtain ⟨e, hall⟩ := calm_spec hm d1
          rw [e] at d2
          exact ⟨r.2, d2, hall _⟩
        rcases Bool.or_eq_true_iff.1 hm with hm | hm
        · obtain ⟨e, hall⟩ := calm_spec hm d2
          rw [e]
          exact ⟨H, hall H, d1⟩
        rcases Bool.or_eq_true_iff.1 hm with hm | hm
        · obtain ⟨m1, m2⟩ := Bool.and_eq_true_iff.1 hm
          have e1 := quiet_spec m1 d1
          have e2 := quiet_spec m2 d2
          rw [e1] at d1 d2 e2
          rw [e2] at d2 ⊢
          exact ⟨H, d2, d1⟩
        · obtain ⟨m1, m2⟩ := Bool.and_eq_true_iff.1 hm
          have e1 := quiet_spec (by unfold isLoad at m1; unfold quiet; split at m1 <;> simp_all) d1
          rw [e1] at d1 d2
          obtain ⟨ob, e2⟩ := new_spec m2 d2
          rw [e2] at d2 ⊢
          exact ⟨H ++ [ob], d2, load_more m1 d1 ob⟩
      obtain ⟨Hy', g1, g2⟩ := heaps
      obtain ⟨q', r', f1, f2, f3, f4, f5, f6⟩ := fin (Hx' := Hy') (Hy' := r.2) p1 p2
      refine ⟨q', r', mk w2 g1 f1, mk (v := vx) (H' := r.2) ?_ ?_ f2, f3, f5.symm⟩
      · rw [wanted_eq f6]; exact w1
      · rw [f4, dop_eq f6]; exact g2
    · rw [ew] at w2
      obtain ⟨q', r', f1, f2, f3, f4, f5, f6⟩ := fin (Hx' := H) (Hy' := q.2) p1 p2
      refine ⟨q', r', mk0 w2 f1, mk (v := vx) (H' := q.2) ?_ ?_ f2, f3, ?_⟩
      · rw [wanted_eq f6]; exact w1
      · rw [f4, dop_eq f6]; exact d1
      · rw [f5, (puts_spec p2).1]
  · have ly := ex p1
    simp only at w1 p1
    have ew : wantedT ops q.1 y = wantedT ops t y := wanted_eq ly
    have ed : ∀ H, dop cx q.1 H y = dop cx t H y := fun H => dop_eq ly
    have eH : q.2 = H := (puts_spec p1).1
    rcases out h2 with ⟨vy, w2, d2, p2⟩ | ⟨w2, p2⟩
    · rw [ew] at w2
      rw [ed, eH] at d2
      obtain ⟨q', r', f1, f2, f3, f4, f5, f6⟩ := fin (Hx' := r.2) (Hy' := r.2) p1 p2
      refine ⟨q', r', mk w2 d2 f1, mk0 ?_ (by rw [f4]; exact f2), f3, f5.symm⟩
      rw [wanted_eq f6]; exact w1
    · rw [ew] at w2
      rw [eH] at p2
      obtain ⟨q', r', f1, f2, f3, f4, f5, f6⟩ := fin (Hx' := H) (Hy' := H) p1 p2
      refine ⟨q', r', mk0 w2 f1, mk0 ?_ (by rw [f4]; exact f2), f3, ?_⟩
      · rw [wanted_eq f6]; exact w1
      · rw [f5, (puts_spec p2).1]

end
end Go.Ab
