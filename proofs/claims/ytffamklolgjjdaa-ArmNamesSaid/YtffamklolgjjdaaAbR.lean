/-
  The engine, part R: code. Conditions: none.
-/
import Derived.Test.YtffamklolgjjdaaAbQ
namespace Go.Ab

/-- All leaves that can be reached. -/
def Tree.all {β : Type} (Q : β → Prop) : Tree β → Prop
  | .leaf b => Q b
  | .fail => False
  | .br c x y => (c = true → x.all Q) ∧ (c = false → y.all Q)

theorem Tree.all_run {β : Type} {Q : β → Prop} {x : Tree β} (h : x.all Q) : ∃ b, x.run = some b ∧ Q b := by
  induction x with
  | leaf b => exact ⟨b, rfl, h⟩
  | fail => exact h.elim
  | br c x y ihx ihy =>
    cases c
    · exact ihy (h.2 rfl)
    · exact ihx (h.1 rfl)

theorem Tree.run_all {β : Type} {Q : β → Prop} {x : Tree β} {b : β} (h : x.run = some b) (hq : Q b) : x.all Q := by
  induction x with
  | leaf c => simp only [Tree.run, Option.some.injEq] at h; subst h; exact hq
  | fail => cases h
  | br c x y ihx ihy =>
    refine ⟨fun hc => ?_, fun hc => ?_⟩
    · subst hc; exact ihx h
    · subst hc; exact ihy h

/-- Where a function stands: since its call the steps that may be; its frame. -/
structure Good (E : Nat → Nat → Prop) (H0 : List O) (β0 : List Loc) (w0 : World) (n : Nat) (D : List Deferred) (t : T) (H : List O) (β : List Loc) (a : Act) (w : World) : Prop where
  step : Step E H0 β0 w0 H β w
  fr : FR w (Xs E H β) β n t a
  defers : a.defers = D

def Post (E : Nat → Nat → Prop) (H0 : List O) (β0 : List Loc) (w0 : World) (n : Nat) (D : List Deferred) (Q : AEx → T → List O → Prop) : Exit → Act → World → Prop
  | .normal, a, w => ∃ t H β, Q .normal t H ∧ Good E H0 β0 w0 n D t H β a w
  | .exit id, a, w => ∃ t H β, Q (.exit id) t H ∧ Good E H0 β0 w0 n D t H β a w
  | .ret, a, w => ∃ t H β, Q .ret t H ∧ Good E H0 β0 w0 n D t H β a w
  | .panic chain, a, w => ∃ t H β v x, Q (.panic v) t H ∧ Good E H0 β0 w0 n D t H β a w ∧ R w (Xs E H β) β v x ∧ chain = [{ v := x, recovered := false }]
  | _, _, _ => False

def StartOk (E : Nat → Nat → Prop) (H0 : List O) (β0 : List Loc) (w0 : World) : Prop := ∀ b o, E b o → b < w0.heap.size ∧ ¬ Own H0 β0 b o

/-- From what is known of slots and heap, the code comes to what Q says. -/
def AWP (P : Program) (n : Nat) (c : Code) (Q : AEx → T → List O → Prop) (t : T) (H : List O) : Prop :=
  ∀ E H0 β0 w0 D β a w, StartOk E H0 β0 w0 → Good E H0 β0 w0 n D t H β a w → c.wp P (Post E H0 β0 w0 n D Q) a w

theorem StartOk.now {E H0 β0 w0 H β w} (h : StartOk E H0 β0 w0) (s : Step E H0 β0 w0 H β w) : ∀ b o, E b o → b < w.heap.size ∧ ¬ Own H β b o := by
  intro b o hb
  obtain ⟨h1, h2⟩ := h b o hb
  refine ⟨Nat.lt_of_lt_of_le h1 s.size, fun ho => ?_⟩
  rcases s.own b o ho with h | h
  · exact h2 h
  · omega

section
variable {P : Program} {n : Nat} {Q Q' : AEx → T → List O → Prop} {t : T} {H : List O}

theorem Post.mono {E H0 β0 w0 D} (h : ∀ e t H, Q e t H → Q' e t H) {e : Exit} {a : Act} {w : World} (hp : Post E H0 β0 w0 n D Q e a w) : Post E H0 β0 w0 n D Q' e a w := by
  cases e with
  | normal => obtain ⟨t, H, β, h1, h2⟩ := hp; exact ⟨t, H, β, h _ _ _ h1, h2⟩
  | exit id => obtain ⟨t, H, β, h1, h2⟩ := hp; exact ⟨t, H, β, h _ _ _ h1, h2⟩
  | ret => obtain ⟨t, H, β, h1, h2⟩ := hp; exact ⟨t, H, β, h _ _ _ h1, h2⟩
  | panic ch => obtain ⟨t, H, β, v, x, h1, h2⟩ := hp; exact ⟨t, H, β, v, x, h _ _ _ h1, h2⟩
  | goto l => exact hp.elim
  | outgrown => exact hp.elim

theorem AWP.mono {c : Code} (h : AWP P n c Q t H) (hq : ∀ e t H, Q e t H → Q' e t H) : AWP P n c Q' t H :=
  fun E H0 β0 w0 D β a w hs hg => wp_mono (h E H0 β0 w0 D β a w hs hg) fun _ _ _ hp => Post.mono hq hp

theorem AWP_skip (h : Q .normal t H) : AWP P n .skip Q t H := fun _ _ _ _ _ β _ _ _ hg => wp_skip ⟨t, H, β, h, hg⟩
theorem AWP_ret (h : Q .ret t H) : AWP P n .ret Q t H := fun _ _ _ _ _ β _ _ _ hg => wp_ret ⟨t, H, β, h, hg⟩
theorem AWP_exit {id : Nat} (h : Q (.exit id) t H) : AWP P n (.exit id) Q t H := fun _ _ _ _ _ β _ _ _ hg => wp_exit ⟨t, H, β, h, hg⟩

def seqQ (K : T → List O → Prop) (Q : AEx → T → List O → Prop) : AEx → T → List O → Prop
  | .normal, t, H => K t H
  | e, t, H => Q e t H

theorem AWP_seq {x y : Code} (h : AWP P n x (seqQ (AWP P n y Q) Q) t H) : AWP P n (.seq x y) Q t H := by
  intro E H0 β0 w0 D β a w hs hg
  refine wp_seq (wp_mono (h E H0 β0 w0 D β a w hs hg) ?_)
  intro e a' w' hp
  cases e with
  | normal => obtain ⟨t', H', β', h1, h2⟩ := hp; exact h1 E H0 β0 w0 D β' a' w' hs h2
  | exit id => exact hp
  | ret => exact hp
  | panic ch => exact hp
  | goto l => exact hp.elim
  | outgrown => exact hp.elim

def blockQ (id : Nat) (Q : AEx → T → List O → Prop) : AEx → T → List O → Prop
  | .exit j, t, H => if j = id then Q .normal t H else Q (.exit j) t H
  | e, t, H => Q e t H

theorem AWP_block {id : Nat} {c : Code} (h : AWP P n c (blockQ id Q) t H) : AWP P n (.block id c) Q t H := by
  intro E H0 β0 w0 D β a w hs hg
  refine wp_block (wp_mono (h E H0 β0 w0 D β a w hs hg) ?_)
  intro e a' w' hp
  cases e with
  | normal => exact hp
  | exit j =>
    obtain ⟨t', H', β', h1, h2⟩ := hp
    simp only [Exit.inBlock]
    simp only [blockQ] at h1
    by_cases hj : j = id
    · simp only [hj, if_true] at h1 ⊢; exact ⟨t', H', β', h1, h2⟩
    · simp only [hj, if_false] at h1 ⊢; exact ⟨t', H', β', h1, h2⟩
  | ret => exact hp
  | panic ch => exact hp
  | goto l => exact hp.elim
  | outgrown => exact hp.elim

theorem put_true {β : List Loc} {w : World} {X : Nat → Nat → Prop} {a : Act} {d : Nat} {b : Bool} (h : FR w X β n t a) (hb : get d t = .bool b) : FR w X β n (put d (.bool b) t) a := by
  refine ⟨h.size, fun e => ?_⟩
  rw [get_put]
  split
  · rename_i he
    subst he
    rw [← hb]; exact h.slot e
  · exact h.slot e

theorem AWP_cond {d : Nat} {x y : Code} {b : Bool} (hc : get d t = .bool b) (ht : b = true → AWP P n x Q (put d (.bool true) t) H) (hf : b = false → AWP P n y Q (put d (.bool false) t) H) :
    AWP P n (.cond (.tmp d) x y) Q t H := by
  intro E H0 β0 w0 D β a w hs hg
  have hx := rd_R hg.fr (.tmp d)
  simp only [rd, hc] at hx
  generalize he : a.eval (.tmp d) = v at hx
  cases hx
  have hg' : Good E H0 β0 w0 n D (put d (.bool b) t) H β a w := ⟨hg.step, put_true hg.fr hc, hg.defers⟩
  refine wp_cond he ?_
  cases b
  · exact hf rfl E H0 β0 w0 D β a w hs hg'
  · exact ht rfl E H0 β0 w0 D β a w hs hg'

theorem AWP_cond' {c : Operand} {x y : Code} {b : Bool} (hc : rd t c = .bool b) (ht : b = true → AWP P n x Q t H) (hf : b = false → AWP P n y Q t H) :
    AWP P n (.cond c x y) Q t H := by
  intro E H0 β0 w0 D β a w hs hg
  have hx := rd_R hg.fr c
  rw [hc] at hx
  generalize he : a.eval c = v at hx
  cases hx
  refine wp_cond he ?_
  cases b
  · exact hf rfl E H0 β0 w0 D β a w hs hg
  · exact ht rfl E H0 β0 w0 D β a w hs hg

/-- Less may be known. -/
def TLe (t s : T) : Prop := ∀ d, get d s = get d t ∨ get d s = .any

theorem TLe.refl (t : T) : TLe t t := fun _ => .inl rfl
theorem TLe.keep (l : List Nat) (t : T) : TLe t (keep l t) := fun d => get_keep l d t

theorem FR.le {β : List Loc} {w : World} {X : Nat → Nat → Prop} {a : Act} {s : T} (h : FR w X β n t a) (hl : TLe t s) : FR w X β n s a :=
  ⟨h.size, fun d => by rcases hl d with e | e <;> rw [e]; exact h.slot d; exact .any _ _⟩

theorem AWP.less {c : Code} {s : T} (hl : TLe t s) (h : AWP P n c Q s H) : AWP P n c Q t H :=
  fun E H0 β0 w0 D β a w hs hg => h E H0 β0 w0 D β a w hs ⟨hg.step, hg.fr.le hl, hg.defers⟩

/-- A loop whose rounds are counted by what goes down. -/
theorem AWP_loop {α : Type} (st : α → T × List O) (μ : α → Nat) {body : Code}
    (h : ∀ i, AWP P n body (fun e t H => match e with | .normal => ∃ j, μ j < μ i ∧ TLe t (st j).1 ∧ H = (st j).2 | e => Q e t H) (st i).1 (st i).2) (i : α) :
    AWP P n (.loop body) Q (st i).1 (st i).2 := by
  intro E H0 β0 w0 D β a w hs hg b k cs
  have key : ∀ m i β a w, μ i = m → Good E H0 β0 w0 n D (st i).1 (st i).2 β a w →
      ∃ e a' w', Post E H0 β0 w0 n D Q e a' w' ∧ Arrives P (lone (b.at a (.code body :: .inLoop body :: k)) cs w) b k cs e a' w' := by
    intro m
    induction m using Nat.strongRecOn with
    | _ m ih =>
      intro i β a w hm hg
      obtain ⟨e, a₁, w₁, hq, harr⟩ := h i E H0 β0 w0 D β a w hs hg b (.inLoop body :: k) cs
      cases e with
      | normal =>
        obtain ⟨t', H', β', ⟨j, hlt, hle, rfl⟩, hg'⟩ := hq
        obtain ⟨e₂, a₂, w₂, hq₂, harr₂⟩ := ih (μ j) (hm ▸ hlt) j β' a₁ w₁ rfl ⟨hg'.step, hg'.fr.le hle, hg'.defers⟩
        exact ⟨e₂, a₂, w₂, hq₂, .of_steps (Steps.trans harr (.one step_inLoop)) harr₂⟩
      | exit id => exact ⟨.exit id, a₁, w₁, hq, .pass (x := .inLoop body) rfl (fun _ _ => .inl (by simp)) harr⟩
      | ret => exact ⟨.ret, a₁, w₁, hq, .pass (x := .inLoop body) rfl (fun _ _ => .inl (by simp)) harr⟩
      | panic ch => exact ⟨.panic ch, a₁, w₁, hq, .pass (x := .inLoop body) rfl (fun _ _ => .inl (by simp)) harr⟩
      | goto l => exact hq.elim
      | outgrown => exact hq.elim
  obtain ⟨e, a', w', hq, harr⟩ := key _ i β a w rfl hg
  exact ⟨e, a', w', hq, .of_steps (.one step_loop) harr⟩

/-- One region, in the order of the text. -/
theorem runs_sound {cx : Cx} (hT : CxOk cx) {ops : Array Oper} {E H0 β0 w0 D} (hs : StartOk E H0 β0 w0) {Q : AEx → T → List O → Prop} :
    ∀ (l : List Oper) (k : Nat) (t : T) (H : List O) (β : List Loc) (a : Act) (w : World), ops.toList.drop k = l → (druns cx ops l t H).all (fun s => Q s.1 s.2.1 s.2.2) →
      Good E H0 β0 w0 cx.n D t H β a w → wpOps cx.P ops (Post E H0 β0 w0 cx.n D Q) (List.range' k l.length) a w
  | [], k, t, H, β, a, w, _, h, hg => ⟨keep cx.keeps t, H, β, h, ⟨hg.step, hg.fr.keep _, hg.defers⟩⟩
  | o :: r, k, t, H, β, a, w, hl, h, hg => by
    have hk : ops.toList[k]? = some o := by
      have := congrArg (fun l => l[0]?) hl
      simpa using this
    have hk' : ops[k]? = some o := by simpa using hk
    have hr : ops.toList.drop (k + 1) = r := by
      have := congrArg List.tail hl
      simpa [List.tail_drop] using this
    have ih := runs_sound hT hs (ops := ops) (Q := Q) (D := D) r (k + 1)
    simp only [List.length_cons, List.range'_succ, wpOps, hk']
    -- a slot is written
    have put : ∀ v x t H β a w, (dputs cx o v t H (druns cx ops r)).all (fun s => Q s.1 s.2.1 s.2.2) → R w (Xs E H β) β v x → Good E H0 β0 w0 cx.n D t H β a w →
        wpOps cx.P ops (Post E H0 β0 w0 cx.n D Q) (List.range' (k + 1) r.length) (a.put o.dst x) w := by
      intro v x t H β a w hp hv hg
      unfold dputs putO at hp
      cases hd : o.dst with
      | none =>
        simp only [hd] at hp
        simp only [Act.put]
        exact ih t H β a w hr hp hg
      | some d =>
        simp only [hd] at hp
        cases hb : Nat.blt d cx.n
        · simp [hb, Tree.all] at hp
        · simp only [hb, cond_true] at hp
          have hlt : d < cx.n := by simpa [Nat.blt_eq] using hb
          exact ih _ H β _ w hr hp ⟨hg.step, hg.fr.put hlt hv, hg.defers⟩
    -- an operation is carried out
    have run : ∀ t, FR w (Xs E H β) β cx.n t a → ((dop cx t H o).bind (dres cx o t (druns cx ops r))).all (fun s => Q s.1 s.2.1 s.2.2) →
        o.wp cx.P a w (wpOps cx.P ops (Post E H0 β0 w0 cx.n D Q) (List.range' (k + 1) r.length)) (Post E H0 β0 w0 cx.n D Q) := by
      intro t hfr hall
      obtain ⟨s, hs1, hs2⟩ := Tree.all_run hall
      obtain ⟨res, hres, hd⟩ := bind_run hs1
      refine dop_sound hT (hs.now hg.step) hg.step.rel hfr hres ?_
      cases res with
      | ok v H' =>
        intro x w' β' st hv
        exact put v x t H' β' a w' (Tree.run_all hd hs2) hv ⟨hg.step.trans st, hfr.step st, hg.defers⟩
      | pan v H' =>
        intro x w' β' st hv
        simp only [dres, Tree.run, Option.some.injEq] at hd
        subst hd
        exact ⟨t, H', β', v, x, hs2, ⟨hg.step.trans st, hfr.step st, hg.defers⟩, hv, rfl⟩
    unfold druns dstep at h
    split at h
    · rename_i hgd
      have hw : Region.wanted o (yielded ops a.tmps) = true := by simp [Region.wanted, hgd]
      simp only [hw, if_true]
      exact .inl (run t hg.fr h)
    · rename_i j want hgd
      split at h
      rotate_left
      · exact h.elim
      rename_i d hd
      have hslot := hg.fr.slot d
      have hyield : ∀ b, a.tmps.getD d undef = .bool b → yielded ops a.tmps j = some b := by
        intro b hb
        unfold yielded
        rw [hd]
        simp only [Option.bind_some]
        rw [Array.getD_eq_getD_getElem?] at hb
        cases hq : a.tmps[d]? with
        | none => rw [hq] at hb; simp [undef] at hb
        | some q => rw [hq] at hb; simp at hb; subst hb; rfl
      split at h
      · rename_i b hb
        rw [hb] at hslot
        generalize hv : a.tmps.getD d undef = v at hslot
        cases hslot
        have hy := hyield b hv
        have hfr' := put_true hg.fr hb
        cases b
        · have h := h.2 rfl
          cases want
          · have hw : Region.wanted o (yielded ops a.tmps) = true := by simp [Region.wanted, hgd, hy]
            simp only [hw, if_true]
            exact .inl (run _ hfr' h)
          · have hw : Region.wanted o (yielded ops a.tmps) = false := by simp [Region.wanted, hgd, hy]
            simp only [hw, Bool.false_eq_true, if_false]
            exact put vundef undef _ H β a w h (.val _ _) ⟨hg.step, hfr', hg.defers⟩
        · have h := h.1 rfl
          cases want
          · have hw : Region.wanted o (yielded ops a.tmps) = false := by simp [Region.wanted, hgd, hy]
            simp only [hw, Bool.false_eq_true, if_false]
            exact put vundef undef _ H β a w h (.val _ _) ⟨hg.step, hfr', hg.defers⟩
          · have hw : Region.wanted o (yielded ops a.tmps) = true := by simp [Region.wanted, hgd, hy]
            simp only [hw, if_true]
            exact .inl (run _ hfr' h)
      · rename_i vs hb
        rw [hb] at hslot
        generalize hv : a.tmps.getD d undef = v at hslot
        cases hslot
        have hy : yielded ops a.tmps j = none := by
          unfold yielded
          rw [hd]
          simp only [Option.bind_some]
          rw [Array.getD_eq_getD_getElem?] at hv
          cases hq : a.tmps[d]? with
          | none => rfl
          | some q => rw [hq] at hv; simp at hv; subst hv; rfl
        have hw : Region.wanted o (yielded ops a.tmps) = false := by simp [Region.wanted, hgd, hy]
        simp only [hw, Bool.false_eq_true, if_false]
        exact put vundef undef t H β a w h (.val _ _) hg
      · exact h.elim

theorem AWP_region {cx : Cx} (hP : cx.P = P) (hn : cx.n = n) (hT : CxOk cx) {id : Nat} {ops : Array Oper} (h : (druns cx ops ops.toList t H).all (fun s => Q s.1 s.2.1 s.2.2)) :
    AWP P n (.region id ops false) Q t H := by
  intro E H0 β0 w0 D β a w hs hg
  refine wp_region ?_
  subst hP
  subst hn
  have := runs_sound hT hs (ops := ops) (Q := Q) (D := D) ops.toList 0 t H β a w rfl h hg
  simpa [List.range_eq_range'] using this

end
end Go.Ab
