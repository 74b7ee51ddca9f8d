/-
  The engine, part Yi: functions whose text only looks. Conditions: none.
-/
import Derived.Test.YtmbbnhcbphkniaaGreatDoorBbYh
namespace Go.Ab

def quietC (cx : Cx) : Code → Bool
  | .skip => true
  | .region _ ops _ => ops.toList.all (quiet cx)
  | .seq a b => quietC cx a && quietC cx b
  | .cond _ a b => quietC cx a && quietC cx b
  | .block _ c => quietC cx c
  | .exit _ => true
  | .ret => true
  | .loop c => quietC cx c
  | _ => false

/-- The heap is as it was, if all went well. -/
def SameH (H : List O) (s : St) : Prop := (∃ v, s.1 = .panic v) ∨ s.2.2 = H

section
variable {cx : Cx}

theorem br_cases {α : Type} {c : Bool} {x y : Tree α} {r : α} (h : (Tree.br c x y).run = some r) : x.run = some r ∨ y.run = some r := by
  rw [br_run] at h
  cases c
  · exact .inr h
  · exact .inl h

theorem druns_same {ops : Array Oper} : ∀ (l : List Oper) (t : T) (H : List O) (s : St), l.all (quiet cx) = true → (druns cx ops l t H).run = some s → SameH H s
  | [], t, H, s, _, h => by
    simp only [druns, Tree.run, Option.some.injEq] at h
    subst h
    exact .inr rfl
  | o :: r, t, H, s, hq, h => by
    obtain ⟨hq1, hq2⟩ := Bool.and_eq_true_iff.1 (by simpa using hq : (quiet cx o && r.all (quiet cx)) = true)
    have put : ∀ {v t}, (dputs cx o v t H (druns cx ops r)).run = some s → SameH H s := by
      intro v t h
      unfold dputs at h
      split at h
      · exact druns_same r _ H s hq2 h
      · cases h
    have op : ∀ {t}, ((dop cx t H o).bind (dres cx o t (druns cx ops r))).run = some s → SameH H s := by
      intro t h
      obtain ⟨res, h1, h2⟩ := bind_run h
      cases res with
      | ok v H1 =>
        have := quiet_spec hq1 h1
        subst this
        exact put h2
      | pan v H1 =>
        simp only [dres, Tree.run, Option.some.injEq] at h2
        subst h2
        exact .inl ⟨v, rfl⟩
    unfold druns dstep at h
    split at h
    · exact op h
    · rename_i j want hg
      split at h
      · split at h
        · rename_i b hb
          rcases br_cases h with h | h
          · cases want
            · exact put h
            · exact op h
          · cases want
            · exact op h
            · exact put h
        · exact put h
        · cases h
      · cases h

theorem dloop_same {f : T → List O → Tree St} {H : List O} (hf : ∀ t s, (f t H).run = some s → SameH H s) : ∀ (n : Nat) (t : T) (s : St), (dloop f n t H).run = some s → SameH H s
  | 0, _, _, h => by cases h
  | n + 1, t, s, h => by
    obtain ⟨s1, h1, h2⟩ := bind_run h
    have g := hf t s1 h1
    obtain ⟨e, t1, H1⟩ := s1
    cases e
    · rcases g with ⟨v, hv⟩ | g
      · cases hv
      · cases g
        exact dloop_same hf n t1 s h2
    all_goals (simp only [dseq, Tree.run, Option.some.injEq] at h2; subst h2; exact g)

theorem dcode_same : ∀ (c : Code) (t : T) (H : List O) (s : St), quietC cx c = true → (dcode cx c t H).run = some s → SameH H s
  | .skip, t, H, s, _, h => by
    simp only [dcode, Tree.run, Option.some.injEq] at h
    subst h
    exact .inr rfl
  | .region id ops draw, t, H, s, hq, h => by
    unfold dcode at h
    cases draw
    · exact druns_same _ _ _ _ hq h
    · simp only [cond_true] at h
      cases hd : (drawOk cx ops || drawOkT cx ops t H)
      · rw [hd] at h; cases h
      · rw [hd] at h
        obtain ⟨s1, h1, h2⟩ := bind_run h
        have g := druns_same _ _ _ _ hq h1
        obtain ⟨e, t1, H1⟩ := s1
        cases e
        · simp only [dnorm, Tree.run, Option.some.injEq] at h2
          subst h2
          exact g
        all_goals (cases h2)
  | .seq a b, t, H, s, hq, h => by
    obtain ⟨q1, q2⟩ := Bool.and_eq_true_iff.1 hq
    unfold dcode at h
    obtain ⟨s1, h1, h2⟩ := bind_run h
    have g := dcode_same a t H s1 q1 h1
    obtain ⟨e, t1, H1⟩ := s1
    cases e
    · rcases g with ⟨v, hv⟩ | g
      · cases hv
      · cases g
        exact dcode_same b t1 _ s q2 h2
    all_goals (simp only [dseq, Tree.run, Option.some.injEq] at h2; subst h2; exact g)
  | .cond c a b, t, H, s, hq, h => by
    obtain ⟨q1, q2⟩ := Bool.and_eq_true_iff.1 hq
    unfold dcode at h
    split at h
    · split at h
      · rcases br_cases h with h | h
        · exact dcode_same a _ H s q1 h
        · exact dcode_same b _ H s q2 h
      · cases h
    · split at h
      · rcases br_cases h with h | h
        · exact dcode_same a _ H s q1 h
        · exact dcode_same b _ H s q2 h
      · cases h
  | .block id c, t, H, s, hq, h => by
    unfold dcode at h
    obtain ⟨s1, h1, h2⟩ := bind_run h
    have g := dcode_same c t H s1 hq h1
    obtain ⟨e, t1, H1⟩ := s1
    cases e
    all_goals (simp only [dblock, Tree.run, Option.some.injEq] at h2; subst h2)
    · exact g
    · rcases g with ⟨v, hv⟩ | g
      · cases hv
      · exact .inr g
    all_goals exact g
  | .exit _, t, H, s, _, h => by
    simp only [dcode, Tree.run, Option.some.injEq] at h
    subst h
    exact .inr rfl
  | .ret, t, H, s, _, h => by
    simp only [dcode, Tree.run, Option.some.injEq] at h
    subst h
    exact .inr rfl
  | .loop c, t, H, s, hq, h => by
    unfold dcode at h
    exact dloop_same (fun t s h => dcode_same c t H s hq h) _ _ _ h
  | .goto _, _, _, _, hq, _ => by cases hq

/-- Such a function as what it answers. -/
def qfun (cx : Cx) (fn : Func) (args : List V) (H : List O) : Tree V :=
  .req (Nat.ble args.length fn.ntmps) ((mfun cx fn args H).bind fun r => match r with
    | .ok v _ => .leaf v
    | .pan _ _ => .fail)

theorem qfun_ok {cx : Cx} {f : Nat} {fn : Func} (hT : CxOk cx) (hf : cx.P.funcs[f]? = some fn) (hname : (fn.name == "runtime.NumGoroutine") = false)
    (hq : quietC { cx with n := fn.ntmps } (bodyOf fn) = true) (hb : fn.body = some (bodyOf fn)) : RSound cx.P f (qfun cx fn) := by
  intro args H v h
  obtain ⟨h1, h2⟩ := req_run h
  obtain ⟨r, h3, h4⟩ := bind_run h2
  cases r with
  | pan _ _ => cases h4
  | ok u H1 =>
    cases h4
    have e : H1 = H := by
      unfold mfun at h3
      rw [hb] at h3
      simp only at h3
      obtain ⟨s, g1, g2⟩ := bind_run h3
      have g := dcode_same _ _ _ _ hq g1
      obtain ⟨ex, t, H2⟩ := s
      unfold answerM at g2
      split at g2
      · rename_i heq
        cases heq
        split at g2
        · cases g2
          rcases g with ⟨v, hv⟩ | g
          · cases hv
          · exact g
        · cases g2
      · rename_i heq
        cases heq
        split at g2
        · cases g2
          rcases g with ⟨v, hv⟩ | g
          · cases hv
          · exact g
        · cases g2
      · cases g2
      · cases g2
    subst e
    exact msound_fun hT hf hname _ _ _ (by
      show (Tree.req _ _).run = _
      unfold Tree.req
      rw [br_run, h1]
      exact h3)
end
end Go.Ab
