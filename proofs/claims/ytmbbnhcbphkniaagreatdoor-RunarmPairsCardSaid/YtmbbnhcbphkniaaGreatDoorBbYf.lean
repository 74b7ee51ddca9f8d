/-
  A tree's end, by its recursor alone: the kernel compares such ends from the outside in, and never two projections. Conditions: none.
-/
import Derived.Test.YtmbbnhcbphkniaaGreatDoorBbYe
namespace Go.Ab
open Go

/-- As 'out', by the recursor. -/
noncomputable def Tree.fin {α : Type} (t : Tree α) : Option α :=
  Tree.rec (motive := fun _ => Option α) (fun b => some b) none (fun c _ _ x y => Bool.rec (motive := fun _ => Option α) y x c) t

theorem Tree.fin_run {α : Type} : ∀ t : Tree α, t.fin = t.run
  | .leaf _ => rfl
  | .fail => rfl
  | .br true x _ => Tree.fin_run x
  | .br false _ y => Tree.fin_run y

/-- Is it no end at all? (By the recursor.) -/
noncomputable def Tree.isFail {α : Type} (t : Tree α) : Bool := Tree.rec (motive := fun _ => Bool) (fun _ => false) true (fun _ _ _ _ _ => false) t
theorem Tree.isFail_spec {α : Type} : ∀ {t : Tree α}, t.isFail = true → t = .fail
  | .leaf _, h => by cases h
  | .fail, _ => rfl
  | .br _ _ _, h => by cases h

/-- The end, where conditions hold that must hold. -/
noncomputable def Tree.strip {α : Type} (t : Tree α) : Option α :=
  Tree.rec (motive := fun _ => Option α) (fun b => some b) none (fun c x y sx sy => cond y.isFail sx (cond x.isFail sy (Bool.rec (motive := fun _ => Option α) sy sx c))) t
/-- That they hold. -/
noncomputable def Tree.holds {α : Type} (t : Tree α) : Bool :=
  Tree.rec (motive := fun _ => Bool) (fun _ => true) false (fun c x y hx hy => cond y.isFail (c && hx) (cond x.isFail (!c && hy) (Bool.rec (motive := fun _ => Bool) hy hx c))) t

theorem Tree.strip_run {α : Type} : ∀ {t : Tree α}, t.holds = true → t.run = t.strip
  | .leaf _, _ => rfl
  | .fail, _ => rfl
  | .br c x y, h => by
    have e1 : (Tree.br c x y).strip = cond y.isFail x.strip (cond x.isFail y.strip (Bool.rec (motive := fun _ => Option α) y.strip x.strip c)) := rfl
    have e2 : (Tree.br c x y).holds = cond y.isFail (c && x.holds) (cond x.isFail (!c && y.holds) (Bool.rec (motive := fun _ => Bool) y.holds x.holds c)) := rfl
    rw [e2] at h
    rw [e1]
    cases hy : y.isFail
    · rw [hy, cond_false] at h
      rw [cond_false]
      cases hx : x.isFail
      · rw [hx, cond_false] at h
        rw [cond_false]
        cases c
        · exact Tree.strip_run (t := y) h
        · exact Tree.strip_run (t := x) h
      · rw [hx, cond_true] at h
        rw [cond_true]
        obtain ⟨h1, h2⟩ := Bool.and_eq_true_iff.1 h
        have h1 : c = false := by simpa using h1
        subst h1
        exact Tree.strip_run (t := y) h2
    · rw [hy, cond_true] at h
      rw [cond_true]
      obtain ⟨h1, h2⟩ := Bool.and_eq_true_iff.1 h
      subst h1
      exact Tree.strip_run (t := x) h2

end Go.Ab
