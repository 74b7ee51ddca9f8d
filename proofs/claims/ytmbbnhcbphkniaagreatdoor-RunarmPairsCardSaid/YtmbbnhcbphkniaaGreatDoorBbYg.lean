/-
  Rounds and rows of statements, told shortly: objects dropped, and of the slots only some. Conditions: none.
-/
import Derived.Test.YtmbbnhcbphkniaaGreatDoorEnJ
import Derived.Test.YtmbbnhcbphkniaaGreatDoorBbYf
namespace Go.Ab
open Go

/-- An end, objects dropped, and of the slots only some told. -/
def rnd (n : Nat) (κ ks : List Nat) (s : St) : Tree St := match dropS n κ s with
  | some (e, t, H) => .leaf (e, keep ks t, H)
  | none => .fail
/-- What is to be shown of such an end. -/
def RoundK {α : Type} (st : α → T × List O) (μ : α → Nat) (ks : List Nat) (Q : AEx → T → List O → Prop) (i : α) (s : St) : Prop :=
  match s.1 with
  | .normal => ∃ j, μ j < μ i ∧ TLe s.2.1 (st j).1 ∧ s.2.2 = (st j).2
  | e => ∀ t, s.2.1 = keep ks t → Q e t s.2.2

section
variable {P : Program} {n : Nat} {cx : Cx} {Q : AEx → T → List O → Prop}

theorem rnd_spec {m : Nat} {κ ks : List Nat} {s : St} {R : St → Prop} (h : (rnd m κ ks s).all R) : ∃ s', dropS m κ s = some s' ∧ R (s'.1, keep ks s'.2.1, s'.2.2) := by
  unfold rnd at h
  split at h
  · rename_i e t H hd
    exact ⟨_, hd, h⟩
  · exact h.elim

theorem AWP_roundsK {α : Type} (hP : cx.P = P) (hn : cx.n = n) (hT : CxOk cx) (st : α → T × List O) (μ : α → Nat) (κ ks : List Nat) {body : Code}
    (h : ∀ i, ((dcode cx body (st i).1 (st i).2).bind (rnd (st i).2.length κ ks)).all (RoundK st μ ks Q i)) (i : α) : AWP P n (.loop body) Q (st i).1 (st i).2 := by
  refine AWP_rounds hP hn hT st μ (fun i => ?_) i
  refine Tree.all_mono (Tree.all_bind (h i)) fun s hs => ?_
  obtain ⟨s', h1, h2⟩ := rnd_spec hs
  refine ⟨κ, s', h1, ?_⟩
  obtain ⟨e, t, H⟩ := s'
  unfold RoundK at h2
  cases e with
  | normal =>
    obtain ⟨j, a, b, c⟩ := h2
    refine ⟨j, a, fun d => ?_, c⟩
    rcases b d with g | g
    · rcases TLe.keep ks t d with k | k
      · exact .inl (g.trans k)
      · rw [k] at g; exact .inr g
    · exact .inr g
  | exit id => exact h2 t rfl
  | ret => exact h2 t rfl
  | panic v => exact h2 t rfl

/-- Code without loops: its ends, objects dropped, and of the slots only some. -/
theorem AWP_codeK (hP : cx.P = P) (hn : cx.n = n) (hT : CxOk cx) (κ ks : List Nat) {c : Code} {t : T} {H : List O}
    (h : ((dcode cx c t H).bind (rnd H.length κ ks)).all (fun s => ∀ t, s.2.1 = keep ks t → Q s.1 t s.2.2)) : AWP P n c Q t H := by
  refine AWP_scope (AWP_code hP hn hT c _ _ _ (Tree.all_mono (Tree.all_bind h) fun s hs => ?_))
  obtain ⟨s', h1, h2⟩ := rnd_spec hs
  exact ⟨κ, s', h1, h2 _ rfl⟩

theorem fin_all {α : Type} {x y : Tree α} {R : α → Prop} (e : x.fin = y.fin) (h : y.all R) : x.all R :=
  Tree.all_run_eq (by rw [← Tree.fin_run, ← Tree.fin_run, e]) h

/-- A slot that is told. -/
theorem get_told {ks : List Nat} {t s : T} (h : s = keep ks t) (d : Nat) : get d s = get d t ∨ get d s = .any := by
  subst h
  exact TLe.keep ks t d
theorem tle_told {ks : List Nat} {t s : T} (h : s = keep ks t) : TLe t s := fun d => get_told h d

end
end Go.Ab
