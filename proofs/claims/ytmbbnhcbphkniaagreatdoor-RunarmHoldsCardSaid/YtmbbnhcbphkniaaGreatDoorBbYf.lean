/-
  A tree's end, by its recursor alone: the kernel compares such ends from the outside in, and never two projections. Conditions: none.
-/
import Derived.Test.YtmbbnhcbphkniaaGreatDoorBbYe
namespace Go.Ab
open Go

/-- As 'out', by the recursor. -/
noncomputable def Tree.fin {α : Type} (t : Tree α) : Option α :=
  Tree.rec (motive := fun _ => Option α) (fun b => some b) none (fun c _ _ x y => Bool.rec (motive := fun _ => Option α) y x c) t

theorem Tree.fin_run {α : Type} : ∀ t : Tree α, t.fin = t.run
  | .leaf _ => rfl
  | .fail => rfl
  | .br true x _ => Tree.fin_run x
  | .br false _ y => Tree.fin_run y

end Go.Ab
