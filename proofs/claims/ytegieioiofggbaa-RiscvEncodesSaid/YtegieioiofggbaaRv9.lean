/-
  The statements' beginning: begun. Conditions: none.
-/
import Derived.Test.YtegieioiofggbaaRv8
namespace Go.Rv
open Go Go.Ab Go.Proofs

/-- The context of foundry/foundrylaw8.begun. -/
noncomputable def cx8 : Cx := { P := Try.prog, n := 64, tab := [(9, encodeS), (14, decodeS), (19, operandsS), (11, mayS), (17, namesS)], mtab := [], refs := [], keeps := [0, 1, 2, 3, 4, 5, 6, 7] }
theorem begun_run : (dfun cx8 Try.f8 []).run = some (.bool true) := by kernel_rfl

def begunS : Ab.Spec := fun args => match args with
  | [] => .leaf (.bool true)
  | _ => .fail

theorem begunS_ok : Sound Try.prog 8 begunS := by
  intro args out h
  unfold begunS at h
  split at h
  rotate_left
  · cases h
  simp only [Tree.run, Option.some.injEq] at h
  subst h
  exact pcall_fun' (cx := cx8) (fn := Try.f8) (cx1_ok (.cons encodeS_ok (.cons decodeS_ok (.cons operandsS_ok (.cons mayS_ok (.cons namesS_ok (.nil _)))))) (.nil _) rfl rfl) (by kernel_rfl) (by kernel_rfl) (by kernel_rfl) begun_run

end Go.Rv
