/-
  The statements' beginning: begun. Conditions: none.
-/
import Derived.Test.YtffamklolgjjdaaAr12
namespace Go.Arm
open Go Go.Ab Go.Proofs Go.Wd

/-- The context of foundry/foundrylaw11.begun. -/
noncomputable def cx9 : Cx := { P := Try.prog, n := 69, tab := [(10, encodeS), (15, decodeS), (20, operandsS), (12, mayS), (18, namesS)], mtab := [], refs := [], keeps := [0, 1, 2, 3, 4, 5, 6, 7] }
theorem begun_run : (dfun cx9 Try.f9 []).run = some (.bool true) := by kernel_rfl

def begunS : Ab.Spec := fun args => match args with
  | [] => .leaf (.bool true)
  | _ => .fail

theorem begunS_ok : Sound Try.prog 9 begunS := by
  intro args out h
  unfold begunS at h
  split at h
  rotate_left
  · cases h
  have h := leaf_out h
  subst h
  exact pcall_fun' (cx := cx9) (fn := Try.f9) (cx1_ok (.cons encodeS_ok (.cons decodeS_ok (.cons operandsS_ok (.cons mayS_ok (ok1 namesS_ok))))) (.nil _) rfl rfl) (by kernel_rfl) (by kernel_rfl) (by kernel_rfl) begun_run

end Go.Arm
