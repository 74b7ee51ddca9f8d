/-
  runarm: Moves, of whatever is handed in. Conditions: none.
-/
import Derived.Test.YtmbbnhcbphkniaaGreatDoorRa9
import Derived.Test.YtmbbnhcbphkniaaGreatDoorEnJ
namespace Go.Ra
open Go Go.Ab Go.Proofs

theorem moves_call (x : EC.tys [.int .u64, .int .u8]) (h : okEs [.int .u64, .int .u8] x) : PCall Tryz.prog 5 (argVs [.int .u64, .int .u8] x) (.bool true) := by
  have h1 : IntKind.u64.has x.1 := h.1
  have h2 : IntKind.u8.has x.2 := h.2
  have e1 : IntKind.u64.min = 0 ∧ IntKind.u64.max = 2 ^ 64 - 1 ∧ IntKind.u8.min = 0 ∧ IntKind.u8.max = 255 := ⟨rfl, rfl, rfl, rfl⟩
  unfold IntKind.has at h1 h2
  rw [e1.1, e1.2.1] at h1
  rw [e1.2.2.1, e1.2.2.2] at h2
  obtain ⟨a1, a2⟩ := h1
  obtain ⟨b1, b2⟩ := h2
  exact moves_ok (n := x.1) (k := x.2) a1 (Int.lt_of_le_sub_one a2) b1 (Int.lt_of_le_sub_one b2)

end Go.Ra
