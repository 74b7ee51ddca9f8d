/-
  The table of amd: like, moves, sums, jumps, rows. Conditions: none.
-/
import Derived.Test.YtlfnjldfmfjghaaEnE
import Derived.Test.YtlfnjldfmfjghaaProg
import Derived.KernelRfl
namespace Go.Amd
open Go Go.Ab Go.Proofs

theorem cx0_ok {cx : Cx} (h1 : cx.tab = []) (h2 : cx.mtab = []) (h3 : cx.rtab = [] := by rfl) : CxOk cx := by
  refine ⟨?_, ?_, ?_⟩
  · rw [h1]; exact .nil _
  · rw [h2]; exact .nil _
  · rw [h3]; exact .nil _
theorem cx1_ok {cx : Cx} {t : List (Nat × Ab.Spec)} {m : List (Nat × MSpec)} (ht : TabOk cx.P t) (hm : MTabOk cx.P m) (h1 : cx.tab = t) (h2 : cx.mtab = m) (h3 : cx.rtab = [] := by rfl) : CxOk cx := by
  refine ⟨?_, ?_, ?_⟩
  · rw [h1]; exact ht
  · rw [h2]; exact hm
  · rw [h3]; exact .nil _
theorem cx2_ok {cx : Cx} {t : List (Nat × Ab.Spec)} {m : List (Nat × MSpec)} {r : List (Nat × RSpec)} (ht : TabOk cx.P t) (hm : MTabOk cx.P m) (hr : RTabOk cx.P r) (h1 : cx.tab = t) (h2 : cx.mtab = m) (h3 : cx.rtab = r) : CxOk cx := by
  refine ⟨?_, ?_, ?_⟩
  · rw [h1]; exact ht
  · rw [h2]; exact hm
  · rw [h3]; exact hr

abbrev rowE : EC := .prod [.str, .int .i64, .int .u16, .int .i64, .int .u8, .bool, .int .i64, .int .i64, .str]
/-- A row: name, prefix, opcode, form, digit, whether it has a condition, low, high, operands. -/
abbrev RowT := List UInt8 × Int × Int × Int × Int × Bool × Int × Int × List UInt8

/-- The context of (*foundry/amd.list).like. -/
noncomputable def cx78 : Cx := { P := Try.prog, n := 32, tab := [], mtab := [], refs := [], keeps := [0, 1, 2, 4, 7, 8, 9, 10, 11], fuel := 10 }
noncomputable def likeS : MSpec := fun args H => .req (Nat.ble args.length Try.f78.ntmps) (mfun cx78 Try.f78 args H)
theorem likeS_ok : MSound Try.prog 78 likeS := msound_fun (cx := cx78) (fn := Try.f78) (cx0_ok rfl rfl) (by kernel_rfl) (by kernel_rfl)
/-- The context of (*foundry/amd.list).moves. -/
noncomputable def cx64 : Cx := { P := Try.prog, n := 62, tab := [], mtab := [(78, likeS)], refs := [], keeps := [0, 2, 3, 4] }
/-- The context of (*foundry/amd.list).sums. -/
noncomputable def cx65 : Cx := { P := Try.prog, n := 75, tab := [], mtab := [(78, likeS)], refs := [], keeps := [0] }
/-- The context of (*foundry/amd.list).jumps. -/
noncomputable def cx66 : Cx := { P := Try.prog, n := 43, tab := [], mtab := [(78, likeS)], refs := [], keeps := [0] }
/-- The program's rows. -/
def movesL : List RowT := [
  ([109, 111, 118, 46, 114, 114], 1, 137, 7, 0, false, 0, 0, [65, 66]),
  ([109, 111, 118, 46, 114, 105], 1, 184, 2, 0, false, -9223372036854775808, 9223372036854775807, [65, 105]),
  ([109, 111, 118, 46, 114, 115], 1, 199, 4, 0, false, -2147483648, 2147483647, [65, 105]),
  ([109, 111, 118, 46, 114, 109], 1, 139, 9, 0, false, -2147483648, 2147483647, [65, 109]),
  ([109, 111, 118, 108, 46, 114, 109], 0, 139, 9, 0, false, -2147483648, 2147483647, [65, 109]),
  ([109, 111, 118, 115, 108, 46, 114, 109], 1, 99, 9, 0, false, -2147483648, 2147483647, [65, 109]),
  ([109, 111, 118, 122, 98, 46, 114, 109], 1, 4022, 9, 0, false, -2147483648, 2147483647, [65, 109]),
  ([108, 101, 97], 1, 141, 9, 0, false, -2147483648, 2147483647, [65, 109]),
  ([109, 111, 118, 46, 109, 114], 1, 137, 9, 0, false, -2147483648, 2147483647, [65, 109]),
  ([109, 111, 118, 108, 46, 109, 114], 0, 137, 9, 0, false, -2147483648, 2147483647, [65, 109]),
  ([109, 111, 118, 98, 46, 109, 114], 2, 136, 9, 0, false, -2147483648, 2147483647, [65, 109]),
  ([109, 111, 118, 46, 102, 115], 1, 139, 10, 0, false, -2147483648, 2147483647, [65, 105])]
@[irreducible] def rowsL : List RowT := [
  ([109, 111, 118, 46, 114, 114], 1, 137, 7, 0, false, 0, 0, [65, 66]),
  ([109, 111, 118, 46, 114, 105], 1, 184, 2, 0, false, -9223372036854775808, 9223372036854775807, [65, 105]),
  ([109, 111, 118, 46, 114, 115], 1, 199, 4, 0, false, -2147483648, 2147483647, [65, 105]),
  ([109, 111, 118, 46, 114, 109], 1, 139, 9, 0, false, -2147483648, 2147483647, [65, 109]),
  ([109, 111, 118, 108, 46, 114, 109], 0, 139, 9, 0, false, -2147483648, 2147483647, [65, 109]),
  ([109, 111, 118, 115, 108, 46, 114, 109], 1, 99, 9, 0, false, -2147483648, 2147483647, [65, 109]),
  ([109, 111, 118, 122, 98, 46, 114, 109], 1, 4022, 9, 0, false, -2147483648, 2147483647, [65, 109]),
  ([108, 101, 97], 1, 141, 9, 0, false, -2147483648, 2147483647, [65, 109]),
  ([109, 111, 118, 46, 109, 114], 1, 137, 9, 0, false, -2147483648, 2147483647, [65, 109]),
  ([109, 111, 118, 108, 46, 109, 114], 0, 137, 9, 0, false, -2147483648, 2147483647, [65, 109]),
  ([109, 111, 118, 98, 46, 109, 114], 2, 136, 9, 0, false, -2147483648, 2147483647, [65, 109]),
  ([109, 111, 118, 46, 102, 115], 1, 139, 10, 0, false, -2147483648, 2147483647, [65, 105]),
  ([97, 100, 100, 46, 114, 114], 1, 1, 7, 0, false, 0, 0, [65, 66]),
  ([111, 114, 46, 114, 114], 1, 9, 7, 0, false, 0, 0, [65, 66]),
  ([97, 110, 100, 46, 114, 114], 1, 33, 7, 0, false, 0, 0, [65, 66]),
  ([115, 117, 98, 46, 114, 114], 1, 41, 7, 0, false, 0, 0, [65, 66]),
  ([120, 111, 114, 46, 114, 114], 1, 49, 7, 0, false, 0, 0, [65, 66]),
  ([99, 109, 112, 46, 114, 114], 1, 57, 7, 0, false, 0, 0, [65, 66]),
  ([97, 100, 100, 46, 114, 109], 1, 3, 9, 0, false, -2147483648, 2147483647, [65, 109]),
  ([111, 114, 46, 114, 109], 1, 11, 9, 0, false, -2147483648, 2147483647, [65, 109]),
  ([97, 110, 100, 46, 114, 109], 1, 35, 9, 0, false, -2147483648, 2147483647, [65, 109]),
  ([115, 117, 98, 46, 114, 109], 1, 43, 9, 0, false, -2147483648, 2147483647, [65, 109]),
  ([120, 111, 114, 46, 114, 109], 1, 51, 9, 0, false, -2147483648, 2147483647, [65, 109]),
  ([99, 109, 112, 46, 114, 109], 1, 59, 9, 0, false, -2147483648, 2147483647, [65, 109]),
  ([97, 100, 100, 46, 114, 105], 1, 131, 6, 0, false, -2147483648, 2147483647, [65, 105]),
  ([111, 114, 46, 114, 105], 1, 131, 6, 1, false, -2147483648, 2147483647, [65, 105]),
  ([97, 110, 100, 46, 114, 105], 1, 131, 6, 4, false, -2147483648, 2147483647, [65, 105]),
  ([115, 117, 98, 46, 114, 105], 1, 131, 6, 5, false, -2147483648, 2147483647, [65, 105]),
  ([120, 111, 114, 46, 114, 105], 1, 131, 6, 6, false, -2147483648, 2147483647, [65, 105]),
  ([99, 109, 112, 46, 114, 105], 1, 131, 6, 7, false, -2147483648, 2147483647, [65, 105]),
  ([116, 101, 115, 116, 46, 114, 114], 1, 133, 7, 0, false, 0, 0, [65, 66]),
  ([105, 109, 117, 108, 46, 114, 114], 1, 4015, 8, 0, false, 0, 0, [65, 66]),
  ([110, 111, 116], 1, 247, 3, 2, false, 0, 0, [65]),
  ([110, 101, 103], 1, 247, 3, 3, false, 0, 0, [65]),
  ([109, 117, 108], 1, 247, 3, 4, false, 0, 0, [65]),
  ([100, 105, 118], 1, 247, 3, 6, false, 0, 0, [65]),
  ([105, 100, 105, 118], 1, 247, 3, 7, false, 0, 0, [65]),
  ([99, 113, 111], 1, 153, 0, 0, false, 0, 0, []),
  ([115, 104, 108, 46, 114, 105], 1, 193, 5, 4, false, 0, 63, [65, 105]),
  ([115, 104, 114, 46, 114, 105], 1, 193, 5, 5, false, 0, 63, [65, 105]),
  ([115, 97, 114, 46, 114, 105], 1, 193, 5, 7, false, 0, 63, [65, 105]),
  ([115, 104, 108, 46, 114, 99], 1, 211, 3, 4, false, 0, 0, [65]),
  ([115, 104, 114, 46, 114, 99], 1, 211, 3, 5, false, 0, 0, [65]),
  ([115, 97, 114, 46, 114, 99], 1, 211, 3, 7, false, 0, 0, [65]),
  ([99, 109, 111, 118], 1, 3904, 8, 0, true, 0, 0, [65, 66, 99]),
  ([112, 117, 115, 104], 0, 80, 1, 0, false, 0, 0, [65]),
  ([112, 111, 112], 0, 88, 1, 0, false, 0, 0, [65]),
  ([99, 97, 108, 108], 0, 232, 11, 0, false, -2147483648, 2147483647, [106]),
  ([106, 109, 112], 0, 233, 11, 0, false, -2147483648, 2147483647, [106]),
  ([106, 109, 112, 46, 115], 0, 235, 12, 0, false, -128, 127, [106]),
  ([99, 97, 108, 108, 46, 114], 0, 255, 3, 2, false, 0, 0, [65]),
  ([106, 109, 112, 46, 114], 0, 255, 3, 4, false, 0, 0, [65]),
  ([106, 99, 99], 0, 3968, 11, 0, true, -2147483648, 2147483647, [99, 106]),
  ([106, 99, 99, 46, 115], 0, 112, 12, 0, true, -128, 127, [99, 106]),
  ([114, 101, 116], 0, 195, 0, 0, false, 0, 0, []),
  ([115, 121, 115, 99, 97, 108, 108], 0, 3845, 0, 0, false, 0, 0, []),
  ([110, 111, 112], 0, 144, 0, 0, false, 0, 0, []),
  ([117, 100, 50], 0, 3851, 0, 0, false, 0, 0, [])]

/-! moves: one of its statements may go in many orders. -/

def mvH : List O := [.cells [.gro 1 rowE []] 108, .tok 0 9]
noncomputable def mvOf (x : Option St) : T × List O := match x with
  | some (.normal, t, H) => (t, H)
  | _ => ([], [])
@[irreducible] noncomputable def mv4 : T × List O := mvOf (dcode cx64 (headN 3 (bodyOf Try.f64)) [(0, .ptr 0 0)] mvH).run
theorem mv4_eq : (dcode cx64 (headN 3 (bodyOf Try.f64)) [(0, .ptr 0 0)] mvH).run = some (.normal, mv4.1, mv4.2) := by kernel_rfl
noncomputable def mvOps : Array Oper := regOps (c1 (tailN 3 (bodyOf Try.f64)))
@[irreducible] noncomputable def mv5 : T × List O := mvOf (((ordsF cx64 mvOps mvOps.size (Array.replicate mvOps.size false) mv4).map (fun l => l.map fun s => dropS mv4.2.length (ordK [3, 4] s.1) (.normal, s.1, s.2))).getD []).head?.join
set_option maxRecDepth 8000 in
theorem mv5_eq : (ordsF cx64 mvOps mvOps.size (Array.replicate mvOps.size false) (mv4.1, mv4.2)).map (fun l => l.map fun s => dropS mv4.2.length (ordK [3, 4] s.1) (.normal, s.1, s.2)) = some (List.replicate 30 (some (.normal, mv5.1, mv5.2))) := by kernel_rfl
@[irreducible] noncomputable def mvE : St := ((dcode cx64 (c2 (tailN 3 (bodyOf Try.f64))) mv5.1 mv5.2).run).getD (.normal, [], [])
theorem mvE_eq : (dcode cx64 (c2 (tailN 3 (bodyOf Try.f64))) mv5.1 mv5.2).run = some mvE := by kernel_rfl
theorem mvE_out : (dropS 2 [] mvE).map (fun s => (match s.1 with | .normal => true | _ => false, s.2.2)) = some (true, [.cells [.gro 1 rowE movesL] 108, .tok 12 9]) := by kernel_rfl

def movesS : MSpec := fun args H => match args, H with
  | [.ptr 0 0], [.cells [.gro 1 (.prod [.str, .int .i64, .int .u16, .int .i64, .int .u8, .bool, .int .i64, .int .i64, .str]) []] 108, .tok 0 9] => .leaf (.ok (.tup []) [.cells [.gro 1 rowE movesL] 108, .tok 12 9])
  | _, _ => .fail
theorem cxMoves_ok : CxOk cx64 := cx1_ok (.nil _) (.cons likeS_ok (.nil _)) rfl rfl
set_option maxRecDepth 8000 in
theorem movesS_ok : MSound Try.prog 64 movesS := by
  intro args H r h
  unfold movesS at h
  split at h
  rotate_left
  · cases h
  simp only [Tree.run, Option.some.injEq] at h
  subst h
  refine mcall_of' (c := bodyOf Try.f64) (fn := Try.f64) (by kernel_rfl) (by kernel_rfl) (by kernel_rfl) (by kernel_rfl) ?_
  refine AWP_scope ?_
  refine AWP_head (cx := cx64) rfl rfl cxMoves_ok 3 _ _ _ _ (by kernel_rfl) (Tree.run_all mv4_eq ?_)
  show AWP _ _ _ _ _ _
  have e : tailN 3 (bodyOf Try.f64) = .seq (.region 4 mvOps true) (c2 (tailN 3 (bodyOf Try.f64))) := by kernel_rfl
  rw [e]
  refine AWP_seq (AWP_ordersK (cx := cx64) [3, 4] 30 rfl rfl cxMoves_ok (by kernel_rfl) mv5_eq ?_)
  show AWP _ _ _ _ _ _
  refine AWP_run (cx := cx64) rfl rfl cxMoves_ok mvE_eq ?_
  obtain ⟨⟨ex, t, H⟩, h1, h2⟩ := Option.map_eq_some_iff.1 mvE_out
  simp only [Prod.mk.injEq] at h2
  obtain ⟨h2, rfl⟩ := h2
  refine ⟨[], _, h1, ?_⟩
  cases ex with
  | normal => exact ⟨.inr rfl, rfl, rfl⟩
  | exit _ => cases h2
  | ret => cases h2
  | panic _ => cases h2

noncomputable def sumsS : MSpec := fun args H => .req (Nat.ble args.length Try.f65.ntmps) (mfun cx65 Try.f65 args H)
theorem sumsS_ok : MSound Try.prog 65 sumsS := msound_fun (cx := cx65) (fn := Try.f65) (cx1_ok (.nil _) (.cons likeS_ok (.nil _)) rfl rfl) (by kernel_rfl) (by kernel_rfl)
noncomputable def jumpsS : MSpec := fun args H => .req (Nat.ble args.length Try.f66.ntmps) (mfun cx66 Try.f66 args H)
theorem jumpsS_ok : MSound Try.prog 66 jumpsS := msound_fun (cx := cx66) (fn := Try.f66) (cx1_ok (.nil _) (.cons likeS_ok (.nil _)) rfl rfl) (by kernel_rfl) (by kernel_rfl)
/-- The context of foundry/amd.rows. -/
noncomputable def cx31 : Cx := { P := Try.prog, n := 7, tab := [], mtab := [(64, movesS), (65, sumsS), (66, jumpsS)], refs := [], keeps := [0, 1] }


def rowsS : Ab.Spec := fun args => match args with
  | [] => .leaf (.sl rowE rowsL [] .ro)
  | _ => .fail

theorem rows_run : (dfun cx31 Try.f31 []).run = some (.sl rowE rowsL [] .ro) := by kernel_rfl
theorem rowsL_len : rowsL.length = 58 := by kernel_rfl

theorem rowsS_ok : Sound Try.prog 31 rowsS := by
  intro args out h
  unfold rowsS at h
  split at h
  rotate_left
  · cases h
  simp only [Tree.run, Option.some.injEq] at h
  subst h
  exact pcall_fun' (cx := cx31) (fn := Try.f31) (cx1_ok (.nil _) (.cons movesS_ok (.cons sumsS_ok (.cons jumpsS_ok (.nil _)))) rfl rfl) (by kernel_rfl) (by kernel_rfl) (by kernel_rfl) rows_run

end Go.Amd
