/-
  AmdNames: its call answers true. Conditions: none.
-/
import Derived.Test.YtlfnjldfmfjghaaEnE
import Derived.Test.YtlfnjldfmfjghaaAm12
import Derived.Test.YtlfnjldfmfjghaaAm9
namespace Go.Amd
open Go Go.Ab Go.Proofs

theorem namesM_run : mfunD cx18 Try.f18 [] [] [1] = some (.gro 0 .str namesL, [.tok 58 1]) := by kernel_rfl

def namesM : MSpec := fun args H => match args, H with
  | [], [] => .leaf (.ok (.ref 0 1 0 58) [.cells (namesL.map V.str) 9])
  | _, _ => .fail

theorem namesM_ok : MSound Try.prog 18 namesM := by
  intro args H out h
  unfold namesM at h
  split at h
  rotate_left
  · cases h
  simp only [Tree.run, Option.some.injEq] at h
  subst h
  have hl : namesL.length = 58 := by kernel_rfl
  have h0 : MCall Try.prog 18 [] [] (.ok (.gro 0 .str namesL) [.tok 58 1]) := mcall_funD (cx := cx18) (fn := Try.f18) [1] (cx1_ok (ok1 rowsS_ok) (.nil _) rfl rfl) (by kernel_rfl) (by kernel_rfl) (by kernel_rfl) (by kernel_rfl) namesM_run
  have := mcall_own (l := namesL) 9 (by decide) (by rw [hl]; exact h0)
  rw [hl] at this
  exact this

/-- The context of foundry/foundrylaw12.AmdNames. -/
noncomputable def cx6 : Cx := { P := Try.prog, n := 94, tab := [(9, begunS), (19, tableS), (20, operandsS), (21, opsXS)], mtab := [(18, namesM)], refs := [], keeps := [0, 2, 3, 4, 5, 6, 7, 8, 10, 11, 12, 13, 15, 22, 26, 63], fuel := 64 }
noncomputable abbrev B6 : Code := bodyOf Try.f6
theorem cxNm_ok : CxOk cx6 := cx1_ok (.cons begunS_ok (.cons tableS_ok (.cons operandsS_ok (ok1 opsXS_ok)))) (.cons namesM_ok (.nil _)) rfl rfl
noncomputable def cx6b : Cx := { P := Try.prog, n := cx6.n, tab := [(18, namesS)], mtab := [], refs := [], keeps := cx6.keeps }
theorem cx6b_ok : CxOk cx6b := cx1_ok (ok1 namesS_ok) (.nil _) rfl rfl
/-- Names, the first written over. -/
def spoiltH : List O := [.cells (V.str [115, 112, 111, 105, 108, 116] :: (namesL.map V.str).drop 1) 9]
theorem lawN_head (nm : List UInt8) : (dcode cx6 (headN 8 B6) (initT 0 [.str nm]) []).run.map (fun s => (s.1, keep [4, 10, 11, 12, 13] s.2.1, s.2.2)) =
    some (.normal, [(4, .sl rowXE rowsX [] .ro), (10, .str (opsOf nm)), (11, .bool (fok nm)), (12, .str (opsX nm)), (13, .bool (fokX nm))], spoiltH) := by kernel_rfl
def lawNEnd (a b : List UInt8) (x y : Bool) (H : List O) : Tree St :=
  (.br (strEq a b) (.br (x == y) (.leaf (.ret, [(2, (.bool true)), (4, (.sl (.prod [.str, (.int .i64), (.sl (.int .u8)), (.int .i64), (.int .i64)]) (rowsX) ([]) Fl.ro)), (10, (.str a)), (11, (.bool x)), (12, (.str b)), (13, (.bool y))], H)) (.leaf (.ret, [(2, (.bool false)), (4, (.sl (.prod [.str, (.int .i64), (.sl (.int .u8)), (.int .i64), (.int .i64)]) (rowsX) ([]) Fl.ro)), (10, (.str a)), (11, (.bool x)), (12, (.str b)), (13, (.bool y))], H))) (.leaf (.ret, [(2, (.bool false)), (4, (.sl (.prod [.str, (.int .i64), (.sl (.int .u8)), (.int .i64), (.int .i64)]) (rowsX) ([]) Fl.ro)), (10, (.str a)), (11, (.bool x)), (12, (.str b)), (13, (.bool y))], H)))

theorem lawNEnd_eq (a b : List UInt8) (x y : Bool) (H : List O) : (dcode cx6b (tailN 8 B6) [(4, .sl rowXE rowsX [] .ro), (10, .str a), (11, .bool x), (12, .str b), (13, .bool y)] H).run = (lawNEnd a b x y H).run :=
  (show (dcode cx6b (tailN 8 B6) [(4, .sl rowXE rowsX [] .ro), (10, .str a), (11, .bool x), (12, .str b), (13, .bool y)] H).run = (lawNEnd a b x y H).out by kernel_rfl).trans (Tree.out_run _)


theorem lawN_ok (nm : List UInt8) : PCall Try.prog 6 [.str nm] (.bool true) := by
  refine pcall_of' (c := bodyOf Try.f6) (fn := Try.f6) (by kernel_rfl) (by kernel_rfl) (by kernel_rfl) (by kernel_rfl) ?_
  refine AWP_headK (cx := cx6) rfl rfl cxNm_ok 8 [4, 10, 11, 12, 13] (by kernel_rfl) (lawN_head nm) ?_
  refine AWP_code (cx := cx6b) rfl rfl cx6b_ok _ _ _ _ (Tree.all_run_eq (lawNEnd_eq (opsOf nm) (opsX nm) (fok nm) (fokX nm) spoiltH) ?_)
  have h1 : strEq (opsOf nm) (opsX nm) = true := by rw [ops_eq]; exact beq_self_eq_true _
  have h2 : (fok nm == fokX nm) = true := by rw [fok_eq]; exact beq_self_eq_true _
  refine ⟨fun _ => ⟨fun _ => ⟨.inl rfl, by kernel_rfl⟩, fun h => Bool.noConfusion (h2.symm.trans h)⟩, fun h => Bool.noConfusion (h1.symm.trans h)⟩

end Go.Amd
