/-
  CompactNames: its call answers true. Conditions: none.
-/
import Derived.Test.YtaedihkgdmaofaaGreatDoorEnJ
import Derived.Test.YtaedihkgdmaofaaGreatDoorBbYg
import Derived.Test.YtaedihkgdmaofaaGreatDoorCz23
import Derived.Test.YtaedihkgdmaofaaGreatDoorCz27
namespace Go.Cmp
open Go Go.Ab Go.Proofs

theorem namesM_run : mfunD cx5 Tryz.f5 [] [] [1] = some (.gro 0 .str namesL, [.tok 33 1]) := by kernel_rfl
def namesM : MSpec := fun args H => match args, H with
  | [], [] => .leaf (.ok (.ref 0 1 0 33) [.cells (namesL.map V.str) 9])
  | _, _ => .fail
theorem namesM_ok : MSound Tryz.prog 5 namesM := by
  intro args H out h
  unfold namesM at h
  split at h
  rotate_left
  · cases h
  simp only [Tree.run, Option.some.injEq] at h
  subst h
  have hl : namesL.length = 33 := by kernel_rfl
  have h0 : MCall Tryz.prog 5 [] [] (.ok (.gro 0 .str namesL) [.tok 33 1]) := mcall_funD (cx := cx5) (fn := Tryz.f5) [1] (cx1_ok (ok1 rowsS_ok) (fun p h => by cases h) rfl rfl) (by kernel_rfl) (by kernel_rfl) (by kernel_rfl) (by kernel_rfl) namesM_run
  have := mcall_own (l := namesL) 9 (by decide) (by rw [hl]; exact h0)
  rw [hl] at this
  exact this

/-- The context of foundry/foundrylaw9.CompactNames. -/
noncomputable def cx3 : Cx := { P := Tryz.prog, n := 94, tab := [(4, begunS), (6, tableS), (7, opdS), (8, opdS)], mtab := [(5, namesM)], refs := [], keeps := [0, 2, 3, 4, 5, 6, 7, 8, 10, 11, 12, 13, 15, 22, 26, 63], fuel := 40 }
noncomputable abbrev B3 : Code := bodyOf Tryz.f3
theorem cxNm_ok : CxOk cx3 := cx1_ok (.cons begunS_ok (.cons tableS_ok (.cons opdS_ok (ok1 opXS_ok)))) (.cons namesM_ok fun p h => by cases h) rfl rfl
noncomputable def cx3b : Cx := { P := Tryz.prog, n := cx3.n, tab := [(5, namesS)], mtab := [], refs := [], keeps := cx3.keeps }
theorem cx3b_ok : CxOk cx3b := cx1_ok (ok1 namesS_ok) (fun p h => by cases h) rfl rfl
/-- Names, the first written over. -/
def spoiltH : List O := [.cells (V.str [115, 112, 111, 105, 108, 116] :: (namesL.map V.str).drop 1) 9]
theorem lawN_head (nm : List UInt8) : (dcode cx3 (headN 8 B3) (initT 0 [.str nm]) []).run.map (fun s => (s.1, keep [4, 10, 11, 12, 13] s.2.1, s.2.2)) =
    some (.normal, [(4, .sl tabE tabL [] .full), (10, .str (ftab nm).2.2.1), (11, .bool (fok nm)), (12, .str (ftab nm).2.2.1), (13, .bool (fok nm))], spoiltH) := by kernel_rfl
def lawNEnd (a b : List UInt8) (x y : Bool) (H : List O) : Tree St :=
  (.br (strEq a b) (.br (x == y) (.leaf (.ret, [(2, (.bool true)), (4, (.sl (.prod [.str, .str, .str, .bool, (.int .i64), (.int .i64), (.int .i64), .bool]) (tabL) ([]) Fl.full)), (10, (.str a)), (11, (.bool x)), (12, (.str b)), (13, (.bool y))], H)) (.leaf (.ret, [(2, (.bool false)), (4, (.sl (.prod [.str, .str, .str, .bool, (.int .i64), (.int .i64), (.int .i64), .bool]) (tabL) ([]) Fl.full)), (10, (.str a)), (11, (.bool x)), (12, (.str b)), (13, (.bool y))], H))) (.leaf (.ret, [(2, (.bool false)), (4, (.sl (.prod [.str, .str, .str, .bool, (.int .i64), (.int .i64), (.int .i64), .bool]) (tabL) ([]) Fl.full)), (10, (.str a)), (11, (.bool x)), (12, (.str b)), (13, (.bool y))], H)))

theorem lawNEnd_eq (a b : List UInt8) (x y : Bool) (H : List O) : (dcode cx3b (tailN 8 B3) [(4, .sl tabE tabL [] .full), (10, .str a), (11, .bool x), (12, .str b), (13, .bool y)] H).run = (lawNEnd a b x y H).run :=
  (show (dcode cx3b (tailN 8 B3) [(4, .sl tabE tabL [] .full), (10, .str a), (11, .bool x), (12, .str b), (13, .bool y)] H).run = (lawNEnd a b x y H).out by kernel_rfl).trans (Tree.out_run _)


theorem lawN_ok (nm : List UInt8) : PCall Tryz.prog 3 [.str nm] (.bool true) := by
  refine pcall_of' (c := bodyOf Tryz.f3) (fn := Tryz.f3) (by kernel_rfl) (by kernel_rfl) (by kernel_rfl) (by kernel_rfl) ?_
  refine AWP_headK (cx := cx3) rfl rfl cxNm_ok 8 [4, 10, 11, 12, 13] (by kernel_rfl) (lawN_head nm) ?_
  refine AWP_code (cx := cx3b) rfl rfl cx3b_ok _ _ _ _ (Tree.all_run_eq (lawNEnd_eq (ftab nm).2.2.1 (ftab nm).2.2.1 (fok nm) (fok nm) spoiltH) ?_)
  have h1 : strEq (ftab nm).2.2.1 (ftab nm).2.2.1 = true := beq_self_eq_true _
  have h2 : (fok nm == fok nm) = true := beq_self_eq_true _
  refine ⟨fun _ => ⟨fun _ => ⟨.inl rfl, by kernel_rfl⟩, fun h => Bool.noConfusion (h2.symm.trans h)⟩, fun h => Bool.noConfusion (h1.symm.trans h)⟩

end Go.Cmp
