/-
  runamd: its functions by their own texts. Conditions: none.
-/
import Derived.Test.YtnhmelmmdcaldaaGreatDoorPk11
import Derived.Test.YtnhmelmmdcaldaaGreatDoorPk10
set_option linter.unusedVariables false
set_option linter.unusedSimpArgs false
namespace Go.Amd
open Go Go.Ab Go.Proofs
theorem frow_form {nm : List UInt8} (h : fok nm = true) : formOk (frow nm) = true := by
  unfold fok at h
  unfold frow
  cases hf : findL nm rowsL with
  | none => rw [hf] at h; cases h
  | some r => exact List.all_eq_true.1 rows_forms r (List.mem_of_find?_eq_some hf)
def encE (i : InsT) : Int := cond (fok i.1) (faultyF (frow i.1) i) 7
noncomputable def cx19 : Cx := { P := Tryz.prog, n := 18, tab := [(34, findS), (35, faultyS)], mtab := [], refs := [], keeps := [0, 1, 2, 3, 4] }
def mayH (i : InsT) : Tree V := .br (fok i.1) (.br (formOk (frow i.1)) (.leaf (.bool (faultyF (frow i.1) i == 0))) .fail) (.leaf (.bool false))
theorem mayH_eq (i : InsT) : (dfun cx19 Tryz.f19 [.agg (insL i)]).run = (mayH i).run :=
  (show (dfun cx19 Tryz.f19 [.agg (insL i)]).run = (mayH i).out by kernel_rfl).trans (Tree.out_run _)
def mayS : Ab.Spec := fun args => match args with
  | [.agg [.str nm, .int .i64 a, .int .i64 b, .int .i64 c, .int .i64 d, .int .i64 n]] => .leaf (.bool (encE (nm, a, b, c, d, n) == 0))
  | _ => .fail
theorem mayS_ok : Sound Tryz.prog 19 mayS := by
  intro args out h
  unfold mayS at h
  split at h
  rotate_left
  · cases h
  rename_i nm a b c d n
  refine pcall_fun' (cx := cx19) (fn := Tryz.f19) (cx1_ok (.cons findS_ok (ok1 faultyS_ok)) (.nil _) rfl rfl) (by kernel_rfl) (by kernel_rfl) (by kernel_rfl) ?_
  refine (mayH_eq (nm, a, b, c, d, n)).trans ?_
  rw [← h]
  unfold mayH encE
  simp only
  cases hf : (fok nm)
  · rfl
  rw [frow_form hf]
  rfl
theorem add_ok : XSound Tryz.prog 80 add64S := add64S_ok (fn := Tryz.f80) (by kernel_rfl) (by kernel_rfl) (by kernel_rfl) (by rfl) (by rfl)
theorem sub_ok : XSound Tryz.prog 79 sub64S := sub64S_ok (fn := Tryz.f79) (by kernel_rfl) (by kernel_rfl) (by kernel_rfl) (by rfl) (by rfl)
theorem idx_ok : XSound Tryz.prog 182 idxByteS := idxByteS_ok (fn := Tryz.f182) (by kernel_rfl) (by kernel_rfl) (by kernel_rfl) (by kernel_rfl) (by kernel_rfl)
noncomputable def baseT : Tabs := { tab := [(19, mayS), (80, add64S), (79, sub64S), (182, idxByteS)] }
theorem baseT_ok : baseT.Ok Tryz.prog := ⟨.cons mayS_ok (.consX add_ok (.consX sub_ok (.consX idx_ok (.nil _)))), (fun p h => by cases h), .nil _, fun p h => by cases h⟩
noncomputable def runT_ps : List Fi := [⟨48, Tryz.f48, [0, 1, 4, 5, 6], [], 0, []⟩, ⟨75, Tryz.f75, [0, 1, 4, 5, 6, 7, 12], [], 0, []⟩, ⟨103, Tryz.f103, [0, 1, 4, 5, 6, 7, 8, 9, 10, 11, 12, 13, 16, 24, 31, 36, 59, 64, 73, 93, 107, 114, 132, 139], [], 40, []⟩, ⟨141, Tryz.f141, [0, 1, 4], [], 0, []⟩, ⟨8, Tryz.f8, [0, 1, 2, 4, 5, 7, 8, 12, 16, 20, 28, 32, 39], [], 0, []⟩, ⟨84, Tryz.f84, [0, 1, 4, 5, 6, 7, 10], [], 0, []⟩, ⟨22, Tryz.f22, [0, 2], [], 0, []⟩, ⟨28, Tryz.f28, [0, 1, 4, 5, 6], [], 0, []⟩]
theorem runT_ps_ok : FisOk Tryz.prog runT_ps := ⟨⟨by kernel_rfl, by kernel_rfl⟩, ⟨by kernel_rfl, by kernel_rfl⟩, ⟨by kernel_rfl, by kernel_rfl⟩, ⟨by kernel_rfl, by kernel_rfl⟩, ⟨by kernel_rfl, by kernel_rfl⟩, ⟨by kernel_rfl, by kernel_rfl⟩, ⟨by kernel_rfl, by kernel_rfl⟩, ⟨by kernel_rfl, by kernel_rfl⟩, trivial⟩
noncomputable def runT_ms : List Fi := [⟨13, Tryz.f13, [0], [], 0, []⟩, ⟨14, Tryz.f14, [0, 1, 2, 4, 5, 6, 7, 8, 9, 10, 19, 28], [], 0, []⟩, ⟨26, Tryz.f26, [0, 1, 2, 6, 7, 8, 9, 15, 17, 18, 19, 33, 45], [], 12, []⟩, ⟨23, Tryz.f23, [0, 2], [], 0, []⟩, ⟨24, Tryz.f24, [0, 1, 2, 3, 8, 9, 10, 11, 12, 14, 27, 33, 53], [], 4, []⟩, ⟨40, Tryz.f40, [0, 1, 4], [], 0, []⟩, ⟨78, Tryz.f78, [0, 3], [], 0, []⟩, ⟨21, Tryz.f21, [0, 14], [], 0, []⟩, ⟨36, Tryz.f36, [0, 2, 3, 4, 16, 17, 33, 44, 46, 47], [], 0, []⟩, ⟨49, Tryz.f49, [0, 1, 2, 6, 7, 18, 19, 29, 39, 47, 58, 69, 80], [], 0, []⟩, ⟨53, Tryz.f53, [0, 1, 2, 3, 8, 9, 10, 11], [], 0, []⟩, ⟨81, Tryz.f81, [0, 1], [], 0, []⟩, ⟨76, Tryz.f76, [0, 1, 4], [], 0, []⟩]
theorem runT_ms_ok : FisOk Tryz.prog runT_ms := ⟨⟨by kernel_rfl, by kernel_rfl⟩, ⟨by kernel_rfl, by kernel_rfl⟩, ⟨by kernel_rfl, by kernel_rfl⟩, ⟨by kernel_rfl, by kernel_rfl⟩, ⟨by kernel_rfl, by kernel_rfl⟩, ⟨by kernel_rfl, by kernel_rfl⟩, ⟨by kernel_rfl, by kernel_rfl⟩, ⟨by kernel_rfl, by kernel_rfl⟩, ⟨by kernel_rfl, by kernel_rfl⟩, ⟨by kernel_rfl, by kernel_rfl⟩, ⟨by kernel_rfl, by kernel_rfl⟩, ⟨by kernel_rfl, by kernel_rfl⟩, ⟨by kernel_rfl, by kernel_rfl⟩, trivial⟩
noncomputable def runT (d : Nat) : Tabs := deep Tryz.prog baseT runT_ps runT_ms d
theorem runT_ok (d : Nat) : (runT d).Ok Tryz.prog := deep_ok baseT_ok runT_ps_ok runT_ms_ok d
noncomputable def cxRun : Cx := { P := Tryz.prog, n := Tryz.f11.ntmps, tab := (runT 6).tab, mtab := (runT 6).mtab, rtab := (runT 6).rtab, refs := [], keeps := [0, 1, 2, 3, 4, 5, 8, 9, 10, 11, 12, 13, 21, 39, 40, 57], nums := (runT 6).nums }
noncomputable def cx20 : Cx := { P := Tryz.prog, n := 14, tab := [], mtab := [], refs := [], keeps := [0, 1, 2, 3, 6, 7, 9, 11, 12] }
noncomputable def runM : MSpec := fun args H => .req (Nat.ble args.length Tryz.f11.ntmps) (dfunD cxRun cx20 Tryz.f11 20 Tryz.f20 args H)
theorem cxRun_ok : CxOk cxRun := runT_ok 6
theorem runM_ok : MSound Tryz.prog 11 runM := by
  intro args H r h
  unfold runM at h
  obtain ⟨h1, h⟩ := req_run h
  exact mcall_defer (cx := cxRun) (cl := cx20) (fn := Tryz.f11) (fg := Tryz.f20) cxRun_ok (cx0_ok rfl rfl) rfl (by kernel_rfl) (by kernel_rfl) (by kernel_rfl) (by kernel_rfl) h1 h
end Go.Amd

namespace Go.Amd
open Go Go.Ab Go.Proofs
noncomputable def cxB : Cx := { P := Tryz.prog, n := Tryz.f7.ntmps, tab := (runT 6).tab, mtab := (11, runM) :: (runT 6).mtab, rtab := (runT 6).rtab, refs := [], keeps := [0, 1, 2, 3, 4, 7], nums := (runT 6).nums }
theorem cxB_ok : CxOk cxB := ⟨(runT_ok 6).1, .cons runM_ok (runT_ok 6).2.1, (runT_ok 6).2.2.1, (runT_ok 6).2.2.2⟩
noncomputable abbrev B10 : Code := bodyOf Tryz.f7
noncomputable def bgOps3 : Array Oper := regOps (c1 (tailN 3 B10))
noncomputable def bgOps4 : Array Oper := regOps (c1 (tailN 4 B10))
theorem bg_eq3 : tailN 3 B10 = .seq (.region 4 bgOps3 true) (tailN 4 B10) := by kernel_rfl
theorem bg_eq4 : tailN 4 B10 = .seq (.region 5 bgOps4 true) (tailN 5 B10) := by kernel_rfl
def cpuL (pc : Int) (x : List Int) (z n c v : Bool) (th : Int) : List V := (.int .u64 pc :: x.map (V.int .u64)) ++ [.bool z, .bool n, .bool c, .bool v, .int .u64 th]
def bgC : O := .cells (cpuL 0 (9223372036854775808 :: 0 :: 0 :: 9223372036854775808 :: List.replicate 28 0) false false false false 0) 25
def bgD : O := .cells (cpuL 3 (0 :: 0 :: 0 :: 9223372036854775808 :: List.replicate 28 0) true false true true 0) 25
theorem bg_head : (dcode cxB (headN 3 B10) (initT 0 []) []).run.map (fun s => (s.1, keep [1] s.2.1, s.2.2)) = some (.normal, [(1, .ptr 0 0)], [bgC]) := by kernel_rfl
theorem bg_r3 : (allOrds cxB bgOps3 ([(1, .ptr 0 0)], [bgC])).map (fun l => l.map fun s => dropS 1 (ordK [2] s.1) (.normal, keep [1, 2, 3, 4] s.1, s.2)) =
    some (List.replicate 7 (some (.normal, [(1, .ptr 0 0), (2, .ptr 1 0), (3, .int .i64 0), (4, .int .i64 0)], [bgC, bgD]))) := by kernel_rfl
theorem bg_r4 : (allOrds cxB bgOps4 ([(1, .ptr 0 0), (2, .ptr 1 0), (3, .int .i64 0), (4, .int .i64 0)], [bgC, bgD])).map (fun l => l.map fun s => dropS 2 (ordK [] s.1) (.normal, keep [2, 3, 4, 7] s.1, s.2)) =
    some (List.replicate 7 (some (.normal, [(2, .ptr 1 0), (3, .int .i64 0), (4, .int .i64 0), (7, .int .i64 21)], [bgC, bgD]))) := by kernel_rfl
theorem bg_tail : ((dcode cxB (tailN 5 B10) [(2, .ptr 1 0), (3, .int .i64 0), (4, .int .i64 0), (7, .int .i64 21)] [bgC, bgD]).bind (answer Tryz.prog Tryz.f7.results.toList)).run = some (.bool true) := by kernel_rfl
def begunS : Ab.Spec := fun args => match args with
  | [] => .leaf (.bool true)
  | _ => .fail
theorem begunS_ok : Sound Tryz.prog 7 begunS := by
  intro args out h
  unfold begunS at h
  split at h
  rotate_left
  · cases h
  cases h
  refine pcall_of' (c := B10) (fn := Tryz.f7) (by kernel_rfl) (by kernel_rfl) (by kernel_rfl) (by kernel_rfl) ?_
  refine AWP_headK (cx := cxB) rfl rfl cxB_ok 3 [1] (by kernel_rfl) bg_head ?_
  rw [bg_eq3]
  refine AWP_seq (AWP_ordersPK (cx := cxB) [2] [1, 2, 3, 4] 7 rfl rfl cxB_ok bg_r3 ?_)
  show AWP _ _ _ _ _ _
  rw [bg_eq4]
  refine AWP_seq (AWP_ordersPK (cx := cxB) [] [2, 3, 4, 7] 7 rfl rfl cxB_ok bg_r4 ?_)
  show AWP _ _ _ _ _ _
  obtain ⟨s, h1, h2⟩ := bind_run bg_tail
  refine AWP_run (cx := cxB) rfl rfl cxB_ok h1 ?_
  obtain ⟨e, t, H⟩ := s
  unfold answer at h2
  split at h2
  · rename_i heq
    cases heq
    split at h2
    · rename_i v hv
      cases h2
      exact ⟨.inl rfl, hv⟩
    · cases h2
  · rename_i heq
    cases heq
    split at h2
    · rename_i v hv
      cases h2
      exact ⟨.inr rfl, hv⟩
    · cases h2
  · cases h2
end Go.Amd

namespace Go.Wd
open Go Go.Ab
def OffN (x lo hi : Nat) : Prop := ∀ j, lo ≤ j → j < hi → x.testBit j = false
theorem OffN.zero (lo hi : Nat) : OffN 0 lo hi := fun j _ _ => Nat.zero_testBit j
def gb (l : List Int) (i : Int) : Int := IntKind.wrap .u32 (l.getD i.toNat 0)
def InMask (x m : Nat) : Prop := x &&& m = x
theorem InMask.disj {x m n : Nat} (h : InMask x m) (hd : m &&& n = 0) : x &&& n = 0 := by
  unfold InMask at h
  rw [← h, Nat.and_assoc, hd, Nat.and_zero]
theorem InMask.zero (m : Nat) : InMask 0 m := Nat.zero_and m
theorem InMask.or {x y m : Nat} (hx : InMask x m) (hy : InMask y m) : InMask (x ||| y) m := by
  unfold InMask at *
  rw [Nat.and_or_distrib_right, hx, hy]
end Go.Wd
