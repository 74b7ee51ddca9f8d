/-
  runarm: stp and ldp, by their own texts. Conditions: none.
-/
import Derived.Test.YtmbbnhcbphkniaaGreatDoorBbYn
import Derived.Test.YtmbbnhcbphkniaaGreatDoorRm5
import Derived.Test.YtmbbnhcbphkniaaGreatDoorRa7
namespace Go.Ra
open Go Go.Ab Go.Proofs

/-- The context of (*foundry/pages.Pages).Rights. -/
noncomputable def cx45 : Cx := { P := Tryz.prog, n := 27, tab := [], mtab := [(34, noneM)], refs := [], keeps := [0, 1, 4, 16] }
theorem rights_eq (a b c d e : List Int) (x : Int) : (mfun cx45 Tryz.f45 [.ptr 0 0, .int .u64 x] (memO a b c d e)).fin =
    pgR (pgF x) (fun _ => pgR (pgF x) (fun R => some (.ok (.int .i64 R) (memO a b c d e))) none) (some (.ok (.int .i64 0) (memO a b c d e))) := by kernel_rfl
def rightF (x : Int) : Int := pgR (pgF x) (fun R => R) 0
def rightsM : MSpec := fun args H => match args with
  | [.ptr 0 0, .int .u64 x] => memM (fun a b c d e => .leaf (.ok (.int .i64 (rightF x)) (memO a b c d e))) H
  | _ => .fail
theorem rightsM_ok : MSound Tryz.prog 45 rightsM := by
  intro args H out h
  unfold rightsM at h
  split at h
  rotate_left
  · cases h
  rename_i x
  obtain ⟨a, b, c, d, e, rfl, hl, h⟩ := memM_run h
  cases h
  refine msound_fun (cx := cx45) (fn := Tryz.f45) (cx1_ok (.nil _) (.cons noneM_ok fun p h => by cases h) rfl rfl) (by kernel_rfl) (by kernel_rfl) _ _ _ ?_
  refine run_req (by kernel_rfl) ?_
  rw [← Tree.fin_run, rights_eq]
  unfold rightF pgR
  cases pgF x == 1 <;> cases pgF x == 2 <;> cases pgF x == 16 <;> cases pgF x == 17 <;> cases pgF x == 32 <;> rfl

def stpN : List UInt8 := [115, 116, 112]
def ldpN : List UInt8 := [108, 100, 112]
abbrev PairT := List UInt8 × Int × Int × Int
def prL : List PairT := [(stpN, 1, 3, 2), (ldpN, 4, 3, 5)]
noncomputable def mayPR (x : PairT) : Option V := (dfun cxMay Tryz.f24 [insV x.1 x.2.1 x.2.2.1 x.2.2.2 0 0]).fin
theorem maypr : prL.map mayPR = prL.map (fun _ => some (.bool true)) := by kernel_rfl
def isPr (nm : List UInt8) (a b c : Int) : Bool := prL.any fun x => strEq x.1 nm && (x.2.1 == a && (x.2.2.1 == b && x.2.2.2 == c))
theorem isPr_mem {nm : List UInt8} {a b c : Int} (h : isPr nm a b c = true) : (nm, a, b, c) ∈ prL := by
  obtain ⟨x, hx, h1⟩ := List.any_eq_true.1 h
  simp only [Bool.and_eq_true] at h1
  obtain ⟨h1, h2, h3, h4⟩ := h1
  have e1 : x.1 = nm := eq_of_beq h1
  have e2 : x.2.1 = a := by simpa using h2
  have e3 : x.2.2.1 = b := by simpa using h3
  have e4 : x.2.2.2 = c := by simpa using h4
  obtain ⟨x1, x2, x3, x4⟩ := x
  subst e1 e2 e3 e4
  exact hx
def mayPr : Ab.Spec := fun args => match args with
  | [.agg [.str nm, .int .i64 a, .int .i64 b, .int .i64 c, .int .i64 d, .int .i64 m]] => .req (isPr nm a b c && (d == 0 && m == 0)) (.leaf (.bool true))
  | _ => .fail
theorem mayPr_ok : Sound Tryz.prog 24 mayPr := by
  intro args out h
  unfold mayPr at h
  split at h
  rotate_left
  · cases h
  rename_i nm a b c d m
  obtain ⟨h1, h⟩ := req_run h
  obtain ⟨g1, g2⟩ := Bool.and_eq_true_iff.1 h1
  obtain ⟨g2, g3⟩ := Bool.and_eq_true_iff.1 g2
  have g2 : d = 0 := by simpa using g2
  have g3 : m = 0 := by simpa using g3
  cases h
  clear h1
  subst g2 g3
  have e := List.map_inj_left.1 maypr _ (isPr_mem g1)
  exact pcall_fun' (cx := cxMay) (fn := Tryz.f24) cxMay_ok (by kernel_rfl) (by kernel_rfl) (by kernel_rfl) ((Tree.fin_run _).symm.trans e)

noncomputable def prB : Tabs := { tab := (24, mayPr) :: baseT.tab, mtab := [(16, loadM), (62, storeM), (45, rightsM)], rtab := baseT.rtab }
theorem prB_ok : prB.Ok Tryz.prog := ⟨.cons mayPr_ok baseT_ok.1, .cons loadM_ok (.cons storeM_ok (.cons rightsM_ok fun p h => by cases h)), baseT_ok.2.2.1, fun p h => by cases h⟩
noncomputable def prC_ps : List Fi := [⟨60, Tryz.f60, [0, 2, 3, 4, 5, 6, 8, 10, 13, 16, 18, 20, 22], [], 0, []⟩]
theorem prC_ps_ok : FisOk Tryz.prog prC_ps := ⟨⟨by kernel_rfl, by kernel_rfl⟩, trivial⟩
noncomputable def prC_ms : List Fi := [⟨61, Tryz.f61, [0, 1, 4, 5, 32, 47], [], 0, []⟩, ⟨51, Tryz.f51, [0, 1, 2, 7], [], 0, []⟩]
theorem prC_ms_ok : FisOk Tryz.prog prC_ms := ⟨⟨by kernel_rfl, by kernel_rfl⟩, ⟨by kernel_rfl, by kernel_rfl⟩, trivial⟩
noncomputable def prC (d : Nat) : Tabs := deep Tryz.prog prB prC_ps prC_ms d
theorem prC_ok (d : Nat) : (prC d).Ok Tryz.prog := deep_ok prB_ok prC_ps_ok prC_ms_ok d
noncomputable def cxMem : Cx := { P := Tryz.prog, n := Tryz.f27.ntmps, tab := (prC 2).tab, mtab := (prC 2).mtab, rtab := (prC 2).rtab, refs := [], keeps := [0, 2, 3, 4, 5, 6, 7, 8, 9, 10, 11, 12, 25, 38, 45, 70, 74, 81, 94] }
/-- The context of (*foundry/runarm.stepper).set. -/
noncomputable def cx51 : Cx := { P := Tryz.prog, n := 15, tab := [], mtab := [], refs := [], keeps := [0, 1, 2, 7] }
noncomputable def memoryM : MSpec := fun args H => .req (Nat.ble args.length Tryz.f27.ntmps) (dfunL cxMem cx51 Tryz.f27 51 Tryz.f51 args H)
theorem memoryM_ok : MSound Tryz.prog 27 memoryM := by
  intro args H out h
  obtain ⟨h1, h2⟩ := req_run h
  exact mcall_lay (cx := cxMem) (cl := cx51) (prC_ok 2) (cx0_ok rfl rfl) rfl (by kernel_rfl) (by kernel_rfl) (by kernel_rfl) (by kernel_rfl) h1 h2
noncomputable def prD : Tabs := { prB with mtab := (27, memoryM) :: prB.mtab }
theorem prD_ok : prD.Ok Tryz.prog := ⟨prB_ok.1, .cons memoryM_ok prB_ok.2.1, prB_ok.2.2⟩
noncomputable def prT_ps : List Fi := []
theorem prT_ps_ok : FisOk Tryz.prog prT_ps := trivial
noncomputable def prT_ms : List Fi := [⟨14, Tryz.f14, [0, 1, 2, 3, 4, 5, 8, 9, 10, 11, 12, 13, 14, 18, 23, 40, 41, 55, 68, 75, 78, 86], [], 0, []⟩, ⟨25, Tryz.f25, [0, 2, 3, 4, 13, 14, 25, 37, 58, 81, 104, 125, 146, 161, 176, 191, 205, 218], [], 0, []⟩, ⟨26, Tryz.f26, [0, 2, 3, 4, 5, 6, 25, 30, 39, 48, 58, 68, 77, 86, 95, 106, 120, 134, 143, 154, 164, 174, 186, 198], [], 0, []⟩, ⟨59, Tryz.f59, [0, 1, 2, 6, 20, 30, 49], [], 0, []⟩, ⟨51, Tryz.f51, [0, 1, 2, 7], [], 0, []⟩]
theorem prT_ms_ok : FisOk Tryz.prog prT_ms := ⟨⟨by kernel_rfl, by kernel_rfl⟩, ⟨by kernel_rfl, by kernel_rfl⟩, ⟨by kernel_rfl, by kernel_rfl⟩, ⟨by kernel_rfl, by kernel_rfl⟩, ⟨by kernel_rfl, by kernel_rfl⟩, trivial⟩
noncomputable def prT (d : Nat) : Tabs := deep Tryz.prog prD prT_ps prT_ms d
theorem prT_ok (d : Nat) : (prT d).Ok Tryz.prog := deep_ok prD_ok prT_ps_ok prT_ms_ok d

end Go.Ra
