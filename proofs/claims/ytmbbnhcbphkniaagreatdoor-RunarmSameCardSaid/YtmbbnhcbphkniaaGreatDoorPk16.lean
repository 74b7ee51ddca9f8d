/-
  runarm: its functions by their own texts. Conditions: none.
-/
import Derived.Test.YtmbbnhcbphkniaaGreatDoorPk10
import Derived.Test.YtmbbnhcbphkniaaGreatDoorPk14
set_option linter.unusedVariables false
set_option linter.unusedSimpArgs false
namespace Go.Ra
open Go Go.Ab Go.Proofs
theorem add_ok : XSound Tryz.prog 110 add64S := add64S_ok (fn := Tryz.f110) (by kernel_rfl) (by kernel_rfl) (by kernel_rfl) (by rfl) (by rfl)
theorem sub_ok : XSound Tryz.prog 112 sub64S := sub64S_ok (fn := Tryz.f112) (by kernel_rfl) (by kernel_rfl) (by kernel_rfl) (by rfl) (by rfl)
noncomputable def cx52 : Cx := { P := Tryz.prog, n := 14, tab := [], mtab := [], refs := [], keeps := [0, 1, 4, 6] }
theorem reg_ok : RSound Tryz.prog 52 (qfun cx52 Tryz.f52) := qfun_ok (cx0_ok rfl rfl) (by kernel_rfl) (by kernel_rfl) (by kernel_rfl) (by kernel_rfl)
noncomputable def baseT : Tabs := { tab := [(107, rowsS), (110, add64S), (112, sub64S)], rtab := [(52, qfun cx52 Tryz.f52)] }
theorem baseT_ok : baseT.Ok Tryz.prog := ⟨.cons rowsS_ok (.consX add_ok (.consX sub_ok (.nil _))), (fun p h => by cases h), .cons reg_ok (.nil _), fun p h => by cases h⟩
noncomputable def runT_ps : List Fi := [⟨24, Tryz.f24, [0, 1, 2, 3, 4], [], 0, []⟩, ⟨49, Tryz.f49, [0, 2, 3, 5, 6, 7, 8, 9, 15], [], 60, []⟩, ⟨50, Tryz.f50, [0, 1, 2, 3, 4, 8, 9, 40, 50, 55, 70, 71, 88], [], 12, []⟩, ⟨108, Tryz.f108, [0, 1, 2, 4], [], 0, []⟩, ⟨33, Tryz.f33, [0, 2], [], 0, []⟩, ⟨56, Tryz.f56, [0, 1, 4, 6], [], 0, []⟩, ⟨57, Tryz.f57, [0, 1, 4, 5, 6, 8], [], 0, []⟩, ⟨58, Tryz.f58, [0, 1, 2, 3, 8, 9, 10, 11, 18, 30], [], 0, []⟩, ⟨60, Tryz.f60, [0, 2, 3, 4, 5, 6, 8, 10, 13, 16, 18, 20, 22], [], 0, []⟩, ⟨64, Tryz.f64, [0, 1, 4, 5, 6], [], 0, []⟩, ⟨11, Tryz.f11, [0, 1, 2, 4, 5, 6, 10, 15, 19, 24, 28, 33, 37, 42, 51, 60, 67, 74, 86], [], 0, []⟩]
theorem runT_ps_ok : FisOk Tryz.prog runT_ps := ⟨⟨by kernel_rfl, by kernel_rfl⟩, ⟨by kernel_rfl, by kernel_rfl⟩, ⟨by kernel_rfl, by kernel_rfl⟩, ⟨by kernel_rfl, by kernel_rfl⟩, ⟨by kernel_rfl, by kernel_rfl⟩, ⟨by kernel_rfl, by kernel_rfl⟩, ⟨by kernel_rfl, by kernel_rfl⟩, ⟨by kernel_rfl, by kernel_rfl⟩, ⟨by kernel_rfl, by kernel_rfl⟩, ⟨by kernel_rfl, by kernel_rfl⟩, ⟨by kernel_rfl, by kernel_rfl⟩, trivial⟩
noncomputable def runT_ms : List Fi := [⟨13, Tryz.f13, [0], [], 0, []⟩, ⟨14, Tryz.f14, [0, 1, 2, 3, 4, 5, 8, 9, 10, 11, 12, 13, 14, 18, 23, 40, 41, 55, 68, 75, 78, 86], [], 0, []⟩, ⟨18, Tryz.f18, [0, 1, 2, 4, 5, 6, 7, 8, 9, 10, 19, 28], [], 0, []⟩, ⟨19, Tryz.f19, [0, 1, 2, 6, 7, 8, 9, 15, 17, 18, 19, 33, 45], [], 12, []⟩, ⟨25, Tryz.f25, [0, 2, 3, 4, 13, 14, 25, 37, 58, 81, 104, 125, 146, 161, 176, 191, 205, 218], [], 0, []⟩, ⟨26, Tryz.f26, [0, 2, 3, 4, 5, 6, 25, 30, 39, 48, 58, 68, 77, 86, 95, 106, 120, 134, 143, 154, 164, 174, 186, 198], [], 0, []⟩, ⟨27, Tryz.f27, [0, 2, 3, 4, 5, 6, 7, 8, 9, 10, 11, 12, 25, 38, 45, 70, 74, 81, 94], [], 0, []⟩, ⟨28, Tryz.f28, [0, 2, 3, 4, 23, 24, 29, 37, 45, 49, 55, 59, 65, 69, 78], [], 0, []⟩, ⟨34, Tryz.f34, [0, 2], [], 0, []⟩, ⟨35, Tryz.f35, [0, 1, 2, 3, 8, 9, 10, 11, 12, 14, 27, 33, 53], [], 4, []⟩, ⟨36, Tryz.f36, [0, 1, 4], [], 0, []⟩, ⟨51, Tryz.f51, [0, 1, 2, 7], [], 0, []⟩, ⟨53, Tryz.f53, [0, 1, 2, 6, 7, 8], [], 0, []⟩, ⟨54, Tryz.f54, [0, 1, 2, 6, 7, 8], [], 0, []⟩, ⟨55, Tryz.f55, [0, 1, 4], [], 0, []⟩, ⟨59, Tryz.f59, [0, 1, 2, 6, 20, 30, 49], [], 0, []⟩, ⟨111, Tryz.f111, [0, 1], [], 0, []⟩, ⟨63, Tryz.f63, [0, 1], [], 0, []⟩]
theorem runT_ms_ok : FisOk Tryz.prog runT_ms := ⟨⟨by kernel_rfl, by kernel_rfl⟩, ⟨by kernel_rfl, by kernel_rfl⟩, ⟨by kernel_rfl, by kernel_rfl⟩, ⟨by kernel_rfl, by kernel_rfl⟩, ⟨by kernel_rfl, by kernel_rfl⟩, ⟨by kernel_rfl, by kernel_rfl⟩, ⟨by kernel_rfl, by kernel_rfl⟩, ⟨by kernel_rfl, by kernel_rfl⟩, ⟨by kernel_rfl, by kernel_rfl⟩, ⟨by kernel_rfl, by kernel_rfl⟩, ⟨by kernel_rfl, by kernel_rfl⟩, ⟨by kernel_rfl, by kernel_rfl⟩, ⟨by kernel_rfl, by kernel_rfl⟩, ⟨by kernel_rfl, by kernel_rfl⟩, ⟨by kernel_rfl, by kernel_rfl⟩, ⟨by kernel_rfl, by kernel_rfl⟩, ⟨by kernel_rfl, by kernel_rfl⟩, ⟨by kernel_rfl, by kernel_rfl⟩, trivial⟩
noncomputable def runT (d : Nat) : Tabs := deep Tryz.prog baseT runT_ps runT_ms d
theorem runT_ok (d : Nat) : (runT d).Ok Tryz.prog := deep_ok baseT_ok runT_ps_ok runT_ms_ok d
end Go.Ra

namespace Go.Ra
open Go Go.Ab Go.Proofs
noncomputable def cxB : Cx := { P := Tryz.prog, n := Tryz.f10.ntmps, tab := (runT 6).tab, mtab := (runT 6).mtab, rtab := (runT 6).rtab, refs := [], keeps := [0, 1, 2, 3, 4, 7] }
theorem cxB_ok : CxOk cxB := runT_ok 6
noncomputable abbrev B10 : Code := bodyOf Tryz.f10
noncomputable def bgOps3 : Array Oper := regOps (c1 (tailN 2 B10))
noncomputable def bgOps4 : Array Oper := regOps (c1 (tailN 3 B10))
theorem bg_eq3 : tailN 2 B10 = .seq (.region 3 bgOps3 true) (tailN 3 B10) := by kernel_rfl
theorem bg_eq4 : tailN 3 B10 = .seq (.region 4 bgOps4 true) (tailN 4 B10) := by kernel_rfl
def cpuL (pc : Int) (x : List Int) (z n c v : Bool) (th : Int) : List V := (.int .u64 pc :: x.map (V.int .u64)) ++ [.bool z, .bool n, .bool c, .bool v, .int .u64 th]
def bgC : O := .cells (cpuL 0 (0 :: 43981 :: List.replicate 30 0) false false false false 0) 25
def bgD : O := .cells (cpuL 4 (12 :: 43981 :: List.replicate 30 0) false false false false 0) 25
theorem bg_head : (dcode cxB (headN 2 B10) (initT 0 []) []).run.map (fun s => (s.1, keep [1] s.2.1, s.2.2)) = some (.normal, [(1, .ptr 0 0)], [bgC]) := by kernel_rfl
theorem bg_r3 : (allOrds cxB bgOps3 ([(1, .ptr 0 0)], [bgC])).map (fun l => l.map fun s => dropS 1 (ordK [2] s.1) (.normal, keep [1, 2, 3, 4] s.1, s.2)) =
    some (List.replicate 7 (some (.normal, [(1, .ptr 0 0), (2, .ptr 1 0), (3, .int .i64 0), (4, .int .i64 0)], [bgC, bgD]))) := by kernel_rfl
theorem bg_r4 : (allOrds cxB bgOps4 ([(1, .ptr 0 0), (2, .ptr 1 0), (3, .int .i64 0), (4, .int .i64 0)], [bgC, bgD])).map (fun l => l.map fun s => dropS 2 (ordK [] s.1) (.normal, keep [2, 3, 4, 7] s.1, s.2)) =
    some (List.replicate 7 (some (.normal, [(2, .ptr 1 0), (3, .int .i64 0), (4, .int .i64 0), (7, .int .i64 21)], [bgC, bgD]))) := by kernel_rfl
theorem bg_tail : ((dcode cxB (tailN 4 B10) [(2, .ptr 1 0), (3, .int .i64 0), (4, .int .i64 0), (7, .int .i64 21)] [bgC, bgD]).bind (answer Tryz.prog Tryz.f10.results.toList)).run = some (.bool true) := by kernel_rfl
def begunS : Ab.Spec := fun args => match args with
  | [] => .leaf (.bool true)
  | _ => .fail
theorem begunS_ok : Sound Tryz.prog 10 begunS := by
  intro args out h
  unfold begunS at h
  split at h
  rotate_left
  · cases h
  cases h
  refine pcall_of' (c := B10) (fn := Tryz.f10) (by kernel_rfl) (by kernel_rfl) (by kernel_rfl) (by kernel_rfl) ?_
  refine AWP_headK (cx := cxB) rfl rfl cxB_ok 2 [1] (by kernel_rfl) bg_head ?_
  rw [bg_eq3]
  refine AWP_seq (AWP_ordersPK (cx := cxB) [2] [1, 2, 3, 4] 7 rfl rfl cxB_ok bg_r3 ?_)
  show AWP _ _ _ _ _ _
  rw [bg_eq4]
  refine AWP_seq (AWP_ordersPK (cx := cxB) [] [2, 3, 4, 7] 7 rfl rfl cxB_ok bg_r4 ?_)
  show AWP _ _ _ _ _ _
  obtain ⟨s, h1, h2⟩ := bind_run bg_tail
  refine AWP_run (cx := cxB) rfl rfl cxB_ok h1 ?_
  obtain ⟨e, t, H⟩ := s
  unfold answer at h2
  split at h2
  · rename_i heq
    cases heq
    split at h2
    · rename_i v hv
      cases h2
      exact ⟨.inl rfl, hv⟩
    · cases h2
  · rename_i heq
    cases heq
    split at h2
    · rename_i v hv
      cases h2
      exact ⟨.inr rfl, hv⟩
    · cases h2
  · cases h2
end Go.Ra

namespace Go.Ra
open Go Go.Ab Go.Proofs
def insV (nm : List UInt8) (a b c d n : Int) : V := .agg [.str nm, .int .i64 a, .int .i64 b, .int .i64 c, .int .i64 d, .int .i64 n]
def intsOf : Nat → List V → Option (List Int × List V)
  | 0, l => some ([], l)
  | k + 1, .int .u64 x :: r => match intsOf k r with
    | some (xs, l) => some (x :: xs, l)
    | none => none
  | _, _ => none
structure CpuT where
  pc : Int
  x : List Int
  z : Bool
  n : Bool
  c : Bool
  v : Bool
  th : Int
abbrev CpuT.l (s : CpuT) : List V := cpuL s.pc s.x s.z s.n s.c s.v s.th
def cpuOf (l : List V) : Option CpuT := match intsOf 33 l with
  | some (p :: xs, [.bool z, .bool n, .bool c, .bool v, .int .u64 th]) => some ⟨p, xs, z, n, c, v, th⟩
  | _ => none
theorem intsOf_spec : ∀ (k : Nat) (l : List V) (xs : List Int) (r : List V), intsOf k l = some (xs, r) → l = xs.map (V.int .u64) ++ r ∧ xs.length = k
  | 0, l, xs, r, h => by
    simp only [intsOf, Option.some.injEq, Prod.mk.injEq] at h
    obtain ⟨rfl, rfl⟩ := h
    exact ⟨rfl, rfl⟩
  | k + 1, [], xs, r, h => by cases h
  | k + 1, v :: r', xs, r, h => by
    have key : ∀ x, v = .int .u64 x → v :: r' = xs.map (V.int .u64) ++ r ∧ xs.length = k + 1 := by
      intro x hv
      subst hv
      have h : (match intsOf k r' with | some (xs, l) => some (x :: xs, l) | none => none) = some (xs, r) := h
      split at h
      · rename_i xs' l' hi
        cases h
        obtain ⟨h1, h2⟩ := intsOf_spec k r' xs' _ hi
        exact ⟨by rw [h1]; rfl, by simp [h2]⟩
      · cases h
    cases v with
    | int kd x =>
      cases kd with
      | u64 => exact key x rfl
      | _ => cases h
    | _ => cases h
theorem cpuOf_spec {l : List V} {s : CpuT} (h : cpuOf l = some s) : l = s.l ∧ s.x.length = 32 := by
  unfold cpuOf at h
  split at h
  · rename_i p xs z n c v th hi
    cases h
    obtain ⟨h1, h2⟩ := intsOf_spec _ _ _ _ hi
    exact ⟨by rw [h1]; rfl, by simpa using h2⟩
  · cases h
def p4 (p : Int) : Int := IntKind.wrap .u64 (p + IntKind.wrap .u64 4)
end Go.Ra

namespace Go.Ra
open Go Go.Ab Go.Proofs
theorem list_tab {l : List Int} {n : Nat} (h : l.length = n) : l = (List.range n).map fun i => l.getD i 0 := by
  refine List.ext_getElem (by simp [h]) fun i h1 h2 => ?_
  simp [List.getD_eq_getElem?_getD, h1]
end Go.Ra
