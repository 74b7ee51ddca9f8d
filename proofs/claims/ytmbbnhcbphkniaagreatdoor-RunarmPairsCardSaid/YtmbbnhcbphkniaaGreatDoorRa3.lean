/-
  runarm: begun answers true. Conditions: none.
-/
import Derived.Test.YtmbbnhcbphkniaaGreatDoorRa2
namespace Go.Ra
open Go Go.Ab Go.Proofs

noncomputable def cxB : Cx := { P := Tryz.prog, n := Tryz.f10.ntmps, tab := (runT 6).tab, mtab := (runT 6).mtab, rtab := (runT 6).rtab, refs := [], keeps := [0, 1, 2, 3, 4, 7] }
theorem cxB_ok : CxOk cxB := runT_ok 6
noncomputable abbrev B10 : Code := bodyOf Tryz.f10
noncomputable def bgOps3 : Array Oper := regOps (c1 (tailN 2 B10))
noncomputable def bgOps4 : Array Oper := regOps (c1 (tailN 3 B10))
theorem bg_eq3 : tailN 2 B10 = .seq (.region 3 bgOps3 true) (tailN 3 B10) := by kernel_rfl
theorem bg_eq4 : tailN 3 B10 = .seq (.region 4 bgOps4 true) (tailN 4 B10) := by kernel_rfl
/-- A state of the processor. -/
def cpuL (pc : Int) (x : List Int) (z n c v : Bool) (th : Int) : List V := (.int .u64 pc :: x.map (V.int .u64)) ++ [.bool z, .bool n, .bool c, .bool v, .int .u64 th]
def bgC : O := .cells (cpuL 0 (0 :: 43981 :: List.replicate 30 0) false false false false 0) 25
def bgD : O := .cells (cpuL 4 (12 :: 43981 :: List.replicate 30 0) false false false false 0) 25
theorem bg_head : (dcode cxB (headN 2 B10) (initT 0 []) []).run.map (fun s => (s.1, keep [1] s.2.1, s.2.2)) = some (.normal, [(1, .ptr 0 0)], [bgC]) := by kernel_rfl
theorem bg_r3 : (allOrds cxB bgOps3 ([(1, .ptr 0 0)], [bgC])).map (fun l => l.map fun s => dropS 1 (ordK [2] s.1) (.normal, keep [1, 2, 3, 4] s.1, s.2)) =
    some (List.replicate 7 (some (.normal, [(1, .ptr 0 0), (2, .ptr 1 0), (3, .int .i64 0), (4, .int .i64 0)], [bgC, bgD]))) := by kernel_rfl
theorem bg_r4 : (allOrds cxB bgOps4 ([(1, .ptr 0 0), (2, .ptr 1 0), (3, .int .i64 0), (4, .int .i64 0)], [bgC, bgD])).map (fun l => l.map fun s => dropS 2 (ordK [] s.1) (.normal, keep [2, 3, 4, 7] s.1, s.2)) =
    some (List.replicate 7 (some (.normal, [(2, .ptr 1 0), (3, .int .i64 0), (4, .int .i64 0), (7, .int .i64 21)], [bgC, bgD]))) := by kernel_rfl
theorem bg_tail : ((dcode cxB (tailN 4 B10) [(2, .ptr 1 0), (3, .int .i64 0), (4, .int .i64 0), (7, .int .i64 21)] [bgC, bgD]).bind (answer Tryz.prog Tryz.f10.results.toList)).run = some (.bool true) := by kernel_rfl

def begunS : Ab.Spec := fun args => match args with
  | [] => .leaf (.bool true)
  | _ => .fail
theorem begunS_ok : Sound Tryz.prog 10 begunS := by
  intro args out h
  unfold begunS at h
  split at h
  rotate_left
  · cases h
  cases h
  refine pcall_of' (c := B10) (fn := Tryz.f10) (by kernel_rfl) (by kernel_rfl) (by kernel_rfl) (by kernel_rfl) ?_
  refine AWP_headK (cx := cxB) rfl rfl cxB_ok 2 [1] (by kernel_rfl) bg_head ?_
  rw [bg_eq3]
  refine AWP_seq (AWP_ordersPK (cx := cxB) [2] [1, 2, 3, 4] 7 rfl rfl cxB_ok bg_r3 ?_)
  show AWP _ _ _ _ _ _
  rw [bg_eq4]
  refine AWP_seq (AWP_ordersPK (cx := cxB) [] [2, 3, 4, 7] 7 rfl rfl cxB_ok bg_r4 ?_)
  show AWP _ _ _ _ _ _
  obtain ⟨s, h1, h2⟩ := bind_run bg_tail
  refine AWP_run (cx := cxB) rfl rfl cxB_ok h1 ?_
  obtain ⟨e, t, H⟩ := s
  unfold answer at h2
  split at h2
  · rename_i heq
    cases heq
    split at h2
    · rename_i v hv
      cases h2
      exact ⟨.inl rfl, hv⟩
    · cases h2
  · rename_i heq
    cases heq
    split at h2
    · rename_i v hv
      cases h2
      exact ⟨.inr rfl, hv⟩
    · cases h2
  · cases h2

end Go.Ra
