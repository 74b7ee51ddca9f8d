/-
  The memories that a law makes. Conditions: none.
-/
import Derived.Test.YtmbbnhcbphkniaaGreatDoorRa2
import Derived.Test.YtmbbnhcbphkniaaGreatDoorRm1
namespace Go.Ra
open Go Go.Ab Go.Proofs

noncomputable def memB : Tabs := { mtab := [(65, thereM)] }
theorem memB_ok : memB.Ok Tryz.prog := ⟨.nil _, .cons thereM_ok (fun p h => by cases h), .nil _, fun p h => by cases h⟩
noncomputable def memT_ps : List Fi := [⟨64, Tryz.f64, [0, 1, 4, 5, 6], [], 0, []⟩]
theorem memT_ps_ok : FisOk Tryz.prog memT_ps := ⟨⟨by kernel_rfl, by kernel_rfl⟩, trivial⟩
noncomputable def memT_ms : List Fi := [⟨13, Tryz.f13, [0], [], 0, []⟩, ⟨34, Tryz.f34, [0, 2], [], 0, []⟩, ⟨29, Tryz.f29, [0, 1, 2, 3, 8, 9, 10, 11, 12, 13, 14, 15, 22, 37, 52, 54, 78, 87], [], 4, []⟩, ⟨31, Tryz.f31, [0, 1, 2, 6, 7, 8, 18, 19, 20, 21, 22], [], 2, []⟩, ⟨35, Tryz.f35, [0, 1, 2, 3, 8, 9, 10, 11, 12, 14, 27, 33, 53], [], 4, []⟩, ⟨67, Tryz.f67, [0, 1, 4, 5, 30, 41, 53], [], 8, []⟩, ⟨30, Tryz.f30, [0, 1, 2, 3, 8, 9, 10, 11, 12, 13, 14, 15, 16, 33, 44, 53, 61, 76, 84, 88, 95], [103,105,106], 4, [103]⟩, ⟨69, Tryz.f69, [0, 1, 2, 3, 8, 9, 10, 20, 23, 35, 61], [], 2, []⟩, ⟨32, Tryz.f32, [0, 1, 2, 6, 7, 13, 17], [], 2, []⟩]
theorem memT_ms_ok : FisOk Tryz.prog memT_ms := ⟨⟨by kernel_rfl, by kernel_rfl⟩, ⟨by kernel_rfl, by kernel_rfl⟩, ⟨by kernel_rfl, by kernel_rfl⟩, ⟨by kernel_rfl, by kernel_rfl⟩, ⟨by kernel_rfl, by kernel_rfl⟩, ⟨by kernel_rfl, by kernel_rfl⟩, ⟨by kernel_rfl, by kernel_rfl⟩, ⟨by kernel_rfl, by kernel_rfl⟩, ⟨by kernel_rfl, by kernel_rfl⟩, trivial⟩
noncomputable def memT (d : Nat) : Tabs := deep Tryz.prog memB memT_ps memT_ms d
theorem memT_ok (d : Nat) : (memT d).Ok Tryz.prog := deep_ok memB_ok memT_ps_ok memT_ms_ok d
noncomputable def cxW : Cx := { P := Tryz.prog, n := Tryz.f15.ntmps, tab := (memT 4).tab, mtab := (memT 4).mtab, rtab := (memT 4).rtab, refs := [], keeps := [0, 1, 4, 5, 6, 7] }
theorem cxW_ok : CxOk cxW := memT_ok 4
def tg : O → Nat
  | .dead => 1
  | .tok _ _ => 2
  | .obj (.map l) _ => 300 + l.length
  | .obj (.siter _ _) _ => 4
  | .obj (.page _ _ _) l => 500 + l.length
  | .cells l _ => 10 + l.length
def zeros : List Int := List.replicate 4096 0
def wPg (r : Int) : O := .obj (.page 1 .u8 zeros) [.int .i64 r]
def wPr : O := .obj (.page 0 .u8 zeros) []
def wRow (n r : Int) (id : Nat) : List V := [.int .u64 n, .int .i64 r, .ref id 1 0 4096]
/-- Both memories, new. -/
def wHeap : List O := [.obj (.map [1, 2, 16, 17, 32]) [.ptr 3 0, .ptr 4 0, .ptr 11 0, .ptr 12 0, .ptr 19 0], .cells [.bool true, .mp 0] 61, .cells [.ref 22 3 0 5, .int .i64 0] 70,
  wPg 5, wPg 5, wPr, .cells (wRow 1 5 5) (97 + 4294967296), .dead, wPr, .cells (wRow 2 5 8) (97 + 4294967296), .dead, wPg 6, wPg 6, wPr, .cells (wRow 16 6 13) (97 + 4294967296), .dead, wPr, .cells (wRow 17 6 16) (97 + 4294967296), .dead, wPg 4, wPr,
  .cells (wRow 32 4 20) (97 + 4294967296), .cells (wRow 1 5 5 ++ (wRow 2 5 8 ++ (wRow 16 6 13 ++ (wRow 17 6 16 ++ wRow 32 4 20)))) 0]
def worldM : MSpec := fun args H => match args, H with
  | [.val (.slice none 0 0), .val (.slice none 0 0)], [] => .leaf (.ok (.tup [.ptr 1 0, .ptr 2 0]) wHeap)
  | _, _ => .fail
theorem run_req {β : Type} {c : Bool} {x : Tree β} {b : β} (hc : c = true) (h : x.run = some b) : (Tree.req c x).run = some b := by
  subst hc
  exact h
theorem world_run : (mfun cxW Tryz.f15 [.val (.slice none 0 0), .val (.slice none 0 0)] []).run = some (.ok (.tup [.ptr 1 0, .ptr 2 0]) wHeap) := by kernel_rfl
theorem worldM_ok : MSound Tryz.prog 15 worldM := by
  intro args H out h
  unfold worldM at h
  split at h
  rotate_left
  · cases h
  cases h
  refine msound_fun (cx := cxW) (fn := Tryz.f15) cxW_ok (by kernel_rfl) (by kernel_rfl) _ _ _ ?_
  exact run_req (by kernel_rfl) world_run

end Go.Ra
