/-
  runarm: the law Holds: its call answers true. Conditions: none.
-/
import Derived.Test.YtmbbnhcbphkniaaGreatDoorRa3
namespace Go.Ra
open Go Go.Ab Go.Proofs

abbrev cpuE : EC := .prod [.int .u64, .prod (List.replicate 32 (.int .u64)), .bool, .bool, .bool, .bool, .int .u64]
noncomputable def begT : Tabs := { tab := [(10, begunS)] }
theorem begT_ok : begT.Ok Tryz.prog := ⟨ok1 begunS_ok, (fun p h => by cases h), .nil _, fun p h => by cases h⟩

/-! A condition outside 0..13 -/

noncomputable def outT_ps : List Fi := [⟨11, Tryz.f11, [0, 1, 2, 4, 5, 6, 10, 15, 19, 24, 28, 33, 37, 42, 51, 60, 67, 74, 86], [], 0⟩]
theorem outT_ps_ok : FisOk Tryz.prog outT_ps := ⟨⟨by kernel_rfl, by kernel_rfl⟩, trivial⟩
noncomputable def outT_ms : List Fi := []
theorem outT_ms_ok : FisOk Tryz.prog outT_ms := trivial
noncomputable def outT (d : Nat) : Tabs := deep Tryz.prog begT outT_ps outT_ms d
noncomputable def cxOut : Cx := { P := Tryz.prog, n := Tryz.f3.ntmps, tab := (outT 1).tab, mtab := [], refs := [], keeps := [0, 1, 2, 4, 6, 12] }
theorem cxOut_ok : CxOk cxOut := deep_ok begT_ok outT_ps_ok outT_ms_ok 1
def cellsV (p x0 x1 x2 x3 x4 x5 x6 x7 x8 x9 x10 x11 x12 x13 x14 x15 x16 x17 x18 x19 x20 x21 x22 x23 x24 x25 x26 x27 x28 x29 x30 x31 th : Int) (z n c v : Bool) : List V := [.int .u64 p, .int .u64 x0, .int .u64 x1, .int .u64 x2, .int .u64 x3, .int .u64 x4, .int .u64 x5, .int .u64 x6, .int .u64 x7, .int .u64 x8, .int .u64 x9, .int .u64 x10, .int .u64 x11, .int .u64 x12, .int .u64 x13, .int .u64 x14, .int .u64 x15, .int .u64 x16, .int .u64 x17, .int .u64 x18, .int .u64 x19, .int .u64 x20, .int .u64 x21, .int .u64 x22, .int .u64 x23, .int .u64 x24, .int .u64 x25, .int .u64 x26, .int .u64 x27, .int .u64 x28, .int .u64 x29, .int .u64 x30, .int .u64 x31, .bool z, .bool n, .bool c, .bool v, .int .u64 th]
def outL (_p _x0 _x1 _x2 _x3 _x4 _x5 _x6 _x7 _x8 _x9 _x10 _x11 _x12 _x13 _x14 _x15 _x16 _x17 _x18 _x19 _x20 _x21 _x22 _x23 _x24 _x25 _x26 _x27 _x28 _x29 _x30 _x31 _th : Int) (z n c v : Bool) (d : Int) : Tree V :=
  (.br (decide (d < 0)) (.br (d == 0) (.leaf (.bool !z)) (.br (d == 1) (.leaf (.bool !!z)) (.br (d == 2) (.leaf (.bool !c)) (.br (d == 3) (.leaf (.bool !!c)) (.br (d == 4) (.leaf (.bool !n)) (.br (d == 5) (.leaf (.bool !!n)) (.br (d == 6) (.leaf (.bool !v)) (.br (d == 7) (.leaf (.bool !!v)) (.br (d == 8) (.br c (.leaf (.bool !!z)) (.leaf (.bool true))) (.br (d == 9) (.br (!c) (.leaf (.bool false)) (.leaf (.bool !z))) (.br (d == 10) (.leaf (.bool (!n == v))) (.br (d == 11) (.leaf (.bool (!!n == v))) (.br (d == 12) (.br (!z) (.leaf (.bool (!n == v))) (.leaf (.bool true))) (.br (d == 13) (.br z (.leaf (.bool false)) (.leaf (.bool (!!n == v)))) (.leaf (.bool true)))))))))))))))) (.br (decide (13 < d)) (.br (d == 0) (.leaf (.bool !z)) (.br (d == 1) (.leaf (.bool !!z)) (.br (d == 2) (.leaf (.bool !c)) (.br (d == 3) (.leaf (.bool !!c)) (.br (d == 4) (.leaf (.bool !n)) (.br (d == 5) (.leaf (.bool !!n)) (.br (d == 6) (.leaf (.bool !v)) (.br (d == 7) (.leaf (.bool !!v)) (.br (d == 8) (.br c (.leaf (.bool !!z)) (.leaf (.bool true))) (.br (d == 9) (.br (!c) (.leaf (.bool false)) (.leaf (.bool !z))) (.br (d == 10) (.leaf (.bool (!n == v))) (.br (d == 11) (.leaf (.bool (!!n == v))) (.br (d == 12) (.br (!z) (.leaf (.bool (!n == v))) (.leaf (.bool true))) (.br (d == 13) (.br z (.leaf (.bool false)) (.leaf (.bool (!!n == v)))) (.leaf (.bool true)))))))))))))))) (.br (d == 0) .fail (.br (d == 1) .fail (.br (d == 2) .fail (.br (d == 3) .fail (.br (d == 4) .fail (.br (d == 5) .fail (.br (d == 6) .fail (.br (d == 7) .fail (.br (d == 8) (.br c .fail .fail) (.br (d == 9) (.br (!c) .fail .fail) (.br (d == 10) .fail (.br (d == 11) .fail (.br (d == 12) (.br (!z) .fail .fail) (.br (d == 13) (.br z .fail .fail) .fail))))))))))))))))

theorem outL_eq (p x0 x1 x2 x3 x4 x5 x6 x7 x8 x9 x10 x11 x12 x13 x14 x15 x16 x17 x18 x19 x20 x21 x22 x23 x24 x25 x26 x27 x28 x29 x30 x31 th : Int) (z n c v : Bool) (d : Int) : (dfun cxOut Tryz.f3 [.agg (cellsV p x0 x1 x2 x3 x4 x5 x6 x7 x8 x9 x10 x11 x12 x13 x14 x15 x16 x17 x18 x19 x20 x21 x22 x23 x24 x25 x26 x27 x28 x29 x30 x31 th z n c v), .int .i64 d]).run = (outL p x0 x1 x2 x3 x4 x5 x6 x7 x8 x9 x10 x11 x12 x13 x14 x15 x16 x17 x18 x19 x20 x21 x22 x23 x24 x25 x26 x27 x28 x29 x30 x31 th z n c v d).run :=
  (show (dfun cxOut Tryz.f3 [.agg (cellsV p x0 x1 x2 x3 x4 x5 x6 x7 x8 x9 x10 x11 x12 x13 x14 x15 x16 x17 x18 x19 x20 x21 x22 x23 x24 x25 x26 x27 x28 x29 x30 x31 th z n c v), .int .i64 d]).run = (outL p x0 x1 x2 x3 x4 x5 x6 x7 x8 x9 x10 x11 x12 x13 x14 x15 x16 x17 x18 x19 x20 x21 x22 x23 x24 x25 x26 x27 x28 x29 x30 x31 th z n c v d).out by kernel_rfl).trans (Tree.out_run _)


/-! One of 0..13 -/

noncomputable def inT_ps : List Fi := [⟨11, Tryz.f11, [0, 1, 2, 4, 5, 6, 10, 15, 19, 24, 28, 33, 37, 42, 51, 60, 67, 74, 86], [], 0⟩, ⟨12, Tryz.f12, [0, 1, 2, 4, 5, 11], [], 0⟩]
theorem inT_ps_ok : FisOk Tryz.prog inT_ps := ⟨⟨by kernel_rfl, by kernel_rfl⟩, ⟨by kernel_rfl, by kernel_rfl⟩, trivial⟩
noncomputable def inT_ms : List Fi := []
theorem inT_ms_ok : FisOk Tryz.prog inT_ms := trivial
noncomputable def inT (d : Nat) : Tabs := deep Tryz.prog begT inT_ps inT_ms d
noncomputable def cxIn : Cx := { P := Tryz.prog, n := Tryz.f3.ntmps, tab := (inT 1).tab, mtab := [], refs := [], keeps := [0, 1, 2, 4, 6, 12] }
theorem cxIn_ok : CxOk cxIn := deep_ok begT_ok inT_ps_ok inT_ms_ok 1
theorem in_0 (p x0 x1 x2 x3 x4 x5 x6 x7 x8 x9 x10 x11 x12 x13 x14 x15 x16 x17 x18 x19 x20 x21 x22 x23 x24 x25 x26 x27 x28 x29 x30 x31 th : Int) (z n c v : Bool) : (dfun cxIn Tryz.f3 [.agg (cellsV p x0 x1 x2 x3 x4 x5 x6 x7 x8 x9 x10 x11 x12 x13 x14 x15 x16 x17 x18 x19 x20 x21 x22 x23 x24 x25 x26 x27 x28 x29 x30 x31 th z n c v), .int .i64 0]).run = some (.bool true) := by
  cases z <;> cases n <;> cases c <;> cases v <;> kernel_rfl
theorem in_1 (p x0 x1 x2 x3 x4 x5 x6 x7 x8 x9 x10 x11 x12 x13 x14 x15 x16 x17 x18 x19 x20 x21 x22 x23 x24 x25 x26 x27 x28 x29 x30 x31 th : Int) (z n c v : Bool) : (dfun cxIn Tryz.f3 [.agg (cellsV p x0 x1 x2 x3 x4 x5 x6 x7 x8 x9 x10 x11 x12 x13 x14 x15 x16 x17 x18 x19 x20 x21 x22 x23 x24 x25 x26 x27 x28 x29 x30 x31 th z n c v), .int .i64 1]).run = some (.bool true) := by
  cases z <;> cases n <;> cases c <;> cases v <;> kernel_rfl
theorem in_2 (p x0 x1 x2 x3 x4 x5 x6 x7 x8 x9 x10 x11 x12 x13 x14 x15 x16 x17 x18 x19 x20 x21 x22 x23 x24 x25 x26 x27 x28 x29 x30 x31 th : Int) (z n c v : Bool) : (dfun cxIn Tryz.f3 [.agg (cellsV p x0 x1 x2 x3 x4 x5 x6 x7 x8 x9 x10 x11 x12 x13 x14 x15 x16 x17 x18 x19 x20 x21 x22 x23 x24 x25 x26 x27 x28 x29 x30 x31 th z n c v), .int .i64 2]).run = some (.bool true) := by
  cases z <;> cases n <;> cases c <;> cases v <;> kernel_rfl
theorem in_3 (p x0 x1 x2 x3 x4 x5 x6 x7 x8 x9 x10 x11 x12 x13 x14 x15 x16 x17 x18 x19 x20 x21 x22 x23 x24 x25 x26 x27 x28 x29 x30 x31 th : Int) (z n c v : Bool) : (dfun cxIn Tryz.f3 [.agg (cellsV p x0 x1 x2 x3 x4 x5 x6 x7 x8 x9 x10 x11 x12 x13 x14 x15 x16 x17 x18 x19 x20 x21 x22 x23 x24 x25 x26 x27 x28 x29 x30 x31 th z n c v), .int .i64 3]).run = some (.bool true) := by
  cases z <;> cases n <;> cases c <;> cases v <;> kernel_rfl
theorem in_4 (p x0 x1 x2 x3 x4 x5 x6 x7 x8 x9 x10 x11 x12 x13 x14 x15 x16 x17 x18 x19 x20 x21 x22 x23 x24 x25 x26 x27 x28 x29 x30 x31 th : Int) (z n c v : Bool) : (dfun cxIn Tryz.f3 [.agg (cellsV p x0 x1 x2 x3 x4 x5 x6 x7 x8 x9 x10 x11 x12 x13 x14 x15 x16 x17 x18 x19 x20 x21 x22 x23 x24 x25 x26 x27 x28 x29 x30 x31 th z n c v), .int .i64 4]).run = some (.bool true) := by
  cases z <;> cases n <;> cases c <;> cases v <;> kernel_rfl
theorem in_5 (p x0 x1 x2 x3 x4 x5 x6 x7 x8 x9 x10 x11 x12 x13 x14 x15 x16 x17 x18 x19 x20 x21 x22 x23 x24 x25 x26 x27 x28 x29 x30 x31 th : Int) (z n c v : Bool) : (dfun cxIn Tryz.f3 [.agg (cellsV p x0 x1 x2 x3 x4 x5 x6 x7 x8 x9 x10 x11 x12 x13 x14 x15 x16 x17 x18 x19 x20 x21 x22 x23 x24 x25 x26 x27 x28 x29 x30 x31 th z n c v), .int .i64 5]).run = some (.bool true) := by
  cases z <;> cases n <;> cases c <;> cases v <;> kernel_rfl
theorem in_6 (p x0 x1 x2 x3 x4 x5 x6 x7 x8 x9 x10 x11 x12 x13 x14 x15 x16 x17 x18 x19 x20 x21 x22 x23 x24 x25 x26 x27 x28 x29 x30 x31 th : Int) (z n c v : Bool) : (dfun cxIn Tryz.f3 [.agg (cellsV p x0 x1 x2 x3 x4 x5 x6 x7 x8 x9 x10 x11 x12 x13 x14 x15 x16 x17 x18 x19 x20 x21 x22 x23 x24 x25 x26 x27 x28 x29 x30 x31 th z n c v), .int .i64 6]).run = some (.bool true) := by
  cases z <;> cases n <;> cases c <;> cases v <;> kernel_rfl
theorem in_7 (p x0 x1 x2 x3 x4 x5 x6 x7 x8 x9 x10 x11 x12 x13 x14 x15 x16 x17 x18 x19 x20 x21 x22 x23 x24 x25 x26 x27 x28 x29 x30 x31 th : Int) (z n c v : Bool) : (dfun cxIn Tryz.f3 [.agg (cellsV p x0 x1 x2 x3 x4 x5 x6 x7 x8 x9 x10 x11 x12 x13 x14 x15 x16 x17 x18 x19 x20 x21 x22 x23 x24 x25 x26 x27 x28 x29 x30 x31 th z n c v), .int .i64 7]).run = some (.bool true) := by
  cases z <;> cases n <;> cases c <;> cases v <;> kernel_rfl
theorem in_8 (p x0 x1 x2 x3 x4 x5 x6 x7 x8 x9 x10 x11 x12 x13 x14 x15 x16 x17 x18 x19 x20 x21 x22 x23 x24 x25 x26 x27 x28 x29 x30 x31 th : Int) (z n c v : Bool) : (dfun cxIn Tryz.f3 [.agg (cellsV p x0 x1 x2 x3 x4 x5 x6 x7 x8 x9 x10 x11 x12 x13 x14 x15 x16 x17 x18 x19 x20 x21 x22 x23 x24 x25 x26 x27 x28 x29 x30 x31 th z n c v), .int .i64 8]).run = some (.bool true) := by
  cases z <;> cases n <;> cases c <;> cases v <;> kernel_rfl
theorem in_9 (p x0 x1 x2 x3 x4 x5 x6 x7 x8 x9 x10 x11 x12 x13 x14 x15 x16 x17 x18 x19 x20 x21 x22 x23 x24 x25 x26 x27 x28 x29 x30 x31 th : Int) (z n c v : Bool) : (dfun cxIn Tryz.f3 [.agg (cellsV p x0 x1 x2 x3 x4 x5 x6 x7 x8 x9 x10 x11 x12 x13 x14 x15 x16 x17 x18 x19 x20 x21 x22 x23 x24 x25 x26 x27 x28 x29 x30 x31 th z n c v), .int .i64 9]).run = some (.bool true) := by
  cases z <;> cases n <;> cases c <;> cases v <;> kernel_rfl
theorem in_10 (p x0 x1 x2 x3 x4 x5 x6 x7 x8 x9 x10 x11 x12 x13 x14 x15 x16 x17 x18 x19 x20 x21 x22 x23 x24 x25 x26 x27 x28 x29 x30 x31 th : Int) (z n c v : Bool) : (dfun cxIn Tryz.f3 [.agg (cellsV p x0 x1 x2 x3 x4 x5 x6 x7 x8 x9 x10 x11 x12 x13 x14 x15 x16 x17 x18 x19 x20 x21 x22 x23 x24 x25 x26 x27 x28 x29 x30 x31 th z n c v), .int .i64 10]).run = some (.bool true) := by
  cases z <;> cases n <;> cases c <;> cases v <;> kernel_rfl
theorem in_11 (p x0 x1 x2 x3 x4 x5 x6 x7 x8 x9 x10 x11 x12 x13 x14 x15 x16 x17 x18 x19 x20 x21 x22 x23 x24 x25 x26 x27 x28 x29 x30 x31 th : Int) (z n c v : Bool) : (dfun cxIn Tryz.f3 [.agg (cellsV p x0 x1 x2 x3 x4 x5 x6 x7 x8 x9 x10 x11 x12 x13 x14 x15 x16 x17 x18 x19 x20 x21 x22 x23 x24 x25 x26 x27 x28 x29 x30 x31 th z n c v), .int .i64 11]).run = some (.bool true) := by
  cases z <;> cases n <;> cases c <;> cases v <;> kernel_rfl
theorem in_12 (p x0 x1 x2 x3 x4 x5 x6 x7 x8 x9 x10 x11 x12 x13 x14 x15 x16 x17 x18 x19 x20 x21 x22 x23 x24 x25 x26 x27 x28 x29 x30 x31 th : Int) (z n c v : Bool) : (dfun cxIn Tryz.f3 [.agg (cellsV p x0 x1 x2 x3 x4 x5 x6 x7 x8 x9 x10 x11 x12 x13 x14 x15 x16 x17 x18 x19 x20 x21 x22 x23 x24 x25 x26 x27 x28 x29 x30 x31 th z n c v), .int .i64 12]).run = some (.bool true) := by
  cases z <;> cases n <;> cases c <;> cases v <;> kernel_rfl
theorem in_13 (p x0 x1 x2 x3 x4 x5 x6 x7 x8 x9 x10 x11 x12 x13 x14 x15 x16 x17 x18 x19 x20 x21 x22 x23 x24 x25 x26 x27 x28 x29 x30 x31 th : Int) (z n c v : Bool) : (dfun cxIn Tryz.f3 [.agg (cellsV p x0 x1 x2 x3 x4 x5 x6 x7 x8 x9 x10 x11 x12 x13 x14 x15 x16 x17 x18 x19 x20 x21 x22 x23 x24 x25 x26 x27 x28 x29 x30 x31 th z n c v), .int .i64 13]).run = some (.bool true) := by
  cases z <;> cases n <;> cases c <;> cases v <;> kernel_rfl

theorem outL_run (p x0 x1 x2 x3 x4 x5 x6 x7 x8 x9 x10 x11 x12 x13 x14 x15 x16 x17 x18 x19 x20 x21 x22 x23 x24 x25 x26 x27 x28 x29 x30 x31 th : Int) (z n c v : Bool) (d : Int) (h : d < 0 ∨ 13 < d) : (outL p x0 x1 x2 x3 x4 x5 x6 x7 x8 x9 x10 x11 x12 x13 x14 x15 x16 x17 x18 x19 x20 x21 x22 x23 x24 x25 x26 x27 x28 x29 x30 x31 th z n c v d).run = some (.bool true) := by
  have e : ∀ k : Int, 0 ≤ k → k ≤ 13 → (d == k) = false := fun k h1 h2 => by
    have : d ≠ k := by omega
    simpa using this
  unfold outL
  simp only [br_run, e 0 (by omega) (by omega), e 1 (by omega) (by omega), e 2 (by omega) (by omega), e 3 (by omega) (by omega), e 4 (by omega) (by omega), e 5 (by omega) (by omega), e 6 (by omega) (by omega), e 7 (by omega) (by omega), e 8 (by omega) (by omega), e 9 (by omega) (by omega), e 10 (by omega) (by omega), e 11 (by omega) (by omega), e 12 (by omega) (by omega), e 13 (by omega) (by omega), cond_false]
  rcases h with h | h
  · rw [decide_eq_true h]; rfl
  · rw [decide_eq_false (by omega : ¬ d < 0), decide_eq_true h]; rfl

theorem lawH_ok (p x0 x1 x2 x3 x4 x5 x6 x7 x8 x9 x10 x11 x12 x13 x14 x15 x16 x17 x18 x19 x20 x21 x22 x23 x24 x25 x26 x27 x28 x29 x30 x31 th : Int) (z n c v : Bool) (d : Int) : PCall Tryz.prog 3 [.agg (cellsV p x0 x1 x2 x3 x4 x5 x6 x7 x8 x9 x10 x11 x12 x13 x14 x15 x16 x17 x18 x19 x20 x21 x22 x23 x24 x25 x26 x27 x28 x29 x30 x31 th z n c v), .int .i64 d] (.bool true) := by
  by_cases h : d < 0 ∨ 13 < d
  · exact pcall_fun' (cx := cxOut) (fn := Tryz.f3) cxOut_ok (by kernel_rfl) (by kernel_rfl) (by kernel_rfl) ((outL_eq p x0 x1 x2 x3 x4 x5 x6 x7 x8 x9 x10 x11 x12 x13 x14 x15 x16 x17 x18 x19 x20 x21 x22 x23 x24 x25 x26 x27 x28 x29 x30 x31 th z n c v d).trans (outL_run p x0 x1 x2 x3 x4 x5 x6 x7 x8 x9 x10 x11 x12 x13 x14 x15 x16 x17 x18 x19 x20 x21 x22 x23 x24 x25 x26 x27 x28 x29 x30 x31 th z n c v d h))
  have hd : d = 0 ∨ d = 1 ∨ d = 2 ∨ d = 3 ∨ d = 4 ∨ d = 5 ∨ d = 6 ∨ d = 7 ∨ d = 8 ∨ d = 9 ∨ d = 10 ∨ d = 11 ∨ d = 12 ∨ d = 13 := by omega
  rcases hd with rfl | rfl | rfl | rfl | rfl | rfl | rfl | rfl | rfl | rfl | rfl | rfl | rfl | rfl
  · exact pcall_fun' (cx := cxIn) (fn := Tryz.f3) cxIn_ok (by kernel_rfl) (by kernel_rfl) (by kernel_rfl) (in_0 p x0 x1 x2 x3 x4 x5 x6 x7 x8 x9 x10 x11 x12 x13 x14 x15 x16 x17 x18 x19 x20 x21 x22 x23 x24 x25 x26 x27 x28 x29 x30 x31 th z n c v)
  · exact pcall_fun' (cx := cxIn) (fn := Tryz.f3) cxIn_ok (by kernel_rfl) (by kernel_rfl) (by kernel_rfl) (in_1 p x0 x1 x2 x3 x4 x5 x6 x7 x8 x9 x10 x11 x12 x13 x14 x15 x16 x17 x18 x19 x20 x21 x22 x23 x24 x25 x26 x27 x28 x29 x30 x31 th z n c v)
  · exact pcall_fun' (cx := cxIn) (fn := Tryz.f3) cxIn_ok (by kernel_rfl) (by kernel_rfl) (by kernel_rfl) (in_2 p x0 x1 x2 x3 x4 x5 x6 x7 x8 x9 x10 x11 x12 x13 x14 x15 x16 x17 x18 x19 x20 x21 x22 x23 x24 x25 x26 x27 x28 x29 x30 x31 th z n c v)
  · exact pcall_fun' (cx := cxIn) (fn := Tryz.f3) cxIn_ok (by kernel_rfl) (by kernel_rfl) (by kernel_rfl) (in_3 p x0 x1 x2 x3 x4 x5 x6 x7 x8 x9 x10 x11 x12 x13 x14 x15 x16 x17 x18 x19 x20 x21 x22 x23 x24 x25 x26 x27 x28 x29 x30 x31 th z n c v)
  · exact pcall_fun' (cx := cxIn) (fn := Tryz.f3) cxIn_ok (by kernel_rfl) (by kernel_rfl) (by kernel_rfl) (in_4 p x0 x1 x2 x3 x4 x5 x6 x7 x8 x9 x10 x11 x12 x13 x14 x15 x16 x17 x18 x19 x20 x21 x22 x23 x24 x25 x26 x27 x28 x29 x30 x31 th z n c v)
  · exact pcall_fun' (cx := cxIn) (fn := Tryz.f3) cxIn_ok (by kernel_rfl) (by kernel_rfl) (by kernel_rfl) (in_5 p x0 x1 x2 x3 x4 x5 x6 x7 x8 x9 x10 x11 x12 x13 x14 x15 x16 x17 x18 x19 x20 x21 x22 x23 x24 x25 x26 x27 x28 x29 x30 x31 th z n c v)
  · exact pcall_fun' (cx := cxIn) (fn := Tryz.f3) cxIn_ok (by kernel_rfl) (by kernel_rfl) (by kernel_rfl) (in_6 p x0 x1 x2 x3 x4 x5 x6 x7 x8 x9 x10 x11 x12 x13 x14 x15 x16 x17 x18 x19 x20 x21 x22 x23 x24 x25 x26 x27 x28 x29 x30 x31 th z n c v)
  · exact pcall_fun' (cx := cxIn) (fn := Tryz.f3) cxIn_ok (by kernel_rfl) (by kernel_rfl) (by kernel_rfl) (in_7 p x0 x1 x2 x3 x4 x5 x6 x7 x8 x9 x10 x11 x12 x13 x14 x15 x16 x17 x18 x19 x20 x21 x22 x23 x24 x25 x26 x27 x28 x29 x30 x31 th z n c v)
  · exact pcall_fun' (cx := cxIn) (fn := Tryz.f3) cxIn_ok (by kernel_rfl) (by kernel_rfl) (by kernel_rfl) (in_8 p x0 x1 x2 x3 x4 x5 x6 x7 x8 x9 x10 x11 x12 x13 x14 x15 x16 x17 x18 x19 x20 x21 x22 x23 x24 x25 x26 x27 x28 x29 x30 x31 th z n c v)
  · exact pcall_fun' (cx := cxIn) (fn := Tryz.f3) cxIn_ok (by kernel_rfl) (by kernel_rfl) (by kernel_rfl) (in_9 p x0 x1 x2 x3 x4 x5 x6 x7 x8 x9 x10 x11 x12 x13 x14 x15 x16 x17 x18 x19 x20 x21 x22 x23 x24 x25 x26 x27 x28 x29 x30 x31 th z n c v)
  · exact pcall_fun' (cx := cxIn) (fn := Tryz.f3) cxIn_ok (by kernel_rfl) (by kernel_rfl) (by kernel_rfl) (in_10 p x0 x1 x2 x3 x4 x5 x6 x7 x8 x9 x10 x11 x12 x13 x14 x15 x16 x17 x18 x19 x20 x21 x22 x23 x24 x25 x26 x27 x28 x29 x30 x31 th z n c v)
  · exact pcall_fun' (cx := cxIn) (fn := Tryz.f3) cxIn_ok (by kernel_rfl) (by kernel_rfl) (by kernel_rfl) (in_11 p x0 x1 x2 x3 x4 x5 x6 x7 x8 x9 x10 x11 x12 x13 x14 x15 x16 x17 x18 x19 x20 x21 x22 x23 x24 x25 x26 x27 x28 x29 x30 x31 th z n c v)
  · exact pcall_fun' (cx := cxIn) (fn := Tryz.f3) cxIn_ok (by kernel_rfl) (by kernel_rfl) (by kernel_rfl) (in_12 p x0 x1 x2 x3 x4 x5 x6 x7 x8 x9 x10 x11 x12 x13 x14 x15 x16 x17 x18 x19 x20 x21 x22 x23 x24 x25 x26 x27 x28 x29 x30 x31 th z n c v)
  · exact pcall_fun' (cx := cxIn) (fn := Tryz.f3) cxIn_ok (by kernel_rfl) (by kernel_rfl) (by kernel_rfl) (in_13 p x0 x1 x2 x3 x4 x5 x6 x7 x8 x9 x10 x11 x12 x13 x14 x15 x16 x17 x18 x19 x20 x21 x22 x23 x24 x25 x26 x27 x28 x29 x30 x31 th z n c v)

end Go.Ra
