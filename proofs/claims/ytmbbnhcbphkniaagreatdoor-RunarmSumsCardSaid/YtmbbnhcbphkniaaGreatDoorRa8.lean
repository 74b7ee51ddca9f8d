/-
  runarm: the law Moves, evaluated. Conditions: none.
-/
import Derived.Test.YtmbbnhcbphkniaaGreatDoorRa7
namespace Go.Ra
open Go Go.Ab Go.Proofs

/-- The context of foundry/pages.New. -/
noncomputable def cx13 : Cx := { P := Tryz.prog, n := 4, tab := [], mtab := [], refs := [], keeps := [0] }
noncomputable def newM : MSpec := fun args H => .req (Nat.ble args.length Tryz.f13.ntmps) (mfun cx13 Tryz.f13 args H)
theorem newM_ok : MSound Tryz.prog 13 newM := msound_fun (cx := cx13) (fn := Tryz.f13) (cx0_ok rfl rfl) (by kernel_rfl) (by kernel_rfl)
/-- The context of foundry/foundrylaw28.RunarmMoves. -/
noncomputable def cx5 : Cx := { P := Tryz.prog, n := 115, tab := [(10, begunS)], mtab := [(14, movM), (13, newM)], refs := [], keeps := [0, 1, 4, 5, 6, 7, 9, 10, 11, 12, 14, 16, 38, 40, 48, 71], fuel := 4 }
theorem cxMv_ok : CxOk cx5 := cx1_ok (ok1 begunS_ok) (.cons movM_ok (.cons newM_ok fun p h => by cases h)) rfl rfl
noncomputable abbrev B5 : Code := bodyOf Tryz.f5
def mvH : List O := [.obj (.map []) [], .cells [.bool true, .mp 0] 61, .cells (cpuL 0 (List.replicate 32 0) false false false false 0) 25]
theorem mv_head (n k : Int) : (dcode cx5 (headN 4 B5) (initT 0 [.int .u64 n, .int .u8 k]) []).run.map (fun s => (s.1, keep [0, 1, 4, 5, 6, 7] s.2.1, s.2.2)) =
    some (.normal, [(0, .int .u64 n), (1, .int .u8 k), (4, .bool false), (5, .ptr 1 0), (6, .ptr 2 0), (7, .int .i64 (IntKind.wrap .i64 (Int.tmod k 4)))], mvH) := by kernel_rfl
/-- The 16 bits of n from e on, as the law has them. -/
def mF (e : Nat) (n : Int) : Int := IntKind.wrap .i64 (IntKind.wrap .u64 (((BitVec.ofInt 64 (Int.fdiv n (2 ^ e)) &&& BitVec.ofInt 64 65535).toNat : Nat) : Int))
def rngF (e : Nat) (n : Int) : Bool := decide (0 ≤ mF e n) && decide (mF e n ≤ 65535)
def lastM (f : Nat) (n : Int) : Bool := movnF (f : Int) (mF (16 * f) n) == IntKind.wrap .u64 (((BitVec.ofInt 64 (IntKind.max .u64) ^^^ BitVec.ofInt 64 (IntKind.wrap .u64 (((BitVec.ofInt 64 n &&& BitVec.ofInt 64 (IntKind.wrap .u64 (65535 * 2 ^ (16 * f)))).toNat : Nat) : Int))).toNat : Nat) : Int)
def mvGo (f : Nat) (b : Bool) (n : Int) : Nat → Nat → Int → Option V
  | 0, _, x => cond (rngF (16 * f) n) (cond (x == n) (some (.bool (lastM f n))) (some (.bool false))) none
  | r + 1, i, x => cond b (cond (rngF (16 * ((f + 4 - i) % 4)) n) (mvGo f b n r (i + 1) (movkF (((f + 4 - i) % 4 : Nat) : Int) x (mF (16 * ((f + 4 - i) % 4)) n))) none)
      (cond (rngF (16 * ((f + i) % 4)) n) (mvGo f b n r (i + 1) (movkF (((f + i) % 4 : Nat) : Int) x (mF (16 * ((f + i) % 4)) n))) none)
def mvS (f : Nat) (b : Bool) (n : Int) : Option V := cond (rngF (16 * f) n) (mvGo f b n 3 1 (movzF (f : Int) (mF (16 * f) n))) none
noncomputable def mvL (f : Nat) (n k : Int) : Tree V := (dcode cx5 (tailN 4 B5) [(0, .int .u64 n), (1, .int .u8 k), (4, .bool false), (5, .ptr 1 0), (6, .ptr 2 0), (7, .int .i64 (f : Int))] mvH).bind (answer Tryz.prog Tryz.f5.results.toList)
theorem mv_0 (n k : Int) : (mvL 0 n k).fin = mvS 0 (decide (128 ≤ k)) n := by kernel_rfl
theorem mv_1 (n k : Int) : (mvL 1 n k).fin = mvS 1 (decide (128 ≤ k)) n := by kernel_rfl
theorem mv_2 (n k : Int) : (mvL 2 n k).fin = mvS 2 (decide (128 ≤ k)) n := by kernel_rfl
theorem mv_3 (n k : Int) : (mvL 3 n k).fin = mvS 3 (decide (128 ≤ k)) n := by kernel_rfl

end Go.Ra
