/-
  The program's memory, of five pages: bytes, rights. Conditions: none.
-/
import Derived.Test.YtmbbnhcbphkniaaGreatDoorRm2
namespace Go.Ra
open Go Go.Ab Go.Proofs

def mO (r : Int) (l : List Int) : O := .obj (.page 1 .u8 l) [.int .i64 r]
/-- Five pages, of such bytes. -/
def memO (a b c d e : List Int) : List O := [.cells [.bool true, .mp 1] 61, .obj (.map [1, 2, 16, 17, 32]) [.ptr 2 0, .ptr 3 0, .ptr 4 0, .ptr 5 0, .ptr 6 0], mO 5 a, mO 5 b, mO 6 c, mO 6 d, mO 4 e]
/-- The context of (*foundry/pages.Pages).get. -/
noncomputable def cx36 : Cx := { P := Tryz.prog, n := 18, tab := [], mtab := [], refs := [], keeps := [0, 1, 4], lz := [16] }
/-- The context of (*foundry/pages.Pages).put. -/
noncomputable def cx68 : Cx := { P := Tryz.prog, n := 19, tab := [], mtab := [], refs := [], keeps := [0, 1, 2], lz := [18] }
/-- The context of foundry/pages.last. -/
noncomputable def cx64 : Cx := { P := Tryz.prog, n := 15, tab := [], mtab := [], refs := [], keeps := [0, 1, 4, 5, 6] }
noncomputable def lastS : Ab.Spec := fun args => .req (Nat.ble args.length Tryz.f64.ntmps) (dfun cx64 Tryz.f64 args)
theorem lastS_ok : Sound Tryz.prog 64 lastS := sound_fun (cx := cx64) (fn := Tryz.f64) (cx0_ok rfl rfl) (by kernel_rfl) (by kernel_rfl)
/-- The context of (*foundry/pages.Pages).none. -/
noncomputable def cx34 : Cx := { P := Tryz.prog, n := 12, tab := [], mtab := [], refs := [], keeps := [0, 2] }
noncomputable def noneM : MSpec := fun args H => .req (Nat.ble args.length Tryz.f34.ntmps) (mfun cx34 Tryz.f34 args H)
theorem noneM_ok : MSound Tryz.prog 34 noneM := msound_fun (cx := cx34) (fn := Tryz.f34) (cx0_ok rfl rfl) (by kernel_rfl) (by kernel_rfl)
/-- The context of (*foundry/pages.Pages).may. -/
noncomputable def cx35 : Cx := { P := Tryz.prog, n := 54, tab := [(64, lastS)], mtab := [(34, noneM)], refs := [], keeps := [0, 1, 2, 3, 8, 9, 10, 11, 12, 14, 27, 33, 53], fuel := 3 }
def badR (R r : Int) : Bool := !(IntKind.wrap .i64 (((BitVec.ofInt 64 R &&& BitVec.ofInt 64 r).toNat : Nat) : Int) == r)
/-- By page: what is done with its rights. -/
def pgR {α : Type} (k : Int) (f : Int → α) (z : α) : α := cond (k == 1) (f 5) (cond (k == 2) (f 5) (cond (k == 16) (f 6) (cond (k == 17) (f 6) (cond (k == 32) (f 4) z))))
def endF (x n : Int) : Int := IntKind.wrap .u64 (IntKind.wrap .u64 (x + IntKind.wrap .u64 n) - 1)
def pgF (x : Int) : Int := IntKind.wrap .u64 (Int.tdiv x 4096)
def mayGo (H : List O) (y r : Int) : Nat → Int → Option Res
  | 0, _ => none
  | f + 1, k => cond (decide (k ≤ pgF y)) (pgR k (fun R => cond (badR R r) (some (.ok (.bool false) H)) (mayGo H y r f (IntKind.wrap .u64 (k + 1)))) (some (.ok (.bool false) H))) (some (.ok (.bool true) H))
def mayX (H : List O) (x n r : Int) : Option Res := cond (n == 0) (some (.ok (.bool true) H)) (cond (!decide (x ≤ endF x n)) (some (.ok (.bool false) H)) (mayGo H (endF x n) r 3 (pgF x)))
theorem may_eq (a b c d e : List Int) (x n r : Int) : (mfun cx35 Tryz.f35 [.ptr 0 0, .int .u64 x, .int .i64 n, .int .i64 r] (memO a b c d e)).fin = mayX (memO a b c d e) x n r := by kernel_rfl

def pgL {α : Type} (k : Int) (a b c d e : List Int) (f : List Int → (List Int → List O) → α) (z : α) : α :=
  cond (k == 1) (f a (fun l => memO l b c d e)) (cond (k == 2) (f b (fun l => memO a l c d e)) (cond (k == 16) (f c (fun l => memO a b l d e)) (cond (k == 17) (f d (fun l => memO a b c l e)) (cond (k == 32) (f e (fun l => memO a b c d l)) z))))
def offF (x : Int) : Nat := 1 + Int.toNat (Int.tmod x 4096) * 1 - 1
def inF (x : Int) (l : List Int) (v : Option Res) : Option Res := cond (inside (Int.tmod x 4096) 4096) (cond (Nat.ble 1 (1 + Int.toNat (Int.tmod x 4096) * 1) && Nat.blt (offF x) l.length) v none) none
theorem get_eq (a b c d e : List Int) (x : Int) : (mfun cx36 Tryz.f36 [.ptr 0 0, .int .u64 x] (memO a b c d e)).fin =
    pgL (pgF x) a b c d e (fun l H => inF x l (some (.ok (.int .u8 (l.getD (offF x) 0)) (H l)))) none := by kernel_rfl
theorem put_eq (a b c d e : List Int) (x v : Int) : (mfun cx68 Tryz.f68 [.ptr 0 0, .int .u64 x, .int .u8 v] (memO a b c d e)).fin =
    pgL (pgF x) a b c d e (fun l H => inF x l (some (.ok (.tup []) (H (l.set (offF x) v))))) none := by kernel_rfl

end Go.Ra
