/-
  Fields: small, put, get. Conditions: none.
-/
import Derived.Test.YtffamklolgjjdaaAr6
namespace Go.Arm
open Go Go.Ab Go.Proofs Go.Wd

/-- The context of (foundry/arm.number).small. -/
noncomputable def cx36 : Cx := { P := Try.prog, n := 17, tab := [], mtab := [], refs := [], keeps := [0, 1, 2, 4] }
/-- The context of foundry/arm.signed. -/
noncomputable def cx44 : Cx := { P := Try.prog, n := 14, tab := [], mtab := [], refs := [], keeps := [0, 1, 4] }
/-- The context of (foundry/arm.number).put. -/
noncomputable def cx38 : Cx := { P := Try.prog, n := 60, tab := [(37, ofS)], mtab := [], refs := [], keeps := [0, 1, 2, 4, 5, 6, 7, 10, 11, 27, 39] }
def smallT (_at_ _bi _ki _by_ lo hi n : Int) : Tree V :=
  (.br (decide (IntKind.wrap IntKind.i64 lo ≤ n)) (.leaf (.bool (decide (n ≤ IntKind.wrap IntKind.i64 hi)))) (.leaf (.bool false)))

theorem smallT_eq (at_ bi ki by_ lo hi n : Int) : (dfun cx36 Try.f36 [.agg [.int .i8 at_, .int .i8 bi, .int .i8 ki, .int .i8 by_, .int .i32 lo, .int .i32 hi], .int .i64 n]).run = (smallT at_ bi ki by_ lo hi n).run :=
  (show (dfun cx36 Try.f36 [.agg [.int .i8 at_, .int .i8 bi, .int .i8 ki, .int .i8 by_, .int .i32 lo, .int .i32 hi], .int .i64 n]).run = (smallT at_ bi ki by_ lo hi n).out by kernel_rfl).trans (Tree.out_run _)

def signedT (n b : Int) : Tree V :=
  (.br (decide (0 ≤ IntKind.wrap IntKind.i64 (32 - b))) (.br (decide (0 ≤ IntKind.wrap IntKind.i64 (32 - b))) (.leaf (.int .i64 (IntKind.wrap IntKind.i64 (Int.fdiv (IntKind.wrap IntKind.i32 (IntKind.wrap IntKind.u32 (n * 2 ^ Min.min (Int.toNat (IntKind.wrap IntKind.i64 (32 - b))) 32))) (2 ^ Min.min (Int.toNat (IntKind.wrap IntKind.i64 (32 - b))) 32))))) .fail) .fail)

theorem signedT_eq (n b : Int) : (dfun cx44 Try.f44 [.int .u32 n, .int .i64 b]).run = (signedT n b).run :=
  (show (dfun cx44 Try.f44 [.int .u32 n, .int .i64 b]).run = (signedT n b).out by kernel_rfl).trans (Tree.out_run _)

def putT (at_ bi ki by_ _lo _hi n : Int) : Tree V :=
  (.br (ki == 1) (.br (!decide (IntKind.wrap IntKind.i64 by_ = 0)) (.br (decide (0 ≤ bi)) (.br (decide (0 ≤ at_)) (.leaf (.int .u32 (IntKind.wrap IntKind.u32 (IntKind.wrap IntKind.u32 ↑(BitVec.toNat (BitVec.ofInt 32 (IntKind.wrap IntKind.u32 (IntKind.wrap IntKind.i64 (Int.tdiv n (IntKind.wrap IntKind.i64 by_)))) &&& BitVec.ofInt 32 (IntKind.wrap IntKind.u32 (IntKind.wrap IntKind.u32 (1 * 2 ^ Min.min (Int.toNat bi) 32) - 1)))) * 2 ^ Min.min (Int.toNat at_) 32)))) .fail) .fail) .fail) (.br (ki == 2) (.leaf (.int .u32 (IntKind.wrap IntKind.u32 ↑(BitVec.toNat (BitVec.ofInt 32 (IntKind.wrap IntKind.u32 (IntKind.wrap IntKind.u32 ↑(BitVec.toNat (BitVec.ofInt 32 (IntKind.wrap IntKind.u32 n) &&& BitVec.ofInt 32 3)) * 2 ^ 29)) ||| BitVec.ofInt 32 (IntKind.wrap IntKind.u32 (IntKind.wrap IntKind.u32 ↑(BitVec.toNat (BitVec.ofInt 32 (IntKind.wrap IntKind.u32 (Int.fdiv n (2 ^ 2))) &&& BitVec.ofInt 32 524287)) * 2 ^ 5))))))) (.br (ki == 3) (.br (decide (0 ≤ IntKind.wrap IntKind.u64 n) && decide (IntKind.wrap IntKind.u64 n < 18446744073709551616)) (.leaf (.int .u32 (IntKind.wrap IntKind.u32 ↑(BitVec.toNat (BitVec.ofInt 32 (IntKind.wrap IntKind.u32 ↑(BitVec.toNat (BitVec.ofInt 32 (IntKind.wrap IntKind.u32 (IntKind.wrap IntKind.u32 (ofVN (Int.toNat (IntKind.wrap IntKind.u64 n))) * 2 ^ 22)) ||| BitVec.ofInt 32 (IntKind.wrap IntKind.u32 (IntKind.wrap IntKind.u32 (ofVR (Int.toNat (IntKind.wrap IntKind.u64 n))) * 2 ^ 16))))) ||| BitVec.ofInt 32 (IntKind.wrap IntKind.u32 (IntKind.wrap IntKind.u32 (ofVS (Int.toNat (IntKind.wrap IntKind.u64 n))) * 2 ^ 10))))))) .fail) (.leaf (.int .u32 0)))))

theorem putT_eq (at_ bi ki by_ lo hi n : Int) : (dfun cx38 Try.f38 [.agg [.int .i8 at_, .int .i8 bi, .int .i8 ki, .int .i8 by_, .int .i32 lo, .int .i32 hi], .int .i64 n]).run = (putT at_ bi ki by_ lo hi n).run :=
  (show (dfun cx38 Try.f38 [.agg [.int .i8 at_, .int .i8 bi, .int .i8 ki, .int .i8 by_, .int .i32 lo, .int .i32 hi], .int .i64 n]).run = (putT at_ bi ki by_ lo hi n).out by kernel_rfl).trans (Tree.out_run _)


/-- The lowest bits of a number, the highest of them a sign. -/
def signedF (n bi : Int) : Int := IntKind.wrap IntKind.i64 (Int.fdiv (IntKind.wrap IntKind.i32 (IntKind.wrap IntKind.u32 (n * 2 ^ Min.min (Int.toNat (IntKind.wrap IntKind.i64 (32 - bi))) 32))) (2 ^ Min.min (Int.toNat (IntKind.wrap IntKind.i64 (32 - bi))) 32))

def signedS : Ab.Spec := fun args => match args with
  | [.int .u32 n, .int .i64 bi] => .req (decide (0 ≤ IntKind.wrap IntKind.i64 (32 - bi))) (.req (decide (0 ≤ IntKind.wrap IntKind.i64 (32 - bi))) (.leaf (.int .i64 (signedF n bi))))
  | _ => .fail

theorem signedS_ok : Sound Try.prog 44 signedS := by
  intro args out h
  unfold signedS at h
  split at h
  rotate_left
  · cases h
  rename_i n bi
  refine pcall_fun' (cx := cx44) (fn := Try.f44) (cx0_ok rfl rfl) (by kernel_rfl) (by kernel_rfl) (by kernel_rfl) ?_
  rw [signedT_eq]
  exact h

/-- The context of (foundry/arm.number).get. -/
noncomputable def cx30 : Cx := { P := Try.prog, n := 70, tab := [(44, signedS), (45, atS)], mtab := [], refs := [], keeps := [0, 1, 2, 4, 5, 6, 9, 10, 23, 39, 50] }
def getT (at_ bi ki by_ lo _hi w : Int) : Tree V :=
  (.br (ki == 1) (.br (decide (0 ≤ at_)) (.br (decide (0 ≤ bi)) (.br (decide (lo < 0)) (.br (decide (0 ≤ IntKind.wrap IntKind.i64 (32 - IntKind.wrap IntKind.i64 bi))) (.br (decide (0 ≤ IntKind.wrap IntKind.i64 (32 - IntKind.wrap IntKind.i64 bi))) (.leaf (.int .i64 (IntKind.wrap IntKind.i64 (signedF (IntKind.wrap IntKind.u32 ↑(BitVec.toNat (BitVec.ofInt 32 (Int.fdiv w (2 ^ Min.min (Int.toNat at_) 32)) &&& BitVec.ofInt 32 (IntKind.wrap IntKind.u32 (IntKind.wrap IntKind.u32 (1 * 2 ^ Min.min (Int.toNat bi) 32) - 1))))) (IntKind.wrap IntKind.i64 bi) * IntKind.wrap IntKind.i64 by_)))) .fail) .fail) (.leaf (.int .i64 (IntKind.wrap IntKind.i64 (IntKind.wrap IntKind.i64 (IntKind.wrap IntKind.u32 ↑(BitVec.toNat (BitVec.ofInt 32 (Int.fdiv w (2 ^ Min.min (Int.toNat at_) 32)) &&& BitVec.ofInt 32 (IntKind.wrap IntKind.u32 (IntKind.wrap IntKind.u32 (1 * 2 ^ Min.min (Int.toNat bi) 32) - 1))))) * IntKind.wrap IntKind.i64 by_))))) .fail) .fail) (.br (ki == 2) (.leaf (.int .i64 (signedF (IntKind.wrap IntKind.u32 ↑(BitVec.toNat (BitVec.ofInt 32 (IntKind.wrap IntKind.u32 (IntKind.wrap IntKind.u32 ↑(BitVec.toNat (BitVec.ofInt 32 (Int.fdiv w (2 ^ 5)) &&& BitVec.ofInt 32 524287)) * 2 ^ 2)) ||| BitVec.ofInt 32 (IntKind.wrap IntKind.u32 ↑(BitVec.toNat (BitVec.ofInt 32 (Int.fdiv w (2 ^ 29)) &&& BitVec.ofInt 32 3)))))) 21))) (.br (ki == 3) (.leaf (.int .i64 (IntKind.wrap IntKind.i64 ↑(atV (IntKind.wrap IntKind.i64 (IntKind.wrap IntKind.u32 ↑(BitVec.toNat (BitVec.ofInt 32 (Int.fdiv w (2 ^ 22)) &&& BitVec.ofInt 32 1)))) (IntKind.wrap IntKind.i64 (IntKind.wrap IntKind.u32 ↑(BitVec.toNat (BitVec.ofInt 32 (Int.fdiv w (2 ^ 16)) &&& BitVec.ofInt 32 63)))) (IntKind.wrap IntKind.i64 (IntKind.wrap IntKind.u32 ↑(BitVec.toNat (BitVec.ofInt 32 (Int.fdiv w (2 ^ 10)) &&& BitVec.ofInt 32 63)))))))) (.leaf (.int .i64 0)))))

theorem getT_eq (at_ bi ki by_ lo hi w : Int) : (dfun cx30 Try.f30 [.agg [.int .i8 at_, .int .i8 bi, .int .i8 ki, .int .i8 by_, .int .i32 lo, .int .i32 hi], .int .u32 w]).run = (getT at_ bi ki by_ lo hi w).run :=
  (show (dfun cx30 Try.f30 [.agg [.int .i8 at_, .int .i8 bi, .int .i8 ki, .int .i8 by_, .int .i32 lo, .int .i32 hi], .int .u32 w]).run = (getT at_ bi ki by_ lo hi w).out by kernel_rfl).trans (Tree.out_run _)


/-! What fields answer. -/

def smallF (f : NumT) (n : Int) : Bool := cond (decide (IntKind.wrap IntKind.i64 f.2.2.2.2.1 ≤ n)) (decide (n ≤ IntKind.wrap IntKind.i64 f.2.2.2.2.2)) false
/-- A plain field may be put and read. -/
def numOk (f : NumT) : Bool := cond (f.2.2.1 == 1) (!decide (IntKind.wrap IntKind.i64 f.2.2.2.1 = 0) && (decide (0 ≤ f.2.1) && (decide (0 ≤ f.1) && decide (0 ≤ IntKind.wrap IntKind.i64 (32 - IntKind.wrap IntKind.i64 f.2.1))))) true
def maskB (bi : Int) : Int := IntKind.wrap IntKind.u32 (IntKind.wrap IntKind.u32 (1 * 2 ^ Min.min (Int.toNat bi) 32) - 1)
def put1 (f : NumT) (n : Int) : Int := IntKind.wrap IntKind.u32 (and32 (IntKind.wrap IntKind.u32 (IntKind.wrap IntKind.i64 (Int.tdiv n (IntKind.wrap IntKind.i64 f.2.2.2.1)))) (maskB f.2.1) * 2 ^ Min.min (Int.toNat f.1) 32)
def put2 (n : Int) : Int := or32 (IntKind.wrap IntKind.u32 (and32 (IntKind.wrap IntKind.u32 n) 3 * 2 ^ 29)) (IntKind.wrap IntKind.u32 (and32 (IntKind.wrap IntKind.u32 (Int.fdiv n (2 ^ 2))) 524287 * 2 ^ 5))
def u64N (n : Int) : Nat := Int.toNat (IntKind.wrap IntKind.u64 n)
def put3 (n : Int) : Int := or32 (or32 (IntKind.wrap IntKind.u32 (IntKind.wrap IntKind.u32 (ofVN (u64N n)) * 2 ^ 22)) (IntKind.wrap IntKind.u32 (IntKind.wrap IntKind.u32 (ofVR (u64N n)) * 2 ^ 16))) (IntKind.wrap IntKind.u32 (IntKind.wrap IntKind.u32 (ofVS (u64N n)) * 2 ^ 10))
def putF (f : NumT) (n : Int) : Int := cond (f.2.2.1 == 1) (put1 f n) (cond (f.2.2.1 == 2) (put2 n) (cond (f.2.2.1 == 3) (put3 n) 0))
def raw1 (f : NumT) (w : Int) : Int := and32 (Int.fdiv w (2 ^ Min.min (Int.toNat f.1) 32)) (maskB f.2.1)
def get1 (f : NumT) (w : Int) : Int := cond (decide (f.2.2.2.2.1 < 0)) (IntKind.wrap IntKind.i64 (signedF (raw1 f w) (IntKind.wrap IntKind.i64 f.2.1) * IntKind.wrap IntKind.i64 f.2.2.2.1)) (IntKind.wrap IntKind.i64 (IntKind.wrap IntKind.i64 (raw1 f w) * IntKind.wrap IntKind.i64 f.2.2.2.1))
def get2 (w : Int) : Int := signedF (or32 (IntKind.wrap IntKind.u32 (and32 (Int.fdiv w (2 ^ 5)) 524287 * 2 ^ 2)) (and32 (Int.fdiv w (2 ^ 29)) 3)) 21
def get3 (w : Int) : Int := IntKind.wrap IntKind.i64 ((atV (IntKind.wrap IntKind.i64 (and32 (Int.fdiv w (2 ^ 22)) 1)) (IntKind.wrap IntKind.i64 (and32 (Int.fdiv w (2 ^ 16)) 63)) (IntKind.wrap IntKind.i64 (and32 (Int.fdiv w (2 ^ 10)) 63)) : Nat) : Int)
def getF (f : NumT) (w : Int) : Int := cond (f.2.2.1 == 1) (get1 f w) (cond (f.2.2.1 == 2) (get2 w) (cond (f.2.2.1 == 3) (get3 w) 0))

theorem u64_rng (n : Int) : (decide (0 ≤ IntKind.wrap IntKind.u64 n) && decide (IntKind.wrap IntKind.u64 n < 18446744073709551616)) = true := by
  rw [wrap_u64]
  simp only [Bool.and_eq_true, decide_eq_true_eq]
  omega

def smallS : Ab.Spec := fun args => match args with
  | [.agg [.int .i8 at_, .int .i8 bi, .int .i8 ki, .int .i8 by_, .int .i32 lo, .int .i32 hi], .int .i64 n] => .leaf (.bool (smallF (at_, bi, ki, by_, lo, hi) n))
  | _ => .fail
def putS : Ab.Spec := fun args => match args with
  | [.agg [.int .i8 at_, .int .i8 bi, .int .i8 ki, .int .i8 by_, .int .i32 lo, .int .i32 hi], .int .i64 n] => .req (numOk (at_, bi, ki, by_, lo, hi)) (.leaf (.int .u32 (putF (at_, bi, ki, by_, lo, hi) n)))
  | _ => .fail
def getS : Ab.Spec := fun args => match args with
  | [.agg [.int .i8 at_, .int .i8 bi, .int .i8 ki, .int .i8 by_, .int .i32 lo, .int .i32 hi], .int .u32 w] => .req (numOk (at_, bi, ki, by_, lo, hi)) (.leaf (.int .i64 (getF (at_, bi, ki, by_, lo, hi) w)))
  | _ => .fail

theorem smallS_ok : Sound Try.prog 36 smallS := by
  intro args out h
  unfold smallS at h
  split at h
  rotate_left
  · cases h
  rename_i at_ bi ki by_ lo hi n
  have h := leaf_out h
  subst h
  refine pcall_fun' (cx := cx36) (fn := Try.f36) (cx0_ok rfl rfl) (by kernel_rfl) (by kernel_rfl) (by kernel_rfl) ?_
  rw [smallT_eq]
  unfold smallT smallF
  simp only
  cases decide (IntKind.wrap IntKind.i64 lo ≤ n) <;> rfl

theorem putS_ok : Sound Try.prog 38 putS := by
  intro args out h
  unfold putS at h
  split at h
  rotate_left
  · cases h
  rename_i at_ bi ki by_ lo hi n
  obtain ⟨h1, h⟩ := req_run h
  have h := leaf_out h
  subst h
  refine pcall_fun' (cx := cx38) (fn := Try.f38) (cx1_ok (ok1 ofS_ok) (.nil _) rfl rfl) (by kernel_rfl) (by kernel_rfl) (by kernel_rfl) ?_
  rw [putT_eq]
  unfold putT putF
  unfold numOk at h1
  simp only at h1 ⊢
  cases hk : (ki == 1)
  · rw [u64_rng]
    cases (ki == 2)
    · cases (ki == 3) <;> rfl
    · rfl
  · rw [hk] at h1
    simp only [cond_true, Bool.and_eq_true] at h1
    obtain ⟨g1, g2, g3, _⟩ := h1
    rw [g1, g2, g3]
    rfl

theorem getS_ok : Sound Try.prog 30 getS := by
  intro args out h
  unfold getS at h
  split at h
  rotate_left
  · cases h
  rename_i at_ bi ki by_ lo hi w
  obtain ⟨h1, h⟩ := req_run h
  have h := leaf_out h
  subst h
  refine pcall_fun' (cx := cx30) (fn := Try.f30) (cx1_ok (.cons signedS_ok (ok1 atS_ok)) (.nil _) rfl rfl) (by kernel_rfl) (by kernel_rfl) (by kernel_rfl) ?_
  rw [getT_eq]
  unfold getT getF
  unfold numOk at h1
  simp only at h1 ⊢
  cases hk : (ki == 1)
  · cases (ki == 2)
    · cases (ki == 3) <;> rfl
    · rfl
  · rw [hk] at h1
    simp only [cond_true, Bool.and_eq_true] at h1
    obtain ⟨g1, g2, g3, g4⟩ := h1
    rw [g2, g3, g4]
    unfold get1
    simp only
    cases decide (lo < 0) <;> rfl

end Go.Arm
