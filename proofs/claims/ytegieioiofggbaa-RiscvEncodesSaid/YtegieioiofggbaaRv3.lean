/-
  The small functions of riscv: what each form has. Conditions: none.
-/
import Derived.Test.YtegieioiofggbaaRv2
namespace Go.Rv
open Go Go.Ab Go.Proofs

/-- The context of (foundry/riscv.form).uses. -/
noncomputable def cx36 : Cx := { P := Try.prog, n := 38, tab := [], mtab := [], refs := [], keeps := [0, 2, 3, 4] }
/-- The context of (foundry/riscv.form).bounds. -/
noncomputable def cx37 : Cx := { P := Try.prog, n := 19, tab := [], mtab := [], refs := [], keeps := [0, 2, 3, 4, 5, 6, 9, 11, 13, 15, 17] }
/-- The context of foundry/riscv.register. -/
noncomputable def cx38 : Cx := { P := Try.prog, n := 18, tab := [], mtab := [], refs := [], keeps := [0, 1, 4] }
/-- The context of foundry/riscv.part. -/
noncomputable def cx46 : Cx := { P := Try.prog, n := 19, tab := [], mtab := [], refs := [], keeps := [0, 1, 2, 3, 8] }
/-- The context of foundry/riscv.signed. -/
noncomputable def cx48 : Cx := { P := Try.prog, n := 14, tab := [], mtab := [], refs := [], keeps := [0, 1, 4] }
/-- The context of (foundry/riscv.form).number$1. -/
noncomputable def cx47 : Cx := { P := Try.prog, n := 17, tab := [], mtab := [], refs := [], keeps := [0, 1, 2, 3, 7] }

def usesT (f : Int) : Tree V :=
  (.br (f != 4) (.br (f != 5) (.br (f != 6) (.br (f != 7) (.br (f == 0) (.leaf (.tup [(.bool (f != 8)), (.bool (f != 8)), (.bool true)])) (.br (f == 4) (.leaf (.tup [(.bool (f != 8)), (.bool (f != 8)), (.bool true)])) (.leaf (.tup [(.bool (f != 8)), (.bool (f != 8)), (.bool (f == 5))])))) (.br (f == 0) (.leaf (.tup [(.bool (f != 8)), (.bool false), (.bool true)])) (.br (f == 4) (.leaf (.tup [(.bool (f != 8)), (.bool false), (.bool true)])) (.leaf (.tup [(.bool (f != 8)), (.bool false), (.bool (f == 5))]))))) (.br (f == 0) (.leaf (.tup [(.bool (f != 8)), (.bool false), (.bool true)])) (.br (f == 4) (.leaf (.tup [(.bool (f != 8)), (.bool false), (.bool true)])) (.leaf (.tup [(.bool (f != 8)), (.bool false), (.bool (f == 5))]))))) (.br (f != 6) (.br (f != 7) (.br (f == 0) (.leaf (.tup [(.bool false), (.bool (f != 8)), (.bool true)])) (.br (f == 4) (.leaf (.tup [(.bool false), (.bool (f != 8)), (.bool true)])) (.leaf (.tup [(.bool false), (.bool (f != 8)), (.bool (f == 5))])))) (.br (f == 0) (.leaf (.tup [(.bool false), (.bool false), (.bool true)])) (.br (f == 4) (.leaf (.tup [(.bool false), (.bool false), (.bool true)])) (.leaf (.tup [(.bool false), (.bool false), (.bool (f == 5))]))))) (.br (f == 0) (.leaf (.tup [(.bool false), (.bool false), (.bool true)])) (.br (f == 4) (.leaf (.tup [(.bool false), (.bool false), (.bool true)])) (.leaf (.tup [(.bool false), (.bool false), (.bool (f == 5))])))))) (.br (f != 6) (.br (f != 7) (.br (f == 0) (.leaf (.tup [(.bool false), (.bool (f != 8)), (.bool true)])) (.br (f == 4) (.leaf (.tup [(.bool false), (.bool (f != 8)), (.bool true)])) (.leaf (.tup [(.bool false), (.bool (f != 8)), (.bool (f == 5))])))) (.br (f == 0) (.leaf (.tup [(.bool false), (.bool false), (.bool true)])) (.br (f == 4) (.leaf (.tup [(.bool false), (.bool false), (.bool true)])) (.leaf (.tup [(.bool false), (.bool false), (.bool (f == 5))]))))) (.br (f == 0) (.leaf (.tup [(.bool false), (.bool false), (.bool true)])) (.br (f == 4) (.leaf (.tup [(.bool false), (.bool false), (.bool true)])) (.leaf (.tup [(.bool false), (.bool false), (.bool (f == 5))]))))))

theorem usesT_eq (f : Int) : (dfun cx36 Try.f36 [.int .i64 f]).run = (usesT f).run :=
  (show (dfun cx36 Try.f36 [.int .i64 f]).run = (usesT f).out by kernel_rfl).trans (Tree.out_run _)

def boundsT (f : Int) : Tree V :=
  (.br (f == 1) (.leaf (.tup [(.int .i64 (-2048)), (.int .i64 2047), (.int .i64 1)])) (.br (f == 4) (.leaf (.tup [(.int .i64 (-2048)), (.int .i64 2047), (.int .i64 1)])) (.br (f == 2) (.leaf (.tup [(.int .i64 0), (.int .i64 63), (.int .i64 1)])) (.br (f == 3) (.leaf (.tup [(.int .i64 0), (.int .i64 31), (.int .i64 1)])) (.br (f == 5) (.leaf (.tup [(.int .i64 (-4096)), (.int .i64 4094), (.int .i64 2)])) (.br (f == 6) (.leaf (.tup [(.int .i64 (-524288)), (.int .i64 524287), (.int .i64 1)])) (.br (f == 7) (.leaf (.tup [(.int .i64 (-1048576)), (.int .i64 1048574), (.int .i64 2)])) (.leaf (.tup [(.int .i64 0), (.int .i64 0), (.int .i64 1)])))))))))

theorem boundsT_eq (f : Int) : (dfun cx37 Try.f37 [.int .i64 f]).run = (boundsT f).run :=
  (show (dfun cx37 Try.f37 [.int .i64 f]).run = (boundsT f).out by kernel_rfl).trans (Tree.out_run _)

def registerT (n : Int) (u : Bool) : Tree V :=
  (.br (n == 0) (.leaf (.bool true)) (.br u (.br (decide (0 < n)) (.leaf (.bool (decide (n < 32)))) (.leaf (.bool false))) (.leaf (.bool false))))

theorem registerT_eq (n : Int) (u : Bool) : (dfun cx38 Try.f38 [.int .i64 n, .bool u]).run = (registerT n u).run :=
  (show (dfun cx38 Try.f38 [.int .i64 n, .bool u]).run = (registerT n u).out by kernel_rfl).trans (Tree.out_run _)

def partT (n fr bi at_ : Int) : Tree V :=
  (.br (decide (0 ≤ fr)) (.br (decide (0 ≤ bi)) (.br (decide (0 ≤ at_)) (.leaf (.int .u32 (IntKind.wrap IntKind.u32 (IntKind.wrap IntKind.u32 ↑(BitVec.toNat (BitVec.ofInt 32 (IntKind.wrap IntKind.u32 (Int.fdiv n (2 ^ Min.min (Int.toNat fr) 64))) &&& BitVec.ofInt 32 (IntKind.wrap IntKind.u32 (IntKind.wrap IntKind.u32 (1 * 2 ^ Min.min (Int.toNat bi) 32) - 1)))) * 2 ^ Min.min (Int.toNat at_) 32)))) .fail) .fail) .fail)

theorem partT_eq (n fr bi at_ : Int) : (dfun cx46 Try.f46 [.int .i64 n, .int .i64 fr, .int .i64 bi, .int .i64 at_]).run = (partT n fr bi at_).run :=
  (show (dfun cx46 Try.f46 [.int .i64 n, .int .i64 fr, .int .i64 bi, .int .i64 at_]).run = (partT n fr bi at_).out by kernel_rfl).trans (Tree.out_run _)

def signedT (n bi : Int) : Tree V :=
  (.br (decide (0 ≤ IntKind.wrap IntKind.i64 (32 - bi))) (.br (decide (0 ≤ IntKind.wrap IntKind.i64 (32 - bi))) (.leaf (.int .i64 (IntKind.wrap IntKind.i64 (Int.fdiv (IntKind.wrap IntKind.i32 (IntKind.wrap IntKind.u32 (n * 2 ^ Min.min (Int.toNat (IntKind.wrap IntKind.i64 (32 - bi))) 32))) (2 ^ Min.min (Int.toNat (IntKind.wrap IntKind.i64 (32 - bi))) 32))))) .fail) .fail)

theorem signedT_eq (n bi : Int) : (dfun cx48 Try.f48 [.int .u32 n, .int .i64 bi]).run = (signedT n bi).run :=
  (show (dfun cx48 Try.f48 [.int .u32 n, .int .i64 bi]).run = (signedT n bi).out by kernel_rfl).trans (Tree.out_run _)

def atT (fr bi at_ w : Int) : Tree Res :=
  (.br (decide (0 ≤ fr)) (.br (decide (0 ≤ bi)) (.br (decide (0 ≤ at_)) (.leaf (.ok (.int .u32 (IntKind.wrap IntKind.u32 (IntKind.wrap IntKind.u32 ↑(BitVec.toNat (BitVec.ofInt 32 (Int.fdiv w (2 ^ Min.min (Int.toNat fr) 32)) &&& BitVec.ofInt 32 (IntKind.wrap IntKind.u32 (IntKind.wrap IntKind.u32 (1 * 2 ^ Min.min (Int.toNat bi) 32) - 1)))) * 2 ^ Min.min (Int.toNat at_) 32))) [(.cells [(.int .u32 w)] 45)])) .fail) .fail) .fail)

theorem atT_eq (fr bi at_ w : Int) : (mfun cx47 Try.f47 [.int .i64 fr, .int .i64 bi, .int .i64 at_, .ptr 0 0] [.cells [.int .u32 w] 45]).run = (atT fr bi at_ w).run :=
  (show (mfun cx47 Try.f47 [.int .i64 fr, .int .i64 bi, .int .i64 at_, .ptr 0 0] [.cells [.int .u32 w] 45]).run = (atT fr bi at_ w).out by kernel_rfl).trans (Tree.out_run _)


theorem cx0_ok {cx : Cx} (h1 : cx.tab = []) (h2 : cx.mtab = []) : CxOk cx := by
  refine ⟨?_, ?_⟩
  · rw [h1]; exact .nil _
  · rw [h2]; exact .nil _

/-- Which of A, B, C a form has. -/
def uA (f : Int) : Bool := f != 4 && (f != 5 && f != 8)
def uB (f : Int) : Bool := f != 6 && (f != 7 && f != 8)
def uC (f : Int) : Bool := f == 0 || (f == 4 || f == 5)

def usesS : Ab.Spec := fun args => match args with
  | [.int .i64 f] => .leaf (.tup [.bool (uA f), .bool (uB f), .bool (uC f)])
  | _ => .fail

theorem usesS_ok : Sound Try.prog 36 usesS := by
  intro args out h
  unfold usesS at h
  split at h
  rotate_left
  · cases h
  rename_i f
  simp only [Tree.run, Option.some.injEq] at h
  subst h
  refine pcall_fun' (cx := cx36) (fn := Try.f36) (cx0_ok rfl rfl) (by kernel_rfl) (by kernel_rfl) (by kernel_rfl) ?_
  rw [usesT_eq]
  unfold usesT uA uB uC
  generalize (f != 4) = a4, (f != 5) = a5, (f != 6) = a6, (f != 7) = a7, (f != 8) = a8, (f == 0) = e0, (f == 4) = e4, (f == 5) = e5
  cases a4 <;> cases a5 <;> cases a6 <;> cases a7 <;> cases e0 <;> cases e4 <;> rfl

/-- A form's Imm: least, greatest, of what a multiple. -/
def bnd (f : Int) : Int × Int × Int :=
  cond (f == 1) (-2048, 2047, 1) (cond (f == 4) (-2048, 2047, 1) (cond (f == 2) (0, 63, 1) (cond (f == 3) (0, 31, 1) (cond (f == 5) (-4096, 4094, 2)
    (cond (f == 6) (-524288, 524287, 1) (cond (f == 7) (-1048576, 1048574, 2) (0, 0, 1)))))))

def boundsS : Ab.Spec := fun args => match args with
  | [.int .i64 f] => .leaf (.tup [.int .i64 (bnd f).1, .int .i64 (bnd f).2.1, .int .i64 (bnd f).2.2])
  | _ => .fail

theorem boundsS_ok : Sound Try.prog 37 boundsS := by
  intro args out h
  unfold boundsS at h
  split at h
  rotate_left
  · cases h
  rename_i f
  simp only [Tree.run, Option.some.injEq] at h
  subst h
  refine pcall_fun' (cx := cx37) (fn := Try.f37) (cx0_ok rfl rfl) (by kernel_rfl) (by kernel_rfl) (by kernel_rfl) ?_
  rw [boundsT_eq]
  unfold boundsT bnd
  cases (f == 1)
  rotate_left
  · kernel_rfl
  cases (f == 4)
  rotate_left
  · kernel_rfl
  cases (f == 2)
  rotate_left
  · kernel_rfl
  cases (f == 3)
  rotate_left
  · kernel_rfl
  cases (f == 5)
  rotate_left
  · kernel_rfl
  cases (f == 6)
  rotate_left
  · kernel_rfl
  cases (f == 7) <;> kernel_rfl

/-- Is it a register, or 0 where none is used? -/
def regOk (n : Int) (u : Bool) : Bool := n == 0 || (u && (decide (0 < n) && decide (n < 32)))

def registerS : Ab.Spec := fun args => match args with
  | [.int .i64 n, .bool u] => .leaf (.bool (regOk n u))
  | _ => .fail

theorem registerS_ok : Sound Try.prog 38 registerS := by
  intro args out h
  unfold registerS at h
  split at h
  rotate_left
  · cases h
  rename_i n u
  simp only [Tree.run, Option.some.injEq] at h
  subst h
  refine pcall_fun' (cx := cx38) (fn := Try.f38) (cx0_ok rfl rfl) (by kernel_rfl) (by kernel_rfl) (by kernel_rfl) ?_
  rw [registerT_eq]
  unfold registerT regOk
  cases (n == 0) <;> cases u <;> cases (decide (0 < n)) <;> rfl

/-- Some bits of a number, put at a place. -/
def partF (n fr bi at_ : Int) : Int := IntKind.wrap IntKind.u32 (IntKind.wrap IntKind.u32 ↑(BitVec.toNat (BitVec.ofInt 32 (IntKind.wrap IntKind.u32 (Int.fdiv n (2 ^ Min.min (Int.toNat fr) 64))) &&& BitVec.ofInt 32 (IntKind.wrap IntKind.u32 (IntKind.wrap IntKind.u32 (1 * 2 ^ Min.min (Int.toNat bi) 32) - 1)))) * 2 ^ Min.min (Int.toNat at_) 32)

def partS : Ab.Spec := fun args => match args with
  | [.int .i64 n, .int .i64 fr, .int .i64 bi, .int .i64 at_] => .req (decide (0 ≤ fr)) (.req (decide (0 ≤ bi)) (.req (decide (0 ≤ at_)) (.leaf (.int .u32 (partF n fr bi at_)))))
  | _ => .fail

theorem partS_ok : Sound Try.prog 46 partS := by
  intro args out h
  unfold partS at h
  split at h
  rotate_left
  · cases h
  rename_i n fr bi at_
  refine pcall_fun' (cx := cx46) (fn := Try.f46) (cx0_ok rfl rfl) (by kernel_rfl) (by kernel_rfl) (by kernel_rfl) ?_
  rw [partT_eq]
  exact h

/-- The lowest bits of a number, the highest of them a sign. -/
def signedF (n bi : Int) : Int := IntKind.wrap IntKind.i64 (Int.fdiv (IntKind.wrap IntKind.i32 (IntKind.wrap IntKind.u32 (n * 2 ^ Min.min (Int.toNat (IntKind.wrap IntKind.i64 (32 - bi))) 32))) (2 ^ Min.min (Int.toNat (IntKind.wrap IntKind.i64 (32 - bi))) 32))

def signedS : Ab.Spec := fun args => match args with
  | [.int .u32 n, .int .i64 bi] => .req (decide (0 ≤ IntKind.wrap IntKind.i64 (32 - bi))) (.req (decide (0 ≤ IntKind.wrap IntKind.i64 (32 - bi))) (.leaf (.int .i64 (signedF n bi))))
  | _ => .fail

theorem signedS_ok : Sound Try.prog 48 signedS := by
  intro args out h
  unfold signedS at h
  split at h
  rotate_left
  · cases h
  rename_i n bi
  refine pcall_fun' (cx := cx48) (fn := Try.f48) (cx0_ok rfl rfl) (by kernel_rfl) (by kernel_rfl) (by kernel_rfl) ?_
  rw [signedT_eq]
  exact h

/-- Some bits of a word, put at a place. -/
def atF (fr bi at_ w : Int) : Int := IntKind.wrap IntKind.u32 (IntKind.wrap IntKind.u32 ↑(BitVec.toNat (BitVec.ofInt 32 (Int.fdiv w (2 ^ Min.min (Int.toNat fr) 32)) &&& BitVec.ofInt 32 (IntKind.wrap IntKind.u32 (IntKind.wrap IntKind.u32 (1 * 2 ^ Min.min (Int.toNat bi) 32) - 1)))) * 2 ^ Min.min (Int.toNat at_) 32)

def atS : MSpec := fun args H => match args, H with
  | [.int .i64 fr, .int .i64 bi, .int .i64 at_, .ptr 0 0], [.cells [.int .u32 w] 45] => .req (decide (0 ≤ fr)) (.req (decide (0 ≤ bi)) (.req (decide (0 ≤ at_)) (.leaf (.ok (.int .u32 (atF fr bi at_ w)) [.cells [.int .u32 w] 45]))))
  | _, _ => .fail

theorem atS_ok : MSound Try.prog 47 atS := by
  intro args H out h
  unfold atS at h
  split at h
  rotate_left
  · cases h
  rename_i fr bi at_ w
  refine mcall_fun' (cx := cx47) (fn := Try.f47) (cx0_ok rfl rfl) (by kernel_rfl) (by kernel_rfl) (by kernel_rfl) ?_
  rw [atT_eq]
  exact h

end Go.Rv
