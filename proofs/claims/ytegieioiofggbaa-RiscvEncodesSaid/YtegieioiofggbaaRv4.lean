/-
  Words and numbers of riscv. Conditions: none.
-/
import Derived.Test.YtegieioiofggbaaRv3
namespace Go.Rv
open Go Go.Ab Go.Proofs

/-- The context of (foundry/riscv.form).imm. -/
noncomputable def cx39 : Cx := { P := Try.prog, n := 52, tab := [(46, partS)], mtab := [], refs := [], keeps := [0, 1, 4, 5, 6, 10, 15, 22, 35, 39] }
/-- The context of (foundry/riscv.form).number. -/
noncomputable def cx43 : Cx := { P := Try.prog, n := 64, tab := [(48, signedS)], mtab := [(47, atS)], refs := [], keeps := [0, 1, 3, 4, 5, 7, 8, 13, 18, 23, 31, 45, 50] }
def immT (f n : Int) : Tree V :=
  (.br (f == 1) (.leaf (.int .u32 (partF n 0 12 20))) (.br (f == 2) (.leaf (.int .u32 (partF n 0 6 20))) (.br (f == 3) (.leaf (.int .u32 (partF n 0 6 20))) (.br (f == 4) (.leaf (.int .u32 (IntKind.wrap IntKind.u32 ↑(BitVec.toNat (BitVec.ofInt 32 (partF n 0 5 7) ||| BitVec.ofInt 32 (partF n 5 7 25)))))) (.br (f == 5) (.leaf (.int .u32 (IntKind.wrap IntKind.u32 ↑(BitVec.toNat (BitVec.ofInt 32 (IntKind.wrap IntKind.u32 ↑(BitVec.toNat (BitVec.ofInt 32 (IntKind.wrap IntKind.u32 ↑(BitVec.toNat (BitVec.ofInt 32 (partF n 1 4 8) ||| BitVec.ofInt 32 (partF n 5 6 25)))) ||| BitVec.ofInt 32 (partF n 11 1 7)))) ||| BitVec.ofInt 32 (partF n 12 1 31)))))) (.br (f == 6) (.leaf (.int .u32 (partF n 0 20 12))) (.br (f == 7) (.leaf (.int .u32 (IntKind.wrap IntKind.u32 ↑(BitVec.toNat (BitVec.ofInt 32 (IntKind.wrap IntKind.u32 ↑(BitVec.toNat (BitVec.ofInt 32 (IntKind.wrap IntKind.u32 ↑(BitVec.toNat (BitVec.ofInt 32 (partF n 1 10 21) ||| BitVec.ofInt 32 (partF n 11 1 20)))) ||| BitVec.ofInt 32 (partF n 12 8 12)))) ||| BitVec.ofInt 32 (partF n 20 1 31)))))) (.leaf (.int .u32 0)))))))))

theorem immT_eq (f n : Int) : (dfun cx39 Try.f39 [.int .i64 f, .int .i64 n]).run = (immT f n).run :=
  (show (dfun cx39 Try.f39 [.int .i64 f, .int .i64 n]).run = (immT f n).out by kernel_rfl).trans (Tree.out_run _)

def numberT (f w : Int) : Tree V :=
  (.br (f == 1) (.leaf (.int .i64 (signedF (Int.fdiv w (2 ^ 20)) 12))) (.br (f == 2) (.leaf (.int .i64 (IntKind.wrap IntKind.i64 (atF 20 6 0 w)))) (.br (f == 3) (.leaf (.int .i64 (IntKind.wrap IntKind.i64 (atF 20 5 0 w)))) (.br (f == 4) (.leaf (.int .i64 (signedF (IntKind.wrap IntKind.u32 ↑(BitVec.toNat (BitVec.ofInt 32 (atF 7 5 0 w) ||| BitVec.ofInt 32 (atF 25 7 5 w)))) 12))) (.br (f == 5) (.leaf (.int .i64 (signedF (IntKind.wrap IntKind.u32 ↑(BitVec.toNat (BitVec.ofInt 32 (IntKind.wrap IntKind.u32 ↑(BitVec.toNat (BitVec.ofInt 32 (IntKind.wrap IntKind.u32 ↑(BitVec.toNat (BitVec.ofInt 32 (atF 8 4 1 w) ||| BitVec.ofInt 32 (atF 25 6 5 w)))) ||| BitVec.ofInt 32 (atF 7 1 11 w)))) ||| BitVec.ofInt 32 (atF 31 1 12 w)))) 13))) (.br (f == 6) (.leaf (.int .i64 (signedF (Int.fdiv w (2 ^ 12)) 20))) (.br (f == 7) (.leaf (.int .i64 (signedF (IntKind.wrap IntKind.u32 ↑(BitVec.toNat (BitVec.ofInt 32 (IntKind.wrap IntKind.u32 ↑(BitVec.toNat (BitVec.ofInt 32 (IntKind.wrap IntKind.u32 ↑(BitVec.toNat (BitVec.ofInt 32 (atF 21 10 1 w) ||| BitVec.ofInt 32 (atF 20 1 11 w)))) ||| BitVec.ofInt 32 (atF 12 8 12 w)))) ||| BitVec.ofInt 32 (atF 31 1 20 w)))) 21))) (.leaf (.int .i64 0)))))))))

theorem numberT_eq (f w : Int) : (dfun cx43 Try.f43 [.int .i64 f, .int .u32 w]).run = (numberT f w).run :=
  (show (dfun cx43 Try.f43 [.int .i64 f, .int .u32 w]).run = (numberT f w).out by kernel_rfl).trans (Tree.out_run _)


/-- A form's Imm as it lies in the word. -/
def immF (f n : Int) : Int :=
  cond (f == 1) (partF n 0 12 20) (cond (f == 2) (partF n 0 6 20) (cond (f == 3) (partF n 0 6 20) (cond (f == 4) (or32 (partF n 0 5 7) (partF n 5 7 25))
    (cond (f == 5) (or32 (or32 (or32 (partF n 1 4 8) (partF n 5 6 25)) (partF n 11 1 7)) (partF n 12 1 31)) (cond (f == 6) (partF n 0 20 12)
      (cond (f == 7) (or32 (or32 (or32 (partF n 1 10 21) (partF n 11 1 20)) (partF n 12 8 12)) (partF n 20 1 31)) 0))))))

/-- A form's Imm out of a word. -/
def numberF (f w : Int) : Int :=
  cond (f == 1) (signedF (Int.fdiv w (2 ^ 20)) 12) (cond (f == 2) (IntKind.wrap .i64 (atF 20 6 0 w)) (cond (f == 3) (IntKind.wrap .i64 (atF 20 5 0 w))
    (cond (f == 4) (signedF (or32 (atF 7 5 0 w) (atF 25 7 5 w)) 12) (cond (f == 5) (signedF (or32 (or32 (or32 (atF 8 4 1 w) (atF 25 6 5 w)) (atF 7 1 11 w)) (atF 31 1 12 w)) 13)
      (cond (f == 6) (signedF (Int.fdiv w (2 ^ 12)) 20) (cond (f == 7) (signedF (or32 (or32 (or32 (atF 21 10 1 w) (atF 20 1 11 w)) (atF 12 8 12 w)) (atF 31 1 20 w)) 21) 0))))))

def immS : Ab.Spec := fun args => match args with
  | [.int .i64 f, .int .i64 n] => .leaf (.int .u32 (immF f n))
  | _ => .fail

theorem cx1_ok {cx : Cx} {t : List (Nat × Ab.Spec)} {m : List (Nat × MSpec)} (ht : TabOk cx.P t) (hm : MTabOk cx.P m) (h1 : cx.tab = t) (h2 : cx.mtab = m) : CxOk cx := by
  refine ⟨?_, ?_⟩
  · rw [h1]; exact ht
  · rw [h2]; exact hm

theorem immS_ok : Sound Try.prog 39 immS := by
  intro args out h
  unfold immS at h
  split at h
  rotate_left
  · cases h
  rename_i f n
  simp only [Tree.run, Option.some.injEq] at h
  subst h
  refine pcall_fun' (cx := cx39) (fn := Try.f39) (cx1_ok (.cons partS_ok (.nil _)) (.nil _) rfl rfl) (by kernel_rfl) (by kernel_rfl) (by kernel_rfl) ?_
  rw [immT_eq]
  unfold immT immF
  exact fold7 _ _ _ _ _ _ _ _ _ _ _ _ _ _ _ _

def numberS : Ab.Spec := fun args => match args with
  | [.int .i64 f, .int .u32 w] => .leaf (.int .i64 (numberF f w))
  | _ => .fail

theorem numberS_ok : Sound Try.prog 43 numberS := by
  intro args out h
  unfold numberS at h
  split at h
  rotate_left
  · cases h
  rename_i f w
  simp only [Tree.run, Option.some.injEq] at h
  subst h
  refine pcall_fun' (cx := cx43) (fn := Try.f43) (cx1_ok (.cons signedS_ok (.nil _)) (.cons atS_ok (.nil _)) rfl rfl) (by kernel_rfl) (by kernel_rfl) (by kernel_rfl) ?_
  rw [numberT_eq]
  unfold numberT numberF
  exact fold7 _ _ _ _ _ _ _ _ _ _ _ _ _ _ _ _

end Go.Rv
