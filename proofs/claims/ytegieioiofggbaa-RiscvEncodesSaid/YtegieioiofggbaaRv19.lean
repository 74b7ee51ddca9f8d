/-
  Operands, numbers, checks and words of the document's answer. Conditions: none.
-/
import Derived.Test.YtegieioiofggbaaRv18
namespace Go.Rv
open Go Go.Ab Go.Proofs

/-- The context of foundry/foundryref8.Operands. -/
noncomputable def cx20 : Cx := { P := Try.prog, n := 29, tab := [(35, findXS)], mtab := [], refs := [], keeps := [0, 2, 3, 4, 5, 12, 14, 15, 17, 21, 23, 25, 27] }
/-- The context of foundry/foundryref8.imm. -/
noncomputable def cx31 : Cx := { P := Try.prog, n := 71, tab := [(33, bitsS), (45, signedXS)], mtab := [], refs := [], keeps := [0, 1, 4, 5, 6, 11, 16, 21, 30, 48, 53] }
def opsXT (nm : List UInt8) : Tree V :=
  (.br (!fokX nm) (.leaf (.tup [(.str []), (.bool false)])) (.br (Prod.fst (frowX nm) == 82) (.leaf (.tup [(.str [65, 66, 67]), (.bool true)])) (.br (Prod.fst (frowX nm) == 73) (.leaf (.tup [(.str [65, 66, 105]), (.bool true)])) (.br (Prod.fst (frowX nm) == 104) (.leaf (.tup [(.str [65, 66, 105]), (.bool true)])) (.br (Prod.fst (frowX nm) == 119) (.leaf (.tup [(.str [65, 66, 105]), (.bool true)])) (.br (Prod.fst (frowX nm) == 83) (.leaf (.tup [(.str [67, 66, 105]), (.bool true)])) (.br (Prod.fst (frowX nm) == 66) (.leaf (.tup [(.str [66, 67, 106]), (.bool true)])) (.br (Prod.fst (frowX nm) == 85) (.leaf (.tup [(.str [65, 105]), (.bool true)])) (.br (Prod.fst (frowX nm) == 74) (.leaf (.tup [(.str [65, 106]), (.bool true)])) (.leaf (.tup [(.str []), (.bool true)])))))))))))

theorem opsXT_eq (nm : List UInt8) : (dfun cx20 Try.f20 [.str nm]).run = (opsXT nm).run :=
  (show (dfun cx20 Try.f20 [.str nm]).run = (opsXT nm).out by kernel_rfl).trans (Tree.out_run _)

def immXT (f w : Int) : Tree V :=
  (.br (f == 73) (.leaf (.int .i64 (signX (bitX w 20 12) 12))) (.br (f == 104) (.leaf (.int .i64 (IntKind.wrap IntKind.i64 (bitX w 20 6)))) (.br (f == 119) (.leaf (.int .i64 (IntKind.wrap IntKind.i64 (bitX w 20 5)))) (.br (f == 83) (.leaf (.int .i64 (signX (IntKind.wrap IntKind.u32 ↑(BitVec.toNat (BitVec.ofInt 32 (IntKind.wrap IntKind.u32 (bitX w 25 7 * 2 ^ 5)) ||| BitVec.ofInt 32 (bitX w 7 5)))) 12))) (.br (f == 66) (.leaf (.int .i64 (signX (IntKind.wrap IntKind.u32 ↑(BitVec.toNat (BitVec.ofInt 32 (IntKind.wrap IntKind.u32 ↑(BitVec.toNat (BitVec.ofInt 32 (IntKind.wrap IntKind.u32 ↑(BitVec.toNat (BitVec.ofInt 32 (IntKind.wrap IntKind.u32 (bitX w 31 1 * 2 ^ 12)) ||| BitVec.ofInt 32 (IntKind.wrap IntKind.u32 (bitX w 7 1 * 2 ^ 11))))) ||| BitVec.ofInt 32 (IntKind.wrap IntKind.u32 (bitX w 25 6 * 2 ^ 5))))) ||| BitVec.ofInt 32 (IntKind.wrap IntKind.u32 (bitX w 8 4 * 2 ^ 1))))) 13))) (.br (f == 85) (.leaf (.int .i64 (signX (bitX w 12 20) 20))) (.br (f == 74) (.leaf (.int .i64 (signX (IntKind.wrap IntKind.u32 ↑(BitVec.toNat (BitVec.ofInt 32 (IntKind.wrap IntKind.u32 ↑(BitVec.toNat (BitVec.ofInt 32 (IntKind.wrap IntKind.u32 ↑(BitVec.toNat (BitVec.ofInt 32 (IntKind.wrap IntKind.u32 (bitX w 31 1 * 2 ^ 20)) ||| BitVec.ofInt 32 (IntKind.wrap IntKind.u32 (bitX w 12 8 * 2 ^ 12))))) ||| BitVec.ofInt 32 (IntKind.wrap IntKind.u32 (bitX w 20 1 * 2 ^ 11))))) ||| BitVec.ofInt 32 (IntKind.wrap IntKind.u32 (bitX w 21 10 * 2 ^ 1))))) 21))) (.leaf (.int .i64 0)))))))))

theorem immXT_eq (f w : Int) : (dfun cx31 Try.f31 [.int .u8 f, .int .u32 w]).run = (immXT f w).run :=
  (show (dfun cx31 Try.f31 [.int .u8 f, .int .u32 w]).run = (immXT f w).out by kernel_rfl).trans (Tree.out_run _)

/-- The context of foundry/foundryref8.word. -/
noncomputable def cx27 : Cx := { P := Try.prog, n := 122, tab := [(35, findXS), (33, bitsS)], mtab := [], refs := [], keeps := [0, 1, 2, 3, 5, 6, 39, 40, 47, 54, 65, 76, 95, 101] }
def wordXT (nm : List UInt8) (a b c _d n : Int) : Tree V :=
  (.br (Prod.fst (frowX nm) == 82) (.leaf (.int .u32 (IntKind.wrap IntKind.u32 ↑(BitVec.toNat (BitVec.ofInt 32 (IntKind.wrap IntKind.u32 ↑(BitVec.toNat (BitVec.ofInt 32 (IntKind.wrap IntKind.u32 ↑(BitVec.toNat (BitVec.ofInt 32 (IntKind.wrap IntKind.u32 ↑(BitVec.toNat (BitVec.ofInt 32 (IntKind.wrap IntKind.u32 ↑(BitVec.toNat (BitVec.ofInt 32 (Prod.fst (Prod.snd (Prod.snd (frowX nm)))) ||| BitVec.ofInt 32 (IntKind.wrap IntKind.u32 (Prod.fst (Prod.snd (Prod.snd (Prod.snd (frowX nm)))) * 2 ^ 12))))) ||| BitVec.ofInt 32 (IntKind.wrap IntKind.u32 (IntKind.wrap IntKind.u32 a * 2 ^ 7))))) ||| BitVec.ofInt 32 (IntKind.wrap IntKind.u32 (IntKind.wrap IntKind.u32 b * 2 ^ 15))))) ||| BitVec.ofInt 32 (IntKind.wrap IntKind.u32 (IntKind.wrap IntKind.u32 c * 2 ^ 20))))) ||| BitVec.ofInt 32 (IntKind.wrap IntKind.u32 (Prod.snd (Prod.snd (Prod.snd (Prod.snd (frowX nm)))) * 2 ^ 25))))))) (.br (Prod.fst (frowX nm) == 73) (.leaf (.int .u32 (IntKind.wrap IntKind.u32 ↑(BitVec.toNat (BitVec.ofInt 32 (IntKind.wrap IntKind.u32 ↑(BitVec.toNat (BitVec.ofInt 32 (IntKind.wrap IntKind.u32 ↑(BitVec.toNat (BitVec.ofInt 32 (IntKind.wrap IntKind.u32 ↑(BitVec.toNat (BitVec.ofInt 32 (IntKind.wrap IntKind.u32 ↑(BitVec.toNat (BitVec.ofInt 32 (Prod.fst (Prod.snd (Prod.snd (frowX nm)))) ||| BitVec.ofInt 32 (IntKind.wrap IntKind.u32 (Prod.fst (Prod.snd (Prod.snd (Prod.snd (frowX nm)))) * 2 ^ 12))))) ||| BitVec.ofInt 32 (IntKind.wrap IntKind.u32 (IntKind.wrap IntKind.u32 a * 2 ^ 7))))) ||| BitVec.ofInt 32 (IntKind.wrap IntKind.u32 (IntKind.wrap IntKind.u32 b * 2 ^ 15))))) ||| BitVec.ofInt 32 (IntKind.wrap IntKind.u32 (IntKind.wrap IntKind.u32 c * 2 ^ 20))))) ||| BitVec.ofInt 32 (IntKind.wrap IntKind.u32 (bitX (IntKind.wrap IntKind.u32 (IntKind.wrap IntKind.u64 n)) 0 12 * 2 ^ 20))))))) (.br (Prod.fst (frowX nm) == 104) (.leaf (.int .u32 (IntKind.wrap IntKind.u32 ↑(BitVec.toNat (BitVec.ofInt 32 (IntKind.wrap IntKind.u32 ↑(BitVec.toNat (BitVec.ofInt 32 (IntKind.wrap IntKind.u32 ↑(BitVec.toNat (BitVec.ofInt 32 (IntKind.wrap IntKind.u32 ↑(BitVec.toNat (BitVec.ofInt 32 (IntKind.wrap IntKind.u32 ↑(BitVec.toNat (BitVec.ofInt 32 (IntKind.wrap IntKind.u32 ↑(BitVec.toNat (BitVec.ofInt 32 (Prod.fst (Prod.snd (Prod.snd (frowX nm)))) ||| BitVec.ofInt 32 (IntKind.wrap IntKind.u32 (Prod.fst (Prod.snd (Prod.snd (Prod.snd (frowX nm)))) * 2 ^ 12))))) ||| BitVec.ofInt 32 (IntKind.wrap IntKind.u32 (IntKind.wrap IntKind.u32 a * 2 ^ 7))))) ||| BitVec.ofInt 32 (IntKind.wrap IntKind.u32 (IntKind.wrap IntKind.u32 b * 2 ^ 15))))) ||| BitVec.ofInt 32 (IntKind.wrap IntKind.u32 (IntKind.wrap IntKind.u32 c * 2 ^ 20))))) ||| BitVec.ofInt 32 (IntKind.wrap IntKind.u32 (Prod.snd (Prod.snd (Prod.snd (Prod.snd (frowX nm)))) * 2 ^ 25))))) ||| BitVec.ofInt 32 (IntKind.wrap IntKind.u32 (IntKind.wrap IntKind.u32 (IntKind.wrap IntKind.u64 n) * 2 ^ 20))))))) (.br (Prod.fst (frowX nm) == 119) (.leaf (.int .u32 (IntKind.wrap IntKind.u32 ↑(BitVec.toNat (BitVec.ofInt 32 (IntKind.wrap IntKind.u32 ↑(BitVec.toNat (BitVec.ofInt 32 (IntKind.wrap IntKind.u32 ↑(BitVec.toNat (BitVec.ofInt 32 (IntKind.wrap IntKind.u32 ↑(BitVec.toNat (BitVec.ofInt 32 (IntKind.wrap IntKind.u32 ↑(BitVec.toNat (BitVec.ofInt 32 (IntKind.wrap IntKind.u32 ↑(BitVec.toNat (BitVec.ofInt 32 (Prod.fst (Prod.snd (Prod.snd (frowX nm)))) ||| BitVec.ofInt 32 (IntKind.wrap IntKind.u32 (Prod.fst (Prod.snd (Prod.snd (Prod.snd (frowX nm)))) * 2 ^ 12))))) ||| BitVec.ofInt 32 (IntKind.wrap IntKind.u32 (IntKind.wrap IntKind.u32 a * 2 ^ 7))))) ||| BitVec.ofInt 32 (IntKind.wrap IntKind.u32 (IntKind.wrap IntKind.u32 b * 2 ^ 15))))) ||| BitVec.ofInt 32 (IntKind.wrap IntKind.u32 (IntKind.wrap IntKind.u32 c * 2 ^ 20))))) ||| BitVec.ofInt 32 (IntKind.wrap IntKind.u32 (Prod.snd (Prod.snd (Prod.snd (Prod.snd (frowX nm)))) * 2 ^ 25))))) ||| BitVec.ofInt 32 (IntKind.wrap IntKind.u32 (IntKind.wrap IntKind.u32 (IntKind.wrap IntKind.u64 n) * 2 ^ 20))))))) (.br (Prod.fst (frowX nm) == 83) (.leaf (.int .u32 (IntKind.wrap IntKind.u32 ↑(BitVec.toNat (BitVec.ofInt 32 (IntKind.wrap IntKind.u32 ↑(BitVec.toNat (BitVec.ofInt 32 (IntKind.wrap IntKind.u32 ↑(BitVec.toNat (BitVec.ofInt 32 (IntKind.wrap IntKind.u32 ↑(BitVec.toNat (BitVec.ofInt 32 (IntKind.wrap IntKind.u32 ↑(BitVec.toNat (BitVec.ofInt 32 (IntKind.wrap IntKind.u32 ↑(BitVec.toNat (BitVec.ofInt 32 (Prod.fst (Prod.snd (Prod.snd (frowX nm)))) ||| BitVec.ofInt 32 (IntKind.wrap IntKind.u32 (Prod.fst (Prod.snd (Prod.snd (Prod.snd (frowX nm)))) * 2 ^ 12))))) ||| BitVec.ofInt 32 (IntKind.wrap IntKind.u32 (IntKind.wrap IntKind.u32 a * 2 ^ 7))))) ||| BitVec.ofInt 32 (IntKind.wrap IntKind.u32 (IntKind.wrap IntKind.u32 b * 2 ^ 15))))) ||| BitVec.ofInt 32 (IntKind.wrap IntKind.u32 (IntKind.wrap IntKind.u32 c * 2 ^ 20))))) ||| BitVec.ofInt 32 (IntKind.wrap IntKind.u32 (bitX (IntKind.wrap IntKind.u32 (IntKind.wrap IntKind.u64 n)) 0 5 * 2 ^ 7))))) ||| BitVec.ofInt 32 (IntKind.wrap IntKind.u32 (bitX (IntKind.wrap IntKind.u32 (IntKind.wrap IntKind.u64 n)) 5 7 * 2 ^ 25))))))) (.br (Prod.fst (frowX nm) == 66) (.leaf (.int .u32 (IntKind.wrap IntKind.u32 ↑(BitVec.toNat (BitVec.ofInt 32 (IntKind.wrap IntKind.u32 ↑(BitVec.toNat (BitVec.ofInt 32 (IntKind.wrap IntKind.u32 ↑(BitVec.toNat (BitVec.ofInt 32 (IntKind.wrap IntKind.u32 ↑(BitVec.toNat (BitVec.ofInt 32 (IntKind.wrap IntKind.u32 ↑(BitVec.toNat (BitVec.ofInt 32 (IntKind.wrap IntKind.u32 ↑(BitVec.toNat (BitVec.ofInt 32 (IntKind.wrap IntKind.u32 ↑(BitVec.toNat (BitVec.ofInt 32 (IntKind.wrap IntKind.u32 ↑(BitVec.toNat (BitVec.ofInt 32 (Prod.fst (Prod.snd (Prod.snd (frowX nm)))) ||| BitVec.ofInt 32 (IntKind.wrap IntKind.u32 (Prod.fst (Prod.snd (Prod.snd (Prod.snd (frowX nm)))) * 2 ^ 12))))) ||| BitVec.ofInt 32 (IntKind.wrap IntKind.u32 (IntKind.wrap IntKind.u32 a * 2 ^ 7))))) ||| BitVec.ofInt 32 (IntKind.wrap IntKind.u32 (IntKind.wrap IntKind.u32 b * 2 ^ 15))))) ||| BitVec.ofInt 32 (IntKind.wrap IntKind.u32 (IntKind.wrap IntKind.u32 c * 2 ^ 20))))) ||| BitVec.ofInt 32 (IntKind.wrap IntKind.u32 (bitX (IntKind.wrap IntKind.u32 (IntKind.wrap IntKind.u64 n)) 11 1 * 2 ^ 7))))) ||| BitVec.ofInt 32 (IntKind.wrap IntKind.u32 (bitX (IntKind.wrap IntKind.u32 (IntKind.wrap IntKind.u64 n)) 1 4 * 2 ^ 8))))) ||| BitVec.ofInt 32 (IntKind.wrap IntKind.u32 (bitX (IntKind.wrap IntKind.u32 (IntKind.wrap IntKind.u64 n)) 5 6 * 2 ^ 25))))) ||| BitVec.ofInt 32 (IntKind.wrap IntKind.u32 (bitX (IntKind.wrap IntKind.u32 (IntKind.wrap IntKind.u64 n)) 12 1 * 2 ^ 31))))))) (.br (Prod.fst (frowX nm) == 85) (.leaf (.int .u32 (IntKind.wrap IntKind.u32 ↑(BitVec.toNat (BitVec.ofInt 32 (IntKind.wrap IntKind.u32 ↑(BitVec.toNat (BitVec.ofInt 32 (IntKind.wrap IntKind.u32 ↑(BitVec.toNat (BitVec.ofInt 32 (IntKind.wrap IntKind.u32 ↑(BitVec.toNat (BitVec.ofInt 32 (IntKind.wrap IntKind.u32 ↑(BitVec.toNat (BitVec.ofInt 32 (Prod.fst (Prod.snd (Prod.snd (frowX nm)))) ||| BitVec.ofInt 32 (IntKind.wrap IntKind.u32 (Prod.fst (Prod.snd (Prod.snd (Prod.snd (frowX nm)))) * 2 ^ 12))))) ||| BitVec.ofInt 32 (IntKind.wrap IntKind.u32 (IntKind.wrap IntKind.u32 a * 2 ^ 7))))) ||| BitVec.ofInt 32 (IntKind.wrap IntKind.u32 (IntKind.wrap IntKind.u32 b * 2 ^ 15))))) ||| BitVec.ofInt 32 (IntKind.wrap IntKind.u32 (IntKind.wrap IntKind.u32 c * 2 ^ 20))))) ||| BitVec.ofInt 32 (IntKind.wrap IntKind.u32 (IntKind.wrap IntKind.u32 (IntKind.wrap IntKind.u64 n) * 2 ^ 12))))))) (.br (Prod.fst (frowX nm) == 74) (.leaf (.int .u32 (IntKind.wrap IntKind.u32 ↑(BitVec.toNat (BitVec.ofInt 32 (IntKind.wrap IntKind.u32 ↑(BitVec.toNat (BitVec.ofInt 32 (IntKind.wrap IntKind.u32 ↑(BitVec.toNat (BitVec.ofInt 32 (IntKind.wrap IntKind.u32 ↑(BitVec.toNat (BitVec.ofInt 32 (IntKind.wrap IntKind.u32 ↑(BitVec.toNat (BitVec.ofInt 32 (IntKind.wrap IntKind.u32 ↑(BitVec.toNat (BitVec.ofInt 32 (IntKind.wrap IntKind.u32 ↑(BitVec.toNat (BitVec.ofInt 32 (IntKind.wrap IntKind.u32 ↑(BitVec.toNat (BitVec.ofInt 32 (Prod.fst (Prod.snd (Prod.snd (frowX nm)))) ||| BitVec.ofInt 32 (IntKind.wrap IntKind.u32 (Prod.fst (Prod.snd (Prod.snd (Prod.snd (frowX nm)))) * 2 ^ 12))))) ||| BitVec.ofInt 32 (IntKind.wrap IntKind.u32 (IntKind.wrap IntKind.u32 a * 2 ^ 7))))) ||| BitVec.ofInt 32 (IntKind.wrap IntKind.u32 (IntKind.wrap IntKind.u32 b * 2 ^ 15))))) ||| BitVec.ofInt 32 (IntKind.wrap IntKind.u32 (IntKind.wrap IntKind.u32 c * 2 ^ 20))))) ||| BitVec.ofInt 32 (IntKind.wrap IntKind.u32 (bitX (IntKind.wrap IntKind.u32 (IntKind.wrap IntKind.u64 n)) 12 8 * 2 ^ 12))))) ||| BitVec.ofInt 32 (IntKind.wrap IntKind.u32 (bitX (IntKind.wrap IntKind.u32 (IntKind.wrap IntKind.u64 n)) 11 1 * 2 ^ 20))))) ||| BitVec.ofInt 32 (IntKind.wrap IntKind.u32 (bitX (IntKind.wrap IntKind.u32 (IntKind.wrap IntKind.u64 n)) 1 10 * 2 ^ 21))))) ||| BitVec.ofInt 32 (IntKind.wrap IntKind.u32 (bitX (IntKind.wrap IntKind.u32 (IntKind.wrap IntKind.u64 n)) 20 1 * 2 ^ 31))))))) (.leaf (.int .u32 (Prod.fst (Prod.snd (Prod.snd (frowX nm))))))))))))))

theorem wordXT_eq (nm : List UInt8) (a b c d n : Int) : (dfun cx27 Try.f27 [.agg [.str nm, .int .i64 a, .int .i64 b, .int .i64 c, .int .i64 d, .int .i64 n]]).run = (wordXT nm a b c d n).run :=
  (show (dfun cx27 Try.f27 [.agg [.str nm, .int .i64 a, .int .i64 b, .int .i64 c, .int .i64 d, .int .i64 n]]).run = (wordXT nm a b c d n).out by kernel_rfl).trans (Tree.out_run _)


/-! Operands. -/

def opsG (f : Int) : List UInt8 :=
  cond (f == 82) [65, 66, 67] (cond (f == 73) [65, 66, 105] (cond (f == 104) [65, 66, 105] (cond (f == 119) [65, 66, 105] (cond (f == 83) [67, 66, 105] (cond (f == 66) [66, 67, 106]
    (cond (f == 85) [65, 105] (cond (f == 74) [65, 106] [])))))))
def opsX (nm : List UInt8) : List UInt8 := cond (fokX nm) (opsG (frowX nm).1) []

theorem opsG_short (f : Int) : (opsG f).length ≤ 3 := by
  unfold opsG
  cases (f == 82) <;> cases (f == 73) <;> cases (f == 104) <;> cases (f == 119) <;> cases (f == 83) <;> cases (f == 66) <;> cases (f == 85) <;> cases (f == 74) <;> decide
theorem opsX_short (nm : List UInt8) : (opsX nm).length ≤ 3 := by
  unfold opsX
  cases fokX nm
  · exact Nat.zero_le _
  · exact opsG_short _

def opsXS : Ab.Spec := fun args => match args with
  | [.str nm] => .leaf (.tup [.str (opsX nm), .bool (fokX nm)])
  | _ => .fail

theorem opsXS_ok : Sound Try.prog 20 opsXS := by
  intro args out h
  unfold opsXS at h
  split at h
  rotate_left
  · cases h
  rename_i nm
  refine pcall_fun' (cx := cx20) (fn := Try.f20) (cx1_ok (.cons findXS_ok (.nil _)) (.nil _) rfl rfl) (by kernel_rfl) (by kernel_rfl) (by kernel_rfl) ?_
  rw [opsXT_eq, ← h]
  unfold opsXT opsX opsG
  cases (fokX nm)
  · rfl
  generalize (frowX nm).1 = f
  cases (f == 82)
  rotate_left
  · rfl
  cases (f == 73)
  rotate_left
  · rfl
  cases (f == 104)
  rotate_left
  · rfl
  cases (f == 119)
  rotate_left
  · rfl
  cases (f == 83)
  rotate_left
  · rfl
  cases (f == 66)
  rotate_left
  · rfl
  cases (f == 85)
  rotate_left
  · rfl
  cases (f == 74) <;> rfl

/-! A word's number. -/

def immX (f w : Int) : Int :=
  cond (f == 73) (signX (bitX w 20 12) 12) (cond (f == 104) (IntKind.wrap .i64 (bitX w 20 6)) (cond (f == 119) (IntKind.wrap .i64 (bitX w 20 5))
    (cond (f == 83) (signX (or32 (shl32 (bitX w 25 7) 5) (bitX w 7 5)) 12)
      (cond (f == 66) (signX (or32 (or32 (or32 (shl32 (bitX w 31 1) 12) (shl32 (bitX w 7 1) 11)) (shl32 (bitX w 25 6) 5)) (shl32 (bitX w 8 4) 1)) 13)
        (cond (f == 85) (signX (bitX w 12 20) 20)
          (cond (f == 74) (signX (or32 (or32 (or32 (shl32 (bitX w 31 1) 20) (shl32 (bitX w 12 8) 12)) (shl32 (bitX w 20 1) 11)) (shl32 (bitX w 21 10) 1)) 21) 0))))))

def immXS : Ab.Spec := fun args => match args with
  | [.int .u8 f, .int .u32 w] => .leaf (.int .i64 (immX f w))
  | _ => .fail

theorem immXS_ok : Sound Try.prog 31 immXS := by
  intro args out h
  unfold immXS at h
  split at h
  rotate_left
  · cases h
  rename_i f w
  simp only [Tree.run, Option.some.injEq] at h
  subst h
  refine pcall_fun' (cx := cx31) (fn := Try.f31) (cx1_ok (.cons bitsS_ok (.cons signedXS_ok (.nil _))) (.nil _) rfl rfl) (by kernel_rfl) (by kernel_rfl) (by kernel_rfl) ?_
  rw [immXT_eq]
  unfold immXT immX
  exact fold7 _ _ _ _ _ _ _ _ _ _ _ _ _ _ _ _

/-! A word. -/

theorem fold8 (k : IntKind) (b1 b2 b3 b4 b5 b6 b7 b8 : Bool) (x1 x2 x3 x4 x5 x6 x7 x8 x9 : Int) :
    (Tree.br b1 (.leaf (V.int k x1)) (.br b2 (.leaf (V.int k x2)) (.br b3 (.leaf (V.int k x3)) (.br b4 (.leaf (V.int k x4)) (.br b5 (.leaf (V.int k x5)) (.br b6 (.leaf (V.int k x6)) (.br b7 (.leaf (V.int k x7)) (.br b8 (.leaf (V.int k x8)) (.leaf (V.int k x9)))))))))).run =
      some (V.int k (cond b1 x1 (cond b2 x2 (cond b3 x3 (cond b4 x4 (cond b5 x5 (cond b6 x6 (cond b7 x7 (cond b8 x8 x9))))))))) := by
  cases b1
  rotate_left
  · rfl
  exact fold7 k b2 b3 b4 b5 b6 b7 b8 x2 x3 x4 x5 x6 x7 x8 x9

def baseX (r : RowX) (a b c : Int) : Int := or32 (or32 (or32 (or32 r.2.2.1 (shl32 r.2.2.2.1 12)) (shl32 (IntKind.wrap .u32 a) 7)) (shl32 (IntKind.wrap .u32 b) 15)) (shl32 (IntKind.wrap .u32 c) 20)
def wordG (r : RowX) (a b c m : Int) : Int :=
  cond (r.1 == 82) (or32 (baseX r a b c) (shl32 r.2.2.2.2 25)) (cond (r.1 == 73) (or32 (baseX r a b c) (shl32 (bitX m 0 12) 20))
    (cond (r.1 == 104) (or32 (or32 (baseX r a b c) (shl32 r.2.2.2.2 25)) (shl32 m 20)) (cond (r.1 == 119) (or32 (or32 (baseX r a b c) (shl32 r.2.2.2.2 25)) (shl32 m 20))
      (cond (r.1 == 83) (or32 (or32 (baseX r a b c) (shl32 (bitX m 0 5) 7)) (shl32 (bitX m 5 7) 25))
        (cond (r.1 == 66) (or32 (or32 (or32 (or32 (baseX r a b c) (shl32 (bitX m 11 1) 7)) (shl32 (bitX m 1 4) 8)) (shl32 (bitX m 5 6) 25)) (shl32 (bitX m 12 1) 31))
          (cond (r.1 == 85) (or32 (baseX r a b c) (shl32 m 12))
            (cond (r.1 == 74) (or32 (or32 (or32 (or32 (baseX r a b c) (shl32 (bitX m 12 8) 12)) (shl32 (bitX m 11 1) 20)) (shl32 (bitX m 1 10) 21)) (shl32 (bitX m 20 1) 31)) r.2.2.1)))))))
def wordX (i : InsT) : Int := wordG (frowX i.1) i.2.1 i.2.2.1 i.2.2.2.1 (IntKind.wrap .u32 (IntKind.wrap .u64 i.2.2.2.2.2))

def wordXS : Ab.Spec := fun args => match args with
  | [.agg [.str nm, .int .i64 a, .int .i64 b, .int .i64 c, .int .i64 d, .int .i64 n]] => .leaf (.int .u32 (wordX (nm, a, b, c, d, n)))
  | _ => .fail

theorem wordXS_ok : Sound Try.prog 27 wordXS := by
  intro args out h
  unfold wordXS at h
  split at h
  rotate_left
  · cases h
  rename_i nm a b c d n
  simp only [Tree.run, Option.some.injEq] at h
  subst h
  refine pcall_fun' (cx := cx27) (fn := Try.f27) (cx1_ok (.cons findXS_ok (.cons bitsS_ok (.nil _))) (.nil _) rfl rfl) (by kernel_rfl) (by kernel_rfl) (by kernel_rfl) ?_
  rw [wordXT_eq]
  unfold wordXT wordX wordG baseX
  exact fold8 _ _ _ _ _ _ _ _ _ _ _ _ _ _ _ _ _ _

/-- The context of foundry/foundryref8.Check. -/
noncomputable def cx25 : Cx := { P := Try.prog, n := 81, tab := [(35, findXS), (20, opsXS), (40, regS), (41, boundsXS), (32, hasS)], mtab := [], refs := [], keeps := [0, 1, 2, 3, 4, 5, 7, 8, 9, 17, 47, 62, 65, 75, 80] }
def checkT (nm : List UInt8) (a b c d n : Int) : Tree V :=
  (.br (!fokX nm) (.leaf (.int .i64 7)) (.br (decide (List.length (opsX nm) < 1000000000)) (.br (!regX (opsX nm) 65 a) (.leaf (.int .i64 13)) (.br (decide (List.length (opsX nm) < 1000000000)) (.br (!regX (opsX nm) 66 b) (.leaf (.int .i64 13)) (.br (decide (List.length (opsX nm) < 1000000000)) (.br (!regX (opsX nm) 67 c) (.leaf (.int .i64 13)) (.br (d != 0) (.leaf (.int .i64 13)) (.br (decide (List.length (opsX nm) < 1000000000)) (.br (!hasX (opsX nm) 105) (.br (decide (List.length (opsX nm) < 1000000000)) (.br (!hasX (opsX nm) 106) (.br (n != 0) (.leaf (.int .i64 13)) (.leaf (.int .i64 0))) (.br (decide (n < Prod.fst (bndX (Prod.fst (frowX nm))))) (.leaf (.int .i64 3)) (.br (decide (Prod.fst (Prod.snd (bndX (Prod.fst (frowX nm)))) < n)) (.leaf (.int .i64 3)) (.br (!decide (Prod.snd (Prod.snd (bndX (Prod.fst (frowX nm)))) = 0)) (.br (Int.tmod n (Prod.snd (Prod.snd (bndX (Prod.fst (frowX nm))))) != 0) (.leaf (.int .i64 10)) (.leaf (.int .i64 0))) .fail)))) .fail) (.br (decide (n < Prod.fst (bndX (Prod.fst (frowX nm))))) (.leaf (.int .i64 3)) (.br (decide (Prod.fst (Prod.snd (bndX (Prod.fst (frowX nm)))) < n)) (.leaf (.int .i64 3)) (.br (!decide (Prod.snd (Prod.snd (bndX (Prod.fst (frowX nm)))) = 0)) (.br (Int.tmod n (Prod.snd (Prod.snd (bndX (Prod.fst (frowX nm))))) != 0) (.leaf (.int .i64 10)) (.leaf (.int .i64 0))) .fail)))) .fail))) .fail)) .fail)) .fail))

theorem checkT_eq (nm : List UInt8) (a b c d n : Int) : (dfun cx25 Try.f25 [.agg [.str nm, .int .i64 a, .int .i64 b, .int .i64 c, .int .i64 d, .int .i64 n]]).run = (checkT nm a b c d n).run :=
  (show (dfun cx25 Try.f25 [.agg [.str nm, .int .i64 a, .int .i64 b, .int .i64 c, .int .i64 d, .int .i64 n]]).run = (checkT nm a b c d n).out by kernel_rfl).trans (Tree.out_run _)


theorem bndX_by (f : Int) : (!decide ((bndX f).2.2 = 0)) = true := by
  unfold bndX
  cases (f == 73) <;> cases (f == 83) <;> cases (f == 104) <;> cases (f == 119) <;> cases (f == 66) <;> cases (f == 85) <;> cases (f == 74) <;> rfl

/-- The document's error of an instruction. -/
def checkX (i : InsT) : Int :=
  cond (!fokX i.1) 7 (cond (!regX (opsX i.1) 65 i.2.1) 13 (cond (!regX (opsX i.1) 66 i.2.2.1) 13 (cond (!regX (opsX i.1) 67 i.2.2.2.1) 13 (cond (i.2.2.2.2.1 != 0) 13
    (cond (!hasX (opsX i.1) 105 && !hasX (opsX i.1) 106) (cond (i.2.2.2.2.2 != 0) 13 0)
      (cond (decide (i.2.2.2.2.2 < (bndX (frowX i.1).1).1)) 3 (cond (decide ((bndX (frowX i.1).1).2.1 < i.2.2.2.2.2)) 3 (cond (Int.tmod i.2.2.2.2.2 (bndX (frowX i.1).1).2.2 != 0) 10 0))))))))

def checkS : Ab.Spec := fun args => match args with
  | [.agg [.str nm, .int .i64 a, .int .i64 b, .int .i64 c, .int .i64 d, .int .i64 n]] => .leaf (.int .i64 (checkX (nm, a, b, c, d, n)))
  | _ => .fail

theorem checkS_ok : Sound Try.prog 25 checkS := by
  intro args out h
  unfold checkS at h
  split at h
  rotate_left
  · cases h
  rename_i nm a b c d n
  simp only [Tree.run, Option.some.injEq] at h
  subst h
  refine pcall_fun' (cx := cx25) (fn := Try.f25) (cx1_ok (.cons findXS_ok (.cons opsXS_ok (.cons regS_ok (.cons boundsXS_ok (.cons hasS_ok (.nil _)))))) (.nil _) rfl rfl) (by kernel_rfl) (by kernel_rfl) (by kernel_rfl) ?_
  rw [checkT_eq]
  have hl : decide (List.length (opsX nm) < 1000000000) = true := decide_eq_true (by have := opsX_short nm; omega)
  unfold checkT checkX
  rw [hl, bndX_by]
  simp only
  cases (!fokX nm)
  rotate_left
  · rfl
  cases (!regX (opsX nm) 65 a)
  rotate_left
  · rfl
  cases (!regX (opsX nm) 66 b)
  rotate_left
  · rfl
  cases (!regX (opsX nm) 67 c)
  rotate_left
  · rfl
  cases (d != 0)
  rotate_left
  · rfl
  generalize decide (n < (bndX (frowX nm).1).1) = e3, decide ((bndX (frowX nm).1).2.1 < n) = e4, (Int.tmod n (bndX (frowX nm).1).2.2 != 0) = e5, (n != 0) = e6
  cases (!hasX (opsX nm) 105) <;> cases (!hasX (opsX nm) 106) <;> cases e3 <;> cases e4 <;> cases e5 <;> cases e6 <;> rfl

end Go.Rv
