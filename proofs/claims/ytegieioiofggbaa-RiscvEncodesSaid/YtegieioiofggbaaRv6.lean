/-
  Encode, May, Operands of riscv. Conditions: none.
-/
import Derived.Test.YtegieioiofggbaaRv5
namespace Go.Rv
open Go Go.Ab Go.Proofs

/-- The context of foundry/riscv.Encode. -/
noncomputable def cx9 : Cx := { P := Try.prog, n := 37, tab := [(22, findS), (23, faultyS), (24, wordS)], mtab := [], refs := [], keeps := [0, 1, 2, 3, 4, 5, 6, 7, 15, 20] }
/-- The context of foundry/riscv.May. -/
noncomputable def cx11 : Cx := { P := Try.prog, n := 18, tab := [(22, findS), (23, faultyS)], mtab := [], refs := [], keeps := [0, 1, 2, 3, 4] }
/-- The context of foundry/riscv.Operands. -/
noncomputable def cx19 : Cx := { P := Try.prog, n := 29, tab := [(22, findS)], mtab := [], refs := [], keeps := [0, 2, 3, 4, 5, 12, 14, 15, 17, 21, 23, 25, 27] }
def encodeT (nm : List UInt8) (a b c d n : Int) : Tree V :=
  (.br (!fok nm) (.leaf (.tup [(.val (Go.Value.slice Option.none 0 0)), (.int .i64 7)])) (.br (faultyF (Prod.fst (Prod.snd (frow nm))) a b c d n != 0) (.leaf (.tup [(.val (Go.Value.slice Option.none 0 0)), (.int .i64 (faultyF (Prod.fst (Prod.snd (frow nm))) a b c d n))])) (.leaf (.tup [(.sl (.int .u8) [IntKind.wrap IntKind.u8 (wordF (Prod.fst (Prod.snd (frow nm))) (Prod.snd (Prod.snd (frow nm))) a b c n), IntKind.wrap IntKind.u8 (Int.fdiv (wordF (Prod.fst (Prod.snd (frow nm))) (Prod.snd (Prod.snd (frow nm))) a b c n) (2 ^ 8)), IntKind.wrap IntKind.u8 (Int.fdiv (wordF (Prod.fst (Prod.snd (frow nm))) (Prod.snd (Prod.snd (frow nm))) a b c n) (2 ^ 16)), IntKind.wrap IntKind.u8 (Int.fdiv (wordF (Prod.fst (Prod.snd (frow nm))) (Prod.snd (Prod.snd (frow nm))) a b c n) (2 ^ 24))] [] Fl.full), (.int .i64 0)]))))

theorem encodeT_eq (nm : List UInt8) (a b c d n : Int) : (dfun cx9 Try.f9 [.agg [.str nm, .int .i64 a, .int .i64 b, .int .i64 c, .int .i64 d, .int .i64 n]]).run = (encodeT nm a b c d n).run :=
  (show (dfun cx9 Try.f9 [.agg [.str nm, .int .i64 a, .int .i64 b, .int .i64 c, .int .i64 d, .int .i64 n]]).run = (encodeT nm a b c d n).out by kernel_rfl).trans (Tree.out_run _)

def mayT (nm : List UInt8) (a b c d n : Int) : Tree V :=
  (.br (fok nm) (.leaf (.bool (faultyF (Prod.fst (Prod.snd (frow nm))) a b c d n == 0))) (.leaf (.bool false)))

theorem mayT_eq (nm : List UInt8) (a b c d n : Int) : (dfun cx11 Try.f11 [.agg [.str nm, .int .i64 a, .int .i64 b, .int .i64 c, .int .i64 d, .int .i64 n]]).run = (mayT nm a b c d n).run :=
  (show (dfun cx11 Try.f11 [.agg [.str nm, .int .i64 a, .int .i64 b, .int .i64 c, .int .i64 d, .int .i64 n]]).run = (mayT nm a b c d n).out by kernel_rfl).trans (Tree.out_run _)

def operandsT (nm : List UInt8) : Tree V :=
  (.br (!fok nm) (.leaf (.tup [(.str []), (.bool false)])) (.br (Prod.fst (Prod.snd (frow nm)) == 0) (.leaf (.tup [(.str [65, 66, 67]), (.bool true)])) (.br (Prod.fst (Prod.snd (frow nm)) == 1) (.leaf (.tup [(.str [65, 66, 105]), (.bool true)])) (.br (Prod.fst (Prod.snd (frow nm)) == 2) (.leaf (.tup [(.str [65, 66, 105]), (.bool true)])) (.br (Prod.fst (Prod.snd (frow nm)) == 3) (.leaf (.tup [(.str [65, 66, 105]), (.bool true)])) (.br (Prod.fst (Prod.snd (frow nm)) == 4) (.leaf (.tup [(.str [67, 66, 105]), (.bool true)])) (.br (Prod.fst (Prod.snd (frow nm)) == 5) (.leaf (.tup [(.str [66, 67, 106]), (.bool true)])) (.br (Prod.fst (Prod.snd (frow nm)) == 6) (.leaf (.tup [(.str [65, 105]), (.bool true)])) (.br (Prod.fst (Prod.snd (frow nm)) == 7) (.leaf (.tup [(.str [65, 106]), (.bool true)])) (.leaf (.tup [(.str []), (.bool true)])))))))))))

theorem operandsT_eq (nm : List UInt8) : (dfun cx19 Try.f19 [.str nm]).run = (operandsT nm).run :=
  (show (dfun cx19 Try.f19 [.str nm]).run = (operandsT nm).out by kernel_rfl).trans (Tree.out_run _)


/-- An instruction: its name, A, B, C, D, its number. -/
abbrev InsT := List UInt8 × Int × Int × Int × Int × Int
def insV (i : InsT) : V := .agg [.str i.1, .int .i64 i.2.1, .int .i64 i.2.2.1, .int .i64 i.2.2.2.1, .int .i64 i.2.2.2.2.1, .int .i64 i.2.2.2.2.2]

/-- Why an instruction is not encoded; 0: it is. -/
def encE (i : InsT) : Int := cond (fok i.1) (faultyF (frow i.1).2.1 i.2.1 i.2.2.1 i.2.2.2.1 i.2.2.2.2.1 i.2.2.2.2.2) 7
def encW (i : InsT) : Int := wordF (frow i.1).2.1 (frow i.1).2.2 i.2.1 i.2.2.1 i.2.2.2.1 i.2.2.2.2.2
def bytes4 (w : Int) : List Int := [IntKind.wrap .u8 w, IntKind.wrap .u8 (Int.fdiv w (2 ^ 8)), IntKind.wrap .u8 (Int.fdiv w (2 ^ 16)), IntKind.wrap .u8 (Int.fdiv w (2 ^ 24))]
abbrev nilV : V := .val (.slice none 0 0)

def encodeS : Ab.Spec := fun args => match args with
  | [.agg [.str nm, .int .i64 a, .int .i64 b, .int .i64 c, .int .i64 d, .int .i64 n]] =>
    .br (encE (nm, a, b, c, d, n) == 0) (.leaf (.tup [.sl (.int .u8) (bytes4 (encW (nm, a, b, c, d, n))) [] .full, .int .i64 0])) (.leaf (.tup [nilV, .int .i64 (encE (nm, a, b, c, d, n))]))
  | _ => .fail

theorem encodeS_ok : Sound Try.prog 9 encodeS := by
  intro args out h
  unfold encodeS at h
  split at h
  rotate_left
  · cases h
  rename_i nm a b c d n
  refine pcall_fun' (cx := cx9) (fn := Try.f9) (cx1_ok (.cons findS_ok (.cons faultyS_ok (.cons wordS_ok (.nil _)))) (.nil _) rfl rfl) (by kernel_rfl) (by kernel_rfl) (by kernel_rfl) ?_
  rw [encodeT_eq]
  rw [← h]
  unfold encodeT encE encW
  cases (fok nm)
  · rfl
  simp only [cond_true]
  cases hb : (faultyF (frow nm).2.1 a b c d n == 0)
  · have : (faultyF (frow nm).2.1 a b c d n != 0) = true := by simp [bne, hb]
    rw [this]
    rfl
  · have : (faultyF (frow nm).2.1 a b c d n != 0) = false := by simp [bne, hb]
    rw [this]
    show Tree.run _ = Tree.run _
    kernel_rfl

def mayS : Ab.Spec := fun args => match args with
  | [.agg [.str nm, .int .i64 a, .int .i64 b, .int .i64 c, .int .i64 d, .int .i64 n]] => .leaf (.bool (encE (nm, a, b, c, d, n) == 0))
  | _ => .fail

theorem mayS_ok : Sound Try.prog 11 mayS := by
  intro args out h
  unfold mayS at h
  split at h
  rotate_left
  · cases h
  rename_i nm a b c d n
  refine pcall_fun' (cx := cx11) (fn := Try.f11) (cx1_ok (.cons findS_ok (.cons faultyS_ok (.nil _))) (.nil _) rfl rfl) (by kernel_rfl) (by kernel_rfl) (by kernel_rfl) ?_
  rw [mayT_eq]
  rw [← h]
  unfold mayT encE
  cases (fok nm) <;> rfl

/-- In which order the operands stand. -/
def opsF (f : Int) : List UInt8 :=
  cond (f == 0) [65, 66, 67] (cond (f == 1) [65, 66, 105] (cond (f == 2) [65, 66, 105] (cond (f == 3) [65, 66, 105] (cond (f == 4) [67, 66, 105] (cond (f == 5) [66, 67, 106]
    (cond (f == 6) [65, 105] (cond (f == 7) [65, 106] [])))))))
def opsOf (nm : List UInt8) : List UInt8 := cond (fok nm) (opsF (frow nm).2.1) []

def operandsS : Ab.Spec := fun args => match args with
  | [.str nm] => .leaf (.tup [.str (opsOf nm), .bool (fok nm)])
  | _ => .fail

theorem operandsS_ok : Sound Try.prog 19 operandsS := by
  intro args out h
  unfold operandsS at h
  split at h
  rotate_left
  · cases h
  rename_i nm
  refine pcall_fun' (cx := cx19) (fn := Try.f19) (cx1_ok (.cons findS_ok (.nil _)) (.nil _) rfl rfl) (by kernel_rfl) (by kernel_rfl) (by kernel_rfl) ?_
  rw [operandsT_eq]
  rw [← h]
  unfold operandsT opsOf opsF
  cases (fok nm)
  · rfl
  generalize (frow nm).2.1 = f
  cases (f == 0)
  rotate_left
  · rfl
  cases (f == 1)
  rotate_left
  · rfl
  cases (f == 2)
  rotate_left
  · rfl
  cases (f == 3)
  rotate_left
  · rfl
  cases (f == 4)
  rotate_left
  · rfl
  cases (f == 5)
  rotate_left
  · rfl
  cases (f == 6)
  rotate_left
  · rfl
  cases (f == 7) <;> rfl

end Go.Rv
