/-
  Instructions of riscv: encoded, read. Conditions: none.
-/
import Derived.Test.YtegieioiofggbaaRv4
namespace Go.Rv
open Go Go.Ab Go.Proofs

/-- The context of foundry/riscv.word. -/
noncomputable def cx24 : Cx := { P := Try.prog, n := 28, tab := [(39, immS)], mtab := [], refs := [], keeps := [0, 1, 2, 3, 4] }
/-- The context of foundry/riscv.faulty. -/
noncomputable def cx23 : Cx := { P := Try.prog, n := 76, tab := [(36, usesS), (37, boundsS), (38, registerS)], mtab := [], refs := [], keeps := [0, 1, 2, 3, 4, 5, 6, 7, 8, 9, 10, 25, 50, 59, 70] }
/-- The context of foundry/riscv.read. -/
noncomputable def cx29 : Cx := { P := Try.prog, n := 42, tab := [(36, usesS), (43, numberS)], mtab := [], refs := [], keeps := [0, 1, 2, 4, 5, 6, 7, 8, 23, 29, 35] }
def wordT (_rn : List UInt8) (f rw : Int) (_nm : List UInt8) (a b c _d n : Int) : Tree V :=
  (.leaf (.int .u32 (IntKind.wrap IntKind.u32 ↑(BitVec.toNat (BitVec.ofInt 32 (IntKind.wrap IntKind.u32 ↑(BitVec.toNat (BitVec.ofInt 32 (IntKind.wrap IntKind.u32 ↑(BitVec.toNat (BitVec.ofInt 32 (IntKind.wrap IntKind.u32 ↑(BitVec.toNat (BitVec.ofInt 32 rw ||| BitVec.ofInt 32 (IntKind.wrap IntKind.u32 (IntKind.wrap IntKind.u32 a * 2 ^ 7))))) ||| BitVec.ofInt 32 (IntKind.wrap IntKind.u32 (IntKind.wrap IntKind.u32 b * 2 ^ 15))))) ||| BitVec.ofInt 32 (IntKind.wrap IntKind.u32 (IntKind.wrap IntKind.u32 c * 2 ^ 20))))) ||| BitVec.ofInt 32 (immF f n))))))

theorem wordT_eq (rn : List UInt8) (f rw : Int) (nm : List UInt8) (a b c d n : Int) : (dfun cx24 Try.f24 [.agg [.str rn, .int .i64 f, .int .u32 rw], .agg [.str nm, .int .i64 a, .int .i64 b, .int .i64 c, .int .i64 d, .int .i64 n]]).run = (wordT rn f rw nm a b c d n).run :=
  (show (dfun cx24 Try.f24 [.agg [.str rn, .int .i64 f, .int .u32 rw], .agg [.str nm, .int .i64 a, .int .i64 b, .int .i64 c, .int .i64 d, .int .i64 n]]).run = (wordT rn f rw nm a b c d n).out by kernel_rfl).trans (Tree.out_run _)

def faultyT (_rn : List UInt8) (f _rw : Int) (_nm : List UInt8) (a b c d n : Int) : Tree V :=
  (.br (!regOk a (uA f)) (.leaf (.int .i64 13)) (.br (!regOk b (uB f)) (.leaf (.int .i64 13)) (.br (!regOk c (uC f)) (.leaf (.int .i64 13)) (.br (d != 0) (.leaf (.int .i64 13)) (.br (Prod.fst (bnd f) == Prod.fst (Prod.snd (bnd f))) (.br (n != 0) (.leaf (.int .i64 13)) (.br (decide (n < Prod.fst (bnd f))) (.leaf (.int .i64 3)) (.br (decide (Prod.fst (Prod.snd (bnd f)) < n)) (.leaf (.int .i64 3)) (.br (!decide (Prod.snd (Prod.snd (bnd f)) = 0)) (.br (Int.tmod n (Prod.snd (Prod.snd (bnd f))) != 0) (.leaf (.int .i64 10)) (.leaf (.int .i64 0))) .fail)))) (.br (decide (n < Prod.fst (bnd f))) (.leaf (.int .i64 3)) (.br (decide (Prod.fst (Prod.snd (bnd f)) < n)) (.leaf (.int .i64 3)) (.br (!decide (Prod.snd (Prod.snd (bnd f)) = 0)) (.br (Int.tmod n (Prod.snd (Prod.snd (bnd f))) != 0) (.leaf (.int .i64 10)) (.leaf (.int .i64 0))) .fail))))))))

theorem faultyT_eq (rn : List UInt8) (f rw : Int) (nm : List UInt8) (a b c d n : Int) : (dfun cx23 Try.f23 [.agg [.str rn, .int .i64 f, .int .u32 rw], .agg [.str nm, .int .i64 a, .int .i64 b, .int .i64 c, .int .i64 d, .int .i64 n]]).run = (faultyT rn f rw nm a b c d n).run :=
  (show (dfun cx23 Try.f23 [.agg [.str rn, .int .i64 f, .int .u32 rw], .agg [.str nm, .int .i64 a, .int .i64 b, .int .i64 c, .int .i64 d, .int .i64 n]]).run = (faultyT rn f rw nm a b c d n).out by kernel_rfl).trans (Tree.out_run _)

def readT (rn : List UInt8) (f _rw w : Int) : Tree V :=
  (.br (uA f) (.br (uB f) (.br (uC f) (.leaf (.agg [(.str rn), (.int .i64 (IntKind.wrap IntKind.i64 (IntKind.wrap IntKind.u32 ↑(BitVec.toNat (BitVec.ofInt 32 (Int.fdiv w (2 ^ 7)) &&& BitVec.ofInt 32 31))))), (.int .i64 (IntKind.wrap IntKind.i64 (IntKind.wrap IntKind.u32 ↑(BitVec.toNat (BitVec.ofInt 32 (Int.fdiv w (2 ^ 15)) &&& BitVec.ofInt 32 31))))), (.int .i64 (IntKind.wrap IntKind.i64 (IntKind.wrap IntKind.u32 ↑(BitVec.toNat (BitVec.ofInt 32 (Int.fdiv w (2 ^ 20)) &&& BitVec.ofInt 32 31))))), (.int .i64 0), (.int .i64 (numberF f w))])) (.leaf (.agg [(.str rn), (.int .i64 (IntKind.wrap IntKind.i64 (IntKind.wrap IntKind.u32 ↑(BitVec.toNat (BitVec.ofInt 32 (Int.fdiv w (2 ^ 7)) &&& BitVec.ofInt 32 31))))), (.int .i64 (IntKind.wrap IntKind.i64 (IntKind.wrap IntKind.u32 ↑(BitVec.toNat (BitVec.ofInt 32 (Int.fdiv w (2 ^ 15)) &&& BitVec.ofInt 32 31))))), (.int .i64 0), (.int .i64 0), (.int .i64 (numberF f w))]))) (.br (uC f) (.leaf (.agg [(.str rn), (.int .i64 (IntKind.wrap IntKind.i64 (IntKind.wrap IntKind.u32 ↑(BitVec.toNat (BitVec.ofInt 32 (Int.fdiv w (2 ^ 7)) &&& BitVec.ofInt 32 31))))), (.int .i64 0), (.int .i64 (IntKind.wrap IntKind.i64 (IntKind.wrap IntKind.u32 ↑(BitVec.toNat (BitVec.ofInt 32 (Int.fdiv w (2 ^ 20)) &&& BitVec.ofInt 32 31))))), (.int .i64 0), (.int .i64 (numberF f w))])) (.leaf (.agg [(.str rn), (.int .i64 (IntKind.wrap IntKind.i64 (IntKind.wrap IntKind.u32 ↑(BitVec.toNat (BitVec.ofInt 32 (Int.fdiv w (2 ^ 7)) &&& BitVec.ofInt 32 31))))), (.int .i64 0), (.int .i64 0), (.int .i64 0), (.int .i64 (numberF f w))])))) (.br (uB f) (.br (uC f) (.leaf (.agg [(.str rn), (.int .i64 0), (.int .i64 (IntKind.wrap IntKind.i64 (IntKind.wrap IntKind.u32 ↑(BitVec.toNat (BitVec.ofInt 32 (Int.fdiv w (2 ^ 15)) &&& BitVec.ofInt 32 31))))), (.int .i64 (IntKind.wrap IntKind.i64 (IntKind.wrap IntKind.u32 ↑(BitVec.toNat (BitVec.ofInt 32 (Int.fdiv w (2 ^ 20)) &&& BitVec.ofInt 32 31))))), (.int .i64 0), (.int .i64 (numberF f w))])) (.leaf (.agg [(.str rn), (.int .i64 0), (.int .i64 (IntKind.wrap IntKind.i64 (IntKind.wrap IntKind.u32 ↑(BitVec.toNat (BitVec.ofInt 32 (Int.fdiv w (2 ^ 15)) &&& BitVec.ofInt 32 31))))), (.int .i64 0), (.int .i64 0), (.int .i64 (numberF f w))]))) (.br (uC f) (.leaf (.agg [(.str rn), (.int .i64 0), (.int .i64 0), (.int .i64 (IntKind.wrap IntKind.i64 (IntKind.wrap IntKind.u32 ↑(BitVec.toNat (BitVec.ofInt 32 (Int.fdiv w (2 ^ 20)) &&& BitVec.ofInt 32 31))))), (.int .i64 0), (.int .i64 (numberF f w))])) (.leaf (.agg [(.str rn), (.int .i64 0), (.int .i64 0), (.int .i64 0), (.int .i64 0), (.int .i64 (numberF f w))])))))

theorem readT_eq (rn : List UInt8) (f rw w : Int) : (dfun cx29 Try.f29 [.agg [.str rn, .int .i64 f, .int .u32 rw], .int .u32 w]).run = (readT rn f rw w).run :=
  (show (dfun cx29 Try.f29 [.agg [.str rn, .int .i64 f, .int .u32 rw], .int .u32 w]).run = (readT rn f rw w).out by kernel_rfl).trans (Tree.out_run _)


/-- The word of an instruction. -/
def wordF (f rw a b c n : Int) : Int := or32 (or32 (or32 (or32 rw (shl32 (IntKind.wrap .u32 a) 7)) (shl32 (IntKind.wrap .u32 b) 15)) (shl32 (IntKind.wrap .u32 c) 20)) (immF f n)

def wordS : Ab.Spec := fun args => match args with
  | [.agg [.str _, .int .i64 f, .int .u32 rw], .agg [.str _, .int .i64 a, .int .i64 b, .int .i64 c, .int .i64 _, .int .i64 n]] => .leaf (.int .u32 (wordF f rw a b c n))
  | _ => .fail

theorem wordS_ok : Sound Try.prog 24 wordS := by
  intro args out h
  unfold wordS at h
  split at h
  rotate_left
  · cases h
  simp only [Tree.run, Option.some.injEq] at h
  subst h
  refine pcall_fun' (cx := cx24) (fn := Try.f24) (cx1_ok (.cons immS_ok (.nil _)) (.nil _) rfl rfl) (by kernel_rfl) (by kernel_rfl) (by kernel_rfl) ?_
  rw [wordT_eq]
  kernel_rfl

/-- Why an instruction may not be. -/
def faultyF (f a b c d n : Int) : Int :=
  cond (!regOk a (uA f)) 13 (cond (!regOk b (uB f)) 13 (cond (!regOk c (uC f)) 13 (cond (d != 0) 13 (cond ((bnd f).1 == (bnd f).2.1 && n != 0) 13
    (cond (decide (n < (bnd f).1)) 3 (cond (decide ((bnd f).2.1 < n)) 3 (cond (Int.tmod n (bnd f).2.2 != 0) 10 0)))))))

theorem bnd_by (f : Int) : (!decide ((bnd f).2.2 = 0)) = true := by
  unfold bnd
  cases (f == 1) <;> cases (f == 4) <;> cases (f == 2) <;> cases (f == 3) <;> cases (f == 5) <;> cases (f == 6) <;> cases (f == 7) <;> rfl

def faultyS : Ab.Spec := fun args => match args with
  | [.agg [.str _, .int .i64 f, .int .u32 _], .agg [.str _, .int .i64 a, .int .i64 b, .int .i64 c, .int .i64 d, .int .i64 n]] => .leaf (.int .i64 (faultyF f a b c d n))
  | _ => .fail

theorem faultyS_ok : Sound Try.prog 23 faultyS := by
  intro args out h
  unfold faultyS at h
  split at h
  rotate_left
  · cases h
  rename_i rn f rw' nm a b c d n
  simp only [Tree.run, Option.some.injEq] at h
  subst h
  refine pcall_fun' (cx := cx23) (fn := Try.f23) (cx1_ok (.cons usesS_ok (.cons boundsS_ok (.cons registerS_ok (.nil _)))) (.nil _) rfl rfl) (by kernel_rfl) (by kernel_rfl) (by kernel_rfl) ?_
  rw [faultyT_eq]
  unfold faultyT faultyF
  rw [bnd_by]
  cases (!regOk a (uA f))
  rotate_left
  · rfl
  cases (!regOk b (uB f))
  rotate_left
  · rfl
  cases (!regOk c (uC f))
  rotate_left
  · rfl
  cases (d != 0)
  rotate_left
  · rfl
  generalize ((bnd f).1 == (bnd f).2.1) = e1, (n != 0) = e2, decide (n < (bnd f).1) = e3, decide ((bnd f).2.1 < n) = e4, (Int.tmod n (bnd f).2.2 != 0) = e5
  cases e1 <;> cases e2 <;> cases e3 <;> cases e4 <;> cases e5 <;> rfl

/-- A register's bits. -/
def fld (w : Int) (k : Nat) : Int := IntKind.wrap .i64 (IntKind.wrap .u32 ↑(BitVec.toNat (BitVec.ofInt 32 (Int.fdiv w (2 ^ k)) &&& BitVec.ofInt 32 31)))
def rdA (f w : Int) : Int := cond (uA f) (fld w 7) 0
def rdB (f w : Int) : Int := cond (uB f) (fld w 15) 0
def rdC (f w : Int) : Int := cond (uC f) (fld w 20) 0

def readS : Ab.Spec := fun args => match args with
  | [.agg [.str rn, .int .i64 f, .int .u32 _], .int .u32 w] => .leaf (.agg [.str rn, .int .i64 (rdA f w), .int .i64 (rdB f w), .int .i64 (rdC f w), .int .i64 0, .int .i64 (numberF f w)])
  | _ => .fail

theorem readS_ok : Sound Try.prog 29 readS := by
  intro args out h
  unfold readS at h
  split at h
  rotate_left
  · cases h
  rename_i rn f rw' w
  simp only [Tree.run, Option.some.injEq] at h
  subst h
  refine pcall_fun' (cx := cx29) (fn := Try.f29) (cx1_ok (.cons usesS_ok (.cons numberS_ok (.nil _))) (.nil _) rfl rfl) (by kernel_rfl) (by kernel_rfl) (by kernel_rfl) ?_
  rw [readT_eq]
  unfold readT rdA rdB rdC
  cases (uA f)
  · cases (uB f)
    · cases (uC f) <;> kernel_rfl
    · cases (uC f) <;> kernel_rfl
  · cases (uB f)
    · cases (uC f) <;> kernel_rfl
    · cases (uC f) <;> kernel_rfl

end Go.Rv
