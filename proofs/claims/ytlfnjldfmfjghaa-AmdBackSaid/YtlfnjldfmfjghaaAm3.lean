/-
  Registers, conditions, places. Conditions: none.
-/
import Derived.Test.YtlfnjldfmfjghaaAm2
namespace Go.Amd
open Go Go.Ab Go.Proofs

theorem leaf_out {α : Type} {b o : α} (h : (Tree.leaf b).run = some o) : o = b := by simpa [Tree.run] using h.symm
theorem ok1 {P : Program} {f : Nat} {s : Ab.Spec} (h : Sound P f s) : TabOk P [(f, s)] := .cons h (.nil _)
theorem br_t {α : Type} {c : Bool} {x y : Tree α} (h : c = true) : (Tree.br c x y).run = x.run := by rw [h]; rfl
theorem br_f {α : Type} {c : Bool} {x y : Tree α} (h : c = false) : (Tree.br c x y).run = y.run := by rw [h]; rfl
theorem all_t {α : Type} {c : Bool} {x y : Tree α} {Q : α → Prop} (h : c = true) (hx : x.all Q) : (Tree.br c x y).all Q := ⟨fun _ => hx, fun e => Bool.noConfusion (h.symm.trans e)⟩

/-- An instruction: name, A, B, C, D, Imm. -/
abbrev InsT := List UInt8 × Int × Int × Int × Int × Int
def insL (i : InsT) : List V := [.str i.1, .int .i64 i.2.1, .int .i64 i.2.2.1, .int .i64 i.2.2.2.1, .int .i64 i.2.2.2.2.1, .int .i64 i.2.2.2.2.2]
abbrev insV (i : InsT) : V := .agg (insL i)

/-- The context of foundry/amd.register. -/
noncomputable def cx35 : Cx := { P := Try.prog, n := 18, tab := [], mtab := [], refs := [], keeps := [0, 1, 4] }
/-- The context of foundry/amd.condition. -/
noncomputable def cx37 : Cx := { P := Try.prog, n := 17, tab := [], mtab := [], refs := [], keeps := [0, 2] }
/-- The context of foundry/amd.place. -/
noncomputable def cx36 : Cx := { P := Try.prog, n := 67, tab := [], mtab := [], refs := [], keeps := [0, 1, 2, 3, 19] }
/-- The context of foundry/amd.fits. -/
noncomputable def cx41 : Cx := { P := Try.prog, n := 9, tab := [], mtab := [], refs := [], keeps := [0, 2] }
def regT (n : Int) (u : Bool) : Tree V :=
  (.br (n == 0) (.leaf (.bool true)) (.br u (.br (decide (0 < n)) (.leaf (.bool (decide (n ≤ 15)))) (.leaf (.bool false))) (.leaf (.bool false))))

theorem regT_eq (n : Int) (u : Bool) : (dfun cx35 Try.f35 [.int .i64 n, .bool u]).run = (regT n u).run :=
  (show (dfun cx35 Try.f35 [.int .i64 n, .bool u]).run = (regT n u).out by kernel_rfl).trans (Tree.out_run _)

def condT (n : Int) : Tree V :=
  (.br (decide (0 ≤ n)) (.br (decide (n ≤ 9)) (.leaf (.bool true)) (.br (decide (12 ≤ n)) (.leaf (.bool (decide (n ≤ 15)))) (.leaf (.bool false)))) (.br (decide (12 ≤ n)) (.leaf (.bool (decide (n ≤ 15)))) (.leaf (.bool false))))

theorem condT_eq (n : Int) : (dfun cx37 Try.f37 [.int .i64 n]).run = (condT n).run :=
  (show (dfun cx37 Try.f37 [.int .i64 n]).run = (condT n).out by kernel_rfl).trans (Tree.out_run _)

def fitsT (n : Int) : Tree V :=
  (.br (decide (-128 ≤ n)) (.leaf (.bool (decide (n ≤ 127)))) (.leaf (.bool false)))

theorem fitsT_eq (n : Int) : (dfun cx41 Try.f41 [.int .i64 n]).run = (fitsT n).run :=
  (show (dfun cx41 Try.f41 [.int .i64 n]).run = (fitsT n).out by kernel_rfl).trans (Tree.out_run _)


def regF (n : Int) (u : Bool) : Bool := cond (n == 0) true (cond u (cond (decide (0 < n)) (decide (n ≤ 15)) false) false)
def condF (n : Int) : Bool := cond (cond (decide (0 ≤ n)) (decide (n ≤ 9)) false) true (cond (decide (12 ≤ n)) (decide (n ≤ 15)) false)
def fitsF (n : Int) : Bool := cond (decide (-128 ≤ n)) (decide (n ≤ 127)) false
def baseF (b : Int) : Bool := cond (cond (decide (0 ≤ b)) (decide (b ≤ 15)) false) true (b == 17)
def scaleF (d : Int) : Bool := cond (d == 1) true (cond (d == 2) true (cond (d == 4) true (d == 8)))
def placeF (b c d : Int) : Bool := cond (c == 16) (cond (baseF b) (d == 0) false) (cond (baseF b) (cond (b != 17) (cond (decide (0 ≤ c)) (cond (decide (c ≤ 15)) (cond (c != 4) (scaleF d) false) false) false) false) false)

def registerS : Ab.Spec := fun args => match args with
  | [.int .i64 n, .bool u] => .leaf (.bool (regF n u))
  | _ => .fail
theorem registerS_ok : Sound Try.prog 35 registerS := by
  intro args out h
  unfold registerS at h
  split at h
  rotate_left
  · cases h
  rename_i n u
  have h := leaf_out h
  subst h
  refine pcall_fun' (cx := cx35) (fn := Try.f35) (cx0_ok rfl rfl) (by kernel_rfl) (by kernel_rfl) (by kernel_rfl) ((regT_eq n u).trans ?_)
  unfold regT regF
  cases (n == 0)
  · cases u
    · rfl
    · cases decide (0 < n) <;> rfl
  · rfl

def conditionS : Ab.Spec := fun args => match args with
  | [.int .i64 n] => .leaf (.bool (condF n))
  | _ => .fail
theorem conditionS_ok : Sound Try.prog 37 conditionS := by
  intro args out h
  unfold conditionS at h
  split at h
  rotate_left
  · cases h
  rename_i n
  have h := leaf_out h
  subst h
  refine pcall_fun' (cx := cx37) (fn := Try.f37) (cx0_ok rfl rfl) (by kernel_rfl) (by kernel_rfl) (by kernel_rfl) ((condT_eq n).trans ?_)
  unfold condT condF
  cases decide (0 ≤ n) <;> cases decide (n ≤ 9) <;> cases decide (12 ≤ n) <;> rfl

def fitsS : Ab.Spec := fun args => match args with
  | [.int .i64 n] => .leaf (.bool (fitsF n))
  | _ => .fail
theorem fitsS_ok : Sound Try.prog 41 fitsS := by
  intro args out h
  unfold fitsS at h
  split at h
  rotate_left
  · cases h
  rename_i n
  have h := leaf_out h
  subst h
  refine pcall_fun' (cx := cx41) (fn := Try.f41) (cx0_ok rfl rfl) (by kernel_rfl) (by kernel_rfl) (by kernel_rfl) ((fitsT_eq n).trans ?_)
  unfold fitsT fitsF
  cases decide (-128 ≤ n) <;> rfl

def tB (b : Bool) : Tree V := .leaf (.bool b)
def placeD (d : Int) : Tree V := .br (d == 1) (tB true) (.br (d == 2) (tB true) (.br (d == 4) (tB true) (tB (d == 8))))
def placeC (x : Bool) (b c d : Int) : Tree V := .br (c == 16) (.br x (tB (d == 0)) (tB false))
  (.br x (.br (b != 17) (.br (decide (0 ≤ c)) (.br (decide (c ≤ 15)) (.br (c != 4) (placeD d) (tB false)) (tB false)) (tB false)) (tB false)) (tB false))
def placeT (b c d : Int) : Tree V := .br (decide (0 ≤ b)) (.br (decide (b ≤ 15)) (placeC true b c d) (placeC (b == 17) b c d)) (placeC (b == 17) b c d)
theorem placeT_eq (nm : List UInt8) (a b c d n : Int) : (dfun cx36 Try.f36 [.agg [.str nm, .int .i64 a, .int .i64 b, .int .i64 c, .int .i64 d, .int .i64 n]]).run = (placeT b c d).run :=
  (show (dfun cx36 Try.f36 [.agg [.str nm, .int .i64 a, .int .i64 b, .int .i64 c, .int .i64 d, .int .i64 n]]).run = (placeT b c d).out by kernel_rfl).trans (Tree.out_run _)
theorem placeC_run (x : Bool) (b c d : Int) : (placeC x b c d).run = some (.bool (cond (c == 16) (cond x (d == 0) false) (cond x (cond (b != 17) (cond (decide (0 ≤ c)) (cond (decide (c ≤ 15)) (cond (c != 4) (scaleF d) false) false) false) false) false))) := by
  unfold placeC placeD scaleF tB
  cases (c == 16)
  · cases x
    · rfl
    · cases (b != 17)
      · rfl
      · cases decide (0 ≤ c)
        · rfl
        · cases decide (c ≤ 15)
          · rfl
          · cases (c != 4)
            · rfl
            · cases (d == 1) <;> cases (d == 2) <;> cases (d == 4) <;> rfl
  · cases x <;> rfl
theorem placeT_run (b c d : Int) : (placeT b c d).run = some (.bool (placeF b c d)) := by
  unfold placeT placeF baseF
  cases decide (0 ≤ b)
  · exact placeC_run _ b c d
  · cases decide (b ≤ 15)
    · exact placeC_run _ b c d
    · exact placeC_run _ b c d
def placeS : Ab.Spec := fun args => match args with
  | [.agg [.str _, .int .i64 _, .int .i64 b, .int .i64 c, .int .i64 d, .int .i64 _]] => .leaf (.bool (placeF b c d))
  | _ => .fail
theorem placeS_ok : Sound Try.prog 36 placeS := by
  intro args out h
  unfold placeS at h
  split at h
  rotate_left
  · cases h
  rename_i nm a b c d n
  have h := leaf_out h
  subst h
  exact pcall_fun' (cx := cx36) (fn := Try.f36) (cx0_ok rfl rfl) (by kernel_rfl) (by kernel_rfl) (by kernel_rfl) ((placeT_eq nm a b c d n).trans (placeT_run b c d))

end Go.Amd
