/-
  The law AmdForms. Conditions: none.
-/
import Derived.Test.YtlfnjldfmfjghaaAm9
namespace Go.Amd
open Go Go.Ab Go.Proofs

/-- Encode of what may be. -/
def encodeF : Ab.Spec := fun args => match args with
  | [.agg [.str nm, .int .i64 a, .int .i64 b, .int .i64 c, .int .i64 d, .int .i64 n]] =>
    .req (encE (nm, a, b, c, d, n) == 0) (.leaf (.tup [.sl (.int .u8) (encL (nm, a, b, c, d, n)) [] .ro, .int .i64 0]))
  | _ => .fail
theorem encodeF_ok : Sound Try.prog 10 encodeF := by
  intro args out h
  refine encodeS_ok args out ?_
  unfold encodeF at h
  split at h
  rotate_left
  · cases h
  obtain ⟨h1, h⟩ := req_run h
  unfold encodeS
  simp only
  rw [h1]
  exact h

/-- The context of foundry/foundrylaw12.AmdForms. -/
noncomputable def cx8 : Cx := { P := Try.prog, n := 112, tab := [(9, begunS), (10, encodeF)], mtab := [], refs := [], keeps := [0, 1, 2, 6, 7, 8, 9, 10, 11, 12, 13, 14, 16, 38, 62, 70, 77] }
def formsR (a b n : Int) : Tree St :=
  (.leaf (.normal, [(0, (.int .i64 a)), (1, (.int .i64 b)), (2, (.int .i64 n)), (6, (.bool false)), (16, (.bool false))], []))

theorem formsR_eq (a b n : Int) : (dcode cx8 (headN 1 (bodyOf Try.f8)) [(0, .int .i64 a), (1, .int .i64 b), (2, .int .i64 n)] []).run = (formsR a b n).run :=
  (show (dcode cx8 (headN 1 (bodyOf Try.f8)) [(0, .int .i64 a), (1, .int .i64 b), (2, .int .i64 n)] []).run = (formsR a b n).out by kernel_rfl).trans (Tree.out_run _)

def formsC (a b n : Int) : Tree St :=
  (.br (decide (a < 0)) (.leaf (.ret, [(0, (.int .i64 a)), (1, (.int .i64 b)), (2, (.int .i64 n)), (6, (.bool true)), (38, (.bool true))], [])) (.br (decide (15 < a)) (.leaf (.ret, [(0, (.int .i64 a)), (1, (.int .i64 b)), (2, (.int .i64 n)), (6, (.bool true)), (38, (.bool true))], [])) (.br (decide (b < 0)) (.leaf (.ret, [(0, (.int .i64 a)), (1, (.int .i64 b)), (2, (.int .i64 n)), (6, (.bool true)), (38, (.bool true))], [])) (.br (decide (15 < b)) (.leaf (.ret, [(0, (.int .i64 a)), (1, (.int .i64 b)), (2, (.int .i64 n)), (6, (.bool true)), (38, (.bool true))], [])) (.br (decide (n < -2147483648)) (.leaf (.ret, [(0, (.int .i64 a)), (1, (.int .i64 b)), (2, (.int .i64 n)), (6, (.bool true)), (38, (.bool true))], [])) (.br (decide (2147483648 ≤ n)) (.leaf (.ret, [(0, (.int .i64 a)), (1, (.int .i64 b)), (2, (.int .i64 n)), (6, (.bool true)), (38, (.bool true))], [])) (.leaf (.normal, [(0, (.int .i64 a)), (1, (.int .i64 b)), (2, (.int .i64 n)), (6, (.bool false)), (38, (.bool false))], []))))))))

theorem formsC_eq (a b n : Int) : (dcode cx8 (c1 (tailN 1 (bodyOf Try.f8))) [(0, .int .i64 a), (1, .int .i64 b), (2, .int .i64 n), (6, .bool false)] []).run = (formsC a b n).run :=
  (show (dcode cx8 (c1 (tailN 1 (bodyOf Try.f8))) [(0, .int .i64 a), (1, .int .i64 b), (2, .int .i64 n), (6, .bool false)] []).run = (formsC a b n).out by kernel_rfl).trans (Tree.out_run _)

def formsE (a b n : Int) : Tree St :=
  (.br (encE ([109, 111, 118, 46, 114, 109], a, b, 16, 0, n) == 0) (.br (encE ([97, 100, 100, 46, 114, 105], a, 0, 0, 0, n) == 0) (.br (encE ([112, 117, 115, 104], a, 0, 0, 0, 0) == 0) (.leaf (.normal, [(0, (.int .i64 a)), (1, (.int .i64 b)), (2, (.int .i64 n)), (6, (.bool false)), (7, (.sl (.int .u8) ((encL ([109, 111, 118, 46, 114, 109], a, b, 16, 0, n))) ([]) Fl.ro)), (8, (.int .i64 0)), (9, (.sl (.int .u8) ((encL ([97, 100, 100, 46, 114, 105], a, 0, 0, 0, n))) ([]) Fl.ro)), (10, (.int .i64 0)), (11, (.sl (.int .u8) ((encL ([112, 117, 115, 104], a, 0, 0, 0, 0))) ([]) Fl.ro)), (12, (.int .i64 0)), (13, (.int .i64 3))], [])) .fail) .fail) .fail)

theorem formsE_eq (a b n : Int) : (dcode cx8 (headN 3 (c2 (tailN 1 (bodyOf Try.f8)))) [(0, .int .i64 a), (1, .int .i64 b), (2, .int .i64 n), (6, .bool false)] []).run = (formsE a b n).run :=
  (show (dcode cx8 (headN 3 (c2 (tailN 1 (bodyOf Try.f8)))) [(0, .int .i64 a), (1, .int .i64 b), (2, .int .i64 n), (6, .bool false)] []).run = (formsE a b n).out by kernel_rfl).trans (Tree.out_run _)

def formsW1 (a b n : Int) (x y z : List Int) : Tree St :=
  (.br (Int.tmod b 8 == 4) (.leaf (.normal, [(0, (.int .i64 a)), (1, (.int .i64 b)), (2, (.int .i64 n)), (6, (.bool false)), (7, (.sl (.int .u8) (x) ([]) Fl.ro)), (8, (.int .i64 0)), (9, (.sl (.int .u8) (y) ([]) Fl.ro)), (10, (.int .i64 0)), (11, (.sl (.int .u8) (z) ([]) Fl.ro)), (12, (.int .i64 0)), (13, (.int .i64 (IntKind.wrap IntKind.i64 (3 + 1)))), (62, (.bool true))], [])) (.leaf (.normal, [(0, (.int .i64 a)), (1, (.int .i64 b)), (2, (.int .i64 n)), (6, (.bool false)), (7, (.sl (.int .u8) (x) ([]) Fl.ro)), (8, (.int .i64 0)), (9, (.sl (.int .u8) (y) ([]) Fl.ro)), (10, (.int .i64 0)), (11, (.sl (.int .u8) (z) ([]) Fl.ro)), (12, (.int .i64 0)), (13, (.int .i64 3)), (62, (.bool false))], [])))

theorem formsW1_eq (a b n : Int) (x y z : List Int) : (dcode cx8 (c1 (tailN 3 (c2 (tailN 1 (bodyOf Try.f8))))) [(0, .int .i64 a), (1, .int .i64 b), (2, .int .i64 n), (6, .bool false), (7, .sl (.int .u8) x [] .ro), (8, .int .i64 0), (9, .sl (.int .u8) y [] .ro), (10, .int .i64 0), (11, .sl (.int .u8) z [] .ro), (12, .int .i64 0), (13, .int .i64 3)] []).run = (formsW1 a b n x y z).run :=
  (show (dcode cx8 (c1 (tailN 3 (c2 (tailN 1 (bodyOf Try.f8))))) [(0, .int .i64 a), (1, .int .i64 b), (2, .int .i64 n), (6, .bool false), (7, .sl (.int .u8) x [] .ro), (8, .int .i64 0), (9, .sl (.int .u8) y [] .ro), (10, .int .i64 0), (11, .sl (.int .u8) z [] .ro), (12, .int .i64 0), (13, .int .i64 3)] []).run = (formsW1 a b n x y z).out by kernel_rfl).trans (Tree.out_run _)

def formsW2 (a b n w : Int) (x y z : List Int) : Tree St :=
  (.br (decide (-128 ≤ n)) (.br (decide (n ≤ 127)) (.br (n != 0) (.leaf (.normal, [(0, (.int .i64 a)), (1, (.int .i64 b)), (2, (.int .i64 n)), (6, (.bool false)), (7, (.sl (.int .u8) (x) ([]) Fl.ro)), (8, (.int .i64 0)), (9, (.sl (.int .u8) (y) ([]) Fl.ro)), (10, (.int .i64 0)), (11, (.sl (.int .u8) (z) ([]) Fl.ro)), (12, (.int .i64 0)), (13, (.int .i64 (IntKind.wrap IntKind.i64 (w + 1)))), (14, (.int .i64 4)), (70, (.bool true)), (77, (.bool true))], [])) (.br (Int.tmod b 8 == 5) (.leaf (.normal, [(0, (.int .i64 a)), (1, (.int .i64 b)), (2, (.int .i64 n)), (6, (.bool false)), (7, (.sl (.int .u8) (x) ([]) Fl.ro)), (8, (.int .i64 0)), (9, (.sl (.int .u8) (y) ([]) Fl.ro)), (10, (.int .i64 0)), (11, (.sl (.int .u8) (z) ([]) Fl.ro)), (12, (.int .i64 0)), (13, (.int .i64 (IntKind.wrap IntKind.i64 (w + 1)))), (14, (.int .i64 4)), (70, (.bool true)), (77, (.bool true))], [])) (.leaf (.normal, [(0, (.int .i64 a)), (1, (.int .i64 b)), (2, (.int .i64 n)), (6, (.bool false)), (7, (.sl (.int .u8) (x) ([]) Fl.ro)), (8, (.int .i64 0)), (9, (.sl (.int .u8) (y) ([]) Fl.ro)), (10, (.int .i64 0)), (11, (.sl (.int .u8) (z) ([]) Fl.ro)), (12, (.int .i64 0)), (13, (.int .i64 w)), (14, (.int .i64 4)), (70, (.bool true)), (77, (.bool false))], [])))) (.leaf (.normal, [(0, (.int .i64 a)), (1, (.int .i64 b)), (2, (.int .i64 n)), (6, (.bool false)), (7, (.sl (.int .u8) (x) ([]) Fl.ro)), (8, (.int .i64 0)), (9, (.sl (.int .u8) (y) ([]) Fl.ro)), (10, (.int .i64 0)), (11, (.sl (.int .u8) (z) ([]) Fl.ro)), (12, (.int .i64 0)), (13, (.int .i64 (IntKind.wrap IntKind.i64 (w + 4)))), (14, (.int .i64 7)), (70, (.bool false))], []))) (.leaf (.normal, [(0, (.int .i64 a)), (1, (.int .i64 b)), (2, (.int .i64 n)), (6, (.bool false)), (7, (.sl (.int .u8) (x) ([]) Fl.ro)), (8, (.int .i64 0)), (9, (.sl (.int .u8) (y) ([]) Fl.ro)), (10, (.int .i64 0)), (11, (.sl (.int .u8) (z) ([]) Fl.ro)), (12, (.int .i64 0)), (13, (.int .i64 (IntKind.wrap IntKind.i64 (w + 4)))), (14, (.int .i64 7)), (70, (.bool false))], [])))

theorem formsW2_eq (a b n w : Int) (x y z : List Int) : (dcode cx8 (headN 1 (c2 (tailN 3 (c2 (tailN 1 (bodyOf Try.f8)))))) [(0, .int .i64 a), (1, .int .i64 b), (2, .int .i64 n), (6, .bool false), (7, .sl (.int .u8) x [] .ro), (8, .int .i64 0), (9, .sl (.int .u8) y [] .ro), (10, .int .i64 0), (11, .sl (.int .u8) z [] .ro), (12, .int .i64 0), (13, .int .i64 w)] []).run = (formsW2 a b n w x y z).run :=
  (show (dcode cx8 (headN 1 (c2 (tailN 3 (c2 (tailN 1 (bodyOf Try.f8)))))) [(0, .int .i64 a), (1, .int .i64 b), (2, .int .i64 n), (6, .bool false), (7, .sl (.int .u8) x [] .ro), (8, .int .i64 0), (9, .sl (.int .u8) y [] .ro), (10, .int .i64 0), (11, .sl (.int .u8) z [] .ro), (12, .int .i64 0), (13, .int .i64 w)] []).run = (formsW2 a b n w x y z).out by kernel_rfl).trans (Tree.out_run _)

def formsW3 (a b n w s : Int) (x y z : List Int) : Tree St :=
  (.br (↑(List.length x) == w) (.br (↑(List.length y) == s) (.leaf (.ret, [(0, (.int .i64 a)), (1, (.int .i64 b)), (2, (.int .i64 n)), (6, (.bool (↑(List.length z) == IntKind.wrap IntKind.i64 (1 + IntKind.wrap IntKind.i64 (Int.tdiv a 8))))), (7, (.sl (.int .u8) (x) ([]) Fl.ro)), (8, (.int .i64 0)), (9, (.sl (.int .u8) (y) ([]) Fl.ro)), (10, (.int .i64 0)), (11, (.sl (.int .u8) (z) ([]) Fl.ro)), (12, (.int .i64 0)), (13, (.int .i64 w)), (14, (.int .i64 s))], [])) (.leaf (.ret, [(0, (.int .i64 a)), (1, (.int .i64 b)), (2, (.int .i64 n)), (6, (.bool false)), (7, (.sl (.int .u8) (x) ([]) Fl.ro)), (8, (.int .i64 0)), (9, (.sl (.int .u8) (y) ([]) Fl.ro)), (10, (.int .i64 0)), (11, (.sl (.int .u8) (z) ([]) Fl.ro)), (12, (.int .i64 0)), (13, (.int .i64 w)), (14, (.int .i64 s))], []))) (.leaf (.ret, [(0, (.int .i64 a)), (1, (.int .i64 b)), (2, (.int .i64 n)), (6, (.bool false)), (7, (.sl (.int .u8) (x) ([]) Fl.ro)), (8, (.int .i64 0)), (9, (.sl (.int .u8) (y) ([]) Fl.ro)), (10, (.int .i64 0)), (11, (.sl (.int .u8) (z) ([]) Fl.ro)), (12, (.int .i64 0)), (13, (.int .i64 w)), (14, (.int .i64 s))], [])))

theorem formsW3_eq (a b n w s : Int) (x y z : List Int) : (dcode cx8 (tailN 1 (c2 (tailN 3 (c2 (tailN 1 (bodyOf Try.f8)))))) [(0, .int .i64 a), (1, .int .i64 b), (2, .int .i64 n), (6, .bool false), (7, .sl (.int .u8) x [] .ro), (8, .int .i64 0), (9, .sl (.int .u8) y [] .ro), (10, .int .i64 0), (11, .sl (.int .u8) z [] .ro), (12, .int .i64 0), (13, .int .i64 w), (14, .int .i64 s)] []).run = (formsW3 a b n w s x y z).run :=
  (show (dcode cx8 (tailN 1 (c2 (tailN 3 (c2 (tailN 1 (bodyOf Try.f8)))))) [(0, .int .i64 a), (1, .int .i64 b), (2, .int .i64 n), (6, .bool false), (7, .sl (.int .u8) x [] .ro), (8, .int .i64 0), (9, .sl (.int .u8) y [] .ro), (10, .int .i64 0), (11, .sl (.int .u8) z [] .ro), (12, .int .i64 0), (13, .int .i64 w), (14, .int .i64 s)] []).run = (formsW3 a b n w s x y z).out by kernel_rfl).trans (Tree.out_run _)


/-! The lengths. -/

abbrev nmMov : List UInt8 := [109, 111, 118, 46, 114, 109]
abbrev nmAdd : List UInt8 := [97, 100, 100, 46, 114, 105]
abbrev nmPush : List UInt8 := [112, 117, 115, 104]
theorem and7_all : ((List.range 16).all fun (k : Nat) => andi k 7 == Int.tmod k 8) = true := by kernel_rfl
theorem and7 {b : Int} (h0 : 0 ≤ b) (h1 : b ≤ 15) : andi b 7 = Int.tmod b 8 := by
  have := List.all_eq_true.1 and7_all b.toNat (List.mem_range.2 (by omega))
  have e : ((b.toNat : Nat) : Int) = b := Int.toNat_of_nonneg h0
  rw [e] at this
  exact eq_of_beq this
theorem reg_true {a : Int} (h0 : 0 ≤ a) (h1 : a ≤ 15) : regF a true = true := by
  unfold regF
  by_cases h : a = 0
  · subst h; rfl
  · rw [decide_eq_true (show 0 < a by omega), decide_eq_true h1]
    cases (a == 0) <;> rfl
theorem long_rng {n : Int} (h0 : -2147483648 ≤ n) (h1 : n < 2147483648) : decide (n < -2147483648) = false ∧ decide (2147483647 < n) = false := ⟨decide_eq_false (by omega), decide_eq_false (by omega)⟩

theorem movE {a b n : Int} (a0 : 0 ≤ a) (a1 : a ≤ 15) (b0 : 0 ≤ b) (b1 : b ≤ 15) (n0 : -2147483648 ≤ n) (n1 : n < 2147483648) : (encE (nmMov, a, b, 16, 0, n) == 0) = true := by
  have hb : placeF b 16 0 = true := by
    unfold placeF baseF
    rw [decide_eq_true b0, decide_eq_true b1]
    rfl
  obtain ⟨l1, l2⟩ := long_rng n0 n1
  have e : encE (nmMov, a, b, 16, 0, n) = cond (!(cond (regF a true) (placeF b 16 0) false)) 13 (cond (decide (n < -2147483648)) 3 (cond (decide (2147483647 < n)) 3 0)) := by kernel_rfl
  rw [e, reg_true a0 a1, hb, l1, l2]
  rfl
theorem addE {a n : Int} (a0 : 0 ≤ a) (a1 : a ≤ 15) (n0 : -2147483648 ≤ n) (n1 : n < 2147483648) : (encE (nmAdd, a, 0, 0, 0, n) == 0) = true := by
  obtain ⟨l1, l2⟩ := long_rng n0 n1
  have e : encE (nmAdd, a, 0, 0, 0, n) = cond (!(cond (regF a true) true false)) 13 (cond (decide (n < -2147483648)) 3 (cond (decide (2147483647 < n)) 3 0)) := by kernel_rfl
  rw [e, reg_true a0 a1, l1, l2]
  rfl
theorem pushE {a : Int} (a0 : 0 ≤ a) (a1 : a ≤ 15) : (encE (nmPush, a, 0, 0, 0, 0) == 0) = true := by
  have e : encE (nmPush, a, 0, 0, 0, 0) = cond (!(cond (regF a true) true false)) 13 0 := by kernel_rfl
  rw [e, reg_true a0 a1]
  rfl

theorem movL {a b n : Int} (b0 : 0 ≤ b) (b1 : b ≤ 15) :
    (encL (nmMov, a, b, 16, 0, n)).length = cond (Int.tmod b 8 != 4) 1 2 + cond (cond (n == 0) (Int.tmod b 8 != 5) false) 0 (cond (fitsF n) 1 4) + 1 + 1 := by
  have e : (encL (nmMov, a, b, 16, 0, n)).length = (memP a b 16 0 n).2.length + 1 + 1 := by kernel_rfl
  have h17 : (b == 17) = false := beq_eq_false_iff_ne.2 (by omega)
  rw [e, ← and7 b0 b1]
  unfold memP modP
  rw [h17]
  cases (andi b 7 != 4) <;> cases (n == 0) <;> cases (andi b 7 != 5) <;> cases fitsF n <;> rfl
theorem addL {a n : Int} : (encL (nmAdd, a, 0, 0, 0, n)).length = cond (fitsF n) 4 7 := by
  have e : (encL (nmAdd, a, 0, 0, 0, n)).length = (cond (fitsF n) (im1 n) (im4 n)).length + 1 + 1 + 1 := by kernel_rfl
  rw [e]
  cases fitsF n <;> rfl
theorem push_all : ((List.range 16).all fun (k : Nat) => ((encL (nmPush, k, 0, 0, 0, 0)).length : Int) == 1 + Int.tdiv k 8) = true := by kernel_rfl
theorem pushL {a : Int} (a0 : 0 ≤ a) (a1 : a ≤ 15) : ((encL (nmPush, a, 0, 0, 0, 0)).length : Int) = 1 + Int.tdiv a 8 := by
  have := List.all_eq_true.1 push_all a.toNat (List.mem_range.2 (by omega))
  have e : ((a.toNat : Nat) : Int) = a := Int.toNat_of_nonneg a0
  rw [e] at this
  exact eq_of_beq this

/-! The law. -/

theorem cxFo_ok : CxOk cx8 := cx1_ok (.cons begunS_ok (ok1 encodeF_ok)) (.nil _) rfl rfl
def formsQ (e : AEx) (t : T) (H : List O) : Prop := (e = .ret ∨ e = .normal) ∧ answerV Try.prog Try.f8.results.toList H t = some (.bool true)

/-- What the law wants. -/
theorem forms_end {a b n w s : Int} {x y z : List Int} (h1 : (x.length : Int) = w) (h2 : (y.length : Int) = s) (h3 : (z.length : Int) = 1 + Int.tdiv a 8) (a0 : 0 ≤ a) (a1 : a ≤ 15) :
    AWP Try.prog 112 (tailN 1 (c2 (tailN 3 (c2 (tailN 1 (bodyOf Try.f8)))))) formsQ [(0, .int .i64 a), (1, .int .i64 b), (2, .int .i64 n), (6, .bool false), (7, .sl (.int .u8) x [] .ro), (8, .int .i64 0), (9, .sl (.int .u8) y [] .ro), (10, .int .i64 0), (11, .sl (.int .u8) z [] .ro), (12, .int .i64 0), (13, .int .i64 w), (14, .int .i64 s)] [] := by
  refine AWP_code (cx := cx8) rfl rfl cxFo_ok _ _ _ _ (Tree.all_run_eq (formsW3_eq a b n w s x y z) ?_)
  have g1 : ((x.length : Int) == w) = true := beq_iff_eq.2 h1
  have g2 : ((y.length : Int) == s) = true := beq_iff_eq.2 h2
  have hd : Int.tdiv a 8 = a / 8 := Int.tdiv_eq_ediv_of_nonneg a0
  have g3 : ((z.length : Int) == IntKind.wrap .i64 (1 + IntKind.wrap .i64 (Int.tdiv a 8))) = true := by
    rw [wrap_i64 (n := Int.tdiv a 8) (by omega) (by omega), wrap_i64 (by omega) (by omega)]
    exact beq_iff_eq.2 h3
  refine all_t g1 (all_t g2 ⟨.inl rfl, ?_⟩)
  rw [g3]
  kernel_rfl

theorem forms_ok (a b n : Int) : PCall Try.prog 8 [.int .i64 a, .int .i64 b, .int .i64 n] (.bool true) := by
  refine pcall_of' (c := bodyOf Try.f8) (fn := Try.f8) (by kernel_rfl) (by kernel_rfl) (by kernel_rfl) (by kernel_rfl) ?_
  show AWP _ _ _ formsQ _ _
  refine AWP_headE (cx := cx8) rfl rfl cxFo_ok 1 (by kernel_rfl) (formsR_eq a b n) ?_
  show AWP _ _ _ _ _ _
  refine AWP.less (s := [(0, .int .i64 a), (1, .int .i64 b), (2, .int .i64 n), (6, .bool false)]) (Fits.tle ⟨rfl, rfl, rfl, rfl, trivial⟩) ?_
  have e : tailN 1 (bodyOf Try.f8) = .seq (c1 (tailN 1 (bodyOf Try.f8))) (c2 (tailN 1 (bodyOf Try.f8))) := by kernel_rfl
  rw [e]
  refine AWP_seq (AWP_code (cx := cx8) rfl rfl cxFo_ok _ _ _ _ (Tree.all_run_eq (formsC_eq a b n) ?_))
  have out : answerV Try.prog Try.f8.results.toList [] [(0, .int .i64 a), (1, .int .i64 b), (2, .int .i64 n), (6, .bool true), (38, .bool true)] = some (.bool true) := by kernel_rfl
  refine ⟨fun _ => ⟨.inl rfl, out⟩, fun a0 => ⟨fun _ => ⟨.inl rfl, out⟩, fun a1 => ⟨fun _ => ⟨.inl rfl, out⟩, fun b0 => ⟨fun _ => ⟨.inl rfl, out⟩, fun b1 => ⟨fun _ => ⟨.inl rfl, out⟩, fun n0 => ⟨fun _ => ⟨.inl rfl, out⟩, fun n1 => ?_⟩⟩⟩⟩⟩⟩
  have a0 : 0 ≤ a := by have := of_decide_eq_false a0; omega
  have a1 : a ≤ 15 := by have := of_decide_eq_false a1; omega
  have b0 : 0 ≤ b := by have := of_decide_eq_false b0; omega
  have b1 : b ≤ 15 := by have := of_decide_eq_false b1; omega
  have n0 : -2147483648 ≤ n := by have := of_decide_eq_false n0; omega
  have n1 : n < 2147483648 := by have := of_decide_eq_false n1; omega
  show AWP _ _ _ _ _ _
  refine AWP.less (s := [(0, .int .i64 a), (1, .int .i64 b), (2, .int .i64 n), (6, .bool false)]) (Fits.tle ⟨rfl, rfl, rfl, rfl, trivial⟩) ?_
  refine AWP_headE (cx := cx8) rfl rfl cxFo_ok 3 (by kernel_rfl) (formsE_eq a b n) ?_
  refine all_t (movE a0 a1 b0 b1 n0 n1) (all_t (addE a0 a1 n0 n1) (all_t (pushE a0 a1) ?_))
  have l1 := movL (a := a) (n := n) b0 b1
  have l2 := addL (a := a) (n := n)
  have l3 := pushL a0 a1
  generalize encL (nmMov, a, b, 16, 0, n) = x at l1
  generalize encL (nmAdd, a, 0, 0, 0, n) = y at l2
  generalize encL (nmPush, a, 0, 0, 0, 0) = z at l3
  show AWP _ _ _ _ _ _
  have e2 : tailN 3 (c2 (tailN 1 (bodyOf Try.f8))) = .seq (c1 (tailN 3 (c2 (tailN 1 (bodyOf Try.f8))))) (c2 (tailN 3 (c2 (tailN 1 (bodyOf Try.f8))))) := by kernel_rfl
  rw [e2]
  have mid : ∀ w : Int, w = cond (Int.tmod b 8 == 4) 4 3 → AWP Try.prog 112 (c2 (tailN 3 (c2 (tailN 1 (bodyOf Try.f8))))) formsQ [(0, .int .i64 a), (1, .int .i64 b), (2, .int .i64 n), (6, .bool false), (7, .sl (.int .u8) x [] .ro), (8, .int .i64 0), (9, .sl (.int .u8) y [] .ro), (10, .int .i64 0), (11, .sl (.int .u8) z [] .ro), (12, .int .i64 0), (13, .int .i64 w)] [] := by
    intro w hw
    have hw4 : w = 3 ∨ w = 4 := by rw [hw]; cases (Int.tmod b 8 == 4) <;> simp
    refine AWP_headE (cx := cx8) rfl rfl cxFo_ok 1 (by kernel_rfl) (formsW2_eq a b n w x y z) ?_
    have hx : (x.length : Int) = w + cond (cond (n == 0) (Int.tmod b 8 != 5) false) 0 (cond (fitsF n) 1 4) := by
      rw [l1, hw]
      have : (Int.tmod b 8 != 4) = !(Int.tmod b 8 == 4) := rfl
      rw [this]
      cases (Int.tmod b 8 == 4) <;> cases (cond (n == 0) (Int.tmod b 8 != 5) false) <;> cases fitsF n <;> rfl
    have w1 : IntKind.wrap .i64 (w + 1) = w + 1 := wrap_i64 (by omega) (by omega)
    have w4 : IntKind.wrap .i64 (w + 4) = w + 4 := wrap_i64 (by omega) (by omega)
    have fin : ∀ w2 s2, (x.length : Int) = w2 → (y.length : Int) = s2 → ∀ t, Fits t [(0, .int .i64 a), (1, .int .i64 b), (2, .int .i64 n), (6, .bool false), (7, .sl (.int .u8) x [] .ro), (8, .int .i64 0), (9, .sl (.int .u8) y [] .ro), (10, .int .i64 0), (11, .sl (.int .u8) z [] .ro), (12, .int .i64 0), (13, .int .i64 w2), (14, .int .i64 s2)] →
        AWP Try.prog 112 (tailN 1 (c2 (tailN 3 (c2 (tailN 1 (bodyOf Try.f8)))))) formsQ t [] := fun w2 s2 g1 g2 t ht => AWP.less (Fits.tle ht) (forms_end g1 g2 l3 a0 a1)
    refine ⟨fun m0 => ⟨fun m1 => ⟨fun z0 => ?_, fun z0 => ⟨fun f5 => ?_, fun f5 => ?_⟩⟩, fun m1 => ?_⟩, fun m0 => ?_⟩
    · have hf : fitsF n = true := by unfold fitsF; rw [m0]; exact m1
      have hz : (n == 0) = false := by simpa [bne] using z0
      exact fin (w + 1) 4 (by rw [hx, hf, hz]; rfl) (by rw [l2, hf]; rfl) _ ⟨rfl, rfl, rfl, rfl, rfl, rfl, rfl, rfl, rfl, rfl, congrArg (V.int .i64) w1, rfl, trivial⟩
    · have hf : fitsF n = true := by unfold fitsF; rw [m0]; exact m1
      have h5 : (Int.tmod b 8 != 5) = false := by simp only [bne, f5]; rfl
      exact fin (w + 1) 4 (by rw [hx, hf, h5]; cases (n == 0) <;> rfl) (by rw [l2, hf]; rfl) _ ⟨rfl, rfl, rfl, rfl, rfl, rfl, rfl, rfl, rfl, rfl, congrArg (V.int .i64) w1, rfl, trivial⟩
    · have hf : fitsF n = true := by unfold fitsF; rw [m0]; exact m1
      have hz : (n == 0) = true := by simpa [bne] using z0
      have h5 : (Int.tmod b 8 != 5) = true := by simp only [bne, f5]; rfl
      exact fin w 4 (by rw [hx, hz, h5]; exact Int.add_zero w) (by rw [l2, hf]; rfl) _ ⟨rfl, rfl, rfl, rfl, rfl, rfl, rfl, rfl, rfl, rfl, rfl, rfl, trivial⟩
    · have hf : fitsF n = false := by unfold fitsF; rw [m0]; exact m1
      have hz : (n == 0) = false := by have := of_decide_eq_false m1; exact beq_eq_false_iff_ne.2 (by omega)
      exact fin (w + 4) 7 (by rw [hx, hf, hz]; rfl) (by rw [l2, hf]; rfl) _ ⟨rfl, rfl, rfl, rfl, rfl, rfl, rfl, rfl, rfl, rfl, congrArg (V.int .i64) w4, rfl, trivial⟩
    · have hf : fitsF n = false := by unfold fitsF; rw [m0]; rfl
      have hz : (n == 0) = false := by have := of_decide_eq_false m0; exact beq_eq_false_iff_ne.2 (by omega)
      exact fin (w + 4) 7 (by rw [hx, hf, hz]; rfl) (by rw [l2, hf]; rfl) _ ⟨rfl, rfl, rfl, rfl, rfl, rfl, rfl, rfl, rfl, rfl, congrArg (V.int .i64) w4, rfl, trivial⟩
  have mid2 : ∀ w : Int, w = cond (Int.tmod b 8 == 4) 4 3 → ∀ t, Fits t [(0, .int .i64 a), (1, .int .i64 b), (2, .int .i64 n), (6, .bool false), (7, .sl (.int .u8) x [] .ro), (8, .int .i64 0), (9, .sl (.int .u8) y [] .ro), (10, .int .i64 0), (11, .sl (.int .u8) z [] .ro), (12, .int .i64 0), (13, .int .i64 w)] →
      AWP Try.prog 112 (c2 (tailN 3 (c2 (tailN 1 (bodyOf Try.f8))))) formsQ t [] := fun w hw t ht => AWP.less (Fits.tle ht) (mid w hw)
  refine AWP_seq (AWP_code (cx := cx8) rfl rfl cxFo_ok _ _ _ _ (Tree.all_run_eq (formsW1_eq a b n x y z) ?_))
  refine ⟨fun h4 => ?_, fun h4 => ?_⟩
  · exact mid2 4 (by rw [h4]; rfl) _ ⟨rfl, rfl, rfl, rfl, rfl, rfl, rfl, rfl, rfl, rfl, by kernel_rfl, trivial⟩
  · exact mid2 3 (by rw [h4]; rfl) _ ⟨rfl, rfl, rfl, rfl, rfl, rfl, rfl, rfl, rfl, rfl, rfl, trivial⟩

end Go.Amd
