/-
  compact: the document's number out of two bytes. Conditions: none.
-/
import Derived.Test.YtaedihkgdmaofaaDoorCmQ
namespace Go.Cmp
open Go Go.Ab Go.Proofs

/-- The context of foundry/foundryref1.Num. -/
noncomputable def cx78 : Cx := { P := Tryd.prog, n := 21, tab := [], mtab := [], refs := [], keeps := [0, 2, 3, 4, 9], fuel := 4 }
/-- The context of foundry/foundryref1.sized. -/
noncomputable def cx76 : Cx := { P := Tryd.prog, n := 17, tab := [], mtab := [], refs := [], keeps := [0, 2] }
def num2F (a b : Int) : Int := IntKind.wrap .u64 ↑(BitVec.toNat (BitVec.ofInt 64 (IntKind.wrap .u64 (IntKind.wrap .u64 ↑(BitVec.toNat (BitVec.ofInt 64 (IntKind.wrap .u64 (0 * 2 ^ 8)) ||| BitVec.ofInt 64 (IntKind.wrap .u64 b))) * 2 ^ 8)) ||| BitVec.ofInt 64 (IntKind.wrap .u64 a)))
theorem num2_eq (a b : Int) (sp : List Int) (fl : Fl) : (dfun cx78 Tryd.f78 [.sl (.int .u8) [a, b] sp fl]).fin = some (.int .u64 (num2F a b)) := by kernel_rfl
theorem sized2_eq : (dfun cx76 Tryd.f76 [.int .i64 2]).fin = some (.bool true) := by kernel_rfl
def numP (l : List Int) : Int := num2F (l.getD 0 0) (l.getD 1 0)
def sizedS : Ab.Spec := fun args => match args with
  | [.int .i64 n] => .req (n == 2) (.leaf (.bool true))
  | _ => .fail
theorem sizedS_ok : Sound Tryd.prog 76 sizedS := by
  intro args out h
  unfold sizedS at h
  split at h
  rotate_left
  · cases h
  obtain ⟨h1, h⟩ := req_run h
  have h := leaf_out h
  subst h
  rw [eq_of_beq h1]
  exact pcall_fun' (cx := cx76) (fn := Tryd.f76) (cx0_ok rfl rfl) (by kernel_rfl) (by kernel_rfl) (by kernel_rfl) ((Tree.fin_run _).symm.trans sized2_eq)
theorem num_ok (a b : Int) (sp : List Int) (fl : Fl) : PCall Tryd.prog 78 [.sl (.int .u8) [a, b] sp fl] (.int .u64 (numP [a, b])) :=
  pcall_fun' (cx := cx78) (fn := Tryd.f78) (out := .int .u64 (num2F a b)) (cx0_ok rfl rfl) (by kernel_rfl) (by kernel_rfl) rfl ((Tree.fin_run _).symm.trans (num2_eq a b sp fl))
theorem br_true {α : Type} {c : Bool} {x y : Tree α} (h : c = true) : (Tree.br c x y).run = x.run := by rw [h]; rfl
theorem two_of {l : List Int} (h : (l.length == 2) = true) : ∃ a b, l = [a, b] :=
  match l, eq_of_beq h with
  | [a, b], _ => ⟨a, b, rfl⟩
def numS : Ab.Spec := fun args => match args with
  | [.sl (.int .u8) l _ _] => .req (l.length == 2) (.leaf (.int .u64 (numP l)))
  | _ => .fail
theorem numS_ok : Sound Tryd.prog 78 numS := by
  intro args out h
  unfold numS at h
  split at h
  rotate_left
  · cases h
  rename_i l sp fl
  obtain ⟨h1, h⟩ := req_run h
  have h := leaf_out h
  subst h
  obtain ⟨a, b, e⟩ := two_of h1
  subst e
  exact num_ok a b sp fl

/-- The context of foundry/foundryref1.get. -/
noncomputable def cx53 : Cx := { P := Tryd.prog, n := 39, tab := [(76, sizedS), (78, numS)], mtab := [], refs := [], keeps := [0, 1, 2, 3, 8, 9, 10, 13, 21, 27, 34] }
def getXT (l sp : List Int) (_fl : Fl) (at_ : Int) : Tree V :=
  (.br (decide (at_ < 0)) (.leaf (.tup [(.int .u64 0), (.int .i64 5)])) (.br (decide (↑(List.length l) < at_)) (.leaf (.tup [(.int .u64 0), (.int .i64 5)])) (.br (decide (IntKind.wrap IntKind.i64 (↑(List.length l) - at_) < 2)) (.leaf (.tup [(.int .u64 0), (.int .i64 2)])) (.br (decide (0 ≤ at_) && decide (at_ ≤ IntKind.wrap IntKind.i64 (at_ + 2)) && decide (IntKind.wrap IntKind.i64 (at_ + 2) ≤ ↑(List.length l + List.length sp))) (.br (List.length (sub (l ++ sp) (Int.toNat at_) (Int.toNat (IntKind.wrap IntKind.i64 (at_ + 2)))) == 2) (.leaf (.tup [(.int .u64 (numP (sub (l ++ sp) (Int.toNat at_) (Int.toNat (IntKind.wrap IntKind.i64 (at_ + 2)))))), (.int .i64 0)])) .fail) .fail))))

theorem getXT_eq (l sp : List Int) (fl : Fl) (at_ : Int) : (dfun cx53 Tryd.f53 [.sl (.int .u8) l sp fl, .int .i64 at_, .int .i64 2, .bool false]).run = (getXT l sp fl at_).run :=
  (show (dfun cx53 Tryd.f53 [.sl (.int .u8) l sp fl, .int .i64 at_, .int .i64 2, .bool false]).run = (getXT l sp fl at_).out by kernel_rfl).trans (Tree.out_run _)


def uE (l : List Int) (at_ : Int) : Int := cond (outOf l at_) 5 (cond (shortOf l at_) 2 0)
def uV (l : List Int) (at_ : Int) : Int := cond (outOf l at_) 0 (cond (shortOf l at_) 0 (numP (sub l at_.toNat (at_.toNat + 2))))
theorem sub_left {l s : List Int} {a b : Nat} (h : b ≤ l.length) : sub (l ++ s) a b = sub l a b := by
  simp only [sub]
  rw [List.take_append_of_le_length h]
set_option maxRecDepth 8000 in
theorem getX_ok (l sp : List Int) (fl : Fl) (at_ : Int) (h3 : l.length < 1000000000) : PCall Tryd.prog 53 [.sl (.int .u8) l sp fl, .int .i64 at_, .int .i64 2, .bool false] (.tup [.int .u64 (uV l at_), .int .i64 (uE l at_)]) := by
  refine pcall_fun' (cx := cx53) (fn := Tryd.f53) (cx1_ok (.cons sizedS_ok (ok1 numS_ok)) (fun p h => by cases h) rfl rfl) (by kernel_rfl) (by kernel_rfl) (by kernel_rfl) ?_
  refine (getXT_eq l sp fl at_).trans ?_
  unfold getXT uV uE outOf shortOf
  cases g1 : decide (at_ < 0)
  rotate_left
  · rfl
  cases g2 : decide ((l.length : Int) < at_)
  rotate_left
  · rfl
  cases g3 : decide (IntKind.wrap IntKind.i64 ((l.length : Int) - at_) < 2)
  rotate_left
  · rfl
  have g1 := of_decide_eq_false g1
  have g2 := of_decide_eq_false g2
  have g3 := of_decide_eq_false g3
  rw [wrap_i64 (by omega) (by omega)] at g3
  have e : IntKind.wrap IntKind.i64 (at_ + 2) = at_ + 2 := wrap_i64 (by omega) (by omega)
  rw [e, show (at_ + 2).toNat = at_.toNat + 2 from by omega, sub_left (by omega)]
  have c1 : (decide (0 ≤ at_) && decide (at_ ≤ at_ + 2) && decide (at_ + 2 ≤ ((l.length + sp.length : Nat) : Int))) = true := by
    simp only [Bool.and_eq_true, decide_eq_true_eq]
    omega
  have c2 : ((sub l at_.toNat (at_.toNat + 2)).length == 2) = true := by
    refine beq_iff_eq.2 ?_
    simp only [sub, List.length_drop, List.length_take]
    omega
  rw [c1, c2]
  rfl
def getXS : Ab.Spec := fun args => match args with
  | [.sl (.int .u8) l _ _, .int .i64 at_, .int .i64 si, .bool big] => .req (decide (si = 2)) (.req (!big) (.req (decide (l.length < 1000000000)) (.leaf (.tup [.int .u64 (uV l at_), .int .i64 (uE l at_)]))))
  | _ => .fail
theorem getXS_ok : Sound Tryd.prog 53 getXS := by
  intro args out h
  unfold getXS at h
  split at h
  rotate_left
  · cases h
  obtain ⟨h1, h⟩ := req_run h
  obtain ⟨h2, h⟩ := req_run h
  obtain ⟨h3, h⟩ := req_run h
  have h := leaf_out h
  subst h
  have h1 := of_decide_eq_true h1
  have h2 := (Bool.not_eq_true' _).mp h2
  subst h1
  subst h2
  exact getX_ok _ _ _ _ (of_decide_eq_true h3)

/-- The context of foundry/foundryref1.U. -/
noncomputable def cx33 : Cx := { P := Tryd.prog, n := 14, tab := [(53, getXS)], mtab := [], refs := [], keeps := [0, 1, 2, 6, 7] }
def uXT (l _sp : List Int) (_fl : Fl) (at_ : Int) : Tree V :=
  (.br (decide (List.length l < 1000000000)) (.leaf (.tup [(.int .u64 (uV l at_)), (.int .i64 (uE l at_))])) .fail)

theorem uXT_eq (l sp : List Int) (fl : Fl) (at_ : Int) : (dfun cx33 Tryd.f33 [.sl (.int .u8) l sp fl, .int .i64 at_, .int .i64 2]).run = (uXT l sp fl at_).run :=
  (show (dfun cx33 Tryd.f33 [.sl (.int .u8) l sp fl, .int .i64 at_, .int .i64 2]).run = (uXT l sp fl at_).out by kernel_rfl).trans (Tree.out_run _)

def uS : Ab.Spec := fun args => match args with
  | [.sl (.int .u8) l _ _, .int .i64 at_, .int .i64 si] => .req (decide (si = 2)) (.req (decide (l.length < 1000000000)) (.leaf (.tup [.int .u64 (uV l at_), .int .i64 (uE l at_)])))
  | _ => .fail
theorem uS_ok : Sound Tryd.prog 33 uS := by
  intro args out h
  unfold uS at h
  split at h
  rotate_left
  · cases h
  rename_i l sp fl at_ si
  obtain ⟨h1, h⟩ := req_run h
  obtain ⟨h3, h⟩ := req_run h
  have h := leaf_out h
  subst h
  have h1 := of_decide_eq_true h1
  subst h1
  refine pcall_fun' (cx := cx33) (fn := Tryd.f33) (cx1_ok (ok1 getXS_ok) (fun p h => by cases h) rfl rfl) (by kernel_rfl) (by kernel_rfl) (by kernel_rfl) ((uXT_eq l sp fl at_).trans ?_)
  exact (br_true h3).trans rfl

theorem or64_nat {a b : Nat} (ha : a < 2 ^ 64) (hb : b < 2 ^ 64) : ((BitVec.toNat (BitVec.ofInt 64 (a : Int) ||| BitVec.ofInt 64 (b : Int)) : Nat) : Int) = ((a ||| b : Nat) : Int) := by
  rw [BitVec.toNat_or, BitVec.toNat_ofInt, BitVec.toNat_ofInt]
  congr 2 <;> omega
theorem num2F_eq {a b : Int} (ha : 0 ≤ a ∧ a < 256) (hb : 0 ≤ b ∧ b < 256) : num2F a b = a + 256 * b := by
  obtain ⟨A, rfl⟩ := Int.eq_ofNat_of_zero_le ha.1
  obtain ⟨B, rfl⟩ := Int.eq_ofNat_of_zero_le hb.1
  have w : ∀ n : Nat, n < 2 ^ 64 → IntKind.wrap .u64 (n : Int) = (n : Int) := fun n hn => by
    simp only [IntKind.wrap, IntKind.bits, IntKind.signed]
    simp
    omega
  unfold num2F
  have e0 : IntKind.wrap .u64 (0 * 2 ^ 8) = ((0 : Nat) : Int) := by decide
  rw [e0, w B (by omega), or64_nat (by omega) (by omega), Nat.zero_or, w B (by omega)]
  have e1 : (B : Int) * 2 ^ 8 = ((B * 2 ^ 8 : Nat) : Int) := by simp
  rw [e1, w (B * 2 ^ 8) (by omega), w A (by omega), or64_nat (by omega) (by omega), ← Nat.shiftLeft_eq, ← Nat.shiftLeft_add_eq_or_of_lt (by omega), Nat.shiftLeft_eq, w _ (by omega)]
  omega

end Go.Cmp
