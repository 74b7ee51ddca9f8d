/-
  ArmMasks: its call answers true. Conditions: none.
-/
import Derived.Test.YtffamklolgjjdaaAr18
namespace Go.Arm
open Go Go.Ab Go.Proofs Go.Wd

/-- The context of foundry/foundrylaw11.ArmMasks. -/
noncomputable def cx8 : Cx := { P := Try.prog, n := 84, tab := [(9, begunS), (10, encodeS), (15, decodeS)], mtab := [], refs := [], keeps := [0, 1, 2, 6, 7, 8, 10, 11, 12, 13, 15, 29, 59, 61] }
def masksT (m x y : Int) : Tree V :=
  (.br (decide (x < 0)) (.leaf (.bool true)) (.br (decide (y < 0)) (.leaf (.bool true)) (.br (decide (31 < x)) (.leaf (.bool true)) (.br (decide (31 < y)) (.leaf (.bool true)) (.br (encE ([101, 111, 114, 46, 105], x, y, 0, 0, IntKind.wrap IntKind.i64 m) == 0) (.br (encE ([111, 114, 114, 46, 105], x, y, 0, 0, IntKind.wrap IntKind.i64 (IntKind.wrap IntKind.u64 ↑(BitVec.toNat (BitVec.ofInt 64 (if false = true then -1 else IntKind.max IntKind.u64) ^^^ BitVec.ofInt 64 m)))) == 0) (.br (dE (bytes4 (encW ([101, 111, 114, 46, 105], x, y, 0, 0, IntKind.wrap IntKind.i64 m))) 0 == 0) (.br (dN (bytes4 (encW ([101, 111, 114, 46, 105], x, y, 0, 0, IntKind.wrap IntKind.i64 m))) 0 == 4) (.leaf (.bool (IntKind.wrap IntKind.u64 (Prod.snd (Prod.snd (Prod.snd (Prod.snd (Prod.snd (dI (bytes4 (encW ([101, 111, 114, 46, 105], x, y, 0, 0, IntKind.wrap IntKind.i64 m))) 0)))))) == m))) (.leaf (.bool false))) (.leaf (.bool false))) (.br (0 != encE ([111, 114, 114, 46, 105], x, y, 0, 0, IntKind.wrap IntKind.i64 (IntKind.wrap IntKind.u64 ↑(BitVec.toNat (BitVec.ofInt 64 (if false = true then -1 else IntKind.max IntKind.u64) ^^^ BitVec.ofInt 64 m))))) (.leaf (.bool false)) (.br (dE (bytes4 (encW ([101, 111, 114, 46, 105], x, y, 0, 0, IntKind.wrap IntKind.i64 m))) 0 == 0) (.br (dN (bytes4 (encW ([101, 111, 114, 46, 105], x, y, 0, 0, IntKind.wrap IntKind.i64 m))) 0 == 4) (.leaf (.bool (IntKind.wrap IntKind.u64 (Prod.snd (Prod.snd (Prod.snd (Prod.snd (Prod.snd (dI (bytes4 (encW ([101, 111, 114, 46, 105], x, y, 0, 0, IntKind.wrap IntKind.i64 m))) 0)))))) == m))) (.leaf (.bool false))) (.leaf (.bool false))))) (.br (encE ([111, 114, 114, 46, 105], x, y, 0, 0, IntKind.wrap IntKind.i64 (IntKind.wrap IntKind.u64 ↑(BitVec.toNat (BitVec.ofInt 64 (if false = true then -1 else IntKind.max IntKind.u64) ^^^ BitVec.ofInt 64 m)))) == 0) (.br (encE ([101, 111, 114, 46, 105], x, y, 0, 0, IntKind.wrap IntKind.i64 m) != 0) (.leaf (.bool false)) (.br (encE ([101, 111, 114, 46, 105], x, y, 0, 0, IntKind.wrap IntKind.i64 m) != 0) (.br (encE ([101, 111, 114, 46, 105], x, y, 0, 0, IntKind.wrap IntKind.i64 m) != 3) (.leaf (.bool false)) (.br (encE ([101, 111, 114, 46, 105], x, y, 0, 0, IntKind.wrap IntKind.i64 m) != 0) (.leaf (.bool true)) .fail)) (.br (encE ([101, 111, 114, 46, 105], x, y, 0, 0, IntKind.wrap IntKind.i64 m) != 0) (.leaf (.bool true)) .fail))) (.br (encE ([101, 111, 114, 46, 105], x, y, 0, 0, IntKind.wrap IntKind.i64 m) != encE ([111, 114, 114, 46, 105], x, y, 0, 0, IntKind.wrap IntKind.i64 (IntKind.wrap IntKind.u64 ↑(BitVec.toNat (BitVec.ofInt 64 (if false = true then -1 else IntKind.max IntKind.u64) ^^^ BitVec.ofInt 64 m))))) (.leaf (.bool false)) (.br (encE ([101, 111, 114, 46, 105], x, y, 0, 0, IntKind.wrap IntKind.i64 m) != 0) (.br (encE ([101, 111, 114, 46, 105], x, y, 0, 0, IntKind.wrap IntKind.i64 m) != 3) (.leaf (.bool false)) (.br (encE ([101, 111, 114, 46, 105], x, y, 0, 0, IntKind.wrap IntKind.i64 m) != 0) (.leaf (.bool true)) .fail)) (.br (encE ([101, 111, 114, 46, 105], x, y, 0, 0, IntKind.wrap IntKind.i64 m) != 0) (.leaf (.bool true)) .fail)))))))))

theorem masksT_eq (m x y : Int) : (dfun cx8 Try.f8 [.int .u64 m, .int .i64 x, .int .i64 y]).run = (masksT m x y).run :=
  (show (dfun cx8 Try.f8 [.int .u64 m, .int .i64 x, .int .i64 y]).run = (masksT m x y).out by kernel_rfl).trans (Tree.out_run _)


theorem wrap_i64_u64 (x : Int) : IntKind.wrap .u64 (IntKind.wrap .i64 x) = x % 18446744073709551616 := by
  have h : IntKind.wrap .i64 x = if x % 18446744073709551616 ≥ 9223372036854775808 then x % 18446744073709551616 - 18446744073709551616 else x % 18446744073709551616 := by
    simp [IntKind.wrap, IntKind.bits, IntKind.signed]
  rw [wrap_u64, h]
  split <;> omega
theorem wrap_i64_rng (x : Int) : -9223372036854775808 ≤ IntKind.wrap .i64 x ∧ IntKind.wrap .i64 x < 9223372036854775808 := by
  have h : IntKind.wrap .i64 x = if x % 18446744073709551616 ≥ 9223372036854775808 then x % 18446744073709551616 - 18446744073709551616 else x % 18446744073709551616 := by
    simp [IntKind.wrap, IntKind.bits, IntKind.signed]
  rw [h]
  split <;> omega

theorem u64N_wrap {m : Nat} (hm : m < 2 ^ 64) : u64N (IntKind.wrap .i64 (m : Int)) = m := by
  unfold u64N
  rw [wrap_i64_u64]
  omega

def xorI (m : Int) : Int := IntKind.wrap IntKind.u64 ↑(BitVec.toNat (BitVec.ofInt 64 (if false = true then -1 else IntKind.max IntKind.u64) ^^^ BitVec.ofInt 64 m))
theorem xorI_flip {m : Nat} (hm : m < 2 ^ 64) : xorI (m : Int) = ((flip m : Nat) : Int) := by
  unfold xorI flip
  have e : BitVec.ofInt 64 (if false = true then -1 else IntKind.max IntKind.u64) = BitVec.allOnes 64 := by decide
  rw [e, BitVec.allOnes_xor, BitVec.toNat_not, ofInt64_cast hm, wrap_u64]
  omega

theorem small_reg (k : Int) {x : Int} (h0 : 0 ≤ x) (h1 : x ≤ 31) : smallF (k, 5, 1, 1, 0, 31) x = true := by
  unfold smallF
  rw [show IntKind.wrap .i64 (k, (5 : Int), (1 : Int), (1 : Int), (0 : Int), (31 : Int)).2.2.2.2.1 = 0 from by show IntKind.wrap .i64 0 = 0; decide, show IntKind.wrap .i64 (k, (5 : Int), (1 : Int), (1 : Int), (0 : Int), (31 : Int)).2.2.2.2.2 = 31 from by show IntKind.wrap .i64 31 = 31; decide]
  rw [decide_eq_true h0, decide_eq_true h1]
  rfl

def EOR : List UInt8 := [101, 111, 114, 46, 105]
def ORR : List UInt8 := [111, 114, 114, 46, 105]
theorem fok_EOR : fok EOR = true := by kernel_rfl
theorem fok_ORR : fok ORR = true := by kernel_rfl
theorem frow_EOR : frow EOR = (EOR, 3523215360, (0, 5, 1, 1, 0, 31), (5, 5, 1, 1, 0, 31), zeroN, zeroN, maskNm, [65, 66, 105]) := by kernel_rfl
theorem frow_ORR : frow ORR = (ORR, 2986344448, (0, 5, 1, 1, 0, 31), (5, 5, 1, 1, 0, 31), zeroN, zeroN, maskNm, [65, 66, 105]) := by kernel_rfl

theorem logic_E {nm : List UInt8} {w x y n : Int} (h1 : fok nm = true) (h2 : frow nm = (nm, w, (0, 5, 1, 1, 0, 31), (5, 5, 1, 1, 0, 31), zeroN, zeroN, maskNm, [65, 66, 105])) (hx : 0 ≤ x ∧ x ≤ 31) (hy : 0 ≤ y ∧ y ≤ 31) :
    encE (nm, x, y, 0, 0, n) = cond (ofOk (u64N n)) 0 3 := by
  unfold encE
  simp only
  rw [h1, h2, cond_true]
  unfold faultyF
  simp only
  rw [small_reg 0 hx.1 hx.2, small_reg 5 hy.1 hy.2, show smallF zeroN 0 = true from by decide]
  show numE2 maskNm n = _
  show cond (!ofOk (u64N n)) 3 0 = _
  cases ofOk (u64N n) <;> rfl

theorem back_own0 {i : InsT} (hr : InRng i) (h : (encE i == 0) = true) : dE (bytes4 (encW i)) 0 = 0 ∧ dI (bytes4 (encW i)) 0 = i ∧ dN (bytes4 (encW i)) 0 = 4 := by
  have hb : Bytes [] := fun x hx => by cases hx
  have := back_dec (i := i) (p := []) (s := []) hr h hb hb (Nat.zero_le _) (Nat.zero_le _)
  simpa using this

theorem masks_ok {m : Nat} (hm : m < 2 ^ 64) (x y : Int) : PCall Try.prog 8 [.int .u64 (m : Int), .int .i64 x, .int .i64 y] (.bool true) := by
  refine pcall_fun' (cx := cx8) (fn := Try.f8) (cx1_ok (.cons begunS_ok (.cons encodeS_ok (ok1 decodeS_ok))) (.nil _) rfl rfl) (by kernel_rfl) (by kernel_rfl) (by kernel_rfl) ?_
  refine (masksT_eq m x y).trans ?_
  unfold masksT
  by_cases g1 : x < 0
  · exact br_t (decide_eq_true g1)
  refine (br_f (decide_eq_false g1)).trans ?_
  by_cases g2 : y < 0
  · exact br_t (decide_eq_true g2)
  refine (br_f (decide_eq_false g2)).trans ?_
  by_cases g3 : 31 < x
  · exact br_t (decide_eq_true g3)
  refine (br_f (decide_eq_false g3)).trans ?_
  by_cases g4 : 31 < y
  · exact br_t (decide_eq_true g4)
  refine (br_f (decide_eq_false g4)).trans ?_
  have hx : 0 ≤ x ∧ x ≤ 31 := by omega
  have hy : 0 ≤ y ∧ y ≤ 31 := by omega
  have hf : flip m < 2 ^ 64 := by unfold flip; omega
  have E1 : encE ([101, 111, 114, 46, 105], x, y, 0, 0, IntKind.wrap IntKind.i64 (m : Int)) = cond (ofOk m) 0 3 := by
    rw [show encE ([101, 111, 114, 46, 105], x, y, 0, 0, IntKind.wrap IntKind.i64 (m : Int)) = _ from logic_E fok_EOR frow_EOR hx hy, u64N_wrap hm]
  have E2 : encE ([111, 114, 114, 46, 105], x, y, 0, 0, IntKind.wrap IntKind.i64 (xorI (m : Int))) = cond (ofOk m) 0 3 := by
    rw [show encE ([111, 114, 114, 46, 105], x, y, 0, 0, IntKind.wrap IntKind.i64 (xorI (m : Int))) = _ from logic_E fok_ORR frow_ORR hx hy, xorI_flip hm, u64N_wrap hf, flip_ok hm]
  unfold xorI at E2
  rw [E1, E2]
  cases ho : ofOk m
  · rfl
  · rw [ho] at E1
    obtain ⟨b1, b2, b3⟩ := back_own0 (i := ([101, 111, 114, 46, 105], x, y, 0, 0, IntKind.wrap IntKind.i64 (m : Int))) (wrap_i64_rng _) (by rw [E1]; rfl)
    rw [b1, b2, b3]
    show some (V.bool (IntKind.wrap IntKind.u64 (IntKind.wrap IntKind.i64 (m : Int)) == (m : Int))) = _
    rw [wrap_i64_u64, show (m : Int) % 18446744073709551616 = m from by omega, beq_self_eq_true]

end Go.Arm
