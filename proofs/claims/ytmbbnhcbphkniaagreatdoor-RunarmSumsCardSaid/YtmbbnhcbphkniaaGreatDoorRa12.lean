/-
  runarm: the law Sums. Conditions: none.
-/
import Derived.Test.YtmbbnhcbphkniaaGreatDoorRa11
import Derived.Test.YtmbbnhcbphkniaaGreatDoorRa9
import Derived.Test.YtmbbnhcbphkniaaGreatDoorEnJ
namespace Go.Ra
open Go Go.Ab Go.Proofs

noncomputable def suT : Tabs := { tab := [(10, begunS)], mtab := [(14, sumM), (13, newM)] }
theorem suT_ok : suT.Ok Tryz.prog := ⟨ok1 begunS_ok, (.cons sumM_ok (.cons newM_ok fun p h => by cases h)), .nil _, fun p h => by cases h⟩
noncomputable def suR_ps : List Fi := [⟨11, Tryz.f11, [0, 1, 2, 4, 5, 6, 10, 15, 19, 24, 28, 33, 37, 42, 51, 60, 67, 74, 86], [], 0, []⟩]
theorem suR_ps_ok : FisOk Tryz.prog suR_ps := ⟨⟨by kernel_rfl, by kernel_rfl⟩, trivial⟩
noncomputable def suR_ms : List Fi := []
theorem suR_ms_ok : FisOk Tryz.prog suR_ms := trivial
noncomputable def suR (d : Nat) : Tabs := deep Tryz.prog suT suR_ps suR_ms d
noncomputable def cxSu : Cx := { P := Tryz.prog, n := Tryz.f4.ntmps, tab := (suR 1).tab, mtab := (suR 1).mtab, refs := [], keeps := [0, 1, 2, 6, 7, 8, 9, 11, 12, 15, 17, 19, 25, 95] }
theorem cxSu_ok : CxOk cxSu := deep_ok suT_ok suR_ps_ok suR_ms_ok 1
def finU (a r : Int) : Option V := cond (isSum ubfmN 3 0 r 63) (cond (decide (0 ≤ IntKind.wrap .u64 r)) (cond (ubF r a == Int.fdiv a (2 ^ (min (IntKind.wrap .u64 r).toNat 64))) (some (.bool (lslF (ubF r a) 0 == ubF r a))) (some (.bool false))) none) none
def suNo : Option V := some (.bool false)
def suT2 (a b r : Int) : Option V := cond (!((subN a b == subV a b) == decide (IntKind.wrap .i64 b ≤ IntKind.wrap .i64 a))) suNo
  (cond (!subZ a b) (cond (!((subN a b == subV a b) == decide (IntKind.wrap .i64 b < IntKind.wrap .i64 a))) suNo (finU a r)) (cond (!(false == decide (IntKind.wrap .i64 b < IntKind.wrap .i64 a))) suNo (finU a r)))
def suS (a b r : Int) : Option V := cond (decide (r < 0)) (some (.bool true)) (cond (decide (63 < r)) (some (.bool true)) (cond (subReq a b) (cond (subF a b != IntKind.wrap .u64 (a - b)) suNo
  (cond (!(subZ a b == (a == b))) suNo (cond (!(subC a b == decide (b ≤ a))) suNo (cond (subC a b) (cond (!((!subZ a b) == decide (b < a))) suNo (suT2 a b r)) (cond (!(false == decide (b < a))) suNo (suT2 a b r)))))) none))
theorem su_eq (a b r : Int) : (dfun cxSu Tryz.f4 [.int .u64 a, .int .u64 b, .int .i64 r]).fin = suS a b r := by kernel_rfl

/-! Plainly -/

theorem wrap_u (y : Int) : IntKind.wrap .u64 y = y % 18446744073709551616 := rfl
theorem wrap_s {y : Int} (h0 : 0 ≤ y) (h1 : y < 18446744073709551616) : IntKind.wrap .i64 y = if y < 9223372036854775808 then y else y - 18446744073709551616 := by
  have e : IntKind.wrap .i64 y = if 9223372036854775808 ≤ y % 18446744073709551616 then y % 18446744073709551616 - 18446744073709551616 else y % 18446744073709551616 := by
    unfold IntKind.wrap
    simp [IntKind.bits, IntKind.signed]
  rw [e, Int.emod_eq_of_lt h0 h1]
  split <;> split <;> omega
theorem neg_iff {y : Int} (h0 : 0 ≤ y) (h1 : y < 18446744073709551616) : decide (IntKind.wrap .i64 y < 0) = decide (9223372036854775808 ≤ y) := by
  rw [wrap_s h0 h1]
  by_cases h : y < 9223372036854775808
  · rw [if_pos h, decide_eq_false (by omega), decide_eq_false (by omega)]
  · rw [if_neg h, decide_eq_true (by omega), decide_eq_true (by omega)]
theorem msb_nat (X : B64) : decide (IntKind.wrap .i64 ((X.toNat : Nat) : Int) < 0) = X.msb := by
  rw [neg_iff (by omega) (by have := X.isLt; omega), BitVec.msb_eq_decide]
  by_cases h : 2 ^ (64 - 1) ≤ X.toNat
  · rw [decide_eq_true h, decide_eq_true (by omega)]
  · rw [decide_eq_false h, decide_eq_false (by omega)]
theorem msb_int {y : Int} (h0 : 0 ≤ y) (h1 : y < 18446744073709551616) : (BitVec.ofInt 64 y).msb = decide (9223372036854775808 ≤ y) := by
  rw [← msb_nat, BitVec.toNat_ofInt]
  have : ((y % ((2 ^ 64 : Nat) : Int)).toNat : Int) = y := by omega
  rw [this, neg_iff h0 h1]
section
variable {a b : Int} (a0 : 0 ≤ a) (a1 : a < 18446744073709551616) (b0 : 0 ≤ b) (b1 : b < 18446744073709551616)
include a0 a1 b0 b1
omit a0 a1 in
theorem b_same : IntKind.wrap .u64 (b * 2 ^ 0) = b := by
  rw [wrap_u]
  omega
omit a0 a1 in
theorem sub_eq : subF a b = (a - b) % 18446744073709551616 := by
  unfold subF
  rw [b_same b0 b1]
  omega
theorem sub_z : subZ a b = (a == b) := by
  unfold subZ
  rw [sub_eq b0 b1]
  by_cases h : a = b
  · rw [beq_iff_eq.2 (show (a - b) % 18446744073709551616 = 0 by omega), beq_iff_eq.2 h]
  · rw [beq_eq_false_iff_ne.2 (show (a - b) % 18446744073709551616 ≠ 0 by omega), beq_eq_false_iff_ne.2 h]
omit a0 a1 in
theorem sub_c : subC a b = decide (b ≤ a) := by
  unfold subC
  rw [b_same b0 b1]
  by_cases h : a < b
  · rw [decide_eq_true (show a < b + 0 by omega), decide_eq_false (show ¬ b ≤ a by omega)]
    rfl
  · rw [decide_eq_false (show ¬ a < b + 0 by omega), decide_eq_true (show b ≤ a by omega)]
    rfl
theorem sub_nv : (subN a b == subV a b) = decide (IntKind.wrap .i64 b ≤ IntKind.wrap .i64 a) := by
  have x0 : 0 ≤ subF a b ∧ subF a b < 18446744073709551616 := by
    rw [sub_eq b0 b1]
    omega
  have hv : subV a b = ((decide (9223372036854775808 ≤ a) ^^ decide (9223372036854775808 ≤ b)) && (decide (9223372036854775808 ≤ a) ^^ decide (9223372036854775808 ≤ subF a b))) := by
    unfold subV
    rw [b_same b0 b1, wrap_nat, wrap_nat, wrap_nat, ofInt_toNat, ofInt_toNat, msb_nat, BitVec.msb_and, BitVec.msb_xor, BitVec.msb_xor, msb_int a0 a1, msb_int b0 b1, msb_int x0.1 x0.2]
  rw [hv]
  unfold subN
  rw [neg_iff x0.1 x0.2, wrap_s a0 a1, wrap_s b0 b1, sub_eq b0 b1]
  by_cases h1 : 9223372036854775808 ≤ a <;> by_cases h2 : 9223372036854775808 ≤ b <;> by_cases h3 : 9223372036854775808 ≤ (a - b) % 18446744073709551616
  all_goals
    first | rw [decide_eq_true h1] | rw [decide_eq_false h1]
    first | rw [decide_eq_true h2] | rw [decide_eq_false h2]
    first | rw [decide_eq_true h3] | rw [decide_eq_false h3]
    first | rw [if_pos (show a < 9223372036854775808 by omega)] | rw [if_neg (show ¬ a < 9223372036854775808 by omega)]
    first | rw [if_pos (show b < 9223372036854775808 by omega)] | rw [if_neg (show ¬ b < 9223372036854775808 by omega)]
    first
      | (rw [decide_eq_true (by omega)]; rfl)
      | (rw [decide_eq_false (by omega)]; rfl)
omit a0 a1 b0 b1 in
theorem isSum_ub {r : Int} (r0 : 0 ≤ r) (r1 : r ≤ 63) : isSum ubfmN 3 0 r 63 = true := by
  unfold isSum
  refine List.any_eq_true.2 ⟨(ubfmN, 3, 0, r, 63), ?_, ?_⟩
  · unfold sumL ubfmL
    refine List.mem_cons_of_mem _ (List.mem_cons_of_mem _ (List.mem_map.2 ⟨r.toNat, List.mem_range.2 (by omega), ?_⟩))
    have : ((r.toNat : Nat) : Int) = r := by omega
    rw [this]
  · simp [strEq]
omit b0 b1 in
theorem ub_eq {r : Int} (r0 : 0 ≤ r) (r1 : r ≤ 63) : ubF r a = Int.fdiv a (2 ^ r.toNat) ∧ 0 ≤ Int.fdiv a (2 ^ r.toNat) ∧ Int.fdiv a (2 ^ r.toNat) < 18446744073709551616 := by
  have hr : r.toNat ≤ 63 := by omega
  unfold ubF
  generalize r.toNat = k at hr
  have hp : (0 : Int) < 2 ^ k := Int.pow_pos (by decide)
  have e : ∀ y : Int, Int.fdiv y (2 ^ k) = y / 2 ^ k := fun y => Int.fdiv_eq_ediv_of_nonneg _ (Int.le_of_lt hp)
  have q0 : 0 ≤ a / 2 ^ k := Int.ediv_nonneg a0 (Int.le_of_lt hp)
  have q1 : a / 2 ^ k ≤ a := Int.ediv_le_self _ a0
  have q2 : a / 2 ^ k * 2 ^ k ≤ a := Int.ediv_mul_le a (Int.ne_of_gt hp)
  have q3 : 0 ≤ a / 2 ^ k * 2 ^ k := Int.mul_nonneg q0 (Int.le_of_lt hp)
  refine ⟨?_, by rw [e]; exact q0, by rw [e]; omega⟩
  rw [e, wrap_u, wrap_u, e, Int.emod_eq_of_lt q3 (by omega), Int.mul_ediv_cancel _ (Int.ne_of_gt hp)]
  omega
omit b0 b1 in
theorem finU_true {r : Int} (r0 : 0 ≤ r) (r1 : r ≤ 63) : finU a r = some (.bool true) := by
  unfold finU
  obtain ⟨h1, h2, h3⟩ := ub_eq a0 a1 r0 r1
  have hw : IntKind.wrap .u64 r = r := by rw [wrap_u]; omega
  rw [isSum_ub r0 r1, cond_true, hw, decide_eq_true r0, cond_true, Nat.min_eq_left (by omega), h1, beq_self_eq_true, cond_true]
  have hl : lslF (Int.fdiv a (2 ^ r.toNat)) 0 = Int.fdiv a (2 ^ r.toNat) := by
    unfold lslF
    have : (min (IntKind.wrap .u64 (((BitVec.ofInt 64 0 &&& BitVec.ofInt 64 63).toNat : Nat) : Int)).toNat 64) = 0 := rfl
    rw [this, wrap_u]
    omega
  rw [hl, beq_self_eq_true]
theorem suS_true (r : Int) : suS a b r = some (.bool true) := by
  unfold suS
  by_cases r0 : r < 0
  · rw [decide_eq_true r0]; rfl
  rw [decide_eq_false r0, cond_false]
  by_cases r1 : 63 < r
  · rw [decide_eq_true r1]; rfl
  rw [decide_eq_false r1, cond_false]
  have hq : subReq a b = true := by
    unfold subReq
    rw [b_same b0 b1, decide_eq_true a0, decide_eq_true a1, decide_eq_true b0, decide_eq_true b1]
    rfl
  have hT : suT2 a b r = some (.bool true) := by
    unfold suT2
    rw [sub_nv a0 a1 b0 b1, beq_self_eq_true, Bool.not_true, cond_false, sub_z a0 a1 b0 b1, finU_true a0 a1 (by omega) (by omega), wrap_s a0 a1, wrap_s b0 b1]
    by_cases h : a = b
    · subst h
      rw [beq_self_eq_true, Bool.not_true, cond_false, decide_eq_false (by omega)]
      rfl
    · have hk : decide ((if b < 9223372036854775808 then b else b - 18446744073709551616) ≤ (if a < 9223372036854775808 then a else a - 18446744073709551616)) =
          decide ((if b < 9223372036854775808 then b else b - 18446744073709551616) < (if a < 9223372036854775808 then a else a - 18446744073709551616)) := decide_eq_decide.2 (by split <;> split <;> omega)
      rw [beq_eq_false_iff_ne.2 h, Bool.not_false, cond_true, hk, beq_self_eq_true]
      rfl
  rw [hq, cond_true, sub_eq b0 b1, wrap_u, bne_self_eq_false, cond_false, sub_z a0 a1 b0 b1, beq_self_eq_true, Bool.not_true, cond_false, sub_c b0 b1, beq_self_eq_true, Bool.not_true, cond_false, hT]
  by_cases h : a = b
  · subst h
    rw [beq_self_eq_true, decide_eq_true (Int.le_refl a), decide_eq_false (Int.lt_irrefl a)]
    rfl
  · rw [beq_eq_false_iff_ne.2 h]
    by_cases g : b ≤ a
    · rw [decide_eq_true g, decide_eq_true (show b < a by omega)]
      rfl
    · rw [decide_eq_false g, decide_eq_false (show ¬ b < a by omega)]
      rfl
end

theorem su_run {a b : Int} (a0 : 0 ≤ a) (a1 : a < 18446744073709551616) (b0 : 0 ≤ b) (b1 : b < 18446744073709551616) (r : Int) : (dfun cxSu Tryz.f4 [.int .u64 a, .int .u64 b, .int .i64 r]).run = some (.bool true) := by
  rw [← Tree.fin_run, su_eq]
  exact suS_true a0 a1 b0 b1 r
theorem sums_call (x : EC.tys [.int .u64, .int .u64, .int .i64]) (h : okEs [.int .u64, .int .u64, .int .i64] x) : PCall Tryz.prog 4 (argVs [.int .u64, .int .u64, .int .i64] x) (.bool true) := by
  have h1 : IntKind.u64.has x.1 := h.1
  have h2 : IntKind.u64.has x.2.1 := h.2.1
  have e1 : IntKind.u64.min = 0 ∧ IntKind.u64.max = 18446744073709551616 - 1 := ⟨rfl, rfl⟩
  unfold IntKind.has at h1 h2
  rw [e1.1, e1.2] at h1 h2
  obtain ⟨a1, a2⟩ := h1
  obtain ⟨b1, b2⟩ := h2
  exact pcall_fun' (cx := cxSu) (fn := Tryz.f4) cxSu_ok (by kernel_rfl) (by kernel_rfl) (by kernel_rfl) (su_run (a := x.1) (b := x.2.1) a1 (Int.lt_of_le_sub_one a2) b1 (Int.lt_of_le_sub_one b2) x.2.2)

end Go.Ra
