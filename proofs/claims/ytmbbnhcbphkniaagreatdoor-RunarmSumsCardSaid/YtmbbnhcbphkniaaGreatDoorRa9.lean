/-
  runarm: Moves, plainly: the bits of any number come together. Conditions: none.
-/
import Derived.Test.YtmbbnhcbphkniaaGreatDoorRa8
namespace Go.Ra
open Go Go.Ab Go.Proofs

abbrev B64 := BitVec 64
def mB (e : Nat) : B64 := 65535#64 <<< e

theorem wrap_nat (x : B64) : IntKind.wrap .u64 ((x.toNat : Nat) : Int) = (x.toNat : Int) := by
  have h : IntKind.wrap .u64 ((x.toNat : Nat) : Int) = ((x.toNat : Nat) : Int) % 2 ^ 64 := rfl
  rw [h, Int.emod_eq_of_lt (by omega) (by have := x.isLt; omega)]
theorem ofInt_toNat (x : B64) : BitVec.ofInt 64 ((x.toNat : Nat) : Int) = x := by
  rw [BitVec.ofInt_natCast, BitVec.ofNat_toNat, BitVec.setWidth_eq]
theorem fdiv_shift {n : Int} (h0 : 0 ≤ n) (h1 : n < 2 ^ 64) (e : Nat) : BitVec.ofInt 64 (Int.fdiv n (2 ^ e)) = BitVec.ofInt 64 n >>> e := by
  obtain ⟨m, rfl⟩ := Int.eq_ofNat_of_zero_le h0
  have e1 : Int.fdiv ((m : Nat) : Int) (2 ^ e) = ((m / 2 ^ e : Nat) : Int) := by
    have : (2 : Int) ^ e = ((2 ^ e : Nat) : Int) := by simp
    rw [this, Int.fdiv_eq_ediv_of_nonneg _ (Int.natCast_nonneg _)]
    rfl
  rw [e1, BitVec.ofInt_natCast, BitVec.ofInt_natCast]
  apply BitVec.eq_of_toNat_eq
  have hm : m < 2 ^ 64 := by omega
  have hd : m / 2 ^ e < 2 ^ 64 := Nat.lt_of_le_of_lt (Nat.div_le_self _ _) hm
  rw [BitVec.toNat_ofNat, BitVec.toNat_ushiftRight, BitVec.toNat_ofNat, Nat.mod_eq_of_lt hd, Nat.mod_eq_of_lt hm, Nat.shiftRight_eq_div_pow]
theorem digit_lt (x : B64) : (x &&& 65535#64).toNat < 65536 := by
  rw [BitVec.toNat_and]
  exact Nat.lt_of_le_of_lt Nat.and_le_right (by decide)
section
variable {n : Int} (h0 : 0 ≤ n) (h1 : n < 2 ^ 64)
include h0 h1
theorem mF_eq (e : Nat) : mF e n = (((BitVec.ofInt 64 n >>> e) &&& 65535#64).toNat : Int) := by
  unfold mF
  rw [fdiv_shift h0 h1 e]
  show IntKind.wrap .i64 (IntKind.wrap .u64 ((((BitVec.ofInt 64 n >>> e) &&& 65535#64).toNat : Nat) : Int)) = _
  rw [wrap_nat]
  have := digit_lt (BitVec.ofInt 64 n >>> e)
  exact wrap_i64 (by omega) (by omega)
theorem rngF_true (e : Nat) : rngF e n = true := by
  unfold rngF
  rw [mF_eq h0 h1]
  have := digit_lt (BitVec.ofInt 64 n >>> e)
  rw [decide_eq_true (by omega), decide_eq_true (by omega)]
  rfl
theorem put_bits {d : Nat} (hd : d < 4) : BitVec.ofInt 64 (IntKind.wrap .u64 (IntKind.wrap .u64 (mF (16 * d) n) * pw (d : Int))) = BitVec.ofInt 64 n &&& mB (16 * d) := by
  rw [mF_eq h0 h1, wrap_nat]
  have hp : pw (d : Int) = ((2 ^ (16 * d) : Nat) : Int) := by
    unfold pw
    have : ((16 : Int) * (d : Int)).toNat = 16 * d := by omega
    rw [this]
    simp
  rw [hp, ← Int.natCast_mul]
  have hw : ∀ m : Nat, BitVec.ofInt 64 (IntKind.wrap .u64 ((m : Nat) : Int)) = BitVec.ofNat 64 m := by
    intro m
    have h : IntKind.wrap .u64 ((m : Nat) : Int) = ((m : Nat) : Int) % 2 ^ 64 := rfl
    rw [h]
    have : ((m : Nat) : Int) % 2 ^ 64 = ((m % 2 ^ 64 : Nat) : Int) := by simp
    rw [this, BitVec.ofInt_natCast]
    apply BitVec.eq_of_toNat_eq
    simp
  rw [hw]
  have hs : BitVec.ofNat 64 (((BitVec.ofInt 64 n >>> (16 * d)) &&& 65535#64).toNat * 2 ^ (16 * d)) = ((BitVec.ofInt 64 n >>> (16 * d)) &&& 65535#64) <<< (16 * d) := by
    apply BitVec.eq_of_toNat_eq
    rw [BitVec.toNat_ofNat, BitVec.toNat_shiftLeft, Nat.shiftLeft_eq]
  rw [hs]
  generalize BitVec.ofInt 64 n = N
  unfold mB
  apply BitVec.eq_of_getLsbD_eq
  intro i hi
  simp only [BitVec.getLsbD_shiftLeft, BitVec.getLsbD_and, BitVec.getLsbD_ushiftRight]
  by_cases h : i < 16 * d
  · simp [h]
  · have e : 16 * d + (i - 16 * d) = i := by omega
    rw [e]
    simp only [hi, h, decide_true, decide_false, Bool.not_false, Bool.true_and]
theorem movz_eq {d : Nat} (hd : d < 4) : movzF (d : Int) (mF (16 * d) n) = ((BitVec.ofInt 64 n &&& mB (16 * d)).toNat : Int) := by
  rw [← put_bits h0 h1 hd]
  unfold movzF
  generalize IntKind.wrap .u64 (mF (16 * d) n) * pw (d : Int) = y
  have h : IntKind.wrap .u64 y = y % 2 ^ 64 := rfl
  rw [BitVec.toNat_ofInt, h]
  omega
omit h0 h1 in
theorem mask_eq {d : Nat} (hd : d < 4) : BitVec.ofInt 64 (IntKind.wrap .u64 (65535 * pw (d : Int))) = mB (16 * d) := by
  match d, hd with
  | 0, _ => rfl
  | 1, _ => rfl
  | 2, _ => rfl
  | 3, _ => rfl
theorem movk_eq {d : Nat} (hd : d < 4) (X : B64) : movkF (d : Int) ((X.toNat : Nat) : Int) (mF (16 * d) n) = (((X &&& ~~~mB (16 * d)) ||| (BitVec.ofInt 64 n &&& mB (16 * d))).toNat : Int) := by
  unfold movkF
  rw [put_bits h0 h1 hd, mask_eq hd, ofInt_toNat, wrap_nat, wrap_nat, ofInt_toNat]
theorem movn_eq {d : Nat} (hd : d < 4) : movnF (d : Int) (mF (16 * d) n) = ((BitVec.ofInt 64 (IntKind.max .u64) ^^^ (BitVec.ofInt 64 n &&& mB (16 * d))).toNat : Int) := by
  unfold movnF
  rw [put_bits h0 h1 hd, wrap_nat]
theorem last_true {f : Nat} (hf : f < 4) : lastM f n = true := by
  unfold lastM
  rw [movn_eq h0 h1 hf]
  have hm : BitVec.ofInt 64 (IntKind.wrap .u64 (65535 * 2 ^ (16 * f))) = mB (16 * f) := by
    match f, hf with
    | 0, _ => rfl
    | 1, _ => rfl
    | 2, _ => rfl
    | 3, _ => rfl
  rw [hm, wrap_nat, wrap_nat, ofInt_toNat]
  simp
end

theorem comb (N A B : B64) : (N &&& A) &&& ~~~B ||| (N &&& B) = N &&& ((A &&& ~~~B) ||| B) := by
  apply BitVec.eq_of_getLsbD_eq
  intro i hi
  simp only [BitVec.getLsbD_or, BitVec.getLsbD_and, BitVec.getLsbD_not, hi, decide_true, Bool.true_and]
  cases N.getLsbD i <;> cases A.getLsbD i <;> cases B.getLsbD i <;> rfl

/-- The 16 bits that come one behind the other, one way or the other. -/
def nthD (f : Nat) (b : Bool) (i : Nat) : Nat := cond b ((f + 4 - i) % 4) ((f + i) % 4)
theorem mvGo_step (f : Nat) (b : Bool) (n : Int) (r i : Nat) (x : Int) : mvGo f b n (r + 1) i x = cond (rngF (16 * nthD f b i) n) (mvGo f b n r (i + 1) (movkF ((nthD f b i : Nat) : Int) x (mF (16 * nthD f b i) n))) none := by
  cases b <;> rfl
theorem masks_all : (List.range 4).all (fun f => [true, false].all fun b => ((((mB (16 * f) &&& ~~~mB (16 * nthD f b 1)) ||| mB (16 * nthD f b 1)) &&& ~~~mB (16 * nthD f b 2) ||| mB (16 * nthD f b 2)) &&& ~~~mB (16 * nthD f b 3) ||| mB (16 * nthD f b 3)) == BitVec.allOnes 64) = true := by kernel_rfl
theorem nthD_lt (f : Nat) (b : Bool) (i : Nat) : nthD f b i < 4 := by
  cases b
  · exact Nat.mod_lt _ (by decide)
  · exact Nat.mod_lt _ (by decide)
theorem mvS_true {n : Int} (h0 : 0 ≤ n) (h1 : n < 2 ^ 64) {f : Nat} (hf : f < 4) (b : Bool) : mvS f b n = some (.bool true) := by
  unfold mvS
  rw [rngF_true h0 h1, cond_true, movz_eq h0 h1 hf]
  rw [mvGo_step, rngF_true h0 h1, cond_true, movk_eq h0 h1 (nthD_lt _ _ _), comb]
  rw [mvGo_step, rngF_true h0 h1, cond_true, movk_eq h0 h1 (nthD_lt _ _ _), comb]
  rw [mvGo_step, rngF_true h0 h1, cond_true, movk_eq h0 h1 (nthD_lt _ _ _), comb]
  have hm : ((((mB (16 * f) &&& ~~~mB (16 * nthD f b 1)) ||| mB (16 * nthD f b 1)) &&& ~~~mB (16 * nthD f b 2) ||| mB (16 * nthD f b 2)) &&& ~~~mB (16 * nthD f b 3) ||| mB (16 * nthD f b 3)) = BitVec.allOnes 64 := by
    have := List.all_eq_true.1 (List.all_eq_true.1 masks_all f (List.mem_range.2 hf)) b (by cases b <;> simp)
    exact eq_of_beq this
  rw [hm, BitVec.and_allOnes]
  unfold mvGo
  rw [rngF_true h0 h1, cond_true, last_true h0 h1 hf]
  have : ((((BitVec.ofInt 64 n).toNat : Nat) : Int) == n) = true := by
    rw [BitVec.toNat_ofInt]
    rw [beq_iff_eq]
    omega
  rw [this]
  rfl

/-! The law -/

theorem moves_ok {n k : Int} (h0 : 0 ≤ n) (h1 : n < 2 ^ 64) (k0 : 0 ≤ k) (k1 : k < 256) : PCall Tryz.prog 5 [.int .u64 n, .int .u8 k] (.bool true) := by
  refine pcall_of' (c := B5) (fn := Tryz.f5) (by kernel_rfl) (by kernel_rfl) (by kernel_rfl) (by kernel_rfl) ?_
  refine AWP_headK (cx := cx5) rfl rfl cxMv_ok 4 [0, 1, 4, 5, 6, 7] (by kernel_rfl) (mv_head n k) ?_
  have hk : IntKind.wrap .i64 (Int.tmod k 4) = ((k.toNat % 4 : Nat) : Int) := by
    have e : Int.tmod k 4 = k % 4 := Int.tmod_eq_emod_of_nonneg k0
    rw [e, wrap_i64 (by omega) (by omega)]
    omega
  rw [hk]
  have hlt : k.toNat % 4 < 4 := Nat.mod_lt _ (by decide)
  generalize k.toNat % 4 = f at hlt
  have run : (mvL f n k).run = some (.bool true) := by
    have e : (mvL f n k).fin = mvS f (decide (128 ≤ k)) n := by
      match f, hlt with
      | 0, _ => exact mv_0 n k
      | 1, _ => exact mv_1 n k
      | 2, _ => exact mv_2 n k
      | 3, _ => exact mv_3 n k
    rw [← Tree.fin_run, e, mvS_true h0 h1 hlt]
  unfold mvL at run
  obtain ⟨s, g1, g2⟩ := bind_run run
  refine AWP_run (cx := cx5) rfl rfl cxMv_ok g1 ?_
  obtain ⟨e, t, H⟩ := s
  unfold answer at g2
  split at g2
  · rename_i heq
    cases heq
    split at g2
    · rename_i v hv
      cases g2
      exact ⟨.inl rfl, hv⟩
    · cases g2
  · rename_i heq
    cases heq
    split at g2
    · rename_i v hv
      cases g2
      exact ⟨.inr rfl, hv⟩
    · cases g2
  · cases g2

end Go.Ra
