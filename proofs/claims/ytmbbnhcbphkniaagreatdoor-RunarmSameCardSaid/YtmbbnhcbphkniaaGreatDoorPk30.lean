/-
  The document's checks, words and readings are the program's. Conditions: none.
-/
import Derived.Test.YtmbbnhcbphkniaaGreatDoorRk29
import Derived.Test.YtmbbnhcbphkniaaGreatDoorPk26
import Derived.Test.YtmbbnhcbphkniaaGreatDoorPk22
import Derived.Test.YtmbbnhcbphkniaaGreatDoorPk23
import Derived.Test.YtmbbnhcbphkniaaGreatDoorPk25
set_option linter.unusedVariables false
set_option linter.unusedSimpArgs false
namespace Go.Rk
open Go Go.Ab Go.Proofs Go.Ra Go.Wd
theorem i64_u64 (x : Int) : IntKind.wrap .u64 (IntKind.wrap .i64 x) = x % 18446744073709551616 := by
  have h : IntKind.wrap .i64 x = if x % 18446744073709551616 ≥ 9223372036854775808 then x % 18446744073709551616 - 18446744073709551616 else x % 18446744073709551616 := by
    simp [IntKind.wrap, IntKind.bits, IntKind.signed]
  rw [wrap_u64, h]
  split <;> omega
structure XGood (x : RowX) : Prop where
  mem : conv x ∈ rowsL
  good : Good (conv x)
  kinds : kindX x = 0 ∨ kindX x = 105 ∨ kindX x = 109 ∨ kindX x = 97
  a97 : kindX x = 97 → loX x = -1048576 ∧ hiX x = 1048575 ∧ byX x = 1
  k105 : kindX x = 105 → 0 ≤ atX x ∧ 1 ≤ siX x
  dm : 0 ≤ x.2.2.2.2.2.1 ∧ x.2.2.2.2.2.1 < 2 ^ (sizeD x.2.2.2.2.2.1).toNat
  b26 : hasX x.2.2.1 116 = true → hasX x.2.2.1 67 = false
def xGood (x : RowX) : Bool :=
  (kindX x == 0 || (kindX x == 105 || (kindX x == 109 || (kindX x == 97 && (decide (loX x = -1048576) && (decide (hiX x = 1048575) && decide (byX x = 1))))))) &&
  ((!(kindX x == 105) || (decide (0 ≤ atX x) && decide (1 ≤ siX x))) && ((decide (0 ≤ x.2.2.2.2.2.1) && decide (x.2.2.2.2.2.1 < 2 ^ (sizeD x.2.2.2.2.2.1).toNat)) && (!hasX x.2.2.1 116 || !hasX x.2.2.1 67)))
theorem rows_xgood : rowsX.all xGood = true := by kernel_rfl
theorem row_xgood {x : RowX} (hx : x ∈ rowsX) : XGood x := by
  have hm : conv x ∈ rowsL := by rw [← rows_conv]; exact List.mem_map_of_mem hx
  have h := List.all_eq_true.1 rows_xgood x hx
  simp only [xGood, Bool.and_eq_true, Bool.or_eq_true, beq_iff_eq, decide_eq_true_eq, Bool.not_eq_true', beq_eq_false_iff_ne] at h
  obtain ⟨h1, h2, h3, h4⟩ := h
  refine ⟨hm, row_good hm, ?_, ?_, ?_, h3, ?_⟩
  · rcases h1 with h | h | h | h
    · exact .inl h
    · exact .inr (.inl h)
    · exact .inr (.inr (.inl h))
    · exact .inr (.inr (.inr h.1))
  · intro hk
    rcases h1 with h | h | h | h
    · omega
    · omega
    · omega
    · exact h.2
  · intro hk
    rcases h2 with h | h
    · exact absurd hk h
    · exact h
  · intro ht
    rcases h4 with h | h
    · rw [ht] at h; cases h
    · exact h
theorem hasDX_eq (x : RowX) : hasD x.2.2.1 = hasDX x := by
  unfold hasD hasDX
  cases hasX x.2.2.1 115 <;> cases hasX x.2.2.1 68 <;> rfl
theorem within_zero (n m : Int) : withinF false n m = smallF zeroN n := by
  unfold withinF smallF zeroN
  rw [show IntKind.wrap IntKind.i64 0 = 0 from rfl]
  by_cases h : n = 0
  · subst h; rfl
  · rw [cond_false, show (n == 0) = false from beq_eq_false_iff_ne.2 h]
    by_cases h0 : 0 ≤ n
    · rw [decide_eq_true h0, cond_true, decide_eq_false (by omega)]
    · rw [decide_eq_false h0, cond_false]
theorem within_reg {k bi by_ m : Int} (hm : 0 ≤ m) (hm' : m < 2147483648) (n : Int) : withinF true n m = smallF (k, bi, 1, by_, 0, m) n := by
  unfold withinF smallF
  show cond true (cond (decide (0 ≤ n)) (decide (n ≤ m)) false) _ = cond (decide (IntKind.wrap IntKind.i64 0 ≤ n)) (decide (n ≤ IntKind.wrap IntKind.i64 m)) false
  rw [show IntKind.wrap IntKind.i64 0 = 0 from rfl, wrap_i64 (n := m) (by omega) (by omega), cond_true]
section
variable {x : RowX} (G : XGood x)
include G
theorem dmax_lt : x.2.2.2.2.2.1 < 2147483648 := by
  have h := G.dm.2
  have : (sizeD x.2.2.2.2.2.1).toNat ≤ 6 := by
    unfold sizeD
    cases decide (x.2.2.2.2.2.1 < 2) <;> cases decide (x.2.2.2.2.2.1 < 4) <;> cases decide (x.2.2.2.2.2.1 < 8) <;> cases decide (x.2.2.2.2.2.1 < 16) <;> cases decide (x.2.2.2.2.2.1 < 32) <;> decide
  have h2 : (2 : Int) ^ (sizeD x.2.2.2.2.2.1).toNat ≤ 2 ^ 6 := by
    have := Nat.pow_le_pow_right (n := 2) (by omega) this
    exact_mod_cast this
  omega
omit G in
theorem wA (n : Int) : withinF (hasX x.2.2.1 65) n 31 = smallF (conv x).2.2.1 n := by
  show _ = smallF (cA x) n
  unfold cA
  cases hasX x.2.2.1 65
  · exact within_zero n 31
  · exact within_reg (by omega) (by omega) n
omit G in
theorem wB (n : Int) : withinF (hasX x.2.2.1 66) n 31 = smallF (conv x).2.2.2.1 n := by
  show _ = smallF (cB x) n
  unfold cB
  cases hasX x.2.2.1 66
  · exact within_zero n 31
  · exact within_reg (by omega) (by omega) n
theorem wC (n : Int) : withinF (hasC x) n (mostC x) = smallF (conv x).2.2.2.2.1 n := by
  show _ = smallF (cC x) n
  unfold cC hasC mostC
  cases h : hasX x.2.2.1 116
  · cases hasX x.2.2.1 67
    · exact within_zero n 31
    · show withinF true n 31 = _
      exact within_reg (by omega) (by omega) n
  · rw [G.b26 h]
    show withinF true n 63 = _
    exact within_reg (by omega) (by omega) n
theorem wD (n : Int) : withinF (hasDX x) n x.2.2.2.2.2.1 = smallF (conv x).2.2.2.2.2.1 n := by
  show _ = smallF (cD x) n
  unfold cD
  rw [hasDX_eq]
  cases hasDX x
  · exact within_zero n _
  · exact within_reg G.dm.1 (dmax_lt G) n
omit G in
theorem cI_of : (kindX x = 0 → (conv x).2.2.2.2.2.2.1 = zeroN) ∧ (kindX x = 105 → (conv x).2.2.2.2.2.2.1 = (atX x, siX x, 1, byX x, loX x, hiX x)) ∧ (kindX x = 109 → (conv x).2.2.2.2.2.2.1 = maskNm) ∧ (kindX x = 97 → (conv x).2.2.2.2.2.2.1 = aparN) := by
  have e : (conv x).2.2.2.2.2.2.1 = cond (kindX x == 105) (atX x, siX x, 1, byX x, loX x, hiX x) (cond (kindX x == 109) maskNm (cond (kindX x == 97) aparN zeroN)) := rfl
  rw [e]
  refine ⟨fun h => ?_, fun h => ?_, fun h => ?_, fun h => ?_⟩ <;> rw [h] <;> rfl
theorem plainI (h : kindX x = 105) : Plain (atX x, siX x, 1, byX x, loX x, hiX x) (atX x).toNat (siX x).toNat (byX x) := by
  have hf := G.good.fi
  rw [((cI_of (x := x))).2.1 h] at hf
  rcases num_cases hf with h | h | h | P
  · exact absurd (show (1 : Int) = 0 from congrArg (fun f : NumT => f.2.2.1) h) (by decide)
  · exact absurd (show (1 : Int) = 2 from congrArg (fun f : NumT => f.2.2.1) h) (by decide)
  · exact absurd (show (1 : Int) = 3 from congrArg (fun f : NumT => f.2.2.1) h) (by decide)
  · exact P
theorem tail_eq (n : Int) : tailR x n = cond (((conv x).2.2.2.2.2.2.1.2.2.1 == 0) && n != 0) 13 (numE2 (conv x).2.2.2.2.2.2.1 n) := by
  unfold tailR
  obtain ⟨i0, i1, i2, i3⟩ := (cI_of (x := x))
  rcases G.kinds with h | h | h | h
  · rw [i0 h, h]
    show cond (n != 0) 13 0 = cond (true && n != 0) 13 0
    rw [Bool.true_and]
  · have P := plainI G h
    obtain ⟨w1, w2, w3⟩ := plain_wraps P
    rw [i1 h, h]
    unfold numE2
    rw [w1, w2, w3]
    rfl
  · rw [i2 h, h]
    rfl
  · obtain ⟨g1, g2, g3⟩ := G.a97 h
    rw [i3 h, h, g1, g2, g3]
    rfl
theorem check_row (nm : List UInt8) (a b c d n : Int) : checkR x a b c d n = faultyF (conv x) (nm, a, b, c, d, n) := by
  unfold checkR faultyF
  rw [wA (x := x), wB (x := x), wC G, wD G, tail_eq G]
end
theorem check_eq (i : InsT) : checkX i = encE i := by
  unfold checkX encE
  rw [fok_eq]
  cases h : fokX i.1
  · rfl
  · obtain ⟨h1, h2⟩ := frow_eq h
    rw [cond_true, cond_true, h1]
    exact check_row (row_xgood h2) i.1 _ _ _ _ _
theorem or32_bits (a b : Int) : BitVec.ofInt 32 (or32 a b) = BitVec.ofInt 32 a ||| BitVec.ofInt 32 b := by
  apply BitVec.eq_of_toNat_eq
  unfold or32
  have := (BitVec.ofInt 32 a ||| BitVec.ofInt 32 b).isLt
  rw [wrap_u32, show (((BitVec.ofInt 32 a ||| BitVec.ofInt 32 b).toNat : Nat) : Int) % 4294967296 = (((BitVec.ofInt 32 a ||| BitVec.ofInt 32 b).toNat : Nat) : Int) by omega]
  exact ofInt32_cast this
theorem or32_assoc (a b c : Int) : or32 (or32 a b) c = or32 a (or32 b c) := by
  show IntKind.wrap .u32 ((BitVec.ofInt 32 (or32 a b) ||| BitVec.ofInt 32 c).toNat : Int) = IntKind.wrap .u32 ((BitVec.ofInt 32 a ||| BitVec.ofInt 32 (or32 b c)).toNat : Int)
  rw [or32_bits, or32_bits, BitVec.or_assoc]
theorem or32_zero (a b : Int) : or32 (or32 a b) 0 = or32 a b := by
  show IntKind.wrap .u32 ((BitVec.ofInt 32 (or32 a b) ||| BitVec.ofInt 32 0).toNat : Int) = IntKind.wrap .u32 ((BitVec.ofInt 32 a ||| BitVec.ofInt 32 b).toNat : Int)
  rw [or32_bits, show BitVec.ofInt 32 0 = 0#32 from rfl, BitVec.or_zero]
theorem put_zero (n : Int) : putF zeroN n = 0 := rfl
theorem small_zero {n : Int} (h : smallF zeroN n = true) : n = 0 := by
  rw [← within_zero n 0] at h
  exact eq_of_beq h
theorem put_reg {k bi m n : Int} (hf : numFine (k, bi, 1, 1, 0, m) = true) (hs : smallF (k, bi, 1, 1, 0, m) n = true) (hm : m < 2 ^ bi.toNat) : shlM n k = putF (k, bi, 1, 1, 0, m) n ∧ 0 ≤ n ∧ n < 2147483648 := by
  have P : Plain (k, bi, 1, 1, 0, m) k.toNat bi.toNat 1 := by
    rcases num_cases hf with h | h | h | P
    · cases h
    · cases h
    · cases h
    · exact P
  obtain ⟨s1, s2⟩ := small_rng hs
  obtain ⟨w1, w2, w3⟩ := plain_wraps P
  rw [w1] at s1
  rw [w2] at s2
  have s1 : 0 ≤ n := s1
  have s2 : n ≤ m := s2
  have hi : m < 2147483648 := P.hi
  obtain ⟨p1e, p1l⟩ := put1_nat P n
  have hp : p1 (k, bi, 1, 1, 0, m) n = n.toNat := by
    have := p1_int (k, bi, 1, 1, 0, m) n
    have e : Int.tdiv n 1 = n := Int.tdiv_one n
    have q : ((2 ^ bi.toNat : Nat) : Int) = 2 ^ bi.toNat := by simp
    have h2 : (p1 (k, bi, 1, 1, 0, m) n : Int) = Int.tdiv n 1 % ((2 ^ bi.toNat : Nat) : Int) := this
    rw [e, Int.emod_eq_of_lt s1 (by rw [q]; omega)] at h2
    omega
  refine ⟨?_, s1, by omega⟩
  show shlM n k = put1 (k, bi, 1, 1, 0, m) n
  rw [p1e, hp]
  rw [hp] at p1l
  unfold shlM
  have hk : k.toNat ≤ 32 := by have := P.at32; omega
  rw [wrap_u32, wrap_u32, Nat.min_eq_left hk, show n % 4294967296 = ((n.toNat : Nat) : Int) by omega, Nat.shiftLeft_eq]
  rw [Nat.shiftLeft_eq] at p1l
  rw [show ((n.toNat : Nat) : Int) * 2 ^ k.toNat = ((n.toNat * 2 ^ k.toNat : Nat) : Int) by simp]
  omega
theorem shlM_zero (k : Int) : shlM 0 k = 0 := by
  unfold shlM
  rw [show IntKind.wrap IntKind.u32 0 = 0 from rfl, Int.zero_mul]
  rfl
section
variable {x : RowX} (G : XGood x) {nm : List UInt8} {a b c d n : Int} (h : faultyF (conv x) (nm, a, b, c, d, n) = 0)
include G h
theorem base_eq : baseX x a b c d = or32 (or32 (or32 (or32 (conv x).2.1 (putF (conv x).2.2.1 a)) (putF (conv x).2.2.2.1 b)) (putF (conv x).2.2.2.2.1 c)) (putF (conv x).2.2.2.2.2.1 d) := by
  obtain ⟨f1, f2, f3, f4, _, _⟩ := faulty_parts h
  have n1 := reg_num G.good.fa
  have n2 := reg_num G.good.fb
  have n3 := reg_num G.good.fc
  have n4 := reg_num G.good.fd
  have ea : IntKind.wrap IntKind.u32 a = putF (conv x).2.2.1 a := by
    replace f1 : smallF (cA x) a = true := f1
    replace n1 : numFine (cA x) = true := n1
    show _ = putF (cA x) a
    unfold cA at *
    cases hh : hasX x.2.2.1 65
    · rw [hh] at f1
      rw [small_zero f1]
      rfl
    · rw [hh] at f1 n1
      obtain ⟨e1, e2, e3⟩ := put_reg n1 f1 (by decide)
      refine Eq.trans ?_ e1
      unfold shlM
      rw [show Min.min (Int.toNat 0) 32 = 0 from rfl, Int.pow_zero, Int.mul_one, wrap_u32, wrap_u32]
      omega
  have eb : IntKind.wrap IntKind.u32 (IntKind.wrap IntKind.u32 b * 2 ^ 5) = putF (conv x).2.2.2.1 b := by
    replace f2 : smallF (cB x) b = true := f2
    replace n2 : numFine (cB x) = true := n2
    show _ = putF (cB x) b
    unfold cB at *
    cases hh : hasX x.2.2.1 66
    · rw [hh] at f2
      rw [small_zero f2]
      rfl
    · rw [hh] at f2 n2
      exact (put_reg n2 f2 (by decide)).1
  have ec : shlM c x.2.2.2.1 = putF (conv x).2.2.2.2.1 c := by
    replace f3 : smallF (cC x) c = true := f3
    replace n3 : numFine (cC x) = true := n3
    show _ = putF (cC x) c
    unfold cC at *
    cases hh : hasX x.2.2.1 116
    · rw [hh] at f3 n3
      cases hh2 : hasX x.2.2.1 67
      · rw [hh2] at f3
        rw [small_zero f3, shlM_zero]
        rfl
      · rw [hh2] at f3 n3
        exact (put_reg n3 f3 (by decide)).1
    · rw [hh] at f3 n3
      exact (put_reg n3 f3 (by decide)).1
  have ed : shlM d x.2.2.2.2.1 = putF (conv x).2.2.2.2.2.1 d := by
    replace f4 : smallF (cD x) d = true := f4
    replace n4 : numFine (cD x) = true := n4
    show _ = putF (cD x) d
    unfold cD at *
    rw [hasDX_eq] at *
    cases hh : hasDX x
    · rw [hh] at f4
      rw [small_zero f4, shlM_zero]
      rfl
    · rw [hh] at f4 n4
      exact (put_reg n4 f4 G.dm.2).1
  unfold baseX
  rw [ea, eb, ec, ed]
  rfl
theorem word_row : wordR x a b c d n = bitsF (conv x) (nm, a, b, c, d, n) := by
  have hb := base_eq G h
  have hB : bitsF (conv x) (nm, a, b, c, d, n) = or32 (baseX x a b c d) (putF (conv x).2.2.2.2.2.2.1 n) := by rw [hb]; rfl
  rw [hB]
  obtain ⟨i0, i1, i2, i3⟩ := (cI_of (x := x))
  unfold wordR
  rcases G.kinds with hk | hk | hk | hk
  · rw [i0 hk, hk, put_zero]
    show baseX x a b c d = _
    rw [hb, or32_zero]
  · rw [i1 hk, hk]
    show or32 (baseX x a b c d) (immI x n) = or32 (baseX x a b c d) (put1 (atX x, siX x, 1, byX x, loX x, hiX x) n)
    have P := plainI G hk
    obtain ⟨e, l⟩ := put1_nat P n
    have hp := p1_int (atX x, siX x, 1, byX x, loX x, hiX x) n
    have hp : ((p1 (atX x, siX x, 1, byX x, loX x, hiX x) n : Nat) : Int) = Int.tdiv n (byX x) % ((2 ^ (siX x).toNat : Nat) : Int) := hp
    rw [e]
    congr 1
    unfold immI
    generalize p1 (atX x, siX x, 1, byX x, loX x, hiX x) n = p at hp l ⊢
    generalize Int.tdiv n (byX x) = q at hp ⊢
    have s31 := P.bi31
    have a32 := P.at32
    generalize hs : (siX x).toNat = s at *
    generalize ha : (atX x).toNat = k at *
    have q2 : (2 : Nat) ^ s ≤ 2 ^ 31 := Nat.pow_le_pow_right (by omega) s31
    have q0 : 0 < (2 : Nat) ^ s := Nat.two_pow_pos s
    have hm : IntKind.wrap IntKind.u64 (IntKind.wrap IntKind.u64 (1 * 2 ^ Min.min s 64) - 1) = ((2 ^ s - 1 : Nat) : Int) := by
      rw [Nat.min_eq_left (by omega), wrap_u64, wrap_u64, pow_cast s]
      omega
    have hq : IntKind.wrap IntKind.u64 (IntKind.wrap IntKind.i64 q) = ((q % 18446744073709551616).toNat : Int) := by
      have : IntKind.wrap .u64 (IntKind.wrap .i64 q) = q % 18446744073709551616 := i64_u64 q
      rw [this]; omega
    rw [hm, hq, and64_cast (by omega) (by omega), Nat.and_two_pow_sub_one_eq_mod]
    have hpe : (q % 18446744073709551616).toNat % 2 ^ s = p := by
      have hd : ((2 ^ s : Nat) : Int) ∣ ((18446744073709551616 : Nat) : Int) := Int.natCast_dvd_natCast.2 (by rw [show 18446744073709551616 = 2 ^ 64 from rfl]; exact Nat.pow_dvd_pow 2 (by omega))
      have := Int.emod_emod_of_dvd q hd
      apply Int.ofNat.inj
      show (((q % 18446744073709551616).toNat % 2 ^ s : Nat) : Int) = (p : Int)
      rw [Int.natCast_emod, Int.toNat_of_nonneg (by omega), hp]
      exact this
    rw [hpe, Nat.min_eq_left (by omega), pow_cast k]
    rw [Nat.shiftLeft_eq] at l ⊢
    rw [show ((p : Nat) : Int) * ((2 ^ k : Nat) : Int) = ((p * 2 ^ k : Nat) : Int) by simp, wrap_u64, wrap_u32]
    omega
  · rw [i2 hk, hk]
    show or32 (or32 (or32 (baseX x a b c d) _) _) _ = or32 (baseX x a b c d) (put3 n)
    rw [or32_assoc (or32 (baseX x a b c d) _) _ _, or32_assoc (baseX x a b c d) _ _, ← or32_assoc _ _ (IntKind.wrap IntKind.u32 (IntKind.wrap IntKind.u32 (ofVS (u64N n)) * 2 ^ 10))]
    rfl
  · rw [i3 hk, hk]
    show or32 (or32 (baseX x a b c d) _) _ = or32 (baseX x a b c d) (put2 n)
    rw [or32_assoc (baseX x a b c d) _ _]
    unfold put2
    have e1 : IntKind.wrap IntKind.u32 (and64 (IntKind.wrap IntKind.u64 n) 3) = and32 (IntKind.wrap IntKind.u32 n) 3 := by
      rw [wrap_u64 n, wrap_u32 n, show n % 18446744073709551616 = ((n % 18446744073709551616).toNat : Int) by omega, show n % 4294967296 = ((n % 4294967296).toNat : Int) by omega]
      rw [show (3 : Int) = ((3 : Nat) : Int) from rfl, and64_cast (by omega) (by omega), and32_cast (by omega) (by omega), wrap_u32, show (3 : Nat) = 2 ^ 2 - 1 from rfl, Nat.and_two_pow_sub_one_eq_mod, Nat.and_two_pow_sub_one_eq_mod]
      omega
    have e2 : IntKind.wrap IntKind.u32 (and64 (Int.fdiv (IntKind.wrap IntKind.u64 n) (2 ^ 2)) 524287) = and32 (IntKind.wrap IntKind.u32 (Int.fdiv n (2 ^ 2))) 524287 := by
      rw [wrap_u64, Int.fdiv_eq_ediv_of_nonneg _ (by decide), Int.fdiv_eq_ediv_of_nonneg _ (by decide), wrap_u32 (n / 2 ^ 2), show n % 18446744073709551616 / 2 ^ 2 = ((n % 18446744073709551616 / 2 ^ 2).toNat : Int) by omega, show n / 2 ^ 2 % 4294967296 = ((n / 2 ^ 2 % 4294967296).toNat : Int) by omega]
      rw [show (524287 : Int) = ((524287 : Nat) : Int) from rfl, and64_cast (by omega) (by omega), and32_cast (by omega) (by omega), wrap_u32, show (524287 : Nat) = 2 ^ 19 - 1 from rfl, Nat.and_two_pow_sub_one_eq_mod, Nat.and_two_pow_sub_one_eq_mod]
      omega
    rw [e1, e2]
end
theorem word_eq {i : InsT} (h : (encE i == 0) = true) : fokX i.1 = true ∧ wordX i = encW i := by
  obtain ⟨hf, hz⟩ := enc_ok h
  rw [fok_eq] at hf
  obtain ⟨h1, h2⟩ := frow_eq hf
  refine ⟨hf, ?_⟩
  unfold wordX encW
  rw [h1] at hz ⊢
  exact word_row (row_xgood h2) (nm := i.1) hz
end Go.Rk

namespace Go.Rk
open Go Go.Ab Go.Proofs Go.Ra Go.Wd
theorem sgn_mod (b : Nat) (x : Int) : sgn b (x % 2 ^ b) = sgn b x := by
  unfold sgn
  rw [Int.emod_emod_of_dvd x (Int.dvd_refl _)]
theorem lowW_nat {y : Nat} (hy : y < 2 ^ 32) {s : Nat} (hs : s ≤ 31) : lowW (y : Int) (s : Int) = (y : Int) % ((2 ^ s : Nat) : Int) := by
  have hp : (2 : Nat) ^ s ≤ 2 ^ 31 := Nat.pow_le_pow_right (by omega) hs
  have hp0 : 0 < (2 : Nat) ^ s := Nat.two_pow_pos s
  unfold lowW
  have h := and_maskB (x := (y : Int)) (bi := s) hs
  rw [show (y : Int) % 4294967296 = (y : Int) by omega] at h
  rw [show and32 (y : Int) (lowM (s : Int)) = _ from h]
  have h1 := Int.emod_lt_of_pos (y : Int) (show (0 : Int) < ((2 ^ s : Nat) : Int) by omega)
  have h2 := Int.emod_nonneg (y : Int) (show ((2 ^ s : Nat) : Int) ≠ 0 by omega)
  exact wrap_i64 (by omega) (by omega)
theorem signX_nat {y : Nat} (hy : y < 2 ^ 32) {s : Nat} (hs : s = 7 ∨ s = 19 ∨ s = 21 ∨ s = 26) : signX (y : Int) (s : Int) = sgn s (y : Int) := by
  unfold signX
  rw [lowW_nat hy (by omega)]
  rcases hs with rfl | rfl | rfl | rfl
  · rw [show halfW ((7 : Nat) : Int) = 64 from by decide, show IntKind.wrap IntKind.i64 (1 * 2 ^ Min.min (Int.toNat ((7 : Nat) : Int)) 64) = 128 from by decide]
    unfold sgn
    by_cases hc : (64 : Int) ≤ (y : Int) % ((2 ^ 7 : Nat) : Int)
    · rw [decide_eq_true hc, cond_true, wrap_i64 (by omega) (by omega)]; omega
    · rw [decide_eq_false hc, cond_false]; omega
  · rw [show halfW ((19 : Nat) : Int) = 262144 from by decide, show IntKind.wrap IntKind.i64 (1 * 2 ^ Min.min (Int.toNat ((19 : Nat) : Int)) 64) = 524288 from by decide]
    unfold sgn
    by_cases hc : (262144 : Int) ≤ (y : Int) % ((2 ^ 19 : Nat) : Int)
    · rw [decide_eq_true hc, cond_true, wrap_i64 (by omega) (by omega)]; omega
    · rw [decide_eq_false hc, cond_false]; omega
  · rw [show halfW ((21 : Nat) : Int) = 1048576 from by decide, show IntKind.wrap IntKind.i64 (1 * 2 ^ Min.min (Int.toNat ((21 : Nat) : Int)) 64) = 2097152 from by decide]
    unfold sgn
    by_cases hc : (1048576 : Int) ≤ (y : Int) % ((2 ^ 21 : Nat) : Int)
    · rw [decide_eq_true hc, cond_true, wrap_i64 (by omega) (by omega)]; omega
    · rw [decide_eq_false hc, cond_false]; omega
  · rw [show halfW ((26 : Nat) : Int) = 33554432 from by decide, show IntKind.wrap IntKind.i64 (1 * 2 ^ Min.min (Int.toNat ((26 : Nat) : Int)) 64) = 67108864 from by decide]
    unfold sgn
    by_cases hc : (33554432 : Int) ≤ (y : Int) % ((2 ^ 26 : Nat) : Int)
    · rw [decide_eq_true hc, cond_true, wrap_i64 (by omega) (by omega)]; omega
    · rw [decide_eq_false hc, cond_false]; omega
theorem get_reg {k bi m : Int} (hf : numFine (k, bi, 1, 1, 0, m) = true) {w : Nat} (hw : w < 2 ^ 32) : andM (w : Int) k (maskB bi) = getF (k, bi, 1, 1, 0, m) (w : Int) := by
  have P : Plain (k, bi, 1, 1, 0, m) k.toNat bi.toNat 1 := by
    rcases num_cases hf with h | h | h | P
    · cases h
    · cases h
    · cases h
    · exact P
  have hr := raw1_nat P hw
  have hlt : w / 2 ^ k.toNat % 2 ^ bi.toNat < 2 ^ 32 := Nat.lt_of_le_of_lt (Nat.mod_le _ _) (Nat.lt_of_le_of_lt (Nat.div_le_self _ _) hw)
  show IntKind.wrap IntKind.i64 (raw1 (k, bi, 1, 1, 0, m) (w : Int)) = get1 (k, bi, 1, 1, 0, m) (w : Int)
  unfold get1
  show _ = cond (decide ((0 : Int) < 0)) _ (IntKind.wrap IntKind.i64 (IntKind.wrap IntKind.i64 (raw1 (k, bi, 1, 1, 0, m) (w : Int)) * IntKind.wrap IntKind.i64 1))
  rw [decide_eq_false (by omega), cond_false, hr, show IntKind.wrap IntKind.i64 1 = 1 from by decide, Int.mul_one]
  generalize w / 2 ^ k.toNat % 2 ^ bi.toNat = q at hlt ⊢
  rw [wrap_i64 (n := (q : Int)) (by omega) (by omega), wrap_i64 (n := (q : Int)) (by omega) (by omega)]
theorem andM_zero (w m : Int) : andM w 0 m = IntKind.wrap IntKind.i64 (and32 w m) := by
  unfold andM
  rw [show Min.min (Int.toNat 0) 32 = 0 from rfl, Int.pow_zero, Int.fdiv_one]
section
variable {x : RowX} (G : XGood x) {w : Nat} (hw : w < 2 ^ 32)
include G hw
theorem read_imm : readI x (w : Int) = getF (conv x).2.2.2.2.2.2.1 (w : Int) := by
  obtain ⟨i0, i1, i2, i3⟩ := cI_of (x := x)
  unfold readI
  rcases G.kinds with hk | hk | hk | hk
  · rw [i0 hk, hk]
    rfl
  · rw [i1 hk, hk]
    have P := plainI G hk
    have hr := raw1_nat P hw
    obtain ⟨_, _, w3⟩ := plain_wraps P
    have w3 : IntKind.wrap .i64 (byX x) = byX x := w3
    have s31 := P.bi31
    have a32 := P.at32
    have k1 := G.k105 hk
    have es : siX x = (((siX x).toNat : Nat) : Int) := by omega
    show IntKind.wrap IntKind.i64 (cond (decide (loX x < 0)) (signX (Int.fdiv w (2 ^ Min.min (Int.toNat (atX x)) 32)) (siX x)) (IntKind.wrap IntKind.i64 (raw1 (atX x, siX x, 1, byX x, loX x, hiX x) (w : Int))) * byX x) = get1 (atX x, siX x, 1, byX x, loX x, hiX x) (w : Int)
    unfold get1
    show _ = cond (decide (loX x < 0)) (IntKind.wrap IntKind.i64 (signedF (raw1 (atX x, siX x, 1, byX x, loX x, hiX x) (w : Int)) (IntKind.wrap IntKind.i64 (siX x)) * IntKind.wrap IntKind.i64 (byX x))) (IntKind.wrap IntKind.i64 (IntKind.wrap IntKind.i64 (raw1 (atX x, siX x, 1, byX x, loX x, hiX x) (w : Int)) * IntKind.wrap IntKind.i64 (byX x)))
    rw [w3]
    cases hl : decide (loX x < 0)
    · rfl
    · rw [cond_true, cond_true]
      have hs : (siX x).toNat = 7 ∨ (siX x).toNat = 19 ∨ (siX x).toNat = 21 ∨ (siX x).toNat = 26 := by
        rcases P.rng with ⟨_, h, _⟩ | ⟨h, _⟩
        · omega
        · have h1 : loX x < 0 := of_decide_eq_true hl
          have h : loX x = 0 := h
          omega
      have hy : w >>> (atX x).toNat < 2 ^ 32 := by rw [Nat.shiftRight_eq_div_pow]; exact Nat.lt_of_le_of_lt (Nat.div_le_self _ _) hw
      have e1 : signX (Int.fdiv w (2 ^ Min.min (Int.toNat (atX x)) 32)) (siX x) = sgn (siX x).toNat ((w >>> (atX x).toNat : Nat) : Int) := by
        rw [Nat.min_eq_left (by omega), shr_cast]
        conv => lhs; rw [es]
        exact signX_nat hy hs
      have e2 : signedF (raw1 (atX x, siX x, 1, byX x, loX x, hiX x) (w : Int)) (IntKind.wrap IntKind.i64 (siX x)) = sgn (siX x).toNat ((w >>> (atX x).toNat : Nat) : Int) := by
        rw [hr, ← sgn_mod (siX x).toNat ((w >>> (atX x).toNat : Nat) : Int), Nat.shiftRight_eq_div_pow]
        have em : ((w / 2 ^ (atX x).toNat % 2 ^ (siX x).toNat : Nat) : Int) = ((w / 2 ^ (atX x).toNat : Nat) : Int) % 2 ^ (siX x).toNat := by
          rw [Int.natCast_emod, pow_cast]
        rw [em]
        generalize ((w / 2 ^ (atX x).toNat : Nat) : Int) = y
        rcases hs with h | h | h | h
        · rw [h, show siX x = 7 by omega, show IntKind.wrap IntKind.i64 7 = 7 from by decide]; exact signed7 _
        · rw [h, show siX x = 19 by omega, show IntKind.wrap IntKind.i64 19 = 19 from by decide]; exact signed19 _
        · rw [h, show siX x = 21 by omega, show IntKind.wrap IntKind.i64 21 = 21 from by decide]; exact signed21 _
        · rw [h, show siX x = 26 by omega, show IntKind.wrap IntKind.i64 26 = 26 from by decide]; exact signed26 _
      rw [e1, e2]
  · rw [i2 hk, hk]
    rfl
  · rw [i3 hk, hk]
    show signX (or32 (IntKind.wrap IntKind.u32 (and32 (Int.fdiv w (2 ^ 5)) 524287 * 2 ^ 2)) (and32 (Int.fdiv w (2 ^ 29)) 3)) 21 = signedF (or32 (IntKind.wrap IntKind.u32 (and32 (Int.fdiv w (2 ^ 5)) 524287 * 2 ^ 2)) (and32 (Int.fdiv w (2 ^ 29)) 3)) 21
    rw [signed21]
    have hr : ∀ a b : Int, 0 ≤ or32 a b ∧ or32 a b < 4294967296 := fun a b => by
      unfold or32
      rw [wrap_u32]
      omega
    obtain ⟨r0, r1⟩ := hr (IntKind.wrap IntKind.u32 (and32 (Int.fdiv w (2 ^ 5)) 524287 * 2 ^ 2)) (and32 (Int.fdiv w (2 ^ 29)) 3)
    generalize or32 (IntKind.wrap IntKind.u32 (and32 (Int.fdiv w (2 ^ 5)) 524287 * 2 ^ 2)) (and32 (Int.fdiv w (2 ^ 29)) 3) = y at r0 r1 ⊢
    have := signX_nat (y := y.toNat) (by omega) (s := 21) (by omega)
    rw [show ((y.toNat : Nat) : Int) = y by omega] at this
    exact this
theorem read_row : readX (w : Int) x = readF (w : Int) (conv x) := by
  have n1 : numFine (cA x) = true := reg_num G.good.fa
  have n2 : numFine (cB x) = true := reg_num G.good.fb
  have n3 : numFine (cC x) = true := reg_num G.good.fc
  have n4 : numFine (cD x) = true := reg_num G.good.fd
  have ea : cond (hasX x.2.2.1 65) (IntKind.wrap IntKind.i64 (and32 (w : Int) 31)) 0 = getF (cA x) (w : Int) := by
    unfold cA at *
    cases hh : hasX x.2.2.1 65
    · rfl
    · rw [hh] at n1
      rw [cond_true, cond_true, ← get_reg n1 hw, andM_zero]
      rfl
  have eb : cond (hasX x.2.2.1 66) (IntKind.wrap IntKind.i64 (and32 (Int.fdiv (w : Int) (2 ^ 5)) 31)) 0 = getF (cB x) (w : Int) := by
    unfold cB at *
    cases hh : hasX x.2.2.1 66
    · rfl
    · rw [hh] at n2
      rw [cond_true, cond_true, ← get_reg n2 hw]
      rfl
  have ec : readC x (w : Int) = getF (cC x) (w : Int) := by
    unfold cC readC at *
    cases hh : hasX x.2.2.1 116
    · rw [hh] at n3
      cases hh2 : hasX x.2.2.1 67
      · rfl
      · rw [hh2] at n3
        rw [cond_false, cond_false, cond_true, cond_true, ← get_reg n3 hw]
        rfl
    · rw [hh] at n3
      rw [cond_true, cond_true, ← get_reg n3 hw]
      rfl
  have ed : cond (hasDX x) (andM (w : Int) x.2.2.2.2.1 (lowM (sizeD x.2.2.2.2.2.1))) 0 = getF (cD x) (w : Int) := by
    unfold cD at *
    rw [hasDX_eq] at *
    cases hh : hasDX x
    · rfl
    · rw [hh] at n4
      rw [cond_true, cond_true, ← get_reg n4 hw]
      rfl
  unfold readX readF
  rw [ea, eb, ec, ed, read_imm G hw]
  rfl
end
def matchX (w : Int) (x : RowX) : Bool := cond (checkX (readX w x) == 0) (wordX (readX w x) == w) false
def drowX (w : Int) : Option RowX := rowsX.find? (matchX w)
theorem match_row {x : RowX} (hx : x ∈ rowsX) {w : Nat} (hw : w < 2 ^ 32) : dMatch (w : Int) (conv x) = matchX (w : Int) x := by
  have G := row_xgood hx
  obtain ⟨o1, o2⟩ := row_own G.mem
  unfold dMatch matchX
  rw [read_row G hw]
  have hn : (readF (w : Int) (conv x)).1 = (conv x).1 := rfl
  have he : encE (readF (w : Int) (conv x)) = faultyF (conv x) (readF (w : Int) (conv x)) := by
    unfold encE
    rw [hn, o1, o2]
    rfl
  rw [check_eq, he]
  cases hf : (faultyF (conv x) (readF (w : Int) (conv x)) == 0)
  · rfl
  · have h0 : (encE (readF (w : Int) (conv x)) == 0) = true := by rw [he]; exact hf
    rw [(word_eq h0).2]
    unfold encW
    rw [hn, o2]
theorem find_congr {α : Type} {p q : α → Bool} : ∀ {l : List α}, (∀ x ∈ l, p x = q x) → l.find? p = l.find? q
  | [], _ => rfl
  | a :: l, h => by
    rw [List.find?_cons, List.find?_cons, h a List.mem_cons_self, find_congr fun x hx => h x (List.mem_cons_of_mem _ hx)]
theorem drow_eq {w : Nat} (hw : w < 2 ^ 32) : drow (w : Int) = (drowX (w : Int)).map conv := by
  unfold drow drowX
  rw [← rows_conv, List.find?_map]
  exact congrArg (Option.map conv) (find_congr fun x hx => match_row hx hw)
end Go.Rk

namespace Go.Rk
open Go Go.Ab Go.Proofs Go.Ra Go.Wd
noncomputable def cx48 : Cx := { P := Tryz.prog, n := 48, tab := [(103, uS), (104, tableS), (105, readXS), (38, checkS), (106, wordXS)], mtab := [], refs := [], keeps := [0, 1, 4, 5, 6, 7, 8, 9, 10, 11, 19, 26, 45] }
noncomputable abbrev B16 : Code := bodyOf Tryz.f48
def decXPre (l sp : List Int) (fl : Fl) (at_ : Int) : Tree St :=
  (.br (decide (List.length l < 1000000000)) (.br (Go.Rk.uE l at_ != 0) (.leaf (.ret, [(0, (.sl (.int .u8) (l) (sp) fl)), (1, (.int .i64 at_)), (4, (.ptr 0 0)), (5, (.int .i64 0)), (6, (.int .i64 (Go.Rk.uE l at_))), (7, (.int .u64 (Go.Rk.uV l at_))), (8, (.int .i64 (Go.Rk.uE l at_))), (19, (.bool true))], [(.cells [(.str []), (.int .i64 0), (.int .i64 0), (.int .i64 0), (.int .i64 0), (.int .i64 0)] 35)])) (.leaf (.normal, [(0, (.sl (.int .u8) (l) (sp) fl)), (1, (.int .i64 at_)), (4, (.ptr 0 0)), (5, (.int .i64 0)), (6, (.int .i64 0)), (7, (.int .u64 (Go.Rk.uV l at_))), (8, (.int .i64 (Go.Rk.uE l at_))), (9, (.sl (.prod [.str, (.int .u32), .str, (.int .u64), (.int .u64), (.int .i64), (.int .u8), (.int .u64), (.int .u64), (.int .i64), (.int .i64), (.int .i64)]) (Go.Rk.rowsX) ([]) Fl.ro)), (19, (.bool false))], [(.cells [(.str []), (.int .i64 0), (.int .i64 0), (.int .i64 0), (.int .i64 0), (.int .i64 0)] 35)]))) .fail)
theorem decXPre_eq (l sp : List Int) (fl : Fl) (at_ : Int) : (dcode cx48 (headN 3 B16) (initT 0 [.sl (.int .u8) l sp fl, .int .i64 at_]) []).run = (decXPre l sp fl at_).run :=
  (show (dcode cx48 (headN 3 B16) (initT 0 [.sl (.int .u8) l sp fl, .int .i64 at_]) []).run = (decXPre l sp fl at_).out by kernel_rfl).trans (Tree.out_run _)
def decXEnd  : Tree St :=
  (.leaf (.ret, [(4, (.ptr 0 0)), (5, (.int .i64 0)), (6, (.int .i64 22))], [(.cells [(.str []), (.int .i64 0), (.int .i64 0), (.int .i64 0), (.int .i64 0), (.int .i64 0)] 35)]))
theorem decXEnd_eq  : (dcode cx48 (tailN 4 B16) [(4, .ptr 0 0), (5, .int .i64 0), (6, .int .i64 0)] [.cells [.str [], .int .i64 0, .int .i64 0, .int .i64 0, .int .i64 0, .int .i64 0] 35]).run = (decXEnd ).run :=
  (show (dcode cx48 (tailN 4 B16) [(4, .ptr 0 0), (5, .int .i64 0), (6, .int .i64 0)] [.cells [.str [], .int .i64 0, .int .i64 0, .int .i64 0, .int .i64 0, .int .i64 0] 35]).run = (decXEnd ).out by kernel_rfl).trans (Tree.out_run _)
abbrev rowXAt (l : List RowX) (i : Nat) : RowX := l.getD i zeroX
def decXI (l : List RowX) (w i : Int) : InsT := readX (IntKind.wrap IntKind.u32 w) (rowXAt l i.toNat)
def decXRound (l : List RowX) (w i : Int) : Tree St :=
  .br (decide (i < (l.length : Int))) (.br (inside i l.length) (.br (hasRow (rowXAt l i.toNat)) (.br (checkX (decXI l w i) == 0) (.br (fokX (decXI l w i).1) (.br (wordX (decXI l w i) == IntKind.wrap IntKind.u32 w)
    (.leaf (.ret, [(4, (.ptr 0 0)), (5, (.int .i64 4)), (6, (.int .i64 0)), (7, (.int .u64 w)), (9, .sl rowXE l [] .ro), (10, (.int .i64 i)), (11, (.ptr 1 0)), (26, (.bool true)), (45, (.bool true))], [insO (decXI l w i), insO (decXI l w i)]))
    (.leaf (.normal, [(4, (.ptr 0 0)), (5, (.int .i64 0)), (6, (.int .i64 0)), (7, (.int .u64 w)), (9, .sl rowXE l [] .ro), (10, (.int .i64 (IntKind.wrap IntKind.i64 (i + 1)))), (11, (.ptr 1 0)), (26, (.bool true)), (45, (.bool false))], [insO zeroI, insO (decXI l w i)]))) .fail)
    (.leaf (.normal, [(4, (.ptr 0 0)), (5, (.int .i64 0)), (6, (.int .i64 0)), (7, (.int .u64 w)), (9, .sl rowXE l [] .ro), (10, (.int .i64 (IntKind.wrap IntKind.i64 (i + 1)))), (11, (.ptr 1 0)), (26, (.bool true)), (45, (.bool false))], [insO zeroI, insO (decXI l w i)]))) .fail) .fail)
    (.leaf ((.exit 0), [(4, (.ptr 0 0)), (5, (.int .i64 0)), (6, (.int .i64 0)), (7, (.int .u64 w)), (9, .sl rowXE l [] .ro), (10, (.int .i64 i)), (26, (.bool false))], [insO zeroI]))
theorem decXRound_eq (l : List RowX) (w i : Int) : (dcode cx48 (cin (cin (c2 (c1 (tailN 3 B16))))) [(4, .ptr 0 0), (5, .int .i64 0), (6, .int .i64 0), (7, .int .u64 w), (9, .sl rowXE l [] .ro), (10, .int .i64 i)] [insO zeroI]).run = (decXRound l w i).run :=
  (show _ = (decXRound l w i).out by kernel_rfl).trans (Tree.out_run _)
theorem cxDX_ok : CxOk cx48 := cx1_ok (.cons uS_ok (.cons tableS_ok (.cons readXS_ok (.cons checkS_ok (ok1 wordXS_ok))))) (.nil _) rfl rfl
def decXSt (w : Int) (i : { i : Nat // i ≤ rowsX.length ∧ (rowsX.take i).find? (matchX w) = none }) : T × List O :=
  ([(4, .ptr 0 0), (5, .int .i64 0), (6, .int .i64 0), (7, .int .u64 w), (9, .sl rowXE rowsX [] .ro), (10, .int .i64 i.1)], [insO zeroI])
def decXQ (w : Int) (e : AEx) (t : T) (H : List O) : Prop :=
  (e = .ret ∨ e = .normal) ∧ answerV Tryz.prog Tryz.f48.results.toList H t = some (.tup [insV (decI w), .int .i64 (cond (decOk w) 4 0), .int .i64 (cond (decOk w) 0 22)])
theorem dec_found {w : Nat} (hw : w < 2 ^ 32) {r : RowX} (h : drowX w = some r) : decI w = readX w r ∧ decOk w = true := by
  have hm : r ∈ rowsX := List.mem_of_find?_eq_some h
  have hd := drow_eq hw
  rw [h] at hd
  refine ⟨?_, ?_⟩
  · unfold decI
    rw [hd]
    exact (read_row (row_xgood hm) hw).symm
  · unfold decOk
    rw [hd]
    rfl
theorem dec_none {w : Nat} (hw : w < 2 ^ 32) (h : drowX w = none) : decI w = zeroI ∧ decOk w = false := by
  have hd := drow_eq hw
  rw [h] at hd
  refine ⟨?_, ?_⟩
  · unfold decI
    rw [hd]
    rfl
  · unfold decOk
    rw [hd]
    rfl
set_option maxRecDepth 8000 in
theorem decX_loop (v : Nat) (hv : v < 2 ^ 32) : AWP Tryz.prog 48 (tailN 3 B16) (decXQ (v : Int)) [(4, .ptr 0 0), (5, .int .i64 0), (6, .int .i64 0), (7, .int .u64 (v : Int)), (9, .sl rowXE rowsX [] .ro)] [insO zeroI] := by
  have e : tailN 3 B16 = .seq (.seq (c1 (c1 (tailN 3 B16))) (.block 0 (.loop (cin (cin (c2 (c1 (tailN 3 B16)))))))) (tailN 4 B16) := by kernel_rfl
  rw [e]
  have hlen := rowsX_len
  have hw : IntKind.wrap IntKind.u32 (v : Int) = (v : Int) := by rw [wrap_u32]; omega
  refine AWP_seq (AWP_seq (AWP_run (cx := cx48) rfl rfl cxDX_ok (s := (.normal, (decXSt (v : Int) ⟨0, Nat.zero_le _, rfl⟩).1, [insO zeroI])) (by kernel_rfl) ?_))
  refine AWP_block ?_
  refine AWP_rounds (cx := cx48) (P := Tryz.prog) (n := 48) rfl rfl cxDX_ok (decXSt (v : Int)) (fun i => 54 - i.1) ?_ ⟨0, Nat.zero_le _, rfl⟩
  rintro ⟨i, hi, hnone⟩
  refine Tree.all_run_eq (decXRound_eq rowsX (v : Int) i) ?_
  unfold decXRound
  refine ⟨fun hlt => ?_, fun hge => ?_⟩
  · have hlt : i < rowsX.length := Int.ofNat_lt.1 (of_decide_eq_true hlt)
    have hm : rowXAt rowsX i ∈ rowsX := by
      unfold rowXAt
      rw [getD_lt hlt]
      exact List.getElem_mem hlt
    have G := row_xgood hm
    obtain ⟨o1, o2⟩ := row_own G.mem
    have hI : decXI rowsX (v : Int) (i : Int) = readX (v : Int) (rowXAt rowsX i) := by unfold decXI; rw [hw]; rfl
    have hfok : fokX (decXI rowsX (v : Int) (i : Int)).1 = true := by rw [hI, ← fok_eq]; exact o1
    have step : V.int .i64 (IntKind.wrap .i64 ((i : Int) + 1)) = V.int .i64 ((i + 1 : Nat) : Int) := by
      rw [wrap_i64 (by omega) (by omega)]
      rfl
    refine all_t (inside_of (Int.natCast_nonneg i) (Int.ofNat_lt.2 hlt)) (all_t (decide_eq_true hm) ?_)
    have next : matchX (v : Int) (rowXAt rowsX i) = false → (rowsX.take (i + 1)).find? (matchX (v : Int)) = none := fun hp => take_none hlt hnone hp
    have hmx : matchX (v : Int) (rowXAt rowsX i) = cond (checkX (decXI rowsX (v : Int) (i : Int)) == 0) (wordX (decXI rowsX (v : Int) (i : Int)) == IntKind.wrap IntKind.u32 (v : Int)) false := by unfold matchX; rw [hI, hw]
    refine ⟨fun h1 => all_t hfok ⟨fun h2 => ?_, fun h2 => ?_⟩, fun h1 => ?_⟩
    · have hf : drowX (v : Int) = some (rowXAt rowsX i) := take_some hlt hnone (by rw [hmx, h1, cond_true]; exact h2)
      obtain ⟨e1, e2⟩ := dec_found hv hf
      refine ⟨[], _, rfl, .inl rfl, ?_⟩
      show answerV _ _ _ _ = some _
      rw [e1, e2, hI]
      kernel_rfl
    · have hmf : matchX (v : Int) (rowXAt rowsX i) = false := by rw [hmx, h1, cond_true]; exact h2
      exact ⟨[], _, rfl, ⟨i + 1, hlt, next hmf⟩, by show 54 - (i + 1) < 54 - i; omega, Fits.tle ⟨rfl, rfl, rfl, rfl, rfl, step, trivial⟩, rfl⟩
    · have hmf : matchX (v : Int) (rowXAt rowsX i) = false := by rw [hmx, h1]; rfl
      exact ⟨[], _, rfl, ⟨i + 1, hlt, next hmf⟩, by show 54 - (i + 1) < 54 - i; omega, Fits.tle ⟨rfl, rfl, rfl, rfl, rfl, step, trivial⟩, rfl⟩
  · have hge : ¬ i < rowsX.length := fun h => of_decide_eq_false hge (Int.ofNat_lt.2 h)
    have hi' : i = rowsX.length := by omega
    refine ⟨[], _, rfl, ?_⟩
    show AWP _ _ _ _ _ _
    refine AWP.less (s := [(4, .ptr 0 0), (5, .int .i64 0), (6, .int .i64 0)]) (Fits.tle ⟨rfl, rfl, rfl, trivial⟩) ?_
    refine AWP_run (cx := cx48) rfl rfl cxDX_ok decXEnd_eq ?_
    refine ⟨.inl rfl, ?_⟩
    have hf : drowX (v : Int) = none := by unfold drowX; rw [← hnone, hi', List.take_length]
    obtain ⟨h1, h2⟩ := dec_none hv hf
    show answerV _ _ _ _ = some _
    rw [h1, h2]
    kernel_rfl
end Go.Rk

namespace Go.Rk
open Go Go.Ab Go.Proofs Go.Ra Go.Wd
def bytesB (l : List Int) : Bool := l.all fun b => decide (0 ≤ b) && decide (b < 256)
theorem bytesB_to {l : List Int} (h : bytesB l = true) : Bytes l := by
  intro x hx
  have := List.all_eq_true.1 h x hx
  simpa using this
def decXS : Ab.Spec := fun args => match args with
  | [.sl (.int .u8) l _ _, .int .i64 at_] => .req (decide (l.length < 1000000000)) (.req (bytesB l) (.leaf (.tup [insV (dI l at_), .int .i64 (dN l at_), .int .i64 (dE l at_)])))
  | _ => .fail
theorem sub4 {l : List Int} {k : Nat} (h : k + 4 ≤ l.length) : sub l k (k + 4) = [l.getD k 0, l.getD (k + 1) 0, l.getD (k + 2) 0, l.getD (k + 3) 0] := by
  have e : sub l k (k + 4) = (l.drop k).take 4 := by
    simp only [sub, List.drop_take]
    congr 1
    omega
  rw [e, List.drop_eq_getElem_cons (by omega), List.drop_eq_getElem_cons (by omega), List.drop_eq_getElem_cons (by omega), List.drop_eq_getElem_cons (by omega)]
  rw [getD_lt (by omega), getD_lt (by omega), getD_lt (by omega), getD_lt (by omega)]
  rfl
theorem num4 {a b c d : Int} (ha : 0 ≤ a ∧ a < 256) (hb : 0 ≤ b ∧ b < 256) (hc : 0 ≤ c ∧ c < 256) (hd : 0 ≤ d ∧ d < 256) : numL [a, b, c, d] = a + 256 * b + 65536 * c + 16777216 * d := by
  simp only [numL]
  rw [num_step (a := 0) (b := d) (by omega) (by omega) (by omega) (by omega)]
  rw [num_step (a := 0 * 256 + d) (b := c) (by omega) (by omega) (by omega) (by omega)]
  rw [num_step (a := (0 * 256 + d) * 256 + c) (b := b) (by omega) (by omega) (by omega) (by omega)]
  rw [num_step (b := a) (by omega) (by omega) (by omega) (by omega)]
  omega
theorem decX_ok (l sp : List Int) (fl : Fl) (at_ : Int) (hl : l.length < 1000000000) (hb : Bytes l) :
    PCall Tryz.prog 48 [.sl (.int .u8) l sp fl, .int .i64 at_] (.tup [insV (dI l at_), .int .i64 (dN l at_), .int .i64 (dE l at_)]) := by
  refine pcall_of' (c := bodyOf Tryz.f48) (fn := Tryz.f48) (by kernel_rfl) (by kernel_rfl) (by kernel_rfl) (by kernel_rfl) ?_
  refine AWP_headE (cx := cx48) rfl rfl cxDX_ok 3 (by kernel_rfl) (decXPre_eq l sp fl at_) ?_
  refine all_t (decide_eq_true (by omega)) ⟨fun he => ?_, fun he => ?_⟩
  · have key : dI l at_ = zeroI ∧ dN l at_ = 0 ∧ dE l at_ = uE l at_ := by
      unfold uE at he ⊢
      unfold dI dN dE
      cases ho : outOf l at_
      · rw [ho] at he
        cases hs : shortOf l at_
        · rw [hs] at he; cases he
        · exact ⟨rfl, rfl, rfl⟩
      · exact ⟨rfl, rfl, rfl⟩
    obtain ⟨a1, a2, a3⟩ := key
    refine ⟨.inl rfl, ?_⟩
    show answerV _ _ _ _ = some _
    rw [a1, a2, a3]
    kernel_rfl
  · have ho : outOf l at_ = false ∧ shortOf l at_ = false := by
      unfold uE at he
      cases ho : outOf l at_
      · rw [ho] at he
        cases hs : shortOf l at_
        · exact ⟨rfl, rfl⟩
        · rw [hs] at he; cases he
      · rw [ho] at he; cases he
    obtain ⟨ho, hs⟩ := ho
    have g1 : 0 ≤ at_ ∧ at_ ≤ l.length := by
      simp only [outOf, Bool.or_eq_false_iff, decide_eq_false_iff_not] at ho
      omega
    have g2 : at_ + 4 ≤ l.length := by
      simp only [shortOf, decide_eq_false_iff_not] at hs
      rw [wrap_i64 (by omega) (by omega)] at hs
      omega
    have hw := w4_sum hb g1.1 g2 hl
    obtain ⟨r0, r1⟩ := sum4_rng hb at_.toNat
    have hu : uV l at_ = sum4 l at_.toNat := by
      unfold uV
      rw [ho, hs]
      show numL (sub l at_.toNat (at_.toNat + 4)) = _
      rw [sub4 (by omega)]
      exact num4 (bytes_getD hb _) (bytes_getD hb _) (bytes_getD hb _) (bytes_getD hb _)
    have a1 : dI l at_ = decI (sum4 l at_.toNat) := by unfold dI; rw [ho, hs, hw]; rfl
    have a2 : dN l at_ = cond (decOk (sum4 l at_.toNat)) 4 0 := by unfold dN; rw [ho, hs, hw]; rfl
    have a3 : dE l at_ = cond (decOk (sum4 l at_.toNat)) 0 22 := by unfold dE; rw [ho, hs, hw]; rfl
    show AWP _ _ _ _ _ _
    refine AWP.less (s := [(4, .ptr 0 0), (5, .int .i64 0), (6, .int .i64 0), (7, .int .u64 (((sum4 l at_.toNat).toNat : Nat) : Int)), (9, .sl rowXE rowsX [] .ro)]) (Fits.tle ⟨rfl, rfl, rfl, congrArg (V.int .u64) (by rw [hu]; omega), rfl, trivial⟩) ?_
    rw [a1, a2, a3]
    have hd := decX_loop (sum4 l at_.toNat).toNat (by omega)
    unfold decXQ at hd
    rw [show (((sum4 l at_.toNat).toNat : Nat) : Int) = sum4 l at_.toNat by omega] at hd ⊢
    exact hd
theorem decXS_ok : Sound Tryz.prog 48 decXS := by
  intro args out h
  unfold decXS at h
  split at h
  rotate_left
  · cases h
  rename_i l sp fl at_
  obtain ⟨h1, ha⟩ := req_run h
  obtain ⟨h2, hc⟩ := req_run ha
  simp only [Tree.run, Option.some.injEq] at hc
  subst hc
  exact decX_ok l sp fl at_ (of_decide_eq_true h1) (bytesB_to h2)
end Go.Rk

namespace Go.Ra
open Go Go.Ab Go.Proofs
noncomputable def memC : Tabs := { mtab := [(65, thereM), (31, setPM), (32, setRM)] }
theorem memC_ok : memC.Ok Tryz.prog := ⟨.nil _, .cons thereM_ok (.cons setPM_ok (.cons setRM_ok fun p h => by cases h)), .nil _, fun p h => by cases h⟩
noncomputable def memD_ps : List Fi := [⟨64, Tryz.f64, [0, 1, 4, 5, 6], [], 0, []⟩]
theorem memD_ps_ok : FisOk Tryz.prog memD_ps := ⟨⟨by kernel_rfl, by kernel_rfl⟩, trivial⟩
noncomputable def memD_ms : List Fi := [⟨13, Tryz.f13, [0], [], 0, []⟩, ⟨34, Tryz.f34, [0, 2], [], 0, []⟩, ⟨29, Tryz.f29, [0, 1, 2, 3, 8, 9, 10, 11, 12, 13, 14, 15, 22, 37, 52, 54, 78, 87], [], 4, []⟩, ⟨67, Tryz.f67, [0, 1, 4, 5, 30, 41, 53], [], 8, []⟩, ⟨30, Tryz.f30, [0, 1, 2, 3, 8, 9, 10, 11, 12, 13, 14, 15, 16, 33, 44, 53, 61, 76, 84, 88, 95], [103,105,106], 4, [103]⟩]
theorem memD_ms_ok : FisOk Tryz.prog memD_ms := ⟨⟨by kernel_rfl, by kernel_rfl⟩, ⟨by kernel_rfl, by kernel_rfl⟩, ⟨by kernel_rfl, by kernel_rfl⟩, ⟨by kernel_rfl, by kernel_rfl⟩, ⟨by kernel_rfl, by kernel_rfl⟩, trivial⟩
noncomputable def memD (d : Nat) : Tabs := deep Tryz.prog memC memD_ps memD_ms d
theorem memD_ok (d : Nat) : (memD d).Ok Tryz.prog := deep_ok memC_ok memD_ps_ok memD_ms_ok d
noncomputable def cxWd : Cx := { P := Tryz.prog, n := Tryz.f15.ntmps, tab := (memD 4).tab, mtab := (memD 4).mtab, rtab := (memD 4).rtab, refs := [], keeps := [0, 1, 4, 5, 6, 7] }
theorem cxWd_ok : CxOk cxWd := memD_ok 4
noncomputable abbrev Bwd : Code := bodyOf Tryz.f15
def wdPg (r : Int) (l : List Int) : O := .obj (.page 1 .u8 l) [.int .i64 r]
def wdHeap (A B C D E : List Int) : List O := [.obj (.map [1, 2, 16, 17, 32]) [.ptr 3 0, .ptr 4 0, .ptr 11 0, .ptr 12 0, .ptr 19 0], .cells [.bool true, .mp 0] 61, .cells [.ref 22 3 0 5, .int .i64 0] 70,
  wdPg 5 A, wdPg 5 B, newPg A, .cells (wRow 1 5 5) (97 + 4294967296), .dead, newPg B, .cells (wRow 2 5 8) (97 + 4294967296), .dead, wdPg 6 C, wdPg 6 D, newPg C, .cells (wRow 16 6 13) (97 + 4294967296), .dead, newPg D, .cells (wRow 17 6 16) (97 + 4294967296), .dead, wdPg 4 E, newPg E,
  .cells (wRow 32 4 20) (97 + 4294967296), .cells (wRow 1 5 5 ++ (wRow 2 5 8 ++ (wRow 16 6 13 ++ (wRow 17 6 16 ++ wRow 32 4 20)))) 0]
theorem wd_head (c d : V) : (dcode cxWd (headN 7 Bwd) (initT 0 [c, d]) []).run.map (fun s => (s.1, keep [0, 1, 6, 7] s.2.1, s.2.2)) =
    some (.normal, [(0, c), (1, d), (6, .ptr 1 0), (7, .ptr 2 0)], wdHeap zeros zeros zeros zeros zeros) := by kernel_rfl
def bothO (A B C D E : List Int) : List O := [.cells [.bool true, .mp 1] 61, .obj (.map [1, 2, 16, 17, 32]) [.ptr 2 0, .ptr 3 0, .ptr 4 0, .ptr 5 0, .ptr 6 0], wdPg 5 A, wdPg 5 B, wdPg 6 C, wdPg 6 D, wdPg 4 E,
  .cells [.ref 8 3 0 5, lastV] 70, .cells (wRow 1 5 9 ++ (wRow 2 5 10 ++ (wRow 16 6 11 ++ (wRow 17 6 12 ++ wRow 32 4 13)))) 0, newPg A, newPg B, newPg C, newPg D, newPg E]
def wdKeep : List Nat := [1, 0, 3, 4, 11, 12, 19, 2, 22, 5, 8, 13, 16, 20]
def wdK (k : Int) (l m P : List Int) : List Int := layL k 65536 m m.length (layL k 4096 l l.length P)
def wdL (l m A B C D E : List Int) : List O := bothO (wdK 1 l m A) (wdK 2 l m B) (wdK 16 l m C) (wdK 17 l m D) (wdK 32 l m E)
noncomputable def wdT (c d : V) (A B C D E : List Int) : Option Res := (((dcode cxWd (tailN 7 Bwd) [(0, c), (1, d), (6, .ptr 1 0), (7, .ptr 2 0)] (wdHeap A B C D E)).bind (answerM Tryz.prog Tryz.f15.results.toList)).bind (dropR 0 wdKeep)).fin
def setB (l : List Int) : Bool := decide (l.length ≤ 8192) && l.all byteB
def wdC (L n : Bool) (r : Option Res) : Option Res := cond (true && L) (cond (true && n) (cond (true && (true && (true && L))) (cond (true && n) r none) none) none) none
def wdN (L : Bool) (r : Option Res) : Option Res := cond (true && L) (cond (true && (true && (true && L))) r none) none
def wdS1 (l A B C D E : List Int) : Bool := lens5 (layL 1 4096 l l.length A) (layL 2 4096 l l.length B) (layL 16 4096 l l.length C) (layL 17 4096 l l.length D) (layL 32 4096 l l.length E)
def wdOk (l m A B C D E : List Int) : Option Res := some (.ok (.tup [.ptr 0 0, .ptr 7 0]) (wdL l m A B C D E))
theorem wd_ss (l sp m sq : List Int) (fl fm : Fl) (A B C D E : List Int) : wdT (.sl (.int .u8) l sp fl) (.sl (.int .u8) m sq fm) A B C D E =
    wdC (lens5 A B C D E) (setB l) (wdC (wdS1 l A B C D E) (setB m) (wdOk l m A B C D E)) := by kernel_rfl
theorem wd_ns (m sq : List Int) (fm : Fl) (A B C D E : List Int) : wdT (.val (.slice none 0 0)) (.sl (.int .u8) m sq fm) A B C D E =
    wdN (lens5 A B C D E) (wdC (lens5 A B C D E) (setB m) (wdOk [] m A B C D E)) := by kernel_rfl
theorem wd_sn (l sp : List Int) (fl : Fl) (A B C D E : List Int) : wdT (.sl (.int .u8) l sp fl) (.val (.slice none 0 0)) A B C D E =
    wdC (lens5 A B C D E) (setB l) (wdN (wdS1 l A B C D E) (wdOk l [] A B C D E)) := by kernel_rfl
theorem wd_nn (A B C D E : List Int) : wdT (.val (.slice none 0 0)) (.val (.slice none 0 0)) A B C D E =
    wdN (lens5 A B C D E) (wdN (lens5 A B C D E) (wdOk [] [] A B C D E)) := by kernel_rfl
def wdArg : V → Option (List Int)
  | .sl (.int .u8) l _ _ => some l
  | .val (.slice none 0 0) => some []
  | _ => none
theorem wdArg_spec {v : V} {l : List Int} (h : wdArg v = some l) : (∃ sp fl, v = .sl (.int .u8) l sp fl) ∨ (v = .val (.slice none 0 0) ∧ l = []) := by
  unfold wdArg at h
  split at h
  · cases h; exact .inl ⟨_, _, rfl⟩
  · cases h; exact .inr ⟨rfl, rfl⟩
  · cases h
theorem zeros_len : zeros.length = 4096 := List.length_replicate
theorem lens_zeros : lens5 zeros zeros zeros zeros zeros = true := by
  have h : pgB zeros = true := by
    unfold pgB
    rw [zeros_len, Bool.and_eq_true_iff]
    refine ⟨rfl, ?_⟩
    unfold zeros
    rw [List.all_replicate]
    rfl
  unfold lens5
  rw [h]
  rfl
theorem wd_run {c d : V} {l m : List Int} (hc : wdArg c = some l) (hd : wdArg d = some m) (h1 : setB l = true) (h2 : setB m = true) {A B C D E : List Int} (hl : lens5 A B C D E = true) :
    wdT c d A B C D E = wdOk l m A B C D E := by
  have hs : wdS1 l A B C D E = true := lens5_layL _ _ (Bool.and_eq_true_iff.1 h1).2 hl _
  rcases wdArg_spec hc with ⟨sp, fl, rfl⟩ | ⟨rfl, rfl⟩ <;> rcases wdArg_spec hd with ⟨sq, fm, rfl⟩ | ⟨rfl, rfl⟩
  · exact (wd_ss l sp m sq fl fm A B C D E).trans (by rw [hl, hs, h1, h2]; rfl)
  · exact (wd_sn l sp fl A B C D E).trans (by rw [hl, hs, h1]; rfl)
  · exact (wd_ns m sq fm A B C D E).trans (by rw [hl, h2]; rfl)
  · rw [wd_nn, hl]; rfl
def worldD : MSpec := fun args H => match args, H with
  | [c, d], [] => match wdArg c, wdArg d with
    | some l, some m => .req (setB l && setB m) (.leaf (.ok (.tup [.ptr 0 0, .ptr 7 0]) (wdL l m zeros zeros zeros zeros zeros)))
    | _, _ => .fail
  | _, _ => .fail
theorem worldD_ok : MSound Tryz.prog 15 worldD := by
  intro args H out h
  unfold worldD at h
  split at h
  rotate_left
  · cases h
  rename_i c d
  split at h
  rotate_left
  · cases h
  rename_i l m hc hd
  obtain ⟨h0, h⟩ := req_run h
  cases h
  obtain ⟨h1, h2⟩ := Bool.and_eq_true_iff.1 h0
  have e := wd_run hc hd h1 h2 lens_zeros
  unfold wdT at e
  rw [Tree.fin_run] at e
  obtain ⟨r0, e1, e2⟩ := bind_run e
  refine mcall_drop (H := []) (r := r0) (κ := wdKeep) ?_ e2
  obtain ⟨s, g1, g2⟩ := bind_run e1
  refine mcall_of' (c := Bwd) (fn := Tryz.f15) (by kernel_rfl) (by kernel_rfl) (by kernel_rfl) (by kernel_rfl) ?_
  refine AWP_headK (cx := cxWd) rfl rfl cxWd_ok 7 [0, 1, 6, 7] (by kernel_rfl) (wd_head c d) ?_
  exact AWP_run (cx := cxWd) rfl rfl cxWd_ok g1 (answerM_post g2)
theorem lens5_wd {l m : List Int} (hl : setB l = true) (hm : setB m = true) {A B C D E : List Int} (h : lens5 A B C D E = true) : lens5 (wdK 1 l m A) (wdK 2 l m B) (wdK 16 l m C) (wdK 17 l m D) (wdK 32 l m E) = true := lens5_layL _ _ (Bool.and_eq_true_iff.1 hm).2 (lens5_layL _ _ (Bool.and_eq_true_iff.1 hl).2 h _) _
end Go.Ra

namespace Go.Ra
open Go Go.Ab Go.Proofs
theorem run_1 (mb : InsR → Bool) : ((rowsR.drop 0).take 6).map (rO mb) = ((rowsR.drop 0).take 6).map (rE mb) := by kernel_rfl
end Go.Ra

namespace Go.Ra
open Go Go.Ab Go.Proofs
theorem run_2 (mb : InsR → Bool) : ((rowsR.drop 6).take 6).map (rO mb) = ((rowsR.drop 6).take 6).map (rE mb) := by kernel_rfl
end Go.Ra

namespace Go.Ra
open Go Go.Ab Go.Proofs
theorem run_3 (mb : InsR → Bool) : ((rowsR.drop 12).take 6).map (rO mb) = ((rowsR.drop 12).take 6).map (rE mb) := by kernel_rfl
end Go.Ra

namespace Go.Ra
open Go Go.Ab Go.Proofs
theorem run_4 (mb : InsR → Bool) : ((rowsR.drop 18).take 6).map (rO mb) = ((rowsR.drop 18).take 6).map (rE mb) := by kernel_rfl
end Go.Ra

namespace Go.Ra
open Go Go.Ab Go.Proofs
theorem run_5 (mb : InsR → Bool) : ((rowsR.drop 24).take 6).map (rO mb) = ((rowsR.drop 24).take 6).map (rE mb) := by kernel_rfl
end Go.Ra

namespace Go.Ra
open Go Go.Ab Go.Proofs
theorem run_6 (mb : InsR → Bool) : ((rowsR.drop 30).take 6).map (rO mb) = ((rowsR.drop 30).take 6).map (rE mb) := by kernel_rfl
end Go.Ra

namespace Go.Ra
open Go Go.Ab Go.Proofs
theorem run_7 (mb : InsR → Bool) : ((rowsR.drop 36).take 6).map (rO mb) = ((rowsR.drop 36).take 6).map (rE mb) := by kernel_rfl
end Go.Ra

namespace Go.Ra
open Go Go.Ab Go.Proofs
theorem run_8 (mb : InsR → Bool) : ((rowsR.drop 42).take 6).map (rO mb) = ((rowsR.drop 42).take 6).map (rE mb) := by kernel_rfl
end Go.Ra

namespace Go.Ra
open Go Go.Ab Go.Proofs
theorem run_9 (mb : InsR → Bool) : ((rowsR.drop 48).take 6).map (rO mb) = ((rowsR.drop 48).take 6).map (rE mb) := by kernel_rfl
end Go.Ra

namespace Go.Ra
open Go Go.Ab Go.Proofs
theorem rows_parts {α : Type} (l : List α) : l.length = 54 → l = (l.drop 0).take 6 ++ ((l.drop 6).take 6 ++ ((l.drop 12).take 6 ++ ((l.drop 18).take 6 ++ ((l.drop 24).take 6 ++ ((l.drop 30).take 6 ++ ((l.drop 36).take 6 ++ ((l.drop 42).take 6 ++ (l.drop 48).take 6))))))) := by
  intro h
  have step : ∀ (k : Nat), l.drop k = (l.drop k).take 6 ++ l.drop (k + 6) := fun k => by
    rw [← List.drop_drop, List.take_append_drop]
  have e0 : l = l.drop 0 := rfl
  have e9 : l.drop 54 = [] := List.drop_eq_nil_of_le (by omega)
  rw [show (l.drop 48).take 6 = l.drop 48 by rw [step 48, e9, List.append_nil, List.take_take, Nat.min_self], ← step 42, ← step 36, ← step 30, ← step 24, ← step 18, ← step 12, ← step 6, ← step 0]
  rfl
theorem run_all (mb : InsR → Bool) : ∀ x ∈ rowsR, rO mb x = rE mb x := by
  have h : rowsR.map (rO mb) = rowsR.map (rE mb) := by
    rw [rows_parts rowsR (by kernel_rfl)]
    simp only [List.map_append, run_1, run_2, run_3, run_4, run_5, run_6, run_7, run_8, run_9]
  exact List.map_inj_left.1 h
end Go.Ra

namespace Go.Ra
open Go Go.Ab Go.Proofs
def xr (s : CpuT) (n : Int) : Int := cond (n == 31) 0 (s.x.getD n.toNat 0)
def putS (a v : Int) (s : CpuT) : CpuT := { s with x := s.x.set a.toNat v }
def setS (a v : Int) (s : CpuT) : CpuT := cond (a == 31) s (putS a v s)
def flagS (z n c v : Bool) (s : CpuT) : CpuT := { s with z := z, n := n, c := c, v := v }
def finC (s s' : CpuT) (nx ev : Int) (H : List O) : Option Res := cond (Int.tmod nx 4 != 0) (errK s 10 H) (outK ({ s' with pc := nx } : CpuT).l ev H)
theorem l_eq (s : CpuT) (t : List V) : s.l ++ t = [.int .u64 s.pc] ++ (s.x.map (V.int .u64) ++ ([.bool s.z, .bool s.n, .bool s.c, .bool s.v, .int .u64 s.th] ++ t)) := by
  show (([.int .u64 s.pc] ++ s.x.map (V.int .u64)) ++ [.bool s.z, .bool s.n, .bool s.c, .bool s.v, .int .u64 s.th]) ++ t = _
  simp
section
variable {s : CpuT} (hs : s.x.length = 32)
include hs
theorem setI_cpu {n : Nat} (hn : n < 32) (v : Int) (t : List V) : setI .u64 (1 + n) v 0 (s.l ++ t) = ({ s with x := s.x.set n v } : CpuT).l ++ t := by
  rw [l_eq, l_eq, setI_append, setI_append, setI_out [.int .u64 s.pc] 0 (Or.inr (by simp)), setI_in s.x _ (by simp) (by simp [hs]; omega), setI_out _ _ (Or.inl (by simp [hs]; omega))]
  simp
theorem intAt_cpu {n : Nat} (hn : n < 32) (t : List V) : intAt (s.l ++ t) (1 + n) = s.x.getD n 0 := by
  rw [l_eq, intAt_append (by simp), intAt_front (by simp [hs]; omega), intAt_map]
  simp
theorem isInt_cpu {n : Nat} (hn : n < 32) (t : List V) : isIntAt .u64 (s.l ++ t) (1 + n) = true := by
  rw [l_eq]
  exact isIntAt_row (by simp) (by simp [hs]; omega)
theorem l_len : s.l.length = 38 := by
  have e := l_eq s []
  rw [List.append_nil, List.append_nil] at e
  rw [e]
  simp [hs]
theorem xAt_eq {b : Int} (hb : okReg b = true) (t : List V) : xAt b (s.l ++ t) = s.x.getD b.toNat 0 := by
  obtain ⟨h0, h1⟩ := okReg_in hb
  unfold xAt
  rw [Nat.mul_one]
  exact intAt_cpu hs (by omega) t
theorem inX_eq {b : Int} (hb : okReg b = true) (t : List V) (k : Option Res) : inX b (s.l ++ t) k = k := by
  obtain ⟨h0, h1⟩ := okReg_in hb
  unfold inX q
  rw [inside_of h0 (by omega), Nat.mul_one, isInt_cpu hs (by omega) t]
  rfl
theorem regF_eq {n : Int} (hn : okReg n = true) (t : List V) : regF (s.l ++ t) n = xr s n := by
  obtain ⟨h0, h1⟩ := okReg_in hn
  unfold regF xr
  rw [Nat.mul_one, intAt_cpu hs (by omega) t]
theorem getF_eq {n : Int} (hn : okReg n = true) (sp : List UInt8) (l : Int) : getF (sG s sp) l n = cond (hasL l sp) (s.x.getD n.toNat 0) (xr s n) := by
  obtain ⟨h0, h1⟩ := okReg_in hn
  have e : spOf (sG s sp) = sp := by
    unfold spOf sG
    rw [List.drop_append_of_le_length (by rw [l_len hs]; exact Nat.le_refl _), List.drop_eq_nil_of_le (by rw [l_len hs]; exact Nat.le_refl _)]
    rfl
  unfold getF
  rw [e]
  unfold sG
  rw [regF_eq hs hn, Nat.mul_one, intAt_cpu hs (by omega)]
theorem setL_eq {a : Int} (ha : okReg a = true) (v : Int) : setL a v s.l = (setS a v s).l := by
  obtain ⟨h0, h1⟩ := okReg_in ha
  unfold setL setS oX putS
  cases a == 31
  · rw [cond_false, cond_false]
    have := setI_cpu hs (n := a.toNat) (by omega) v []
    simpa using this
  · rw [cond_true, cond_true, setI_out _ _ (Or.inr (by rw [l_len hs]; omega))]
theorem putX_eq {a : Int} (ha : okReg a = true) (v : Int) : putX a v s.l = (putS a v s).l := by
  obtain ⟨h0, h1⟩ := okReg_in ha
  unfold putX putS
  rw [Nat.mul_one]
  have := setI_cpu hs (n := a.toNat) (by omega) v []
  simpa using this
theorem setLG_eq {r : CpuT} (hr : r.x.length = 32) {a : Int} (ha : okReg a = true) (sp : List UInt8) (l v : Int) : setLG (sG s sp) l a v r.l = (cond (hasL l sp) (putS a v r) (setS a v r)).l := by
  have e : spOf (sG s sp) = sp := by
    unfold spOf sG
    rw [List.drop_append_of_le_length (by rw [l_len hs]; exact Nat.le_refl _), List.drop_eq_nil_of_le (by rw [l_len hs]; exact Nat.le_refl _)]
    rfl
  unfold setLG oG
  rw [e]
  cases hasL l sp
  · exact setL_eq hr ha v
  · exact putX_eq hr ha v
theorem flagL_eq (z n c v : Bool) : flagL z n c v s.l = (flagS z n c v s).l := by
  have key : ∀ (A : List V) (b1 b2 b3 b4 b5 : V), A.length = 33 → flagL z n c v (A ++ [b1, b2, b3, b4, b5]) = A ++ [.bool z, .bool n, .bool c, .bool v, b5] := by
    intro A b1 b2 b3 b4 b5 hA
    unfold flagL
    rw [List.set_append_right _ _ (by omega), List.set_append_right _ _ (by omega), List.set_append_right _ _ (by omega), List.set_append_right _ _ (by omega), hA]
    rfl
  have e := l_eq s []
  rw [List.append_nil, List.append_nil, ← List.append_assoc] at e
  have e2 := l_eq (flagS z n c v s) []
  rw [List.append_nil, List.append_nil, ← List.append_assoc] at e2
  rw [e2, e, key _ _ _ _ _ _ (by simp [hs])]
  rfl
theorem setS_len (a v : Int) : (setS a v s).x.length = 32 := by
  unfold setS putS
  cases a == 31
  · rw [cond_false]
    simp [hs]
  · exact hs
theorem putS_len (a v : Int) : (putS a v s).x.length = 32 := by
  unfold putS
  simp [hs]
theorem flagS_len (z n c v : Bool) : (flagS z n c v s).x.length = 32 := hs
end
theorem nxS_set {a : Int} (ha : okReg a = true) (v nx : Int) : nxS (oX a) v nx = nx := by
  obtain ⟨h0, h1⟩ := okReg_in ha
  unfold nxS oX
  have : Nat.beq 45 (cond (a == 31) 1000 (1 + a.toNat)) = false := by
    cases h : Nat.beq 45 (cond (a == 31) 1000 (1 + a.toNat))
    · rfl
    · have g := Nat.eq_of_beq_eq_true h
      revert g
      cases a == 31
      · rw [cond_false]; omega
      · rw [cond_true]; omega
  rw [this]
  rfl
theorem nxS_put {a : Int} (ha : okReg a = true) (v nx : Int) : nxS (1 + a.toNat * 1) v nx = nx := by
  obtain ⟨h0, h1⟩ := okReg_in ha
  unfold nxS
  have : Nat.beq 45 (1 + a.toNat * 1) = false := by
    cases h : Nat.beq 45 (1 + a.toNat * 1)
    · rfl
    · have := Nat.eq_of_beq_eq_true h
      omega
  rw [this]
  rfl
theorem finK_eq (s s' : CpuT) (nx : Int) (H : List O) : finK s s'.l nx H = finC s s' nx 0 H := rfl
theorem finG_eq (s s' : CpuT) (nx ev : Int) (H : List O) : finG s s'.l nx ev H = finC s s' nx ev H := rfl
theorem and31_ok (c : Int) : okReg (and31 c) = true := by
  have e : and31 c = ((BitVec.ofInt 64 c &&& BitVec.ofInt 64 31).toNat : Int) := by
    unfold and31
    have h : (BitVec.ofInt 64 c &&& BitVec.ofInt 64 31).toNat ≤ 31 := by
      rw [BitVec.toNat_and]
      exact Nat.le_trans Nat.and_le_right (by decide)
    exact wrap_i64 (by omega) (by omega)
  have h : (BitVec.ofInt 64 c &&& BitVec.ofInt 64 31).toNat ≤ 31 := by
    rw [BitVec.toNat_and]
    exact Nat.le_trans Nat.and_le_right (by decide)
  rw [e]
  simp only [okReg, Bool.and_eq_true, decide_eq_true_eq]
  omega
theorem and31_eq {c : Int} (hc : okReg c = true) : and31 c = c := by
  obtain ⟨h0, h1⟩ := okReg_in hc
  have hd : c = 0 ∨ c = 1 ∨ c = 2 ∨ c = 3 ∨ c = 4 ∨ c = 5 ∨ c = 6 ∨ c = 7 ∨ c = 8 ∨ c = 9 ∨ c = 10 ∨ c = 11 ∨ c = 12 ∨ c = 13 ∨ c = 14 ∨ c = 15 ∨ c = 16 ∨ c = 17 ∨ c = 18 ∨ c = 19 ∨ c = 20 ∨ c = 21 ∨ c = 22 ∨ c = 23 ∨ c = 24 ∨ c = 25 ∨ c = 26 ∨ c = 27 ∨ c = 28 ∨ c = 29 ∨ c = 30 ∨ c = 31 := by omega
  rcases hd with rfl | rfl | rfl | rfl | rfl | rfl | rfl | rfl | rfl | rfl | rfl | rfl | rfl | rfl | rfl | rfl | rfl | rfl | rfl | rfl | rfl | rfl | rfl | rfl | rfl | rfl | rfl | rfl | rfl | rfl | rfl | rfl <;> rfl
end Go.Ra

namespace Go.Ra
open Go Go.Ab Go.Proofs
theorem rng_spec {x : Int} (h : rng64 x = true) : 0 ≤ x ∧ x < 18446744073709551616 := by
  simpa only [rng64, Bool.and_eq_true, decide_eq_true_eq] using h
theorem rng_wu (x : Int) : rng64 (wu x) = true := by
  have e : wu x = x % 18446744073709551616 := rfl
  simp only [rng64, Bool.and_eq_true, decide_eq_true_eq, e]
  omega
theorem wu_rng {x : Int} (h : rng64 x = true) : wu x = x := by
  obtain ⟨h0, h1⟩ := rng_spec h
  exact wu_eq h0 h1
theorem wi_def (y : Int) : wi y = if 9223372036854775808 ≤ y % 18446744073709551616 then y % 18446744073709551616 - 18446744073709551616 else y % 18446744073709551616 := by
  unfold wi IntKind.wrap
  simp [IntKind.bits, IntKind.signed]
def top (x : Int) : Bool := decide (9223372036854775808 ≤ x)
theorem negB_eq {x : Int} (h : rng64 x = true) : negB x = top x := by
  obtain ⟨h0, h1⟩ := rng_spec h
  unfold negB top
  rw [wi_def, Int.emod_eq_of_lt h0 h1]
  by_cases h : 9223372036854775808 ≤ x
  · rw [if_pos h, decide_eq_true h, decide_eq_true (by omega)]
  · rw [if_neg h, decide_eq_false h, decide_eq_false (by omega)]
theorem shr63_eq {x : Int} (h : rng64 x = true) : shr63 x = cond (top x) 1 0 := by
  obtain ⟨h0, h1⟩ := rng_spec h
  unfold shr63 top
  rw [Int.fdiv_eq_ediv_of_nonneg _ (by decide)]
  show x / 9223372036854775808 = _
  by_cases h : 9223372036854775808 ≤ x
  · rw [decide_eq_true h, cond_true]; omega
  · rw [decide_eq_false h, cond_false]; omega
theorem shr63_top {x : Int} (h : rng64 x = true) : (shr63 x == 1) = top x := by
  rw [shr63_eq h]
  cases top x <;> rfl
theorem top_nat (X : BitVec 64) : top ((X.toNat : Nat) : Int) = X.msb := by
  unfold top
  rw [BitVec.msb_eq_decide]
  by_cases h : 2 ^ (64 - 1) ≤ X.toNat
  · rw [decide_eq_true h, decide_eq_true (by omega)]
  · rw [decide_eq_false h, decide_eq_false (by omega)]
theorem ofInt_nat {x : Int} (h : rng64 x = true) : (((BitVec.ofInt 64 x).toNat : Nat) : Int) = x := by
  obtain ⟨h0, h1⟩ := rng_spec h
  rw [BitVec.toNat_ofInt]
  omega
theorem nat_rng (X : BitVec 64) : rng64 ((X.toNat : Nat) : Int) = true := by
  have := X.isLt
  simp only [rng64, Bool.and_eq_true, decide_eq_true_eq]
  omega
theorem top_ofInt {x : Int} (h : rng64 x = true) : (BitVec.ofInt 64 x).msb = top x := by
  rw [← top_nat, ofInt_nat h]
theorem andU_eq (a b : Int) : andU a b = (((BitVec.ofInt 64 a &&& BitVec.ofInt 64 b).toNat : Nat) : Int) := wu_rng (nat_rng _)
theorem xorU_eq (a b : Int) : xorU a b = (((BitVec.ofInt 64 a ^^^ BitVec.ofInt 64 b).toNat : Nat) : Int) := wu_rng (nat_rng _)
theorem andU_rng (a b : Int) : rng64 (andU a b) = true := by rw [andU_eq]; exact nat_rng _
theorem xorU_rng (a b : Int) : rng64 (xorU a b) = true := by rw [xorU_eq]; exact nat_rng _
theorem top_and {a b : Int} (ha : rng64 a = true) (hb : rng64 b = true) : top (andU a b) = (top a && top b) := by
  rw [andU_eq, top_nat, BitVec.msb_and, top_ofInt ha, top_ofInt hb]
theorem top_xor {a b : Int} (ha : rng64 a = true) (hb : rng64 b = true) : top (xorU a b) = (top a ^^ top b) := by
  rw [xorU_eq, top_nat, BitVec.msb_xor, top_ofInt ha, top_ofInt hb]
theorem addV_eq (x y : Int) : addV x y = wu (x + y) := by
  unfold addV
  rw [Int.add_zero]
  rfl
theorem subVl_eq (x y : Int) : subVl x y = wu (x - y) := by
  unfold subVl
  rw [Int.sub_zero]
  rfl
theorem logFl_eq {x : Int} (hx : rng64 x = true) (L : List V) : logFl x L = nzL x false false L := by
  unfold logFl nzL
  rw [negB_eq hx, shr63_top hx]
theorem addFl_eq {x y : Int} (hx : rng64 x = true) (hy : rng64 y = true) (L : List V) :
    addFl x y L = nzL (wu (x + y)) (decide (wu (x + y) < x)) (cond (shr63 x == shr63 y) (shr63 (wu (x + y)) != shr63 x) false) L := by
  have hs := rng_wu (x + y)
  unfold addFl nzL
  rw [addV_eq, negB_eq hs, shr63_top hs, negB_eq (andU_rng _ _), top_and (xorU_rng _ _) (xorU_rng _ _), top_xor hx hs, top_xor hy hs, shr63_eq hx, shr63_eq hy, shr63_eq hs]
  have ec : ((x + y + 0) / 18446744073709551616 != 0) = decide (wu (x + y) < x) := by
    obtain ⟨x0, x1⟩ := rng_spec hx
    obtain ⟨y0, y1⟩ := rng_spec hy
    have e : wu (x + y) = (x + y) % 18446744073709551616 := rfl
    rw [e, Int.add_zero]
    by_cases h : x + y < 18446744073709551616
    · have : (x + y) / 18446744073709551616 = 0 := by omega
      rw [this, decide_eq_false (by omega)]
      rfl
    · have : (x + y) / 18446744073709551616 = 1 := by omega
      rw [this, decide_eq_true (by omega)]
      rfl
  rw [ec]
  congr 1
  cases top x <;> cases top y <;> cases top (wu (x + y)) <;> rfl
theorem subFl_eq {x y : Int} (hx : rng64 x = true) (hy : rng64 y = true) (L : List V) :
    subFl x y L = nzL (wu (x - y)) (decide (y ≤ x)) (cond (shr63 x != shr63 y) (shr63 (wu (x - y)) != shr63 x) false) L := by
  have hs := rng_wu (x - y)
  unfold subFl nzL
  rw [subVl_eq, negB_eq hs, shr63_top hs, negB_eq (andU_rng _ _), top_and (xorU_rng _ _) (xorU_rng _ _), top_xor hx hs, top_xor hx hy, shr63_eq hx, shr63_eq hy, shr63_eq hs]
  have ec : ((cond (decide (x < y + 0)) (1 : Int) 0) == 0) = decide (y ≤ x) := by
    rw [Int.add_zero]
    by_cases h : y ≤ x
    · rw [decide_eq_true h, decide_eq_false (by omega)]
      rfl
    · rw [decide_eq_false h, decide_eq_true (by omega)]
      rfl
  rw [ec]
  congr 1
  cases top x <;> cases top y <;> cases top (wu (x - y)) <;> rfl
theorem addQ_eq {x y : Int} (hx : rng64 x = true) (hy : rng64 y = true) : addQ x y = true := by
  obtain ⟨x0, x1⟩ := rng_spec hx
  obtain ⟨y0, y1⟩ := rng_spec hy
  unfold addQ
  rw [decide_eq_true x0, decide_eq_true y0]
  rfl
theorem subQ_eq {x y : Int} (hx : rng64 x = true) (hy : rng64 y = true) : subQ x y = true := by
  obtain ⟨x0, x1⟩ := rng_spec hx
  obtain ⟨y0, y1⟩ := rng_spec hy
  unfold subQ
  rw [decide_eq_true x0, decide_eq_true y0, decide_eq_true x1, decide_eq_true y1]
  rfl
theorem c16_eq {d : Int} (h0 : 0 ≤ d) (h1 : d ≤ 63) : c16 d = 16 * d ∧ wu (c16 d) = 16 * d ∧ decide (0 ≤ c16 d) = true ∧ decide (0 ≤ wu (c16 d)) = true := by
  have e : c16 d = 16 * d := wi_eq (by omega) (by omega)
  have e2 : wu (16 * d) = 16 * d := wu_eq (by omega) (by omega)
  rw [e, e2]
  exact ⟨rfl, rfl, decide_eq_true (by omega), decide_eq_true (by omega)⟩
theorem c12_eq {d : Int} (h0 : 0 ≤ d) (h1 : d ≤ 63) : c12 d = 12 * d ∧ wu (c12 d) = 12 * d ∧ decide (0 ≤ c12 d) = true := by
  have e : c12 d = 12 * d := wi_eq (by omega) (by omega)
  have e2 : wu (12 * d) = 12 * d := wu_eq (by omega) (by omega)
  rw [e, e2]
  exact ⟨rfl, rfl, decide_eq_true (by omega)⟩
theorem divu_dv {x y : Int} : dvF x y false = divuF x y := rfl
theorem div_dv {x y : Int} (hx : rng64 x = true) (hy : rng64 y = true) : dvF x y true = divF (wi x) (wi y) := by
  obtain ⟨x0, x1⟩ := rng_spec hx
  unfold dvF divF
  by_cases h0 : y = 0
  · subst h0
    rfl
  · have e : (y == 0) = false := by simpa using h0
    have e2 : (wi y == 0) = false := by simpa using wi_zero hy h0
    rw [e, e2, Bool.not_true, cond_false, cond_false, cond_false]
    cases hm : wi y == -1
    · rfl
    · rw [cond_true, cond_true]
      have a1 : wu (wi (0 - wi x)) = (wi (0 - wi x)) % 18446744073709551616 := rfl
      have a2 : wu (0 - x) = (0 - x) % 18446744073709551616 := rfl
      rw [a1, a2, wi_def (0 - wi x), wi_def x]
      split <;> split <;> omega
theorem sub_neg (r p : Int) : wu (r + wu (0 - wu p)) = wu (r - wu p) := by
  have a : ∀ y, wu y = y % 18446744073709551616 := fun _ => rfl
  simp only [a]
  omega
theorem ldrsw_eq (x : Int) : ldrswG x = ldrswF x := by
  unfold ldrswG ldrswF
  have e : IntKind.wrap .i32 (IntKind.wrap .u32 x) = IntKind.wrap .i32 x := by
    have a : IntKind.wrap .u32 x = x % 4294967296 := rfl
    rw [a]
    unfold IntKind.wrap
    simp [IntKind.bits, IntKind.signed]
  rw [e]
end Go.Ra
