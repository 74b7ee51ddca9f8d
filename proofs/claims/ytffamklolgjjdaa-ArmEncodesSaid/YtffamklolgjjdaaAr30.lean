/-
  The document's checks, words and readings are the program's. Conditions: none.
-/
import Derived.Test.YtffamklolgjjdaaAr29
import Derived.Test.YtffamklolgjjdaaAr17
namespace Go.Arm
open Go Go.Ab Go.Proofs Go.Wd

theorem i64_u64 (x : Int) : IntKind.wrap .u64 (IntKind.wrap .i64 x) = x % 18446744073709551616 := by
  have h : IntKind.wrap .i64 x = if x % 18446744073709551616 ≥ 9223372036854775808 then x % 18446744073709551616 - 18446744073709551616 else x % 18446744073709551616 := by
    simp [IntKind.wrap, IntKind.bits, IntKind.signed]
  rw [wrap_u64, h]
  split <;> omega

/-! Rows. -/

structure XGood (x : RowX) : Prop where
  mem : conv x ∈ rowsL
  good : Good (conv x)
  kinds : kindX x = 0 ∨ kindX x = 105 ∨ kindX x = 109 ∨ kindX x = 97
  a97 : kindX x = 97 → loX x = -1048576 ∧ hiX x = 1048575 ∧ byX x = 1
  k105 : kindX x = 105 → 0 ≤ atX x ∧ 1 ≤ siX x
  dm : 0 ≤ x.2.2.2.2.2.1 ∧ x.2.2.2.2.2.1 < 2 ^ (sizeD x.2.2.2.2.2.1).toNat
  b26 : hasX x.2.2.1 116 = true → hasX x.2.2.1 67 = false

def xGood (x : RowX) : Bool :=
  (kindX x == 0 || (kindX x == 105 || (kindX x == 109 || (kindX x == 97 && (decide (loX x = -1048576) && (decide (hiX x = 1048575) && decide (byX x = 1))))))) &&
  ((!(kindX x == 105) || (decide (0 ≤ atX x) && decide (1 ≤ siX x))) && ((decide (0 ≤ x.2.2.2.2.2.1) && decide (x.2.2.2.2.2.1 < 2 ^ (sizeD x.2.2.2.2.2.1).toNat)) && (!hasX x.2.2.1 116 || !hasX x.2.2.1 67)))
theorem rows_xgood : rowsX.all xGood = true := by kernel_rfl

theorem row_xgood {x : RowX} (hx : x ∈ rowsX) : XGood x := by
  have hm : conv x ∈ rowsL := by rw [← rows_conv]; exact List.mem_map_of_mem hx
  have h := List.all_eq_true.1 rows_xgood x hx
  simp only [xGood, Bool.and_eq_true, Bool.or_eq_true, beq_iff_eq, decide_eq_true_eq, Bool.not_eq_true', beq_eq_false_iff_ne] at h
  obtain ⟨h1, h2, h3, h4⟩ := h
  refine ⟨hm, row_good hm, ?_, ?_, ?_, h3, ?_⟩
  · rcases h1 with h | h | h | h
    · exact .inl h
    · exact .inr (.inl h)
    · exact .inr (.inr (.inl h))
    · exact .inr (.inr (.inr h.1))
  · intro hk
    rcases h1 with h | h | h | h
    · omega
    · omega
    · omega
    · exact h.2
  · intro hk
    rcases h2 with h | h
    · exact absurd hk h
    · exact h
  · intro ht
    rcases h4 with h | h
    · rw [ht] at h; cases h
    · exact h

theorem hasDX_eq (x : RowX) : hasD x.2.2.1 = hasDX x := by
  unfold hasD hasDX
  cases hasX x.2.2.1 115 <;> cases hasX x.2.2.1 68 <;> rfl

/-! Checks. -/

theorem within_zero (n m : Int) : withinF false n m = smallF zeroN n := by
  unfold withinF smallF zeroN
  rw [show IntKind.wrap IntKind.i64 0 = 0 from rfl]
  by_cases h : n = 0
  · subst h; rfl
  · rw [cond_false, show (n == 0) = false from beq_eq_false_iff_ne.2 h]
    by_cases h0 : 0 ≤ n
    · rw [decide_eq_true h0, cond_true, decide_eq_false (by omega)]
    · rw [decide_eq_false h0, cond_false]
theorem within_reg {k bi by_ m : Int} (hm : 0 ≤ m) (hm' : m < 2147483648) (n : Int) : withinF true n m = smallF (k, bi, 1, by_, 0, m) n := by
  unfold withinF smallF
  show cond true (cond (decide (0 ≤ n)) (decide (n ≤ m)) false) _ = cond (decide (IntKind.wrap IntKind.i64 0 ≤ n)) (decide (n ≤ IntKind.wrap IntKind.i64 m)) false
  rw [show IntKind.wrap IntKind.i64 0 = 0 from rfl, wrap_i64 (n := m) (by omega) (by omega), cond_true]

section
variable {x : RowX} (G : XGood x)
include G

theorem dmax_lt : x.2.2.2.2.2.1 < 2147483648 := by
  have h := G.dm.2
  have : (sizeD x.2.2.2.2.2.1).toNat ≤ 6 := by
    unfold sizeD
    cases decide (x.2.2.2.2.2.1 < 2) <;> cases decide (x.2.2.2.2.2.1 < 4) <;> cases decide (x.2.2.2.2.2.1 < 8) <;> cases decide (x.2.2.2.2.2.1 < 16) <;> cases decide (x.2.2.2.2.2.1 < 32) <;> decide
  have h2 : (2 : Int) ^ (sizeD x.2.2.2.2.2.1).toNat ≤ 2 ^ 6 := by
    have := Nat.pow_le_pow_right (n := 2) (by omega) this
    exact_mod_cast this
  omega
omit G in
theorem wA (n : Int) : withinF (hasX x.2.2.1 65) n 31 = smallF (conv x).2.2.1 n := by
  show _ = smallF (cA x) n
  unfold cA
  cases hasX x.2.2.1 65
  · exact within_zero n 31
  · exact within_reg (by omega) (by omega) n
omit G in
theorem wB (n : Int) : withinF (hasX x.2.2.1 66) n 31 = smallF (conv x).2.2.2.1 n := by
  show _ = smallF (cB x) n
  unfold cB
  cases hasX x.2.2.1 66
  · exact within_zero n 31
  · exact within_reg (by omega) (by omega) n
theorem wC (n : Int) : withinF (hasC x) n (mostC x) = smallF (conv x).2.2.2.2.1 n := by
  show _ = smallF (cC x) n
  unfold cC hasC mostC
  cases h : hasX x.2.2.1 116
  · cases hasX x.2.2.1 67
    · exact within_zero n 31
    · show withinF true n 31 = _
      exact within_reg (by omega) (by omega) n
  · rw [G.b26 h]
    show withinF true n 63 = _
    exact within_reg (by omega) (by omega) n
theorem wD (n : Int) : withinF (hasDX x) n x.2.2.2.2.2.1 = smallF (conv x).2.2.2.2.2.1 n := by
  show _ = smallF (cD x) n
  unfold cD
  rw [hasDX_eq]
  cases hasDX x
  · exact within_zero n _
  · exact within_reg G.dm.1 (dmax_lt G) n

omit G in
/-- The program's field of the number. -/
theorem cI_of : (kindX x = 0 → (conv x).2.2.2.2.2.2.1 = zeroN) ∧ (kindX x = 105 → (conv x).2.2.2.2.2.2.1 = (atX x, siX x, 1, byX x, loX x, hiX x)) ∧ (kindX x = 109 → (conv x).2.2.2.2.2.2.1 = maskNm) ∧ (kindX x = 97 → (conv x).2.2.2.2.2.2.1 = aparN) := by
  have e : (conv x).2.2.2.2.2.2.1 = cond (kindX x == 105) (atX x, siX x, 1, byX x, loX x, hiX x) (cond (kindX x == 109) maskNm (cond (kindX x == 97) aparN zeroN)) := rfl
  rw [e]
  refine ⟨fun h => ?_, fun h => ?_, fun h => ?_, fun h => ?_⟩ <;> rw [h] <;> rfl
theorem plainI (h : kindX x = 105) : Plain (atX x, siX x, 1, byX x, loX x, hiX x) (atX x).toNat (siX x).toNat (byX x) := by
  have hf := G.good.fi
  rw [((cI_of (x := x))).2.1 h] at hf
  rcases num_cases hf with h | h | h | P
  · exact absurd (show (1 : Int) = 0 from congrArg (fun f : NumT => f.2.2.1) h) (by decide)
  · exact absurd (show (1 : Int) = 2 from congrArg (fun f : NumT => f.2.2.1) h) (by decide)
  · exact absurd (show (1 : Int) = 3 from congrArg (fun f : NumT => f.2.2.1) h) (by decide)
  · exact P

theorem tail_eq (n : Int) : tailR x n = cond (((conv x).2.2.2.2.2.2.1.2.2.1 == 0) && n != 0) 13 (numE2 (conv x).2.2.2.2.2.2.1 n) := by
  unfold tailR
  obtain ⟨i0, i1, i2, i3⟩ := (cI_of (x := x))
  rcases G.kinds with h | h | h | h
  · rw [i0 h, h]
    show cond (n != 0) 13 0 = cond (true && n != 0) 13 0
    rw [Bool.true_and]
  · have P := plainI G h
    obtain ⟨w1, w2, w3⟩ := plain_wraps P
    rw [i1 h, h]
    unfold numE2
    rw [w1, w2, w3]
    rfl
  · rw [i2 h, h]
    rfl
  · obtain ⟨g1, g2, g3⟩ := G.a97 h
    rw [i3 h, h, g1, g2, g3]
    rfl

theorem check_row (nm : List UInt8) (a b c d n : Int) : checkR x a b c d n = faultyF (conv x) (nm, a, b, c, d, n) := by
  unfold checkR faultyF
  rw [wA (x := x), wB (x := x), wC G, wD G, tail_eq G]
end

theorem check_eq (i : InsT) : checkX i = encE i := by
  unfold checkX encE
  rw [fok_eq]
  cases h : fokX i.1
  · rfl
  · obtain ⟨h1, h2⟩ := frow_eq h
    rw [cond_true, cond_true, h1]
    exact check_row (row_xgood h2) i.1 _ _ _ _ _

/-! Words. -/

theorem or32_bits (a b : Int) : BitVec.ofInt 32 (or32 a b) = BitVec.ofInt 32 a ||| BitVec.ofInt 32 b := by
  apply BitVec.eq_of_toNat_eq
  unfold or32
  have := (BitVec.ofInt 32 a ||| BitVec.ofInt 32 b).isLt
  rw [wrap_u32, show (((BitVec.ofInt 32 a ||| BitVec.ofInt 32 b).toNat : Nat) : Int) % 4294967296 = (((BitVec.ofInt 32 a ||| BitVec.ofInt 32 b).toNat : Nat) : Int) by omega]
  exact ofInt32_cast this
theorem or32_assoc (a b c : Int) : or32 (or32 a b) c = or32 a (or32 b c) := by
  show IntKind.wrap .u32 ((BitVec.ofInt 32 (or32 a b) ||| BitVec.ofInt 32 c).toNat : Int) = IntKind.wrap .u32 ((BitVec.ofInt 32 a ||| BitVec.ofInt 32 (or32 b c)).toNat : Int)
  rw [or32_bits, or32_bits, BitVec.or_assoc]
theorem or32_zero (a b : Int) : or32 (or32 a b) 0 = or32 a b := by
  show IntKind.wrap .u32 ((BitVec.ofInt 32 (or32 a b) ||| BitVec.ofInt 32 0).toNat : Int) = IntKind.wrap .u32 ((BitVec.ofInt 32 a ||| BitVec.ofInt 32 b).toNat : Int)
  rw [or32_bits, show BitVec.ofInt 32 0 = 0#32 from rfl, BitVec.or_zero]

theorem put_zero (n : Int) : putF zeroN n = 0 := rfl
theorem small_zero {n : Int} (h : smallF zeroN n = true) : n = 0 := by
  rw [← within_zero n 0] at h
  exact eq_of_beq h

/-- A register that is put. -/
theorem put_reg {k bi m n : Int} (hf : numFine (k, bi, 1, 1, 0, m) = true) (hs : smallF (k, bi, 1, 1, 0, m) n = true) (hm : m < 2 ^ bi.toNat) : shlM n k = putF (k, bi, 1, 1, 0, m) n ∧ 0 ≤ n ∧ n < 2147483648 := by
  have P : Plain (k, bi, 1, 1, 0, m) k.toNat bi.toNat 1 := by
    rcases num_cases hf with h | h | h | P
    · cases h
    · cases h
    · cases h
    · exact P
  obtain ⟨s1, s2⟩ := small_rng hs
  obtain ⟨w1, w2, w3⟩ := plain_wraps P
  rw [w1] at s1
  rw [w2] at s2
  have s1 : 0 ≤ n := s1
  have s2 : n ≤ m := s2
  have hi : m < 2147483648 := P.hi
  obtain ⟨p1e, p1l⟩ := put1_nat P n
  have hp : p1 (k, bi, 1, 1, 0, m) n = n.toNat := by
    have := p1_int (k, bi, 1, 1, 0, m) n
    have e : Int.tdiv n 1 = n := Int.tdiv_one n
    have q : ((2 ^ bi.toNat : Nat) : Int) = 2 ^ bi.toNat := by simp
    have h2 : (p1 (k, bi, 1, 1, 0, m) n : Int) = Int.tdiv n 1 % ((2 ^ bi.toNat : Nat) : Int) := this
    rw [e, Int.emod_eq_of_lt s1 (by rw [q]; omega)] at h2
    omega
  refine ⟨?_, s1, by omega⟩
  show shlM n k = put1 (k, bi, 1, 1, 0, m) n
  rw [p1e, hp]
  rw [hp] at p1l
  unfold shlM
  have hk : k.toNat ≤ 32 := by have := P.at32; omega
  rw [wrap_u32, wrap_u32, Nat.min_eq_left hk, show n % 4294967296 = ((n.toNat : Nat) : Int) by omega, Nat.shiftLeft_eq]
  rw [Nat.shiftLeft_eq] at p1l
  rw [show ((n.toNat : Nat) : Int) * 2 ^ k.toNat = ((n.toNat * 2 ^ k.toNat : Nat) : Int) by simp]
  omega

theorem shlM_zero (k : Int) : shlM 0 k = 0 := by
  unfold shlM
  rw [show IntKind.wrap IntKind.u32 0 = 0 from rfl, Int.zero_mul]
  rfl

section
variable {x : RowX} (G : XGood x) {nm : List UInt8} {a b c d n : Int} (h : faultyF (conv x) (nm, a, b, c, d, n) = 0)
include G h

theorem base_eq : baseX x a b c d = or32 (or32 (or32 (or32 (conv x).2.1 (putF (conv x).2.2.1 a)) (putF (conv x).2.2.2.1 b)) (putF (conv x).2.2.2.2.1 c)) (putF (conv x).2.2.2.2.2.1 d) := by
  obtain ⟨f1, f2, f3, f4, _, _⟩ := faulty_parts h
  have n1 := reg_num G.good.fa
  have n2 := reg_num G.good.fb
  have n3 := reg_num G.good.fc
  have n4 := reg_num G.good.fd
  have ea : IntKind.wrap IntKind.u32 a = putF (conv x).2.2.1 a := by
    replace f1 : smallF (cA x) a = true := f1
    replace n1 : numFine (cA x) = true := n1
    show _ = putF (cA x) a
    unfold cA at *
    cases hh : hasX x.2.2.1 65
    · rw [hh] at f1
      rw [small_zero f1]
      rfl
    · rw [hh] at f1 n1
      obtain ⟨e1, e2, e3⟩ := put_reg n1 f1 (by decide)
      refine Eq.trans ?_ e1
      unfold shlM
      rw [show Min.min (Int.toNat 0) 32 = 0 from rfl, Int.pow_zero, Int.mul_one, wrap_u32, wrap_u32]
      omega
  have eb : IntKind.wrap IntKind.u32 (IntKind.wrap IntKind.u32 b * 2 ^ 5) = putF (conv x).2.2.2.1 b := by
    replace f2 : smallF (cB x) b = true := f2
    replace n2 : numFine (cB x) = true := n2
    show _ = putF (cB x) b
    unfold cB at *
    cases hh : hasX x.2.2.1 66
    · rw [hh] at f2
      rw [small_zero f2]
      rfl
    · rw [hh] at f2 n2
      exact (put_reg n2 f2 (by decide)).1
  have ec : shlM c x.2.2.2.1 = putF (conv x).2.2.2.2.1 c := by
    replace f3 : smallF (cC x) c = true := f3
    replace n3 : numFine (cC x) = true := n3
    show _ = putF (cC x) c
    unfold cC at *
    cases hh : hasX x.2.2.1 116
    · rw [hh] at f3 n3
      cases hh2 : hasX x.2.2.1 67
      · rw [hh2] at f3
        rw [small_zero f3, shlM_zero]
        rfl
      · rw [hh2] at f3 n3
        exact (put_reg n3 f3 (by decide)).1
    · rw [hh] at f3 n3
      exact (put_reg n3 f3 (by decide)).1
  have ed : shlM d x.2.2.2.2.1 = putF (conv x).2.2.2.2.2.1 d := by
    replace f4 : smallF (cD x) d = true := f4
    replace n4 : numFine (cD x) = true := n4
    show _ = putF (cD x) d
    unfold cD at *
    rw [hasDX_eq] at *
    cases hh : hasDX x
    · rw [hh] at f4
      rw [small_zero f4, shlM_zero]
      rfl
    · rw [hh] at f4 n4
      exact (put_reg n4 f4 G.dm.2).1
  unfold baseX
  rw [ea, eb, ec, ed]
  rfl

theorem word_row : wordR x a b c d n = bitsF (conv x) (nm, a, b, c, d, n) := by
  have hb := base_eq G h
  have hB : bitsF (conv x) (nm, a, b, c, d, n) = or32 (baseX x a b c d) (putF (conv x).2.2.2.2.2.2.1 n) := by rw [hb]; rfl
  rw [hB]
  obtain ⟨i0, i1, i2, i3⟩ := (cI_of (x := x))
  unfold wordR
  rcases G.kinds with hk | hk | hk | hk
  · rw [i0 hk, hk, put_zero]
    show baseX x a b c d = _
    rw [hb, or32_zero]
  · rw [i1 hk, hk]
    show or32 (baseX x a b c d) (immI x n) = or32 (baseX x a b c d) (put1 (atX x, siX x, 1, byX x, loX x, hiX x) n)
    have P := plainI G hk
    obtain ⟨e, l⟩ := put1_nat P n
    have hp := p1_int (atX x, siX x, 1, byX x, loX x, hiX x) n
    have hp : ((p1 (atX x, siX x, 1, byX x, loX x, hiX x) n : Nat) : Int) = Int.tdiv n (byX x) % ((2 ^ (siX x).toNat : Nat) : Int) := hp
    rw [e]
    congr 1
    unfold immI
    generalize p1 (atX x, siX x, 1, byX x, loX x, hiX x) n = p at hp l ⊢
    generalize Int.tdiv n (byX x) = q at hp ⊢
    have s31 := P.bi31
    have a32 := P.at32
    generalize hs : (siX x).toNat = s at *
    generalize ha : (atX x).toNat = k at *
    have q2 : (2 : Nat) ^ s ≤ 2 ^ 31 := Nat.pow_le_pow_right (by omega) s31
    have q0 : 0 < (2 : Nat) ^ s := Nat.two_pow_pos s
    have hm : IntKind.wrap IntKind.u64 (IntKind.wrap IntKind.u64 (1 * 2 ^ Min.min s 64) - 1) = ((2 ^ s - 1 : Nat) : Int) := by
      rw [Nat.min_eq_left (by omega), wrap_u64, wrap_u64, pow_cast s]
      omega
    have hq : IntKind.wrap IntKind.u64 (IntKind.wrap IntKind.i64 q) = ((q % 18446744073709551616).toNat : Int) := by
      have : IntKind.wrap .u64 (IntKind.wrap .i64 q) = q % 18446744073709551616 := i64_u64 q
      rw [this]; omega
    rw [hm, hq, and64_cast (by omega) (by omega), Nat.and_two_pow_sub_one_eq_mod]
    have hpe : (q % 18446744073709551616).toNat % 2 ^ s = p := by
      have hd : ((2 ^ s : Nat) : Int) ∣ ((18446744073709551616 : Nat) : Int) := Int.natCast_dvd_natCast.2 (by rw [show 18446744073709551616 = 2 ^ 64 from rfl]; exact Nat.pow_dvd_pow 2 (by omega))
      have := Int.emod_emod_of_dvd q hd
      apply Int.ofNat.inj
      show (((q % 18446744073709551616).toNat % 2 ^ s : Nat) : Int) = (p : Int)
      rw [Int.natCast_emod, Int.toNat_of_nonneg (by omega), hp]
      exact this
    rw [hpe, Nat.min_eq_left (by omega), pow_cast k]
    rw [Nat.shiftLeft_eq] at l ⊢
    rw [show ((p : Nat) : Int) * ((2 ^ k : Nat) : Int) = ((p * 2 ^ k : Nat) : Int) by simp, wrap_u64, wrap_u32]
    omega
  · rw [i2 hk, hk]
    show or32 (or32 (or32 (baseX x a b c d) _) _) _ = or32 (baseX x a b c d) (put3 n)
    rw [or32_assoc (or32 (baseX x a b c d) _) _ _, or32_assoc (baseX x a b c d) _ _, ← or32_assoc _ _ (IntKind.wrap IntKind.u32 (IntKind.wrap IntKind.u32 (ofVS (u64N n)) * 2 ^ 10))]
    rfl
  · rw [i3 hk, hk]
    show or32 (or32 (baseX x a b c d) _) _ = or32 (baseX x a b c d) (put2 n)
    rw [or32_assoc (baseX x a b c d) _ _]
    unfold put2
    have e1 : IntKind.wrap IntKind.u32 (and64 (IntKind.wrap IntKind.u64 n) 3) = and32 (IntKind.wrap IntKind.u32 n) 3 := by
      rw [wrap_u64 n, wrap_u32 n, show n % 18446744073709551616 = ((n % 18446744073709551616).toNat : Int) by omega, show n % 4294967296 = ((n % 4294967296).toNat : Int) by omega]
      rw [show (3 : Int) = ((3 : Nat) : Int) from rfl, and64_cast (by omega) (by omega), and32_cast (by omega) (by omega), wrap_u32, show (3 : Nat) = 2 ^ 2 - 1 from rfl, Nat.and_two_pow_sub_one_eq_mod, Nat.and_two_pow_sub_one_eq_mod]
      omega
    have e2 : IntKind.wrap IntKind.u32 (and64 (Int.fdiv (IntKind.wrap IntKind.u64 n) (2 ^ 2)) 524287) = and32 (IntKind.wrap IntKind.u32 (Int.fdiv n (2 ^ 2))) 524287 := by
      rw [wrap_u64, Int.fdiv_eq_ediv_of_nonneg _ (by decide), Int.fdiv_eq_ediv_of_nonneg _ (by decide), wrap_u32 (n / 2 ^ 2), show n % 18446744073709551616 / 2 ^ 2 = ((n % 18446744073709551616 / 2 ^ 2).toNat : Int) by omega, show n / 2 ^ 2 % 4294967296 = ((n / 2 ^ 2 % 4294967296).toNat : Int) by omega]
      rw [show (524287 : Int) = ((524287 : Nat) : Int) from rfl, and64_cast (by omega) (by omega), and32_cast (by omega) (by omega), wrap_u32, show (524287 : Nat) = 2 ^ 19 - 1 from rfl, Nat.and_two_pow_sub_one_eq_mod, Nat.and_two_pow_sub_one_eq_mod]
      omega
    rw [e1, e2]
end

theorem word_eq {i : InsT} (h : (encE i == 0) = true) : fokX i.1 = true ∧ wordX i = encW i := by
  obtain ⟨hf, hz⟩ := enc_ok h
  rw [fok_eq] at hf
  obtain ⟨h1, h2⟩ := frow_eq hf
  refine ⟨hf, ?_⟩
  unfold wordX encW
  rw [h1] at hz ⊢
  exact word_row (row_xgood h2) (nm := i.1) hz

end Go.Arm
