/-
  What a word would be by a row of the document's is what it would be by the program's. Conditions: none.
-/
import Derived.Test.YtffamklolgjjdaaAr30
import Derived.Test.YtffamklolgjjdaaAr16
namespace Go.Arm
open Go Go.Ab Go.Proofs Go.Wd

theorem sgn_mod (b : Nat) (x : Int) : sgn b (x % 2 ^ b) = sgn b x := by
  unfold sgn
  rw [Int.emod_emod_of_dvd x (Int.dvd_refl _)]

theorem lowW_nat {y : Nat} (hy : y < 2 ^ 32) {s : Nat} (hs : s ≤ 31) : lowW (y : Int) (s : Int) = (y : Int) % ((2 ^ s : Nat) : Int) := by
  have hp : (2 : Nat) ^ s ≤ 2 ^ 31 := Nat.pow_le_pow_right (by omega) hs
  have hp0 : 0 < (2 : Nat) ^ s := Nat.two_pow_pos s
  unfold lowW
  have h := and_maskB (x := (y : Int)) (bi := s) hs
  rw [show (y : Int) % 4294967296 = (y : Int) by omega] at h
  rw [show and32 (y : Int) (lowM (s : Int)) = _ from h]
  have h1 := Int.emod_lt_of_pos (y : Int) (show (0 : Int) < ((2 ^ s : Nat) : Int) by omega)
  have h2 := Int.emod_nonneg (y : Int) (show ((2 ^ s : Nat) : Int) ≠ 0 by omega)
  exact wrap_i64 (by omega) (by omega)

theorem signX_nat {y : Nat} (hy : y < 2 ^ 32) {s : Nat} (hs : s = 7 ∨ s = 19 ∨ s = 21 ∨ s = 26) : signX (y : Int) (s : Int) = sgn s (y : Int) := by
  unfold signX
  rw [lowW_nat hy (by omega)]
  rcases hs with rfl | rfl | rfl | rfl
  · rw [show halfW ((7 : Nat) : Int) = 64 from by decide, show IntKind.wrap IntKind.i64 (1 * 2 ^ Min.min (Int.toNat ((7 : Nat) : Int)) 64) = 128 from by decide]
    unfold sgn
    by_cases hc : (64 : Int) ≤ (y : Int) % ((2 ^ 7 : Nat) : Int)
    · rw [decide_eq_true hc, cond_true, wrap_i64 (by omega) (by omega)]; omega
    · rw [decide_eq_false hc, cond_false]; omega
  · rw [show halfW ((19 : Nat) : Int) = 262144 from by decide, show IntKind.wrap IntKind.i64 (1 * 2 ^ Min.min (Int.toNat ((19 : Nat) : Int)) 64) = 524288 from by decide]
    unfold sgn
    by_cases hc : (262144 : Int) ≤ (y : Int) % ((2 ^ 19 : Nat) : Int)
    · rw [decide_eq_true hc, cond_true, wrap_i64 (by omega) (by omega)]; omega
    · rw [decide_eq_false hc, cond_false]; omega
  · rw [show halfW ((21 : Nat) : Int) = 1048576 from by decide, show IntKind.wrap IntKind.i64 (1 * 2 ^ Min.min (Int.toNat ((21 : Nat) : Int)) 64) = 2097152 from by decide]
    unfold sgn
    by_cases hc : (1048576 : Int) ≤ (y : Int) % ((2 ^ 21 : Nat) : Int)
    · rw [decide_eq_true hc, cond_true, wrap_i64 (by omega) (by omega)]; omega
    · rw [decide_eq_false hc, cond_false]; omega
  · rw [show halfW ((26 : Nat) : Int) = 33554432 from by decide, show IntKind.wrap IntKind.i64 (1 * 2 ^ Min.min (Int.toNat ((26 : Nat) : Int)) 64) = 67108864 from by decide]
    unfold sgn
    by_cases hc : (33554432 : Int) ≤ (y : Int) % ((2 ^ 26 : Nat) : Int)
    · rw [decide_eq_true hc, cond_true, wrap_i64 (by omega) (by omega)]; omega
    · rw [decide_eq_false hc, cond_false]; omega

/-- A register that is got. -/
theorem get_reg {k bi m : Int} (hf : numFine (k, bi, 1, 1, 0, m) = true) {w : Nat} (hw : w < 2 ^ 32) : andM (w : Int) k (maskB bi) = getF (k, bi, 1, 1, 0, m) (w : Int) := by
  have P : Plain (k, bi, 1, 1, 0, m) k.toNat bi.toNat 1 := by
    rcases num_cases hf with h | h | h | P
    · cases h
    · cases h
    · cases h
    · exact P
  have hr := raw1_nat P hw
  have hlt : w / 2 ^ k.toNat % 2 ^ bi.toNat < 2 ^ 32 := Nat.lt_of_le_of_lt (Nat.mod_le _ _) (Nat.lt_of_le_of_lt (Nat.div_le_self _ _) hw)
  show IntKind.wrap IntKind.i64 (raw1 (k, bi, 1, 1, 0, m) (w : Int)) = get1 (k, bi, 1, 1, 0, m) (w : Int)
  unfold get1
  show _ = cond (decide ((0 : Int) < 0)) _ (IntKind.wrap IntKind.i64 (IntKind.wrap IntKind.i64 (raw1 (k, bi, 1, 1, 0, m) (w : Int)) * IntKind.wrap IntKind.i64 1))
  rw [decide_eq_false (by omega), cond_false, hr, show IntKind.wrap IntKind.i64 1 = 1 from by decide, Int.mul_one]
  generalize w / 2 ^ k.toNat % 2 ^ bi.toNat = q at hlt ⊢
  rw [wrap_i64 (n := (q : Int)) (by omega) (by omega), wrap_i64 (n := (q : Int)) (by omega) (by omega)]

theorem andM_zero (w m : Int) : andM w 0 m = IntKind.wrap IntKind.i64 (and32 w m) := by
  unfold andM
  rw [show Min.min (Int.toNat 0) 32 = 0 from rfl, Int.pow_zero, Int.fdiv_one]

theorem get_zero (w : Int) : getF zeroN w = 0 := rfl

section
variable {x : RowX} (G : XGood x) {w : Nat} (hw : w < 2 ^ 32)
include G hw

theorem read_imm : readI x (w : Int) = getF (conv x).2.2.2.2.2.2.1 (w : Int) := by
  obtain ⟨i0, i1, i2, i3⟩ := cI_of (x := x)
  unfold readI
  rcases G.kinds with hk | hk | hk | hk
  · rw [i0 hk, hk]
    rfl
  · rw [i1 hk, hk]
    have P := plainI G hk
    have hr := raw1_nat P hw
    obtain ⟨_, _, w3⟩ := plain_wraps P
    have w3 : IntKind.wrap .i64 (byX x) = byX x := w3
    have s31 := P.bi31
    have a32 := P.at32
    have k1 := G.k105 hk
    have es : siX x = (((siX x).toNat : Nat) : Int) := by omega
    show IntKind.wrap IntKind.i64 (cond (decide (loX x < 0)) (signX (Int.fdiv w (2 ^ Min.min (Int.toNat (atX x)) 32)) (siX x)) (IntKind.wrap IntKind.i64 (raw1 (atX x, siX x, 1, byX x, loX x, hiX x) (w : Int))) * byX x) = get1 (atX x, siX x, 1, byX x, loX x, hiX x) (w : Int)
    unfold get1
    show _ = cond (decide (loX x < 0)) (IntKind.wrap IntKind.i64 (signedF (raw1 (atX x, siX x, 1, byX x, loX x, hiX x) (w : Int)) (IntKind.wrap IntKind.i64 (siX x)) * IntKind.wrap IntKind.i64 (byX x))) (IntKind.wrap IntKind.i64 (IntKind.wrap IntKind.i64 (raw1 (atX x, siX x, 1, byX x, loX x, hiX x) (w : Int)) * IntKind.wrap IntKind.i64 (byX x)))
    rw [w3]
    cases hl : decide (loX x < 0)
    · rfl
    · rw [cond_true, cond_true]
      have hs : (siX x).toNat = 7 ∨ (siX x).toNat = 19 ∨ (siX x).toNat = 21 ∨ (siX x).toNat = 26 := by
        rcases P.rng with ⟨_, h, _⟩ | ⟨h, _⟩
        · omega
        · have h1 : loX x < 0 := of_decide_eq_true hl
          have h : loX x = 0 := h
          omega
      have hy : w >>> (atX x).toNat < 2 ^ 32 := by rw [Nat.shiftRight_eq_div_pow]; exact Nat.lt_of_le_of_lt (Nat.div_le_self _ _) hw
      have e1 : signX (Int.fdiv w (2 ^ Min.min (Int.toNat (atX x)) 32)) (siX x) = sgn (siX x).toNat ((w >>> (atX x).toNat : Nat) : Int) := by
        rw [Nat.min_eq_left (by omega), shr_cast]
        conv => lhs; rw [es]
        exact signX_nat hy hs
      have e2 : signedF (raw1 (atX x, siX x, 1, byX x, loX x, hiX x) (w : Int)) (IntKind.wrap IntKind.i64 (siX x)) = sgn (siX x).toNat ((w >>> (atX x).toNat : Nat) : Int) := by
        rw [hr, ← sgn_mod (siX x).toNat ((w >>> (atX x).toNat : Nat) : Int), Nat.shiftRight_eq_div_pow]
        have em : ((w / 2 ^ (atX x).toNat % 2 ^ (siX x).toNat : Nat) : Int) = ((w / 2 ^ (atX x).toNat : Nat) : Int) % 2 ^ (siX x).toNat := by
          rw [Int.natCast_emod, pow_cast]
        rw [em]
        generalize ((w / 2 ^ (atX x).toNat : Nat) : Int) = y
        rcases hs with h | h | h | h
        · rw [h, show siX x = 7 by omega, show IntKind.wrap IntKind.i64 7 = 7 from by decide]; exact signed7 _
        · rw [h, show siX x = 19 by omega, show IntKind.wrap IntKind.i64 19 = 19 from by decide]; exact signed19 _
        · rw [h, show siX x = 21 by omega, show IntKind.wrap IntKind.i64 21 = 21 from by decide]; exact signed21 _
        · rw [h, show siX x = 26 by omega, show IntKind.wrap IntKind.i64 26 = 26 from by decide]; exact signed26 _
      rw [e1, e2]
  · rw [i2 hk, hk]
    rfl
  · rw [i3 hk, hk]
    show signX (or32 (IntKind.wrap IntKind.u32 (and32 (Int.fdiv w (2 ^ 5)) 524287 * 2 ^ 2)) (and32 (Int.fdiv w (2 ^ 29)) 3)) 21 = signedF (or32 (IntKind.wrap IntKind.u32 (and32 (Int.fdiv w (2 ^ 5)) 524287 * 2 ^ 2)) (and32 (Int.fdiv w (2 ^ 29)) 3)) 21
    rw [signed21]
    have hr : ∀ a b : Int, 0 ≤ or32 a b ∧ or32 a b < 4294967296 := fun a b => by
      unfold or32
      rw [wrap_u32]
      omega
    obtain ⟨r0, r1⟩ := hr (IntKind.wrap IntKind.u32 (and32 (Int.fdiv w (2 ^ 5)) 524287 * 2 ^ 2)) (and32 (Int.fdiv w (2 ^ 29)) 3)
    generalize or32 (IntKind.wrap IntKind.u32 (and32 (Int.fdiv w (2 ^ 5)) 524287 * 2 ^ 2)) (and32 (Int.fdiv w (2 ^ 29)) 3) = y at r0 r1 ⊢
    have := signX_nat (y := y.toNat) (by omega) (s := 21) (by omega)
    rw [show ((y.toNat : Nat) : Int) = y by omega] at this
    exact this

theorem read_row : readX (w : Int) x = readF (w : Int) (conv x) := by
  have n1 : numFine (cA x) = true := reg_num G.good.fa
  have n2 : numFine (cB x) = true := reg_num G.good.fb
  have n3 : numFine (cC x) = true := reg_num G.good.fc
  have n4 : numFine (cD x) = true := reg_num G.good.fd
  have ea : cond (hasX x.2.2.1 65) (IntKind.wrap IntKind.i64 (and32 (w : Int) 31)) 0 = getF (cA x) (w : Int) := by
    unfold cA at *
    cases hh : hasX x.2.2.1 65
    · rfl
    · rw [hh] at n1
      rw [cond_true, cond_true, ← get_reg n1 hw, andM_zero]
      rfl
  have eb : cond (hasX x.2.2.1 66) (IntKind.wrap IntKind.i64 (and32 (Int.fdiv (w : Int) (2 ^ 5)) 31)) 0 = getF (cB x) (w : Int) := by
    unfold cB at *
    cases hh : hasX x.2.2.1 66
    · rfl
    · rw [hh] at n2
      rw [cond_true, cond_true, ← get_reg n2 hw]
      rfl
  have ec : readC x (w : Int) = getF (cC x) (w : Int) := by
    unfold cC readC at *
    cases hh : hasX x.2.2.1 116
    · rw [hh] at n3
      cases hh2 : hasX x.2.2.1 67
      · rfl
      · rw [hh2] at n3
        rw [cond_false, cond_false, cond_true, cond_true, ← get_reg n3 hw]
        rfl
    · rw [hh] at n3
      rw [cond_true, cond_true, ← get_reg n3 hw]
      rfl
  have ed : cond (hasDX x) (andM (w : Int) x.2.2.2.2.1 (lowM (sizeD x.2.2.2.2.2.1))) 0 = getF (cD x) (w : Int) := by
    unfold cD at *
    rw [hasDX_eq] at *
    cases hh : hasDX x
    · rfl
    · rw [hh] at n4
      rw [cond_true, cond_true, ← get_reg n4 hw]
      rfl
  unfold readX readF
  rw [ea, eb, ec, ed, read_imm G hw]
  rfl
end

def matchX (w : Int) (x : RowX) : Bool := cond (checkX (readX w x) == 0) (wordX (readX w x) == w) false
def drowX (w : Int) : Option RowX := rowsX.find? (matchX w)

theorem match_row {x : RowX} (hx : x ∈ rowsX) {w : Nat} (hw : w < 2 ^ 32) : dMatch (w : Int) (conv x) = matchX (w : Int) x := by
  have G := row_xgood hx
  obtain ⟨o1, o2⟩ := row_own G.mem
  unfold dMatch matchX
  rw [read_row G hw]
  have hn : (readF (w : Int) (conv x)).1 = (conv x).1 := rfl
  have he : encE (readF (w : Int) (conv x)) = faultyF (conv x) (readF (w : Int) (conv x)) := by
    unfold encE
    rw [hn, o1, o2]
    rfl
  rw [check_eq, he]
  cases hf : (faultyF (conv x) (readF (w : Int) (conv x)) == 0)
  · rfl
  · have h0 : (encE (readF (w : Int) (conv x)) == 0) = true := by rw [he]; exact hf
    rw [(word_eq h0).2]
    unfold encW
    rw [hn, o2]

theorem find_congr {α : Type} {p q : α → Bool} : ∀ {l : List α}, (∀ x ∈ l, p x = q x) → l.find? p = l.find? q
  | [], _ => rfl
  | a :: l, h => by
    rw [List.find?_cons, List.find?_cons, h a List.mem_cons_self, find_congr fun x hx => h x (List.mem_cons_of_mem _ hx)]

theorem drow_eq {w : Nat} (hw : w < 2 ^ 32) : drow (w : Int) = (drowX (w : Int)).map conv := by
  unfold drow drowX
  rw [← rows_conv, List.find?_map]
  exact congrArg (Option.map conv) (find_congr fun x hx => match_row hx hw)

end Go.Arm
