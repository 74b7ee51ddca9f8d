/-
  Decoding of what was encoded, encoding of what was decoded. Conditions: none.
-/
import Derived.Test.YtegieioiofggbaaRv13
namespace Go.Rv
open Go Go.Ab

/-! Bytes and words. -/

def Bytes (l : List Int) : Prop := ∀ b ∈ l, 0 ≤ b ∧ b < 256

theorem bytes_getD {l : List Int} (h : Bytes l) (k : Nat) : 0 ≤ l.getD k 0 ∧ l.getD k 0 < 256 := by
  by_cases hk : k < l.length
  · rw [getD_lt hk]; exact h _ (List.getElem_mem hk)
  · simp [List.getD, hk]

/-- Four bytes as a number. -/
def sum4 (l : List Int) (k : Nat) : Int := l.getD k 0 + 256 * l.getD (k + 1) 0 + 65536 * l.getD (k + 2) 0 + 16777216 * l.getD (k + 3) 0

theorem word4 {a b c d : Int} (ha : 0 ≤ a ∧ a < 256) (hb : 0 ≤ b ∧ b < 256) (hc : 0 ≤ c ∧ c < 256) (hd : 0 ≤ d ∧ d < 256) :
    or32 (or32 (or32 (IntKind.wrap .u32 a) (shl32 (IntKind.wrap .u32 b) 8)) (shl32 (IntKind.wrap .u32 c) 16)) (shl32 (IntKind.wrap .u32 d) 24) = a + 256 * b + 65536 * c + 16777216 * d := by
  have ea : IntKind.wrap .u32 a = ((a.toNat : Nat) : Int) := by rw [wrap_u32]; omega
  have eb : shl32 (IntKind.wrap .u32 b) 8 = ((b.toNat <<< 8 : Nat) : Int) := by unfold shl32; rw [wrap_u32, wrap_u32, Nat.shiftLeft_eq]; omega
  have ec : shl32 (IntKind.wrap .u32 c) 16 = ((c.toNat <<< 16 : Nat) : Int) := by unfold shl32; rw [wrap_u32, wrap_u32, Nat.shiftLeft_eq]; omega
  have ed : shl32 (IntKind.wrap .u32 d) 24 = ((d.toNat <<< 24 : Nat) : Int) := by unfold shl32; rw [wrap_u32, wrap_u32, Nat.shiftLeft_eq]; omega
  have lb : b.toNat <<< 8 < 2 ^ 32 := by rw [Nat.shiftLeft_eq]; omega
  have lc : c.toNat <<< 16 < 2 ^ 32 := by rw [Nat.shiftLeft_eq]; omega
  have ld : d.toNat <<< 24 < 2 ^ 32 := by rw [Nat.shiftLeft_eq]; omega
  have la : a.toNat < 2 ^ 32 := by omega
  rw [ea, eb, ec, ed]
  rw [or32_nat (a := (a.toNat : Int)) (by omega) (by omega) (by omega) (by omega)]
  simp only [Int.toNat_natCast]
  have l1 : a.toNat ||| b.toNat <<< 8 < 2 ^ 32 := Nat.or_lt_two_pow la lb
  rw [or32_nat (a := ((a.toNat ||| b.toNat <<< 8 : Nat) : Int)) (by omega) (by omega) (by omega) (by omega)]
  simp only [Int.toNat_natCast]
  have l2 : a.toNat ||| b.toNat <<< 8 ||| c.toNat <<< 16 < 2 ^ 32 := Nat.or_lt_two_pow l1 lc
  rw [or32_nat (by omega) (by omega) (by omega) (by omega)]
  simp only [Int.toNat_natCast]
  have s := orF_sum [(b.toNat, 8, 8), (c.toNat, 16, 8), (d.toNat, 24, 8)] a.toNat (by
    intro g hg
    rcases List.mem_cons.1 hg with rfl | hg
    · exact ⟨by show b.toNat < 256; omega, .low (by show a.toNat < 256; omega)⟩
    rcases List.mem_cons.1 hg with rfl | hg
    · exact ⟨by show c.toNat < 256; omega, .low (by show a.toNat < 65536; omega)⟩
    rcases List.mem_cons.1 hg with rfl | hg
    · exact ⟨by show d.toNat < 256; omega, .low (by show a.toNat < 16777216; omega)⟩
    cases hg) rfl
  simp only [orF, sumF] at s
  rw [s]
  omega

theorem w4_sum {l : List Int} {at_ : Int} (h : Bytes l) (h0 : 0 ≤ at_) (h1 : at_ + 4 ≤ l.length) (hl : l.length < 1000000000) : w4 l at_ = sum4 l at_.toNat := by
  unfold w4 sum4 gb
  rw [wrap_i64 (n := at_ + 1) (by omega) (by omega), wrap_i64 (n := at_ + 2) (by omega) (by omega), wrap_i64 (n := at_ + 3) (by omega) (by omega)]
  rw [show (at_ + 1).toNat = at_.toNat + 1 from by omega, show (at_ + 2).toNat = at_.toNat + 2 from by omega, show (at_ + 3).toNat = at_.toNat + 3 from by omega]
  exact word4 (bytes_getD h _) (bytes_getD h _) (bytes_getD h _) (bytes_getD h _)

theorem sum4_rng {l : List Int} (h : Bytes l) (k : Nat) : 0 ≤ sum4 l k ∧ sum4 l k < 4294967296 := by
  have h0 := bytes_getD h k
  have h1 := bytes_getD h (k + 1)
  have h2 := bytes_getD h (k + 2)
  have h3 := bytes_getD h (k + 3)
  unfold sum4
  omega

theorem bytes4_eq {w : Int} (_h0 : 0 ≤ w) : bytes4 w = [w % 256, w / 256 % 256, w / 65536 % 256, w / 16777216 % 256] := by
  unfold bytes4
  simp only [wrap_u8]
  rw [Int.fdiv_eq_ediv_of_nonneg _ (by decide), Int.fdiv_eq_ediv_of_nonneg _ (by decide), Int.fdiv_eq_ediv_of_nonneg _ (by decide)]
  rfl

theorem bytes4_sum4 {l : List Int} (h : Bytes l) (k : Nat) : bytes4 (sum4 l k) = [l.getD k 0, l.getD (k + 1) 0, l.getD (k + 2) 0, l.getD (k + 3) 0] := by
  rw [bytes4_eq (sum4_rng h k).1]
  have h0 := bytes_getD h k
  have h1 := bytes_getD h (k + 1)
  have h2 := bytes_getD h (k + 2)
  have h3 := bytes_getD h (k + 3)
  unfold sum4
  generalize l.getD k 0 = a, l.getD (k + 1) 0 = b, l.getD (k + 2) 0 = c, l.getD (k + 3) 0 = d at h0 h1 h2 h3
  congr 1
  · omega
  congr 1
  · omega
  congr 1
  · omega
  congr 1
  omega

theorem bytes4_bytes {w : Int} (h0 : 0 ≤ w) : Bytes (bytes4 w) := by
  rw [bytes4_eq h0]
  intro b hb
  simp only [List.mem_cons, List.not_mem_nil, or_false] at hb
  omega

theorem sum4_bytes4 {p s : List Int} {w : Int} (h0 : 0 ≤ w) (h1 : w < 4294967296) : sum4 (p ++ bytes4 w ++ s) p.length = w := by
  have g : ∀ k, k < 4 → (p ++ bytes4 w ++ s).getD (p.length + k) 0 = (bytes4 w).getD k 0 := by
    intro k hk
    have hl : (bytes4 w).length = 4 := rfl
    simp only [List.getD, List.append_assoc]
    rw [List.getElem?_append_right (by omega), show p.length + k - p.length = k from by omega, List.getElem?_append_left (by omega)]
  unfold sum4
  have g0 := g 0 (by omega)
  rw [Nat.add_zero] at g0
  rw [g0, g 1 (by omega), g 2 (by omega), g 3 (by omega), bytes4_eq h0]
  show w % 256 + 256 * (w / 256 % 256) + 65536 * (w / 65536 % 256) + 16777216 * (w / 16777216 % 256) = w
  omega

/-! Which row a word has. -/

theorem orF_out : ∀ {fs : List Fd} {x : Nat}, (∀ f ∈ fs, f.1 < 2 ^ f.2.2) → ∀ j, (maskFd fs).testBit j = false → (orF x fs).testBit j = x.testBit j
  | [], x, _, j, _ => rfl
  | f :: r, x, hs, j, hm => by
    simp only [maskFd, Nat.testBit_or, Bool.or_eq_false_iff, Nat.testBit_shiftLeft, Nat.testBit_two_pow_sub_one] at hm
    simp only [orF]
    rw [orF_out (fun g hg => hs g (List.mem_cons_of_mem _ hg)) j hm.2, Nat.testBit_or, Nat.testBit_shiftLeft]
    by_cases h1 : f.2.1 ≤ j
    · have h2 : ¬ j - f.2.1 < f.2.2 := by
        have := hm.1
        simpa [h1] using this
      have : f.1.testBit (j - f.2.1) = false := Nat.testBit_lt_two_pow (Nat.lt_of_lt_of_le (hs f List.mem_cons_self) (Nat.pow_le_pow_right (by omega) (by omega)))
      simp [this]
    · simp [h1]

def rowApart (r s : RowT) : Bool := strEq r.1 s.1 || !(Nat.beq ((r.2.2.toNat ^^^ s.2.2.toNat) &&& (4294967295 ^^^ (maskF r.2.1 ||| maskF s.2.1))) 0)
theorem rows_apart : rowsL.all (fun r => rowsL.all (rowApart r)) = true := by kernel_rfl
def rowOwn (r : RowT) : Bool := fok r.1 && (strEq (frow r.1).1 r.1 && (decide ((frow r.1).2.1 = r.2.1) && decide ((frow r.1).2.2 = r.2.2)))
theorem rows_own : rowsL.all rowOwn = true := by kernel_rfl

theorem row_own {r : RowT} (hr : r ∈ rowsL) : fok r.1 = true ∧ frow r.1 = r := by
  have h := List.all_eq_true.1 rows_own _ hr
  simp only [rowOwn, Bool.and_eq_true, decide_eq_true_eq] at h
  obtain ⟨h1, h2, h3, h4⟩ := h
  exact ⟨h1, Prod.ext (eq_of_beq h2) (Prod.ext h3 h4)⟩

section
variable {r s : RowT} {a b c n a' b' c' n' : Int}

theorem word_only (hr : r ∈ rowsL) (hs : s ∈ rowsL) (ha : regOk a (uA r.2.1) = true) (hb : regOk b (uB r.2.1) = true) (hc : regOk c (uC r.2.1) = true)
    (ha' : regOk a' (uA s.2.1) = true) (hb' : regOk b' (uB s.2.1) = true) (hc' : regOk c' (uC s.2.1) = true) (h : wordF r.2.1 r.2.2 a b c n = wordF s.2.1 s.2.2 a' b' c' n') : r = s := by
  obtain ⟨⟨r0, r1⟩, _, _, _, f0, f8⟩ := row_off (List.all_eq_true.1 rows_fine _ hr)
  obtain ⟨⟨s0, s1⟩, _, _, _, g0, g8⟩ := row_off (List.all_eq_true.1 rows_fine _ hs)
  obtain ⟨e1, _⟩ := word_sum (n := n) hr ha hb hc
  obtain ⟨e2, _⟩ := word_sum (n := n') hs ha' hb' hc'
  obtain ⟨F, C⟩ := word_fine (n := n) hr ha hb hc
  obtain ⟨F', C'⟩ := word_fine (n := n') hs ha' hb' hc'
  rw [← orF_sum _ _ F C] at e1
  rw [← orF_sum _ _ F' C'] at e2
  rw [e1, e2] at h
  have h := Int.ofNat_inj.1 h
  have hp := List.all_eq_true.1 (List.all_eq_true.1 rows_apart _ hr) _ hs
  simp only [rowApart, Bool.or_eq_true, Bool.not_eq_true'] at hp
  rcases hp with hp | hp
  · have hn : r.1 = s.1 := eq_of_beq hp
    rw [← (row_own hr).2, ← (row_own hs).2, hn]
  · exfalso
    have hz : (r.2.2.toNat ^^^ s.2.2.toNat) &&& (4294967295 ^^^ (maskF r.2.1 ||| maskF s.2.1)) = 0 := by
      apply Nat.eq_of_testBit_eq
      intro j
      rw [Nat.testBit_and, Nat.testBit_xor, Nat.testBit_xor, Nat.testBit_or, Nat.zero_testBit]
      by_cases hj : j < 32
      · have h32 : Nat.testBit 4294967295 j = true := by
          rw [show (4294967295 : Nat) = 2 ^ 32 - 1 from rfl, Nat.testBit_two_pow_sub_one]
          simpa using hj
        rw [h32]
        cases h1 : (maskF r.2.1).testBit j
        · cases h2 : (maskF s.2.1).testBit j
          · have o1 := orF_out (x := r.2.2.toNat) (fun f hf => (F f hf).1) j (by rw [maskFd_shape (fd_shape _ _ _ _ _ f0 f8)]; exact h1)
            have o2 := orF_out (x := s.2.2.toNat) (fun f hf => (F' f hf).1) j (by rw [maskFd_shape (fd_shape _ _ _ _ _ g0 g8)]; exact h2)
            rw [← o1, ← o2, h]
            simp
          · simp
        · simp
      · have b1 : r.2.2.toNat.testBit j = false := Nat.testBit_lt_two_pow (Nat.lt_of_lt_of_le (show r.2.2.toNat < 2 ^ 32 by omega) (Nat.pow_le_pow_right (by omega) (by omega)))
        have b2 : s.2.2.toNat.testBit j = false := Nat.testBit_lt_two_pow (Nat.lt_of_lt_of_le (show s.2.2.toNat < 2 ^ 32 by omega) (Nat.pow_le_pow_right (by omega) (by omega)))
        simp [b1, b2]
    rw [hz] at hp
    simp at hp
end

/-! Registers and numbers out of a word. -/

theorem fld_eq {w : Nat} (hw : w < 2 ^ 32) (k : Nat) : fld (w : Int) k = ((w / 2 ^ k % 32 : Nat) : Int) := by
  unfold fld
  have hp : (0 : Int) < 2 ^ k := Int.pow_pos (by omega)
  have e : ((2 : Int) ^ k) = ((2 ^ k : Nat) : Int) := by simp
  rw [Int.fdiv_eq_ediv_of_nonneg _ (by omega), e, ← Int.natCast_ediv]
  have hq : w / 2 ^ k < 2 ^ 32 := Nat.lt_of_le_of_lt (Nat.div_le_self _ _) hw
  generalize w / 2 ^ k = q at hq
  rw [BitVec.toNat_and, ofInt32_toNat (by omega) (by omega), ofInt32_toNat (by omega) (by omega), Int.toNat_natCast]
  rw [show Int.toNat 31 = 2 ^ 5 - 1 from rfl, Nat.and_two_pow_sub_one_eq_mod, wrap_u32, wrap_i64 (by omega) (by omega)]
  omega

theorem fld_ok {w : Nat} (hw : w < 2 ^ 32) (k : Nat) (u : Bool) : regOk (cond u (fld (w : Int) k) 0) u = true := by
  cases u
  · rfl
  · exact regOk_used (by show 0 ≤ fld _ _; rw [fld_eq hw]; omega) (by show fld _ _ < 32; rw [fld_eq hw]; omega)

theorem num_rng (f : Int) {w : Nat} (hw : w < 2 ^ 32) (f0 : 0 ≤ f) (f8 : f ≤ 8) :
    (((bnd f).1 == (bnd f).2.1 && numberF f w != 0) = false) ∧ ¬ numberF f w < (bnd f).1 ∧ ¬ (bnd f).2.1 < numberF f w ∧ Int.tmod (numberF f w) (bnd f).2.2 = 0 := by
  rw [numberF_eq f w hw f0 f8]
  have one : ∀ x : Int, Int.tmod x 1 = 0 := Int.tmod_one
  rcases form_cases f0 f8 with h | h | h | h | h | h | h | h | h <;> subst h
  · rw [nG0, show bnd 0 = (0, 0, 1) from rfl]; decide
  · rw [nG1, show bnd 1 = (-2048, 2047, 1) from rfl]
    refine ⟨rfl, ?_, ?_, one _⟩ <;> (unfold sgn; simp only; omega)
  · rw [nG2, show bnd 2 = (0, 63, 1) from rfl]
    have := partN_lt w 20 6
    exact ⟨rfl, by simp only; omega, by simp only; omega, one _⟩
  · rw [nG3, show bnd 3 = (0, 31, 1) from rfl]
    have := partN_lt w 20 5
    exact ⟨rfl, by simp only; omega, by simp only; omega, one _⟩
  · rw [nG4, show bnd 4 = (-2048, 2047, 1) from rfl]
    refine ⟨rfl, ?_, ?_, one _⟩ <;> (unfold sgn; simp only; omega)
  · rw [nG5, show bnd 5 = (-4096, 4094, 2) from rfl]
    have e : sumF (numFd 5 w) = partN w 8 4 * 2 + (partN w 25 6 * 32 + (partN w 7 1 * 2048 + (partN w 31 1 * 4096 + 0))) := rfl
    rw [e]
    refine ⟨rfl, ?_, ?_, ?_⟩
    · unfold sgn; simp only; omega
    · unfold sgn; simp only; omega
    · refine Int.tmod_eq_zero_of_dvd ?_
      unfold sgn
      simp only
      omega
  · rw [nG6, show bnd 6 = (-524288, 524287, 1) from rfl]
    refine ⟨rfl, ?_, ?_, one _⟩ <;> (unfold sgn; simp only; omega)
  · rw [nG7, show bnd 7 = (-1048576, 1048574, 2) from rfl]
    have e : sumF (numFd 7 w) = partN w 21 10 * 2 + (partN w 20 1 * 2048 + (partN w 12 8 * 4096 + (partN w 31 1 * 1048576 + 0))) := rfl
    rw [e]
    refine ⟨rfl, ?_, ?_, ?_⟩
    · unfold sgn; simp only; omega
    · unfold sgn; simp only; omega
    · refine Int.tmod_eq_zero_of_dvd ?_
      unfold sgn
      simp only
      omega
  · rw [nG8, show bnd 8 = (0, 0, 1) from rfl]; decide

theorem faulty_all {f a b c d n : Int} (h : faultyF f a b c d n = 0) :
    d = 0 ∧ ((bnd f).1 == (bnd f).2.1 && n != 0) = false ∧ ¬ n < (bnd f).1 ∧ ¬ (bnd f).2.1 < n ∧ Int.tmod n (bnd f).2.2 = 0 := by
  obtain ⟨h1, h2, h3⟩ := faulty_regs h
  unfold faultyF at h
  rw [h1, h2, h3] at h
  simp only [Bool.not_true, cond_false] at h
  cases e1 : (d != 0)
  · rw [e1] at h
    cases e2 : ((bnd f).1 == (bnd f).2.1 && n != 0)
    · rw [e2] at h
      cases e3 : decide (n < (bnd f).1)
      · rw [e3] at h
        cases e4 : decide ((bnd f).2.1 < n)
        · rw [e4] at h
          cases e5 : (Int.tmod n (bnd f).2.2 != 0)
          · exact ⟨by simpa using e1, rfl, of_decide_eq_false e3, of_decide_eq_false e4, by simpa using e5⟩
          · rw [e5] at h; simp at h
        · rw [e4] at h; simp at h
      · rw [e3] at h; simp at h
    · rw [e2] at h; simp at h
  · rw [e1] at h; simp at h

theorem faulty_mk {f a b c n : Int} (ha : regOk a (uA f) = true) (hb : regOk b (uB f) = true) (hc : regOk c (uC f) = true)
    (h : ((bnd f).1 == (bnd f).2.1 && n != 0) = false ∧ ¬ n < (bnd f).1 ∧ ¬ (bnd f).2.1 < n ∧ Int.tmod n (bnd f).2.2 = 0) : faultyF f a b c 0 n = 0 := by
  obtain ⟨h1, h2, h3, h4⟩ := h
  unfold faultyF
  rw [ha, hb, hc, h1, decide_eq_false h2, decide_eq_false h3, h4]
  rfl

/-- What is decoded is encoded as the word. -/
theorem enc_dec {w : Int} (h0 : 0 ≤ w) (h1 : w < 4294967296) (h : decOk w = true) : (encE (decI w) == 0) = true ∧ encW (decI w) = w := by
  unfold decOk at h
  obtain ⟨r, hr⟩ := Option.isSome_iff_exists.1 h
  have hm : r ∈ rowsL := List.mem_of_find?_eq_some hr
  have hd : dMatch w r = true := by simpa using List.find?_some hr
  have e : decI w = readF w r := by unfold decI; rw [hr]
  obtain ⟨_, _, _, _, f0, f8⟩ := row_off (List.all_eq_true.1 rows_fine _ hm)
  obtain ⟨o1, o2⟩ := row_own hm
  obtain ⟨v, rfl⟩ := Int.eq_ofNat_of_zero_le h0
  have hv : v < 2 ^ 32 := by omega
  rw [e]
  constructor
  · refine enc_mk o1 ?_
    rw [o2]
    exact faulty_mk (fld_ok hv 7 _) (fld_ok hv 15 _) (fld_ok hv 20 _) (num_rng _ hv f0 f8)
  · show wordF (frow r.1).2.1 (frow r.1).2.2 _ _ _ _ = _
    rw [o2]
    unfold dMatch at hd
    cases hx : (and32 r.2.2 127 != and32 (v : Int) 127)
    · rw [hx] at hd; exact eq_of_beq hd
    · rw [hx] at hd; cases hd

theorem reg_get {r : RowT} (hr : r ∈ rowsL) {a b c n : Int} (ha : regOk a (uA r.2.1) = true) (hb : regOk b (uB r.2.1) = true) (hc : regOk c (uC r.2.1) = true) :
    rdA r.2.1 (wordF r.2.1 r.2.2 a b c n) = a ∧ rdB r.2.1 (wordF r.2.1 r.2.2 a b c n) = b ∧ rdC r.2.1 (wordF r.2.1 r.2.2 a b c n) = c := by
  obtain ⟨e1, e2⟩ := word_sum (n := n) hr ha hb hc
  obtain ⟨F, C⟩ := word_fine (n := n) hr ha hb hc
  rw [← orF_sum _ _ F C] at e1 e2
  have key : ∀ {x : Int} {u : Bool} {k : Nat}, regOk x u = true → regFd u x k ∈ wordFd r.2.1 a b c n → cond u (fld (wordF r.2.1 r.2.2 a b c n) k) 0 = x := by
    intro x u k hx hm
    obtain ⟨x0, x1⟩ := regOk_rng hx
    cases u
    · have : x = 0 := by
        unfold regOk at hx
        simpa using hx
      rw [this]; rfl
    · have g := orF_get F C _ hm
      show fld (wordF r.2.1 r.2.2 a b c n) k = x
      rw [e1, fld_eq e2]
      have g : orF r.2.2.toNat (wordFd r.2.1 a b c n) / 2 ^ k % 32 = x.toNat := g
      rw [g]
      omega
  refine ⟨key ha ?_, key hb ?_, key hc ?_⟩ <;> simp [wordFd]

theorem num_get {r : RowT} (hr : r ∈ rowsL) {a b c n : Int} (ha : regOk a (uA r.2.1) = true) (hb : regOk b (uB r.2.1) = true) (hc : regOk c (uC r.2.1) = true)
    (h : ((bnd r.2.1).1 == (bnd r.2.1).2.1 && n != 0) = false ∧ ¬ n < (bnd r.2.1).1 ∧ ¬ (bnd r.2.1).2.1 < n ∧ Int.tmod n (bnd r.2.1).2.2 = 0) :
    numberF r.2.1 (wordF r.2.1 r.2.2 a b c n) = n := by
  obtain ⟨e1, e2⟩ := word_sum (n := n) hr ha hb hc
  obtain ⟨F, C⟩ := word_fine (n := n) hr ha hb hc
  obtain ⟨_, _, _, _, f0, f8⟩ := row_off (List.all_eq_true.1 rows_fine _ hr)
  rw [← orF_sum _ _ F C] at e1 e2
  obtain ⟨h1, h2, h3, h4⟩ := h
  rw [e1, numberF_eq _ _ e2 f0 f8]
  have get : ∀ {p k b' : Nat}, (p, k, b') ∈ immFd r.2.1 n → orF r.2.2.toNat (wordFd r.2.1 a b c n) / 2 ^ k % 2 ^ b' = p := by
    intro p k b' hm
    exact orF_get F C (p, k, b') (by simp [wordFd, hm])
  generalize orF r.2.2.toNat (wordFd r.2.1 a b c n) = w at get e2
  generalize r.2.1 = f at get f0 f8 h1 h2 h3 h4
  clear e1 F C ha hb hc hr
  have pn := fun fr bi => partN_nat w (fr := fr) (bi := bi) e2
  rcases form_cases f0 f8 with h | h | h | h | h | h | h | h | h <;> subst h
  · rw [nG0]
    exact (by simpa [show bnd 0 = (0, 0, 1) from rfl] using h1 : n = 0).symm
  · have g := get (p := partN n 0 12) (k := 20) (b' := 12) (by exact List.mem_cons_self)
    have i := partN_int n (fr := 0) (bi := 12) (by omega)
    rw [show bnd 1 = (-2048, 2047, 1) from rfl] at h2 h3
    simp only at h2 h3
    rw [nG1]; unfold sgn; omega
  · have g := get (p := partN n 0 6) (k := 20) (b' := 6) (by exact List.mem_cons_self)
    have i := partN_int n (fr := 0) (bi := 6) (by omega)
    rw [show bnd 2 = (0, 63, 1) from rfl] at h2 h3
    simp only at h2 h3
    rw [nG2, pn]; omega
  · have g := get (p := partN n 0 6) (k := 20) (b' := 6) (by exact List.mem_cons_self)
    have i := partN_int n (fr := 0) (bi := 6) (by omega)
    rw [show bnd 3 = (0, 31, 1) from rfl] at h2 h3
    simp only at h2 h3
    rw [nG3, pn]; omega
  · have g := get (p := partN n 0 5) (k := 7) (b' := 5) (by exact List.mem_cons_self)
    have g2 := get (p := partN n 5 7) (k := 25) (b' := 7) (by exact List.mem_cons_of_mem _ List.mem_cons_self)
    have i := partN_int n (fr := 0) (bi := 5) (by omega)
    have i2 := partN_int n (fr := 5) (bi := 7) (by omega)
    rw [show bnd 4 = (-2048, 2047, 1) from rfl] at h2 h3
    simp only at h2 h3
    have e : sumF (numFd 4 w) = partN w 7 5 * 1 + (partN w 25 7 * 32 + 0) := rfl
    rw [nG4, e, pn, pn]; unfold sgn; omega
  · have g := get (p := partN n 1 4) (k := 8) (b' := 4) (by exact List.mem_cons_self)
    have g2 := get (p := partN n 5 6) (k := 25) (b' := 6) (by exact List.mem_cons_of_mem _ List.mem_cons_self)
    have g3 := get (p := partN n 11 1) (k := 7) (b' := 1) (by exact List.mem_cons_of_mem _ (List.mem_cons_of_mem _ List.mem_cons_self))
    have g4 := get (p := partN n 12 1) (k := 31) (b' := 1) (by exact List.mem_cons_of_mem _ (List.mem_cons_of_mem _ (List.mem_cons_of_mem _ List.mem_cons_self)))
    have i := partN_int n (fr := 1) (bi := 4) (by omega)
    have i2 := partN_int n (fr := 5) (bi := 6) (by omega)
    have i3 := partN_int n (fr := 11) (bi := 1) (by omega)
    have i4 := partN_int n (fr := 12) (bi := 1) (by omega)
    rw [show bnd 5 = (-4096, 4094, 2) from rfl] at h2 h3 h4
    simp only at h2 h3 h4
    have h4 := Int.dvd_of_tmod_eq_zero h4
    have e : sumF (numFd 5 w) = partN w 8 4 * 2 + (partN w 25 6 * 32 + (partN w 7 1 * 2048 + (partN w 31 1 * 4096 + 0))) := rfl
    rw [nG5, e, pn, pn, pn, pn, g, g2, g3, g4]
    have k : ((partN n 1 4 * 2 + (partN n 5 6 * 32 + (partN n 11 1 * 2048 + (partN n 12 1 * 4096 + 0))) : Nat) : Int) = n % 8192 := by
      clear g g2 g3 g4 e get pn
      simp only [Int.natCast_add, Int.natCast_mul, i, i2, i3, i4]
      clear i i2 i3 i4 f0 f8 e2
      simp only [Int.reducePow, Int.cast_ofNat_Int]
      omega
    rw [k]; unfold sgn; omega
  · have g := get (p := partN n 0 20) (k := 12) (b' := 20) (by exact List.mem_cons_self)
    have i := partN_int n (fr := 0) (bi := 20) (by omega)
    rw [show bnd 6 = (-524288, 524287, 1) from rfl] at h2 h3
    simp only at h2 h3
    rw [nG6]; unfold sgn; omega
  · have g := get (p := partN n 1 10) (k := 21) (b' := 10) (by exact List.mem_cons_self)
    have g2 := get (p := partN n 11 1) (k := 20) (b' := 1) (by exact List.mem_cons_of_mem _ List.mem_cons_self)
    have g3 := get (p := partN n 12 8) (k := 12) (b' := 8) (by exact List.mem_cons_of_mem _ (List.mem_cons_of_mem _ List.mem_cons_self))
    have g4 := get (p := partN n 20 1) (k := 31) (b' := 1) (by exact List.mem_cons_of_mem _ (List.mem_cons_of_mem _ (List.mem_cons_of_mem _ List.mem_cons_self)))
    have i := partN_int n (fr := 1) (bi := 10) (by omega)
    have i2 := partN_int n (fr := 11) (bi := 1) (by omega)
    have i3 := partN_int n (fr := 12) (bi := 8) (by omega)
    have i4 := partN_int n (fr := 20) (bi := 1) (by omega)
    rw [show bnd 7 = (-1048576, 1048574, 2) from rfl] at h2 h3 h4
    simp only at h2 h3 h4
    have h4 := Int.dvd_of_tmod_eq_zero h4
    have e : sumF (numFd 7 w) = partN w 21 10 * 2 + (partN w 20 1 * 2048 + (partN w 12 8 * 4096 + (partN w 31 1 * 1048576 + 0))) := rfl
    rw [nG7, e, pn, pn, pn, pn, g, g2, g3, g4]
    have k : ((partN n 1 10 * 2 + (partN n 11 1 * 2048 + (partN n 12 8 * 4096 + (partN n 20 1 * 1048576 + 0))) : Nat) : Int) = n % 2097152 := by
      clear g g2 g3 g4 e get pn
      simp only [Int.natCast_add, Int.natCast_mul, i, i2, i3, i4]
      clear i i2 i3 i4 f0 f8 e2
      simp only [Int.reducePow, Int.cast_ofNat_Int]
      omega
    rw [k]; unfold sgn; omega
  · rw [nG8]
    exact (by simpa [show bnd 8 = (0, 0, 1) from rfl] using h1 : n = 0).symm

theorem code_low {r : RowT} (hr : r ∈ rowsL) {a b c n : Int} (ha : regOk a (uA r.2.1) = true) (hb : regOk b (uB r.2.1) = true) (hc : regOk c (uC r.2.1) = true) :
    (and32 r.2.2 127 != and32 (wordF r.2.1 r.2.2 a b c n) 127) = false := by
  obtain ⟨e1, e2⟩ := word_sum (n := n) hr ha hb hc
  obtain ⟨⟨w0, w1⟩, _, _, _, f0, f8⟩ := row_off (List.all_eq_true.1 rows_fine _ hr)
  have low : ∀ {x : Int}, 0 ≤ x → x < 4294967296 → and32 x 127 = x % 128 := by
    intro x x0 x1
    unfold and32
    rw [BitVec.toNat_and, ofInt32_toNat x0 x1, ofInt32_toNat (by omega) (by omega), show Int.toNat 127 = 2 ^ 7 - 1 from rfl, Nat.and_two_pow_sub_one_eq_mod, wrap_u32]
    omega
  rw [low w0 w1, low (by omega) (by omega), e1]
  have hs : sumF (wordFd r.2.1 a b c n) % 128 = 0 := by
    have reg : ∀ (u : Bool) (x : Int) (k : Nat), 7 ≤ k → (regFd u x k).1 * 2 ^ (regFd u x k).2.1 % 128 = 0 := by
      intro u x k hk
      cases u
      · simp [regFd]
      · show x.toNat * 2 ^ k % 128 = 0
        have : 2 ^ k = 128 * 2 ^ (k - 7) := by rw [show (128 : Nat) = 2 ^ 7 from rfl, ← Nat.pow_add]; congr 1; omega
        rw [this, Nat.mul_left_comm]
        exact Nat.mul_mod_right _ _
    have r1 := reg (uA r.2.1) a 7 (by omega)
    have r2 := reg (uB r.2.1) b 15 (by omega)
    have r3 := reg (uC r.2.1) c 20 (by omega)
    have im : sumF (immFd r.2.1 n) % 128 = 0 := by
      generalize r.2.1 = f at f0 f8
      rcases form_cases f0 f8 with h | h | h | h | h | h | h | h | h <;> subst h
      · rfl
      · show (partN n 0 12 * 1048576 + 0) % 128 = 0; omega
      · show (partN n 0 6 * 1048576 + 0) % 128 = 0; omega
      · show (partN n 0 6 * 1048576 + 0) % 128 = 0; omega
      · show (partN n 0 5 * 128 + (partN n 5 7 * 33554432 + 0)) % 128 = 0; omega
      · show (partN n 1 4 * 256 + (partN n 5 6 * 33554432 + (partN n 11 1 * 128 + (partN n 12 1 * 2147483648 + 0)))) % 128 = 0; omega
      · show (partN n 0 20 * 4096 + 0) % 128 = 0; omega
      · show (partN n 1 10 * 2097152 + (partN n 11 1 * 1048576 + (partN n 12 8 * 4096 + (partN n 20 1 * 2147483648 + 0)))) % 128 = 0; omega
      · rfl
    simp only [wordFd, sumF]
    omega
  have : r.2.2 % 128 = ((r.2.2.toNat + sumF (wordFd r.2.1 a b c n) : Nat) : Int) % 128 := by omega
  rw [this]
  exact bne_self_eq_false _

/-- What is encoded is decoded as it was. -/
theorem dec_enc {i : InsT} (h : (encE i == 0) = true) : decOk (encW i) = true ∧ decI (encW i) = i := by
  obtain ⟨hf, hz⟩ := enc_ok h
  obtain ⟨g1, g2, g3⟩ := faulty_regs hz
  obtain ⟨d0, hn⟩ := faulty_all hz
  have hr := frow_mem hf
  obtain ⟨o1, o2⟩ := row_own hr
  have hname : (frow i.1).1 = i.1 := by
    unfold fok at hf
    obtain ⟨r, hr'⟩ := Option.isSome_iff_exists.1 hf
    have : frow i.1 = r := by unfold frow; rw [hr']; rfl
    rw [this]
    exact eq_of_beq (by simpa using List.find?_some hr' : strEq r.1 i.1 = true)
  obtain ⟨r1, r2, r3⟩ := reg_get (n := i.2.2.2.2.2) hr g1 g2 g3
  have r4 := num_get hr g1 g2 g3 hn
  have hread : readF (encW i) (frow i.1) = i := by
    unfold readF encW
    rw [r1, r2, r3, r4, hname]
    obtain ⟨nm, a, b, c, d, n⟩ := i
    simp only at d0
    rw [d0]
  have hmatch : dMatch (encW i) (frow i.1) = true := by
    unfold dMatch encW
    rw [code_low hr g1 g2 g3, r1, r2, r3, r4]
    exact beq_self_eq_true _
  obtain ⟨e1, e2⟩ := word_sum (n := i.2.2.2.2.2) hr g1 g2 g3
  have hv : (encW i) = ((encW i).toNat : Nat) ∧ (encW i).toNat < 2 ^ 32 := by
    unfold encW
    rw [e1]
    exact ⟨by rw [Int.toNat_natCast], by rw [Int.toNat_natCast]; exact e2⟩
  have only : ∀ s ∈ rowsL, dMatch (encW i) s = true → s = frow i.1 := by
    intro s hs hd
    have hw : wordF s.2.1 s.2.2 (rdA s.2.1 (encW i)) (rdB s.2.1 (encW i)) (rdC s.2.1 (encW i)) (numberF s.2.1 (encW i)) = encW i := by
      unfold dMatch at hd
      cases hx : (and32 s.2.2 127 != and32 (encW i) 127)
      · rw [hx] at hd; exact eq_of_beq hd
      · rw [hx] at hd; cases hd
    have k1 : regOk (rdA s.2.1 (encW i)) (uA s.2.1) = true := by rw [hv.1]; exact fld_ok hv.2 7 _
    have k2 : regOk (rdB s.2.1 (encW i)) (uB s.2.1) = true := by rw [hv.1]; exact fld_ok hv.2 15 _
    have k3 : regOk (rdC s.2.1 (encW i)) (uC s.2.1) = true := by rw [hv.1]; exact fld_ok hv.2 20 _
    exact word_only hs hr k1 k2 k3 g1 g2 g3 hw
  have hfind : drow (encW i) = some (frow i.1) := by
    unfold drow
    cases hd : rowsL.find? (dMatch (encW i)) with
    | none => exact absurd hmatch (List.find?_eq_none.1 hd _ hr)
    | some s => rw [only s (List.mem_of_find?_eq_some hd) (by simpa using List.find?_some hd)]
  exact ⟨by unfold decOk; rw [hfind]; rfl, by unfold decI; rw [hfind]; exact hread⟩

end Go.Rv
