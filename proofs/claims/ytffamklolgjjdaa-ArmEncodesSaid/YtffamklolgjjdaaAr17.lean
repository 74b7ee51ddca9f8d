/-
  Words of arm, plainly: what is encoded is decoded as it was, what is decoded is encoded as the word. Conditions: none.
-/
import Derived.Test.YtffamklolgjjdaaAr16
namespace Go.Arm
open Go Go.Ab Go.Proofs Go.Wd

def bitsN (r : RowT) (i : InsT) : Nat := ((((r.2.1.toNat ||| putN r.2.2.1 i.2.1) ||| putN r.2.2.2.1 i.2.2.1) ||| putN r.2.2.2.2.1 i.2.2.2.1) ||| putN r.2.2.2.2.2.1 i.2.2.2.2.1) ||| putN r.2.2.2.2.2.2.1 i.2.2.2.2.2

/-- A register's field. -/
def regFine (f : NumT) : Bool := numFine f && (decide (f = zeroN) || (f.2.2.1 == 1 && f.2.2.2.1 == 1))
def rowA (r : RowT) : Nat := fMask r.2.2.1
def rowB (r : RowT) : Nat := fMask r.2.2.2.1
def rowC (r : RowT) : Nat := fMask r.2.2.2.2.1
def rowD (r : RowT) : Nat := fMask r.2.2.2.2.2.1
def rowI (r : RowT) : Nat := fMask r.2.2.2.2.2.2.1
def z2 (a b : Nat) : Bool := Nat.beq (a &&& b) 0
def rowGood (r : RowT) : Bool :=
  (decide (0 ≤ r.2.1) && decide (r.2.1 < 4294967296)) && ((regFine r.2.2.1 && (regFine r.2.2.2.1 && (regFine r.2.2.2.2.1 && (regFine r.2.2.2.2.2.1 && numFine r.2.2.2.2.2.2.1)))) &&
  ((z2 r.2.1.toNat (rowA r) && (z2 r.2.1.toNat (rowB r) && (z2 r.2.1.toNat (rowC r) && (z2 r.2.1.toNat (rowD r) && z2 r.2.1.toNat (rowI r))))) &&
   ((z2 (rowA r) (rowB r) && (z2 (rowA r) (rowC r) && (z2 (rowA r) (rowD r) && z2 (rowA r) (rowI r)))) && ((z2 (rowB r) (rowC r) && (z2 (rowB r) (rowD r) && z2 (rowB r) (rowI r))) && ((z2 (rowC r) (rowD r) && z2 (rowC r) (rowI r)) && z2 (rowD r) (rowI r))))))
theorem rows_good : rowsL.all rowGood = true := by kernel_rfl

theorem z2_eq {a b : Nat} (h : z2 a b = true) : a &&& b = 0 := Nat.eq_of_beq_eq_true h
theorem z2_sym {a b : Nat} (h : z2 a b = true) : b &&& a = 0 := by rw [Nat.and_comm]; exact z2_eq h

structure Good (r : RowT) : Prop where
  w0 : 0 ≤ r.2.1
  w1 : r.2.1 < 4294967296
  fa : regFine r.2.2.1 = true
  fb : regFine r.2.2.2.1 = true
  fc : regFine r.2.2.2.2.1 = true
  fd : regFine r.2.2.2.2.2.1 = true
  fi : numFine r.2.2.2.2.2.2.1 = true
  wa : r.2.1.toNat &&& rowA r = 0
  wb : r.2.1.toNat &&& rowB r = 0
  wc : r.2.1.toNat &&& rowC r = 0
  wd : r.2.1.toNat &&& rowD r = 0
  wi : r.2.1.toNat &&& rowI r = 0
  ab : z2 (rowA r) (rowB r) = true
  ac : z2 (rowA r) (rowC r) = true
  ad : z2 (rowA r) (rowD r) = true
  ai : z2 (rowA r) (rowI r) = true
  bc : z2 (rowB r) (rowC r) = true
  bd : z2 (rowB r) (rowD r) = true
  bi : z2 (rowB r) (rowI r) = true
  cd : z2 (rowC r) (rowD r) = true
  ci : z2 (rowC r) (rowI r) = true
  di : z2 (rowD r) (rowI r) = true

theorem row_good {r : RowT} (hr : r ∈ rowsL) : Good r := by
  have h := List.all_eq_true.1 rows_good r hr
  simp only [rowGood, Bool.and_eq_true, decide_eq_true_eq] at h
  obtain ⟨⟨a1, a2⟩, ⟨b1, b2, b3, b4, b5⟩, ⟨c1, c2, c3, c4, c5⟩, ⟨d1, d2, d3, d4⟩, ⟨e1, e2, e3⟩, ⟨f1, f2⟩, g1⟩ := h
  exact ⟨a1, a2, b1, b2, b3, b4, b5, z2_eq c1, z2_eq c2, z2_eq c3, z2_eq c4, z2_eq c5, d1, d2, d3, d4, e1, e2, e3, f1, f2, g1⟩

theorem reg_num {f : NumT} (h : regFine f = true) : numFine f = true := (Bool.and_eq_true_iff.1 h).1

section
variable {r : RowT} (G : Good r) (i : InsT)
include G

theorem bits_nat : bitsF r i = ((bitsN r i : Nat) : Int) ∧ bitsN r i < 2 ^ 32 := by
  obtain ⟨a1, _, a3⟩ := put_nat (reg_num G.fa) i.2.1
  obtain ⟨b1, _, b3⟩ := put_nat (reg_num G.fb) i.2.2.1
  obtain ⟨c1, _, c3⟩ := put_nat (reg_num G.fc) i.2.2.2.1
  obtain ⟨d1, _, d3⟩ := put_nat (reg_num G.fd) i.2.2.2.2.1
  obtain ⟨e1, _, e3⟩ := put_nat G.fi i.2.2.2.2.2
  have w0 := G.w0
  have w1 := G.w1
  have hw : r.2.1 = ((r.2.1.toNat : Nat) : Int) := by omega
  have hl : r.2.1.toNat < 2 ^ 32 := by omega
  unfold bitsF bitsN
  rw [a1, b1, c1, d1, e1]
  generalize putN r.2.2.1 i.2.1 = pa at *
  generalize putN r.2.2.2.1 i.2.2.1 = pb at *
  generalize putN r.2.2.2.2.1 i.2.2.2.1 = pc at *
  generalize putN r.2.2.2.2.2.1 i.2.2.2.2.1 = pd at *
  generalize putN r.2.2.2.2.2.2.1 i.2.2.2.2.2 = pe at *
  have h1 := Nat.or_lt_two_pow hl a3
  have h2 := Nat.or_lt_two_pow h1 b3
  have h3 := Nat.or_lt_two_pow h2 c3
  have h4 := Nat.or_lt_two_pow h3 d3
  refine ⟨?_, Nat.or_lt_two_pow h4 e3⟩
  rw [hw, Int.toNat_natCast, or32_cast hl a3, or32_cast h1 b3, or32_cast h2 c3, or32_cast h3 d3, or32_cast h4 e3]

/-- Each field's bits of the word. -/
theorem bits_fields : bitsN r i &&& rowA r = putN r.2.2.1 i.2.1 ∧ bitsN r i &&& rowB r = putN r.2.2.2.1 i.2.2.1 ∧ bitsN r i &&& rowC r = putN r.2.2.2.2.1 i.2.2.2.1 ∧ bitsN r i &&& rowD r = putN r.2.2.2.2.2.1 i.2.2.2.2.1 ∧ bitsN r i &&& rowI r = putN r.2.2.2.2.2.2.1 i.2.2.2.2.2 := by
  obtain ⟨_, a2, _⟩ := put_nat (reg_num G.fa) i.2.1
  obtain ⟨_, b2, _⟩ := put_nat (reg_num G.fb) i.2.2.1
  obtain ⟨_, c2, _⟩ := put_nat (reg_num G.fc) i.2.2.2.1
  obtain ⟨_, d2, _⟩ := put_nat (reg_num G.fd) i.2.2.2.2.1
  obtain ⟨_, e2, _⟩ := put_nat G.fi i.2.2.2.2.2
  have fit : ∀ {x m : Nat}, InMask x m → x &&& m = x := fun h => h
  have d := @InMask.disj
  unfold bitsN
  refine ⟨?_, ?_, ?_, ?_, ?_⟩
  · simp only [Nat.and_or_distrib_right]
    rw [G.wa, fit (m := rowA r) a2, d b2 (z2_sym G.ab), d c2 (z2_sym G.ac), d d2 (z2_sym G.ad), d e2 (z2_sym G.ai)]
    simp
  · simp only [Nat.and_or_distrib_right]
    rw [G.wb, d a2 (z2_eq G.ab), fit (m := rowB r) b2, d c2 (z2_sym G.bc), d d2 (z2_sym G.bd), d e2 (z2_sym G.bi)]
    simp
  · simp only [Nat.and_or_distrib_right]
    rw [G.wc, d a2 (z2_eq G.ac), d b2 (z2_eq G.bc), fit (m := rowC r) c2, d d2 (z2_sym G.cd), d e2 (z2_sym G.ci)]
    simp
  · simp only [Nat.and_or_distrib_right]
    rw [G.wd, d a2 (z2_eq G.ad), d b2 (z2_eq G.bd), d c2 (z2_eq G.cd), fit (m := rowD r) d2, d e2 (z2_sym G.di)]
    simp
  · simp only [Nat.and_or_distrib_right]
    rw [G.wi, d a2 (z2_eq G.ai), d b2 (z2_eq G.bi), d c2 (z2_eq G.ci), d d2 (z2_eq G.di), fit (m := rowI r) e2]
    simp

/-- Outside the fields the word is the row's. -/
theorem bits_out {m : Nat} (ha : rowA r &&& m = 0) (hb : rowB r &&& m = 0) (hc : rowC r &&& m = 0) (hd : rowD r &&& m = 0) (hi : rowI r &&& m = 0) : bitsN r i &&& m = r.2.1.toNat &&& m := by
  obtain ⟨_, a2, _⟩ := put_nat (reg_num G.fa) i.2.1
  obtain ⟨_, b2, _⟩ := put_nat (reg_num G.fb) i.2.2.1
  obtain ⟨_, c2, _⟩ := put_nat (reg_num G.fc) i.2.2.2.1
  obtain ⟨_, d2, _⟩ := put_nat (reg_num G.fd) i.2.2.2.2.1
  obtain ⟨_, e2, _⟩ := put_nat G.fi i.2.2.2.2.2
  have d := @InMask.disj
  unfold bitsN
  simp only [Nat.and_or_distrib_right]
  rw [d a2 ha, d b2 hb, d c2 hc, d d2 hd, d e2 hi]
  simp
end

/-! Two rows have no word in common. -/

def allM (r : RowT) : Nat := (((rowA r ||| rowB r) ||| rowC r) ||| rowD r) ||| rowI r
def outM (r s : RowT) : Nat := 4294967295 ^^^ (allM r ||| allM s)
def eqR (r s : RowT) : Bool := strEq r.1 s.1 && (decide (r.2.1 = s.2.1) && (decide (r.2.2.1 = s.2.2.1) && (decide (r.2.2.2.1 = s.2.2.2.1) && (decide (r.2.2.2.2.1 = s.2.2.2.2.1) && (decide (r.2.2.2.2.2.1 = s.2.2.2.2.2.1) && (decide (r.2.2.2.2.2.2.1 = s.2.2.2.2.2.2.1) && strEq r.2.2.2.2.2.2.2 s.2.2.2.2.2.2.2))))))
theorem eqR_eq {r s : RowT} (h : eqR r s = true) : r = s := by
  simp only [eqR, Bool.and_eq_true, decide_eq_true_eq] at h
  obtain ⟨h1, h2, h3, h4, h5, h6, h7, h8⟩ := h
  have h1 : r.1 = s.1 := eq_of_beq h1
  have h8 : r.2.2.2.2.2.2.2 = s.2.2.2.2.2.2.2 := eq_of_beq h8
  exact Prod.ext h1 (Prod.ext h2 (Prod.ext h3 (Prod.ext h4 (Prod.ext h5 (Prod.ext h6 (Prod.ext h7 h8))))))
def rowApart (r s : RowT) : Bool := eqR r s || (!(Nat.beq (r.2.1.toNat &&& outM r s) (s.2.1.toNat &&& outM r s)) && (z2 (allM r) (outM r s) && z2 (allM s) (outM r s)))
theorem rows_apart : rowsL.all (fun r => rowsL.all (rowApart r)) = true := by kernel_rfl

theorem all_parts {r : RowT} {m : Nat} (h : z2 (allM r) m = true) : rowA r &&& m = 0 ∧ rowB r &&& m = 0 ∧ rowC r &&& m = 0 ∧ rowD r &&& m = 0 ∧ rowI r &&& m = 0 := by
  have h := z2_eq h
  unfold allM at h
  simp only [Nat.and_or_distrib_right] at h
  have z : ∀ {a b : Nat}, a ||| b = 0 → a = 0 ∧ b = 0 := by
    intro a b h
    exact ⟨Nat.eq_zero_of_le_zero (h ▸ Nat.left_le_or), Nat.eq_zero_of_le_zero (h ▸ Nat.right_le_or)⟩
  obtain ⟨h, hi⟩ := z h
  obtain ⟨h, hd⟩ := z h
  obtain ⟨h, hc⟩ := z h
  obtain ⟨ha, hb⟩ := z h
  exact ⟨ha, hb, hc, hd, hi⟩

theorem word_only {r s : RowT} (hr : r ∈ rowsL) (hs : s ∈ rowsL) {i j : InsT} (h : bitsN r i = bitsN s j) : r = s := by
  have hap := List.all_eq_true.1 (List.all_eq_true.1 rows_apart r hr) s hs
  rcases Bool.or_eq_true_iff.1 hap with h' | h'
  · exact eqR_eq h'
  · exfalso
    simp only [Bool.and_eq_true, Bool.not_eq_true'] at h'
    obtain ⟨h1, h2, h3⟩ := h'
    obtain ⟨a1, a2, a3, a4, a5⟩ := all_parts h2
    obtain ⟨b1, b2, b3, b4, b5⟩ := all_parts h3
    have e1 := bits_out (row_good hr) i a1 a2 a3 a4 a5
    have e2 := bits_out (row_good hs) j b1 b2 b3 b4 b5
    rw [← e1, ← e2, h, Nat.beq_refl] at h1
    cases h1

/-! What is encoded, and decoded. -/

def rowOwn (r : RowT) : Bool := fok r.1 && eqR (frow r.1) r
theorem rows_own : rowsL.all rowOwn = true := by kernel_rfl
theorem row_own {r : RowT} (hr : r ∈ rowsL) : fok r.1 = true ∧ frow r.1 = r := by
  have h := List.all_eq_true.1 rows_own r hr
  simp only [rowOwn, Bool.and_eq_true] at h
  exact ⟨h.1, eqR_eq h.2⟩

theorem frow_mem {nm : List UInt8} (h : fok nm = true) : frow nm ∈ rowsL ∧ (frow nm).1 = nm := by
  unfold fok at h
  obtain ⟨r, hr⟩ := Option.isSome_iff_exists.1 h
  have e : frow nm = r := by unfold frow; rw [hr]; rfl
  rw [e]
  exact ⟨List.mem_of_find?_eq_some hr, eq_of_beq (by simpa using List.find?_some hr : strEq r.1 nm = true)⟩

theorem enc_ok {i : InsT} (h : (encE i == 0) = true) : fok i.1 = true ∧ faultyF (frow i.1) i = 0 := by
  have h := eq_of_beq h
  unfold encE at h
  cases hf : fok i.1
  · rw [hf] at h; cases h
  · rw [hf] at h
    exact ⟨rfl, h⟩

theorem faulty_parts {r : RowT} {i : InsT} (h : faultyF r i = 0) : smallF r.2.2.1 i.2.1 = true ∧ smallF r.2.2.2.1 i.2.2.1 = true ∧ smallF r.2.2.2.2.1 i.2.2.2.1 = true ∧ smallF r.2.2.2.2.2.1 i.2.2.2.2.1 = true ∧
    (r.2.2.2.2.2.2.1.2.2.1 == 0 && i.2.2.2.2.2 != 0) = false ∧ numE2 r.2.2.2.2.2.2.1 i.2.2.2.2.2 = 0 := by
  unfold faultyF at h
  cases h1 : smallF r.2.2.1 i.2.1
  · rw [h1] at h; cases h
  cases h2 : smallF r.2.2.2.1 i.2.2.1
  · rw [h1, h2] at h; cases h
  cases h3 : smallF r.2.2.2.2.1 i.2.2.2.1
  · rw [h1, h2, h3] at h; cases h
  cases h4 : smallF r.2.2.2.2.2.1 i.2.2.2.2.1
  · rw [h1, h2, h3, h4] at h; cases h
  cases h5 : (r.2.2.2.2.2.2.1.2.2.1 == 0 && i.2.2.2.2.2 != 0)
  · rw [h1, h2, h3, h4, h5] at h
    exact ⟨rfl, rfl, rfl, rfl, rfl, h⟩
  · rw [h1, h2, h3, h4, h5] at h; cases h

theorem faulty_mk {r : RowT} {i : InsT} (h1 : smallF r.2.2.1 i.2.1 = true) (h2 : smallF r.2.2.2.1 i.2.2.1 = true) (h3 : smallF r.2.2.2.2.1 i.2.2.2.1 = true) (h4 : smallF r.2.2.2.2.2.1 i.2.2.2.2.1 = true)
    (h5 : (r.2.2.2.2.2.2.1.2.2.1 == 0 && i.2.2.2.2.2 != 0) = false) (h6 : numE2 r.2.2.2.2.2.2.1 i.2.2.2.2.2 = 0) : faultyF r i = 0 := by
  unfold faultyF
  rw [h1, h2, h3, h4, h5, h6]
  rfl

theorem small_rng {f : NumT} {n : Int} (h : smallF f n = true) : IntKind.wrap .i64 f.2.2.2.2.1 ≤ n ∧ n ≤ IntKind.wrap .i64 f.2.2.2.2.2 := by
  unfold smallF at h
  cases hd : decide (IntKind.wrap IntKind.i64 f.2.2.2.2.1 ≤ n)
  · rw [hd] at h; cases h
  · rw [hd] at h
    exact ⟨of_decide_eq_true hd, of_decide_eq_true h⟩

theorem plain_wraps {f : NumT} {at_ bi : Nat} {by_ : Int} (P : Plain f at_ bi by_) : IntKind.wrap .i64 f.2.2.2.2.1 = f.2.2.2.2.1 ∧ IntKind.wrap .i64 f.2.2.2.2.2 = f.2.2.2.2.2 ∧ IntKind.wrap .i64 f.2.2.2.1 = f.2.2.2.1 := by
  have h1 := P.lo
  have h2 := P.hi
  have h4 := P.hi0
  have h3 : f.2.2.2.2.1 < 2147483648 := by rcases P.rng with ⟨h, _⟩ | ⟨h, _⟩ <;> omega
  refine ⟨wrap_i64 (by omega) (by omega), wrap_i64 (by omega) (by omega), ?_⟩
  rw [P.eBy]
  rcases P.byC with h | h | h | h <;> rw [h] <;> decide

/-- A register that may be. -/
theorem reg_ok {f : NumT} (hf : regFine f = true) {n : Int} (h : smallF f n = true) : NOk f n := by
  obtain ⟨h1, h2⟩ := small_rng h
  simp only [regFine, Bool.and_eq_true, Bool.or_eq_true, decide_eq_true_eq, beq_iff_eq] at hf
  obtain ⟨hn, hf⟩ := hf
  refine ⟨fun e => ?_, fun e => ?_, fun e => ?_⟩
  · subst e
    have h1 : (0 : Int) ≤ n := h1
    have h2 : n ≤ (0 : Int) := h2
    omega
  · rcases num_cases hn with h | h | h | P
    · subst h
      rcases e with e | e
      · cases e
      · cases e
    · subst h
      rcases hf with h | h
      · cases h
      · cases h.1
    · subst h
      rcases hf with h | h
      · cases h
      · cases h.1
    · obtain ⟨p1, p2, _⟩ := plain_wraps P
      rw [p1] at h1
      rw [p2] at h2
      refine ⟨h1, h2, ?_⟩
      rcases hf with h | h
      · have := P.kind; rw [h] at this; cases this
      · rw [h.2]
        exact Int.tmod_one n
  · subst e
    rcases hf with h | h
    · cases h
    · cases h.1

/-- A number that may be. -/
theorem imm_ok {f : NumT} (hf : numFine f = true) {n : Int} (hr : -9223372036854775808 ≤ n ∧ n < 9223372036854775808) (h0 : (f.2.2.1 == 0 && n != 0) = false) (h : numE2 f n = 0) : NOk f n := by
  have plain : (f.2.2.1 == 0) = false → (f.2.2.1 == 3) = false → IntKind.wrap .i64 f.2.2.2.2.1 ≤ n ∧ n ≤ IntKind.wrap .i64 f.2.2.2.2.2 ∧ Int.tmod n (IntKind.wrap .i64 f.2.2.2.1) = 0 := by
    intro k0 k3
    unfold numE2 at h
    rw [k0, k3, cond_false, cond_false] at h
    cases e3 : decide (n < IntKind.wrap .i64 f.2.2.2.2.1)
    · rw [e3] at h
      cases e4 : decide (IntKind.wrap .i64 f.2.2.2.2.2 < n)
      · rw [e4] at h
        cases e5 : (Int.tmod n (IntKind.wrap .i64 f.2.2.2.1) != 0)
        · have := of_decide_eq_false e3
          have := of_decide_eq_false e4
          exact ⟨by omega, by omega, by simpa using e5⟩
        · rw [e5] at h; cases h
      · rw [e4] at h; cases h
    · rw [e3] at h; cases h
  refine ⟨fun e => ?_, fun e => ?_, fun e => ?_⟩
  · subst e
    simpa [zeroN] using h0
  · rcases num_cases hf with hk | hk | hk | P
    · subst hk
      rcases e with e | e
      · cases e
      · cases e
    · subst hk
      obtain ⟨g1, g2, g3⟩ := plain rfl rfl
      exact ⟨g1, g2, g3⟩
    · subst hk
      rcases e with e | e
      · cases e
      · cases e
    · obtain ⟨g1, g2, g3⟩ := plain (by rw [P.kind]; rfl) (by rw [P.kind]; rfl)
      obtain ⟨p1, p2, p3⟩ := plain_wraps P
      rw [p1] at g1
      rw [p2] at g2
      rw [p3] at g3
      exact ⟨g1, g2, g3⟩
  · subst e
    refine ⟨?_, hr⟩
    unfold numE2 at h
    cases ho : ofOk (u64N n)
    · rw [ho] at h; cases h
    · rfl

abbrev InRng (i : InsT) : Prop := -9223372036854775808 ≤ i.2.2.2.2.2 ∧ i.2.2.2.2.2 < 9223372036854775808

/-- What is encoded is decoded as it was. -/
theorem dec_enc {i : InsT} (hr : InRng i) (h : (encE i == 0) = true) : decOk (encW i) = true ∧ decI (encW i) = i := by
  obtain ⟨hf, hz⟩ := enc_ok h
  obtain ⟨hm, hname⟩ := frow_mem hf
  obtain ⟨p1, p2, p3, p4, p5, p6⟩ := faulty_parts hz
  have G := row_good hm
  obtain ⟨e1, e2⟩ := bits_nat G i
  obtain ⟨b1, b2, b3, b4, b5⟩ := bits_fields G i
  have hread : readF (encW i) (frow i.1) = i := by
    unfold readF encW
    rw [e1, get_put (reg_num G.fa) (reg_ok G.fa p1) e2 b1, get_put (reg_num G.fb) (reg_ok G.fb p2) e2 b2, get_put (reg_num G.fc) (reg_ok G.fc p3) e2 b3, get_put (reg_num G.fd) (reg_ok G.fd p4) e2 b4, get_put G.fi (imm_ok G.fi hr p5 p6) e2 b5, hname]
  have hmatch : dMatch (encW i) (frow i.1) = true := by
    unfold dMatch
    rw [hread, hz]
    exact beq_self_eq_true (encW i)
  have only : ∀ s ∈ rowsL, dMatch (encW i) s = true → s = frow i.1 := by
    intro s hs hd
    unfold dMatch at hd
    cases hx : (faultyF s (readF (encW i) s) == 0)
    · rw [hx] at hd; cases hd
    · rw [hx] at hd
      have hw : bitsF s (readF (encW i) s) = encW i := eq_of_beq hd
      refine word_only hs hm (i := readF (encW i) s) (j := i) ?_
      have := (bits_nat (row_good hs) (readF (encW i) s)).1
      have : bitsF s (readF (encW i) s) = bitsF (frow i.1) i := hw
      omega
  have hfind : drow (encW i) = some (frow i.1) := by
    unfold drow
    cases hd : rowsL.find? (dMatch (encW i)) with
    | none => exact absurd hmatch (List.find?_eq_none.1 hd _ hm)
    | some s => rw [only s (List.mem_of_find?_eq_some hd) (by simpa using List.find?_some hd)]
  exact ⟨by unfold decOk; rw [hfind]; rfl, by unfold decI; rw [hfind]; exact hread⟩

/-- What is decoded is encoded as the word. -/
theorem enc_dec {w : Int} (h : decOk w = true) : (encE (decI w) == 0) = true ∧ encW (decI w) = w := by
  unfold decOk at h
  obtain ⟨r, hr⟩ := Option.isSome_iff_exists.1 h
  have hm : r ∈ rowsL := List.mem_of_find?_eq_some hr
  have hd : dMatch w r = true := by simpa using List.find?_some hr
  have e : decI w = readF w r := by unfold decI; rw [hr]
  obtain ⟨o1, o2⟩ := row_own hm
  unfold dMatch at hd
  cases hx : (faultyF r (readF w r) == 0)
  · rw [hx] at hd; cases hd
  rw [hx] at hd
  have hw : bitsF r (readF w r) = w := eq_of_beq hd
  rw [e]
  constructor
  · unfold encE
    rw [show fok (readF w r).1 = true from o1, show frow (readF w r).1 = r from o2]
    exact hx
  · unfold encW
    rw [show frow (readF w r).1 = r from o2]
    exact hw

theorem encW_rng {i : InsT} (h : (encE i == 0) = true) : 0 ≤ encW i ∧ encW i < 4294967296 := by
  obtain ⟨hf, _⟩ := enc_ok h
  obtain ⟨e1, e2⟩ := bits_nat (row_good (frow_mem hf).1) i
  unfold encW
  omega

end Go.Arm
