/-
  What is decoded was encoded so: numbers, registers, places read forward. Conditions: none.
-/
import Derived.Test.YtbanejncffdihaaPk14
import Derived.Test.YtbanejncffdihaaPk10
import Derived.Laws.Externs
import Derived.Lib.Bytealg
import Derived.Test.YtbanejncffdihaaPk11
set_option linter.unusedVariables false
set_option linter.unusedSimpArgs false
namespace Go.Amd
open Go Go.Ab Go.Proofs
theorem nxQ_fwd {t : List Int} {k : Int} {K : Int → List Int → Int → RestR} {p : InsT × Int} (h : nxQ t k K = .ok p) : ∃ c t', t = c :: t' ∧ K c t' (k + 1) = .ok p := by
  cases t with
  | nil => cases h
  | cons c t => exact ⟨c, t, rfl, h⟩
theorem must_fwd {b : Bool} {k : Int} {r : RestR} {p : InsT × Int} (h : mustQ b k r = .ok p) : b = true ∧ r = .ok p := by
  cases b
  · cases h
  · exact ⟨rfl, h⟩
theorem fin_fwd {x : RowT} {i i' : InsT} {k m : Int} (h : finQ x i k = .ok (i', m)) : i' = i ∧ m = k ∧ faultyF x i = 0 := by
  unfold finQ at h
  cases hc : (!(faultyF x i == 0))
  · rw [hc, cond_false] at h
    have h2 := Prod.mk.inj (Except.ok.inj h)
    refine ⟨h2.1.symm, h2.2.symm, by simpa using hc⟩
  · rw [hc, cond_true] at h; cases h
theorem allB_hd {c : Int} {t : List Int} (h : AllB (c :: t)) : IsB c ∧ AllB t := ⟨h _ List.mem_cons_self, fun d hd => h d (List.mem_cons_of_mem _ hd)⟩
theorem num1_fwd {t : List Int} (ht : AllB t) {k : Int} {K : Int → List Int → Int → RestR} {p : InsT × Int} (h : num1Q t k K = .ok p) :
    ∃ n rest, t = im1 n ++ rest ∧ AllB rest ∧ (-128 ≤ n ∧ n < 128) ∧ K n rest (k + 1) = .ok p := by
  obtain ⟨a, t, rfl, h⟩ := nxQ_fwd h
  obtain ⟨ha, ht⟩ := allB_hd ht
  refine ⟨num1V a, t, by rw [im1_num ha]; rfl, ht, ?_, h⟩
  rw [num1_eq ha]
  omega
theorem num4_fwd {t : List Int} (ht : AllB t) {k : Int} {K : Int → List Int → Int → RestR} {p : InsT × Int} (h : num4Q t k K = .ok p) :
    ∃ n rest, t = im4 n ++ rest ∧ AllB rest ∧ (-2147483648 ≤ n ∧ n < 2147483648) ∧ K n rest (k + 4) = .ok p := by
  obtain ⟨a, t0, e0, g0⟩ := nxQ_fwd h
  subst e0
  obtain ⟨ha, ht0⟩ := allB_hd ht
  obtain ⟨b, t1, e1, g1⟩ := nxQ_fwd g0
  subst e1
  obtain ⟨hb, ht1⟩ := allB_hd ht0
  obtain ⟨c, t2, e2, g2⟩ := nxQ_fwd g1
  subst e2
  obtain ⟨hc, ht2⟩ := allB_hd ht1
  obtain ⟨d, t3, e3, g3⟩ := nxQ_fwd g2
  subst e3
  obtain ⟨hd, ht3⟩ := allB_hd ht2
  rw [show k + 1 + 1 + 1 + 1 = k + 4 by omega] at g3
  refine ⟨num4V a b c d, t3, by rw [im4_num ha hb hc hd]; rfl, ht3, ?_, g3⟩
  rw [num4_eq ha hb hc hd]
  omega
theorem num8_fwd {t : List Int} (ht : AllB t) {k : Int} {K : Int → List Int → Int → RestR} {p : InsT × Int} (h : num8Q t k K = .ok p) :
    ∃ n rest, t = im8 n ++ rest ∧ AllB rest ∧ K n rest (k + 8) = .ok p := by
  obtain ⟨a, t0, e0, g0⟩ := nxQ_fwd h
  subst e0
  obtain ⟨ha, ht0⟩ := allB_hd ht
  obtain ⟨b, t1, e1, g1⟩ := nxQ_fwd g0
  subst e1
  obtain ⟨hb, ht1⟩ := allB_hd ht0
  obtain ⟨c, t2, e2, g2⟩ := nxQ_fwd g1
  subst e2
  obtain ⟨hc, ht2⟩ := allB_hd ht1
  obtain ⟨d, t3, e3, g3⟩ := nxQ_fwd g2
  subst e3
  obtain ⟨hd, ht3⟩ := allB_hd ht2
  obtain ⟨e, t4, e4, g4⟩ := nxQ_fwd g3
  subst e4
  obtain ⟨he, ht4⟩ := allB_hd ht3
  obtain ⟨f, t5, e5, g5⟩ := nxQ_fwd g4
  subst e5
  obtain ⟨hf, ht5⟩ := allB_hd ht4
  obtain ⟨g, t6, e6, g6⟩ := nxQ_fwd g5
  subst e6
  obtain ⟨hg', ht6⟩ := allB_hd ht5
  obtain ⟨j, t7, e7, g7⟩ := nxQ_fwd g6
  subst e7
  obtain ⟨hj, ht7⟩ := allB_hd ht6
  rw [show k + 1 + 1 + 1 + 1 + 1 + 1 + 1 + 1 = k + 8 by omega] at g7
  exact ⟨num8V a b c d e f g j, t7, by rw [im8_num ha hb hc hd he hf hg' hj]; rfl, ht7, g7⟩
theorem bits8_all : all1 16 (fun R => R % 8 == 4 * (R / 4 % 2) + 2 * (R / 2 % 2) + R % 2) = true := by kernel_rfl
theorem bits8 {R : Int} (r0 : 0 ≤ R) (r1 : R < 16) : R % 8 = 4 * (R / 4 % 2) + 2 * (R / 2 % 2) + R % 2 := eq_of_beq (all1_of bits8_all r0 r1)
theorem mode_memP {a b c d n mod : Int} {imm : List Int} (b0 : 0 ≤ b) (b1 : b < 16) (h : ModeOk b n mod imm) : memP a b c d n = modP mod a b c d imm := by
  have hb : (b == 17) = false := beq_eq_false_iff_ne.2 (by omega)
  unfold memP
  rw [hb, cond_false, andi7 b0 b1]
  rcases h with ⟨rfl, rfl, rfl, h5⟩ | ⟨rfl, rfl, hr, h5⟩ | ⟨rfl, rfl, hq⟩
  · have e : (b % 8 != 5) = true := by simpa using h5
    rw [e]
    rfl
  · have e : cond (n == 0) (b % 8 != 5) false = false := by
      cases hn : (n == 0)
      · rfl
      · rw [cond_true, h5 (eq_of_beq hn)]
        rfl
    rw [e, cond_false, (fitsF_iff n).2 hr, cond_true]
  · have e : (n == 0) = false := by
      cases hn : (n == 0)
      · rfl
      · rw [eq_of_beq hn] at hq; cases hq
    rw [e, cond_false, cond_false, hq, cond_false]
theorem modQ_fwd {b c : Int} (b0 : 0 ≤ b) (b1 : b < 16) (hc : IsB c) (h3 : modF c ≠ 3) (h05 : modF c = 0 → b % 8 ≠ 5) {t : List Int} (ht : AllB t) {k : Int} {K : Int → List Int → Int → RestR} {p : InsT × Int} (h : modQ c b t k K = .ok p) :
    ∃ n imm rest, t = imm ++ rest ∧ AllB rest ∧ ModeOk b n (modF c) imm ∧ K n rest (k + (imm.length : Int)) = .ok p := by
  have hm := (byte_eq hc.1 hc.2).1
  obtain ⟨c0, c1⟩ := hc
  unfold modQ at h
  by_cases e1 : modF c = 1
  · rw [e1, show ((1 : Int) == 1) = true from rfl, cond_true] at h
    obtain ⟨n, rest, e, hr, hn, h⟩ := num1_fwd ht h
    refine ⟨n, im1 n, rest, e, hr, .inr (.inl ⟨e1, rfl, hn, fun hz => ?_⟩), ?_⟩
    · have e0 : (n != 0) = false := by rw [hz]; rfl
      rw [e0, cond_false] at h
      have := (must_fwd h).1
      rw [andi7 b0 b1] at this
      exact eq_of_beq this
    · cases hz : (n != 0)
      · rw [hz, cond_false] at h; exact (must_fwd h).2
      · rw [hz, cond_true] at h; exact h
  · rw [beq_eq_false_iff_ne.2 e1, cond_false] at h
    by_cases e2 : modF c = 2
    · rw [e2, show ((2 : Int) == 2) = true from rfl, cond_true] at h
      obtain ⟨n, rest, e, hr, hn, h⟩ := num4_fwd ht h
      obtain ⟨q1, q2⟩ := must_fwd h
      exact ⟨n, im4 n, rest, e, hr, .inr (.inr ⟨e2, rfl, by simpa using q1⟩), q2⟩
    · rw [beq_eq_false_iff_ne.2 e2, cond_false] at h
      have e0 : modF c = 0 := by omega
      refine ⟨0, [], t, rfl, ht, .inl ⟨e0, rfl, rfl, h05 e0⟩, ?_⟩
      show K 0 t (k + 0) = _
      rw [Int.add_zero]
      exact h
theorem place_fwd {R c : Int} (r0 : 0 ≤ R) (r1 : R < 16) (hc : IsB c) (h3 : modF c ≠ 3) {t : List Int} (ht : AllB t) {k : Int} {K : PlaceK} {p : InsT × Int} (h : placeQ R c t k K = .ok p) :
    ∃ b cc d n used rest, t = used ++ rest ∧ memP (midF c R) b cc d n = (R % 8, c :: used) ∧ K b cc d n rest (k + (used.length : Int)) = .ok p := by
  have hm := byte_eq hc.1 hc.2
  have hmid := midF_eq hc.1 hc.2 r0 r1
  obtain ⟨c0, c1⟩ := hc
  have a0 : 0 ≤ midF c R := by rw [hmid]; omega
  have a1 : midF c R < 16 := by rw [hmid]; omega
  generalize midF c R = a at *
  have base : (modF c = 0 → rmF c ≠ 5) → baseQ R c t k K = .ok p → ∃ b cc d n used rest, t = used ++ rest ∧ memP a b cc d n = (R % 8, c :: used) ∧ K b cc d n rest (k + (used.length : Int)) = .ok p := by
    clear h
    intro h5 h
    unfold baseQ at h
    by_cases e4 : rmF c = 4
    · rw [e4, show ((4 : Int) == 4) = true from rfl, cond_true] at h
      unfold sibQ at h
      have h0 := nxQ_fwd h
      clear h
      obtain ⟨e, t, rfl, h⟩ := h0
      obtain ⟨he, ht⟩ := allB_hd ht
      have hl := lowF_eq he.1 he.2 r0 r1
      have hx := idxF_eq he.1 he.2 r0 r1
      have hem := (byte_eq he.1 he.2).1
      obtain ⟨e0, e1⟩ := he
      have b0 : 0 ≤ lowF e R := by rw [hl]; omega
      have b1 : lowF e R < 16 := by rw [hl]; omega
      have key : (modF c = 0 → lowF e R % 8 ≠ 5) ∧ sibQ2 R c e t (k + 1) K = .ok p := by
        by_cases e0 : modF c = 0
        · rw [e0] at h
          obtain ⟨q1, q2⟩ := must_fwd (h : mustQ (andi (lowF e R) 7 != 5) (k + 1) (sibQ2 R c e t (k + 1) K) = .ok p)
          rw [andi7 b0 b1] at q1
          exact ⟨fun _ => by simpa using q1, q2⟩
        · have : (modF c != 0) = true := by simpa using e0
          rw [this, cond_true] at h
          exact ⟨fun h => absurd h e0, h⟩
      obtain ⟨h05, h⟩ := key
      unfold sibQ2 at h
      by_cases ei : idxF e R = 4
      · rw [ei, show ((4 : Int) == 4) = true from rfl, cond_true] at h
        by_cases em : modF e = 0
        · rw [em, show ((0 : Int) == 0) = true from rfl, cond_true] at h
          obtain ⟨q1, q2⟩ := must_fwd h
          rw [andi7 b0 b1] at q1
          have q1 := eq_of_beq q1
          obtain ⟨n, imm, rest, f1, f2, f3, f4⟩ := modQ_fwd b0 b1 ⟨c0, c1⟩ h3 h05 ht q2
          refine ⟨lowF e R, 16, 0, n, e :: imm, rest, by rw [f1]; rfl, ?_, ?_⟩
          · rw [mode_memP b0 b1 f3]
            have m1 := mrB_eq (m := modF c) (by omega) (by omega) a0 a1 (show (0 : Int) ≤ 4 by omega) (show (4 : Int) < 16 by omega)
            have m2 := mrB_eq (m := 0) (by omega) (by omega) (show (0 : Int) ≤ 4 by omega) (show (4 : Int) < 16 by omega) b0 b1
            have m3 := sibR_eq a0 a1 (show (0 : Int) ≤ 4 by omega) (show (4 : Int) < 16 by omega) b0 b1
            have g1 : mrB (modF c) a 4 = c := by rw [m1]; omega
            have g2 : mrB 0 4 (lowF e R) = e := by rw [m2]; omega
            have g3 : sibR (rexM 0 a 4) 4 (lowF e R) = R % 8 := by rw [m3]; omega
            unfold modP
            rw [andi7 b0 b1, q1]
            show (sibR (rexM 0 a 4) 4 (lowF e R), [mrB (modF c) a 4] ++ [mrB 0 4 (lowF e R)] ++ imm) = _
            rw [g1, g2, g3]
            rfl
          · rw [show k + ((e :: imm).length : Int) = k + 1 + (imm.length : Int) by simp only [List.length_cons]; omega]
            exact f4
        · rw [beq_eq_false_iff_ne.2 em, cond_false] at h; cases h
      · rw [beq_eq_false_iff_ne.2 ei, cond_false] at h
        obtain ⟨n, imm, rest, f1, f2, f3, f4⟩ := modQ_fwd b0 b1 ⟨c0, c1⟩ h3 h05 ht h
        have hix0 : 0 ≤ idxF e R := by rw [hx]; omega
        have hix1 : idxF e R < 16 := by rw [hx]; omega
        refine ⟨lowF e R, idxF e R, scF e, n, e :: imm, rest, by rw [f1]; rfl, ?_, ?_⟩
        · rw [mode_memP b0 b1 f3]
          have hs : scaleN (scF e) = modF e := by
            have := all1_of scF_all e0 e1
            have hq : e / 64 = 0 ∨ e / 64 = 1 ∨ e / 64 = 2 ∨ e / 64 = 3 := by omega
            rw [hem]
            rcases hq with hq | hq | hq | hq <;> rw [hq] at this ⊢ <;> rw [eq_of_beq (this : (scF e == _) = true)] <;> rfl
          have m1 := mrB_eq (m := modF c) (by omega) (by omega) a0 a1 (show (0 : Int) ≤ 4 by omega) (show (4 : Int) < 16 by omega)
          have m2 := mrB_eq (m := modF e) (by omega) (by omega) hix0 hix1 b0 b1
          have m3 := sibR_eq a0 a1 hix0 hix1 b0 b1
          have w1 : a / 8 = R / 4 % 2 := by omega
          have w2 : idxF e R / 8 = R / 2 % 2 := by omega
          have w3 : lowF e R / 8 = R % 2 := by omega
          have g1 : mrB (modF c) a 4 = c := by rw [m1]; omega
          have g2 : mrB (modF e) (idxF e R) (lowF e R) = e := by rw [m2, show idxF e R % 8 = e / 8 % 8 by omega, show lowF e R % 8 = e % 8 by omega]; omega
          have g3 : sibR (rexM 0 a 4) (idxF e R) (lowF e R) = R % 8 := by rw [m3, w1, w2, w3, bits8 r0 r1]
          have e16 : (idxF e R == 16) = false := beq_eq_false_iff_ne.2 (by omega)
          unfold modP
          rw [e16, hs]
          show (sibR (rexM 0 a 4) (idxF e R) (lowF e R), [mrB (modF c) a 4] ++ [mrB (modF e) (idxF e R) (lowF e R)] ++ imm) = _
          rw [g1, g2, g3]
          rfl
        · rw [show k + ((e :: imm).length : Int) = k + 1 + (imm.length : Int) by simp only [List.length_cons]; omega]
          exact f4
    · rw [beq_eq_false_iff_ne.2 e4, cond_false] at h
      obtain ⟨q1, q2⟩ := must_fwd h
      rw [(and83 r0 r1).2] at q1
      have q1 := eq_of_beq q1
      have hb : wi (rmF c + bitF R 1) = c % 8 + 8 * (R % 2) := by
        rw [hm.2.2.2, (bit_eq r0 r1).2.2, wi_small (by omega) (by omega)]
      have b0 : 0 ≤ c % 8 + 8 * (R % 2) := by omega
      have b1 : c % 8 + 8 * (R % 2) < 16 := by omega
      rw [hb] at q2
      obtain ⟨n, imm, rest, f1, f2, f3, f4⟩ := modQ_fwd b0 b1 ⟨c0, c1⟩ h3 (fun e0 => by have := h5 e0; omega) ht q2
      refine ⟨_, 16, 0, n, imm, rest, f1, ?_, f4⟩
      rw [mode_memP b0 b1 f3]
      have m1 := mrB_eq (m := modF c) (by omega) (by omega) a0 a1 b0 b1
      have m3 := rexM_eq a0 a1 b0 b1
      have g1 : mrB (modF c) a (c % 8 + 8 * (R % 2)) = c := by rw [m1]; omega
      have g3 : rexM 0 a (c % 8 + 8 * (R % 2)) = R % 8 := by rw [m3]; omega
      have h4 : ((c % 8 + 8 * (R % 2)) % 8 != 4) = true := by
        rw [hm.2.2.2] at e4
        simpa using (show (c % 8 + 8 * (R % 2)) % 8 ≠ 4 by omega)
      unfold modP
      rw [andi7 b0 b1, h4]
      show (rexM 0 a _, [mrB (modF c) a _] ++ imm) = _
      rw [g1, g3]
      rfl
  unfold placeQ at h
  by_cases em : modF c = 0
  · rw [em, show ((0 : Int) == 0) = true from rfl, cond_true] at h
    by_cases e5 : rmF c = 5
    · rw [e5, show ((5 : Int) == 5) = true from rfl, cond_true] at h
      obtain ⟨q1, q2⟩ := must_fwd h
      rw [(and83 r0 r1).1] at q1
      have q1 := eq_of_beq q1
      obtain ⟨n, rest, f1, f2, f3, f4⟩ := num4_fwd ht q2
      refine ⟨17, 16, 0, n, im4 n, rest, f1, ?_, f4⟩
      have m1 := mrB_eq (m := 0) (by omega) (by omega) a0 a1 (show (0 : Int) ≤ 5 by omega) (show (5 : Int) < 16 by omega)
      have m3 := rexM_eq a0 a1 (show (0 : Int) ≤ 5 by omega) (show (5 : Int) < 16 by omega)
      have g1 : mrB 0 a 5 = c := by rw [m1]; omega
      have g3 : rexM 0 a 5 = R % 8 := by rw [m3]; omega
      show (rexM 0 a 5, [mrB 0 a 5] ++ im4 n) = _
      rw [g1, g3]
      rfl
    · rw [beq_eq_false_iff_ne.2 e5, cond_false] at h
      exact base (fun _ => e5) h
  · rw [beq_eq_false_iff_ne.2 em, cond_false] at h
    exact base (fun e => absurd e em) h
end Go.Amd

namespace Go.Amd
open Go Go.Ab Go.Proofs
def restN (x : RowT) (op : List Int) : Int := wi (w8 (lastB op - w8 x.2.2.1))
def headK (x : RowT) (op : List Int) (h : Int) : Bool :=
  hdF x.2.2.1 ++ [lastG (formR x) (condR x) (w8 x.2.2.1) (restN x op + 8 * h) (cond (condR x) (restN x op) 0) (op.getD 0 0 == 131)] == op &&
    cond (formR x == 1 || formR x == 2) (decide (0 ≤ restN x op) && decide (restN x op < 8)) true
def headC (x : RowT) (op : List Int) : Bool := cond (opensF x op) (headK x op 0 && headK x op 1) true
theorem headC_all : rowsL.all (fun x => all2 16 16 fun a b => headC x [16 * a + b] && headC x [15, 16 * a + b]) = true := by kernel_rfl
theorem headC_of {x : RowT} (hx : x ∈ rowsL) {c : Int} (hc : IsB c) : headC x [c] = true ∧ headC x [15, c] = true := by
  obtain ⟨c0, c1⟩ := hc
  have := all2_of (List.all_eq_true.1 headC_all x hx) (a := c / 16) (b := c % 16) (by omega) (by omega) (by omega) (by omega)
  rw [show 16 * (c / 16) + c % 16 = c by omega] at this
  exact Bool.and_eq_true_iff.1 this
theorem lastG_a {f : Int} (h1 : f ≠ 1) (h2 : f ≠ 2) (cn : Bool) (l a b d : Int) (ft : Bool) : lastG f cn l a d ft = lastG f cn l b d ft := by
  unfold lastG
  rw [beq_eq_false_iff_ne.2 h1, beq_eq_false_iff_ne.2 h2]
  simp only [cond_false]
theorem lastG_f {f : Int} (h6 : f ≠ 6) (cn : Bool) (l a d : Int) (ft fu : Bool) : lastG f cn l a d ft = lastG f cn l a d fu := by
  unfold lastG
  rw [beq_eq_false_iff_ne.2 h6]
  rfl
theorem head_get {x : RowT} (hx : x ∈ rowsL) {op : List Int} (hb : OpB op) (ho : opensF x op = true) {h : Int} (hh : h = 0 ∨ h = 1) : headK x op h = true := by
  have key : headC x op = true := by
    rcases hb with ⟨c, hc, rfl⟩ | ⟨c, hc, rfl⟩
    · exact (headC_of hx hc).1
    · exact (headC_of hx hc).2
  unfold headC at key
  rw [ho, cond_true] at key
  obtain ⟨k0, k1⟩ := Bool.and_eq_true_iff.1 key
  rcases hh with rfl | rfl
  · exact k0
  · exact k1
theorem head_rng {x : RowT} (hx : x ∈ rowsL) {op : List Int} (hb : OpB op) (ho : opensF x op = true) (hf : formR x = 1 ∨ formR x = 2) : 0 ≤ restN x op ∧ restN x op < 8 := by
  have := head_get hx hb ho (h := 0) (.inl rfl)
  unfold headK at this
  have e : (formR x == 1 || formR x == 2) = true := by rcases hf with e | e <;> rw [e] <;> rfl
  rw [e, cond_true] at this
  have := (Bool.and_eq_true_iff.1 this).2
  simpa using this
theorem head_fwd {x : RowT} (hx : x ∈ rowsL) {op : List Int} (hb : OpB op) (ho : opensF x op = true) {h : Int} (hh : h = 0 ∨ h = 1) {i : InsT} (ha : formR x = 1 ∨ formR x = 2 → i.2.1 = restN x op + 8 * h)
    (hd : i.2.2.2.2.1 = cond (condR x) (restN x op) 0) (hft : formR x = 6 → fitsF i.2.2.2.2.2 = (op.getD 0 0 == 131)) : headI x i = op := by
  have := head_get hx hb ho hh
  unfold headK at this
  have := eq_of_beq (Bool.and_eq_true_iff.1 this).1
  unfold headI lastO
  rw [lastF_eq, hd]
  refine Eq.trans ?_ this
  refine congrArg (fun c => hdF x.2.2.1 ++ [c]) ?_
  by_cases h6 : formR x = 6
  · rw [hft h6]
    exact lastG_a (by omega) (by omega) _ _ _ _ _ _
  · rw [lastG_f h6 _ _ _ _ (fitsF i.2.2.2.2.2) (op.getD 0 0 == 131)]
    by_cases h12 : formR x = 1 ∨ formR x = 2
    · rw [ha h12]
    · exact lastG_a (by omega) (by omega) _ _ _ _ _ _
def unC (f R : Int) : Bool := cond (and8 R (unusedF f) != 0) true (cond (f == 0 || f == 11 || f == 12) (R % 8 == 0) (cond (f == 7 || f == 8) (R / 2 % 2 == 0) (cond (f == 9 || f == 10) true (R % 8 == R % 2))))
theorem unC_all : forms.all (fun f => all1 16 fun R => unC f R) = true := by kernel_rfl
def rexC (R : Int) : Bool := cond (and8 R 8 != 0) (R == 8 + R % 8) (R == R % 8) && ((and8 R 8 == 0) == !(and8 R 8 != 0))
theorem rexC_all : all1 16 rexC = true := by kernel_rfl
theorem pref_fwd {x : RowT} (hx : x ∈ rowsL) {fs has : Bool} {R : Int} (r0 : 0 ≤ R) (r1 : R < 16) (h0 : has = false → R = 0) (h : prefF x fs R has = true) :
    fs = (formR x == 10) ∧ unC (formR x) R = true ∧ and8 R (unusedF (formR x)) = 0 ∧ rexL x.2.1 (R % 8) = cond has [64 + R] [] := by
  have hfm : formR x ∈ forms := by simpa [formOk] using List.all_eq_true.1 rows_forms x hx
  have hu := all1_of (List.all_eq_true.1 unC_all _ hfm) r0 r1
  unfold prefF at h
  cases e1 : (!(fs == (formR x == 10)))
  · rw [e1, cond_false] at h
    have e1 : fs = (formR x == 10) := by simpa using e1
    cases e2 : (and8 R (unusedF (formR x)) != 0)
    · rw [e2, cond_false] at h
      refine ⟨e1, hu, bne_tt e2, ?_⟩
      obtain ⟨c1, c2⟩ := Bool.and_eq_true_iff.1 (all1_of rexC_all r0 r1)
      have c2 := eq_of_beq c2
      obtain ⟨o1, o2, -⟩ := or8_of (r := R % 8) (by omega) (by omega)
      unfold rexL
      rcases (rex_of hx).1 with hr | hr | hr
      · rw [hr] at h ⊢
        have h : cond (and8 R 8 == 0) (cond (!has) true (R != 0)) false = true := h
        cases e8 : (and8 R 8 == 0)
        · rw [e8] at h; cases h
        · rw [e8] at c2
          have e8' : (and8 R 8 != 0) = false := by simpa using c2.symm
          rw [e8', cond_false] at c1
          have c1 := eq_of_beq c1
          rw [e8, cond_true] at h
          rw [show ((0 : Int) == 0) = true from rfl, cond_true, o2, ← c1]
          cases has
          · rw [h0 rfl]; rfl
          · have h : (R != 0) = true := h
            rw [h, cond_true]
      · rw [hr] at h ⊢
        have h : (and8 R 8 != 0) = true := h
        rw [h, cond_true] at c1
        have c1 := eq_of_beq c1
        show [or8 64 (or8 (R % 8) 8)] = _
        rw [o1, ← c1]
        cases has
        · have := h0 rfl; omega
        · rfl
      · rw [hr] at h ⊢
        have h : cond has (and8 R 8 == 0) false = true := h
        cases has
        · cases h
        · rw [cond_true] at h
          rw [h] at c2
          have e8' : (and8 R 8 != 0) = false := by simpa using c2.symm
          rw [e8', cond_false] at c1
          have c1 := eq_of_beq c1
          show [or8 64 (R % 8)] = _
          rw [o2, ← c1]
          rfl
    · rw [e2] at h; cases h
  · rw [e1] at h; cases h
theorem rest_e (R : Int) (x : RowT) (op : List Int) (c : Int) (t : List Int) (k : Int) : restQ R x op c t k = formQ (formR x) R x op c t k (cond (condR x) (restN x op) 0) := by
  unfold restQ lastQ restN
  cases condR x <;> rfl
theorem formQ_2' (R : Int) (x : RowT) (op : List Int) (c : Int) (t : List Int) (k d : Int) : formQ 2 R x op c t k d = num8Q t k fun n _ k => finQ x (x.1, wi (restN x op + bitF R 1), 0, 0, d, n) k := rfl
theorem lastG_9 (l a d : Int) (ft : Bool) : lastG 9 false l a d ft = l := rfl
def Fwd (x : RowT) (op : List Int) (R : Int) (pre t : List Int) (k : Int) (i : InsT) (n : Int) : Prop :=
  i.1 = x.1 ∧ faultyF x i = 0 ∧ rI x i = R % 8 ∧ headI x i = op ∧ ∃ used rest, t = used ++ rest ∧ n = k + (used.length : Int) ∧ tailI x i = pre ++ used
section
variable {x : RowT} (hx : x ∈ rowsL) {op : List Int} (hb : OpB op) (ho : opensF x op = true) {R : Int} (r0 : 0 ≤ R) (r1 : R < 16) (hu : unC (formR x) R = true) (hz : and8 R (unusedF (formR x)) = 0)
include hx hb ho r0 r1 hu hz
omit hx hb ho r0 r1 in
theorem un_0 (hf : formR x = 0 ∨ formR x = 11 ∨ formR x = 12) : R % 8 = 0 := by
  have h := hu
  unfold unC at h
  rw [hz] at h
  rcases hf with e | e | e <;> rw [e] at h <;> exact eq_of_beq h
omit hx hb ho r0 r1 in
theorem un_1 (hf : formR x = 1 ∨ formR x = 2 ∨ formR x = 3 ∨ formR x = 4 ∨ formR x = 5 ∨ formR x = 6) : R % 8 = R % 2 := by
  have h := hu
  unfold unC at h
  rw [hz] at h
  rcases hf with e | e | e | e | e | e <;> rw [e] at h <;> exact eq_of_beq h
omit hx hb ho r0 r1 in
theorem un_7 (hf : formR x = 7 ∨ formR x = 8) : R / 2 % 2 = 0 := by
  have h := hu
  unfold unC at h
  rw [hz] at h
  rcases hf with e | e <;> rw [e] at h <;> exact eq_of_beq h
omit r0 r1 in
theorem fwd_0 (hf : formR x = 0) {t : List Int} {k : Int} {i : InsT} {n : Int} (h : restQ R x op 0 t k = .ok (i, n)) : Fwd x op R [] t k i n := by
  rw [rest_e, hf] at h
  obtain ⟨rfl, rfl, he⟩ := fin_fwd (h : finQ x _ k = _)
  exact ⟨rfl, he, (rI_none (.inl hf)).trans (un_0 hu hz (.inl hf)).symm, head_fwd hx hb ho (.inl rfl) (fun e => by omega) rfl (fun e => by omega), [], t, rfl, by simp, (tail_0 hf).trans rfl⟩
theorem reg_fwd (hf : formR x = 1 ∨ formR x = 2) : wi (restN x op + bitF R 1) = restN x op + 8 * (R % 2) ∧ 0 ≤ restN x op + 8 * (R % 2) ∧ restN x op + 8 * (R % 2) < 16 ∧ or8 0 (hi4 (restN x op + 8 * (R % 2)) 1) = R % 8 := by
  have hn := head_rng hx hb ho hf
  have e := un_1 hu hz (by omega)
  rw [(bit_eq r0 r1).2.2, wi_small (by omega) (by omega)]
  refine ⟨rfl, by omega, by omega, ?_⟩
  rw [hi_eq (by omega) (by omega), e]
  omega
theorem fwd_1 (hf : formR x = 1) {t : List Int} {k : Int} {i : InsT} {n : Int} (h : restQ R x op 0 t k = .ok (i, n)) : Fwd x op R [] t k i n := by
  obtain ⟨g1, g2, g3, g4⟩ := reg_fwd hx hb ho r0 r1 hu hz (.inl hf)
  rw [rest_e, hf, formQ_1] at h
  obtain ⟨rfl, rfl, he⟩ := fin_fwd (h : finQ x (x.1, wi (restN x op + bitF R 1), 0, 0, _, 0) k = _)
  refine ⟨rfl, he, ?_, head_fwd hx hb ho (h := R % 2) (by omega) (fun _ => g1) rfl (fun e => by omega), [], t, rfl, by simp, (tail_1 hf).trans rfl⟩
  unfold rI
  rw [hf]
  show or8 0 (hi4 (wi (restN x op + bitF R 1)) 1) = R % 8
  rw [g1, g4]
theorem fwd_2 (hf : formR x = 2) {t : List Int} (ht : AllB t) {k : Int} {i : InsT} {n : Int} (h : restQ R x op 0 t k = .ok (i, n)) : Fwd x op R [] t k i n := by
  obtain ⟨g1, g2, g3, g4⟩ := reg_fwd hx hb ho r0 r1 hu hz (.inr hf)
  rw [rest_e, hf, formQ_2'] at h
  obtain ⟨m, rest, e, hr, h⟩ := num8_fwd ht h
  obtain ⟨rfl, rfl, he⟩ := fin_fwd h
  refine ⟨rfl, he, ?_, head_fwd hx hb ho (h := R % 2) (by omega) (fun _ => g1) rfl (fun e => by omega), im8 m, rest, e, rfl, (tail_2 hf).trans rfl⟩
  unfold rI
  rw [hf]
  show or8 0 (hi4 (wi (restN x op + bitF R 1)) 1) = R % 8
  rw [g1, g4]
omit r0 r1 in
theorem fwd_11 (hf : formR x = 11) {t : List Int} (ht : AllB t) {k : Int} {i : InsT} {n : Int} (h : restQ R x op 0 t k = .ok (i, n)) : Fwd x op R [] t k i n := by
  rw [rest_e, hf, formQ_11] at h
  obtain ⟨m, rest, e, hr, -, h⟩ := num4_fwd ht h
  obtain ⟨rfl, rfl, he⟩ := fin_fwd h
  exact ⟨rfl, he, (rI_none (.inr (.inl hf))).trans (un_0 hu hz (by omega)).symm, head_fwd hx hb ho (.inl rfl) (fun e => by omega) rfl (fun e => by omega), im4 m, rest, e, rfl, (tail_11 hf).trans rfl⟩
omit r0 r1 in
theorem fwd_12 (hf : formR x = 12) {t : List Int} (ht : AllB t) {k : Int} {i : InsT} {n : Int} (h : restQ R x op 0 t k = .ok (i, n)) : Fwd x op R [] t k i n := by
  rw [rest_e, hf, formQ_12] at h
  obtain ⟨m, rest, e, hr, -, h⟩ := num1_fwd ht h
  obtain ⟨rfl, rfl, he⟩ := fin_fwd h
  exact ⟨rfl, he, (rI_none (.inr (.inr hf))).trans (un_0 hu hz (by omega)).symm, head_fwd hx hb ho (.inl rfl) (fun e => by omega) rfl (fun e => by omega), im1 m, rest, e, rfl, (tail_12 hf).trans rfl⟩
omit hb ho in
theorem grp_fwd {c : Int} (hc : IsB c) (hfit : fitC c x = true) (hf : formR x = 3 ∨ formR x = 4 ∨ formR x = 5 ∨ formR x = 6) : (0 ≤ lowF c R ∧ lowF c R < 16) ∧ mrB 3 (wi x.2.2.2.2.1) (lowF c R) = c ∧ lowF c R / 8 = R % 8 := by
  obtain ⟨d0, d1, d2⟩ := dg_rng hx
  have hl := lowF_eq hc.1 hc.2 r0 r1
  obtain ⟨q1, q2, q3, q4⟩ := byte_eq hc.1 hc.2
  have e := un_1 hu hz (by omega)
  have hg : grpF (formR x) = true := by unfold grpF; rcases hf with e | e | e | e <;> rw [e] <;> rfl
  obtain ⟨c0, c1⟩ := hc
  unfold fitC at hfit
  rw [fit_grp hg, q2] at hfit
  cases h3 : (Int.fdiv c (2 ^ 6) == 3)
  · rw [h3] at hfit; cases hfit
  · rw [h3, cond_true] at hfit
    have h3 : c / 64 = 3 := q1.symm.trans (eq_of_beq h3)
    have hdg := eq_of_beq hfit
    have hm := mrB_eq (m := 3) (by decide) (by decide) (show 0 ≤ wi x.2.2.2.2.1 by omega) (show wi x.2.2.2.2.1 < 16 by omega) (show 0 ≤ lowF c R by omega) (show lowF c R < 16 by omega)
    refine ⟨by omega, ?_, by omega⟩
    rw [hm, d2, ← hdg, hl]
    omega
theorem fwd_3 (hf : formR x = 3) {c : Int} (hc : IsB c) (hfit : fitC c x = true) {t : List Int} {k : Int} {i : InsT} {n : Int} (h : restQ R x op c t k = .ok (i, n)) : Fwd x op R [c] t k i n := by
  obtain ⟨g1, g2, g3⟩ := grp_fwd hx r0 r1 hu hz hc hfit (by omega)
  rw [rest_e, hf, formQ_3] at h
  obtain ⟨rfl, rfl, he⟩ := fin_fwd h
  refine ⟨rfl, he, (rI_grp hx g1 (by omega)).trans g3, head_fwd hx hb ho (.inl rfl) (fun e => by omega) rfl (fun e => by omega), [], t, rfl, by simp, (tail_3 hf).trans ?_⟩
  show [mrB 3 (wi x.2.2.2.2.1) (lowF c R)] = _
  rw [g2]; rfl
theorem fwd_4 (hf : formR x = 4) {c : Int} (hc : IsB c) (hfit : fitC c x = true) {t : List Int} (ht : AllB t) {k : Int} {i : InsT} {n : Int} (h : restQ R x op c t k = .ok (i, n)) : Fwd x op R [c] t k i n := by
  obtain ⟨g1, g2, g3⟩ := grp_fwd hx r0 r1 hu hz hc hfit (by omega)
  rw [rest_e, hf, formQ_4] at h
  obtain ⟨m, rest, e, hr, -, h⟩ := num4_fwd ht h
  obtain ⟨rfl, rfl, he⟩ := fin_fwd h
  refine ⟨rfl, he, (rI_grp hx g1 (by omega)).trans g3, head_fwd hx hb ho (.inl rfl) (fun e => by omega) rfl (fun e => by omega), im4 m, rest, e, rfl, (tail_4 hf).trans ?_⟩
  show mrB 3 (wi x.2.2.2.2.1) (lowF c R) :: im4 m = _
  rw [g2]; rfl
theorem fwd_5 (hf : formR x = 5) {c : Int} (hc : IsB c) (hfit : fitC c x = true) {t : List Int} (ht : AllB t) {k : Int} {i : InsT} {n : Int} (h : restQ R x op c t k = .ok (i, n)) : Fwd x op R [c] t k i n := by
  obtain ⟨g1, g2, g3⟩ := grp_fwd hx r0 r1 hu hz hc hfit (by omega)
  rw [rest_e, hf, formQ_5] at h
  obtain ⟨m, rest, e, hr, -, h⟩ := num1_fwd ht h
  obtain ⟨rfl, rfl, he⟩ := fin_fwd h
  refine ⟨rfl, he, (rI_grp hx g1 (by omega)).trans g3, head_fwd hx hb ho (.inl rfl) (fun e => by omega) rfl (fun e => by omega), im1 m, rest, e, rfl, (tail_5 hf).trans ?_⟩
  show mrB 3 (wi x.2.2.2.2.1) (lowF c R) :: im1 m = _
  rw [g2]; rfl
theorem fwd_6 (hf : formR x = 6) {c : Int} (hc : IsB c) (hfit : fitC c x = true) {t : List Int} (ht : AllB t) {k : Int} {i : InsT} {n : Int} (h : restQ R x op c t k = .ok (i, n)) : Fwd x op R [c] t k i n := by
  obtain ⟨g1, g2, g3⟩ := grp_fwd hx r0 r1 hu hz hc hfit (by omega)
  rw [rest_e, hf, formQ_6] at h
  cases hop : (op.getD 0 0 == 131)
  · rw [hop, cond_false] at h
    obtain ⟨m, rest, e, hr, -, h⟩ := num4_fwd ht h
    obtain ⟨q, h⟩ := must_fwd h
    have q : fitsF m = false := by simpa using q
    obtain ⟨rfl, rfl, he⟩ := fin_fwd h
    refine ⟨rfl, he, (rI_grp hx g1 (by omega)).trans g3, head_fwd hx hb ho (.inl rfl) (fun e => by omega) rfl (fun e => q.trans hop.symm), im4 m, rest, e, rfl, (tail_6 hf).trans ?_⟩
    show mrB 3 (wi x.2.2.2.2.1) (lowF c R) :: immS m = _
    unfold immS
    rw [g2, q]; rfl
  · rw [hop, cond_true] at h
    obtain ⟨m, rest, e, hr, hm, h⟩ := num1_fwd ht h
    have q : fitsF m = true := (fitsF_iff m).2 hm
    obtain ⟨rfl, rfl, he⟩ := fin_fwd h
    refine ⟨rfl, he, (rI_grp hx g1 (by omega)).trans g3, head_fwd hx hb ho (.inl rfl) (fun e => by omega) rfl (fun e => q.trans hop.symm), im1 m, rest, e, rfl, (tail_6 hf).trans ?_⟩
    show mrB 3 (wi x.2.2.2.2.1) (lowF c R) :: immS m = _
    unfold immS
    rw [g2, q]; rfl
omit hx hb ho in
theorem two_fwd {c : Int} (hc : IsB c) (hfit : fitC c x = true) (hf : formR x = 7 ∨ formR x = 8) : mrB 3 (midF c R) (lowF c R) = c ∧ rexM 0 (midF c R) (lowF c R) = R % 8 := by
  have hl := lowF_eq hc.1 hc.2 r0 r1
  have hm := midF_eq hc.1 hc.2 r0 r1
  obtain ⟨q1, q2, q3, q4⟩ := byte_eq hc.1 hc.2
  have e := un_7 hu hz hf
  have h3 : modF c = 3 := fit_3 (x := x) (by rcases hf with e | e <;> rw [e] <;> rfl) hfit
  obtain ⟨c0, c1⟩ := hc
  have l0 : 0 ≤ lowF c R ∧ lowF c R < 16 := by omega
  have m0 : 0 ≤ midF c R ∧ midF c R < 16 := by omega
  refine ⟨?_, ?_⟩
  · rw [mrB_eq (by decide) (by decide) m0.1 m0.2 l0.1 l0.2, show midF c R % 8 = c / 8 % 8 by omega, show lowF c R % 8 = c % 8 by omega]
    omega
  · rw [rexM_eq m0.1 m0.2 l0.1 l0.2, show midF c R / 8 = R / 4 % 2 by omega, show lowF c R / 8 = R % 2 by omega, bits8 r0 r1, e]
    omega
theorem fwd_7 (hf : formR x = 7) {c : Int} (hc : IsB c) (hfit : fitC c x = true) {t : List Int} {k : Int} {i : InsT} {n : Int} (h : restQ R x op c t k = .ok (i, n)) : Fwd x op R [c] t k i n := by
  obtain ⟨g1, g2⟩ := two_fwd r0 r1 hu hz hc hfit (.inl hf)
  rw [rest_e, hf, formQ_7] at h
  obtain ⟨rfl, rfl, he⟩ := fin_fwd h
  refine ⟨rfl, he, ?_, head_fwd hx hb ho (.inl rfl) (fun e => by omega) rfl (fun e => by omega), [], t, rfl, by simp, (tail_7 hf).trans ?_⟩
  · unfold rI
    rw [hf]
    exact g2
  · show [mrB 3 (midF c R) (lowF c R)] = _
    rw [g1]; rfl
theorem fwd_8 (hf : formR x = 8) {c : Int} (hc : IsB c) (hfit : fitC c x = true) {t : List Int} {k : Int} {i : InsT} {n : Int} (h : restQ R x op c t k = .ok (i, n)) : Fwd x op R [c] t k i n := by
  obtain ⟨g1, g2⟩ := two_fwd r0 r1 hu hz hc hfit (.inr hf)
  rw [rest_e, hf, formQ_8] at h
  obtain ⟨rfl, rfl, he⟩ := fin_fwd h
  refine ⟨rfl, he, ?_, head_fwd hx hb ho (.inl rfl) (fun e => by omega) rfl (fun e => by omega), [], t, rfl, by simp, (tail_8 hf).trans ?_⟩
  · unfold rI
    rw [hf]
    exact g2
  · show [mrB 3 (midF c R) (lowF c R)] = _
    rw [g1]; rfl
omit hu hz in
theorem fwd_9 (hf : formR x = 9) {c : Int} (hc : IsB c) (hfit : fitC c x = true) {t : List Int} (ht : AllB t) {k : Int} {i : InsT} {n : Int} (h : restQ R x op c t k = .ok (i, n)) : Fwd x op R [c] t k i n := by
  have h3 : modF c ≠ 3 := fit_9 (x := x) (by rw [hf]; rfl) hfit
  unfold restQ at h
  rw [cond_9 hx hf, cond_false, hf, formQ_9] at h
  obtain ⟨b, cc, d, m, used, rest, e1, e2, h⟩ := place_fwd r0 r1 hc h3 ht h
  obtain ⟨rfl, rfl, he⟩ := fin_fwd h
  have hd : d = cond (condR x) (restN x op) 0 ∨ True := .inr trivial
  refine ⟨rfl, he, ?_, ?_, used, rest, e1, rfl, (tail_9 hf).trans ?_⟩
  · unfold rI
    rw [hf]
    show (memP (midF c R) b cc d m).1 = _
    rw [e2]
  · have hh := head_get hx hb ho (h := 0) (.inl rfl)
    unfold headK at hh
    have hh := eq_of_beq (Bool.and_eq_true_iff.1 hh).1
    unfold headI lastO
    rw [lastF_eq]
    refine Eq.trans ?_ hh
    rw [cond_9 hx hf, hf, lastG_9, lastG_9]
  · show (memP (midF c R) b cc d m).2 = _
    rw [e2]; rfl
omit hu hz in
theorem fwd_10 (hR : R = 8 ∨ R = 12) (hf : formR x = 10) {c : Int} (hc : IsB c) (hfit : fitC c x = true) {t : List Int} (ht : AllB t) {k : Int} {i : InsT} {n : Int} (h : restQ R x op c t k = .ok (i, n)) : Fwd x op R [c] t k i n := by
  have hm := midF_eq hc.1 hc.2 r0 r1
  obtain ⟨q1, q2, q3, q4⟩ := byte_eq hc.1 hc.2
  have hfit : c / 64 = 0 ∧ c % 8 = 4 := by
    unfold fitC fitF at hfit
    rw [hf] at hfit
    have hfit : cond (modF c == 0) (and8 c 7 == 4) false = true := hfit
    cases h0 : (modF c == 0)
    · rw [h0] at hfit; cases hfit
    · rw [h0, cond_true] at hfit
      have h0 := eq_of_beq h0
      have hfit := eq_of_beq hfit
      omega
  obtain ⟨c0, c1⟩ := hc
  have m0 : 0 ≤ midF c R ∧ midF c R < 16 := by omega
  rw [rest_e, hf, formQ_10] at h
  obtain ⟨e, t2, et, h2⟩ := nxQ_fwd h
  obtain ⟨h37, h3⟩ := must_fwd h2
  have h37 := eq_of_beq h37
  subst h37
  rw [et] at ht
  obtain ⟨m, rest, e1, hr, -, h4⟩ := num4_fwd (allB_hd ht).2 h3
  obtain ⟨rfl, rfl, he⟩ := fin_fwd h4
  refine ⟨rfl, he, ?_, head_fwd hx hb ho (.inl rfl) (fun e => by omega) rfl (fun e => by omega), 37 :: im4 m, rest, by rw [et, e1]; rfl, ?_, (tail_10 hf).trans ?_⟩
  · unfold rI
    rw [hf]
    show rexM 0 (midF c R) 4 = _
    rw [rexM_eq m0.1 m0.2 (by decide) (by decide)]
    omega
  · simp only [List.length_cons]
    show k + 1 + 4 = _
    have : (im4 m).length = 4 := rfl
    omega
  · show mrB 0 (midF c R) 4 :: 37 :: im4 m = _
    rw [mrB_eq (by decide) (by decide) m0.1 m0.2 (by decide) (by decide), show 64 * 0 + 8 * (midF c R % 8) + 4 % 8 = c by omega]
    rfl
end
theorem rows_named : rowsL.all (fun x => fok x.1 && frow x.1 == x) = true := by kernel_rfl
theorem enc_dec {l : List Int} (hl : AllB l) {i : InsT} {n : Int} (h : decQ l = .ok (i, n)) : encE i = 0 ∧ encL i = l.take n.toNat ∧ 0 ≤ n ∧ n ≤ (l.length : Int) := by
  obtain ⟨n0, n1, -⟩ := dec_short hl h
  obtain ⟨op, k, fs, R, has, hop, x, hx, hr⟩ := dec_parts hl h
  obtain ⟨s1, s2, s3, s4, k0, e1, e2⟩ := opc_split hl hop
  obtain ⟨hx, ho, hp⟩ := cands_of hx
  obtain ⟨p1, p2, p3, p4⟩ := pref_fwd hx s2.1 s2.2 s3 hp
  have hrest : AllB (l.drop k.toNat) := fun c hc => hl c (List.mem_of_mem_drop hc)
  have fin : ∀ {pre t : List Int} {k' : Int}, l.drop k.toNat = pre ++ t → k' = k + (pre.length : Int) → Fwd x op R pre t k' i n → encE i = 0 ∧ encL i = l.take n.toNat ∧ 0 ≤ n ∧ n ≤ (l.length : Int) := by
    intro pre t k' hd hk ⟨f1, f2, f3, f4, used, rest, f5, f6, f7⟩
    have hn := List.all_eq_true.1 rows_named x hx
    obtain ⟨g1, g2⟩ := Bool.and_eq_true_iff.1 hn
    have g2 := eq_of_beq g2
    rw [← f1] at g1 g2
    refine ⟨?_, ?_, n0, n1⟩
    · unfold encE
      rw [g1, g2, f2]; rfl
    · rw [enc_split, g2]
      unfold frontI
      rw [f3, f4, f7]
      have hfs : fsF (formR x) = cond fs [100] [] := by unfold fsF; rw [p1]
      rw [hfs, p4]
      have hl2 : l = (cond fs [100] [] ++ cond has [64 + R] [] ++ op ++ (pre ++ used)) ++ rest := by
        rw [List.append_assoc, List.append_assoc pre, ← f5, ← hd]
        exact e1
      have hlen : n.toNat = (cond fs [100] [] ++ cond has [64 + R] [] ++ op ++ (pre ++ used)).length := by
        have e3 : (pre ++ used).length = pre.length + used.length := List.length_append
        rw [List.length_append]
        omega
      rw [hlen]
      exact (congrArg (List.take _) hl2 |>.trans List.take_left).symm
  have hfm : formR x ∈ forms := by simpa [formOk] using List.all_eq_true.1 rows_forms x hx
  unfold forms at hfm
  simp only [List.mem_cons, List.not_mem_nil, or_false] at hfm
  rcases hr with ⟨hm, hr⟩ | ⟨hm, c, t, hd, hf, hr⟩
  · have go : Fwd x op R [] (l.drop k.toNat) k i n → _ := fin rfl (by simp)
    have no : ∀ {f : Int}, formR x = f → modOf f = true → encE i = 0 ∧ encL i = l.take n.toNat ∧ 0 ≤ n ∧ n ≤ (l.length : Int) := fun e h => by
      rw [e, h] at hm; cases hm
    rcases hfm with e | e | e | e | e | e | e | e | e | e | e | e | e
    · exact go (fwd_0 hx s1 ho p2 p3 e hr)
    · exact go (fwd_1 hx s1 ho s2.1 s2.2 p2 p3 e hr)
    · exact go (fwd_2 hx s1 ho s2.1 s2.2 p2 p3 e hrest hr)
    · exact no e rfl
    · exact no e rfl
    · exact no e rfl
    · exact no e rfl
    · exact no e rfl
    · exact no e rfl
    · exact no e rfl
    · exact no e rfl
    · exact go (fwd_11 hx s1 ho p2 p3 e hrest hr)
    · exact go (fwd_12 hx s1 ho p2 p3 e hrest hr)
  · have go : Fwd x op R [c] t (k + 1) i n → _ := fin hd (by simp)
    rw [hd] at hrest
    obtain ⟨hc, ht⟩ := allB_hd hrest
    have no : ∀ {f : Int}, formR x = f → modOf f = false → encE i = 0 ∧ encL i = l.take n.toNat ∧ 0 ≤ n ∧ n ≤ (l.length : Int) := fun e h => by
      rw [e, h] at hm; cases hm
    rcases hfm with e | e | e | e | e | e | e | e | e | e | e | e | e
    · exact no e rfl
    · exact no e rfl
    · exact no e rfl
    · exact go (fwd_3 hx s1 ho s2.1 s2.2 p2 p3 e hc hf hr)
    · exact go (fwd_4 hx s1 ho s2.1 s2.2 p2 p3 e hc hf ht hr)
    · exact go (fwd_5 hx s1 ho s2.1 s2.2 p2 p3 e hc hf ht hr)
    · exact go (fwd_6 hx s1 ho s2.1 s2.2 p2 p3 e hc hf ht hr)
    · exact go (fwd_7 hx s1 ho s2.1 s2.2 p2 p3 e hc hf hr)
    · exact go (fwd_8 hx s1 ho s2.1 s2.2 p2 p3 e hc hf hr)
    · exact go (fwd_9 hx s1 ho s2.1 s2.2 e hc hf ht hr)
    · refine go (fwd_10 hx s1 ho s2.1 s2.2 ?_ e hc hf ht hr)
      rw [e] at p1
      exact (s4 p1).2
    · exact no e rfl
    · exact no e rfl
end Go.Amd

namespace Go.Amd
open Go Go.Ab Go.Proofs
def dI (l : List Int) (at_ : Int) : InsT := cond (outOf l at_) zeroI (match decQ (l.drop at_.toNat) with | .ok (i, _) => i | .error _ => zeroI)
def dN (l : List Int) (at_ : Int) : Int := cond (outOf l at_) 0 (match decQ (l.drop at_.toNat) with | .ok (_, n) => n | .error _ => 0)
def dE (l : List Int) (at_ : Int) : Int := cond (outOf l at_) 5 (match decQ (l.drop at_.toNat) with | .ok _ => 0 | .error e => e)
theorem decV_eq (l : List Int) (at_ : Int) : decV l at_ = .tup [insV (dI l at_), .int .i64 (dN l at_), .int .i64 (dE l at_)] := by
  unfold decV dI dN dE
  cases outOf l at_
  · simp only [cond_false]
    cases decQ (l.drop at_.toNat) <;> rfl
  · rfl
def decodeT : Ab.Spec := fun args => match args with
  | [.sl (.int .u8) l _ _, .int .i64 at_] => .req (decide (l.length < 1000000000)) (.req (bytesB l) (.leaf (.tup [insV (dI l at_), .int .i64 (dN l at_), .int .i64 (dE l at_)])))
  | _ => .fail
theorem decodeT_ok : Sound Try.prog 11 decodeT := by
  intro args out h
  refine decodeS_ok args out ?_
  unfold decodeT at h
  split at h
  rotate_left
  · cases h
  exact Eq.trans (congrArg (fun v => (Tree.req _ (Tree.req _ (Tree.leaf v))).run) (decV_eq _ _)) h
theorem bytesB_iff {l : List Int} (h : AllB l) : bytesB l = true := by
  unfold bytesB
  refine List.all_eq_true.2 fun x hx => ?_
  have := h x hx
  obtain ⟨h1, h2⟩ := this
  simp [h1, h2]
theorem plain_err {r : RestR} {e : Int} (h : plainR r = .error e) : ∃ m, r = .error (e, m) := by
  cases r with
  | ok p => cases h
  | error q =>
    refine ⟨q.2, ?_⟩
    rw [← Except.error.inj h]
section
variable {i : InsT} {p s : List Int}
end
end Go.Amd

namespace Go.Ab
structure Fi where
  f : Nat
  fn : Func
  keeps : List Nat
  refs : List Nat := []
  fuel : Nat := 0
  lz : List Nat := []
structure Tabs where
  tab : List (Nat × Spec) := []
  mtab : List (Nat × MSpec) := []
  rtab : List (Nat × RSpec) := []
  globs : List (Nat × List V) := []
  nums : List Nat := []
def Tabs.Ok (P : Program) (T : Tabs) : Prop := TabOk P T.tab ∧ MTabOk P T.mtab ∧ RTabOk P T.rtab ∧ ∀ p ∈ T.globs, p ∈ globsOf P
def Fi.cx (P : Program) (T : Tabs) (i : Fi) : Cx := { P := P, n := i.fn.ntmps, tab := T.tab, mtab := T.mtab, refs := i.refs, keeps := i.keeps, fuel := i.fuel, rtab := T.rtab, globs := T.globs, lz := i.lz, nums := T.nums }
def Fi.spec (P : Program) (T : Tabs) (i : Fi) : Nat × Spec := (i.f, fun args => .req (Nat.ble args.length i.fn.ntmps) (dfun (i.cx P T) i.fn args))
def Fi.mspec (P : Program) (T : Tabs) (i : Fi) : Nat × MSpec := (i.f, fun args H => .req (Nat.ble args.length i.fn.ntmps) (mfun (i.cx P T) i.fn args H))
def deep (P : Program) (T : Tabs) (ps ms : List Fi) : Nat → Tabs
  | 0 => T
  | d + 1 => { tab := ps.map (Fi.spec P (deep P T ps ms d)) ++ T.tab, mtab := ms.map (Fi.mspec P (deep P T ps ms d)) ++ T.mtab, rtab := T.rtab, globs := T.globs, nums := T.nums }
def FisOk (P : Program) : List Fi → Prop
  | [] => True
  | i :: r => (P.funcs[i.f]? = some i.fn ∧ (i.fn.name == "runtime.NumGoroutine") = false) ∧ FisOk P r
theorem FisOk.get {P : Program} : ∀ {l : List Fi}, FisOk P l → ∀ i ∈ l, P.funcs[i.f]? = some i.fn ∧ (i.fn.name == "runtime.NumGoroutine") = false
  | [], _, i, h => by cases h
  | j :: r, h, i, hi => by
    rcases List.mem_cons.1 hi with rfl | hi
    · exact h.1
    · exact FisOk.get h.2 i hi
theorem deep_ok {P : Program} {T : Tabs} {ps ms : List Fi} (hT : T.Ok P) (hps : FisOk P ps) (hms : FisOk P ms) : ∀ d, (deep P T ps ms d).Ok P
  | 0 => hT
  | d + 1 => by
    have ih := deep_ok hT hps hms d
    refine ⟨fun p hp => ?_, fun p hp => ?_, hT.2.2⟩
    · rcases List.mem_append.1 hp with hp | hp
      · obtain ⟨i, hi, rfl⟩ := List.mem_map.1 hp
        obtain ⟨h1, h2⟩ := hps.get i hi
        exact .inl (sound_fun (cx := i.cx P (deep P T ps ms d)) ih h1 h2)
      · exact hT.1 p hp
    · rcases List.mem_append.1 hp with hp | hp
      · obtain ⟨i, hi, rfl⟩ := List.mem_map.1 hp
        obtain ⟨h1, h2⟩ := hms.get i hi
        exact msound_fun (cx := i.cx P (deep P T ps ms d)) ih h1 h2
      · exact hT.2.1 p hp
end Go.Ab

namespace Go.Ab
open Go
noncomputable def Tree.fin {α : Type} (t : Tree α) : Option α :=
  Tree.rec (motive := fun _ => Option α) (fun b => some b) none (fun c _ _ x y => Bool.rec (motive := fun _ => Option α) y x c) t
theorem Tree.fin_run {α : Type} : ∀ t : Tree α, t.fin = t.run
  | .leaf _ => rfl
  | .fail => rfl
  | .br true x _ => Tree.fin_run x
  | .br false _ y => Tree.fin_run y
end Go.Ab

namespace Go.Amd
open Go Go.Ab Go.Proofs
def bO (b : Bool) : Option V := some (.bool b)
noncomputable def cx37 : Cx := { P := Try.prog, n := 15, tab := [], mtab := [], refs := [], keeps := [0, 1, 4, 6] }
noncomputable def cx39 : Cx := { P := Try.prog, n := 17, tab := [], mtab := [], refs := [], keeps := [0, 2] }
noncomputable def cx40 : Cx := { P := Try.prog, n := 9, tab := [], mtab := [], refs := [], keeps := [0, 2] }
noncomputable def cx41 : Cx := { P := Try.prog, n := 9, tab := [], mtab := [], refs := [], keeps := [0, 2] }
def regX (u : Bool) (n : Int) : Bool := cond u (cond (decide (0 ≤ n)) (decide (n ≤ 15)) false) (n == 0)
def condX (d : Int) : Bool := cond (cond (decide (0 ≤ d)) (decide (d ≤ 9)) false) true (cond (decide (12 ≤ d)) (decide (d ≤ 15)) false)
def longX (n : Int) : Bool := cond (decide (-2147483648 ≤ n)) (decide (n < 2147483648)) false
def shortX (n : Int) : Bool := cond (decide (-128 ≤ n)) (decide (n < 128)) false
theorem regX_eq (u : Bool) (n : Int) : (dfun cx37 Try.f37 [.bool u, .int .i64 n]).fin = cond (!u) (bO (n == 0)) (cond (decide (0 ≤ n)) (bO (decide (n ≤ 15))) (bO false)) := by kernel_rfl
theorem condX_eq (d : Int) : (dfun cx39 Try.f39 [.int .i64 d]).fin = cond (decide (0 ≤ d)) (cond (decide (d ≤ 9)) (bO true) (cond (decide (12 ≤ d)) (bO (decide (d ≤ 15))) (bO false))) (cond (decide (12 ≤ d)) (bO (decide (d ≤ 15))) (bO false)) := by kernel_rfl
theorem longX_eq (n : Int) : (dfun cx40 Try.f40 [.int .i64 n]).fin = cond (decide (-2147483648 ≤ n)) (bO (decide (n < 2147483648))) (bO false) := by kernel_rfl
theorem shortX_eq (n : Int) : (dfun cx41 Try.f41 [.int .i64 n]).fin = cond (decide (-128 ≤ n)) (bO (decide (n < 128))) (bO false) := by kernel_rfl
def regXS : Ab.Spec := fun args => match args with
  | [.bool u, .int .i64 n] => .leaf (.bool (regX u n))
  | _ => .fail
def condXS : Ab.Spec := fun args => match args with
  | [.int .i64 d] => .leaf (.bool (condX d))
  | _ => .fail
def longXS : Ab.Spec := fun args => match args with
  | [.int .i64 n] => .leaf (.bool (longX n))
  | _ => .fail
def shortXS : Ab.Spec := fun args => match args with
  | [.int .i64 n] => .leaf (.bool (shortX n))
  | _ => .fail
theorem regXS_ok : Sound Try.prog 37 regXS := by
  intro args out h
  unfold regXS at h
  split at h
  rotate_left
  · cases h
  rename_i u n
  cases h
  refine pcall_fun' (cx := cx37) (fn := Try.f37) (cx0_ok rfl rfl) (by kernel_rfl) (by kernel_rfl) (by kernel_rfl) ?_
  rw [← Tree.fin_run, regX_eq]
  unfold regX
  cases u <;> cases decide (0 ≤ n) <;> rfl
theorem condXS_ok : Sound Try.prog 39 condXS := by
  intro args out h
  unfold condXS at h
  split at h
  rotate_left
  · cases h
  rename_i d
  cases h
  refine pcall_fun' (cx := cx39) (fn := Try.f39) (cx0_ok rfl rfl) (by kernel_rfl) (by kernel_rfl) (by kernel_rfl) ?_
  rw [← Tree.fin_run, condX_eq]
  unfold condX
  cases decide (0 ≤ d) <;> cases decide (d ≤ 9) <;> cases decide (12 ≤ d) <;> rfl
theorem longXS_ok : Sound Try.prog 40 longXS := by
  intro args out h
  unfold longXS at h
  split at h
  rotate_left
  · cases h
  rename_i n
  cases h
  refine pcall_fun' (cx := cx40) (fn := Try.f40) (cx0_ok rfl rfl) (by kernel_rfl) (by kernel_rfl) (by kernel_rfl) ?_
  rw [← Tree.fin_run, longX_eq]
  unfold longX
  cases decide (-2147483648 ≤ n) <;> rfl
theorem shortXS_ok : Sound Try.prog 41 shortXS := by
  intro args out h
  unfold shortXS at h
  split at h
  rotate_left
  · cases h
  rename_i n
  cases h
  refine pcall_fun' (cx := cx41) (fn := Try.f41) (cx0_ok rfl rfl) (by kernel_rfl) (by kernel_rfl) (by kernel_rfl) ?_
  rw [← Tree.fin_run, shortX_eq]
  unfold shortX
  cases decide (-128 ≤ n) <;> rfl
noncomputable def cx38 : Cx := { P := Try.prog, n := 52, tab := [(37, regXS)], mtab := [], refs := [], keeps := [0, 1, 2, 5, 22, 25] }
def placeX (b c d : Int) : Bool := cond (b == 17) (cond (c == 16) (d == 0) false) (cond (regX true b) (cond (c == 4) false (cond (c == 16) (d == 0) (cond (regX true c) (cond (d == 1) true (cond (d == 2) true (cond (d == 4) true (d == 8)))) false))) false)
def placeXT (_nm : List UInt8) (_a b c d _n : Int) : Tree V :=
  (.br (b == 17) (.br (c == 16) (.leaf (.bool (d == 0))) (.leaf (.bool false))) (.br (!regX true b) (.leaf (.bool false)) (.br (c == 4) (.leaf (.bool false)) (.br (c == 16) (.leaf (.bool (d == 0))) (.br (regX true c) (.br (d == 1) (.leaf (.bool true)) (.br (d == 2) (.leaf (.bool true)) (.br (d == 4) (.leaf (.bool true)) (.leaf (.bool (d == 8)))))) (.leaf (.bool false)))))))
theorem placeXT_eq (nm : List UInt8) (a b c d n : Int) : (dfun cx38 Try.f38 [.agg [.str nm, .int .i64 a, .int .i64 b, .int .i64 c, .int .i64 d, .int .i64 n]]).run = (placeXT nm a b c d n).run :=
  (show (dfun cx38 Try.f38 [.agg [.str nm, .int .i64 a, .int .i64 b, .int .i64 c, .int .i64 d, .int .i64 n]]).run = (placeXT nm a b c d n).out by kernel_rfl).trans (Tree.out_run _)
end Go.Amd

namespace Go.Amd
open Go Go.Ab Go.Proofs
theorem placeXT_run (nm : List UInt8) (a b c d n : Int) : (placeXT nm a b c d n).run = some (.bool (placeX b c d)) := by
  unfold placeXT placeX
  simp only [br_run]
  cases b == 17
  · cases regX true b
    · rfl
    · cases c == 4
      · cases c == 16
        · cases regX true c
          · rfl
          · cases d == 1 <;> cases d == 2 <;> cases d == 4 <;> rfl
        · rfl
      · rfl
  · cases c == 16 <;> rfl
def placeXS : Ab.Spec := fun args => match args with
  | [.agg [.str _, .int .i64 _, .int .i64 b, .int .i64 c, .int .i64 d, .int .i64 _]] => .leaf (.bool (placeX b c d))
  | _ => .fail
theorem placeXS_ok : Sound Try.prog 38 placeXS := by
  intro args out h
  unfold placeXS at h
  split at h
  rotate_left
  · cases h
  rename_i nm a b c d n
  cases h
  exact pcall_fun' (cx := cx38) (fn := Try.f38) (cx1_ok (ok1 regXS_ok) (.nil _) rfl rfl) (by kernel_rfl) (by kernel_rfl) (by kernel_rfl) ((placeXT_eq nm a b c d n).trans (placeXT_run nm a b c d n))
def findF (q : List UInt8 → Bool) (f : Int) (x : List UInt8) (op : List Int) (dg rx : Int) : Ab.Spec := fun args => match args with
  | [.str nm] => .req (q nm) (.leaf (.tup [.agg [.str x, .int .i64 f, .sl (.int .u8) op [] .ro, .int .i64 dg, .int .i64 rx], .bool true]))
  | _ => .fail
noncomputable def cxCk (q : List UInt8 → Bool) (f : Int) (x : List UInt8) (op : List Int) (dg rx : Int) : Cx := { P := Try.prog, n := Try.f19.ntmps, tab := [(36, findF q f x op dg rx), (37, regXS), (39, condXS), (40, longXS), (41, shortXS), (38, placeXS)], mtab := [], refs := [], keeps := [0, 1, 2, 3, 4, 5, 6, 7, 8, 16, 52, 79, 93, 94, 97, 98, 100, 110, 120, 127] }
noncomputable abbrev ckE (q : List UInt8 → Bool) (f : Int) (x : List UInt8) (op : List Int) (dg rx : Int) (nm : List UInt8) (a b c d n : Int) : Tree V := dfun (cxCk q f x op dg rx) Try.f19 [.agg [.str nm, .int .i64 a, .int .i64 b, .int .i64 c, .int .i64 d, .int .i64 n]]
def e13 : Option V := some (.int .i64 13)
def e3 : Option V := some (.int .i64 3)
def e0 : Option V := some (.int .i64 0)
def hasA (f : Int) : Bool := !(f == 9 || (f == 13 || (f == 14 || (f == 15 || f == 16))))
def twoX (f : Int) : Bool := f == 1 || (f == 7 || f == 11)
def cndX (f : Int) : Bool := f == 11 || (f == 15 || f == 16)
def noneX (f : Int) : Bool := f == 1 || (f == 7 || (f == 8 || (f == 9 || (f == 11 || f == 12))))
def shrtX (f : Int) : Bool := f == 14 || f == 16
def goodK (f a b c d : Int) (k : Option V) : Option V :=
  cond (regX (hasA f) a) (cond (f == 4) (cond (!placeX b c d) e13 k) (cond (regX (twoX f) b) (cond (c == 0) (cond (cndX f) (cond (!condX d) e13 k) (cond (!(d == 0)) e13 k)) e13) e13)) e13
def tailK (f n : Int) : Option V :=
  cond (noneX f) (cond (n != 0) e13 e0) (cond (f == 2) e0 (cond (f == 10) (cond (decide (0 ≤ n)) (cond (!decide (n ≤ 63)) e3 e0) e3) (cond (shrtX f) (cond (!shortX n) e3 e0) (cond (!longX n) e3 e0))))
def formsX : List Int := [1, 2, 3, 4, 5, 6, 7, 8, 9, 10, 11, 12, 13, 14, 15, 16]
noncomputable def ckO (q : List UInt8 → Bool) (f : Int) (x : List UInt8) (op : List Int) (dg rx : Int) (nm : List UInt8) (a b c d n : Int) : Option V := (ckE q f x op dg rx nm a b c d n).fin
def ckP (q : List UInt8 → Bool) (f : Int) (_ : List UInt8) (_ : List Int) (_ _ : Int) (nm : List UInt8) (a b c d n : Int) : Option V := cond (q nm) (goodK f a b c d (tailK f n)) none
theorem ck_all (q : List UInt8 → Bool) : formsX.map (ckO q) = formsX.map (ckP q) := by kernel_rfl
def okX (f a b c d : Int) : Bool := regX (hasA f) a && (cond (f == 4) (placeX b c d) (regX (twoX f) b && ((c == 0) && cond (cndX f) (condX d) (d == 0))))
def numX (f n : Int) : Int := cond (noneX f) (cond (n != 0) 13 0) (cond (f == 2) 0 (cond (f == 10) (cond (decide (0 ≤ n) && decide (n ≤ 63)) 0 3) (cond (cond (shrtX f) (shortX n) (longX n)) 0 3)))
def chkX (f a b c d n : Int) : Int := cond (okX f a b c d) (numX f n) 13
theorem goodK_eq (f a b c d n : Int) : goodK f a b c d (tailK f n) = some (.int .i64 (chkX f a b c d n)) := by
  unfold goodK tailK chkX okX numX e13 e3 e0
  cases regX (hasA f) a
  · rfl
  cases f == 4
  · cases regX (twoX f) b
    · rfl
    cases c == 0
    · rfl
    cases cndX f
    · cases d == 0
      · rfl
      cases noneX f
      · cases f == 2
        · cases f == 10
          · cases shrtX f
            · cases longX n <;> rfl
            · cases shortX n <;> rfl
          · cases decide (0 ≤ n) <;> cases decide (n ≤ 63) <;> rfl
        · rfl
      · cases n != 0 <;> rfl
    · cases condX d
      · rfl
      cases noneX f
      · cases f == 2
        · cases f == 10
          · cases shrtX f
            · cases longX n <;> rfl
            · cases shortX n <;> rfl
          · cases decide (0 ≤ n) <;> cases decide (n ≤ 63) <;> rfl
        · rfl
      · cases n != 0 <;> rfl
  · cases placeX b c d
    · rfl
    cases noneX f
    · cases f == 2
      · cases f == 10
        · cases shrtX f
          · cases longX n <;> rfl
          · cases shortX n <;> rfl
        · cases decide (0 ≤ n) <;> cases decide (n ≤ 63) <;> rfl
      · rfl
    · cases n != 0 <;> rfl
theorem formX_in : rowsX.all (fun x => formsX.contains x.2.1 && x.2.2.1.isSome) = true := by kernel_rfl
theorem row_op {y : RowX} (hy : y ∈ rowsX) : ∃ op, y.2.2.1 = some op ∧ y.2.1 ∈ formsX := by
  have h := List.all_eq_true.1 formX_in _ hy
  obtain ⟨h1, h2⟩ := Bool.and_eq_true_iff.1 h
  obtain ⟨op, ho⟩ := Option.isSome_iff_exists.1 h2
  exact ⟨op, ho, by simpa using h1⟩
theorem findF_ok {y : RowX} {op : List Int} (ho : y.2.2.1 = some op) : Sound Try.prog 36 (findF (fun nm => isRow nm y) y.2.1 y.1 op y.2.2.2.1 y.2.2.2.2) := by
  intro args out h
  unfold findF at h
  split at h
  rotate_left
  · cases h
  rename_i nm
  refine findAt_ok y _ _ ?_
  rw [← h]
  show (Tree.req _ (.leaf (V.tup [.agg [.str y.1, .int .i64 y.2.1, slO y.2.2.1, .int .i64 y.2.2.2.1, .int .i64 y.2.2.2.2], .bool true]))).run = _
  rw [ho]
  rfl
noncomputable def cxCn : Cx := { P := Try.prog, n := Try.f19.ntmps, tab := [(36, findNo), (37, regXS), (39, condXS), (40, longXS), (41, shortXS), (38, placeXS)], mtab := [], refs := [], keeps := [0, 1, 2, 3, 4, 5, 6, 7, 8, 16, 52, 79, 93, 94, 97, 98, 100, 110, 120, 127] }
theorem ckNo_eq (nm : List UInt8) (a b c d n : Int) : (dfun cxCn Try.f19 [.agg [.str nm, .int .i64 a, .int .i64 b, .int .i64 c, .int .i64 d, .int .i64 n]]).fin = cond (!fokX nm) (some (.int .i64 7)) none := by kernel_rfl
def checkX (i : InsT) : Int := cond (fokX i.1) (chkX (frowX i.1).2.1 i.2.1 i.2.2.1 i.2.2.2.1 i.2.2.2.2.1 i.2.2.2.2.2) 7
def checkS : Ab.Spec := fun args => match args with
  | [.agg [.str nm, .int .i64 a, .int .i64 b, .int .i64 c, .int .i64 d, .int .i64 n]] => .leaf (.int .i64 (checkX (nm, a, b, c, d, n)))
  | _ => .fail
theorem tab_ok {s : Ab.Spec} (h : Sound Try.prog 36 s) : TabOk Try.prog [(36, s), (37, regXS), (39, condXS), (40, longXS), (41, shortXS), (38, placeXS)] :=
  .cons h (.cons regXS_ok (.cons condXS_ok (.cons longXS_ok (.cons shortXS_ok (ok1 placeXS_ok)))))
theorem checkS_ok : Sound Try.prog 19 checkS := by
  intro args out h
  unfold checkS at h
  split at h
  rotate_left
  · cases h
  rename_i nm a b c d n
  cases h
  unfold checkX
  cases hf : fokX nm
  · refine pcall_fun' (cx := cxCn) (fn := Try.f19) (cx1_ok (tab_ok findNo_ok) (.nil _) rfl rfl) (by kernel_rfl) (by kernel_rfl) (by kernel_rfl) ?_
    rw [← Tree.fin_run, ckNo_eq, hf]
    rfl
  · obtain ⟨_, hx, hr⟩ := row_of hf
    obtain ⟨op, ho, hm⟩ := row_op hx
    generalize frowX nm = y at hx hr ho hm
    refine pcall_fun' (cx := cxCk (fun nm => isRow nm y) y.2.1 y.1 op y.2.2.2.1 y.2.2.2.2) (fn := Try.f19) (cx1_ok (tab_ok (findF_ok ho)) (.nil _) rfl rfl) (by kernel_rfl) (by kernel_rfl) (by kernel_rfl) ?_
    rw [← Tree.fin_run]
    have key := of_map_eq (ck_all (fun nm => isRow nm y)) hm
    have k2 := congrFun (congrFun (congrFun (congrFun (congrFun (congrFun (congrFun (congrFun (congrFun (congrFun key y.1) op) y.2.2.2.1) y.2.2.2.2) nm) a) b) c) d) n
    unfold ckO ckP at k2
    refine k2.trans ?_
    rw [goodK_eq]
    show cond (isRow nm y) _ none = _
    rw [hr]
    rfl
end Go.Amd

namespace Go.Amd
open Go Go.Ab Go.Proofs
theorem regX_eq' (u : Bool) (n : Int) : regX u n = regF n u := by
  unfold regX regF
  by_cases h0 : n = 0
  · subst h0
    cases u <;> rfl
  · have e : (n == 0) = false := by simpa using h0
    rw [e]
    cases u
    · rfl
    · by_cases h1 : 0 < n
      · rw [decide_eq_true h1, decide_eq_true (show 0 ≤ n by omega)]
        rfl
      · rw [decide_eq_false h1, decide_eq_false (show ¬ 0 ≤ n by omega)]
        rfl
theorem condX_eq' (d : Int) : condX d = condF d := rfl
theorem placeX_eq' (b c d : Int) : placeX b c d = placeF b c d := by
  unfold placeX placeF baseF
  rw [regX_eq', regX_eq']
  by_cases hb : b = 17
  · subst hb
    by_cases hc : c = 16
    · subst hc
      rfl
    · have e : (c == 16) = false := by simpa using hc
      rw [e]
      rfl
  · have e : (b == 17) = false := by simpa using hb
    have e2 : (b != 17) = true := by simpa using hb
    have er : regF b true = cond (decide (0 ≤ b)) (decide (b ≤ 15)) false := by
      rw [← regX_eq']
      rfl
    have ec : regF c true = cond (decide (0 ≤ c)) (decide (c ≤ 15)) false := by
      rw [← regX_eq']
      rfl
    rw [e, e2, er, ec]
    simp only [cond_false, cond_true]
    by_cases h0 : 0 ≤ b <;> by_cases h1 : b ≤ 15
    all_goals
      first | rw [decide_eq_true h0] | rw [decide_eq_false h0]
      first | rw [decide_eq_true h1] | rw [decide_eq_false h1]
      simp only [cond_false, cond_true]
    · by_cases hc : c = 16
      · subst hc
        rfl
      have e3 : (c == 16) = false := by simpa using hc
      rw [e3]
      unfold scaleF bne
      cases c == 4 <;> cases decide (0 ≤ c) <;> cases decide (c ≤ 15) <;> rfl
    all_goals
      cases c == 16 <;> rfl
theorem longX_eq' (n : Int) : longX n = (!decide (n < -2147483648) && !decide (2147483647 < n)) := by
  unfold longX
  by_cases h0 : -2147483648 ≤ n
  · rw [decide_eq_true h0, decide_eq_false (show ¬ n < -2147483648 by omega)]
    by_cases h1 : n < 2147483648
    · rw [decide_eq_true h1, decide_eq_false (show ¬ 2147483647 < n by omega)]
      rfl
    · rw [decide_eq_false h1, decide_eq_true (show 2147483647 < n by omega)]
      rfl
  · rw [decide_eq_false h0, decide_eq_true (show n < -2147483648 by omega)]
    rfl
theorem shortX_eq' (n : Int) : shortX n = (!decide (n < -128) && !decide (127 < n)) := by
  unfold shortX
  by_cases h0 : -128 ≤ n
  · rw [decide_eq_true h0, decide_eq_false (show ¬ n < -128 by omega)]
    by_cases h1 : n < 128
    · rw [decide_eq_true h1, decide_eq_false (show ¬ 127 < n by omega)]
      rfl
    · rw [decide_eq_false h1, decide_eq_true (show 127 < n by omega)]
      rfl
  · rw [decide_eq_false h0, decide_eq_true (show n < -128 by omega)]
    rfl
def i64r (n : Int) : Bool := decide (-9223372036854775808 ≤ n) && decide (n ≤ 9223372036854775807)
theorem range_eq (n lo hi : Int) : cond (!decide (n < lo) && !decide (hi < n)) (0 : Int) 3 = cond (decide (n < lo)) 3 (cond (decide (hi < n)) 3 0) := by
  cases decide (n < lo) <;> cases decide (hi < n) <;> rfl
def okP (m hA hB cn : Bool) (a b c d : Int) : Bool := cond m (cond (regF a hA) (placeF b c d) false) (cond (regF a hA) (cond (regF b hB) (cond (c == 0) (cond (d == 0) true (cond cn (condF d) false)) false) false) false)
theorem okX_eq (f a b c d : Int) : okX f a b c d = okP (f == 4) (hasA f) (twoX f) (cndX f) a b c d := by
  unfold okX okP
  rw [regX_eq', regX_eq', placeX_eq', condX_eq']
  by_cases hd : d = 0
  · subst hd
    cases f == 4 <;> cases regF a (hasA f) <;> cases regF b (twoX f) <;> cases c == 0 <;> cases cndX f <;> rfl
  · have e : (d == 0) = false := by simpa using hd
    rw [e]
    cases f == 4 <;> cases regF a (hasA f) <;> cases regF b (twoX f) <;> cases c == 0 <;> cases cndX f <;> rfl
theorem okF_conv {f : Int} (hf : f ∈ formsX) (nm : List UInt8) (op : Option (List Int)) (dg rx a b c d : Int) : okF (conv (nm, f, op, dg, rx)) a b c d = okX f a b c d := by
  rw [okX_eq]
  simp only [formsX, List.mem_cons, List.not_mem_nil, or_false] at hf
  rcases hf with rfl | rfl | rfl | rfl | rfl | rfl | rfl | rfl | rfl | rfl | rfl | rfl | rfl | rfl | rfl | rfl <;> rfl
theorem chk_form : ∀ f ∈ formsX, ∀ (nm : List UInt8) (op : Option (List Int)) (dg rx : Int) (i : InsT), i64r i.2.2.2.2.2 = true → chkX f i.2.1 i.2.2.1 i.2.2.2.1 i.2.2.2.2.1 i.2.2.2.2.2 = faultyF (conv (nm, f, op, dg, rx)) i := by
  intro f hf nm op dg rx i hn
  unfold chkX
  have h63 : (decide (0 ≤ i.2.2.2.2.2) && decide (i.2.2.2.2.2 ≤ 63)) = (!decide (i.2.2.2.2.2 < 0) && !decide (63 < i.2.2.2.2.2)) := by
    by_cases h0 : 0 ≤ i.2.2.2.2.2
    · rw [decide_eq_true h0, decide_eq_false (show ¬ i.2.2.2.2.2 < 0 by omega)]
      by_cases h1 : i.2.2.2.2.2 ≤ 63
      · rw [decide_eq_true h1, decide_eq_false (show ¬ 63 < i.2.2.2.2.2 by omega)]
        rfl
      · rw [decide_eq_false h1, decide_eq_true (show 63 < i.2.2.2.2.2 by omega)]
        rfl
    · rw [decide_eq_false h0, decide_eq_true (show i.2.2.2.2.2 < 0 by omega)]
      rfl
  have hw : cond (decide (i.2.2.2.2.2 < -9223372036854775808)) (3 : Int) (cond (decide (9223372036854775807 < i.2.2.2.2.2)) 3 0) = 0 := by
    unfold i64r at hn
    simp only [Bool.and_eq_true, decide_eq_true_eq] at hn
    rw [decide_eq_false (by omega), decide_eq_false (by omega)]
    rfl
  unfold numX
  rw [longX_eq', shortX_eq', h63]
  unfold faultyF tailF
  rw [okF_conv hf]
  generalize okX f i.2.1 i.2.2.1 i.2.2.2.1 i.2.2.2.2.1 = o
  cases o
  · rfl
  simp only [formsX, List.mem_cons, List.not_mem_nil, or_false] at hf
  rcases hf with rfl | rfl | rfl | rfl | rfl | rfl | rfl | rfl | rfl | rfl | rfl | rfl | rfl | rfl | rfl | rfl
  all_goals
    first
      | rfl
      | exact hw.symm
      | exact range_eq _ _ _
theorem check_eq {i : InsT} (hn : i64r i.2.2.2.2.2 = true) : checkX i = encE i := by
  unfold checkX encE
  rw [fok_eq]
  cases hf : fokX i.1
  · rfl
  · obtain ⟨h1, h2⟩ := frow_eq hf
    obtain ⟨op, ho, hm⟩ := row_op h2
    rw [h1]
    exact chk_form _ hm (frowX i.1).1 (frowX i.1).2.2.1 (frowX i.1).2.2.2.1 (frowX i.1).2.2.2.2 i hn
end Go.Amd

namespace Go.Amd
open Go Go.Ab Go.Proofs
noncomputable def cx42 : Cx := { P := Try.prog, n := 20, tab := [], mtab := [], refs := [], keeps := [0, 1, 4, 5, 6, 9], fuel := 9 }
noncomputable def cx43 : Cx := { P := Try.prog, n := 15, tab := [], mtab := [], refs := [], keeps := [0, 1, 4] }
def sh8 (n : Int) : Int := Int.fdiv n (2 ^ 8)
def u8 (n : Int) : Int := IntKind.wrap .u8 n
def fx4 (n : Int) : List Int := [u8 n, u8 (sh8 n), u8 (sh8 (sh8 n)), u8 (sh8 (sh8 (sh8 n)))]
def fx8 (n : Int) : List Int := fx4 n ++ fx4 (sh8 (sh8 (sh8 (sh8 n))))
theorem fix4_eq (n : Int) : (dfun cx42 Try.f42 [.int .u64 n, .int .i64 4]).fin = some (.sl (.int .u8) (fx4 n) [] .ro) := by kernel_rfl
theorem fix8_eq (n : Int) : (dfun cx42 Try.f42 [.int .u64 n, .int .i64 8]).fin = some (.sl (.int .u8) (fx8 n) [] .ro) := by kernel_rfl
def fixS : Ab.Spec := fun args => match args with
  | [.int .u64 n, .int .i64 4] => .leaf (.sl (.int .u8) (fx4 n) [] .ro)
  | [.int .u64 n, .int .i64 8] => .leaf (.sl (.int .u8) (fx8 n) [] .ro)
  | _ => .fail
theorem fixS_ok : Sound Try.prog 42 fixS := by
  intro args out h
  unfold fixS at h
  split at h
  · rename_i n
    cases h
    refine pcall_fun' (cx := cx42) (fn := Try.f42) (cx0_ok rfl rfl) (by kernel_rfl) (by kernel_rfl) (by kernel_rfl) ?_
    rw [← Tree.fin_run]
    exact fix4_eq n
  · rename_i n
    cases h
    refine pcall_fun' (cx := cx42) (fn := Try.f42) (cx0_ok rfl rfl) (by kernel_rfl) (by kernel_rfl) (by kernel_rfl) ?_
    rw [← Tree.fin_run]
    exact fix8_eq n
  · cases h
def sl8 (x : Int) (k : Nat) : Int := IntKind.wrap .u8 (x * 2 ^ k)
def orB (a b : Int) : Int := IntKind.wrap .u8 (((BitVec.ofInt 8 a ||| BitVec.ofInt 8 b).toNat : Nat) : Int)
def dirB (r m : Int) : Int := orB (orB 192 (sl8 (u8 (Int.tmod r 8)) 3)) (u8 (Int.tmod m 8))
theorem dir_eq (r m : Int) : (dfun cx43 Try.f43 [.int .i64 r, .int .i64 m]).fin = some (.sl (.int .u8) [dirB r m] [] .full) := by kernel_rfl
def dirS : Ab.Spec := fun args => match args with
  | [.int .i64 r, .int .i64 m] => .leaf (.sl (.int .u8) [dirB r m] [] .full)
  | _ => .fail
theorem dirS_ok : Sound Try.prog 43 dirS := by
  intro args out h
  unfold dirS at h
  split at h
  rotate_left
  · cases h
  rename_i r m
  cases h
  refine pcall_fun' (cx := cx43) (fn := Try.f43) (cx0_ok rfl rfl) (by kernel_rfl) (by kernel_rfl) (by kernel_rfl) ?_
  rw [← Tree.fin_run]
  exact dir_eq r m
section
variable (q : List UInt8 → Bool) (f : Int) (x : List UInt8) (op : List Int) (dg rx : Int)
noncomputable def bdB : Tabs := { tab := [(36, findF q f x op dg rx), (42, fixS), (43, dirS), (41, shortXS)] }
end
section
variable (q : List UInt8 → Bool) (f : Int) (x : List UInt8) (op : List Int) (dg rx : Int)
noncomputable def bdT_ps : List Fi := []
theorem bdT_ps_ok : FisOk Try.prog bdT_ps := trivial
noncomputable def bdT_ms : List Fi := [⟨44, Try.f44, [0, 1, 3, 4, 5, 6, 7, 8, 9, 10, 17, 44, 52, 64, 80, 94], [], 5, []⟩]
theorem bdT_ms_ok : FisOk Try.prog bdT_ms := ⟨⟨by kernel_rfl, by kernel_rfl⟩, trivial⟩
noncomputable def bdT (d : Nat) : Tabs := deep Try.prog (bdB q f x op dg rx) bdT_ps bdT_ms d
noncomputable def cxBd : Cx := { P := Try.prog, n := Try.f20.ntmps, tab := (bdT q f x op dg rx 1).tab, mtab := (bdT q f x op dg rx 1).mtab, refs := [17], keeps := [0, 1, 2, 3, 5, 6, 7, 8, 25, 40, 41, 63, 103, 131, 155, 174, 188, 214, 233, 244, 269, 294, 344] }
end
noncomputable abbrev Bbd : Code := bodyOf Try.f20
noncomputable def bdOps : Array Oper := regOps (c1 (tailN 1 Bbd))
def insOb (nm : List UInt8) (a b c d n : Int) : O := .cells [.str nm, .int .i64 a, .int .i64 b, .int .i64 c, .int .i64 d, .int .i64 n] 29
def rowOb (f : Int) (x : List UInt8) (op : List Int) (dg rx : Int) : O := .cells [.str x, .int .i64 f, .sl (.int .u8) op [] .ro, .int .i64 dg, .int .i64 rx] 78
end Go.Amd

namespace Go.Ab
open Go
def rnd (n : Nat) (κ ks : List Nat) (s : St) : Tree St := match dropS n κ s with
  | some (e, t, H) => .leaf (e, keep ks t, H)
  | none => .fail
def RoundK {α : Type} (st : α → T × List O) (μ : α → Nat) (ks : List Nat) (Q : AEx → T → List O → Prop) (i : α) (s : St) : Prop :=
  match s.1 with
  | .normal => ∃ j, μ j < μ i ∧ TLe s.2.1 (st j).1 ∧ s.2.2 = (st j).2
  | e => ∀ t, s.2.1 = keep ks t → Q e t s.2.2
section
variable {P : Program} {n : Nat} {cx : Cx} {Q : AEx → T → List O → Prop}
theorem rnd_spec {m : Nat} {κ ks : List Nat} {s : St} {R : St → Prop} (h : (rnd m κ ks s).all R) : ∃ s', dropS m κ s = some s' ∧ R (s'.1, keep ks s'.2.1, s'.2.2) := by
  unfold rnd at h
  split at h
  · rename_i e t H hd
    exact ⟨_, hd, h⟩
  · exact h.elim
theorem AWP_roundsK {α : Type} (hP : cx.P = P) (hn : cx.n = n) (hT : CxOk cx) (st : α → T × List O) (μ : α → Nat) (κ ks : List Nat) {body : Code}
    (h : ∀ i, ((dcode cx body (st i).1 (st i).2).bind (rnd (st i).2.length κ ks)).all (RoundK st μ ks Q i)) (i : α) : AWP P n (.loop body) Q (st i).1 (st i).2 := by
  refine AWP_rounds hP hn hT st μ (fun i => ?_) i
  refine Tree.all_mono (Tree.all_bind (h i)) fun s hs => ?_
  obtain ⟨s', h1, h2⟩ := rnd_spec hs
  refine ⟨κ, s', h1, ?_⟩
  obtain ⟨e, t, H⟩ := s'
  unfold RoundK at h2
  cases e with
  | normal =>
    obtain ⟨j, a, b, c⟩ := h2
    refine ⟨j, a, fun d => ?_, c⟩
    rcases b d with g | g
    · rcases TLe.keep ks t d with k | k
      · exact .inl (g.trans k)
      · rw [k] at g; exact .inr g
    · exact .inr g
  | exit id => exact h2 t rfl
  | ret => exact h2 t rfl
  | panic v => exact h2 t rfl
theorem get_told {ks : List Nat} {t s : T} (h : s = keep ks t) (d : Nat) : get d s = get d t ∨ get d s = .any := by
  subst h
  exact TLe.keep ks t d
end
end Go.Ab
