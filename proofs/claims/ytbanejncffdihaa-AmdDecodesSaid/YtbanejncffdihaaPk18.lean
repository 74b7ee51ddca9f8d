/-
  The document's numbers of amd are the program's. Conditions: none.
-/
import Derived.Test.YtbanejncffdihaaPk17
import Derived.Test.YtbanejncffdihaaPk13
import Derived.Test.YtbanejncffdihaaPk15
import Derived.Test.YtbanejncffdihaaPk10
set_option linter.unusedVariables false
set_option linter.unusedSimpArgs false
namespace Go.Amd
open Go Go.Ab Go.Proofs
theorem shO_eq {n b : Int} (n0 : 0 ≤ n) (n1 : n < 2 ^ 56) (hb : IsB b) : shO n b = n * 256 + b := by
  obtain ⟨b0, b1⟩ := hb
  obtain ⟨N, rfl⟩ := Int.eq_ofNat_of_zero_le n0
  obtain ⟨B, rfl⟩ := Int.eq_ofNat_of_zero_le b0
  have hN : N < 2 ^ 56 := by exact_mod_cast n1
  have hB : B < 2 ^ 8 := by omega
  have e1 : w64 ((N : Int) * 2 ^ 8) = ((N <<< 8 : Nat) : Int) := by
    unfold w64
    rw [Go.Wd.wrap_u64, Nat.shiftLeft_eq]
    omega
  have e2 : w64 (B : Int) = (B : Int) := by
    unfold w64
    rw [Go.Wd.wrap_u64]
    omega
  unfold shO
  rw [e1, e2]
  show Go.Wd.or64 _ _ = _
  rw [Go.Wd.or64_cast (by rw [Nat.shiftLeft_eq]; omega) (by omega), ← Nat.shiftLeft_add_eq_or_of_lt hB, Nat.shiftLeft_eq]
  omega
theorem n1_num {l : List Int} {k : Int} (ha : IsB (atX l k)) : n1X l k = num1V (atX l k) := by
  unfold n1X
  rw [num1_eq ha, shO_eq (by decide) (by decide) ha]
  obtain ⟨a0, a1⟩ := ha
  have e1 : w64 (1 * 2 ^ 7) = 128 := by kernel_rfl
  have e2 : wi (1 * 2 ^ 8) = 256 := by kernel_rfl
  unfold sgX
  rw [e1, e2]
  by_cases h : 128 ≤ 0 * 256 + atX l k
  · rw [decide_eq_true h, cond_true, wi_eq, wi_eq]
    omega
  · rw [decide_eq_false h, cond_false, wi_eq]
    omega
theorem n4_num {l : List Int} {k : Int} (ha : IsB (atX l k)) (hb : IsB (atX l (k + 1))) (hc : IsB (atX l (k + 2))) (hd : IsB (atX l (k + 3))) : n4X l k = num4V (atX l k) (atX l (k + 1)) (atX l (k + 2)) (atX l (k + 3)) := by
  unfold n4X
  rw [num4_eq ha hb hc hd]
  generalize atX l k = a at *
  generalize atX l (k + 1) = b at *
  generalize atX l (k + 2) = c at *
  generalize atX l (k + 3) = d at *
  have ha' := ha
  have hb' := hb
  have hc' := hc
  have hd' := hd
  obtain ⟨a0, a1⟩ := ha'
  obtain ⟨b0, b1⟩ := hb'
  obtain ⟨c0, c1⟩ := hc'
  obtain ⟨d0, d1⟩ := hd'
  rw [shO_eq (by decide) (by decide) hd, shO_eq (by omega) (by omega) hc, shO_eq (by omega) (by omega) hb, shO_eq (by omega) (by omega) ha]
  have e1 : w64 (1 * 2 ^ 31) = 2147483648 := by kernel_rfl
  have e2 : wi (1 * 2 ^ 32) = 4294967296 := by kernel_rfl
  unfold sgX
  rw [e1, e2]
  by_cases h : 2147483648 ≤ (((0 * 256 + d) * 256 + c) * 256 + b) * 256 + a
  · rw [decide_eq_true h, cond_true, wi_eq, wi_eq]
    omega
  · rw [decide_eq_false h, cond_false, wi_eq]
    omega
theorem n8_num {l : List Int} {k : Int} (ha : IsB (atX l k)) (hb : IsB (atX l (k + 1))) (hc : IsB (atX l (k + 2))) (hd : IsB (atX l (k + 3))) (he : IsB (atX l (k + 4))) (hf : IsB (atX l (k + 5))) (hg : IsB (atX l (k + 6))) (hh : IsB (atX l (k + 7))) :
    n8X l k = num8V (atX l k) (atX l (k + 1)) (atX l (k + 2)) (atX l (k + 3)) (atX l (k + 4)) (atX l (k + 5)) (atX l (k + 6)) (atX l (k + 7)) := by
  unfold n8X
  rw [num8_eq ha hb hc hd he hf hg hh]
  generalize atX l k = a at *
  generalize atX l (k + 1) = b at *
  generalize atX l (k + 2) = c at *
  generalize atX l (k + 3) = d at *
  generalize atX l (k + 4) = e at *
  generalize atX l (k + 5) = f at *
  generalize atX l (k + 6) = g at *
  generalize atX l (k + 7) = h at *
  have := ha.1; have := ha.2; have := hb.1; have := hb.2; have := hc.1; have := hc.2; have := hd.1; have := hd.2
  have := he.1; have := he.2; have := hf.1; have := hf.2; have := hg.1; have := hg.2; have := hh.1; have := hh.2
  have big : ((((((0 * 256 + h) * 256 + g) * 256 + f) * 256 + e) * 256 + d) * 256 + c) * 256 + b < 2 ^ 56 := by omega
  rw [shO_eq (by decide) (by decide) hh, shO_eq (by omega) (by omega) hg, shO_eq (by omega) (by omega) hf, shO_eq (by omega) (by omega) he, shO_eq (by omega) (by omega) hd, shO_eq (by omega) (by omega) hc, shO_eq (by omega) (by omega) hb, shO_eq (by omega) (by omega) ha, wi_eq]
  omega
end Go.Amd

namespace Go.Amd
open Go Go.Ab Go.Proofs
theorem at_drop {l t : List Int} {k : Int} (k0 : 0 ≤ k) (h : l.drop k.toNat = t) (j : Nat) : atX l (k + j) = t.getD j 0 := by
  subst h
  unfold atX
  rw [show (k + (j : Int)).toNat = k.toNat + j by omega]
  simp only [List.getD, List.getElem?_drop]
theorem at_d0 {l t : List Int} {k c : Int} (k0 : 0 ≤ k) (h : l.drop k.toNat = c :: t) : atX l k = c ∧ l.drop (k + 1).toNat = t := by
  refine ⟨?_, ?_⟩
  · have := at_drop k0 h 0
    simpa using this
  · rw [show (k + 1).toNat = k.toNat + 1 by omega, ← List.drop_drop, h]
    rfl
theorem n1_at {l t : List Int} {k c : Int} (hl : AllB l) (k0 : 0 ≤ k) (h : l.drop k.toNat = c :: t) : n1X l k = num1V c := by
  rw [n1_num (at_nn hl k), (at_d0 k0 h).1]
theorem n4_at {l t : List Int} {k a b c d : Int} (hl : AllB l) (k0 : 0 ≤ k) (h : l.drop k.toNat = a :: b :: c :: d :: t) : n4X l k = num4V a b c d := by
  rw [n4_num (at_nn hl _) (at_nn hl _) (at_nn hl _) (at_nn hl _), (at_d0 k0 h).1]
  have e := at_drop k0 h
  rw [show k + 1 = k + ((1 : Nat) : Int) from rfl, show k + 2 = k + ((2 : Nat) : Int) from rfl, show k + 3 = k + ((3 : Nat) : Int) from rfl, e 1, e 2, e 3]
  rfl
theorem n8_at {l t : List Int} {k a b c d e f g i : Int} (hl : AllB l) (k0 : 0 ≤ k) (h : l.drop k.toNat = a :: b :: c :: d :: e :: f :: g :: i :: t) : n8X l k = num8V a b c d e f g i := by
  rw [n8_num (at_nn hl _) (at_nn hl _) (at_nn hl _) (at_nn hl _) (at_nn hl _) (at_nn hl _) (at_nn hl _) (at_nn hl _), (at_d0 k0 h).1]
  have e := at_drop k0 h
  rw [show k + 1 = k + ((1 : Nat) : Int) from rfl, show k + 2 = k + ((2 : Nat) : Int) from rfl, show k + 3 = k + ((3 : Nat) : Int) from rfl, show k + 4 = k + ((4 : Nat) : Int) from rfl, show k + 5 = k + ((5 : Nat) : Int) from rfl, show k + 6 = k + ((6 : Nat) : Int) from rfl, show k + 7 = k + ((7 : Nat) : Int) from rfl, e 1, e 2, e 3, e 4, e 5, e 6, e 7]
  rfl
theorem nxQ_ok {t : List Int} {k : Int} {K : Int → List Int → Int → RestR} {p : InsT × Int} (h : nxQ t k K = .ok p) : ∃ c u, t = c :: u ∧ K c u (k + 1) = .ok p := by
  cases t with
  | nil => cases h
  | cons c u => exact ⟨c, u, rfl, h⟩
theorem num1_ok {t : List Int} {k : Int} {K : Int → List Int → Int → RestR} {p : InsT × Int} (h : num1Q t k K = .ok p) : ∃ c u, t = c :: u ∧ K (num1V c) u (k + 1) = .ok p := nxQ_ok h
theorem num4_ok {t : List Int} {k : Int} {K : Int → List Int → Int → RestR} {p : InsT × Int} (h : num4Q t k K = .ok p) : ∃ a b c d u j, t = a :: b :: c :: d :: u ∧ K (num4V a b c d) u j = .ok p := by
  unfold num4Q at h
  obtain ⟨a, t1, e1, h1⟩ := nxQ_ok h
  obtain ⟨b, t2, e2, h2⟩ := nxQ_ok h1
  obtain ⟨c, t3, e3, h3⟩ := nxQ_ok h2
  obtain ⟨d, t4, e4, h4⟩ := nxQ_ok h3
  subst e4 e3 e2
  exact ⟨a, b, c, d, t4, _, e1, h4⟩
theorem fin_ok {x : RowT} {i j : InsT} {k n : Int} (h : finQ x i k = .ok (j, n)) : j = i := by
  unfold finQ at h
  cases hf : (!(faultyF x i == 0))
  · rw [hf] at h; cases h; rfl
  · rw [hf] at h; cases h
theorem must_ok {b : Bool} {k : Int} {r : RestR} {p : InsT × Int} (h : mustQ b k r = .ok p) : r = .ok p := by
  unfold mustQ at h
  cases b
  · cases h
  · exact h
end Go.Amd

namespace Go.Amd
open Go Go.Ab Go.Proofs
noncomputable def cx75 : Cx := { P := Try.prog, n := 15, tab := [(52, atS)], mtab := [], refs := [], keeps := [0, 2, 3, 6, 11] }
def roT (l _sp : List Int) (_fl : Fl) : Tree V :=
  (.br (atX l 0 == 100) (.br (Int.fdiv (atX l 1) (2 ^ 4) == 4) (.leaf (.int .u8 (atX l 1))) (.leaf (.int .u8 0))) (.br (Int.fdiv (atX l 0) (2 ^ 4) == 4) (.leaf (.int .u8 (atX l 0))) (.leaf (.int .u8 0))))
theorem roT_eq (l sp : List Int) (fl : Fl) : (dfun cx75 Try.f75 [.sl (.int .u8) l sp fl]).run = (roT l sp fl).run :=
  (show (dfun cx75 Try.f75 [.sl (.int .u8) l sp fl]).run = (roT l sp fl).out by kernel_rfl).trans (Tree.out_run _)
def rexOX (l : List Int) : Int := cond (atX l 0 == 100) (cond (Int.fdiv (atX l 1) (2 ^ 4) == 4) (atX l 1) 0) (cond (Int.fdiv (atX l 0) (2 ^ 4) == 4) (atX l 0) 0)
def rexOS : Ab.Spec := fun args => match args with
  | [.sl (.int .u8) l _ _] => .leaf (.int .u8 (rexOX l))
  | _ => .fail
noncomputable def cx74 : Cx := { P := Try.prog, n := 109, tab := [(75, rexOS)], mtab := [], refs := [], keeps := [0, 1, 4, 5, 6, 7, 8, 9, 10, 11, 12, 26, 28, 31, 34, 52, 68, 102] }
end Go.Amd

namespace Go.Amd
open Go Go.Ab Go.Proofs
def opbC (x : RowT) (op : List Int) (c : Int) : Bool :=
  !(opensF x op) || (cond (formR x == 1 || formR x == 2) (restN x op == wi (and8 c 7)) true && (cond (condR x) (restN x op == wi (and8 c 15)) true && (cond (formR x == 6) ((op.getD 0 0 == 131) == !(c == 129)) true && (op.length == cond (decide (255 < x.2.2.1)) 2 1))))
theorem opbC_all : rowsL.all (fun x => all2 16 16 fun a b => opbC x [16 * a + b] (16 * a + b) && opbC x [15, 16 * a + b] (16 * a + b)) = true := by kernel_rfl
theorem opbC_of {x : RowT} (hx : x ∈ rowsL) {c : Int} (hc : IsB c) : opbC x [c] c = true ∧ opbC x [15, c] c = true := by
  have h := all2_of (List.all_eq_true.1 opbC_all x hx) (a := c / 16) (b := c % 16) (by have := hc.1; omega) (by have := hc.2; omega) (by omega) (by omega)
  rw [show 16 * (c / 16) + c % 16 = c by omega] at h
  exact Bool.and_eq_true_iff.1 h
end Go.Amd

namespace Go.Amd
open Go Go.Ab Go.Proofs
theorem num8_ok {t : List Int} {k : Int} {K : Int → List Int → Int → RestR} {p : InsT × Int} (h : num8Q t k K = .ok p) : ∃ a b c d e f g i u j, t = a :: b :: c :: d :: e :: f :: g :: i :: u ∧ K (num8V a b c d e f g i) u j = .ok p := by
  unfold num8Q at h
  obtain ⟨a, t1, e1, h1⟩ := nxQ_ok h
  obtain ⟨b, t2, e2, h2⟩ := nxQ_ok h1
  obtain ⟨c, t3, e3, h3⟩ := nxQ_ok h2
  obtain ⟨d, t4, e4, h4⟩ := nxQ_ok h3
  obtain ⟨e, t5, e5, h5⟩ := nxQ_ok h4
  obtain ⟨f, t6, e6, h6⟩ := nxQ_ok h5
  obtain ⟨g, t7, e7, h7⟩ := nxQ_ok h6
  obtain ⟨i, t8, e8, h8⟩ := nxQ_ok h7
  subst e8 e7 e6 e5 e4 e3 e2
  exact ⟨a, b, c, d, e, f, g, i, t8, _, e1, h8⟩
abbrev Bits (r R : Int) : Prop := hiX r 2 = bitF R 4 ∧ hiX r 1 = bitF R 2 ∧ hi0X r = bitF R 1
section
variable {x : RowT} {l op t : List Int} {r R k c c0 n : Int} {i : InsT} (hl : AllB l) (k0 : 0 ≤ k) (hb : Bits r R) (hc0 : atX l (k - 1) = c0) (hp : l.drop k.toNat = t) (hm : l.drop k.toNat = c :: t)
include hb k0 hm in
theorem rm_low : rmX l r k = lowF c R := by
  unfold rmX lowF
  rw [(at_d0 k0 hm).1, hb.2.2]
include hb k0 hm in
theorem rg_mid : rgX l r k = midF c R := by
  unfold rgX midF
  rw [(at_d0 k0 hm).1, hb.1]
include hb hc0 in
theorem op_rest (hr : restN x op = wi (and8 c0 7)) : opX l r k = wi (restN x op + bitF R 1) := by
  unfold opX
  rw [hc0, hb.2.2, hr]
include hc0 in
theorem cd_rest (hr : restN x op = wi (and8 c0 15)) : cdX l k = restN x op := by
  unfold cdX
  rw [hc0, hr]
theorem rest_d {cn : Bool} {f : Int} (hf : formR x = f) (hn : condR x = cn) {t' : List Int} {k' c' : Int} (h : restQ R x op c' t' k' = .ok (i, n)) : formQ f R x op c' t' k' (cond cn (restN x op) 0) = .ok (i, n) := by
  rw [rest_e, hf, hn] at h
  exact h
include hb k0 hm in
theorem rb_1 (hf : formR x = 7) (hn : condR x = false) (h : restQ R x op c t (k + 1) = .ok (i, n)) : i = insI x.1 (guessN 1 l r k) := by
  rw [fin_ok (show finQ x (x.1, lowF c R, midF c R, 0, 0, 0) (k + 1) = .ok (i, n) from rest_d hf hn h)]
  show _ = (x.1, rmX l r k, rgX l r k, 0, 0, 0)
  rw [rm_low k0 hb hm, rg_mid k0 hb hm]
include hb k0 hm in
theorem rb_7 (hf : formR x = 8) (hn : condR x = false) (h : restQ R x op c t (k + 1) = .ok (i, n)) : i = insI x.1 (guessN 7 l r k) := by
  rw [fin_ok (show finQ x (x.1, midF c R, lowF c R, 0, 0, 0) (k + 1) = .ok (i, n) from rest_d hf hn h)]
  show _ = (x.1, rgX l r k, rmX l r k, 0, 0, 0)
  rw [rm_low k0 hb hm, rg_mid k0 hb hm]
include hb k0 hm hc0 in
theorem rb_11 (hf : formR x = 8) (hn : condR x = true) (hr : restN x op = wi (and8 c0 15)) (h : restQ R x op c t (k + 1) = .ok (i, n)) : i = insI x.1 (guessN 11 l r k) := by
  rw [fin_ok (show finQ x (x.1, midF c R, lowF c R, 0, restN x op, 0) (k + 1) = .ok (i, n) from rest_d hf hn h)]
  show _ = (x.1, rgX l r k, rmX l r k, 0, cdX l k, 0)
  rw [rm_low k0 hb hm, rg_mid k0 hb hm, cd_rest hc0 hr]
include hb k0 hm in
theorem rb_8 (hf : formR x = 3) (hn : condR x = false) (h : restQ R x op c t (k + 1) = .ok (i, n)) : i = insI x.1 (guessN 8 l r k) := by
  rw [fin_ok (show finQ x (x.1, lowF c R, 0, 0, 0, 0) (k + 1) = .ok (i, n) from rest_d hf hn h)]
  show _ = (x.1, rmX l r k, 0, 0, 0, 0)
  rw [rm_low k0 hb hm]
include hl hb k0 hm in
theorem rb_3 (hf : formR x = 4) (hn : condR x = false) (h : restQ R x op c t (k + 1) = .ok (i, n)) : i = insI x.1 (guessN 3 l r k) := by
  obtain ⟨a, b, c', d, u, j, rfl, h'⟩ := num4_ok (show num4Q t (k + 1) (fun n _ k => finQ x (x.1, lowF c R, 0, 0, 0, n) k) = .ok (i, n) from rest_d hf hn h)
  rw [fin_ok h']
  show _ = (x.1, rmX l r k, 0, 0, 0, n4X l (k + 1))
  rw [rm_low k0 hb hm, n4_at hl (by omega) (at_d0 k0 hm).2]
include hl hb k0 hm in
theorem rb_10 (hf : formR x = 5) (hn : condR x = false) (h : restQ R x op c t (k + 1) = .ok (i, n)) : i = insI x.1 (guessN 10 l r k) := by
  obtain ⟨a, u, rfl, h'⟩ := num1_ok (show num1Q t (k + 1) (fun n _ k => finQ x (x.1, lowF c R, 0, 0, 0, n) k) = .ok (i, n) from rest_d hf hn h)
  rw [fin_ok h']
  show _ = (x.1, rmX l r k, 0, 0, 0, n1X l (k + 1))
  rw [rm_low k0 hb hm, n1_at hl (by omega) (at_d0 k0 hm).2]
theorem rb_9 (hf : formR x = 0) (hn : condR x = false) (h : restQ R x op 0 t k = .ok (i, n)) : i = insI x.1 (guessN 9 l r k) := by
  rw [fin_ok (show finQ x (x.1, 0, 0, 0, 0, 0) k = .ok (i, n) from rest_d hf hn h)]
  rfl
include hb hc0 in
theorem rb_12 (hf : formR x = 1) (hn : condR x = false) (hr : restN x op = wi (and8 c0 7)) (h : restQ R x op 0 t k = .ok (i, n)) : i = insI x.1 (guessN 12 l r k) := by
  rw [fin_ok (show finQ x (x.1, wi (restN x op + bitF R 1), 0, 0, 0, 0) k = .ok (i, n) from rest_d hf hn h)]
  show _ = (x.1, opX l r k, 0, 0, 0, 0)
  rw [op_rest hb hc0 hr]
include hl k0 hb hc0 hp in
theorem rb_2 (hf : formR x = 2) (hn : condR x = false) (hr : restN x op = wi (and8 c0 7)) (h : restQ R x op 0 t k = .ok (i, n)) : i = insI x.1 (guessN 2 l r k) := by
  obtain ⟨a, b, c, d, e, f, g, q, u, j, rfl, h'⟩ := num8_ok (show num8Q t k (fun n _ k => finQ x (x.1, wi (restN x op + bitF R 1), 0, 0, 0, n) k) = .ok (i, n) from rest_d hf hn h)
  rw [fin_ok h']
  show _ = (x.1, opX l r k, 0, 0, 0, n8X l k)
  rw [op_rest hb hc0 hr, n8_at hl k0 hp]
include hl k0 hp in
theorem rb_13 (hf : formR x = 11) (hn : condR x = false) (h : restQ R x op 0 t k = .ok (i, n)) : i = insI x.1 (guessN 13 l r k) := by
  obtain ⟨a, b, c, d, u, j, rfl, h'⟩ := num4_ok (show num4Q t k (fun n _ k => finQ x (x.1, 0, 0, 0, 0, n) k) = .ok (i, n) from rest_d hf hn h)
  rw [fin_ok h']
  show _ = (x.1, 0, 0, 0, 0, n4X l k)
  rw [n4_at hl k0 hp]
include hl k0 hp in
theorem rb_14 (hf : formR x = 12) (hn : condR x = false) (h : restQ R x op 0 t k = .ok (i, n)) : i = insI x.1 (guessN 14 l r k) := by
  obtain ⟨a, u, rfl, h'⟩ := num1_ok (show num1Q t k (fun n _ k => finQ x (x.1, 0, 0, 0, 0, n) k) = .ok (i, n) from rest_d hf hn h)
  rw [fin_ok h']
  show _ = (x.1, 0, 0, 0, 0, n1X l k)
  rw [n1_at hl k0 hp]
include hl k0 hp hc0 in
theorem rb_15 (hf : formR x = 11) (hn : condR x = true) (hr : restN x op = wi (and8 c0 15)) (h : restQ R x op 0 t k = .ok (i, n)) : i = insI x.1 (guessN 15 l r k) := by
  obtain ⟨a, b, c, d, u, j, rfl, h'⟩ := num4_ok (show num4Q t k (fun n _ k => finQ x (x.1, 0, 0, 0, restN x op, n) k) = .ok (i, n) from rest_d hf hn h)
  rw [fin_ok h']
  show _ = (x.1, 0, 0, 0, cdX l k, n4X l k)
  rw [n4_at hl k0 hp, cd_rest hc0 hr]
include hl k0 hp hc0 in
theorem rb_16 (hf : formR x = 12) (hn : condR x = true) (hr : restN x op = wi (and8 c0 15)) (h : restQ R x op 0 t k = .ok (i, n)) : i = insI x.1 (guessN 16 l r k) := by
  obtain ⟨a, u, rfl, h'⟩ := num1_ok (show num1Q t k (fun n _ k => finQ x (x.1, 0, 0, 0, restN x op, n) k) = .ok (i, n) from rest_d hf hn h)
  rw [fin_ok h']
  show _ = (x.1, 0, 0, 0, cdX l k, n1X l k)
  rw [n1_at hl k0 hp, cd_rest hc0 hr]
include hl hb k0 hm in
theorem rb_5 (hf : formR x = 10) (hn : condR x = false) (h : restQ R x op c t (k + 1) = .ok (i, n)) : i = insI x.1 (guessN 5 l r k) := by
  obtain ⟨e, t1, rfl, h'⟩ := nxQ_ok (show nxQ t (k + 1) (fun e t k => mustQ (e == 37) k (num4Q t k fun n _ k => finQ x (x.1, midF c R, 0, 0, 0, n) k)) = .ok (i, n) from rest_d hf hn h)
  obtain ⟨a, b, c', d, u, j, rfl, h''⟩ := num4_ok (must_ok h')
  rw [fin_ok h'']
  show _ = (x.1, rgX l r k, 0, 0, 0, n4X l (k + 2))
  have h2 := (at_d0 (show 0 ≤ k + 1 by omega) (at_d0 k0 hm).2).2
  rw [rg_mid k0 hb hm, n4_at hl (by omega) (show l.drop (k + 2).toNat = _ by rw [show k + 2 = k + 1 + 1 by omega]; exact h2)]
include hl hb k0 hm hc0 in
theorem rb_6 (hf : formR x = 6) (hn : condR x = false) (hr : (op.getD 0 0 == 131) = !(c0 == 129)) (h : restQ R x op c t (k + 1) = .ok (i, n)) : i = insI x.1 (guessN 6 l r k) := by
  have h := show cond (op.getD 0 0 == 131) (num1Q t (k + 1) fun n _ k => finQ x (x.1, lowF c R, 0, 0, 0, n) k) (num4Q t (k + 1) fun n _ k => mustQ (!fitsF n) k (finQ x (x.1, lowF c R, 0, 0, 0, n) k)) = .ok (i, n) from rest_d hf hn h
  show _ = (x.1, rmX l r k, 0, 0, 0, immX l k)
  unfold immX
  rw [rm_low k0 hb hm, hc0]
  rw [hr] at h
  cases h129 : c0 == 129
  · rw [h129] at h; simp only [Bool.not_false, Bool.not_true, cond_true, cond_false] at h
    obtain ⟨a, u, rfl, h'⟩ := num1_ok h
    rw [fin_ok h', cond_false, n1_at hl (by omega) (at_d0 k0 hm).2]
  · rw [h129] at h; simp only [Bool.not_false, Bool.not_true, cond_true, cond_false] at h
    obtain ⟨a, b, c', d, u, j, rfl, h'⟩ := num4_ok h
    rw [fin_ok (must_ok h'), cond_true, n4_at hl (by omega) (at_d0 k0 hm).2]
end
end Go.Amd

namespace Go.Amd
open Go Go.Ab Go.Proofs
section
variable {x : RowT} {l op t : List Int} {r R k c n : Int} {i : InsT} (hl : AllB l)
include hl in
theorem mod_ok {b : Int} {k' : Int} {K : Int → List Int → Int → RestR} {p : InsT × Int} (k0 : 0 ≤ k') (hp : l.drop k'.toNat = t) (h : modQ c b t k' K = .ok p) : ∃ u j, K (mdN (modF c) l k') u j = .ok p := by
  unfold modQ at h
  unfold mdN
  cases h1 : modF c == 1
  · rw [h1, cond_false] at h
    cases h2 : modF c == 2
    · rw [h2, cond_false] at h
      exact ⟨_, _, h⟩
    · rw [h2, cond_true] at h
      obtain ⟨a, b, c', d, u, j, e, h'⟩ := num4_ok h
      rw [cond_false, cond_true, n4_at hl k0 (hp.trans e)]
      exact ⟨_, _, must_ok h'⟩
  · rw [h1, cond_true] at h
    obtain ⟨a, u, e, h'⟩ := num1_ok h
    rw [cond_true, n1_at hl k0 (hp.trans e)]
    cases hn : (num1V a != 0)
    · rw [hn, cond_false] at h'
      exact ⟨_, _, must_ok h'⟩
    · rw [hn, cond_true] at h'
      exact ⟨_, _, h'⟩
variable (k0 : 0 ≤ k) (hb : Bits r R) (hm : l.drop k.toNat = c :: t)
include hl hb k0 hm in
theorem rb_4 (hf : formR x = 9) (hn : condR x = false) (h : restQ R x op c t (k + 1) = .ok (i, n)) : i = insI x.1 (guess4 l r k) := by
  have h := show placeQ R c t (k + 1) (fun b cc d n _ k => finQ x (x.1, midF c R, b, cc, d, n) k) = .ok (i, n) from rest_d hf hn h
  obtain ⟨hc, ht⟩ := at_d0 k0 hm
  have hcb : IsB c := hc ▸ at_nn hl k
  have erm : rmF c = and8 c 7 := (byte_eq hcb.1 hcb.2).2.2.2.trans (byte_eq hcb.1 hcb.2).2.2.1.symm
  have base : baseQ R c t (k + 1) (fun b cc d n _ k => finQ x (x.1, midF c R, b, cc, d, n) k) = .ok (i, n) → (and8 c 7 == 4) = true ∨ (cond (modF c == 0) (and8 c 7 == 5) false) = false → i = insI x.1 (guess4 l r k) := by
    intro h h45
    unfold baseQ at h
    unfold guess4
    rw [hc, rg_mid k0 hb hm]
    rw [erm] at h
    cases h4 : (and8 c 7 == 4)
    · rw [h4, cond_false] at h
      have h5 : (cond (modF c == 0) (and8 c 7 == 5) false) = false := by
        rcases h45 with e | e
        · rw [h4] at e; cases e
        · exact e
      obtain ⟨u, j, h'⟩ := mod_ok hl (by omega) ht (must_ok h)
      rw [cond_false, show (cond (Int.fdiv c (2 ^ 6) == 0) (and8 c 7 == 5) false) = false from h5, cond_false, rm_low k0 hb hm, fin_ok h', ← erm]
      rfl
    · rw [h4, cond_true] at h
      obtain ⟨e, u, et, h'⟩ := nxQ_ok h
      have hd := ht.trans et
      obtain ⟨he, hu⟩ := at_d0 (show 0 ≤ k + 1 by omega) hd
      rw [show k + 1 + 1 = k + 2 by omega] at hu h'
      have s2 : sibQ2 R c e u (k + 2) (fun b cc d n _ k => finQ x (x.1, midF c R, b, cc, d, n) k) = .ok (i, n) := by
        cases h0 : (modF c != 0)
        · rw [h0] at h'; exact must_ok h'
        · rw [h0] at h'; exact h'
      have eC : sbC e r = idxF e R := by unfold sbC idxF; rw [hb.2.1]
      have eB : sbB e r = lowF e R := by unfold sbB lowF; rw [hb.2.2]
      rw [cond_true, he, eC, eB]
      unfold sibQ2 at s2
      cases hi : (idxF e R == 4)
      · rw [hi, cond_false] at s2
        obtain ⟨u', j, h3⟩ := mod_ok hl (by omega) hu s2
        rw [cond_false, fin_ok h3]
        rfl
      · rw [hi, cond_true] at s2
        cases h0 : (modF e == 0)
        · rw [h0] at s2; cases s2
        · rw [h0, cond_true] at s2
          obtain ⟨u', j, h3⟩ := mod_ok hl (by omega) hu (must_ok s2)
          rw [cond_true, fin_ok h3]
          rfl
  unfold placeQ at h
  cases h0 : (modF c == 0)
  · rw [h0, cond_false] at h
    exact base h (.inr (by rw [h0]; rfl))
  · rw [h0, cond_true, erm] at h
    cases h5 : (and8 c 7 == 5)
    · rw [h5, cond_false] at h
      exact base h (.inr (by rw [h0, h5]; rfl))
    · rw [h5, cond_true] at h
      obtain ⟨a, b, c', d, u, j, e, h'⟩ := num4_ok (must_ok h)
      have h4 : (and8 c 7 == 4) = false := by rw [eq_of_beq h5]; rfl
      unfold guess4
      rw [hc, rg_mid k0 hb hm, h4, cond_false, show (cond (Int.fdiv c (2 ^ 6) == 0) (and8 c 7 == 5) false) = true by rw [show (Int.fdiv c (2 ^ 6) == 0) = true from h0, h5]; rfl, cond_true, n4_at hl (by omega) (ht.trans e), fin_ok h']
      rfl
end
end Go.Amd

namespace Go.Amd
open Go Go.Ab Go.Proofs
theorem last_at {l P Q D : List Int} {c0 k : Int} (e : l = P ++ (Q ++ [c0]) ++ D) (hk : k = ((P ++ (Q ++ [c0])).length : Int)) : atX l (k - 1) = c0 := by
  unfold atX
  have : (k - 1).toNat = (P ++ Q).length := by
    rw [hk]
    simp only [List.length_append, List.length_cons, List.length_nil]
    omega
  rw [this, e, show P ++ (Q ++ [c0]) ++ D = (P ++ Q) ++ c0 :: D by simp, List.getD_eq_getElem?_getD, List.getElem?_append_right (Nat.le_refl _), Nat.sub_self]
  rfl
theorem opb_use {x : RowT} {op : List Int} {c0 : Int} (h : opbC x op c0 = true) (ho : opensF x op = true) :
    (formR x = 1 ∨ formR x = 2 → restN x op = wi (and8 c0 7)) ∧ (condR x = true → restN x op = wi (and8 c0 15)) ∧ (formR x = 6 → (op.getD 0 0 == 131) = !(c0 == 129)) ∧ op.length = cond (decide (255 < x.2.2.1)) 2 1 := by
  unfold opbC at h
  rw [ho] at h
  have h : (cond (formR x == 1 || formR x == 2) (restN x op == wi (and8 c0 7)) true && (cond (condR x) (restN x op == wi (and8 c0 15)) true && (cond (formR x == 6) ((op.getD 0 0 == 131) == !(c0 == 129)) true && (op.length == cond (decide (255 < x.2.2.1)) 2 1)))) = true := h
  obtain ⟨h1, h⟩ := Bool.and_eq_true_iff.1 h
  obtain ⟨h2, h⟩ := Bool.and_eq_true_iff.1 h
  obtain ⟨h3, h4⟩ := Bool.and_eq_true_iff.1 h
  refine ⟨fun e => ?_, fun e => ?_, fun e => ?_, eq_of_beq h4⟩
  · rcases e with e | e <;> rw [e] at h1 <;> exact eq_of_beq h1
  · rw [e] at h2; exact eq_of_beq h2
  · rw [e] at h3; exact eq_of_beq h3
theorem opn_all : rowsX.all (fun y => opN y.2.2.1 == cond (decide (255 < (conv y).2.2.1)) 2 1) = true := by kernel_rfl
set_option maxHeartbeats 4000000 in
theorem gI_back {l : List Int} (hl : AllB l) {i : InsT} {n : Int} (h : decQ l = .ok (i, n)) : ∃ r k, wholeO l = whO l r k rowsX ∧ ∃ y ∈ rowsX, gI l r k y = i := by
  obtain ⟨op, k, fs, R, has, ho, x, hx, hr⟩ := dec_parts hl h
  refine ⟨rexO R has, k - op.length, opc_doc hl ho, ?_⟩
  obtain ⟨hob, hR, h0, -, k0, e1, e2⟩ := opc_split hl ho
  obtain ⟨hxr, hop, -⟩ := cands_of hx
  have hb := rex_bits hR h0
  obtain ⟨c0, hc0, hcb, hbc⟩ : ∃ c0, atX l (k - 1) = c0 ∧ IsB c0 ∧ opbC x op c0 = true := by
    rcases hob with ⟨c0, hcb, rfl⟩ | ⟨c0, hcb, rfl⟩
    · exact ⟨c0, last_at (Q := []) e1 e2, hcb, (opbC_of hxr hcb).1⟩
    · exact ⟨c0, last_at (Q := [15]) e1 e2, hcb, (opbC_of hxr hcb).2⟩
  obtain ⟨u1, u2, u3, u4⟩ := opb_use hbc hop
  rw [← rows_conv] at hxr
  obtain ⟨y, hy, rfl⟩ := List.mem_map.1 hxr
  refine ⟨y, hy, ?_⟩
  have hlen : k - op.length + opN y.2.2.1 = k := by
    have := eq_of_beq (List.all_eq_true.1 opn_all y hy)
    rw [this, ← u4]
    omega
  unfold gI
  rw [hlen]
  obtain ⟨-, -, hfm⟩ := row_op hy
  obtain ⟨nm, f, op', dg, rx⟩ := y
  simp only [formsX, List.mem_cons, List.not_mem_nil, or_false] at hfm
  have md : modOf (formC f) = true → ∃ c t, l.drop k.toNat = c :: t ∧ restQ R (conv (nm, f, op', dg, rx)) op c t (k + 1) = .ok (i, n) := by
    intro hm
    rcases hr with ⟨e, -⟩ | ⟨-, c, t, e, -, h⟩
    · exact absurd (hm.symm.trans e) (by decide)
    · exact ⟨c, t, e, h⟩
  have pl : modOf (formC f) = false → restQ R (conv (nm, f, op', dg, rx)) op 0 (l.drop k.toNat) k = .ok (i, n) := by
    intro hm
    rcases hr with ⟨-, h⟩ | ⟨e, -⟩
    · exact h
    · exact absurd (hm.symm.trans e) (by decide)
  have g : ∀ {f : Int}, (f == 4) = false → insI nm (guessN f l (rexO R has) k) = i → insI nm (guessF f l (rexO R has) k) = i := by
    intro f e h
    rw [← h]
    unfold guessF
    rw [e]
    rfl
  rcases hfm with rfl | rfl | rfl | rfl | rfl | rfl | rfl | rfl | rfl | rfl | rfl | rfl | rfl | rfl | rfl | rfl
  · obtain ⟨c, t, e, h⟩ := md rfl
    exact g rfl (rb_1 k0 hb e rfl rfl h).symm
  · exact g rfl (rb_2 hl k0 hb hc0 rfl rfl rfl (u1 (.inr rfl)) (pl rfl)).symm
  · obtain ⟨c, t, e, h⟩ := md rfl
    exact g rfl (rb_3 hl k0 hb e rfl rfl h).symm
  · obtain ⟨c, t, e, h⟩ := md rfl
    exact (rb_4 hl k0 hb e rfl rfl h).symm
  · obtain ⟨c, t, e, h⟩ := md rfl
    exact g rfl (rb_5 hl k0 hb e rfl rfl h).symm
  · obtain ⟨c, t, e, h⟩ := md rfl
    exact g rfl (rb_6 hl k0 hb hc0 e rfl rfl (u3 rfl) h).symm
  · obtain ⟨c, t, e, h⟩ := md rfl
    exact g rfl (rb_7 k0 hb e rfl rfl h).symm
  · obtain ⟨c, t, e, h⟩ := md rfl
    exact g rfl (rb_8 k0 hb e rfl rfl h).symm
  · exact g rfl (rb_9 rfl rfl (pl rfl)).symm
  · obtain ⟨c, t, e, h⟩ := md rfl
    exact g rfl (rb_10 hl k0 hb e rfl rfl h).symm
  · obtain ⟨c, t, e, h⟩ := md rfl
    exact g rfl (rb_11 k0 hb hc0 e rfl rfl (u2 rfl) h).symm
  · exact g rfl (rb_12 hb hc0 rfl rfl (u1 (.inl rfl)) (pl rfl)).symm
  · exact g rfl (rb_13 hl k0 rfl rfl rfl (pl rfl)).symm
  · exact g rfl (rb_14 hl k0 rfl rfl rfl (pl rfl)).symm
  · exact g rfl (rb_15 hl k0 hc0 rfl rfl rfl (u2 rfl) (pl rfl)).symm
  · exact g rfl (rb_16 hl k0 hc0 rfl rfl rfl (u2 rfl) (pl rfl)).symm
theorem who_some {l : List Int} {r k : Int} {rows : List RowX} {i : InsT} (h : whO l r k rows = some i) : fitsX l i = 1 := by
  unfold whO at h
  obtain ⟨y, h1, rfl⟩ := Option.map_eq_some_iff.1 h
  exact eq_of_beq (List.find?_some (p := fun y => fitsX l (gI l r k y) == 1) h1)
theorem whole_some {l : List Int} {i : InsT} (h : wholeO l = some i) : fitsX l i = 1 := by
  unfold wholeO at h
  cases h1 : (atX l 0 == 100) <;> rw [h1] at h
  · cases h2 : (Int.fdiv (atX l 0) (2 ^ 4) == 4) <;> rw [h2] at h <;> exact who_some h
  · cases h2 : (Int.fdiv (atX l 1) (2 ^ 4) == 4) <;> rw [h2] at h <;> exact who_some h
def insO? (e : Except Int (InsT × Int)) : Option InsT := match e with
  | .ok (i, _) => some i
  | .error _ => none
theorem whole_is {l : List Int} (hl : AllB l) : wholeO l = insO? (decQ l) := by
  have key : ∀ {i : InsT}, wholeO l = some i → ∃ n, decQ l = .ok (i, n) := by
    intro i h
    obtain ⟨he, t, rfl⟩ := fits_one.1 (whole_some h)
    exact ⟨_, dec_enc he t⟩
  cases hd : decQ l with
  | error e =>
    cases hw : wholeO l with
    | none => rfl
    | some i =>
      obtain ⟨n, h⟩ := key hw
      rw [hd] at h
      cases h
  | ok p =>
    obtain ⟨i, n⟩ := p
    obtain ⟨r, k, hw, y, hy, hg⟩ := gI_back hl hd
    obtain ⟨he, ht, -, -⟩ := enc_dec hl hd
    have hf : fitsX l i = 1 := fits_one.2 ⟨he, l.drop n.toNat, by rw [ht, List.take_append_drop]⟩
    cases hw2 : wholeO l with
    | none =>
      exfalso
      rw [hw] at hw2
      unfold whO at hw2
      have := Option.map_eq_none_iff.1 hw2
      have := List.find?_eq_none.1 this y hy
      rw [hg, hf] at this
      exact this rfl
    | some j =>
      obtain ⟨m, h⟩ := key hw2
      rw [hd] at h
      cases h
      rfl
end Go.Amd

namespace Go.Amd
open Go Go.Ab Go.Proofs
def byteL (l : List Int) : Bool := l.all fun a => decide (0 ≤ a ∧ a < 256)
theorem byteL_all {l : List Int} (h : byteL l = true) : AllB l := fun c hc => show 0 ≤ c ∧ c < 256 from of_decide_eq_true (List.all_eq_true.1 h c hc)
theorem byteL_of {l : List Int} (h : AllB l) : byteL l = true := List.all_eq_true.2 fun c hc => decide_eq_true (p := 0 ≤ c ∧ c < 256) (h c hc)
def okQ (l : List Int) : Bool := match decQ l with | .ok _ => true | .error _ => false
def insQ (l : List Int) : InsT := match decQ l with | .ok p => p.1 | .error _ => ([], 0, 0, 0, 0, 0)
def lenQ (l : List Int) : Int := match decQ l with | .ok p => p.2 | .error _ => 0
def insA (i : InsT) : V := .agg [.str i.1, .int .i64 i.2.1, .int .i64 i.2.2.1, .int .i64 i.2.2.2.1, .int .i64 i.2.2.2.2.1, .int .i64 i.2.2.2.2.2]
theorem wholeC_run {l : List Int} (hl : AllB l) : wholeC l = some (whV (wholeO l)) := by
  have hr : ∀ y ∈ rowsX, 1 ≤ opN y.2.2.1 ∧ opN y.2.2.1 ≤ 2 := fun y hy => of_decide_eq_true (List.all_eq_true.1 rowsX_op y hy)
  unfold wholeC wholeO
  rw [whC_run hl (by decide) (by decide) rowsX hr, whC_run hl (by decide) (by decide) rowsX hr, whC_run hl (by decide) (by decide) rowsX hr, whC_run hl (by decide) (by decide) rowsX hr]
  cases (atX l 0 == 100)
  · cases (Int.fdiv (atX l 0) (2 ^ 4) == 4) <;> rfl
  · cases (Int.fdiv (atX l 1) (2 ^ 4) == 4) <;> rfl
theorem whV_is {l : List Int} (hl : AllB l) : whV (wholeO l) = .tup [insA (insQ l), .int .i64 (lenQ l), .bool (okQ l)] := by
  rw [whole_is hl]
  unfold insQ lenQ okQ
  cases hd : decQ l with
  | error e => rfl
  | ok p =>
    obtain ⟨i, n⟩ := p
    obtain ⟨-, ht, h0, h1⟩ := enc_dec hl hd
    have : ((encL i).length : Int) = n := by rw [ht, List.length_take]; omega
    show V.tup [insA i, .int .i64 (encL i).length, .bool true] = V.tup [insA i, .int .i64 n, .bool true]
    rw [this]
def wholeS : Ab.Spec := fun args => match args with
  | [.sl (.int .u8) l _ _] => .req (byteL l) (.leaf (.tup [.agg [.str (insQ l).1, .int .i64 (insQ l).2.1, .int .i64 (insQ l).2.2.1, .int .i64 (insQ l).2.2.2.1, .int .i64 (insQ l).2.2.2.2.1, .int .i64 (insQ l).2.2.2.2.2], .int .i64 (lenQ l), .bool (okQ l)]))
  | _ => .fail
theorem wholeS_ok : Sound Try.prog 23 wholeS := by
  intro args out h
  unfold wholeS at h
  split at h
  rotate_left
  · cases h
  rename_i l sp fl
  obtain ⟨h1, h⟩ := req_run h
  have h := leaf_out h
  subst h
  have hl := byteL_all h1
  exact pcall_fun' (cx := cx23) (fn := Try.f23) (cx1_ok (.cons atS_ok (.cons tableS_ok (.cons guessS_ok (.cons fitXS_ok (ok1 buildS_ok))))) (.nil _) rfl rfl) (by kernel_rfl) (by kernel_rfl) (by kernel_rfl)
    ((Tree.fin_run _).symm.trans ((whole_eq l sp fl).trans ((wholeC_run hl).trans (congrArg some (whV_is hl)))))
end Go.Amd

namespace Go.Amd
open Go Go.Ab Go.Proofs
def bO' (b : Bool) : Option V := some (.bool b)
theorem rexOS_ok : Sound Try.prog 75 rexOS := by
  intro args out h
  unfold rexOS at h
  split at h
  rotate_left
  · cases h
  rename_i l sp fl
  have h := leaf_out h
  subst h
  refine pcall_fun' (cx := cx75) (fn := Try.f75) (cx1_ok (ok1 atS_ok) (.nil _) rfl rfl) (by kernel_rfl) (by kernel_rfl) (by kernel_rfl) ((roT_eq l sp fl).trans ?_)
  unfold roT rexOX
  rw [br_run, br_run, br_run]
  cases (atX l 0 == 100)
  · cases (Int.fdiv (atX l 0) (2 ^ 4) == 4) <;> rfl
  · cases (Int.fdiv (atX l 1) (2 ^ 4) == 4) <;> rfl
section
variable (l : List Int) (k : Int)
def rxX : Int := and8 (Int.fdiv (rexOX l) (2 ^ 1)) 1
def pM : Int := l.getD k.toNat 0
def pmM : Int := Int.fdiv (pM l k) (2 ^ 6)
def plLo : Int := and8 (pM l k) 7
def lfX : Int := wi ((l.length : Nat) - k)
def plE (size : Int) : Option V := bO' (decide (lfX l (wi (wi (k + 1) + 1)) < size))
def plP (size : Int) (n : Bool) : Option V := cond n (cond (and8 (pM l (wi (k + 1))) 7 != 4) (bO' false) (cond (Int.fdiv (pM l (wi (k + 1))) (2 ^ 6) != 0) (bO' false) (plE l k size))) (plE l k size)
def plR (size : Int) (n : Bool) : Option V := cond (pmM l k == 0) (cond (and8 (pM l (wi (k + 1))) 7 == 5) (bO' false) (plP l k size n)) (plP l k size n)
def plS (size : Int) : Option V := cond (wi (k + 1) == (l.length : Nat)) (bO' true) (cond (inside (wi (k + 1)) l.length) (cond (and8 (Int.fdiv (pM l (wi (k + 1))) (2 ^ 3)) 7 == 4) (plR l k size (rxX l == 0)) (plR l k size false)) none)
def plC (size : Int) : Option V := cond (plLo l k != 4) (cond (rxX l == 0) (bO' (decide (lfX l (wi (k + 1)) < size))) (bO' false)) (plS l k size)
def plB (size : Int) : Option V :=
  cond (pmM l k == 3) (bO' false) (cond (pmM l k == 0) (cond (plLo l k == 5) (cond (and8 (rexOX l) 3 == 0) (bO' (decide (lfX l (wi (k + 1)) < 4))) (bO' false)) (plC l k size)) (plC l k size))
def plH : Option V := cond (inside k l.length) (cond (pmM l k == 1) (cond (pmM l k == 2) (plB l k 4) (plB l k 1)) (cond (pmM l k == 2) (plB l k 4) (plB l k 0))) none
end
theorem plH_eq (l sp : List Int) (fl : Fl) (k : Int) : (dfun cx74 Try.f74 [.sl (.int .u8) l sp fl, .int .i64 k]).fin = plH l k := by kernel_rfl
end Go.Amd

namespace Go.Amd
open Go Go.Ab Go.Proofs
def szP (m : Int) : Int := cond (m == 2) 4 (cond (m == 1) 1 0)
def ltN (t : List Int) (n : Int) : Bool := decide ((t.length : Int) < n)
def plT2 (x m size : Int) : List Int → Bool
  | [] => true
  | e :: t => cond (cond (cond (m == 0) (and8 e 7 == 5) false) true (cond (cond (and8 (Int.fdiv e (2 ^ 3)) 7 == 4) (x == 0) false) (cond (and8 e 7 != 4) true (Int.fdiv e (2 ^ 6) != 0)) false)) false (ltN t size)
def plV (r c : Int) (t : List Int) : Bool :=
  cond (Int.fdiv c (2 ^ 6) == 3) false (cond (cond (Int.fdiv c (2 ^ 6) == 0) (and8 c 7 == 5) false) (cond (and8 r 3 == 0) (ltN t 4) false)
    (cond (and8 c 7 != 4) (cond (and8 (Int.fdiv r (2 ^ 1)) 1 == 0) (ltN t (szP (Int.fdiv c (2 ^ 6)))) false) (plT2 (and8 (Int.fdiv r (2 ^ 1)) 1) (Int.fdiv c (2 ^ 6)) (szP (Int.fdiv c (2 ^ 6))) t)))
theorem drop_len {l : List Int} {k : Int} (k0 : 0 ≤ k) (h : l.length < 1000) (k1 : k ≤ l.length) : lfX l k = ((l.drop k.toNat).length : Int) := by
  unfold lfX
  rw [List.length_drop]
  refine (wrap_i64 (n := (l.length : Nat) - k) (by omega) (by omega)).trans (by omega)
theorem drop_get {l : List Int} {k : Int} (k0 : 0 ≤ k) (k1 : k < l.length) : l.drop k.toNat = l.getD k.toNat 0 :: l.drop (k + 1).toNat := by
  have h : k.toNat < l.length := by omega
  rw [List.drop_eq_getElem_cons h, getD_lt h, show (k + 1).toNat = k.toNat + 1 by omega]
section
variable {l : List Int} {k : Int} (k0 : 0 ≤ k) (k1 : k < l.length) (hl : l.length < 1000)
include k0 k1 hl in
theorem plS_run (size : Int) : plS l k size = some (.bool (plT2 (rxX l) (pmM l k) size (l.drop (k + 1).toNat))) := by
  have e1 : wi (k + 1) = k + 1 := wrap_i64 (n := k + 1) (by omega) (by omega)
  unfold plS
  rw [e1]
  by_cases h : k + 1 = (l.length : Int)
  · rw [beq_iff_eq.2 h, show l.drop (k + 1).toNat = [] from List.drop_eq_nil_iff.2 (by omega)]
    rfl
  · have hb : (k + 1 == (l.length : Int)) = false := by simpa using h
    rw [hb, inside_of (by omega) (by omega), drop_get (k := k + 1) (by omega) (by omega)]
    have e2 : wi (k + 1 + 1) = k + 1 + 1 := wrap_i64 (n := k + 1 + 1) (by omega) (by omega)
    have e3 := drop_len (l := l) (k := k + 1 + 1) (by omega) hl (by omega)
    unfold plR plP plE pM plT2
    rw [e1, e2, e3]
    generalize l.getD (k + 1).toNat 0 = e
    show _ = some (V.bool (cond (cond (cond (pmM l k == 0) (and8 e 7 == 5) false) true (cond (cond (and8 (Int.fdiv e (2 ^ 3)) 7 == 4) (rxX l == 0) false) (cond (and8 e 7 != 4) true (Int.fdiv e (2 ^ 6) != 0)) false)) false (ltN (l.drop (k + 1 + 1).toNat) size)))
    cases and8 (Int.fdiv e (2 ^ 3)) 7 == 4 <;> cases pmM l k == 0 <;> cases and8 e 7 == 5 <;> cases rxX l == 0 <;> cases and8 e 7 != 4 <;> cases Int.fdiv e (2 ^ 6) != 0 <;> rfl
include k0 k1 hl in
theorem plH_run : plH l k = some (.bool (plV (rexOX l) (l.getD k.toNat 0) (l.drop (k + 1).toNat))) := by
  have e1 : wi (k + 1) = k + 1 := wrap_i64 (n := k + 1) (by omega) (by omega)
  have e3 := drop_len (l := l) (k := k + 1) (by omega) hl (by omega)
  unfold plH
  rw [inside_of k0 k1]
  have hc : ∀ size, plC l k size = some (.bool (cond (plLo l k != 4) (cond (rxX l == 0) (ltN (l.drop (k + 1).toNat) size) false) (plT2 (rxX l) (pmM l k) size (l.drop (k + 1).toNat)))) := by
    intro size
    unfold plC
    rw [plS_run k0 k1 hl, e1, e3]
    cases plLo l k != 4 <;> cases rxX l == 0 <;> rfl
  unfold plB
  simp only [hc]
  rw [e1, e3]
  unfold plV
  show cond true (cond (pmM l k == 1) (cond (pmM l k == 2) _ _) (cond (pmM l k == 2) _ _)) none = some (V.bool (cond (pmM l k == 3) _ (cond (cond (pmM l k == 0) (plLo l k == 5) false) _ (cond (plLo l k != 4) (cond (rxX l == 0) (ltN _ (szP (pmM l k))) false) (plT2 (rxX l) (pmM l k) (szP (pmM l k)) _)))))
  rw [cond_true]
  unfold szP
  by_cases h2 : pmM l k = 2
  · rw [h2]
    show cond false _ (cond true _ _) = _
    cases plLo l k == 5 <;> cases and8 (rexOX l) 3 == 0 <;> rfl
  · rw [show (pmM l k == 2) = false by simpa using h2]
    cases pmM l k == 1 <;> cases pmM l k == 3 <;> cases pmM l k == 0 <;> cases plLo l k == 5 <;> cases and8 (rexOX l) 3 == 0 <;> rfl
end
def placedX : Ab.Spec := fun args => match args with
  | [.sl (.int .u8) l _ _, .int .i64 k] => .req (decide (0 ≤ k ∧ k < l.length ∧ l.length < 1000)) (.leaf (.bool (plV (rexOX l) (atX l k) (l.drop (k + 1).toNat))))
  | _ => .fail
theorem placedX_ok : Sound Try.prog 74 placedX := by
  intro args out h
  unfold placedX at h
  split at h
  rotate_left
  · cases h
  rename_i l sp fl k
  obtain ⟨h1, h⟩ := req_run h
  have h := leaf_out h
  subst h
  obtain ⟨k0, k1, hl⟩ := of_decide_eq_true h1
  exact pcall_fun' (cx := cx74) (fn := Try.f74) (cx1_ok (ok1 rexOS_ok) (.nil _) rfl rfl) (by kernel_rfl) (by kernel_rfl) (by kernel_rfl) ((Tree.fin_run _).symm.trans ((plH_eq l sp fl k).trans (plH_run k0 k1 hl)))
noncomputable def cx72 : Cx := { P := Try.prog, n := 142, tab := [(52, atS), (74, placedX)], mtab := [], refs := [], keeps := [0, 1, 2, 3, 6, 7, 8, 9, 10, 42, 43, 52, 59, 66, 73, 79, 90, 119, 123, 128, 133] }
section
variable (dg : Int) (l : List Int) (k : Int)
def tlG (K : Bool → Option V) : Option V := cond (lfX l k == 0) (K true) (cond (Int.fdiv (atX l k) (2 ^ 6) == 3) (K (wi (and8 (Int.fdiv (atX l k) (2 ^ 3)) 7) == dg)) (K false))
def tlX (F : Bool → Bool → Option V) : Option V := cond (decide (0 ≤ k)) (cond (lfX l k == 0) (tlG dg l k (F true)) (tlG dg l k (F (Int.fdiv (atX l k) (2 ^ 6) == 3)))) none
def tlL (b : Bool) (n : Int) : Option V := cond b (bO' (decide (lfX l k < n))) (bO' false)
def tlQ (c : Bool) : Option V := cond c (bO' (decide (lfX l k < 6))) (bO' false)
def tlP (b : Bool) : Option V := cond b (cond (decide (lfX l k < 2)) (tlQ l k true) (cond (decide (0 ≤ wi (k + 1))) (tlQ l k (atX l (wi (k + 1)) == 37)) none)) (tlQ l k false)
def tlN (f : Int) : Bool → Bool → Option V := fun d g =>
  cond (f == 1) (tlL l k d 1) (cond (f == 7) (tlL l k d 1) (cond (f == 11) (tlL l k d 1) (cond (f == 8) (tlL l k g 1) (cond (f == 3) (tlL l k g 5) (cond (f == 10) (tlL l k g 2)
    (cond (f == 6) (cond (decide (0 ≤ wi (k - 1))) (cond (atX l (wi (k - 1)) == 129) (tlL l k g 5) (tlL l k g 2)) none)
      (cond (f == 5) (cond (lfX l k == 0) (tlP l k true) (cond (Int.fdiv (atX l k) (2 ^ 6) == 0) (tlP l k (and8 (atX l k) 7 == 4)) (tlP l k false)))
        (cond (f == 2) (bO' (decide (lfX l k < 8))) (cond (f == 13) (bO' (decide (lfX l k < 4))) (cond (f == 15) (bO' (decide (lfX l k < 4))) (cond (f == 14) (bO' (decide (lfX l k < 1))) (cond (f == 16) (bO' (decide (lfX l k < 1)))
          (cond (f == 4) (cond (lfX l k == 0) (bO' true) (cond (decide (0 ≤ k ∧ k < l.length ∧ l.length < 1000)) (bO' (plV (rexOX l) (atX l k) (l.drop (k + 1).toNat))) none)) (bO' false))))))))))))))
end
end Go.Amd

namespace Go.Amd
open Go Go.Ab Go.Proofs
noncomputable abbrev tlE (f : Int) (nm : List UInt8) (op : List Int) (dg rx : Int) (l sp : List Int) (fl : Fl) (k : Int) := (dfun cx72 Try.f72 [.agg [.str nm, .int .i64 f, .sl (.int .u8) op [] .ro, .int .i64 dg, .int .i64 rx], .sl (.int .u8) l sp fl, .int .i64 k])
section
variable (nm : List UInt8) (op : List Int) (dg rx : Int) (l sp : List Int) (fl : Fl) (k : Int)
theorem tl_1 : (tlE 1 nm op dg rx l sp fl k).fin = tlX dg l k (tlN l k 1) := by kernel_rfl
theorem tl_2 : (tlE 2 nm op dg rx l sp fl k).fin = tlX dg l k (tlN l k 2) := by kernel_rfl
theorem tl_3 : (tlE 3 nm op dg rx l sp fl k).fin = tlX dg l k (tlN l k 3) := by kernel_rfl
theorem tl_4 : (tlE 4 nm op dg rx l sp fl k).fin = tlX dg l k (tlN l k 4) := by kernel_rfl
theorem tl_5 : (tlE 5 nm op dg rx l sp fl k).fin = tlX dg l k (tlN l k 5) := by kernel_rfl
theorem tl_6 : (tlE 6 nm op dg rx l sp fl k).fin = tlX dg l k (tlN l k 6) := by kernel_rfl
theorem tl_7 : (tlE 7 nm op dg rx l sp fl k).fin = tlX dg l k (tlN l k 7) := by kernel_rfl
theorem tl_8 : (tlE 8 nm op dg rx l sp fl k).fin = tlX dg l k (tlN l k 8) := by kernel_rfl
theorem tl_9 : (tlE 9 nm op dg rx l sp fl k).fin = tlX dg l k (tlN l k 9) := by kernel_rfl
theorem tl_10 : (tlE 10 nm op dg rx l sp fl k).fin = tlX dg l k (tlN l k 10) := by kernel_rfl
theorem tl_11 : (tlE 11 nm op dg rx l sp fl k).fin = tlX dg l k (tlN l k 11) := by kernel_rfl
theorem tl_12 : (tlE 12 nm op dg rx l sp fl k).fin = tlX dg l k (tlN l k 12) := by kernel_rfl
theorem tl_13 : (tlE 13 nm op dg rx l sp fl k).fin = tlX dg l k (tlN l k 13) := by kernel_rfl
theorem tl_14 : (tlE 14 nm op dg rx l sp fl k).fin = tlX dg l k (tlN l k 14) := by kernel_rfl
theorem tl_15 : (tlE 15 nm op dg rx l sp fl k).fin = tlX dg l k (tlN l k 15) := by kernel_rfl
theorem tl_16 : (tlE 16 nm op dg rx l sp fl k).fin = tlX dg l k (tlN l k 16) := by kernel_rfl
end
def ltC (t : List Int) (n : Int) : Bool := decide (((t.length : Nat) : Int) + 1 < n)
def grpC (dg c : Int) : Bool := cond (Int.fdiv c (2 ^ 6) == 3) (and8 (Int.fdiv c (2 ^ 3)) 7 == dg) false
def and' (a b : Bool) : Bool := cond a b false
def tlV (f dg r p : Int) : List Int → Bool
  | [] => !(f == 9 || f == 12)
  | c :: t => cond (f == 1) (and' (Int.fdiv c (2 ^ 6) == 3) (ltC t 1)) (cond (f == 7) (and' (Int.fdiv c (2 ^ 6) == 3) (ltC t 1)) (cond (f == 11) (and' (Int.fdiv c (2 ^ 6) == 3) (ltC t 1)) (cond (f == 8) (and' (grpC dg c) (ltC t 1)) (cond (f == 3) (and' (grpC dg c) (ltC t 5))
    (cond (f == 10) (and' (grpC dg c) (ltC t 2)) (cond (f == 6) (cond (p == 129) (and' (grpC dg c) (ltC t 5)) (and' (grpC dg c) (ltC t 2)))
      (cond (f == 5) (and' (cond (Int.fdiv c (2 ^ 6) == 0) (and8 c 7 == 4) false) (cond (ltC t 2) (ltC t 6) (and' (t.headD 0 == 37) (ltC t 6))))
        (cond (f == 2) (ltC t 8) (cond (f == 13) (ltC t 4) (cond (f == 15) (ltC t 4) (cond (f == 14) (ltC t 1) (cond (f == 16) (ltC t 1) (cond (f == 4) (plV r c t) false)))))))))))))
theorem wi_and7 (n : Int) : wi (and8 n 7) = and8 n 7 := by
  have h : 0 ≤ and8 n 7 ∧ and8 n 7 < 256 := by
    unfold and8
    rw [Go.Wd.wrap_u8]
    omega
  exact wrap_i64 (by omega) (by omega)
section
variable {dg : Int} {l : List Int} {k : Int} (k0 : 1 ≤ k) (k1 : k ≤ l.length) (hl : l.length < 1000)
include k0 k1 hl in
theorem tlN_run : ∀ f ∈ formsX, tlX dg l k (tlN l k f) = some (.bool (tlV f dg (rexOX l) (atX l (k - 1)) (l.drop k.toNat))) := by
  have e0 := drop_len (l := l) (k := k) (by omega) hl k1
  have e1 : wi (k + 1) = k + 1 := wrap_i64 (n := k + 1) (by omega) (by omega)
  have e2 : wi (k - 1) = k - 1 := wrap_i64 (n := k - 1) (by omega) (by omega)
  have c0 : decide (0 ≤ k) = true := decide_eq_true (by omega)
  have c1 : decide (0 ≤ k + 1) = true := decide_eq_true (by omega)
  have c2 : decide (0 ≤ k - 1) = true := decide_eq_true (by omega)
  intro f hf
  by_cases hk : k < (l.length : Int)
  · have eg := drop_get (l := l) (k := k) (by omega) hk
    have e3 : l.drop k.toNat = atX l k :: l.drop (k + 1).toNat := eg
    have e4 : (l.drop (k + 1).toNat).headD 0 = atX l (k + 1) := by
      unfold atX
      by_cases h : k + 1 < (l.length : Int)
      · rw [drop_get (l := l) (k := k + 1) (by omega) h]; rfl
      · rw [List.drop_eq_nil_iff.2 (by omega), List.getD_eq_getElem?_getD, List.getElem?_eq_none (by omega)]; rfl
    have c3 : decide (0 ≤ k ∧ k < l.length ∧ l.length < 1000) = true := decide_eq_true ⟨by omega, hk, hl⟩
    have c4 : (lfX l k == 0) = false := by rw [e0, e3]; exact beq_false_of_ne (by simp only [List.length_cons]; omega)
    have e5 : lfX l k = ((l.drop (k + 1).toNat).length : Int) + 1 := by rw [e0, e3]; simp
    unfold tlX tlG
    rw [c0, c4, e3]
    simp only [cond_true, cond_false, wi_and7]
    unfold tlN tlP tlQ tlL
    rw [e1, e2, c1, c2, c3, c4, e5]
    generalize hd : l.drop (k + 1).toNat = t at e4 ⊢
    simp only [formsX, List.mem_cons, List.not_mem_nil, or_false] at hf
    rw [← e4]
    unfold tlV grpC and' ltC
    rcases hf with rfl | rfl | rfl | rfl | rfl | rfl | rfl | rfl | rfl | rfl | rfl | rfl | rfl | rfl | rfl | rfl
    · show cond _ (cond _ _ _) (cond _ _ _) = some (V.bool (cond (Int.fdiv (atX l k) (2 ^ 6) == 3) _ false))
      cases Int.fdiv (atX l k) (2 ^ 6) == 3 <;> rfl
    · cases Int.fdiv (atX l k) (2 ^ 6) == 3 <;> rfl
    · show cond _ (cond _ _ _) (cond _ _ _) = some (V.bool (cond (cond (Int.fdiv (atX l k) (2 ^ 6) == 3) _ false) _ false))
      cases Int.fdiv (atX l k) (2 ^ 6) == 3 <;> cases and8 (Int.fdiv (atX l k) (2 ^ 3)) 7 == dg <;> rfl
    · cases Int.fdiv (atX l k) (2 ^ 6) == 3 <;> rfl
    · show cond _ (cond _ (cond _ _ _) (cond _ _ _)) _ = some (V.bool (cond (cond (Int.fdiv (atX l k) (2 ^ 6) == 0) (and8 (atX l k) 7 == 4) false) (cond _ _ (cond (t.headD 0 == 37) _ false)) false))
      cases Int.fdiv (atX l k) (2 ^ 6) == 3 <;> cases Int.fdiv (atX l k) (2 ^ 6) == 0 <;> cases and8 (atX l k) 7 == 4 <;> cases decide (((t.length : Nat) : Int) + 1 < 2) <;> cases t.headD 0 == 37 <;> rfl
    · show cond _ (cond (atX l (k - 1) == 129) _ _) (cond (atX l (k - 1) == 129) _ _) = some (V.bool (cond (atX l (k - 1) == 129) (cond (cond (Int.fdiv (atX l k) (2 ^ 6) == 3) _ false) _ false) (cond (cond (Int.fdiv (atX l k) (2 ^ 6) == 3) _ false) _ false)))
      cases Int.fdiv (atX l k) (2 ^ 6) == 3 <;> cases and8 (Int.fdiv (atX l k) (2 ^ 3)) 7 == dg <;> cases atX l (k - 1) == 129 <;> rfl
    · show cond _ (cond _ _ _) (cond _ _ _) = some (V.bool (cond (Int.fdiv (atX l k) (2 ^ 6) == 3) _ false))
      cases Int.fdiv (atX l k) (2 ^ 6) == 3 <;> rfl
    · show cond _ (cond _ _ _) (cond _ _ _) = some (V.bool (cond (cond (Int.fdiv (atX l k) (2 ^ 6) == 3) _ false) _ false))
      cases Int.fdiv (atX l k) (2 ^ 6) == 3 <;> cases and8 (Int.fdiv (atX l k) (2 ^ 3)) 7 == dg <;> rfl
    · cases Int.fdiv (atX l k) (2 ^ 6) == 3 <;> rfl
    · show cond _ (cond _ _ _) (cond _ _ _) = some (V.bool (cond (cond (Int.fdiv (atX l k) (2 ^ 6) == 3) _ false) _ false))
      cases Int.fdiv (atX l k) (2 ^ 6) == 3 <;> cases and8 (Int.fdiv (atX l k) (2 ^ 3)) 7 == dg <;> rfl
    · show cond _ (cond _ _ _) (cond _ _ _) = some (V.bool (cond (Int.fdiv (atX l k) (2 ^ 6) == 3) _ false))
      cases Int.fdiv (atX l k) (2 ^ 6) == 3 <;> rfl
    · cases Int.fdiv (atX l k) (2 ^ 6) == 3 <;> rfl
    · cases Int.fdiv (atX l k) (2 ^ 6) == 3 <;> rfl
    · cases Int.fdiv (atX l k) (2 ^ 6) == 3 <;> rfl
    · cases Int.fdiv (atX l k) (2 ^ 6) == 3 <;> rfl
    · cases Int.fdiv (atX l k) (2 ^ 6) == 3 <;> rfl
  · have e3 : l.drop k.toNat = [] := List.drop_eq_nil_iff.2 (by omega)
    have e5 : lfX l k = 0 := by rw [e0, e3]; rfl
    unfold tlX tlG
    rw [c0, e5, e3]
    unfold tlN tlP tlQ tlL
    rw [e1, e2, c1, c2, e5]
    simp only [formsX, List.mem_cons, List.not_mem_nil, or_false] at hf
    rcases hf with rfl | rfl | rfl | rfl | rfl | rfl | rfl | rfl | rfl | rfl | rfl | rfl | rfl | rfl | rfl | rfl
    all_goals first
      | rfl
      | (cases atX l (k - 1) == 129 <;> rfl)
end
def tailX : Ab.Spec := fun args => match args with
  | [.agg [.str _, .int .i64 f, .sl (.int .u8) _ [] .ro, .int .i64 dg, .int .i64 _], .sl (.int .u8) l _ _, .int .i64 k] =>
    .req (formsX.contains f) (.req (decide (1 ≤ k ∧ k ≤ l.length ∧ l.length < 1000)) (.leaf (.bool (tlV f dg (rexOX l) (atX l (k - 1)) (l.drop k.toNat)))))
  | _ => .fail
theorem tl_any {nm : List UInt8} {op : List Int} {dg rx : Int} {l sp : List Int} {fl : Fl} {k f : Int} (hf : f ∈ formsX) : (tlE f nm op dg rx l sp fl k).fin = tlX dg l k (tlN l k f) := by
  simp only [formsX, List.mem_cons, List.not_mem_nil, or_false] at hf
  rcases hf with rfl | rfl | rfl | rfl | rfl | rfl | rfl | rfl | rfl | rfl | rfl | rfl | rfl | rfl | rfl | rfl
  · exact tl_1 nm op dg rx l sp fl k
  · exact tl_2 nm op dg rx l sp fl k
  · exact tl_3 nm op dg rx l sp fl k
  · exact tl_4 nm op dg rx l sp fl k
  · exact tl_5 nm op dg rx l sp fl k
  · exact tl_6 nm op dg rx l sp fl k
  · exact tl_7 nm op dg rx l sp fl k
  · exact tl_8 nm op dg rx l sp fl k
  · exact tl_9 nm op dg rx l sp fl k
  · exact tl_10 nm op dg rx l sp fl k
  · exact tl_11 nm op dg rx l sp fl k
  · exact tl_12 nm op dg rx l sp fl k
  · exact tl_13 nm op dg rx l sp fl k
  · exact tl_14 nm op dg rx l sp fl k
  · exact tl_15 nm op dg rx l sp fl k
  · exact tl_16 nm op dg rx l sp fl k
theorem tailX_ok : Sound Try.prog 72 tailX := by
  intro args out h
  unfold tailX at h
  split at h
  rotate_left
  · cases h
  rename_i nm f op dg rx l sp fl k
  obtain ⟨h1, h⟩ := req_run h
  obtain ⟨h2, h⟩ := req_run h
  have h := leaf_out h
  subst h
  obtain ⟨k0, k1, hl⟩ := of_decide_eq_true h2
  have hf : f ∈ formsX := by simpa using h1
  exact pcall_fun' (cx := cx72) (fn := Try.f72) (cx1_ok (.cons atS_ok (ok1 placedX_ok)) (.nil _) rfl rfl) (by kernel_rfl) (by kernel_rfl) (by kernel_rfl) ((Tree.fin_run _).symm.trans ((tl_any hf).trans (tlN_run k0 k1 hl f hf)))
end Go.Amd

namespace Go.Amd
open Go Go.Ab Go.Proofs
def andn (a b : Int) : Int := IntKind.wrap .u8 ↑(BitVec.toNat (BitVec.ofInt 8 a &&& ~~~(BitVec.ofInt 8 b)))
noncomputable def cx57 : Cx := { P := Try.prog, n := 90, tab := [(39, condXS), (72, tailX)], mtab := [], refs := [], keeps := [0, 1, 2, 3, 6, 7, 8, 9, 14, 20, 31, 45, 66, 69, 83], fuel := 4 }
noncomputable abbrev ocE (f : Int) (nm : List UInt8) (op : List Int) (dg rx : Int) (l sp : List Int) (fl : Fl) (k : Int) := (dfun cx57 Try.f57 [.agg [.str nm, .int .i64 f, .sl (.int .u8) op [] .ro, .int .i64 dg, .int .i64 rx], .sl (.int .u8) l sp fl, .int .i64 k])
section
variable (dg : Int) (l : List Int)
def ocC (f : Int) (last : Bool) (c : Int) (K : Int → Option V) : Option V :=
  cond (cond last (f == 2 || f == 12) false) (K (andn c 7)) (cond (cond last (f == 11 || f == 15 || f == 16) false) (cond (!(condF (wi (and8 c 15)))) (bO' false) (K (andn c 15)))
    (cond (f == 6) (cond (c == 129) (K 131) (K c)) (K c)))
def ocT (f k : Int) : Option V := cond (decide (1 ≤ k ∧ k ≤ l.length ∧ l.length < 1000)) (bO' (tlV f dg (rexOX l) (atX l (k - 1)) (l.drop k.toNat))) none
def ocH (f : Int) : List Int → Int → Option V
  | [], k => ocT dg l f k
  | a :: op, k => cond (k == (l.length : Nat)) (bO' true) (cond (inside k l.length) (ocC f op.isEmpty (pM l k) fun c => cond (c != a) (bO' false) (ocH f op (wi (k + 1)))) none)
end
section
variable (nm : List UInt8) (a b dg rx : Int) (l sp : List Int) (fl : Fl) (k : Int)
theorem oc1_1 : (ocE 1 nm [a] dg rx l sp fl k).fin = ocH dg l 1 [a] k := by kernel_rfl
theorem oc2_1 : (ocE 1 nm [a, b] dg rx l sp fl k).fin = ocH dg l 1 [a, b] k := by kernel_rfl
theorem oc1_2 : (ocE 2 nm [a] dg rx l sp fl k).fin = ocH dg l 2 [a] k := by kernel_rfl
theorem oc2_2 : (ocE 2 nm [a, b] dg rx l sp fl k).fin = ocH dg l 2 [a, b] k := by kernel_rfl
theorem oc1_3 : (ocE 3 nm [a] dg rx l sp fl k).fin = ocH dg l 3 [a] k := by kernel_rfl
theorem oc2_3 : (ocE 3 nm [a, b] dg rx l sp fl k).fin = ocH dg l 3 [a, b] k := by kernel_rfl
theorem oc1_4 : (ocE 4 nm [a] dg rx l sp fl k).fin = ocH dg l 4 [a] k := by kernel_rfl
theorem oc2_4 : (ocE 4 nm [a, b] dg rx l sp fl k).fin = ocH dg l 4 [a, b] k := by kernel_rfl
theorem oc1_5 : (ocE 5 nm [a] dg rx l sp fl k).fin = ocH dg l 5 [a] k := by kernel_rfl
theorem oc2_5 : (ocE 5 nm [a, b] dg rx l sp fl k).fin = ocH dg l 5 [a, b] k := by kernel_rfl
theorem oc1_6 : (ocE 6 nm [a] dg rx l sp fl k).fin = ocH dg l 6 [a] k := by kernel_rfl
theorem oc2_6 : (ocE 6 nm [a, b] dg rx l sp fl k).fin = ocH dg l 6 [a, b] k := by kernel_rfl
theorem oc1_7 : (ocE 7 nm [a] dg rx l sp fl k).fin = ocH dg l 7 [a] k := by kernel_rfl
theorem oc2_7 : (ocE 7 nm [a, b] dg rx l sp fl k).fin = ocH dg l 7 [a, b] k := by kernel_rfl
theorem oc1_8 : (ocE 8 nm [a] dg rx l sp fl k).fin = ocH dg l 8 [a] k := by kernel_rfl
theorem oc2_8 : (ocE 8 nm [a, b] dg rx l sp fl k).fin = ocH dg l 8 [a, b] k := by kernel_rfl
theorem oc1_9 : (ocE 9 nm [a] dg rx l sp fl k).fin = ocH dg l 9 [a] k := by kernel_rfl
theorem oc2_9 : (ocE 9 nm [a, b] dg rx l sp fl k).fin = ocH dg l 9 [a, b] k := by kernel_rfl
theorem oc1_10 : (ocE 10 nm [a] dg rx l sp fl k).fin = ocH dg l 10 [a] k := by kernel_rfl
theorem oc2_10 : (ocE 10 nm [a, b] dg rx l sp fl k).fin = ocH dg l 10 [a, b] k := by kernel_rfl
theorem oc1_11 : (ocE 11 nm [a] dg rx l sp fl k).fin = ocH dg l 11 [a] k := by kernel_rfl
theorem oc2_11 : (ocE 11 nm [a, b] dg rx l sp fl k).fin = ocH dg l 11 [a, b] k := by kernel_rfl
theorem oc1_12 : (ocE 12 nm [a] dg rx l sp fl k).fin = ocH dg l 12 [a] k := by kernel_rfl
theorem oc2_12 : (ocE 12 nm [a, b] dg rx l sp fl k).fin = ocH dg l 12 [a, b] k := by kernel_rfl
theorem oc1_13 : (ocE 13 nm [a] dg rx l sp fl k).fin = ocH dg l 13 [a] k := by kernel_rfl
theorem oc2_13 : (ocE 13 nm [a, b] dg rx l sp fl k).fin = ocH dg l 13 [a, b] k := by kernel_rfl
theorem oc1_14 : (ocE 14 nm [a] dg rx l sp fl k).fin = ocH dg l 14 [a] k := by kernel_rfl
theorem oc2_14 : (ocE 14 nm [a, b] dg rx l sp fl k).fin = ocH dg l 14 [a, b] k := by kernel_rfl
theorem oc1_15 : (ocE 15 nm [a] dg rx l sp fl k).fin = ocH dg l 15 [a] k := by kernel_rfl
theorem oc2_15 : (ocE 15 nm [a, b] dg rx l sp fl k).fin = ocH dg l 15 [a, b] k := by kernel_rfl
theorem oc1_16 : (ocE 16 nm [a] dg rx l sp fl k).fin = ocH dg l 16 [a] k := by kernel_rfl
theorem oc2_16 : (ocE 16 nm [a, b] dg rx l sp fl k).fin = ocH dg l 16 [a, b] k := by kernel_rfl
end
end Go.Amd

namespace Go.Amd
open Go Go.Ab Go.Proofs
def ocB (f : Int) (last : Bool) (c a : Int) : Bool :=
  cond (cond last (f == 2 || f == 12) false) (andn c 7 == a) (cond (cond last (f == 11 || f == 15 || f == 16) false) (cond (condF (wi (and8 c 15))) (andn c 15 == a) false) (cond (cond (f == 6) (c == 129) false) (131 == a) (c == a)))
def ocV (f dg r : Int) : List Int → Int → List Int → Bool
  | [], p, t => tlV f dg r p t
  | _ :: _, _, [] => true
  | a :: op, _, c :: t => and' (ocB f op.isEmpty c a) (ocV f dg r op c t)
theorem ocC_run {f dg r a c p : Int} {op t : List Int} {last : Bool} {K : Option V} (hK : K = some (.bool (ocV f dg r op p t))) :
    ocC f last c (fun c => cond (c != a) (bO' false) K) = some (.bool (and' (ocB f last c a) (ocV f dg r op p t))) := by
  unfold ocC ocB and'
  subst hK
  have nb : ∀ x y : Int, (x != y) = !(x == y) := fun _ _ => rfl
  simp only [nb]
  cases cond last (f == 2 || f == 12) false
  · cases cond last (f == 11 || f == 15 || f == 16) false
    · cases f == 6
      · cases c == a <;> rfl
      · cases c == 129
        · cases c == a <;> rfl
        · cases (131 : Int) == a <;> rfl
    · cases condF (wi (and8 c 15))
      · rfl
      · cases andn c 15 == a <;> rfl
  · cases andn c 7 == a <;> rfl
theorem ocH_run {l : List Int} {f dg : Int} (hl : l.length < 1000) : ∀ (op : List Int) (k : Int), 0 ≤ k → k ≤ l.length → (op = [] → 1 ≤ k) → ocH dg l f op k = some (.bool (ocV f dg (rexOX l) op (atX l (k - 1)) (l.drop k.toNat)))
  | [], k, _, k1, h => by
    unfold ocH ocT
    rw [decide_eq_true ⟨h rfl, k1, hl⟩]
    rfl
  | a :: op, k, k0, k1, _ => by
    unfold ocH
    by_cases hk : k < (l.length : Int)
    · have e1 : wi (k + 1) = k + 1 := wrap_i64 (n := k + 1) (by omega) (by omega)
      have e2 : (k == (l.length : Int)) = false := beq_false_of_ne (by omega)
      rw [e2, inside_of k0 hk, drop_get k0 hk, cond_false, cond_true]
      have ih := ocH_run hl (f := f) (dg := dg) op (k + 1) (by omega) (by omega) (fun _ => by omega)
      rw [show k + 1 - 1 = k by omega] at ih
      rw [e1]
      exact ocC_run (p := atX l k) ih
    · have e2 : (k == (l.length : Int)) = true := beq_iff_eq.2 (by omega)
      rw [e2, show l.drop k.toNat = [] from List.drop_eq_nil_iff.2 (by omega)]
      rfl
def opcodeX : Ab.Spec := fun args => match args with
  | [.agg [.str _, .int .i64 f, .sl (.int .u8) op [] .ro, .int .i64 dg, .int .i64 _], .sl (.int .u8) l _ _, .int .i64 k] =>
    .req (formsX.contains f) (.req (op.length == 1 || op.length == 2) (.req (decide (0 ≤ k ∧ k ≤ l.length ∧ l.length < 1000)) (.leaf (.bool (ocV f dg (rexOX l) op (atX l (k - 1)) (l.drop k.toNat))))))
  | _ => .fail
theorem oc_any {nm : List UInt8} {op : List Int} {dg rx : Int} {l sp : List Int} {fl : Fl} {k f : Int} (hf : f ∈ formsX) (ho : (op.length == 1 || op.length == 2) = true) : (ocE f nm op dg rx l sp fl k).fin = ocH dg l f op k := by
  simp only [formsX, List.mem_cons, List.not_mem_nil, or_false] at hf
  match op, ho with
  | [a], _ =>
    rcases hf with rfl | rfl | rfl | rfl | rfl | rfl | rfl | rfl | rfl | rfl | rfl | rfl | rfl | rfl | rfl | rfl
    · exact oc1_1 nm a dg rx l sp fl k
    · exact oc1_2 nm a dg rx l sp fl k
    · exact oc1_3 nm a dg rx l sp fl k
    · exact oc1_4 nm a dg rx l sp fl k
    · exact oc1_5 nm a dg rx l sp fl k
    · exact oc1_6 nm a dg rx l sp fl k
    · exact oc1_7 nm a dg rx l sp fl k
    · exact oc1_8 nm a dg rx l sp fl k
    · exact oc1_9 nm a dg rx l sp fl k
    · exact oc1_10 nm a dg rx l sp fl k
    · exact oc1_11 nm a dg rx l sp fl k
    · exact oc1_12 nm a dg rx l sp fl k
    · exact oc1_13 nm a dg rx l sp fl k
    · exact oc1_14 nm a dg rx l sp fl k
    · exact oc1_15 nm a dg rx l sp fl k
    · exact oc1_16 nm a dg rx l sp fl k
  | [a, b], _ =>
    rcases hf with rfl | rfl | rfl | rfl | rfl | rfl | rfl | rfl | rfl | rfl | rfl | rfl | rfl | rfl | rfl | rfl
    · exact oc2_1 nm a b dg rx l sp fl k
    · exact oc2_2 nm a b dg rx l sp fl k
    · exact oc2_3 nm a b dg rx l sp fl k
    · exact oc2_4 nm a b dg rx l sp fl k
    · exact oc2_5 nm a b dg rx l sp fl k
    · exact oc2_6 nm a b dg rx l sp fl k
    · exact oc2_7 nm a b dg rx l sp fl k
    · exact oc2_8 nm a b dg rx l sp fl k
    · exact oc2_9 nm a b dg rx l sp fl k
    · exact oc2_10 nm a b dg rx l sp fl k
    · exact oc2_11 nm a b dg rx l sp fl k
    · exact oc2_12 nm a b dg rx l sp fl k
    · exact oc2_13 nm a b dg rx l sp fl k
    · exact oc2_14 nm a b dg rx l sp fl k
    · exact oc2_15 nm a b dg rx l sp fl k
    · exact oc2_16 nm a b dg rx l sp fl k
  | [], h => cases h
  | _ :: _ :: _ :: _, h => exact absurd h (by simp)
theorem opcodeX_ok : Sound Try.prog 57 opcodeX := by
  intro args out h
  unfold opcodeX at h
  split at h
  rotate_left
  · cases h
  rename_i nm f op dg rx l sp fl k
  obtain ⟨h1, h⟩ := req_run h
  obtain ⟨h2, h⟩ := req_run h
  obtain ⟨h3, h⟩ := req_run h
  have h := leaf_out h
  subst h
  obtain ⟨k0, k1, hl⟩ := of_decide_eq_true h3
  have hf : f ∈ formsX := by simpa using h1
  have hne : op = [] → 1 ≤ k := by rintro rfl; cases h2
  exact pcall_fun' (cx := cx57) (fn := Try.f57) (cx1_ok (.cons condXS_ok (ok1 tailX_ok)) (.nil _) rfl rfl) (by kernel_rfl) (by kernel_rfl) (by kernel_rfl) ((Tree.fin_run _).symm.trans ((oc_any hf h2).trans (ocH_run hl op k k0 k1 hne)))
noncomputable def cx56 : Cx := { P := Try.prog, n := 90, tab := [], mtab := [], refs := [], keeps := [0, 1, 2, 4, 5, 6, 7, 8, 12, 33, 37, 61] }
noncomputable abbrev rdE (f : Int) (nm : List UInt8) (op : List Int) (dg rx r : Int) := (dfun cx56 Try.f56 [.agg [.str nm, .int .i64 f, .sl (.int .u8) op [] .ro, .int .i64 dg, .int .i64 rx], .int .i64 r])
def andni (a b : Int) : Int := IntKind.wrap .i64 ↑(BitVec.toNat (BitVec.ofInt 64 a &&& ~~~(BitVec.ofInt 64 b)))
def usedX (f : Int) : Int := cond (f == 1 || f == 7 || f == 11 || f == 4 || f == 5) (cond (f == 4) 7 (cond (f == 5) 4 5)) (cond (f == 9 || f == 13 || f == 14 || f == 15 || f == 16) 0 1)
def rdL (rx r : Int) (b : Bool) : Option V := cond b (cond (decide (0 < rx)) (bO' true) (bO' (decide (0 < andi r 7)))) (bO' false)
def rdH (f rx r : Int) : Option V := cond (decide (r < 0)) (bO' (rx == 0)) (cond ((andi (Int.fdiv r (2 ^ 3)) 1 == 1) == (rx == 2)) (rdL rx r (andni (andi r 7) (usedX f) == 0)) (rdL rx r false))
def rexV (f rx r : Int) : Bool := cond (decide (r < 0)) (rx == 0) (cond ((andi (Int.fdiv r (2 ^ 3)) 1 == 1) == (rx == 2)) (cond (andni (andi r 7) (usedX f) == 0) (cond (decide (0 < rx)) true (decide (0 < andi r 7))) false) false)
section
variable (nm : List UInt8) (op : List Int) (dg rx r : Int)
theorem rd_1 : (rdE 1 nm op dg rx r).fin = rdH 1 rx r := by kernel_rfl
theorem rd_2 : (rdE 2 nm op dg rx r).fin = rdH 2 rx r := by kernel_rfl
theorem rd_3 : (rdE 3 nm op dg rx r).fin = rdH 3 rx r := by kernel_rfl
theorem rd_4 : (rdE 4 nm op dg rx r).fin = rdH 4 rx r := by kernel_rfl
theorem rd_5 : (rdE 5 nm op dg rx r).fin = rdH 5 rx r := by kernel_rfl
theorem rd_6 : (rdE 6 nm op dg rx r).fin = rdH 6 rx r := by kernel_rfl
theorem rd_7 : (rdE 7 nm op dg rx r).fin = rdH 7 rx r := by kernel_rfl
theorem rd_8 : (rdE 8 nm op dg rx r).fin = rdH 8 rx r := by kernel_rfl
theorem rd_9 : (rdE 9 nm op dg rx r).fin = rdH 9 rx r := by kernel_rfl
theorem rd_10 : (rdE 10 nm op dg rx r).fin = rdH 10 rx r := by kernel_rfl
theorem rd_11 : (rdE 11 nm op dg rx r).fin = rdH 11 rx r := by kernel_rfl
theorem rd_12 : (rdE 12 nm op dg rx r).fin = rdH 12 rx r := by kernel_rfl
theorem rd_13 : (rdE 13 nm op dg rx r).fin = rdH 13 rx r := by kernel_rfl
theorem rd_14 : (rdE 14 nm op dg rx r).fin = rdH 14 rx r := by kernel_rfl
theorem rd_15 : (rdE 15 nm op dg rx r).fin = rdH 15 rx r := by kernel_rfl
theorem rd_16 : (rdE 16 nm op dg rx r).fin = rdH 16 rx r := by kernel_rfl
end
theorem rd_any {nm : List UInt8} {op : List Int} {dg rx r f : Int} (hf : f ∈ formsX) : (rdE f nm op dg rx r).fin = rdH f rx r := by
  simp only [formsX, List.mem_cons, List.not_mem_nil, or_false] at hf
  rcases hf with rfl | rfl | rfl | rfl | rfl | rfl | rfl | rfl | rfl | rfl | rfl | rfl | rfl | rfl | rfl | rfl
  · exact rd_1 nm op dg rx r
  · exact rd_2 nm op dg rx r
  · exact rd_3 nm op dg rx r
  · exact rd_4 nm op dg rx r
  · exact rd_5 nm op dg rx r
  · exact rd_6 nm op dg rx r
  · exact rd_7 nm op dg rx r
  · exact rd_8 nm op dg rx r
  · exact rd_9 nm op dg rx r
  · exact rd_10 nm op dg rx r
  · exact rd_11 nm op dg rx r
  · exact rd_12 nm op dg rx r
  · exact rd_13 nm op dg rx r
  · exact rd_14 nm op dg rx r
  · exact rd_15 nm op dg rx r
  · exact rd_16 nm op dg rx r
def rexedX : Ab.Spec := fun args => match args with
  | [.agg [.str _, .int .i64 f, .sl (.int .u8) _ [] .ro, .int .i64 _, .int .i64 rx], .int .i64 r] => .req (formsX.contains f) (.leaf (.bool (rexV f rx r)))
  | _ => .fail
theorem rexedX_ok : Sound Try.prog 56 rexedX := by
  intro args out h
  unfold rexedX at h
  split at h
  rotate_left
  · cases h
  rename_i nm f op dg rx r
  obtain ⟨h1, h⟩ := req_run h
  have h := leaf_out h
  subst h
  have hf : f ∈ formsX := by simpa using h1
  refine pcall_fun' (cx := cx56) (fn := Try.f56) (cx0_ok rfl rfl) (by kernel_rfl) (by kernel_rfl) (by kernel_rfl) ((Tree.fin_run _).symm.trans ((rd_any hf).trans ?_))
  unfold rdH rdL rexV
  cases decide (r < 0) <;> cases ((andi (Int.fdiv r (2 ^ 3)) 1 == 1) == (rx == 2)) <;> cases andni (andi r 7) (usedX f) == 0 <;> cases decide (0 < rx) <;> rfl
end Go.Amd

namespace Go.Amd
open Go Go.Ab Go.Proofs
noncomputable def cx24 : Cx := { P := Try.prog, n := 61, tab := [(52, atS), (53, tableS), (56, rexedX), (57, opcodeX)], mtab := [], refs := [], keeps := [0, 2, 3, 4, 5, 6, 7, 11, 15, 21, 33, 60] }
noncomputable abbrev Bgo : Code := bodyOf Try.f24
noncomputable abbrev Rgo : Code := cin (cin (c2 (c1 (tailN 7 Bgo))))
def opL : Option (List Int) → List Int
  | some l => l
  | none => []
section
variable (l sp : List Int) (fl : Fl) (k r : Int) (fs : Bool) (j : Int)
def goSt (x : Bool) (n : Int) : T := [(0, .sl (.int .u8) l sp fl), (2, .bool x), (3, .int .i64 k), (4, .bool fs), (5, .int .i64 r), (6, .sl rowXE rowsX [] .ro), (7, .int .i64 n)]
def goR (y : RowX) : Option St :=
  cond (fs == (y.2.1 == 5)) (cond (rexV y.2.1 y.2.2.2.2 r) (cond (decide (0 ≤ k ∧ k ≤ l.length ∧ l.length < 1000)) (cond (ocV y.2.1 y.2.2.2.1 (rexOX l) (opL y.2.2.1) (atX l (k - 1)) (l.drop k.toNat))
    (some (.ret, goSt l sp fl k r fs true j, [])) (some (.normal, goSt l sp fl k r fs false (wi (j + 1)), []))) none) (some (.normal, goSt l sp fl k r fs false (wi (j + 1)), []))) (some (.normal, goSt l sp fl k r fs false (wi (j + 1)), []))
end
theorem go_rows : (List.range 58).map (fun (j : Nat) => fun (l sp : List Int) (fl : Fl) (k r : Int) (fs : Bool) => ((dcode cx24 Rgo (goSt l sp fl k r fs false (j : Int)) []).bind (rnd 0 [] [0, 2, 3, 4, 5, 6, 7])).fin)
  = (List.range 58).map (fun (j : Nat) => fun (l sp : List Int) (fl : Fl) (k r : Int) (fs : Bool) => goR l sp fl k r fs (j : Int) (rowsX.getD j zeroX)) := by kernel_rfl
theorem go_end (l sp : List Int) (fl : Fl) (k r : Int) (fs : Bool) : ((dcode cx24 Rgo (goSt l sp fl k r fs false 58) []).bind (rnd 0 [] [0, 2, 3, 4, 5, 6, 7])).fin = some (.exit 0, goSt l sp fl k r fs false 58, []) := by kernel_rfl
section
variable (l sp : List Int) (fl : Fl)
def goN (k r : Int) (a b : Bool) (c : Bool) : Option St := some (.normal, [(0, .sl (.int .u8) l sp fl), (2, .bool false), (3, .int .i64 k), (4, .bool (atX l 0 == 100)), (5, .int .i64 r), (11, .bool a), (15, .bool b), (21, .bool c)], [])
def goK (k : Int) (a : Bool) : Option St :=
  cond ((l.length : Nat) == k) (some (.ret, [(0, .sl (.int .u8) l sp fl), (2, .bool true), (3, .int .i64 k), (4, .bool (atX l 0 == 100)), (11, .bool a), (15, .bool true)], []))
    (cond (inside k l.length) (cond (Int.fdiv (pM l k) (2 ^ 4) == 4) (cond (inside k l.length) (goN l sp fl (wi (k + 1)) (wi (pM l k)) a false true) none) (goN l sp fl k (-1) a false false)) none)
def goHd : Option St := cond (atX l 0 == 100) (goK l sp fl 1 true) (goK l sp fl 0 false)
end
theorem goHd_eq (l sp : List Int) (fl : Fl) : (dcode cx24 (headN 6 Bgo) (initT 0 [.sl (.int .u8) l sp fl]) []).fin = goHd l sp fl := by kernel_rfl
end Go.Amd
