/-
  compact's words, plainly: a word is its fields' numbers one behind the other. Conditions: none.
-/
import Derived.Test.YtaedihkgdmaofaaDoorCm15
namespace Go.Cmp
open Go Go.Ab

theorem wrap_u16 (n : Int) : IntKind.wrap .u16 n = n % 65536 := by
  simp [IntKind.wrap, IntKind.bits, IntKind.signed]
theorem wrap_u8 (n : Int) : IntKind.wrap .u8 n = n % 256 := by
  simp [IntKind.wrap, IntKind.bits, IntKind.signed]
theorem ofInt16_cast {m : Nat} (h : m < 2 ^ 16) : (BitVec.ofInt 16 (m : Int)).toNat = m := by
  rw [BitVec.toNat_ofInt]
  omega
theorem or16_cast {a b : Nat} (ha : a < 2 ^ 16) (hb : b < 2 ^ 16) : or16 (a : Int) (b : Int) = ((a ||| b : Nat) : Int) := by
  unfold or16
  rw [wrap_u16, BitVec.toNat_or, ofInt16_cast ha, ofInt16_cast hb]
  have : a ||| b < 2 ^ 16 := Nat.or_lt_two_pow ha hb
  omega
theorem and16_cast {a b : Nat} (ha : a < 2 ^ 16) (hb : b < 2 ^ 16) : and16 (a : Int) (b : Int) = ((a &&& b : Nat) : Int) := by
  unfold and16
  rw [wrap_u16, BitVec.toNat_and, ofInt16_cast ha, ofInt16_cast hb]
  have : a &&& b < 2 ^ 16 := Nat.and_lt_two_pow _ hb
  omega

/-! Numbers of so many bits, one behind the other. -/

def wd (f : FldT) : Nat := f.1.toNat
def sumB : List FldT → Nat
  | [] => 0
  | f :: r => wd f + sumB r
def catF : List FldT → List Int → Int → Int
  | f :: fs, v :: vs, w => catF fs vs (w * 2 ^ wd f + v)
  | _, _, w => w
def InR : List FldT → List Int → Prop
  | [], [] => True
  | f :: fs, v :: vs => (0 ≤ v ∧ v < 2 ^ wd f) ∧ InR fs vs
  | _, _ => False
def takesF (w : Int) : List FldT → List Int
  | [] => []
  | f :: r => w / 2 ^ sumB r % 2 ^ wd f :: takesF w r
def fOk (f : FldT) : Bool := decide (1 ≤ f.1) && (decide (f.1 ≤ 5) && (decide (0 ≤ f.2.2.1) && decide (f.2.2.1 < 2 ^ wd f)))

theorem pow_pos' (k : Nat) : (0 : Int) < 2 ^ k := Int.pow_pos (by omega)
theorem div_pow (w : Int) (a b : Nat) : w / 2 ^ (a + b) = w / 2 ^ b / 2 ^ a := by
  rw [Int.pow_add, Int.mul_comm, Int.ediv_ediv_of_nonneg (Int.le_of_lt (pow_pos' b))]

theorem catF_div : ∀ {fs : List FldT} {vs : List Int} {w : Int}, InR fs vs → catF fs vs w / 2 ^ sumB fs = w
  | [], [], w, _ => by simp [catF, sumB]
  | f :: fs, v :: vs, w, h => by
    obtain ⟨⟨h1, h2⟩, h3⟩ := h
    show catF fs vs (w * 2 ^ wd f + v) / 2 ^ (wd f + sumB fs) = w
    rw [div_pow, catF_div h3, Int.add_comm, Int.add_mul_ediv_right _ _ (Int.ne_of_gt (pow_pos' _)), Int.ediv_eq_zero_of_lt h1 h2]
    omega
theorem takes_cat : ∀ {fs : List FldT} {vs : List Int} {w : Int}, InR fs vs → takesF (catF fs vs w) fs = vs
  | [], [], w, _ => rfl
  | f :: fs, v :: vs, w, h => by
    obtain ⟨⟨h1, h2⟩, h3⟩ := h
    show catF fs vs (w * 2 ^ wd f + v) / 2 ^ sumB fs % 2 ^ wd f :: takesF (catF fs vs (w * 2 ^ wd f + v)) fs = v :: vs
    rw [catF_div h3, takes_cat h3, Int.add_comm, Int.add_mul_emod_self_right, Int.emod_eq_of_lt h1 h2]
theorem takes_in (w : Int) : ∀ (fs : List FldT), InR fs (takesF w fs)
  | [] => trivial
  | _ :: r => ⟨⟨Int.emod_nonneg _ (Int.ne_of_gt (pow_pos' _)), Int.emod_lt_of_pos _ (pow_pos' _)⟩, takes_in w r⟩
theorem cat_takes (w : Int) : ∀ (fs : List FldT), catF fs (takesF w fs) (w / 2 ^ sumB fs) = w
  | [] => by simp [catF, sumB]
  | f :: r => by
    show catF r (takesF w r) (w / 2 ^ (wd f + sumB r) * 2 ^ wd f + w / 2 ^ sumB r % 2 ^ wd f) = w
    rw [div_pow, Int.mul_comm, Int.mul_ediv_add_emod]
    exact cat_takes w r
theorem catF_rng : ∀ {fs : List FldT} {vs : List Int} {w : Int} {k : Nat}, InR fs vs → 0 ≤ w → w < 2 ^ k → 0 ≤ catF fs vs w ∧ catF fs vs w < 2 ^ (k + sumB fs)
  | [], [], w, k, _, h0, h1 => ⟨h0, h1⟩
  | f :: fs, v :: vs, w, k, h, h0, h1 => by
    obtain ⟨⟨h2, h3⟩, h4⟩ := h
    have p := pow_pos' (wd f)
    have a1 : 0 ≤ w * 2 ^ wd f := Int.mul_nonneg h0 (Int.le_of_lt p)
    have a2 : w * 2 ^ wd f + v < 2 ^ (k + wd f) := by
      rw [Int.pow_add]
      have : (w + 1) * 2 ^ wd f ≤ 2 ^ k * 2 ^ wd f := Int.mul_le_mul_of_nonneg_right (by omega) (Int.le_of_lt p)
      rw [Int.add_mul, Int.one_mul] at this
      omega
    have := catF_rng (k := k + wd f) h4 (by omega : 0 ≤ w * 2 ^ wd f + v) a2
    show 0 ≤ catF fs vs (w * 2 ^ wd f + v) ∧ catF fs vs (w * 2 ^ wd f + v) < 2 ^ (k + (wd f + sumB fs))
    rw [← Nat.add_assoc]
    exact this

/-! What the program's steps come to. -/

theorem fOk_spec {f : FldT} (h : fOk f = true) : (f.1 = ((wd f : Nat) : Int) ∧ 1 ≤ wd f ∧ wd f ≤ 5) ∧ 0 ≤ f.2.2.1 ∧ f.2.2.1 < 2 ^ wd f := by
  simp only [fOk, Bool.and_eq_true, decide_eq_true_eq] at h
  obtain ⟨h1, h2, h3, h4⟩ := h
  unfold wd at *
  refine ⟨⟨?_, ?_, ?_⟩, h3, h4⟩ <;> omega
theorem mask_eq {k : Nat} (h1 : 1 ≤ k) (h5 : k ≤ 5) : mask16 (k : Int) = ((2 ^ k - 1 : Nat) : Int) := by
  have : k = 1 ∨ k = 2 ∨ k = 3 ∨ k = 4 ∨ k = 5 := by omega
  rcases this with h | h | h | h | h <;> subst h <;> decide
theorem and_mask {n : Int} {k : Nat} (h1 : 1 ≤ k) (h5 : k ≤ 5) : and16 (n % 65536) (mask16 (k : Int)) = n % 2 ^ k := by
  rw [mask_eq h1 h5]
  obtain ⟨m, hm⟩ := Int.eq_ofNat_of_zero_le (Int.emod_nonneg n (by decide : (65536 : Int) ≠ 0))
  have hlt := Int.emod_lt_of_pos n (by decide : (0 : Int) < 65536)
  rw [hm] at hlt ⊢
  have hp : (2 : Nat) ^ k ≤ 2 ^ 5 := Nat.pow_le_pow_right (by omega) h5
  rw [and16_cast (by omega) (by omega), Nat.and_two_pow_sub_one_eq_mod]
  have : n % 2 ^ k = (n % 65536) % 2 ^ k := by
    refine (Int.emod_emod_of_dvd _ ?_).symm
    exact ⟨2 ^ (16 - k), by rw [← Int.pow_add, show k + (16 - k) = 16 by omega]; rfl⟩
  rw [this, hm]
  simp
theorem and_wrap {n : Int} {k : Nat} (h1 : 1 ≤ k) (h5 : k ≤ 5) : and16 (u16 n) (mask16 (k : Int)) = n % 2 ^ k := by
  unfold u16
  rw [wrap_u16]
  exact and_mask h1 h5
theorem valF_of {f : FldT} (h : fOk f = true) (i : InsT) : valF f i = cond (f.2.1 == 0) f.2.2.1 (srcF f i % 2 ^ wd f) := by
  obtain ⟨⟨h1, h2, h3⟩, _, _⟩ := fOk_spec h
  unfold valF
  rw [h1, and_wrap h2 h3]
theorem valF_rng {f : FldT} (h : fOk f = true) (i : InsT) : 0 ≤ valF f i ∧ valF f i < 2 ^ wd f := by
  obtain ⟨_, g1, g2⟩ := fOk_spec h
  rw [valF_of h]
  cases f.2.1 == 0
  · exact ⟨Int.emod_nonneg _ (Int.ne_of_gt (pow_pos' _)), Int.emod_lt_of_pos _ (pow_pos' _)⟩
  · exact ⟨g1, g2⟩
theorem vals_in (i : InsT) : ∀ {fs : List FldT}, fs.all fOk = true → InR fs (fs.map fun f => valF f i)
  | [], _ => trivial
  | f :: r, h => by
    rw [List.all_cons, Bool.and_eq_true] at h
    exact ⟨valF_rng h.1 i, vals_in i h.2⟩
theorem or_add {w v : Int} {b : Nat} (w0 : 0 ≤ w) (w1 : w * 2 ^ b < 65536) (v0 : 0 ≤ v) (v1 : v < 2 ^ b) (hb : b ≤ 5) : or16 (u16 (w * 2 ^ min b 16)) v = w * 2 ^ b + v := by
  rw [Nat.min_eq_left (by omega)]
  obtain ⟨n, rfl⟩ := Int.eq_ofNat_of_zero_le w0
  obtain ⟨m, rfl⟩ := Int.eq_ofNat_of_zero_le v0
  unfold u16
  rw [wrap_u16, Int.emod_eq_of_lt (Int.mul_nonneg w0 (Int.le_of_lt (pow_pos' _))) w1]
  have e : (n : Int) * 2 ^ b = ((n <<< b : Nat) : Int) := by rw [Nat.shiftLeft_eq]; simp
  have hp : (2 : Nat) ^ b ≤ 2 ^ 5 := Nat.pow_le_pow_right (by omega) hb
  have hm : m < 2 ^ b := by
    have e2 : ((2 : Int) ^ b) = ((2 ^ b : Nat) : Int) := by simp
    omega
  rw [e] at w1 ⊢
  rw [or16_cast (by omega) (by omega), ← Nat.shiftLeft_add_eq_or_of_lt hm]
  omega
theorem enc_cat (i : InsT) : ∀ {fs : List FldT} {w : Int} {k : Nat}, fs.all fOk = true → 0 ≤ w → w < 2 ^ k → k + sumB fs ≤ 16 →
    fs.foldl (fun w f => or16 (u16 (w * 2 ^ min f.1.toNat 16)) (valF f i)) w = catF fs (fs.map fun f => valF f i) w
  | [], w, k, _, _, _, _ => rfl
  | f :: r, w, k, h, h0, h1, hk => by
    rw [List.all_cons, Bool.and_eq_true] at h
    obtain ⟨⟨f1, f2, f3⟩, _, _⟩ := fOk_spec h.1
    obtain ⟨v0, v1⟩ := valF_rng h.1 i
    have hk' : k + wd f + sumB r ≤ 16 := by
      have : sumB (f :: r) = wd f + sumB r := rfl
      omega
    have p := pow_pos' (wd f)
    have a1 : 0 ≤ w * 2 ^ wd f := Int.mul_nonneg h0 (Int.le_of_lt p)
    have a2 : w * 2 ^ wd f + 2 ^ wd f ≤ 2 ^ (k + wd f) := by
      rw [Int.pow_add]
      have : (w + 1) * 2 ^ wd f ≤ 2 ^ k * 2 ^ wd f := Int.mul_le_mul_of_nonneg_right (by omega) (Int.le_of_lt p)
      rw [Int.add_mul, Int.one_mul] at this
      exact this
    have a3 : (2 : Int) ^ (k + wd f) ≤ 2 ^ 16 := by
      have := Nat.pow_le_pow_right (n := 2) (by omega) (show k + wd f ≤ 16 by omega)
      have e : ∀ j : Nat, ((2 : Int) ^ j) = ((2 ^ j : Nat) : Int) := fun j => by simp
      rw [e, e]
      omega
    show r.foldl _ (or16 (u16 (w * 2 ^ min (wd f) 16)) (valF f i)) = catF r (r.map fun f => valF f i) (w * 2 ^ wd f + valF f i)
    rw [or_add h0 (by omega) v0 v1 f3]
    exact enc_cat i h.2 (by omega) (by omega : w * 2 ^ wd f + valF f i < 2 ^ (k + wd f)) hk'
theorem take_eq' {w : Int} {k l : Nat} (h1 : 1 ≤ k) (h5 : k ≤ 5) (hl : l ≤ 16) (w0 : 0 ≤ w) (w1 : w < 65536) : takeV w (k : Int) (l : Int) = w / 2 ^ l % 2 ^ k := by
  unfold takeV
  rw [Int.toNat_natCast, Nat.min_eq_left hl, Int.fdiv_eq_ediv_of_nonneg _ (Int.le_of_lt (pow_pos' _))]
  have a := Int.ediv_nonneg w0 (Int.le_of_lt (pow_pos' l))
  have b : w / 2 ^ l ≤ w := Int.ediv_le_self _ w0
  rw [← and_mask h1 h5, Int.emod_eq_of_lt a (by omega)]

/-! A row's reading, of the fields' numbers. -/

def shV (f : FldT) (v : Int) : Int := cond f.2.2.2.2 (i64 (i64 v + 8)) (i64 v)
def givL : List FldT → List Int → Bool
  | f :: fs, v :: vs => cond (f.2.1 == 0) (shV f v == i64 f.2.2.1) true && givL fs vs
  | _, _ => true
def regL (c : Int) : List FldT → List Int → Int → Int
  | f :: fs, v :: vs, a => regL c fs vs (cond (f.2.1 == c) (shV f v) a)
  | _, _, a => a
def isN (f : FldT) : Bool := !(f.2.1 == 0) && (!(f.2.1 == 97) && (!(f.2.1 == 98) && !(f.2.1 == 99)))
def immL : List FldT → List Int → Int × Int → Int × Int
  | f :: fs, v :: vs, p => immL fs vs (cond (isN f) (or64 p.1 (i64 (shV f v * 2 ^ min f.2.2.2.1.toNat 64)), max p.2 (f.2.2.2.1 + f.1)) p)
  | _, _, p => p
def insA (x : RowT) (fs : List FldT) (vs : List Int) (a b c : Int) (p : Int × Int) : InsT :=
  signI x (regL 97 fs vs a) (regL 98 fs vs b) (regL 99 fs vs c) (immL fs vs p).1 (immL fs vs p).2
theorem insA_cons (x : RowT) (f : FldT) (fs : List FldT) (v : Int) (vs : List Int) (a b c : Int) (p : Int × Int) :
    insA x (f :: fs) (v :: vs) a b c p = insA x fs vs (cond (f.2.1 == 97) (shV f v) a) (cond (f.2.1 == 98) (shV f v) b) (cond (f.2.1 == 99) (shV f v) c)
      (cond (isN f) (or64 p.1 (i64 (shV f v * 2 ^ min f.2.2.2.1.toNat 64)), max p.2 (f.2.2.2.1 + f.1)) p) := rfl
theorem givL_cons (f : FldT) (fs : List FldT) (v : Int) (vs : List Int) : givL (f :: fs) (v :: vs) = (cond (f.2.1 == 0) (shV f v == i64 f.2.2.1) true && givL fs vs) := rfl
theorem immL_cons (f : FldT) (fs : List FldT) (v : Int) (vs : List Int) (p : Int × Int) :
    immL (f :: fs) (v :: vs) p = immL fs vs (cond (isN f) (or64 p.1 (i64 (shV f v * 2 ^ min f.2.2.2.1.toNat 64)), max p.2 (f.2.2.2.1 + f.1)) p) := rfl
theorem read_parts {x : RowT} {w : Int} (w0 : 0 ≤ w) (w1 : w < 65536) : ∀ {fs : List FldT} {left a b c n top : Int}, fs.all fOk = true → left = (sumB fs : Nat) → sumB fs ≤ 16 →
    readI x w fs left a b c n top = cond (givL fs (takesF w fs)) (insA x fs (takesF w fs) a b c (n, top), faultyF x (insA x fs (takesF w fs) a b c (n, top)) == 0) (zeroI, false)
  | [], left, a, b, c, n, top, _, _, _ => rfl
  | f :: r, left, a, b, c, n, top, h, hl, h16 => by
    rw [List.all_cons, Bool.and_eq_true] at h
    obtain ⟨⟨f1, f2, f3⟩, _, _⟩ := fOk_spec h.1
    have hs : sumB (f :: r) = wd f + sumB r := rfl
    have hl' : left - f.1 = (sumB r : Nat) := by omega
    have ht : takeF takeV f (left - f.1) w = shV f (w / 2 ^ sumB r % 2 ^ wd f) := by
      unfold takeF shV
      rw [hl', f1, take_eq' f2 f3 (by omega) w0 w1]
    have ih := fun a b c n top => read_parts (x := x) w0 w1 (fs := r) (left := left - f.1) (a := a) (b := b) (c := c) (n := n) (top := top) h.2 hl' (by omega)
    rw [show takesF w (f :: r) = w / 2 ^ sumB r % 2 ^ wd f :: takesF w r from rfl, insA_cons, givL_cons]
    unfold readI isN
    rw [ht, ih, ih, ih, ih, ih]
    generalize shV f (w / 2 ^ sumB r % 2 ^ wd f) = T
    have hne : ∀ {a b : Int}, (f.2.1 == a) = true → a ≠ b → (f.2.1 == b) = false := fun h hn => by
      rw [eq_of_beq h]
      exact beq_eq_false_iff_ne.2 hn
    cases h0 : (f.2.1 == 0)
    · cases h1 : (f.2.1 == 97)
      · cases h2 : (f.2.1 == 98)
        · cases h3 : (f.2.1 == 99) <;> rfl
        · rw [hne h2 (by decide : (98 : Int) ≠ 99)]; rfl
      · rw [hne h1 (by decide : (97 : Int) ≠ 98), hne h1 (by decide : (97 : Int) ≠ 99)]; rfl
    · rw [hne h0 (by decide : (0 : Int) ≠ 97), hne h0 (by decide : (0 : Int) ≠ 98), hne h0 (by decide : (0 : Int) ≠ 99)]
      unfold bne
      cases (T == i64 f.2.2.1) <;> rfl

/-! The rows' own facts, closed. -/

def fine1 (p : RowT × List FldT) : Bool := p.2.all fOk && sumB p.2 == 16
theorem fine1_all : pairsL.all fine1 = true := by kernel_rfl
theorem row_fine {x : RowT} (hx : x ∈ rowsL) : (flds x).all fOk = true ∧ sumB (flds x) = 16 := by
  have h := List.all_eq_true.1 fine1_all _ (pairs_mem hx)
  unfold fine1 at h
  rw [Bool.and_eq_true] at h
  exact ⟨h.1, eq_of_beq h.2⟩
theorem encW_cat {x : RowT} (hx : x ∈ rowsL) (i : InsT) : encW x i = catF (flds x) ((flds x).map fun f => valF f i) 0 := by
  obtain ⟨h1, h2⟩ := row_fine hx
  exact enc_cat i (k := 0) h1 (by omega) (by decide) (by omega)
theorem encW_rng {x : RowT} (hx : x ∈ rowsL) (i : InsT) : 0 ≤ encW x i ∧ encW x i < 65536 := by
  obtain ⟨h1, h2⟩ := row_fine hx
  rw [encW_cat hx]
  have := catF_rng (k := 0) (vals_in i h1) (show (0 : Int) ≤ 0 by omega) (by decide)
  rw [h2] at this
  exact this
theorem readX_parts {x : RowT} (hx : x ∈ rowsL) {w : Int} (w0 : 0 ≤ w) (w1 : w < 65536) :
    readX x w = cond (givL (flds x) (takesF w (flds x))) (insA x (flds x) (takesF w (flds x)) 0 0 0 (0, 0), faultyF x (insA x (flds x) (takesF w (flds x)) 0 0 0 (0, 0)) == 0) (zeroI, false) := by
  obtain ⟨h1, h2⟩ := row_fine hx
  exact read_parts w0 w1 h1 (by rw [h2]; rfl) (by omega)
theorem takes_enc {x : RowT} (hx : x ∈ rowsL) (i : InsT) : takesF (encW x i) (flds x) = (flds x).map fun f => valF f i := by
  rw [encW_cat hx]
  exact takes_cat (vals_in i (row_fine hx).1)

end Go.Cmp

namespace Go.Cmp
open Go Go.Ab

/-! The parts of what may be. -/

theorem faulty_parts {x : RowT} {i : InsT} (h : faultyF x i = 0) :
    regF x 97 i.2.1 = true ∧ regF x 98 i.2.2.1 = true ∧ regF x 99 i.2.2.2.1 = true ∧ i.2.2.2.2.1 = 0 ∧ ((hasF x 115).2 || i.2.2.2.2.2 == 0) = true ∧ rngF x i.2.2.2.2.2 = 0 := by
  unfold faultyF at h
  cases h1 : regF x 97 i.2.1
  · rw [h1] at h; cases h
  cases h2 : regF x 98 i.2.2.1
  · rw [h1, h2] at h; cases h
  cases h3 : regF x 99 i.2.2.2.1
  · rw [h1, h2, h3] at h; cases h
  cases h4 : (i.2.2.2.2.1 == 0)
  · rw [h1, h2, h3, h4] at h; cases h
  cases h5 : ((hasF x 115).2 || i.2.2.2.2.2 == 0)
  · rw [h1, h2, h3, h4, h5] at h; cases h
  · rw [h1, h2, h3, h4, h5] at h
    exact ⟨rfl, rfl, rfl, eq_of_beq h4, rfl, h⟩

/-! Registers. -/

theorem hasF_any (x : RowT) (c : Int) : (hasF x c).2 = (flds x).any fun f => f.2.1 == c := by
  unfold hasF
  generalize flds x = fs
  induction fs with
  | nil => rfl
  | cons f r ih =>
    rw [List.find?_cons, List.any_cons]
    cases h : (f.2.1 == c)
    · exact ih
    · rfl
/-- The fields of a register: all as the first; one at most. The given ones are not short. -/
def chOk (p : RowT × List FldT) (c : Int) : Bool :=
  (p.2.all fun f => !(f.2.1 == c) || (f.2.2.2.2 == (hasF p.1 c).1 && f.1 == cond f.2.2.2.2 3 5)) && decide ((p.2.filter fun f => f.2.1 == c).length ≤ 1)
def giOk (p : RowT × List FldT) : Bool := p.2.all fun f => !(f.2.1 == 0) || !f.2.2.2.2
def fine2 (p : RowT × List FldT) : Bool := chOk p 97 && (chOk p 98 && (chOk p 99 && giOk p))
theorem fine2_all : pairsL.all fine2 = true := by kernel_rfl
theorem row_ch {x : RowT} (hx : x ∈ rowsL) {c : Int} (hc : c = 97 ∨ c = 98 ∨ c = 99) :
    (∀ f ∈ flds x, f.2.1 = c → f.2.2.2.2 = (hasF x c).1 ∧ wd f = cond f.2.2.2.2 3 5) ∧ ((flds x).filter fun f => f.2.1 == c).length ≤ 1 := by
  have h := List.all_eq_true.1 fine2_all _ (pairs_mem hx)
  unfold fine2 at h
  simp only [Bool.and_eq_true] at h
  have hk : chOk (x, flds x) c = true := by
    rcases hc with rfl | rfl | rfl
    · exact h.1
    · exact h.2.1
    · exact h.2.2.1
  unfold chOk at hk
  simp only [Bool.and_eq_true, decide_eq_true_eq] at hk
  refine ⟨fun f hf he => ?_, hk.2⟩
  have := List.all_eq_true.1 hk.1 f hf
  rw [he] at this
  simp only [beq_self_eq_true, Bool.not_true, Bool.false_or, Bool.and_eq_true, beq_iff_eq] at this
  refine ⟨this.1, ?_⟩
  unfold wd
  rw [this.2]
  cases f.2.2.2.2 <;> rfl
theorem row_gi {x : RowT} (hx : x ∈ rowsL) : ∀ f ∈ flds x, f.2.1 = 0 → f.2.2.2.2 = false := by
  have h := List.all_eq_true.1 fine2_all _ (pairs_mem hx)
  unfold fine2 at h
  simp only [Bool.and_eq_true] at h
  intro f hf he
  have := List.all_eq_true.1 h.2.2.2 f hf
  rw [he] at this
  simpa using this

theorem regL_map (c : Int) (val : FldT → Int) (n : Int) : ∀ (fs : List FldT) (acc : Int), (∀ f ∈ fs, f.2.1 = c → shV f (val f) = n) →
    regL c fs (fs.map val) acc = cond (fs.any fun f => f.2.1 == c) n acc
  | [], acc, _ => rfl
  | f :: r, acc, h => by
    show regL c r (r.map val) (cond (f.2.1 == c) (shV f (val f)) acc) = _
    rw [regL_map c val n r _ (fun g hg => h g (List.mem_cons_of_mem _ hg)), List.any_cons]
    cases he : (f.2.1 == c)
    · rfl
    · rw [cond_true, h f List.mem_cons_self (eq_of_beq he), Bool.true_or, cond_true]
      cases (r.any fun f => f.2.1 == c) <;> rfl
theorem i64_of {n : Int} (h0 : -1000000 ≤ n) (h1 : n ≤ 1000000) : i64 n = n := wrap_i64 (by omega) (by omega)
theorem reg_back {x : RowT} (hx : x ∈ rowsL) {i : InsT} {c n : Int} (hc : c = 97 ∨ c = 98 ∨ c = 99) (hs : ∀ f : FldT, f.2.1 = c → srcF f i = n) (hr : regF x c n = true) :
    regL c (flds x) ((flds x).map fun f => valF f i) 0 = n := by
  obtain ⟨hk, _⟩ := row_ch hx hc
  have hok := (row_fine hx).1
  unfold regF at hr
  have key : (hasF x c).2 = true → ∀ f ∈ flds x, f.2.1 = c → shV f (valF f i) = n := by
    intro h2 f hf he
    obtain ⟨k1, k2⟩ := hk f hf he
    have hc0 : (f.2.1 == 0) = false := by
      rw [he]
      rcases hc with rfl | rfl | rfl <;> rfl
    rw [valF_of (List.all_eq_true.1 hok f hf), hc0, cond_false, hs f he, k2]
    unfold shV
    rw [h2, cond_true, ← k1] at hr
    cases hsh : f.2.2.2.2
    · rw [hsh] at hr
      simp only [cond_false, Bool.and_eq_true, decide_eq_true_eq] at hr
      show i64 (n % 2 ^ 5) = n
      rw [show ((2 : Int) ^ 5) = 32 from rfl, i64_of (by omega) (by omega)]
      omega
    · rw [hsh] at hr
      simp only [cond_true, Bool.and_eq_true, decide_eq_true_eq] at hr
      show i64 (i64 (n % 2 ^ 3) + 8) = n
      rw [show ((2 : Int) ^ 3) = 8 from rfl, i64_of (n := n % 8) (by omega) (by omega), i64_of (by omega) (by omega)]
      omega
  cases h2 : (hasF x c).2
  · rw [h2, cond_false] at hr
    have hn : n = 0 := eq_of_beq hr
    rw [hasF_any] at h2
    rw [regL_map c _ n _ 0 (fun f hf he => ?_), h2, cond_false, hn]
    have := List.any_eq_false.1 h2 f hf
    rw [he] at this
    simp at this
  · rw [regL_map c _ n _ 0 (key h2), ← hasF_any, h2, cond_true]

/-! Given bits. -/

theorem giv_back (i : InsT) : ∀ {fs : List FldT}, (∀ f ∈ fs, f.2.1 = 0 → f.2.2.2.2 = false) → givL fs (fs.map fun f => valF f i) = true
  | [], _ => rfl
  | f :: r, h => by
    show (cond (f.2.1 == 0) (shV f (valF f i) == i64 f.2.2.1) true && givL r (r.map fun f => valF f i)) = true
    rw [giv_back i (fun g hg => h g (List.mem_cons_of_mem _ hg)), Bool.and_true]
    cases h0 : (f.2.1 == 0)
    · rfl
    · unfold shV valF
      rw [h f List.mem_cons_self (eq_of_beq h0), h0]
      exact beq_self_eq_true _

/-! Numbers. -/

def immI (n : Int) : InsT := ([], 0, 0, 0, 0, n)
def sgnX (x : RowT) (p : Int × Int) : Int := cond (decide (x.2.2.1 < 0)) (cond (Int.fdiv p.1 (2 ^ min (p.2 - 1).toNat 64) != 0) (i64 (p.1 - i64 (1 * 2 ^ min p.2.toNat 64))) p.1) p.1
theorem valF_imm {f : FldT} (h : isN f = true) (i : InsT) : valF f i = valF f (immI i.2.2.2.2.2) := by
  unfold isN at h
  simp only [Bool.and_eq_true, Bool.not_eq_true'] at h
  obtain ⟨_, h1, h2, h3⟩ := h
  unfold valF srcF
  rw [h1, h2, h3]
  rfl
theorem imm_only (i : InsT) (fs : List FldT) : ∀ p : Int × Int, immL fs (fs.map fun f => valF f i) p = immL fs (fs.map fun f => valF f (immI i.2.2.2.2.2)) p := by
  induction fs with
  | nil => intro p; rfl
  | cons f r ih =>
    intro p
    rw [List.map_cons, List.map_cons, immL_cons, immL_cons, ih]
    cases h : isN f
    · rw [cond_false, cond_false]
    · rw [valF_imm h i]
/-- The numbers that a row takes. -/
def imms (x : RowT) : List Int := (List.range (((x.2.2.2.1 - x.2.2.1) / x.2.2.2.2.1).toNat + 1)).map fun k : Nat => x.2.2.1 + x.2.2.2.2.1 * (k : Int)
def byOk (x : RowT) : Bool := decide (0 < x.2.2.2.2.1) && x.2.2.1 % x.2.2.2.2.1 == 0
theorem byOk_all : rowsL.all byOk = true := by kernel_rfl
theorem imms_mem {x : RowT} (hx : x ∈ rowsL) {n : Int} (h : rngF x n = 0) : n ∈ imms x := by
  have hb := List.all_eq_true.1 byOk_all _ hx
  unfold byOk at hb
  simp only [Bool.and_eq_true, decide_eq_true_eq, beq_iff_eq] at hb
  unfold rngF at h
  cases h1 : decide (n < x.2.2.1)
  · cases h2 : decide (x.2.2.2.1 < n)
    · rw [h1, h2] at h
      simp only [cond_false] at h
      cases h3 : (n == 0 && bars x 115)
      · rw [h3, cond_false] at h
        cases h4 : (Int.tmod n x.2.2.2.2.1 != 0)
        · have h4 : Int.tmod n x.2.2.2.2.1 = 0 := by simpa using h4
          have g1 : ¬ n < x.2.2.1 := of_decide_eq_false h1
          have g2 : ¬ x.2.2.2.1 < n := of_decide_eq_false h2
          have d1 : x.2.2.2.2.1 ∣ n := Int.dvd_of_tmod_eq_zero h4
          have d2 : x.2.2.2.2.1 ∣ x.2.2.1 := Int.dvd_of_emod_eq_zero hb.2
          obtain ⟨k, hk⟩ := Int.dvd_sub d1 d2
          have hp := hb.1
          have hk0 : 0 ≤ k := by
            refine Int.not_lt.1 fun hneg => ?_
            have : x.2.2.2.2.1 * k < 0 := Int.mul_neg_of_pos_of_neg hp hneg
            omega
          have hk1 : k ≤ (x.2.2.2.1 - x.2.2.1) / x.2.2.2.2.1 := by
            refine (Int.le_ediv_iff_mul_le hp).2 ?_
            rw [Int.mul_comm, ← hk]
            omega
          unfold imms
          refine List.mem_map.2 ⟨k.toNat, List.mem_range.2 (by omega), ?_⟩
          rw [Int.toNat_of_nonneg hk0, ← hk]
          omega
        · rw [h4] at h; cases h
      · rw [h3] at h; cases h
    · rw [h1, h2] at h; cases h
  · rw [h1] at h; cases h
def immOk (p : RowT × List FldT) : Bool := (imms p.1).all fun n => sgnX p.1 (immL p.2 (p.2.map fun f => valF f (immI n)) (0, 0)) == n
theorem imm_0 : (partP 0).all immOk = true := by kernel_rfl
theorem imm_1 : (partP 1).all immOk = true := by kernel_rfl
theorem imm_2 : (partP 2).all immOk = true := by kernel_rfl
theorem imm_3 : (partP 3).all immOk = true := by kernel_rfl
theorem imm_4 : (partP 4).all immOk = true := by kernel_rfl
theorem imm_5 : (partP 5).all immOk = true := by kernel_rfl
theorem all_map {α : Type} {l : List α} {f : α → Bool} (h : l.all f = true) : l.map f = l.map fun _ => true :=
  List.map_inj_left.2 fun _ hx => List.all_eq_true.1 h _ hx
theorem imm_all {x : RowT} (hx : x ∈ rowsL) : immOk (x, flds x) = true :=
  six_all (l := pairsL) (f := immOk) (g := fun _ => true) pairs_len (fun k hk => match k, hk with
    | 0, _ => all_map imm_0
    | 1, _ => all_map imm_1
    | 2, _ => all_map imm_2
    | 3, _ => all_map imm_3
    | 4, _ => all_map imm_4
    | 5, _ => all_map imm_5) (pairs_mem hx)
theorem imm_back {x : RowT} (hx : x ∈ rowsL) {i : InsT} (h : rngF x i.2.2.2.2.2 = 0) :
    sgnX x (immL (flds x) ((flds x).map fun f => valF f i) (0, 0)) = i.2.2.2.2.2 := by
  rw [imm_only]
  exact eq_of_beq (List.all_eq_true.1 (imm_all hx) _ (imms_mem hx h))

theorem read_enc {x : RowT} (hx : x ∈ rowsL) {i : InsT} (h : faultyF x i = 0) (hn : i.1 = x.1) : readX x (encW x i) = (i, true) := by
  obtain ⟨h1, h2, h3, h4, _, h6⟩ := faulty_parts h
  obtain ⟨w0, w1⟩ := encW_rng hx i
  have hi : insA x (flds x) (takesF (encW x i) (flds x)) 0 0 0 (0, 0) = i := by
    rw [takes_enc hx]
    have e1 := reg_back hx (i := i) (c := 97) (.inl rfl) (fun f he => by unfold srcF; rw [he]; rfl) h1
    have e2 := reg_back hx (i := i) (c := 98) (.inr (.inl rfl)) (fun f he => by unfold srcF; rw [he]; rfl) h2
    have e3 := reg_back hx (i := i) (c := 99) (.inr (.inr rfl)) (fun f he => by unfold srcF; rw [he]; rfl) h3
    have e4 := imm_back hx h6
    show (x.1, regL 97 (flds x) ((flds x).map fun f => valF f i) 0, regL 98 (flds x) ((flds x).map fun f => valF f i) 0, regL 99 (flds x) ((flds x).map fun f => valF f i) 0, (0 : Int),
      sgnX x (immL (flds x) ((flds x).map fun f => valF f i) (0, 0))) = i
    rw [e1, e2, e3, e4, ← hn, ← h4]
  have hg : givL (flds x) (takesF (encW x i) (flds x)) = true := by
    rw [takes_enc hx]
    exact giv_back i (row_gi hx)
  rw [readX_parts hx w0 w1, hi, hg, cond_true, h]
  rfl

end Go.Cmp
