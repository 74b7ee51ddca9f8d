/-
  compact: the document's word of what may be is the program's. Conditions: none.
-/
import Derived.Test.YtaedihkgdmaofaaDoorCm28
import Derived.Test.YtaedihkgdmaofaaDoorCmP
namespace Go.Cmp
open Go Go.Ab

/-! Bits. -/

def bt (n : Int) (k : Nat) : Int := n / 2 ^ k % 2
theorem bt_rng (n : Int) (k : Nat) : 0 ≤ bt n k ∧ bt n k ≤ 1 := by
  unfold bt
  generalize n / 2 ^ k = q
  omega
theorem bt_top (n : Int) (m : Nat) : n % 2 ^ (m + 1) = bt n m * 2 ^ m + n % 2 ^ m := by
  have p := pow_pos' m
  have h1 := Int.mul_ediv_add_emod n (2 ^ m)
  have h2 := Int.mul_ediv_add_emod (n / 2 ^ m) 2
  obtain ⟨b0, b1⟩ := bt_rng n m
  have r0 := Int.emod_nonneg n (Int.ne_of_gt p)
  have r1 := Int.emod_lt_of_pos n p
  have hb : bt n m = n / 2 ^ m % 2 := rfl
  rw [← hb] at h2
  generalize bt n m = b at *
  generalize n % 2 ^ m = r at *
  generalize n / 2 ^ m = q at *
  generalize q / 2 = s at *
  rw [Int.pow_succ]
  generalize (2 : Int) ^ m = P at *
  have e : n = (b * P + r) + (P * 2) * s := by
    rw [← h1, ← h2, Int.mul_add, Int.mul_comm P b, Int.mul_assoc P 2 s]
    omega
  have hb2 : 0 ≤ b * P := Int.mul_nonneg b0 (Int.le_of_lt p)
  have hb3 : b * P ≤ 1 * P := Int.mul_le_mul_of_nonneg_right b1 (Int.le_of_lt p)
  rw [e, Int.add_mul_emod_self_left, Int.emod_eq_of_lt (by omega) (by omega)]
theorem up_eq (w v : Int) (m : Nat) : (2 * w + bt v m) * 2 ^ m + v % 2 ^ m = w * 2 ^ (m + 1) + v % 2 ^ (m + 1) := by
  rw [bt_top, Int.add_mul, Int.pow_succ]
  have : 2 * w * 2 ^ m = w * (2 ^ m * 2) := by rw [Int.mul_comm 2 w, Int.mul_assoc, Int.mul_comm 2]
  omega
theorem stepW_eq {w b : Int} (h0 : 0 ≤ w) (h1 : w < 32768) (b0 : 0 ≤ b) (b1 : b ≤ 1) : stepW w b = 2 * w + b := by
  unfold stepW u16
  rw [wrap_u16, wrap_u16, wrap_u16]
  omega
theorem step_room {w b : Int} {m : Nat} (h0 : 0 ≤ w) (h1 : (w + 1) * 2 ^ (m + 1) ≤ 65536) (b0 : 0 ≤ b) (b1 : b ≤ 1) : w < 32768 ∧ (2 * w + b + 1) * 2 ^ m ≤ 65536 := by
  have p := pow_pos' m
  rw [Int.pow_succ] at h1
  have e : (w + 1) * (2 ^ m * 2) = (2 * w + 2) * 2 ^ m := by
    rw [Int.mul_comm ((2 : Int) ^ m) 2, ← Int.mul_assoc, Int.add_mul, Int.mul_comm w 2]
    rfl
  rw [e] at h1
  have h2 : (2 * w + b + 1) * 2 ^ m ≤ (2 * w + 2) * 2 ^ m := Int.mul_le_mul_of_nonneg_right (by omega) (Int.le_of_lt p)
  have h3 : (2 * w + 2) * 1 ≤ (2 * w + 2) * 2 ^ m := Int.mul_le_mul_of_nonneg_left (by omega) (by omega)
  omega
theorem wrap_u64 (n : Int) : IntKind.wrap .u64 n = n % 18446744073709551616 := by
  simp [IntKind.wrap, IntKind.bits, IntKind.signed]
theorem and_one (x : Int) : ((BitVec.toNat (BitVec.ofInt 64 x &&& BitVec.ofInt 64 1) : Nat) : Int) = x % 2 := by
  rw [BitVec.toNat_and, BitVec.toNat_ofInt, show (BitVec.ofInt 64 1).toNat = 1 from rfl, Nat.and_one_is_mod]
  omega
theorem and64_one (x : Int) : and64 x 1 = x % 2 := by
  unfold and64
  rw [and_one, wrap_i64 (by omega) (by omega)]
theorem andU_one (x : Int) : andU64 x 1 = x % 2 := by
  unfold andU64
  rw [and_one, wrap_u64]
  omega
theorem bitR_long (n : Int) (k : Nat) : bitR false n k = bt n k := by
  unfold bitR bt
  rw [cond_false, and64_one, Int.fdiv_eq_ediv_of_nonneg _ (Int.le_of_lt (pow_pos' _))]
theorem bitR_short {n : Int} {k : Nat} (h1 : 8 ≤ n) (h2 : n ≤ 15) (hk : k < 3) : bitR true n k = bt n k := by
  unfold bitR bt
  rw [cond_true, and64_one, Int.fdiv_eq_ediv_of_nonneg _ (Int.le_of_lt (pow_pos' _)), i64_of (by omega) (by omega)]
  match k, hk with
  | 0, _ => omega
  | 1, _ => omega
  | 2, _ => omega
theorem bitI_eq (n : Int) {k : Nat} (hk : k < 12) : bitI n k = bt n k := by
  unfold bitI bt
  rw [andU_one, Int.fdiv_eq_ediv_of_nonneg _ (Int.le_of_lt (pow_pos' _)), wrap_u64]
  unfold i64
  rw [wrap_i64 (by omega) (by omega)]
  match k, hk with
  | 0, _ => omega
  | 1, _ => omega
  | 2, _ => omega
  | 3, _ => omega
  | 4, _ => omega
  | 5, _ => omega
  | 6, _ => omega
  | 7, _ => omega
  | 8, _ => omega
  | 9, _ => omega
  | 10, _ => omega
  | 11, _ => omega

/-! Letters of a field. -/

def ltS (low : Nat) : Nat → List UInt8
  | 0 => []
  | m + 1 => UInt8.ofNat (65 + (low + m)) :: ltS low m
def ltG (v : Nat) : Nat → List UInt8
  | 0 => []
  | m + 1 => UInt8.ofNat (48 + v / 2 ^ m % 2) :: ltG v m
def letF (f : FldT) : List UInt8 :=
  cond (f.2.1 == 0) (ltG f.2.2.1.toNat (wd f)) (cond (f.2.1 == 115) (ltS f.2.2.2.1.toNat (wd f)) (List.replicate (wd f) (UInt8.ofNat f.2.1.toNat)))
def kOk (s : Bool) (f : FldT) : Bool :=
  (f.2.1 == 0) || ((f.2.1 == 115 && Nat.ble (f.2.2.2.1.toNat + wd f) 12) || ((f.2.1 == 97 || (f.2.1 == 98 || f.2.1 == 99)) && (f.2.2.2.2 == s && wd f == cond s 3 5)))
/-- The document's bits are the row's fields' letters. -/
def fine3 (p : RowT × List FldT × TabT) : Bool := p.2.1.flatMap letF == p.2.2.2.1 && p.2.1.all (kOk p.2.2.2.2.2.1)
def pairs3 : List (RowT × List FldT × TabT) := rowsL.zip ((fldL.map (·.2)).zip tabL)
theorem pairs3_eq : (rowsL.map fun x => (x, flds x, tabs x)) = pairs3 := by kernel_rfl
theorem fine3_all : pairs3.all fine3 = true := by kernel_rfl
theorem row_let {x : RowT} (hx : x ∈ rowsL) : (flds x).flatMap letF = (tabs x).2.1 ∧ (flds x).all (kOk (tabs x).2.2.2.1) = true := by
  have hm : (x, flds x, tabs x) ∈ pairs3 := by
    rw [← pairs3_eq]
    exact List.mem_map_of_mem hx
  have h := List.all_eq_true.1 fine3_all _ hm
  unfold fine3 at h
  rw [Bool.and_eq_true] at h
  exact ⟨eq_of_beq h.1, h.2⟩

section
variable (s : Bool) (a b c n : Int) (r : List UInt8)
abbrev szR (s : Bool) : Nat := cond s 3 5
theorem wx_a (hb : ∀ k, k < szR s → bitR s a k = bt a k) (sb sc : Nat) : ∀ (m : Nat) (w : Int), m ≤ szR s → 0 ≤ w → (w + 1) * 2 ^ m ≤ 65536 →
    wordX s a b c n (List.replicate m 97 ++ r) w (szR s - m) sb sc = wordX s a b c n r (w * 2 ^ m + a % 2 ^ m) (szR s) sb sc
  | 0, w, _, _, _ => by
    rw [show w * 2 ^ 0 + a % 2 ^ 0 = w by omega]
    rfl
  | m + 1, w, hm, h0, h1 => by
    obtain ⟨b0, b1⟩ := bt_rng a m
    obtain ⟨g1, g2⟩ := step_room h0 h1 b0 b1
    show wordX s a b c n (List.replicate m 97 ++ r) (stepW w (bitR s a (szR s - 1 - (szR s - (m + 1))))) (szR s - (m + 1) + 1) sb sc = _
    rw [show szR s - 1 - (szR s - (m + 1)) = m by omega, show szR s - (m + 1) + 1 = szR s - m by omega, hb m (by omega), stepW_eq h0 g1 b0 b1,
      wx_a hb sb sc m _ (by omega) (by omega) g2, up_eq]
theorem wx_b (hb : ∀ k, k < szR s → bitR s b k = bt b k) (sa sc : Nat) : ∀ (m : Nat) (w : Int), m ≤ szR s → 0 ≤ w → (w + 1) * 2 ^ m ≤ 65536 →
    wordX s a b c n (List.replicate m 98 ++ r) w sa (szR s - m) sc = wordX s a b c n r (w * 2 ^ m + b % 2 ^ m) sa (szR s) sc
  | 0, w, _, _, _ => by
    rw [show w * 2 ^ 0 + b % 2 ^ 0 = w by omega]
    rfl
  | m + 1, w, hm, h0, h1 => by
    obtain ⟨b0, b1⟩ := bt_rng b m
    obtain ⟨g1, g2⟩ := step_room h0 h1 b0 b1
    show wordX s a b c n (List.replicate m 98 ++ r) (stepW w (bitR s b (szR s - 1 - (szR s - (m + 1))))) sa (szR s - (m + 1) + 1) sc = _
    rw [show szR s - 1 - (szR s - (m + 1)) = m by omega, show szR s - (m + 1) + 1 = szR s - m by omega, hb m (by omega), stepW_eq h0 g1 b0 b1,
      wx_b hb sa sc m _ (by omega) (by omega) g2, up_eq]
theorem wx_c (hb : ∀ k, k < szR s → bitR s c k = bt c k) (sa sb : Nat) : ∀ (m : Nat) (w : Int), m ≤ szR s → 0 ≤ w → (w + 1) * 2 ^ m ≤ 65536 →
    wordX s a b c n (List.replicate m 99 ++ r) w sa sb (szR s - m) = wordX s a b c n r (w * 2 ^ m + c % 2 ^ m) sa sb (szR s)
  | 0, w, _, _, _ => by
    rw [show w * 2 ^ 0 + c % 2 ^ 0 = w by omega]
    rfl
  | m + 1, w, hm, h0, h1 => by
    obtain ⟨b0, b1⟩ := bt_rng c m
    obtain ⟨g1, g2⟩ := step_room h0 h1 b0 b1
    show wordX s a b c n (List.replicate m 99 ++ r) (stepW w (bitR s c (szR s - 1 - (szR s - (m + 1))))) sa sb (szR s - (m + 1) + 1) = _
    rw [show szR s - 1 - (szR s - (m + 1)) = m by omega, show szR s - (m + 1) + 1 = szR s - m by omega, hb m (by omega), stepW_eq h0 g1 b0 b1,
      wx_c hb sa sb m _ (by omega) (by omega) g2, up_eq]
variable (sa sb sc : Nat)
theorem wx_let {j : Nat} (hj : j < 12) (w : Int) : wordX s a b c n (UInt8.ofNat (65 + j) :: r) w sa sb sc = wordX s a b c n r (stepW w (bitI n j)) sa sb sc :=
  match j, hj with
  | 0, _ => rfl
  | 1, _ => rfl
  | 2, _ => rfl
  | 3, _ => rfl
  | 4, _ => rfl
  | 5, _ => rfl
  | 6, _ => rfl
  | 7, _ => rfl
  | 8, _ => rfl
  | 9, _ => rfl
  | 10, _ => rfl
  | 11, _ => rfl
theorem wx_s (low : Nat) : ∀ (m : Nat) (w : Int), low + m ≤ 12 → 0 ≤ w → (w + 1) * 2 ^ m ≤ 65536 →
    wordX s a b c n (ltS low m ++ r) w sa sb sc = wordX s a b c n r (w * 2 ^ m + n / 2 ^ low % 2 ^ m) sa sb sc
  | 0, w, _, _, _ => by
    rw [show w * 2 ^ 0 + n / 2 ^ low % 2 ^ 0 = w by omega]
    rfl
  | m + 1, w, hm, h0, h1 => by
    obtain ⟨b0, b1⟩ := bt_rng (n / 2 ^ low) m
    obtain ⟨g1, g2⟩ := step_room h0 h1 b0 b1
    have e : bt n (low + m) = bt (n / 2 ^ low) m := by
      unfold bt
      rw [Nat.add_comm, div_pow]
    show wordX s a b c n (UInt8.ofNat (65 + (low + m)) :: (ltS low m ++ r)) w sa sb sc = _
    rw [wx_let s a b c n _ sa sb sc (by omega), bitI_eq n (by omega), e, stepW_eq h0 g1 b0 b1, wx_s low m _ (by omega) (by omega) g2, up_eq]
theorem wx_g (v : Nat) : ∀ (m : Nat) (w : Int), 0 ≤ w → (w + 1) * 2 ^ m ≤ 65536 →
    wordX s a b c n (ltG v m ++ r) w sa sb sc = wordX s a b c n r (w * 2 ^ m + (v : Int) % 2 ^ m) sa sb sc
  | 0, w, _, _ => by
    rw [show w * 2 ^ 0 + (v : Int) % 2 ^ 0 = w by omega]
    rfl
  | m + 1, w, h0, h1 => by
    obtain ⟨b0, b1⟩ := bt_rng (v : Int) m
    obtain ⟨g1, g2⟩ := step_room h0 h1 b0 b1
    have e : ((v / 2 ^ m % 2 : Nat) : Int) = bt v m := by
      unfold bt
      simp
    have hs : wordX s a b c n (UInt8.ofNat (48 + v / 2 ^ m % 2) :: (ltG v m ++ r)) w sa sb sc = wordX s a b c n (ltG v m ++ r) (stepW w (bt v m)) sa sb sc := by
      rw [← e]
      have : v / 2 ^ m % 2 = 0 ∨ v / 2 ^ m % 2 = 1 := by omega
      rcases this with h | h <;> rw [h] <;> rfl
    show wordX s a b c n (UInt8.ofNat (48 + v / 2 ^ m % 2) :: (ltG v m ++ r)) w sa sb sc = _
    rw [hs, stepW_eq h0 g1 b0 b1, wx_g v m _ (by omega) g2, up_eq]
end

def cnt (c : Int) (fs : List FldT) : Nat := (fs.filter fun f => f.2.1 == c).length
theorem cnt_cons (c : Int) (f : FldT) (r : List FldT) : cnt c (f :: r) = cond (f.2.1 == c) 1 0 + cnt c r := by
  unfold cnt
  rw [List.filter_cons]
  cases h : (f.2.1 == c)
  · simp
  · simp [Nat.add_comm]
theorem room_of {w : Int} {k m : Nat} (h1 : w < 2 ^ k) (hk : k + m ≤ 16) : (w + 1) * 2 ^ m ≤ 65536 ∧ (w * 2 ^ m + 2 ^ m ≤ 2 ^ (k + m)) := by
  have p := pow_pos' m
  have h2 : (w + 1) * 2 ^ m ≤ 2 ^ k * 2 ^ m := Int.mul_le_mul_of_nonneg_right (by omega) (Int.le_of_lt p)
  rw [← Int.pow_add] at h2
  have a3 : (2 : Int) ^ (k + m) ≤ 2 ^ 16 := by
    have := Nat.pow_le_pow_right (n := 2) (by omega) hk
    have e : ∀ j : Nat, ((2 : Int) ^ j) = ((2 ^ j : Nat) : Int) := fun j => by simp
    rw [e, e]
    omega
  refine ⟨Int.le_trans h2 a3, ?_⟩
  rw [Int.add_mul, Int.one_mul] at h2
  exact h2
/-- Fields' letters make the fields' numbers. -/
theorem wx_fields (s : Bool) (i : InsT) : ∀ (fs : List FldT) (w : Int) (k sa sb sc : Nat), fs.all fOk = true → fs.all (kOk s) = true → 0 ≤ w → w < 2 ^ k → k + sumB fs ≤ 16 →
    (cnt 97 fs ≠ 0 → cnt 97 fs ≤ 1 ∧ sa = 0 ∧ ∀ k, k < szR s → bitR s i.2.1 k = bt i.2.1 k) → (cnt 98 fs ≠ 0 → cnt 98 fs ≤ 1 ∧ sb = 0 ∧ ∀ k, k < szR s → bitR s i.2.2.1 k = bt i.2.2.1 k) →
    (cnt 99 fs ≠ 0 → cnt 99 fs ≤ 1 ∧ sc = 0 ∧ ∀ k, k < szR s → bitR s i.2.2.2.1 k = bt i.2.2.2.1 k) →
    wordX s i.2.1 i.2.2.1 i.2.2.2.1 i.2.2.2.2.2 (fs.flatMap letF) w sa sb sc = catF fs (fs.map fun f => valF f i) w
  | [], w, k, sa, sb, sc, _, _, _, _, _, _, _, _ => rfl
  | f :: r, w, k, sa, sb, sc, hf, hk, h0, h1, hs, ha, hb, hc => by
    rw [List.all_cons, Bool.and_eq_true] at hf hk
    have hsum : sumB (f :: r) = wd f + sumB r := rfl
    obtain ⟨r1, r2⟩ := room_of (m := wd f) h1 (by omega)
    obtain ⟨v0, v1⟩ := valF_rng hf.1 i
    have p := pow_pos' (wd f)
    have n0 : 0 ≤ w * 2 ^ wd f + valF f i := by
      have := Int.mul_nonneg h0 (Int.le_of_lt p)
      omega
    have hval := valF_of hf.1 i
    rw [cnt_cons] at ha hb hc
    rw [List.flatMap_cons]
    show _ = catF r (r.map fun f => valF f i) (w * 2 ^ wd f + valF f i)
    have next := fun sa sb sc ha hb hc => wx_fields s i r (w * 2 ^ wd f + valF f i) (k + wd f) sa sb sc hf.2 hk.2 n0 (by omega) (by omega) ha hb hc
    obtain ⟨_, g1, g2⟩ := fOk_spec hf.1
    have kk := hk.1
    unfold kOk at kk
    generalize r.flatMap letF = T at next ⊢
    unfold letF
    by_cases e0 : f.2.1 = 0
    · rw [show (f.2.1 == 0) = true from beq_iff_eq.2 e0, cond_true] at hval
      rw [show (f.2.1 == 0) = true from beq_iff_eq.2 e0, cond_true, wx_g _ _ _ _ _ _ _ _ _ _ _ w h0 r1]
      have hv : ((f.2.2.1.toNat : Nat) : Int) % 2 ^ wd f = valF f i := by
        rw [hval, Int.toNat_of_nonneg g1, Int.emod_eq_of_lt g1 g2]
      rw [hv]
      rw [e0] at ha hb hc
      refine next sa sb sc (fun h => ?_) (fun h => ?_) (fun h => ?_)
      · have := ha (by simpa using h); simpa using this
      · have := hb (by simpa using h); simpa using this
      · have := hc (by simpa using h); simpa using this
    rw [show (f.2.1 == 0) = false from beq_eq_false_iff_ne.2 e0] at hval kk ⊢
    rw [cond_false] at hval ⊢
    by_cases e1 : f.2.1 = 115
    · rw [show (f.2.1 == 115) = true from beq_iff_eq.2 e1, cond_true]
      rw [e1] at kk
      have hlow : f.2.2.2.1.toNat + wd f ≤ 12 := by simpa using kk
      rw [wx_s _ _ _ _ _ _ _ _ _ _ _ w hlow h0 r1]
      have hv : i.2.2.2.2.2 / 2 ^ f.2.2.2.1.toNat % 2 ^ wd f = valF f i := by
        rw [hval]
        unfold srcF
        rw [e1, show ((115 : Int) == 97) = false from rfl, show ((115 : Int) == 98) = false from rfl, show ((115 : Int) == 99) = false from rfl, cond_false, cond_false, cond_false,
          Nat.min_eq_left (by omega), Int.fdiv_eq_ediv_of_nonneg _ (Int.le_of_lt (pow_pos' _))]
      rw [hv]
      rw [e1] at ha hb hc
      refine next sa sb sc (fun h => ?_) (fun h => ?_) (fun h => ?_)
      · have := ha (by simpa using h); simpa using this
      · have := hb (by simpa using h); simpa using this
      · have := hc (by simpa using h); simpa using this
    rw [show (f.2.1 == 115) = false from beq_eq_false_iff_ne.2 e1] at kk ⊢
    rw [cond_false]
    simp only [Bool.false_and, Bool.false_or, Bool.and_eq_true, Bool.or_eq_true, beq_iff_eq] at kk
    obtain ⟨kk, k1, k2⟩ := kk
    have hw : wd f = szR s := k2
    rcases kk with e | e | e
    · rw [e] at ha hb hc
      obtain ⟨c1, c2, c3⟩ := ha (by simp)
      have c4 : cnt 97 r = 0 := by simp at c1; omega
      rw [e, show UInt8.ofNat ((97 : Int).toNat) = 97 from rfl, hw, c2]
      rw [hw] at r1
      have := wx_a s i.2.1 i.2.2.1 i.2.2.2.1 i.2.2.2.2.2 T c3 sb sc (szR s) w (Nat.le_refl _) h0 r1
      rw [Nat.sub_self] at this
      rw [this]
      have hv : i.2.1 % 2 ^ szR s = valF f i := by
        rw [hval, hw]
        unfold srcF
        rw [e, show ((97 : Int) == 97) = true from rfl, cond_true]
      rw [hw] at next
      rw [hv]
      refine next (szR s) sb sc (fun h => ?_) (fun h => ?_) (fun h => ?_)
      · exact absurd c4 h
      · have := hb (by simpa using h); simpa using this
      · have := hc (by simpa using h); simpa using this
    · rw [e] at ha hb hc
      obtain ⟨c1, c2, c3⟩ := hb (by simp)
      have c4 : cnt 98 r = 0 := by simp at c1; omega
      rw [e, show UInt8.ofNat ((98 : Int).toNat) = 98 from rfl, hw, c2]
      rw [hw] at r1
      have := wx_b s i.2.1 i.2.2.1 i.2.2.2.1 i.2.2.2.2.2 T c3 sa sc (szR s) w (Nat.le_refl _) h0 r1
      rw [Nat.sub_self] at this
      rw [this]
      have hv : i.2.2.1 % 2 ^ szR s = valF f i := by
        rw [hval, hw]
        unfold srcF
        rw [e, show ((98 : Int) == 97) = false from rfl, show ((98 : Int) == 98) = true from rfl, cond_false, cond_true]
      rw [hw] at next
      rw [hv]
      refine next sa (szR s) sc (fun h => ?_) (fun h => ?_) (fun h => ?_)
      · have := ha (by simpa using h); simpa using this
      · exact absurd c4 h
      · have := hc (by simpa using h); simpa using this
    · rw [e] at ha hb hc
      obtain ⟨c1, c2, c3⟩ := hc (by simp)
      have c4 : cnt 99 r = 0 := by simp at c1; omega
      rw [e, show UInt8.ofNat ((99 : Int).toNat) = 99 from rfl, hw, c2]
      rw [hw] at r1
      have := wx_c s i.2.1 i.2.2.1 i.2.2.2.1 i.2.2.2.2.2 T c3 sa sb (szR s) w (Nat.le_refl _) h0 r1
      rw [Nat.sub_self] at this
      rw [this]
      have hv : i.2.2.2.1 % 2 ^ szR s = valF f i := by
        rw [hval, hw]
        unfold srcF
        rw [e, show ((99 : Int) == 97) = false from rfl, show ((99 : Int) == 98) = false from rfl, show ((99 : Int) == 99) = true from rfl, cond_false, cond_false, cond_true]
      rw [hw] at next
      rw [hv]
      refine next sa sb (szR s) (fun h => ?_) (fun h => ?_) (fun h => ?_)
      · have := ha (by simpa using h); simpa using this
      · have := hb (by simpa using h); simpa using this
      · exact absurd c4 h

theorem cnt_has {x : RowT} {c : Int} (h : cnt c (flds x) ≠ 0) : (hasF x c).2 = true := by
  rw [hasF_any]
  cases hh : (flds x).any fun f => f.2.1 == c
  · exfalso
    refine h ?_
    unfold cnt
    rw [List.length_eq_zero_iff, List.filter_eq_nil_iff]
    exact List.any_eq_false.1 hh
  · rfl
theorem tab_short {x : RowT} (hx : x ∈ rowsL) {c : Int} (hc : c = 97 ∨ c = 98 ∨ c = 99) (h : (hasF x c).2 = true) : (hasF x c).1 = (tabs x).2.2.2.1 := by
  rw [hasF_any, List.any_eq_true] at h
  obtain ⟨f, hf, he⟩ := h
  have he := eq_of_beq he
  have h1 := ((row_ch hx hc).1 f hf he).1
  have h2 := List.all_eq_true.1 (row_let hx).2 f hf
  unfold kOk at h2
  rw [← h1]
  rcases hc with rfl | rfl | rfl <;> rw [he] at h2 <;> simp at h2 <;> exact h2.1
theorem reg_bits {x : RowT} (hx : x ∈ rowsL) {c n : Int} (hc : c = 97 ∨ c = 98 ∨ c = 99) (hr : regF x c n = true) (h : cnt c (flds x) ≠ 0) : cnt c (flds x) ≤ 1 ∧ 0 = 0 ∧ ∀ k, k < szR (tabs x).2.2.2.1 → bitR (tabs x).2.2.2.1 n k = bt n k := by
  refine ⟨(row_ch hx hc).2, rfl, fun k hk => ?_⟩
  have h2 := cnt_has h
  have h3 := tab_short hx hc h2
  unfold regF at hr
  rw [h2, cond_true, h3] at hr
  cases hs : (tabs x).2.2.2.1
  · exact bitR_long n k
  · rw [hs, cond_true] at hr
    rw [hs] at hk
    simp only [Bool.and_eq_true, decide_eq_true_eq] at hr
    exact bitR_short hr.1 hr.2 hk
/-- The document's word of what may be is the program's. -/
theorem wdX_eq {x : RowT} (hx : x ∈ rowsL) {i : InsT} (h : faultyF x i = 0) : wdX (tabs x) i.2.1 i.2.2.1 i.2.2.2.1 i.2.2.2.2.2 = encW x i := by
  obtain ⟨h1, h2, h3, _⟩ := faulty_parts h
  obtain ⟨f1, f2⟩ := row_fine hx
  obtain ⟨l1, l2⟩ := row_let hx
  rw [encW_cat hx]
  unfold wdX
  rw [← l1]
  exact wx_fields _ i (flds x) 0 0 0 0 0 f1 l2 (by omega) (by decide) (by omega) (reg_bits hx (.inl rfl) h1) (reg_bits hx (.inr (.inl rfl)) h2) (reg_bits hx (.inr (.inr rfl)) h3)

end Go.Cmp
