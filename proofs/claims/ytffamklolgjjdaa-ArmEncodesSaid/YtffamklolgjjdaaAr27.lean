/-
  The document's Of, plainly: it finds what the program's finds. Conditions: none.
-/
import Derived.Test.YtffamklolgjjdaaAr14
import Derived.Test.YtffamklolgjjdaaAr4
namespace Go.Arm
open Go Go.Ab Go.Proofs Go.Wd

theorem onesN_eq {e : Nat} (h : e ≤ 64) : onesN e = 2 ^ e - 1 := by
  unfold onesN
  by_cases h' : 64 ≤ e
  · rw [Nat.ble_eq_true_of_le h', show e = 64 from by omega]; rfl
  · cases hb : Nat.ble 64 e
    · rfl
    · exact absurd (Nat.le_of_ble_eq_true hb) h'

theorem eL_cases {e : Nat} (h : e ∈ eL) : 2 ≤ e ∧ e ≤ 64 := by
  simp only [eL, List.mem_cons, List.not_mem_nil, or_false] at h
  omega

def agI (m e i : Nat) : Bool := Nat.beq ((m >>> (i * e)) &&& onesN e) (m &&& onesN e)
def agN (m e : Nat) : Bool := (List.range (64 / e)).all (agI m e)
def turnX (x e : Nat) : Nat := ((x <<< 1) % 2 ^ 64 ||| x >>> (e - 1)) &&& onesN e
def turnK (e : Nat) : Nat → Nat → Nat
  | 0, x => x
  | r + 1, x => turnX (turnK e r x) e
def oP (x o : Nat) : Bool := Nat.blt 0 o && Nat.beq x (onesN o)
def oF (x e : Nat) : Option Nat := (List.range e).find? (oP x)
def lowX (m e : Nat) : Nat := m &&& onesN e
def rF (m e : Nat) : Option Nat := (List.range e).find? fun r => (oF (turnK e r (lowX m e)) e).isSome
def xE (m : Nat) : Option Nat := eL.find? (agN m)
def xOf (m : Nat) : Option (Nat × Nat × Nat) := (xE m).bind fun e => (rF m e).bind fun r => (oF (turnK e r (lowX m e)) e).map fun o => (e, r, o)
def imsX (e o : Nat) : Int := IntKind.wrap .i64 (IntKind.wrap .i64 (highF (e : Int) + (o : Int)) - 1)
def xOfV (m : Nat) : V := match xOf m with
  | none => .tup [.int .i64 0, .int .i64 0, .int .i64 0, .bool false]
  | some a => .tup [.int .i64 (cond (Nat.beq a.1 64) 1 0), .int .i64 (a.2.1 : Nat), .int .i64 (imsX a.1 a.2.2), .bool true]

/-! Turning. -/

theorem turnX_bit {x e i : Nat} (he : e ≤ 64) (h : i + 1 < e) (hx : x < 2 ^ e) : (turnX x e).testBit (i + 1) = x.testBit i := by
  unfold turnX
  rw [onesN_eq he, Nat.testBit_and, Nat.testBit_or, Nat.testBit_two_pow_sub_one, Nat.testBit_mod_two_pow, Nat.testBit_shiftLeft, Nat.testBit_shiftRight]
  have hb : x.testBit (e - 1 + (i + 1)) = false := Nat.testBit_lt_two_pow (Nat.lt_of_lt_of_le hx (Nat.pow_le_pow_right (by omega) (by omega)))
  rw [hb, decide_eq_true (show i + 1 < 64 by omega), decide_eq_true (show i + 1 ≥ 1 by omega), decide_eq_true h]
  simp
theorem turnX_bit0 {x e : Nat} (he : e ≤ 64) (h : 1 ≤ e) : (turnX x e).testBit 0 = x.testBit (e - 1) := by
  unfold turnX
  rw [onesN_eq he, Nat.testBit_and, Nat.testBit_or, Nat.testBit_two_pow_sub_one, Nat.testBit_mod_two_pow, Nat.testBit_shiftLeft, Nat.testBit_shiftRight]
  rw [decide_eq_false (show ¬ (0 : Nat) ≥ 1 by omega), decide_eq_true (show 0 < e by omega)]
  simp
theorem turnX_lt {x e : Nat} (he : e ≤ 64) : turnX x e < 2 ^ e := by
  unfold turnX
  rw [onesN_eq he]
  exact Nat.and_lt_two_pow _ (by have := Nat.two_pow_pos e; omega)
theorem turnX_inj {x y e : Nat} (he : e ≤ 64) (h1 : 1 ≤ e) (hx : x < 2 ^ e) (hy : y < 2 ^ e) (h : turnX x e = turnX y e) : x = y := by
  apply Nat.eq_of_testBit_eq
  intro i
  by_cases hi : i + 1 < e
  · rw [← turnX_bit he hi hx, ← turnX_bit he hi hy, h]
  · by_cases hi' : i = e - 1
    · rw [hi', ← turnX_bit0 (x := x) he h1, ← turnX_bit0 (x := y) he h1, h]
    · rw [Nat.testBit_lt_two_pow (Nat.lt_of_lt_of_le hx (Nat.pow_le_pow_right (by omega) (show e ≤ i by omega))),
        Nat.testBit_lt_two_pow (Nat.lt_of_lt_of_le hy (Nat.pow_le_pow_right (by omega) (show e ≤ i by omega)))]
theorem turnK_lt {e : Nat} (he : e ≤ 64) : ∀ (r x : Nat), x < 2 ^ e → turnK e r x < 2 ^ e
  | 0, _, h => h
  | _ + 1, _, _ => turnX_lt he
theorem turnK_inj {e : Nat} (he : e ≤ 64) (h1 : 1 ≤ e) : ∀ (r x y : Nat), x < 2 ^ e → y < 2 ^ e → turnK e r x = turnK e r y → x = y
  | 0, _, _, _, _, h => h
  | r + 1, x, y, hx, hy, h => turnK_inj he h1 r x y hx hy (turnX_inj he h1 (turnK_lt he r x hx) (turnK_lt he r y hy) h)

/-! All masks. -/

def elemT (e c r : Nat) : Nat := turnedN (onesN c) e r
def isOnes (x e : Nat) : Bool := !Nat.beq x 0 && (Nat.beq ((x + 1) &&& x) 0 && !Nat.beq x (onesN e))

theorem step_all : allT (fun e c r => Nat.beq (lowX (maskM e c r) e) (elemT e c r) && (Nat.beq r 0 || (Nat.beq (turnX (elemT e c r) e) (elemT e c (r - 1)) && !isOnes (elemT e c r) e))) = true := by kernel_rfl
theorem zero_all : allT (fun e c r => Nat.blt 0 r || (Nat.beq (elemT e c 0) (onesN c) && decide (imsX e c = imsI e c))) = true := by kernel_rfl
theorem ag_all : allT (fun e c r => agN (maskM e c r) e && (Nat.beq (ofE (maskM e c r)) e && (pR (ofX (maskM e c r)) e (ofC (maskM e c r)) r && !(Nat.beq (maskM e c r) 0 || Nat.beq (maskM e c r) 18446744073709551615)))) = true := by kernel_rfl
theorem less_all : allT (fun e c r => eL.all fun d => Nat.ble e d || !agN (maskM e c r) d) = true := by kernel_rfl
theorem oF_all : eL.all (fun e => (List.range e).all fun c => Nat.beq c 0 || decide (oF (onesN c) e = some c)) = true := by kernel_rfl
theorem ones_all : eL.all (fun e => (List.range e).all fun c => Nat.beq c 0 || isOnes (onesN c) e) = true := by kernel_rfl

theorem oF_some {x e o : Nat} (h : oF x e = some o) : 0 < o ∧ o < e ∧ x = onesN o := by
  unfold oF at h
  have h1 := List.find?_some h
  have h2 := List.mem_range.1 (List.mem_of_find?_eq_some h)
  obtain ⟨a, b⟩ := Bool.and_eq_true_iff.1 h1
  exact ⟨Nat.le_of_ble_eq_true a, h2, Nat.eq_of_beq_eq_true b⟩

theorem oF_none {x e : Nat} (he : e ∈ eL) (h : isOnes x e = false) : oF x e = none := by
  cases ho : oF x e
  · rfl
  · rename_i o
    obtain ⟨a, b, c⟩ := oF_some ho
    have hc := List.all_eq_true.1 (List.all_eq_true.1 ones_all e he) o (List.mem_range.2 b)
    rcases Bool.or_eq_true_iff.1 hc with g | g
    · have := Nat.eq_of_beq_eq_true g; omega
    · rw [c, g] at h; cases h

theorem oF_ones {e c : Nat} (he : e ∈ eL) (h0 : 0 < c) (h1 : c < e) : oF (onesN c) e = some c := by
  have hc := List.all_eq_true.1 (List.all_eq_true.1 oF_all e he) c (List.mem_range.2 h1)
  rcases Bool.or_eq_true_iff.1 hc with g | g
  · have := Nat.eq_of_beq_eq_true g; omega
  · exact of_decide_eq_true g

section
variable {e c r : Nat} (he : e ∈ eL) (c0 : 0 < c) (c1 : c < e) (r1 : r < e)
include he c0 c1 r1
theorem low_mask : lowX (maskM e c r) e = elemT e c r := Nat.eq_of_beq_eq_true (Bool.and_eq_true_iff.1 (allT_spec step_all he c0 c1 r1)).1
theorem elem_step (h : 0 < r) : turnX (elemT e c r) e = elemT e c (r - 1) ∧ isOnes (elemT e c r) e = false := by
  have := (Bool.and_eq_true_iff.1 (allT_spec step_all he c0 c1 r1)).2
  rcases Bool.or_eq_true_iff.1 this with g | g
  · have := Nat.eq_of_beq_eq_true g; omega
  · obtain ⟨a, b⟩ := Bool.and_eq_true_iff.1 g
    exact ⟨Nat.eq_of_beq_eq_true a, by simpa using b⟩
end
theorem elem_zero {e c : Nat} (he : e ∈ eL) (c0 : 0 < c) (c1 : c < e) : elemT e c 0 = onesN c ∧ imsX e c = imsI e c := by
  have := allT_spec zero_all he c0 c1 (r := 0) (by have := eL_cases he; omega)
  rcases Bool.or_eq_true_iff.1 this with g | g
  · cases g
  · obtain ⟨a, b⟩ := Bool.and_eq_true_iff.1 g
    exact ⟨Nat.eq_of_beq_eq_true a, of_decide_eq_true b⟩

theorem turnK_elem {e c r : Nat} (he : e ∈ eL) (c0 : 0 < c) (c1 : c < e) (r1 : r < e) : ∀ k, k ≤ r → turnK e k (elemT e c r) = elemT e c (r - k)
  | 0, _ => rfl
  | k + 1, h => by
    show turnX (turnK e k (elemT e c r)) e = _
    rw [turnK_elem he c0 c1 r1 k (by omega), (elem_step he c0 c1 (r := r - k) (by omega) (by omega)).1]
    congr 1

theorem rF_mask {e c r : Nat} (he : e ∈ eL) (c0 : 0 < c) (c1 : c < e) (r1 : r < e) : rF (maskM e c r) e = some r := by
  unfold rF
  rw [List.find?_range_eq_some, low_mask he c0 c1 r1]
  refine ⟨?_, List.mem_range.2 r1, fun j hj => ?_⟩
  · rw [turnK_elem he c0 c1 r1 r (Nat.le_refl _), Nat.sub_self, (elem_zero he c0 c1).1, oF_ones he c0 c1]
    rfl
  · rw [turnK_elem he c0 c1 r1 j (by omega), oF_none he (elem_step he c0 c1 (r := r - j) (by omega) (by omega)).2]
    rfl

theorem xE_mask {e c r : Nat} (he : e ∈ eL) (c0 : 0 < c) (c1 : c < e) (r1 : r < e) : xE (maskM e c r) = some e := by
  have h1 := (Bool.and_eq_true_iff.1 (allT_spec ag_all he c0 c1 r1)).1
  have h2 := allT_spec less_all he c0 c1 r1
  have hl : ∀ d ∈ eL, d < e → agN (maskM e c r) d = false := by
    intro d hd hlt
    have := List.all_eq_true.1 h2 d hd
    rcases Bool.or_eq_true_iff.1 this with g | g
    · have := Nat.le_of_ble_eq_true g; omega
    · simpa using g
  unfold xE
  generalize maskM e c r = m at *
  simp only [eL, List.mem_cons, List.not_mem_nil, or_false] at he
  have f2 := hl 2 (by simp [eL])
  have f4 := hl 4 (by simp [eL])
  have f8 := hl 8 (by simp [eL])
  have f16 := hl 16 (by simp [eL])
  have f32 := hl 32 (by simp [eL])
  rcases he with rfl | rfl | rfl | rfl | rfl | rfl
  · simp [eL, h1]
  · simp [eL, h1, f2 (by omega)]
  · simp [eL, h1, f2 (by omega), f4 (by omega)]
  · simp [eL, h1, f2 (by omega), f4 (by omega), f8 (by omega)]
  · simp [eL, h1, f2 (by omega), f4 (by omega), f8 (by omega), f16 (by omega)]
  · simp [eL, h1, f2 (by omega), f4 (by omega), f8 (by omega), f16 (by omega), f32 (by omega)]

theorem xOf_mask {e c r : Nat} (he : e ∈ eL) (c0 : 0 < c) (c1 : c < e) (r1 : r < e) : xOf (maskM e c r) = some (e, r, c) := by
  unfold xOf
  rw [xE_mask he c0 c1 r1, Option.bind_some, rF_mask he c0 c1 r1, Option.bind_some, low_mask he c0 c1 r1, turnK_elem he c0 c1 r1 r (Nat.le_refl _), Nat.sub_self,
    (elem_zero he c0 c1).1, oF_ones he c0 c1]
  rfl

theorem ag_bit {m e : Nat} (he : e ∈ eL) (h : agN m e = true) {k : Nat} (hk : k < 64) : m.testBit k = (lowX m e).testBit (k % e) := by
  obtain ⟨e2, e64⟩ := eL_cases he
  have hd : k / e < 64 / e := by
    simp only [eL, List.mem_cons, List.not_mem_nil, or_false] at he
    rcases he with rfl | rfl | rfl | rfl | rfl | rfl <;> omega
  have h1 := Nat.eq_of_beq_eq_true (List.all_eq_true.1 h (k / e) (List.mem_range.2 hd))
  have hm : k % e < e := Nat.mod_lt _ (by omega)
  unfold lowX
  rw [← h1, onesN_eq e64, Nat.testBit_and, Nat.testBit_shiftRight, Nat.testBit_two_pow_sub_one, decide_eq_true hm, Bool.and_true]
  congr 1
  rw [Nat.mul_comm]
  exact (Nat.div_add_mod k e).symm

theorem ag_eq {m n e : Nat} (he : e ∈ eL) (hm : m < 2 ^ 64) (hn : n < 2 ^ 64) (h1 : agN m e = true) (h2 : agN n e = true) (hl : lowX m e = lowX n e) : m = n := by
  apply Nat.eq_of_testBit_eq
  intro k
  by_cases hk : k < 64
  · rw [ag_bit he h1 hk, ag_bit he h2 hk, hl]
  · rw [Nat.testBit_lt_two_pow (Nat.lt_of_lt_of_le hm (Nat.pow_le_pow_right (by omega) (show 64 ≤ k by omega))),
        Nat.testBit_lt_two_pow (Nat.lt_of_lt_of_le hn (Nat.pow_le_pow_right (by omega) (show 64 ≤ k by omega)))]

theorem maskM_all : allT (fun e c r => Nat.blt (maskM e c r) (2 ^ 64)) = true := by kernel_rfl

theorem xOf_some {m e r o : Nat} (hm : m < 2 ^ 64) (h : xOf m = some (e, r, o)) : e ∈ eL ∧ 0 < o ∧ o < e ∧ r < e ∧ m = maskM e o r := by
  unfold xOf at h
  cases hE : xE m
  · rw [hE] at h; cases h
  rename_i e'
  rw [hE, Option.bind_some] at h
  cases hR : rF m e'
  · rw [hR] at h; cases h
  rename_i r'
  rw [hR, Option.bind_some] at h
  cases hO : oF (turnK e' r' (lowX m e')) e'
  · rw [hO] at h; cases h
  rename_i o'
  rw [hO] at h
  obtain ⟨rfl, rfl, rfl⟩ : e' = e ∧ r' = r ∧ o' = o := by simpa using h
  have he : e' ∈ eL := List.mem_of_find?_eq_some hE
  have hag : agN m e' = true := List.find?_some hE
  have hr : r' < e' := List.mem_range.1 (List.mem_of_find?_eq_some hR)
  obtain ⟨o0, o1, hx⟩ := oF_some hO
  obtain ⟨e2, e64⟩ := eL_cases he
  refine ⟨he, o0, o1, hr, ?_⟩
  have hp := Nat.two_pow_pos e'
  have l1 : lowX m e' < 2 ^ e' := by unfold lowX; rw [onesN_eq e64]; exact Nat.and_lt_two_pow _ (by omega)
  have l2 : lowX (maskM e' o' r') e' < 2 ^ e' := by unfold lowX; rw [onesN_eq e64]; exact Nat.and_lt_two_pow _ (by omega)
  have hl : lowX m e' = lowX (maskM e' o' r') e' := by
    refine turnK_inj e64 (by omega) r' _ _ l1 l2 ?_
    rw [hx, low_mask he o0 o1 hr, turnK_elem he o0 o1 hr r' (Nat.le_refl _), Nat.sub_self, (elem_zero he o0 o1).1]
  exact ag_eq he hm (Nat.le_of_ble_eq_true (allT_spec maskM_all he o0 o1 hr)) hag (Bool.and_eq_true_iff.1 (allT_spec ag_all he o0 o1 hr)).1 hl

/-- The document's fields of a mask are the program's. -/
theorem xOfV_eq {m : Nat} (hm : m < 2 ^ 64) : xOfV m = ofV m := by
  cases hf : ofFind m
  · rw [ofV_none hf]
    unfold xOfV
    cases hx : xOf m
    · rfl
    · rename_i a
      obtain ⟨e, r, o⟩ := a
      obtain ⟨he, o0, o1, hr, hme⟩ := xOf_some hm hx
      have hb := (Bool.and_eq_true_iff.1 (allT_spec ag_all he o0 o1 hr)).2
      rw [← hme] at hb
      obtain ⟨b1, hb⟩ := Bool.and_eq_true_iff.1 hb
      obtain ⟨b2, b3⟩ := Bool.and_eq_true_iff.1 hb
      have b3 : (Nat.beq m 0 || Nat.beq m 18446744073709551615) = false := by simpa using b3
      have b1 := Nat.eq_of_beq_eq_true b1
      unfold ofFind at hf
      rw [b3, cond_false, List.find?_range_eq_none] at hf
      have := hf r (by rw [b1]; exact hr)
      rw [b1, b2] at this
      cases this
  · rename_i r
    rw [ofV_some hf]
    obtain ⟨g1, g2, g3, g4⟩ := of_mask hm hf
    have hx := xOf_mask (ofE_mem m) g1 g2 g3
    rw [g4] at hx
    unfold xOfV
    rw [hx]
    simp only
    rw [(elem_zero (ofE_mem m) g1 g2).2]

end Go.Arm
