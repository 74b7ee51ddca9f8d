/-
  The document's words are the program's. Conditions: none.
-/
import Derived.Test.YtegieioiofggbaaRv20
namespace Go.Rv
open Go Go.Ab

section
variable (r : RowX) (a b c m : Int)
theorem wG82 (h : r.1 = 82) : wordG r a b c m = or32 (baseX r a b c) (shl32 r.2.2.2.2 25) := by unfold wordG; rw [h, show ((82 : Int) == 82) = true from rfl, cond_true]
theorem wG73 (h : r.1 = 73) : wordG r a b c m = or32 (baseX r a b c) (shl32 (bitX m 0 12) 20) := by unfold wordG; rw [h, show ((73 : Int) == 82) = false from rfl, cond_false, show ((73 : Int) == 73) = true from rfl, cond_true]
theorem wG104 (h : r.1 = 104) : wordG r a b c m = or32 (or32 (baseX r a b c) (shl32 r.2.2.2.2 25)) (shl32 m 20) := by unfold wordG; rw [h, show ((104 : Int) == 82) = false from rfl, cond_false, show ((104 : Int) == 73) = false from rfl, cond_false, show ((104 : Int) == 104) = true from rfl, cond_true]
theorem wG119 (h : r.1 = 119) : wordG r a b c m = or32 (or32 (baseX r a b c) (shl32 r.2.2.2.2 25)) (shl32 m 20) := by unfold wordG; rw [h, show ((119 : Int) == 82) = false from rfl, cond_false, show ((119 : Int) == 73) = false from rfl, cond_false, show ((119 : Int) == 104) = false from rfl, cond_false, show ((119 : Int) == 119) = true from rfl, cond_true]
theorem wG83 (h : r.1 = 83) : wordG r a b c m = or32 (or32 (baseX r a b c) (shl32 (bitX m 0 5) 7)) (shl32 (bitX m 5 7) 25) := by unfold wordG; rw [h, show ((83 : Int) == 82) = false from rfl, cond_false, show ((83 : Int) == 73) = false from rfl, cond_false, show ((83 : Int) == 104) = false from rfl, cond_false, show ((83 : Int) == 119) = false from rfl, cond_false, show ((83 : Int) == 83) = true from rfl, cond_true]
theorem wG66 (h : r.1 = 66) : wordG r a b c m = or32 (or32 (or32 (or32 (baseX r a b c) (shl32 (bitX m 11 1) 7)) (shl32 (bitX m 1 4) 8)) (shl32 (bitX m 5 6) 25)) (shl32 (bitX m 12 1) 31) := by unfold wordG; rw [h, show ((66 : Int) == 82) = false from rfl, cond_false, show ((66 : Int) == 73) = false from rfl, cond_false, show ((66 : Int) == 104) = false from rfl, cond_false, show ((66 : Int) == 119) = false from rfl, cond_false, show ((66 : Int) == 83) = false from rfl, cond_false, show ((66 : Int) == 66) = true from rfl, cond_true]
theorem wG85 (h : r.1 = 85) : wordG r a b c m = or32 (baseX r a b c) (shl32 m 12) := by unfold wordG; rw [h, show ((85 : Int) == 82) = false from rfl, cond_false, show ((85 : Int) == 73) = false from rfl, cond_false, show ((85 : Int) == 104) = false from rfl, cond_false, show ((85 : Int) == 119) = false from rfl, cond_false, show ((85 : Int) == 83) = false from rfl, cond_false, show ((85 : Int) == 66) = false from rfl, cond_false, show ((85 : Int) == 85) = true from rfl, cond_true]
theorem wG74 (h : r.1 = 74) : wordG r a b c m = or32 (or32 (or32 (or32 (baseX r a b c) (shl32 (bitX m 12 8) 12)) (shl32 (bitX m 11 1) 20)) (shl32 (bitX m 1 10) 21)) (shl32 (bitX m 20 1) 31) := by unfold wordG; rw [h, show ((74 : Int) == 82) = false from rfl, cond_false, show ((74 : Int) == 73) = false from rfl, cond_false, show ((74 : Int) == 104) = false from rfl, cond_false, show ((74 : Int) == 119) = false from rfl, cond_false, show ((74 : Int) == 83) = false from rfl, cond_false, show ((74 : Int) == 66) = false from rfl, cond_false, show ((74 : Int) == 85) = false from rfl, cond_false, show ((74 : Int) == 74) = true from rfl, cond_true]
theorem wG120 (h : r.1 = 120) : wordG r a b c m = r.2.2.1 := by unfold wordG; rw [h, show ((120 : Int) == 82) = false from rfl, cond_false, show ((120 : Int) == 73) = false from rfl, cond_false, show ((120 : Int) == 104) = false from rfl, cond_false, show ((120 : Int) == 119) = false from rfl, cond_false, show ((120 : Int) == 83) = false from rfl, cond_false, show ((120 : Int) == 66) = false from rfl, cond_false, show ((120 : Int) == 85) = false from rfl, cond_false, show ((120 : Int) == 74) = false from rfl, cond_false]
end

section
variable (n : Int)
theorem iF0 : immF 0 n = 0 := by unfold immF; rw [show ((0 : Int) == 1) = false from rfl, cond_false, show ((0 : Int) == 2) = false from rfl, cond_false, show ((0 : Int) == 3) = false from rfl, cond_false, show ((0 : Int) == 4) = false from rfl, cond_false, show ((0 : Int) == 5) = false from rfl, cond_false, show ((0 : Int) == 6) = false from rfl, cond_false, show ((0 : Int) == 7) = false from rfl, cond_false]
theorem iF1 : immF 1 n = partF n 0 12 20 := by unfold immF; rw [show ((1 : Int) == 1) = true from rfl, cond_true]
theorem iF2 : immF 2 n = partF n 0 6 20 := by unfold immF; rw [show ((2 : Int) == 1) = false from rfl, cond_false, show ((2 : Int) == 2) = true from rfl, cond_true]
theorem iF3 : immF 3 n = partF n 0 6 20 := by unfold immF; rw [show ((3 : Int) == 1) = false from rfl, cond_false, show ((3 : Int) == 2) = false from rfl, cond_false, show ((3 : Int) == 3) = true from rfl, cond_true]
theorem iF4 : immF 4 n = or32 (partF n 0 5 7) (partF n 5 7 25) := by unfold immF; rw [show ((4 : Int) == 1) = false from rfl, cond_false, show ((4 : Int) == 2) = false from rfl, cond_false, show ((4 : Int) == 3) = false from rfl, cond_false, show ((4 : Int) == 4) = true from rfl, cond_true]
theorem iF5 : immF 5 n = or32 (or32 (or32 (partF n 1 4 8) (partF n 5 6 25)) (partF n 11 1 7)) (partF n 12 1 31) := by unfold immF; rw [show ((5 : Int) == 1) = false from rfl, cond_false, show ((5 : Int) == 2) = false from rfl, cond_false, show ((5 : Int) == 3) = false from rfl, cond_false, show ((5 : Int) == 4) = false from rfl, cond_false, show ((5 : Int) == 5) = true from rfl, cond_true]
theorem iF6 : immF 6 n = partF n 0 20 12 := by unfold immF; rw [show ((6 : Int) == 1) = false from rfl, cond_false, show ((6 : Int) == 2) = false from rfl, cond_false, show ((6 : Int) == 3) = false from rfl, cond_false, show ((6 : Int) == 4) = false from rfl, cond_false, show ((6 : Int) == 5) = false from rfl, cond_false, show ((6 : Int) == 6) = true from rfl, cond_true]
theorem iF7 : immF 7 n = or32 (or32 (or32 (partF n 1 10 21) (partF n 11 1 20)) (partF n 12 8 12)) (partF n 20 1 31) := by unfold immF; rw [show ((7 : Int) == 1) = false from rfl, cond_false, show ((7 : Int) == 2) = false from rfl, cond_false, show ((7 : Int) == 3) = false from rfl, cond_false, show ((7 : Int) == 4) = false from rfl, cond_false, show ((7 : Int) == 5) = false from rfl, cond_false, show ((7 : Int) == 6) = false from rfl, cond_false, show ((7 : Int) == 7) = true from rfl, cond_true]
theorem iF8 : immF 8 n = 0 := by unfold immF; rw [show ((8 : Int) == 1) = false from rfl, cond_false, show ((8 : Int) == 2) = false from rfl, cond_false, show ((8 : Int) == 3) = false from rfl, cond_false, show ((8 : Int) == 4) = false from rfl, cond_false, show ((8 : Int) == 5) = false from rfl, cond_false, show ((8 : Int) == 6) = false from rfl, cond_false, show ((8 : Int) == 7) = false from rfl, cond_false]
end

/-- A number without sign, of 32 bits. -/
def IsN (x : Int) (m : Nat) : Prop := x = m ∧ m < 2 ^ 32

theorem IsN.or {x y : Int} {a b : Nat} (h : IsN x a) (k : IsN y b) : IsN (or32 x y) (a ||| b) := by
  obtain ⟨rfl, h2⟩ := h
  obtain ⟨rfl, k2⟩ := k
  refine ⟨?_, Nat.or_lt_two_pow h2 k2⟩
  rw [or32_nat (by omega) (by omega) (by omega) (by omega)]
  simp only [Int.toNat_natCast]

theorem IsN.zero : IsN 0 0 := ⟨rfl, by decide⟩

theorem IsN.part (n : Int) {fr bi at_ : Nat} (h1 : fr ≤ 64) (h2 : at_ + bi ≤ 32) (h3 : bi < 32) : IsN (partF n fr bi at_) (partN n fr bi <<< at_) := by
  refine ⟨part_eq n h1 h2 h3, ?_⟩
  rw [Nat.shiftLeft_eq]
  have h1 := Nat.mul_lt_mul_of_pos_right (partN_lt n fr bi) (Nat.two_pow_pos at_)
  rw [← Nat.pow_add] at h1
  have : (2 : Nat) ^ (bi + at_) ≤ 2 ^ 32 := Nat.pow_le_pow_right (by omega) (by omega)
  omega

theorem IsN.shl {x : Int} {p k b : Nat} (h : x = p) (hp : p < 2 ^ b) (hk : b + k ≤ 32) : IsN (shl32 x k) (p <<< k) := by
  subst h
  have h1 := Nat.mul_lt_mul_of_pos_right hp (Nat.two_pow_pos k)
  rw [← Nat.pow_add] at h1
  have h2 : (2 : Nat) ^ (b + k) ≤ 2 ^ 32 := Nat.pow_le_pow_right (by omega) (by omega)
  rw [IsN, Nat.shiftLeft_eq]
  unfold shl32
  have he : ((2 : Int) ^ k) = ((2 ^ k : Nat) : Int) := by simp
  rw [wrap_u32, he, ← Int.natCast_mul]
  generalize p * 2 ^ k = q at h1
  omega

theorem IsN.bit (n : Int) {fr bi k : Nat} (h1 : fr + bi ≤ 32) (h2 : bi + k ≤ 32) (h3 : bi < 32) : IsN (shl32 (bitX (IntKind.wrap .u32 (IntKind.wrap .u64 n)) fr bi) k) (partN n fr bi <<< k) := by
  have hm : IntKind.wrap .u32 (IntKind.wrap .u64 n) = (((n % 4294967296).toNat : Nat) : Int) := by
    rw [wrap_u32, wrap_u64]
    omega
  refine IsN.shl (b := bi) ?_ (partN_lt _ _ _) h2
  rw [hm, bit_part (by omega) (by omega) h3, part_mod n h1]

theorem word_eq {i : InsT} (h : (encE i == 0) = true) : wordX i = encW i := by
  obtain ⟨nm, a, b, c, d, n⟩ := i
  obtain ⟨hf, hz⟩ := enc_ok h
  simp only at hf hz
  obtain ⟨e, hm⟩ := frow_eq (by rw [← fok_eq]; exact hf)
  have hfine := rowX_fine hm
  have hreg := enc_regs h
  obtain ⟨_, _, hlo, hhi, _⟩ := faulty_all hz
  obtain ⟨k1, k2, k3⟩ := faulty_regs hz
  unfold wordX encW
  simp only
  rw [e] at hlo hhi k1 k2 k3 ⊢
  generalize frowX nm = r at hm hfine hlo hhi k1 k2 k3 ⊢
  obtain ⟨g, nm', o, p, q⟩ := r
  simp only [rowXFine, Bool.and_eq_true, decide_eq_true_eq, Bool.or_eq_true, beq_iff_eq, Bool.not_eq_true', beq_eq_false_iff_ne] at hfine
  obtain ⟨hform, o0, o1, p0, p1, q0, q1, hq, hx⟩ := hfine
  simp only [conv] at hlo hhi k1 k2 k3 ⊢
  have hO : IsN o o.toNat := ⟨by omega, by omega⟩
  have hP : IsN (shl32 p 12) (p.toNat <<< 12) := IsN.shl (b := 3) (by omega) (by omega) (by omega)
  have hQ : IsN (shl32 q 25) (q.toNat <<< 25) := IsN.shl (b := 7) (by omega) (by omega) (by omega)
  have hA : IsN (shl32 (IntKind.wrap .u32 a) 7) (a.toNat <<< 7) := IsN.shl (b := 5) (by rw [wrap_u32]; have := hreg.a0; have := hreg.a1; omega) (by have := hreg.a1; omega) (by omega)
  have hB : IsN (shl32 (IntKind.wrap .u32 b) 15) (b.toNat <<< 15) := IsN.shl (b := 5) (by rw [wrap_u32]; have := hreg.b0; have := hreg.b1; omega) (by have := hreg.b1; omega) (by omega)
  have hC : IsN (shl32 (IntKind.wrap .u32 c) 20) (c.toNat <<< 20) := IsN.shl (b := 5) (by rw [wrap_u32]; have := hreg.c0; have := hreg.c1; omega) (by have := hreg.c1; omega) (by omega)
  have base : ∀ {nm}, IsN (baseX (g, nm, o, p, q) a b c) ((((o.toNat ||| p.toNat <<< 12) ||| a.toNat <<< 7) ||| b.toNat <<< 15) ||| c.toNat <<< 20) := fun {_} => (((hO.or hP).or hA).or hB).or hC
  have prog : ∀ {I : Nat}, IsN (immF (codeF g) n) I → IsN (wordF (codeF g) (or32 (or32 o (shl32 p 12)) (shl32 q 25)) a b c n)
      ((((((o.toNat ||| p.toNat <<< 12) ||| q.toNat <<< 25) ||| a.toNat <<< 7) ||| b.toNat <<< 15) ||| c.toNat <<< 20) ||| I) := fun {_} hI => (((((hO.or hP).or hQ).or hA).or hB).or hC).or hI
  have join : ∀ {x y : Int} {s t : Nat}, IsN x s → IsN y t → s = t → x = y := fun h k e => by rw [h.1, k.1, e]
  have bit := fun {fr bi k : Nat} => IsN.bit n (fr := fr) (bi := bi) (k := k)
  have part := fun {fr bi k : Nat} => IsN.part n (fr := fr) (bi := bi) (at_ := k)
  have q00 : ∀ (hg : ¬ g = 82 ∧ ¬ g = 104 ∧ ¬ g = 119), q.toNat <<< 25 = 0 := by
    intro hg
    have : q = 0 := by omega
    rw [this]
    rfl
  rcases form_eq hform with h | h | h | h | h | h | h | h | h
  · subst h
    rw [wG82 _ _ _ _ _ rfl]
    refine join (base.or hQ) (prog (I := 0) (by rw [show codeF 82 = 0 from rfl, iF0]; exact .zero)) ?_
    rw [Nat.or_zero]
    generalize o.toNat = x1, p.toNat <<< 12 = x2, q.toNat <<< 25 = x3, a.toNat <<< 7 = x4, b.toNat <<< 15 = x5, c.toNat <<< 20 = x6
    ac_rfl
  · have z := q00 (by omega)
    subst h
    rw [wG73 _ _ _ _ _ rfl]
    refine join (base.or (bit (fr := 0) (bi := 12) (k := 20) (by omega) (by omega) (by omega))) (prog (by rw [show codeF 73 = 1 from rfl, iF1]; exact part (fr := 0) (bi := 12) (k := 20) (by omega) (by omega) (by omega))) ?_
    rw [z, Nat.or_zero]
  · subst h
    rw [wG104 _ _ _ _ _ rfl]
    have hn : 0 ≤ n ∧ n ≤ 63 := by
      rw [show bnd (codeF 104) = (0, 63, 1) from rfl] at hlo hhi
      simp only at hlo hhi
      omega
    have hN : IsN (shl32 (IntKind.wrap .u32 (IntKind.wrap .u64 n)) 20) (partN n 0 6 <<< 20) := by
      refine IsN.shl (b := 6) ?_ (partN_lt _ _ _) (by omega)
      have i := partN_int n (fr := 0) (bi := 6) (by omega)
      rw [wrap_u32, wrap_u64, i]
      omega
    refine join ((base.or hQ).or hN) (prog (by rw [show codeF 104 = 2 from rfl, iF2]; exact part (fr := 0) (bi := 6) (k := 20) (by omega) (by omega) (by omega))) ?_
    generalize o.toNat = x1, p.toNat <<< 12 = x2, q.toNat <<< 25 = x3, a.toNat <<< 7 = x4, b.toNat <<< 15 = x5, c.toNat <<< 20 = x6, partN n 0 6 <<< 20 = x7
    ac_rfl
  · subst h
    rw [wG119 _ _ _ _ _ rfl]
    have hn : 0 ≤ n ∧ n ≤ 31 := by
      rw [show bnd (codeF 119) = (0, 31, 1) from rfl] at hlo hhi
      simp only at hlo hhi
      omega
    have hN : IsN (shl32 (IntKind.wrap .u32 (IntKind.wrap .u64 n)) 20) (partN n 0 6 <<< 20) := by
      refine IsN.shl (b := 6) ?_ (partN_lt _ _ _) (by omega)
      have i := partN_int n (fr := 0) (bi := 6) (by omega)
      rw [wrap_u32, wrap_u64, i]
      omega
    refine join ((base.or hQ).or hN) (prog (by rw [show codeF 119 = 3 from rfl, iF3]; exact part (fr := 0) (bi := 6) (k := 20) (by omega) (by omega) (by omega))) ?_
    generalize o.toNat = x1, p.toNat <<< 12 = x2, q.toNat <<< 25 = x3, a.toNat <<< 7 = x4, b.toNat <<< 15 = x5, c.toNat <<< 20 = x6, partN n 0 6 <<< 20 = x7
    ac_rfl
  · have z := q00 (by omega)
    subst h
    rw [wG83 _ _ _ _ _ rfl]
    refine join ((base.or (bit (fr := 0) (bi := 5) (k := 7) (by omega) (by omega) (by omega))).or (bit (fr := 5) (bi := 7) (k := 25) (by omega) (by omega) (by omega)))
      (prog (by rw [show codeF 83 = 4 from rfl, iF4]; exact (part (fr := 0) (bi := 5) (k := 7) (by omega) (by omega) (by omega)).or (part (fr := 5) (bi := 7) (k := 25) (by omega) (by omega) (by omega)))) ?_
    rw [z, Nat.or_zero, Nat.or_assoc]
  · have z := q00 (by omega)
    subst h
    rw [wG66 _ _ _ _ _ rfl]
    refine join ((((base.or (bit (fr := 11) (bi := 1) (k := 7) (by omega) (by omega) (by omega))).or (bit (fr := 1) (bi := 4) (k := 8) (by omega) (by omega) (by omega))).or (bit (fr := 5) (bi := 6) (k := 25) (by omega) (by omega) (by omega))).or (bit (fr := 12) (bi := 1) (k := 31) (by omega) (by omega) (by omega)))
      (prog (by rw [show codeF 66 = 5 from rfl, iF5]; exact (((part (fr := 1) (bi := 4) (k := 8) (by omega) (by omega) (by omega)).or (part (fr := 5) (bi := 6) (k := 25) (by omega) (by omega) (by omega))).or (part (fr := 11) (bi := 1) (k := 7) (by omega) (by omega) (by omega))).or (part (fr := 12) (bi := 1) (k := 31) (by omega) (by omega) (by omega)))) ?_
    rw [z, Nat.or_zero]
    generalize ((((o.toNat ||| p.toNat <<< 12) ||| a.toNat <<< 7) ||| b.toNat <<< 15) ||| c.toNat <<< 20) = x1, partN n 11 1 <<< 7 = x2, partN n 1 4 <<< 8 = x3, partN n 5 6 <<< 25 = x4, partN n 12 1 <<< 31 = x5
    ac_rfl
  · have z := q00 (by omega)
    subst h
    rw [wG85 _ _ _ _ _ rfl]
    have hN : IsN (shl32 (IntKind.wrap .u32 (IntKind.wrap .u64 n)) 12) (partN n 0 20 <<< 12) := by
      have i := partN_int n (fr := 0) (bi := 20) (by omega)
      have l := partN_lt n 0 20
      rw [IsN, Nat.shiftLeft_eq]
      unfold shl32
      rw [wrap_u32, wrap_u32, wrap_u64]
      omega
    refine join (base.or hN) (prog (by rw [show codeF 85 = 6 from rfl, iF6]; exact part (fr := 0) (bi := 20) (k := 12) (by omega) (by omega) (by omega))) ?_
    rw [z, Nat.or_zero]
  · have z := q00 (by omega)
    subst h
    rw [wG74 _ _ _ _ _ rfl]
    refine join ((((base.or (bit (fr := 12) (bi := 8) (k := 12) (by omega) (by omega) (by omega))).or (bit (fr := 11) (bi := 1) (k := 20) (by omega) (by omega) (by omega))).or (bit (fr := 1) (bi := 10) (k := 21) (by omega) (by omega) (by omega))).or (bit (fr := 20) (bi := 1) (k := 31) (by omega) (by omega) (by omega)))
      (prog (by rw [show codeF 74 = 7 from rfl, iF7]; exact (((part (fr := 1) (bi := 10) (k := 21) (by omega) (by omega) (by omega)).or (part (fr := 11) (bi := 1) (k := 20) (by omega) (by omega) (by omega))).or (part (fr := 12) (bi := 8) (k := 12) (by omega) (by omega) (by omega))).or (part (fr := 20) (bi := 1) (k := 31) (by omega) (by omega) (by omega)))) ?_
    rw [z, Nat.or_zero]
    generalize ((((o.toNat ||| p.toNat <<< 12) ||| a.toNat <<< 7) ||| b.toNat <<< 15) ||| c.toNat <<< 20) = x1, partN n 12 8 <<< 12 = x2, partN n 11 1 <<< 20 = x3, partN n 1 10 <<< 21 = x4, partN n 20 1 <<< 31 = x5
    ac_rfl
  · have z := q00 (by omega)
    have hp0 : p = 0 := by
      rcases hx with hx | hx
      · exact absurd h hx
      · exact hx.1
    have ha : a = 0 := by
      rw [h, show codeF 120 = 8 from rfl] at k1
      simpa [regOk, uA] using k1
    have hb : b = 0 := by
      rw [h, show codeF 120 = 8 from rfl] at k2
      simpa [regOk, uB] using k2
    have hc : c = 0 := by
      rw [h, show codeF 120 = 8 from rfl] at k3
      simpa [regOk, uC] using k3
    subst h
    rw [wG120 _ _ _ _ _ rfl]
    refine join hO (prog (I := 0) (by rw [show codeF 120 = 8 from rfl, iF8]; exact .zero)) ?_
    rw [z, hp0, ha, hb, hc]
    simp

end Go.Rv
