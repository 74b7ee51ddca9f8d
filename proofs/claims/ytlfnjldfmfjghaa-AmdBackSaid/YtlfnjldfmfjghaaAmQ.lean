/-
  What is taken of an opcode's bytes: without REX, with REX, behind 64. Conditions: none.
-/
import Derived.Test.YtlfnjldfmfjghaaAmP
namespace Go.Amd
open Go Go.Ab Go.Proofs

/-- A byte that is an opcode of one byte. -/
def OneB (c : Int) : Prop := (c == 15) = false ∧ (c == 100) = false ∧ (sh4 c == 4) = false

theorem bne_of {a b : Int} (h : (a == b) = false) : (a != b) = true := by
  unfold bne
  rw [h]; rfl
theorem opcP_one {c : Int} (h : OneB c) (t : List Int) : opcP (c :: t) = .ok ([c], 1, false, 0, false) := by
  obtain ⟨h1, h2, h3⟩ := h
  show opc0 c t = _
  unfold opc0
  rw [h2, h3, bne_of h1]
  rfl
theorem opcP_two (d : Int) (t : List Int) : opcP (15 :: d :: t) = .ok ([15, d], 2, false, 0, false) := rfl

theorem rexs_all : all1 16 (fun r => (64 + r == 100) == false && (sh4 (64 + r) == 4 && and8 (64 + r) 15 == r)) = true := by kernel_rfl
theorem rexs_of {r : Int} (r0 : 0 ≤ r) (r1 : r < 16) : (64 + r == 100) = false ∧ (sh4 (64 + r) == 4) = true ∧ and8 (64 + r) 15 = r := by
  have := all1_of rexs_all r0 r1
  obtain ⟨h1, h2⟩ := Bool.and_eq_true_iff.1 this
  obtain ⟨h2, h3⟩ := Bool.and_eq_true_iff.1 h2
  exact ⟨eq_of_beq h1, h2, eq_of_beq h3⟩
theorem opcP_rex1 {c r : Int} (r0 : 0 ≤ r) (r1 : r < 16) (h : (c == 15) = false) (t : List Int) : opcP ((64 + r) :: c :: t) = .ok ([c], 2, false, r, true) := by
  obtain ⟨h1, h2, h3⟩ := rexs_of r0 r1
  show opc0 (64 + r) (c :: t) = _
  unfold opc0
  rw [h1, h2, h3, cond_false, cond_true]
  show opc2 r c t = _
  unfold opc2
  rw [bne_of h]
  rfl
theorem opcP_rex2 {d r : Int} (r0 : 0 ≤ r) (r1 : r < 16) (h : (and8 r 8 != 0) = true) (t : List Int) : opcP ((64 + r) :: 15 :: d :: t) = .ok ([15, d], 3, false, r, true) := by
  obtain ⟨h1, h2, h3⟩ := rexs_of r0 r1
  show opc0 (64 + r) (15 :: d :: t) = _
  unfold opc0
  rw [h1, h2, h3, cond_false, cond_true]
  show opc2 r 15 (d :: t) = _
  unfold opc2
  rw [h]
  rfl
theorem opcP_fs8 {d : Int} (h : (d == 15) = false) (t : List Int) : opcP (100 :: 72 :: d :: t) = .ok ([d], 3, true, 8, true) := by
  show (cond (d != 15) (Except.ok ([d], 3, true, and8 72 15, true)) (Except.error (22, 3, true, and8 72 15, true)) : OpR) = _
  rw [bne_of h]
  rfl
theorem opcP_fs12 {d : Int} (h : (d == 15) = false) (t : List Int) : opcP (100 :: 76 :: d :: t) = .ok ([d], 3, true, 12, true) := by
  show (cond (d != 15) (Except.ok ([d], 3, true, and8 76 15, true)) (Except.error (22, 3, true, and8 76 15, true)) : OpR) = _
  rw [bne_of h]
  rfl

end Go.Amd

namespace Go.Amd
open Go Go.Ab Go.Proofs

/-! REX's bits. -/

/-- Bits that a form lets stand. -/
def rexG (f r : Int) : Bool := and8 r (unusedF f) == 0 && and8 (8 + r) (unusedF f) == 0
theorem rexG_1 : all1 2 (fun r => [1, 2, 3, 4, 5, 6].all fun f => rexG f r) = true := by kernel_rfl
theorem rexG_7 : all2 2 2 (fun r q => [7, 8].all fun f => rexG f (4 * q + r)) = true := by kernel_rfl
theorem rexG_9 : all1 8 (fun r => [9, 10].all fun f => rexG f r) = true := by kernel_rfl
theorem rexG_0 : [0, 11, 12].all (fun f => rexG f 0) = true := by kernel_rfl
theorem rows_dg : rowsL.all (fun x => decide (0 ≤ x.2.2.2.2.1) && (decide (x.2.2.2.2.1 < 8) && wi x.2.2.2.2.1 == x.2.2.2.2.1)) = true := by kernel_rfl
theorem dg_rng {x : RowT} (hx : x ∈ rowsL) : 0 ≤ x.2.2.2.2.1 ∧ x.2.2.2.2.1 < 8 ∧ wi x.2.2.2.2.1 = x.2.2.2.2.1 := by
  have := List.all_eq_true.1 rows_dg x hx
  simp only [Bool.and_eq_true, decide_eq_true_eq, beq_iff_eq] at this
  exact this

theorem modP_rng {m a b c d : Int} {imm : List Int} (a0 : 0 ≤ a ∧ a < 16) (b0 : 0 ≤ b ∧ b < 16) (c0 : 0 ≤ c ∧ c ≤ 16) : 0 ≤ (modP m a b c d imm).1 ∧ (modP m a b c d imm).1 < 8 := by
  unfold modP
  cases h : (c == 16)
  · rw [cond_false, cond_false, cond_false]
    have : c ≠ 16 := by
      intro e; rw [e] at h; cases h
    show 0 ≤ sibR (rexM 0 a 4) c b ∧ sibR (rexM 0 a 4) c b < 8
    rw [sibR_eq a0.1 a0.2 c0.1 (by omega) b0.1 b0.2]
    omega
  · rw [cond_true, cond_true]
    cases (andi b 7 != 4)
    · show 0 ≤ sibR (rexM 0 a 4) 4 b ∧ sibR (rexM 0 a 4) 4 b < 8
      rw [sibR_eq a0.1 a0.2 (by omega) (by omega) b0.1 b0.2]
      omega
    · show 0 ≤ rexM 0 a b ∧ rexM 0 a b < 8
      rw [rexM_eq a0.1 a0.2 b0.1 b0.2]
      omega
theorem memP_rng {a b c d n : Int} (a0 : 0 ≤ a ∧ a < 16) (h : placeF b c d = true) : 0 ≤ (memP a b c d n).1 ∧ (memP a b c d n).1 < 8 := by
  unfold memP
  rcases place_rng h with ⟨rfl, -, -⟩ | ⟨b0, rfl, -⟩ | ⟨b0, c0, -, -⟩
  · show 0 ≤ rexM 0 a 5 ∧ rexM 0 a 5 < 8
    rw [rexM_eq a0.1 a0.2 (by omega) (by omega)]
    omega
  · have hb : (b == 17) = false := beq_eq_false_iff_ne.2 (by omega)
    rw [hb, cond_false]
    cases cond (n == 0) (andi b 7 != 5) false
    · rw [cond_false]
      cases fitsF n
      · exact modP_rng a0 b0 (by omega)
      · exact modP_rng a0 b0 (by omega)
    · exact modP_rng a0 b0 (by omega)
  · have hb : (b == 17) = false := beq_eq_false_iff_ne.2 (by omega)
    rw [hb, cond_false]
    cases cond (n == 0) (andi b 7 != 5) false
    · rw [cond_false]
      cases fitsF n
      · exact modP_rng a0 b0 (by omega)
      · exact modP_rng a0 b0 (by omega)
    · exact modP_rng a0 b0 (by omega)

/-- REX's bits of an instruction. -/
def rI (x : RowT) (i : InsT) : Int := rF (formR x) x.2.2.2.2.1 i.2.1 i.2.2.1 i.2.2.2.1 i.2.2.2.2.1 i.2.2.2.2.2

theorem rF_rng {f dg a b c d n : Int} (hf : f ∈ forms) (hdg : 0 ≤ dg ∧ dg < 8 ∧ wi dg = dg) (ha : 0 ≤ a ∧ a < 16) (hm : f = 9 → placeF b c d = true) (hb : f ≠ 9 → 0 ≤ b ∧ b < 16) :
    0 ≤ rF f dg a b c d n ∧ rF f dg a b c d n < 8 ∧ rexG f (rF f dg a b c d n) = true := by
  have g1 : ∀ f ∈ [1, 2, 3, 4, 5, 6], rexG f (a / 8) = true := fun f hf => List.all_eq_true.1 (all1_of rexG_1 (a := a / 8) (by omega) (by omega)) f hf
  have g7 : ∀ f ∈ [7, 8], ∀ p q : Int, 0 ≤ p → p < 16 → 0 ≤ q → q < 16 → rexG f (4 * (q / 8) + p / 8) = true := fun f hf p q p0 p1 q0 q1 =>
    List.all_eq_true.1 (all2_of rexG_7 (a := p / 8) (b := q / 8) (by omega) (by omega) (by omega) (by omega)) f hf
  have g9 : ∀ f ∈ [9, 10], ∀ r : Int, 0 ≤ r → r < 8 → rexG f r = true := fun f hf r r0 r1 => List.all_eq_true.1 (all1_of rexG_9 r0 r1) f hf
  have d8 : rexM 0 (wi dg) a = a / 8 := by
    rw [hdg.2.2, rexM_eq hdg.1 (by omega) ha.1 ha.2]
    omega
  have hi : or8 0 (hi4 a 1) = a / 8 := hi_eq ha.1 ha.2
  unfold forms at hf
  simp only [List.mem_cons, List.not_mem_nil, or_false] at hf
  rcases hf with rfl | rfl | rfl | rfl | rfl | rfl | rfl | rfl | rfl | rfl | rfl | rfl | rfl
  · exact ⟨Int.le_refl _, (by decide : (0 : Int) < 8), List.all_eq_true.1 rexG_0 0 (by simp)⟩
  · show 0 ≤ or8 0 (hi4 a 1) ∧ or8 0 (hi4 a 1) < 8 ∧ rexG 1 (or8 0 (hi4 a 1)) = true
    rw [hi]; exact ⟨by omega, by omega, g1 1 (by simp)⟩
  · show 0 ≤ or8 0 (hi4 a 1) ∧ or8 0 (hi4 a 1) < 8 ∧ rexG 2 (or8 0 (hi4 a 1)) = true
    rw [hi]; exact ⟨by omega, by omega, g1 2 (by simp)⟩
  · show 0 ≤ rexM 0 (wi dg) a ∧ rexM 0 (wi dg) a < 8 ∧ rexG 3 (rexM 0 (wi dg) a) = true
    rw [d8]; exact ⟨by omega, by omega, g1 3 (by simp)⟩
  · show 0 ≤ rexM 0 (wi dg) a ∧ rexM 0 (wi dg) a < 8 ∧ rexG 4 (rexM 0 (wi dg) a) = true
    rw [d8]; exact ⟨by omega, by omega, g1 4 (by simp)⟩
  · show 0 ≤ rexM 0 (wi dg) a ∧ rexM 0 (wi dg) a < 8 ∧ rexG 5 (rexM 0 (wi dg) a) = true
    rw [d8]; exact ⟨by omega, by omega, g1 5 (by simp)⟩
  · show 0 ≤ rexM 0 (wi dg) a ∧ rexM 0 (wi dg) a < 8 ∧ rexG 6 (rexM 0 (wi dg) a) = true
    rw [d8]; exact ⟨by omega, by omega, g1 6 (by simp)⟩
  · have b0 := hb (by decide)
    show 0 ≤ rexM 0 b a ∧ rexM 0 b a < 8 ∧ rexG 7 (rexM 0 b a) = true
    rw [rexM_eq b0.1 b0.2 ha.1 ha.2]
    exact ⟨by omega, by omega, g7 7 (by simp) a b ha.1 ha.2 b0.1 b0.2⟩
  · have b0 := hb (by decide)
    show 0 ≤ rexM 0 a b ∧ rexM 0 a b < 8 ∧ rexG 8 (rexM 0 a b) = true
    rw [rexM_eq ha.1 ha.2 b0.1 b0.2]
    exact ⟨by omega, by omega, g7 8 (by simp) b a b0.1 b0.2 ha.1 ha.2⟩
  · have h := memP_rng (n := n) ha (hm rfl)
    show 0 ≤ (memP a b c d n).1 ∧ (memP a b c d n).1 < 8 ∧ rexG 9 (memP a b c d n).1 = true
    exact ⟨h.1, h.2, g9 9 (by simp) _ h.1 h.2⟩
  · show 0 ≤ rexM 0 a 4 ∧ rexM 0 a 4 < 8 ∧ rexG 10 (rexM 0 a 4) = true
    rw [rexM_eq ha.1 ha.2 (by omega) (by omega)]
    exact ⟨by omega, by omega, g9 10 (by simp) _ (by omega) (by omega)⟩
  · exact ⟨Int.le_refl _, (by decide : (0 : Int) < 8), List.all_eq_true.1 rexG_0 11 (by simp)⟩
  · exact ⟨Int.le_refl _, (by decide : (0 : Int) < 8), List.all_eq_true.1 rexG_0 12 (by simp)⟩

/-- REX's bits of what may be. -/
theorem rI_rng {x : RowT} (hx : x ∈ rowsL) {i : InsT} (h : okF x i.2.1 i.2.2.1 i.2.2.2.1 i.2.2.2.2.1 = true) : 0 ≤ rI x i ∧ rI x i < 8 ∧ rexG (formR x) (rI x i) = true := by
  have hf : formR x ∈ forms := by simpa [formOk] using List.all_eq_true.1 rows_forms x hx
  unfold rI
  rcases ok_parts h with ⟨h1, h2, h3⟩ | ⟨h1, h2, h3, -, -⟩
  · exact rF_rng hf (dg_rng hx) (reg_rng h2) (fun _ => h3) (fun hn => absurd (eq_of_beq h1) hn)
  · refine rF_rng hf (dg_rng hx) (reg_rng h2) (fun he => ?_) (fun _ => reg_rng h3)
    unfold uM at h1
    rw [he] at h1
    cases h1

end Go.Amd

namespace Go.Amd
open Go Go.Ab Go.Proofs

def oneB (c : Int) : Bool := (c == 15) == false && ((c == 100) == false && (sh4 c == 4) == false)
theorem oneB_of {c : Int} (h : oneB c = true) : OneB c := by
  unfold oneB at h
  obtain ⟨h1, h⟩ := Bool.and_eq_true_iff.1 h
  obtain ⟨h2, h3⟩ := Bool.and_eq_true_iff.1 h
  exact ⟨eq_of_beq h1, eq_of_beq h2, eq_of_beq h3⟩
/-- The last byte of the opcode, by whether the number fits one byte. -/
def lastG (f : Int) (cn : Bool) (l a d : Int) (ft : Bool) : Int :=
  cond (f == 1) (w8 (l + w8 (andi a 7))) (cond (f == 2) (w8 (l + w8 (andi a 7))) (cond (f == 6) (cond ft l 129) (cond cn (w8 (l + w8 d)) l)))
theorem lastF_eq (f : Int) (cn : Bool) (l a d n : Int) : lastF f cn l a d n = lastG f cn l a d (fitsF n) := rfl
/-- What the opcode's bytes are good for. -/
def goodH (x : RowT) (c : Int) : Bool :=
  opensF x (hdF x.2.2.1 ++ [c]) && (decide (0 ≤ c) && (decide (c < 256) && cond (decide (255 < x.2.2.1)) (hdF x.2.2.1 == [15]) (hdF x.2.2.1 == [] && oneB c)))
def goodR (x : RowT) (a d : Int) (ft : Bool) : Bool := cond (condR x && !(condF d || d == 0)) true (goodH x (lastG (formR x) (condR x) (w8 x.2.2.1) a d ft))
theorem good_all : rowsL.all (fun x => bools.all fun ft => all2 16 16 fun a d => goodR x a d ft) = true := by kernel_rfl

def lastO (x : RowT) (i : InsT) : Int := lastF (formR x) (condR x) (w8 x.2.2.1) i.2.1 i.2.2.2.2.1 i.2.2.2.2.2
def headI (x : RowT) (i : InsT) : List Int := hdF x.2.2.1 ++ [lastO x i]

theorem head_good {x : RowT} (hx : x ∈ rowsL) {i : InsT} (h : okF x i.2.1 i.2.2.1 i.2.2.2.1 i.2.2.2.2.1 = true) : goodH x (lastO x i) = true := by
  have hm : ∀ b : Bool, b ∈ bools := by intro b; cases b <;> simp [bools]
  have key := List.all_eq_true.1 (List.all_eq_true.1 good_all x hx) (fitsF i.2.2.2.2.2) (hm _)
  have fin : ∀ (a0 : 0 ≤ i.2.1 ∧ i.2.1 < 16) (d0 : 0 ≤ i.2.2.2.2.1 ∧ i.2.2.2.2.1 < 16) (hc : (condR x && !(condF i.2.2.2.2.1 || i.2.2.2.2.1 == 0)) = false), goodH x (lastO x i) = true := by
    intro a0 d0 hc
    have := all2_of key a0.1 a0.2 d0.1 d0.2
    unfold goodR at this
    rw [hc] at this
    exact this
  have c9 : formR x = 9 → condR x = false := by
    intro he
    have hr : rowsL.all (fun x => !(formR x == 9 && condR x)) = true := by kernel_rfl
    have := List.all_eq_true.1 hr x hx
    rw [he] at this
    cases hc : condR x
    · rfl
    · rw [hc] at this; cases this
  rcases ok_parts h with ⟨h1, h2, h3⟩ | ⟨h1, h2, h3, h4, h5⟩
  · refine fin (reg_rng h2) ?_ ?_
    · rcases place_rng h3 with ⟨-, -, hd⟩ | ⟨-, -, hd⟩ | ⟨-, -, -, hd⟩ <;> omega
    · rw [c9 (eq_of_beq h1)]; rfl
  · rcases h5 with hd | ⟨hc, hd⟩
    · refine fin (reg_rng h2) (by omega) ?_
      rw [hd]
      cases condR x <;> rfl
    · refine fin (reg_rng h2) (cond_rng hd) ?_
      rw [hd]
      cases condR x <;> rfl

/-- The head: one byte or two, of an opcode its row opens with. -/
theorem head_ok {x : RowT} (hx : x ∈ rowsL) {i : InsT} (h : okF x i.2.1 i.2.2.1 i.2.2.2.1 i.2.2.2.2.1 = true) :
    opensF x (headI x i) = true ∧ ((headI x i = [lastO x i] ∧ OneB (lastO x i) ∧ IsB (lastO x i)) ∨ (headI x i = [15, lastO x i] ∧ IsB (lastO x i) ∧ 255 < x.2.2.1)) := by
  have hg := head_good hx h
  unfold goodH at hg
  obtain ⟨h1, hg⟩ := Bool.and_eq_true_iff.1 hg
  obtain ⟨h2, hg⟩ := Bool.and_eq_true_iff.1 hg
  obtain ⟨h3, hg⟩ := Bool.and_eq_true_iff.1 hg
  refine ⟨h1, ?_⟩
  unfold headI
  cases hb : decide (255 < x.2.2.1)
  · rw [hb, cond_false] at hg
    obtain ⟨h4, h5⟩ := Bool.and_eq_true_iff.1 hg
    rw [eq_of_beq h4]
    exact .inl ⟨rfl, oneB_of h5, of_decide_eq_true h2, of_decide_eq_true h3⟩
  · rw [hb, cond_true] at hg
    rw [eq_of_beq hg]
    exact .inr ⟨rfl, ⟨of_decide_eq_true h2, of_decide_eq_true h3⟩, of_decide_eq_true hb⟩
theorem head_op {x : RowT} (hx : x ∈ rowsL) {i : InsT} (h : okF x i.2.1 i.2.2.1 i.2.2.2.1 i.2.2.2.2.1 = true) : OpB (headI x i) := by
  rcases (head_ok hx h).2 with ⟨e, -, hb⟩ | ⟨e, hb, -⟩
  · exact .inl ⟨_, hb, e⟩
  · exact .inr ⟨_, hb, e⟩

end Go.Amd

namespace Go.Amd
open Go Go.Ab Go.Proofs

/-- What of REX is taken: the bits; whether it is there. -/
def takR (x : RowT) (i : InsT) : Int := cond (x.2.1 == 1) (8 + rI x i) (rI x i)
def takH (x : RowT) (i : InsT) : Bool := !(x.2.1 == 0 && rI x i == 0)
def takF (x : RowT) : Bool := formR x == 10
def takN (x : RowT) (i : InsT) : Int := cond (takF x) 3 (cond (takH x i) 1 0 + cond (decide (255 < x.2.2.1)) 2 1)

theorem rows_rex : rowsL.all (fun x => (x.2.1 == 0 || (x.2.1 == 1 || x.2.1 == 2)) && (cond (x.2.1 == 1 || decide (x.2.2.1 ≤ 255)) true (x.2.1 == 0 && (formR x == 0 || (formR x == 11 || formR x == 12))) && cond (formR x == 10) (x.2.1 == 1 && decide (x.2.2.1 ≤ 255)) true)) = true := by kernel_rfl
theorem rex_of {x : RowT} (hx : x ∈ rowsL) : (x.2.1 = 0 ∨ x.2.1 = 1 ∨ x.2.1 = 2) ∧ (x.2.1 ≠ 1 → 255 < x.2.2.1 → x.2.1 = 0 ∧ (formR x = 0 ∨ formR x = 11 ∨ formR x = 12)) ∧ (formR x = 10 → x.2.1 = 1 ∧ x.2.2.1 ≤ 255) := by
  have := List.all_eq_true.1 rows_rex x hx
  obtain ⟨h1, h⟩ := Bool.and_eq_true_iff.1 this
  obtain ⟨h2, h3⟩ := Bool.and_eq_true_iff.1 h
  simp only [Bool.or_eq_true, beq_iff_eq] at h1
  refine ⟨h1, fun hn hl => ?_, fun he => ?_⟩
  · rw [beq_eq_false_iff_ne.2 hn, decide_eq_false (Int.not_le.2 hl)] at h2
    simpa using h2
  · rw [he] at h3
    obtain ⟨h4, h5⟩ := Bool.and_eq_true_iff.1 h3
    exact ⟨eq_of_beq h4, of_decide_eq_true h5⟩

/-- Where there is no register, no bits. -/
theorem rI_none {x : RowT} {i : InsT} (h : formR x = 0 ∨ formR x = 11 ∨ formR x = 12) : rI x i = 0 := by
  unfold rI
  rcases h with h | h | h <;> rw [h] <;> rfl

end Go.Amd

namespace Go.Amd
open Go Go.Ab Go.Proofs

theorem or8_all : all1 8 (fun r => or8 r 8 == 8 + r && (or8 64 (8 + r) == 64 + (8 + r) && (or8 64 r == 64 + r && and8 (8 + r) 8 != 0))) = true := by kernel_rfl
theorem or8_of {r : Int} (r0 : 0 ≤ r) (r1 : r < 8) : or8 64 (or8 r 8) = 64 + (8 + r) ∧ or8 64 r = 64 + r ∧ (and8 (8 + r) 8 != 0) = true := by
  have := all1_of or8_all r0 r1
  simp only [Bool.and_eq_true, beq_iff_eq] at this
  obtain ⟨h1, h2, h3, h4⟩ := this
  exact ⟨by rw [h1, h2], h3, h4⟩

def tailI (x : RowT) (i : InsT) : List Int := tailB (formR x) x.2.2.2.2.1 i.2.1 i.2.2.1 i.2.2.2.1 i.2.2.2.2.1 i.2.2.2.2.2
theorem bytes_split (x : RowT) (i : InsT) : bytesF x i = fsF (formR x) ++ rexL x.2.1 (rI x i) ++ headI x i ++ tailI x i := rfl

theorem head_short {x : RowT} {i : InsT} {c : Int} (e : headI x i = [c]) : decide (255 < x.2.2.1) = false := by
  cases hb : decide (255 < x.2.2.1)
  · rfl
  · exfalso
    have e2 := congrArg List.length e
    unfold headI hdF at e2
    rw [hb, cond_true, List.length_append] at e2
    exact absurd e2 (by decide : (1 + 1 : Nat) ≠ 1)
theorem taken {x : RowT} (hx : x ∈ rowsL) {i : InsT} (h : okF x i.2.1 i.2.2.1 i.2.2.2.1 i.2.2.2.2.1 = true) (t : List Int) :
    opcP (fsF (formR x) ++ rexL x.2.1 (rI x i) ++ headI x i ++ t) = .ok (headI x i, takN x i, takF x, takR x i, takH x i) := by
  obtain ⟨r0, r1, -⟩ := rI_rng hx h
  obtain ⟨q1, q2, q3⟩ := rex_of hx
  obtain ⟨o1, o2, o3⟩ := or8_of r0 r1
  have hh := (head_ok hx h).2
  unfold takN takF takR takH
  rcases q1 with hr | hr | hr
  · have hn : (formR x == 10) = false := beq_eq_false_iff_ne.2 (fun he => by have := (q3 he).1; omega)
    unfold fsF
    rw [hn, hr]
    by_cases hz : rI x i = 0
    · rw [hz]
      rcases hh with ⟨e, h1, -⟩ | ⟨e, -, hl⟩
      · have hl := head_short e
        rw [e, hl]
        exact opcP_one h1 t
      · rw [e, decide_eq_true hl]
        exact opcP_two _ t
    · have hz2 : (rI x i == 0) = false := beq_eq_false_iff_ne.2 hz
      unfold rexL
      rw [bne_of hz2, hz2, o2]
      rcases hh with ⟨e, h1, -⟩ | ⟨e, -, hl⟩
      · have hl := head_short e
        rw [e, hl]
        exact opcP_rex1 r0 (by omega) h1.1 t
      · exact absurd (rI_none (q2 (by omega) hl).2) hz
  · unfold rexL
    rw [hr]
    show opcP (fsF (formR x) ++ [or8 64 (or8 (rI x i) 8)] ++ headI x i ++ t) = _
    rw [o1]
    by_cases h10 : formR x = 10
    · have hl : decide (255 < x.2.2.1) = false := decide_eq_false (by have := (q3 h10).2; omega)
      unfold fsF
      rw [h10, hl]
      rcases hh with ⟨e, h1, -⟩ | ⟨e, -, hl2⟩
      · rw [e]
        have hrI : rI x i = 0 ∨ rI x i = 4 := by
          have ha : 0 ≤ i.2.1 ∧ i.2.1 < 16 := by
            rcases ok_parts h with ⟨-, h2, -⟩ | ⟨-, h2, -⟩ <;> exact reg_rng h2
          have : rI x i = rexM 0 i.2.1 4 := by
            unfold rI
            rw [h10]; rfl
          rw [this, rexM_eq ha.1 ha.2 (by omega) (by omega)]
          omega
        rcases hrI with hz | hz
        · rw [hz]; exact opcP_fs8 h1.1 t
        · rw [hz]; exact opcP_fs12 h1.1 t
      · have := (q3 h10).2
        omega
    · have hn : (formR x == 10) = false := beq_eq_false_iff_ne.2 h10
      unfold fsF
      rw [hn]
      rcases hh with ⟨e, h1, -⟩ | ⟨e, -, hl⟩
      · have hl := head_short e
        rw [e, hl]
        exact opcP_rex1 (r := 8 + rI x i) (by omega) (by omega) h1.1 t
      · rw [e, decide_eq_true hl]
        exact opcP_rex2 (r := 8 + rI x i) (by omega) (by omega) o3 t
  · have hn : (formR x == 10) = false := beq_eq_false_iff_ne.2 (fun he => by have := (q3 he).1; omega)
    unfold fsF rexL
    rw [hn, hr]
    show opcP ([] ++ [or8 64 (rI x i)] ++ headI x i ++ t) = _
    rw [o2]
    rcases hh with ⟨e, h1, -⟩ | ⟨e, -, hl⟩
    · have hl := head_short e
      rw [e, hl]
      exact opcP_rex1 r0 (by omega) h1.1 t
    · have := (q2 (by omega) hl).1
      omega

end Go.Amd

namespace Go.Amd
open Go Go.Ab Go.Proofs

theorem bit8_all : all1 8 (fun r => and8 r 8 == 0 && !(8 + r == 0)) = true := by kernel_rfl
theorem bit8_of {r : Int} (r0 : 0 ≤ r) (r1 : r < 8) : (and8 r 8 == 0) = true := (Bool.and_eq_true_iff.1 (all1_of bit8_all r0 r1)).1
theorem pref_ok {x : RowT} (hx : x ∈ rowsL) {i : InsT} (h : okF x i.2.1 i.2.2.1 i.2.2.2.1 i.2.2.2.2.1 = true) : prefF x (takF x) (takR x i) (takH x i) = true := by
  obtain ⟨r0, r1, rg⟩ := rI_rng hx h
  obtain ⟨q1, -, -⟩ := rex_of hx
  obtain ⟨-, -, o3⟩ := or8_of r0 r1
  have b8 := bit8_of r0 r1
  unfold rexG at rg
  obtain ⟨g1, g2⟩ := Bool.and_eq_true_iff.1 rg
  have n1 : (and8 (rI x i) (unusedF (formR x)) != 0) = false := by unfold bne; rw [g1]; rfl
  have n2 : (and8 (8 + rI x i) (unusedF (formR x)) != 0) = false := by unfold bne; rw [g2]; rfl
  have e0 : (!((formR x == 10) == (formR x == 10))) = false := by cases (formR x == 10) <;> rfl
  unfold prefF takF takR takH
  rw [e0, cond_false]
  rcases q1 with hr | hr | hr
  · rw [hr]
    show cond (and8 (rI x i) (unusedF (formR x)) != 0) false (cond (and8 (rI x i) 8 == 0) (cond (!!(rI x i == 0)) true (rI x i != 0)) false) = true
    rw [n1, b8]
    unfold bne
    cases (rI x i == 0) <;> rfl
  · rw [hr]
    show cond (and8 (8 + rI x i) (unusedF (formR x)) != 0) false (and8 (8 + rI x i) 8 != 0) = true
    rw [n2]
    exact o3
  · rw [hr]
    show cond (and8 (rI x i) (unusedF (formR x)) != 0) false (and8 (rI x i) 8 == 0) = true
    rw [n1]
    exact b8
theorem cand_ok {x : RowT} (hx : x ∈ rowsL) {i : InsT} (h : okF x i.2.1 i.2.2.1 i.2.2.2.1 i.2.2.2.2.1 = true) : x ∈ cands (takR x i) (headI x i) (takF x) (takH x i) := by
  refine List.mem_filter.2 ⟨hx, ?_⟩
  unfold cand
  rw [(head_ok hx h).1]
  exact pref_ok hx h
theorem takR_rng {x : RowT} (hx : x ∈ rowsL) {i : InsT} (h : okF x i.2.1 i.2.2.1 i.2.2.2.1 i.2.2.2.2.1 = true) : 0 ≤ takR x i ∧ takR x i < 16 := by
  obtain ⟨r0, r1, -⟩ := rI_rng hx h
  unfold takR
  cases (x.2.1 == 1)
  · exact ⟨r0, by rw [cond_false]; omega⟩
  · exact ⟨by rw [cond_true]; omega, by rw [cond_true]; omega⟩

end Go.Amd

namespace Go.Amd
open Go Go.Ab Go.Proofs

def frontI (x : RowT) (i : InsT) : List Int := fsF (formR x) ++ rexL x.2.1 (rI x i) ++ headI x i
theorem front_len {x : RowT} (hx : x ∈ rowsL) (i : InsT) : takN x i = ((frontI x i).length : Int) := by
  obtain ⟨q1, -, q3⟩ := rex_of hx
  have hh : ((headI x i).length : Int) = cond (decide (255 < x.2.2.1)) 2 1 := by
    unfold headI hdF
    cases decide (255 < x.2.2.1) <;> rfl
  unfold takN takF takH frontI
  rw [List.length_append, List.length_append, Int.natCast_add, Int.natCast_add, hh]
  by_cases h10 : formR x = 10
  · obtain ⟨h1, h2⟩ := q3 h10
    unfold fsF rexL
    rw [h10, h1, decide_eq_false (by omega)]
    rfl
  · have hn : (formR x == 10) = false := beq_eq_false_iff_ne.2 h10
    have hr : ((rexL x.2.1 (rI x i)).length : Int) = cond (!(x.2.1 == 0 && rI x i == 0)) 1 0 := by
      unfold rexL
      rcases q1 with hr | hr | hr
      · rw [hr]
        unfold bne
        cases (rI x i == 0) <;> rfl
      · rw [hr]; rfl
      · rw [hr]; rfl
    rw [hr]
    unfold fsF
    rw [hn]
    show _ = (0 : Int) + _ + _
    rw [Int.zero_add, cond_false]

theorem dec_plain {x : RowT} (hx : x ∈ rowsL) {i : InsT} (h : okF x i.2.1 i.2.2.1 i.2.2.2.1 i.2.2.2.2.1 = true) (hm : modOf (formR x) = false) (t : List Int) :
    decQ (frontI x i ++ t) = plainR (restQ (takR x i) x (headI x i) 0 t (takN x i)) := by
  have ht : opcP (frontI x i ++ t) = _ := taken hx h t
  have hr := takR_rng hx h
  have hd : (frontI x i ++ t).drop (takN x i).toNat = t := by
    rw [front_len hx, Int.toNat_natCast, List.drop_left]
  have hc : ∃ G, cands (takR x i) (headI x i) (takF x) (takH x i) = x :: G := by
    rcases (chosen_one (head_op hx h) hr.1 hr.2 (cand_ok hx h)).1 hm with e | ⟨G, e, -⟩
    · exact ⟨[], e⟩
    · exact ⟨G, e⟩
  obtain ⟨G, hc⟩ := hc
  unfold decQ
  rw [ht]
  show (match cands (takR x i) (headI x i) (takF x) (takH x i) with
    | [] => (Except.error 22 : Except Int (InsT × Int))
    | r0 :: G => cond (modOf (formR r0)) (decC (takR x i) (headI x i) (takN x i) (r0 :: G) ((frontI x i ++ t).drop (takN x i).toNat)) (plainR (restQ (takR x i) r0 (headI x i) 0 ((frontI x i ++ t).drop (takN x i).toNat) (takN x i)))) = _
  rw [hc]
  show cond (modOf (formR x)) _ (plainR (restQ (takR x i) x (headI x i) 0 ((frontI x i ++ t).drop (takN x i).toNat) (takN x i))) = _
  rw [hm, hd]
  rfl
theorem dec_mod {x : RowT} (hx : x ∈ rowsL) {i : InsT} (h : okF x i.2.1 i.2.2.1 i.2.2.2.1 i.2.2.2.2.1 = true) (hm : modOf (formR x) = true) {c : Int} (hf : fitC c x = true) (t : List Int) :
    decQ (frontI x i ++ c :: t) = plainR (restQ (takR x i) x (headI x i) c t (takN x i + 1)) := by
  have ht : opcP (frontI x i ++ c :: t) = _ := taken hx h (c :: t)
  have hr := takR_rng hx h
  have hd : (frontI x i ++ c :: t).drop (takN x i).toNat = c :: t := by
    rw [front_len hx, Int.toNat_natCast, List.drop_left]
  obtain ⟨r0, G, hc, hm0, hG⟩ := (chosen_one (head_op hx h) hr.1 hr.2 (cand_ok hx h)).2 hm
  have hg := hG c hf
  unfold decQ
  rw [ht]
  show (match cands (takR x i) (headI x i) (takF x) (takH x i) with
    | [] => (Except.error 22 : Except Int (InsT × Int))
    | r0 :: G => cond (modOf (formR r0)) (decC (takR x i) (headI x i) (takN x i) (r0 :: G) ((frontI x i ++ c :: t).drop (takN x i).toNat)) (plainR (restQ (takR x i) r0 (headI x i) 0 ((frontI x i ++ c :: t).drop (takN x i).toNat) (takN x i)))) = _
  rw [hc]
  show cond (modOf (formR r0)) (decC (takR x i) (headI x i) (takN x i) (r0 :: G) ((frontI x i ++ c :: t).drop (takN x i).toNat)) _ = _
  rw [hm0, hd]
  show (match (r0 :: G).find? (fitC c) with
    | some y => plainR (restQ (takR x i) y (headI x i) c t (takN x i + 1))
    | none => (Except.error 22 : Except Int (InsT × Int))) = _
  rw [hg]

end Go.Amd

namespace Go.Amd
open Go Go.Ab Go.Proofs

theorem num1Q_im {n : Int} (h0 : -128 ≤ n) (h1 : n < 128) (t : List Int) (k : Int) (K : Int → List Int → Int → RestR) : num1Q (im1 n ++ t) k K = K n t (k + 1) := by
  show K (num1V (imB n 0)) t (k + 1) = _
  rw [num1_im h0 h1]
theorem num4Q_im {n : Int} (h0 : -2147483648 ≤ n) (h1 : n < 2147483648) (t : List Int) (k : Int) (K : Int → List Int → Int → RestR) : num4Q (im4 n ++ t) k K = K n t (k + 4) := by
  show K (num4V (imB n 0) (imB n 8) (imB n 16) (imB n 24)) t (k + 1 + 1 + 1 + 1) = _
  rw [num4_im h0 h1, show k + 1 + 1 + 1 + 1 = k + 4 by omega]
theorem num8Q_im {n : Int} (h0 : -9223372036854775808 ≤ n) (h1 : n < 9223372036854775808) (t : List Int) (k : Int) (K : Int → List Int → Int → RestR) : num8Q (im8 n ++ t) k K = K n t (k + 8) := by
  show K (num8V (imB n 0) (imB n 8) (imB n 16) (imB n 24) (imB n 32) (imB n 40) (imB n 48) (imB n 56)) t (k + 1 + 1 + 1 + 1 + 1 + 1 + 1 + 1) = _
  rw [num8_im h0 h1, show k + 1 + 1 + 1 + 1 + 1 + 1 + 1 + 1 = k + 8 by omega]
theorem finQ_ok {x : RowT} {i : InsT} (h : faultyF x i = 0) (k : Int) : finQ x i k = .ok (i, k) := by
  unfold finQ
  rw [h]
  rfl
theorem mustQ_ok {b : Bool} (h : b = true) (k : Int) (r : RestR) : mustQ b k r = r := by
  rw [h]; rfl

/-- Whether a number fits one byte. -/
theorem fitsF_iff (n : Int) : fitsF n = true ↔ -128 ≤ n ∧ n < 128 := by
  unfold fitsF
  by_cases h0 : -128 ≤ n
  · by_cases h1 : n ≤ 127
    · rw [decide_eq_true h0, decide_eq_true h1]
      exact ⟨fun _ => by omega, fun _ => rfl⟩
    · rw [decide_eq_true h0, decide_eq_false h1]
      exact ⟨fun h => (by cases h), fun h => (by omega)⟩
  · rw [decide_eq_false h0]
    exact ⟨fun h => (by cases h), fun h => (by omega)⟩

end Go.Amd

namespace Go.Amd
open Go Go.Ab Go.Proofs

def sayR (x : RowT) (a d : Int) : Bool :=
  cond (condR x) (wi (w8 (lastG (formR x) true (w8 x.2.2.1) a d false - w8 x.2.2.1)) == d && (!(formR x == 1) && (!(formR x == 2) && !(formR x == 6)))) true &&
    cond (formR x == 1 || formR x == 2) (wi (w8 (lastG (formR x) (condR x) (w8 x.2.2.1) a d false - w8 x.2.2.1)) == a % 8) true
theorem say_all : rowsL.all (fun x => all2 16 16 fun a d => sayR x a d) = true := by kernel_rfl

theorem lastB_head {x : RowT} (hx : x ∈ rowsL) {i : InsT} (h : okF x i.2.1 i.2.2.1 i.2.2.2.1 i.2.2.2.2.1 = true) : lastB (headI x i) = lastO x i := by
  rcases (head_ok hx h).2 with ⟨e, -⟩ | ⟨e, -⟩ <;> rw [e] <;> rfl
theorem say_cond {x : RowT} (hx : x ∈ rowsL) {i : InsT} (h : okF x i.2.1 i.2.2.1 i.2.2.2.1 i.2.2.2.2.1 = true) (ha : 0 ≤ i.2.1 ∧ i.2.1 < 16) (hd : 0 ≤ i.2.2.2.2.1 ∧ i.2.2.2.2.1 < 16) (hc : condR x = true) (K : Int → RestR) :
    lastQ x (headI x i) K = K i.2.2.2.2.1 := by
  have := all2_of (List.all_eq_true.1 say_all x hx) ha.1 ha.2 hd.1 hd.2
  unfold sayR at this
  obtain ⟨h1, -⟩ := Bool.and_eq_true_iff.1 this
  rw [hc, cond_true] at h1
  obtain ⟨h1, h2⟩ := Bool.and_eq_true_iff.1 h1
  obtain ⟨h2, h3⟩ := Bool.and_eq_true_iff.1 h2
  obtain ⟨h3, h4⟩ := Bool.and_eq_true_iff.1 h3
  have e6 : (formR x == 6) = false := by simpa using h4
  have e : lastO x i = lastG (formR x) true (w8 x.2.2.1) i.2.1 i.2.2.2.2.1 false := by
    unfold lastO
    rw [lastF_eq, hc]
    unfold lastG
    rw [e6]
    rfl
  unfold lastQ
  rw [lastB_head hx h, e, eq_of_beq h1]
theorem say_reg {x : RowT} (hx : x ∈ rowsL) {i : InsT} (h : okF x i.2.1 i.2.2.1 i.2.2.2.1 i.2.2.2.2.1 = true) (ha : 0 ≤ i.2.1 ∧ i.2.1 < 16) (hd : 0 ≤ i.2.2.2.2.1 ∧ i.2.2.2.2.1 < 16) (hf : formR x = 1 ∨ formR x = 2) (K : Int → RestR) :
    lastQ x (headI x i) K = K (i.2.1 % 8) := by
  have := all2_of (List.all_eq_true.1 say_all x hx) ha.1 ha.2 hd.1 hd.2
  unfold sayR at this
  obtain ⟨-, h1⟩ := Bool.and_eq_true_iff.1 this
  have hf2 : (formR x == 1 || formR x == 2) = true := by rcases hf with e | e <;> rw [e] <;> rfl
  rw [hf2, cond_true] at h1
  have e : lastO x i = lastG (formR x) (condR x) (w8 x.2.2.1) i.2.1 i.2.2.2.2.1 false := by
    unfold lastO
    rw [lastF_eq]
    unfold lastG
    rcases hf with e | e <;> rw [e] <;> rfl
  unfold lastQ
  rw [lastB_head hx h, e, eq_of_beq h1]

end Go.Amd

namespace Go.Amd
open Go Go.Ab Go.Proofs

theorem takR_bits {x : RowT} (hx : x ∈ rowsL) {i : InsT} (h : okF x i.2.1 i.2.2.1 i.2.2.2.1 i.2.2.2.2.1 = true) :
    bitF (takR x i) 4 = 8 * (rI x i / 4 % 2) ∧ bitF (takR x i) 2 = 8 * (rI x i / 2 % 2) ∧ bitF (takR x i) 1 = 8 * (rI x i % 2) := by
  obtain ⟨r0, r1, -⟩ := rI_rng hx h
  obtain ⟨b1, b2, b3⟩ := bit_eq (takR_rng hx h).1 (takR_rng hx h).2
  rw [b1, b2, b3]
  unfold takR
  cases (x.2.1 == 1)
  · rw [cond_false]; exact ⟨rfl, rfl, rfl⟩
  · rw [cond_true]
    refine ⟨?_, ?_, ?_⟩ <;> omega
theorem wi_small {n : Int} (h0 : 0 ≤ n) (h1 : n < 256) : wi n = n := by
  rw [wi_eq]
  omega
/-- A register of which the opcode has three bits. -/
theorem reg_back {x : RowT} (hx : x ∈ rowsL) {i : InsT} (h : okF x i.2.1 i.2.2.1 i.2.2.2.1 i.2.2.2.2.1 = true) (ha : 0 ≤ i.2.1 ∧ i.2.1 < 16) (hf : formR x = 1 ∨ formR x = 2) :
    wi (i.2.1 % 8 + bitF (takR x i) 1) = i.2.1 := by
  have hr : rI x i = i.2.1 / 8 := by
    unfold rI
    rcases hf with e | e <;> rw [e] <;> exact hi_eq ha.1 ha.2
  rw [(takR_bits hx h).2.2, hr, wi_small (by omega) (by omega)]
  omega
/-- The registers of a ModRM. -/
theorem low_back {x : RowT} (hx : x ∈ rowsL) {i : InsT} (h : okF x i.2.1 i.2.2.1 i.2.2.2.1 i.2.2.2.2.1 = true) {m p q : Int} (m0 : 0 ≤ m) (m1 : m < 4) (p0 : 0 ≤ p) (p1 : p < 16) (q0 : 0 ≤ q) (q1 : q < 16) (hr : rI x i % 2 = q / 8) :
    lowF (mrB m p q) (takR x i) = q := by
  have hc := mrB_eq m0 m1 p0 p1 q0 q1
  obtain ⟨b1, b2, b3⟩ := bit_eq (takR_rng hx h).1 (takR_rng hx h).2
  have hb := (takR_bits hx h).2.2
  rw [b3] at hb
  rw [lowF_eq (by rw [hc]; omega) (by rw [hc]; omega) (takR_rng hx h).1 (takR_rng hx h).2, hc]
  omega
theorem mid_back {x : RowT} (hx : x ∈ rowsL) {i : InsT} (h : okF x i.2.1 i.2.2.1 i.2.2.2.1 i.2.2.2.2.1 = true) {m p q : Int} (m0 : 0 ≤ m) (m1 : m < 4) (p0 : 0 ≤ p) (p1 : p < 16) (q0 : 0 ≤ q) (q1 : q < 16) (hr : rI x i / 4 % 2 = p / 8) :
    midF (mrB m p q) (takR x i) = p := by
  have hc := mrB_eq m0 m1 p0 p1 q0 q1
  obtain ⟨b1, b2, b3⟩ := bit_eq (takR_rng hx h).1 (takR_rng hx h).2
  have hb := (takR_bits hx h).1
  rw [b1] at hb
  rw [midF_eq (by rw [hc]; omega) (by rw [hc]; omega) (takR_rng hx h).1 (takR_rng hx h).2, hc]
  omega

end Go.Amd

namespace Go.Amd
open Go Go.Ab Go.Proofs

theorem ok_rng {x : RowT} {i : InsT} (h : okF x i.2.1 i.2.2.1 i.2.2.2.1 i.2.2.2.2.1 = true) : (0 ≤ i.2.1 ∧ i.2.1 < 16) ∧ (0 ≤ i.2.2.2.2.1 ∧ i.2.2.2.2.1 < 16) := by
  rcases ok_parts h with ⟨-, h2, h3⟩ | ⟨-, h2, -, -, h5⟩
  · refine ⟨reg_rng h2, ?_⟩
    rcases place_rng h3 with ⟨-, -, hd⟩ | ⟨-, -, hd⟩ | ⟨-, -, -, hd⟩ <;> omega
  · refine ⟨reg_rng h2, ?_⟩
    rcases h5 with hd | ⟨-, hd⟩
    · omega
    · exact cond_rng hd
theorem rest_form {x : RowT} (hx : x ∈ rowsL) {i : InsT} (h : okF x i.2.1 i.2.2.1 i.2.2.2.1 i.2.2.2.2.1 = true) (h9 : uM x = false) (c : Int) (t : List Int) (k : Int) :
    restQ (takR x i) x (headI x i) c t k = formQ (formR x) (takR x i) x (headI x i) c t k i.2.2.2.2.1 := by
  obtain ⟨ha, hd⟩ := ok_rng h
  unfold restQ
  cases hc : condR x
  · rw [cond_false]
    have h0 : i.2.2.2.2.1 = 0 := by
      rcases ok_parts h with ⟨h1, -⟩ | ⟨-, -, -, -, h5⟩
      · rw [h9] at h1; cases h1
      · rcases h5 with e | ⟨e, -⟩
        · exact e
        · rw [hc] at e; cases e
    rw [h0]
  · rw [cond_true]
    exact say_cond hx h ha hd hc _
/-- An instruction's fields that its form does not use. -/
theorem ok_zero {x : RowT} {i : InsT} (h : okF x i.2.1 i.2.2.1 i.2.2.2.1 i.2.2.2.2.1 = true) (h9 : uM x = false) : (uA x = false → i.2.1 = 0) ∧ (uB x = false → i.2.2.1 = 0) ∧ i.2.2.2.1 = 0 ∧ (0 ≤ i.2.2.1 ∧ i.2.2.1 < 16) := by
  rcases ok_parts h with ⟨h1, -⟩ | ⟨-, h2, h3, h4, -⟩
  · rw [h9] at h1; cases h1
  · refine ⟨fun hu => ?_, fun hu => ?_, h4, reg_rng h3⟩
    · rw [hu] at h2; exact reg_zero h2
    · rw [hu] at h3; exact reg_zero h3

/-! Form by form. -/

/-- No register, no number. -/
theorem back_0 {x : RowT} (hx : x ∈ rowsL) {i : InsT} (hn : x.1 = i.1) (he : faultyF x i = 0) (hf : formR x = 0) (t : List Int) (k : Int) :
    restQ (takR x i) x (headI x i) 0 t k = .ok (i, k) := by
  have h := faulty_ok he
  have h9 : uM x = false := by unfold uM; rw [hf]; rfl
  obtain ⟨z1, z2, z3, -⟩ := ok_zero h h9
  have e1 := z1 (by unfold uA; rw [hf]; rfl)
  have e2 := z2 (by unfold uB; rw [hf]; rfl)
  have e3 := (ok_imm he).2 (by unfold uI; rw [hf]; rfl)
  obtain ⟨nm, a, b, c, d, n⟩ := i
  simp only at hn e1 e2 e3 z3
  subst hn e1 e2 e3 z3
  rw [rest_form hx h h9, hf]
  exact finQ_ok he k
theorem formQ_1 (R : Int) (x : RowT) (op : List Int) (c : Int) (t : List Int) (k d : Int) : formQ 1 R x op c t k d = lastQ x op fun a => finQ x (x.1, wi (a + bitF R 1), 0, 0, d, 0) k := rfl
/-- One register, in the opcode. -/
theorem back_1 {x : RowT} (hx : x ∈ rowsL) {i : InsT} (hn : x.1 = i.1) (he : faultyF x i = 0) (hf : formR x = 1) (t : List Int) (k : Int) :
    restQ (takR x i) x (headI x i) 0 t k = .ok (i, k) := by
  have h := faulty_ok he
  have h9 : uM x = false := by unfold uM; rw [hf]; rfl
  obtain ⟨ha, hd⟩ := ok_rng h
  obtain ⟨z1, z2, z3, -⟩ := ok_zero h h9
  have e2 := z2 (by unfold uB; rw [hf]; rfl)
  have e3 := (ok_imm he).2 (by unfold uI; rw [hf]; rfl)
  have hr := reg_back hx h ha (.inl hf)
  have hs := say_reg hx h ha hd (.inl hf)
  rw [rest_form hx h h9]
  obtain ⟨nm, a, b, c, d, n⟩ := i
  simp only at hn e2 e3 z3 hr hs ⊢
  subst hn e2 e3 z3
  rw [hf]
  rw [formQ_1, hs, hr]
  exact finQ_ok he k

end Go.Amd
