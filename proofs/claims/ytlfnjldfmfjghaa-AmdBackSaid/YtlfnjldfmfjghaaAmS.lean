/-
  A front of what is decoded is too short. Conditions: none.
-/
import Derived.Test.YtlfnjldfmfjghaaAmR
namespace Go.Amd
open Go Go.Ab Go.Proofs

/-- What is read byte by byte: of less bytes than were read there is an error 2. -/
def MonoP (F : List Int → Int → RestR) : Prop := ∀ (t : List Int) (k : Int) (i : InsT) (m : Int), F t k = .ok (i, m) → ∃ u : Nat, m = k + u ∧ u ≤ t.length ∧ ∀ j < u, ∃ s, F (t.take j) k = .error (2, s)

theorem mono_fin (x : RowT) (i : InsT) : MonoP fun _ k => finQ x i k := by
  intro t k i' m h
  have h : finQ x i k = .ok (i', m) := h
  unfold finQ at h
  cases hc : (!(faultyF x i == 0))
  · rw [hc, cond_false] at h
    have h2 := Prod.mk.inj (Except.ok.inj h)
    exact ⟨0, by omega, by omega, fun j hj => by omega⟩
  · rw [hc, cond_true] at h; cases h
theorem mono_must {b : Bool} {F : List Int → Int → RestR} (h : MonoP F) : MonoP fun t k => mustQ b k (F t k) := by
  intro t k i m he
  cases b
  · cases he
  · exact h t k i m he
theorem mono_cond {b : Bool} {F G : List Int → Int → RestR} (h : MonoP F) (g : MonoP G) : MonoP fun t k => cond b (F t k) (G t k) := by
  cases b
  · exact g
  · exact h
theorem mono_nx {K : Int → List Int → Int → RestR} (h : ∀ c, MonoP (K c)) : MonoP fun t k => nxQ t k K := by
  intro t k i m he
  cases t with
  | nil => cases he
  | cons c t =>
    obtain ⟨u, h1, h2, h3⟩ := h c t (k + 1) i m he
    refine ⟨u + 1, by omega, by simp only [List.length_cons]; omega, fun j hj => ?_⟩
    cases j with
    | zero => exact ⟨k, rfl⟩
    | succ j => exact h3 j (by omega)
theorem mono_num1 {K : Int → List Int → Int → RestR} (h : ∀ c, MonoP (K c)) : MonoP fun t k => num1Q t k K := mono_nx fun _ => h _
theorem mono_num4 {K : Int → List Int → Int → RestR} (h : ∀ c, MonoP (K c)) : MonoP fun t k => num4Q t k K := mono_nx fun _ => mono_nx fun _ => mono_nx fun _ => mono_nx fun _ => h _
theorem mono_num8 {K : Int → List Int → Int → RestR} (h : ∀ c, MonoP (K c)) : MonoP fun t k => num8Q t k K :=
  mono_nx fun _ => mono_nx fun _ => mono_nx fun _ => mono_nx fun _ => mono_nx fun _ => mono_nx fun _ => mono_nx fun _ => mono_nx fun _ => h _
theorem mono_err (e : Int) : MonoP fun _ k => .error (e, k) := fun t k i m h => by cases h
theorem mono_mod (c b : Int) {K : Int → List Int → Int → RestR} (h : ∀ c, MonoP (K c)) : MonoP fun t k => modQ c b t k K :=
  mono_cond (mono_num1 fun n => mono_cond (h n) (mono_must (h n))) (mono_cond (mono_num4 fun n => mono_must (h n)) (h 0))
theorem mono_sib2 (R c e : Int) {K : PlaceK} (h : ∀ b cc d n, MonoP (K b cc d n)) : MonoP fun t k => sibQ2 R c e t k K :=
  mono_cond (mono_cond (mono_must (mono_mod _ _ fun n => h _ _ _ n)) (mono_err 22)) (mono_mod _ _ fun n => h _ _ _ n)
theorem mono_sib (R c : Int) {K : PlaceK} (h : ∀ b cc d n, MonoP (K b cc d n)) : MonoP fun t k => sibQ R c t k K :=
  mono_nx fun e => mono_cond (mono_sib2 R c e h) (mono_must (mono_sib2 R c e h))
theorem mono_base (R c : Int) {K : PlaceK} (h : ∀ b cc d n, MonoP (K b cc d n)) : MonoP fun t k => baseQ R c t k K :=
  mono_cond (mono_sib R c h) (mono_must (mono_mod _ _ fun n => h _ _ _ n))
theorem mono_place (R c : Int) {K : PlaceK} (h : ∀ b cc d n, MonoP (K b cc d n)) : MonoP fun t k => placeQ R c t k K :=
  mono_cond (mono_cond (mono_must (mono_num4 fun n => h _ _ _ n)) (mono_base R c h)) (mono_base R c h)
theorem mono_form (f R : Int) (x : RowT) (op : List Int) (c d : Int) : MonoP fun t k => formQ f R x op c t k d := by
  unfold formQ lastQ
  refine mono_cond (mono_fin x _) (mono_cond (mono_fin x _) (mono_cond (mono_num8 fun n => mono_fin x _) (mono_cond (mono_fin x _) (mono_cond (mono_num4 fun n => mono_fin x _) (mono_cond (mono_num1 fun n => mono_fin x _)
    (mono_cond (mono_cond (mono_num1 fun n => mono_fin x _) (mono_num4 fun n => mono_must (mono_fin x _))) (mono_cond (mono_fin x _) (mono_cond (mono_fin x _) (mono_cond (mono_place R c fun b cc d n => mono_fin x _)
    (mono_cond (mono_nx fun e => mono_must (mono_num4 fun n => mono_fin x _)) (mono_cond (mono_num4 fun n => mono_fin x _) (mono_num1 fun n => mono_fin x _))))))))))))
theorem mono_rest (R : Int) (x : RowT) (op : List Int) (c : Int) : MonoP fun t k => restQ R x op c t k := by
  unfold restQ lastQ
  exact mono_cond (mono_form _ R x op c _) (mono_form _ R x op c 0)

/-! The opcode. -/

/-- How what was taken of an opcode lies. -/
def OpcAt (l op : List Int) (k : Int) (fs : Bool) (R : Int) (has : Bool) : Prop :=
  (∃ t, l = op ++ t ∧ k = (op.length : Int) ∧ fs = false ∧ R = 0 ∧ has = false ∧ ((∃ c, op = [c] ∧ OneB c) ∨ (∃ d, op = [15, d]))) ∨
  (∃ r t, l = r :: op ++ t ∧ k = (op.length : Int) + 1 ∧ fs = false ∧ (r == 100) = false ∧ (sh4 r == 4) = true ∧ R = and8 r 15 ∧ has = true ∧ ((∃ c, op = [c] ∧ (c == 15) = false) ∨ (∃ d, op = [15, d] ∧ (and8 R 8 != 0) = true))) ∨
  (∃ r c t, l = 100 :: r :: c :: t ∧ op = [c] ∧ k = 3 ∧ fs = true ∧ (and8 r 251 == 72) = true ∧ (sh4 r == 4) = true ∧ R = and8 r 15 ∧ has = true ∧ (c == 15) = false)

theorem fs_all : all1 256 (fun r => cond (and8 r 251 == 72) (sh4 r == 4 && (and8 r 15 == 8 || and8 r 15 == 12)) true) = true := by kernel_rfl
theorem bne_ff {a b : Int} (h : (a != b) = true) : (a == b) = false := by
  unfold bne at h
  cases hb : (a == b)
  · rfl
  · rw [hb] at h; cases h
theorem bne_tt {a b : Int} (h : (a != b) = false) : a = b := by
  unfold bne at h
  cases hb : (a == b)
  · rw [hb] at h; cases h
  · exact eq_of_beq hb

theorem opc_at {l op : List Int} {k : Int} {fs : Bool} {R : Int} {has : Bool} (hl : AllB l) (h : opcP l = .ok (op, k, fs, R, has)) : OpcAt l op k fs R has := by
  have ok : ∀ {o : List Int} {j : Int} {f : Bool} {r : Int} {b : Bool}, (Except.ok (o, j, f, r, b) : OpR) = .ok (op, k, fs, R, has) → o = op ∧ j = k ∧ f = fs ∧ r = R ∧ b = has := by
    intro o j f r b h
    cases h
    exact ⟨rfl, rfl, rfl, rfl, rfl⟩
  cases l with
  | nil => cases h
  | cons c t =>
    unfold opcP opc0 at h
    simp only at h
    cases h0 : (c == 100)
    · rw [h0, cond_false] at h
      cases h4 : (sh4 c == 4)
      · rw [h4, cond_false] at h
        cases h15 : (c != 15)
        · rw [h15, cond_false] at h
          cases t with
          | nil => cases h
          | cons d t =>
            obtain ⟨rfl, rfl, rfl, rfl, rfl⟩ := ok h
            have := bne_tt h15
            subst this
            exact .inl ⟨t, rfl, rfl, rfl, rfl, rfl, .inr ⟨d, rfl⟩⟩
        · rw [h15, cond_true] at h
          obtain ⟨rfl, rfl, rfl, rfl, rfl⟩ := ok h
          exact .inl ⟨t, rfl, rfl, rfl, rfl, rfl, .inl ⟨c, rfl, bne_ff h15, h0, h4⟩⟩
      · rw [h4, cond_true] at h
        cases t with
        | nil => cases h
        | cons d t =>
          simp only at h
          unfold opc2 at h
          cases h15 : (d != 15)
          · rw [h15, cond_false] at h
            cases h8 : (!(and8 (and8 c 15) 8 != 0))
            · rw [h8, cond_false] at h
              cases t with
              | nil => cases h
              | cons e t =>
                obtain ⟨rfl, rfl, rfl, rfl, rfl⟩ := ok h
                have := bne_tt h15
                subst this
                exact .inr (.inl ⟨c, t, rfl, rfl, rfl, h0, h4, rfl, rfl, .inr ⟨e, rfl, by simpa using h8⟩⟩)
            · rw [h8] at h; cases h
          · rw [h15, cond_true] at h
            obtain ⟨rfl, rfl, rfl, rfl, rfl⟩ := ok h
            exact .inr (.inl ⟨c, t, rfl, rfl, rfl, h0, h4, rfl, rfl, .inl ⟨d, rfl, bne_ff h15⟩⟩)
    · rw [h0, cond_true] at h
      have hc := eq_of_beq h0
      subst hc
      cases t with
      | nil => cases h
      | cons d t =>
        simp only at h
        unfold opc1 at h
        cases h48 : (!(and8 d 251 == 72))
        · rw [h48, cond_false] at h
          have h48 : (and8 d 251 == 72) = true := by simpa using h48
          have hd : IsB d := hl d (List.mem_cons_of_mem _ List.mem_cons_self)
          have h4 : (sh4 d == 4) = true := by
            have := all1_of fs_all hd.1 hd.2
            rw [h48, cond_true] at this
            exact (Bool.and_eq_true_iff.1 this).1
          rw [h4, cond_true] at h
          cases t with
          | nil => cases h
          | cons e t =>
            simp only at h
            cases h15 : (e != 15)
            · rw [h15] at h; cases h
            · rw [h15, cond_true] at h
              obtain ⟨rfl, rfl, rfl, rfl, rfl⟩ := ok h
              exact .inr (.inr ⟨d, e, t, rfl, rfl, rfl, rfl, h48, h4, rfl, rfl, bne_ff h15⟩)
        · rw [h48] at h; cases h

/-- The opcode of a front. -/
theorem opc_take {l op : List Int} {k : Int} {fs : Bool} {R : Int} {has : Bool} (hl : AllB l) (h : opcP l = .ok (op, k, fs, R, has)) (j : Nat) :
    (((j : Int) < k) → ∃ s, opcP (l.take j) = .error (2, s)) ∧ (k ≤ (j : Int) → opcP (l.take j) = .ok (op, k, fs, R, has)) := by
  rcases opc_at hl h with ⟨t, rfl, rfl, rfl, rfl, rfl, ⟨c, rfl, h1, h2, h3⟩ | ⟨d, rfl⟩⟩ | ⟨r, t, rfl, rfl, rfl, h100, h4, rfl, rfl, ⟨c, rfl, h1⟩ | ⟨d, rfl, h8⟩⟩ | ⟨r, c, t, rfl, rfl, rfl, rfl, h48, h4, rfl, rfl, h15⟩
  · match j with
    | 0 => exact ⟨fun _ => ⟨_, rfl⟩, fun hj => absurd hj (by simp only [List.length_cons, List.length_nil]; omega)⟩
    | j + 1 => exact ⟨fun hj => absurd hj (by simp only [List.length_cons, List.length_nil]; omega), fun _ => opcP_one ⟨h1, h2, h3⟩ _⟩
  · match j with
    | 0 => exact ⟨fun _ => ⟨_, rfl⟩, fun hj => absurd hj (by simp only [List.length_cons, List.length_nil]; omega)⟩
    | 1 => exact ⟨fun _ => ⟨_, rfl⟩, fun hj => absurd hj (by simp only [List.length_cons, List.length_nil]; omega)⟩
    | j + 2 => exact ⟨fun hj => absurd hj (by simp only [List.length_cons, List.length_nil]; omega), fun _ => opcP_two d _⟩
  · match j with
    | 0 => exact ⟨fun _ => ⟨_, rfl⟩, fun hj => absurd hj (by simp only [List.length_cons, List.length_nil]; omega)⟩
    | 1 =>
      refine ⟨fun _ => ?_, fun hj => absurd hj (by simp only [List.length_cons, List.length_nil]; omega)⟩
      show ∃ s, opc0 r [] = _
      unfold opc0
      rw [h100, h4]
      exact ⟨_, rfl⟩
    | j + 2 =>
      refine ⟨fun hj => absurd hj (by simp only [List.length_cons, List.length_nil]; omega), fun _ => ?_⟩
      show opc0 r (c :: t.take j) = _
      unfold opc0
      rw [h100, h4, cond_false, cond_true]
      show opc2 (and8 r 15) c _ = _
      unfold opc2
      rw [bne_of h1]
      rfl
  · match j with
    | 0 => exact ⟨fun _ => ⟨_, rfl⟩, fun hj => absurd hj (by simp only [List.length_cons, List.length_nil]; omega)⟩
    | 1 =>
      refine ⟨fun _ => ?_, fun hj => absurd hj (by simp only [List.length_cons, List.length_nil]; omega)⟩
      show ∃ s, opc0 r [] = _
      unfold opc0
      rw [h100, h4]
      exact ⟨_, rfl⟩
    | 2 =>
      refine ⟨fun _ => ?_, fun hj => absurd hj (by simp only [List.length_cons, List.length_nil]; omega)⟩
      show ∃ s, opc0 r [15] = _
      unfold opc0
      rw [h100, h4, cond_false, cond_true]
      show ∃ s, opc2 (and8 r 15) 15 [] = _
      unfold opc2
      rw [h8]
      exact ⟨_, rfl⟩
    | j + 3 =>
      refine ⟨fun hj => absurd hj (by simp only [List.length_cons, List.length_nil]; omega), fun _ => ?_⟩
      show opc0 r (15 :: d :: t.take j) = _
      unfold opc0
      rw [h100, h4, cond_false, cond_true]
      show opc2 (and8 r 15) 15 (d :: _) = _
      unfold opc2
      rw [h8]
      rfl
  · match j with
    | 0 => exact ⟨fun _ => ⟨_, rfl⟩, fun hj => absurd hj (by omega)⟩
    | 1 => exact ⟨fun _ => ⟨_, rfl⟩, fun hj => absurd hj (by omega)⟩
    | 2 =>
      refine ⟨fun _ => ?_, fun hj => absurd hj (by omega)⟩
      show ∃ s, opc1 r [] = _
      unfold opc1
      rw [h48, h4]
      exact ⟨_, rfl⟩
    | j + 3 =>
      refine ⟨fun hj => absurd hj (by omega), fun _ => ?_⟩
      show opc1 r (c :: t.take j) = _
      unfold opc1
      rw [h48, h4]
      show cond (c != 15) _ _ = _
      rw [bne_of h15]
      rfl

theorem rexr_all : all1 256 (fun r => cond (sh4 r == 4) (r == 64 + and8 r 15 && (decide (0 ≤ and8 r 15) && decide (and8 r 15 < 16))) true) = true := by kernel_rfl
theorem rexr_of {r : Int} (hr : IsB r) (h : (sh4 r == 4) = true) : r = 64 + and8 r 15 ∧ 0 ≤ and8 r 15 ∧ and8 r 15 < 16 := by
  have := all1_of rexr_all hr.1 hr.2
  rw [h, cond_true] at this
  simp only [Bool.and_eq_true, beq_iff_eq, decide_eq_true_eq] at this
  exact this
/-- What was taken, in front of the rest. -/
theorem opc_split {l op : List Int} {k : Int} {fs : Bool} {R : Int} {has : Bool} (hl : AllB l) (h : opcP l = .ok (op, k, fs, R, has)) :
    OpB op ∧ (0 ≤ R ∧ R < 16) ∧ (has = false → R = 0) ∧ (fs = true → has = true ∧ (R = 8 ∨ R = 12)) ∧ 0 ≤ k ∧ l = (cond fs [100] [] ++ cond has [64 + R] [] ++ op) ++ l.drop k.toNat ∧ k = ((cond fs [100] [] ++ cond has [64 + R] [] ++ op).length : Int) := by
  have b0 : ∀ {c : Int} {t : List Int}, AllB (c :: t) → IsB c := fun h => h _ List.mem_cons_self
  have b1 : ∀ {c : Int} {t : List Int}, AllB (c :: t) → AllB t := fun h d hd => h d (List.mem_cons_of_mem _ hd)
  rcases opc_at hl h with ⟨t, rfl, rfl, rfl, rfl, rfl, ⟨c, rfl, h1, h2, h3⟩ | ⟨d, rfl⟩⟩ | ⟨r, t, rfl, rfl, rfl, h100, h4, rfl, rfl, ⟨c, rfl, h1⟩ | ⟨d, rfl, h8⟩⟩ | ⟨r, c, t, rfl, rfl, rfl, rfl, h48, h4, rfl, rfl, h15⟩
  · exact ⟨.inl ⟨c, b0 hl, rfl⟩, by decide, fun _ => rfl, (fun h => by cases h), by simp only [List.length_cons, List.length_nil]; omega, rfl, rfl⟩
  · exact ⟨.inr ⟨d, b0 (b1 hl), rfl⟩, by decide, fun _ => rfl, (fun h => by cases h), by simp only [List.length_cons, List.length_nil]; omega, rfl, rfl⟩
  · obtain ⟨e, e0, e1⟩ := rexr_of (b0 hl) h4
    refine ⟨.inl ⟨c, b0 (b1 hl), rfl⟩, ⟨e0, e1⟩, (fun h => by cases h), (fun h => by cases h), by simp only [List.length_cons, List.length_nil]; omega, ?_, rfl⟩
    rw [← e]; rfl
  · obtain ⟨e, e0, e1⟩ := rexr_of (b0 hl) h4
    refine ⟨.inr ⟨d, b0 (b1 (b1 hl)), rfl⟩, ⟨e0, e1⟩, (fun h => by cases h), (fun h => by cases h), by simp only [List.length_cons, List.length_nil]; omega, ?_, rfl⟩
    rw [← e]; rfl
  · obtain ⟨e, e0, e1⟩ := rexr_of (b0 (b1 hl)) h4
    have hR : and8 r 15 = 8 ∨ and8 r 15 = 12 := by
      have := all1_of fs_all (b0 (b1 hl)).1 (b0 (b1 hl)).2
      rw [h48, cond_true] at this
      simpa using (Bool.and_eq_true_iff.1 this).2
    refine ⟨.inl ⟨c, b0 (b1 (b1 hl)), rfl⟩, ⟨e0, e1⟩, (fun h => by cases h), fun _ => ⟨rfl, hR⟩, by decide, ?_, rfl⟩
    rw [← e]; rfl

theorem plainR_ok {r : RestR} {p : InsT × Int} (h : plainR r = .ok p) : r = .ok p := by
  cases r with
  | ok q => exact congrArg Except.ok (Except.ok.inj h)
  | error q => cases h

/-- How bytes that are decoded lie: what was taken, the row, what stands behind. -/
theorem dec_parts {l : List Int} (hl : AllB l) {i : InsT} {n : Int} (h : decQ l = .ok (i, n)) : ∃ op k fs R has, opcP l = .ok (op, k, fs, R, has) ∧ ∃ x, x ∈ cands R op fs has ∧
    ((modOf (formR x) = false ∧ restQ R x op 0 (l.drop k.toNat) k = .ok (i, n)) ∨ (modOf (formR x) = true ∧ ∃ c t, l.drop k.toNat = c :: t ∧ fitC c x = true ∧ restQ R x op c t (k + 1) = .ok (i, n))) := by
  unfold decQ at h
  cases ho : opcP l with
  | error p => rw [ho] at h; cases h
  | ok p =>
    obtain ⟨op, k, fs, R, has⟩ := p
    rw [ho] at h
    simp only at h
    refine ⟨op, k, fs, R, has, rfl, ?_⟩
    cases hc : cands R op fs has with
    | nil => rw [hc] at h; cases h
    | cons r0 G =>
      rw [hc] at h
      simp only at h
      have hmod : ∀ y ∈ r0 :: G, y ∈ cands R op fs has := fun y hy => by rw [hc]; exact hy
      cases hm : modOf (formR r0)
      · rw [hm, cond_false] at h
        exact ⟨r0, List.mem_cons_self, .inl ⟨hm, plainR_ok h⟩⟩
      · rw [hm, cond_true] at h
        cases hd : l.drop k.toNat with
        | nil => rw [hd] at h; cases h
        | cons c t =>
          rw [hd] at h
          unfold decC at h
          simp only at h
          cases hx : (r0 :: G).find? (fitC c) with
          | none => rw [hx] at h; cases h
          | some x =>
            rw [hx] at h
            have hfit : fitC c x = true := by
              have := List.find?_some hx
              exact this
            have hmem := List.mem_of_find?_eq_some hx
            refine ⟨x, hmem, .inr ⟨?_, c, t, rfl, hfit, plainR_ok h⟩⟩
            obtain ⟨s1, s2, -⟩ := opc_split hl ho
            by_cases hne : r0 = x
            · rw [← hne]; exact hm
            · exact (cand_apart s1 s2.1 s2.2 (hmod r0 List.mem_cons_self) (hmod x hmem) hne).2.1

theorem cands_of {op : List Int} {fs has : Bool} {R : Int} {x : RowT} (h : x ∈ cands R op fs has) : x ∈ rowsL ∧ opensF x op = true ∧ prefF x fs R has = true := by
  obtain ⟨h1, h2⟩ := List.mem_filter.1 h
  unfold cand at h2
  cases ho : opensF x op
  · rw [ho] at h2; cases h2
  · rw [ho] at h2; exact ⟨h1, rfl, h2⟩

/-- A front is too short. -/
theorem dec_short {l : List Int} (hl : AllB l) {i : InsT} {n : Int} (h : decQ l = .ok (i, n)) : 0 ≤ n ∧ n ≤ (l.length : Int) ∧ ∀ j : Nat, (j : Int) < n → decQ (l.take j) = .error 2 := by
  obtain ⟨op, k, fs, R, has, ho, x, hx, hr⟩ := dec_parts hl h
  obtain ⟨s1, s2, -, -, k0, e1, e2⟩ := opc_split hl ho
  have hk : k ≤ (l.length : Int) := by
    rw [e1, List.length_append]
    omega
  have hdl : ((l.drop k.toNat).length : Int) = (l.length : Int) - k := by rw [List.length_drop]; omega
  have tk := opc_take hl ho
  have early : ∀ j : Nat, (j : Int) < k → decQ (l.take j) = .error 2 := by
    intro j hj
    obtain ⟨s, hs⟩ := (tk j).1 hj
    unfold decQ
    rw [hs]
  have hone := chosen_one s1 s2.1 s2.2 hx
  rcases hr with ⟨hm, hr⟩ | ⟨hm, c, t, hd, hf, hr⟩
  · obtain ⟨u, h1, h2, h3⟩ := mono_rest R x op 0 _ _ _ _ hr
    refine ⟨by omega, by omega, fun j hj => ?_⟩
    by_cases hjk : (j : Int) < k
    · exact early j hjk
    obtain ⟨s, hs⟩ := h3 (j - k.toNat) (by omega)
    have hc : ∃ G, cands R op fs has = x :: G := by
      rcases hone.1 hm with e | ⟨G, e, -⟩
      · exact ⟨[], e⟩
      · exact ⟨G, e⟩
    obtain ⟨G, hc⟩ := hc
    unfold decQ
    rw [(tk j).2 (by omega)]
    simp only
    rw [hc]
    simp only
    rw [hm, cond_false, List.drop_take, show restQ R x op 0 (List.take (j - k.toNat) (List.drop k.toNat l)) k = .error (2, s) from hs]
    rfl
  · obtain ⟨u, h1, h2, h3⟩ := mono_rest R x op c _ _ _ _ hr
    have hdl2 : ((l.drop k.toNat).length : Int) = (t.length : Int) + 1 := by rw [hd, List.length_cons]; omega
    refine ⟨by omega, by omega, fun j hj => ?_⟩
    by_cases hjk : (j : Int) < k
    · exact early j hjk
    obtain ⟨r0, G, hc, hm0, hG⟩ := hone.2 hm
    have hg := hG c hf
    unfold decQ
    rw [(tk j).2 (by omega)]
    simp only
    rw [hc]
    simp only
    rw [hm0, cond_true, List.drop_take, hd]
    by_cases hj0 : j - k.toNat = 0
    · rw [hj0]; rfl
    · obtain ⟨s, hs⟩ := h3 (j - k.toNat - 1) (by omega)
      rw [show j - k.toNat = (j - k.toNat - 1) + 1 by omega, List.take_succ_cons]
      unfold decC
      simp only
      rw [hg]
      simp only
      rw [show restQ R x op c (List.take (j - k.toNat - 1) t) (k + 1) = .error (2, s) from hs]
      rfl

end Go.Amd

namespace Go.Amd
open Go Go.Ab Go.Proofs

theorem nxQ_fwd {t : List Int} {k : Int} {K : Int → List Int → Int → RestR} {p : InsT × Int} (h : nxQ t k K = .ok p) : ∃ c t', t = c :: t' ∧ K c t' (k + 1) = .ok p := by
  cases t with
  | nil => cases h
  | cons c t => exact ⟨c, t, rfl, h⟩
theorem must_fwd {b : Bool} {k : Int} {r : RestR} {p : InsT × Int} (h : mustQ b k r = .ok p) : b = true ∧ r = .ok p := by
  cases b
  · cases h
  · exact ⟨rfl, h⟩
theorem fin_fwd {x : RowT} {i i' : InsT} {k m : Int} (h : finQ x i k = .ok (i', m)) : i' = i ∧ m = k ∧ faultyF x i = 0 := by
  unfold finQ at h
  cases hc : (!(faultyF x i == 0))
  · rw [hc, cond_false] at h
    have h2 := Prod.mk.inj (Except.ok.inj h)
    refine ⟨h2.1.symm, h2.2.symm, by simpa using hc⟩
  · rw [hc, cond_true] at h; cases h
theorem allB_hd {c : Int} {t : List Int} (h : AllB (c :: t)) : IsB c ∧ AllB t := ⟨h _ List.mem_cons_self, fun d hd => h d (List.mem_cons_of_mem _ hd)⟩
theorem num1_fwd {t : List Int} (ht : AllB t) {k : Int} {K : Int → List Int → Int → RestR} {p : InsT × Int} (h : num1Q t k K = .ok p) :
    ∃ n rest, t = im1 n ++ rest ∧ AllB rest ∧ (-128 ≤ n ∧ n < 128) ∧ K n rest (k + 1) = .ok p := by
  obtain ⟨a, t, rfl, h⟩ := nxQ_fwd h
  obtain ⟨ha, ht⟩ := allB_hd ht
  refine ⟨num1V a, t, by rw [im1_num ha]; rfl, ht, ?_, h⟩
  rw [num1_eq ha]
  omega
theorem num4_fwd {t : List Int} (ht : AllB t) {k : Int} {K : Int → List Int → Int → RestR} {p : InsT × Int} (h : num4Q t k K = .ok p) :
    ∃ n rest, t = im4 n ++ rest ∧ AllB rest ∧ (-2147483648 ≤ n ∧ n < 2147483648) ∧ K n rest (k + 4) = .ok p := by
  obtain ⟨a, t0, e0, g0⟩ := nxQ_fwd h
  subst e0
  obtain ⟨ha, ht0⟩ := allB_hd ht
  obtain ⟨b, t1, e1, g1⟩ := nxQ_fwd g0
  subst e1
  obtain ⟨hb, ht1⟩ := allB_hd ht0
  obtain ⟨c, t2, e2, g2⟩ := nxQ_fwd g1
  subst e2
  obtain ⟨hc, ht2⟩ := allB_hd ht1
  obtain ⟨d, t3, e3, g3⟩ := nxQ_fwd g2
  subst e3
  obtain ⟨hd, ht3⟩ := allB_hd ht2
  rw [show k + 1 + 1 + 1 + 1 = k + 4 by omega] at g3
  refine ⟨num4V a b c d, t3, by rw [im4_num ha hb hc hd]; rfl, ht3, ?_, g3⟩
  rw [num4_eq ha hb hc hd]
  omega
theorem num8_fwd {t : List Int} (ht : AllB t) {k : Int} {K : Int → List Int → Int → RestR} {p : InsT × Int} (h : num8Q t k K = .ok p) :
    ∃ n rest, t = im8 n ++ rest ∧ AllB rest ∧ K n rest (k + 8) = .ok p := by
  obtain ⟨a, t0, e0, g0⟩ := nxQ_fwd h
  subst e0
  obtain ⟨ha, ht0⟩ := allB_hd ht
  obtain ⟨b, t1, e1, g1⟩ := nxQ_fwd g0
  subst e1
  obtain ⟨hb, ht1⟩ := allB_hd ht0
  obtain ⟨c, t2, e2, g2⟩ := nxQ_fwd g1
  subst e2
  obtain ⟨hc, ht2⟩ := allB_hd ht1
  obtain ⟨d, t3, e3, g3⟩ := nxQ_fwd g2
  subst e3
  obtain ⟨hd, ht3⟩ := allB_hd ht2
  obtain ⟨e, t4, e4, g4⟩ := nxQ_fwd g3
  subst e4
  obtain ⟨he, ht4⟩ := allB_hd ht3
  obtain ⟨f, t5, e5, g5⟩ := nxQ_fwd g4
  subst e5
  obtain ⟨hf, ht5⟩ := allB_hd ht4
  obtain ⟨g, t6, e6, g6⟩ := nxQ_fwd g5
  subst e6
  obtain ⟨hg', ht6⟩ := allB_hd ht5
  obtain ⟨j, t7, e7, g7⟩ := nxQ_fwd g6
  subst e7
  obtain ⟨hj, ht7⟩ := allB_hd ht6
  rw [show k + 1 + 1 + 1 + 1 + 1 + 1 + 1 + 1 = k + 8 by omega] at g7
  exact ⟨num8V a b c d e f g j, t7, by rw [im8_num ha hb hc hd he hf hg' hj]; rfl, ht7, g7⟩

theorem bits8_all : all1 16 (fun R => R % 8 == 4 * (R / 4 % 2) + 2 * (R / 2 % 2) + R % 2) = true := by kernel_rfl
theorem bits8 {R : Int} (r0 : 0 ≤ R) (r1 : R < 16) : R % 8 = 4 * (R / 4 % 2) + 2 * (R / 2 % 2) + R % 2 := eq_of_beq (all1_of bits8_all r0 r1)

/-! A place. -/

theorem mode_memP {a b c d n mod : Int} {imm : List Int} (b0 : 0 ≤ b) (b1 : b < 16) (h : ModeOk b n mod imm) : memP a b c d n = modP mod a b c d imm := by
  have hb : (b == 17) = false := beq_eq_false_iff_ne.2 (by omega)
  unfold memP
  rw [hb, cond_false, andi7 b0 b1]
  rcases h with ⟨rfl, rfl, rfl, h5⟩ | ⟨rfl, rfl, hr, h5⟩ | ⟨rfl, rfl, hq⟩
  · have e : (b % 8 != 5) = true := by simpa using h5
    rw [e]
    rfl
  · have e : cond (n == 0) (b % 8 != 5) false = false := by
      cases hn : (n == 0)
      · rfl
      · rw [cond_true, h5 (eq_of_beq hn)]
        rfl
    rw [e, cond_false, (fitsF_iff n).2 hr, cond_true]
  · have e : (n == 0) = false := by
      cases hn : (n == 0)
      · rfl
      · rw [eq_of_beq hn] at hq; cases hq
    rw [e, cond_false, cond_false, hq, cond_false]

theorem modQ_fwd {b c : Int} (b0 : 0 ≤ b) (b1 : b < 16) (hc : IsB c) (h3 : modF c ≠ 3) (h05 : modF c = 0 → b % 8 ≠ 5) {t : List Int} (ht : AllB t) {k : Int} {K : Int → List Int → Int → RestR} {p : InsT × Int} (h : modQ c b t k K = .ok p) :
    ∃ n imm rest, t = imm ++ rest ∧ AllB rest ∧ ModeOk b n (modF c) imm ∧ K n rest (k + (imm.length : Int)) = .ok p := by
  have hm := (byte_eq hc.1 hc.2).1
  obtain ⟨c0, c1⟩ := hc
  unfold modQ at h
  by_cases e1 : modF c = 1
  · rw [e1, show ((1 : Int) == 1) = true from rfl, cond_true] at h
    obtain ⟨n, rest, e, hr, hn, h⟩ := num1_fwd ht h
    refine ⟨n, im1 n, rest, e, hr, .inr (.inl ⟨e1, rfl, hn, fun hz => ?_⟩), ?_⟩
    · have e0 : (n != 0) = false := by rw [hz]; rfl
      rw [e0, cond_false] at h
      have := (must_fwd h).1
      rw [andi7 b0 b1] at this
      exact eq_of_beq this
    · cases hz : (n != 0)
      · rw [hz, cond_false] at h; exact (must_fwd h).2
      · rw [hz, cond_true] at h; exact h
  · rw [beq_eq_false_iff_ne.2 e1, cond_false] at h
    by_cases e2 : modF c = 2
    · rw [e2, show ((2 : Int) == 2) = true from rfl, cond_true] at h
      obtain ⟨n, rest, e, hr, hn, h⟩ := num4_fwd ht h
      obtain ⟨q1, q2⟩ := must_fwd h
      exact ⟨n, im4 n, rest, e, hr, .inr (.inr ⟨e2, rfl, by simpa using q1⟩), q2⟩
    · rw [beq_eq_false_iff_ne.2 e2, cond_false] at h
      have e0 : modF c = 0 := by omega
      refine ⟨0, [], t, rfl, ht, .inl ⟨e0, rfl, rfl, h05 e0⟩, ?_⟩
      show K 0 t (k + 0) = _
      rw [Int.add_zero]
      exact h

/-- What a place's bytes are. -/
theorem place_fwd {R c : Int} (r0 : 0 ≤ R) (r1 : R < 16) (hc : IsB c) (h3 : modF c ≠ 3) {t : List Int} (ht : AllB t) {k : Int} {K : PlaceK} {p : InsT × Int} (h : placeQ R c t k K = .ok p) :
    ∃ b cc d n used rest, t = used ++ rest ∧ memP (midF c R) b cc d n = (R % 8, c :: used) ∧ K b cc d n rest (k + (used.length : Int)) = .ok p := by
  have hm := byte_eq hc.1 hc.2
  have hmid := midF_eq hc.1 hc.2 r0 r1
  obtain ⟨c0, c1⟩ := hc
  have a0 : 0 ≤ midF c R := by rw [hmid]; omega
  have a1 : midF c R < 16 := by rw [hmid]; omega
  generalize midF c R = a at *
  have base : (modF c = 0 → rmF c ≠ 5) → baseQ R c t k K = .ok p → ∃ b cc d n used rest, t = used ++ rest ∧ memP a b cc d n = (R % 8, c :: used) ∧ K b cc d n rest (k + (used.length : Int)) = .ok p := by
    clear h
    intro h5 h
    unfold baseQ at h
    by_cases e4 : rmF c = 4
    · rw [e4, show ((4 : Int) == 4) = true from rfl, cond_true] at h
      unfold sibQ at h
      have h0 := nxQ_fwd h
      clear h
      obtain ⟨e, t, rfl, h⟩ := h0
      obtain ⟨he, ht⟩ := allB_hd ht
      have hl := lowF_eq he.1 he.2 r0 r1
      have hx := idxF_eq he.1 he.2 r0 r1
      have hem := (byte_eq he.1 he.2).1
      obtain ⟨e0, e1⟩ := he
      have b0 : 0 ≤ lowF e R := by rw [hl]; omega
      have b1 : lowF e R < 16 := by rw [hl]; omega
      have key : (modF c = 0 → lowF e R % 8 ≠ 5) ∧ sibQ2 R c e t (k + 1) K = .ok p := by
        by_cases e0 : modF c = 0
        · rw [e0] at h
          obtain ⟨q1, q2⟩ := must_fwd (h : mustQ (andi (lowF e R) 7 != 5) (k + 1) (sibQ2 R c e t (k + 1) K) = .ok p)
          rw [andi7 b0 b1] at q1
          exact ⟨fun _ => by simpa using q1, q2⟩
        · have : (modF c != 0) = true := by simpa using e0
          rw [this, cond_true] at h
          exact ⟨fun h => absurd h e0, h⟩
      obtain ⟨h05, h⟩ := key
      unfold sibQ2 at h
      by_cases ei : idxF e R = 4
      · rw [ei, show ((4 : Int) == 4) = true from rfl, cond_true] at h
        by_cases em : modF e = 0
        · rw [em, show ((0 : Int) == 0) = true from rfl, cond_true] at h
          obtain ⟨q1, q2⟩ := must_fwd h
          rw [andi7 b0 b1] at q1
          have q1 := eq_of_beq q1
          obtain ⟨n, imm, rest, f1, f2, f3, f4⟩ := modQ_fwd b0 b1 ⟨c0, c1⟩ h3 h05 ht q2
          refine ⟨lowF e R, 16, 0, n, e :: imm, rest, by rw [f1]; rfl, ?_, ?_⟩
          · rw [mode_memP b0 b1 f3]
            have m1 := mrB_eq (m := modF c) (by omega) (by omega) a0 a1 (show (0 : Int) ≤ 4 by omega) (show (4 : Int) < 16 by omega)
            have m2 := mrB_eq (m := 0) (by omega) (by omega) (show (0 : Int) ≤ 4 by omega) (show (4 : Int) < 16 by omega) b0 b1
            have m3 := sibR_eq a0 a1 (show (0 : Int) ≤ 4 by omega) (show (4 : Int) < 16 by omega) b0 b1
            have g1 : mrB (modF c) a 4 = c := by rw [m1]; omega
            have g2 : mrB 0 4 (lowF e R) = e := by rw [m2]; omega
            have g3 : sibR (rexM 0 a 4) 4 (lowF e R) = R % 8 := by rw [m3]; omega
            unfold modP
            rw [andi7 b0 b1, q1]
            show (sibR (rexM 0 a 4) 4 (lowF e R), [mrB (modF c) a 4] ++ [mrB 0 4 (lowF e R)] ++ imm) = _
            rw [g1, g2, g3]
            rfl
          · rw [show k + ((e :: imm).length : Int) = k + 1 + (imm.length : Int) by simp only [List.length_cons]; omega]
            exact f4
        · rw [beq_eq_false_iff_ne.2 em, cond_false] at h; cases h
      · rw [beq_eq_false_iff_ne.2 ei, cond_false] at h
        obtain ⟨n, imm, rest, f1, f2, f3, f4⟩ := modQ_fwd b0 b1 ⟨c0, c1⟩ h3 h05 ht h
        have hix0 : 0 ≤ idxF e R := by rw [hx]; omega
        have hix1 : idxF e R < 16 := by rw [hx]; omega
        refine ⟨lowF e R, idxF e R, scF e, n, e :: imm, rest, by rw [f1]; rfl, ?_, ?_⟩
        · rw [mode_memP b0 b1 f3]
          have hs : scaleN (scF e) = modF e := by
            have := all1_of scF_all e0 e1
            have hq : e / 64 = 0 ∨ e / 64 = 1 ∨ e / 64 = 2 ∨ e / 64 = 3 := by omega
            rw [hem]
            rcases hq with hq | hq | hq | hq <;> rw [hq] at this ⊢ <;> rw [eq_of_beq (this : (scF e == _) = true)] <;> rfl
          have m1 := mrB_eq (m := modF c) (by omega) (by omega) a0 a1 (show (0 : Int) ≤ 4 by omega) (show (4 : Int) < 16 by omega)
          have m2 := mrB_eq (m := modF e) (by omega) (by omega) hix0 hix1 b0 b1
          have m3 := sibR_eq a0 a1 hix0 hix1 b0 b1
          have w1 : a / 8 = R / 4 % 2 := by omega
          have w2 : idxF e R / 8 = R / 2 % 2 := by omega
          have w3 : lowF e R / 8 = R % 2 := by omega
          have g1 : mrB (modF c) a 4 = c := by rw [m1]; omega
          have g2 : mrB (modF e) (idxF e R) (lowF e R) = e := by rw [m2, show idxF e R % 8 = e / 8 % 8 by omega, show lowF e R % 8 = e % 8 by omega]; omega
          have g3 : sibR (rexM 0 a 4) (idxF e R) (lowF e R) = R % 8 := by rw [m3, w1, w2, w3, bits8 r0 r1]
          have e16 : (idxF e R == 16) = false := beq_eq_false_iff_ne.2 (by omega)
          unfold modP
          rw [e16, hs]
          show (sibR (rexM 0 a 4) (idxF e R) (lowF e R), [mrB (modF c) a 4] ++ [mrB (modF e) (idxF e R) (lowF e R)] ++ imm) = _
          rw [g1, g2, g3]
          rfl
        · rw [show k + ((e :: imm).length : Int) = k + 1 + (imm.length : Int) by simp only [List.length_cons]; omega]
          exact f4
    · rw [beq_eq_false_iff_ne.2 e4, cond_false] at h
      obtain ⟨q1, q2⟩ := must_fwd h
      rw [(and83 r0 r1).2] at q1
      have q1 := eq_of_beq q1
      have hb : wi (rmF c + bitF R 1) = c % 8 + 8 * (R % 2) := by
        rw [hm.2.2.2, (bit_eq r0 r1).2.2, wi_small (by omega) (by omega)]
      have b0 : 0 ≤ c % 8 + 8 * (R % 2) := by omega
      have b1 : c % 8 + 8 * (R % 2) < 16 := by omega
      rw [hb] at q2
      obtain ⟨n, imm, rest, f1, f2, f3, f4⟩ := modQ_fwd b0 b1 ⟨c0, c1⟩ h3 (fun e0 => by have := h5 e0; omega) ht q2
      refine ⟨_, 16, 0, n, imm, rest, f1, ?_, f4⟩
      rw [mode_memP b0 b1 f3]
      have m1 := mrB_eq (m := modF c) (by omega) (by omega) a0 a1 b0 b1
      have m3 := rexM_eq a0 a1 b0 b1
      have g1 : mrB (modF c) a (c % 8 + 8 * (R % 2)) = c := by rw [m1]; omega
      have g3 : rexM 0 a (c % 8 + 8 * (R % 2)) = R % 8 := by rw [m3]; omega
      have h4 : ((c % 8 + 8 * (R % 2)) % 8 != 4) = true := by
        rw [hm.2.2.2] at e4
        simpa using (show (c % 8 + 8 * (R % 2)) % 8 ≠ 4 by omega)
      unfold modP
      rw [andi7 b0 b1, h4]
      show (rexM 0 a _, [mrB (modF c) a _] ++ imm) = _
      rw [g1, g3]
      rfl
  unfold placeQ at h
  by_cases em : modF c = 0
  · rw [em, show ((0 : Int) == 0) = true from rfl, cond_true] at h
    by_cases e5 : rmF c = 5
    · rw [e5, show ((5 : Int) == 5) = true from rfl, cond_true] at h
      obtain ⟨q1, q2⟩ := must_fwd h
      rw [(and83 r0 r1).1] at q1
      have q1 := eq_of_beq q1
      obtain ⟨n, rest, f1, f2, f3, f4⟩ := num4_fwd ht q2
      refine ⟨17, 16, 0, n, im4 n, rest, f1, ?_, f4⟩
      have m1 := mrB_eq (m := 0) (by omega) (by omega) a0 a1 (show (0 : Int) ≤ 5 by omega) (show (5 : Int) < 16 by omega)
      have m3 := rexM_eq a0 a1 (show (0 : Int) ≤ 5 by omega) (show (5 : Int) < 16 by omega)
      have g1 : mrB 0 a 5 = c := by rw [m1]; omega
      have g3 : rexM 0 a 5 = R % 8 := by rw [m3]; omega
      show (rexM 0 a 5, [mrB 0 a 5] ++ im4 n) = _
      rw [g1, g3]
      rfl
    · rw [beq_eq_false_iff_ne.2 e5, cond_false] at h
      exact base (fun _ => e5) h
  · rw [beq_eq_false_iff_ne.2 em, cond_false] at h
    exact base (fun e => absurd e em) h

end Go.Amd

namespace Go.Amd
open Go Go.Ab Go.Proofs

/-- What the opcode's last byte has beyond the row's. -/
def restN (x : RowT) (op : List Int) : Int := wi (w8 (lastB op - w8 x.2.2.1))
def headK (x : RowT) (op : List Int) (h : Int) : Bool :=
  hdF x.2.2.1 ++ [lastG (formR x) (condR x) (w8 x.2.2.1) (restN x op + 8 * h) (cond (condR x) (restN x op) 0) (op.getD 0 0 == 131)] == op &&
    cond (formR x == 1 || formR x == 2) (decide (0 ≤ restN x op) && decide (restN x op < 8)) true
def headC (x : RowT) (op : List Int) : Bool := cond (opensF x op) (headK x op 0 && headK x op 1) true
theorem headC_all : rowsL.all (fun x => all2 16 16 fun a b => headC x [16 * a + b] && headC x [15, 16 * a + b]) = true := by kernel_rfl
theorem headC_of {x : RowT} (hx : x ∈ rowsL) {c : Int} (hc : IsB c) : headC x [c] = true ∧ headC x [15, c] = true := by
  obtain ⟨c0, c1⟩ := hc
  have := all2_of (List.all_eq_true.1 headC_all x hx) (a := c / 16) (b := c % 16) (by omega) (by omega) (by omega) (by omega)
  rw [show 16 * (c / 16) + c % 16 = c by omega] at this
  exact Bool.and_eq_true_iff.1 this

theorem lastG_a {f : Int} (h1 : f ≠ 1) (h2 : f ≠ 2) (cn : Bool) (l a b d : Int) (ft : Bool) : lastG f cn l a d ft = lastG f cn l b d ft := by
  unfold lastG
  rw [beq_eq_false_iff_ne.2 h1, beq_eq_false_iff_ne.2 h2]
  simp only [cond_false]
theorem lastG_f {f : Int} (h6 : f ≠ 6) (cn : Bool) (l a d : Int) (ft fu : Bool) : lastG f cn l a d ft = lastG f cn l a d fu := by
  unfold lastG
  rw [beq_eq_false_iff_ne.2 h6]
  rfl

theorem head_get {x : RowT} (hx : x ∈ rowsL) {op : List Int} (hb : OpB op) (ho : opensF x op = true) {h : Int} (hh : h = 0 ∨ h = 1) : headK x op h = true := by
  have key : headC x op = true := by
    rcases hb with ⟨c, hc, rfl⟩ | ⟨c, hc, rfl⟩
    · exact (headC_of hx hc).1
    · exact (headC_of hx hc).2
  unfold headC at key
  rw [ho, cond_true] at key
  obtain ⟨k0, k1⟩ := Bool.and_eq_true_iff.1 key
  rcases hh with rfl | rfl
  · exact k0
  · exact k1
theorem head_rng {x : RowT} (hx : x ∈ rowsL) {op : List Int} (hb : OpB op) (ho : opensF x op = true) (hf : formR x = 1 ∨ formR x = 2) : 0 ≤ restN x op ∧ restN x op < 8 := by
  have := head_get hx hb ho (h := 0) (.inl rfl)
  unfold headK at this
  have e : (formR x == 1 || formR x == 2) = true := by rcases hf with e | e <;> rw [e] <;> rfl
  rw [e, cond_true] at this
  have := (Bool.and_eq_true_iff.1 this).2
  simpa using this
theorem head_fwd {x : RowT} (hx : x ∈ rowsL) {op : List Int} (hb : OpB op) (ho : opensF x op = true) {h : Int} (hh : h = 0 ∨ h = 1) {i : InsT} (ha : formR x = 1 ∨ formR x = 2 → i.2.1 = restN x op + 8 * h)
    (hd : i.2.2.2.2.1 = cond (condR x) (restN x op) 0) (hft : formR x = 6 → fitsF i.2.2.2.2.2 = (op.getD 0 0 == 131)) : headI x i = op := by
  have := head_get hx hb ho hh
  unfold headK at this
  have := eq_of_beq (Bool.and_eq_true_iff.1 this).1
  unfold headI lastO
  rw [lastF_eq, hd]
  refine Eq.trans ?_ this
  refine congrArg (fun c => hdF x.2.2.1 ++ [c]) ?_
  by_cases h6 : formR x = 6
  · rw [hft h6]
    exact lastG_a (by omega) (by omega) _ _ _ _ _ _
  · rw [lastG_f h6 _ _ _ _ (fitsF i.2.2.2.2.2) (op.getD 0 0 == 131)]
    by_cases h12 : formR x = 1 ∨ formR x = 2
    · rw [ha h12]
    · exact lastG_a (by omega) (by omega) _ _ _ _ _ _

/-! REX. -/

def unC (f R : Int) : Bool := cond (and8 R (unusedF f) != 0) true (cond (f == 0 || f == 11 || f == 12) (R % 8 == 0) (cond (f == 7 || f == 8) (R / 2 % 2 == 0) (cond (f == 9 || f == 10) true (R % 8 == R % 2))))
theorem unC_all : forms.all (fun f => all1 16 fun R => unC f R) = true := by kernel_rfl
def rexC (R : Int) : Bool := cond (and8 R 8 != 0) (R == 8 + R % 8) (R == R % 8) && ((and8 R 8 == 0) == !(and8 R 8 != 0))
theorem rexC_all : all1 16 rexC = true := by kernel_rfl

theorem pref_fwd {x : RowT} (hx : x ∈ rowsL) {fs has : Bool} {R : Int} (r0 : 0 ≤ R) (r1 : R < 16) (h0 : has = false → R = 0) (h : prefF x fs R has = true) :
    fs = (formR x == 10) ∧ unC (formR x) R = true ∧ and8 R (unusedF (formR x)) = 0 ∧ rexL x.2.1 (R % 8) = cond has [64 + R] [] := by
  have hfm : formR x ∈ forms := by simpa [formOk] using List.all_eq_true.1 rows_forms x hx
  have hu := all1_of (List.all_eq_true.1 unC_all _ hfm) r0 r1
  unfold prefF at h
  cases e1 : (!(fs == (formR x == 10)))
  · rw [e1, cond_false] at h
    have e1 : fs = (formR x == 10) := by simpa using e1
    cases e2 : (and8 R (unusedF (formR x)) != 0)
    · rw [e2, cond_false] at h
      refine ⟨e1, hu, bne_tt e2, ?_⟩
      obtain ⟨c1, c2⟩ := Bool.and_eq_true_iff.1 (all1_of rexC_all r0 r1)
      have c2 := eq_of_beq c2
      obtain ⟨o1, o2, -⟩ := or8_of (r := R % 8) (by omega) (by omega)
      unfold rexL
      rcases (rex_of hx).1 with hr | hr | hr
      · rw [hr] at h ⊢
        have h : cond (and8 R 8 == 0) (cond (!has) true (R != 0)) false = true := h
        cases e8 : (and8 R 8 == 0)
        · rw [e8] at h; cases h
        · rw [e8] at c2
          have e8' : (and8 R 8 != 0) = false := by simpa using c2.symm
          rw [e8', cond_false] at c1
          have c1 := eq_of_beq c1
          rw [e8, cond_true] at h
          rw [show ((0 : Int) == 0) = true from rfl, cond_true, o2, ← c1]
          cases has
          · rw [h0 rfl]; rfl
          · have h : (R != 0) = true := h
            rw [h, cond_true]
      · rw [hr] at h ⊢
        have h : (and8 R 8 != 0) = true := h
        rw [h, cond_true] at c1
        have c1 := eq_of_beq c1
        show [or8 64 (or8 (R % 8) 8)] = _
        rw [o1, ← c1]
        cases has
        · have := h0 rfl; omega
        · rfl
      · rw [hr] at h ⊢
        have h : cond has (and8 R 8 == 0) false = true := h
        cases has
        · cases h
        · rw [cond_true] at h
          rw [h] at c2
          have e8' : (and8 R 8 != 0) = false := by simpa using c2.symm
          rw [e8', cond_false] at c1
          have c1 := eq_of_beq c1
          show [or8 64 (R % 8)] = _
          rw [o2, ← c1]
          rfl
    · rw [e2] at h; cases h
  · rw [e1] at h; cases h

/-! The forms. -/

theorem rest_e (R : Int) (x : RowT) (op : List Int) (c : Int) (t : List Int) (k : Int) : restQ R x op c t k = formQ (formR x) R x op c t k (cond (condR x) (restN x op) 0) := by
  unfold restQ lastQ restN
  cases condR x <;> rfl

theorem formQ_2' (R : Int) (x : RowT) (op : List Int) (c : Int) (t : List Int) (k d : Int) : formQ 2 R x op c t k d = num8Q t k fun n _ k => finQ x (x.1, wi (restN x op + bitF R 1), 0, 0, d, n) k := rfl
theorem lastG_9 (l a d : Int) (ft : Bool) : lastG 9 false l a d ft = l := rfl

/-- What is to be shown of a form. -/
def Fwd (x : RowT) (op : List Int) (R : Int) (pre t : List Int) (k : Int) (i : InsT) (n : Int) : Prop :=
  i.1 = x.1 ∧ faultyF x i = 0 ∧ rI x i = R % 8 ∧ headI x i = op ∧ ∃ used rest, t = used ++ rest ∧ n = k + (used.length : Int) ∧ tailI x i = pre ++ used

section
variable {x : RowT} (hx : x ∈ rowsL) {op : List Int} (hb : OpB op) (ho : opensF x op = true) {R : Int} (r0 : 0 ≤ R) (r1 : R < 16) (hu : unC (formR x) R = true) (hz : and8 R (unusedF (formR x)) = 0)
include hx hb ho r0 r1 hu hz

omit hx hb ho r0 r1 in
theorem un_0 (hf : formR x = 0 ∨ formR x = 11 ∨ formR x = 12) : R % 8 = 0 := by
  have h := hu
  unfold unC at h
  rw [hz] at h
  rcases hf with e | e | e <;> rw [e] at h <;> exact eq_of_beq h
omit hx hb ho r0 r1 in
theorem un_1 (hf : formR x = 1 ∨ formR x = 2 ∨ formR x = 3 ∨ formR x = 4 ∨ formR x = 5 ∨ formR x = 6) : R % 8 = R % 2 := by
  have h := hu
  unfold unC at h
  rw [hz] at h
  rcases hf with e | e | e | e | e | e <;> rw [e] at h <;> exact eq_of_beq h
omit hx hb ho r0 r1 in
theorem un_7 (hf : formR x = 7 ∨ formR x = 8) : R / 2 % 2 = 0 := by
  have h := hu
  unfold unC at h
  rw [hz] at h
  rcases hf with e | e <;> rw [e] at h <;> exact eq_of_beq h

omit r0 r1 in
theorem fwd_0 (hf : formR x = 0) {t : List Int} {k : Int} {i : InsT} {n : Int} (h : restQ R x op 0 t k = .ok (i, n)) : Fwd x op R [] t k i n := by
  rw [rest_e, hf] at h
  obtain ⟨rfl, rfl, he⟩ := fin_fwd (h : finQ x _ k = _)
  exact ⟨rfl, he, (rI_none (.inl hf)).trans (un_0 hu hz (.inl hf)).symm, head_fwd hx hb ho (.inl rfl) (fun e => by omega) rfl (fun e => by omega), [], t, rfl, by simp, (tail_0 hf).trans rfl⟩

theorem reg_fwd (hf : formR x = 1 ∨ formR x = 2) : wi (restN x op + bitF R 1) = restN x op + 8 * (R % 2) ∧ 0 ≤ restN x op + 8 * (R % 2) ∧ restN x op + 8 * (R % 2) < 16 ∧ or8 0 (hi4 (restN x op + 8 * (R % 2)) 1) = R % 8 := by
  have hn := head_rng hx hb ho hf
  have e := un_1 hu hz (by omega)
  rw [(bit_eq r0 r1).2.2, wi_small (by omega) (by omega)]
  refine ⟨rfl, by omega, by omega, ?_⟩
  rw [hi_eq (by omega) (by omega), e]
  omega
theorem fwd_1 (hf : formR x = 1) {t : List Int} {k : Int} {i : InsT} {n : Int} (h : restQ R x op 0 t k = .ok (i, n)) : Fwd x op R [] t k i n := by
  obtain ⟨g1, g2, g3, g4⟩ := reg_fwd hx hb ho r0 r1 hu hz (.inl hf)
  rw [rest_e, hf, formQ_1] at h
  obtain ⟨rfl, rfl, he⟩ := fin_fwd (h : finQ x (x.1, wi (restN x op + bitF R 1), 0, 0, _, 0) k = _)
  refine ⟨rfl, he, ?_, head_fwd hx hb ho (h := R % 2) (by omega) (fun _ => g1) rfl (fun e => by omega), [], t, rfl, by simp, (tail_1 hf).trans rfl⟩
  unfold rI
  rw [hf]
  show or8 0 (hi4 (wi (restN x op + bitF R 1)) 1) = R % 8
  rw [g1, g4]
theorem fwd_2 (hf : formR x = 2) {t : List Int} (ht : AllB t) {k : Int} {i : InsT} {n : Int} (h : restQ R x op 0 t k = .ok (i, n)) : Fwd x op R [] t k i n := by
  obtain ⟨g1, g2, g3, g4⟩ := reg_fwd hx hb ho r0 r1 hu hz (.inr hf)
  rw [rest_e, hf, formQ_2'] at h
  obtain ⟨m, rest, e, hr, h⟩ := num8_fwd ht h
  obtain ⟨rfl, rfl, he⟩ := fin_fwd h
  refine ⟨rfl, he, ?_, head_fwd hx hb ho (h := R % 2) (by omega) (fun _ => g1) rfl (fun e => by omega), im8 m, rest, e, rfl, (tail_2 hf).trans rfl⟩
  unfold rI
  rw [hf]
  show or8 0 (hi4 (wi (restN x op + bitF R 1)) 1) = R % 8
  rw [g1, g4]
omit r0 r1 in
theorem fwd_11 (hf : formR x = 11) {t : List Int} (ht : AllB t) {k : Int} {i : InsT} {n : Int} (h : restQ R x op 0 t k = .ok (i, n)) : Fwd x op R [] t k i n := by
  rw [rest_e, hf, formQ_11] at h
  obtain ⟨m, rest, e, hr, -, h⟩ := num4_fwd ht h
  obtain ⟨rfl, rfl, he⟩ := fin_fwd h
  exact ⟨rfl, he, (rI_none (.inr (.inl hf))).trans (un_0 hu hz (by omega)).symm, head_fwd hx hb ho (.inl rfl) (fun e => by omega) rfl (fun e => by omega), im4 m, rest, e, rfl, (tail_11 hf).trans rfl⟩
omit r0 r1 in
theorem fwd_12 (hf : formR x = 12) {t : List Int} (ht : AllB t) {k : Int} {i : InsT} {n : Int} (h : restQ R x op 0 t k = .ok (i, n)) : Fwd x op R [] t k i n := by
  rw [rest_e, hf, formQ_12] at h
  obtain ⟨m, rest, e, hr, -, h⟩ := num1_fwd ht h
  obtain ⟨rfl, rfl, he⟩ := fin_fwd h
  exact ⟨rfl, he, (rI_none (.inr (.inr hf))).trans (un_0 hu hz (by omega)).symm, head_fwd hx hb ho (.inl rfl) (fun e => by omega) rfl (fun e => by omega), im1 m, rest, e, rfl, (tail_12 hf).trans rfl⟩

omit hb ho in
/-- A ModRM of a group. -/
theorem grp_fwd {c : Int} (hc : IsB c) (hfit : fitC c x = true) (hf : formR x = 3 ∨ formR x = 4 ∨ formR x = 5 ∨ formR x = 6) : (0 ≤ lowF c R ∧ lowF c R < 16) ∧ mrB 3 (wi x.2.2.2.2.1) (lowF c R) = c ∧ lowF c R / 8 = R % 8 := by
  obtain ⟨d0, d1, d2⟩ := dg_rng hx
  have hl := lowF_eq hc.1 hc.2 r0 r1
  obtain ⟨q1, q2, q3, q4⟩ := byte_eq hc.1 hc.2
  have e := un_1 hu hz (by omega)
  have hg : grpF (formR x) = true := by unfold grpF; rcases hf with e | e | e | e <;> rw [e] <;> rfl
  obtain ⟨c0, c1⟩ := hc
  unfold fitC at hfit
  rw [fit_grp hg, q2] at hfit
  cases h3 : (Int.fdiv c (2 ^ 6) == 3)
  · rw [h3] at hfit; cases hfit
  · rw [h3, cond_true] at hfit
    have h3 : c / 64 = 3 := q1.symm.trans (eq_of_beq h3)
    have hdg := eq_of_beq hfit
    have hm := mrB_eq (m := 3) (by decide) (by decide) (show 0 ≤ wi x.2.2.2.2.1 by omega) (show wi x.2.2.2.2.1 < 16 by omega) (show 0 ≤ lowF c R by omega) (show lowF c R < 16 by omega)
    refine ⟨by omega, ?_, by omega⟩
    rw [hm, d2, ← hdg, hl]
    omega
theorem fwd_3 (hf : formR x = 3) {c : Int} (hc : IsB c) (hfit : fitC c x = true) {t : List Int} {k : Int} {i : InsT} {n : Int} (h : restQ R x op c t k = .ok (i, n)) : Fwd x op R [c] t k i n := by
  obtain ⟨g1, g2, g3⟩ := grp_fwd hx r0 r1 hu hz hc hfit (by omega)
  rw [rest_e, hf, formQ_3] at h
  obtain ⟨rfl, rfl, he⟩ := fin_fwd h
  refine ⟨rfl, he, (rI_grp hx g1 (by omega)).trans g3, head_fwd hx hb ho (.inl rfl) (fun e => by omega) rfl (fun e => by omega), [], t, rfl, by simp, (tail_3 hf).trans ?_⟩
  show [mrB 3 (wi x.2.2.2.2.1) (lowF c R)] = _
  rw [g2]; rfl
theorem fwd_4 (hf : formR x = 4) {c : Int} (hc : IsB c) (hfit : fitC c x = true) {t : List Int} (ht : AllB t) {k : Int} {i : InsT} {n : Int} (h : restQ R x op c t k = .ok (i, n)) : Fwd x op R [c] t k i n := by
  obtain ⟨g1, g2, g3⟩ := grp_fwd hx r0 r1 hu hz hc hfit (by omega)
  rw [rest_e, hf, formQ_4] at h
  obtain ⟨m, rest, e, hr, -, h⟩ := num4_fwd ht h
  obtain ⟨rfl, rfl, he⟩ := fin_fwd h
  refine ⟨rfl, he, (rI_grp hx g1 (by omega)).trans g3, head_fwd hx hb ho (.inl rfl) (fun e => by omega) rfl (fun e => by omega), im4 m, rest, e, rfl, (tail_4 hf).trans ?_⟩
  show mrB 3 (wi x.2.2.2.2.1) (lowF c R) :: im4 m = _
  rw [g2]; rfl
theorem fwd_5 (hf : formR x = 5) {c : Int} (hc : IsB c) (hfit : fitC c x = true) {t : List Int} (ht : AllB t) {k : Int} {i : InsT} {n : Int} (h : restQ R x op c t k = .ok (i, n)) : Fwd x op R [c] t k i n := by
  obtain ⟨g1, g2, g3⟩ := grp_fwd hx r0 r1 hu hz hc hfit (by omega)
  rw [rest_e, hf, formQ_5] at h
  obtain ⟨m, rest, e, hr, -, h⟩ := num1_fwd ht h
  obtain ⟨rfl, rfl, he⟩ := fin_fwd h
  refine ⟨rfl, he, (rI_grp hx g1 (by omega)).trans g3, head_fwd hx hb ho (.inl rfl) (fun e => by omega) rfl (fun e => by omega), im1 m, rest, e, rfl, (tail_5 hf).trans ?_⟩
  show mrB 3 (wi x.2.2.2.2.1) (lowF c R) :: im1 m = _
  rw [g2]; rfl
theorem fwd_6 (hf : formR x = 6) {c : Int} (hc : IsB c) (hfit : fitC c x = true) {t : List Int} (ht : AllB t) {k : Int} {i : InsT} {n : Int} (h : restQ R x op c t k = .ok (i, n)) : Fwd x op R [c] t k i n := by
  obtain ⟨g1, g2, g3⟩ := grp_fwd hx r0 r1 hu hz hc hfit (by omega)
  rw [rest_e, hf, formQ_6] at h
  cases hop : (op.getD 0 0 == 131)
  · rw [hop, cond_false] at h
    obtain ⟨m, rest, e, hr, -, h⟩ := num4_fwd ht h
    obtain ⟨q, h⟩ := must_fwd h
    have q : fitsF m = false := by simpa using q
    obtain ⟨rfl, rfl, he⟩ := fin_fwd h
    refine ⟨rfl, he, (rI_grp hx g1 (by omega)).trans g3, head_fwd hx hb ho (.inl rfl) (fun e => by omega) rfl (fun e => q.trans hop.symm), im4 m, rest, e, rfl, (tail_6 hf).trans ?_⟩
    show mrB 3 (wi x.2.2.2.2.1) (lowF c R) :: immS m = _
    unfold immS
    rw [g2, q]; rfl
  · rw [hop, cond_true] at h
    obtain ⟨m, rest, e, hr, hm, h⟩ := num1_fwd ht h
    have q : fitsF m = true := (fitsF_iff m).2 hm
    obtain ⟨rfl, rfl, he⟩ := fin_fwd h
    refine ⟨rfl, he, (rI_grp hx g1 (by omega)).trans g3, head_fwd hx hb ho (.inl rfl) (fun e => by omega) rfl (fun e => q.trans hop.symm), im1 m, rest, e, rfl, (tail_6 hf).trans ?_⟩
    show mrB 3 (wi x.2.2.2.2.1) (lowF c R) :: immS m = _
    unfold immS
    rw [g2, q]; rfl

omit hx hb ho in
theorem two_fwd {c : Int} (hc : IsB c) (hfit : fitC c x = true) (hf : formR x = 7 ∨ formR x = 8) : mrB 3 (midF c R) (lowF c R) = c ∧ rexM 0 (midF c R) (lowF c R) = R % 8 := by
  have hl := lowF_eq hc.1 hc.2 r0 r1
  have hm := midF_eq hc.1 hc.2 r0 r1
  obtain ⟨q1, q2, q3, q4⟩ := byte_eq hc.1 hc.2
  have e := un_7 hu hz hf
  have h3 : modF c = 3 := fit_3 (x := x) (by rcases hf with e | e <;> rw [e] <;> rfl) hfit
  obtain ⟨c0, c1⟩ := hc
  have l0 : 0 ≤ lowF c R ∧ lowF c R < 16 := by omega
  have m0 : 0 ≤ midF c R ∧ midF c R < 16 := by omega
  refine ⟨?_, ?_⟩
  · rw [mrB_eq (by decide) (by decide) m0.1 m0.2 l0.1 l0.2, show midF c R % 8 = c / 8 % 8 by omega, show lowF c R % 8 = c % 8 by omega]
    omega
  · rw [rexM_eq m0.1 m0.2 l0.1 l0.2, show midF c R / 8 = R / 4 % 2 by omega, show lowF c R / 8 = R % 2 by omega, bits8 r0 r1, e]
    omega
theorem fwd_7 (hf : formR x = 7) {c : Int} (hc : IsB c) (hfit : fitC c x = true) {t : List Int} {k : Int} {i : InsT} {n : Int} (h : restQ R x op c t k = .ok (i, n)) : Fwd x op R [c] t k i n := by
  obtain ⟨g1, g2⟩ := two_fwd r0 r1 hu hz hc hfit (.inl hf)
  rw [rest_e, hf, formQ_7] at h
  obtain ⟨rfl, rfl, he⟩ := fin_fwd h
  refine ⟨rfl, he, ?_, head_fwd hx hb ho (.inl rfl) (fun e => by omega) rfl (fun e => by omega), [], t, rfl, by simp, (tail_7 hf).trans ?_⟩
  · unfold rI
    rw [hf]
    exact g2
  · show [mrB 3 (midF c R) (lowF c R)] = _
    rw [g1]; rfl
theorem fwd_8 (hf : formR x = 8) {c : Int} (hc : IsB c) (hfit : fitC c x = true) {t : List Int} {k : Int} {i : InsT} {n : Int} (h : restQ R x op c t k = .ok (i, n)) : Fwd x op R [c] t k i n := by
  obtain ⟨g1, g2⟩ := two_fwd r0 r1 hu hz hc hfit (.inr hf)
  rw [rest_e, hf, formQ_8] at h
  obtain ⟨rfl, rfl, he⟩ := fin_fwd h
  refine ⟨rfl, he, ?_, head_fwd hx hb ho (.inl rfl) (fun e => by omega) rfl (fun e => by omega), [], t, rfl, by simp, (tail_8 hf).trans ?_⟩
  · unfold rI
    rw [hf]
    exact g2
  · show [mrB 3 (midF c R) (lowF c R)] = _
    rw [g1]; rfl
omit hu hz in
theorem fwd_9 (hf : formR x = 9) {c : Int} (hc : IsB c) (hfit : fitC c x = true) {t : List Int} (ht : AllB t) {k : Int} {i : InsT} {n : Int} (h : restQ R x op c t k = .ok (i, n)) : Fwd x op R [c] t k i n := by
  have h3 : modF c ≠ 3 := fit_9 (x := x) (by rw [hf]; rfl) hfit
  unfold restQ at h
  rw [cond_9 hx hf, cond_false, hf, formQ_9] at h
  obtain ⟨b, cc, d, m, used, rest, e1, e2, h⟩ := place_fwd r0 r1 hc h3 ht h
  obtain ⟨rfl, rfl, he⟩ := fin_fwd h
  have hd : d = cond (condR x) (restN x op) 0 ∨ True := .inr trivial
  refine ⟨rfl, he, ?_, ?_, used, rest, e1, rfl, (tail_9 hf).trans ?_⟩
  · unfold rI
    rw [hf]
    show (memP (midF c R) b cc d m).1 = _
    rw [e2]
  · have hh := head_get hx hb ho (h := 0) (.inl rfl)
    unfold headK at hh
    have hh := eq_of_beq (Bool.and_eq_true_iff.1 hh).1
    unfold headI lastO
    rw [lastF_eq]
    refine Eq.trans ?_ hh
    rw [cond_9 hx hf, hf, lastG_9, lastG_9]
  · show (memP (midF c R) b cc d m).2 = _
    rw [e2]; rfl
omit hu hz in
theorem fwd_10 (hR : R = 8 ∨ R = 12) (hf : formR x = 10) {c : Int} (hc : IsB c) (hfit : fitC c x = true) {t : List Int} (ht : AllB t) {k : Int} {i : InsT} {n : Int} (h : restQ R x op c t k = .ok (i, n)) : Fwd x op R [c] t k i n := by
  have hm := midF_eq hc.1 hc.2 r0 r1
  obtain ⟨q1, q2, q3, q4⟩ := byte_eq hc.1 hc.2
  have hfit : c / 64 = 0 ∧ c % 8 = 4 := by
    unfold fitC fitF at hfit
    rw [hf] at hfit
    have hfit : cond (modF c == 0) (and8 c 7 == 4) false = true := hfit
    cases h0 : (modF c == 0)
    · rw [h0] at hfit; cases hfit
    · rw [h0, cond_true] at hfit
      have h0 := eq_of_beq h0
      have hfit := eq_of_beq hfit
      omega
  obtain ⟨c0, c1⟩ := hc
  have m0 : 0 ≤ midF c R ∧ midF c R < 16 := by omega
  rw [rest_e, hf, formQ_10] at h
  obtain ⟨e, t2, et, h2⟩ := nxQ_fwd h
  obtain ⟨h37, h3⟩ := must_fwd h2
  have h37 := eq_of_beq h37
  subst h37
  rw [et] at ht
  obtain ⟨m, rest, e1, hr, -, h4⟩ := num4_fwd (allB_hd ht).2 h3
  obtain ⟨rfl, rfl, he⟩ := fin_fwd h4
  refine ⟨rfl, he, ?_, head_fwd hx hb ho (.inl rfl) (fun e => by omega) rfl (fun e => by omega), 37 :: im4 m, rest, by rw [et, e1]; rfl, ?_, (tail_10 hf).trans ?_⟩
  · unfold rI
    rw [hf]
    show rexM 0 (midF c R) 4 = _
    rw [rexM_eq m0.1 m0.2 (by decide) (by decide)]
    omega
  · simp only [List.length_cons]
    show k + 1 + 4 = _
    have : (im4 m).length = 4 := rfl
    omega
  · show mrB 0 (midF c R) 4 :: 37 :: im4 m = _
    rw [mrB_eq (by decide) (by decide) m0.1 m0.2 (by decide) (by decide), show 64 * 0 + 8 * (midF c R % 8) + 4 % 8 = c by omega]
    rfl
end

theorem rows_named : rowsL.all (fun x => fok x.1 && frow x.1 == x) = true := by kernel_rfl

/-- What is decoded was encoded so. -/
theorem enc_dec {l : List Int} (hl : AllB l) {i : InsT} {n : Int} (h : decQ l = .ok (i, n)) : encE i = 0 ∧ encL i = l.take n.toNat ∧ 0 ≤ n ∧ n ≤ (l.length : Int) := by
  obtain ⟨n0, n1, -⟩ := dec_short hl h
  obtain ⟨op, k, fs, R, has, hop, x, hx, hr⟩ := dec_parts hl h
  obtain ⟨s1, s2, s3, s4, k0, e1, e2⟩ := opc_split hl hop
  obtain ⟨hx, ho, hp⟩ := cands_of hx
  obtain ⟨p1, p2, p3, p4⟩ := pref_fwd hx s2.1 s2.2 s3 hp
  have hrest : AllB (l.drop k.toNat) := fun c hc => hl c (List.mem_of_mem_drop hc)
  have fin : ∀ {pre t : List Int} {k' : Int}, l.drop k.toNat = pre ++ t → k' = k + (pre.length : Int) → Fwd x op R pre t k' i n → encE i = 0 ∧ encL i = l.take n.toNat ∧ 0 ≤ n ∧ n ≤ (l.length : Int) := by
    intro pre t k' hd hk ⟨f1, f2, f3, f4, used, rest, f5, f6, f7⟩
    have hn := List.all_eq_true.1 rows_named x hx
    obtain ⟨g1, g2⟩ := Bool.and_eq_true_iff.1 hn
    have g2 := eq_of_beq g2
    rw [← f1] at g1 g2
    refine ⟨?_, ?_, n0, n1⟩
    · unfold encE
      rw [g1, g2, f2]; rfl
    · rw [enc_split, g2]
      unfold frontI
      rw [f3, f4, f7]
      have hfs : fsF (formR x) = cond fs [100] [] := by unfold fsF; rw [p1]
      rw [hfs, p4]
      have hl2 : l = (cond fs [100] [] ++ cond has [64 + R] [] ++ op ++ (pre ++ used)) ++ rest := by
        rw [List.append_assoc, List.append_assoc pre, ← f5, ← hd]
        exact e1
      have hlen : n.toNat = (cond fs [100] [] ++ cond has [64 + R] [] ++ op ++ (pre ++ used)).length := by
        have e3 : (pre ++ used).length = pre.length + used.length := List.length_append
        rw [List.length_append]
        omega
      rw [hlen]
      exact (congrArg (List.take _) hl2 |>.trans List.take_left).symm
  have hfm : formR x ∈ forms := by simpa [formOk] using List.all_eq_true.1 rows_forms x hx
  unfold forms at hfm
  simp only [List.mem_cons, List.not_mem_nil, or_false] at hfm
  rcases hr with ⟨hm, hr⟩ | ⟨hm, c, t, hd, hf, hr⟩
  · have go : Fwd x op R [] (l.drop k.toNat) k i n → _ := fin rfl (by simp)
    have no : ∀ {f : Int}, formR x = f → modOf f = true → encE i = 0 ∧ encL i = l.take n.toNat ∧ 0 ≤ n ∧ n ≤ (l.length : Int) := fun e h => by
      rw [e, h] at hm; cases hm
    rcases hfm with e | e | e | e | e | e | e | e | e | e | e | e | e
    · exact go (fwd_0 hx s1 ho p2 p3 e hr)
    · exact go (fwd_1 hx s1 ho s2.1 s2.2 p2 p3 e hr)
    · exact go (fwd_2 hx s1 ho s2.1 s2.2 p2 p3 e hrest hr)
    · exact no e rfl
    · exact no e rfl
    · exact no e rfl
    · exact no e rfl
    · exact no e rfl
    · exact no e rfl
    · exact no e rfl
    · exact no e rfl
    · exact go (fwd_11 hx s1 ho p2 p3 e hrest hr)
    · exact go (fwd_12 hx s1 ho p2 p3 e hrest hr)
  · have go : Fwd x op R [c] t (k + 1) i n → _ := fin hd (by simp)
    rw [hd] at hrest
    obtain ⟨hc, ht⟩ := allB_hd hrest
    have no : ∀ {f : Int}, formR x = f → modOf f = false → encE i = 0 ∧ encL i = l.take n.toNat ∧ 0 ≤ n ∧ n ≤ (l.length : Int) := fun e h => by
      rw [e, h] at hm; cases hm
    rcases hfm with e | e | e | e | e | e | e | e | e | e | e | e | e
    · exact no e rfl
    · exact no e rfl
    · exact no e rfl
    · exact go (fwd_3 hx s1 ho s2.1 s2.2 p2 p3 e hc hf hr)
    · exact go (fwd_4 hx s1 ho s2.1 s2.2 p2 p3 e hc hf ht hr)
    · exact go (fwd_5 hx s1 ho s2.1 s2.2 p2 p3 e hc hf ht hr)
    · exact go (fwd_6 hx s1 ho s2.1 s2.2 p2 p3 e hc hf ht hr)
    · exact go (fwd_7 hx s1 ho s2.1 s2.2 p2 p3 e hc hf hr)
    · exact go (fwd_8 hx s1 ho s2.1 s2.2 p2 p3 e hc hf hr)
    · exact go (fwd_9 hx s1 ho s2.1 s2.2 e hc hf ht hr)
    · refine go (fwd_10 hx s1 ho s2.1 s2.2 ?_ e hc hf ht hr)
      rw [e] at p1
      exact (s4 p1).2
    · exact no e rfl
    · exact no e rfl

end Go.Amd

namespace Go.Amd
open Go Go.Ab Go.Proofs

def dI (l : List Int) (at_ : Int) : InsT := cond (outOf l at_) zeroI (match decQ (l.drop at_.toNat) with | .ok (i, _) => i | .error _ => zeroI)
def dN (l : List Int) (at_ : Int) : Int := cond (outOf l at_) 0 (match decQ (l.drop at_.toNat) with | .ok (_, n) => n | .error _ => 0)
def dE (l : List Int) (at_ : Int) : Int := cond (outOf l at_) 5 (match decQ (l.drop at_.toNat) with | .ok _ => 0 | .error e => e)
theorem decV_eq (l : List Int) (at_ : Int) : decV l at_ = .tup [insV (dI l at_), .int .i64 (dN l at_), .int .i64 (dE l at_)] := by
  unfold decV dI dN dE
  cases outOf l at_
  · simp only [cond_false]
    cases decQ (l.drop at_.toNat) <;> rfl
  · rfl
/-- Decode, its answer by parts. -/
def decodeT : Ab.Spec := fun args => match args with
  | [.sl (.int .u8) l _ _, .int .i64 at_] => .req (decide (l.length < 1000000000)) (.req (bytesB l) (.leaf (.tup [insV (dI l at_), .int .i64 (dN l at_), .int .i64 (dE l at_)])))
  | _ => .fail
theorem decodeT_ok : Sound Try.prog 15 decodeT := by
  intro args out h
  refine decodeS_ok args out ?_
  unfold decodeT at h
  split at h
  rotate_left
  · cases h
  exact Eq.trans (congrArg (fun v => (Tree.req _ (Tree.req _ (Tree.leaf v))).run) (decV_eq _ _)) h

theorem allB_of {l : List Int} (h : Go.Wd.Bytes l) : AllB l := fun c hc => by
  have := h c hc
  exact ⟨by omega, by omega⟩
theorem bytesB_iff {l : List Int} (h : AllB l) : bytesB l = true := by
  unfold bytesB
  refine List.all_eq_true.2 fun x hx => ?_
  have := h x hx
  obtain ⟨h1, h2⟩ := this
  simp [h1, h2]

theorem dec_err {l : List Int} {at_ : Int} (h : (dE l at_ != 0) = true) : dI l at_ = zeroI ∧ dN l at_ = 0 := by
  unfold dE at h
  unfold dI dN
  cases ho : outOf l at_
  · rw [ho, cond_false] at h
    rw [cond_false, cond_false]
    cases hd : decQ (l.drop at_.toNat) with
    | ok p => rw [hd] at h; cases h
    | error e => exact ⟨rfl, rfl⟩
  · exact ⟨rfl, rfl⟩

/-! Errors are 2 or 22. -/

def ErrP (F : List Int → Int → RestR) : Prop := ∀ (t : List Int) (k e m : Int), F t k = .error (e, m) → e ≠ 0
theorem err_fin (x : RowT) (i : InsT) : ErrP fun _ k => finQ x i k := by
  intro t k e m h
  have h : finQ x i k = .error (e, m) := h
  unfold finQ at h
  cases hc : (!(faultyF x i == 0))
  · rw [hc] at h; cases h
  · rw [hc, cond_true] at h; cases h; decide
theorem err_must {b : Bool} {F : List Int → Int → RestR} (h : ErrP F) : ErrP fun t k => mustQ b k (F t k) := by
  intro t k e m he
  cases b
  · cases he; decide
  · exact h t k e m he
theorem err_cond {b : Bool} {F G : List Int → Int → RestR} (h : ErrP F) (g : ErrP G) : ErrP fun t k => cond b (F t k) (G t k) := by
  cases b
  · exact g
  · exact h
theorem err_nx {K : Int → List Int → Int → RestR} (h : ∀ c, ErrP (K c)) : ErrP fun t k => nxQ t k K := by
  intro t k e m he
  cases t with
  | nil => cases he; decide
  | cons c t => exact h c t (k + 1) e m he
theorem err_num1 {K : Int → List Int → Int → RestR} (h : ∀ c, ErrP (K c)) : ErrP fun t k => num1Q t k K := err_nx fun _ => h _
theorem err_num4 {K : Int → List Int → Int → RestR} (h : ∀ c, ErrP (K c)) : ErrP fun t k => num4Q t k K := err_nx fun _ => err_nx fun _ => err_nx fun _ => err_nx fun _ => h _
theorem err_num8 {K : Int → List Int → Int → RestR} (h : ∀ c, ErrP (K c)) : ErrP fun t k => num8Q t k K :=
  err_nx fun _ => err_nx fun _ => err_nx fun _ => err_nx fun _ => err_nx fun _ => err_nx fun _ => err_nx fun _ => err_nx fun _ => h _
theorem err_22 : ErrP fun _ k => .error (22, k) := fun t k e m h => by cases h; decide
theorem err_mod (c b : Int) {K : Int → List Int → Int → RestR} (h : ∀ c, ErrP (K c)) : ErrP fun t k => modQ c b t k K :=
  err_cond (err_num1 fun n => err_cond (h n) (err_must (h n))) (err_cond (err_num4 fun n => err_must (h n)) (h 0))
theorem err_sib2 (R c e : Int) {K : PlaceK} (h : ∀ b cc d n, ErrP (K b cc d n)) : ErrP fun t k => sibQ2 R c e t k K :=
  err_cond (err_cond (err_must (err_mod _ _ fun n => h _ _ _ n)) err_22) (err_mod _ _ fun n => h _ _ _ n)
theorem err_sib (R c : Int) {K : PlaceK} (h : ∀ b cc d n, ErrP (K b cc d n)) : ErrP fun t k => sibQ R c t k K :=
  err_nx fun e => err_cond (err_sib2 R c e h) (err_must (err_sib2 R c e h))
theorem err_base (R c : Int) {K : PlaceK} (h : ∀ b cc d n, ErrP (K b cc d n)) : ErrP fun t k => baseQ R c t k K :=
  err_cond (err_sib R c h) (err_must (err_mod _ _ fun n => h _ _ _ n))
theorem err_place (R c : Int) {K : PlaceK} (h : ∀ b cc d n, ErrP (K b cc d n)) : ErrP fun t k => placeQ R c t k K :=
  err_cond (err_cond (err_must (err_num4 fun n => h _ _ _ n)) (err_base R c h)) (err_base R c h)
theorem err_form (f R : Int) (x : RowT) (op : List Int) (c d : Int) : ErrP fun t k => formQ f R x op c t k d := by
  unfold formQ lastQ
  refine err_cond (err_fin x _) (err_cond (err_fin x _) (err_cond (err_num8 fun n => err_fin x _) (err_cond (err_fin x _) (err_cond (err_num4 fun n => err_fin x _) (err_cond (err_num1 fun n => err_fin x _)
    (err_cond (err_cond (err_num1 fun n => err_fin x _) (err_num4 fun n => err_must (err_fin x _))) (err_cond (err_fin x _) (err_cond (err_fin x _) (err_cond (err_place R c fun b cc d n => err_fin x _)
    (err_cond (err_nx fun e => err_must (err_num4 fun n => err_fin x _)) (err_cond (err_num4 fun n => err_fin x _) (err_num1 fun n => err_fin x _))))))))))))
theorem err_rest (R : Int) (x : RowT) (op : List Int) (c : Int) : ErrP fun t k => restQ R x op c t k := by
  unfold restQ lastQ
  exact err_cond (err_form _ R x op c _) (err_form _ R x op c 0)
theorem err_opc {l : List Int} {e : Int} {s : Int × Bool × Int × Bool} (h : opcP l = .error (e, s)) : e ≠ 0 := by
  cases l with
  | nil => cases h; decide
  | cons c t =>
    unfold opcP opc0 at h
    simp only at h
    cases h0 : (c == 100)
    · rw [h0, cond_false] at h
      cases h4 : (sh4 c == 4)
      · rw [h4, cond_false] at h
        cases h15 : (c != 15)
        · rw [h15, cond_false] at h
          cases t with
          | nil => cases h; decide
          | cons d t => cases h
        · rw [h15] at h; cases h
      · rw [h4, cond_true] at h
        cases t with
        | nil => cases h; decide
        | cons d t =>
          simp only at h
          unfold opc2 at h
          cases h15 : (d != 15)
          · rw [h15, cond_false] at h
            cases h8 : (!(and8 (and8 c 15) 8 != 0))
            · rw [h8, cond_false] at h
              cases t with
              | nil => cases h; decide
              | cons e t => cases h
            · rw [h8, cond_true] at h; cases h; decide
          · rw [h15] at h; cases h
    · rw [h0, cond_true] at h
      cases t with
      | nil => cases h; decide
      | cons d t =>
        simp only at h
        unfold opc1 at h
        cases h48 : (!(and8 d 251 == 72))
        · rw [h48, cond_false] at h
          cases h4 : (sh4 d == 4)
          · rw [h4, cond_false] at h
            cases h15 : (d != 15)
            · rw [h15, cond_false] at h; cases h; decide
            · rw [h15] at h; cases h
          · rw [h4, cond_true] at h
            cases t with
            | nil => cases h; decide
            | cons e t =>
              simp only at h
              cases h15 : (e != 15)
              · rw [h15, cond_false] at h; cases h; decide
              · rw [h15] at h; cases h
        · rw [h48, cond_true] at h; cases h; decide
theorem plain_err {r : RestR} {e : Int} (h : plainR r = .error e) : ∃ m, r = .error (e, m) := by
  cases r with
  | ok p => cases h
  | error q =>
    refine ⟨q.2, ?_⟩
    rw [← Except.error.inj h]
theorem dec_no0 (l : List Int) : decQ l ≠ .error 0 := by
  intro h
  unfold decQ at h
  cases ho : opcP l with
  | error p =>
    obtain ⟨e, s⟩ := p
    rw [ho] at h
    exact err_opc ho (Except.error.inj h)
  | ok p =>
    obtain ⟨op, k, fs, R, has⟩ := p
    rw [ho] at h
    simp only at h
    cases hc : cands R op fs has with
    | nil => rw [hc] at h; exact absurd (Except.error.inj h) (by decide)
    | cons r0 G =>
      rw [hc] at h
      simp only at h
      cases hm : modOf (formR r0)
      · rw [hm, cond_false] at h
        obtain ⟨m, h⟩ := plain_err h
        exact err_rest R r0 op 0 _ _ _ _ h rfl
      · rw [hm, cond_true] at h
        cases hd : l.drop k.toNat with
        | nil => rw [hd] at h; exact absurd (Except.error.inj h) (by decide)
        | cons c t =>
          rw [hd] at h
          unfold decC at h
          simp only at h
          cases hx : (r0 :: G).find? (fitC c) with
          | none => rw [hx] at h; exact absurd (Except.error.inj h) (by decide)
          | some x =>
            rw [hx] at h
            obtain ⟨m, h⟩ := plain_err h
            exact err_rest R x op c _ _ _ _ h rfl

theorem dec_fine {l : List Int} {at_ : Int} (hb : AllB l) (h : (dE l at_ != 0) = false) :
    0 ≤ at_ ∧ 0 ≤ dN l at_ ∧ at_ + dN l at_ ≤ l.length ∧ encE (dI l at_) = 0 ∧ encL (dI l at_) = sub l at_.toNat (at_ + dN l at_).toNat := by
  have h := bne_tt h
  unfold dE at h
  unfold dI dN
  cases ho : outOf l at_
  · rw [ho, cond_false] at h
    rw [cond_false, cond_false]
    have g : 0 ≤ at_ ∧ at_ ≤ l.length := by
      simp only [outOf, Bool.or_eq_false_iff, decide_eq_false_iff_not] at ho
      omega
    cases hd : decQ (l.drop at_.toNat) with
    | ok p =>
      obtain ⟨i, n⟩ := p
      obtain ⟨e1, e2, e3, e4⟩ := enc_dec (fun c hc => hb c (List.mem_of_mem_drop hc)) hd
      rw [List.length_drop] at e4
      refine ⟨g.1, e3, by show at_ + n ≤ _; omega, e1, ?_⟩
      show encL i = sub l at_.toNat (at_ + n).toNat
      rw [e2]
      unfold sub
      rw [List.drop_take]
      congr 1
      omega
    | error e =>
      rw [hd] at h
      have h : e = 0 := h
      rw [h] at hd
      exact absurd hd (dec_no0 _)
  · rw [ho, cond_true] at h; cases h

section
variable {i : InsT} {p s : List Int}
theorem back_dec (h : encE i = 0) : dE (p ++ encL i ++ s) p.length = 0 ∧ dI (p ++ encL i ++ s) p.length = i ∧ dN (p ++ encL i ++ s) p.length = (encL i).length := by
  have ho : outOf (p ++ encL i ++ s) p.length = false := by
    simp only [outOf, Bool.or_eq_false_iff, decide_eq_false_iff_not, List.length_append]
    omega
  have hd : (p ++ encL i ++ s).drop ((p.length : Int)).toNat = encL i ++ s := by
    rw [Int.toNat_natCast, List.append_assoc, List.drop_left]
  unfold dE dI dN
  rw [ho, hd, dec_enc h s]
  exact ⟨rfl, rfl, rfl⟩
theorem back_cut (h : encE i = 0) {k : Nat} (hk : k < (encL i).length) : dE (sub (p ++ encL i ++ s) 0 (p.length + k)) p.length = 2 := by
  have e : sub (p ++ encL i ++ s) 0 (p.length + k) = p ++ (encL i).take k := by
    unfold sub
    rw [List.drop_zero, List.append_assoc, List.take_length_add_append, List.take_append_of_le_length (by omega)]
  have ho : outOf (p ++ (encL i).take k) p.length = false := by
    simp only [outOf, Bool.or_eq_false_iff, decide_eq_false_iff_not, List.length_append]
    omega
  have hd : (p ++ (encL i).take k).drop ((p.length : Int)).toNat = (encL i).take k := by
    rw [Int.toNat_natCast, List.drop_left]
  have hdec := dec_enc h []
  rw [List.append_nil] at hdec
  have hs := (dec_short (enc_bytes h).1 hdec).2.2 k (by omega)
  unfold dE
  rw [e, ho, hd, hs]
  rfl
end

end Go.Amd
