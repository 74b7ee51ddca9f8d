/-
  The document's Of: its loops walked. Conditions: none.
-/
import Derived.Test.YtmbbnhcbphkniaaGreatDoorPk27
set_option linter.unusedVariables false
set_option linter.unusedSimpArgs false
namespace Go.Rk
open Go Go.Ab Go.Proofs Go.Ra Go.Wd
theorem lowF_nat {e : Nat} (he : e ∈ eL) : lowF (e : Int) = ((onesN e : Nat) : Int) := by
  simp only [eL, List.mem_cons, List.not_mem_nil, or_false] at he
  rcases he with rfl | rfl | rfl | rfl | rfl | rfl <;> rfl
theorem wrapU_nat {e : Nat} (he : e < 2 ^ 63) : IntKind.wrap IntKind.u64 (e : Int) = (e : Int) := by
  rw [wrap_u64]; omega
theorem turnF_nat {x e : Nat} (he : e ∈ eL) (hx : x < 2 ^ 64) : turnF (x : Int) (e : Int) = ((turnX x e : Nat) : Int) := by
  obtain ⟨e2, e64⟩ := eL_cases he
  unfold turnF turnX
  rw [lowF_nat he, wrap_i64 (n := (e : Int) - 1) (by omega) (by omega), show (e : Int) - 1 = ((e - 1 : Nat) : Int) from by omega, wrapU_nat (by omega), Int.toNat_natCast,
    Nat.min_eq_left (by omega), shr_cast]
  have e1 : IntKind.wrap .u64 ((x : Int) * 2 ^ 1) = (((x <<< 1) % 2 ^ 64 : Nat) : Int) := by
    rw [wrap_u64, Nat.shiftLeft_eq]; omega
  have q1 : x >>> (e - 1) < 2 ^ 64 := by rw [Nat.shiftRight_eq_div_pow]; exact Nat.lt_of_le_of_lt (Nat.div_le_self _ _) hx
  have q2 : (x <<< 1) % 2 ^ 64 < 2 ^ 64 := Nat.mod_lt _ (by decide)
  rw [e1, or64_cast q2 q1, and64_cast (Nat.or_lt_two_pow q2 q1) (onesN_lt _)]
theorem turnK_64 {e x : Nat} (he : e ∈ eL) (hx : x < 2 ^ e) (r : Nat) : turnK e r x < 2 ^ 64 := by
  obtain ⟨e2, e64⟩ := eL_cases he
  exact Nat.lt_of_lt_of_le (turnK_lt e64 r x hx) (Nat.pow_le_pow_right (by omega) e64)
theorem lowX_lt {m e : Nat} (he : e ∈ eL) : lowX m e < 2 ^ e := by
  have hp := Nat.two_pow_pos e
  unfold lowX
  rw [onesN_eq (eL_cases he).2]
  exact Nat.and_lt_two_pow _ (by omega)
theorem cxXOf_ok : CxOk cx86 := cx1_ok (.cons highS_ok (ok1 turnS_ok)) (.nil _) rfl rfl
theorem onesI {o : Nat} (h : o ≤ 63) : IntKind.wrap IntKind.u64 (IntKind.wrap IntKind.u64 (1 * 2 ^ Min.min (Int.toNat (IntKind.wrap IntKind.u64 (o : Int))) 64) - 1) = ((onesN o : Nat) : Int) := by
  rw [wrapU_nat (by omega), Int.toNat_natCast, ← onesF_nat]
  unfold onesF
  rw [decide_eq_false (by omega), cond_false, Int.toNat_natCast]
abbrev aE (e : Nat) : Nat × V := (6, .int .i64 (e : Int))
abbrev aX (x : Nat) : Nat × V := (8, .int .u64 (x : Int))
abbrev aR (r : Nat) : Nat × V := (11, .int .i64 (r : Int))
def oSt (x e r : Nat) (o : { o : Nat // 1 ≤ o ∧ o ≤ e ∧ ∀ i, i < o → oP x i = false }) : T × List O := ([aE e, aX x, aR r, (12, .int .i64 (o.1 : Int))], [])
theorem AWP_pre {P : Program} {n : Nat} {cx : Cx} {x a l r : Code} {Q : AEx → T → List O → Prop} {t : T} {H : List O} (hP : cx.P = P) (hn : cx.n = n) (hT : CxOk cx)
    (h : (dcode cx (.seq x a) t H).all (fun s => seqQ (AWP P n l (seqQ (AWP P n r Q) Q)) Q s.1 s.2.1 s.2.2)) : AWP P n (.seq x (.seq (.seq a l) r)) Q t H := by
  refine AWP_seq (AWP_code hP hn hT _ _ _ _ ?_)
  have h := Tree.all_bind (h : ((dcode cx x t H).bind (dseq (dcode cx a))).all _)
  refine Tree.all_mono h ?_
  rintro ⟨e, t', H'⟩ hq
  cases e with
  | normal =>
    refine AWP_seq (AWP_seq (AWP_code hP hn hT _ _ _ _ (Tree.all_mono hq ?_)))
    rintro ⟨e, t', H'⟩ hq
    cases e <;> exact hq
  | exit id => exact hq
  | ret => exact hq
  | panic v => exact hq
theorem dec_u {n : Nat} : decide (0 ≤ IntKind.wrap IntKind.u64 (n : Int)) = true := wrap64_nonneg _
theorem o_loop {x e r : Nat} (he : e ∈ eL) {Q : AEx → T → List O → Prop}
    (hs : ∀ o t, oF x e = some o → get 2 t = .int .i64 (cond (Nat.beq e 64) 1 0) → get 3 t = .int .i64 (r : Int) → get 4 t = .int .i64 (imsX e o) → get 5 t = .bool true → Q .ret t [])
    (hn : ∀ t, oF x e = none → get 6 t = .int .i64 (e : Int) → get 8 t = .int .u64 (x : Int) → get 11 t = .int .i64 (r : Int) → Q .normal t []) :
    AWP Tryz.prog 73 (.block 6 (.loop OL)) Q [aE e, aX x, aR r, (12, .int .i64 1)] [] := by
  obtain ⟨e2, e64⟩ := eL_cases he
  refine AWP_block ?_
  have z : ∀ i, i < 1 → oP x i = false := by
    intro i hi
    have : i = 0 := by omega
    rw [this]; rfl
  refine AWP_rounds (cx := cx86) (P := Tryz.prog) (n := 73) rfl rfl cxXOf_ok (oSt x e r) (fun o => e - o.1) ?_ ⟨1, by omega, by omega, z⟩
  rintro ⟨o, o1, oe, hno⟩
  refine Tree.all_run_eq (xOL_eq e x r o) ?_
  refine ⟨fun hlt => all_t dec_u ⟨fun hp => ?_, fun hp => ?_⟩, fun hge => ?_⟩
  · have hlt : (o : Int) < (e : Int) := of_decide_eq_true hlt
    rw [onesI (by omega)] at hp
    have hp : x = onesN o := by have := eq_of_beq hp; omega
    have hf : oF x e = some o := by
      unfold oF
      rw [List.find?_range_eq_some]
      refine ⟨?_, List.mem_range.2 (by omega), fun j hj => by rw [hno j hj]; rfl⟩
      unfold oP
      rw [blt_true (by omega), hp, Nat.beq_refl]
      rfl
    refine ⟨fun h64 => ?_, fun h64 => ?_⟩
    · have h64 : Nat.beq e 64 = true := by
        have := eq_of_beq h64
        rw [show e = 64 by omega]; rfl
      refine ⟨[], _, rfl, ?_⟩
      refine hs o _ hf ?_ rfl rfl rfl
      rw [h64]; rfl
    · have h64 : Nat.beq e 64 = false := by
        cases hb : Nat.beq e 64
        · rfl
        · have := Nat.eq_of_beq_eq_true hb
          rw [this] at h64
          cases h64
      refine ⟨[], _, rfl, ?_⟩
      refine hs o _ hf ?_ rfl rfl rfl
      rw [h64]; rfl
  · have hlt : (o : Int) < (e : Int) := of_decide_eq_true hlt
    rw [onesI (by omega)] at hp
    have hp : x ≠ onesN o := by intro h; rw [h] at hp; simp at hp
    refine ⟨[], _, rfl, ⟨o + 1, by omega, by omega, fun i hi => ?_⟩, by show e - (o + 1) < e - o; omega, Fits.tle ⟨rfl, rfl, rfl, ?_, trivial⟩, rfl⟩
    · by_cases h : i < o
      · exact hno i h
      · have : i = o := by omega
        rw [this]
        unfold oP
        cases hb : Nat.beq x (onesN o)
        · exact Bool.and_false _
        · exact absurd (Nat.eq_of_beq_eq_true hb) hp
    · show V.int .i64 (IntKind.wrap .i64 ((o : Int) + 1)) = V.int .i64 ((o + 1 : Nat) : Int)
      rw [wrap_i64 (by omega) (by omega)]
      rfl
  · have hge : ¬ (o : Int) < (e : Int) := of_decide_eq_false hge
    have hf : oF x e = none := by
      unfold oF
      rw [List.find?_range_eq_none]
      intro i hi
      rw [hno i (by omega)]
      rfl
    exact ⟨[], _, rfl, hn _ hf rfl rfl rfl⟩
def rSt (x e : Nat) (r : { r : Nat // r ≤ e ∧ ∀ i, i < r → oF (turnK e i x) e = none }) : T × List O := ([aE e, aX (turnK e r.1 x), aR r.1], [])
theorem r_loop {x e : Nat} (he : e ∈ eL) (hx : x < 2 ^ e) {Q : AEx → T → List O → Prop}
    (hs : ∀ r o t, r < e → (∀ i, i < r → oF (turnK e i x) e = none) → oF (turnK e r x) e = some o → get 2 t = .int .i64 (cond (Nat.beq e 64) 1 0) → get 3 t = .int .i64 (r : Int) → get 4 t = .int .i64 (imsX e o) → get 5 t = .bool true → Q .ret t [])
    (hn : ∀ t, (∀ i, i < e → oF (turnK e i x) e = none) → Q .normal t []) :
    AWP Tryz.prog 73 (.block 4 (.loop RL)) Q [aE e, aX x, aR 0] [] := by
  obtain ⟨e2, e64⟩ := eL_cases he
  refine AWP_block ?_
  refine AWP_loop (P := Tryz.prog) (n := 73) (rSt x e) (fun r => e - r.1) ?_ ⟨0, by omega, fun i h => absurd h (Nat.not_lt_zero i)⟩
  rintro ⟨r, hr, hno⟩
  have er : RL = .seq (c1 RL) (.seq (.block 5 RB) (c2 (c2 RL))) := by kernel_rfl
  have eb : RB = .seq (.seq (c1 (c1 RB)) (.block 6 (.loop OL))) (c2 RB) := by kernel_rfl
  rw [er]
  refine AWP_seq (AWP_code (cx := cx86) rfl rfl cxXOf_ok _ _ _ _ (Tree.all_run_eq (xRH_eq e (turnK e r x : Nat) r) ?_))
  refine ⟨fun hlt => ?_, fun hge => ?_⟩
  · have hlt : (r : Int) < (e : Int) := of_decide_eq_true hlt
    show AWP _ _ _ _ _ _
    refine AWP_seq (AWP_block ?_)
    rw [eb]
    refine AWP_seq (AWP_seq ?_)
    refine AWP.less (s := [aE e, aX (turnK e r x), aR r]) (Fits.tle ⟨rfl, rfl, rfl, trivial⟩) ?_
    refine AWP_run (cx := cx86) rfl rfl cxXOf_ok (xO0_eq e (turnK e r x : Nat) r) ?_
    show AWP _ _ _ _ _ _
    refine o_loop he (fun o t hf g2 g3 g4 g5 => ?_) (fun t hf g6 g8 g11 => ?_)
    · exact hs r o t (by omega) hno hf g2 g3 g4 g5
    · show AWP _ _ _ _ _ _
      refine AWP.less (s := [aE e, aX (turnK e r x), aR r]) (Fits.tle ⟨g6, g8, g11, trivial⟩) ?_
      refine AWP_run (cx := cx86) rfl rfl cxXOf_ok (xRT_eq e (turnK e r x : Nat) r) ?_
      show AWP _ _ _ _ _ _
      refine AWP.less (s := [aE e, aX (turnK e (r + 1) x), aR r]) (Fits.tle ⟨rfl, ?_, rfl, trivial⟩) ?_
      · exact congrArg (V.int .u64) (turnF_nat he (turnK_64 he hx r))
      refine AWP_run (cx := cx86) rfl rfl cxXOf_ok (xRN_eq e (turnK e (r + 1) x : Nat) r) ?_
      refine ⟨⟨r + 1, by omega, fun i hi => ?_⟩, by show e - (r + 1) < e - r; omega, Fits.tle ⟨rfl, rfl, ?_, trivial⟩, rfl⟩
      · by_cases h : i < r
        · exact hno i h
        · have : i = r := by omega
          rw [this]; exact hf
      · show V.int .i64 (IntKind.wrap .i64 ((r : Int) + 1)) = V.int .i64 ((r + 1 : Nat) : Int)
        rw [wrap_i64 (by omega) (by omega)]
        rfl
  · have hge : ¬ (r : Int) < (e : Int) := of_decide_eq_false hge
    exact hn _ (fun i hi => hno i (by omega))
abbrev aM (m : Nat) : Nat × V := (0, .int .u64 (m : Int))
def kSt (m e : Nat) (i : { i : Nat // i ≤ 64 / e }) : T × List O :=
  ([aM m, aE e, (7, .int .u64 (onesN e : Int)), aX (lowX m e), (9, .bool ((List.range i.1).all (agI m e))), (10, .int .i64 ((i.1 * e : Nat) : Int))], [])
theorem eL_div {e : Nat} (he : e ∈ eL) : 64 / e * e = 64 := by
  simp only [eL, List.mem_cons, List.not_mem_nil, or_false] at he
  rcases he with rfl | rfl | rfl | rfl | rfl | rfl <;> rfl
theorem k_loop {m e : Nat} (he : e ∈ eL) (hm : m < 2 ^ 64) {Q : AEx → T → List O → Prop}
    (hq : ∀ t, get 0 t = .int .u64 (m : Int) → get 6 t = .int .i64 (e : Int) → get 8 t = .int .u64 (lowX m e : Int) → get 9 t = .bool (agN m e) → Q .normal t []) :
    AWP Tryz.prog 73 (.block 2 (.loop KL)) Q [aM m, aE e, (7, .int .u64 (onesN e : Int)), aX (lowX m e), (9, .bool true), (10, .int .i64 0)] [] := by
  obtain ⟨e2, e64⟩ := eL_cases he
  have hd := eL_div he
  refine AWP_block ?_
  refine AWP.less (s := (kSt m e ⟨0, Nat.zero_le _⟩).1) (Fits.tle ⟨rfl, rfl, rfl, rfl, rfl, by rw [Nat.zero_mul]; rfl, trivial⟩) ?_
  refine AWP_rounds (cx := cx86) (P := Tryz.prog) (n := 73) rfl rfl cxXOf_ok (kSt m e) (fun i => 64 / e - i.1) ?_ ⟨0, Nat.zero_le _⟩
  rintro ⟨i, hi⟩
  refine Tree.all_run_eq (xKL_eq m e (onesN e : Nat) (lowX m e : Nat) (i * e : Nat) ((List.range i).all (agI m e))) ?_
  have lt_of : ((i * e : Nat) : Int) < 64 → i < 64 / e := by
    intro h
    refine Nat.lt_of_not_le fun h' => ?_
    have := Nat.mul_le_mul_right e h'
    omega
  have nx : i < 64 / e → IntKind.wrap .i64 (((i * e : Nat) : Int) + (e : Int)) = (((i + 1) * e : Nat) : Int) := by
    intro h
    have := Nat.mul_le_mul_right e (show i + 1 ≤ 64 / e from h)
    rw [Nat.add_mul] at this ⊢
    rw [wrap_i64 (by omega) (by omega)]
    omega
  refine ⟨fun hlt => ⟨fun hb => all_t (wrap64_nonneg _) ?_, fun hb => ?_⟩, fun hge => ?_⟩
  · have hlt := lt_of (of_decide_eq_true hlt)
    have hk : i * e < 64 := by have := Nat.mul_le_mul_right e (show i + 1 ≤ 64 / e from hlt); rw [Nat.add_mul] at this; omega
    refine ⟨[], _, rfl, ⟨i + 1, hlt⟩, by show 64 / e - (i + 1) < 64 / e - i; omega, Fits.tle ⟨rfl, rfl, rfl, rfl, ?_, ?_, trivial⟩, rfl⟩
    · refine congrArg V.bool ?_
      rw [wrapU_nat (e := i * e) (by omega), Int.toNat_natCast, Nat.min_eq_left (by omega), shr_cast]
      have q1 : m >>> (i * e) < 2 ^ 64 := by rw [Nat.shiftRight_eq_div_pow]; exact Nat.lt_of_le_of_lt (Nat.div_le_self _ _) hm
      refine (congrArg (fun z => z == ((lowX m e : Nat) : Int)) (and64_cast q1 (onesN_lt e))).trans ?_
      rw [List.range_succ, List.all_append, hb, Bool.true_and]
      simp only [List.all_cons, List.all_nil, Bool.and_true]
      unfold agI lowX
      cases hbb : Nat.beq (m >>> (i * e) &&& onesN e) (m &&& onesN e)
      · refine beq_eq_false_iff_ne.2 fun h => ?_
        have : m >>> (i * e) &&& onesN e = m &&& onesN e := by omega
        rw [this, Nat.beq_refl] at hbb
        cases hbb
      · rw [Nat.eq_of_beq_eq_true hbb]
        exact beq_self_eq_true _
    · exact congrArg (V.int .i64) (nx hlt)
  · have hlt := lt_of (of_decide_eq_true hlt)
    refine ⟨[], _, rfl, ⟨i + 1, hlt⟩, by show 64 / e - (i + 1) < 64 / e - i; omega, Fits.tle ⟨rfl, rfl, rfl, rfl, ?_, ?_, trivial⟩, rfl⟩
    · refine congrArg V.bool ?_
      rw [List.range_succ, List.all_append, hb, Bool.false_and]
    · exact congrArg (V.int .i64) (nx hlt)
  · have hge : ¬ ((i * e : Nat) : Int) < 64 := of_decide_eq_false hge
    have hie : i = 64 / e := by
      rcases Nat.lt_or_ge i (64 / e) with h | h
      · have := Nat.mul_le_mul_right e (show i + 1 ≤ 64 / e from h)
        rw [Nat.add_mul] at this
        omega
      · omega
    refine ⟨[], _, rfl, ?_⟩
    refine hq _ rfl rfl rfl ?_
    show V.bool _ = V.bool _
    rw [hie]
    rfl
theorem agN_64 {m : Nat} (_hm : m < 2 ^ 64) : agN m 64 = true := by
  show ([0].all (agI m 64)) = true
  unfold agI
  simp only [List.all_cons, List.all_nil, Bool.and_true, Nat.zero_mul, Nat.shiftRight_zero]
  exact Nat.beq_refl _
theorem xE_at {m j : Nat} (hj : j ≤ 5) (hf : ∀ i, i < j → agN m (2 ^ (i + 1)) = false) (h : agN m (2 ^ (j + 1)) = true) : xE m = some (2 ^ (j + 1)) := by
  have f : ∀ i, i < j → agN m (2 ^ (i + 1)) = false := hf
  unfold xE eL
  have g0 : 0 < j → agN m 2 = false := fun h => f 0 h
  have g1 : 1 < j → agN m 4 = false := fun h => f 1 h
  have g2 : 2 < j → agN m 8 = false := fun h => f 2 h
  have g3 : 3 < j → agN m 16 = false := fun h => f 3 h
  have g4 : 4 < j → agN m 32 = false := fun h => f 4 h
  match j, hj with
  | 0, _ => simp [show agN m 2 = true from h]
  | 1, _ => simp [show agN m 4 = true from h, g0 (by omega)]
  | 2, _ => simp [show agN m 8 = true from h, g0 (by omega), g1 (by omega)]
  | 3, _ => simp [show agN m 16 = true from h, g0 (by omega), g1 (by omega), g2 (by omega)]
  | 4, _ => simp [show agN m 32 = true from h, g0 (by omega), g1 (by omega), g2 (by omega), g3 (by omega)]
  | 5, _ => simp [show agN m 64 = true from h, g0 (by omega), g1 (by omega), g2 (by omega), g3 (by omega), g4 (by omega)]
theorem pow_eL {j : Nat} (hj : j ≤ 5) : 2 ^ (j + 1) ∈ eL := by
  match j, hj with
  | 0, _ => decide
  | 1, _ => decide
  | 2, _ => decide
  | 3, _ => decide
  | 4, _ => decide
  | 5, _ => decide
def eSt (m : Nat) (j : { j : Nat // j ≤ 5 ∧ ∀ i, i < j → agN m (2 ^ (i + 1)) = false }) : T × List O := ([aM m, aE (2 ^ (j.1 + 1))], [])
def xOfQ (m : Nat) (e : AEx) (t : T) (H : List O) : Prop := (e = .ret ∨ e = .normal) ∧ answerV Tryz.prog Tryz.f86.results.toList H t = some (xOfV m)
theorem xans {t : T} {H : List O} {a b c : Int} {d : Bool} (h1 : get 2 t = .int .i64 a) (h2 : get 3 t = .int .i64 b) (h3 : get 4 t = .int .i64 c) (h4 : get 5 t = .bool d) :
    answerV Tryz.prog Tryz.f86.results.toList H t = some (.tup [.int .i64 a, .int .i64 b, .int .i64 c, .bool d]) := by
  unfold answerV
  rw [show Tryz.f86.results.toList = [.tmp 2, .tmp 3, .tmp 4, .tmp 5] from by kernel_rfl]
  simp [resV, h1, h2, h3, h4, V.pures?, V.pure?]
theorem bo_ok {m e : Nat} (he : e ∈ eL) (hm : m < 2 ^ 64) {Q : AEx → T → List O → Prop}
    (hs : ∀ t v, agN m e = true → (xE m = some e → xOfV m = v) → answerV Tryz.prog Tryz.f86.results.toList [] t = some v → Q .ret t [])
    (hn : ∀ t, agN m e = false → get 0 t = .int .u64 (m : Int) → get 6 t = .int .i64 (e : Int) → Q (.exit 1) t []) :
    AWP Tryz.prog 73 BO Q [aM m, aE e] [] := by
  obtain ⟨e2, e64⟩ := eL_cases he
  have hx := lowX_lt (m := m) he
  have eb : tailN 3 BO = .seq (.seq (c1 (c1 (tailN 3 BO))) (.block 2 (.loop KL))) (tailN 4 BO) := by kernel_rfl
  have ec : tailN 4 BO = .seq (c1 (tailN 4 BO)) (.seq (.seq (c1 (c1 (tailN 5 BO))) (.block 4 (.loop RL))) (tailN 6 BO)) := by kernel_rfl
  have main : AWP Tryz.prog 73 (tailN 3 BO) Q [aM m, aE e, (7, .int .u64 (onesN e : Int)), aX (lowX m e), (9, .bool true)] [] := by
    rw [eb]
    refine AWP_seq (AWP_seq (AWP_run (cx := cx86) rfl rfl cxXOf_ok (xK0_eq m e (onesN e : Nat) (lowX m e : Nat) true) ?_))
    show AWP _ _ _ _ _ _
    refine k_loop he hm (fun t g0 g6 g8 g9 => ?_)
    show AWP _ _ _ _ _ _
    rw [ec]
    refine AWP.less (s := [aM m, aE e, aX (lowX m e), (9, .bool (agN m e))]) (Fits.tle ⟨g0, g6, g8, g9, trivial⟩) ?_
    refine AWP_seq (AWP_code (cx := cx86) rfl rfl cxXOf_ok _ _ _ _ (Tree.all_run_eq (xAg_eq m e (lowX m e : Nat) (agN m e)) ?_))
    refine ⟨fun hb => ?_, fun hb => ?_⟩
    · exact hn _ (by simpa using hb) rfl rfl
    · have hag : agN m e = true := by simpa using hb
      show AWP _ _ _ _ _ _
      refine AWP_seq (AWP_seq ?_)
      refine AWP.less (s := [aE e, aX (lowX m e)]) (Fits.tle ⟨rfl, rfl, trivial⟩) ?_
      refine AWP_run (cx := cx86) rfl rfl cxXOf_ok (xR0_eq e (lowX m e : Nat)) ?_
      show AWP _ _ _ _ _ _
      refine r_loop he hx (fun r o t hr hno hf g2 g3 g4 g5 => ?_) (fun t hno => ?_)
      · refine hs t _ hag (fun hE => ?_) (xans g2 g3 g4 g5)
        have hR : rF m e = some r := by
          unfold rF
          rw [List.find?_range_eq_some]
          exact ⟨by rw [hf]; rfl, List.mem_range.2 hr, fun j hj => by rw [hno j hj]; rfl⟩
        unfold xOfV xOf
        rw [hE, Option.bind_some, hR, Option.bind_some, hf]
        rfl
      · show AWP _ _ _ _ _ _
        refine AWP.less (s := []) (Fits.tle trivial) ?_
        refine AWP_run (cx := cx86) rfl rfl cxXOf_ok xRE_eq ?_
        refine hs _ _ hag (fun hE => ?_) (xans rfl rfl rfl rfl)
        have hR : rF m e = none := by
          unfold rF
          rw [List.find?_range_eq_none]
          intro i hi
          rw [hno i hi]
          rfl
        unfold xOfV xOf
        rw [hE, Option.bind_some, hR]
        rfl
  refine AWP_headE (cx := cx86) rfl rfl cxXOf_ok 3 (by kernel_rfl) (xLow_eq m e) ?_
  refine all_t (wrap64_nonneg _) ⟨fun h64 => ?_, fun h64 => ?_⟩
  · have h64 : e = 64 := by have := eq_of_beq h64; omega
    show AWP _ _ _ _ _ _
    refine AWP.less (s := [aM m, aE e, (7, .int .u64 (onesN e : Int)), aX (lowX m e), (9, .bool true)]) (Fits.tle ⟨rfl, rfl, ?_, ?_, rfl, trivial⟩) main
    · rw [h64]; rfl
    · refine (congrArg (V.int .u64) (and64_cast hm (show 18446744073709551615 < 2 ^ 64 by decide))).trans ?_
      rw [h64]; rfl
  · have h64 : e ≤ 63 := by
      have : ¬ e = 64 := by intro h; rw [h] at h64; cases h64
      omega
    show AWP _ _ _ _ _ _
    refine AWP.less (s := [aM m, aE e, (7, .int .u64 (onesN e : Int)), aX (lowX m e), (9, .bool true)]) (Fits.tle ⟨rfl, rfl, ?_, ?_, rfl, trivial⟩) main
    · exact congrArg (V.int .u64) (onesI h64)
    · show V.int .u64 (IntKind.wrap IntKind.u64 ↑(BitVec.toNat (BitVec.ofInt 64 (m : Int) &&& BitVec.ofInt 64 _))) = _
      rw [onesI h64]
      exact congrArg (V.int .u64) (and64_cast hm (onesN_lt e))
theorem xof_ok {m : Nat} (hm : m < 2 ^ 64) : PCall Tryz.prog 86 [.int .u64 (m : Int)] (xOfV m) := by
  refine pcall_of' (c := bodyOf Tryz.f86) (fn := Tryz.f86) (by kernel_rfl) (by kernel_rfl) (by kernel_rfl) (by kernel_rfl) ?_
  show AWP Tryz.prog _ DB (xOfQ m) _ _
  have e0 : DB = .seq (c1 DB) (.seq (.seq (c1 (c1 (tailN 0 DB))) (.block 0 (.loop L0))) (tailN 1 DB)) := by kernel_rfl
  have e1 : L0 = .seq (c1 L0) (.seq (.block 1 BO) (c2 (c2 L0))) := by kernel_rfl
  rw [e0]
  refine AWP_pre (cx := cx86) rfl rfl cxXOf_ok (Tree.all_run_eq (xPre_eq m) ?_)
  show AWP _ _ _ _ _ _
  refine AWP_block ?_
  refine AWP.less (s := (eSt m ⟨0, by omega, fun i h => absurd h (Nat.not_lt_zero i)⟩).1) (Fits.tle ⟨rfl, rfl, trivial⟩) ?_
  refine AWP_loop (P := Tryz.prog) (n := 73) (eSt m) (fun j => 5 - j.1) ?_ ⟨0, by omega, fun i h => absurd h (Nat.not_lt_zero i)⟩
  rintro ⟨j, hj, hf⟩
  obtain ⟨p1, p2, p3, p4⟩ := pow_le5 hj
  have he := pow_eL hj
  rw [e1]
  refine AWP_seq (AWP_code (cx := cx86) rfl rfl cxXOf_ok _ _ _ _ (Tree.all_run_eq (xHead_eq m (2 ^ (j + 1) : Nat)) (all_t (decide_eq_true (by omega)) ?_)))
  show AWP _ _ _ _ _ _
  refine AWP_seq (AWP_block ?_)
  refine AWP.less (s := [aM m, aE (2 ^ (j + 1))]) (Fits.tle ⟨rfl, rfl, trivial⟩) ?_
  refine bo_ok he hm (fun t v hag hv ha => ?_) (fun t hag g0 g6 => ?_)
  · refine ⟨.inl rfl, ?_⟩
    rw [hv (xE_at hj hf hag)]
    exact ha
  · show AWP _ _ _ _ _ _
    refine AWP.less (s := [aM m, aE (2 ^ (j + 1))]) (Fits.tle ⟨g0, g6, trivial⟩) ?_
    refine AWP_run (cx := cx86) rfl rfl cxXOf_ok (xNext_eq m (2 ^ (j + 1) : Nat)) ?_
    have hj5 : j < 5 := by
      by_cases h : j = 5
      · rw [h, show 2 ^ (5 + 1) = 64 from rfl, agN_64 hm] at hag
        cases hag
      · omega
    have := p3 hj5
    refine ⟨⟨j + 1, by omega, fun i hi => ?_⟩, by show 5 - (j + 1) < 5 - j; omega, Fits.tle ⟨rfl, ?_, trivial⟩, rfl⟩
    · by_cases h : i < j
      · exact hf i h
      · have : i = j := by omega
        rw [this]; exact hag
    · show V.int .i64 (IntKind.wrap .i64 (2 * ((2 ^ (j + 1) : Nat) : Int))) = V.int .i64 ((2 ^ (j + 1 + 1) : Nat) : Int)
      rw [wrap_i64 (by omega) (by omega), Nat.pow_succ 2 (j + 1)]
      refine congrArg (V.int .i64) ?_
      omega
def xofS : Ab.Spec := fun args => match args with
  | [.int .u64 m] => .req (decide (0 ≤ m) && decide (m < 18446744073709551616)) (.leaf (.tup [.int .i64 (ofVN m.toNat), .int .i64 (ofVR m.toNat), .int .i64 (ofVS m.toNat), .bool (ofOk m.toNat)]))
  | _ => .fail
theorem xofS_ok : Sound Tryz.prog 86 xofS := by
  intro args out h
  unfold xofS at h
  split at h
  rotate_left
  · cases h
  rename_i m
  obtain ⟨h1, h⟩ := req_run h
  have h := leaf_out h
  subst h
  simp only [Bool.and_eq_true, decide_eq_true_eq] at h1
  obtain ⟨m, rfl⟩ := Int.eq_ofNat_of_zero_le h1.1
  have hm : m < 2 ^ 64 := by omega
  have := xof_ok hm
  rw [xOfV_eq hm] at this
  exact this
end Go.Rk
