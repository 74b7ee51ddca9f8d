/-
  runamd: rows alike: shifts, products, quotients, the stack, jumps. Conditions: none.
-/
import Derived.Test.YtbefgnmdliefjaaGreatDoorPk17
import Derived.Test.YtbefgnmdliefjaaGreatDoorPk15
import Derived.Test.YtbefgnmdliefjaaGreatDoorPk11
set_option linter.unusedVariables false
set_option linter.unusedSimpArgs false
namespace Go.Ra
open Go Go.Ab Go.Proofs Go.Amd
theorem mulHi_rng {x y : Int} (hx : rng64 x = true) (hy : rng64 y = true) : rng64 (mulHi x y) = true := by
  obtain ⟨x0, x1⟩ := rng_spec hx
  obtain ⟨y0, y1⟩ := rng_spec hy
  refine rng_of (Int.ediv_nonneg (Int.mul_nonneg x0 y0) (by decide)) ?_
  refine (Int.ediv_lt_iff_lt_mul (by decide)).2 ?_
  have a := Int.mul_le_mul_of_nonneg_right (show x ≤ 18446744073709551615 by omega) y0
  have b := Int.mul_le_mul_of_nonneg_left (show y ≤ 18446744073709551615 by omega) (show (0 : Int) ≤ 18446744073709551615 by decide)
  omega
theorem dq_rng {h l y : Int} (hh : rng64 h = true) (hl : rng64 l = true) (hy : rng64 y = true) (hlt : h < y) : rng64 (dq128 h l y) = true ∧ rng64 (dr128 h l y) = true := by
  obtain ⟨h0, h1⟩ := rng_spec hh
  obtain ⟨l0, l1⟩ := rng_spec hl
  obtain ⟨y0, y1⟩ := rng_spec hy
  unfold dq128 dr128
  constructor
  · refine rng_of (Int.ediv_nonneg (by omega) y0) ((Int.ediv_lt_iff_lt_mul (by omega)).2 ?_)
    have := Int.mul_le_mul_of_nonneg_right (show h + 1 ≤ y by omega) (show (0 : Int) ≤ 18446744073709551616 by decide)
    rw [Int.mul_comm 18446744073709551616 y]
    omega
  · have := Int.emod_lt_of_pos (h * 18446744073709551616 + l) (show 0 < y by omega)
    exact rng_of (Int.emod_nonneg _ (by omega)) (by omega)
def WdOk (wd : Int → Int → Int × Int) : Prop := ∀ x y, rng64 x = true → rng64 y = true → (wd x y).1 = mulHi x y ∧ (wd x y).2 = wu (x * y)
def LgOk (lg : Int → Int → Int → Int × Int) : Prop := ∀ h l y, rng64 h = true → rng64 l = true → rng64 y = true → h < y → (lg h l y).1 = dq128 h l y ∧ (lg h l y).2 = dr128 h l y
theorem regW_put {t : W} {a : Int} (ha : okReg a = true) (v : Int) : regW (putW a v t) a = v := by
  obtain ⟨h0, h1⟩ := okReg_in ha
  show (t.1.x.set a.toNat v).getD a.toNat 0 = v
  have hl := t.2
  rw [List.getD_eq_getElem?_getD, List.getElem?_set_self (by omega)]
  rfl
theorem putW_self {t : W} {a : Int} (ha : okReg a = true) : putW a (regW t a) t = t := by
  obtain ⟨h0, h1⟩ := okReg_in ha
  have hl := t.2
  apply Subtype.ext
  show putS a (t.1.x.getD a.toNat 0) t.1 = t.1
  unfold putS
  have e : t.1.x.set a.toNat (t.1.x.getD a.toNat 0) = t.1.x := by
    rw [List.getD_eq_getElem?_getD, List.getElem?_eq_getElem (show a.toNat < t.1.x.length by omega)]
    exact List.set_getElem_self _
  rw [e]
section
variable {x : RowT} {nm : List UInt8}
def shW (a v : Int) (c : Bool) (t : W) : W := flW (v == 0) (hb v) c false (putW a v t)
theorem shE_R {a : Int} (ha : okReg a = true) {v : Int} (hv : rng64 v = true) (out : Int) (t : W) (T : List V) (k : KS) : shE a out v (t.1.l ++ T) k = k ((shW a v (out != 0) t).1.l ++ T) := by
  unfold shE
  rw [putX_R ha, rdX_R ha, regW_put ha, sumS_R, negB_hb hv]
  rfl
theorem shD_R {e : EnvR} {a : Int} (ha : okReg a = true) (he : e.a = a) {v : Int} (hv : rng64 v = true) (c : Bool) (t : W) (T : List V) (k : KS) : setD e v (nzS v c false (t.1.l ++ T)) k = k ((shW a v c t).1.l ++ T) := by
  rw [nzS_R, sh63_one hv, setD_R ha _ _ e he]
  rfl
theorem fine_sh {t : W} (h : Fine t.1) (a : Int) {v : Int} (hv : rng64 v = true) (c : Bool) : Fine (shW a v c t).1 := fine_fl (fine_put h a hv) _ _ _ _
def ShV (P : Int → Int → List V → KS → Option Res) (D : EnvR → Int → Int → List V → KS → Option Res) : Prop :=
  ∀ (x : RowT) (e : EnvR) (hy : Hy x e) (n : Int), rng64 n = true → n ≤ 63 → ∃ t : W, Fine t.1 ∧ (∀ T k, P e.a n ((wE hy).1.l ++ T) k = k (t.1.l ++ T)) ∧ (∀ T k, D e (regW (wE hy) e.a) n ((wE hy).1.l ++ T) k = k (t.1.l ++ T))
theorem shl_rng (x n : Int) : rng64 (shlF x n) = true := rng_wu _
theorem q_true (k : Option Res) : q true k = k := rfl
theorem sh_shl : ShV shlK shlD := by
  intro x e hy n hn _
  by_cases h0 : n = 0
  · subst h0
    refine ⟨wE hy, hy.s, fun T k => rfl, fun T k => ?_⟩
    show setD e _ _ k = _
    rw [setD_R hy.a _ _ e rfl, putW_self hy.a]
  · have e0 : (n == 0) = false := by simpa using h0
    have e1 : decide (0 ≤ n) = true := decide_eq_true (rng_spec hn).1
    have e2 : decide (0 ≤ wu (64 - n)) = true := decide_eq_true (rng_spec (rng_wu _)).1
    refine ⟨shW e.a (shlF (regW (wE hy) e.a) n) (andU (shrF (regW (wE hy) e.a) (wu (64 - n))) 1 == 1) (wE hy), fine_sh hy.s _ (shl_rng _ _) _, fun T k => ?_, fun T k => ?_⟩
    · unfold shlK
      simp only [e0, cond_false, inA_R hy.a, rdX_R hy.a, e1, e2, q_true, shE_R hy.a (shl_rng _ _), out_eq]
    · unfold shlD
      simp only [e0, cond_false, e1, e2, q_true, shD_R hy.a rfl (shl_rng _ _)]
theorem sh_shr : ShV shrK shrD := by
  intro x e hy n hn _
  by_cases h0 : n = 0
  · subst h0
    refine ⟨wE hy, hy.s, fun T k => rfl, fun T k => ?_⟩
    show setD e _ _ k = _
    rw [setD_R hy.a _ _ e rfl, putW_self hy.a]
  · have e0 : (n == 0) = false := by simpa using h0
    have e1 : decide (0 ≤ n) = true := decide_eq_true (rng_spec hn).1
    have e2 : decide (0 ≤ wu (n - 1)) = true := decide_eq_true (rng_spec (rng_wu _)).1
    have hr := shr_rng (hy.r e.a) n
    refine ⟨shW e.a (shrF (regW (wE hy) e.a) n) (andU (shrF (regW (wE hy) e.a) (wu (n - 1))) 1 == 1) (wE hy), fine_sh hy.s _ hr _, fun T k => ?_, fun T k => ?_⟩
    · unfold shrK
      simp only [e0, cond_false, inA_R hy.a, rdX_R hy.a, e1, e2, q_true, shE_R hy.a hr, out_eq]
    · unfold shrD
      simp only [e0, cond_false, e1, e2, q_true, shD_R hy.a rfl hr]
theorem sh_sar : ShV sarK sarD := by
  intro x e hy n hn hle
  by_cases h0 : n = 0
  · subst h0
    refine ⟨wE hy, hy.s, fun T k => rfl, fun T k => ?_⟩
    show setD e _ _ k = _
    rw [setD_R hy.a _ _ e rfl, putW_self hy.a]
  · have e0 : (n == 0) = false := by simpa using h0
    have n0 := (rng_spec hn).1
    have e1 : decide (0 ≤ n) = true := decide_eq_true n0
    have e2 : decide (0 ≤ wu (n - 1)) = true := decide_eq_true (rng_spec (rng_wu _)).1
    have hr : rng64 (wu (shrF (wi (regW (wE hy) e.a)) n)) = true := rng_wu _
    refine ⟨shW e.a (wu (shrF (wi (regW (wE hy) e.a)) n)) (andU (shrF (regW (wE hy) e.a) (wu (n - 1))) 1 == 1) (wE hy), fine_sh hy.s _ hr _, fun T k => ?_, fun T k => ?_⟩
    · unfold sarK
      simp only [e0, cond_false, inA_R hy.a, rdX_R hy.a, e1, e2, q_true, shE_R hy.a hr, out_eq]
    · unfold sarD
      simp only [e0, cond_false, e1, e2, q_true, sar_out (hy.r e.a) (show 1 ≤ n by omega) (show n ≤ 64 by omega), shD_R hy.a rfl hr]
theorem al_shi {P : Int → Int → List V → KS → Option Res} {D : EnvR → Int → Int → List V → KS → Option Res} (hP : ShV P D) (hu : uI x = true) (h0 : lowR x = 0) (h1 : highR x = 63) :
    Alike x (mvR (preRi fun e S k => inA e.a (inA e.a (P e.a (wu e.m) S k))) nm) (oneD (fun e _ S k => inX e.a S fun x => D e x (wu e.m) S k) nm) :=
  al_row fun e hy => by
    obtain ⟨g0, g1⟩ := hy.im hu
    rw [h0] at g0
    rw [h1] at g1
    have em : wu e.m = e.m := by rw [wu_mod]; omega
    obtain ⟨t, ht, h1, h2⟩ := hP x e hy (wu e.m) (rng_wu _) (by rw [em]; exact g1)
    exact does_ok t ht (fun k => by simp only [preRi, inA_R hy.a, h1]) (fun k => by simp only [inX_R hy.a, h2])
theorem al_shc {P : Int → Int → List V → KS → Option Res} {D : EnvR → Int → Int → List V → KS → Option Res} (hP : ShV P D) :
    Alike x (mvR (fun e S k => inA e.a (inA e.a (P e.a (andU (e.s.x.getD 1 0) 63) S k))) nm) (oneD (fun e _ S k => inX e.a S fun x => D e x (andU (e.s.x.getD 1 0) 63) S k) nm) :=
  al_row fun e hy => by
    obtain ⟨t, ht, h1, h2⟩ := hP x e hy (andU (e.s.x.getD 1 0) 63) (andU_rng _ _) (by rw [andU_63]; omega)
    exact does_ok t ht (fun k => by simp only [inA_R hy.a, h1]) (fun k => by simp only [inX_R hy.a, h2])
variable {wd : Int → Int → Int × Int} (hw : WdOk wd)
include hw in
theorem al_mul : Alike x (mvR (fun e S k => inA e.a (inA e.a (mulK e S k))) nm) (oneD (fun e x S k => k (setCV ((wd (e.s.x.getD 0 0) x).1 != 0) ((S.set 1 (.int .u64 (wd (e.s.x.getD 0 0) x).2)).set 3 (.int .u64 (wd (e.s.x.getD 0 0) x).1)))) nm) :=
  al_row fun e hy => by
    have h0 : rng64 (e.s.x.getD 0 0) = true := hy.s.rng 0
    obtain ⟨w1, w2⟩ := hw _ _ h0 (hy.r e.a)
    refine does_ok (cvW (mulHi (e.s.x.getD 0 0) (regW (wE hy) e.a) != 0) (putW 2 (mulHi (e.s.x.getD 0 0) (regW (wE hy) e.a)) (putW 0 (wu (e.s.x.getD 0 0 * regW (wE hy) e.a)) (wE hy))))
      (fine_cv (fine_put (fine_put hy.s 0 (rng_wu _)) 2 (mulHi_rng h0 (hy.r _))) _) (fun k => ?_) (fun k => ?_)
    · unfold mulK
      simp only [inA_R hy.a, inX_R hy.a, h0, hy.r, Bool.and_self, q_true, set1_R, set3_R, setCV_R]
    · simp only [w1, w2, set1_R, set3_R, setCV_R]
include hw in
theorem al_imul (hu : uM x = false) : Alike x (mvR (preRr fun e S k => inA e.a (inA e.a (imulK e S k))) nm) (oneD (fun e _ S k => inX e.a S fun x => inX e.b S fun y => imulD wd e x y S k) nm) :=
  al_row fun e hy => by
    obtain ⟨w1, w2⟩ := hw _ _ (hy.r e.a) (hy.r e.b)
    have one : ∀ h : Int, Does e e.bk (imE e (wu (regW (wE hy) e.a * regW (wE hy) e.b)) h ((wE hy).1.l ++ tlP e e.bk)) (fun k => imF e h (wu (regW (wE hy) e.a * regW (wE hy) e.b)) ((wE hy).1.l ++ tlD e 0) (k e.bk)) := by
      intro h
      refine does_ok (cvW (h != wu (Int.fdiv (wi (wu (regW (wE hy) e.a * regW (wE hy) e.b))) (2 ^ 63))) (putW e.a (wu (regW (wE hy) e.a * regW (wE hy) e.b)) (wE hy))) (fine_cv (fine_put hy.s _ (rng_wu _)) _) (fun k => ?_) (fun k => ?_)
      · unfold imE
        simp only [inA_R hy.a, putX_R hy.a, setCV_R]
      · unfold imF
        rw [setCV_R, setD_R hy.a _ _ e rfl]
        rfl
    have tr : ∀ {r r' : (List V → Option Res) → Option Res} {g g' : (Int → List V → Option Res) → Option Res}, Does e e.bk r g → (∀ k, r' k = r k) → (∀ k, g' k = g k) → Does e e.bk r' g' := by
      rintro r r' g g' ⟨t, t', er, h1, h2, h3, h4⟩ e1 e2
      exact ⟨t, t', er, h1, h2, fun k => (e1 k).trans (h3 k), fun k => (e2 k).trans (h4 k)⟩
    unfold preRr imulK imulD
    simp only [inX_R hy.a, inX_R (hy.b hu), inA_R hy.a, hy.r, Bool.and_self, q_true, w1, w2]
    cases negB (regW (wE hy) e.a) <;> cases negB (regW (wE hy) e.b)
    · exact one _
    · exact one _
    · exact one _
    · exact one _
variable {lg : Int → Int → Int → Int × Int} (hg : LgOk lg)
include hg in
theorem al_div : Alike x (divR nm) (oneD (fun e x S k => divD lg e x S k) nm) :=
  al_row fun e hy => by
    have h0 : rng64 (e.s.x.getD 0 0) = true := hy.s.rng 0
    have h2 : rng64 (e.s.x.getD 2 0) = true := hy.s.rng 2
    unfold divD
    simp only [inA_R hy.a, inX_R hy.a]
    by_cases hlt : e.s.x.getD 2 0 < regW (wE hy) e.a
    · obtain ⟨g1, g2⟩ := hg _ _ _ h2 h0 (hy.r e.a) hlt
      obtain ⟨r1, r2⟩ := dq_rng h2 h0 (hy.r e.a) hlt
      refine does_ok (putW 2 (dr128 (e.s.x.getD 2 0) (e.s.x.getD 0 0) (regW (wE hy) e.a)) (putW 0 (dq128 (e.s.x.getD 2 0) (e.s.x.getD 0 0) (regW (wE hy) e.a)) (wE hy))) (fine_put (fine_put hy.s 0 r1) 2 r2) (fun k => ?_) (fun k => ?_)
      · simp only [decide_eq_true hlt, h0, h2, hy.r, Bool.and_self, Bool.not_true, cond_false, q_true, set1_R, set3_R]
      · have : decide (regW (wE hy) e.a ≤ e.s.x.getD 2 0) = false := decide_eq_false (by omega)
        simp only [this, cond_false, g1, g2, set1_R, set3_R]
    · refine does_bad (wE hy) (fun k => ?_) (fun k => ?_)
      · simp only [decide_eq_false hlt, Bool.not_false, cond_true]
      · have : decide (regW (wE hy) e.a ≤ e.s.x.getD 2 0) = true := decide_eq_true (by omega)
        simp only [this, cond_true, failS_R]
theorem mag_doc {h l : Int} (hh : rng64 h = true) (hl : rng64 l = true) : rng64 (magH h l) = true ∧ rng64 (magL h l) = true ∧
    (decide (wi h < 0) = true → magL h l = wu (0 - l) ∧ magH h l = cond (wu (0 - l) == 0) (wu (notI h + 1)) (notI h)) ∧ (decide (wi h < 0) = false → magL h l = l ∧ magH h l = h) := by
  obtain ⟨h0, h1⟩ := rng_spec hh
  obtain ⟨l0, l1⟩ := rng_spec hl
  unfold magH magL
  by_cases g : wi h < 0
  · have h2 : 9223372036854775808 ≤ h := by
      rw [wi_def] at g
      split at g <;> omega
    rw [decide_eq_false (by omega : ¬ 0 ≤ wi h), decide_eq_true g, cond_false, cond_false]
    refine ⟨rng_of (by omega) (by omega), rng_of (by omega) (by omega), fun _ => ⟨by rw [wu_mod]; omega, ?_⟩, fun e => by cases e⟩
    rw [notI_eq hh]
    by_cases hz : l = 0
    · subst hz
      show _ = wu (18446744073709551615 - h + 1)
      rw [wu_mod]
      omega
    · have : (wu (0 - l) == 0) = false := by
        rw [beq_eq_false_iff_ne, wu_mod]
        omega
      rw [this, cond_false]
      omega
  · rw [decide_eq_true (by omega : 0 ≤ wi h), decide_eq_false g]
    simp only [cond_true]
    exact ⟨hh, hl, by simp, by simp⟩
include hg in
theorem al_idiv : Alike x (idivR nm) (oneD (fun e x S k => idivD lg e x S k) nm) :=
  al_row fun e hy => by
    have h0 : rng64 (e.s.x.getD 0 0) = true := hy.s.rng 0
    have h2 : rng64 (e.s.x.getD 2 0) = true := hy.s.rng 2
    obtain ⟨mh, ml, m1, m2⟩ := mag_doc h2 h0
    have hny : rng64 (wu (0 - regW (wE hy) e.a)) = true := rng_wu _
    have key : ∀ (neg : Bool) (dv : Int), rng64 dv = true → Does e e.bk (fun k => idK e ((wE hy).1.l ++ tlP e e.bk) k neg (magH (e.s.x.getD 2 0) (e.s.x.getD 0 0)) (magL (e.s.x.getD 2 0) (e.s.x.getD 0 0)) (regW (wE hy) e.a) dv)
        (fun k => idD0 lg neg (magH (e.s.x.getD 2 0) (e.s.x.getD 0 0)) (magL (e.s.x.getD 2 0) (e.s.x.getD 0 0)) (regW (wE hy) e.a) dv ((wE hy).1.l ++ tlD e 0) (k e.bk)) := by
      intro neg dv hd
      unfold idK idD0
      by_cases hlt : magH (e.s.x.getD 2 0) (e.s.x.getD 0 0) < dv
      rotate_left
      · refine does_bad (wE hy) (fun k => ?_) (fun k => ?_)
        · simp only [decide_eq_false hlt, Bool.not_false, cond_true]
        · have : decide (dv ≤ magH (e.s.x.getD 2 0) (e.s.x.getD 0 0)) = true := decide_eq_true (by omega)
          simp only [this, cond_true, failS_R]
      have hle : decide (dv ≤ magH (e.s.x.getD 2 0) (e.s.x.getD 0 0)) = false := decide_eq_false (by omega)
      obtain ⟨g1, g2⟩ := hg _ _ _ mh ml hd hlt
      obtain ⟨r1, r2⟩ := dq_rng mh ml hd hlt
      simp only [decide_eq_true hlt, hle, mh, ml, hd, g1, g2, Bool.and_self, Bool.not_true, cond_false, q_true]
      generalize magH (e.s.x.getD 2 0) (e.s.x.getD 0 0) = H at *
      generalize magL (e.s.x.getD 2 0) (e.s.x.getD 0 0) = L at *
      generalize dq128 H L dv = Q at *
      generalize dr128 H L dv = R at *
      have fin : ∀ qv : Int, rng64 qv = true → Does e e.bk (fun k => idE neg ((wE hy).1.l ++ tlP e e.bk) k qv R) (fun k => idD3 neg qv R ((wE hy).1.l ++ tlD e 0) (k e.bk)) := by
        intro qv hq
        unfold idE idD3
        cases neg
        · exact does_ok (putW 2 R (putW 0 qv (wE hy))) (fine_put (fine_put hy.s 0 hq) 2 r2) (fun k => by simp only [cond_false, set1_R, set3_R]) (fun k => by simp only [cond_false, set1_R, set3_R])
        · exact does_ok (putW 2 (wu (0 - R)) (putW 0 qv (wE hy))) (fine_put (fine_put hy.s 0 hq) 2 (rng_wu _)) (fun k => by simp only [cond_true, set1_R, set3_R]) (fun k => by simp only [cond_true, set1_R, set3_R])
      unfold idD1 idD2
      cases (!(neg == decide (wi (regW (wE hy) e.a) < 0)))
      · simp only [cond_false, cond_true, Bool.not_false]
        by_cases hq : Q ≤ 9223372036854775807
        · have : decide (9223372036854775808 ≤ Q) = false := decide_eq_false (by omega)
          simp only [decide_eq_true hq, this, Bool.not_true, cond_false]
          exact fin Q r1
        · refine does_bad (wE hy) (fun k => ?_) (fun k => ?_)
          · simp only [decide_eq_false hq, Bool.not_false, cond_true]
          · have : decide (9223372036854775808 ≤ Q) = true := decide_eq_true (by omega)
            simp only [this, cond_true, failS_R]
      · simp only [cond_false, cond_true, Bool.not_true]
        by_cases hq : Q ≤ 9223372036854775808
        · have : decide (9223372036854775808 < Q) = false := decide_eq_false (by omega)
          simp only [decide_eq_true hq, this, Bool.not_true, cond_false]
          exact fin _ (rng_wu _)
        · refine does_bad (wE hy) (fun k => ?_) (fun k => ?_)
          · simp only [decide_eq_false hq, Bool.not_false, cond_true]
          · have : decide (9223372036854775808 < Q) = true := decide_eq_true (by omega)
            simp only [this, cond_true, failS_R]
    have kd : Does e e.bk (fun k => cond (decide (wi (regW (wE hy) e.a) < 0)) (idK e ((wE hy).1.l ++ tlP e e.bk) k (!decide (0 ≤ wi (e.s.x.getD 2 0))) (magH (e.s.x.getD 2 0) (e.s.x.getD 0 0)) (magL (e.s.x.getD 2 0) (e.s.x.getD 0 0)) (regW (wE hy) e.a) (wu (0 - regW (wE hy) e.a)))
          (idK e ((wE hy).1.l ++ tlP e e.bk) k (!decide (0 ≤ wi (e.s.x.getD 2 0))) (magH (e.s.x.getD 2 0) (e.s.x.getD 0 0)) (magL (e.s.x.getD 2 0) (e.s.x.getD 0 0)) (regW (wE hy) e.a) (regW (wE hy) e.a)))
        (fun k => idDY lg (!decide (0 ≤ wi (e.s.x.getD 2 0))) (magH (e.s.x.getD 2 0) (e.s.x.getD 0 0)) (magL (e.s.x.getD 2 0) (e.s.x.getD 0 0)) (regW (wE hy) e.a) ((wE hy).1.l ++ tlD e 0) (k e.bk)) := by
      unfold idDY
      cases decide (wi (regW (wE hy) e.a) < 0)
      · exact key _ _ (hy.r _)
      · exact key _ _ hny
    have en : (!decide (0 ≤ wi (e.s.x.getD 2 0))) = decide (wi (e.s.x.getD 2 0) < 0) := by
      by_cases g : wi (e.s.x.getD 2 0) < 0
      · rw [decide_eq_true g, decide_eq_false (by omega)]; rfl
      · rw [decide_eq_false g, decide_eq_true (by omega)]; rfl
    have ed : ∀ (S : List V) (k : KS), idivD lg e (regW (wE hy) e.a) S k = idDY lg (!decide (0 ≤ wi (e.s.x.getD 2 0))) (magH (e.s.x.getD 2 0) (e.s.x.getD 0 0)) (magL (e.s.x.getD 2 0) (e.s.x.getD 0 0)) (regW (wE hy) e.a) S k := by
      intro S k
      rw [en]
      unfold idivD
      cases hn : decide (wi (e.s.x.getD 2 0) < 0)
      · obtain ⟨g1, g2⟩ := m2 hn
        rw [g1, g2]
        rfl
      · obtain ⟨g1, g2⟩ := m1 hn
        rw [g1, g2]
        cases wu (0 - e.s.x.getD 0 0) == 0 <;> rfl
    obtain ⟨t, t', er, k1, k2, k3, k4⟩ := kd
    refine ⟨t, t', er, k1, k2, fun k => ?_, fun k => ?_⟩
    · rw [← k3]
      simp only [inA_R hy.a, inX_R hy.a, h0, h2, Bool.and_self, q_true]
    · exact (ed _ _).trans (k4 k)
theorem al_flow1 {f : EnvR → Int} (hf : ∀ (x : RowT) (e : EnvR) (hy : Hy x e), rng64 (f e) = true) : Alike x (mvR (fun e S k => inA e.a (inA e.a (k (S.set 45 (.int .u64 (f e)))))) nm) (floD (fun e S k => k (f e) S) nm) :=
  al_flow fun e hy => ⟨f e, hf x e hy, does_ok (wE hy) hy.s (fun k => by simp only [inA_R hy.a, set45_R]) (fun k => rfl)⟩
theorem al_jmp : Alike x (mvR (fun e S k => inA e.a (inA e.a (k (S.set 45 (.int .u64 (tgF e)))))) nm) (floD (fun e S k => k (tgF e) S) nm) := al_flow1 fun _ _ _ => rng_wu _
theorem al_jcc (hu : uM x = false) : Alike x (mvR (fun e S k => inA e.a (inA e.a (cond (holdsF e.s.z e.s.n e.s.c e.s.v e.d) (k (S.set 45 (.int .u64 (tgF e)))) (k S)))) nm) (floD (fun e S k => cond (hdF e.s.z e.s.n e.s.c e.s.v e.d) (k (tgF e) S) (k e.bk S)) nm) :=
  al_flow fun e hy => by
    have he := hold_eq e.s.z e.s.n e.s.c e.s.v (hy.d hu).1 (hy.d hu).2
    cases hh : hdF e.s.z e.s.n e.s.c e.s.v e.d
    · exact ⟨e.bk, hy.bk, does_ok (wE hy) hy.s (fun k => by simp only [he, hh, inA_R hy.a, cond_false]) (fun k => by simp only [hh, cond_false])⟩
    · exact ⟨tgF e, rng_wu _, does_ok (wE hy) hy.s (fun k => by simp only [he, hh, inA_R hy.a, cond_true, set45_R]) (fun k => by simp only [hh, cond_true])⟩
theorem al_jmpr : Alike x (mvR (fun e S k => inA e.a (inA e.a (inX e.a S fun y => k (S.set 45 (.int .u64 y))))) nm) (floD (fun e S k => inX e.a S fun y => k y S) nm) :=
  al_flow fun e hy => ⟨regW (wE hy) e.a, hy.r _, does_ok (wE hy) hy.s (fun k => by simp only [inA_R hy.a, inX_R hy.a, set45_R]) (fun k => by simp only [inX_R hy.a])⟩
theorem spF_eq {e : EnvR} (hy : Hy x e) : rng64 (spF e) = true := hy.s.rng 4
theorem popK_R {e : EnvR} (hy : Hy x e) (T : List V) (k : Int → KS) : popK e ((wE hy).1.l ++ T) k = cond (errLd (spF e) 8 != 0) (faultK e) (k (valLd e.A e.B e.C e.D e.E (spF e) 8) ((putW 4 (wu (spF e + 8)) (wE hy)).1.l ++ T)) := by
  unfold popK
  rw [loadK_R hy.l (spF_eq hy), set5_R]
theorem popD_R {e : EnvR} (hy : Hy x e) (k : Int → KS) : popD e ((wE hy).1.l ++ tlD e 0) k = k (valLd e.A e.B e.C e.D e.E (spF e) 8) ((putW 4 (wu (spF e + 8)) (wE hy)).1.l ++ tlD e (errLd (spF e) 8)) := by
  unfold popD
  rw [loadD_R hy.l (spF_eq hy), set5_R]
theorem al_pop : Alike x (popR nm) (oneD (fun e _ S k => popD e S fun y U => setD e y U k) nm) :=
  al_row fun e hy => by
    refine does_ld (spF e) 8 (putW e.a (valLd e.A e.B e.C e.D e.E (spF e) 8) (putW 4 (wu (spF e + 8)) (wE hy))) (fine_put (fine_put hy.s 4 (rng_wu _)) _ (valLd_rng _ _ _ _ _ _ _)) (fun k => ?_) (fun k => ?_)
    · simp only [inA_R hy.a, popK_R hy, putX_R hy.a]
    · simp only [popD_R hy, setD_R hy.a _ _ e rfl]
theorem al_ret : Alike x (retR nm) (floD (fun e S k => popD e S fun y U => k y U) nm) :=
  al_flow fun e hy => by
    refine ⟨valLd e.A e.B e.C e.D e.E (spF e) 8, valLd_rng _ _ _ _ _ _ _, does_ld (spF e) 8 (putW 4 (wu (spF e + 8)) (wE hy)) (fine_put hy.s 4 (rng_wu _)) (fun k => ?_) (fun k => ?_)⟩
    · simp only [inA_R hy.a, popK_R hy, set45_R]
    · simp only [popD_R hy]
theorem lens5_stB {A B C D E : List Int} (h : lens5 A B C D E = true) (x n y : Int) : lens5 (stB 1 x n y A) (stB 2 x n y B) (stB 16 x n y C) (stB 17 x n y D) (stB 32 x n y E) = true := by
  unfold stB
  cases mayB x n 2
  · exact h
  · exact lens5_stN _ _ h
theorem store_both {e : EnvR} (hs : Fine e.s) (hl : lens5 e.A e.B e.C e.D e.E = true) {p : Int} (hp : rng64 p = true) (n v : Int) (t : W) (ht : Fine t.1) {nx : Int} (hn : rng64 nx = true) :
    Both e.s (storeK e p n v fun H => finS H (t.1.l ++ tlP e nx)) (cond (errSt p n != 0) (errK e.s (errSt p n) (refO (stB 1 p n v e.A) (stB 2 p n v e.B) (stB 16 p n v e.C) (stB 17 p n v e.D) (stB 32 p n v e.E)))
      (outK ({ t.1 with pc := nx } : CpuT).l 0 (refO (stB 1 p n v e.A) (stB 2 p n v e.B) (stB 16 p n v e.C) (stB 17 p n v e.D) (stB 32 p n v e.E)))) := by
  have hl' := lens5_stB hl p n v
  unfold storeK q
  rw [hl, hp]
  simp only [Bool.and_self, cond_true, finS_R]
  rcases errSt_or p n with h | h
  · rw [h]
    exact both_out (fine_pc ht hn) 0 hl'
  · rw [h]
    exact both_err hs 21 hl'
theorem storeD_R {e : EnvR} (hl : lens5 e.A e.B e.C e.D e.E = true) {p : Int} (hp : rng64 p = true) (n v : Int) (t : W) (er : Int) (k : List V → List O → Option Res) :
    storeD e p n v (t.1.l ++ tlD e er) k = k (t.1.l ++ tlD e (errSt p n)) (refO (stB 1 p n v e.A) (stB 2 p n v e.B) (stB 16 p n v e.C) (stB 17 p n v e.D) (stB 32 p n v e.E)) := by
  unfold storeD q
  rw [hl, hp, set40_R]
  rfl
theorem al_st (hu : uM x = true) (n : Int) : Alike x (stR n nm) (onwD (fun e _ S k => adK e S fun p => inX e.a S fun y => storeD e p n y S k) nm) := by
  intro s a b c d m sz A B C D E hs hl ho hi
  have hy : Hy x (envF s nm a b c d m sz A B C D E) := ⟨hs, hl, ho, hi, nx_rng _ _⟩
  obtain ⟨p, hp, hk⟩ := adK_R hy hu
  have hb := store_both (e := envF s nm a b c d m sz A B C D E) hs hl hp n (regW (wE hy) a) (wE hy) hs (nx_rng s sz)
  unfold stR mwR onwD
  rw [stC_eq _ hs.len, dcC_eq _ hs.len, inX_R (a := a) hy.a]
  refine (congr (congrArg (Both s) ?_) ?_).mpr hb
  · refine (inA_R hy.a _).trans ((hk _ _).trans ?_)
    exact rdX_R hy.a (wE hy) _ _
  · refine (hk _ _).trans ((inX_R hy.a (wE hy) _ _).trans ((storeD_R hl hp _ _ (wE hy) 0 _).trans ?_))
    exact finG_R (wE hy) (envF s nm a b c d m sz A B C D E) s _ 0 _ _
theorem push_both {e : EnvR} (hy : Hy x e) (v : Int) {nx : Int} (hn : rng64 nx = true) :
    Both e.s (pushK e v ((wE hy).1.l ++ tlP e e.bk) fun T H => finS H (T.set 45 (.int .u64 nx))) (pushD e v ((wE hy).1.l ++ tlD e 0) fun T H => finG e.s nx 0 H T) := by
  have hb := store_both hy.s hy.l (rng_wu (spF e - 8)) 8 v (putW 4 (wu (spF e - 8)) (wE hy)) (fine_put hy.s 4 (rng_wu _)) hn
  unfold pushK pushD
  rw [storeD_R hy.l (rng_wu _)]
  simp only [set5_R, set45_R, finG_R]
  exact hb
theorem set45_same {e : EnvR} (t : W) : (t.1.l ++ tlP e e.bk) = (t.1.l ++ tlP e e.bk).set 45 (.int .u64 e.bk) := (set45_R t e e.bk e.bk).symm
theorem al_push : Alike x (pushR nm) (onwD (fun e x S k => pushD e x S k) nm) := by
  intro s a b c d m sz A B C D E hs hl ho hi
  have hy : Hy x (envF s nm a b c d m sz A B C D E) := ⟨hs, hl, ho, hi, nx_rng _ _⟩
  have hb := push_both hy (regW (wE hy) a) (nx_rng s sz)
  unfold pushR mwR onwD
  rw [stC_eq _ hs.len, dcC_eq _ hs.len, inX_R (a := a) hy.a]
  refine (congrArg (fun r => Both s r _) ?_).mpr hb
  refine (inA_R hy.a _).trans ((inA_R hy.a _).trans ((rdX_R hy.a (wE hy) _ _).trans ?_))
  unfold pushK
  refine congrArg (storeK _ _ 8 _) (funext fun H => ?_)
  show finS H (((wE hy).1.l ++ tlP (envF s nm a b c d m sz A B C D E) (envF s nm a b c d m sz A B C D E).bk).set 5 _) = _
  rw [set5_R]
  exact congrArg (finS H) (set45_same _)
theorem al_call : Alike x (callR nm) (flwD (fun e S k => pushD e e.bk S (k (tgF e))) nm) := by
  intro s a b c d m sz A B C D E hs hl ho hi
  have hy : Hy x (envF s nm a b c d m sz A B C D E) := ⟨hs, hl, ho, hi, nx_rng _ _⟩
  have hb := push_both hy (envF s nm a b c d m sz A B C D E).bk (rng_wu ((envF s nm a b c d m sz A B C D E).bk + wu (envF s nm a b c d m sz A B C D E).m))
  unfold callR mwR flwD
  rw [stC_eq _ hs.len, dcC_eq _ hs.len]
  refine (congrArg (fun r => Both s r _) ?_).mpr hb
  exact (inA_R hy.a _).trans (inA_R hy.a _)
theorem al_callr : Alike x (callrR nm) (flwD (fun e S k => inX e.a S fun y => pushD e e.bk S (k y)) nm) := by
  intro s a b c d m sz A B C D E hs hl ho hi
  have hy : Hy x (envF s nm a b c d m sz A B C D E) := ⟨hs, hl, ho, hi, nx_rng _ _⟩
  have hb := push_both hy (envF s nm a b c d m sz A B C D E).bk (hy.r a)
  unfold callrR mwR flwD
  rw [stC_eq _ hs.len, dcC_eq _ hs.len]
  refine (congr (congrArg (Both s) ?_) ?_).mpr hb
  · exact (inA_R hy.a _).trans ((inA_R hy.a _).trans (inX_R hy.a (wE hy) _ _))
  · exact inX_R hy.a (wE hy) _ _
theorem al_sys : Alike x (sysR nm) (sysD nm) := by
  intro s a b c d m sz A B C D E hs hl ho hi
  have hy : Hy x (envF s nm a b c d m sz A B C D E) := ⟨hs, hl, ho, hi, nx_rng _ _⟩
  unfold sysD
  rw [dcC_eq _ hs.len, set2_R, finG_R]
  exact both_out (s' := ({ (putW 1 (wu (s.pc + wu sz)) (wE hy)).1 with pc := wu (s.pc + wu sz) } : CpuT)) (fine_pc (fine_put hy.s 1 (rng_wu _)) (rng_wu _)) 1 hl
theorem al_ud : Alike x (udR nm) (udD nm) := by
  intro s a b c d m sz A B C D E hs hl ho hi
  exact both_out hs 2 hl
end
end Go.Ra

namespace Go.Ra
open Go Go.Ab Go.Proofs
noncomputable def cx129 : Cx := { P := Tryz.prog, n := 43, tab := [], mtab := [], refs := [], keeps := [0, 1, 2, 6, 7, 8, 9, 10, 11, 14, 35] }
noncomputable abbrev Blg : Code := bodyOf Tryz.f129
def lgRound (l b qv r i : Int) : Tree St :=
  (.br (decide (0 ≤ i)) (.br (decide (0 ≤ IntKind.wrap IntKind.u64 i)) (.br (Int.fdiv r (2 ^ 63) == 1) (.leaf (.normal, [(1, (.int .u64 l)), (2, (.int .u64 b)), (8, (.int .u64 (IntKind.wrap IntKind.u64 (IntKind.wrap IntKind.u64 (qv * 2 ^ 1) + 1)))), (9, (.int .u64 (IntKind.wrap IntKind.u64 (IntKind.wrap IntKind.u64 ↑(BitVec.toNat (BitVec.ofInt 64 (IntKind.wrap IntKind.u64 (r * 2 ^ 1)) ||| BitVec.ofInt 64 (IntKind.wrap IntKind.u64 ↑(BitVec.toNat (BitVec.ofInt 64 (Int.fdiv l (2 ^ Min.min (Int.toNat (IntKind.wrap IntKind.u64 i)) 64)) &&& BitVec.ofInt 64 1))))) - b)))), (10, (.int .i64 (IntKind.wrap IntKind.i64 (i - 1)))), (11, (.bool (Int.fdiv r (2 ^ 63) == 1))), (14, (.bool true)), (35, (.bool true))], [])) (.br (decide (b ≤ IntKind.wrap IntKind.u64 ↑(BitVec.toNat (BitVec.ofInt 64 (IntKind.wrap IntKind.u64 (r * 2 ^ 1)) ||| BitVec.ofInt 64 (IntKind.wrap IntKind.u64 ↑(BitVec.toNat (BitVec.ofInt 64 (Int.fdiv l (2 ^ Min.min (Int.toNat (IntKind.wrap IntKind.u64 i)) 64)) &&& BitVec.ofInt 64 1))))))) (.leaf (.normal, [(1, (.int .u64 l)), (2, (.int .u64 b)), (8, (.int .u64 (IntKind.wrap IntKind.u64 (IntKind.wrap IntKind.u64 (qv * 2 ^ 1) + 1)))), (9, (.int .u64 (IntKind.wrap IntKind.u64 (IntKind.wrap IntKind.u64 ↑(BitVec.toNat (BitVec.ofInt 64 (IntKind.wrap IntKind.u64 (r * 2 ^ 1)) ||| BitVec.ofInt 64 (IntKind.wrap IntKind.u64 ↑(BitVec.toNat (BitVec.ofInt 64 (Int.fdiv l (2 ^ Min.min (Int.toNat (IntKind.wrap IntKind.u64 i)) 64)) &&& BitVec.ofInt 64 1))))) - b)))), (10, (.int .i64 (IntKind.wrap IntKind.i64 (i - 1)))), (11, (.bool (Int.fdiv r (2 ^ 63) == 1))), (14, (.bool true)), (35, (.bool true))], [])) (.leaf (.normal, [(1, (.int .u64 l)), (2, (.int .u64 b)), (8, (.int .u64 (IntKind.wrap IntKind.u64 (qv * 2 ^ 1)))), (9, (.int .u64 (IntKind.wrap IntKind.u64 ↑(BitVec.toNat (BitVec.ofInt 64 (IntKind.wrap IntKind.u64 (r * 2 ^ 1)) ||| BitVec.ofInt 64 (IntKind.wrap IntKind.u64 ↑(BitVec.toNat (BitVec.ofInt 64 (Int.fdiv l (2 ^ Min.min (Int.toNat (IntKind.wrap IntKind.u64 i)) 64)) &&& BitVec.ofInt 64 1)))))))), (10, (.int .i64 (IntKind.wrap IntKind.i64 (i - 1)))), (11, (.bool (Int.fdiv r (2 ^ 63) == 1))), (14, (.bool true)), (35, (.bool false))], [])))) .fail) (.leaf ((.exit 0), [(1, (.int .u64 l)), (2, (.int .u64 b)), (8, (.int .u64 qv)), (9, (.int .u64 r)), (10, (.int .i64 i)), (14, (.bool false))], [])))
theorem lgRound_eq (l b qv r i : Int) : (dcode cx129 (cin (cin (c2 (c1 (tailN 2 Blg))))) [(1, .int .u64 l), (2, .int .u64 b), (8, .int .u64 qv), (9, .int .u64 r), (10, .int .i64 i)] []).run = (lgRound l b qv r i).run :=
  (show (dcode cx129 (cin (cin (c2 (c1 (tailN 2 Blg))))) [(1, .int .u64 l), (2, .int .u64 b), (8, .int .u64 qv), (9, .int .u64 r), (10, .int .i64 i)] []).run = (lgRound l b qv r i).out by kernel_rfl).trans (Tree.out_run _)
def lgEnd (qv r : Int) : Tree St :=
  (.leaf (.ret, [(6, (.int .u64 qv)), (7, (.int .u64 r)), (8, (.int .u64 qv)), (9, (.int .u64 r))], []))
theorem lgEnd_eq (qv r : Int) : (dcode cx129 (tailN 3 Blg) [(8, .int .u64 qv), (9, .int .u64 r)] []).run = (lgEnd qv r).run :=
  (show (dcode cx129 (tailN 3 Blg) [(8, .int .u64 qv), (9, .int .u64 r)] []).run = (lgEnd qv r).out by kernel_rfl).trans (Tree.out_run _)
def bitI (l i : Int) : Int := wu ((BitVec.toNat (BitVec.ofInt 64 (Int.fdiv l (2 ^ Min.min (Int.toNat (wu i)) 64)) &&& BitVec.ofInt 64 1) : Nat) : Int)
def r2I (l r i : Int) : Int := wu ((BitVec.toNat (BitVec.ofInt 64 (wu (r * 2 ^ 1)) ||| BitVec.ofInt 64 (bitI l i)) : Nat) : Int)
def topI (r : Int) : Bool := Int.fdiv r (2 ^ 63) == 1
def lgStep (l b i : Int) (p : Int × Int) : Int × Int :=
  cond (topI p.2) (wu (wu (p.1 * 2 ^ 1) + 1), wu (r2I l p.2 i - b)) (cond (decide (b ≤ r2I l p.2 i)) (wu (wu (p.1 * 2 ^ 1) + 1), wu (r2I l p.2 i - b)) (wu (p.1 * 2 ^ 1), r2I l p.2 i))
noncomputable def lgN (h l b : Int) (k : Nat) : Int × Int := Nat.rec (motive := fun _ => Int × Int) (0, h) (fun i p => lgStep l b (63 - (i : Int)) p) k
theorem lgN_succ (h l b : Int) (k : Nat) : lgN h l b (k + 1) = lgStep l b (63 - (k : Int)) (lgN h l b k) := rfl
noncomputable def lgSt (h l b : Int) (k : { k : Nat // k ≤ 64 }) : T × List O := ([(1, .int .u64 l), (2, .int .u64 b), (8, .int .u64 (lgN h l b k.1).1), (9, .int .u64 (lgN h l b k.1).2), (10, .int .i64 (63 - (k.1 : Int)))], [])
def lgB (l b qv r i : Int) (k : Tree St) : Tree St := .br (decide (0 ≤ i)) (.br (decide (0 ≤ wu i)) k .fail) (.leaf (.exit 0, [(1, .int .u64 l), (2, .int .u64 b), (8, .int .u64 qv), (9, .int .u64 r), (10, .int .i64 i), (14, .bool false)], []))
def lgL (l b i : Int) (p : Int × Int) (o c : Bool) : Tree St := .leaf (.normal, [(1, .int .u64 l), (2, .int .u64 b), (8, .int .u64 p.1), (9, .int .u64 p.2), (10, .int .i64 (wi (i - 1))), (11, .bool o), (14, .bool true), (35, .bool c)], [])
def lgH (l b qv r i : Int) : Tree St := lgB l b qv r i (.br (topI r) (lgL l b i (wu (wu (qv * 2 ^ 1) + 1), wu (r2I l r i - b)) (topI r) true)
  (.br (decide (b ≤ r2I l r i)) (lgL l b i (wu (wu (qv * 2 ^ 1) + 1), wu (r2I l r i - b)) (topI r) true) (lgL l b i (wu (qv * 2 ^ 1), r2I l r i) (topI r) false)))
theorem lgH_eq (l b qv r i : Int) : (dcode cx129 (cin (cin (c2 (c1 (tailN 2 Blg))))) [(1, .int .u64 l), (2, .int .u64 b), (8, .int .u64 qv), (9, .int .u64 r), (10, .int .i64 i)] []).run = (lgH l b qv r i).run := lgRound_eq l b qv r i
theorem long_ok (h l b : Int) : PCall Tryz.prog 129 [.int .u64 h, .int .u64 l, .int .u64 b] (.tup [.int .u64 (lgN h l b 64).1, .int .u64 (lgN h l b 64).2]) := by
  refine pcall_of' (c := Blg) (fn := Tryz.f129) (by kernel_rfl) (by kernel_rfl) (by kernel_rfl) (by kernel_rfl) ?_
  have eb : Blg = .seq (c1 Blg) (.seq (c1 (tailN 0 Blg)) (.seq (c1 (tailN 1 Blg)) (.seq (.seq (c1 (c1 (tailN 2 Blg))) (.block 0 (.loop (cin (cin (c2 (c1 (tailN 2 Blg)))))))) (tailN 3 Blg)))) := by kernel_rfl
  rw [eb]
  generalize hQ : (fun e' t H => (e' = AEx.ret ∨ e' = .normal) ∧ answerV Tryz.prog Tryz.f129.results.toList H t = some (.tup [.int .u64 (lgN h l b 64).1, .int .u64 (lgN h l b 64).2])) = Q
  have hok : CxOk cx129 := cx0_ok rfl rfl
  refine AWP_seq (AWP_run (cx := cx129) rfl rfl hok (s := (.normal, [(0, .int .u64 h), (1, .int .u64 l), (2, .int .u64 b), (6, .int .u64 0), (7, .int .u64 0)], [])) (by kernel_rfl) ?_)
  refine AWP_seq (AWP_run (cx := cx129) rfl rfl hok (s := (.normal, [(0, .int .u64 h), (1, .int .u64 l), (2, .int .u64 b), (6, .int .u64 0), (7, .int .u64 0), (8, .int .u64 0)], [])) (by kernel_rfl) ?_)
  refine AWP_seq (AWP_run (cx := cx129) rfl rfl hok (s := (.normal, [(0, .int .u64 h), (1, .int .u64 l), (2, .int .u64 b), (6, .int .u64 0), (7, .int .u64 0), (8, .int .u64 0), (9, .int .u64 h)], [])) (by kernel_rfl) ?_)
  refine AWP_seq (AWP_seq (AWP_run (cx := cx129) rfl rfl hok (s := (.normal, [(0, .int .u64 h), (1, .int .u64 l), (2, .int .u64 b), (6, .int .u64 0), (7, .int .u64 0), (8, .int .u64 0), (9, .int .u64 h), (10, .int .i64 63)], [])) (by kernel_rfl) ?_))
  refine AWP_block ?_
  refine AWP.less (s := (lgSt h l b ⟨0, Nat.zero_le _⟩).1) (Fits.tle ⟨rfl, rfl, rfl, rfl, rfl, trivial⟩) ?_
  refine AWP_loop (lgSt h l b) (fun i => 64 - i.1) (fun i => AWP_code (cx := cx129) rfl rfl hok _ _ _ _ ?_) ⟨0, Nat.zero_le _⟩
  obtain ⟨k, hk⟩ := i
  refine Tree.all_run_eq (lgH_eq l b (lgN h l b k).1 (lgN h l b k).2 (63 - (k : Int))) ?_
  have next : ∀ (p : Int × Int) (o c : Bool), (0 : Int) ≤ 63 - k → lgStep l b (63 - (k : Int)) (lgN h l b k) = p → ∃ j : { k : Nat // k ≤ 64 }, 64 - j.1 < 64 - k ∧
      TLe [(1, V.int .u64 l), (2, V.int .u64 b), (8, V.int .u64 p.1), (9, V.int .u64 p.2), (10, V.int .i64 (wi (63 - (k : Int) - 1))), (11, V.bool o), (14, V.bool true), (35, V.bool c)] (lgSt h l b j).1 ∧ ([] : List O) = (lgSt h l b j).2 := by
    intro p o c h0 hp
    refine ⟨⟨k + 1, by omega⟩, by show 64 - (k + 1) < 64 - k; omega, Fits.tle ⟨rfl, rfl, ?_, ?_, ?_, trivial⟩, rfl⟩
    · show V.int .u64 _ = V.int .u64 (lgN h l b (k + 1)).1
      rw [lgN_succ, hp]
    · show V.int .u64 _ = V.int .u64 (lgN h l b (k + 1)).2
      rw [lgN_succ, hp]
    · show V.int .i64 (wi (63 - (k : Int) - 1)) = V.int .i64 (63 - ((k + 1 : Nat) : Int))
      rw [wi_mid (by omega) (by omega)]
      exact congrArg (V.int .i64) (by omega)
  refine ⟨fun hge => ⟨fun _ => ⟨fun ht => ?_, fun ht => ⟨fun hd => ?_, fun hd => ?_⟩⟩, fun hp => ?_⟩, fun hlt => ?_⟩
  · refine next _ _ _ (of_decide_eq_true hge) ?_
    unfold lgStep
    rw [show topI (lgN h l b k).2 = true from ht]
    rfl
  · refine next _ _ _ (of_decide_eq_true hge) ?_
    unfold lgStep
    rw [show topI (lgN h l b k).2 = false from ht, show decide (b ≤ r2I l (lgN h l b k).2 (63 - (k : Int))) = true from hd]
    rfl
  · refine next _ _ _ (of_decide_eq_true hge) ?_
    unfold lgStep
    rw [show topI (lgN h l b k).2 = false from ht, show decide (b ≤ r2I l (lgN h l b k).2 (63 - (k : Int))) = false from hd]
    rfl
  · exfalso
    have : (0 : Int) ≤ wu (63 - (k : Int)) := by rw [wu_mod]; omega
    exact absurd this (of_decide_eq_false hp)
  · have hlt : ¬ (0 : Int) ≤ 63 - k := of_decide_eq_false hlt
    have hk' : k = 64 := by omega
    subst hk'
    show AWP _ _ _ _ _ _
    refine AWP.less (s := [(8, .int .u64 (lgN h l b 64).1), (9, .int .u64 (lgN h l b 64).2)]) (Fits.tle ⟨rfl, rfl, trivial⟩) ?_
    refine AWP_run (cx := cx129) rfl rfl hok ((lgEnd_eq _ _).trans rfl) ?_
    subst hQ
    refine ⟨.inl rfl, ?_⟩
    kernel_rfl
noncomputable def lgF (h l b : Int) : Int × Int := lgN h l b 64
theorem lgF_ok : Sound Tryz.prog 129 (lgP lgF) := by
  intro args out h
  unfold lgP at h
  split at h
  rotate_left
  · cases h
  cases h
  exact long_ok _ _ _
end Go.Ra

namespace Go.Ra
open Go Go.Ab Go.Proofs
theorem bitI_eq {l : Int} (hl : rng64 l = true) {k : Nat} (hk : k < 64) : bitI l (63 - (k : Int)) = l / 2 ^ (63 - k) % 2 := by
  have e : Min.min (Int.toNat (wu (63 - (k : Int)))) 64 = 63 - k := by
    rw [wu_mod]
    omega
  obtain ⟨l0, l1⟩ := rng_spec hl
  show andU _ 1 = _
  rw [e, andU_1, Int.fdiv_eq_ediv_of_nonneg _ (Int.le_of_lt (Int.pow_pos (by decide)))]
theorem r2_eq {l r : Int} (hl : rng64 l = true) (hr : rng64 r = true) {k : Nat} (hk : k < 64) : r2I l r (63 - (k : Int)) = (2 * r) % 18446744073709551616 + l / 2 ^ (63 - k) % 2 := by
  unfold r2I
  rw [bitI_eq hl hk]
  obtain ⟨r0, r1⟩ := rng_spec hr
  obtain ⟨m, hm⟩ := Int.eq_ofNat_of_zero_le r0
  obtain ⟨y, hy⟩ := Int.eq_ofNat_of_zero_le (show 0 ≤ l / 2 ^ (63 - k) % 2 by omega)
  rw [hy]
  have hy2 : y < 2 := by omega
  subst hm
  have e1 : wu ((m : Int) * 2 ^ 1) = ((2 * (m % 9223372036854775808) : Nat) : Int) := by
    rw [wu_mod]
    omega
  rw [e1, or_cast (by omega) (by omega)]
  have e2 := Nat.two_pow_add_eq_or_of_lt (i := 1) (b := y) (by omega) (m % 9223372036854775808)
  rw [Nat.pow_one] at e2
  rw [← e2]
  omega
theorem top_eq {r : Int} (hr : rng64 r = true) : topI r = hb r := sh63_one hr
theorem half_step {h l : Int} (hl : rng64 l = true) {k : Nat} (hk : k < 64) :
    (h * 18446744073709551616 + l) / 2 ^ (63 - k) = 2 * ((h * 18446744073709551616 + l) / 2 ^ (64 - k)) + l / 2 ^ (63 - k) % 2 := by
  have hp : (0 : Int) < 2 ^ (63 - k) := Int.pow_pos (by decide)
  have e1 : (2 : Int) ^ (64 - k) = 2 ^ (63 - k) * 2 := by
    rw [show 64 - k = (63 - k) + 1 by omega, Int.pow_succ]
  have e2 : (18446744073709551616 : Int) = 2 ^ (63 - k) * (2 * 2 ^ k) := by
    have : (2 : Int) ^ (63 - k) * (2 * 2 ^ k) = 2 ^ ((63 - k) + (k + 1)) := by
      rw [Int.pow_add, Int.pow_succ, Int.mul_comm 2]
    rw [this, show (63 - k) + (k + 1) = 64 by omega]
    rfl
  have e3 : (h * 18446744073709551616 + l) / 2 ^ (63 - k) = h * (2 * 2 ^ k) + l / 2 ^ (63 - k) := by
    rw [e2, show h * (2 ^ (63 - k) * (2 * 2 ^ k)) = 2 ^ (63 - k) * (h * (2 * 2 ^ k)) by rw [Int.mul_left_comm], Int.add_comm, Int.add_mul_ediv_left _ _ (Int.ne_of_gt hp), Int.add_comm]
  rw [e1, ← Int.ediv_ediv_of_nonneg (Int.le_of_lt hp), e3]
  have e4 : h * (2 * 2 ^ k) = 2 * (h * 2 ^ k) := by rw [Int.mul_left_comm]
  rw [e4]
  generalize h * 2 ^ k = z
  generalize l / 2 ^ (63 - k) = y
  omega
theorem div_step {n b bit : Int} (hb : 0 < b) (h0 : 0 ≤ n) (hbit : bit = 0 ∨ bit = 1) :
    (b ≤ 2 * (n % b) + bit → (2 * n + bit) / b = 2 * (n / b) + 1 ∧ (2 * n + bit) % b = 2 * (n % b) + bit - b) ∧ (2 * (n % b) + bit < b → (2 * n + bit) / b = 2 * (n / b) ∧ (2 * n + bit) % b = 2 * (n % b) + bit) := by
  have hn := Int.emod_add_mul_ediv n b
  have m0 := Int.emod_nonneg n (Int.ne_of_gt hb)
  have m1 := Int.emod_lt_of_pos n hb
  generalize n % b = r at hn m0 m1 ⊢
  generalize n / b = q at hn ⊢
  constructor
  · intro hle
    have e : 2 * n + bit = (2 * r + bit - b) + b * (2 * q + 1) := by
      rw [← hn, Int.mul_add b, Int.mul_one, Int.mul_left_comm b 2 q]
      omega
    rw [e, Int.add_mul_ediv_left _ _ (Int.ne_of_gt hb), Int.add_mul_emod_self_left, Int.ediv_eq_zero_of_lt (by omega) (by omega), Int.emod_eq_of_lt (by omega) (by omega)]
    exact ⟨by omega, rfl⟩
  · intro hlt
    have e : 2 * n + bit = (2 * r + bit) + b * (2 * q) := by
      rw [← hn, Int.mul_left_comm b 2 q]
      omega
    rw [e, Int.add_mul_ediv_left _ _ (Int.ne_of_gt hb), Int.add_mul_emod_self_left, Int.ediv_eq_zero_of_lt (by omega) hlt, Int.emod_eq_of_lt (by omega) hlt]
    exact ⟨by omega, rfl⟩
theorem lgN_eq {h l b : Int} (hh : rng64 h = true) (hl : rng64 l = true) (hb' : rng64 b = true) (hlt : h < b) : ∀ k, k ≤ 64 → (lgN h l b k).1 = (h * 18446744073709551616 + l) / 2 ^ (64 - k) / b ∧ (lgN h l b k).2 = (h * 18446744073709551616 + l) / 2 ^ (64 - k) % b
  | 0, _ => by
    obtain ⟨h0, h1⟩ := rng_spec hh
    obtain ⟨l0, l1⟩ := rng_spec hl
    have e : (h * 18446744073709551616 + l) / 2 ^ (64 - 0) = h := by
      show (h * 18446744073709551616 + l) / 18446744073709551616 = h
      omega
    rw [e, Int.ediv_eq_zero_of_lt h0 hlt, Int.emod_eq_of_lt h0 hlt]
    exact ⟨rfl, rfl⟩
  | k + 1, hk => by
    obtain ⟨i1, i2⟩ := lgN_eq hh hl hb' hlt k (by omega)
    obtain ⟨h0, h1⟩ := rng_spec hh
    obtain ⟨l0, l1⟩ := rng_spec hl
    obtain ⟨b0, b1⟩ := rng_spec hb'
    have hk' : k < 64 := by omega
    have hs := half_step (h := h) hl hk'
    have hp : (0 : Int) < 2 ^ (64 - k) := Int.pow_pos (by decide)
    have hn0 : 0 ≤ (h * 18446744073709551616 + l) / 2 ^ (64 - k) := Int.ediv_nonneg (by omega) (Int.le_of_lt hp)
    have hbit : l / 2 ^ (63 - k) % 2 = 0 ∨ l / 2 ^ (63 - k) % 2 = 1 := by omega
    have hq : (h * 18446744073709551616 + l) / 2 ^ (63 - k) / b < 18446744073709551616 := by
      refine (Int.ediv_lt_iff_lt_mul (by omega)).2 ?_
      have := Int.ediv_le_self (2 ^ (63 - k)) (show 0 ≤ h * 18446744073709551616 + l by omega)
      have h3 : (h + 1) * 18446744073709551616 ≤ b * 18446744073709551616 := Int.mul_le_mul_of_nonneg_right (by omega) (by decide)
      rw [Int.mul_comm 18446744073709551616 b]
      omega
    have hq0 : 0 ≤ (h * 18446744073709551616 + l) / 2 ^ (64 - k) / b := Int.ediv_nonneg hn0 (by omega)
    obtain ⟨d1, d2⟩ := div_step (n := (h * 18446744073709551616 + l) / 2 ^ (64 - k)) (b := b) (bit := l / 2 ^ (63 - k) % 2) (by omega) hn0 hbit
    have m0 := Int.emod_nonneg ((h * 18446744073709551616 + l) / 2 ^ (64 - k)) (show b ≠ 0 by omega)
    have m1 := Int.emod_lt_of_pos ((h * 18446744073709551616 + l) / 2 ^ (64 - k)) (show 0 < b by omega)
    rw [lgN_succ, show 64 - (k + 1) = 63 - k by omega]
    rw [hs] at hq ⊢
    unfold lgStep
    rw [i1, i2]
    have hr : rng64 ((h * 18446744073709551616 + l) / 2 ^ (64 - k) % b) = true := rng_of m0 (by omega)
    rw [top_eq hr, r2_eq hl hr hk']
    generalize (h * 18446744073709551616 + l) / 2 ^ (64 - k) = N at *
    generalize l / 2 ^ (63 - k) % 2 = bit at *
    generalize N % b = r at *
    generalize N / b = qv at *
    have sub : b ≤ 2 * r + bit → (wu (wu (qv * 2 ^ 1) + 1), wu ((2 * r) % 18446744073709551616 + bit - b)) = ((2 * N + bit) / b, (2 * N + bit) % b) := by
      intro hle
      obtain ⟨g1, g2⟩ := d1 hle
      rw [g1] at hq
      rw [g1, g2]
      refine Prod.ext ?_ ?_
      · show wu (wu (qv * 2) + 1) = _
        rw [wu_mod, wu_mod]
        omega
      · show wu _ = _
        rw [wu_mod]
        omega
    unfold hb
    by_cases ht : 9223372036854775808 ≤ r
    · rw [decide_eq_true ht, cond_true, sub (by omega)]
      exact ⟨rfl, rfl⟩
    · rw [decide_eq_false ht, cond_false]
      have e : (2 * r) % 18446744073709551616 = 2 * r := by omega
      by_cases hle : b ≤ 2 * r + bit
      · rw [e, decide_eq_true hle, cond_true, ← e, sub hle]
        exact ⟨rfl, rfl⟩
      · rw [e, decide_eq_false hle, cond_false]
        obtain ⟨g1, g2⟩ := d2 (by omega)
        rw [g1] at hq
        rw [g1, g2]
        refine ⟨?_, rfl⟩
        show wu (qv * 2) = _
        rw [wu_mod]
        omega
theorem lgF_all : LgOk lgF := by
  intro h l y hh hl hy hlt
  obtain ⟨g1, g2⟩ := lgN_eq hh hl hy hlt 64 (Nat.le_refl _)
  have e : (h * 18446744073709551616 + l) / 2 ^ (64 - 64) = h * 18446744073709551616 + l := Int.ediv_one _
  rw [e] at g1 g2
  exact ⟨g1, g2⟩
end Go.Ra

namespace Go.Amd
open Go Go.Ab Go.Proofs
noncomputable def cx189 : Cx := { P := Tryz.prog, n := 58, tab := [], mtab := [], refs := [], keeps := [0, 1, 2, 3, 4, 5, 12, 13, 14, 18, 31, 47], fuel := 9 }
noncomputable def alikeM : MSpec := fun args H => .req (Nat.ble args.length Tryz.f189.ntmps) (mfun cx189 Tryz.f189 args H)
theorem alikeM_ok : MSound Tryz.prog 189 alikeM := msound_fun (cx := cx189) (fn := Tryz.f189) (cx0_ok rfl rfl) (by kernel_rfl) (by kernel_rfl)
noncomputable def cx126 : Cx := { P := Tryz.prog, n := 150, tab := [], mtab := [(189, alikeM)], refs := [], keeps := [0, 1] }
abbrev rowXE : EC := .prod [.str, .int .i64, .sl (.int .u8), .int .i64, .int .i64]
abbrev RowX := List UInt8 × Int × Option (List Int) × Int × Int
@[irreducible] def rowsX : List RowX := [
  ([109, 111, 118, 46, 114, 114], 1, some [137], 0, 2),
  ([109, 111, 118, 46, 114, 105], 2, some [184], 0, 2),
  ([109, 111, 118, 46, 114, 115], 3, some [199], 0, 2),
  ([109, 111, 118, 46, 114, 109], 4, some [139], 0, 2),
  ([109, 111, 118, 108, 46, 114, 109], 4, some [139], 0, 0),
  ([109, 111, 118, 115, 108, 46, 114, 109], 4, some [99], 0, 2),
  ([109, 111, 118, 122, 98, 46, 114, 109], 4, some [15, 182], 0, 2),
  ([108, 101, 97], 4, some [141], 0, 2),
  ([109, 111, 118, 46, 109, 114], 4, some [137], 0, 2),
  ([109, 111, 118, 108, 46, 109, 114], 4, some [137], 0, 0),
  ([109, 111, 118, 98, 46, 109, 114], 4, some [136], 0, 1),
  ([109, 111, 118, 46, 102, 115], 5, some [139], 0, 2),
  ([97, 100, 100, 46, 114, 114], 1, some [1], 0, 2),
  ([111, 114, 46, 114, 114], 1, some [9], 0, 2),
  ([97, 110, 100, 46, 114, 114], 1, some [33], 0, 2),
  ([115, 117, 98, 46, 114, 114], 1, some [41], 0, 2),
  ([120, 111, 114, 46, 114, 114], 1, some [49], 0, 2),
  ([99, 109, 112, 46, 114, 114], 1, some [57], 0, 2),
  ([97, 100, 100, 46, 114, 109], 4, some [3], 0, 2),
  ([111, 114, 46, 114, 109], 4, some [11], 0, 2),
  ([97, 110, 100, 46, 114, 109], 4, some [35], 0, 2),
  ([115, 117, 98, 46, 114, 109], 4, some [43], 0, 2),
  ([120, 111, 114, 46, 114, 109], 4, some [51], 0, 2),
  ([99, 109, 112, 46, 114, 109], 4, some [59], 0, 2),
  ([97, 100, 100, 46, 114, 105], 6, some [131], 0, 2),
  ([111, 114, 46, 114, 105], 6, some [131], 1, 2),
  ([97, 110, 100, 46, 114, 105], 6, some [131], 4, 2),
  ([115, 117, 98, 46, 114, 105], 6, some [131], 5, 2),
  ([120, 111, 114, 46, 114, 105], 6, some [131], 6, 2),
  ([99, 109, 112, 46, 114, 105], 6, some [131], 7, 2),
  ([116, 101, 115, 116, 46, 114, 114], 1, some [133], 0, 2),
  ([105, 109, 117, 108, 46, 114, 114], 7, some [15, 175], 0, 2),
  ([110, 111, 116], 8, some [247], 2, 2),
  ([110, 101, 103], 8, some [247], 3, 2),
  ([109, 117, 108], 8, some [247], 4, 2),
  ([100, 105, 118], 8, some [247], 6, 2),
  ([105, 100, 105, 118], 8, some [247], 7, 2),
  ([99, 113, 111], 9, some [153], 0, 2),
  ([115, 104, 108, 46, 114, 105], 10, some [193], 4, 2),
  ([115, 104, 114, 46, 114, 105], 10, some [193], 5, 2),
  ([115, 97, 114, 46, 114, 105], 10, some [193], 7, 2),
  ([115, 104, 108, 46, 114, 99], 8, some [211], 4, 2),
  ([115, 104, 114, 46, 114, 99], 8, some [211], 5, 2),
  ([115, 97, 114, 46, 114, 99], 8, some [211], 7, 2),
  ([99, 109, 111, 118], 11, some [15, 64], 0, 2),
  ([112, 117, 115, 104], 12, some [80], 0, 0),
  ([112, 111, 112], 12, some [88], 0, 0),
  ([99, 97, 108, 108], 13, some [232], 0, 0),
  ([106, 109, 112], 13, some [233], 0, 0),
  ([106, 109, 112, 46, 115], 14, some [235], 0, 0),
  ([99, 97, 108, 108, 46, 114], 8, some [255], 2, 0),
  ([106, 109, 112, 46, 114], 8, some [255], 4, 0),
  ([106, 99, 99], 15, some [15, 128], 0, 0),
  ([106, 99, 99, 46, 115], 16, some [112], 0, 0),
  ([114, 101, 116], 9, some [195], 0, 0),
  ([115, 121, 115, 99, 97, 108, 108], 9, some [15, 5], 0, 0),
  ([110, 111, 112], 9, some [144], 0, 0),
  ([117, 100, 50], 9, some [15, 11], 0, 0)]
theorem table_run : (dfun cx126 Tryz.f126 []).run = some (.sl rowXE rowsX [] .ro) := by kernel_rfl
def tableS : Ab.Spec := fun args => match args with
  | [] => .leaf (.sl rowXE rowsX [] .ro)
  | _ => .fail
theorem tableS_ok : Sound Tryz.prog 126 tableS := by
  intro args out h
  unfold tableS at h
  split at h
  rotate_left
  · cases h
  simp only [Tree.run, Option.some.injEq] at h
  subst h
  exact pcall_fun' (cx := cx126) (fn := Tryz.f126) (cx1_ok (.nil _) (.cons alikeM_ok (.nil _)) rfl rfl) (by kernel_rfl) (by kernel_rfl) (by kernel_rfl) table_run
noncomputable def cx69 : Cx := { P := Tryz.prog, n := 25, tab := [(126, tableS)], mtab := [], refs := [], keeps := [0, 2, 3, 4, 5, 10, 19], fuel := 60 }
theorem cxXf_ok : CxOk cx69 := cx1_ok (.cons tableS_ok (.nil _)) (.nil _) rfl rfl
def zeroX : RowX := ([], 0, none, 0, 0)
def findLX (nm : List UInt8) (l : List RowX) : Option RowX := l.find? fun r => strEq r.1 nm
def frowX (nm : List UInt8) : RowX := (findLX nm rowsX).getD zeroX
def fokX (nm : List UInt8) : Bool := (findLX nm rowsX).isSome
def slO (o : Option (List Int)) : V := match o with
  | none => nilSl
  | some l => .sl (.int .u8) l [] .ro
def rowXL (r : RowX) : List V := [.str r.1, .int .i64 r.2.1, slO r.2.2.1, .int .i64 r.2.2.2.1, .int .i64 r.2.2.2.2]
def rowV (r : RowX) : V := .agg (rowXL r)
def findXT (nm : List UInt8) : List RowX → Tree V
  | [] => .leaf (.tup [.agg (rowXL zeroX), .bool false])
  | r :: l => .br (strEq r.1 nm) (.leaf (.tup [.agg (rowXL r), .bool true])) (findXT nm l)
theorem findXT_eq (nm : List UInt8) : (dfun cx69 Tryz.f69 [.str nm]).out = (findXT nm rowsX).out := by kernel_rfl
theorem findXT_run (nm : List UInt8) : ∀ l, (findXT nm l).run = some (.tup [.agg (rowXL ((findLX nm l).getD zeroX)), .bool (findLX nm l).isSome])
  | [] => rfl
  | r :: l => by
    unfold findXT findLX
    rw [br_run, List.find?_cons]
    cases strEq r.1 nm
    · exact findXT_run nm l
    · rfl
theorem findX_ok (nm : List UInt8) : PCall Tryz.prog 69 [.str nm] (.tup [rowV (frowX nm), .bool (fokX nm)]) :=
  pcall_fun' (cx := cx69) (fn := Tryz.f69) cxXf_ok (by kernel_rfl) (by kernel_rfl) (by kernel_rfl) ((Tree.out_run _).symm.trans ((findXT_eq nm).trans ((Tree.out_run _).trans (findXT_run nm rowsX))))
end Go.Amd

namespace Go.Amd
open Go Go.Ab Go.Proofs
def prefC (r : Int) : Int := cond (r == 0) 0 (cond (r == 2) 1 2)
def opC (o : Option (List Int)) : Int := match o with
  | some [a] => a
  | some [a, b] => 256 * a + b
  | _ => 0
def formC (f : Int) : Int := ([0, 7, 2, 4, 9, 10, 6, 8, 3, 0, 5, 8, 1, 11, 12, 11, 12] : List Int).getD f.toNat 0
def condC (f : Int) : Bool := f == 11 || f == 15 || f == 16
def longC (f : Int) : Bool := f == 3 || f == 4 || f == 5 || f == 6 || f == 13 || f == 15
def shortC (f : Int) : Bool := f == 14 || f == 16
def lowC (f : Int) : Int := cond (f == 2) (-9223372036854775808) (cond (longC f) (-2147483648) (cond (shortC f) (-128) 0))
def highC (f : Int) : Int := cond (f == 2) 9223372036854775807 (cond (longC f) 2147483647 (cond (shortC f) 127 (cond (f == 10) 63 0)))
def opsC (f : Int) : List UInt8 :=
  cond (f == 1 || f == 7) [65, 66] (cond (f == 2 || f == 3 || f == 6 || f == 10 || f == 5) [65, 105] (cond (f == 4) [65, 109] (cond (f == 8 || f == 12) [65] (cond (f == 11) [65, 66, 99] (cond (f == 13 || f == 14) [106] (cond (f == 15 || f == 16) [99, 106] []))))))
def conv (x : RowX) : RowT := (x.1, prefC x.2.2.2.2, opC x.2.2.1, formC x.2.1, x.2.2.2.1, condC x.2.1, lowC x.2.1, highC x.2.1, opsC x.2.1)
theorem rows_conv : rowsX.map conv = rowsL := by kernel_rfl
theorem find_conv (nm : List UInt8) : findL nm rowsL = (findLX nm rowsX).map conv := by
  unfold findL findLX
  rw [← rows_conv, List.find?_map]
  rfl
theorem fok_eq (nm : List UInt8) : fok nm = fokX nm := by
  unfold fok fokX
  rw [find_conv]
  cases findLX nm rowsX <;> rfl
theorem frow_eq {nm : List UInt8} (h : fokX nm = true) : frow nm = conv (frowX nm) ∧ frowX nm ∈ rowsX := by
  unfold fokX at h
  obtain ⟨r, hr⟩ := Option.isSome_iff_exists.1 h
  have h1 : frowX nm = r := by unfold frowX; rw [hr]; rfl
  refine ⟨?_, by rw [h1]; exact List.mem_of_find?_eq_some hr⟩
  unfold frow
  rw [find_conv, hr, h1]
  rfl
def isRow (nm : List UInt8) (x : RowX) : Bool := match findLX nm rowsX with
  | some y => y == x
  | none => false
theorem isRow_to {nm : List UInt8} {x : RowX} (h : isRow nm x = true) : findLX nm rowsX = some x := by
  unfold isRow at h
  cases hf : findLX nm rowsX
  · rw [hf] at h; cases h
  · rw [hf] at h; exact congrArg some (eq_of_beq h)
def findAt (x : RowX) : Ab.Spec := fun args => match args with
  | [.str nm] => .req (isRow nm x) (.leaf (.tup [.agg (rowXL x), .bool true]))
  | _ => .fail
theorem findAt_ok (x : RowX) : Sound Tryz.prog 69 (findAt x) := by
  intro args out h
  unfold findAt at h
  split at h
  rotate_left
  · cases h
  rename_i nm
  obtain ⟨h1, h⟩ := req_run h
  have h := leaf_out h
  subst h
  have hx : findLX nm rowsX = some x := isRow_to h1
  have := findX_ok nm
  unfold frowX fokX rowV at this
  rw [hx] at this
  exact this
def findNo : Ab.Spec := fun args => match args with
  | [.str nm] => .req (!fokX nm) (.leaf (.tup [.agg (rowXL zeroX), .bool false]))
  | _ => .fail
theorem findNo_ok : Sound Tryz.prog 69 findNo := by
  intro args out h
  unfold findNo at h
  split at h
  rotate_left
  · cases h
  rename_i nm
  obtain ⟨h1, h⟩ := req_run h
  have h := leaf_out h
  subst h
  have hf : fokX nm = false := by simpa using h1
  have hn : findLX nm rowsX = none := by
    unfold fokX at hf
    cases hl : findLX nm rowsX
    · rfl
    · rw [hl] at hf; cases hf
  have := findX_ok nm
  unfold frowX fokX rowV at this
  rw [hn] at this
  exact this
theorem row_of {nm : List UInt8} (h : fokX nm = true) : findLX nm rowsX = some (frowX nm) ∧ frowX nm ∈ rowsX ∧ isRow nm (frowX nm) = true := by
  unfold fokX at h
  obtain ⟨r, hr⟩ := Option.isSome_iff_exists.1 h
  have h1 : frowX nm = r := by unfold frowX; rw [hr]; rfl
  refine ⟨by rw [h1]; exact hr, by rw [h1]; exact List.mem_of_find?_eq_some hr, ?_⟩
  unfold isRow
  rw [hr, h1]
  exact beq_self_eq_true _
theorem of_map_eq {α β : Type} {f g : α → β} {l : List α} (h : l.map f = l.map g) {x : α} (hx : x ∈ l) : f x = g x := List.map_inj_left.1 h x hx
end Go.Amd

namespace Go.Amd
open Go Go.Ab Go.Proofs
def bO (b : Bool) : Option V := some (.bool b)
noncomputable def cx70 : Cx := { P := Tryz.prog, n := 15, tab := [], mtab := [], refs := [], keeps := [0, 1, 4, 6] }
noncomputable def cx72 : Cx := { P := Tryz.prog, n := 17, tab := [], mtab := [], refs := [], keeps := [0, 2] }
noncomputable def cx73 : Cx := { P := Tryz.prog, n := 9, tab := [], mtab := [], refs := [], keeps := [0, 2] }
noncomputable def cx74 : Cx := { P := Tryz.prog, n := 9, tab := [], mtab := [], refs := [], keeps := [0, 2] }
def regX (u : Bool) (n : Int) : Bool := cond u (cond (decide (0 ≤ n)) (decide (n ≤ 15)) false) (n == 0)
def condX (d : Int) : Bool := cond (cond (decide (0 ≤ d)) (decide (d ≤ 9)) false) true (cond (decide (12 ≤ d)) (decide (d ≤ 15)) false)
def longX (n : Int) : Bool := cond (decide (-2147483648 ≤ n)) (decide (n < 2147483648)) false
def shortX (n : Int) : Bool := cond (decide (-128 ≤ n)) (decide (n < 128)) false
theorem regX_eq (u : Bool) (n : Int) : (dfun cx70 Tryz.f70 [.bool u, .int .i64 n]).fin = cond (!u) (bO (n == 0)) (cond (decide (0 ≤ n)) (bO (decide (n ≤ 15))) (bO false)) := by kernel_rfl
theorem condX_eq (d : Int) : (dfun cx72 Tryz.f72 [.int .i64 d]).fin = cond (decide (0 ≤ d)) (cond (decide (d ≤ 9)) (bO true) (cond (decide (12 ≤ d)) (bO (decide (d ≤ 15))) (bO false))) (cond (decide (12 ≤ d)) (bO (decide (d ≤ 15))) (bO false)) := by kernel_rfl
theorem longX_eq (n : Int) : (dfun cx73 Tryz.f73 [.int .i64 n]).fin = cond (decide (-2147483648 ≤ n)) (bO (decide (n < 2147483648))) (bO false) := by kernel_rfl
theorem shortX_eq (n : Int) : (dfun cx74 Tryz.f74 [.int .i64 n]).fin = cond (decide (-128 ≤ n)) (bO (decide (n < 128))) (bO false) := by kernel_rfl
def regXS : Ab.Spec := fun args => match args with
  | [.bool u, .int .i64 n] => .leaf (.bool (regX u n))
  | _ => .fail
def condXS : Ab.Spec := fun args => match args with
  | [.int .i64 d] => .leaf (.bool (condX d))
  | _ => .fail
def longXS : Ab.Spec := fun args => match args with
  | [.int .i64 n] => .leaf (.bool (longX n))
  | _ => .fail
def shortXS : Ab.Spec := fun args => match args with
  | [.int .i64 n] => .leaf (.bool (shortX n))
  | _ => .fail
theorem regXS_ok : Sound Tryz.prog 70 regXS := by
  intro args out h
  unfold regXS at h
  split at h
  rotate_left
  · cases h
  rename_i u n
  cases h
  refine pcall_fun' (cx := cx70) (fn := Tryz.f70) (cx0_ok rfl rfl) (by kernel_rfl) (by kernel_rfl) (by kernel_rfl) ?_
  rw [← Tree.fin_run, regX_eq]
  unfold regX
  cases u <;> cases decide (0 ≤ n) <;> rfl
theorem condXS_ok : Sound Tryz.prog 72 condXS := by
  intro args out h
  unfold condXS at h
  split at h
  rotate_left
  · cases h
  rename_i d
  cases h
  refine pcall_fun' (cx := cx72) (fn := Tryz.f72) (cx0_ok rfl rfl) (by kernel_rfl) (by kernel_rfl) (by kernel_rfl) ?_
  rw [← Tree.fin_run, condX_eq]
  unfold condX
  cases decide (0 ≤ d) <;> cases decide (d ≤ 9) <;> cases decide (12 ≤ d) <;> rfl
theorem longXS_ok : Sound Tryz.prog 73 longXS := by
  intro args out h
  unfold longXS at h
  split at h
  rotate_left
  · cases h
  rename_i n
  cases h
  refine pcall_fun' (cx := cx73) (fn := Tryz.f73) (cx0_ok rfl rfl) (by kernel_rfl) (by kernel_rfl) (by kernel_rfl) ?_
  rw [← Tree.fin_run, longX_eq]
  unfold longX
  cases decide (-2147483648 ≤ n) <;> rfl
theorem shortXS_ok : Sound Tryz.prog 74 shortXS := by
  intro args out h
  unfold shortXS at h
  split at h
  rotate_left
  · cases h
  rename_i n
  cases h
  refine pcall_fun' (cx := cx74) (fn := Tryz.f74) (cx0_ok rfl rfl) (by kernel_rfl) (by kernel_rfl) (by kernel_rfl) ?_
  rw [← Tree.fin_run, shortX_eq]
  unfold shortX
  cases decide (-128 ≤ n) <;> rfl
noncomputable def cx71 : Cx := { P := Tryz.prog, n := 52, tab := [(70, regXS)], mtab := [], refs := [], keeps := [0, 1, 2, 5, 22, 25] }
def placeX (b c d : Int) : Bool := cond (b == 17) (cond (c == 16) (d == 0) false) (cond (regX true b) (cond (c == 4) false (cond (c == 16) (d == 0) (cond (regX true c) (cond (d == 1) true (cond (d == 2) true (cond (d == 4) true (d == 8)))) false))) false)
def placeXT (_nm : List UInt8) (_a b c d _n : Int) : Tree V :=
  (.br (b == 17) (.br (c == 16) (.leaf (.bool (d == 0))) (.leaf (.bool false))) (.br (!regX true b) (.leaf (.bool false)) (.br (c == 4) (.leaf (.bool false)) (.br (c == 16) (.leaf (.bool (d == 0))) (.br (regX true c) (.br (d == 1) (.leaf (.bool true)) (.br (d == 2) (.leaf (.bool true)) (.br (d == 4) (.leaf (.bool true)) (.leaf (.bool (d == 8)))))) (.leaf (.bool false)))))))
theorem placeXT_eq (nm : List UInt8) (a b c d n : Int) : (dfun cx71 Tryz.f71 [.agg [.str nm, .int .i64 a, .int .i64 b, .int .i64 c, .int .i64 d, .int .i64 n]]).run = (placeXT nm a b c d n).run :=
  (show (dfun cx71 Tryz.f71 [.agg [.str nm, .int .i64 a, .int .i64 b, .int .i64 c, .int .i64 d, .int .i64 n]]).run = (placeXT nm a b c d n).out by kernel_rfl).trans (Tree.out_run _)
end Go.Amd

namespace Go.Amd
open Go Go.Ab Go.Proofs
theorem placeXT_run (nm : List UInt8) (a b c d n : Int) : (placeXT nm a b c d n).run = some (.bool (placeX b c d)) := by
  unfold placeXT placeX
  simp only [br_run]
  cases b == 17
  · cases regX true b
    · rfl
    · cases c == 4
      · cases c == 16
        · cases regX true c
          · rfl
          · cases d == 1 <;> cases d == 2 <;> cases d == 4 <;> rfl
        · rfl
      · rfl
  · cases c == 16 <;> rfl
def placeXS : Ab.Spec := fun args => match args with
  | [.agg [.str _, .int .i64 _, .int .i64 b, .int .i64 c, .int .i64 d, .int .i64 _]] => .leaf (.bool (placeX b c d))
  | _ => .fail
theorem placeXS_ok : Sound Tryz.prog 71 placeXS := by
  intro args out h
  unfold placeXS at h
  split at h
  rotate_left
  · cases h
  rename_i nm a b c d n
  cases h
  exact pcall_fun' (cx := cx71) (fn := Tryz.f71) (cx1_ok (ok1 regXS_ok) (.nil _) rfl rfl) (by kernel_rfl) (by kernel_rfl) (by kernel_rfl) ((placeXT_eq nm a b c d n).trans (placeXT_run nm a b c d n))
def findF (q : List UInt8 → Bool) (f : Int) (x : List UInt8) (op : List Int) (dg rx : Int) : Ab.Spec := fun args => match args with
  | [.str nm] => .req (q nm) (.leaf (.tup [.agg [.str x, .int .i64 f, .sl (.int .u8) op [] .ro, .int .i64 dg, .int .i64 rx], .bool true]))
  | _ => .fail
noncomputable def cxCk (q : List UInt8 → Bool) (f : Int) (x : List UInt8) (op : List Int) (dg rx : Int) : Cx := { P := Tryz.prog, n := Tryz.f35.ntmps, tab := [(69, findF q f x op dg rx), (70, regXS), (72, condXS), (73, longXS), (74, shortXS), (71, placeXS)], mtab := [], refs := [], keeps := [0, 1, 2, 3, 4, 5, 6, 7, 8, 16, 52, 79, 93, 94, 97, 98, 100, 110, 120, 127] }
noncomputable abbrev ckE (q : List UInt8 → Bool) (f : Int) (x : List UInt8) (op : List Int) (dg rx : Int) (nm : List UInt8) (a b c d n : Int) : Tree V := dfun (cxCk q f x op dg rx) Tryz.f35 [.agg [.str nm, .int .i64 a, .int .i64 b, .int .i64 c, .int .i64 d, .int .i64 n]]
def e13 : Option V := some (.int .i64 13)
def e3 : Option V := some (.int .i64 3)
def e0 : Option V := some (.int .i64 0)
def hasA (f : Int) : Bool := !(f == 9 || (f == 13 || (f == 14 || (f == 15 || f == 16))))
def twoX (f : Int) : Bool := f == 1 || (f == 7 || f == 11)
def cndX (f : Int) : Bool := f == 11 || (f == 15 || f == 16)
def noneX (f : Int) : Bool := f == 1 || (f == 7 || (f == 8 || (f == 9 || (f == 11 || f == 12))))
def shrtX (f : Int) : Bool := f == 14 || f == 16
def goodK (f a b c d : Int) (k : Option V) : Option V :=
  cond (regX (hasA f) a) (cond (f == 4) (cond (!placeX b c d) e13 k) (cond (regX (twoX f) b) (cond (c == 0) (cond (cndX f) (cond (!condX d) e13 k) (cond (!(d == 0)) e13 k)) e13) e13)) e13
def tailK (f n : Int) : Option V :=
  cond (noneX f) (cond (n != 0) e13 e0) (cond (f == 2) e0 (cond (f == 10) (cond (decide (0 ≤ n)) (cond (!decide (n ≤ 63)) e3 e0) e3) (cond (shrtX f) (cond (!shortX n) e3 e0) (cond (!longX n) e3 e0))))
def formsX : List Int := [1, 2, 3, 4, 5, 6, 7, 8, 9, 10, 11, 12, 13, 14, 15, 16]
noncomputable def ckO (q : List UInt8 → Bool) (f : Int) (x : List UInt8) (op : List Int) (dg rx : Int) (nm : List UInt8) (a b c d n : Int) : Option V := (ckE q f x op dg rx nm a b c d n).fin
def ckP (q : List UInt8 → Bool) (f : Int) (_ : List UInt8) (_ : List Int) (_ _ : Int) (nm : List UInt8) (a b c d n : Int) : Option V := cond (q nm) (goodK f a b c d (tailK f n)) none
theorem ck_all (q : List UInt8 → Bool) : formsX.map (ckO q) = formsX.map (ckP q) := by kernel_rfl
def okX (f a b c d : Int) : Bool := regX (hasA f) a && (cond (f == 4) (placeX b c d) (regX (twoX f) b && ((c == 0) && cond (cndX f) (condX d) (d == 0))))
def numX (f n : Int) : Int := cond (noneX f) (cond (n != 0) 13 0) (cond (f == 2) 0 (cond (f == 10) (cond (decide (0 ≤ n) && decide (n ≤ 63)) 0 3) (cond (cond (shrtX f) (shortX n) (longX n)) 0 3)))
def chkX (f a b c d n : Int) : Int := cond (okX f a b c d) (numX f n) 13
theorem goodK_eq (f a b c d n : Int) : goodK f a b c d (tailK f n) = some (.int .i64 (chkX f a b c d n)) := by
  unfold goodK tailK chkX okX numX e13 e3 e0
  cases regX (hasA f) a
  · rfl
  cases f == 4
  · cases regX (twoX f) b
    · rfl
    cases c == 0
    · rfl
    cases cndX f
    · cases d == 0
      · rfl
      cases noneX f
      · cases f == 2
        · cases f == 10
          · cases shrtX f
            · cases longX n <;> rfl
            · cases shortX n <;> rfl
          · cases decide (0 ≤ n) <;> cases decide (n ≤ 63) <;> rfl
        · rfl
      · cases n != 0 <;> rfl
    · cases condX d
      · rfl
      cases noneX f
      · cases f == 2
        · cases f == 10
          · cases shrtX f
            · cases longX n <;> rfl
            · cases shortX n <;> rfl
          · cases decide (0 ≤ n) <;> cases decide (n ≤ 63) <;> rfl
        · rfl
      · cases n != 0 <;> rfl
  · cases placeX b c d
    · rfl
    cases noneX f
    · cases f == 2
      · cases f == 10
        · cases shrtX f
          · cases longX n <;> rfl
          · cases shortX n <;> rfl
        · cases decide (0 ≤ n) <;> cases decide (n ≤ 63) <;> rfl
      · rfl
    · cases n != 0 <;> rfl
theorem formX_in : rowsX.all (fun x => formsX.contains x.2.1 && x.2.2.1.isSome) = true := by kernel_rfl
theorem row_op {y : RowX} (hy : y ∈ rowsX) : ∃ op, y.2.2.1 = some op ∧ y.2.1 ∈ formsX := by
  have h := List.all_eq_true.1 formX_in _ hy
  obtain ⟨h1, h2⟩ := Bool.and_eq_true_iff.1 h
  obtain ⟨op, ho⟩ := Option.isSome_iff_exists.1 h2
  exact ⟨op, ho, by simpa using h1⟩
theorem findF_ok {y : RowX} {op : List Int} (ho : y.2.2.1 = some op) : Sound Tryz.prog 69 (findF (fun nm => isRow nm y) y.2.1 y.1 op y.2.2.2.1 y.2.2.2.2) := by
  intro args out h
  unfold findF at h
  split at h
  rotate_left
  · cases h
  rename_i nm
  refine findAt_ok y _ _ ?_
  rw [← h]
  show (Tree.req _ (.leaf (V.tup [.agg [.str y.1, .int .i64 y.2.1, slO y.2.2.1, .int .i64 y.2.2.2.1, .int .i64 y.2.2.2.2], .bool true]))).run = _
  rw [ho]
  rfl
noncomputable def cxCn : Cx := { P := Tryz.prog, n := Tryz.f35.ntmps, tab := [(69, findNo), (70, regXS), (72, condXS), (73, longXS), (74, shortXS), (71, placeXS)], mtab := [], refs := [], keeps := [0, 1, 2, 3, 4, 5, 6, 7, 8, 16, 52, 79, 93, 94, 97, 98, 100, 110, 120, 127] }
theorem ckNo_eq (nm : List UInt8) (a b c d n : Int) : (dfun cxCn Tryz.f35 [.agg [.str nm, .int .i64 a, .int .i64 b, .int .i64 c, .int .i64 d, .int .i64 n]]).fin = cond (!fokX nm) (some (.int .i64 7)) none := by kernel_rfl
def checkX (i : InsT) : Int := cond (fokX i.1) (chkX (frowX i.1).2.1 i.2.1 i.2.2.1 i.2.2.2.1 i.2.2.2.2.1 i.2.2.2.2.2) 7
def checkS : Ab.Spec := fun args => match args with
  | [.agg [.str nm, .int .i64 a, .int .i64 b, .int .i64 c, .int .i64 d, .int .i64 n]] => .leaf (.int .i64 (checkX (nm, a, b, c, d, n)))
  | _ => .fail
theorem tab_ok {s : Ab.Spec} (h : Sound Tryz.prog 69 s) : TabOk Tryz.prog [(69, s), (70, regXS), (72, condXS), (73, longXS), (74, shortXS), (71, placeXS)] :=
  .cons h (.cons regXS_ok (.cons condXS_ok (.cons longXS_ok (.cons shortXS_ok (ok1 placeXS_ok)))))
theorem checkS_ok : Sound Tryz.prog 35 checkS := by
  intro args out h
  unfold checkS at h
  split at h
  rotate_left
  · cases h
  rename_i nm a b c d n
  cases h
  unfold checkX
  cases hf : fokX nm
  · refine pcall_fun' (cx := cxCn) (fn := Tryz.f35) (cx1_ok (tab_ok findNo_ok) (.nil _) rfl rfl) (by kernel_rfl) (by kernel_rfl) (by kernel_rfl) ?_
    rw [← Tree.fin_run, ckNo_eq, hf]
    rfl
  · obtain ⟨_, hx, hr⟩ := row_of hf
    obtain ⟨op, ho, hm⟩ := row_op hx
    generalize frowX nm = y at hx hr ho hm
    refine pcall_fun' (cx := cxCk (fun nm => isRow nm y) y.2.1 y.1 op y.2.2.2.1 y.2.2.2.2) (fn := Tryz.f35) (cx1_ok (tab_ok (findF_ok ho)) (.nil _) rfl rfl) (by kernel_rfl) (by kernel_rfl) (by kernel_rfl) ?_
    rw [← Tree.fin_run]
    have key := of_map_eq (ck_all (fun nm => isRow nm y)) hm
    have k2 := congrFun (congrFun (congrFun (congrFun (congrFun (congrFun (congrFun (congrFun (congrFun (congrFun key y.1) op) y.2.2.2.1) y.2.2.2.2) nm) a) b) c) d) n
    unfold ckO ckP at k2
    refine k2.trans ?_
    rw [goodK_eq]
    show cond (isRow nm y) _ none = _
    rw [hr]
    rfl
end Go.Amd
