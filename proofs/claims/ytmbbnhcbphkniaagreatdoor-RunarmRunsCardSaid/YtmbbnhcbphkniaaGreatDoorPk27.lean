/-
  runarm: what the program's rows and the document's come to, alike: loads and stores. Conditions: none.
-/
import Derived.Test.YtmbbnhcbphkniaaGreatDoorPk26
import Derived.Test.YtmbbnhcbphkniaaGreatDoorPk22
import Derived.Test.YtmbbnhcbphkniaaGreatDoorPk21
import Derived.Test.YtmbbnhcbphkniaaGreatDoorPk15
import Derived.Test.YtmbbnhcbphkniaaGreatDoorPk13
set_option linter.unusedVariables false
set_option linter.unusedSimpArgs false
namespace Go.Ra
open Go Go.Ab Go.Proofs

/-- The address of a load or a store. -/
def adF (s : CpuT) (b m : Int) : Int := wu (s.x.getD b.toNat 0 + wu m)
theorem adF_rng (s : CpuT) (b m : Int) : rng64 (adF s b m) = true := rng_wu _
theorem rng_ldN {A B C D E : List Int} {x : Int} : ∀ (n : Nat) (v : Int), rng64 v = true → rng64 (ldN A B C D E x n v) = true
  | 0, _, h => h
  | n + 1, v, _ => rng_ldN n _ (rng_wu _)
theorem valLd_rng (A B C D E : List Int) (x n : Int) : rng64 (valLd A B C D E x n) = true := by
  unfold valLd
  cases mayB x n 4
  · rfl
  · exact rng_ldN _ 0 rfl
theorem preM_R (nm : List UInt8) (K : List V → Option Res) {s : CpuT} {a b c d : Int} {A B C D E : List Int} (h : Hy s a b c d A B C D E) (m : Int) :
    ∃ t, (preK s nm a b c d m 4 fun _ _ _ S => inX b S (K S)) = K (s.l ++ t) := by
  refine ⟨(.ptr 1 0 :: [.str nm, .int .i64 a, .int .i64 b, .int .i64 c, .int .i64 d, .int .i64 m, .int .u64 (nxF s 4)]), ?_⟩
  unfold preK q stC
  rw [h.b, and31_ok, decide_eq_true h.d0, cond_true, cond_true, cond_true]
  exact inX_eq h.s.len h.b _ _
theorem memG_R (K : Int → List V → Option Res) {s : CpuT} {a b c d : Int} {A B C D E : List Int} (h : Hy s a b c d A B C D E) (m : Int) :
    memG K s b c m = K (adF s b m) (sG s [66]) := by
  unfold memG q
  rw [h.b, and31_ok, cond_true, cond_true, cond_true, cond_true, getF_eq h.s.len h.b]
  rfl
theorem atF_R {s : CpuT} {b : Int} (hs : s.x.length = 32) (hb : okReg b = true) (m : Int) (t : List V) : atF b m (s.l ++ t) = adF s b m := by
  unfold atF adF
  rw [xAt_eq hs hb]
theorem ldK_R (s : CpuT) (nx : Int) {x : Int} (hx : rng64 x = true) (n : Int) {A B C D E : List Int} (hl : lens5 A B C D E = true) (k : Int → Option Res) :
    ldK s nx x n A B C D E k = cond (mayB x n 4) (k (valLd A B C D E x n)) (errK s 21 (memO A B C D E)) := by
  unfold ldK q errLd retK
  rw [hl, hx]
  cases mayB x n 4 <;> rfl
theorem ldC_R {x : Int} (hx : rng64 x = true) (n : Int) {A B C D E : List Int} (hl : lens5 A B C D E = true) (k : Int → Option Res) : ldC x n A B C D E k = k (valLd A B C D E x n) := by
  unfold ldC q
  rw [hl, hx]
  rfl
theorem al_ld (n1 n2 : List UInt8) (n : Int) (f g : Int → Int) (hg : ∀ x, g x = f x) (hf : ∀ x, rng64 x = true → rng64 (f x) = true) : Alike (ldR n1 n f) (ldG n2 n g) Any := by
  intro s a b c d m A B C D E h _
  obtain ⟨t, e⟩ := preM_R n1 (fun S => ldK s (nxF s 4) (atF b m S) n A B C D E fun x => setK a (f x) s.l fun L h => finK s L (h (nxF s 4)) (memO A B C D E)) h m
  unfold ldR ldG
  rw [e, memG_R _ h, atF_R h.s.len h.b, ldK_R _ _ (adF_rng _ _ _) _ h.l, ldC_R (adF_rng _ _ _) _ h.l, setK_R h.a h.s.len, setKG_R h.s.len h.a h.s.len, hg]
  unfold errLd
  cases mayB (adF s b m) n 4
  · exact both_err h.s 21 h.l
  · exact both_fin h.s (fine_set h.s _ (hf _ (valLd_rng _ _ _ _ _ _ _))) (nx_rng _ _) 0 h.l
theorem setLt_eq {s : CpuT} (hs : s.x.length = 32) {a : Int} (ha : okReg a = true) (v : Int) (t : List V) : ∃ t', setL a v (s.l ++ t) = (setS a v s).l ++ t' := by
  refine ⟨setI .u64 (oX a) v (0 + s.l.length) t, ?_⟩
  rw [← setL_eq hs ha]
  unfold setL
  exact setI_append _ _ _
theorem al_ldp (n1 n2 : List UInt8) : Alike (ldpR n1) (ldpG n2) fun c _ => okReg c = true := by
  intro s a b c d m A B C D E h hc
  obtain ⟨t, e⟩ := preM_R n1 (fun S => ldK s (nxF s 4) (atF b m S) 8 A B C D E fun x => ldK s (nxF s 4) (wu (atF b m S + 8)) 8 A B C D E fun y => setK a x s.l fun L h =>
    cond (c != 31) (putK c y (setL a x S) L fun L g => finK s L (g (h (nxF s 4))) (memO A B C D E)) (finK s L (h (nxF s 4)) (memO A B C D E))) h m
  unfold ldpR ldpG
  rw [e, memG_R _ h, atF_R h.s.len h.b, ldK_R _ _ (adF_rng _ _ _) _ h.l, ldK_R _ _ (rng_wu _) _ h.l, ldC_R (adF_rng _ _ _) _ h.l, ldC_R (rng_wu _) _ h.l]
  unfold errLd
  cases mayB (adF s b m) 8 4
  · exact both_err h.s 21 h.l
  cases mayB (wu (adF s b m + 8)) 8 4
  · exact both_err h.s 21 h.l
  have hv := valLd_rng A B C D E (adF s b m) 8
  have hw := valLd_rng A B C D E (wu (adF s b m + 8)) 8
  generalize valLd A B C D E (adF s b m) 8 = v at hv
  generalize valLd A B C D E (wu (adF s b m + 8)) 8 = w at hw
  show Both s (setK a v s.l fun L h => cond (c != 31) (putK c w (setL a v (s.l ++ t)) L fun L g => finK s L (g (h (nxF s 4))) (memO A B C D E)) (finK s L (h (nxF s 4)) (memO A B C D E)))
    (setKG a v (sG s [66]) s.l fun L => q (okReg c) (finG s (setLG (sG s [66]) 67 c w L) (nxF s 4) 0 (refO A B C D E)))
  have e2 : (setKG a v (sG s [66]) s.l fun L => q (okReg c) (finG s (setLG (sG s [66]) 67 c w L) (nxF s 4) 0 (refO A B C D E))) = finC s (setS c w (setS a v s)) (nxF s 4) 0 (refO A B C D E) := by
    unfold setKG q
    rw [h.a, hc, cond_true, setLG_eq h.s.len h.s.len h.a]
    show finG s (setLG (sG s [66]) 67 c w (setS a v s).l) _ _ _ = _
    rw [setLG_eq h.s.len (setS_len h.s.len a v) hc]
    rfl
  rw [e2]
  have e1 : (setK a v s.l fun L h => cond (c != 31) (putK c w (setL a v (s.l ++ t)) L fun L g => finK s L (g (h (nxF s 4))) (memO A B C D E)) (finK s L (h (nxF s 4)) (memO A B C D E))) = finC s (setS c w (setS a v s)) (nxF s 4) 0 (memO A B C D E) := by
    unfold setK q
    rw [h.a, cond_true]
    show cond (c != 31) (putK c w (setL a v (s.l ++ t)) (setL a v s.l) fun L g => finK s L (g (nxS (oX a) v (nxF s 4))) (memO A B C D E)) (finK s (setL a v s.l) (nxS (oX a) v (nxF s 4)) (memO A B C D E)) = _
    rw [nxS_set h.a, setL_eq h.s.len h.a]
    have e4 : setS c w (setS a v s) = cond (c == 31) (setS a v s) (putS c w (setS a v s)) := rfl
    rw [e4]
    cases h31 : c == 31
    · have h32 : (c != 31) = true := by rw [bne, h31]; rfl
      obtain ⟨t', e5⟩ := setLt_eq h.s.len h.a v t
      rw [h32, cond_true, cond_false, e5]
      unfold putK
      rw [inX_eq (setS_len h.s.len a v) hc, putX_eq (setS_len h.s.len a v) hc]
      show finK s (putS c w (setS a v s)).l (nxS (1 + c.toNat * 1) w (nxF s 4)) (memO A B C D E) = _
      rw [nxS_put hc]
      rfl
    · have h32 : (c != 31) = false := by rw [bne, h31]; rfl
      rw [h32, cond_false, cond_true]
      rfl
  rw [e1]
  exact both_fin h.s (fine_set (fine_set h.s _ hv) _ hw) (nx_rng _ _) 0 h.l

/-! Stores. -/

theorem lens5_stB {A B C D E : List Int} (h : lens5 A B C D E = true) (x n y : Int) : lens5 (stB 1 x n y A) (stB 2 x n y B) (stB 16 x n y C) (stB 17 x n y D) (stB 32 x n y E) = true := by
  unfold stB
  cases mayB x n 2
  · exact h
  · exact lens5_stN _ _ h
theorem stK_R {x : Int} (hx : rng64 x = true) (n v : Int) {A B C D E : List Int} (hl : lens5 A B C D E = true) (k : List Int → List Int → List Int → List Int → List Int → Option Res) :
    stK x n v A B C D E k = k (stB 1 x n v A) (stB 2 x n v B) (stB 16 x n v C) (stB 17 x n v D) (stB 32 x n v E) := by
  unfold stK q
  rw [hl, hx]
  rfl
theorem stB_no {x n : Int} (h : mayB x n 2 = false) (k v : Int) (l : List Int) : stB k x n v l = l := by
  unfold stB
  rw [h]
  rfl
theorem al_st (n1 n2 : List UInt8) (n : Int) : Alike (strR n1 n) (strG n2 n) Any := by
  intro s a b c d m A B C D E h _
  obtain ⟨t, e⟩ := preM_R n1 (fun S => q (okReg a) (stK (atF b m S) n (regF S a) A B C D E fun A' B' C' D' E' => retK s s.l (nxF s 4) (memO A' B' C' D' E') (errSt (atF b m S) n))) h m
  unfold strR strG
  rw [e, memG_R _ h, atF_R h.s.len h.b, h.a, q_true, q_true, stK_R (adF_rng _ _ _) _ _ h.l, stK_R (adF_rng _ _ _) _ _ h.l, regF_eq h.s.len h.a, getF_eq h.s.len h.a]
  have hl := lens5_stB h.l (adF s b m) n (xr s a)
  unfold errSt retK
  cases hm : mayB (adF s b m) n 2
  · exact both_err h.s 21 hl
  · exact both_fin h.s h.s (nx_rng _ _) 0 hl
theorem right_ok (k : Int) : (and2 (pgR k (fun R => R) 0) != 0) = okP 2 k := by
  unfold okP pgR
  cases k == 1 <;> cases k == 2 <;> cases k == 16 <;> cases k == 17 <;> cases k == 32 <;> rfl
theorem wrB_may {x : Int} (h : rng64 x = true) : wrB x = mayB x 8 2 := by
  obtain ⟨h0, h1⟩ := rng_spec h
  have e : endF x 8 = wu (x + 7) := by
    have a : endF x 8 = ((x + 8 % 18446744073709551616) % 18446744073709551616 - 1) % 18446744073709551616 := rfl
    have b : wu (x + 7) = (x + 7) % 18446744073709551616 := rfl
    rw [a, b]
    omega
  have e1 : decide (x ≤ 18446744073709551608) = decide (x ≤ wu (x + 7)) := by
    have b : wu (x + 7) = (x + 7) % 18446744073709551616 := rfl
    rw [b]
    apply decide_eq_decide.2
    omega
  unfold wrB mayB rightF
  rw [e, right_ok, right_ok, e1]
  cases hp : pgF (wu (x + 7)) == pgF x
  · rw [Bool.false_or]
  · rw [beq_iff_eq.1 hp, Bool.true_or, Bool.and_true, Bool.and_self]
theorem al_stp (n1 n2 : List UInt8) : Alike (stpR n1) (stpG n2) fun c _ => okReg c = true := by
  intro s a b c d m A B C D E h hc
  obtain ⟨t, e⟩ := preM_R n1 (fun S => (q (lens5 A B C D E) (cond (and2 (rightF (wu (atF b m S + 8))) == 0) (errK s 21 (memO A B C D E)) (q (lens5 A B C D E) (cond (and2 (rightF (wu (atF b m S + 15))) == 0) (errK s 21 (memO A B C D E))
    (cond (decide (wu (atF b m S + 15) < wu (atF b m S + 8))) (errK s 21 (memO A B C D E)) (q (okReg a) (stK (atF b m S) 8 (regF S a) A B C D E fun A B C D E =>
      cond (errSt (atF b m S) 8 != 0) (retK s s.l (nxF s 4) (memO A B C D E) (errSt (atF b m S) 8)) (q (okReg c) (stK (wu (atF b m S + 8)) 8 (regF S c) A B C D E fun A B C D E =>
        retK s s.l (nxF s 4) (memO A B C D E) (errSt (wu (atF b m S + 8)) 8))))))))))) h m
  have ga : getF (sG s [66]) 65 a = xr s a := getF_eq h.s.len h.a _ _
  have gc : getF (sG s [66]) 67 c = xr s c := getF_eq h.s.len hc _ _
  unfold stpR stpG
  rw [e, memG_R _ h, atF_R h.s.len h.b, h.a, hc, h.l, q_true, q_true, q_true, q_true, q_true, q_true, wrB_may (adF_rng _ _ _), wrB_may (rng_wu _), regF_eq h.s.len h.a, ga]
  have hx := adF_rng s b m
  generalize adF s b m = x at hx
  have e15 : wu (wu (x + 8) + 7) = wu (x + 15) := by
    have b : ∀ y, wu y = y % 18446744073709551616 := fun _ => rfl
    simp only [b]
    omega
  have hm2 : mayB (wu (x + 8)) 8 2 = (!(and2 (rightF (wu (x + 8))) == 0) && (!(and2 (rightF (wu (x + 15))) == 0) && !decide (wu (x + 15) < wu (x + 8)))) := by
    rw [← wrB_may (rng_wu _)]
    unfold wrB
    rw [e15]
    have e1 : decide (wu (x + 8) ≤ 18446744073709551608) = !decide (wu (x + 15) < wu (x + 8)) := by
      rw [← decide_not, ← e15]
      apply decide_eq_decide.2
      obtain ⟨h0, h1⟩ := rng_spec (rng_wu (x + 8))
      generalize wu (x + 8) = y at h0 h1
      have b : wu (y + 7) = (y + 7) % 18446744073709551616 := rfl
      rw [b]
      omega
    rw [e1, bne, bne]
    cases (and2 (rightF (wu (x + 8))) == 0) <;> cases (and2 (rightF (wu (x + 15))) == 0) <;> cases decide (wu (x + 15) < wu (x + 8)) <;> rfl
  have hl1 := lens5_stB h.l x 8 (xr s a)
  have hl2 := lens5_stB hl1 (wu (x + 8)) 8 (xr s c)
  cases h1 : (and2 (rightF (wu (x + 8))) == 0)
  rotate_left
  · rw [hm2, h1]
    cases mayB x 8 2 <;> exact both_err h.s 21 h.l
  cases h2 : (and2 (rightF (wu (x + 15))) == 0)
  rotate_left
  · rw [hm2, h1, h2]
    cases mayB x 8 2 <;> exact both_err h.s 21 h.l
  cases h3 : decide (wu (x + 15) < wu (x + 8))
  rotate_left
  · rw [hm2, h1, h2, h3]
    cases mayB x 8 2 <;> exact both_err h.s 21 h.l
  rw [h1, h2, h3] at hm2
  rw [hm2, cond_false, cond_false, cond_false, stK_R hx _ _ h.l, stK_R hx _ _ h.l]
  unfold errSt
  cases hm : mayB x 8 2
  · show Both s (errK s 21 (memO _ _ _ _ _)) (errK s 21 _)
    rw [stB_no hm, stB_no hm, stB_no hm, stB_no hm, stB_no hm]
    exact both_err h.s 21 h.l
  · show Both s (q true (stK (wu (x + 8)) 8 (regF (s.l ++ t) c) _ _ _ _ _ fun A B C D E => retK s s.l (nxF s 4) (memO A B C D E) (cond (mayB (wu (x + 8)) 8 2) 0 21)))
      (q true (stK (wu (x + 8)) 8 (getF (sG s [66]) 67 c) _ _ _ _ _ fun A B C D E => finG s s.l (nxF s 4) 0 (refO A B C D E)))
    rw [q_true, q_true, stK_R (rng_wu _) _ _ hl1, stK_R (rng_wu _) _ _ hl1, regF_eq h.s.len hc, gc, hm2]
    exact both_fin h.s h.s (nx_rng _ _) 0 hl2

end Go.Ra

namespace Go.Ra
open Go Go.Ab Go.Proofs

/-- Rows whose third operand is a register. -/
def cNames : List (List UInt8) := [[97, 100, 100], [97, 100, 100, 115], [115, 117, 98], [115, 117, 98, 115], [97, 110, 100], [111, 114, 114], [101, 111, 114], [97, 110, 100, 115], [108, 100, 112], [115, 116, 112]]
/-- Rows whose fourth operand is a register. -/
def dNames : List (List UInt8) := [[109, 97, 100, 100], [109, 115, 117, 98]]
def opOk (nm : List UInt8) (c d : Int) : Prop := (nm ∈ cNames → c ≤ 31) ∧ (nm ∈ dNames → d ≤ 31)
/-- Two rows of one name alike. -/
def AlikeN (nm : List UInt8) (r g : RunTy) : Prop := ∀ s a b c d m A B C D E, Hy s a b c d A B C D E → opOk nm c d → Int.tmod s.pc 4 = 0 → Both s (r s a b c d m 4 A B C D E) (g s a b c d m 4 A B C D E)
def AllA : List (List UInt8 × RunTy) → List (List UInt8 × RunTy) → Prop
  | x :: r, y :: t => x.1 = y.1 ∧ AlikeN x.1 x.2 y.2 ∧ AllA r t
  | _, _ => True
theorem an_any {nm : List UInt8} {r g : RunTy} (h : Alike r g Any) : AlikeN nm r g := fun s a b c d m A B C D E hy _ _ => h s a b c d m A B C D E hy trivial
theorem an_c {nm : List UInt8} {r g : RunTy} (h : Alike r g CReg) (hn : nm ∈ cNames := by simp [cNames]) : AlikeN nm r g := fun s a b c d m A B C D E hy ho _ => h s a b c d m A B C D E hy (ho.1 hn)
theorem an_c2 {nm : List UInt8} {r g : RunTy} (h : Alike r g fun c _ => okReg c = true) (hn : nm ∈ cNames := by simp [cNames]) : AlikeN nm r g := fun s a b c d m A B C D E hy ho _ => h s a b c d m A B C D E hy (okReg_of hy.c0 (ho.1 hn))
theorem an_d {nm : List UInt8} {r g : RunTy} (h : Alike r g DReg) (hn : nm ∈ dNames := by simp [dNames]) : AlikeN nm r g := fun s a b c d m A B C D E hy ho _ => h s a b c d m A B C D E hy (ho.2 hn)
theorem an_pc {nm : List UInt8} {r g : RunTy} (h : PcOk r g) : AlikeN nm r g := fun s a b c d m A B C D E hy _ hp => h s a b c d m A B C D E hy hp
theorem lsl_rng (x y : Int) (_ : rng64 x = true) : rng64 (shlF x y) = true := rng_wu _
theorem lsr_rng (x y : Int) (h : rng64 x = true) : rng64 (shrF x y) = true := by
  obtain ⟨h0, h1⟩ := rng_spec h
  have hp : (0 : Int) ≤ 2 ^ (min y.toNat 64) := Int.le_of_lt (Int.pow_pos (by decide))
  have e : shrF x y = x / 2 ^ (min y.toNat 64) := Int.fdiv_eq_ediv_of_nonneg _ hp
  have a := Int.ediv_nonneg h0 hp
  have b := Int.ediv_le_self (2 ^ (min y.toNat 64)) h0
  rw [← e] at a b
  simp only [rng64, Bool.and_eq_true, decide_eq_true_eq]
  exact ⟨a, by omega⟩
theorem asr_rng (x y : Int) (_ : rng64 x = true) : rng64 (asrF x y) = true := rng_wu _
theorem all_alike (wd : Int → Int → Int × Int) (hw : WdOk wd) : AllA rowsR (rowsG wd) :=
  ⟨rfl, an_any (al_movn [109, 111, 118, 110] [109, 111, 118, 110]),
    rfl, an_any (al_movz [109, 111, 118, 122] [109, 111, 118, 122]),
    rfl, an_any (al_movk [109, 111, 118, 107] [109, 111, 118, 107]),
    rfl, an_any (al_addi [97, 100, 100, 46, 105] [97, 100, 100, 46, 105]),
    rfl, an_any (al_addsi [97, 100, 100, 115, 46, 105] [97, 100, 100, 115, 46, 105]),
    rfl, an_any (al_subi [115, 117, 98, 46, 105] [115, 117, 98, 46, 105]),
    rfl, an_any (al_subsi [115, 117, 98, 115, 46, 105] [115, 117, 98, 115, 46, 105]),
    rfl, an_c (al_op [97, 100, 100] [97, 100, 100] _ fun _ _ => rng_wu _),
    rfl, an_c (al_adds [97, 100, 100, 115] [97, 100, 100, 115]),
    rfl, an_c (al_op [115, 117, 98] [115, 117, 98] _ fun _ _ => rng_wu _),
    rfl, an_c (al_subs [115, 117, 98, 115] [115, 117, 98, 115]),
    rfl, an_c (al_op [97, 110, 100] [97, 110, 100] _ fun _ _ => rng_wu _),
    rfl, an_c (al_op [111, 114, 114] [111, 114, 114] _ fun _ _ => rng_wu _),
    rfl, an_c (al_op [101, 111, 114] [101, 111, 114] _ fun _ _ => rng_wu _),
    rfl, an_c (al_ands [97, 110, 100, 115] [97, 110, 100, 115]),
    rfl, an_any (al_bit [97, 110, 100, 46, 105] [97, 110, 100, 46, 105] _ fun _ _ => rng_wu _),
    rfl, an_any (al_bit [111, 114, 114, 46, 105] [111, 114, 114, 46, 105] _ fun _ _ => rng_wu _),
    rfl, an_any (al_bit [101, 111, 114, 46, 105] [101, 111, 114, 46, 105] _ fun _ _ => rng_wu _),
    rfl, an_any (al_andsi [97, 110, 100, 115, 46, 105] [97, 110, 100, 115, 46, 105]),
    rfl, an_d (al_madd [109, 97, 100, 100] [109, 97, 100, 100] wd hw),
    rfl, an_d (al_msub [109, 115, 117, 98] [109, 115, 117, 98] wd hw),
    rfl, an_any (al_udiv [117, 100, 105, 118] [117, 100, 105, 118]),
    rfl, an_any (al_sdiv [115, 100, 105, 118] [115, 100, 105, 118]),
    rfl, an_any (al_sh [108, 115, 108, 118] [108, 115, 108, 118] _ lsl_rng),
    rfl, an_any (al_sh [108, 115, 114, 118] [108, 115, 114, 118] _ lsr_rng),
    rfl, an_any (al_sh [97, 115, 114, 118] [97, 115, 114, 118] _ asr_rng),
    rfl, an_any (al_bf [115, 98, 102, 109] [115, 98, 102, 109] _),
    rfl, an_any (al_bf [117, 98, 102, 109] [117, 98, 102, 109] _),
    rfl, an_any (al_sel [99, 115, 101, 108] [99, 115, 101, 108] _ fun _ h => h),
    rfl, an_any (al_sel [99, 115, 105, 110, 99] [99, 115, 105, 110, 99] _ fun _ _ => rng_wu _),
    rfl, an_any (al_adr [97, 100, 114] [97, 100, 114]),
    rfl, an_any (al_adrp [97, 100, 114, 112] [97, 100, 114, 112]),
    rfl, an_any (al_ld [108, 100, 114, 98] [108, 100, 114, 98] _ _ _ (fun _ => rfl) fun _ h => h),
    rfl, an_any (al_st [115, 116, 114, 98] [115, 116, 114, 98] _),
    rfl, an_any (al_ld [108, 100, 114, 104] [108, 100, 114, 104] _ _ _ (fun _ => rfl) fun _ h => h),
    rfl, an_any (al_st [115, 116, 114, 104] [115, 116, 114, 104] _),
    rfl, an_any (al_ld [108, 100, 114, 46, 119] [108, 100, 114, 46, 119] _ _ _ (fun _ => rfl) fun _ h => h),
    rfl, an_any (al_st [115, 116, 114, 46, 119] [115, 116, 114, 46, 119] _),
    rfl, an_any (al_ld [108, 100, 114, 115, 119] [108, 100, 114, 115, 119] _ _ _ ldrsw_eq fun _ _ => rng_wu _),
    rfl, an_any (al_ld [108, 100, 114] [108, 100, 114] _ _ _ (fun _ => rfl) fun _ h => h),
    rfl, an_any (al_st [115, 116, 114] [115, 116, 114] _),
    rfl, an_c2 (al_ldp [108, 100, 112] [108, 100, 112]),
    rfl, an_c2 (al_stp [115, 116, 112] [115, 116, 112]),
    rfl, an_any (al_b [98]),
    rfl, an_any (al_bl [98, 108]),
    rfl, an_any (al_bc [98, 46, 99]),
    rfl, an_any (al_cbz [99, 98, 122]),
    rfl, an_any (al_cbnz [99, 98, 110, 122]),
    rfl, an_any (al_br [98, 114]),
    rfl, an_any (al_blr [98, 108, 114]),
    rfl, an_any (al_br [114, 101, 116]),
    rfl, an_pc al_svc,
    rfl, an_any al_brk,
    rfl, an_any (al_nop [110, 111, 112]), trivial⟩
theorem allA_get : ∀ {l k : List (List UInt8 × RunTy)}, AllA l k → l.length = k.length → ∀ x ∈ l, ∃ y ∈ k, x.1 = y.1 ∧ AlikeN x.1 x.2 y.2
  | [], _, _, _, x, hx => by cases hx
  | z :: r, [], _, e, x, hx => by cases e
  | z :: r, y :: t, h, e, x, hx => by
    obtain ⟨h1, h2, h3⟩ := h
    cases hx with
    | head => exact ⟨y, List.mem_cons_self, h1, h2⟩
    | tail _ hx =>
      obtain ⟨w, hw, hh⟩ := allA_get h3 (Nat.succ.inj e) x hx
      exact ⟨w, List.mem_cons_of_mem _ hw, hh⟩

end Go.Ra

namespace Go.Ra
open Go Go.Ab Go.Proofs Go.Rk

def upTo (f : NumT) (h : Int) : Bool := (IntKind.wrap .i64 f.2.2.2.2.1 == 0) && decide (IntKind.wrap .i64 f.2.2.2.2.2 ≤ h)
def rowBd (r : RowT) : Bool := upTo r.2.2.1 31 && (upTo r.2.2.2.1 31 && (upTo r.2.2.2.2.1 63 && (upTo r.2.2.2.2.2.1 63 && ((!decide (r.1 ∈ cNames) || upTo r.2.2.2.2.1 31) && (!decide (r.1 ∈ dNames) || upTo r.2.2.2.2.2.1 31)))))
theorem rows_bd : rowsL.all rowBd = true := by kernel_rfl
theorem small_of {f : NumT} {h n : Int} (hu : upTo f h = true) (hs : smallF f n = true) : 0 ≤ n ∧ n ≤ h := by
  simp only [upTo, Bool.and_eq_true, beq_iff_eq, decide_eq_true_eq] at hu
  unfold smallF at hs
  rw [hu.1] at hs
  cases h0 : decide (0 ≤ n)
  · rw [h0] at hs
    cases hs
  rw [h0] at hs
  have h1 := of_decide_eq_true hs
  exact ⟨of_decide_eq_true h0, by omega⟩
theorem frow_mem {nm : List UInt8} (h : fok nm = true) : frow nm ∈ rowsL ∧ (frow nm).1 = nm := by
  unfold fok at h
  obtain ⟨r, hr⟩ := Option.isSome_iff_exists.1 h
  have e : frow nm = r := by
    unfold frow
    rw [hr]
    rfl
  rw [e]
  have h1 := List.find?_some hr
  exact ⟨List.mem_of_find?_eq_some hr, eq_of_beq h1⟩
theorem faulty_small {r : RowT} {i : InsT} (h : faultyF r i = 0) : smallF r.2.2.1 i.2.1 = true ∧ smallF r.2.2.2.1 i.2.2.1 = true ∧ smallF r.2.2.2.2.1 i.2.2.2.1 = true ∧ smallF r.2.2.2.2.2.1 i.2.2.2.2.1 = true := by
  unfold faultyF at h
  revert h
  cases smallF r.2.2.1 i.2.1 <;> cases smallF r.2.2.2.1 i.2.2.1 <;> cases smallF r.2.2.2.2.1 i.2.2.2.1 <;> cases smallF r.2.2.2.2.2.1 i.2.2.2.2.1 <;> intro h <;> first | exact ⟨rfl, rfl, rfl, rfl⟩ | exact absurd (show (13 : Int) = 0 from h) (by decide)
theorem may_facts {nm : List UInt8} {a b c d m : Int} (h : encE (nm, a, b, c, d, m) = 0) : okReg a = true ∧ okReg b = true ∧ 0 ≤ c ∧ c ≤ 63 ∧ 0 ≤ d ∧ d ≤ 63 ∧ opOk nm c d := by
  unfold encE at h
  have hf : fok nm = true := by
    cases hf : fok nm
    · simp only [hf] at h
      exact absurd (show (7 : Int) = 0 from h) (by decide)
    · rfl
  simp only [hf, cond_true] at h
  obtain ⟨h1, h2⟩ := frow_mem hf
  obtain ⟨s1, s2, s3, s4⟩ := faulty_small h
  have hb := List.all_eq_true.1 rows_bd _ h1
  unfold rowBd at hb
  rw [h2] at hb
  simp only [Bool.and_eq_true, Bool.or_eq_true, Bool.not_eq_true', decide_eq_false_iff_not] at hb
  obtain ⟨b1, b2, b3, b4, b5, b6⟩ := hb
  obtain ⟨p1, p2⟩ := small_of b1 s1
  obtain ⟨p3, p4⟩ := small_of b2 s2
  obtain ⟨p5, p6⟩ := small_of b3 s3
  obtain ⟨p7, p8⟩ := small_of b4 s4
  refine ⟨okReg_of p1 p2, okReg_of p3 p4, p5, p6, p7, p8, fun hm => ?_, fun hm => ?_⟩
  · rcases b5 with b5 | b5
    · exact absurd hm b5
    · exact (small_of b5 s3).2
  · rcases b6 with b6 | b6
    · exact absurd hm b6
    · exact (small_of b6 s4).2
/-- What may be, told by the program's May and the document's Check. -/
theorem top_alike (mb : InsR → Bool) (ck : InsR → Int) (wd : Int → Int → Int × Int) (hmb : ∀ i, mb i = (encE i == 0)) (hck : ∀ i, (ck i != 0) = !mb i) (hw : WdOk wd) :
    ∀ x ∈ rowsR, ∃ y ∈ rowsG wd, x.1 = y.1 ∧ ∀ s a b c d m sz A B C D E, Fine s → lens5 A B C D E = true → Both s (topK mb x.1 x.2 s a b c d m sz A B C D E) (topG ck y.1 y.2 s a b c d m sz A B C D E) := by
  intro x hx
  obtain ⟨y, hy, e, h⟩ := allA_get (all_alike wd hw) rfl x hx
  refine ⟨y, hy, e, fun s a b c d m sz A B C D E hs hl => ?_⟩
  unfold topK topG
  rw [← e, hck]
  cases h4 : sz != 4
  rotate_left
  · exact both_err hs 1 hl
  rw [cond_false, cond_false]
  cases hm : mb (x.1, a, b, c, d, m)
  · exact both_err hs 22 hl
  cases hp : Int.tmod s.pc 4 != 0
  rotate_left
  · exact both_err hs 10 hl
  have e4 : sz = 4 := by simpa using h4
  have hp : Int.tmod s.pc 4 = 0 := by simpa using hp
  subst e4
  rw [hmb] at hm
  obtain ⟨f1, f2, f3, f4, f5, f6, f7⟩ := may_facts (beq_iff_eq.1 hm)
  exact h s a b c d m A B C D E ⟨hs, f1, f2, f3, f4, f5, f6, hl⟩ f7 hp

end Go.Ra

namespace Go.Ra
open Go Go.Ab Go.Proofs Go.Rk

section
variable {mb : InsR → Bool} (hm : Sound Tryz.prog 24 (mayP mb))
include hm
theorem ruB_ok : (ruB mb).Ok Tryz.prog :=
  ⟨.cons hm (.consX add_ok (.consX sub_ok (.cons holdsS_ok (.cons fieldS_ok (.cons divideS_ok (.cons divuS_ok (.nil _))))))), .cons setM_ok (.cons loadM_ok (.cons storeM_ok (.cons rightsM_ok (.nil _)))), .cons regR_ok (.nil _), fun p h => by cases h⟩
theorem ruM_ok (d : Nat) : (ruM mb d).Ok Tryz.prog := deep_ok (ruB_ok hm) ruM_ps_ok ruM_ms_ok d
theorem memoryG_ok : MSound Tryz.prog 27 (memoryG mb) := by
  intro args H out h
  obtain ⟨h1, h2⟩ := req_run h
  exact mcall_lay (cx := cxMemG mb) (cl := cxSet) (ruM_ok hm 1) (cx0_ok rfl rfl) rfl (by kernel_rfl) (by kernel_rfl) (by kernel_rfl) (by kernel_rfl) h1 h2
theorem ruC_ok : (ruC mb).Ok Tryz.prog := ⟨(ruB_ok hm).1, .cons (memoryG_ok hm) (ruB_ok hm).2.1, (ruB_ok hm).2.2⟩
theorem ruT_ok (d : Nat) : (ruT mb d).Ok Tryz.prog := deep_ok (ruC_ok hm) ruT_ps_ok ruT_ms_ok d
theorem runG_ok : MSound Tryz.prog 14 (runG mb) := mfunR_ok (cx := cxRunG mb) (fn := Tryz.f14) [] (ruT_ok hm 3) (by kernel_rfl) (by kernel_rfl)
end
/-- May, as the program tells it. -/
def mbF (i : InsR) : Bool := encE i == 0
theorem mayP_ok : Sound Tryz.prog 24 (mayP mbF) := by
  intro args out h
  unfold mayP at h
  split at h
  rotate_left
  · cases h
  exact mayS_ok _ _ h
/-- Names that are not there. -/
def mayN (mb : InsR → Bool) : Ab.Spec := fun args => match args with
  | [.agg [.str nm, .int .i64 a, .int .i64 b, .int .i64 c, .int .i64 d, .int .i64 m]] => .req (!mb (nm, a, b, c, d, m)) (.leaf (.bool false))
  | _ => .fail
theorem mayN_ok : Sound Tryz.prog 24 (mayN mbF) := by
  intro args out h
  unfold mayN at h
  split at h
  rotate_left
  · cases h
  obtain ⟨h1, h2⟩ := req_run h
  have e : mbF _ = false := Bool.not_eq_true' _ |>.mp h1
  refine mayS_ok _ _ ?_
  rw [← h2]
  show some (V.bool (mbF _)) = _
  rw [e]
  rfl
noncomputable def cxRunN (mb : InsR → Bool) : Cx := { cxRunG mb with tab := (24, mayN mb) :: (ruT mb 3).tab }
noncomputable def runNE (mb : InsR → Bool) (nm : List UInt8) : RunTy := fun s a b c d m sz A B C D E => (mfunR (cxRunN mb) Tryz.f14 [] [.agg s.l, insV nm a b c d m, .int .i64 sz, .ptr 0 0] (memO A B C D E)).fin
def topN (mb : InsR → Bool) (nm : List UInt8) : RunTy := fun s a b c d m sz A B C D E => cond (sz != 4) (errK s 1 (memO A B C D E)) (cond (!mb (nm, a, b, c, d, m)) (errK s 22 (memO A B C D E)) none)
theorem runN_eq (mb : InsR → Bool) (nm : List UInt8) : W1 (runNE mb nm) = W2 (topN mb nm) := by kernel_rfl

end Go.Ra

namespace Go.Ra
open Go Go.Ab Go.Proofs Go.Rk

theorem ref_all (ck : InsR → Int) (wd : Int → Int → Int × Int) : ∀ x ∈ rowsG wd, gO ck wd x = gE ck x := by
  have h : (rowsG wd).map (gO ck wd) = (rowsG wd).map (gE ck) := by
    rw [rows_parts (rowsG wd) rfl]
    simp only [List.map_append, ref_1, ref_2, ref_3, ref_4, ref_5, ref_6, ref_7, ref_8, ref_9]
  exact List.map_inj_left.1 h
section
variable {ck : InsR → Int} {wd : Int → Int → Int × Int} (hc : Sound Tryz.prog 38 (ckP ck)) (hw : Sound Tryz.prog 94 (wdP wd))
include hc hw
theorem rgB_ok : (rgB ck wd).Ok Tryz.prog :=
  ⟨.cons hc (.cons hw (.cons hlS_ok (.cons dvS_ok (.cons bitsS_ok (.cons hasS_ok (.nil _)))))), .cons setG_ok (.cons storeRf_ok (.nil _)), .cons getG_ok (.cons otherR_ok (.cons loadRf_ok (.cons writR_ok (.nil _)))), fun p h => by cases h⟩
theorem rgT_ok (d : Nat) : (rgT ck wd d).Ok Tryz.prog := deep_ok (rgB_ok hc hw) rgT_ps_ok rgT_ms_ok d
theorem runR_ok : MSound Tryz.prog 21 (mfunR (cxRg ck wd) Tryz.f21 []) := mfunR_ok (cx := cxRg ck wd) (fn := Tryz.f21) [] (rgT_ok hc hw 3) (by kernel_rfl) (by kernel_rfl)
end
/-- Names that are not there. -/
def ckN (ck : InsR → Int) : Ab.Spec := fun args => match args with
  | [.agg [.str nm, .int .i64 a, .int .i64 b, .int .i64 c, .int .i64 d, .int .i64 m]] => .req (ck (nm, a, b, c, d, m) == 7) (.leaf (.int .i64 7))
  | _ => .fail
noncomputable def cxRgN (ck : InsR → Int) (wd : Int → Int → Int × Int) : Cx := { cxRg ck wd with tab := (38, ckN ck) :: (rgT ck wd 3).tab }
noncomputable def runRN (ck : InsR → Int) (wd : Int → Int → Int × Int) (nm : List UInt8) : RunTy := fun s a b c d m sz A B C D E => (mfunR (cxRgN ck wd) Tryz.f21 [] [.agg s.l, insV nm a b c d m, .int .i64 sz, .ptr 0 0] (refO A B C D E)).fin
def topGN (ck : InsR → Int) (nm : List UInt8) : RunTy := fun s a b c d m sz A B C D E => cond (sz != 4) (errK s 1 (refO A B C D E)) (cond (ck (nm, a, b, c, d, m) == 7) (errK s 22 (refO A B C D E)) none)
theorem refN_eq (ck : InsR → Int) (wd : Int → Int → Int × Int) (nm : List UInt8) : W1 (runRN ck wd nm) = W2 (topGN ck nm) := by kernel_rfl
theorem W_of {F G : RunTy} (h : W1 F = W2 G) {s : CpuT} (hs : s.x.length = 32) (a b c d m sz : Int) (A B C D E : List Int) : F s a b c d m sz A B C D E = G s a b c d m sz A B C D E := by
  have h := congrArg (fun f => f s.pc (s.x.getD 0 0) (s.x.getD 1 0) (s.x.getD 2 0) (s.x.getD 3 0) (s.x.getD 4 0) (s.x.getD 5 0) (s.x.getD 6 0) (s.x.getD 7 0) (s.x.getD 8 0) (s.x.getD 9 0) (s.x.getD 10 0) (s.x.getD 11 0) (s.x.getD 12 0) (s.x.getD 13 0) (s.x.getD 14 0) (s.x.getD 15 0)
    (s.x.getD 16 0) (s.x.getD 17 0) (s.x.getD 18 0) (s.x.getD 19 0) (s.x.getD 20 0) (s.x.getD 21 0) (s.x.getD 22 0) (s.x.getD 23 0) (s.x.getD 24 0) (s.x.getD 25 0) (s.x.getD 26 0) (s.x.getD 27 0) (s.x.getD 28 0) (s.x.getD 29 0) (s.x.getD 30 0) (s.x.getD 31 0) s.th s.z s.n s.c s.v a b c d m sz A B C D E) h
  unfold W1 W2 at h
  rw [cpu_tab hs] at h
  exact h

end Go.Ra

namespace Go.Ra
open Go Go.Ab Go.Proofs Go.Rk

/-- What Run answers: the registers, what happened, the error; what the five pages hold. -/
structure Out where
  s : CpuT
  ev : Int
  err : Int
  A : List Int
  B : List Int
  C : List Int
  D : List Int
  E : List Int
def IsOut (s : CpuT) (r g : Option Res) (o : Out) : Prop := Fine o.s ∧ lens5 o.A o.B o.C o.D o.E = true ∧ (o.err ≠ 0 → o.s = s ∧ o.ev = 0) ∧
  r = some (.ok (.tup [.agg o.s.l, .int .i64 o.ev, .int .i64 o.err]) (memO o.A o.B o.C o.D o.E)) ∧ g = some (.ok (.tup [.agg o.s.l, .int .i64 o.ev, .int .i64 o.err]) (refO o.A o.B o.C o.D o.E))
instance : Inhabited Out := ⟨⟨⟨0, [], false, false, false, false, 0⟩, 0, 0, [], [], [], [], []⟩⟩
noncomputable def runP (nm : List UInt8) : RunTy := cond (fok nm) (runE mbF nm) (runNE mbF nm)
noncomputable def refP (ck : InsR → Int) (wd : Int → Int → Int × Int) (nm : List UInt8) : RunTy := cond (fok nm) (runR ck wd nm) (runRN ck wd nm)
abbrev OutFn := List UInt8 → CpuT → Int → Int → Int → Int → Int → Int → List Int → List Int → List Int → List Int → List Int → Out
noncomputable def outF (ck : InsR → Int) (wd : Int → Int → Int × Int) : OutFn := fun nm s a b c d m sz A B C D E =>
  Classical.epsilon (IsOut s (runP nm s a b c d m sz A B C D E) (refP ck wd nm s a b c d m sz A B C D E))
theorem rowsR_mem {nm : List UInt8} (h : fok nm = true) : ∃ x ∈ rowsR, x.1 = nm := by
  obtain ⟨h1, h2⟩ := frow_mem h
  have h3 := List.mem_map_of_mem (f := Prod.fst) h1
  rw [h2, ← rowsR_names] at h3
  obtain ⟨x, hx, e⟩ := List.mem_map.1 h3
  exact ⟨x, hx, e⟩
theorem encE_no {nm : List UInt8} (h : fok nm = false) (a b c d m : Int) : encE (nm, a, b, c, d, m) = 7 := by
  unfold encE
  simp only [h]
  rfl
theorem out_is {ck : InsR → Int} {wd : Int → Int → Int × Int} (hck : ∀ i, ck i = encE i) (hw : WdOk wd) (nm : List UInt8) {s : CpuT} (hs : Fine s) (a b c d m sz : Int) {A B C D E : List Int} (hl : lens5 A B C D E = true) :
    IsOut s (runP nm s a b c d m sz A B C D E) (refP ck wd nm s a b c d m sz A B C D E) (outF ck wd nm s a b c d m sz A B C D E) := by
  refine Classical.epsilon_spec (p := IsOut s (runP nm s a b c d m sz A B C D E) (refP ck wd nm s a b c d m sz A B C D E)) ?_
  have key : Both s (runP nm s a b c d m sz A B C D E) (refP ck wd nm s a b c d m sz A B C D E) := by
    unfold runP refP
    cases hf : fok nm
    · rw [cond_false, cond_false, W_of (runN_eq mbF nm) hs.len, W_of (refN_eq ck wd nm) hs.len]
      unfold topN topGN
      have e7 := encE_no hf a b c d m
      have e1 : mbF (nm, a, b, c, d, m) = false := by
        unfold mbF
        rw [e7]
        rfl
      have e2 : (ck (nm, a, b, c, d, m) == 7) = true := by
        rw [hck, e7]
        rfl
      rw [e1, e2]
      cases sz != 4
      · exact both_err hs 22 hl
      · exact both_err hs 1 hl
    · obtain ⟨x, hx, rfl⟩ := rowsR_mem hf
      rw [cond_true, cond_true, W_of (run_all mbF x hx) hs.len]
      obtain ⟨y, hy, e, h⟩ := top_alike mbF ck wd (fun _ => rfl) (fun i => by rw [hck]; rfl) hw x hx
      rw [e, W_of (ref_all ck wd y hy) hs.len, ← e]
      have h := h s a b c d m sz A B C D E hs hl
      rw [← e] at h
      exact h
  obtain ⟨s', ev, err, A', B', C', D', E', h1, h2, h3, h4, h5⟩ := key
  exact ⟨⟨s', ev, err, A', B', C', D', E'⟩, h1, h2, h3, h4, h5⟩

/-! Specs. -/

def fineB (s : CpuT) : Bool := rng64 s.pc && (s.x.all rng64)
theorem fine_of {s : CpuT} (hl : s.x.length = 32) (h : fineB s = true) : Fine s := by
  obtain ⟨h1, h2⟩ := Bool.and_eq_true_iff.1 h
  refine ⟨hl, fun i => ?_, h1⟩
  rw [List.getD_eq_getElem?_getD]
  cases hi : s.x[i]? with
  | none => rfl
  | some v => exact List.all_eq_true.1 h2 v (List.mem_of_getElem? hi)
/-- A state, number by number. -/
def tabS (s : CpuT) : CpuT := ⟨s.pc, [s.x.getD 0 0, s.x.getD 1 0, s.x.getD 2 0, s.x.getD 3 0, s.x.getD 4 0, s.x.getD 5 0, s.x.getD 6 0, s.x.getD 7 0, s.x.getD 8 0, s.x.getD 9 0, s.x.getD 10 0, s.x.getD 11 0, s.x.getD 12 0, s.x.getD 13 0, s.x.getD 14 0, s.x.getD 15 0,
  s.x.getD 16 0, s.x.getD 17 0, s.x.getD 18 0, s.x.getD 19 0, s.x.getD 20 0, s.x.getD 21 0, s.x.getD 22 0, s.x.getD 23 0, s.x.getD 24 0, s.x.getD 25 0, s.x.getD 26 0, s.x.getD 27 0, s.x.getD 28 0, s.x.getD 29 0, s.x.getD 30 0, s.x.getD 31 0], s.z, s.n, s.c, s.v, s.th⟩
def outV (o : Out) : V := .tup [.agg (tabS o.s).l, .int .i64 o.ev, .int .i64 o.err]
def runS (f : OutFn) : MSpec := fun args H => match args with
  | [.agg cs, .agg [.str nm, .int .i64 a, .int .i64 b, .int .i64 c, .int .i64 d, .int .i64 m], .int .i64 sz, .ptr 0 0] => match cpuOf cs with
    | some s => memM (fun A B C D E => .req (fineB s) (.leaf (.ok (outV (f nm s a b c d m sz A B C D E)) (memO (f nm s a b c d m sz A B C D E).A (f nm s a b c d m sz A B C D E).B (f nm s a b c d m sz A B C D E).C (f nm s a b c d m sz A B C D E).D (f nm s a b c d m sz A B C D E).E)))) H
    | none => .fail
  | _ => .fail
def refS (f : OutFn) : MSpec := fun args H => match args with
  | [.agg cs, .agg [.str nm, .int .i64 a, .int .i64 b, .int .i64 c, .int .i64 d, .int .i64 m], .int .i64 sz, .ptr 0 0] => match cpuOf cs with
    | some s => refM (fun A B C D E => .req (fineB s) (.leaf (.ok (outV (f nm s a b c d m sz A B C D E)) (refO (f nm s a b c d m sz A B C D E).A (f nm s a b c d m sz A B C D E).B (f nm s a b c d m sz A B C D E).C (f nm s a b c d m sz A B C D E).D (f nm s a b c d m sz A B C D E).E)))) H
    | none => .fail
  | _ => .fail
theorem cxRunN_ok : CxOk (cxRunN mbF) := ⟨.cons mayN_ok (ruT_ok mayP_ok 3).1, (ruT_ok mayP_ok 3).2⟩
theorem cxRgN_ok {ck : InsR → Int} {wd : Int → Int → Int × Int} (hc : Sound Tryz.prog 38 (ckP ck)) (hw : Sound Tryz.prog 94 (wdP wd)) (hn : Sound Tryz.prog 38 (ckN ck)) : CxOk (cxRgN ck wd) :=
  ⟨.cons hn (rgT_ok hc hw 3).1, (rgT_ok hc hw 3).2⟩
theorem ckN_ok {ck : InsR → Int} (hc : Sound Tryz.prog 38 (ckP ck)) : Sound Tryz.prog 38 (ckN ck) := by
  intro args out h
  unfold ckN at h
  split at h
  rotate_left
  · cases h
  obtain ⟨h1, h2⟩ := req_run h
  refine hc _ _ ?_
  rw [← h2]
  show some (V.int .i64 (ck _)) = _
  rw [beq_iff_eq.1 h1]
  rfl
section
variable {ck : InsR → Int} {wd : Int → Int → Int × Int} (hck : ∀ i, ck i = encE i) (hw : WdOk wd)
include hck hw
theorem runS_ok : MSound Tryz.prog 14 (runS (outF ck wd)) := by
  intro args H out h
  unfold runS at h
  split at h
  rotate_left
  · cases h
  rename_i cs nm a b c d m sz
  split at h
  rotate_left
  · cases h
  rename_i s hs
  obtain ⟨A, B, C, D, E, rfl, hl, h⟩ := memM_run h
  obtain ⟨hf, h⟩ := req_run h
  cases h
  obtain ⟨rfl, e2⟩ := cpuOf_spec hs
  have hF := fine_of e2 hf
  obtain ⟨o1, _, _, o4, _⟩ := out_is hck hw nm hF a b c d m sz hl
  have et : tabS (outF ck wd nm s a b c d m sz A B C D E).s = (outF ck wd nm s a b c d m sz A B C D E).s := cpu_tab o1.len
  unfold outV
  rw [et]
  unfold runP at o4
  cases hk : fok nm
  · rw [hk, cond_false] at o4
    refine mfunR_ok (cx := cxRunN mbF) (fn := Tryz.f14) [] (cxRunN_ok) (by kernel_rfl) (by kernel_rfl) _ _ _ ?_
    rw [← Tree.fin_run]
    exact o4
  · rw [hk, cond_true] at o4
    refine runG_ok mayP_ok _ _ _ ?_
    rw [← Tree.fin_run]
    exact o4
theorem refS_ok (hc' : Sound Tryz.prog 38 (ckP ck)) (hw' : Sound Tryz.prog 94 (wdP wd)) (hn : Sound Tryz.prog 38 (ckN ck)) : MSound Tryz.prog 21 (refS (outF ck wd)) := by
  intro args H out h
  unfold refS at h
  split at h
  rotate_left
  · cases h
  rename_i cs nm a b c d m sz
  split at h
  rotate_left
  · cases h
  rename_i s hs
  obtain ⟨A, B, C, D, E, rfl, hl, h⟩ := refM_run h
  obtain ⟨hf, h⟩ := req_run h
  cases h
  obtain ⟨rfl, e2⟩ := cpuOf_spec hs
  have hF := fine_of e2 hf
  obtain ⟨o1, _, _, _, o4⟩ := out_is hck hw nm hF a b c d m sz hl
  have et : tabS (outF ck wd nm s a b c d m sz A B C D E).s = (outF ck wd nm s a b c d m sz A B C D E).s := cpu_tab o1.len
  unfold outV
  rw [et]
  unfold refP at o4
  cases hk : fok nm
  · rw [hk, cond_false] at o4
    refine mfunR_ok (cx := cxRgN ck wd) (fn := Tryz.f21) [] (cxRgN_ok hc' hw' hn) (by kernel_rfl) (by kernel_rfl) _ _ _ ?_
    rw [← Tree.fin_run]
    exact o4
  · rw [hk, cond_true] at o4
    refine runR_ok hc' hw' _ _ _ ?_
    rw [← Tree.fin_run]
    exact o4
end

end Go.Ra

namespace Go.Ra
open Go Go.Ab Go.Proofs Go.Wd

/-- The context of foundry/foundryref27.Wide. -/
noncomputable def cx94 : Cx := { P := Tryz.prog, n := 36, tab := [], mtab := [], refs := [], keeps := [0, 1, 4, 5, 6, 7, 8, 10, 25, 31] }
def wdRound (a b h l i : Int) : Tree St :=
  (.br (decide (0 ≤ i)) (.br (decide (0 ≤ IntKind.wrap IntKind.u64 i)) (.br (IntKind.wrap IntKind.u64 ↑(BitVec.toNat (BitVec.ofInt 64 (Int.fdiv b (2 ^ Min.min (Int.toNat (IntKind.wrap IntKind.u64 i)) 64)) &&& BitVec.ofInt 64 1)) == 1) (.br (decide (IntKind.wrap IntKind.u64 (IntKind.wrap IntKind.u64 (l * 2 ^ 1) + a) < a)) (.leaf (.normal, [(0, (.int .u64 a)), (1, (.int .u64 b)), (6, (.int .u64 (IntKind.wrap IntKind.u64 (IntKind.wrap IntKind.u64 ↑(BitVec.toNat (BitVec.ofInt 64 (IntKind.wrap IntKind.u64 (h * 2 ^ 1)) ||| BitVec.ofInt 64 (Int.fdiv l (2 ^ 63)))) + 1)))), (7, (.int .u64 (IntKind.wrap IntKind.u64 (IntKind.wrap IntKind.u64 (l * 2 ^ 1) + a)))), (8, (.int .i64 (IntKind.wrap IntKind.i64 (i - 1)))), (10, (.bool true)), (25, (.bool true)), (31, (.bool true))], [])) (.leaf (.normal, [(0, (.int .u64 a)), (1, (.int .u64 b)), (6, (.int .u64 (IntKind.wrap IntKind.u64 ↑(BitVec.toNat (BitVec.ofInt 64 (IntKind.wrap IntKind.u64 (h * 2 ^ 1)) ||| BitVec.ofInt 64 (Int.fdiv l (2 ^ 63))))))), (7, (.int .u64 (IntKind.wrap IntKind.u64 (IntKind.wrap IntKind.u64 (l * 2 ^ 1) + a)))), (8, (.int .i64 (IntKind.wrap IntKind.i64 (i - 1)))), (10, (.bool true)), (25, (.bool true)), (31, (.bool false))], []))) (.leaf (.normal, [(0, (.int .u64 a)), (1, (.int .u64 b)), (6, (.int .u64 (IntKind.wrap IntKind.u64 ↑(BitVec.toNat (BitVec.ofInt 64 (IntKind.wrap IntKind.u64 (h * 2 ^ 1)) ||| BitVec.ofInt 64 (Int.fdiv l (2 ^ 63))))))), (7, (.int .u64 (IntKind.wrap IntKind.u64 (l * 2 ^ 1)))), (8, (.int .i64 (IntKind.wrap IntKind.i64 (i - 1)))), (10, (.bool true)), (25, (.bool false))], []))) .fail) (.leaf ((.exit 0), [(0, (.int .u64 a)), (1, (.int .u64 b)), (6, (.int .u64 h)), (7, (.int .u64 l)), (8, (.int .i64 i)), (10, (.bool false))], [])))

theorem wdRound_eq (a b h l i : Int) : (dcode cx94 (cin (cin (c2 (c1 (tailN 1 (bodyOf Tryz.f94)))))) [(0, .int .u64 a), (1, .int .u64 b), (6, .int .u64 h), (7, .int .u64 l), (8, .int .i64 i)] []).run = (wdRound a b h l i).run :=
  (show (dcode cx94 (cin (cin (c2 (c1 (tailN 1 (bodyOf Tryz.f94)))))) [(0, .int .u64 a), (1, .int .u64 b), (6, .int .u64 h), (7, .int .u64 l), (8, .int .i64 i)] []).run = (wdRound a b h l i).out by kernel_rfl).trans (Tree.out_run _)

def wdEnd (h l : Int) : Tree St :=
  (.leaf (.ret, [(4, (.int .u64 h)), (5, (.int .u64 l)), (6, (.int .u64 h)), (7, (.int .u64 l))], []))

theorem wdEnd_eq (h l : Int) : (dcode cx94 (tailN 2 (bodyOf Tryz.f94)) [(6, .int .u64 h), (7, .int .u64 l)] []).run = (wdEnd h l).run :=
  (show (dcode cx94 (tailN 2 (bodyOf Tryz.f94)) [(6, .int .u64 h), (7, .int .u64 l)] []).run = (wdEnd h l).out by kernel_rfl).trans (Tree.out_run _)

def hiS (h l : Int) : Int := IntKind.wrap .u64 (((BitVec.ofInt 64 (IntKind.wrap .u64 (h * 2 ^ 1)) ||| BitVec.ofInt 64 (Int.fdiv l (2 ^ 63))).toNat : Nat) : Int)
def loS (l : Int) : Int := IntKind.wrap .u64 (l * 2 ^ 1)
def bitB (b i : Int) : Bool := IntKind.wrap .u64 (((BitVec.ofInt 64 (Int.fdiv b (2 ^ Min.min (Int.toNat (IntKind.wrap .u64 i)) 64)) &&& BitVec.ofInt 64 1).toNat : Nat) : Int) == 1
def wStep (a b i : Int) (p : Int × Int) : Int × Int :=
  cond (bitB b i) (cond (decide (IntKind.wrap .u64 (loS p.2 + a) < a)) (IntKind.wrap .u64 (hiS p.1 p.2 + 1), IntKind.wrap .u64 (loS p.2 + a)) (hiS p.1 p.2, IntKind.wrap .u64 (loS p.2 + a))) (hiS p.1 p.2, loS p.2)
noncomputable def wN (a b : Int) (k : Nat) : Int × Int := Nat.rec (motive := fun _ => Int × Int) (0, 0) (fun i p => wStep a b (63 - (i : Int)) p) k
theorem wN_succ (a b : Int) (k : Nat) : wN a b (k + 1) = wStep a b (63 - (k : Int)) (wN a b k) := rfl
noncomputable def wSt (a b : Int) (k : { k : Nat // k ≤ 64 }) : T × List O := ([(0, .int .u64 a), (1, .int .u64 b), (6, .int .u64 (wN a b k.1).1), (7, .int .u64 (wN a b k.1).2), (8, .int .i64 (63 - (k.1 : Int)))], [])
theorem wide_ok (a b : Int) : PCall Tryz.prog 94 [.int .u64 a, .int .u64 b] (.tup [.int .u64 (wN a b 64).1, .int .u64 (wN a b 64).2]) := by
  refine pcall_of' (c := bodyOf Tryz.f94) (fn := Tryz.f94) (by kernel_rfl) (by kernel_rfl) (by kernel_rfl) (by kernel_rfl) ?_
  have eb : bodyOf Tryz.f94 = .seq (c1 (bodyOf Tryz.f94)) (.seq (c1 (tailN 0 (bodyOf Tryz.f94))) (.seq (.seq (c1 (c1 (tailN 1 (bodyOf Tryz.f94)))) (.block 0 (.loop (cin (cin (c2 (c1 (tailN 1 (bodyOf Tryz.f94))))))))) (tailN 2 (bodyOf Tryz.f94)))) := by kernel_rfl
  rw [eb]
  generalize hQ : (fun e' t H => (e' = AEx.ret ∨ e' = .normal) ∧ answerV Tryz.prog Tryz.f94.results.toList H t = some (.tup [.int .u64 (wN a b 64).1, .int .u64 (wN a b 64).2])) = Q
  have hok : CxOk cx94 := cx0_ok rfl rfl
  refine AWP_seq (AWP_run (cx := cx94) rfl rfl hok (s := (.normal, [(0, .int .u64 a), (1, .int .u64 b), (4, .int .u64 0), (5, .int .u64 0)], [])) (by kernel_rfl) ?_)
  refine AWP_seq (AWP_run (cx := cx94) rfl rfl hok (s := (.normal, [(0, .int .u64 a), (1, .int .u64 b), (4, .int .u64 0), (5, .int .u64 0), (6, .int .u64 0), (7, .int .u64 0)], [])) (by kernel_rfl) ?_)
  refine AWP_seq (AWP_seq (AWP_run (cx := cx94) rfl rfl hok (s := (.normal, [(0, .int .u64 a), (1, .int .u64 b), (4, .int .u64 0), (5, .int .u64 0), (6, .int .u64 0), (7, .int .u64 0), (8, .int .i64 63)], [])) (by kernel_rfl) ?_))
  refine AWP_block ?_
  refine AWP.less (s := (wSt a b ⟨0, Nat.zero_le _⟩).1) (Fits.tle ⟨rfl, rfl, rfl, rfl, rfl, trivial⟩) ?_
  refine AWP_rounds (cx := cx94) (P := Tryz.prog) (n := 36) rfl rfl hok (wSt a b) (fun i => 64 - i.1) ?_ ⟨0, Nat.zero_le _⟩
  rintro ⟨k, hk⟩
  refine Tree.all_run_eq (wdRound_eq a b (wN a b k).1 (wN a b k).2 (63 - (k : Int))) ?_
  have step : V.int .i64 (IntKind.wrap .i64 (63 - (k : Int) - 1)) = V.int .i64 (63 - ((k + 1 : Nat) : Int)) := by
    rw [wrap_i64 (by omega) (by omega)]
    exact congrArg (V.int .i64) (by omega)
  refine ⟨fun hge => ⟨fun hp => ⟨fun hb => ⟨fun hc => ?_, fun hc => ?_⟩, fun hb => ?_⟩, fun hp => ?_⟩, fun hlt => ?_⟩
  · have hge : (0 : Int) ≤ 63 - k := of_decide_eq_true hge
    have e : wN a b (k + 1) = (IntKind.wrap .u64 (hiS (wN a b k).1 (wN a b k).2 + 1), IntKind.wrap .u64 (loS (wN a b k).2 + a)) := by
      rw [wN_succ]
      unfold wStep
      rw [show bitB b (63 - (k : Int)) = true from hb, cond_true, show decide (IntKind.wrap .u64 (loS (wN a b k).2 + a) < a) = true from hc, cond_true]
    refine ⟨[], _, rfl, ⟨k + 1, by omega⟩, by show 64 - (k + 1) < 64 - k; omega, Fits.tle ⟨rfl, rfl, ?_, ?_, step, trivial⟩, rfl⟩
    · show V.int .u64 _ = V.int .u64 (wN a b (k + 1)).1
      rw [e]
      rfl
    · show V.int .u64 _ = V.int .u64 (wN a b (k + 1)).2
      rw [e]
      rfl
  · have hge : (0 : Int) ≤ 63 - k := of_decide_eq_true hge
    have e : wN a b (k + 1) = (hiS (wN a b k).1 (wN a b k).2, IntKind.wrap .u64 (loS (wN a b k).2 + a)) := by
      rw [wN_succ]
      unfold wStep
      rw [show bitB b (63 - (k : Int)) = true from hb, cond_true, show decide (IntKind.wrap .u64 (loS (wN a b k).2 + a) < a) = false from hc, cond_false]
    refine ⟨[], _, rfl, ⟨k + 1, by omega⟩, by show 64 - (k + 1) < 64 - k; omega, Fits.tle ⟨rfl, rfl, ?_, ?_, step, trivial⟩, rfl⟩
    · show V.int .u64 _ = V.int .u64 (wN a b (k + 1)).1
      rw [e]
      rfl
    · show V.int .u64 _ = V.int .u64 (wN a b (k + 1)).2
      rw [e]
      rfl
  · have hge : (0 : Int) ≤ 63 - k := of_decide_eq_true hge
    have e : wN a b (k + 1) = (hiS (wN a b k).1 (wN a b k).2, loS (wN a b k).2) := by
      rw [wN_succ]
      unfold wStep
      rw [show bitB b (63 - (k : Int)) = false from hb, cond_false]
    refine ⟨[], _, rfl, ⟨k + 1, by omega⟩, by show 64 - (k + 1) < 64 - k; omega, Fits.tle ⟨rfl, rfl, ?_, ?_, step, trivial⟩, rfl⟩
    · show V.int .u64 _ = V.int .u64 (wN a b (k + 1)).1
      rw [e]
      rfl
    · show V.int .u64 _ = V.int .u64 (wN a b (k + 1)).2
      rw [e]
      rfl
  · exfalso
    have : (0 : Int) ≤ IntKind.wrap IntKind.u64 (63 - (k : Int)) := by rw [wrap_u64]; omega
    exact absurd this (of_decide_eq_false hp)
  · have hlt : ¬ (0 : Int) ≤ 63 - k := of_decide_eq_false hlt
    have hk' : k = 64 := by omega
    subst hk'
    refine ⟨[], _, rfl, ?_⟩
    show AWP _ _ _ _ _ _
    refine AWP.less (s := [(6, .int .u64 (wN a b 64).1), (7, .int .u64 (wN a b 64).2)]) (Fits.tle ⟨rfl, rfl, trivial⟩) ?_
    refine AWP_run (cx := cx94) rfl rfl hok ((wdEnd_eq _ _).trans rfl) ?_
    subst hQ
    refine ⟨.inl rfl, ?_⟩
    show answerV _ _ _ _ = some _
    kernel_rfl

end Go.Ra

namespace Go.Ra
open Go Go.Ab Go.Proofs

noncomputable def wdF (a b : Int) : Int × Int := wN a b 64
theorem wdF_ok : Sound Tryz.prog 94 (wdP wdF) := by
  intro args out h
  unfold wdP at h
  split at h
  rotate_left
  · cases h
  cases h
  exact wide_ok _ _
theorem bit1 {y : Int} (h0 : 0 ≤ y) (h1 : y < 18446744073709551616) : (((BitVec.ofInt 64 y &&& BitVec.ofInt 64 1).toNat : Nat) : Int) = y % 2 := by
  obtain ⟨n, rfl⟩ := Int.eq_ofNat_of_zero_le h0
  have hn : n < 2 ^ 64 := by omega
  rw [BitVec.toNat_and]
  have e1 : (BitVec.ofInt 64 (n : Int)).toNat = n := by
    rw [BitVec.ofInt_natCast, BitVec.toNat_ofNat, Nat.mod_eq_of_lt hn]
  have e2 : (BitVec.ofInt 64 1).toNat = 1 := rfl
  rw [e1, e2, Nat.and_one_is_mod]
  rfl
theorem wu_def (x : Int) : IntKind.wrap .u64 x = x % 18446744073709551616 := rfl
theorem bit_eq {b : Int} (h0 : 0 ≤ b) (h1 : b < 18446744073709551616) {k : Nat} (hk : k < 64) : bitB b (63 - (k : Int)) = (b / 2 ^ (63 - k) % 2 == 1) := by
  have e : Min.min (Int.toNat (IntKind.wrap .u64 (63 - (k : Int)))) 64 = 63 - k := by
    rw [wu_def]
    omega
  have hp : (0 : Int) ≤ 2 ^ (63 - k) := Int.le_of_lt (Int.pow_pos (by decide))
  have n0 := Int.ediv_nonneg h0 hp
  have n1 := Int.ediv_le_self (2 ^ (63 - k)) h0
  unfold bitB
  rw [e, Int.fdiv_eq_ediv_of_nonneg _ hp, bit1 n0 (by omega), wu_def]
  have : b / 2 ^ (63 - k) % 2 % 18446744073709551616 = b / 2 ^ (63 - k) % 2 := by omega
  rw [this]
theorem step_mod {a q q' l bit : Int} (hl : l = (a * q) % 18446744073709551616) (hq : q' = 2 * q + bit) (hb : bit = 0 ∨ bit = 1) : ((l * 2 ^ 1) % 18446744073709551616 + a * bit) % 18446744073709551616 = (a * q') % 18446744073709551616 := by
  subst hl hq
  have e : a * (2 * q + bit) = (a * q) * 2 + a * bit := by
    rw [Int.mul_add, Int.mul_comm 2 q, Int.mul_assoc]
  rw [e]
  generalize a * q = z
  generalize a * bit = y
  omega
theorem wN_lo {a b : Int} (h0 : 0 ≤ b) (h1 : b < 18446744073709551616) : ∀ k, k ≤ 64 → (wN a b k).2 = (a * (b / 2 ^ (64 - k))) % 18446744073709551616
  | 0, _ => by
    have e : b / 2 ^ (64 - 0) = 0 := Int.ediv_eq_zero_of_lt h0 (by omega)
    rw [e, Int.mul_zero]
    rfl
  | k + 1, hk => by
    have ih := wN_lo (a := a) h0 h1 k (by omega)
    have e1 : 64 - (k + 1) = 63 - k := by omega
    have e2 : 64 - k = (63 - k) + 1 := by omega
    rw [wN_succ, e1]
    rw [e2, Int.pow_succ, ← Int.ediv_ediv_of_nonneg (Int.le_of_lt (Int.pow_pos (by decide)))] at ih
    have hb := bit_eq h0 h1 (k := k) (by omega)
    generalize b / 2 ^ (63 - k) = q' at ih hb
    unfold wStep
    rw [hb]
    cases h : q' % 2 == 1
    · have h := ne_of_beq_false h
      have := step_mod (bit := 0) ih (q' := q') (by omega) (.inl rfl)
      rw [Int.mul_zero, Int.add_zero] at this
      rw [cond_false, ← this, loS, wu_def]
      omega
    · have h := eq_of_beq h
      have := step_mod (bit := 1) ih (q' := q') (by omega) (.inr rfl)
      rw [Int.mul_one] at this
      rw [cond_true, ← this]
      cases decide (IntKind.wrap .u64 (loS (wN a b k).2 + a) < a) <;> rfl
theorem wdF_wide : WdOk wdF := by
  intro x y hx hy
  obtain ⟨h0, h1⟩ := rng_spec hy
  have h := wN_lo (a := x) h0 h1 64 (Nat.le_refl _)
  rw [Nat.sub_self, Int.pow_zero, Int.ediv_one] at h
  exact h

end Go.Ra

namespace Go.Ra
open Go Go.Ab Go.Proofs Go.Rk

theorem ckX_ok : Sound Tryz.prog 38 (ckP checkX) := by
  intro args out h
  unfold ckP at h
  split at h
  rotate_left
  · cases h
  exact checkS_ok _ _ h
noncomputable def outA : OutFn := outF checkX wdF
theorem runA_ok : MSound Tryz.prog 14 (runS outA) := runS_ok check_eq wdF_wide
theorem refA_ok : MSound Tryz.prog 21 (refS outA) := refS_ok check_eq wdF_wide ckX_ok wdF_ok (ckN_ok ckX_ok)

end Go.Ra

namespace Go.Ra
open Go Go.Ab Go.Proofs

noncomputable def myB : Tabs := { mtab := [(44, countM), (45, rightsM), (46, bytesM)] }
theorem myB_ok : myB.Ok Tryz.prog := ⟨.nil _, .cons countM_ok (.cons rightsM_ok (.cons bytesM_ok fun p h => by cases h)), .nil _, fun p h => by cases h⟩
noncomputable def myT_ps : List Fi := []
theorem myT_ps_ok : FisOk Tryz.prog myT_ps := trivial
noncomputable def myT_ms : List Fi := [⟨22, Tryz.f22, [0, 1, 4, 5, 6, 7, 8, 16, 23, 40, 44, 62], [], 6, []⟩]
theorem myT_ms_ok : FisOk Tryz.prog myT_ms := ⟨⟨by kernel_rfl, by kernel_rfl⟩, trivial⟩
noncomputable def myT (d : Nat) : Tabs := deep Tryz.prog myB myT_ps myT_ms d
theorem myT_ok (d : Nat) : (myT d).Ok Tryz.prog := deep_ok myB_ok myT_ps_ok myT_ms_ok d
/-- Both memories, from a place on. -/
def bothA (A B C D E : List Int) : List O := [.cells [.bool true, .mp 2] 61, .obj (.map [1, 2, 16, 17, 32]) [.ptr 3 0, .ptr 4 0, .ptr 5 0, .ptr 6 0, .ptr 7 0], wdPg 5 A, wdPg 5 B, wdPg 6 C, wdPg 6 D, wdPg 4 E,
  .cells [.ref 9 3 0 5, lastV] 70, .cells (wRow 1 5 10 ++ (wRow 2 5 11 ++ (wRow 16 6 12 ++ (wRow 17 6 13 ++ wRow 32 4 14)))) 0, newPg A, newPg B, newPg C, newPg D, newPg E]
def cpuO (s : CpuT) : O := .cells (tabS s).l 25
def rnH (s t : CpuT) (A B C D E : List Int) : List O := cpuO s :: (bothA A B C D E ++ [cpuO t])
noncomputable def cxRn (f : OutFn) : Cx := { P := Tryz.prog, n := Tryz.f8.ntmps, tab := [(10, begunS)], mtab := (14, runS f) :: (21, refS f) :: (15, worldD) :: (myT 1).mtab, rtab := (myT 1).rtab, still := [14, 21], refs := [], keeps := [0, 1, 2, 3, 4, 8, 9, 10, 11, 12, 13, 14, 15, 16, 17, 18, 20, 23, 37, 76] }
noncomputable abbrev Brn : Code := bodyOf Tryz.f8
abbrev insE : EC := .prod [.str, .int .i64, .int .i64, .int .i64, .int .i64, .int .i64]
abbrev insA (l : List insE.ty) (k : Int) : insE.ty := l.getD k.toNat insE.dflt
def rnT (l : List insE.ty) (n k : Int) : T := [(1, .sl insE l [] .may), (2, .int .i64 n), (4, .ptr 0 0), (9, .ptr 1 0), (10, .ptr 8 0), (11, .ptr 15 0), (12, .int .i64 k)]
def eqXs : List Int → List Int → Bool
  | a :: r, b :: s => (a == b) && eqXs r s
  | _, _ => true
def eqS (s t : CpuT) : Bool := (s.pc == t.pc) && (eqXs s.x t.x && ((s.z == t.z) && ((s.n == t.n) && ((s.c == t.c) && ((s.v == t.v) && ((s.th == t.th) && true))))))
theorem eqXs_self : ∀ l : List Int, eqXs l l = true
  | [] => rfl
  | a :: r => by
    unfold eqXs
    rw [beq_self_eq_true, eqXs_self r]
    rfl
theorem eqS_self (s : CpuT) : eqS s s = true := by
  unfold eqS
  simp only [beq_self_eq_true, eqXs_self, Bool.and_self]
def stopR (l : List insE.ty) (n k : Int) (s : CpuT) (o : Out) : Tree St := .leaf (.ret, rnT l n k, rnH s s o.A o.B o.C o.D o.E)
def rnRound (f : OutFn) (l : List insE.ty) (n k : Int) (s : CpuT) (A B C D E : List Int) : Tree St :=
  .br (decide (k < (l.length : Nat))) (.br (decide (k < 80)) (.br (inside k l.length) (.br (true && lens5 A B C D E) (.br (fineB (tabS s)) (.br (inside k l.length) (.br (true && (true && (true && lens5 A B C D E))) (.br (fineB (tabS s))
    (let o := f (insA l k).1 (tabS s) (insA l k).2.1 (insA l k).2.2.1 (insA l k).2.2.2.1 (insA l k).2.2.2.2.1 (insA l k).2.2.2.2.2 n A B C D E
     .br (!(eqS (tabS o.s) (tabS o.s))) (stopR l n k s o) (.br (o.ev != o.ev) (stopR l n k s o) (.br (o.err != o.err) (stopR l n k s o) (.leaf (.normal, rnT l n (IntKind.wrap .i64 (k + 1)), rnH o.s o.s o.A o.B o.C o.D o.E))))) .fail) .fail) .fail) .fail) .fail) .fail)
    (.leaf (.exit 0, rnT l n k, rnH s s A B C D E))) (.leaf (.exit 0, rnT l n k, rnH s s A B C D E))
theorem rnRound_eq (f : OutFn) (l : List insE.ty) (n k : Int) (s : CpuT) (A B C D E : List Int) :
    ((dcode (cxRn f) (cin (cin (c2 (c1 (tailN 4 Brn))))) (rnT l n k) (rnH s s A B C D E)).bind (rnd 16 [] [1, 2, 4, 9, 10, 11, 12])).run = (rnRound f l n k s A B C D E).run :=
  (show _ = (rnRound f l n k s A B C D E).out by kernel_rfl).trans (Tree.out_run _)

def rnA (s : CpuT) (l : List insE.ty) (n : Int) (m : List Int) (t : T) : T := (0, .agg (tabS s).l) :: (1, .sl insE l [] .may) :: (2, .int .i64 n) :: (3, .sl (.int .u8) m [] .may) :: (4, .ptr 0 0) :: t
def rnHead (s : CpuT) (l : List insE.ty) (n : Int) (m : List Int) : Tree St :=
  .br (decide (8192 < ((m.length : Nat) : Int))) (.leaf (.ret, rnA s l n m [(8, .bool true), (20, .bool false), (23, .bool true)], [cpuO s])) (.br (true && setB m) (.leaf (.normal, rnA s l n m [(8, .bool false), (9, .ptr 1 0), (10, .ptr 8 0), (11, .ptr 15 0), (20, .bool false), (23, .bool false)],
    rnH s s (wdK 1 [] m zeros) (wdK 2 [] m zeros) (wdK 16 [] m zeros) (wdK 17 [] m zeros) (wdK 32 [] m zeros))) .fail)
theorem rn_head (f : OutFn) (s : CpuT) (l : List insE.ty) (n : Int) (m : List Int) : (dcode (cxRn f) (headN 4 Brn) (initT 0 [.agg (tabS s).l, .sl insE l [] .may, .int .i64 n, .sl (.int .u8) m [] .may]) []).run = (rnHead s l n m).run :=
  (show _ = (rnHead s l n m).out by kernel_rfl).trans (Tree.out_run _)
theorem rn_start (f : OutFn) (l : List insE.ty) (n : Int) (H : List O) : ((dcode (cxRn f) (c1 (c1 (tailN 4 Brn))) [(1, .sl insE l [] .may), (2, .int .i64 n), (4, .ptr 0 0), (9, .ptr 1 0), (10, .ptr 8 0), (11, .ptr 15 0)] H).bind (cutK [1, 2, 4, 9, 10, 11, 12])).run = some (.normal, rnT l n 0, H) := by kernel_rfl
noncomputable def rnEnd (f : OutFn) (s : CpuT) (A B C D E : List Int) : Option V := ((dcode (cxRn f) (tailN 5 Brn) [(9, .ptr 1 0), (10, .ptr 8 0)] (rnH s s A B C D E)).bind (answer Tryz.prog Tryz.f8.results.toList)).fin
def strP (l : List Int) : List UInt8 := (List.take 4096 (List.drop 0 l)).map fun n => UInt8.ofNat n.toNat
def pgOk (L : Bool) (A : List Int) (r : Option V) : Option V :=
  cond (true && L) (cond (true && L) (cond (true && (true && Nat.ble 4096 A.length)) (cond (true && (true && Nat.ble 4096 A.length)) (cond (!(strEq (strP A) (strP A))) (some (.bool false)) r) none) none) none) none
theorem rn_end (f : OutFn) (s : CpuT) (A B C D E : List Int) : rnEnd f s A B C D E =
    cond (true && lens5 A B C D E) (pgOk (lens5 A B C D E) A (pgOk (lens5 A B C D E) B (pgOk (lens5 A B C D E) C (pgOk (lens5 A B C D E) D (pgOk (lens5 A B C D E) E (some (.bool true))))))) none := by kernel_rfl

theorem answer_post {fn : Func} {s : St} {v : V} (h : (answer Tryz.prog fn.results.toList s).run = some v) : (s.1 = .ret ∨ s.1 = .normal) ∧ answerV Tryz.prog fn.results.toList s.2.2 s.2.1 = some v := by
  obtain ⟨e, t, H⟩ := s
  unfold answer at h
  split at h
  · rename_i heq
    cases heq
    split at h
    · rename_i v hv
      cases h
      exact ⟨.inl rfl, hv⟩
    · cases h
  · rename_i heq
    cases heq
    split at h
    · rename_i v hv
      cases h
      exact ⟨.inr rfl, hv⟩
    · cases h
  · cases h
/-- What is asked of such a function. -/
def FOk (f : OutFn) : Prop := ∀ nm s a b c d m sz A B C D E, Fine s → lens5 A B C D E = true →
  Fine (f nm s a b c d m sz A B C D E).s ∧ lens5 (f nm s a b c d m sz A B C D E).A (f nm s a b c d m sz A B C D E).B (f nm s a b c d m sz A B C D E).C (f nm s a b c d m sz A B C D E).D (f nm s a b c d m sz A B C D E).E = true
theorem fineB_of {s : CpuT} (h : Fine s) : fineB s = true := by
  unfold fineB
  rw [h.pc, Bool.true_and, List.all_eq_true]
  intro x hx
  obtain ⟨i, hi, rfl⟩ := List.getElem_of_mem hx
  have := h.rng i
  rw [getD_lt hi] at this
  exact this
/-- A state of the law's loop. -/
structure RnSt where
  k : Nat
  s : CpuT
  A : List Int
  B : List Int
  C : List Int
  D : List Int
  E : List Int
  hk : k ≤ 80
  hs : Fine s
  hl : lens5 A B C D E = true
def rnSt (l : List insE.ty) (n : Int) (i : RnSt) : T × List O := (rnT l n i.k, rnH i.s i.s i.A i.B i.C i.D i.E)
theorem cxRn_ok {f : OutFn} (h1 : MSound Tryz.prog 14 (runS f)) (h2 : MSound Tryz.prog 21 (refS f)) : CxOk (cxRn f) :=
  ⟨.cons begunS_ok (.nil _), .cons h1 (.cons h2 (.cons worldD_ok (myT_ok 1).2.1)), (myT_ok 1).2.2⟩
theorem pgOk_true {A : List Int} (hA : A.length = 4096) (r : Option V) : pgOk true A r = r := by
  unfold pgOk
  have e : strEq (strP A) (strP A) = true := beq_self_eq_true _
  rw [e, hA]
  rfl
theorem myEnd {A B C D E : List Int} (hl : lens5 A B C D E = true) : cond (true && lens5 A B C D E) (pgOk (lens5 A B C D E) A (pgOk (lens5 A B C D E) B (pgOk (lens5 A B C D E) C (pgOk (lens5 A B C D E) D (pgOk (lens5 A B C D E) E (some (.bool true))))))) none = some (V.bool true) := by
  obtain ⟨l1, l2, l3, l4, l5⟩ := lens5_spec hl
  rw [hl, pgOk_true l1, pgOk_true l2, pgOk_true l3, pgOk_true l4, pgOk_true l5]
  rfl
set_option maxRecDepth 8000 in
theorem runs_law {f : OutFn} (hf : FOk f) (h1 : MSound Tryz.prog 14 (runS f)) (h2 : MSound Tryz.prog 21 (refS f)) {s : CpuT} (hs : Fine s) (l : List insE.ty) (n : Int) (m : List Int) (hm : m.all byteB = true) :
    PCall Tryz.prog 8 [.agg s.l, .sl insE l [] .may, .int .i64 n, .sl (.int .u8) m [] .may] (.bool true) := by
  have hok := cxRn_ok h1 h2
  have hts : tabS s = s := cpu_tab hs.len
  rw [← hts]
  refine pcall_of' (c := Brn) (fn := Tryz.f8) (by kernel_rfl) (by kernel_rfl) (by kernel_rfl) (by kernel_rfl) ?_
  refine AWP_headE (cx := cxRn f) rfl rfl hok 4 (by kernel_rfl) (rn_head f s l n m) ?_
  refine ⟨fun _ => ⟨.inl rfl, by kernel_rfl⟩, fun hx => ?_⟩
  have hx := of_decide_eq_false hx
  have hm : setB m = true := by
    unfold setB
    rw [hm, decide_eq_true (by omega)]
    rfl
  refine all_t (by rw [Bool.true_and]; exact hm) ?_
  show AWP _ _ _ _ _ _
  refine AWP.less (s := [(1, .sl insE l [] .may), (2, .int .i64 n), (4, .ptr 0 0), (9, .ptr 1 0), (10, .ptr 8 0), (11, .ptr 15 0)]) (Fits.tle ⟨rfl, rfl, rfl, rfl, rfl, rfl, trivial⟩) ?_
  have eb : tailN 4 Brn = .seq (.seq (c1 (c1 (tailN 4 Brn))) (.block 0 (.loop (cin (cin (c2 (c1 (tailN 4 Brn)))))))) (tailN 5 Brn) := by kernel_rfl
  rw [eb]
  have hl := lens5_wd (l := []) rfl hm lens_zeros
  generalize wdK 1 [] m zeros = A at hl
  generalize wdK 2 [] m zeros = B at hl
  generalize wdK 16 [] m zeros = C at hl
  generalize wdK 17 [] m zeros = D at hl
  generalize wdK 32 [] m zeros = E at hl
  obtain ⟨r, g1, g2⟩ := Option.map_eq_some_iff.1 ((cutK_run _ _).symm.trans (rn_start f l n (rnH s s A B C D E)))
  refine AWP_seq (AWP_seq (AWP_run (cx := cxRn f) rfl rfl hok g1 ?_))
  obtain ⟨ex, t, H⟩ := r
  simp only [Prod.mk.injEq] at g2
  obtain ⟨rfl, g2, rfl⟩ := g2
  refine AWP_block (AWP.less (s := rnT l n 0) (g2 ▸ TLe.keep _ _) ?_)
  refine AWP_roundsK (cx := cxRn f) (P := Tryz.prog) (n := 82) rfl rfl hok (rnSt l n) (fun i => 80 - i.k) [] [1, 2, 4, 9, 10, 11, 12] ?_ ⟨0, s, A, B, C, D, E, by omega, hs, hl⟩
  rintro ⟨k, s, A, B, C, D, E, hk, hs, hl⟩
  refine Tree.all_run_eq (rnRound_eq f l n k s A B C D E) ?_
  have hts : tabS s = s := cpu_tab hs.len
  have hfb : fineB (tabS s) = true := by rw [hts]; exact fineB_of hs
  have hend : RoundK (rnSt l n) (fun i => 80 - i.k) [1, 2, 4, 9, 10, 11, 12] (blockQ 0 (seqQ (AWP Tryz.prog 82 (tailN 5 Brn) fun e t H => (e = .ret ∨ e = .normal) ∧ answerV Tryz.prog Tryz.f8.results.toList H t = some (.bool true)) fun e t H => (e = .ret ∨ e = .normal) ∧ answerV Tryz.prog Tryz.f8.results.toList H t = some (.bool true)))
      ⟨k, s, A, B, C, D, E, hk, hs, hl⟩ (.exit 0, rnT l n k, rnH s s A B C D E) := by
    intro t ht
    have ht : rnT l n k = keep [1, 2, 4, 9, 10, 11, 12] t := ht
    show AWP _ _ _ _ _ _
    refine AWP.less (s := rnT l n k) (ht ▸ TLe.keep _ _) ?_
    refine AWP.less (s := [(9, .ptr 1 0), (10, .ptr 8 0)]) (Fits.tle ⟨rfl, rfl, trivial⟩) ?_
    have he := (rn_end f s A B C D E).trans (myEnd hl)
    unfold rnEnd at he
    rw [Tree.fin_run] at he
    obtain ⟨r, q1, q2⟩ := bind_run he
    refine AWP_run (cx := cxRn f) rfl rfl hok q1 ?_
    exact answer_post q2
  refine ⟨fun hlt => ⟨fun hlt2 => ?_, fun _ => hend⟩, fun _ => hend⟩
  have hlt := of_decide_eq_true hlt
  have hlt2 := of_decide_eq_true hlt2
  have hin := inside_of (i := (k : Int)) (n := l.length) (by omega) hlt
  refine all_t hin (all_t (by rw [hl]; rfl) (all_t hfb (all_t hin (all_t (by rw [hl]; rfl) (all_t hfb ?_)))))
  refine all_f (by rw [eqS_self]; rfl) (all_f (bne_self_eq_false _) (all_f (bne_self_eq_false _) ?_))
  rw [hts]
  obtain ⟨f1, f2⟩ := hf (insA l k).1 s (insA l k).2.1 (insA l k).2.2.1 (insA l k).2.2.2.1 (insA l k).2.2.2.2.1 (insA l k).2.2.2.2.2 n A B C D E hs hl
  refine ⟨⟨k + 1, _, _, _, _, _, _, by omega, f1, f2⟩, by show 80 - (k + 1) < 80 - k; omega, ?_, rfl⟩
  rw [wrap_i64 (by omega) (by omega)]
  exact TLe.refl _

end Go.Ra

namespace Go.Ra
open Go Go.Ab Go.Proofs Go.Rk

abbrev cpuE : EC := .prod [.int .u64, .prod (List.replicate 32 (.int .u64)), .bool, .bool, .bool, .bool, .int .u64]
/-- A row of numbers, as a list. -/
def rowX : (n : Nat) → EC.tys (List.replicate n (EC.int .u64)) → List Int
  | 0, _ => []
  | 1, x => [x]
  | n + 2, x => x.1 :: rowX (n + 1) x.2
theorem rowX_len : ∀ (n : Nat) (x : EC.tys (List.replicate n (EC.int .u64))), (rowX n x).length = n
  | 0, _ => rfl
  | 1, _ => rfl
  | n + 2, x => congrArg (· + 1) (rowX_len (n + 1) x.2)
theorem has_rng {y : Int} (h : IntKind.u64.has y) : rng64 y = true := by
  have e1 : IntKind.u64.min = 0 ∧ IntKind.u64.max = 18446744073709551616 - 1 := ⟨rfl, rfl⟩
  unfold IntKind.has at h
  rw [e1.1, e1.2] at h
  simp only [rng64, Bool.and_eq_true, decide_eq_true_eq]
  omega
theorem rowX_rng : ∀ (n : Nat) (x : EC.tys (List.replicate n (EC.int .u64))), okEs (List.replicate n (.int .u64)) x → ∀ y ∈ rowX n x, rng64 y = true
  | 0, _, _, y, hy => by cases hy
  | 1, x, h, y, hy => by
    rcases List.mem_cons.1 hy with rfl | hy
    · exact has_rng h
    · cases hy
  | n + 2, x, h, y, hy => by
    rcases List.mem_cons.1 hy with rfl | hy
    · exact has_rng h.1
    · exact rowX_rng (n + 1) x.2 h.2 y hy
def cpuA (x : cpuE.ty) : CpuT := ⟨x.1, rowX 32 x.2.1, x.2.2.1, x.2.2.2.1, x.2.2.2.2.1, x.2.2.2.2.2.1, x.2.2.2.2.2.2⟩
theorem cpuA_fine {x : cpuE.ty} (h : okE cpuE x) : Fine (cpuA x) := by
  refine ⟨rowX_len 32 _, fun i => ?_, has_rng h.1⟩
  show rng64 ((rowX 32 x.2.1).getD i 0) = true
  rw [List.getD_eq_getElem?_getD]
  cases hi : (rowX 32 x.2.1)[i]? with
  | none => rfl
  | some v => exact rowX_rng 32 x.2.1 h.2.1 v (List.mem_of_getElem? hi)
theorem has_byte {y : Int} (h : IntKind.u8.has y) : byteB y = true := by
  have e1 : IntKind.u8.min = 0 ∧ IntKind.u8.max = 256 - 1 := ⟨rfl, rfl⟩
  unfold IntKind.has at h
  rw [e1.1, e1.2] at h
  simp only [byteB, Bool.and_eq_true, decide_eq_true_eq]
  omega
theorem ok_bytes {o : (EC.sl (.int .u8)).ty} (h : okE (.sl (.int .u8)) o) : (o.getD [] : List Int).all byteB = true := by
  cases o with
  | none => rfl
  | some l => exact List.all_eq_true.2 fun y hy => has_byte (h.2 y hy)
theorem outA_ok : FOk outA := fun nm s a b c d m sz A B C D E hs hl => by
  obtain ⟨h1, h2, _⟩ := out_is check_eq wdF_wide nm hs a b c d m sz hl
  exact ⟨h1, h2⟩
theorem argR (x : EC.tys [cpuE, .sl insE, .int .i64, .sl (.int .u8)]) : argVs [cpuE, .sl insE, .int .i64, .sl (.int .u8)] x = [.agg (cpuA x.1).l, .sl insE (x.2.1.getD []) [] .may, .int .i64 x.2.2.1, .sl (.int .u8) (x.2.2.2.getD []) [] .may] := by kernel_rfl
theorem runs_call (x : EC.tys [cpuE, .sl insE, .int .i64, .sl (.int .u8)]) (h : okEs [cpuE, .sl insE, .int .i64, .sl (.int .u8)] x) : PCall Tryz.prog 8 (argVs [cpuE, .sl insE, .int .i64, .sl (.int .u8)] x) (.bool true) := by
  rw [argR]
  exact runs_law outA_ok runA_ok refA_ok (cpuA_fine h.1) _ _ _ (ok_bytes h.2.2.2)

end Go.Ra
