/-
  runarm: what the program's rows and the document's come to, alike: with numbers and registers. Conditions: none.
-/
import Derived.Test.YtmbbnhcbphkniaaGreatDoorPk30
import Derived.Test.YtmbbnhcbphkniaaGreatDoorPk25
import Derived.Test.YtmbbnhcbphkniaaGreatDoorPk23
set_option linter.unusedVariables false
set_option linter.unusedSimpArgs false
namespace Go.Ra
open Go Go.Ab Go.Proofs
structure Fine (s : CpuT) : Prop where
  len : s.x.length = 32
  rng : ∀ i, rng64 (s.x.getD i 0) = true
  pc : rng64 s.pc = true
def Both (s : CpuT) (r g : Option Res) : Prop := ∃ (s' : CpuT) (ev err : Int) (A B C D E : List Int), Fine s' ∧ lens5 A B C D E = true ∧ (err ≠ 0 → s' = s ∧ ev = 0) ∧
  r = some (.ok (.tup [.agg s'.l, .int .i64 ev, .int .i64 err]) (memO A B C D E)) ∧ g = some (.ok (.tup [.agg s'.l, .int .i64 ev, .int .i64 err]) (refO A B C D E))
theorem fine_xr {s : CpuT} (h : Fine s) (n : Int) : rng64 (xr s n) = true := by
  unfold xr
  cases n == 31
  · exact h.rng _
  · rfl
theorem getD_setI {l : List Int} {i j : Nat} {v : Int} : rng64 v = true → rng64 (l.getD j 0) = true → rng64 ((l.set i v).getD j 0) = true := by
  intro hv hl
  rw [List.getD_eq_getElem?_getD, List.getElem?_set]
  split
  · split
    · exact hv
    · rfl
  · rw [← List.getD_eq_getElem?_getD]
    exact hl
theorem fine_put {s : CpuT} (h : Fine s) (a : Int) {v : Int} (hv : rng64 v = true) : Fine (putS a v s) :=
  ⟨putS_len h.len a v, fun i => getD_setI hv (h.rng i), h.pc⟩
theorem fine_set {s : CpuT} (h : Fine s) (a : Int) {v : Int} (hv : rng64 v = true) : Fine (setS a v s) := by
  unfold setS
  cases a == 31
  · exact fine_put h a hv
  · exact h
theorem fine_flag {s : CpuT} (h : Fine s) (z n c v : Bool) : Fine (flagS z n c v s) := ⟨h.len, h.rng, h.pc⟩
theorem both_err {s : CpuT} (h : Fine s) (e : Int) {A B C D E : List Int} (hl : lens5 A B C D E = true) : Both s (errK s e (memO A B C D E)) (errK s e (refO A B C D E)) :=
  ⟨s, 0, e, A, B, C, D, E, h, hl, fun _ => ⟨rfl, rfl⟩, rfl, rfl⟩
theorem both_fin {s s' : CpuT} (h : Fine s) (h' : Fine s') {nx : Int} (hn : rng64 nx = true) (ev : Int) {A B C D E : List Int} (hl : lens5 A B C D E = true) :
    Both s (finC s s' nx ev (memO A B C D E)) (finC s s' nx ev (refO A B C D E)) := by
  unfold finC
  cases (Int.tmod nx 4 != 0)
  · exact ⟨{ s' with pc := nx }, ev, 0, A, B, C, D, E, ⟨h'.len, h'.rng, hn⟩, hl, fun h => absurd rfl h, rfl, rfl⟩
  · exact both_err h 10 hl
structure Hy (s : CpuT) (a b c d : Int) (A B C D E : List Int) : Prop where
  s : Fine s
  a : okReg a = true
  b : okReg b = true
  c0 : 0 ≤ c
  c1 : c ≤ 63
  d0 : 0 ≤ d
  d1 : d ≤ 63
  l : lens5 A B C D E = true
def Alike (r g : RunTy) (P : Int → Int → Prop) : Prop := ∀ s a b c d m A B C D E, Hy s a b c d A B C D E → P c d → Both s (r s a b c d m 4 A B C D E) (g s a b c d m 4 A B C D E)
def Any (_ _ : Int) : Prop := True
section
variable {s r : CpuT} {H : List O} {nx : Int}
theorem setK_R {a : Int} (ha : okReg a = true) (hr : r.x.length = 32) (v : Int) : setK a v r.l (fun L g => finK s L (g nx) H) = finC s (setS a v r) nx 0 H := by
  unfold setK q
  rw [ha, cond_true]
  show finK s (setL a v r.l) (nxS (oX a) v nx) H = _
  rw [setL_eq hr ha, nxS_set ha, finK_eq]
theorem putK_R {a : Int} (hs : s.x.length = 32) (ha : okReg a = true) (hr : r.x.length = 32) (v : Int) (t : List V) : putK a v (s.l ++ t) r.l (fun L g => finK s L (g nx) H) = finC s (putS a v r) nx 0 H := by
  unfold putK
  rw [inX_eq hs ha]
  show finK s (putX a v r.l) (nxS (1 + a.toNat * 1) v nx) H = _
  rw [putX_eq hr ha, nxS_put ha, finK_eq]
theorem setKG_R {a : Int} (hs : s.x.length = 32) (ha : okReg a = true) (hr : r.x.length = 32) (sp : List UInt8) (v : Int) : setKG a v (sG s sp) r.l (fun L => finG s L nx 0 H) = finC s (cond (hasL 65 sp) (putS a v r) (setS a v r)) nx 0 H := by
  unfold setKG q
  rw [ha, cond_true]
  show finG s (setLG (sG s sp) 65 a v r.l) nx 0 H = _
  rw [setLG_eq hs hr ha, finG_eq]
theorem q_true (k : Option Res) : q true k = k := rfl
end
theorem nx_rng (s : CpuT) (sz : Int) : rng64 (nxF s sz) = true := rng_wu _
theorem mvdG_R (nm : List UInt8) (f : MovTy) {s : CpuT} {a b c d : Int} {A B C D E : List Int} (h : Hy s a b c d A B C D E) (m : Int) :
    mvdG nm f s a b c d m 4 A B C D E = f s a c d (wu m) (xr s b) (xr s (and31 c)) s.l (sG s []) fun L => finG s L (nxF s 4) 0 (refO A B C D E) := by
  unfold mvdG q
  rw [h.b, and31_ok, cond_true, cond_true, cond_true, getF_eq h.s.len h.b, getF_eq h.s.len (and31_ok c)]
  rfl
theorem immR_R (nm : List UInt8) (f : ImmTy) (s : CpuT) (a b c d m : Int) (A B C D E : List Int) :
    ∃ t, immR nm f s a b c d m 4 A B C D E = f s a b d (wu m) s.l (s.l ++ t) fun L g => finK s L (g (nxF s 4)) (memO A B C D E) := ⟨_, rfl⟩
theorem regRr_R (nm : List UInt8) (f : RegTy) {s : CpuT} {a b c d : Int} {A B C D E : List Int} (h : Hy s a b c d A B C D E) (m : Int) :
    ∃ t, regRr nm f s a b c d m 4 A B C D E = f s a c d (xr s b) (xr s (and31 c)) (shlF (xr s (and31 c)) d) s.l (s.l ++ t) fun L g => finK s L (g (nxF s 4)) (memO A B C D E) := by
  refine ⟨(.ptr 1 0 :: [.str nm, .int .i64 a, .int .i64 b, .int .i64 c, .int .i64 d, .int .i64 m, .int .u64 (nxF s 4)]), ?_⟩
  unfold regRr preK q stC
  rw [h.b, and31_ok, decide_eq_true h.d0, cond_true, cond_true, cond_true, regF_eq h.s.len h.b, regF_eq h.s.len (and31_ok c)]
theorem al_movz (n1 n2 : List UInt8) : Alike (immR n1 movzI) (mvdG n2 movzG) Any := by
  intro s a b c d m A B C D E h _
  obtain ⟨t, e⟩ := immR_R n1 movzI s a b c d m A B C D E
  obtain ⟨c1, c2, c3, c4⟩ := c16_eq h.d0 h.d1
  rw [e, mvdG_R n2 movzG h]
  unfold movzI movzG
  rw [c3, c4, q_true, q_true]
  rw [setK_R h.a h.s.len, setKG_R h.s.len h.a h.s.len, c2, c1]
  exact both_fin h.s (fine_set h.s _ (rng_wu _)) (nx_rng _ _) 0 h.l
theorem al_movn (n1 n2 : List UInt8) : Alike (immR n1 movnI) (mvdG n2 movnG) Any := by
  intro s a b c d m A B C D E h _
  obtain ⟨t, e⟩ := immR_R n1 movnI s a b c d m A B C D E
  obtain ⟨c1, c2, c3, c4⟩ := c16_eq h.d0 h.d1
  rw [e, mvdG_R n2 movnG h]
  unfold movnI movnG
  rw [c3, c4, q_true, q_true]
  rw [setK_R h.a h.s.len, setKG_R h.s.len h.a h.s.len, c2, c1]
  exact both_fin h.s (fine_set h.s _ (rng_wu _)) (nx_rng _ _) 0 h.l
theorem al_movk (n1 n2 : List UInt8) : Alike (immR n1 movkI) (mvdG n2 movkG) Any := by
  intro s a b c d m A B C D E h _
  obtain ⟨t, e⟩ := immR_R n1 movkI s a b c d m A B C D E
  obtain ⟨c1, c2, c3, c4⟩ := c16_eq h.d0 h.d1
  rw [e, mvdG_R n2 movkG h]
  unfold movkI movkG
  rw [c3, c4, h.a, regF_eq h.s.len h.a, getF_eq h.s.len h.a]
  simp only [q_true]
  rw [setK_R h.a h.s.len, setKG_R h.s.len h.a h.s.len, c2, c1]
  exact both_fin h.s (fine_set h.s _ (rng_wu _)) (nx_rng _ _) 0 h.l
theorem al_adr (n1 n2 : List UInt8) : Alike (immR n1 adrI) (mvdG n2 adrG) Any := by
  intro s a b c d m A B C D E h _
  obtain ⟨t, e⟩ := immR_R n1 adrI s a b c d m A B C D E
  rw [e, mvdG_R n2 adrG h]
  unfold adrI adrG
  rw [setK_R h.a h.s.len, setKG_R h.s.len h.a h.s.len]
  exact both_fin h.s (fine_set h.s _ (rng_wu _)) (nx_rng _ _) 0 h.l
theorem al_adrp (n1 n2 : List UInt8) : Alike (immR n1 adrpI) (mvdG n2 adrpG) Any := by
  intro s a b c d m A B C D E h _
  obtain ⟨t, e⟩ := immR_R n1 adrpI s a b c d m A B C D E
  rw [e, mvdG_R n2 adrpG h]
  unfold adrpI adrpG
  rw [setK_R h.a h.s.len, setKG_R h.s.len h.a h.s.len]
  exact both_fin h.s (fine_set h.s _ (rng_wu _)) (nx_rng _ _) 0 h.l
end Go.Ra

namespace Go.Ra
open Go Go.Ab Go.Proofs
def WdOk (wd : Int → Int → Int × Int) : Prop := ∀ x y, rng64 x = true → rng64 y = true → (wd x y).2 = wu (x * y)
def DReg (_ d : Int) : Prop := d ≤ 31
theorem okReg_of {d : Int} (h0 : 0 ≤ d) (h1 : d ≤ 31) : okReg d = true := by
  simp only [okReg, Bool.and_eq_true, decide_eq_true_eq]
  exact ⟨h0, h1⟩
theorem al_madd (n1 n2 : List UInt8) (wd : Int → Int → Int × Int) (hw : WdOk wd) : Alike (regRr n1 maddR) (mvdG n2 (maddG wd fun x => x)) DReg := by
  intro s a b c d m A B C D E h hd
  obtain ⟨t, e⟩ := regRr_R n1 maddR h m
  have hdd := okReg_of h.d0 hd
  rw [e, mvdG_R n2 _ h]
  unfold maddR maddG
  rw [hdd, q_true, q_true, regF_eq h.s.len hdd, getF_eq h.s.len hdd, setK_R h.a h.s.len, setKG_R h.s.len h.a h.s.len, hw _ _ (fine_xr h.s _) (fine_xr h.s _)]
  exact both_fin h.s (fine_set h.s _ (rng_wu _)) (nx_rng _ _) 0 h.l
theorem al_msub (n1 n2 : List UInt8) (wd : Int → Int → Int × Int) (hw : WdOk wd) : Alike (regRr n1 msubR) (mvdG n2 (maddG wd fun x => wu (0 - x))) DReg := by
  intro s a b c d m A B C D E h hd
  obtain ⟨t, e⟩ := regRr_R n1 msubR h m
  have hdd := okReg_of h.d0 hd
  rw [e, mvdG_R n2 _ h]
  unfold msubR maddG
  rw [hdd, q_true, q_true, regF_eq h.s.len hdd, getF_eq h.s.len hdd, setK_R h.a h.s.len, setKG_R h.s.len h.a h.s.len, hw _ _ (fine_xr h.s _) (fine_xr h.s _)]
  have k : wu ((cond (hasL 68 []) (s.x.getD d.toNat 0) (xr s d)) + wu (0 - wu (xr s b * xr s (and31 c)))) = wu (xr s d - wu (xr s b * xr s (and31 c))) := sub_neg _ _
  rw [k]
  exact both_fin h.s (fine_set h.s _ (rng_wu _)) (nx_rng _ _) 0 h.l
theorem divuF_rng (x y : Int) : rng64 (divuF x y) = true := by
  unfold divuF
  cases y == 0
  · exact rng_wu _
  · rfl
theorem divF_rng (x y : Int) : rng64 (divF x y) = true := by
  unfold divF
  cases y == 0
  · cases y == -1
    · exact rng_wu _
    · exact rng_wu _
  · rfl
theorem al_udiv (n1 n2 : List UInt8) : Alike (regRr n1 udivR) (mvdG n2 (divG false)) Any := by
  intro s a b c d m A B C D E h _
  obtain ⟨t, e⟩ := regRr_R n1 udivR h m
  rw [e, mvdG_R n2 _ h]
  unfold udivR divG
  rw [fine_xr h.s, q_true, divu_dv, setK_R h.a h.s.len, setKG_R h.s.len h.a h.s.len]
  exact both_fin h.s (fine_set h.s _ (divuF_rng _ _)) (nx_rng _ _) 0 h.l
theorem al_sdiv (n1 n2 : List UInt8) : Alike (regRr n1 sdivR) (mvdG n2 (divG true)) Any := by
  intro s a b c d m A B C D E h _
  obtain ⟨t, e⟩ := regRr_R n1 sdivR h m
  rw [e, mvdG_R n2 _ h]
  unfold sdivR divG
  rw [fine_xr h.s, q_true, div_dv (fine_xr h.s _) (fine_xr h.s _), setK_R h.a h.s.len, setKG_R h.s.len h.a h.s.len]
  exact both_fin h.s (fine_set h.s _ (divF_rng _ _)) (nx_rng _ _) 0 h.l
theorem al_sh (n1 n2 : List UInt8) (g : Int → Int → Int) (hg : ∀ x y, rng64 x = true → rng64 (g x y) = true) : Alike (regRr n1 (shR g)) (mvdG n2 (shG g)) Any := by
  intro s a b c d m A B C D E h _
  obtain ⟨t, e⟩ := regRr_R n1 (shR g) h m
  have h6 : decide (0 ≤ andU (xr s (and31 c)) 63) = true := decide_eq_true (rng_spec (andU_rng _ _)).1
  rw [e, mvdG_R n2 _ h]
  unfold shR shG
  rw [h6, q_true, q_true, setK_R h.a h.s.len, setKG_R h.s.len h.a h.s.len]
  exact both_fin h.s (fine_set h.s _ (hg _ _ (fine_xr h.s _))) (nx_rng _ _) 0 h.l
theorem fieldF_rng (b r t : Int) (sg : Bool) : rng64 (fieldF b r t sg) = true := by
  unfold fieldF fieldX
  cases decide (t < r) <;> cases sg <;> exact rng_wu _
theorem ok6_of {c : Int} (h0 : 0 ≤ c) (h1 : c ≤ 63) : ok6 c = true := by
  simp only [ok6, Bool.and_eq_true, decide_eq_true_eq]
  exact ⟨h0, h1⟩
theorem al_bf (n1 n2 : List UInt8) (sg : Bool) : Alike (regRr n1 (fieldR sg)) (mvdG n2 (bfG sg)) Any := by
  intro s a b c d m A B C D E h _
  obtain ⟨t, e⟩ := regRr_R n1 (fieldR sg) h m
  have h6 : (ok6 c && ok6 d) = true := by rw [ok6_of h.c0 h.c1, ok6_of h.d0 h.d1]; rfl
  rw [e, mvdG_R n2 _ h]
  unfold fieldR bfG
  rw [h6, q_true, q_true, setK_R h.a h.s.len, setKG_R h.s.len h.a h.s.len]
  exact both_fin h.s (fine_set h.s _ (fieldF_rng _ _ _ _)) (nx_rng _ _) 0 h.l
theorem al_sel (n1 n2 : List UInt8) (g : Int → Int) (hg : ∀ x, rng64 x = true → rng64 (g x) = true) : Alike (regRr n1 (selR g)) (mvdG n2 (selG g)) Any := by
  intro s a b c d m A B C D E h _
  obtain ⟨t, e⟩ := regRr_R n1 (selR g) h m
  rw [e, mvdG_R n2 _ h]
  unfold selR selG
  rw [setK_R h.a h.s.len, setKG_R h.s.len h.a h.s.len, setK_R h.a h.s.len, setKG_R h.s.len h.a h.s.len]
  cases holdsF s.z s.n s.c s.v d
  · exact both_fin h.s (fine_set h.s _ (hg _ (fine_xr h.s _))) (nx_rng _ _) 0 h.l
  · exact both_fin h.s (fine_set h.s _ (fine_xr h.s _)) (nx_rng _ _) 0 h.l
def CReg (c _ : Int) : Prop := c ≤ 31
theorem sumG_R (nm sp : List UInt8) (k : Nat) (f : SumTy) {s : CpuT} {a b c d : Int} {A B C D E : List Int} (h : Hy s a b c d A B C D E) (hk : Nat.beq k 0 = true → c ≤ 31) (m : Int) :
    sumG nm sp k f s a b c d m 4 A B C D E = f s a (cond (hasL 66 sp) (s.x.getD b.toNat 0) (xr s b)) (othF k (sG s sp) c d m) s.l (sG s sp) fun L => finG s L (nxF s 4) 0 (refO A B C D E) := by
  unfold sumG q
  rw [h.b, cond_true, getF_eq h.s.len h.b]
  have : (cond (Nat.beq k 0) (okReg c) true) = true := by
    cases hb : Nat.beq k 0
    · rfl
    · exact okReg_of h.c0 (hk hb)
  rw [this, cond_true]
theorem sumG_0 (nm : List UInt8) (k : Nat) (f : SumTy) {s : CpuT} {a b c d : Int} {A B C D E : List Int} (h : Hy s a b c d A B C D E) (hk : Nat.beq k 0 = true → c ≤ 31) (m : Int) :
    sumG nm [] k f s a b c d m 4 A B C D E = f s a (xr s b) (othF k (sG s []) c d m) s.l (sG s []) fun L => finG s L (nxF s 4) 0 (refO A B C D E) := (sumG_R nm [] k f h hk m).trans rfl
theorem qset_R {s r : CpuT} {H : List O} {nx a : Int} (hs : s.x.length = 32) (ha : okReg a = true) (hr : r.x.length = 32) (sp : List UInt8) (v : Int) :
    q (okReg a) (finG s (setLG (sG s sp) 65 a v r.l) nx 0 H) = finC s (cond (hasL 65 sp) (putS a v r) (setS a v r)) nx 0 H := setKG_R hs ha hr sp v
theorem oth_0 {s : CpuT} {a b c d : Int} {A B C D E : List Int} (h : Hy s a b c d A B C D E) (hc : c ≤ 31) (m : Int) : othF 0 (sG s []) c d m = shlF (xr s (and31 c)) d := by
  have hcc := okReg_of h.c0 hc
  have hd : wu d = d := wu_eq h.d0 (by have := h.d1; omega)
  show shlF (getF (sG s []) 67 c) (wu d) = _
  rw [getF_eq h.s.len hcc, and31_eq hcc, hd]
  rfl
theorem al_op (n1 n2 : List UInt8) (g : Int → Int → Int) (hg : ∀ x y, rng64 (g x y) = true) : Alike (regRr n1 (opR g)) (sumG n2 [] 0 (opG g)) CReg := by
  intro s a b c d m A B C D E h hc
  obtain ⟨t, e⟩ := regRr_R n1 (opR g) h m
  rw [e, sumG_0 n2 0 (opG g) h (fun _ => hc), oth_0 h hc]
  unfold opR opG
  rw [setK_R h.a h.s.len, qset_R h.s.len h.a h.s.len]
  exact both_fin h.s (fine_set h.s _ (hg _ _)) (nx_rng _ _) 0 h.l
theorem nzL_eq {s : CpuT} (hs : s.x.length = 32) (x : Int) (c v : Bool) : nzL x c v s.l = (flagS (x == 0) (shr63 x == 1) c v s).l := flagL_eq hs _ _ _ _
theorem al_adds (n1 n2 : List UInt8) : Alike (regRr n1 addsR) (sumG n2 [] 0 plusG) CReg := by
  intro s a b c d m A B C D E h hc
  obtain ⟨t, e⟩ := regRr_R n1 addsR h m
  have hx := fine_xr h.s b
  have ho : rng64 (shlF (xr s (and31 c)) d) = true := rng_wu _
  rw [e, sumG_0 n2 0 plusG h (fun _ => hc), oth_0 h hc]
  unfold addsR plusG
  rw [addQ_eq hx ho, q_true, addFl_eq hx ho, nzL_eq h.s.len, setK_R h.a (flagS_len h.s.len _ _ _ _), addV_eq]
  rw [nzL_eq h.s.len, nzL_eq h.s.len, qset_R h.s.len h.a (flagS_len h.s.len _ _ _ _), qset_R h.s.len h.a (flagS_len h.s.len _ _ _ _)]
  have fin := fun v => both_fin h.s (fine_set (fine_flag h.s (wu (xr s b + shlF (xr s (and31 c)) d) == 0) (shr63 (wu (xr s b + shlF (xr s (and31 c)) d)) == 1) (decide (wu (xr s b + shlF (xr s (and31 c)) d) < xr s b)) v) a (rng_wu (xr s b + shlF (xr s (and31 c)) d))) (nx_rng s 4) 0 h.l
  cases shr63 (xr s b) == shr63 (shlF (xr s (and31 c)) d)
  · exact fin _
  · exact fin _
theorem al_subs (n1 n2 : List UInt8) : Alike (regRr n1 subsR) (sumG n2 [] 0 minusG) CReg := by
  intro s a b c d m A B C D E h hc
  obtain ⟨t, e⟩ := regRr_R n1 subsR h m
  have hx := fine_xr h.s b
  have ho : rng64 (shlF (xr s (and31 c)) d) = true := rng_wu _
  rw [e, sumG_0 n2 0 minusG h (fun _ => hc), oth_0 h hc]
  unfold subsR minusG
  rw [subQ_eq hx ho, q_true, subFl_eq hx ho, nzL_eq h.s.len, setK_R h.a (flagS_len h.s.len _ _ _ _), subVl_eq]
  rw [nzL_eq h.s.len, nzL_eq h.s.len, qset_R h.s.len h.a (flagS_len h.s.len _ _ _ _), qset_R h.s.len h.a (flagS_len h.s.len _ _ _ _)]
  have fin := fun v => both_fin h.s (fine_set (fine_flag h.s (wu (xr s b - shlF (xr s (and31 c)) d) == 0) (shr63 (wu (xr s b - shlF (xr s (and31 c)) d)) == 1) (decide (shlF (xr s (and31 c)) d ≤ xr s b)) v) a (rng_wu (xr s b - shlF (xr s (and31 c)) d))) (nx_rng s 4) 0 h.l
  cases shr63 (xr s b) != shr63 (shlF (xr s (and31 c)) d)
  · exact fin _
  · exact fin _
theorem al_ands (n1 n2 : List UInt8) : Alike (regRr n1 andsR) (sumG n2 [] 0 andsG) CReg := by
  intro s a b c d m A B C D E h hc
  obtain ⟨t, e⟩ := regRr_R n1 andsR h m
  rw [e, sumG_0 n2 0 andsG h (fun _ => hc), oth_0 h hc]
  unfold andsR andsG
  rw [logFl_eq (andU_rng _ _), nzL_eq h.s.len, setK_R h.a (flagS_len h.s.len _ _ _ _)]
  rw [qset_R h.s.len h.a (flagS_len h.s.len _ _ _ _)]
  exact both_fin h.s (fine_set (fine_flag h.s _ _ _ _) _ (andU_rng _ _)) (nx_rng _ _) 0 h.l
end Go.Ra

namespace Go.Ra
open Go Go.Ab Go.Proofs
theorem sumG_sp (nm sp : List UInt8) (hsp : hasL 66 sp = true) (k : Nat) (hk : Nat.beq k 0 = false) (f : SumTy) {s : CpuT} {a b c d : Int} {A B C D E : List Int} (h : Hy s a b c d A B C D E) (m : Int) :
    sumG nm sp k f s a b c d m 4 A B C D E = f s a (s.x.getD b.toNat 0) (othF k (sG s sp) c d m) s.l (sG s sp) fun L => finG s L (nxF s 4) 0 (refO A B C D E) := by
  rw [sumG_R nm sp k f h (fun e => by rw [hk] at e; cases e) m, hsp]
  rfl
theorem sumG_no (nm sp : List UInt8) (hsp : hasL 66 sp = false) (k : Nat) (hk : Nat.beq k 0 = false) (f : SumTy) {s : CpuT} {a b c d : Int} {A B C D E : List Int} (h : Hy s a b c d A B C D E) (m : Int) :
    sumG nm sp k f s a b c d m 4 A B C D E = f s a (xr s b) (othF k (sG s sp) c d m) s.l (sG s sp) fun L => finG s L (nxF s 4) 0 (refO A B C D E) := by
  rw [sumG_R nm sp k f h (fun e => by rw [hk] at e; cases e) m, hsp]
  rfl
theorem oth_1 {s : CpuT} {sp : List UInt8} {c d m : Int} (h0 : 0 ≤ d) (h1 : d ≤ 63) : othF 1 (sG s sp) c d m = shlF (wu m) (c12 d) := by
  obtain ⟨e1, e2, _⟩ := c12_eq h0 h1
  show shlF (wu m) (wu (c12 d)) = _
  rw [e2, e1]
theorem al_addi (n1 n2 : List UInt8) : Alike (immR n1 addiI) (sumG n2 [65, 66] 1 (opG fun x y => wu (x + y))) Any := by
  intro s a b c d m A B C D E h _
  obtain ⟨t, e⟩ := immR_R n1 addiI s a b c d m A B C D E
  obtain ⟨_, _, c3⟩ := c12_eq h.d0 h.d1
  rw [e, sumG_sp n2 [65, 66] rfl 1 rfl _ h, oth_1 h.d0 h.d1]
  unfold addiI opG
  rw [inX_eq h.s.len h.b, c3, q_true, xAt_eq h.s.len h.b, putK_R h.s.len h.a h.s.len, qset_R h.s.len h.a h.s.len]
  exact both_fin h.s (fine_put h.s _ (rng_wu _)) (nx_rng _ _) 0 h.l
theorem al_subi (n1 n2 : List UInt8) : Alike (immR n1 subiI) (sumG n2 [65, 66] 1 (opG fun x y => wu (x - y))) Any := by
  intro s a b c d m A B C D E h _
  obtain ⟨t, e⟩ := immR_R n1 subiI s a b c d m A B C D E
  obtain ⟨_, _, c3⟩ := c12_eq h.d0 h.d1
  rw [e, sumG_sp n2 [65, 66] rfl 1 rfl _ h, oth_1 h.d0 h.d1]
  unfold subiI opG
  rw [inX_eq h.s.len h.b, c3, q_true, xAt_eq h.s.len h.b, putK_R h.s.len h.a h.s.len, qset_R h.s.len h.a h.s.len]
  exact both_fin h.s (fine_put h.s _ (rng_wu _)) (nx_rng _ _) 0 h.l
theorem al_addsi (n1 n2 : List UInt8) : Alike (immR n1 addsiI) (sumG n2 [66] 1 plusG) Any := by
  intro s a b c d m A B C D E h _
  obtain ⟨t, e⟩ := immR_R n1 addsiI s a b c d m A B C D E
  obtain ⟨_, _, c3⟩ := c12_eq h.d0 h.d1
  have hx := h.s.rng b.toNat
  have ho : rng64 (shlF (wu m) (c12 d)) = true := rng_wu _
  rw [e, sumG_sp n2 [66] rfl 1 rfl _ h, oth_1 h.d0 h.d1]
  unfold addsiI plusG
  rw [inX_eq h.s.len h.b, c3, q_true, xAt_eq h.s.len h.b]
  generalize s.x.getD b.toNat 0 = x at hx
  generalize shlF (wu m) (c12 d) = o at ho
  rw [addQ_eq hx ho, q_true, addFl_eq hx ho, nzL_eq h.s.len, setK_R h.a (flagS_len h.s.len _ _ _ _), addV_eq]
  rw [nzL_eq h.s.len, nzL_eq h.s.len, qset_R h.s.len h.a (flagS_len h.s.len _ _ _ _), qset_R h.s.len h.a (flagS_len h.s.len _ _ _ _)]
  have fin := fun v => both_fin h.s (fine_set (fine_flag h.s (wu (x + o) == 0) (shr63 (wu (x + o)) == 1) (decide (wu (x + o) < x)) v) a (rng_wu (x + o))) (nx_rng s 4) 0 h.l
  cases shr63 x == shr63 o
  · exact fin _
  · exact fin _
theorem al_subsi (n1 n2 : List UInt8) : Alike (immR n1 subsiI) (sumG n2 [66] 1 minusG) Any := by
  intro s a b c d m A B C D E h _
  obtain ⟨t, e⟩ := immR_R n1 subsiI s a b c d m A B C D E
  obtain ⟨_, _, c3⟩ := c12_eq h.d0 h.d1
  have hx := h.s.rng b.toNat
  have ho : rng64 (shlF (wu m) (c12 d)) = true := rng_wu _
  rw [e, sumG_sp n2 [66] rfl 1 rfl _ h, oth_1 h.d0 h.d1]
  unfold subsiI minusG
  rw [inX_eq h.s.len h.b, c3, q_true, xAt_eq h.s.len h.b]
  generalize s.x.getD b.toNat 0 = x at hx
  generalize shlF (wu m) (c12 d) = o at ho
  rw [subQ_eq hx ho, q_true, subFl_eq hx ho, nzL_eq h.s.len, setK_R h.a (flagS_len h.s.len _ _ _ _), subVl_eq]
  rw [nzL_eq h.s.len, nzL_eq h.s.len, qset_R h.s.len h.a (flagS_len h.s.len _ _ _ _), qset_R h.s.len h.a (flagS_len h.s.len _ _ _ _)]
  have fin := fun v => both_fin h.s (fine_set (fine_flag h.s (wu (x - o) == 0) (shr63 (wu (x - o)) == 1) (decide (o ≤ x)) v) a (rng_wu (x - o))) (nx_rng s 4) 0 h.l
  cases shr63 x != shr63 o
  · exact fin _
  · exact fin _
theorem al_bit (n1 n2 : List UInt8) (g : Int → Int → Int) (hg : ∀ x y, rng64 (g x y) = true) : Alike (immR n1 (bitI g)) (sumG n2 [65] 2 (opG g)) Any := by
  intro s a b c d m A B C D E h _
  obtain ⟨t, e⟩ := immR_R n1 (bitI g) s a b c d m A B C D E
  rw [e, sumG_no n2 [65] rfl 2 rfl _ h]
  unfold bitI opG
  rw [h.b, q_true, regF_eq h.s.len h.b, putK_R h.s.len h.a h.s.len, qset_R h.s.len h.a h.s.len]
  exact both_fin h.s (fine_put h.s _ (hg _ _)) (nx_rng _ _) 0 h.l
theorem al_andsi (n1 n2 : List UInt8) : Alike (immR n1 andsI) (sumG n2 [] 2 andsG) Any := by
  intro s a b c d m A B C D E h _
  obtain ⟨t, e⟩ := immR_R n1 andsI s a b c d m A B C D E
  rw [e, sumG_no n2 [] rfl 2 rfl _ h]
  unfold andsI andsG
  rw [h.b, q_true, regF_eq h.s.len h.b, logFl_eq (andU_rng _ _), nzL_eq h.s.len, setK_R h.a (flagS_len h.s.len _ _ _ _)]
  show Both s _ (q (okReg a) (finG s (setLG (sG s []) 65 a (andU (xr s b) (wu m)) (nzL (andU (xr s b) (wu m)) false false s.l)) (nxF s 4) 0 (refO A B C D E)))
  rw [nzL_eq h.s.len, qset_R h.s.len h.a (flagS_len h.s.len _ _ _ _)]
  exact both_fin h.s (fine_set (fine_flag h.s _ _ _ _) _ (andU_rng _ _)) (nx_rng _ _) 0 h.l
theorem jmpR_R (nm : List UInt8) (f : JmpTy) {s : CpuT} {a b c d : Int} {A B C D E : List Int} (h : Hy s a b c d A B C D E) (m : Int) :
    ∃ t, jmpR nm f s a b c d m 4 A B C D E = f s a b d (wu (s.pc + wu m)) (nxF s 4) s.l (s.l ++ t) fun L nx => finK s L nx (memO A B C D E) := by
  refine ⟨(.ptr 1 0 :: [.str nm, .int .i64 a, .int .i64 b, .int .i64 c, .int .i64 d, .int .i64 m, .int .u64 (nxF s 4)]), ?_⟩
  unfold jmpR preK q stC
  rw [h.b, and31_ok, decide_eq_true h.d0]
  rfl
theorem set30 {s : CpuT} (hs : s.x.length = 32) (v : Int) : setL 30 v s.l = (putS 30 v s).l := by
  rw [setL_eq hs rfl]
  rfl
theorem al_b (n1 : List UInt8) : Alike (jmpR n1 bJ) bG Any := by
  intro s a b c d m A B C D E h _
  obtain ⟨t, e⟩ := jmpR_R n1 bJ h m
  rw [e]
  exact both_fin h.s h.s (rng_wu _) 0 h.l
theorem al_bl (n1 : List UInt8) : Alike (jmpR n1 blJ) blG Any := by
  intro s a b c d m A B C D E h _
  obtain ⟨t, e⟩ := jmpR_R n1 blJ h m
  rw [e]
  unfold blJ blG
  rw [set30 h.s.len]
  exact both_fin h.s (fine_put h.s _ (nx_rng _ _)) (rng_wu _) 0 h.l
theorem al_bc (n1 : List UInt8) : Alike (jmpR n1 bcJ) bcG Any := by
  intro s a b c d m A B C D E h _
  obtain ⟨t, e⟩ := jmpR_R n1 bcJ h m
  rw [e]
  unfold bcJ bcG
  cases holdsF s.z s.n s.c s.v d
  · exact both_fin h.s h.s (nx_rng _ _) 0 h.l
  · exact both_fin h.s h.s (rng_wu _) 0 h.l
theorem al_cbz (n1 : List UInt8) : Alike (jmpR n1 cbzJ) (cbG true) Any := by
  intro s a b c d m A B C D E h _
  obtain ⟨t, e⟩ := jmpR_R n1 cbzJ h m
  rw [e]
  unfold cbzJ cbG
  rw [h.a, q_true, q_true, regF_eq h.s.len h.a, getF_eq h.s.len h.a]
  show Both s (cond (xr s a == 0) _ _) (cond ((xr s a == 0) == true) _ _)
  cases xr s a == 0
  · exact both_fin h.s h.s (nx_rng _ _) 0 h.l
  · exact both_fin h.s h.s (rng_wu _) 0 h.l
theorem al_cbnz (n1 : List UInt8) : Alike (jmpR n1 cbnzJ) (cbG false) Any := by
  intro s a b c d m A B C D E h _
  obtain ⟨t, e⟩ := jmpR_R n1 cbnzJ h m
  rw [e]
  unfold cbnzJ cbG
  rw [h.a, q_true, q_true, regF_eq h.s.len h.a, getF_eq h.s.len h.a]
  show Both s (cond (!(xr s a == 0)) _ _) (cond ((xr s a == 0) == false) _ _)
  cases xr s a == 0
  · exact both_fin h.s h.s (rng_wu _) 0 h.l
  · exact both_fin h.s h.s (nx_rng _ _) 0 h.l
theorem al_br (n1 : List UInt8) : Alike (jmpR n1 brJ) brG Any := by
  intro s a b c d m A B C D E h _
  obtain ⟨t, e⟩ := jmpR_R n1 brJ h m
  rw [e]
  unfold brJ brG
  rw [h.b, q_true, q_true, regF_eq h.s.len h.b, getF_eq h.s.len h.b]
  exact both_fin h.s h.s (fine_xr h.s _) 0 h.l
theorem al_blr (n1 : List UInt8) : Alike (jmpR n1 blrJ) blrG Any := by
  intro s a b c d m A B C D E h _
  obtain ⟨t, e⟩ := jmpR_R n1 blrJ h m
  rw [e]
  unfold blrJ blrG
  rw [h.b, q_true, q_true, regF_eq h.s.len h.b, getF_eq h.s.len h.b, set30 h.s.len]
  exact both_fin h.s (fine_put h.s _ (nx_rng _ _)) (fine_xr h.s _) 0 h.l
theorem al_nop (n1 : List UInt8) : Alike (jmpR n1 nopJ) (nopG 0) Any := by
  intro s a b c d m A B C D E h _
  obtain ⟨t, e⟩ := jmpR_R n1 nopJ h m
  rw [e]
  exact both_fin h.s h.s (nx_rng _ _) 0 h.l
def PcOk (r g : RunTy) : Prop := ∀ s a b c d m A B C D E, Hy s a b c d A B C D E → Int.tmod s.pc 4 = 0 → Both s (r s a b c d m 4 A B C D E) (g s a b c d m 4 A B C D E)
theorem al_svc : PcOk svcR (nopG 1) := by
  intro s a b c d m A B C D E h hp
  have hn : Int.tmod (nxF s 4) 4 = 0 := by
    obtain ⟨p0, p1⟩ := rng_spec h.s.pc
    have e : nxF s 4 = (s.pc + 4) % 18446744073709551616 := rfl
    rw [e]
    rw [Int.tmod_eq_emod_of_nonneg p0] at hp
    rw [Int.tmod_eq_emod_of_nonneg (by omega)]
    omega
  have e : nopG 1 s a b c d m 4 A B C D E = outK (pcL (nxF s 4) s.l) 1 (refO A B C D E) := by
    unfold nopG finG
    rw [hn]
    rfl
  rw [e]
  exact ⟨{ s with pc := nxF s 4 }, 1, 0, A, B, C, D, E, ⟨h.s.len, h.s.rng, nx_rng _ _⟩, h.l, fun h => absurd rfl h, rfl, rfl⟩
theorem al_brk : Alike brkR brkG Any := by
  intro s a b c d m A B C D E h _
  exact ⟨s, 2, 0, A, B, C, D, E, h.s, h.l, fun h => absurd rfl h, rfl, rfl⟩
end Go.Ra

namespace Go.Ra
open Go Go.Ab Go.Proofs
def adF (s : CpuT) (b m : Int) : Int := wu (s.x.getD b.toNat 0 + wu m)
theorem adF_rng (s : CpuT) (b m : Int) : rng64 (adF s b m) = true := rng_wu _
theorem rng_ldN {A B C D E : List Int} {x : Int} : ∀ (n : Nat) (v : Int), rng64 v = true → rng64 (ldN A B C D E x n v) = true
  | 0, _, h => h
  | n + 1, v, _ => rng_ldN n _ (rng_wu _)
theorem valLd_rng (A B C D E : List Int) (x n : Int) : rng64 (valLd A B C D E x n) = true := by
  unfold valLd
  cases mayB x n 4
  · rfl
  · exact rng_ldN _ 0 rfl
theorem preM_R (nm : List UInt8) (K : List V → Option Res) {s : CpuT} {a b c d : Int} {A B C D E : List Int} (h : Hy s a b c d A B C D E) (m : Int) :
    ∃ t, (preK s nm a b c d m 4 fun _ _ _ S => inX b S (K S)) = K (s.l ++ t) := by
  refine ⟨(.ptr 1 0 :: [.str nm, .int .i64 a, .int .i64 b, .int .i64 c, .int .i64 d, .int .i64 m, .int .u64 (nxF s 4)]), ?_⟩
  unfold preK q stC
  rw [h.b, and31_ok, decide_eq_true h.d0, cond_true, cond_true, cond_true]
  exact inX_eq h.s.len h.b _ _
theorem memG_R (K : Int → List V → Option Res) {s : CpuT} {a b c d : Int} {A B C D E : List Int} (h : Hy s a b c d A B C D E) (m : Int) :
    memG K s b c m = K (adF s b m) (sG s [66]) := by
  unfold memG q
  rw [h.b, and31_ok, cond_true, cond_true, cond_true, cond_true, getF_eq h.s.len h.b]
  rfl
theorem atF_R {s : CpuT} {b : Int} (hs : s.x.length = 32) (hb : okReg b = true) (m : Int) (t : List V) : atF b m (s.l ++ t) = adF s b m := by
  unfold atF adF
  rw [xAt_eq hs hb]
theorem ldK_R (s : CpuT) (nx : Int) {x : Int} (hx : rng64 x = true) (n : Int) {A B C D E : List Int} (hl : lens5 A B C D E = true) (k : Int → Option Res) :
    ldK s nx x n A B C D E k = cond (mayB x n 4) (k (valLd A B C D E x n)) (errK s 21 (memO A B C D E)) := by
  unfold ldK q errLd retK
  rw [hl, hx]
  cases mayB x n 4 <;> rfl
theorem ldC_R {x : Int} (hx : rng64 x = true) (n : Int) {A B C D E : List Int} (hl : lens5 A B C D E = true) (k : Int → Option Res) : ldC x n A B C D E k = k (valLd A B C D E x n) := by
  unfold ldC q
  rw [hl, hx]
  rfl
theorem al_ld (n1 n2 : List UInt8) (n : Int) (f g : Int → Int) (hg : ∀ x, g x = f x) (hf : ∀ x, rng64 x = true → rng64 (f x) = true) : Alike (ldR n1 n f) (ldG n2 n g) Any := by
  intro s a b c d m A B C D E h _
  obtain ⟨t, e⟩ := preM_R n1 (fun S => ldK s (nxF s 4) (atF b m S) n A B C D E fun x => setK a (f x) s.l fun L h => finK s L (h (nxF s 4)) (memO A B C D E)) h m
  unfold ldR ldG
  rw [e, memG_R _ h, atF_R h.s.len h.b, ldK_R _ _ (adF_rng _ _ _) _ h.l, ldC_R (adF_rng _ _ _) _ h.l, setK_R h.a h.s.len, setKG_R h.s.len h.a h.s.len, hg]
  unfold errLd
  cases mayB (adF s b m) n 4
  · exact both_err h.s 21 h.l
  · exact both_fin h.s (fine_set h.s _ (hf _ (valLd_rng _ _ _ _ _ _ _))) (nx_rng _ _) 0 h.l
theorem setLt_eq {s : CpuT} (hs : s.x.length = 32) {a : Int} (ha : okReg a = true) (v : Int) (t : List V) : ∃ t', setL a v (s.l ++ t) = (setS a v s).l ++ t' := by
  refine ⟨setI .u64 (oX a) v (0 + s.l.length) t, ?_⟩
  rw [← setL_eq hs ha]
  unfold setL
  exact setI_append _ _ _
theorem al_ldp (n1 n2 : List UInt8) : Alike (ldpR n1) (ldpG n2) fun c _ => okReg c = true := by
  intro s a b c d m A B C D E h hc
  obtain ⟨t, e⟩ := preM_R n1 (fun S => ldK s (nxF s 4) (atF b m S) 8 A B C D E fun x => ldK s (nxF s 4) (wu (atF b m S + 8)) 8 A B C D E fun y => setK a x s.l fun L h =>
    cond (c != 31) (putK c y (setL a x S) L fun L g => finK s L (g (h (nxF s 4))) (memO A B C D E)) (finK s L (h (nxF s 4)) (memO A B C D E))) h m
  unfold ldpR ldpG
  rw [e, memG_R _ h, atF_R h.s.len h.b, ldK_R _ _ (adF_rng _ _ _) _ h.l, ldK_R _ _ (rng_wu _) _ h.l, ldC_R (adF_rng _ _ _) _ h.l, ldC_R (rng_wu _) _ h.l]
  unfold errLd
  cases mayB (adF s b m) 8 4
  · exact both_err h.s 21 h.l
  cases mayB (wu (adF s b m + 8)) 8 4
  · exact both_err h.s 21 h.l
  have hv := valLd_rng A B C D E (adF s b m) 8
  have hw := valLd_rng A B C D E (wu (adF s b m + 8)) 8
  generalize valLd A B C D E (adF s b m) 8 = v at hv
  generalize valLd A B C D E (wu (adF s b m + 8)) 8 = w at hw
  show Both s (setK a v s.l fun L h => cond (c != 31) (putK c w (setL a v (s.l ++ t)) L fun L g => finK s L (g (h (nxF s 4))) (memO A B C D E)) (finK s L (h (nxF s 4)) (memO A B C D E)))
    (setKG a v (sG s [66]) s.l fun L => q (okReg c) (finG s (setLG (sG s [66]) 67 c w L) (nxF s 4) 0 (refO A B C D E)))
  have e2 : (setKG a v (sG s [66]) s.l fun L => q (okReg c) (finG s (setLG (sG s [66]) 67 c w L) (nxF s 4) 0 (refO A B C D E))) = finC s (setS c w (setS a v s)) (nxF s 4) 0 (refO A B C D E) := by
    unfold setKG q
    rw [h.a, hc, cond_true, setLG_eq h.s.len h.s.len h.a]
    show finG s (setLG (sG s [66]) 67 c w (setS a v s).l) _ _ _ = _
    rw [setLG_eq h.s.len (setS_len h.s.len a v) hc]
    rfl
  rw [e2]
  have e1 : (setK a v s.l fun L h => cond (c != 31) (putK c w (setL a v (s.l ++ t)) L fun L g => finK s L (g (h (nxF s 4))) (memO A B C D E)) (finK s L (h (nxF s 4)) (memO A B C D E))) = finC s (setS c w (setS a v s)) (nxF s 4) 0 (memO A B C D E) := by
    unfold setK q
    rw [h.a, cond_true]
    show cond (c != 31) (putK c w (setL a v (s.l ++ t)) (setL a v s.l) fun L g => finK s L (g (nxS (oX a) v (nxF s 4))) (memO A B C D E)) (finK s (setL a v s.l) (nxS (oX a) v (nxF s 4)) (memO A B C D E)) = _
    rw [nxS_set h.a, setL_eq h.s.len h.a]
    have e4 : setS c w (setS a v s) = cond (c == 31) (setS a v s) (putS c w (setS a v s)) := rfl
    rw [e4]
    cases h31 : c == 31
    · have h32 : (c != 31) = true := by rw [bne, h31]; rfl
      obtain ⟨t', e5⟩ := setLt_eq h.s.len h.a v t
      rw [h32, cond_true, cond_false, e5]
      unfold putK
      rw [inX_eq (setS_len h.s.len a v) hc, putX_eq (setS_len h.s.len a v) hc]
      show finK s (putS c w (setS a v s)).l (nxS (1 + c.toNat * 1) w (nxF s 4)) (memO A B C D E) = _
      rw [nxS_put hc]
      rfl
    · have h32 : (c != 31) = false := by rw [bne, h31]; rfl
      rw [h32, cond_false, cond_true]
      rfl
  rw [e1]
  exact both_fin h.s (fine_set (fine_set h.s _ hv) _ hw) (nx_rng _ _) 0 h.l
theorem lens5_stB {A B C D E : List Int} (h : lens5 A B C D E = true) (x n y : Int) : lens5 (stB 1 x n y A) (stB 2 x n y B) (stB 16 x n y C) (stB 17 x n y D) (stB 32 x n y E) = true := by
  unfold stB
  cases mayB x n 2
  · exact h
  · exact lens5_stN _ _ h
theorem stK_R {x : Int} (hx : rng64 x = true) (n v : Int) {A B C D E : List Int} (hl : lens5 A B C D E = true) (k : List Int → List Int → List Int → List Int → List Int → Option Res) :
    stK x n v A B C D E k = k (stB 1 x n v A) (stB 2 x n v B) (stB 16 x n v C) (stB 17 x n v D) (stB 32 x n v E) := by
  unfold stK q
  rw [hl, hx]
  rfl
theorem stB_no {x n : Int} (h : mayB x n 2 = false) (k v : Int) (l : List Int) : stB k x n v l = l := by
  unfold stB
  rw [h]
  rfl
theorem al_st (n1 n2 : List UInt8) (n : Int) : Alike (strR n1 n) (strG n2 n) Any := by
  intro s a b c d m A B C D E h _
  obtain ⟨t, e⟩ := preM_R n1 (fun S => q (okReg a) (stK (atF b m S) n (regF S a) A B C D E fun A' B' C' D' E' => retK s s.l (nxF s 4) (memO A' B' C' D' E') (errSt (atF b m S) n))) h m
  unfold strR strG
  rw [e, memG_R _ h, atF_R h.s.len h.b, h.a, q_true, q_true, stK_R (adF_rng _ _ _) _ _ h.l, stK_R (adF_rng _ _ _) _ _ h.l, regF_eq h.s.len h.a, getF_eq h.s.len h.a]
  have hl := lens5_stB h.l (adF s b m) n (xr s a)
  unfold errSt retK
  cases hm : mayB (adF s b m) n 2
  · exact both_err h.s 21 hl
  · exact both_fin h.s h.s (nx_rng _ _) 0 hl
theorem right_ok (k : Int) : (and2 (pgR k (fun R => R) 0) != 0) = okP 2 k := by
  unfold okP pgR
  cases k == 1 <;> cases k == 2 <;> cases k == 16 <;> cases k == 17 <;> cases k == 32 <;> rfl
theorem wrB_may {x : Int} (h : rng64 x = true) : wrB x = mayB x 8 2 := by
  obtain ⟨h0, h1⟩ := rng_spec h
  have e : endF x 8 = wu (x + 7) := by
    have a : endF x 8 = ((x + 8 % 18446744073709551616) % 18446744073709551616 - 1) % 18446744073709551616 := rfl
    have b : wu (x + 7) = (x + 7) % 18446744073709551616 := rfl
    rw [a, b]
    omega
  have e1 : decide (x ≤ 18446744073709551608) = decide (x ≤ wu (x + 7)) := by
    have b : wu (x + 7) = (x + 7) % 18446744073709551616 := rfl
    rw [b]
    apply decide_eq_decide.2
    omega
  unfold wrB mayB rightF
  rw [e, right_ok, right_ok, e1]
  cases hp : pgF (wu (x + 7)) == pgF x
  · rw [Bool.false_or]
  · rw [beq_iff_eq.1 hp, Bool.true_or, Bool.and_true, Bool.and_self]
theorem al_stp (n1 n2 : List UInt8) : Alike (stpR n1) (stpG n2) fun c _ => okReg c = true := by
  intro s a b c d m A B C D E h hc
  obtain ⟨t, e⟩ := preM_R n1 (fun S => (q (lens5 A B C D E) (cond (and2 (rightF (wu (atF b m S + 8))) == 0) (errK s 21 (memO A B C D E)) (q (lens5 A B C D E) (cond (and2 (rightF (wu (atF b m S + 15))) == 0) (errK s 21 (memO A B C D E))
    (cond (decide (wu (atF b m S + 15) < wu (atF b m S + 8))) (errK s 21 (memO A B C D E)) (q (okReg a) (stK (atF b m S) 8 (regF S a) A B C D E fun A B C D E =>
      cond (errSt (atF b m S) 8 != 0) (retK s s.l (nxF s 4) (memO A B C D E) (errSt (atF b m S) 8)) (q (okReg c) (stK (wu (atF b m S + 8)) 8 (regF S c) A B C D E fun A B C D E =>
        retK s s.l (nxF s 4) (memO A B C D E) (errSt (wu (atF b m S + 8)) 8))))))))))) h m
  have ga : getF (sG s [66]) 65 a = xr s a := getF_eq h.s.len h.a _ _
  have gc : getF (sG s [66]) 67 c = xr s c := getF_eq h.s.len hc _ _
  unfold stpR stpG
  rw [e, memG_R _ h, atF_R h.s.len h.b, h.a, hc, h.l, q_true, q_true, q_true, q_true, q_true, q_true, wrB_may (adF_rng _ _ _), wrB_may (rng_wu _), regF_eq h.s.len h.a, ga]
  have hx := adF_rng s b m
  generalize adF s b m = x at hx
  have e15 : wu (wu (x + 8) + 7) = wu (x + 15) := by
    have b : ∀ y, wu y = y % 18446744073709551616 := fun _ => rfl
    simp only [b]
    omega
  have hm2 : mayB (wu (x + 8)) 8 2 = (!(and2 (rightF (wu (x + 8))) == 0) && (!(and2 (rightF (wu (x + 15))) == 0) && !decide (wu (x + 15) < wu (x + 8)))) := by
    rw [← wrB_may (rng_wu _)]
    unfold wrB
    rw [e15]
    have e1 : decide (wu (x + 8) ≤ 18446744073709551608) = !decide (wu (x + 15) < wu (x + 8)) := by
      rw [← decide_not, ← e15]
      apply decide_eq_decide.2
      obtain ⟨h0, h1⟩ := rng_spec (rng_wu (x + 8))
      generalize wu (x + 8) = y at h0 h1
      have b : wu (y + 7) = (y + 7) % 18446744073709551616 := rfl
      rw [b]
      omega
    rw [e1, bne, bne]
    cases (and2 (rightF (wu (x + 8))) == 0) <;> cases (and2 (rightF (wu (x + 15))) == 0) <;> cases decide (wu (x + 15) < wu (x + 8)) <;> rfl
  have hl1 := lens5_stB h.l x 8 (xr s a)
  have hl2 := lens5_stB hl1 (wu (x + 8)) 8 (xr s c)
  cases h1 : (and2 (rightF (wu (x + 8))) == 0)
  rotate_left
  · rw [hm2, h1]
    cases mayB x 8 2 <;> exact both_err h.s 21 h.l
  cases h2 : (and2 (rightF (wu (x + 15))) == 0)
  rotate_left
  · rw [hm2, h1, h2]
    cases mayB x 8 2 <;> exact both_err h.s 21 h.l
  cases h3 : decide (wu (x + 15) < wu (x + 8))
  rotate_left
  · rw [hm2, h1, h2, h3]
    cases mayB x 8 2 <;> exact both_err h.s 21 h.l
  rw [h1, h2, h3] at hm2
  rw [hm2, cond_false, cond_false, cond_false, stK_R hx _ _ h.l, stK_R hx _ _ h.l]
  unfold errSt
  cases hm : mayB x 8 2
  · show Both s (errK s 21 (memO _ _ _ _ _)) (errK s 21 _)
    rw [stB_no hm, stB_no hm, stB_no hm, stB_no hm, stB_no hm]
    exact both_err h.s 21 h.l
  · show Both s (q true (stK (wu (x + 8)) 8 (regF (s.l ++ t) c) _ _ _ _ _ fun A B C D E => retK s s.l (nxF s 4) (memO A B C D E) (cond (mayB (wu (x + 8)) 8 2) 0 21)))
      (q true (stK (wu (x + 8)) 8 (getF (sG s [66]) 67 c) _ _ _ _ _ fun A B C D E => finG s s.l (nxF s 4) 0 (refO A B C D E)))
    rw [q_true, q_true, stK_R (rng_wu _) _ _ hl1, stK_R (rng_wu _) _ _ hl1, regF_eq h.s.len hc, gc, hm2]
    exact both_fin h.s h.s (nx_rng _ _) 0 hl2
end Go.Ra

namespace Go.Ra
open Go Go.Ab Go.Proofs
def cNames : List (List UInt8) := [[97, 100, 100], [97, 100, 100, 115], [115, 117, 98], [115, 117, 98, 115], [97, 110, 100], [111, 114, 114], [101, 111, 114], [97, 110, 100, 115], [108, 100, 112], [115, 116, 112]]
def dNames : List (List UInt8) := [[109, 97, 100, 100], [109, 115, 117, 98]]
def opOk (nm : List UInt8) (c d : Int) : Prop := (nm ∈ cNames → c ≤ 31) ∧ (nm ∈ dNames → d ≤ 31)
def AlikeN (nm : List UInt8) (r g : RunTy) : Prop := ∀ s a b c d m A B C D E, Hy s a b c d A B C D E → opOk nm c d → Int.tmod s.pc 4 = 0 → Both s (r s a b c d m 4 A B C D E) (g s a b c d m 4 A B C D E)
def AllA : List (List UInt8 × RunTy) → List (List UInt8 × RunTy) → Prop
  | x :: r, y :: t => x.1 = y.1 ∧ AlikeN x.1 x.2 y.2 ∧ AllA r t
  | _, _ => True
theorem an_any {nm : List UInt8} {r g : RunTy} (h : Alike r g Any) : AlikeN nm r g := fun s a b c d m A B C D E hy _ _ => h s a b c d m A B C D E hy trivial
theorem an_c {nm : List UInt8} {r g : RunTy} (h : Alike r g CReg) (hn : nm ∈ cNames := by simp [cNames]) : AlikeN nm r g := fun s a b c d m A B C D E hy ho _ => h s a b c d m A B C D E hy (ho.1 hn)
theorem an_c2 {nm : List UInt8} {r g : RunTy} (h : Alike r g fun c _ => okReg c = true) (hn : nm ∈ cNames := by simp [cNames]) : AlikeN nm r g := fun s a b c d m A B C D E hy ho _ => h s a b c d m A B C D E hy (okReg_of hy.c0 (ho.1 hn))
theorem an_d {nm : List UInt8} {r g : RunTy} (h : Alike r g DReg) (hn : nm ∈ dNames := by simp [dNames]) : AlikeN nm r g := fun s a b c d m A B C D E hy ho _ => h s a b c d m A B C D E hy (ho.2 hn)
theorem an_pc {nm : List UInt8} {r g : RunTy} (h : PcOk r g) : AlikeN nm r g := fun s a b c d m A B C D E hy _ hp => h s a b c d m A B C D E hy hp
theorem lsl_rng (x y : Int) (_ : rng64 x = true) : rng64 (shlF x y) = true := rng_wu _
theorem lsr_rng (x y : Int) (h : rng64 x = true) : rng64 (shrF x y) = true := by
  obtain ⟨h0, h1⟩ := rng_spec h
  have hp : (0 : Int) ≤ 2 ^ (min y.toNat 64) := Int.le_of_lt (Int.pow_pos (by decide))
  have e : shrF x y = x / 2 ^ (min y.toNat 64) := Int.fdiv_eq_ediv_of_nonneg _ hp
  have a := Int.ediv_nonneg h0 hp
  have b := Int.ediv_le_self (2 ^ (min y.toNat 64)) h0
  rw [← e] at a b
  simp only [rng64, Bool.and_eq_true, decide_eq_true_eq]
  exact ⟨a, by omega⟩
theorem asr_rng (x y : Int) (_ : rng64 x = true) : rng64 (asrF x y) = true := rng_wu _
theorem all_alike (wd : Int → Int → Int × Int) (hw : WdOk wd) : AllA rowsR (rowsG wd) :=
  ⟨rfl, an_any (al_movn [109, 111, 118, 110] [109, 111, 118, 110]),
    rfl, an_any (al_movz [109, 111, 118, 122] [109, 111, 118, 122]),
    rfl, an_any (al_movk [109, 111, 118, 107] [109, 111, 118, 107]),
    rfl, an_any (al_addi [97, 100, 100, 46, 105] [97, 100, 100, 46, 105]),
    rfl, an_any (al_addsi [97, 100, 100, 115, 46, 105] [97, 100, 100, 115, 46, 105]),
    rfl, an_any (al_subi [115, 117, 98, 46, 105] [115, 117, 98, 46, 105]),
    rfl, an_any (al_subsi [115, 117, 98, 115, 46, 105] [115, 117, 98, 115, 46, 105]),
    rfl, an_c (al_op [97, 100, 100] [97, 100, 100] _ fun _ _ => rng_wu _),
    rfl, an_c (al_adds [97, 100, 100, 115] [97, 100, 100, 115]),
    rfl, an_c (al_op [115, 117, 98] [115, 117, 98] _ fun _ _ => rng_wu _),
    rfl, an_c (al_subs [115, 117, 98, 115] [115, 117, 98, 115]),
    rfl, an_c (al_op [97, 110, 100] [97, 110, 100] _ fun _ _ => rng_wu _),
    rfl, an_c (al_op [111, 114, 114] [111, 114, 114] _ fun _ _ => rng_wu _),
    rfl, an_c (al_op [101, 111, 114] [101, 111, 114] _ fun _ _ => rng_wu _),
    rfl, an_c (al_ands [97, 110, 100, 115] [97, 110, 100, 115]),
    rfl, an_any (al_bit [97, 110, 100, 46, 105] [97, 110, 100, 46, 105] _ fun _ _ => rng_wu _),
    rfl, an_any (al_bit [111, 114, 114, 46, 105] [111, 114, 114, 46, 105] _ fun _ _ => rng_wu _),
    rfl, an_any (al_bit [101, 111, 114, 46, 105] [101, 111, 114, 46, 105] _ fun _ _ => rng_wu _),
    rfl, an_any (al_andsi [97, 110, 100, 115, 46, 105] [97, 110, 100, 115, 46, 105]),
    rfl, an_d (al_madd [109, 97, 100, 100] [109, 97, 100, 100] wd hw),
    rfl, an_d (al_msub [109, 115, 117, 98] [109, 115, 117, 98] wd hw),
    rfl, an_any (al_udiv [117, 100, 105, 118] [117, 100, 105, 118]),
    rfl, an_any (al_sdiv [115, 100, 105, 118] [115, 100, 105, 118]),
    rfl, an_any (al_sh [108, 115, 108, 118] [108, 115, 108, 118] _ lsl_rng),
    rfl, an_any (al_sh [108, 115, 114, 118] [108, 115, 114, 118] _ lsr_rng),
    rfl, an_any (al_sh [97, 115, 114, 118] [97, 115, 114, 118] _ asr_rng),
    rfl, an_any (al_bf [115, 98, 102, 109] [115, 98, 102, 109] _),
    rfl, an_any (al_bf [117, 98, 102, 109] [117, 98, 102, 109] _),
    rfl, an_any (al_sel [99, 115, 101, 108] [99, 115, 101, 108] _ fun _ h => h),
    rfl, an_any (al_sel [99, 115, 105, 110, 99] [99, 115, 105, 110, 99] _ fun _ _ => rng_wu _),
    rfl, an_any (al_adr [97, 100, 114] [97, 100, 114]),
    rfl, an_any (al_adrp [97, 100, 114, 112] [97, 100, 114, 112]),
    rfl, an_any (al_ld [108, 100, 114, 98] [108, 100, 114, 98] _ _ _ (fun _ => rfl) fun _ h => h),
    rfl, an_any (al_st [115, 116, 114, 98] [115, 116, 114, 98] _),
    rfl, an_any (al_ld [108, 100, 114, 104] [108, 100, 114, 104] _ _ _ (fun _ => rfl) fun _ h => h),
    rfl, an_any (al_st [115, 116, 114, 104] [115, 116, 114, 104] _),
    rfl, an_any (al_ld [108, 100, 114, 46, 119] [108, 100, 114, 46, 119] _ _ _ (fun _ => rfl) fun _ h => h),
    rfl, an_any (al_st [115, 116, 114, 46, 119] [115, 116, 114, 46, 119] _),
    rfl, an_any (al_ld [108, 100, 114, 115, 119] [108, 100, 114, 115, 119] _ _ _ ldrsw_eq fun _ _ => rng_wu _),
    rfl, an_any (al_ld [108, 100, 114] [108, 100, 114] _ _ _ (fun _ => rfl) fun _ h => h),
    rfl, an_any (al_st [115, 116, 114] [115, 116, 114] _),
    rfl, an_c2 (al_ldp [108, 100, 112] [108, 100, 112]),
    rfl, an_c2 (al_stp [115, 116, 112] [115, 116, 112]),
    rfl, an_any (al_b [98]),
    rfl, an_any (al_bl [98, 108]),
    rfl, an_any (al_bc [98, 46, 99]),
    rfl, an_any (al_cbz [99, 98, 122]),
    rfl, an_any (al_cbnz [99, 98, 110, 122]),
    rfl, an_any (al_br [98, 114]),
    rfl, an_any (al_blr [98, 108, 114]),
    rfl, an_any (al_br [114, 101, 116]),
    rfl, an_pc al_svc,
    rfl, an_any al_brk,
    rfl, an_any (al_nop [110, 111, 112]), trivial⟩
theorem allA_get : ∀ {l k : List (List UInt8 × RunTy)}, AllA l k → l.length = k.length → ∀ x ∈ l, ∃ y ∈ k, x.1 = y.1 ∧ AlikeN x.1 x.2 y.2
  | [], _, _, _, x, hx => by cases hx
  | z :: r, [], _, e, x, hx => by cases e
  | z :: r, y :: t, h, e, x, hx => by
    obtain ⟨h1, h2, h3⟩ := h
    cases hx with
    | head => exact ⟨y, List.mem_cons_self, h1, h2⟩
    | tail _ hx =>
      obtain ⟨w, hw, hh⟩ := allA_get h3 (Nat.succ.inj e) x hx
      exact ⟨w, List.mem_cons_of_mem _ hw, hh⟩
end Go.Ra

namespace Go.Ra
open Go Go.Ab Go.Proofs Go.Rk
def upTo (f : NumT) (h : Int) : Bool := (IntKind.wrap .i64 f.2.2.2.2.1 == 0) && decide (IntKind.wrap .i64 f.2.2.2.2.2 ≤ h)
def rowBd (r : RowT) : Bool := upTo r.2.2.1 31 && (upTo r.2.2.2.1 31 && (upTo r.2.2.2.2.1 63 && (upTo r.2.2.2.2.2.1 63 && ((!decide (r.1 ∈ cNames) || upTo r.2.2.2.2.1 31) && (!decide (r.1 ∈ dNames) || upTo r.2.2.2.2.2.1 31)))))
theorem rows_bd : rowsL.all rowBd = true := by kernel_rfl
theorem small_of {f : NumT} {h n : Int} (hu : upTo f h = true) (hs : smallF f n = true) : 0 ≤ n ∧ n ≤ h := by
  simp only [upTo, Bool.and_eq_true, beq_iff_eq, decide_eq_true_eq] at hu
  unfold smallF at hs
  rw [hu.1] at hs
  cases h0 : decide (0 ≤ n)
  · rw [h0] at hs
    cases hs
  rw [h0] at hs
  have h1 := of_decide_eq_true hs
  exact ⟨of_decide_eq_true h0, by omega⟩
theorem frow_mem {nm : List UInt8} (h : fok nm = true) : frow nm ∈ rowsL ∧ (frow nm).1 = nm := by
  unfold fok at h
  obtain ⟨r, hr⟩ := Option.isSome_iff_exists.1 h
  have e : frow nm = r := by
    unfold frow
    rw [hr]
    rfl
  rw [e]
  have h1 := List.find?_some hr
  exact ⟨List.mem_of_find?_eq_some hr, eq_of_beq h1⟩
theorem faulty_small {r : RowT} {i : InsT} (h : faultyF r i = 0) : smallF r.2.2.1 i.2.1 = true ∧ smallF r.2.2.2.1 i.2.2.1 = true ∧ smallF r.2.2.2.2.1 i.2.2.2.1 = true ∧ smallF r.2.2.2.2.2.1 i.2.2.2.2.1 = true := by
  unfold faultyF at h
  revert h
  cases smallF r.2.2.1 i.2.1 <;> cases smallF r.2.2.2.1 i.2.2.1 <;> cases smallF r.2.2.2.2.1 i.2.2.2.1 <;> cases smallF r.2.2.2.2.2.1 i.2.2.2.2.1 <;> intro h <;> first | exact ⟨rfl, rfl, rfl, rfl⟩ | exact absurd (show (13 : Int) = 0 from h) (by decide)
theorem may_facts {nm : List UInt8} {a b c d m : Int} (h : encE (nm, a, b, c, d, m) = 0) : okReg a = true ∧ okReg b = true ∧ 0 ≤ c ∧ c ≤ 63 ∧ 0 ≤ d ∧ d ≤ 63 ∧ opOk nm c d := by
  unfold encE at h
  have hf : fok nm = true := by
    cases hf : fok nm
    · simp only [hf] at h
      exact absurd (show (7 : Int) = 0 from h) (by decide)
    · rfl
  simp only [hf, cond_true] at h
  obtain ⟨h1, h2⟩ := frow_mem hf
  obtain ⟨s1, s2, s3, s4⟩ := faulty_small h
  have hb := List.all_eq_true.1 rows_bd _ h1
  unfold rowBd at hb
  rw [h2] at hb
  simp only [Bool.and_eq_true, Bool.or_eq_true, Bool.not_eq_true', decide_eq_false_iff_not] at hb
  obtain ⟨b1, b2, b3, b4, b5, b6⟩ := hb
  obtain ⟨p1, p2⟩ := small_of b1 s1
  obtain ⟨p3, p4⟩ := small_of b2 s2
  obtain ⟨p5, p6⟩ := small_of b3 s3
  obtain ⟨p7, p8⟩ := small_of b4 s4
  refine ⟨okReg_of p1 p2, okReg_of p3 p4, p5, p6, p7, p8, fun hm => ?_, fun hm => ?_⟩
  · rcases b5 with b5 | b5
    · exact absurd hm b5
    · exact (small_of b5 s3).2
  · rcases b6 with b6 | b6
    · exact absurd hm b6
    · exact (small_of b6 s4).2
theorem top_alike (mb : InsR → Bool) (ck : InsR → Int) (wd : Int → Int → Int × Int) (hmb : ∀ i, mb i = (encE i == 0)) (hck : ∀ i, (ck i != 0) = !mb i) (hw : WdOk wd) :
    ∀ x ∈ rowsR, ∃ y ∈ rowsG wd, x.1 = y.1 ∧ ∀ s a b c d m sz A B C D E, Fine s → lens5 A B C D E = true → Both s (topK mb x.1 x.2 s a b c d m sz A B C D E) (topG ck y.1 y.2 s a b c d m sz A B C D E) := by
  intro x hx
  obtain ⟨y, hy, e, h⟩ := allA_get (all_alike wd hw) rfl x hx
  refine ⟨y, hy, e, fun s a b c d m sz A B C D E hs hl => ?_⟩
  unfold topK topG
  rw [← e, hck]
  cases h4 : sz != 4
  rotate_left
  · exact both_err hs 1 hl
  rw [cond_false, cond_false]
  cases hm : mb (x.1, a, b, c, d, m)
  · exact both_err hs 22 hl
  cases hp : Int.tmod s.pc 4 != 0
  rotate_left
  · exact both_err hs 10 hl
  have e4 : sz = 4 := by simpa using h4
  have hp : Int.tmod s.pc 4 = 0 := by simpa using hp
  subst e4
  rw [hmb] at hm
  obtain ⟨f1, f2, f3, f4, f5, f6, f7⟩ := may_facts (beq_iff_eq.1 hm)
  exact h s a b c d m A B C D E ⟨hs, f1, f2, f3, f4, f5, f6, hl⟩ f7 hp
end Go.Ra

namespace Go.Ra
open Go Go.Ab Go.Proofs Go.Rk
section
variable {mb : InsR → Bool} (hm : Sound Tryz.prog 24 (mayP mb))
include hm
theorem ruB_ok : (ruB mb).Ok Tryz.prog :=
  ⟨.cons hm (.consX add_ok (.consX sub_ok (.cons holdsS_ok (.cons fieldS_ok (.cons divideS_ok (.cons divuS_ok (.nil _))))))), .cons setM_ok (.cons loadM_ok (.cons storeM_ok (.cons rightsM_ok (.nil _)))), .cons regR_ok (.nil _), fun p h => by cases h⟩
theorem ruM_ok (d : Nat) : (ruM mb d).Ok Tryz.prog := deep_ok (ruB_ok hm) ruM_ps_ok ruM_ms_ok d
theorem memoryG_ok : MSound Tryz.prog 27 (memoryG mb) := by
  intro args H out h
  obtain ⟨h1, h2⟩ := req_run h
  exact mcall_lay (cx := cxMemG mb) (cl := cxSet) (ruM_ok hm 1) (cx0_ok rfl rfl) rfl (by kernel_rfl) (by kernel_rfl) (by kernel_rfl) (by kernel_rfl) h1 h2
theorem ruC_ok : (ruC mb).Ok Tryz.prog := ⟨(ruB_ok hm).1, .cons (memoryG_ok hm) (ruB_ok hm).2.1, (ruB_ok hm).2.2⟩
theorem ruT_ok (d : Nat) : (ruT mb d).Ok Tryz.prog := deep_ok (ruC_ok hm) ruT_ps_ok ruT_ms_ok d
theorem runG_ok : MSound Tryz.prog 14 (runG mb) := mfunR_ok (cx := cxRunG mb) (fn := Tryz.f14) [] (ruT_ok hm 3) (by kernel_rfl) (by kernel_rfl)
end
def mbF (i : InsR) : Bool := encE i == 0
theorem mayP_ok : Sound Tryz.prog 24 (mayP mbF) := by
  intro args out h
  unfold mayP at h
  split at h
  rotate_left
  · cases h
  exact mayS_ok _ _ h
def mayN (mb : InsR → Bool) : Ab.Spec := fun args => match args with
  | [.agg [.str nm, .int .i64 a, .int .i64 b, .int .i64 c, .int .i64 d, .int .i64 m]] => .req (!mb (nm, a, b, c, d, m)) (.leaf (.bool false))
  | _ => .fail
theorem mayN_ok : Sound Tryz.prog 24 (mayN mbF) := by
  intro args out h
  unfold mayN at h
  split at h
  rotate_left
  · cases h
  obtain ⟨h1, h2⟩ := req_run h
  have e : mbF _ = false := Bool.not_eq_true' _ |>.mp h1
  refine mayS_ok _ _ ?_
  rw [← h2]
  show some (V.bool (mbF _)) = _
  rw [e]
  rfl
noncomputable def cxRunN (mb : InsR → Bool) : Cx := { cxRunG mb with tab := (24, mayN mb) :: (ruT mb 3).tab }
noncomputable def runNE (mb : InsR → Bool) (nm : List UInt8) : RunTy := fun s a b c d m sz A B C D E => (mfunR (cxRunN mb) Tryz.f14 [] [.agg s.l, insV nm a b c d m, .int .i64 sz, .ptr 0 0] (memO A B C D E)).fin
def topN (mb : InsR → Bool) (nm : List UInt8) : RunTy := fun s a b c d m sz A B C D E => cond (sz != 4) (errK s 1 (memO A B C D E)) (cond (!mb (nm, a, b, c, d, m)) (errK s 22 (memO A B C D E)) none)
theorem runN_eq (mb : InsR → Bool) (nm : List UInt8) : W1 (runNE mb nm) = W2 (topN mb nm) := by kernel_rfl
end Go.Ra

namespace Go.Ra
open Go Go.Ab Go.Proofs Go.Rk
theorem ref_all (ck : InsR → Int) (wd : Int → Int → Int × Int) : ∀ x ∈ rowsG wd, gO ck wd x = gE ck x := by
  have h : (rowsG wd).map (gO ck wd) = (rowsG wd).map (gE ck) := by
    rw [rows_parts (rowsG wd) rfl]
    simp only [List.map_append, ref_1, ref_2, ref_3, ref_4, ref_5, ref_6, ref_7, ref_8, ref_9]
  exact List.map_inj_left.1 h
section
variable {ck : InsR → Int} {wd : Int → Int → Int × Int} (hc : Sound Tryz.prog 38 (ckP ck)) (hw : Sound Tryz.prog 94 (wdP wd))
include hc hw
theorem rgB_ok : (rgB ck wd).Ok Tryz.prog :=
  ⟨.cons hc (.cons hw (.cons hlS_ok (.cons dvS_ok (.cons bitsS_ok (.cons hasS_ok (.nil _)))))), .cons setG_ok (.cons storeRf_ok (.nil _)), .cons getG_ok (.cons otherR_ok (.cons loadRf_ok (.cons writR_ok (.nil _)))), fun p h => by cases h⟩
theorem rgT_ok (d : Nat) : (rgT ck wd d).Ok Tryz.prog := deep_ok (rgB_ok hc hw) rgT_ps_ok rgT_ms_ok d
theorem runR_ok : MSound Tryz.prog 21 (mfunR (cxRg ck wd) Tryz.f21 []) := mfunR_ok (cx := cxRg ck wd) (fn := Tryz.f21) [] (rgT_ok hc hw 3) (by kernel_rfl) (by kernel_rfl)
end
def ckN (ck : InsR → Int) : Ab.Spec := fun args => match args with
  | [.agg [.str nm, .int .i64 a, .int .i64 b, .int .i64 c, .int .i64 d, .int .i64 m]] => .req (ck (nm, a, b, c, d, m) == 7) (.leaf (.int .i64 7))
  | _ => .fail
noncomputable def cxRgN (ck : InsR → Int) (wd : Int → Int → Int × Int) : Cx := { cxRg ck wd with tab := (38, ckN ck) :: (rgT ck wd 3).tab }
noncomputable def runRN (ck : InsR → Int) (wd : Int → Int → Int × Int) (nm : List UInt8) : RunTy := fun s a b c d m sz A B C D E => (mfunR (cxRgN ck wd) Tryz.f21 [] [.agg s.l, insV nm a b c d m, .int .i64 sz, .ptr 0 0] (refO A B C D E)).fin
def topGN (ck : InsR → Int) (nm : List UInt8) : RunTy := fun s a b c d m sz A B C D E => cond (sz != 4) (errK s 1 (refO A B C D E)) (cond (ck (nm, a, b, c, d, m) == 7) (errK s 22 (refO A B C D E)) none)
theorem refN_eq (ck : InsR → Int) (wd : Int → Int → Int × Int) (nm : List UInt8) : W1 (runRN ck wd nm) = W2 (topGN ck nm) := by kernel_rfl
theorem W_of {F G : RunTy} (h : W1 F = W2 G) {s : CpuT} (hs : s.x.length = 32) (a b c d m sz : Int) (A B C D E : List Int) : F s a b c d m sz A B C D E = G s a b c d m sz A B C D E := by
  have h := congrArg (fun f => f s.pc (s.x.getD 0 0) (s.x.getD 1 0) (s.x.getD 2 0) (s.x.getD 3 0) (s.x.getD 4 0) (s.x.getD 5 0) (s.x.getD 6 0) (s.x.getD 7 0) (s.x.getD 8 0) (s.x.getD 9 0) (s.x.getD 10 0) (s.x.getD 11 0) (s.x.getD 12 0) (s.x.getD 13 0) (s.x.getD 14 0) (s.x.getD 15 0)
    (s.x.getD 16 0) (s.x.getD 17 0) (s.x.getD 18 0) (s.x.getD 19 0) (s.x.getD 20 0) (s.x.getD 21 0) (s.x.getD 22 0) (s.x.getD 23 0) (s.x.getD 24 0) (s.x.getD 25 0) (s.x.getD 26 0) (s.x.getD 27 0) (s.x.getD 28 0) (s.x.getD 29 0) (s.x.getD 30 0) (s.x.getD 31 0) s.th s.z s.n s.c s.v a b c d m sz A B C D E) h
  unfold W1 W2 at h
  rw [cpu_tab hs] at h
  exact h
end Go.Ra

namespace Go.Ra
open Go Go.Ab Go.Proofs Go.Rk
structure Out where
  s : CpuT
  ev : Int
  err : Int
  A : List Int
  B : List Int
  C : List Int
  D : List Int
  E : List Int
def IsOut (s : CpuT) (r g : Option Res) (o : Out) : Prop := Fine o.s ∧ lens5 o.A o.B o.C o.D o.E = true ∧ (o.err ≠ 0 → o.s = s ∧ o.ev = 0) ∧
  r = some (.ok (.tup [.agg o.s.l, .int .i64 o.ev, .int .i64 o.err]) (memO o.A o.B o.C o.D o.E)) ∧ g = some (.ok (.tup [.agg o.s.l, .int .i64 o.ev, .int .i64 o.err]) (refO o.A o.B o.C o.D o.E))
instance : Inhabited Out := ⟨⟨⟨0, [], false, false, false, false, 0⟩, 0, 0, [], [], [], [], []⟩⟩
noncomputable def runP (nm : List UInt8) : RunTy := cond (fok nm) (runE mbF nm) (runNE mbF nm)
noncomputable def refP (ck : InsR → Int) (wd : Int → Int → Int × Int) (nm : List UInt8) : RunTy := cond (fok nm) (runR ck wd nm) (runRN ck wd nm)
abbrev OutFn := List UInt8 → CpuT → Int → Int → Int → Int → Int → Int → List Int → List Int → List Int → List Int → List Int → Out
noncomputable def outF (ck : InsR → Int) (wd : Int → Int → Int × Int) : OutFn := fun nm s a b c d m sz A B C D E =>
  Classical.epsilon (IsOut s (runP nm s a b c d m sz A B C D E) (refP ck wd nm s a b c d m sz A B C D E))
theorem rowsR_mem {nm : List UInt8} (h : fok nm = true) : ∃ x ∈ rowsR, x.1 = nm := by
  obtain ⟨h1, h2⟩ := frow_mem h
  have h3 := List.mem_map_of_mem (f := Prod.fst) h1
  rw [h2, ← rowsR_names] at h3
  obtain ⟨x, hx, e⟩ := List.mem_map.1 h3
  exact ⟨x, hx, e⟩
theorem encE_no {nm : List UInt8} (h : fok nm = false) (a b c d m : Int) : encE (nm, a, b, c, d, m) = 7 := by
  unfold encE
  simp only [h]
  rfl
theorem out_is {ck : InsR → Int} {wd : Int → Int → Int × Int} (hck : ∀ i, ck i = encE i) (hw : WdOk wd) (nm : List UInt8) {s : CpuT} (hs : Fine s) (a b c d m sz : Int) {A B C D E : List Int} (hl : lens5 A B C D E = true) :
    IsOut s (runP nm s a b c d m sz A B C D E) (refP ck wd nm s a b c d m sz A B C D E) (outF ck wd nm s a b c d m sz A B C D E) := by
  refine Classical.epsilon_spec (p := IsOut s (runP nm s a b c d m sz A B C D E) (refP ck wd nm s a b c d m sz A B C D E)) ?_
  have key : Both s (runP nm s a b c d m sz A B C D E) (refP ck wd nm s a b c d m sz A B C D E) := by
    unfold runP refP
    cases hf : fok nm
    · rw [cond_false, cond_false, W_of (runN_eq mbF nm) hs.len, W_of (refN_eq ck wd nm) hs.len]
      unfold topN topGN
      have e7 := encE_no hf a b c d m
      have e1 : mbF (nm, a, b, c, d, m) = false := by
        unfold mbF
        rw [e7]
        rfl
      have e2 : (ck (nm, a, b, c, d, m) == 7) = true := by
        rw [hck, e7]
        rfl
      rw [e1, e2]
      cases sz != 4
      · exact both_err hs 22 hl
      · exact both_err hs 1 hl
    · obtain ⟨x, hx, rfl⟩ := rowsR_mem hf
      rw [cond_true, cond_true, W_of (run_all mbF x hx) hs.len]
      obtain ⟨y, hy, e, h⟩ := top_alike mbF ck wd (fun _ => rfl) (fun i => by rw [hck]; rfl) hw x hx
      rw [e, W_of (ref_all ck wd y hy) hs.len, ← e]
      have h := h s a b c d m sz A B C D E hs hl
      rw [← e] at h
      exact h
  obtain ⟨s', ev, err, A', B', C', D', E', h1, h2, h3, h4, h5⟩ := key
  exact ⟨⟨s', ev, err, A', B', C', D', E'⟩, h1, h2, h3, h4, h5⟩
def fineB (s : CpuT) : Bool := rng64 s.pc && (s.x.all rng64)
theorem fine_of {s : CpuT} (hl : s.x.length = 32) (h : fineB s = true) : Fine s := by
  obtain ⟨h1, h2⟩ := Bool.and_eq_true_iff.1 h
  refine ⟨hl, fun i => ?_, h1⟩
  rw [List.getD_eq_getElem?_getD]
  cases hi : s.x[i]? with
  | none => rfl
  | some v => exact List.all_eq_true.1 h2 v (List.mem_of_getElem? hi)
def tabS (s : CpuT) : CpuT := ⟨s.pc, [s.x.getD 0 0, s.x.getD 1 0, s.x.getD 2 0, s.x.getD 3 0, s.x.getD 4 0, s.x.getD 5 0, s.x.getD 6 0, s.x.getD 7 0, s.x.getD 8 0, s.x.getD 9 0, s.x.getD 10 0, s.x.getD 11 0, s.x.getD 12 0, s.x.getD 13 0, s.x.getD 14 0, s.x.getD 15 0,
  s.x.getD 16 0, s.x.getD 17 0, s.x.getD 18 0, s.x.getD 19 0, s.x.getD 20 0, s.x.getD 21 0, s.x.getD 22 0, s.x.getD 23 0, s.x.getD 24 0, s.x.getD 25 0, s.x.getD 26 0, s.x.getD 27 0, s.x.getD 28 0, s.x.getD 29 0, s.x.getD 30 0, s.x.getD 31 0], s.z, s.n, s.c, s.v, s.th⟩
def outV (o : Out) : V := .tup [.agg (tabS o.s).l, .int .i64 o.ev, .int .i64 o.err]
def runS (f : OutFn) : MSpec := fun args H => match args with
  | [.agg cs, .agg [.str nm, .int .i64 a, .int .i64 b, .int .i64 c, .int .i64 d, .int .i64 m], .int .i64 sz, .ptr 0 0] => match cpuOf cs with
    | some s => memM (fun A B C D E => .req (fineB s) (.leaf (.ok (outV (f nm s a b c d m sz A B C D E)) (memO (f nm s a b c d m sz A B C D E).A (f nm s a b c d m sz A B C D E).B (f nm s a b c d m sz A B C D E).C (f nm s a b c d m sz A B C D E).D (f nm s a b c d m sz A B C D E).E)))) H
    | none => .fail
  | _ => .fail
def refS (f : OutFn) : MSpec := fun args H => match args with
  | [.agg cs, .agg [.str nm, .int .i64 a, .int .i64 b, .int .i64 c, .int .i64 d, .int .i64 m], .int .i64 sz, .ptr 0 0] => match cpuOf cs with
    | some s => refM (fun A B C D E => .req (fineB s) (.leaf (.ok (outV (f nm s a b c d m sz A B C D E)) (refO (f nm s a b c d m sz A B C D E).A (f nm s a b c d m sz A B C D E).B (f nm s a b c d m sz A B C D E).C (f nm s a b c d m sz A B C D E).D (f nm s a b c d m sz A B C D E).E)))) H
    | none => .fail
  | _ => .fail
theorem cxRunN_ok : CxOk (cxRunN mbF) := ⟨.cons mayN_ok (ruT_ok mayP_ok 3).1, (ruT_ok mayP_ok 3).2⟩
theorem cxRgN_ok {ck : InsR → Int} {wd : Int → Int → Int × Int} (hc : Sound Tryz.prog 38 (ckP ck)) (hw : Sound Tryz.prog 94 (wdP wd)) (hn : Sound Tryz.prog 38 (ckN ck)) : CxOk (cxRgN ck wd) :=
  ⟨.cons hn (rgT_ok hc hw 3).1, (rgT_ok hc hw 3).2⟩
theorem ckN_ok {ck : InsR → Int} (hc : Sound Tryz.prog 38 (ckP ck)) : Sound Tryz.prog 38 (ckN ck) := by
  intro args out h
  unfold ckN at h
  split at h
  rotate_left
  · cases h
  obtain ⟨h1, h2⟩ := req_run h
  refine hc _ _ ?_
  rw [← h2]
  show some (V.int .i64 (ck _)) = _
  rw [beq_iff_eq.1 h1]
  rfl
section
variable {ck : InsR → Int} {wd : Int → Int → Int × Int} (hck : ∀ i, ck i = encE i) (hw : WdOk wd)
include hck hw
theorem runS_ok : MSound Tryz.prog 14 (runS (outF ck wd)) := by
  intro args H out h
  unfold runS at h
  split at h
  rotate_left
  · cases h
  rename_i cs nm a b c d m sz
  split at h
  rotate_left
  · cases h
  rename_i s hs
  obtain ⟨A, B, C, D, E, rfl, hl, h⟩ := memM_run h
  obtain ⟨hf, h⟩ := req_run h
  cases h
  obtain ⟨rfl, e2⟩ := cpuOf_spec hs
  have hF := fine_of e2 hf
  obtain ⟨o1, _, _, o4, _⟩ := out_is hck hw nm hF a b c d m sz hl
  have et : tabS (outF ck wd nm s a b c d m sz A B C D E).s = (outF ck wd nm s a b c d m sz A B C D E).s := cpu_tab o1.len
  unfold outV
  rw [et]
  unfold runP at o4
  cases hk : fok nm
  · rw [hk, cond_false] at o4
    refine mfunR_ok (cx := cxRunN mbF) (fn := Tryz.f14) [] (cxRunN_ok) (by kernel_rfl) (by kernel_rfl) _ _ _ ?_
    rw [← Tree.fin_run]
    exact o4
  · rw [hk, cond_true] at o4
    refine runG_ok mayP_ok _ _ _ ?_
    rw [← Tree.fin_run]
    exact o4
theorem refS_ok (hc' : Sound Tryz.prog 38 (ckP ck)) (hw' : Sound Tryz.prog 94 (wdP wd)) (hn : Sound Tryz.prog 38 (ckN ck)) : MSound Tryz.prog 21 (refS (outF ck wd)) := by
  intro args H out h
  unfold refS at h
  split at h
  rotate_left
  · cases h
  rename_i cs nm a b c d m sz
  split at h
  rotate_left
  · cases h
  rename_i s hs
  obtain ⟨A, B, C, D, E, rfl, hl, h⟩ := refM_run h
  obtain ⟨hf, h⟩ := req_run h
  cases h
  obtain ⟨rfl, e2⟩ := cpuOf_spec hs
  have hF := fine_of e2 hf
  obtain ⟨o1, _, _, _, o4⟩ := out_is hck hw nm hF a b c d m sz hl
  have et : tabS (outF ck wd nm s a b c d m sz A B C D E).s = (outF ck wd nm s a b c d m sz A B C D E).s := cpu_tab o1.len
  unfold outV
  rw [et]
  unfold refP at o4
  cases hk : fok nm
  · rw [hk, cond_false] at o4
    refine mfunR_ok (cx := cxRgN ck wd) (fn := Tryz.f21) [] (cxRgN_ok hc' hw' hn) (by kernel_rfl) (by kernel_rfl) _ _ _ ?_
    rw [← Tree.fin_run]
    exact o4
  · rw [hk, cond_true] at o4
    refine runR_ok hc' hw' _ _ _ ?_
    rw [← Tree.fin_run]
    exact o4
end
end Go.Ra
