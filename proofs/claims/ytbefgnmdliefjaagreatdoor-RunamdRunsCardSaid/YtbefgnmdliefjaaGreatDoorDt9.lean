/-
  runamd: Run of the program and of the document: one answer, told by both specs. Conditions: none.
-/
import Derived.Test.YtbefgnmdliefjaaGreatDoorPk19
set_option linter.unusedVariables false
set_option linter.unusedSimpArgs false
namespace Go.Ra
open Go Go.Ab Go.Proofs Go.Amd
def IsOut (s : CpuT) (r g : Option Res) (o : Out) : Prop := Fine o.s ∧ lens5 o.A o.B o.C o.D o.E = true ∧ (o.err ≠ 0 → o.s = s ∧ o.ev = 0) ∧
  r = some (.ok (.tup [.agg o.s.l, .int .i64 o.ev, .int .i64 o.err]) (memO o.A o.B o.C o.D o.E)) ∧ g = some (.ok (.tup [.agg o.s.l, .int .i64 o.ev, .int .i64 o.err]) (refO o.A o.B o.C o.D o.E))
noncomputable def runP (nm : List UInt8) : RunTy := cond (fok nm) (runE mbF nm) (runNE mbF nm)
noncomputable def refP (ck : InsR → Int) (wd : Int → Int → Int × Int) (lg : Int → Int → Int → Int × Int) (nm : List UInt8) : RunTy := cond (fok nm) (runR ck wd lg nm) (runRN ck wd lg nm)
noncomputable def outF (ck : InsR → Int) (wd : Int → Int → Int × Int) (lg : Int → Int → Int → Int × Int) : OutFn := fun nm s a b c d m sz A B C D E =>
  Classical.epsilon (IsOut s (runP nm s a b c d m sz A B C D E) (refP ck wd lg nm s a b c d m sz A B C D E))
theorem encE_no {nm : List UInt8} (h : fok nm = false) (a b c d m : Int) : encE (nm, a, b, c, d, m) = 7 := by
  unfold encE
  simp only [h]
  rfl
theorem out_is {ck : InsR → Int} {wd : Int → Int → Int × Int} {lg : Int → Int → Int → Int × Int} (hck : ∀ i : InsT, i64r i.2.2.2.2.2 = true → ck i = encE i) (hw : WdOk wd) (hg : LgOk lg) (nm : List UInt8) {s : CpuT} (hs : Fine s) (a b c d m sz : Int) {A B C D E : List Int} (hl : lens5 A B C D E = true) (hm6 : i64r m = true) :
    IsOut s (runP nm s a b c d m sz A B C D E) (refP ck wd lg nm s a b c d m sz A B C D E) (outF ck wd lg nm s a b c d m sz A B C D E) := by
  refine Classical.epsilon_spec (p := IsOut s (runP nm s a b c d m sz A B C D E) (refP ck wd lg nm s a b c d m sz A B C D E)) ?_
  have key : Both s (runP nm s a b c d m sz A B C D E) (refP ck wd lg nm s a b c d m sz A B C D E) := by
    unfold runP refP
    cases hf : fok nm
    · rw [cond_false, cond_false, W_of (runN_eq mbF nm) hs.len, W_of (refN_eq ck wd lg nm) hs.len]
      unfold topN topGN topN1 topGN1
      have e7 := encE_no hf a b c d m
      have e1 : mbF (nm, a, b, c, d, m) = false := by
        unfold mbF
        rw [e7]
        rfl
      have e2 : (ck (nm, a, b, c, d, m) == 7) = true := by
        rw [hck (nm, a, b, c, d, m) hm6, e7]
        rfl
      rw [e1, e2]
      cases decide (sz < 1)
      · cases decide (16 < sz)
        · exact both_err hs 22 hl
        · exact both_err hs 1 hl
      · exact both_err hs 1 hl
    · obtain ⟨x, hx, y, hy, rfl, e2, h⟩ := top_alike hck hw hg hf
      rw [cond_true, cond_true, W_of (run_all mbF x hx) hs.len, ← e2, W_of (ref_all ck wd lg y hy) hs.len]
      have h := h s a b c d m sz A B C D E hs hl hm6
      rw [← e2] at h
      exact h
  obtain ⟨s', ev, err, A', B', C', D', E', h1, h2, h3, h4, h5⟩ := key
  exact ⟨⟨s', ev, err, A', B', C', D', E'⟩, h1, h2, h3, h4, h5⟩
def runS (f : OutFn) : MSpec := fun args H => match args with
  | [.agg cs, .agg [.str nm, .int .i64 a, .int .i64 b, .int .i64 c, .int .i64 d, .int .i64 m], .int .i64 sz, .ptr 0 0] => match cpuOf cs with
    | some s => memM (fun A B C D E => .req (fineB s && i64r m) (.leaf (.ok (outV (f nm s a b c d m sz A B C D E)) (memO (f nm s a b c d m sz A B C D E).A (f nm s a b c d m sz A B C D E).B (f nm s a b c d m sz A B C D E).C (f nm s a b c d m sz A B C D E).D (f nm s a b c d m sz A B C D E).E)))) H
    | none => .fail
  | _ => .fail
def refS (f : OutFn) : MSpec := fun args H => match args with
  | [.agg cs, .agg [.str nm, .int .i64 a, .int .i64 b, .int .i64 c, .int .i64 d, .int .i64 m], .int .i64 sz, .ptr 0 0] => match cpuOf cs with
    | some s => refM (fun A B C D E => .req (fineB s && i64r m) (.leaf (.ok (outV (f nm s a b c d m sz A B C D E)) (refO (f nm s a b c d m sz A B C D E).A (f nm s a b c d m sz A B C D E).B (f nm s a b c d m sz A B C D E).C (f nm s a b c d m sz A B C D E).D (f nm s a b c d m sz A B C D E).E)))) H
    | none => .fail
  | _ => .fail
theorem cxRunN_ok : CxOk (cxRunN mbF) := ⟨.cons mayN_ok (ruT_ok mayP_ok 6).1, (ruT_ok mayP_ok 6).2⟩
theorem cxRgN_ok {ck : InsR → Int} {wd : Int → Int → Int × Int} {lg : Int → Int → Int → Int × Int} (hc : Sound Tryz.prog 35 (ckP ck)) (hw : Sound Tryz.prog 79 (wdP wd)) (hg' : Sound Tryz.prog 129 (lgP lg)) (hn : Sound Tryz.prog 35 (ckN ck)) : CxOk (cxRgN ck wd lg) :=
  ⟨.cons hn (rgT_ok hc hw hg' 5).1, (rgT_ok hc hw hg' 5).2⟩
theorem ckN_ok {ck : InsR → Int} (hc : Sound Tryz.prog 35 (ckP ck)) : Sound Tryz.prog 35 (ckN ck) := by
  intro args out h
  unfold ckN at h
  split at h
  rotate_left
  · cases h
  obtain ⟨h1, h2⟩ := req_run h
  refine hc _ _ ?_
  rw [← h2]
  show some (V.int .i64 (ck _)) = _
  rw [beq_iff_eq.1 h1]
  rfl
section
variable {ck : InsR → Int} {wd : Int → Int → Int × Int} {lg : Int → Int → Int → Int × Int} (hck : ∀ i : InsT, i64r i.2.2.2.2.2 = true → ck i = encE i) (hw : WdOk wd) (hg : LgOk lg)
include hck hw hg
theorem runS_ok : MSound Tryz.prog 11 (runS (outF ck wd lg)) := by
  intro args H out h
  unfold runS at h
  split at h
  rotate_left
  · cases h
  rename_i cs nm a b c d m sz
  split at h
  rotate_left
  · cases h
  rename_i s hs
  obtain ⟨A, B, C, D, E, rfl, hl, h⟩ := memM_run h
  obtain ⟨hf, h⟩ := req_run h
  cases h
  obtain ⟨rfl, e2⟩ := cpuOf_spec hs
  obtain ⟨hf, hm6⟩ := Bool.and_eq_true_iff.1 hf
  have hF := fine_of e2 hf
  obtain ⟨o1, _, _, o4, _⟩ := out_is hck hw hg nm hF a b c d m sz hl hm6
  have et : tabS (outF ck wd lg nm s a b c d m sz A B C D E).s = (outF ck wd lg nm s a b c d m sz A B C D E).s := cpu_tab o1.len
  unfold outV
  rw [et]
  unfold runP at o4
  cases hk : fok nm
  · rw [hk, cond_false] at o4
    exact runD_ok (mb := mbF) cxRunN_ok (by kernel_rfl) rfl o4
  · rw [hk, cond_true] at o4
    exact runD_ok (mb := mbF) (tab := (ruT mbF 6).tab) (ruT_ok mayP_ok 6) (by kernel_rfl) rfl o4
theorem refS_ok (hc' : Sound Tryz.prog 35 (ckP ck)) (hw' : Sound Tryz.prog 79 (wdP wd)) (hg' : Sound Tryz.prog 129 (lgP lg)) (hn : Sound Tryz.prog 35 (ckN ck)) : MSound Tryz.prog 18 (refS (outF ck wd lg)) := by
  intro args H out h
  unfold refS at h
  split at h
  rotate_left
  · cases h
  rename_i cs nm a b c d m sz
  split at h
  rotate_left
  · cases h
  rename_i s hs
  obtain ⟨A, B, C, D, E, rfl, hl, h⟩ := refM_run h
  obtain ⟨hf, h⟩ := req_run h
  cases h
  obtain ⟨rfl, e2⟩ := cpuOf_spec hs
  obtain ⟨hf, hm6⟩ := Bool.and_eq_true_iff.1 hf
  have hF := fine_of e2 hf
  obtain ⟨o1, _, _, _, o4⟩ := out_is hck hw hg nm hF a b c d m sz hl hm6
  have et : tabS (outF ck wd lg nm s a b c d m sz A B C D E).s = (outF ck wd lg nm s a b c d m sz A B C D E).s := cpu_tab o1.len
  unfold outV
  rw [et]
  unfold refP at o4
  cases hk : fok nm
  · rw [hk, cond_false] at o4
    refine mfunR_ok (cx := cxRgN ck wd lg) (fn := Tryz.f18) [] (cxRgN_ok hc' hw' hg' hn) (by kernel_rfl) (by kernel_rfl) _ _ _ ?_
    rw [← Tree.fin_run]
    exact o4
  · rw [hk, cond_true] at o4
    refine runR_ok hc' hw' hg' _ _ _ ?_
    rw [← Tree.fin_run]
    exact o4
end
theorem ckX_ok : Sound Tryz.prog 35 (ckP checkX) := by
  intro args out h
  unfold ckP at h
  split at h
  rotate_left
  · cases h
  exact checkS_ok _ _ h
theorem ck_eq (i : InsT) (h : i64r i.2.2.2.2.2 = true) : checkX i = encE i := check_eq h
noncomputable def outA : OutFn := outF checkX wdF lgF
theorem runA_ok : MSound Tryz.prog 11 (runS outA) := runS_ok ck_eq wdF_wide lgF_all
theorem refA_ok : MSound Tryz.prog 18 (refS outA) := refS_ok ck_eq wdF_wide lgF_all ckX_ok wdF_ok lgF_ok (ckN_ok ckX_ok)
theorem outA_is (nm : List UInt8) {s : CpuT} (hs : Fine s) (a b c d m sz : Int) {A B C D E : List Int} (hl : lens5 A B C D E = true) (hm6 : i64r m = true) :
    IsOut s (runP nm s a b c d m sz A B C D E) (refP checkX wdF lgF nm s a b c d m sz A B C D E) (outA nm s a b c d m sz A B C D E) := out_is ck_eq wdF_wide lgF_all nm hs a b c d m sz hl hm6
end Go.Ra
