/-
  The walker's whole way. Conditions: none.
-/
import Derived.Test.YtbanejncffdihaaPk12
set_option linter.unusedVariables false
set_option linter.unusedSimpArgs false
namespace Go.Amd
open Go Go.Ab Go.Proofs
noncomputable def cxA1 (w0 : WS) (r1 : Res) : Cx := { P := Try.prog, n := Try.f22.ntmps, tab := [], mtab := [(45, opAt w0 r1)], refs := [], keeps := [0, 2, 3, 4, 5, 6, 7, 8, 9, 25, 50, 51, 67, 74, 80, 86, 93, 103] }
noncomputable def cxA2 (w0 w1 : WS) (op : List Int) (r1 r2 : Res) : Cx := { P := Try.prog, n := Try.f22.ntmps, tab := [], mtab := [(45, opAt w0 r1), (46, chAt w1 op r2)], refs := [], keeps := [0, 2, 3, 4, 5, 6, 7, 8, 9, 25, 50, 51, 67, 74, 80, 86, 93, 103] }
noncomputable def allE1 (l sp : List Int) (fl : Fl) (e k : Int) (fs : Bool) (R : Int) (has : Bool) : Tree Res :=
  vfun (cxA1 (w0S l sp fl) (.pan (fltV e) [wkO l sp fl k fs R has])) Try.f22 [.ptr 0 0] [wkS (w0S l sp fl)]
theorem allE1_eq (l sp : List Int) (fl : Fl) (e k : Int) (fs : Bool) (R : Int) (has : Bool) : (allE1 l sp fl e k fs R has).out = (Tree.br (eqW (l, sp, fl, 0, false, 0, false) (w0S l sp fl)) (panA l sp fl fs R has e k) .fail).out := by kernel_rfl
noncomputable def allE2 (l sp : List Int) (fl : Fl) (k1 : Int) (fs : Bool) (R : Int) (has : Bool) (op : List Int) (e k : Int) : Tree Res :=
  vfun (cxA2 (w0S l sp fl) (l, sp, fl, k1, fs, R, has) op (.ok (opV op) [wkO l sp fl k1 fs R has]) (.pan (fltV e) [wkO l sp fl k fs R has])) Try.f22 [.ptr 0 0] [wkS (w0S l sp fl)]
theorem allE2_eq (l sp : List Int) (fl : Fl) (k1 : Int) (fs : Bool) (R : Int) (has : Bool) (op : List Int) (e k : Int) : (allE2 l sp fl k1 fs R has op e k).out =
    (Tree.br (eqW (l, sp, fl, 0, false, 0, false) (w0S l sp fl)) (.br (eqW (l, sp, fl, k1, fs, R, has) (l, sp, fl, k1, fs, R, has)) (.br (eqL op op) (panA l sp fl fs R has e k) .fail) .fail) .fail).out := by kernel_rfl
theorem eqW_refl (w : WS) : eqW w w = true := decide_eq_true rfl
theorem eqL_refl (l : List Int) : eqL l l = true := decide_eq_true rfl
def rowForm (x : RowT) : Bool := (formsA.map (·.1)).contains (formR x, condR x)
theorem rows_formsA : rowsL.all rowForm = true := by kernel_rfl
theorem form_mem {x : RowT} (h : x ∈ rowsL) : ∃ p ∈ formsA, formR x = p.1.1 ∧ condR x = p.1.2 := by
  have := List.all_eq_true.1 rows_formsA x h
  unfold rowForm at this
  simp only [List.contains_iff_mem, List.mem_map] at this
  obtain ⟨p, h1, h2⟩ := this
  exact ⟨p, h1, by rw [h2], by rw [h2]⟩
theorem forms_parts : ((formsA.drop 0).take 7 ++ (formsA.drop 7).take 4 ++ (formsA.drop 11).take 1 ++ (formsA.drop 12).take 4) = formsA := rfl
theorem forms_all {β : Type} {f g : (Int × Bool) × RestT → β} (h0 : ((formsA.drop 0).take 7).map f = ((formsA.drop 0).take 7).map g) (h1 : ((formsA.drop 7).take 4).map f = ((formsA.drop 7).take 4).map g)
    (h2 : ((formsA.drop 11).take 1).map f = ((formsA.drop 11).take 1).map g) (h3 : ((formsA.drop 12).take 4).map f = ((formsA.drop 12).take 4).map g) : formsA.map f = formsA.map g := by
  rw [← forms_parts]
  simp only [List.map_append, h0, h1, h2, h3]
theorem opcP_fine {l : List Int} {op : List Int} {k : Int} {fs : Bool} {R : Int} {has : Bool} (h : opcP l = .ok (op, k, fs, R, has)) : opLen op = true ∧ 0 ≤ k ∧ k ≤ (l.length : Int) := by
  have ok : ∀ {o : List Int} {j : Int} {f : Bool} {r : Int} {b : Bool}, (Except.ok (o, j, f, r, b) : OpR) = .ok (op, k, fs, R, has) → o = op ∧ j = k := by
    intro o j f r b h
    cases h
    exact ⟨rfl, rfl⟩
  cases l with
  | nil => cases h
  | cons c t =>
    unfold opcP opc0 at h
    simp only at h
    cases h0 : (c == 100)
    · rw [h0, cond_false] at h
      cases h4 : (sh4 c == 4)
      · rw [h4, cond_false] at h
        cases h15 : (c != 15)
        · rw [h15, cond_false] at h
          cases t with
          | nil => cases h
          | cons d t => obtain ⟨rfl, rfl⟩ := ok h; exact ⟨rfl, by decide, by simp only [List.length_cons]; omega⟩
        · rw [h15, cond_true] at h
          obtain ⟨rfl, rfl⟩ := ok h
          exact ⟨rfl, by decide, by simp only [List.length_cons]; omega⟩
      · rw [h4, cond_true] at h
        cases t with
        | nil => cases h
        | cons d t =>
          simp only at h
          unfold opc2 at h
          cases h15 : (d != 15)
          · rw [h15, cond_false] at h
            cases h8 : (!(and8 (and8 c 15) 8 != 0))
            · rw [h8, cond_false] at h
              cases t with
              | nil => cases h
              | cons e t => obtain ⟨rfl, rfl⟩ := ok h; exact ⟨rfl, by decide, by simp only [List.length_cons]; omega⟩
            · rw [h8] at h; cases h
          · rw [h15, cond_true] at h
            obtain ⟨rfl, rfl⟩ := ok h
            exact ⟨rfl, by decide, by simp only [List.length_cons]; omega⟩
    · rw [h0, cond_true] at h
      cases t with
      | nil => cases h
      | cons d t =>
        simp only at h
        unfold opc1 at h
        cases h48 : (!(and8 d 251 == 72))
        · rw [h48, cond_false] at h
          cases h4 : (sh4 d == 4)
          · rw [h4, cond_false] at h
            cases h15 : (d != 15)
            · rw [h15] at h; cases h
            · rw [h15, cond_true] at h
              obtain ⟨rfl, rfl⟩ := ok h
              exact ⟨rfl, by decide, by simp only [List.length_cons]; omega⟩
          · rw [h4, cond_true] at h
            cases t with
            | nil => cases h
            | cons e t =>
              simp only at h
              cases h15 : (e != 15)
              · rw [h15] at h; cases h
              · rw [h15, cond_true] at h
                obtain ⟨rfl, rfl⟩ := ok h
                exact ⟨rfl, by decide, by simp only [List.length_cons]; omega⟩
        · rw [h48] at h; cases h
def plainR : RestR → Except Int (InsT × Int)
  | .ok p => .ok p
  | .error (e, _) => .error e
def decC (R : Int) (op : List Int) (k : Int) (G : List RowT) : List Int → Except Int (InsT × Int)
  | [] => .error 2
  | c :: t => match G.find? (fitC c) with
    | some x => plainR (restQ R x op c t (k + 1))
    | none => .error 22
def decQ (l : List Int) : Except Int (InsT × Int) := match opcP l with
  | .error (e, _) => .error e
  | .ok (op, k, fs, R, has) => match cands R op fs has with
    | [] => .error 22
    | r0 :: G => cond (modOf (formR r0)) (decC R op k (r0 :: G) (l.drop k.toNat)) (plainR (restQ R r0 op 0 (l.drop k.toNat) k))
def AllRes (l sp : List Int) (fl : Fl) (res : Res) : Except Int (InsT × Int) → Prop
  | .ok (i, k) => ∃ fs R has, res = .ok (insV i) [wkO l sp fl k fs R has, insO i]
  | .error e => ∃ k fs R has, res = .pan (fltV e) [wkO l sp fl k fs R has]
theorem allRes_rest {l sp : List Int} {fl : Fl} {fs : Bool} {R : Int} {has : Bool} (r : RestR) : AllRes l sp fl (toRes l sp fl fs R has r) (plainR r) := by
  cases r with
  | ok p => exact ⟨fs, R, has, rfl⟩
  | error p => exact ⟨p.2, fs, R, has, rfl⟩
section
variable {l sp : List Int} {fl : Fl}
abbrev AllCall (l sp : List Int) (fl : Fl) (res : Res) : Prop := MCall Try.prog 22 [.ptr 0 0] [wkO l sp fl 0 false 0 false] res
theorem all_chosen (h1 : l.length < 1000000000) {op : List Int} {k1 k c R : Int} {fs has : Bool} {x : RowT} (ho : opcP l = .ok (op, k1, fs, R, has)) (hx : x ∈ rowsL)
    (hch : MCall Try.prog 46 [.ptr 0 0, opV op] [wkO l sp fl k1 fs R has] (.ok (.tup [.agg (rowL x), .int .u8 c]) [wkO l sp fl k fs R has, rO x])) {t : List Int} (ha : At l k t) :
    AllCall l sp fl (toRes l sp fl fs R has (restQ R x op c t k)) := by
  have hop := opcode_ok l sp fl h1
  rw [ho] at hop
  obtain ⟨p, hp, hf, hc⟩ := form_mem hx
  have hform : formOk x = true := List.all_eq_true.1 rows_forms x hx
  have hrun := rests_run (sp := sp) (fl := fl) (fs := fs) (R := R) (has := has) p hp hf hc hform (opcP_fine ho).1 h1 (c := c) ha
  obtain ⟨nm, rex, o16, f, dg, cn, lo, hi, os⟩ := x
  simp only [formR, condR] at hf hc
  subst hf
  subst hc
  have e := congrFun (congrFun (congrFun (congrFun (congrFun (congrFun (congrFun (congrFun (congrFun (congrFun (congrFun (congrFun (congrFun (congrFun (congrFun (congrFun (congrFun (congrFun (List.map_inj_left.1 (forms_all all_0 all_1 all_2 all_3) p hp) numV) l) sp) fl) k1) fs) R) has) nm) rex) o16) dg) lo) hi) os) op) c) k
  refine mcall_view (cx := cxAll numV (w0S l sp fl) (l, sp, fl, k1, fs, R, has) op (.ok (opV op) [wkO l sp fl k1 fs R has]) (.ok (.tup [.agg (rowL (nm, rex, o16, p.1.1, dg, p.1.2, lo, hi, os)), .int .u8 c]) [wkO l sp fl k fs R has, rO (nm, rex, o16, p.1.1, dg, p.1.2, lo, hi, os)])) (fn := Try.f22)
    (cxAll_ok hop hch) (by kernel_rfl) (by kernel_rfl) (by kernel_rfl) (by kernel_rfl) rfl ?_
  refine (Tree.out_run _).symm.trans (e.trans ((Tree.out_run _).trans ?_))
  unfold allH
  rw [br_t (eqW_refl _), br_t (eqW_refl _), br_t (eqL_refl _)]
  exact hrun
theorem all_ok (h1 : l.length < 1000000000) (hb : ∀ x ∈ l, 0 ≤ x ∧ x < 256) : ∃ res, AllRes l sp fl res (decQ l) ∧ AllCall l sp fl res := by
  have hop := opcode_ok l sp fl h1
  unfold decQ
  cases ho : opcP l with
  | error p =>
    obtain ⟨e, k, fs, R, has⟩ := p
    rw [ho] at hop
    refine ⟨.pan (fltV e) [wkO l sp fl k fs R has], ⟨k, fs, R, has, rfl⟩, ?_⟩
    refine mcall_view (cx := cxA1 (w0S l sp fl) (.pan (fltV e) [wkO l sp fl k fs R has])) (fn := Try.f22) (cx1_ok (.nil _) (.cons (opAt_ok hop) (.nil _)) rfl rfl) (by kernel_rfl) (by kernel_rfl) (by kernel_rfl) (by kernel_rfl) rfl ?_
    refine (Tree.out_run _).symm.trans ((allE1_eq l sp fl e k fs R has).trans ((Tree.out_run _).trans ?_))
    rw [br_t (eqW_refl _)]
    rfl
  | ok p =>
    obtain ⟨op, k1, fs, R, has⟩ := p
    rw [ho] at hop
    obtain ⟨o1, k0, k2⟩ := opcP_fine ho
    have pan : ∀ e k, (chosenT l sp fl k1 R op fs has).run = some (.pan (fltV e) [wkO l sp fl k fs R has]) → ∃ res, AllRes l sp fl res (.error e) ∧ AllCall l sp fl res := by
      intro e k hr
      have hch := chosen_ok (sp := sp) (fl := fl) o1 k0 (by omega) h1 hr
      refine ⟨.pan (fltV e) [wkO l sp fl k fs R has], ⟨k, fs, R, has, rfl⟩, ?_⟩
      refine mcall_view (cx := cxA2 (w0S l sp fl) (l, sp, fl, k1, fs, R, has) op (.ok (opV op) [wkO l sp fl k1 fs R has]) (.pan (fltV e) [wkO l sp fl k fs R has])) (fn := Try.f22)
        (cx1_ok (.nil _) (.cons (opAt_ok hop) (.cons (chAt_ok hch) (.nil _))) rfl rfl) (by kernel_rfl) (by kernel_rfl) (by kernel_rfl) (by kernel_rfl) rfl ?_
      refine (Tree.out_run _).symm.trans ((allE2_eq l sp fl k1 fs R has op e k).trans ((Tree.out_run _).trans ?_))
      rw [br_t (eqW_refl _), br_t (eqW_refl _), br_t (eqL_refl _)]
      rfl
    have at1 : At l k1 (l.drop k1.toNat) := ⟨⟨l.take k1.toNat, (List.take_append_drop _ _).symm, by rw [List.length_take]; omega⟩, fun x hx => hb x (List.mem_of_mem_drop hx)⟩
    have good : ∀ x c k t, x ∈ rowsL → At l k t → (chosenT l sp fl k1 R op fs has).run = some (.ok (.tup [.agg (rowL x), .int .u8 c]) [wkO l sp fl k fs R has, rO x]) → ∃ res, AllRes l sp fl res (plainR (restQ R x op c t k)) ∧ AllCall l sp fl res := by
      intro x c k t hx ha hr
      exact ⟨_, allRes_rest _, all_chosen h1 ho hx (chosen_ok (sp := sp) (fl := fl) o1 k0 (by omega) h1 hr) ha⟩
    simp only
    unfold chosenT at pan good
    have hmem : ∀ r ∈ cands R op fs has, r ∈ rowsL := fun r hr => (List.mem_filter.1 hr).1
    cases hG : cands R op fs has with
    | nil =>
      rw [hG] at pan
      exact pan 22 k1 rfl
    | cons r0 G =>
      rw [hG] at pan good hmem
      simp only at pan good ⊢
      cases hm : modOf (formR r0)
      · rw [hm] at pan good
        exact good r0 0 k1 _ (hmem r0 List.mem_cons_self) at1 rfl
      · rw [hm] at pan good
        simp only [br_run, cond_true] at pan good ⊢
        generalize hd : l.drop k1.toNat = t at at1
        cases t with
        | nil =>
          have hle : l.length ≤ k1.toNat := List.drop_eq_nil_iff.1 hd
          have hs : decide ((l.length : Nat) ≤ k1) = true := decide_eq_true (by omega)
          exact pan 2 k1 (by rw [hs]; rfl)
        | cons c t =>
          have hlt : k1.toNat < l.length := by
            rcases Nat.lt_or_ge k1.toNat l.length with h | h
            · exact h
            · rw [List.drop_eq_nil_iff.2 h] at hd; cases hd
          have hs : decide ((l.length : Nat) ≤ k1) = false := decide_eq_false (by omega)
          have hc : l.getD k1.toNat 0 = c := by
            rw [List.drop_eq_getElem_cons hlt] at hd
            rw [List.getD_eq_getElem?_getD, List.getElem?_eq_getElem hlt]
            exact (List.cons.inj hd).1
          rw [hs] at pan good
          rw [hc] at pan good
          simp only [cond_false] at pan good
          unfold fitT at pan good
          unfold decC
          simp only
          cases hx : (r0 :: G).find? (fitC c) with
          | none =>
            rw [hx] at pan
            exact pan 22 (k1 + 1) rfl
          | some x =>
            rw [hx] at good
            exact good x c (k1 + 1) t (hmem x (List.mem_of_find?_eq_some hx)) at1.next rfl
end
end Go.Amd

namespace Go.Amd
open Go Go.Ab Go.Proofs
def allAt (w0 : WS) (r : Res) : MSpec := fun args H => match args, H with
  | [.ptr 0 0], [.cells [.sl (.int .u8) l sp fl, .int .i64 k, .bool fs, .int .u8 R, .bool has] 55] => .req (eqW (l, sp, fl, k, fs, R, has) w0) (.leaf r)
  | _, _ => .fail
theorem allAt_ok {w0 : WS} {r : Res} (h0 : MCall Try.prog 22 [.ptr 0 0] [wkS w0] r) : MSound Try.prog 22 (allAt w0 r) := by
  intro args H res h
  unfold allAt at h
  split at h
  rotate_left
  · cases h
  obtain ⟨h1, h⟩ := req_run h
  have h := leaf_out h
  subst h
  have h1 := of_decide_eq_true h1
  subst h1
  exact h0
noncomputable def cxD (w0 : WS) (r : Res) : Cx := { P := Try.prog, n := Try.f11.ntmps, tab := [], mtab := [(22, allAt w0 r)], refs := [], keeps := [0, 1, 4, 5, 6, 7, 15] }
def pureT (r : Res) : Tree V := match r with
  | .ok v _ => .ofOption (V.pure? v)
  | _ => .fail
noncomputable def decG (w0 : WS) (r : Res) (l sp : List Int) (fl : Fl) (at_ : Int) : Tree V :=
  (dfunD (cxD w0 r) cx21 Try.f11 21 Try.f21 [.sl (.int .u8) l sp fl, .int .i64 at_] []).bind pureT
def zeroI : InsT := ([], 0, 0, 0, 0, 0)
abbrev outD (i : InsT) (n e : Int) : V := .tup [insV i, .int .i64 n, .int .i64 e]
def decH (w0 : WS) (l sp : List Int) (fl : Fl) (at_ : Int) (out : V) : Tree V :=
  .br (decide (at_ < 0)) (.leaf (outD zeroI 0 5)) (.br (decide ((l.length : Nat) < at_)) (.leaf (outD zeroI 0 5))
    (.br (decide (0 ≤ at_) && decide (at_ ≤ (l.length : Nat))) (.br (eqW (l.drop at_.toNat, sp, fl, 0, false, 0, false) w0) (.leaf out) .fail) .fail))
theorem dec1_eq (w0 : WS) (l sp l2 sp2 : List Int) (fl fl2 : Fl) (at_ k R : Int) (fs has : Bool) (i : InsT) :
    (decG w0 (.ok (insV i) [wkO l2 sp2 fl2 k fs R has, insO i]) l sp fl at_).out = (decH w0 l sp fl at_ (outD i k 0)).out := by kernel_rfl
theorem dec2_eq (w0 : WS) (l sp l2 sp2 : List Int) (fl fl2 : Fl) (at_ k R e : Int) (fs has : Bool) :
    (decG w0 (.pan (fltV e) [wkO l2 sp2 fl2 k fs R has]) l sp fl at_).out = (decH w0 l sp fl at_ (outD zeroI 0 e)).out := by kernel_rfl
theorem decG_ok {w0 : WS} {r : Res} (h0 : MCall Try.prog 22 [.ptr 0 0] [wkS w0] r) {l sp : List Int} {fl : Fl} {at_ : Int} {out : V} (h : (decG w0 r l sp fl at_).run = some out) :
    PCall Try.prog 11 [.sl (.int .u8) l sp fl, .int .i64 at_] out := by
  unfold decG at h
  obtain ⟨res, h2, h3⟩ := bind_run h
  cases res with
  | ok v H' =>
    exact pcall_of_mcall (mcall_defer (cx := cxD w0 r) (cl := cx21) (fn := Try.f11) (fg := Try.f21) (cx1_ok (.nil _) (.cons (allAt_ok h0) (.nil _)) rfl rfl) (cx0_ok rfl rfl) rfl (by kernel_rfl) (by kernel_rfl) (by kernel_rfl) (by kernel_rfl) (by kernel_rfl) h2) (ofOption_run h3)
  | pan v H' => cases h3
def outOf (l : List Int) (at_ : Int) : Bool := decide (at_ < 0) || decide ((l.length : Int) < at_)
def ansD : Except Int (InsT × Int) → V
  | .ok (i, k) => outD i k 0
  | .error e => outD zeroI 0 e
def decV (l : List Int) (at_ : Int) : V := cond (outOf l at_) (outD zeroI 0 5) (ansD (decQ (l.drop at_.toNat)))
theorem decode_ok {l sp : List Int} {fl : Fl} {at_ : Int} (h1 : l.length < 1000000000) (hb : ∀ x ∈ l, 0 ≤ x ∧ x < 256) : PCall Try.prog 11 [.sl (.int .u8) l sp fl, .int .i64 at_] (decV l at_) := by
  obtain ⟨res, hres, hall⟩ := all_ok (l := l.drop at_.toNat) (sp := sp) (fl := fl) (by rw [List.length_drop]; omega) (fun x hx => hb x (List.mem_of_mem_drop hx))
  refine decG_ok (w0 := (l.drop at_.toNat, sp, fl, 0, false, 0, false)) hall ?_
  have run : ∀ out, (decH (l.drop at_.toNat, sp, fl, 0, false, 0, false) l sp fl at_ out).run = some (cond (outOf l at_) (outD zeroI 0 5) out) := by
    intro out
    unfold decH outOf
    rw [br_run, br_run]
    by_cases g1 : at_ < 0
    · rw [decide_eq_true g1]; rfl
    · rw [decide_eq_false g1]
      by_cases g2 : (l.length : Int) < at_
      · rw [decide_eq_true g2]; rfl
      · rw [decide_eq_false g2, cond_false, cond_false]
        refine (br_t ?_).trans ((br_t (eqW_refl _)).trans rfl)
        rw [decide_eq_true (show 0 ≤ at_ by omega), decide_eq_true (show at_ ≤ (l.length : Int) by omega)]
        rfl
  unfold decV
  cases hd : decQ (l.drop at_.toNat) with
  | ok p =>
    obtain ⟨i, k⟩ := p
    rw [hd] at hres
    obtain ⟨fs, R, has, rfl⟩ := hres
    exact (Tree.out_run _).symm.trans ((dec1_eq _ l sp _ _ fl _ at_ k R fs has i).trans ((Tree.out_run _).trans (run _)))
  | error e =>
    rw [hd] at hres
    obtain ⟨k, fs, R, has, rfl⟩ := hres
    exact (Tree.out_run _).symm.trans ((dec2_eq _ l sp _ _ fl _ at_ k R e fs has).trans ((Tree.out_run _).trans (run _)))
def bytesB (l : List Int) : Bool := l.all fun x => decide (0 ≤ x) && decide (x < 256)
theorem bytesB_of {l : List Int} (h : bytesB l = true) : ∀ x ∈ l, 0 ≤ x ∧ x < 256 := by
  intro x hx
  have := List.all_eq_true.1 h x hx
  simpa using this
def decodeS : Ab.Spec := fun args => match args with
  | [.sl (.int .u8) l _ _, .int .i64 at_] => .req (decide (l.length < 1000000000)) (.req (bytesB l) (.leaf (decV l at_)))
  | _ => .fail
theorem decodeS_ok : Sound Try.prog 11 decodeS := by
  intro args out h
  unfold decodeS at h
  split at h
  rotate_left
  · cases h
  rename_i l sp fl at_
  obtain ⟨h1, h⟩ := req_run h
  obtain ⟨h2, h⟩ := req_run h
  have h := leaf_out h
  subst h
  exact decode_ok (of_decide_eq_true h1) (bytesB_of h2)
end Go.Amd

namespace Go.Amd
open Go Go.Ab Go.Proofs
def all1 (n : Nat) (p : Int → Bool) : Bool := (List.range n).all fun a => p (a : Int)
def all2 (n m : Nat) (p : Int → Int → Bool) : Bool := (List.range n).all fun a => (List.range m).all fun b => p (a : Int) (b : Int)
theorem all1_of {n : Nat} {p : Int → Bool} (h : all1 n p = true) {a : Int} (a0 : 0 ≤ a) (a1 : a < n) : p a = true := by
  have := List.all_eq_true.1 h a.toNat (List.mem_range.2 (by omega))
  rwa [Int.toNat_of_nonneg a0] at this
theorem all2_of {n m : Nat} {p : Int → Int → Bool} (h : all2 n m p = true) {a b : Int} (a0 : 0 ≤ a) (a1 : a < n) (b0 : 0 ≤ b) (b1 : b < m) : p a b = true := by
  have := List.all_eq_true.1 h a.toNat (List.mem_range.2 (by omega))
  have := List.all_eq_true.1 this b.toNat (List.mem_range.2 (by omega))
  rwa [Int.toNat_of_nonneg a0, Int.toNat_of_nonneg b0] at this
theorem rexM_all : all2 16 16 (fun a b => rexM 0 a b == 4 * (a / 8) + b / 8) = true := by kernel_rfl
theorem rexM_eq {a b : Int} (a0 : 0 ≤ a) (a1 : a < 16) (b0 : 0 ≤ b) (b1 : b < 16) : rexM 0 a b = 4 * (a / 8) + b / 8 := eq_of_beq (all2_of rexM_all a0 a1 b0 b1)
theorem hi_all : all1 16 (fun a => or8 0 (hi4 a 1) == a / 8) = true := by kernel_rfl
theorem hi_eq {a : Int} (a0 : 0 ≤ a) (a1 : a < 16) : or8 0 (hi4 a 1) = a / 8 := eq_of_beq (all1_of hi_all a0 a1)
theorem sibR_all : all2 16 16 (fun i b => sibR 0 i b == 2 * (i / 8) + b / 8 && sibR 4 i b == 4 + 2 * (i / 8) + b / 8) = true := by kernel_rfl
theorem sibR_eq {a i b : Int} (a0 : 0 ≤ a) (a1 : a < 16) (i0 : 0 ≤ i) (i1 : i < 16) (b0 : 0 ≤ b) (b1 : b < 16) : sibR (rexM 0 a 4) i b = 4 * (a / 8) + 2 * (i / 8) + b / 8 := by
  obtain ⟨h1, h2⟩ := Bool.and_eq_true_iff.1 (all2_of sibR_all i0 i1 b0 b1)
  rw [rexM_eq a0 a1 (by decide) (by decide)]
  have : a / 8 = 0 ∨ a / 8 = 1 := by omega
  rcases this with h | h
  · rw [h]
    have := eq_of_beq h1
    simpa using this
  · rw [h]
    have := eq_of_beq h2
    simpa using this
theorem mrB_all : all1 5 (fun m => all2 16 16 fun a b => mrB m a b == (64 * m + 8 * (a % 8) + b % 8) % 256) = true := by kernel_rfl
theorem mrB_eq {m a b : Int} (m0 : 0 ≤ m) (m1 : m < 4) (a0 : 0 ≤ a) (a1 : a < 16) (b0 : 0 ≤ b) (b1 : b < 16) : mrB m a b = 64 * m + 8 * (a % 8) + b % 8 := by
  have := eq_of_beq (all2_of (all1_of mrB_all m0 (show m < (5 : Nat) by omega)) a0 a1 b0 b1)
  rw [this]
  omega
theorem bit_all : all1 16 (fun R => bitF R 4 == 8 * (R / 4 % 2) && (bitF R 2 == 8 * (R / 2 % 2) && (bitF R 1 == 8 * (R % 2)))) = true := by kernel_rfl
theorem bit_eq {R : Int} (r0 : 0 ≤ R) (r1 : R < 16) : bitF R 4 = 8 * (R / 4 % 2) ∧ bitF R 2 = 8 * (R / 2 % 2) ∧ bitF R 1 = 8 * (R % 2) := by
  have := all1_of bit_all r0 r1
  simpa only [Bool.and_eq_true, beq_iff_eq] using this
theorem byte_all : all1 256 (fun c => modF c == c / 64 && (and8 (Int.fdiv c (2 ^ 3)) 7 == c / 8 % 8 && (and8 c 7 == c % 8 && rmF c == c % 8))) = true := by kernel_rfl
theorem byte_eq {c : Int} (c0 : 0 ≤ c) (c1 : c < 256) : modF c = c / 64 ∧ and8 (Int.fdiv c (2 ^ 3)) 7 = c / 8 % 8 ∧ and8 c 7 = c % 8 ∧ rmF c = c % 8 := by
  have := all1_of byte_all c0 c1
  simpa only [Bool.and_eq_true, beq_iff_eq] using this
theorem midF_eq {c R : Int} (c0 : 0 ≤ c) (c1 : c < 256) (r0 : 0 ≤ R) (r1 : R < 16) : midF c R = c / 8 % 8 + 8 * (R / 4 % 2) := by
  unfold midF wi
  rw [(byte_eq c0 c1).2.1, (bit_eq r0 r1).1, wrap_i64 (n := c / 8 % 8) (by omega) (by omega), wrap_i64 (by omega) (by omega)]
theorem lowF_eq {c R : Int} (c0 : 0 ≤ c) (c1 : c < 256) (r0 : 0 ≤ R) (r1 : R < 16) : lowF c R = c % 8 + 8 * (R % 2) := by
  unfold lowF wi
  rw [(byte_eq c0 c1).2.2.1, (bit_eq r0 r1).2.2, wrap_i64 (n := c % 8) (by omega) (by omega), wrap_i64 (by omega) (by omega)]
theorem idxF_eq {c R : Int} (c0 : 0 ≤ c) (c1 : c < 256) (r0 : 0 ≤ R) (r1 : R < 16) : idxF c R = c / 8 % 8 + 8 * (R / 2 % 2) := by
  unfold idxF wi
  rw [(byte_eq c0 c1).2.1, (bit_eq r0 r1).2.1, wrap_i64 (n := c / 8 % 8) (by omega) (by omega), wrap_i64 (by omega) (by omega)]
end Go.Amd

namespace Go.Amd
open Go Go.Ab Go.Proofs
theorem byU_eq {c : Int} {k : Nat} (c0 : 0 ≤ c) (c1 : c < 256) (hk : k ≤ 56) : byU c k = c * 2 ^ k := by
  have hp : (2 : Int) ^ k ≤ 2 ^ 56 := by
    have := Nat.pow_le_pow_right (n := 2) (by decide) hk
    exact_mod_cast this
  have hp0 : (0 : Int) < 2 ^ k := by
    have := Nat.pow_pos (n := k) (show 0 < 2 by decide)
    exact_mod_cast this
  have hm : 0 ≤ c * 2 ^ k := Int.mul_nonneg c0 (Int.le_of_lt hp0)
  have hl : c * 2 ^ k ≤ 255 * 2 ^ 56 := Int.mul_le_mul (by omega) hp (Int.le_of_lt hp0) (by decide)
  unfold byU w64
  rw [Go.Wd.wrap_u64, Go.Wd.wrap_u64, Int.emod_eq_of_lt c0 (by omega), Int.emod_eq_of_lt hm (by omega)]
theorem or64_add {a c : Int} {k : Nat} (a0 : 0 ≤ a) (a1 : a < 2 ^ k) (c0 : 0 ≤ c) (c1 : c < 256) (hk : k ≤ 56) : or64 a (byU c k) = a + c * 2 ^ k := by
  rw [byU_eq c0 c1 hk]
  obtain ⟨A, rfl⟩ := Int.eq_ofNat_of_zero_le a0
  obtain ⟨C, rfl⟩ := Int.eq_ofNat_of_zero_le c0
  have hA : A < 2 ^ k := by exact_mod_cast a1
  have hC : C < 2 ^ 8 := by have : (C : Int) < 256 := c1; omega
  have hk2 : 2 ^ k ≤ 2 ^ 56 := Nat.pow_le_pow_right (by decide) hk
  have hCk : C * 2 ^ k < 2 ^ 64 := by
    have : C * 2 ^ k ≤ 255 * 2 ^ 56 := Nat.mul_le_mul (by omega) hk2
    omega
  have e : ((C : Int) * 2 ^ k) = ((C <<< k : Nat) : Int) := by rw [Nat.shiftLeft_eq]; push_cast; rfl
  have hs : C <<< k < 2 ^ 64 := by rw [Nat.shiftLeft_eq]; exact hCk
  show Go.Wd.or64 (A : Int) _ = _
  rw [e, Go.Wd.or64_cast (by omega) hs, Go.Wd.or_step (Go.Wd.OffN.low hA) hC]
  push_cast
  rfl
theorem wi_eq (n : Int) : wi n = (n + 9223372036854775808) % 18446744073709551616 - 9223372036854775808 := by
  have h : IntKind.wrap .i64 n = if n % 18446744073709551616 ≥ 9223372036854775808 then n % 18446744073709551616 - 18446744073709551616 else n % 18446744073709551616 := by
    simp [IntKind.wrap, IntKind.bits, IntKind.signed]
  unfold wi
  rw [h]
  split <;> omega
theorem imB_eq (n : Int) (k : Nat) : imB n k = n / 2 ^ k % 256 := by
  unfold imB w8
  rw [Go.Wd.wrap_u8, Int.fdiv_eq_ediv_of_nonneg _ (Int.pow_nonneg (by decide))]
def IsB (a : Int) : Prop := 0 ≤ a ∧ a < 256
theorem num1_all : all1 256 (fun a => num1V a == (a + 128) % 256 - 128) = true := by kernel_rfl
theorem num1_eq {a : Int} (h : IsB a) : num1V a = (a + 128) % 256 - 128 := eq_of_beq (all1_of num1_all h.1 h.2)
theorem or0 {a : Int} (h : IsB a) : or64 0 (byU a 0) = a := by
  rw [or64_add (by decide) (by decide) h.1 h.2 (by decide)]
  omega
theorem num4_eq {a b c d : Int} (ha : IsB a) (hb : IsB b) (hc : IsB c) (hd : IsB d) : num4V a b c d = (a + b * 256 + c * 65536 + d * 16777216 + 2147483648) % 4294967296 - 2147483648 := by
  obtain ⟨a0, a1⟩ := ha
  obtain ⟨b0, b1⟩ := hb
  obtain ⟨c0, c1⟩ := hc
  obtain ⟨d0, d1⟩ := hd
  unfold num4V
  rw [or0 ⟨a0, a1⟩, or64_add a0 (by omega) b0 b1 (by decide), or64_add (by omega) (by omega) c0 c1 (by decide), or64_add (by omega) (by omega) d0 d1 (by decide)]
  unfold sgnV w64
  rw [Go.Wd.wrap_u64, wi_eq, Int.fdiv_eq_ediv_of_nonneg _ (by decide)]
  omega
theorem num8_eq {a b c d e f g h : Int} (ha : IsB a) (hb : IsB b) (hc : IsB c) (hd : IsB d) (he : IsB e) (hf : IsB f) (hg : IsB g) (hh : IsB h) :
    num8V a b c d e f g h = (a + b * 2 ^ 8 + c * 2 ^ 16 + d * 2 ^ 24 + e * 2 ^ 32 + f * 2 ^ 40 + g * 2 ^ 48 + h * 2 ^ 56 + 9223372036854775808) % 18446744073709551616 - 9223372036854775808 := by
  obtain ⟨a0, a1⟩ := ha
  obtain ⟨b0, b1⟩ := hb
  obtain ⟨c0, c1⟩ := hc
  obtain ⟨d0, d1⟩ := hd
  obtain ⟨e0, e1⟩ := he
  obtain ⟨f0, f1⟩ := hf
  obtain ⟨g0, g1⟩ := hg
  obtain ⟨h0, h1⟩ := hh
  unfold num8V
  rw [or0 ⟨a0, a1⟩, or64_add a0 (by omega) b0 b1 (by decide), or64_add (by omega) (by omega) c0 c1 (by decide), or64_add (by omega) (by omega) d0 d1 (by decide), or64_add (by omega) (by omega) e0 e1 (by decide),
    or64_add (by omega) (by omega) f0 f1 (by decide), or64_add (by omega) (by omega) g0 g1 (by decide), or64_add (by omega) (by omega) h0 h1 (by decide)]
  unfold sgnV w64
  rw [Go.Wd.wrap_u64, wi_eq, Int.fdiv_eq_ediv_of_nonneg _ (by decide)]
  omega
theorem imB_b (n : Int) (k : Nat) : IsB (imB n k) := by
  rw [imB_eq]
  exact ⟨Int.emod_nonneg _ (by decide), Int.emod_lt_of_pos _ (by decide)⟩
theorem num1_im {n : Int} (h0 : -128 ≤ n) (h1 : n < 128) : num1V (imB n 0) = n := by
  rw [num1_eq (imB_b n 0), imB_eq]
  omega
theorem num4_im {n : Int} (h0 : -2147483648 ≤ n) (h1 : n < 2147483648) : num4V (imB n 0) (imB n 8) (imB n 16) (imB n 24) = n := by
  rw [num4_eq (imB_b n 0) (imB_b n 8) (imB_b n 16) (imB_b n 24)]
  simp only [imB_eq]
  omega
theorem num8_im {n : Int} (h0 : -9223372036854775808 ≤ n) (h1 : n < 9223372036854775808) :
    num8V (imB n 0) (imB n 8) (imB n 16) (imB n 24) (imB n 32) (imB n 40) (imB n 48) (imB n 56) = n := by
  rw [num8_eq (imB_b n 0) (imB_b n 8) (imB_b n 16) (imB_b n 24) (imB_b n 32) (imB_b n 40) (imB_b n 48) (imB_b n 56)]
  simp only [imB_eq]
  omega
theorem im1_num {a : Int} (h : IsB a) : im1 (num1V a) = [a] := by
  obtain ⟨a0, a1⟩ := h
  unfold im1
  rw [imB_eq, num1_eq ⟨a0, a1⟩]
  congr 1
  omega
theorem im4_num {a b c d : Int} (ha : IsB a) (hb : IsB b) (hc : IsB c) (hd : IsB d) : im4 (num4V a b c d) = [a, b, c, d] := by
  unfold im4
  simp only [imB_eq, num4_eq ha hb hc hd]
  obtain ⟨a0, a1⟩ := ha
  obtain ⟨b0, b1⟩ := hb
  obtain ⟨c0, c1⟩ := hc
  obtain ⟨d0, d1⟩ := hd
  congr 1
  · omega
  congr 1
  · omega
  congr 1
  · omega
  congr 1
  omega
theorem im8_num {a b c d e f g h : Int} (ha : IsB a) (hb : IsB b) (hc : IsB c) (hd : IsB d) (he : IsB e) (hf : IsB f) (hg : IsB g) (hh : IsB h) : im8 (num8V a b c d e f g h) = [a, b, c, d, e, f, g, h] := by
  unfold im8
  simp only [imB_eq, num8_eq ha hb hc hd he hf hg hh]
  obtain ⟨a0, a1⟩ := ha
  obtain ⟨b0, b1⟩ := hb
  obtain ⟨c0, c1⟩ := hc
  obtain ⟨d0, d1⟩ := hd
  obtain ⟨e0, e1⟩ := he
  obtain ⟨f0, f1⟩ := hf
  obtain ⟨g0, g1⟩ := hg
  obtain ⟨h0, h1⟩ := hh
  congr 1
  · omega
  congr 1
  · omega
  congr 1
  · omega
  congr 1
  · omega
  congr 1
  · omega
  congr 1
  · omega
  congr 1
  · omega
  congr 1
  omega
end Go.Amd

namespace Go.Amd
open Go Go.Ab Go.Proofs
def grpF (f : Int) : Bool := f == 3 || f == 4 || f == 5 || f == 6
def disjF (x y : RowT) : Bool := (formR x == 9 && (grpF (formR y) || formR y == 7 || formR y == 8)) || ((formR y == 9 && (grpF (formR x) || formR x == 7 || formR x == 8)) || (grpF (formR x) && grpF (formR y) && !(x.2.2.2.2.1 == y.2.2.2.2.1)))
def bools : List Bool := [false, true]
def noPref (x y : RowT) : Bool := bools.all fun fs => bools.all fun has => all1 16 fun R => !(prefF x fs R has && prefF y fs R has)
def apartF (x y : RowT) : Bool := x == y || (noPref x y || (modOf (formR x) && (modOf (formR y) && disjF x y)))
def openers (op : List Int) : List RowT := rowsL.filter fun x => opensF x op
def pairsF (l : List RowT) : Bool := l.all fun x => l.all fun y => apartF x y
theorem open1_all : all1 256 (fun c => pairsF (openers [c])) = true := by kernel_rfl
theorem open2_all : all1 256 (fun c => pairsF (openers [15, c])) = true := by kernel_rfl
def OpB (op : List Int) : Prop := (∃ c, IsB c ∧ op = [c]) ∨ (∃ c, IsB c ∧ op = [15, c])
theorem open_pairs {op : List Int} (h : OpB op) : pairsF (openers op) = true := by
  rcases h with ⟨c, h, rfl⟩ | ⟨c, h, rfl⟩
  · exact all1_of open1_all h.1 h.2
  · exact all1_of open2_all h.1 h.2
theorem cand_apart {op : List Int} (h : OpB op) {fs has : Bool} {R : Int} (r0 : 0 ≤ R) (r1 : R < 16) {x y : RowT} (hx : x ∈ cands R op fs has) (hy : y ∈ cands R op fs has) (hne : x ≠ y) :
    modOf (formR x) = true ∧ modOf (formR y) = true ∧ disjF x y = true := by
  have get : ∀ z ∈ cands R op fs has, z ∈ openers op ∧ prefF z fs R has = true := by
    intro z hz
    obtain ⟨h1, h2⟩ := List.mem_filter.1 hz
    unfold cand at h2
    cases ho : opensF z op
    · rw [ho] at h2; cases h2
    · rw [ho] at h2
      exact ⟨List.mem_filter.2 ⟨h1, ho⟩, h2⟩
  obtain ⟨x1, x2⟩ := get x hx
  obtain ⟨y1, y2⟩ := get y hy
  have := List.all_eq_true.1 (List.all_eq_true.1 (open_pairs h) x x1) y y1
  unfold apartF at this
  rcases Bool.or_eq_true_iff.1 this with h | h
  · exact absurd (eq_of_beq h) hne
  rcases Bool.or_eq_true_iff.1 h with h | h
  · exfalso
    unfold noPref at h
    have hm : ∀ b : Bool, b ∈ bools := by intro b; cases b <;> simp [bools]
    have := all1_of (List.all_eq_true.1 (List.all_eq_true.1 h fs (hm fs)) has (hm has)) r0 r1
    rw [x2, y2] at this
    cases this
  · obtain ⟨h1, h⟩ := Bool.and_eq_true_iff.1 h
    obtain ⟨h2, h3⟩ := Bool.and_eq_true_iff.1 h
    exact ⟨h1, h2, h3⟩
theorem fit_grp {x : RowT} (h : grpF (formR x) = true) (m d rm : Int) : fitF x m d rm = cond (m == 3) (d == x.2.2.2.2.1) false := by
  have key : ∀ f : Int, grpF f = true → (f == 9) = false ∧ (f == 10) = false ∧ (f == 7 || f == 8) = false := by
    intro f hf
    unfold grpF at hf
    simp only [Bool.or_eq_true, beq_iff_eq] at hf
    rcases hf with ((rfl | rfl) | rfl) | rfl <;> exact ⟨rfl, rfl, rfl⟩
  obtain ⟨h1, h2, h3⟩ := key _ h
  unfold fitF
  rw [h1, h2, h3]
  rfl
theorem fit_3 {x : RowT} (h : (grpF (formR x) || formR x == 7 || formR x == 8) = true) {m d rm : Int} (hf : fitF x m d rm = true) : m = 3 := by
  rcases Bool.or_eq_true_iff.1 h with h | h
  · rcases Bool.or_eq_true_iff.1 h with h | h
    · rw [fit_grp h] at hf
      cases hm : (m == 3)
      · rw [hm] at hf; cases hf
      · exact eq_of_beq hm
    · have := eq_of_beq h
      unfold fitF at hf
      rw [this] at hf
      exact eq_of_beq hf
  · have := eq_of_beq h
    unfold fitF at hf
    rw [this] at hf
    exact eq_of_beq hf
theorem fit_9 {x : RowT} (h : (formR x == 9) = true) {m d rm : Int} (hf : fitF x m d rm = true) : m ≠ 3 := by
  unfold fitF at hf
  rw [h] at hf
  simpa using hf
theorem disj_fit {x y : RowT} (h : disjF x y = true) (c : Int) (hx : fitC c x = true) : fitC c y = false := by
  cases hy : fitC c y
  · rfl
  exfalso
  unfold fitC at hx hy
  unfold disjF at h
  rcases Bool.or_eq_true_iff.1 h with h | h
  · obtain ⟨h1, h2⟩ := Bool.and_eq_true_iff.1 h
    exact fit_9 h1 hx (fit_3 h2 hy)
  rcases Bool.or_eq_true_iff.1 h with h | h
  · obtain ⟨h1, h2⟩ := Bool.and_eq_true_iff.1 h
    exact fit_9 h1 hy (fit_3 h2 hx)
  · obtain ⟨h1, h3⟩ := Bool.and_eq_true_iff.1 h
    obtain ⟨h1, h2⟩ := Bool.and_eq_true_iff.1 h1
    rw [fit_grp h1] at hx
    rw [fit_grp h2] at hy
    cases hm : (modF c == 3)
    · rw [show (Int.fdiv c (2 ^ 6) == 3) = false from hm] at hx; cases hx
    · rw [show (Int.fdiv c (2 ^ 6) == 3) = true from hm] at hx hy
      have e1 := eq_of_beq hx
      have e2 := eq_of_beq hy
      rw [← e1, ← e2] at h3
      simp at h3
theorem chosen_one {op : List Int} (h : OpB op) {fs has : Bool} {R : Int} (r0 : 0 ≤ R) (r1 : R < 16) {x : RowT} (hx : x ∈ cands R op fs has) :
    (modOf (formR x) = false → cands R op fs has = [x] ∨ ∃ G, cands R op fs has = x :: G ∧ ∀ y ∈ G, y = x) ∧
    (modOf (formR x) = true → ∃ r0 G, cands R op fs has = r0 :: G ∧ modOf (formR r0) = true ∧ ∀ c, fitC c x = true → (r0 :: G).find? (fitC c) = some x) := by
  have ap := fun y (hy : y ∈ cands R op fs has) (hne : x ≠ y) => cand_apart h r0 r1 hx hy hne
  cases hG : cands R op fs has with
  | nil => rw [hG] at hx; cases hx
  | cons g G =>
    rw [hG] at ap hx
    refine ⟨fun hm => .inr ?_, fun hm => ⟨g, G, rfl, ?_, fun c hc => ?_⟩⟩
    · have same : ∀ y ∈ g :: G, y = x := by
        intro y hy
        by_cases hne : x = y
        · exact hne.symm
        · have := (ap y hy hne).1; rw [hm] at this; cases this
      exact ⟨G, by rw [same g List.mem_cons_self], fun y hy => same y (List.mem_cons_of_mem _ hy)⟩
    · by_cases hne : x = g
      · rw [← hne]; exact hm
      · exact (ap g List.mem_cons_self hne).2.1
    · cases hf : (g :: G).find? (fitC c) with
      | none => exact absurd hc (by simpa using List.find?_eq_none.1 hf x hx)
      | some y =>
        have hy := List.mem_of_find?_eq_some hf
        have hp := List.find?_some hf
        by_cases hne : x = y
        · rw [hne]
        · have := disj_fit (ap y hy hne).2.2 c hc
          rw [this] at hp
          cases hp
end Go.Amd

namespace Go.Amd
open Go Go.Ab Go.Proofs
theorem reg_rng {n : Int} {u : Bool} (h : regF n u = true) : 0 ≤ n ∧ n < 16 := by
  unfold regF at h
  by_cases h0 : n = 0
  · omega
  have e : (n == 0) = false := beq_eq_false_iff_ne.2 h0
  rw [e, cond_false] at h
  cases u
  · cases h
  · rw [cond_true] at h
    by_cases h1 : 0 < n
    · rw [decide_eq_true h1, cond_true] at h
      have := of_decide_eq_true h
      omega
    · rw [decide_eq_false h1] at h; cases h
theorem reg_zero {n : Int} (h : regF n false = true) : n = 0 := by
  unfold regF at h
  cases e : (n == 0)
  · rw [e] at h; cases h
  · exact eq_of_beq e
theorem base_rng {b : Int} (h : baseF b = true) : (0 ≤ b ∧ b < 16) ∨ b = 17 := by
  unfold baseF at h
  by_cases h17 : b = 17
  · exact .inr h17
  have e : (b == 17) = false := beq_eq_false_iff_ne.2 h17
  rw [e] at h
  by_cases h0 : 0 ≤ b
  · by_cases h1 : b ≤ 15
    · exact .inl ⟨h0, by omega⟩
    · rw [decide_eq_true h0, decide_eq_false h1] at h; cases h
  · rw [decide_eq_false h0] at h; cases h
theorem scale_rng {d : Int} (h : scaleF d = true) : d = 1 ∨ d = 2 ∨ d = 4 ∨ d = 8 := by
  unfold scaleF at h
  by_cases h1 : d = 1
  · exact .inl h1
  by_cases h2 : d = 2
  · exact .inr (.inl h2)
  by_cases h4 : d = 4
  · exact .inr (.inr (.inl h4))
  by_cases h8 : d = 8
  · exact .inr (.inr (.inr h8))
  simp [h1, h2, h4, h8] at h
theorem place_rng {b c d : Int} (h : placeF b c d = true) :
    (b = 17 ∧ c = 16 ∧ d = 0) ∨ ((0 ≤ b ∧ b < 16) ∧ c = 16 ∧ d = 0) ∨ ((0 ≤ b ∧ b < 16) ∧ (0 ≤ c ∧ c < 16) ∧ c ≠ 4 ∧ (d = 1 ∨ d = 2 ∨ d = 4 ∨ d = 8)) := by
  unfold placeF at h
  cases hc : (c == 16)
  · rw [hc, cond_false] at h
    cases h1 : baseF b
    · rw [h1] at h; cases h
    rw [h1, cond_true] at h
    cases h2 : (b != 17)
    · rw [h2] at h; cases h
    rw [h2, cond_true] at h
    cases h3 : decide (0 ≤ c)
    · rw [h3] at h; cases h
    rw [h3, cond_true] at h
    cases h4 : decide (c ≤ 15)
    · rw [h4] at h; cases h
    rw [h4, cond_true] at h
    cases h5 : (c != 4)
    · rw [h5] at h; cases h
    rw [h5, cond_true] at h
    have h2 : b ≠ 17 := by simpa using h2
    have h5 : c ≠ 4 := by simpa using h5
    have h3 := of_decide_eq_true h3
    have h4 := of_decide_eq_true h4
    rcases base_rng h1 with hb | hb
    · exact .inr (.inr ⟨hb, ⟨h3, by omega⟩, h5, scale_rng h⟩)
    · exact absurd hb h2
  · rw [hc, cond_true] at h
    have hc := eq_of_beq hc
    cases h1 : baseF b
    · rw [h1] at h; cases h
    rw [h1, cond_true] at h
    have hd := eq_of_beq h
    rcases base_rng h1 with hb | hb
    · exact .inr (.inl ⟨hb, hc, hd⟩)
    · exact .inl ⟨hb, hc, hd⟩
theorem cond_rng {d : Int} (h : condF d = true) : 0 ≤ d ∧ d < 16 := by
  unfold condF at h
  by_cases h0 : 0 ≤ d
  · by_cases h9 : d ≤ 9
    · omega
    · rw [decide_eq_true h0, decide_eq_false h9] at h
      by_cases h12 : 12 ≤ d
      · rw [decide_eq_true h12] at h
        have := of_decide_eq_true h
        omega
      · rw [decide_eq_false h12] at h; cases h
  · have h12 : ¬ 12 ≤ d := by omega
    rw [decide_eq_false h0, decide_eq_false h12] at h
    cases h
theorem ok_parts {x : RowT} {a b c d : Int} (h : okF x a b c d = true) :
    (uM x = true ∧ regF a (uA x) = true ∧ placeF b c d = true) ∨ (uM x = false ∧ regF a (uA x) = true ∧ regF b (uB x) = true ∧ c = 0 ∧ (d = 0 ∨ (condR x = true ∧ condF d = true))) := by
  unfold okF at h
  cases h0 : uM x
  · rw [h0, cond_false] at h
    cases h1 : regF a (uA x)
    · rw [h1] at h; cases h
    rw [h1, cond_true] at h
    cases h2 : regF b (uB x)
    · rw [h2] at h; cases h
    rw [h2, cond_true] at h
    cases h3 : (c == 0)
    · rw [h3] at h; cases h
    rw [h3, cond_true] at h
    refine .inr ⟨rfl, rfl, rfl, eq_of_beq h3, ?_⟩
    cases h4 : (d == 0)
    · rw [h4, cond_false] at h
      cases h5 : condR x
      · rw [h5] at h; cases h
      · rw [h5, cond_true] at h; exact .inr ⟨rfl, h⟩
    · exact .inl (eq_of_beq h4)
  · rw [h0, cond_true] at h
    cases h1 : regF a (uA x)
    · rw [h1] at h; cases h
    rw [h1, cond_true] at h
    exact .inl ⟨rfl, rfl, h⟩
theorem ok_imm {x : RowT} {i : InsT} (h : faultyF x i = 0) : (uI x = true → lowR x ≤ i.2.2.2.2.2 ∧ i.2.2.2.2.2 ≤ highR x) ∧ (uI x = false → i.2.2.2.2.2 = 0) := by
  have ho := faulty_ok h
  unfold faultyF tailF at h
  rw [ho] at h
  simp only [Bool.not_true, cond_false] at h
  refine ⟨fun hu => ?_, fun hu => ?_⟩
  · rw [hu, cond_true] at h
    by_cases h1 : i.2.2.2.2.2 < lowR x
    · rw [decide_eq_true h1] at h; cases h
    · by_cases h2 : highR x < i.2.2.2.2.2
      · rw [decide_eq_false h1, decide_eq_true h2] at h; cases h
      · omega
  · rw [hu, cond_false] at h
    cases hn : (i.2.2.2.2.2 != 0)
    · simpa using hn
    · rw [hn] at h; cases h
end Go.Amd

namespace Go.Amd
open Go Go.Ab Go.Proofs
def OneB (c : Int) : Prop := (c == 15) = false ∧ (c == 100) = false ∧ (sh4 c == 4) = false
theorem bne_of {a b : Int} (h : (a == b) = false) : (a != b) = true := by
  unfold bne
  rw [h]; rfl
theorem opcP_one {c : Int} (h : OneB c) (t : List Int) : opcP (c :: t) = .ok ([c], 1, false, 0, false) := by
  obtain ⟨h1, h2, h3⟩ := h
  show opc0 c t = _
  unfold opc0
  rw [h2, h3, bne_of h1]
  rfl
theorem opcP_two (d : Int) (t : List Int) : opcP (15 :: d :: t) = .ok ([15, d], 2, false, 0, false) := rfl
theorem rexs_all : all1 16 (fun r => (64 + r == 100) == false && (sh4 (64 + r) == 4 && and8 (64 + r) 15 == r)) = true := by kernel_rfl
theorem rexs_of {r : Int} (r0 : 0 ≤ r) (r1 : r < 16) : (64 + r == 100) = false ∧ (sh4 (64 + r) == 4) = true ∧ and8 (64 + r) 15 = r := by
  have := all1_of rexs_all r0 r1
  obtain ⟨h1, h2⟩ := Bool.and_eq_true_iff.1 this
  obtain ⟨h2, h3⟩ := Bool.and_eq_true_iff.1 h2
  exact ⟨eq_of_beq h1, h2, eq_of_beq h3⟩
theorem opcP_rex1 {c r : Int} (r0 : 0 ≤ r) (r1 : r < 16) (h : (c == 15) = false) (t : List Int) : opcP ((64 + r) :: c :: t) = .ok ([c], 2, false, r, true) := by
  obtain ⟨h1, h2, h3⟩ := rexs_of r0 r1
  show opc0 (64 + r) (c :: t) = _
  unfold opc0
  rw [h1, h2, h3, cond_false, cond_true]
  show opc2 r c t = _
  unfold opc2
  rw [bne_of h]
  rfl
theorem opcP_rex2 {d r : Int} (r0 : 0 ≤ r) (r1 : r < 16) (h : (and8 r 8 != 0) = true) (t : List Int) : opcP ((64 + r) :: 15 :: d :: t) = .ok ([15, d], 3, false, r, true) := by
  obtain ⟨h1, h2, h3⟩ := rexs_of r0 r1
  show opc0 (64 + r) (15 :: d :: t) = _
  unfold opc0
  rw [h1, h2, h3, cond_false, cond_true]
  show opc2 r 15 (d :: t) = _
  unfold opc2
  rw [h]
  rfl
theorem opcP_fs8 {d : Int} (h : (d == 15) = false) (t : List Int) : opcP (100 :: 72 :: d :: t) = .ok ([d], 3, true, 8, true) := by
  show (cond (d != 15) (Except.ok ([d], 3, true, and8 72 15, true)) (Except.error (22, 3, true, and8 72 15, true)) : OpR) = _
  rw [bne_of h]
  rfl
theorem opcP_fs12 {d : Int} (h : (d == 15) = false) (t : List Int) : opcP (100 :: 76 :: d :: t) = .ok ([d], 3, true, 12, true) := by
  show (cond (d != 15) (Except.ok ([d], 3, true, and8 76 15, true)) (Except.error (22, 3, true, and8 76 15, true)) : OpR) = _
  rw [bne_of h]
  rfl
end Go.Amd

namespace Go.Amd
open Go Go.Ab Go.Proofs
def rexG (f r : Int) : Bool := and8 r (unusedF f) == 0 && and8 (8 + r) (unusedF f) == 0
theorem rexG_1 : all1 2 (fun r => [1, 2, 3, 4, 5, 6].all fun f => rexG f r) = true := by kernel_rfl
theorem rexG_7 : all2 2 2 (fun r q => [7, 8].all fun f => rexG f (4 * q + r)) = true := by kernel_rfl
theorem rexG_9 : all1 8 (fun r => [9, 10].all fun f => rexG f r) = true := by kernel_rfl
theorem rexG_0 : [0, 11, 12].all (fun f => rexG f 0) = true := by kernel_rfl
theorem rows_dg : rowsL.all (fun x => decide (0 ≤ x.2.2.2.2.1) && (decide (x.2.2.2.2.1 < 8) && wi x.2.2.2.2.1 == x.2.2.2.2.1)) = true := by kernel_rfl
theorem dg_rng {x : RowT} (hx : x ∈ rowsL) : 0 ≤ x.2.2.2.2.1 ∧ x.2.2.2.2.1 < 8 ∧ wi x.2.2.2.2.1 = x.2.2.2.2.1 := by
  have := List.all_eq_true.1 rows_dg x hx
  simp only [Bool.and_eq_true, decide_eq_true_eq, beq_iff_eq] at this
  exact this
theorem modP_rng {m a b c d : Int} {imm : List Int} (a0 : 0 ≤ a ∧ a < 16) (b0 : 0 ≤ b ∧ b < 16) (c0 : 0 ≤ c ∧ c ≤ 16) : 0 ≤ (modP m a b c d imm).1 ∧ (modP m a b c d imm).1 < 8 := by
  unfold modP
  cases h : (c == 16)
  · rw [cond_false, cond_false, cond_false]
    have : c ≠ 16 := by
      intro e; rw [e] at h; cases h
    show 0 ≤ sibR (rexM 0 a 4) c b ∧ sibR (rexM 0 a 4) c b < 8
    rw [sibR_eq a0.1 a0.2 c0.1 (by omega) b0.1 b0.2]
    omega
  · rw [cond_true, cond_true]
    cases (andi b 7 != 4)
    · show 0 ≤ sibR (rexM 0 a 4) 4 b ∧ sibR (rexM 0 a 4) 4 b < 8
      rw [sibR_eq a0.1 a0.2 (by omega) (by omega) b0.1 b0.2]
      omega
    · show 0 ≤ rexM 0 a b ∧ rexM 0 a b < 8
      rw [rexM_eq a0.1 a0.2 b0.1 b0.2]
      omega
theorem memP_rng {a b c d n : Int} (a0 : 0 ≤ a ∧ a < 16) (h : placeF b c d = true) : 0 ≤ (memP a b c d n).1 ∧ (memP a b c d n).1 < 8 := by
  unfold memP
  rcases place_rng h with ⟨rfl, -, -⟩ | ⟨b0, rfl, -⟩ | ⟨b0, c0, -, -⟩
  · show 0 ≤ rexM 0 a 5 ∧ rexM 0 a 5 < 8
    rw [rexM_eq a0.1 a0.2 (by omega) (by omega)]
    omega
  · have hb : (b == 17) = false := beq_eq_false_iff_ne.2 (by omega)
    rw [hb, cond_false]
    cases cond (n == 0) (andi b 7 != 5) false
    · rw [cond_false]
      cases fitsF n
      · exact modP_rng a0 b0 (by omega)
      · exact modP_rng a0 b0 (by omega)
    · exact modP_rng a0 b0 (by omega)
  · have hb : (b == 17) = false := beq_eq_false_iff_ne.2 (by omega)
    rw [hb, cond_false]
    cases cond (n == 0) (andi b 7 != 5) false
    · rw [cond_false]
      cases fitsF n
      · exact modP_rng a0 b0 (by omega)
      · exact modP_rng a0 b0 (by omega)
    · exact modP_rng a0 b0 (by omega)
def rI (x : RowT) (i : InsT) : Int := rF (formR x) x.2.2.2.2.1 i.2.1 i.2.2.1 i.2.2.2.1 i.2.2.2.2.1 i.2.2.2.2.2
theorem rF_rng {f dg a b c d n : Int} (hf : f ∈ forms) (hdg : 0 ≤ dg ∧ dg < 8 ∧ wi dg = dg) (ha : 0 ≤ a ∧ a < 16) (hm : f = 9 → placeF b c d = true) (hb : f ≠ 9 → 0 ≤ b ∧ b < 16) :
    0 ≤ rF f dg a b c d n ∧ rF f dg a b c d n < 8 ∧ rexG f (rF f dg a b c d n) = true := by
  have g1 : ∀ f ∈ [1, 2, 3, 4, 5, 6], rexG f (a / 8) = true := fun f hf => List.all_eq_true.1 (all1_of rexG_1 (a := a / 8) (by omega) (by omega)) f hf
  have g7 : ∀ f ∈ [7, 8], ∀ p q : Int, 0 ≤ p → p < 16 → 0 ≤ q → q < 16 → rexG f (4 * (q / 8) + p / 8) = true := fun f hf p q p0 p1 q0 q1 =>
    List.all_eq_true.1 (all2_of rexG_7 (a := p / 8) (b := q / 8) (by omega) (by omega) (by omega) (by omega)) f hf
  have g9 : ∀ f ∈ [9, 10], ∀ r : Int, 0 ≤ r → r < 8 → rexG f r = true := fun f hf r r0 r1 => List.all_eq_true.1 (all1_of rexG_9 r0 r1) f hf
  have d8 : rexM 0 (wi dg) a = a / 8 := by
    rw [hdg.2.2, rexM_eq hdg.1 (by omega) ha.1 ha.2]
    omega
  have hi : or8 0 (hi4 a 1) = a / 8 := hi_eq ha.1 ha.2
  unfold forms at hf
  simp only [List.mem_cons, List.not_mem_nil, or_false] at hf
  rcases hf with rfl | rfl | rfl | rfl | rfl | rfl | rfl | rfl | rfl | rfl | rfl | rfl | rfl
  · exact ⟨Int.le_refl _, (by decide : (0 : Int) < 8), List.all_eq_true.1 rexG_0 0 (by simp)⟩
  · show 0 ≤ or8 0 (hi4 a 1) ∧ or8 0 (hi4 a 1) < 8 ∧ rexG 1 (or8 0 (hi4 a 1)) = true
    rw [hi]; exact ⟨by omega, by omega, g1 1 (by simp)⟩
  · show 0 ≤ or8 0 (hi4 a 1) ∧ or8 0 (hi4 a 1) < 8 ∧ rexG 2 (or8 0 (hi4 a 1)) = true
    rw [hi]; exact ⟨by omega, by omega, g1 2 (by simp)⟩
  · show 0 ≤ rexM 0 (wi dg) a ∧ rexM 0 (wi dg) a < 8 ∧ rexG 3 (rexM 0 (wi dg) a) = true
    rw [d8]; exact ⟨by omega, by omega, g1 3 (by simp)⟩
  · show 0 ≤ rexM 0 (wi dg) a ∧ rexM 0 (wi dg) a < 8 ∧ rexG 4 (rexM 0 (wi dg) a) = true
    rw [d8]; exact ⟨by omega, by omega, g1 4 (by simp)⟩
  · show 0 ≤ rexM 0 (wi dg) a ∧ rexM 0 (wi dg) a < 8 ∧ rexG 5 (rexM 0 (wi dg) a) = true
    rw [d8]; exact ⟨by omega, by omega, g1 5 (by simp)⟩
  · show 0 ≤ rexM 0 (wi dg) a ∧ rexM 0 (wi dg) a < 8 ∧ rexG 6 (rexM 0 (wi dg) a) = true
    rw [d8]; exact ⟨by omega, by omega, g1 6 (by simp)⟩
  · have b0 := hb (by decide)
    show 0 ≤ rexM 0 b a ∧ rexM 0 b a < 8 ∧ rexG 7 (rexM 0 b a) = true
    rw [rexM_eq b0.1 b0.2 ha.1 ha.2]
    exact ⟨by omega, by omega, g7 7 (by simp) a b ha.1 ha.2 b0.1 b0.2⟩
  · have b0 := hb (by decide)
    show 0 ≤ rexM 0 a b ∧ rexM 0 a b < 8 ∧ rexG 8 (rexM 0 a b) = true
    rw [rexM_eq ha.1 ha.2 b0.1 b0.2]
    exact ⟨by omega, by omega, g7 8 (by simp) b a b0.1 b0.2 ha.1 ha.2⟩
  · have h := memP_rng (n := n) ha (hm rfl)
    show 0 ≤ (memP a b c d n).1 ∧ (memP a b c d n).1 < 8 ∧ rexG 9 (memP a b c d n).1 = true
    exact ⟨h.1, h.2, g9 9 (by simp) _ h.1 h.2⟩
  · show 0 ≤ rexM 0 a 4 ∧ rexM 0 a 4 < 8 ∧ rexG 10 (rexM 0 a 4) = true
    rw [rexM_eq ha.1 ha.2 (by omega) (by omega)]
    exact ⟨by omega, by omega, g9 10 (by simp) _ (by omega) (by omega)⟩
  · exact ⟨Int.le_refl _, (by decide : (0 : Int) < 8), List.all_eq_true.1 rexG_0 11 (by simp)⟩
  · exact ⟨Int.le_refl _, (by decide : (0 : Int) < 8), List.all_eq_true.1 rexG_0 12 (by simp)⟩
theorem rI_rng {x : RowT} (hx : x ∈ rowsL) {i : InsT} (h : okF x i.2.1 i.2.2.1 i.2.2.2.1 i.2.2.2.2.1 = true) : 0 ≤ rI x i ∧ rI x i < 8 ∧ rexG (formR x) (rI x i) = true := by
  have hf : formR x ∈ forms := by simpa [formOk] using List.all_eq_true.1 rows_forms x hx
  unfold rI
  rcases ok_parts h with ⟨h1, h2, h3⟩ | ⟨h1, h2, h3, -, -⟩
  · exact rF_rng hf (dg_rng hx) (reg_rng h2) (fun _ => h3) (fun hn => absurd (eq_of_beq h1) hn)
  · refine rF_rng hf (dg_rng hx) (reg_rng h2) (fun he => ?_) (fun _ => reg_rng h3)
    unfold uM at h1
    rw [he] at h1
    cases h1
end Go.Amd

namespace Go.Amd
open Go Go.Ab Go.Proofs
def oneB (c : Int) : Bool := (c == 15) == false && ((c == 100) == false && (sh4 c == 4) == false)
theorem oneB_of {c : Int} (h : oneB c = true) : OneB c := by
  unfold oneB at h
  obtain ⟨h1, h⟩ := Bool.and_eq_true_iff.1 h
  obtain ⟨h2, h3⟩ := Bool.and_eq_true_iff.1 h
  exact ⟨eq_of_beq h1, eq_of_beq h2, eq_of_beq h3⟩
def lastG (f : Int) (cn : Bool) (l a d : Int) (ft : Bool) : Int :=
  cond (f == 1) (w8 (l + w8 (andi a 7))) (cond (f == 2) (w8 (l + w8 (andi a 7))) (cond (f == 6) (cond ft l 129) (cond cn (w8 (l + w8 d)) l)))
theorem lastF_eq (f : Int) (cn : Bool) (l a d n : Int) : lastF f cn l a d n = lastG f cn l a d (fitsF n) := rfl
def goodH (x : RowT) (c : Int) : Bool :=
  opensF x (hdF x.2.2.1 ++ [c]) && (decide (0 ≤ c) && (decide (c < 256) && cond (decide (255 < x.2.2.1)) (hdF x.2.2.1 == [15]) (hdF x.2.2.1 == [] && oneB c)))
def goodR (x : RowT) (a d : Int) (ft : Bool) : Bool := cond (condR x && !(condF d || d == 0)) true (goodH x (lastG (formR x) (condR x) (w8 x.2.2.1) a d ft))
theorem good_all : rowsL.all (fun x => bools.all fun ft => all2 16 16 fun a d => goodR x a d ft) = true := by kernel_rfl
def lastO (x : RowT) (i : InsT) : Int := lastF (formR x) (condR x) (w8 x.2.2.1) i.2.1 i.2.2.2.2.1 i.2.2.2.2.2
def headI (x : RowT) (i : InsT) : List Int := hdF x.2.2.1 ++ [lastO x i]
theorem head_good {x : RowT} (hx : x ∈ rowsL) {i : InsT} (h : okF x i.2.1 i.2.2.1 i.2.2.2.1 i.2.2.2.2.1 = true) : goodH x (lastO x i) = true := by
  have hm : ∀ b : Bool, b ∈ bools := by intro b; cases b <;> simp [bools]
  have key := List.all_eq_true.1 (List.all_eq_true.1 good_all x hx) (fitsF i.2.2.2.2.2) (hm _)
  have fin : ∀ (a0 : 0 ≤ i.2.1 ∧ i.2.1 < 16) (d0 : 0 ≤ i.2.2.2.2.1 ∧ i.2.2.2.2.1 < 16) (hc : (condR x && !(condF i.2.2.2.2.1 || i.2.2.2.2.1 == 0)) = false), goodH x (lastO x i) = true := by
    intro a0 d0 hc
    have := all2_of key a0.1 a0.2 d0.1 d0.2
    unfold goodR at this
    rw [hc] at this
    exact this
  have c9 : formR x = 9 → condR x = false := by
    intro he
    have hr : rowsL.all (fun x => !(formR x == 9 && condR x)) = true := by kernel_rfl
    have := List.all_eq_true.1 hr x hx
    rw [he] at this
    cases hc : condR x
    · rfl
    · rw [hc] at this; cases this
  rcases ok_parts h with ⟨h1, h2, h3⟩ | ⟨h1, h2, h3, h4, h5⟩
  · refine fin (reg_rng h2) ?_ ?_
    · rcases place_rng h3 with ⟨-, -, hd⟩ | ⟨-, -, hd⟩ | ⟨-, -, -, hd⟩ <;> omega
    · rw [c9 (eq_of_beq h1)]; rfl
  · rcases h5 with hd | ⟨hc, hd⟩
    · refine fin (reg_rng h2) (by omega) ?_
      rw [hd]
      cases condR x <;> rfl
    · refine fin (reg_rng h2) (cond_rng hd) ?_
      rw [hd]
      cases condR x <;> rfl
theorem head_ok {x : RowT} (hx : x ∈ rowsL) {i : InsT} (h : okF x i.2.1 i.2.2.1 i.2.2.2.1 i.2.2.2.2.1 = true) :
    opensF x (headI x i) = true ∧ ((headI x i = [lastO x i] ∧ OneB (lastO x i) ∧ IsB (lastO x i)) ∨ (headI x i = [15, lastO x i] ∧ IsB (lastO x i) ∧ 255 < x.2.2.1)) := by
  have hg := head_good hx h
  unfold goodH at hg
  obtain ⟨h1, hg⟩ := Bool.and_eq_true_iff.1 hg
  obtain ⟨h2, hg⟩ := Bool.and_eq_true_iff.1 hg
  obtain ⟨h3, hg⟩ := Bool.and_eq_true_iff.1 hg
  refine ⟨h1, ?_⟩
  unfold headI
  cases hb : decide (255 < x.2.2.1)
  · rw [hb, cond_false] at hg
    obtain ⟨h4, h5⟩ := Bool.and_eq_true_iff.1 hg
    rw [eq_of_beq h4]
    exact .inl ⟨rfl, oneB_of h5, of_decide_eq_true h2, of_decide_eq_true h3⟩
  · rw [hb, cond_true] at hg
    rw [eq_of_beq hg]
    exact .inr ⟨rfl, ⟨of_decide_eq_true h2, of_decide_eq_true h3⟩, of_decide_eq_true hb⟩
theorem head_op {x : RowT} (hx : x ∈ rowsL) {i : InsT} (h : okF x i.2.1 i.2.2.1 i.2.2.2.1 i.2.2.2.2.1 = true) : OpB (headI x i) := by
  rcases (head_ok hx h).2 with ⟨e, -, hb⟩ | ⟨e, hb, -⟩
  · exact .inl ⟨_, hb, e⟩
  · exact .inr ⟨_, hb, e⟩
end Go.Amd

namespace Go.Amd
open Go Go.Ab Go.Proofs
def takR (x : RowT) (i : InsT) : Int := cond (x.2.1 == 1) (8 + rI x i) (rI x i)
def takH (x : RowT) (i : InsT) : Bool := !(x.2.1 == 0 && rI x i == 0)
def takF (x : RowT) : Bool := formR x == 10
def takN (x : RowT) (i : InsT) : Int := cond (takF x) 3 (cond (takH x i) 1 0 + cond (decide (255 < x.2.2.1)) 2 1)
theorem rows_rex : rowsL.all (fun x => (x.2.1 == 0 || (x.2.1 == 1 || x.2.1 == 2)) && (cond (x.2.1 == 1 || decide (x.2.2.1 ≤ 255)) true (x.2.1 == 0 && (formR x == 0 || (formR x == 11 || formR x == 12))) && cond (formR x == 10) (x.2.1 == 1 && decide (x.2.2.1 ≤ 255)) true)) = true := by kernel_rfl
theorem rex_of {x : RowT} (hx : x ∈ rowsL) : (x.2.1 = 0 ∨ x.2.1 = 1 ∨ x.2.1 = 2) ∧ (x.2.1 ≠ 1 → 255 < x.2.2.1 → x.2.1 = 0 ∧ (formR x = 0 ∨ formR x = 11 ∨ formR x = 12)) ∧ (formR x = 10 → x.2.1 = 1 ∧ x.2.2.1 ≤ 255) := by
  have := List.all_eq_true.1 rows_rex x hx
  obtain ⟨h1, h⟩ := Bool.and_eq_true_iff.1 this
  obtain ⟨h2, h3⟩ := Bool.and_eq_true_iff.1 h
  simp only [Bool.or_eq_true, beq_iff_eq] at h1
  refine ⟨h1, fun hn hl => ?_, fun he => ?_⟩
  · rw [beq_eq_false_iff_ne.2 hn, decide_eq_false (Int.not_le.2 hl)] at h2
    simpa using h2
  · rw [he] at h3
    obtain ⟨h4, h5⟩ := Bool.and_eq_true_iff.1 h3
    exact ⟨eq_of_beq h4, of_decide_eq_true h5⟩
theorem rI_none {x : RowT} {i : InsT} (h : formR x = 0 ∨ formR x = 11 ∨ formR x = 12) : rI x i = 0 := by
  unfold rI
  rcases h with h | h | h <;> rw [h] <;> rfl
end Go.Amd

namespace Go.Amd
open Go Go.Ab Go.Proofs
theorem or8_all : all1 8 (fun r => or8 r 8 == 8 + r && (or8 64 (8 + r) == 64 + (8 + r) && (or8 64 r == 64 + r && and8 (8 + r) 8 != 0))) = true := by kernel_rfl
theorem or8_of {r : Int} (r0 : 0 ≤ r) (r1 : r < 8) : or8 64 (or8 r 8) = 64 + (8 + r) ∧ or8 64 r = 64 + r ∧ (and8 (8 + r) 8 != 0) = true := by
  have := all1_of or8_all r0 r1
  simp only [Bool.and_eq_true, beq_iff_eq] at this
  obtain ⟨h1, h2, h3, h4⟩ := this
  exact ⟨by rw [h1, h2], h3, h4⟩
def tailI (x : RowT) (i : InsT) : List Int := tailB (formR x) x.2.2.2.2.1 i.2.1 i.2.2.1 i.2.2.2.1 i.2.2.2.2.1 i.2.2.2.2.2
theorem bytes_split (x : RowT) (i : InsT) : bytesF x i = fsF (formR x) ++ rexL x.2.1 (rI x i) ++ headI x i ++ tailI x i := rfl
theorem head_short {x : RowT} {i : InsT} {c : Int} (e : headI x i = [c]) : decide (255 < x.2.2.1) = false := by
  cases hb : decide (255 < x.2.2.1)
  · rfl
  · exfalso
    have e2 := congrArg List.length e
    unfold headI hdF at e2
    rw [hb, cond_true, List.length_append] at e2
    exact absurd e2 (by decide : (1 + 1 : Nat) ≠ 1)
theorem taken {x : RowT} (hx : x ∈ rowsL) {i : InsT} (h : okF x i.2.1 i.2.2.1 i.2.2.2.1 i.2.2.2.2.1 = true) (t : List Int) :
    opcP (fsF (formR x) ++ rexL x.2.1 (rI x i) ++ headI x i ++ t) = .ok (headI x i, takN x i, takF x, takR x i, takH x i) := by
  obtain ⟨r0, r1, -⟩ := rI_rng hx h
  obtain ⟨q1, q2, q3⟩ := rex_of hx
  obtain ⟨o1, o2, o3⟩ := or8_of r0 r1
  have hh := (head_ok hx h).2
  unfold takN takF takR takH
  rcases q1 with hr | hr | hr
  · have hn : (formR x == 10) = false := beq_eq_false_iff_ne.2 (fun he => by have := (q3 he).1; omega)
    unfold fsF
    rw [hn, hr]
    by_cases hz : rI x i = 0
    · rw [hz]
      rcases hh with ⟨e, h1, -⟩ | ⟨e, -, hl⟩
      · have hl := head_short e
        rw [e, hl]
        exact opcP_one h1 t
      · rw [e, decide_eq_true hl]
        exact opcP_two _ t
    · have hz2 : (rI x i == 0) = false := beq_eq_false_iff_ne.2 hz
      unfold rexL
      rw [bne_of hz2, hz2, o2]
      rcases hh with ⟨e, h1, -⟩ | ⟨e, -, hl⟩
      · have hl := head_short e
        rw [e, hl]
        exact opcP_rex1 r0 (by omega) h1.1 t
      · exact absurd (rI_none (q2 (by omega) hl).2) hz
  · unfold rexL
    rw [hr]
    show opcP (fsF (formR x) ++ [or8 64 (or8 (rI x i) 8)] ++ headI x i ++ t) = _
    rw [o1]
    by_cases h10 : formR x = 10
    · have hl : decide (255 < x.2.2.1) = false := decide_eq_false (by have := (q3 h10).2; omega)
      unfold fsF
      rw [h10, hl]
      rcases hh with ⟨e, h1, -⟩ | ⟨e, -, hl2⟩
      · rw [e]
        have hrI : rI x i = 0 ∨ rI x i = 4 := by
          have ha : 0 ≤ i.2.1 ∧ i.2.1 < 16 := by
            rcases ok_parts h with ⟨-, h2, -⟩ | ⟨-, h2, -⟩ <;> exact reg_rng h2
          have : rI x i = rexM 0 i.2.1 4 := by
            unfold rI
            rw [h10]; rfl
          rw [this, rexM_eq ha.1 ha.2 (by omega) (by omega)]
          omega
        rcases hrI with hz | hz
        · rw [hz]; exact opcP_fs8 h1.1 t
        · rw [hz]; exact opcP_fs12 h1.1 t
      · have := (q3 h10).2
        omega
    · have hn : (formR x == 10) = false := beq_eq_false_iff_ne.2 h10
      unfold fsF
      rw [hn]
      rcases hh with ⟨e, h1, -⟩ | ⟨e, -, hl⟩
      · have hl := head_short e
        rw [e, hl]
        exact opcP_rex1 (r := 8 + rI x i) (by omega) (by omega) h1.1 t
      · rw [e, decide_eq_true hl]
        exact opcP_rex2 (r := 8 + rI x i) (by omega) (by omega) o3 t
  · have hn : (formR x == 10) = false := beq_eq_false_iff_ne.2 (fun he => by have := (q3 he).1; omega)
    unfold fsF rexL
    rw [hn, hr]
    show opcP ([] ++ [or8 64 (rI x i)] ++ headI x i ++ t) = _
    rw [o2]
    rcases hh with ⟨e, h1, -⟩ | ⟨e, -, hl⟩
    · have hl := head_short e
      rw [e, hl]
      exact opcP_rex1 r0 (by omega) h1.1 t
    · have := (q2 (by omega) hl).1
      omega
end Go.Amd

namespace Go.Amd
open Go Go.Ab Go.Proofs
theorem bit8_all : all1 8 (fun r => and8 r 8 == 0 && !(8 + r == 0)) = true := by kernel_rfl
theorem bit8_of {r : Int} (r0 : 0 ≤ r) (r1 : r < 8) : (and8 r 8 == 0) = true := (Bool.and_eq_true_iff.1 (all1_of bit8_all r0 r1)).1
theorem pref_ok {x : RowT} (hx : x ∈ rowsL) {i : InsT} (h : okF x i.2.1 i.2.2.1 i.2.2.2.1 i.2.2.2.2.1 = true) : prefF x (takF x) (takR x i) (takH x i) = true := by
  obtain ⟨r0, r1, rg⟩ := rI_rng hx h
  obtain ⟨q1, -, -⟩ := rex_of hx
  obtain ⟨-, -, o3⟩ := or8_of r0 r1
  have b8 := bit8_of r0 r1
  unfold rexG at rg
  obtain ⟨g1, g2⟩ := Bool.and_eq_true_iff.1 rg
  have n1 : (and8 (rI x i) (unusedF (formR x)) != 0) = false := by unfold bne; rw [g1]; rfl
  have n2 : (and8 (8 + rI x i) (unusedF (formR x)) != 0) = false := by unfold bne; rw [g2]; rfl
  have e0 : (!((formR x == 10) == (formR x == 10))) = false := by cases (formR x == 10) <;> rfl
  unfold prefF takF takR takH
  rw [e0, cond_false]
  rcases q1 with hr | hr | hr
  · rw [hr]
    show cond (and8 (rI x i) (unusedF (formR x)) != 0) false (cond (and8 (rI x i) 8 == 0) (cond (!!(rI x i == 0)) true (rI x i != 0)) false) = true
    rw [n1, b8]
    unfold bne
    cases (rI x i == 0) <;> rfl
  · rw [hr]
    show cond (and8 (8 + rI x i) (unusedF (formR x)) != 0) false (and8 (8 + rI x i) 8 != 0) = true
    rw [n2]
    exact o3
  · rw [hr]
    show cond (and8 (rI x i) (unusedF (formR x)) != 0) false (and8 (rI x i) 8 == 0) = true
    rw [n1]
    exact b8
theorem cand_ok {x : RowT} (hx : x ∈ rowsL) {i : InsT} (h : okF x i.2.1 i.2.2.1 i.2.2.2.1 i.2.2.2.2.1 = true) : x ∈ cands (takR x i) (headI x i) (takF x) (takH x i) := by
  refine List.mem_filter.2 ⟨hx, ?_⟩
  unfold cand
  rw [(head_ok hx h).1]
  exact pref_ok hx h
theorem takR_rng {x : RowT} (hx : x ∈ rowsL) {i : InsT} (h : okF x i.2.1 i.2.2.1 i.2.2.2.1 i.2.2.2.2.1 = true) : 0 ≤ takR x i ∧ takR x i < 16 := by
  obtain ⟨r0, r1, -⟩ := rI_rng hx h
  unfold takR
  cases (x.2.1 == 1)
  · exact ⟨r0, by rw [cond_false]; omega⟩
  · exact ⟨by rw [cond_true]; omega, by rw [cond_true]; omega⟩
end Go.Amd

namespace Go.Amd
open Go Go.Ab Go.Proofs
def frontI (x : RowT) (i : InsT) : List Int := fsF (formR x) ++ rexL x.2.1 (rI x i) ++ headI x i
theorem front_len {x : RowT} (hx : x ∈ rowsL) (i : InsT) : takN x i = ((frontI x i).length : Int) := by
  obtain ⟨q1, -, q3⟩ := rex_of hx
  have hh : ((headI x i).length : Int) = cond (decide (255 < x.2.2.1)) 2 1 := by
    unfold headI hdF
    cases decide (255 < x.2.2.1) <;> rfl
  unfold takN takF takH frontI
  rw [List.length_append, List.length_append, Int.natCast_add, Int.natCast_add, hh]
  by_cases h10 : formR x = 10
  · obtain ⟨h1, h2⟩ := q3 h10
    unfold fsF rexL
    rw [h10, h1, decide_eq_false (by omega)]
    rfl
  · have hn : (formR x == 10) = false := beq_eq_false_iff_ne.2 h10
    have hr : ((rexL x.2.1 (rI x i)).length : Int) = cond (!(x.2.1 == 0 && rI x i == 0)) 1 0 := by
      unfold rexL
      rcases q1 with hr | hr | hr
      · rw [hr]
        unfold bne
        cases (rI x i == 0) <;> rfl
      · rw [hr]; rfl
      · rw [hr]; rfl
    rw [hr]
    unfold fsF
    rw [hn]
    show _ = (0 : Int) + _ + _
    rw [Int.zero_add, cond_false]
theorem dec_plain {x : RowT} (hx : x ∈ rowsL) {i : InsT} (h : okF x i.2.1 i.2.2.1 i.2.2.2.1 i.2.2.2.2.1 = true) (hm : modOf (formR x) = false) (t : List Int) :
    decQ (frontI x i ++ t) = plainR (restQ (takR x i) x (headI x i) 0 t (takN x i)) := by
  have ht : opcP (frontI x i ++ t) = _ := taken hx h t
  have hr := takR_rng hx h
  have hd : (frontI x i ++ t).drop (takN x i).toNat = t := by
    rw [front_len hx, Int.toNat_natCast, List.drop_left]
  have hc : ∃ G, cands (takR x i) (headI x i) (takF x) (takH x i) = x :: G := by
    rcases (chosen_one (head_op hx h) hr.1 hr.2 (cand_ok hx h)).1 hm with e | ⟨G, e, -⟩
    · exact ⟨[], e⟩
    · exact ⟨G, e⟩
  obtain ⟨G, hc⟩ := hc
  unfold decQ
  rw [ht]
  show (match cands (takR x i) (headI x i) (takF x) (takH x i) with
    | [] => (Except.error 22 : Except Int (InsT × Int))
    | r0 :: G => cond (modOf (formR r0)) (decC (takR x i) (headI x i) (takN x i) (r0 :: G) ((frontI x i ++ t).drop (takN x i).toNat)) (plainR (restQ (takR x i) r0 (headI x i) 0 ((frontI x i ++ t).drop (takN x i).toNat) (takN x i)))) = _
  rw [hc]
  show cond (modOf (formR x)) _ (plainR (restQ (takR x i) x (headI x i) 0 ((frontI x i ++ t).drop (takN x i).toNat) (takN x i))) = _
  rw [hm, hd]
  rfl
theorem dec_mod {x : RowT} (hx : x ∈ rowsL) {i : InsT} (h : okF x i.2.1 i.2.2.1 i.2.2.2.1 i.2.2.2.2.1 = true) (hm : modOf (formR x) = true) {c : Int} (hf : fitC c x = true) (t : List Int) :
    decQ (frontI x i ++ c :: t) = plainR (restQ (takR x i) x (headI x i) c t (takN x i + 1)) := by
  have ht : opcP (frontI x i ++ c :: t) = _ := taken hx h (c :: t)
  have hr := takR_rng hx h
  have hd : (frontI x i ++ c :: t).drop (takN x i).toNat = c :: t := by
    rw [front_len hx, Int.toNat_natCast, List.drop_left]
  obtain ⟨r0, G, hc, hm0, hG⟩ := (chosen_one (head_op hx h) hr.1 hr.2 (cand_ok hx h)).2 hm
  have hg := hG c hf
  unfold decQ
  rw [ht]
  show (match cands (takR x i) (headI x i) (takF x) (takH x i) with
    | [] => (Except.error 22 : Except Int (InsT × Int))
    | r0 :: G => cond (modOf (formR r0)) (decC (takR x i) (headI x i) (takN x i) (r0 :: G) ((frontI x i ++ c :: t).drop (takN x i).toNat)) (plainR (restQ (takR x i) r0 (headI x i) 0 ((frontI x i ++ c :: t).drop (takN x i).toNat) (takN x i)))) = _
  rw [hc]
  show cond (modOf (formR r0)) (decC (takR x i) (headI x i) (takN x i) (r0 :: G) ((frontI x i ++ c :: t).drop (takN x i).toNat)) _ = _
  rw [hm0, hd]
  show (match (r0 :: G).find? (fitC c) with
    | some y => plainR (restQ (takR x i) y (headI x i) c t (takN x i + 1))
    | none => (Except.error 22 : Except Int (InsT × Int))) = _
  rw [hg]
end Go.Amd

namespace Go.Amd
open Go Go.Ab Go.Proofs
theorem num1Q_im {n : Int} (h0 : -128 ≤ n) (h1 : n < 128) (t : List Int) (k : Int) (K : Int → List Int → Int → RestR) : num1Q (im1 n ++ t) k K = K n t (k + 1) := by
  show K (num1V (imB n 0)) t (k + 1) = _
  rw [num1_im h0 h1]
theorem num4Q_im {n : Int} (h0 : -2147483648 ≤ n) (h1 : n < 2147483648) (t : List Int) (k : Int) (K : Int → List Int → Int → RestR) : num4Q (im4 n ++ t) k K = K n t (k + 4) := by
  show K (num4V (imB n 0) (imB n 8) (imB n 16) (imB n 24)) t (k + 1 + 1 + 1 + 1) = _
  rw [num4_im h0 h1, show k + 1 + 1 + 1 + 1 = k + 4 by omega]
theorem num8Q_im {n : Int} (h0 : -9223372036854775808 ≤ n) (h1 : n < 9223372036854775808) (t : List Int) (k : Int) (K : Int → List Int → Int → RestR) : num8Q (im8 n ++ t) k K = K n t (k + 8) := by
  show K (num8V (imB n 0) (imB n 8) (imB n 16) (imB n 24) (imB n 32) (imB n 40) (imB n 48) (imB n 56)) t (k + 1 + 1 + 1 + 1 + 1 + 1 + 1 + 1) = _
  rw [num8_im h0 h1, show k + 1 + 1 + 1 + 1 + 1 + 1 + 1 + 1 = k + 8 by omega]
theorem finQ_ok {x : RowT} {i : InsT} (h : faultyF x i = 0) (k : Int) : finQ x i k = .ok (i, k) := by
  unfold finQ
  rw [h]
  rfl
theorem mustQ_ok {b : Bool} (h : b = true) (k : Int) (r : RestR) : mustQ b k r = r := by
  rw [h]; rfl
theorem fitsF_iff (n : Int) : fitsF n = true ↔ -128 ≤ n ∧ n < 128 := by
  unfold fitsF
  by_cases h0 : -128 ≤ n
  · by_cases h1 : n ≤ 127
    · rw [decide_eq_true h0, decide_eq_true h1]
      exact ⟨fun _ => by omega, fun _ => rfl⟩
    · rw [decide_eq_true h0, decide_eq_false h1]
      exact ⟨fun h => (by cases h), fun h => (by omega)⟩
  · rw [decide_eq_false h0]
    exact ⟨fun h => (by cases h), fun h => (by omega)⟩
end Go.Amd

namespace Go.Amd
open Go Go.Ab Go.Proofs
def sayR (x : RowT) (a d : Int) : Bool :=
  cond (condR x) (wi (w8 (lastG (formR x) true (w8 x.2.2.1) a d false - w8 x.2.2.1)) == d && (!(formR x == 1) && (!(formR x == 2) && !(formR x == 6)))) true &&
    cond (formR x == 1 || formR x == 2) (wi (w8 (lastG (formR x) (condR x) (w8 x.2.2.1) a d false - w8 x.2.2.1)) == a % 8) true
theorem say_all : rowsL.all (fun x => all2 16 16 fun a d => sayR x a d) = true := by kernel_rfl
theorem lastB_head {x : RowT} (hx : x ∈ rowsL) {i : InsT} (h : okF x i.2.1 i.2.2.1 i.2.2.2.1 i.2.2.2.2.1 = true) : lastB (headI x i) = lastO x i := by
  rcases (head_ok hx h).2 with ⟨e, -⟩ | ⟨e, -⟩ <;> rw [e] <;> rfl
theorem say_cond {x : RowT} (hx : x ∈ rowsL) {i : InsT} (h : okF x i.2.1 i.2.2.1 i.2.2.2.1 i.2.2.2.2.1 = true) (ha : 0 ≤ i.2.1 ∧ i.2.1 < 16) (hd : 0 ≤ i.2.2.2.2.1 ∧ i.2.2.2.2.1 < 16) (hc : condR x = true) (K : Int → RestR) :
    lastQ x (headI x i) K = K i.2.2.2.2.1 := by
  have := all2_of (List.all_eq_true.1 say_all x hx) ha.1 ha.2 hd.1 hd.2
  unfold sayR at this
  obtain ⟨h1, -⟩ := Bool.and_eq_true_iff.1 this
  rw [hc, cond_true] at h1
  obtain ⟨h1, h2⟩ := Bool.and_eq_true_iff.1 h1
  obtain ⟨h2, h3⟩ := Bool.and_eq_true_iff.1 h2
  obtain ⟨h3, h4⟩ := Bool.and_eq_true_iff.1 h3
  have e6 : (formR x == 6) = false := by simpa using h4
  have e : lastO x i = lastG (formR x) true (w8 x.2.2.1) i.2.1 i.2.2.2.2.1 false := by
    unfold lastO
    rw [lastF_eq, hc]
    unfold lastG
    rw [e6]
    rfl
  unfold lastQ
  rw [lastB_head hx h, e, eq_of_beq h1]
theorem say_reg {x : RowT} (hx : x ∈ rowsL) {i : InsT} (h : okF x i.2.1 i.2.2.1 i.2.2.2.1 i.2.2.2.2.1 = true) (ha : 0 ≤ i.2.1 ∧ i.2.1 < 16) (hd : 0 ≤ i.2.2.2.2.1 ∧ i.2.2.2.2.1 < 16) (hf : formR x = 1 ∨ formR x = 2) (K : Int → RestR) :
    lastQ x (headI x i) K = K (i.2.1 % 8) := by
  have := all2_of (List.all_eq_true.1 say_all x hx) ha.1 ha.2 hd.1 hd.2
  unfold sayR at this
  obtain ⟨-, h1⟩ := Bool.and_eq_true_iff.1 this
  have hf2 : (formR x == 1 || formR x == 2) = true := by rcases hf with e | e <;> rw [e] <;> rfl
  rw [hf2, cond_true] at h1
  have e : lastO x i = lastG (formR x) (condR x) (w8 x.2.2.1) i.2.1 i.2.2.2.2.1 false := by
    unfold lastO
    rw [lastF_eq]
    unfold lastG
    rcases hf with e | e <;> rw [e] <;> rfl
  unfold lastQ
  rw [lastB_head hx h, e, eq_of_beq h1]
end Go.Amd
