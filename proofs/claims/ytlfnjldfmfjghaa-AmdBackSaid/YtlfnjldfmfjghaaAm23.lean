/-
  The walker's whole way. Conditions: none.
-/
import Derived.Test.YtlfnjldfmfjghaaAm22
namespace Go.Amd
open Go Go.Ab Go.Proofs

/-! Where it ends early. -/

noncomputable def cxA1 (w0 : WS) (r1 : Res) : Cx := { P := Try.prog, n := Try.f28.ntmps, tab := [], mtab := [(52, opAt w0 r1)], refs := [], keeps := [0, 2, 3, 4, 5, 6, 7, 8, 9, 25, 50, 51, 67, 74, 80, 86, 93, 103] }
noncomputable def cxA2 (w0 w1 : WS) (op : List Int) (r1 r2 : Res) : Cx := { P := Try.prog, n := Try.f28.ntmps, tab := [], mtab := [(52, opAt w0 r1), (53, chAt w1 op r2)], refs := [], keeps := [0, 2, 3, 4, 5, 6, 7, 8, 9, 25, 50, 51, 67, 74, 80, 86, 93, 103] }
noncomputable def allE1 (l sp : List Int) (fl : Fl) (e k : Int) (fs : Bool) (R : Int) (has : Bool) : Tree Res :=
  vfun (cxA1 (w0S l sp fl) (.pan (fltV e) [wkO l sp fl k fs R has])) Try.f28 [.ptr 0 0] [wkS (w0S l sp fl)]
theorem allE1_eq (l sp : List Int) (fl : Fl) (e k : Int) (fs : Bool) (R : Int) (has : Bool) : (allE1 l sp fl e k fs R has).out = (Tree.br (eqW (l, sp, fl, 0, false, 0, false) (w0S l sp fl)) (panA l sp fl fs R has e k) .fail).out := by kernel_rfl
noncomputable def allE2 (l sp : List Int) (fl : Fl) (k1 : Int) (fs : Bool) (R : Int) (has : Bool) (op : List Int) (e k : Int) : Tree Res :=
  vfun (cxA2 (w0S l sp fl) (l, sp, fl, k1, fs, R, has) op (.ok (opV op) [wkO l sp fl k1 fs R has]) (.pan (fltV e) [wkO l sp fl k fs R has])) Try.f28 [.ptr 0 0] [wkS (w0S l sp fl)]
theorem allE2_eq (l sp : List Int) (fl : Fl) (k1 : Int) (fs : Bool) (R : Int) (has : Bool) (op : List Int) (e k : Int) : (allE2 l sp fl k1 fs R has op e k).out =
    (Tree.br (eqW (l, sp, fl, 0, false, 0, false) (w0S l sp fl)) (.br (eqW (l, sp, fl, k1, fs, R, has) (l, sp, fl, k1, fs, R, has)) (.br (eqL op op) (panA l sp fl fs R has e k) .fail) .fail) .fail).out := by kernel_rfl
theorem eqW_refl (w : WS) : eqW w w = true := decide_eq_true rfl
theorem eqL_refl (l : List Int) : eqL l l = true := decide_eq_true rfl

/-! Which forms rows have. -/

def rowForm (x : RowT) : Bool := (formsA.map (·.1)).contains (formR x, condR x)
theorem rows_formsA : rowsL.all rowForm = true := by kernel_rfl
theorem form_mem {x : RowT} (h : x ∈ rowsL) : ∃ p ∈ formsA, formR x = p.1.1 ∧ condR x = p.1.2 := by
  have := List.all_eq_true.1 rows_formsA x h
  unfold rowForm at this
  simp only [List.contains_iff_mem, List.mem_map] at this
  obtain ⟨p, h1, h2⟩ := this
  exact ⟨p, h1, by rw [h2], by rw [h2]⟩
theorem forms_parts : ((formsA.drop 0).take 7 ++ (formsA.drop 7).take 4 ++ (formsA.drop 11).take 1 ++ (formsA.drop 12).take 4) = formsA := rfl
theorem forms_all {β : Type} {f g : (Int × Bool) × RestT → β} (h0 : ((formsA.drop 0).take 7).map f = ((formsA.drop 0).take 7).map g) (h1 : ((formsA.drop 7).take 4).map f = ((formsA.drop 7).take 4).map g)
    (h2 : ((formsA.drop 11).take 1).map f = ((formsA.drop 11).take 1).map g) (h3 : ((formsA.drop 12).take 4).map f = ((formsA.drop 12).take 4).map g) : formsA.map f = formsA.map g := by
  rw [← forms_parts]
  simp only [List.map_append, h0, h1, h2, h3]

/-! What was taken ahead. -/

theorem opcP_fine {l : List Int} {op : List Int} {k : Int} {fs : Bool} {R : Int} {has : Bool} (h : opcP l = .ok (op, k, fs, R, has)) : opLen op = true ∧ 0 ≤ k ∧ k ≤ (l.length : Int) := by
  have ok : ∀ {o : List Int} {j : Int} {f : Bool} {r : Int} {b : Bool}, (Except.ok (o, j, f, r, b) : OpR) = .ok (op, k, fs, R, has) → o = op ∧ j = k := by
    intro o j f r b h
    cases h
    exact ⟨rfl, rfl⟩
  cases l with
  | nil => cases h
  | cons c t =>
    unfold opcP opc0 at h
    simp only at h
    cases h0 : (c == 100)
    · rw [h0, cond_false] at h
      cases h4 : (sh4 c == 4)
      · rw [h4, cond_false] at h
        cases h15 : (c != 15)
        · rw [h15, cond_false] at h
          cases t with
          | nil => cases h
          | cons d t => obtain ⟨rfl, rfl⟩ := ok h; exact ⟨rfl, by decide, by simp only [List.length_cons]; omega⟩
        · rw [h15, cond_true] at h
          obtain ⟨rfl, rfl⟩ := ok h
          exact ⟨rfl, by decide, by simp only [List.length_cons]; omega⟩
      · rw [h4, cond_true] at h
        cases t with
        | nil => cases h
        | cons d t =>
          simp only at h
          unfold opc2 at h
          cases h15 : (d != 15)
          · rw [h15, cond_false] at h
            cases h8 : (!(and8 (and8 c 15) 8 != 0))
            · rw [h8, cond_false] at h
              cases t with
              | nil => cases h
              | cons e t => obtain ⟨rfl, rfl⟩ := ok h; exact ⟨rfl, by decide, by simp only [List.length_cons]; omega⟩
            · rw [h8] at h; cases h
          · rw [h15, cond_true] at h
            obtain ⟨rfl, rfl⟩ := ok h
            exact ⟨rfl, by decide, by simp only [List.length_cons]; omega⟩
    · rw [h0, cond_true] at h
      cases t with
      | nil => cases h
      | cons d t =>
        simp only at h
        unfold opc1 at h
        cases h48 : (!(and8 d 251 == 72))
        · rw [h48, cond_false] at h
          cases h4 : (sh4 d == 4)
          · rw [h4, cond_false] at h
            cases h15 : (d != 15)
            · rw [h15] at h; cases h
            · rw [h15, cond_true] at h
              obtain ⟨rfl, rfl⟩ := ok h
              exact ⟨rfl, by decide, by simp only [List.length_cons]; omega⟩
          · rw [h4, cond_true] at h
            cases t with
            | nil => cases h
            | cons e t =>
              simp only at h
              cases h15 : (e != 15)
              · rw [h15] at h; cases h
              · rw [h15, cond_true] at h
                obtain ⟨rfl, rfl⟩ := ok h
                exact ⟨rfl, by decide, by simp only [List.length_cons]; omega⟩
        · rw [h48] at h; cases h

/-! All. -/

/-- What decoding of bytes comes to: the instruction and its length; or what goes up. -/
def plainR : RestR → Except Int (InsT × Int)
  | .ok p => .ok p
  | .error (e, _) => .error e
def decC (R : Int) (op : List Int) (k : Int) (G : List RowT) : List Int → Except Int (InsT × Int)
  | [] => .error 2
  | c :: t => match G.find? (fitC c) with
    | some x => plainR (restQ R x op c t (k + 1))
    | none => .error 22
def decQ (l : List Int) : Except Int (InsT × Int) := match opcP l with
  | .error (e, _) => .error e
  | .ok (op, k, fs, R, has) => match cands R op fs has with
    | [] => .error 22
    | r0 :: G => cond (modOf (formR r0)) (decC R op k (r0 :: G) (l.drop k.toNat)) (plainR (restQ R r0 op 0 (l.drop k.toNat) k))

def AllRes (l sp : List Int) (fl : Fl) (res : Res) : Except Int (InsT × Int) → Prop
  | .ok (i, k) => ∃ fs R has, res = .ok (insV i) [wkO l sp fl k fs R has, insO i]
  | .error e => ∃ k fs R has, res = .pan (fltV e) [wkO l sp fl k fs R has]
theorem allRes_rest {l sp : List Int} {fl : Fl} {fs : Bool} {R : Int} {has : Bool} (r : RestR) : AllRes l sp fl (toRes l sp fl fs R has r) (plainR r) := by
  cases r with
  | ok p => exact ⟨fs, R, has, rfl⟩
  | error p => exact ⟨p.2, fs, R, has, rfl⟩

section
variable {l sp : List Int} {fl : Fl}
abbrev AllCall (l sp : List Int) (fl : Fl) (res : Res) : Prop := MCall Try.prog 28 [.ptr 0 0] [wkO l sp fl 0 false 0 false] res

theorem all_chosen (h1 : l.length < 1000000000) {op : List Int} {k1 k c R : Int} {fs has : Bool} {x : RowT} (ho : opcP l = .ok (op, k1, fs, R, has)) (hx : x ∈ rowsL)
    (hch : MCall Try.prog 53 [.ptr 0 0, opV op] [wkO l sp fl k1 fs R has] (.ok (.tup [.agg (rowL x), .int .u8 c]) [wkO l sp fl k fs R has, rO x])) {t : List Int} (ha : At l k t) :
    AllCall l sp fl (toRes l sp fl fs R has (restQ R x op c t k)) := by
  have hop := opcode_ok l sp fl h1
  rw [ho] at hop
  obtain ⟨p, hp, hf, hc⟩ := form_mem hx
  have hform : formOk x = true := List.all_eq_true.1 rows_forms x hx
  have hrun := rests_run (sp := sp) (fl := fl) (fs := fs) (R := R) (has := has) p hp hf hc hform (opcP_fine ho).1 h1 (c := c) ha
  obtain ⟨nm, rex, o16, f, dg, cn, lo, hi, os⟩ := x
  simp only [formR, condR] at hf hc
  subst hf
  subst hc
  have e := congrFun (congrFun (congrFun (congrFun (congrFun (congrFun (congrFun (congrFun (congrFun (congrFun (congrFun (congrFun (congrFun (congrFun (congrFun (congrFun (congrFun (congrFun (List.map_inj_left.1 (forms_all all_0 all_1 all_2 all_3) p hp) numV) l) sp) fl) k1) fs) R) has) nm) rex) o16) dg) lo) hi) os) op) c) k
  refine mcall_view (cx := cxAll numV (w0S l sp fl) (l, sp, fl, k1, fs, R, has) op (.ok (opV op) [wkO l sp fl k1 fs R has]) (.ok (.tup [.agg (rowL (nm, rex, o16, p.1.1, dg, p.1.2, lo, hi, os)), .int .u8 c]) [wkO l sp fl k fs R has, rO (nm, rex, o16, p.1.1, dg, p.1.2, lo, hi, os)])) (fn := Try.f28)
    (cxAll_ok hop hch) (by kernel_rfl) (by kernel_rfl) (by kernel_rfl) (by kernel_rfl) rfl ?_
  refine (Tree.out_run _).symm.trans (e.trans ((Tree.out_run _).trans ?_))
  unfold allH
  rw [br_t (eqW_refl _), br_t (eqW_refl _), br_t (eqL_refl _)]
  exact hrun

theorem all_ok (h1 : l.length < 1000000000) (hb : ∀ x ∈ l, 0 ≤ x ∧ x < 256) : ∃ res, AllRes l sp fl res (decQ l) ∧ AllCall l sp fl res := by
  have hop := opcode_ok l sp fl h1
  unfold decQ
  cases ho : opcP l with
  | error p =>
    obtain ⟨e, k, fs, R, has⟩ := p
    rw [ho] at hop
    refine ⟨.pan (fltV e) [wkO l sp fl k fs R has], ⟨k, fs, R, has, rfl⟩, ?_⟩
    refine mcall_view (cx := cxA1 (w0S l sp fl) (.pan (fltV e) [wkO l sp fl k fs R has])) (fn := Try.f28) (cx1_ok (.nil _) (.cons (opAt_ok hop) (.nil _)) rfl rfl) (by kernel_rfl) (by kernel_rfl) (by kernel_rfl) (by kernel_rfl) rfl ?_
    refine (Tree.out_run _).symm.trans ((allE1_eq l sp fl e k fs R has).trans ((Tree.out_run _).trans ?_))
    rw [br_t (eqW_refl _)]
    rfl
  | ok p =>
    obtain ⟨op, k1, fs, R, has⟩ := p
    rw [ho] at hop
    obtain ⟨o1, k0, k2⟩ := opcP_fine ho
    have pan : ∀ e k, (chosenT l sp fl k1 R op fs has).run = some (.pan (fltV e) [wkO l sp fl k fs R has]) → ∃ res, AllRes l sp fl res (.error e) ∧ AllCall l sp fl res := by
      intro e k hr
      have hch := chosen_ok (sp := sp) (fl := fl) o1 k0 (by omega) h1 hr
      refine ⟨.pan (fltV e) [wkO l sp fl k fs R has], ⟨k, fs, R, has, rfl⟩, ?_⟩
      refine mcall_view (cx := cxA2 (w0S l sp fl) (l, sp, fl, k1, fs, R, has) op (.ok (opV op) [wkO l sp fl k1 fs R has]) (.pan (fltV e) [wkO l sp fl k fs R has])) (fn := Try.f28)
        (cx1_ok (.nil _) (.cons (opAt_ok hop) (.cons (chAt_ok hch) (.nil _))) rfl rfl) (by kernel_rfl) (by kernel_rfl) (by kernel_rfl) (by kernel_rfl) rfl ?_
      refine (Tree.out_run _).symm.trans ((allE2_eq l sp fl k1 fs R has op e k).trans ((Tree.out_run _).trans ?_))
      rw [br_t (eqW_refl _), br_t (eqW_refl _), br_t (eqL_refl _)]
      rfl
    have at1 : At l k1 (l.drop k1.toNat) := ⟨⟨l.take k1.toNat, (List.take_append_drop _ _).symm, by rw [List.length_take]; omega⟩, fun x hx => hb x (List.mem_of_mem_drop hx)⟩
    have good : ∀ x c k t, x ∈ rowsL → At l k t → (chosenT l sp fl k1 R op fs has).run = some (.ok (.tup [.agg (rowL x), .int .u8 c]) [wkO l sp fl k fs R has, rO x]) → ∃ res, AllRes l sp fl res (plainR (restQ R x op c t k)) ∧ AllCall l sp fl res := by
      intro x c k t hx ha hr
      exact ⟨_, allRes_rest _, all_chosen h1 ho hx (chosen_ok (sp := sp) (fl := fl) o1 k0 (by omega) h1 hr) ha⟩
    simp only
    unfold chosenT at pan good
    have hmem : ∀ r ∈ cands R op fs has, r ∈ rowsL := fun r hr => (List.mem_filter.1 hr).1
    cases hG : cands R op fs has with
    | nil =>
      rw [hG] at pan
      exact pan 22 k1 rfl
    | cons r0 G =>
      rw [hG] at pan good hmem
      simp only at pan good ⊢
      cases hm : modOf (formR r0)
      · rw [hm] at pan good
        exact good r0 0 k1 _ (hmem r0 List.mem_cons_self) at1 rfl
      · rw [hm] at pan good
        simp only [br_run, cond_true] at pan good ⊢
        generalize hd : l.drop k1.toNat = t at at1
        cases t with
        | nil =>
          have hle : l.length ≤ k1.toNat := List.drop_eq_nil_iff.1 hd
          have hs : decide ((l.length : Nat) ≤ k1) = true := decide_eq_true (by omega)
          exact pan 2 k1 (by rw [hs]; rfl)
        | cons c t =>
          have hlt : k1.toNat < l.length := by
            rcases Nat.lt_or_ge k1.toNat l.length with h | h
            · exact h
            · rw [List.drop_eq_nil_iff.2 h] at hd; cases hd
          have hs : decide ((l.length : Nat) ≤ k1) = false := decide_eq_false (by omega)
          have hc : l.getD k1.toNat 0 = c := by
            rw [List.drop_eq_getElem_cons hlt] at hd
            rw [List.getD_eq_getElem?_getD, List.getElem?_eq_getElem hlt]
            exact (List.cons.inj hd).1
          rw [hs] at pan good
          rw [hc] at pan good
          simp only [cond_false] at pan good
          unfold fitT at pan good
          unfold decC
          simp only
          cases hx : (r0 :: G).find? (fitC c) with
          | none =>
            rw [hx] at pan
            exact pan 22 (k1 + 1) rfl
          | some x =>
            rw [hx] at good
            exact good x c (k1 + 1) t (hmem x (List.mem_of_find?_eq_some hx)) at1.next rfl
end

end Go.Amd
