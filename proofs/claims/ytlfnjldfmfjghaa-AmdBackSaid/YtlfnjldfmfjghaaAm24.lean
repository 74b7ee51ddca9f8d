/-
  Decode. Conditions: none.
-/
import Derived.Test.YtlfnjldfmfjghaaAm23
namespace Go.Amd
open Go Go.Ab Go.Proofs

def allAt (w0 : WS) (r : Res) : MSpec := fun args H => match args, H with
  | [.ptr 0 0], [.cells [.sl (.int .u8) l sp fl, .int .i64 k, .bool fs, .int .u8 R, .bool has] 63] => .req (eqW (l, sp, fl, k, fs, R, has) w0) (.leaf r)
  | _, _ => .fail
theorem allAt_ok {w0 : WS} {r : Res} (h0 : MCall Try.prog 28 [.ptr 0 0] [wkS w0] r) : MSound Try.prog 28 (allAt w0 r) := by
  intro args H res h
  unfold allAt at h
  split at h
  rotate_left
  · cases h
  obtain ⟨h1, h⟩ := req_run h
  have h := leaf_out h
  subst h
  have h1 := of_decide_eq_true h1
  subst h1
  exact h0
noncomputable def cxD (w0 : WS) (r : Res) : Cx := { P := Try.prog, n := Try.f15.ntmps, tab := [], mtab := [(28, allAt w0 r)], refs := [], keeps := [0, 1, 4, 5, 6, 7, 15] }
def pureT (r : Res) : Tree V := match r with
  | .ok v _ => .ofOption (V.pure? v)
  | _ => .fail
noncomputable def decG (w0 : WS) (r : Res) (l sp : List Int) (fl : Fl) (at_ : Int) : Tree V :=
  (dfunD (cxD w0 r) cx27 Try.f15 27 Try.f27 [.sl (.int .u8) l sp fl, .int .i64 at_] []).bind pureT
def zeroI : InsT := ([], 0, 0, 0, 0, 0)
abbrev outD (i : InsT) (n e : Int) : V := .tup [insV i, .int .i64 n, .int .i64 e]
def decH (w0 : WS) (l sp : List Int) (fl : Fl) (at_ : Int) (out : V) : Tree V :=
  .br (decide (at_ < 0)) (.leaf (outD zeroI 0 5)) (.br (decide ((l.length : Nat) < at_)) (.leaf (outD zeroI 0 5))
    (.br (decide (0 ≤ at_) && decide (at_ ≤ (l.length : Nat))) (.br (eqW (l.drop at_.toNat, sp, fl, 0, false, 0, false) w0) (.leaf out) .fail) .fail))
theorem dec1_eq (w0 : WS) (l sp l2 sp2 : List Int) (fl fl2 : Fl) (at_ k R : Int) (fs has : Bool) (i : InsT) :
    (decG w0 (.ok (insV i) [wkO l2 sp2 fl2 k fs R has, insO i]) l sp fl at_).out = (decH w0 l sp fl at_ (outD i k 0)).out := by kernel_rfl
theorem dec2_eq (w0 : WS) (l sp l2 sp2 : List Int) (fl fl2 : Fl) (at_ k R e : Int) (fs has : Bool) :
    (decG w0 (.pan (fltV e) [wkO l2 sp2 fl2 k fs R has]) l sp fl at_).out = (decH w0 l sp fl at_ (outD zeroI 0 e)).out := by kernel_rfl

theorem decG_ok {w0 : WS} {r : Res} (h0 : MCall Try.prog 28 [.ptr 0 0] [wkS w0] r) {l sp : List Int} {fl : Fl} {at_ : Int} {out : V} (h : (decG w0 r l sp fl at_).run = some out) :
    PCall Try.prog 15 [.sl (.int .u8) l sp fl, .int .i64 at_] out := by
  unfold decG at h
  obtain ⟨res, h2, h3⟩ := bind_run h
  cases res with
  | ok v H' =>
    exact pcall_of_mcall (mcall_defer (cx := cxD w0 r) (cl := cx27) (fn := Try.f15) (fg := Try.f27) (cx1_ok (.nil _) (.cons (allAt_ok h0) (.nil _)) rfl rfl) (cx0_ok rfl rfl) rfl (by kernel_rfl) (by kernel_rfl) (by kernel_rfl) (by kernel_rfl) (by kernel_rfl) h2) (ofOption_run h3)
  | pan v H' => cases h3

/-- What Decode answers. -/
def outOf (l : List Int) (at_ : Int) : Bool := decide (at_ < 0) || decide ((l.length : Int) < at_)
def ansD : Except Int (InsT × Int) → V
  | .ok (i, k) => outD i k 0
  | .error e => outD zeroI 0 e
def decV (l : List Int) (at_ : Int) : V := cond (outOf l at_) (outD zeroI 0 5) (ansD (decQ (l.drop at_.toNat)))

theorem decode_ok {l sp : List Int} {fl : Fl} {at_ : Int} (h1 : l.length < 1000000000) (hb : ∀ x ∈ l, 0 ≤ x ∧ x < 256) : PCall Try.prog 15 [.sl (.int .u8) l sp fl, .int .i64 at_] (decV l at_) := by
  obtain ⟨res, hres, hall⟩ := all_ok (l := l.drop at_.toNat) (sp := sp) (fl := fl) (by rw [List.length_drop]; omega) (fun x hx => hb x (List.mem_of_mem_drop hx))
  refine decG_ok (w0 := (l.drop at_.toNat, sp, fl, 0, false, 0, false)) hall ?_
  have run : ∀ out, (decH (l.drop at_.toNat, sp, fl, 0, false, 0, false) l sp fl at_ out).run = some (cond (outOf l at_) (outD zeroI 0 5) out) := by
    intro out
    unfold decH outOf
    rw [br_run, br_run]
    by_cases g1 : at_ < 0
    · rw [decide_eq_true g1]; rfl
    · rw [decide_eq_false g1]
      by_cases g2 : (l.length : Int) < at_
      · rw [decide_eq_true g2]; rfl
      · rw [decide_eq_false g2, cond_false, cond_false]
        refine (br_t ?_).trans ((br_t (eqW_refl _)).trans rfl)
        rw [decide_eq_true (show 0 ≤ at_ by omega), decide_eq_true (show at_ ≤ (l.length : Int) by omega)]
        rfl
  unfold decV
  cases hd : decQ (l.drop at_.toNat) with
  | ok p =>
    obtain ⟨i, k⟩ := p
    rw [hd] at hres
    obtain ⟨fs, R, has, rfl⟩ := hres
    exact (Tree.out_run _).symm.trans ((dec1_eq _ l sp _ _ fl _ at_ k R fs has i).trans ((Tree.out_run _).trans (run _)))
  | error e =>
    rw [hd] at hres
    obtain ⟨k, fs, R, has, rfl⟩ := hres
    exact (Tree.out_run _).symm.trans ((dec2_eq _ l sp _ _ fl _ at_ k R e fs has).trans ((Tree.out_run _).trans (run _)))

def bytesB (l : List Int) : Bool := l.all fun x => decide (0 ≤ x) && decide (x < 256)
theorem bytesB_of {l : List Int} (h : bytesB l = true) : ∀ x ∈ l, 0 ≤ x ∧ x < 256 := by
  intro x hx
  have := List.all_eq_true.1 h x hx
  simpa using this
def decodeS : Ab.Spec := fun args => match args with
  | [.sl (.int .u8) l _ _, .int .i64 at_] => .req (decide (l.length < 1000000000)) (.req (bytesB l) (.leaf (decV l at_)))
  | _ => .fail
theorem decodeS_ok : Sound Try.prog 15 decodeS := by
  intro args out h
  unfold decodeS at h
  split at h
  rotate_left
  · cases h
  rename_i l sp fl at_
  obtain ⟨h1, h⟩ := req_run h
  obtain ⟨h2, h⟩ := req_run h
  have h := leaf_out h
  subst h
  exact decode_ok (of_decide_eq_true h1) (bytesB_of h2)

end Go.Amd
