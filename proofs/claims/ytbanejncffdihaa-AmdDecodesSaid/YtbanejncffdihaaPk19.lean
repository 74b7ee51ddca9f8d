/-
  The document's goes of amd, as one answer. Conditions: none.
-/
import Derived.Test.YtbanejncffdihaaPk18
import Derived.Test.YtbanejncffdihaaPk15
set_option linter.unusedVariables false
set_option linter.unusedSimpArgs false
namespace Go.Amd
open Go Go.Ab Go.Proofs
def goB (l : List Int) (k r : Int) (fs : Bool) (y : RowX) : Bool :=
  and' (fs == (y.2.1 == 5)) (and' (rexV y.2.1 y.2.2.2.2 r) (ocV y.2.1 y.2.2.2.1 (rexOX l) (opL y.2.2.1) (atX l (k - 1)) (l.drop k.toNat)))
theorem goR_eq {l sp : List Int} {fl : Fl} {k r : Int} {fs : Bool} {j : Int} {y : RowX} (h : 0 ≤ k ∧ k ≤ l.length ∧ l.length < 1000) :
    goR l sp fl k r fs j y = cond (goB l k r fs y) (some (.ret, goSt l sp fl k r fs true j, [])) (some (.normal, goSt l sp fl k r fs false (wi (j + 1)), [])) := by
  unfold goR goB and'
  rw [decide_eq_true h]
  cases (fs == (y.2.1 == 5)) <;> cases rexV y.2.1 y.2.2.2.2 r <;> rfl
theorem cxGo_ok : CxOk cx24 := cx1_ok (.cons atS_ok (.cons tableS_ok (.cons rexedX_ok (ok1 opcodeX_ok)))) (.nil _) rfl rfl
abbrev goQ (v : Bool) (e : AEx) (t : T) (H : List O) : Prop := (e = .ret ∨ e = .normal) ∧ answerV Try.prog Try.f24.results.toList H t = some (.bool v)
theorem go_ans {t : T} {H : List O} {x : Bool} (h : Ab.get 2 t = .bool x) : answerV Try.prog Try.f24.results.toList H t = some (.bool x) := by
  unfold answerV
  rw [show Try.f24.results.toList = [.tmp 2] from by kernel_rfl]
  simp [resV, h, V.pures?, V.pure?]
theorem roundK_on {α : Type} {st : α → T × List O} {μ : α → Nat} {ks : List Nat} {Q : AEx → T → List O → Prop} {i : α} {t : T} {H : List O} (j : α) (h1 : μ j < μ i) (h2 : TLe t (st j).1) (h3 : H = (st j).2) : RoundK st μ ks Q i (.normal, t, H) := ⟨j, h1, h2, h3⟩
theorem roundK_ret {α : Type} {st : α → T × List O} {μ : α → Nat} {ks : List Nat} {Q : AEx → T → List O → Prop} {i : α} {t : T} {H : List O} (h : ∀ t', t = keep ks t' → Q .ret t' H) : RoundK st μ ks Q i (.ret, t, H) := h
theorem roundK_exit {α : Type} {st : α → T × List O} {μ : α → Nat} {ks : List Nat} {Q : AEx → T → List O → Prop} {i : α} {n : Nat} {t : T} {H : List O} (h : ∀ t', t = keep ks t' → Q (.exit n) t' H) : RoundK st μ ks Q i (.exit n, t, H) := h
theorem rowsX_58 : rowsX.length = 58 := by kernel_rfl
theorem any_none {α : Type} {p : α → Bool} {L : List α} {d : α} {j : Nat} (hj : j < L.length) (h : (L.take j).any p = false) : (L.take (j + 1)).any p = p (L.getD j d) := by
  rw [List.take_succ_eq_append_getElem hj, List.any_append, h, getD_lt hj]
  simp
section
variable {l sp : List Int} {fl : Fl} {k r : Int} {fs : Bool}
set_option maxRecDepth 8000 in
set_option maxHeartbeats 4000000 in
theorem go_loop (hk : 0 ≤ k ∧ k ≤ l.length ∧ l.length < 1000) :
    AWP Try.prog Try.f24.ntmps (tailN 6 Bgo) (goQ (rowsX.any (goB l k r fs))) [(0, .sl (.int .u8) l sp fl), (2, .bool false), (3, .int .i64 k), (4, .bool fs), (5, .int .i64 r)] [] := by
  refine AWP_headK (cx := cx24) rfl rfl cxGo_ok 0 [0, 2, 3, 4, 5, 6] (t' := [(0, .sl (.int .u8) l sp fl), (2, .bool false), (3, .int .i64 k), (4, .bool fs), (5, .int .i64 r), (6, .sl rowXE rowsX [] .ro)]) (H' := []) (by kernel_rfl) (by kernel_rfl) ?_
  have e : tailN 0 (tailN 6 Bgo) = .seq (.seq (c1 (c1 (tailN 7 Bgo))) (.block 0 (.loop Rgo))) (c2 (tailN 7 Bgo)) := by kernel_rfl
  rw [e]
  generalize hQ : goQ (rowsX.any (goB l k r fs)) = Q
  refine AWP_seq (AWP_seq (AWP_run (cx := cx24) rfl rfl cxGo_ok (s := (.normal, goSt l sp fl k r fs false ((0 : Nat) : Int), [])) (by kernel_rfl) ?_))
  show AWP _ _ _ _ _ _
  refine AWP_block ?_
  refine AWP_roundsK (cx := cx24) (P := Try.prog) (n := Try.f24.ntmps) rfl rfl cxGo_ok (fun j : { j : Nat // j ≤ 58 ∧ (rowsX.take j).any (goB l k r fs) = false } => (goSt l sp fl k r fs false (j.1 : Int), [])) (fun j => 58 - j.1) [] [0, 2, 3, 4, 5, 6, 7] ?_ ⟨0, Nat.zero_le _, rfl⟩
  rintro ⟨j, hj, hnone⟩
  by_cases hlt : j < 58
  · have h0 := List.map_inj_left.1 go_rows j (List.mem_range.2 hlt)
    have h1 := congrFun (congrFun (congrFun (congrFun (congrFun (congrFun h0 l) sp) fl) k) r) fs
    have h2 := (Tree.fin_run _).symm.trans (h1.trans (goR_eq hk))
    have hlen : j < rowsX.length := by rw [rowsX_58]; exact hlt
    have hn := any_none (d := zeroX) hlen hnone
    cases hg : goB l k r fs (rowsX.getD j zeroX)
    · rw [hg] at h2 hn
      refine Tree.run_all (b := (.normal, goSt l sp fl k r fs false (wi ((j : Int) + 1)), [])) h2 (roundK_on ⟨j + 1, hlt, hn⟩ (by show 58 - (j + 1) < 58 - j; omega) ?_ rfl)
      refine Fits.tle ⟨rfl, rfl, rfl, rfl, rfl, rfl, ?_, trivial⟩
      show V.int .i64 (wi ((j : Int) + 1)) = V.int .i64 ((j + 1 : Nat) : Int)
      rw [show wi ((j : Int) + 1) = (j : Int) + 1 from wrap_i64 (by omega) (by omega)]
      rfl
    · rw [hg] at h2 hn
      have h2 := h2.trans (cond_true _ _)
      refine Tree.run_all h2 ?_
      generalize hk' : goSt l sp fl k r fs true (j : Int) = gt
      refine roundK_ret ?_
      subst hk'
      intro t ht
      have hany : rowsX.any (goB l k r fs) = true := by
        rw [← List.take_append_drop (j + 1) rowsX, List.any_append, hn]
        rfl
      rw [hany] at hQ
      subst hQ
      refine ⟨.inl rfl, go_ans ?_⟩
      have h3 : Ab.get 2 (goSt l sp fl k r fs true (j : Int)) = .bool true := rfl
      rcases get_told ht 2 with g | g
      · exact g.symm.trans h3
      · rw [h3] at g; cases g
  · have hj' : j = 58 := by omega
    subst hj'
    refine Tree.run_all ((Tree.fin_run _).symm.trans (go_end l sp fl k r fs)) ?_
    generalize hk' : goSt l sp fl k r fs false 58 = gt
    refine roundK_exit ?_
    subst hk'
    intro t ht
    have hany : rowsX.any (goB l k r fs) = false := by
      rw [← hnone, List.take_of_length_le (by rw [rowsX_58]; exact Nat.le_refl _)]
    show AWP _ _ _ _ _ _
    refine AWP.less (s := [(0, .sl (.int .u8) l sp fl)]) ?_ ?_
    · intro d
      rcases get_told ht d with g | g
      · match d, g with
        | 0, g => exact .inl g
        | d + 1, _ => exact .inr rfl
      · match d, g with
        | 0, g => cases g
        | d + 1, _ => exact .inr rfl
    refine AWP_run (cx := cx24) rfl rfl cxGo_ok (s := (.ret, [(0, .sl (.int .u8) l sp fl), (2, .bool false)], [])) (by kernel_rfl) ?_
    rw [hany] at hQ
    subst hQ
    exact ⟨.inl rfl, go_ans rfl⟩
end
def goesV (l : List Int) : Bool :=
  let fs := atX l 0 == 100
  let k := cond fs 1 0
  cond (((l.length : Nat) : Int) == k) true (cond (Int.fdiv (atX l k) (2 ^ 4) == 4) (rowsX.any (goB l (k + 1) (wi (atX l k)) fs)) (rowsX.any (goB l k (-1) fs)))
theorem goK_ok {l sp : List Int} {fl : Fl} {k : Int} {a : Bool} (k0 : 0 ≤ k) (k1 : k ≤ 1) (k2 : k ≤ l.length) (hl : l.length < 1000) {v : Bool}
    (h : (dcode cx24 (headN 6 Bgo) (initT 0 [.sl (.int .u8) l sp fl]) []).fin = goK l sp fl k a)
    (hv : v = cond (((l.length : Nat) : Int) == k) true (cond (Int.fdiv (atX l k) (2 ^ 4) == 4) (rowsX.any (goB l (k + 1) (wi (atX l k)) (atX l 0 == 100))) (rowsX.any (goB l k (-1) (atX l 0 == 100))))) :
    AWP Try.prog Try.f24.ntmps Bgo (goQ v) (initT 0 [.sl (.int .u8) l sp fl]) [] := by
  have h := (Tree.fin_run _).symm.trans h
  unfold goK goN at h
  have e1 : wi (k + 1) = k + 1 := wrap_i64 (n := k + 1) (by omega) (by omega)
  have e2 : pM l k = atX l k := rfl
  rw [e1, e2] at h
  by_cases hk : (l.length : Int) = k
  · rw [beq_iff_eq.2 hk] at h hv
    subst hv
    refine AWP_head rfl rfl cxGo_ok 6 Bgo _ _ _ (by kernel_rfl) (Tree.run_all h ?_)
    exact ⟨.inl rfl, go_ans rfl⟩
  · rw [beq_false_of_ne hk, inside_of k0 (by omega)] at h
    rw [beq_false_of_ne hk] at hv
    cases h4 : (Int.fdiv (atX l k) (2 ^ 4) == 4)
    · rw [h4] at h hv
      refine AWP_head rfl rfl cxGo_ok 6 Bgo _ _ _ (by kernel_rfl) (Tree.run_all h ?_)
      show AWP _ _ _ _ _ _
      rw [hv]
      exact AWP.less (s := [(0, .sl (.int .u8) l sp fl), (2, .bool false), (3, .int .i64 k), (4, .bool (atX l 0 == 100)), (5, .int .i64 (-1))]) (Fits.tle ⟨rfl, rfl, rfl, rfl, rfl, trivial⟩) (go_loop ⟨k0, k2, hl⟩)
    · rw [h4] at h hv
      refine AWP_head rfl rfl cxGo_ok 6 Bgo _ _ _ (by kernel_rfl) (Tree.run_all h ?_)
      show AWP _ _ _ _ _ _
      rw [hv]
      exact AWP.less (s := [(0, .sl (.int .u8) l sp fl), (2, .bool false), (3, .int .i64 (k + 1)), (4, .bool (atX l 0 == 100)), (5, .int .i64 (wi (atX l k)))]) (Fits.tle ⟨rfl, rfl, rfl, rfl, rfl, trivial⟩) (go_loop ⟨by omega, by omega, hl⟩)
theorem goes_ok {l sp : List Int} {fl : Fl} (hl : l.length < 1000) : PCall Try.prog 24 [.sl (.int .u8) l sp fl] (.bool (goesV l)) := by
  refine pcall_of' (c := Bgo) (fn := Try.f24) (by kernel_rfl) (by kernel_rfl) (by kernel_rfl) (by kernel_rfl) ?_
  have h := goHd_eq l sp fl
  unfold goHd at h
  cases h0 : (atX l 0 == 100)
  · rw [h0] at h
    refine goK_ok (k := 0) (by omega) (by omega) (by omega) hl h ?_
    unfold goesV
    rw [h0]
    rfl
  · rw [h0] at h
    have hne : 1 ≤ l.length := by
      cases l with
      | nil => exact absurd h0 (by decide)
      | cons c t => simp
    refine goK_ok (k := 1) (by omega) (by omega) (by omega) hl h ?_
    unfold goesV
    rw [h0]
    rfl
def goesS : Ab.Spec := fun args => match args with
  | [.sl (.int .u8) l _ _] => .req (decide (l.length < 1000)) (.leaf (.bool (goesV l)))
  | _ => .fail
theorem goesS_ok : Sound Try.prog 24 goesS := by
  intro args out h
  unfold goesS at h
  split at h
  rotate_left
  · cases h
  rename_i l sp fl
  obtain ⟨h1, h⟩ := req_run h
  have h := leaf_out h
  subst h
  exact goes_ok (of_decide_eq_true h1)
end Go.Amd

namespace Go.Amd
open Go Go.Ab Go.Proofs
def sh2 : RestR → Bool
  | .error (e, _) => e == 2
  | .ok _ => false
theorem sh_fin (x : RowT) (i : InsT) (k : Int) : sh2 (finQ x i k) = false := by
  unfold finQ
  cases (!(faultyF x i == 0)) <;> rfl
theorem sh_must (b : Bool) (k : Int) (r : RestR) : sh2 (mustQ b k r) = and' b (sh2 r) := by cases b <;> rfl
theorem sh_cond (b : Bool) (r s : RestR) : sh2 (cond b r s) = cond b (sh2 r) (sh2 s) := by cases b <;> rfl
theorem ltN_cons (c : Int) (t : List Int) (n : Int) : ltN (c :: t) (n + 1) = ltN t n := by
  unfold ltN
  exact decide_eq_decide.2 (by simp only [List.length_cons]; omega)
theorem ltN_0 (t : List Int) : ltN t 0 = false := decide_eq_false (by omega)
theorem ltN_nil {n : Int} (h : 0 < n) : ltN [] n = true := decide_eq_true (by simpa using h)
theorem sh_nx {t : List Int} {k n : Int} {K : Int → List Int → Int → RestR} (hn : 0 ≤ n) (h : ∀ c t k, sh2 (K c t k) = ltN t n) : sh2 (nxQ t k K) = ltN t (n + 1) := by
  cases t with
  | nil => rw [ltN_nil (by omega)]; rfl
  | cons c t =>
    rw [ltN_cons]
    exact h c t (k + 1)
abbrev Never (K : Int → List Int → Int → RestR) : Prop := ∀ n t k, sh2 (K n t k) = false
theorem sh_num1 {t : List Int} {k : Int} {K : Int → List Int → Int → RestR} (h : Never K) : sh2 (num1Q t k K) = ltN t 1 :=
  sh_nx (n := 0) (by decide) fun c t k => (h _ t k).trans (ltN_0 t).symm
theorem sh_num4 {t : List Int} {k : Int} {K : Int → List Int → Int → RestR} (h : Never K) : sh2 (num4Q t k K) = ltN t 4 :=
  sh_nx (n := 3) (by decide) fun _ _ _ => sh_nx (n := 2) (by decide) fun _ _ _ => sh_nx (n := 1) (by decide) fun _ _ _ => sh_nx (n := 0) (by decide) fun _ t k => (h _ t k).trans (ltN_0 t).symm
theorem sh_num8 {t : List Int} {k : Int} {K : Int → List Int → Int → RestR} (h : Never K) : sh2 (num8Q t k K) = ltN t 8 :=
  sh_nx (n := 7) (by decide) fun _ _ _ => sh_nx (n := 6) (by decide) fun _ _ _ => sh_nx (n := 5) (by decide) fun _ _ _ => sh_nx (n := 4) (by decide) fun _ _ _ =>
  sh_nx (n := 3) (by decide) fun _ _ _ => sh_nx (n := 2) (by decide) fun _ _ _ => sh_nx (n := 1) (by decide) fun _ _ _ => sh_nx (n := 0) (by decide) fun _ t k => (h _ t k).trans (ltN_0 t).symm
theorem never_must {b : Int → Bool} {K : Int → List Int → Int → RestR} (h : Never K) : Never fun n t k => mustQ (b n) k (K n t k) := fun n t k => by
  rw [sh_must, h n t k]
  cases b n <;> rfl
theorem sh_mod {c b : Int} {t : List Int} {k : Int} {K : Int → List Int → Int → RestR} (h : Never K) : sh2 (modQ c b t k K) = ltN t (szP (modF c)) := by
  unfold modQ
  rw [sh_cond, sh_cond, sh_num1 (fun n t k => by rw [sh_cond, sh_must, h n t k]; cases (n != 0) <;> cases (andi b 7 == 5) <;> rfl), sh_num4 (never_must h), h 0 t k]
  unfold szP
  by_cases h1 : modF c = 1
  · rw [h1]; rfl
  · rw [beq_false_of_ne h1]
    cases (modF c == 2)
    · exact (ltN_0 t).symm
    · rfl
theorem plr_all : all1 16 (fun R => (and8 (64 + R) 3 == 0) == (and8 R 3 == 0) && (((and8 (Int.fdiv (64 + R) (2 ^ 1)) 1 == 0) == (and8 R 2 == 0)))) = true := by kernel_rfl
theorem pl_rex {R : Int} {has : Bool} (hR : 0 ≤ R ∧ R < 16) (h0 : has = false → R = 0) : (and8 (rexO R has) 3 == 0) = (and8 R 3 == 0) ∧ (and8 (Int.fdiv (rexO R has) (2 ^ 1)) 1 == 0) = (and8 R 2 == 0) := by
  cases has
  · rw [h0 rfl]
    exact ⟨by kernel_rfl, by kernel_rfl⟩
  · have := all1_of plr_all hR.1 hR.2
    obtain ⟨h1, h2⟩ := Bool.and_eq_true_iff.1 this
    exact ⟨eq_of_beq h1, eq_of_beq h2⟩
theorem beq_iff {a b c d : Int} (h : a = b ↔ c = d) : (a == b) = (c == d) := by
  by_cases g : a = b
  · rw [beq_iff_eq.2 g, beq_iff_eq.2 (h.1 g)]
  · rw [beq_false_of_ne g, beq_false_of_ne fun e => g (h.2 e)]
theorem sib_low {e R : Int} (he : IsB e) (hR : 0 ≤ R ∧ R < 16) : andi (lowF e R) 7 = and8 e 7 := by
  rw [lowF_eq he.1 he.2 hR.1 hR.2, (byte_eq he.1 he.2).2.2.1]
  have h2 : all1 16 (fun n => andi n 7 == n % 8) = true := by kernel_rfl
  have := all1_of h2 (show 0 ≤ e % 8 + 8 * (R % 2) by omega) (show e % 8 + 8 * (R % 2) < 16 by omega)
  rw [eq_of_beq this]
  omega
theorem sib_idx {e R : Int} (he : IsB e) (hR : 0 ≤ R ∧ R < 16) : (idxF e R == 4) = cond (and8 (Int.fdiv e (2 ^ 3)) 7 == 4) (and8 R 2 == 0) false := by
  rw [idxF_eq he.1 he.2 hR.1 hR.2, (byte_eq he.1 he.2).2.1, (and83 hR.1 hR.2).2]
  by_cases h : e / 8 % 8 = 4
  · rw [beq_iff_eq.2 h, cond_true]
    exact beq_iff ⟨by omega, by omega⟩
  · rw [beq_false_of_ne h, cond_false]
    exact beq_false_of_ne (by omega)
theorem sh_sib {R c : Int} {t : List Int} {k : Int} {K : PlaceK} (hR : 0 ≤ R ∧ R < 16) (ht : AllB t) (h : ∀ b cc d, Never (K b cc d)) {x : Int} (hx : (x == 0) = (and8 R 2 == 0)) :
    sh2 (sibQ R c t k K) = plT2 x (modF c) (szP (modF c)) t := by
  unfold sibQ
  cases t with
  | nil => rfl
  | cons e t =>
    have he : IsB e := ht e List.mem_cons_self
    show sh2 (cond (modF c != 0) (sibQ2 R c e t (k + 1) K) (mustQ (andi (lowF e R) 7 != 5) (k + 1) (sibQ2 R c e t (k + 1) K))) = cond (cond (cond (modF c == 0) (and8 e 7 == 5) false) true (cond (cond (and8 (Int.fdiv e (2 ^ 3)) 7 == 4) (x == 0) false) (cond (and8 e 7 != 4) true (modF e != 0)) false)) false (ltN t (szP (modF c)))
    have h2 : sh2 (sibQ2 R c e t (k + 1) K) = cond (cond (cond (and8 (Int.fdiv e (2 ^ 3)) 7 == 4) (x == 0) false) (cond (and8 e 7 != 4) true (modF e != 0)) false) false (ltN t (szP (modF c))) := by
      unfold sibQ2
      rw [sh_cond, sh_cond, sh_must, sh_mod (h _ _ _), sh_mod (h _ _ _), sib_low he hR, sib_idx he hR, hx]
      have nb : ∀ x y : Int, (x != y) = !(x == y) := fun _ _ => rfl
      rw [nb, nb]
      cases cond (and8 (Int.fdiv e (2 ^ 3)) 7 == 4) (and8 R 2 == 0) false <;> cases (modF e == 0) <;> cases (and8 e 7 == 4) <;> rfl
    rw [sh_cond, sh_must, h2, sib_low he hR]
    have nb : ∀ x y : Int, (x != y) = !(x == y) := fun _ _ => rfl
    rw [nb (modF c) 0, nb (and8 e 7) 5]
    cases (modF c == 0) <;> cases (and8 e 7 == 5) <;> rfl
theorem sh_place {R c : Int} {has : Bool} {t : List Int} {k : Int} {K : PlaceK} (hR : 0 ≤ R ∧ R < 16) (h0 : has = false → R = 0) (hc : IsB c) (ht : AllB t) (h : ∀ b cc d, Never (K b cc d)) :
    and' (modF c != 3) (sh2 (placeQ R c t k K)) = plV (rexO R has) c t := by
  obtain ⟨p1, p2⟩ := pl_rex hR h0
  have hrm : rmF c = and8 c 7 := by rw [(byte_eq hc.1 hc.2).2.2.2, (byte_eq hc.1 hc.2).2.2.1]
  have hb : sh2 (baseQ R c t k K) = cond (and8 c 7 != 4) (cond (and8 (Int.fdiv (rexO R has) (2 ^ 1)) 1 == 0) (ltN t (szP (modF c))) false) (plT2 (and8 (Int.fdiv (rexO R has) (2 ^ 1)) 1) (modF c) (szP (modF c)) t) := by
    unfold baseQ
    rw [sh_cond, sh_must, sh_mod (h _ _ _), sh_sib hR ht h p2, hrm, p2]
    have nb : ∀ x y : Int, (x != y) = !(x == y) := fun _ _ => rfl
    rw [nb]
    cases (and8 c 7 == 4) <;> rfl
  unfold placeQ plV
  rw [sh_cond, sh_cond, sh_must, sh_num4 (h _ _ _), hb, hrm, p1]
  show _ = cond (modF c == 3) false (cond (cond (modF c == 0) (and8 c 7 == 5) false) _ (cond _ (cond _ (ltN t (szP (modF c))) false) (plT2 _ (modF c) (szP (modF c)) t)))
  have nb : ∀ x y : Int, (x != y) = !(x == y) := fun _ _ => rfl
  rw [nb (modF c) 3]
  by_cases h3 : modF c = 3
  · rw [h3]; rfl
  · rw [beq_false_of_ne h3]
    cases (modF c == 0) <;> cases (and8 c 7 == 5) <;> rfl
end Go.Amd

namespace Go.Amd
open Go Go.Ab Go.Proofs
theorem never_fin (x : RowT) (i : Int → InsT) : Never fun n _ k => finQ x (i n) k := fun n _ k => sh_fin x (i n) k
theorem ltC_is (c : Int) (t : List Int) (n : Int) : ltC t n = ltN (c :: t) n := by
  unfold ltC ltN
  exact decide_eq_decide.2 (by simp only [List.length_cons]; omega)
theorem ltC_1 (t : List Int) (n : Int) : ltC t (n + 1) = ltN t n := (ltC_is 0 t (n + 1)).trans (ltN_cons 0 t n)
theorem ltC5 (t : List Int) : ltC t 5 = ltN t 4 := ltC_1 t 4
theorem ltC2 (t : List Int) : ltC t 2 = ltN t 1 := ltC_1 t 1
theorem ltC6 (t : List Int) : ltC t 6 = ltN t 5 := ltC_1 t 5
theorem ltN1 (e : Int) (t : List Int) : ltN (e :: t) 1 = ltN t 0 := ltN_cons e t 0
theorem ltN5 (e : Int) (t : List Int) : ltN (e :: t) 5 = ltN t 4 := ltN_cons e t 4
theorem and_ff (b : Bool) : and' b false = false := by cases b <;> rfl
theorem rest_fq {x : RowT} {op t : List Int} {R c k f : Int} {cn : Bool} (hf : formR x = f) (hn : condR x = cn) : restQ R x op c t k = formQ f R x op c t k (cond cn (restN x op) 0) := by
  unfold restQ lastQ restN
  rw [hf, hn]
  cases cn <;> rfl
section
variable (x : RowT) (op t : List Int) (R c k d : Int)
theorem fq_0 : formQ 0 R x op c t k d = finQ x (x.1, 0, 0, 0, d, 0) k := by kernel_rfl
theorem fq_1 : formQ 1 R x op c t k d = lastQ x op fun a => finQ x (x.1, wi (a + bitF R 1), 0, 0, d, 0) k := by kernel_rfl
theorem fq_2 : formQ 2 R x op c t k d = lastQ x op fun a => num8Q t k fun n _ k => finQ x (x.1, wi (a + bitF R 1), 0, 0, d, n) k := by kernel_rfl
theorem fq_3 : formQ 3 R x op c t k d = finQ x (x.1, lowF c R, 0, 0, d, 0) k := by kernel_rfl
theorem fq_4 : formQ 4 R x op c t k d = num4Q t k fun n _ k => finQ x (x.1, lowF c R, 0, 0, d, n) k := by kernel_rfl
theorem fq_5 : formQ 5 R x op c t k d = num1Q t k fun n _ k => finQ x (x.1, lowF c R, 0, 0, d, n) k := by kernel_rfl
theorem fq_6 : formQ 6 R x op c t k d = cond (op.getD 0 0 == 131) (num1Q t k fun n _ k => finQ x (x.1, lowF c R, 0, 0, d, n) k) (num4Q t k fun n _ k => mustQ (!fitsF n) k (finQ x (x.1, lowF c R, 0, 0, d, n) k)) := by kernel_rfl
theorem fq_7 : formQ 7 R x op c t k d = finQ x (x.1, lowF c R, midF c R, 0, d, 0) k := by kernel_rfl
theorem fq_8 : formQ 8 R x op c t k d = finQ x (x.1, midF c R, lowF c R, 0, d, 0) k := by kernel_rfl
theorem fq_9 : formQ 9 R x op c t k d = placeQ R c t k fun b cc d n _ k => finQ x (x.1, midF c R, b, cc, d, n) k := by kernel_rfl
theorem fq_10 : formQ 10 R x op c t k d = nxQ t k fun e t k => mustQ (e == 37) k (num4Q t k fun n _ k => finQ x (x.1, midF c R, 0, 0, d, n) k) := by kernel_rfl
theorem fq_11 : formQ 11 R x op c t k d = num4Q t k fun n _ k => finQ x (x.1, 0, 0, 0, d, n) k := by kernel_rfl
theorem fq_12 : formQ 12 R x op c t k d = num1Q t k fun n _ k => finQ x (x.1, 0, 0, 0, d, n) k := by kernel_rfl
theorem fitC_9 (h : formR x = 9) : fitC c x = (modF c != 3) := by unfold fitC fitF; rw [h]; rfl
theorem fitC_thr (h : formR x = 10) : fitC c x = cond (modF c == 0) (and8 c 7 == 4) false := by unfold fitC fitF; rw [h]; rfl
theorem fitC_g {f : Int} (hg : f ∈ ([3, 4, 5, 6] : List Int)) (h : formR x = f) : fitC c x = grpC x.2.2.2.2.1 c := by
  unfold fitC fitF
  rw [h]
  simp only [List.mem_cons, List.not_mem_nil, or_false] at hg
  rcases hg with rfl | rfl | rfl | rfl <;> rfl
variable (f dg r p : Int)
theorem tv_1 : tlV 1 dg r p (c :: t) = and' (modF c == 3) (ltC t 1) := by kernel_rfl
theorem tv_7 : tlV 7 dg r p (c :: t) = and' (modF c == 3) (ltC t 1) := by kernel_rfl
theorem tv_11 : tlV 11 dg r p (c :: t) = and' (modF c == 3) (ltC t 1) := by kernel_rfl
theorem tv_8 : tlV 8 dg r p (c :: t) = and' (grpC dg c) (ltC t 1) := by kernel_rfl
theorem tv_3 : tlV 3 dg r p (c :: t) = and' (grpC dg c) (ltC t 5) := by kernel_rfl
theorem tv_10 : tlV 10 dg r p (c :: t) = and' (grpC dg c) (ltC t 2) := by kernel_rfl
theorem tv_6 : tlV 6 dg r p (c :: t) = cond (p == 129) (and' (grpC dg c) (ltC t 5)) (and' (grpC dg c) (ltC t 2)) := by kernel_rfl
theorem tv_5 : tlV 5 dg r p (c :: t) = and' (cond (modF c == 0) (and8 c 7 == 4) false) (cond (ltC t 2) (ltC t 6) (and' (t.headD 0 == 37) (ltC t 6))) := by kernel_rfl
theorem tv_4 : tlV 4 dg r p (c :: t) = plV r c t := by kernel_rfl
theorem tv_2 : tlV 2 dg r p (c :: t) = ltC t 8 := by kernel_rfl
theorem tv_13 : tlV 13 dg r p (c :: t) = ltC t 4 := by kernel_rfl
theorem tv_15 : tlV 15 dg r p (c :: t) = ltC t 4 := by kernel_rfl
theorem tv_14 : tlV 14 dg r p (c :: t) = ltC t 1 := by kernel_rfl
theorem tv_16 : tlV 16 dg r p (c :: t) = ltC t 1 := by kernel_rfl
theorem tv_9 : tlV 9 dg r p t = false := by cases t <;> kernel_rfl
theorem tv_12 : tlV 12 dg r p t = false := by cases t <;> kernel_rfl
theorem tv_nil : tlV f dg r p [] = !(f == 9 || f == 12) := rfl
end
section
variable {nm : List UInt8} {op' : Option (List Int)} {dg rx : Int} {op : List Int} {R p k : Int} {has : Bool}
theorem tl_not {f : Int} (hf : f ∈ formsX) (hm : modOf (formC f) = false) (t : List Int) : tlV f dg (rexO R has) p t = sh2 (restQ R (conv (nm, f, op', dg, rx)) op 0 t k) := by
  simp only [formsX, List.mem_cons, List.not_mem_nil, or_false] at hf
  rcases hf with rfl | rfl | rfl | rfl | rfl | rfl | rfl | rfl | rfl | rfl | rfl | rfl | rfl | rfl | rfl | rfl
  · cases hm
  · rw [rest_fq (f := 2) (cn := false) rfl rfl, fq_2]
    unfold lastQ
    rw [sh_num8 (never_fin _ _)]
    cases t with
    | nil => rfl
    | cons c t => rw [tv_2]; exact ltC_is c t 8
  · cases hm
  · cases hm
  · cases hm
  · cases hm
  · cases hm
  · cases hm
  · rw [rest_fq (f := 0) (cn := false) rfl rfl, fq_0, sh_fin, tv_9]
  · cases hm
  · cases hm
  · rw [rest_fq (f := 1) (cn := false) rfl rfl, fq_1]
    unfold lastQ
    rw [sh_fin, tv_12]
  · rw [rest_fq (f := 11) (cn := false) rfl rfl, fq_11, sh_num4 (never_fin _ _)]
    cases t with
    | nil => rfl
    | cons c t => rw [tv_13]; exact ltC_is c t 4
  · rw [rest_fq (f := 12) (cn := false) rfl rfl, fq_12, sh_num1 (never_fin _ _)]
    cases t with
    | nil => rfl
    | cons c t => rw [tv_14]; exact ltC_is c t 1
  · rw [rest_fq (f := 11) (cn := true) rfl rfl, fq_11, sh_num4 (never_fin _ _)]
    cases t with
    | nil => rfl
    | cons c t => rw [tv_15]; exact ltC_is c t 4
  · rw [rest_fq (f := 12) (cn := true) rfl rfl, fq_12, sh_num1 (never_fin _ _)]
    cases t with
    | nil => rfl
    | cons c t => rw [tv_16]; exact ltC_is c t 1
theorem ltC1 (t : List Int) : ltC t 1 = false := (ltC_1 t 0).trans (ltN_0 t)
theorem tl_mod {f c : Int} {t : List Int} (hf : f ∈ formsX) (hm : modOf (formC f) = true) (hc : IsB c) (ht : AllB t) (hR : 0 ≤ R ∧ R < 16) (h0 : has = false → R = 0) (h6 : f = 6 → (op.getD 0 0 == 131) = !(p == 129)) :
    tlV f dg (rexO R has) p (c :: t) = and' (fitC c (conv (nm, f, op', dg, rx))) (sh2 (restQ R (conv (nm, f, op', dg, rx)) op c t k)) := by
  simp only [formsX, List.mem_cons, List.not_mem_nil, or_false] at hf
  rcases hf with rfl | rfl | rfl | rfl | rfl | rfl | rfl | rfl | rfl | rfl | rfl | rfl | rfl | rfl | rfl | rfl
  · rw [rest_fq (f := 7) (cn := false) rfl rfl, fq_7, sh_fin, tv_1, ltC1, and_ff, and_ff]
  · cases hm
  · rw [rest_fq (f := 4) (cn := false) rfl rfl, fq_4, sh_num4 (never_fin _ _), tv_3, ltC5, fitC_g (f := 4) _ _ (by decide) rfl]; rfl
  · rw [rest_fq (f := 9) (cn := false) rfl rfl, fq_9, tv_4, fitC_9 _ _ rfl, sh_place (has := has) hR h0 hc ht (fun b cc d => never_fin _ _)]
  · rw [rest_fq (f := 10) (cn := false) rfl rfl, fq_10, tv_5, fitC_thr _ _ rfl]
    congr 1
    cases t with
    | nil => rfl
    | cons e t =>
      show cond (ltC (e :: t) 2) (ltC (e :: t) 6) (and' (e == 37) (ltC (e :: t) 6)) = sh2 (mustQ (e == 37) (k + 1) _)
      rw [sh_must, sh_num4 (never_fin _ _), ltC2 (e :: t), ltC6 (e :: t), ltN1, ltN5, ltN_0]
      rfl
  · rw [rest_fq (f := 6) (cn := false) rfl rfl, fq_6, tv_6, fitC_g (f := 6) _ _ (by decide) rfl, h6 rfl, sh_cond, sh_num1 (never_fin _ _), sh_num4 (never_must (never_fin _ _)), ltC5, ltC2]
    show _ = and' (grpC dg c) _
    cases (p == 129) <;> rfl
  · rw [rest_fq (f := 8) (cn := false) rfl rfl, fq_8, sh_fin, tv_7, ltC1, and_ff, and_ff]
  · rw [rest_fq (f := 3) (cn := false) rfl rfl, fq_3, sh_fin, tv_8, ltC1, and_ff, and_ff]
  · cases hm
  · rw [rest_fq (f := 5) (cn := false) rfl rfl, fq_5, sh_num1 (never_fin _ _), tv_10, ltC2, fitC_g (f := 5) _ _ (by decide) rfl]; rfl
  · rw [rest_fq (f := 8) (cn := true) rfl rfl, fq_8, sh_fin, tv_11, ltC1, and_ff, and_ff]
  · cases hm
  · cases hm
  · cases hm
  · cases hm
  · cases hm
end
end Go.Amd

namespace Go.Amd
open Go Go.Ab Go.Proofs
def pfG (fs : Bool) (r : Int) (y : RowX) : Bool := and' (fs == (y.2.1 == 5)) (rexV y.2.1 y.2.2.2.2 r)
def oc1 (y : RowX) (c : Int) : Bool := match opL y.2.2.1 with
  | [] => false
  | a :: t => ocB y.2.1 t.isEmpty c a
def oc2 (y : RowX) (d : Int) : Bool := match opL y.2.2.1 with
  | [a, b] => and' (ocB y.2.1 false 15 a) (ocB y.2.1 true d b)
  | _ => false
def two (y : RowX) : Bool := match opL y.2.2.1 with
  | [_, _] => true
  | _ => false
theorem pf_all : rowsX.all (fun y => ((pfG false (-1) y == prefF (conv y) false 0 false) && all1 16 fun R => pfG false (64 + R) y == prefF (conv y) false R true) && ((pfG true 72 y == prefF (conv y) true 8 true) && (pfG true 76 y == prefF (conv y) true 12 true))) = true := by kernel_rfl
theorem oc1_all : rowsX.all (fun y => all2 16 16 fun a b => cond (16 * a + b == 15) (two y || !(oc1 y 15)) (cond (two y) (!(oc1 y (16 * a + b)) && !(opensF (conv y) [16 * a + b])) (oc1 y (16 * a + b) == opensF (conv y) [16 * a + b]))) = true := by kernel_rfl
theorem oc2_all : rowsX.all (fun y => all2 16 16 fun a b => cond (two y) (oc2 y (16 * a + b) == opensF (conv y) [15, 16 * a + b]) (!(opensF (conv y) [15, 16 * a + b]))) = true := by kernel_rfl
theorem len_all : rowsX.all (fun y => two y || (opL y.2.2.1).length == 1) = true := by kernel_rfl
theorem fr_rex : all2 16 16 (fun a b => cond (sh4 (16 * a + b) == 4) (rowsX.any (pfG false (16 * a + b))) true) = true := by kernel_rfl
theorem fr_w : all2 16 16 (fun a b => cond (sh4 (16 * a + b) == 4) (cond (and8 (and8 (16 * a + b) 15) 8 != 0) (rowsX.any fun y => and' (pfG false (16 * a + b) y) (and' (two y) (oc1 y 15))) (rowsX.all fun y => !(and' (pfG false (16 * a + b) y) (oc1 y 15)))) true) = true := by kernel_rfl
theorem fr_0 : rowsX.any (fun y => and' (pfG false (-1) y) (and' (two y) (oc1 y 15))) = true := by kernel_rfl
theorem fr_fs0 : rowsX.all (fun y => !(pfG true (-1) y)) = true := by kernel_rfl
theorem fr_fs : all2 16 16 (fun a b => cond (sh4 (16 * a + b) == 4) (cond (and8 (16 * a + b) 251 == 72) (rowsX.any (pfG true (16 * a + b)) && rowsX.all fun y => !(and' (pfG true (16 * a + b) y) (oc1 y 15))) (rowsX.all fun y => !(pfG true (16 * a + b) y))) true) = true := by kernel_rfl
theorem all2_b {p : Int → Bool} (h : all2 16 16 (fun a b => p (16 * a + b)) = true) {c : Int} (hc : IsB c) : p c = true := by
  have h := all2_of h (a := c / 16) (b := c % 16) (by have := hc.1; omega) (by have := hc.2; omega) (by omega) (by omega)
  rw [show 16 * (c / 16) + c % 16 = c by omega] at h
  exact h
end Go.Amd

namespace Go.Amd
open Go Go.Ab Go.Proofs
theorem goB_pf (l : List Int) (k r : Int) (fs : Bool) (y : RowX) : goB l k r fs y = and' (pfG fs r y) (ocV y.2.1 y.2.2.2.1 (rexOX l) (opL y.2.2.1) (atX l (k - 1)) (l.drop k.toNat)) := by
  unfold goB pfG
  cases (fs == (y.2.1 == 5)) <;> rfl
theorem op_shape {y : RowX} (hy : y ∈ rowsX) : (∃ a, opL y.2.2.1 = [a] ∧ two y = false) ∨ ∃ a b, opL y.2.2.1 = [a, b] ∧ two y = true := by
  have h := List.all_eq_true.1 len_all y hy
  unfold two at h ⊢
  generalize opL y.2.2.1 = o at h ⊢
  match o, h with
  | [a], _ => exact .inl ⟨a, rfl, rfl⟩
  | [a, b], _ => exact .inr ⟨a, b, rfl, rfl⟩
  | [], h => cases h
  | _ :: _ :: _ :: _, h => exact absurd h (by simp)
theorem o15_all : rowsX.all (fun y => two y || !(oc1 y 15)) = true := by kernel_rfl
section
variable {y : RowX} (hy : y ∈ rowsX) {dg r p c : Int} {t : List Int}
include hy in
theorem ocv_nil : ocV y.2.1 dg r (opL y.2.2.1) p [] = true := by
  rcases op_shape hy with ⟨a, e, -⟩ | ⟨a, b, e, -⟩ <;> rw [e] <;> rfl
include hy in
theorem ocv_off (h : oc1 y c = false) : ocV y.2.1 dg r (opL y.2.2.1) p (c :: t) = false := by
  unfold oc1 at h
  rcases op_shape hy with ⟨a, e, -⟩ | ⟨a, b, e, -⟩
  · rw [e] at h ⊢
    have h : ocB y.2.1 true c a = false := h
    show and' (ocB y.2.1 true c a) _ = false
    rw [h]; rfl
  · rw [e] at h ⊢
    have h : ocB y.2.1 false c a = false := h
    show and' (ocB y.2.1 false c a) _ = false
    rw [h]; rfl
include hy in
theorem ocv_15 : ocV y.2.1 dg r (opL y.2.2.1) p [15] = oc1 y 15 := by
  have h15 := List.all_eq_true.1 o15_all y hy
  rcases op_shape hy with ⟨a, e, e2⟩ | ⟨a, b, e, e2⟩
  · rw [e2, Bool.false_or] at h15
    have h1 : oc1 y 15 = false := by simpa using h15
    rw [ocv_off hy h1, h1]
  · unfold oc1
    rw [e]
    show and' (ocB y.2.1 false 15 a) true = ocB y.2.1 false 15 a
    cases ocB y.2.1 false 15 a <;> rfl
include hy in
theorem ocv_one (hc : IsB c) (h15 : c ≠ 15) : ocV y.2.1 dg r (opL y.2.2.1) p (c :: t) = and' (opensF (conv y) [c]) (tlV y.2.1 dg r c t) := by
  have h := all2_b (p := fun c => cond (c == 15) (two y || !(oc1 y 15)) (cond (two y) (!(oc1 y c) && !(opensF (conv y) [c])) (oc1 y c == opensF (conv y) [c]))) (List.all_eq_true.1 oc1_all y hy) hc
  rw [beq_false_of_ne h15, cond_false] at h
  rcases op_shape hy with ⟨a, e, e2⟩ | ⟨a, b, e, e2⟩
  · rw [e2, cond_false] at h
    rw [← eq_of_beq h]
    unfold oc1
    rw [e]
    rfl
  · rw [e2, cond_true] at h
    obtain ⟨h1, h2⟩ := Bool.and_eq_true_iff.1 h
    have h1 : oc1 y c = false := by simpa using h1
    have h2 : opensF (conv y) [c] = false := by simpa using h2
    rw [ocv_off hy h1, h2]
    rfl
include hy in
theorem ocv_two (hc : IsB c) : ocV y.2.1 dg r (opL y.2.2.1) p (15 :: c :: t) = and' (opensF (conv y) [15, c]) (tlV y.2.1 dg r c t) := by
  have h := all2_b (p := fun c => cond (two y) (oc2 y c == opensF (conv y) [15, c]) (!(opensF (conv y) [15, c]))) (List.all_eq_true.1 oc2_all y hy) hc
  have h15 := List.all_eq_true.1 o15_all y hy
  rcases op_shape hy with ⟨a, e, e2⟩ | ⟨a, b, e, e2⟩
  · rw [e2, cond_false] at h
    rw [e2, Bool.false_or] at h15
    have h1 : oc1 y 15 = false := by simpa using h15
    have h2 : opensF (conv y) [15, c] = false := by simpa using h
    rw [ocv_off hy h1, h2]
    rfl
  · rw [e2, cond_true] at h
    rw [← eq_of_beq h]
    unfold oc2
    rw [e]
    show and' (ocB y.2.1 false 15 a) (and' (ocB y.2.1 true c b) _) = and' (and' (ocB y.2.1 false 15 a) (ocB y.2.1 true c b)) _
    cases ocB y.2.1 false 15 a <;> rfl
end
section
variable {l t : List Int} {c : Int}
theorem wi_b (hc : IsB c) : wi c = c := wrap_i64 (by have := hc.1; omega) (by have := hc.2; omega)
theorem goesV_a (hl : l = c :: t) (hc : IsB c) (h : (c == 100) = false) : goesV l = cond (sh4 c == 4) (rowsX.any (goB l 1 c false)) (rowsX.any (goB l 0 (-1) false)) ∧ rexOX l = cond (sh4 c == 4) c 0 := by
  have e : atX l 0 = c := by rw [hl]; rfl
  have e2 : (((l.length : Nat) : Int) == 0) = false := beq_false_of_ne (by rw [hl]; simp only [List.length_cons]; omega)
  unfold goesV rexOX
  simp only
  rw [e, h]
  simp only [cond_false]
  rw [e2, e, wi_b hc]
  exact ⟨rfl, rfl⟩
theorem goesV_b (hl : l = 100 :: c :: t) (hc : IsB c) : goesV l = cond (sh4 c == 4) (rowsX.any (goB l 2 c true)) (rowsX.any (goB l 1 (-1) true)) ∧ rexOX l = cond (sh4 c == 4) c 0 := by
  have e : atX l 0 = 100 := by rw [hl]; rfl
  have e1 : atX l 1 = c := by rw [hl]; rfl
  have e2 : (((l.length : Nat) : Int) == 1) = false := beq_false_of_ne (by rw [hl]; simp only [List.length_cons]; omega)
  unfold goesV rexOX
  simp only
  rw [e]
  simp only [beq_self_eq_true, cond_true]
  rw [e2, e1, wi_b hc]
  exact ⟨rfl, rfl⟩
end
theorem go_split {l op : List Int} {k : Int} {fs : Bool} {R : Int} {has : Bool} (hl : AllB l) (h : opcP l = .ok (op, k, fs, R, has)) :
    goesV l = rowsX.any (goB l (k - op.length) (cond has (64 + R) (-1)) fs) ∧ rexOX l = rexO R has ∧ l.drop (k - op.length).toNat = op ++ l.drop k.toNat := by
  have b0 : ∀ {c : Int} {t : List Int}, AllB (c :: t) → IsB c := fun h => h _ List.mem_cons_self
  have b1 : ∀ {c : Int} {t : List Int}, AllB (c :: t) → AllB t := fun h d hd => h d (List.mem_cons_of_mem _ hd)
  rcases opc_at hl h with ⟨t, rfl, rfl, rfl, rfl, rfl, ⟨c, rfl, h1, h2, h3⟩ | ⟨d, rfl⟩⟩ | ⟨r, t, rfl, rfl, rfl, h100, h4, rfl, rfl, ⟨c, rfl, h1⟩ | ⟨d, rfl, h8⟩⟩ | ⟨r, c, t, rfl, rfl, rfl, rfl, h48, h4, rfl, rfl, h15⟩
  · obtain ⟨g1, g2⟩ := goesV_a (l := [c] ++ t) rfl (b0 hl) h2
    rw [h3] at g1 g2
    exact ⟨g1, g2, rfl⟩
  · obtain ⟨g1, g2⟩ := goesV_a (l := [15, d] ++ t) rfl (b0 hl) rfl
    exact ⟨g1, g2, rfl⟩
  · obtain ⟨e, e0, e1⟩ := rexr_of (b0 hl) h4
    obtain ⟨g1, g2⟩ := goesV_a (l := r :: [c] ++ t) rfl (b0 hl) h100
    rw [h4, cond_true] at g1 g2
    refine ⟨?_, ?_, rfl⟩
    · rw [cond_true, ← e]; exact g1
    · rw [g2]; exact e
  · obtain ⟨e, e0, e1⟩ := rexr_of (b0 hl) h4
    obtain ⟨g1, g2⟩ := goesV_a (l := r :: [15, d] ++ t) rfl (b0 hl) h100
    rw [h4, cond_true] at g1 g2
    refine ⟨?_, ?_, rfl⟩
    · rw [cond_true, ← e]; exact g1
    · rw [g2]; exact e
  · obtain ⟨e, e0, e1⟩ := rexr_of (b0 (b1 hl)) h4
    obtain ⟨g1, g2⟩ := goesV_b (l := 100 :: r :: c :: t) rfl (b0 (b1 hl))
    rw [h4, cond_true] at g1 g2
    refine ⟨?_, ?_, rfl⟩
    · rw [cond_true, ← e]; exact g1
    · rw [g2]; exact e
theorem go_row {l op : List Int} {k : Int} {fs : Bool} {R : Int} {has : Bool} (hl : AllB l) (h : opcP l = .ok (op, k, fs, R, has)) {y : RowX} (hy : y ∈ rowsX) :
    goB l (k - op.length) (cond has (64 + R) (-1)) fs y = and' (cand op fs R has (conv y)) (tlV y.2.1 y.2.2.2.1 (rexO R has) (op.getLastD 0) (l.drop k.toNat)) := by
  obtain ⟨-, g2, g3⟩ := go_split hl h
  obtain ⟨hob, hR, h0, hfs, k0, e1, e2⟩ := opc_split hl h
  rw [goB_pf, g2, g3]
  have hpf : pfG fs (cond has (64 + R) (-1)) y = prefF (conv y) fs R has := by
    have hp := List.all_eq_true.1 pf_all y hy
    obtain ⟨p1, p2⟩ := Bool.and_eq_true_iff.1 hp
    obtain ⟨p3, p4⟩ := Bool.and_eq_true_iff.1 p1
    obtain ⟨p5, p6⟩ := Bool.and_eq_true_iff.1 p2
    cases fs
    · cases has
      · rw [h0 rfl]; exact eq_of_beq p3
      · exact eq_of_beq (all1_of p4 hR.1 hR.2)
    · obtain ⟨rfl, hR'⟩ := hfs rfl
      rcases hR' with rfl | rfl
      · exact eq_of_beq p5
      · exact eq_of_beq p6
  rw [hpf]
  have hoc : ocV y.2.1 y.2.2.2.1 (rexO R has) (opL y.2.2.1) (atX l (k - op.length - 1)) (op ++ l.drop k.toNat) = and' (opensF (conv y) op) (tlV y.2.1 y.2.2.2.1 (rexO R has) (op.getLastD 0) (l.drop k.toNat)) := by
    rcases opc_at hl h with ⟨t, rfl, rfl, rfl, rfl, rfl, ⟨c, rfl, h1, h2, h3⟩ | ⟨d, rfl⟩⟩ | ⟨r, t, rfl, rfl, rfl, h100, h4, rfl, rfl, ⟨c, rfl, h1⟩ | ⟨d, rfl, h8⟩⟩ | ⟨r, c, t, rfl, rfl, rfl, rfl, h48, h4, rfl, rfl, h15⟩
    · exact ocv_one hy (hl c (by simp)) (fun e => by rw [e] at h1; cases h1)
    · exact ocv_two hy (hl d (by simp))
    · exact ocv_one hy (hl c (by simp)) (fun e => by rw [e] at h1; cases h1)
    · exact ocv_two hy (hl d (by simp))
    · exact ocv_one hy (hl c (by simp)) (fun e => by rw [e] at h15; cases h15)
  rw [hoc]
  unfold cand
  cases prefF (conv y) fs R has <;> cases opensF (conv y) op <;> rfl
end Go.Amd

namespace Go.Amd
open Go Go.Ab Go.Proofs
def shD : Except Int (InsT × Int) → Bool
  | .error e => e == 2
  | .ok _ => false
theorem shD_plain (r : RestR) : shD (plainR r) = sh2 r := by
  cases r with
  | ok p => rfl
  | error p => rfl
theorem h6_of {x : RowT} {op : List Int} (hob : OpB op) (hx : x ∈ rowsL) (ho : opensF x op = true) (h6 : formR x = 6) : (op.getD 0 0 == 131) = !(op.getLastD 0 == 129) := by
  rcases hob with ⟨c, hc, rfl⟩ | ⟨c, hc, rfl⟩
  · exact (opb_use (opbC_of hx hc).1 ho).2.2.1 h6
  · exact (opb_use (opbC_of hx hc).2 ho).2.2.1 h6
theorem rowL_of {x : RowT} (hx : x ∈ rowsL) : ∃ y ∈ rowsX, conv y = x := by
  rw [← rows_conv] at hx
  exact List.mem_map.1 hx
theorem modf_ne : ∀ f ∈ formsX, modOf (formC f) = true → (f == 9 || f == 12) = false := by decide
theorem goes_mid {l op : List Int} {k : Int} {fs : Bool} {R : Int} {has : Bool} (hl : AllB l) (h : opcP l = .ok (op, k, fs, R, has)) : goesV l = shD (decQ l) := by
  obtain ⟨g1, -, -⟩ := go_split hl h
  obtain ⟨hob, hR, h0, hfs, k0, -, -⟩ := opc_split hl h
  rw [g1]
  have hd : ∀ c ∈ l.drop k.toNat, IsB c := fun c hc => hl c (List.mem_of_mem_drop hc)
  refine Bool.eq_iff_iff.2 ⟨fun hg => ?_, fun hs => ?_⟩
  · obtain ⟨y, hy, hg⟩ := List.any_eq_true.1 hg
    rw [go_row hl h hy] at hg
    cases hc : cand op fs R has (conv y)
    · rw [hc] at hg; cases hg
    rw [hc] at hg
    have hg : tlV y.2.1 y.2.2.2.1 (rexO R has) (op.getLastD 0) (l.drop k.toNat) = true := hg
    have hxr : conv y ∈ rowsL := by rw [← rows_conv]; exact List.mem_map.2 ⟨y, hy, rfl⟩
    have hx : conv y ∈ cands R op fs has := List.mem_filter.2 ⟨hxr, hc⟩
    obtain ⟨-, hop, -⟩ := cands_of hx
    obtain ⟨c1, c2⟩ := chosen_one hob hR.1 hR.2 hx
    have hy' := hy
    obtain ⟨op', -, hfm⟩ := row_op hy
    obtain ⟨nm, f, o', dg, rx⟩ := y
    unfold decQ
    rw [h]
    simp only
    cases hm : modOf (formC f)
    · have hG : ∃ G, cands R op fs has = conv (nm, f, o', dg, rx) :: G := by
        rcases c1 hm with e | ⟨G, e, -⟩
        · exact ⟨[], e⟩
        · exact ⟨G, e⟩
      obtain ⟨G, hG⟩ := hG
      rw [hG]
      simp only
      rw [show modOf (formR (conv (nm, f, o', dg, rx))) = false from hm, cond_false, shD_plain, ← tl_not (has := has) (p := op.getLastD 0) hfm hm]
      exact hg
    · obtain ⟨r0, G, hG, hm0, hf⟩ := c2 hm
      rw [hG]
      simp only
      rw [hm0, cond_true]
      cases hdr : l.drop k.toNat with
      | nil => rfl
      | cons c t =>
        rw [hdr] at hg hd
        have hc : IsB c := hd c List.mem_cons_self
        have ht : AllB t := fun d hd' => hd d (List.mem_cons_of_mem _ hd')
        rw [tl_mod (op := op) (k := k + 1) (op' := o') (nm := nm) (rx := rx) hfm hm hc ht hR h0 (fun e => h6_of hob hxr hop (by subst e; rfl))] at hg
        cases hfit : fitC c (conv (nm, f, o', dg, rx))
        · rw [hfit] at hg; cases hg
        · rw [hfit] at hg
          unfold decC
          simp only
          rw [hf c hfit]
          simp only
          rw [shD_plain]
          exact hg
  · unfold decQ at hs
    rw [h] at hs
    simp only at hs
    cases hG : cands R op fs has with
    | nil => rw [hG] at hs; cases hs
    | cons r0 G =>
      rw [hG] at hs
      simp only at hs
      have found : ∀ {x : RowT}, x ∈ cands R op fs has → (∀ nm f o' dg rx, x = conv (nm, f, o', dg, rx) → f ∈ formsX → x ∈ rowsL → opensF x op = true → tlV f dg (rexO R has) (op.getLastD 0) (l.drop k.toNat) = true) → rowsX.any (goB l (k - op.length) (cond has (64 + R) (-1)) fs) = true := by
        intro x hx ht
        obtain ⟨hxr, hop, -⟩ := cands_of hx
        have hc := (List.mem_filter.1 hx).2
        obtain ⟨y, hy, rfl⟩ := rowL_of hxr
        refine List.any_eq_true.2 ⟨y, hy, ?_⟩
        rw [go_row hl h hy, hc]
        obtain ⟨-, -, hfm⟩ := row_op hy
        obtain ⟨nm, f, o', dg, rx⟩ := y
        exact ht nm f o' dg rx rfl hfm hxr hop
      cases hm : modOf (formR r0)
      · rw [hm, cond_false, shD_plain] at hs
        refine found (x := r0) (by rw [hG]; exact List.mem_cons_self) ?_
        rintro nm f o' dg rx rfl hfm hxr hop
        rw [tl_not (has := has) (p := op.getLastD 0) (k := k) (op := op) (nm := nm) (op' := o') (rx := rx) hfm hm]
        exact hs
      · rw [hm, cond_true] at hs
        cases hdr : l.drop k.toNat with
        | nil =>
          refine found (x := r0) (by rw [hG]; exact List.mem_cons_self) ?_
          rintro nm f o' dg rx rfl hfm hxr hop
          rw [hdr, tv_nil, modf_ne f hfm hm]
          rfl
        | cons c t =>
          rw [hdr] at hs hd
          unfold decC at hs
          simp only at hs
          have hc : IsB c := hd c List.mem_cons_self
          have ht : AllB t := fun d hd' => hd d (List.mem_cons_of_mem _ hd')
          cases hx : (r0 :: G).find? (fitC c) with
          | none => rw [hx] at hs; cases hs
          | some x =>
            rw [hx] at hs
            simp only at hs
            rw [shD_plain] at hs
            have hfit : fitC c x = true := List.find?_some hx
            have hmem := List.mem_of_find?_eq_some hx
            have hmx : modOf (formR x) = true := by
              by_cases hne : r0 = x
              · rw [← hne]; exact hm
              · exact (cand_apart hob hR.1 hR.2 (by rw [hG]; exact List.mem_cons_self) (by rw [hG]; exact hmem) hne).2.1
            refine found (x := x) (by rw [hG]; exact hmem) ?_
            rintro nm f o' dg rx rfl hfm hxr hop
            rw [hdr, tl_mod (op := op) (k := k + 1) (op' := o') (nm := nm) (rx := rx) hfm hmx hc ht hR h0 (fun e => h6_of hob hxr hop (by subst e; rfl)), hfit]
            exact hs
theorem any_pf {l : List Int} {k r : Int} {fs : Bool} (h : rowsX.all (fun y => !(pfG fs r y)) = true) : rowsX.any (goB l k r fs) = false := by
  refine List.any_eq_false.2 fun y hy => ?_
  have h1 : pfG fs r y = false := by simpa using List.all_eq_true.1 h y hy
  rw [goB_pf, h1]
  exact Bool.false_ne_true
theorem any_on {l : List Int} {k r : Int} {fs : Bool} (hd : l.drop k.toNat = []) (h : rowsX.any (pfG fs r) = true) : rowsX.any (goB l k r fs) = true := by
  obtain ⟨y, hy, h1⟩ := List.any_eq_true.1 h
  refine List.any_eq_true.2 ⟨y, hy, ?_⟩
  rw [goB_pf, h1, hd, ocv_nil hy]
  rfl
theorem any_15 {l : List Int} {k r : Int} {fs : Bool} (hd : l.drop k.toNat = [15]) (h : rowsX.any (fun y => and' (pfG fs r y) (and' (two y) (oc1 y 15))) = true) : rowsX.any (goB l k r fs) = true := by
  obtain ⟨y, hy, h1⟩ := List.any_eq_true.1 h
  refine List.any_eq_true.2 ⟨y, hy, ?_⟩
  rw [goB_pf, hd, ocv_15 hy]
  cases h2 : pfG fs r y
  · rw [h2] at h1; cases h1
  · rw [h2] at h1
    cases h3 : two y
    · rw [h3] at h1; cases h1
    · rw [h3] at h1; exact h1
theorem any_15f {l t : List Int} {k r : Int} {fs : Bool} (hd : l.drop k.toNat = 15 :: t) (h : rowsX.all (fun y => !(and' (pfG fs r y) (oc1 y 15))) = true) : rowsX.any (goB l k r fs) = false := by
  refine List.any_eq_false.2 fun y hy => ?_
  have h1 : and' (pfG fs r y) (oc1 y 15) = false := by simpa using List.all_eq_true.1 h y hy
  rw [goB_pf, hd]
  cases h2 : pfG fs r y
  · exact Bool.false_ne_true
  · rw [h2] at h1
    rw [ocv_off hy h1]
    exact Bool.false_ne_true
theorem goesV_nil : goesV [] = true := by kernel_rfl
theorem goesV_fs : goesV [100] = true := by kernel_rfl
theorem e22 : ((22 : Int) == 2) = false := rfl
theorem e2 : ((2 : Int) == 2) = true := rfl
theorem goes_is {l : List Int} (hl : AllB l) : goesV l = shD (decQ l) := by
  cases ho : opcP l with
  | ok p =>
    obtain ⟨op, k, fs, R, has⟩ := p
    exact goes_mid hl ho
  | error p =>
    obtain ⟨e, s⟩ := p
    have hdec : decQ l = .error e := by unfold decQ; rw [ho]
    rw [hdec]
    show goesV l = (e == 2)
    have b0 : ∀ {c : Int} {t : List Int}, AllB (c :: t) → IsB c := fun h => h _ List.mem_cons_self
    have b1 : ∀ {c : Int} {t : List Int}, AllB (c :: t) → AllB t := fun h d hd => h d (List.mem_cons_of_mem _ hd)
    have er : ∀ {e' : Int} {s' : Int × Bool × Int × Bool}, (Except.error (e', s') : OpR) = .error (e, s) → e = e' := fun h => by cases h; rfl
    cases l with
    | nil => rw [er ho, goesV_nil, e2]
    | cons c t =>
      unfold opcP opc0 at ho
      simp only at ho
      cases h100 : (c == 100)
      · obtain ⟨g1, -⟩ := goesV_a (l := c :: t) rfl (b0 hl) h100
        rw [g1]
        rw [h100, cond_false] at ho
        cases h4 : (sh4 c == 4)
        · rw [h4, cond_false] at ho
          rw [cond_false]
          cases h15 : (c != 15)
          · rw [h15, cond_false] at ho
            have hc := bne_tt h15
            subst hc
            cases t with
            | nil => rw [er ho, e2]; exact any_15 (k := 0) rfl fr_0
            | cons d t => cases ho
          · rw [h15] at ho; cases ho
        · rw [h4, cond_true] at ho
          rw [cond_true]
          cases t with
          | nil =>
            rw [er ho, e2]
            have := all2_b (p := fun c => cond (sh4 c == 4) (rowsX.any (pfG false c)) true) fr_rex (b0 hl)
            rw [h4] at this
            exact any_on (k := 1) rfl this
          | cons d t =>
            simp only at ho
            unfold opc2 at ho
            have fw := all2_b (p := fun c => cond (sh4 c == 4) (cond (and8 (and8 c 15) 8 != 0) (rowsX.any fun y => and' (pfG false c y) (and' (two y) (oc1 y 15))) (rowsX.all fun y => !(and' (pfG false c y) (oc1 y 15)))) true) fr_w (b0 hl)
            rw [h4, cond_true] at fw
            cases h15 : (d != 15)
            · rw [h15, cond_false] at ho
              have hc := bne_tt h15
              subst hc
              cases h8 : (and8 (and8 c 15) 8 != 0)
              · rw [h8] at ho fw
                rw [er ho, e22]
                exact any_15f (k := 1) (t := t) rfl fw
              · rw [h8] at ho fw
                cases t with
                | nil => rw [er ho, e2]; exact any_15 (k := 1) rfl fw
                | cons e t => cases ho
            · rw [h15] at ho; cases ho
      · rw [h100, cond_true] at ho
        have hc := eq_of_beq h100
        subst hc
        cases t with
        | nil => rw [er ho, goesV_fs, e2]
        | cons d t =>
          simp only at ho
          unfold opc1 at ho
          have hd : IsB d := b0 (b1 hl)
          obtain ⟨g1, -⟩ := goesV_b (l := 100 :: d :: t) rfl hd
          rw [g1]
          have ff := all2_b (p := fun c => cond (sh4 c == 4) (cond (and8 c 251 == 72) (rowsX.any (pfG true c) && rowsX.all fun y => !(and' (pfG true c y) (oc1 y 15))) (rowsX.all fun y => !(pfG true c y))) true) fr_fs hd
          cases h48 : (and8 d 251 == 72)
          · rw [h48] at ho ff
            rw [er ho, e22]
            cases h4 : (sh4 d == 4)
            · rw [cond_false]
              exact any_pf fr_fs0
            · rw [h4, cond_true, cond_false] at ff
              rw [cond_true]
              exact any_pf ff
          · have h4 : (sh4 d == 4) = true := by
              have := all1_of fs_all hd.1 hd.2
              rw [h48, cond_true] at this
              exact (Bool.and_eq_true_iff.1 this).1
            rw [h48, h4] at ho ff
            rw [h4, cond_true]
            obtain ⟨f1, f2⟩ := Bool.and_eq_true_iff.1 ff
            have ho : (match t with
              | [] => (.error (2, 2, true, and8 d 15, true) : OpR)
              | d' :: _ => cond (d' != 15) (.ok ([d'], 3, true, and8 d 15, true)) (.error (22, 3, true, and8 d 15, true))) = .error (e, s) := ho
            cases t with
            | nil => rw [er ho, e2]; exact any_on (k := 2) rfl f1
            | cons c2 t =>
              simp only at ho
              cases h15 : (c2 != 15)
              · rw [h15, cond_false] at ho
                rw [er ho, e22]
                have hc := bne_tt h15
                subst hc
                exact any_15f (k := 2) (t := t) rfl f2
              · rw [h15] at ho; cases ho
end Go.Amd

namespace Go.Amd
open Go Go.Ab Go.Proofs
def Err2P (F : List Int → Int → RestR) : Prop := ∀ t k e m, F t k = .error (e, m) → e = 2 ∨ e = 22
theorem er2_fin (x : RowT) (i : InsT) : Err2P fun _ k => finQ x i k := by
  intro t k e m h
  have h : finQ x i k = .error (e, m) := h
  unfold finQ at h
  cases hc : (!(faultyF x i == 0))
  · rw [hc] at h; cases h
  · rw [hc, cond_true] at h; cases h; exact .inr rfl
theorem er2_must {b : Bool} {F : List Int → Int → RestR} (h : Err2P F) : Err2P fun t k => mustQ b k (F t k) := by
  intro t k e m he
  cases b
  · cases he; exact .inr rfl
  · exact h t k e m he
theorem er2_cond {b : Bool} {F G : List Int → Int → RestR} (h : Err2P F) (g : Err2P G) : Err2P fun t k => cond b (F t k) (G t k) := by
  cases b
  · exact g
  · exact h
theorem er2_nx {K : Int → List Int → Int → RestR} (h : ∀ c, Err2P (K c)) : Err2P fun t k => nxQ t k K := by
  intro t k e m he
  cases t with
  | nil => cases he; exact .inl rfl
  | cons c t => exact h c t (k + 1) e m he
theorem er2_num1 {K : Int → List Int → Int → RestR} (h : ∀ c, Err2P (K c)) : Err2P fun t k => num1Q t k K := er2_nx fun _ => h _
theorem er2_num4 {K : Int → List Int → Int → RestR} (h : ∀ c, Err2P (K c)) : Err2P fun t k => num4Q t k K := er2_nx fun _ => er2_nx fun _ => er2_nx fun _ => er2_nx fun _ => h _
theorem er2_num8 {K : Int → List Int → Int → RestR} (h : ∀ c, Err2P (K c)) : Err2P fun t k => num8Q t k K :=
  er2_nx fun _ => er2_nx fun _ => er2_nx fun _ => er2_nx fun _ => er2_nx fun _ => er2_nx fun _ => er2_nx fun _ => er2_nx fun _ => h _
theorem er2_22 : Err2P fun _ k => .error (22, k) := fun t k e m h => by cases h; exact .inr rfl
theorem er2_mod (c b : Int) {K : Int → List Int → Int → RestR} (h : ∀ c, Err2P (K c)) : Err2P fun t k => modQ c b t k K :=
  er2_cond (er2_num1 fun n => er2_cond (h n) (er2_must (h n))) (er2_cond (er2_num4 fun n => er2_must (h n)) (h 0))
theorem er2_sib2 (R c e : Int) {K : PlaceK} (h : ∀ b cc d n, Err2P (K b cc d n)) : Err2P fun t k => sibQ2 R c e t k K :=
  er2_cond (er2_cond (er2_must (er2_mod _ _ fun n => h _ _ _ n)) er2_22) (er2_mod _ _ fun n => h _ _ _ n)
theorem er2_sib (R c : Int) {K : PlaceK} (h : ∀ b cc d n, Err2P (K b cc d n)) : Err2P fun t k => sibQ R c t k K :=
  er2_nx fun e => er2_cond (er2_sib2 R c e h) (er2_must (er2_sib2 R c e h))
theorem er2_base (R c : Int) {K : PlaceK} (h : ∀ b cc d n, Err2P (K b cc d n)) : Err2P fun t k => baseQ R c t k K :=
  er2_cond (er2_sib R c h) (er2_must (er2_mod _ _ fun n => h _ _ _ n))
theorem er2_place (R c : Int) {K : PlaceK} (h : ∀ b cc d n, Err2P (K b cc d n)) : Err2P fun t k => placeQ R c t k K :=
  er2_cond (er2_cond (er2_must (er2_num4 fun n => h _ _ _ n)) (er2_base R c h)) (er2_base R c h)
theorem er2_form (f R : Int) (x : RowT) (op : List Int) (c d : Int) : Err2P fun t k => formQ f R x op c t k d := by
  unfold formQ lastQ
  refine er2_cond (er2_fin x _) (er2_cond (er2_fin x _) (er2_cond (er2_num8 fun n => er2_fin x _) (er2_cond (er2_fin x _) (er2_cond (er2_num4 fun n => er2_fin x _) (er2_cond (er2_num1 fun n => er2_fin x _)
    (er2_cond (er2_cond (er2_num1 fun n => er2_fin x _) (er2_num4 fun n => er2_must (er2_fin x _))) (er2_cond (er2_fin x _) (er2_cond (er2_fin x _) (er2_cond (er2_place R c fun b cc d n => er2_fin x _)
    (er2_cond (er2_nx fun e => er2_must (er2_num4 fun n => er2_fin x _)) (er2_cond (er2_num4 fun n => er2_fin x _) (er2_num1 fun n => er2_fin x _))))))))))))
theorem er2_rest (R : Int) (x : RowT) (op : List Int) (c : Int) : Err2P fun t k => restQ R x op c t k := by
  unfold restQ lastQ
  exact er2_cond (er2_form _ R x op c _) (er2_form _ R x op c 0)
theorem er2_opc {l : List Int} {e : Int} {s : Int × Bool × Int × Bool} (h : opcP l = .error (e, s)) : (e = 2 ∧ l.length ≤ 2) ∨ e = 22 := by
  have er : ∀ {e' : Int} {s' : Int × Bool × Int × Bool}, (Except.error (e', s') : OpR) = .error (e, s) → e = e' := fun h => by cases h; rfl
  cases l with
  | nil => exact .inl ⟨er h, by simp⟩
  | cons c t =>
    unfold opcP opc0 at h
    simp only at h
    cases h0 : (c == 100)
    · rw [h0, cond_false] at h
      cases h4 : (sh4 c == 4)
      · rw [h4, cond_false] at h
        cases h15 : (c != 15)
        · rw [h15, cond_false] at h
          cases t with
          | nil => exact .inl ⟨er h, by simp⟩
          | cons d t => cases h
        · rw [h15] at h; cases h
      · rw [h4, cond_true] at h
        cases t with
        | nil => exact .inl ⟨er h, by simp⟩
        | cons d t =>
          simp only at h
          unfold opc2 at h
          cases h15 : (d != 15)
          · rw [h15, cond_false] at h
            cases h8 : (!(and8 (and8 c 15) 8 != 0))
            · rw [h8, cond_false] at h
              cases t with
              | nil => exact .inl ⟨er h, by simp⟩
              | cons e t => cases h
            · rw [h8, cond_true] at h; exact .inr (er h)
          · rw [h15] at h; cases h
    · rw [h0, cond_true] at h
      cases t with
      | nil => exact .inl ⟨er h, by simp⟩
      | cons d t =>
        simp only at h
        unfold opc1 at h
        cases h48 : (!(and8 d 251 == 72))
        · rw [h48, cond_false] at h
          cases h4 : (sh4 d == 4)
          · rw [h4, cond_false] at h
            cases h15 : (d != 15)
            · rw [h15, cond_false] at h; exact .inr (er h)
            · rw [h15] at h; cases h
          · rw [h4, cond_true] at h
            cases t with
            | nil => exact .inl ⟨er h, by simp⟩
            | cons e t =>
              simp only at h
              cases h15 : (e != 15)
              · rw [h15, cond_false] at h; exact .inr (er h)
              · rw [h15] at h; cases h
        · rw [h48, cond_true] at h; exact .inr (er h)
theorem dec_2_22 {l : List Int} {e : Int} (h : decQ l = .error e) : e = 2 ∨ e = 22 := by
  unfold decQ at h
  cases ho : opcP l with
  | error p =>
    obtain ⟨e', s⟩ := p
    rw [ho] at h
    cases h
    rcases er2_opc ho with ⟨h, -⟩ | h
    · exact .inl h
    · exact .inr h
  | ok p =>
    obtain ⟨op, k, fs, R, has⟩ := p
    rw [ho] at h
    simp only at h
    cases hc : cands R op fs has with
    | nil => rw [hc] at h; cases h; exact .inr rfl
    | cons r0 G =>
      rw [hc] at h
      simp only at h
      cases hm : modOf (formR r0)
      · rw [hm, cond_false] at h
        obtain ⟨m, h⟩ := plain_err h
        exact er2_rest R r0 op 0 _ _ _ _ h
      · rw [hm, cond_true] at h
        cases hd : l.drop k.toNat with
        | nil => rw [hd] at h; cases h; exact .inl rfl
        | cons c t =>
          rw [hd] at h
          unfold decC at h
          simp only at h
          cases hx : (r0 :: G).find? (fitC c) with
          | none => rw [hx] at h; cases h; exact .inr rfl
          | some x =>
            rw [hx] at h
            obtain ⟨m, h⟩ := plain_err h
            exact er2_rest R x op c _ _ _ _ h
theorem ltN_len {t : List Int} {n : Int} (h : ltN t n = true) : (t.length : Int) < n := of_decide_eq_true h
theorem szP_le (m : Int) : szP m ≤ 4 := by
  unfold szP
  cases (m == 2)
  · cases (m == 1)
    · show (0 : Int) ≤ 4; decide
    · show (1 : Int) ≤ 4; decide
  · show (4 : Int) ≤ 4; decide
theorem plT2_len {x m : Int} {t : List Int} (h : plT2 x m (szP m) t = true) : t.length ≤ 4 := by
  cases t with
  | nil => simp
  | cons e t =>
    have h : cond (cond (cond (m == 0) (and8 e 7 == 5) false) true (cond (cond (and8 (Int.fdiv e (2 ^ 3)) 7 == 4) (x == 0) false) (cond (and8 e 7 != 4) true (Int.fdiv e (2 ^ 6) != 0)) false)) false (ltN t (szP m)) = true := h
    generalize cond (cond (m == 0) (and8 e 7 == 5) false) true _ = b at h
    cases b
    · have := ltN_len h
      have := szP_le m
      simp only [List.length_cons]
      omega
    · cases h
theorem plV_len {r c : Int} {t : List Int} (h : plV r c t = true) : t.length ≤ 4 := by
  unfold plV at h
  cases h1 : (Int.fdiv c (2 ^ 6) == 3)
  · rw [h1, cond_false] at h
    cases h2 : (cond (Int.fdiv c (2 ^ 6) == 0) (and8 c 7 == 5) false)
    · rw [h2, cond_false] at h
      cases h3 : (and8 c 7 != 4)
      · rw [h3, cond_false] at h
        exact plT2_len h
      · rw [h3, cond_true] at h
        cases h4 : (and8 (Int.fdiv r (2 ^ 1)) 1 == 0)
        · rw [h4] at h; cases h
        · rw [h4, cond_true] at h
          have := ltN_len h
          have := szP_le (Int.fdiv c (2 ^ 6))
          omega
    · rw [h2, cond_true] at h
      cases h4 : (and8 r 3 == 0)
      · rw [h4] at h; cases h
      · rw [h4, cond_true] at h
        have := ltN_len h
        omega
  · rw [h1] at h; cases h
theorem and_r {a b : Bool} (h : and' a b = true) : b = true := by
  cases a
  · cases h
  · exact h
theorem ltC_len {t : List Int} {n : Int} (h : ltC t n = true) : (t.length : Int) + 1 < n := of_decide_eq_true h
theorem tlV_len {f dg r p : Int} {t : List Int} (hf : f ∈ formsX) (h : tlV f dg r p t = true) : (f = 2 ∧ t.length ≤ 7) ∨ t.length ≤ 5 := by
  cases t with
  | nil => exact .inr (by simp)
  | cons c t =>
    have lt : ∀ {n : Int}, ltC t n = true → n ≤ 6 → (c :: t).length ≤ 5 := by
      intro n h hn
      have := ltC_len h
      simp only [List.length_cons]
      omega
    simp only [formsX, List.mem_cons, List.not_mem_nil, or_false] at hf
    rcases hf with rfl | rfl | rfl | rfl | rfl | rfl | rfl | rfl | rfl | rfl | rfl | rfl | rfl | rfl | rfl | rfl
    · rw [tv_1] at h; exact .inr (lt (and_r h) (by decide))
    · rw [tv_2] at h
      have := ltC_len h
      exact .inl ⟨rfl, by simp only [List.length_cons]; omega⟩
    · rw [tv_3] at h; exact .inr (lt (and_r h) (by decide))
    · rw [tv_4] at h
      have := plV_len h
      exact .inr (by simp only [List.length_cons]; omega)
    · rw [tv_5] at h
      have h := and_r h
      cases h2 : ltC t 2
      · rw [h2, cond_false] at h; exact .inr (lt (and_r h) (by decide))
      · exact .inr (lt h2 (by decide))
    · rw [tv_6] at h
      cases h2 : (p == 129)
      · rw [h2, cond_false] at h; exact .inr (lt (and_r h) (by decide))
      · rw [h2, cond_true] at h; exact .inr (lt (and_r h) (by decide))
    · rw [tv_7] at h; exact .inr (lt (and_r h) (by decide))
    · rw [tv_8] at h; exact .inr (lt (and_r h) (by decide))
    · rw [tv_9] at h; cases h
    · rw [tv_10] at h; exact .inr (lt (and_r h) (by decide))
    · rw [tv_11] at h; exact .inr (lt (and_r h) (by decide))
    · rw [tv_12] at h; cases h
    · rw [tv_13] at h; exact .inr (lt h (by decide))
    · rw [tv_14] at h; exact .inr (lt h (by decide))
    · rw [tv_15] at h; exact .inr (lt h (by decide))
    · rw [tv_16] at h; exact .inr (lt h (by decide))
theorem immX_all : rowsX.all (fun y => cond (y.2.1 == 2) (!(decide (255 < (conv y).2.2.1))) true) = true := by kernel_rfl
theorem err2_len {l : List Int} (hl : AllB l) (h : decQ l = .error 2) : l.length < 10 := by
  cases ho : opcP l with
  | error p =>
    obtain ⟨e', s⟩ := p
    have h' := h
    unfold decQ at h'
    rw [ho] at h'
    cases h'
    rcases er2_opc ho with ⟨-, h⟩ | h
    · omega
    · cases h
  | ok p =>
    obtain ⟨op, k, fs, R, has⟩ := p
    have hg := goes_is hl
    rw [h] at hg
    have hg : goesV l = true := hg
    obtain ⟨g1, -, -⟩ := go_split hl ho
    obtain ⟨hob, hR, h0, hfs, k0, e1, e2⟩ := opc_split hl ho
    rw [g1] at hg
    obtain ⟨y, hy, hg⟩ := List.any_eq_true.1 hg
    rw [go_row hl ho hy] at hg
    cases hc : cand op fs R has (conv y)
    · rw [hc] at hg; cases hg
    rw [hc] at hg
    have hg : tlV y.2.1 y.2.2.2.1 (rexO R has) (op.getLastD 0) (l.drop k.toNat) = true := hg
    obtain ⟨-, -, hfm⟩ := row_op hy
    have hlen : l.length = k.toNat + (l.drop k.toNat).length ∨ (l.drop k.toNat).length = 0 := by rw [List.length_drop]; omega
    have hk3 : k ≤ 3 ∧ (op.length = 1 → k ≤ 2 ∨ fs = true) := by
      rcases hob with ⟨c, -, rfl⟩ | ⟨c, -, rfl⟩
      · rw [e2]
        cases fs <;> cases has <;> simp
      · cases fs
        · rw [e2]
          cases has <;> simp
        · exfalso
          rcases opc_at hl ho with ⟨t, -, -, h, -⟩ | ⟨r, t, -, -, h, -⟩ | ⟨r, c', t, -, h, -⟩
          · cases h
          · cases h
          · cases h
    have hll : (l.length : Int) = k + ((l.drop k.toNat).length : Int) := by
      have := congrArg List.length e1
      rw [List.length_append] at this
      omega
    rcases tlV_len hfm hg with ⟨h2, h3⟩ | h3
    · have hxr : conv y ∈ rowsL := by rw [← rows_conv]; exact List.mem_map.2 ⟨y, hy, rfl⟩
      obtain ⟨-, hop, hpf⟩ := cands_of (List.mem_filter.2 ⟨hxr, hc⟩)
      have hi := List.all_eq_true.1 immX_all y hy
      rw [h2] at hi
      have hi : decide (255 < (conv y).2.2.1) = false := by simpa using hi
      have hlen1 : op.length = 1 := by
        rcases hob with ⟨c, hc', rfl⟩ | ⟨c, hc', rfl⟩
        · rfl
        · have := (opb_use (opbC_of hxr hc').2 hop).2.2.2
          rw [hi] at this
          exact this
      rcases hk3.2 hlen1 with h4 | h4
      · omega
      · exfalso
        subst h4
        unfold prefF at hpf
        rw [show formR (conv y) = 2 from by show formC y.2.1 = 2; rw [h2]; rfl] at hpf
        cases hpf
    · omega
end Go.Amd

namespace Go.Amd
open Go Go.Ab Go.Proofs
theorem dec_ten {y : List Int} (hy : AllB y) {i : InsT} {n : Int} : decQ (y.take 10) = .ok (i, n) ↔ decQ y = .ok (i, n) := by
  have ht : AllB (y.take 10) := fun c hc => hy c (List.mem_of_mem_take hc)
  constructor
  · intro h
    obtain ⟨e, e2, e3, e4⟩ := enc_dec ht h
    have e5 : encL i = y.take n.toNat := by
      rw [e2, List.take_take]
      congr 1
      rw [List.length_take] at e4
      omega
    have e6 : ((encL i).length : Int) = n := by
      rw [e5, List.length_take]
      rw [List.length_take] at e4
      omega
    rw [← List.take_append_drop n.toNat y, ← e5, dec_enc e, e6]
  · intro h
    obtain ⟨e, e2, e3, e4⟩ := enc_dec hy h
    obtain ⟨-, -, h10⟩ := enc_bytes e
    have e6 : ((encL i).length : Int) = n := by
      rw [e2, List.length_take]
      omega
    have e7 : y.take 10 = encL i ++ (y.take 10).drop n.toNat := by
      have : encL i = (y.take 10).take n.toNat := by
        rw [List.take_take, e2]
        congr 1
        omega
      rw [this, List.take_append_drop]
    rw [e7, dec_enc e, e6]
theorem okQ_ok {x : List Int} (h : okQ x = true) : ∃ i n, decQ x = .ok (i, n) ∧ insQ x = i ∧ lenQ x = n := by
  unfold okQ at h
  unfold insQ lenQ
  cases hd : decQ x with
  | ok p => exact ⟨p.1, p.2, rfl, rfl, rfl⟩
  | error e => rw [hd] at h; cases h
theorem okQ_no {x : List Int} (h : okQ x = false) : ∃ e, decQ x = .error e := by
  unfold okQ at h
  cases hd : decQ x with
  | ok p => rw [hd] at h; cases h
  | error e => exact ⟨e, rfl⟩
def dxA (x : List Int) : InsT × Int × Int := cond (okQ x) (insQ x, lenQ x, 0) (zeroI, 0, cond (decide ((x.length : Int) < 10)) (cond (goesV x) 2 22) 22)
theorem dxA_is {y : List Int} (hy : AllB y) : dxA (y.take 10) = (match decQ y with | .ok (i, _) => i | .error _ => zeroI, match decQ y with | .ok (_, n) => n | .error _ => 0, match decQ y with | .ok _ => 0 | .error e => e) := by
  have ht : AllB (y.take 10) := fun c hc => hy c (List.mem_of_mem_take hc)
  unfold dxA
  cases hk : okQ (y.take 10)
  · obtain ⟨e, he⟩ := okQ_no hk
    cases hd : decQ y with
    | ok p =>
      obtain ⟨i, n⟩ := p
      rw [(dec_ten hy).2 hd] at he
      cases he
    | error e' =>
      have h2 := dec_2_22 hd
      show (zeroI, (0 : Int), _) = (zeroI, (0 : Int), e')
      congr 2
      by_cases hl : y.length < 10
      · have ey : y.take 10 = y := List.take_of_length_le (by omega)
        rw [ey, decide_eq_true (show (y.length : Int) < 10 by omega), goes_is hy, hd]
        rcases h2 with rfl | rfl <;> rfl
      · have : ¬ (((y.take 10).length : Int) < 10) := by rw [List.length_take]; omega
        rw [decide_eq_false this]
        rcases h2 with rfl | rfl
        · exact absurd (err2_len hy hd) hl
        · rfl
  · obtain ⟨i, n, h1, h2, h3⟩ := okQ_ok hk
    rw [h2, h3, (dec_ten hy).1 h1]
    rfl
noncomputable def cx12 : Cx := { P := Try.prog, n := 46, tab := [(23, wholeS), (24, goesS)], mtab := [], refs := [], keeps := [0, 1, 4, 5, 6, 7, 8, 9, 10, 18, 25, 34, 43] }
def dxV (a : InsT × Int × Int) : V := .tup [insV a.1, .int .i64 a.2.1, .int .i64 a.2.2]
def dxK (x : List Int) : Option V := cond (byteL x) (cond (okQ x) (some (dxV (insQ x, lenQ x, 0))) (cond (decide ((x.length : Int) < 10)) (cond (decide (x.length < 1000)) (cond (goesV x) (some (dxV (zeroI, 0, 2))) (some (dxV (zeroI, 0, 22)))) none) (some (dxV (zeroI, 0, 22))))) none
def dxH (l sp : List Int) (n : Int) : Option V :=
  cond (decide (n < 0)) (some (dxV (zeroI, 0, 5))) (cond (decide ((l.length : Nat) < n)) (some (dxV (zeroI, 0, 5))) (cond (decide (0 ≤ n) && decide (n ≤ (l.length : Nat))) (cond (decide (10 < ((l.drop n.toNat).length : Int)))
    (cond (decide (10 ≤ (((l.drop n.toNat).length + sp.length : Nat) : Int))) (dxK (sub (l.drop n.toNat ++ sp) 0 10)) none) (dxK (l.drop n.toNat))) none))
theorem dxH_eq (l sp : List Int) (fl : Fl) (n : Int) : (dfun cx12 Try.f12 [.sl (.int .u8) l sp fl, .int .i64 n]).fin = dxH l sp n := by kernel_rfl
theorem dxK_run {x : List Int} (hb : AllB x) (hl : x.length ≤ 10) : dxK x = some (dxV (dxA x)) := by
  unfold dxK dxA
  rw [byteL_of hb, decide_eq_true (show x.length < 1000 by omega)]
  cases okQ x
  · cases decide ((x.length : Int) < 10)
    · rfl
    · cases goesV x <;> rfl
  · rfl
theorem decX_ok {l sp : List Int} {n : Int} (hb : AllB l) : dxH l sp n = some (.tup [insV (dI l n), .int .i64 (dN l n), .int .i64 (dE l n)]) := by
  unfold dxH dI dN dE outOf
  by_cases h0 : n < 0
  · rw [decide_eq_true h0]; rfl
  · rw [decide_eq_false h0, cond_false, Bool.false_or]
    by_cases h1 : (l.length : Int) < n
    · rw [decide_eq_true h1]; rfl
    · rw [decide_eq_false h1]
      simp only [cond_false]
      rw [show (decide (0 ≤ n) && decide (n ≤ (l.length : Int))) = true by simp; omega, cond_true]
      have hd : AllB (l.drop n.toNat) := fun c hc => hb c (List.mem_of_mem_drop hc)
      have key : ∀ x, x = (l.drop n.toNat).take 10 → dxK x = some (.tup [insV (match decQ (l.drop n.toNat) with | .ok (i, _) => i | .error _ => zeroI), .int .i64 (match decQ (l.drop n.toNat) with | .ok (_, n) => n | .error _ => 0), .int .i64 (match decQ (l.drop n.toNat) with | .ok _ => 0 | .error e => e)]) := by
        rintro x rfl
        rw [dxK_run (fun c hc => hd c (List.mem_of_mem_take hc)) (by rw [List.length_take]; omega), dxA_is hd]
        rfl
      by_cases h10 : 10 < ((l.drop n.toNat).length : Int)
      · rw [decide_eq_true h10, decide_eq_true (show 10 ≤ (((l.drop n.toNat).length + sp.length : Nat) : Int) by omega)]
        refine key _ ?_
        unfold sub
        rw [List.drop_zero, List.take_append_of_le_length (by omega)]
      · rw [decide_eq_false h10]
        exact key _ (List.take_of_length_le (by omega)).symm
theorem decXT_ok : Sound Try.prog 12 decodeT := by
  intro args out h
  unfold decodeT at h
  split at h
  rotate_left
  · cases h
  rename_i l sp fl n
  obtain ⟨h1, h⟩ := req_run h
  obtain ⟨h2, h⟩ := req_run h
  have h := leaf_out h
  subst h
  exact pcall_fun' (cx := cx12) (fn := Try.f12) (cx1_ok (.cons wholeS_ok (ok1 goesS_ok)) (.nil _) rfl rfl) (by kernel_rfl) (by kernel_rfl) (by kernel_rfl) ((Tree.fin_run _).symm.trans ((dxH_eq l sp fl n).trans (decX_ok (bytesB_of h2))))
end Go.Amd
