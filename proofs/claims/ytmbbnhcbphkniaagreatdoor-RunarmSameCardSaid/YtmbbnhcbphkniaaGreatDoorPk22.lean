/-
  runarm: stp and ldp, by their own texts. Conditions: none.
-/
import Derived.Test.YtmbbnhcbphkniaaGreatDoorPk11
import Derived.Test.YtmbbnhcbphkniaaGreatDoorPk20
import Derived.Test.YtmbbnhcbphkniaaGreatDoorPk16
import Derived.Test.YtmbbnhcbphkniaaGreatDoorPk10
import Derived.Test.YtmbbnhcbphkniaaGreatDoorRf2
import Derived.Test.YtmbbnhcbphkniaaGreatDoorPk12
set_option linter.unusedVariables false
set_option linter.unusedSimpArgs false
namespace Go.Ra
open Go Go.Ab Go.Proofs
noncomputable def cx45 : Cx := { P := Tryz.prog, n := 27, tab := [], mtab := [(34, noneM)], refs := [], keeps := [0, 1, 4, 16] }
theorem rights_eq (a b c d e : List Int) (x : Int) : (mfun cx45 Tryz.f45 [.ptr 0 0, .int .u64 x] (memO a b c d e)).fin =
    pgR (pgF x) (fun _ => pgR (pgF x) (fun R => some (.ok (.int .i64 R) (memO a b c d e))) none) (some (.ok (.int .i64 0) (memO a b c d e))) := by kernel_rfl
def rightF (x : Int) : Int := pgR (pgF x) (fun R => R) 0
def rightsM : MSpec := fun args H => match args with
  | [.ptr 0 0, .int .u64 x] => memM (fun a b c d e => .leaf (.ok (.int .i64 (rightF x)) (memO a b c d e))) H
  | _ => .fail
theorem rightsM_ok : MSound Tryz.prog 45 rightsM := by
  intro args H out h
  unfold rightsM at h
  split at h
  rotate_left
  · cases h
  rename_i x
  obtain ⟨a, b, c, d, e, rfl, hl, h⟩ := memM_run h
  cases h
  refine msound_fun (cx := cx45) (fn := Tryz.f45) (cx1_ok (.nil _) (.cons noneM_ok fun p h => by cases h) rfl rfl) (by kernel_rfl) (by kernel_rfl) _ _ _ ?_
  refine run_req (by kernel_rfl) ?_
  rw [← Tree.fin_run, rights_eq]
  unfold rightF pgR
  cases pgF x == 1 <;> cases pgF x == 2 <;> cases pgF x == 16 <;> cases pgF x == 17 <;> cases pgF x == 32 <;> rfl
end Go.Ra

namespace Go.Ra
open Go Go.Ab Go.Proofs
noncomputable def rfB : Tabs := { rtab := [(67, findR), (69, canR), (138, getRf)], mtab := [(70, putRf)] }
theorem rfB_ok : rfB.Ok Tryz.prog := ⟨.nil _, .cons putRf_ok (.nil _), .cons findR_ok (.cons canR_ok (.cons getRf_ok (.nil _))), fun p h => by cases h⟩
noncomputable def rfT_ps : List Fi := [⟨133, Tryz.f133, [0, 2], [], 0, []⟩, ⟨134, Tryz.f134, [0, 2, 3, 4, 9], [], 9, []⟩, ⟨136, Tryz.f136, [0, 1, 4, 5, 6, 9], [], 9, []⟩]
theorem rfT_ps_ok : FisOk Tryz.prog rfT_ps := ⟨⟨by kernel_rfl, by kernel_rfl⟩, ⟨by kernel_rfl, by kernel_rfl⟩, ⟨by kernel_rfl, by kernel_rfl⟩, trivial⟩
noncomputable def rfT_ms : List Fi := [⟨102, Tryz.f102, [0, 1, 2, 6, 7, 8, 11], [], 9, []⟩, ⟨32, Tryz.f32, [0, 1, 2, 6, 7, 13, 17], [], 9, []⟩]
theorem rfT_ms_ok : FisOk Tryz.prog rfT_ms := ⟨⟨by kernel_rfl, by kernel_rfl⟩, ⟨by kernel_rfl, by kernel_rfl⟩, trivial⟩
noncomputable def rfT (d : Nat) : Tabs := deep Tryz.prog rfB rfT_ps rfT_ms d
theorem rfT_ok (d : Nat) : (rfT d).Ok Tryz.prog := deep_ok rfB_ok rfT_ps_ok rfT_ms_ok d
noncomputable def cxRl : Cx := { P := Tryz.prog, n := Tryz.f98.ntmps, tab := (rfT 1).tab, mtab := (rfT 1).mtab, rtab := (rfT 1).rtab, refs := [], keeps := [0, 1, 2, 6, 7, 10, 15] }
noncomputable def cxRs : Cx := { P := Tryz.prog, n := Tryz.f100.ntmps, tab := (rfT 1).tab, mtab := (rfT 1).mtab, rtab := (rfT 1).rtab, refs := [], keeps := [0, 1, 2, 3, 8, 11, 16] }
noncomputable def cxRr : Cx := { P := Tryz.prog, n := Tryz.f135.ntmps, tab := [], mtab := [], rtab := [(67, findR)], refs := [], keeps := [0, 1, 4, 5, 11], lz := [18] }
theorem cxRl_ok : CxOk cxRl := rfT_ok 1
theorem cxRs_ok : CxOk cxRs := rfT_ok 1
theorem cxRr_ok : CxOk cxRr := ⟨.nil _, .nil _, .cons findR_ok (.nil _), fun p h => by cases h⟩
def rdGo (L : Bool) (x : Int) (k : Option Res) : Nat → Nat → Option Res
  | 0, _ => k
  | m + 1, i => cond L (cond (usable (adr x i)) (rdGo L x k m (i + 1)) none) none
def ldRX (n : Nat) (a b c d e : List Int) (x : Int) : Option Res :=
  cond (lens5 a b c d e) (cond (rng64 x && true) (cond (!mayB x (n : Int) 4) (some (.ok (.tup [.int .u64 0, .int .i64 21]) (refO a b c d e))) (rdGo (lens5 a b c d e) x (some (.ok (.tup [.int .u64 (ldN a b c d e x n 0), .int .i64 0]) (refO a b c d e))) n 0)) none) none
noncomputable def ldRE (n : Nat) (a b c d e : List Int) (x : Int) : Option Res := (mfunR cxRl Tryz.f98 [] [.ptr 0 0, .int .u64 x, .int .i64 (n : Int)] (refO a b c d e)).fin
theorem ldr_all : [1, 2, 4, 8].map ldRE = [1, 2, 4, 8].map ldRX := by kernel_rfl
theorem rdGo_eq {x : Int} {k : Option Res} : ∀ (m i : Nat), (∀ j, i ≤ j → j < i + m → usable (adr x j) = true) → rdGo true x k m i = k
  | 0, _, _ => rfl
  | m + 1, i, h => by
    unfold rdGo
    rw [h i (by omega) (by omega), cond_true, cond_true]
    exact rdGo_eq m (i + 1) fun j h1 h2 => h j (by omega) (by omega)
def loadRf : RSpec := fun args H => match args with
  | [.ptr 0 0, .int .u64 x, .int .i64 n] => refM (fun a b c d e => .req (rng64 x && szB n) (.leaf (.tup [.int .u64 (cond (mayB x n 4) (ldN a b c d e x n.toNat 0) 0), .int .i64 (cond (mayB x n 4) 0 21)]))) H
  | _ => .fail
theorem loadRf_ok : RSound Tryz.prog 98 loadRf := by
  intro args H out h
  unfold loadRf at h
  split at h
  rotate_left
  · cases h
  rename_i x n
  obtain ⟨a, b, c, d, e, rfl, hl, h⟩ := refM_run h
  obtain ⟨h1, h⟩ := req_run h
  cases h
  obtain ⟨hx, hn⟩ := Bool.and_eq_true_iff.1 h1
  obtain ⟨m, hm, rfl⟩ := szB_mem hn
  refine mfunR_ok (cx := cxRl) (fn := Tryz.f98) [] cxRl_ok (by kernel_rfl) (by kernel_rfl) _ _ _ ?_
  rw [← Tree.fin_run]
  refine (congrFun (congrFun (congrFun (congrFun (congrFun (congrFun (List.map_inj_left.1 ldr_all _ hm) a) b) c) d) e) x).trans ?_
  have hm1 : 1 ≤ m ∧ m ≤ 16 := by
    simp only [List.mem_cons, List.not_mem_nil, or_false] at hm
    omega
  unfold ldRX
  rw [hl, hx]
  cases hb : mayB x (m : Int) 4
  · rfl
  · rw [rdGo_eq m 0 fun j _ hj => usable_of hx (by omega) (by omega) hb (by omega)]
    rfl
def fixB : Nat → Int → Int
  | 0, y => IntKind.wrap .u8 y
  | i + 1, y => fixB i (Int.fdiv y (2 ^ 8))
def stGoR (x y : Int) : Nat → Nat → List Int → List Int → List Int → List Int → List Int → Option Res
  | 0, _, a, b, c, d, e => some (.ok (.int .i64 0) (refO a b c d e))
  | m + 1, i, a, b, c, d, e => cond (lens5 a b c d e) (cond (usable (adr x i)) (stGoR x y m (i + 1) (setF 1 (adr x i) (fixB i y) a) (setF 2 (adr x i) (fixB i y) b) (setF 16 (adr x i) (fixB i y) c) (setF 17 (adr x i) (fixB i y) d) (setF 32 (adr x i) (fixB i y) e)) none) none
def stRX (n : Nat) (a b c d e : List Int) (x y : Int) : Option Res :=
  cond (lens5 a b c d e) (cond (rng64 x && true) (cond (!mayB x (n : Int) 2) (some (.ok (.int .i64 21) (refO a b c d e)))
    (cond (lens5 a b c d e) (cond (rng64 x && true) (cond (!mayB x (n : Int) 0) (some (.ok (.int .i64 0) (refO a b c d e))) (stGoR x y n 0 a b c d e)) none) none)) none) none
noncomputable def stRE (n : Nat) (a b c d e : List Int) (x y : Int) : Option Res := (mfunR cxRs Tryz.f100 [] [.ptr 0 0, .int .u64 x, .int .i64 (n : Int), .int .u64 y] (refO a b c d e)).fin
theorem str_all : [1, 2, 4, 8].map stRE = [1, 2, 4, 8].map stRX := by kernel_rfl
theorem fixB_eq : ∀ (i : Nat) (y : Int), fixB i y = byS y i
  | 0, y => by
    unfold fixB byS
    rw [Nat.mul_zero, Int.pow_zero, Int.fdiv_eq_ediv_of_nonneg _ (by decide), Int.ediv_one]
  | i + 1, y => by
    unfold fixB
    rw [fixB_eq i, byS_eq, byS_eq, Int.fdiv_eq_ediv_of_nonneg _ (by decide)]
    have e : (2 : Int) ^ (8 * (i + 1)) = 2 ^ 8 * 2 ^ (8 * i) := by
      rw [show 8 * (i + 1) = 8 + 8 * i by omega, Int.pow_add]
    rw [e, ← Int.ediv_ediv_of_nonneg (by decide)]
theorem stGoR_eq {x y : Int} : ∀ (m i : Nat) {a b c d e : List Int}, lens5 a b c d e = true → (∀ j, i ≤ j → j < i + m → usable (adr x j) = true) →
    stGoR x y m i a b c d e = some (.ok (.int .i64 0) (refO (stN 1 x y m i a) (stN 2 x y m i b) (stN 16 x y m i c) (stN 17 x y m i d) (stN 32 x y m i e)))
  | 0, _, _, _, _, _, _, _, _ => rfl
  | m + 1, i, a, b, c, d, e, hl, h => by
    unfold stGoR stN
    rw [hl, h i (by omega) (by omega), cond_true, cond_true, fixB_eq]
    exact stGoR_eq m (i + 1) (lens5_set hl _ (byS_byte _ _)) fun j h1 h2 => h j (by omega) (by omega)
theorem mayB_any {x n r : Int} (h : mayB x n r = true) : mayB x n 0 = true := by
  unfold mayB at h ⊢
  simp only [Bool.and_eq_true, Bool.or_eq_true] at h ⊢
  have k0 : ∀ p, okP r p = true → okP 0 p = true := fun p hp => by
    have := okP_pg hp
    simp only [isPg, Bool.or_eq_true, beq_iff_eq] at this
    rcases this with h | h | h | h | h <;> subst h <;> rfl
  exact ⟨h.1, k0 _ h.2.1, h.2.2.imp id (k0 _)⟩
def storeRf : MSpec := fun args H => match args with
  | [.ptr 0 0, .int .u64 x, .int .i64 n, .int .u64 y] => refM (fun a b c d e => .req (rng64 x && szB n) (.leaf (.ok (.int .i64 (cond (mayB x n 2) 0 21)) (refO (stB 1 x n y a) (stB 2 x n y b) (stB 16 x n y c) (stB 17 x n y d) (stB 32 x n y e))))) H
  | _ => .fail
theorem storeRf_ok : MSound Tryz.prog 100 storeRf := by
  intro args H out h
  unfold storeRf at h
  split at h
  rotate_left
  · cases h
  rename_i x n y
  obtain ⟨a, b, c, d, e, rfl, hl, h⟩ := refM_run h
  obtain ⟨h1, h⟩ := req_run h
  cases h
  obtain ⟨hx, hn⟩ := Bool.and_eq_true_iff.1 h1
  obtain ⟨m, hm, rfl⟩ := szB_mem hn
  refine mfunR_ok (cx := cxRs) (fn := Tryz.f100) [] cxRs_ok (by kernel_rfl) (by kernel_rfl) _ _ _ ?_
  rw [← Tree.fin_run]
  refine (congrFun (congrFun (congrFun (congrFun (congrFun (congrFun (congrFun (List.map_inj_left.1 str_all _ hm) a) b) c) d) e) x) y).trans ?_
  have hm1 : 1 ≤ m ∧ m ≤ 16 := by
    simp only [List.mem_cons, List.not_mem_nil, or_false] at hm
    omega
  unfold stRX stB
  rw [hl, hx]
  cases hb : mayB x (m : Int) 2
  · rfl
  · rw [mayB_any hb]
    exact stGoR_eq m 0 hl fun i _ hi => usable_of hx (by omega) (by omega) hb (by omega)
theorem rr_eq (a b c d e : List Int) (x : Int) : (qfun cxRr Tryz.f135 [.ptr 0 0, .int .u64 x] (refO a b c d e)).fin =
    cond (lens5 a b c d e) (cond (decide (idxF (pgF x) < 0)) (some (.int .i64 0)) (cond (inside (idxF (pgF x)) 5) (cond (isIntAt .i64 rRows (0 + (idxF (pgF x)).toNat * 3 + 1)) (some (.int .i64 (rightAt (pgF x)))) none) none)) none := by kernel_rfl
def rightsRf : RSpec := fun args H => match args with
  | [.ptr 0 0, .int .u64 x] => refM (fun _ _ _ _ _ => .leaf (.int .i64 (rightF x))) H
  | _ => .fail
theorem rightsRf_ok : RSound Tryz.prog 135 rightsRf := by
  intro args H out h
  unfold rightsRf at h
  split at h
  rotate_left
  · cases h
  rename_i x
  obtain ⟨a, b, c, d, e, rfl, hl, h⟩ := refM_run h
  cases h
  refine qfun_ok (cx := cxRr) (fn := Tryz.f135) cxRr_ok (by kernel_rfl) (by kernel_rfl) (by kernel_rfl) (by kernel_rfl) _ _ _ ?_
  rw [← Tree.fin_run, rr_eq, hl, cond_true]
  unfold rightF
  generalize pgF x = p
  by_cases h1 : p = 1
  · subst h1; rfl
  by_cases h2 : p = 2
  · subst h2; rfl
  by_cases h3 : p = 16
  · subst h3; rfl
  by_cases h4 : p = 17
  · subst h4; rfl
  by_cases h5 : p = 32
  · subst h5; rfl
  have e : ∀ k : Int, p ≠ k → (p == k) = false := fun k h => by simpa using h
  have hi : idxF p = -1 := by
    unfold idxF
    rw [e 1 h1, e 2 h2, e 16 h3, e 17 h4, e 32 h5]
    rfl
  unfold pgR
  rw [hi, e 1 h1, e 2 h2, e 16 h3, e 17 h4, e 32 h5]
  rfl
end Go.Ra

namespace Go.Ra
open Go Go.Ab Go.Proofs
noncomputable def cx44 : Cx := { P := Tryz.prog, n := 10, tab := [], mtab := [(34, noneM)], refs := [], keeps := [0, 2, 4] }
theorem count_eq (a b c d e : List Int) : (mfun cx44 Tryz.f44 [.ptr 0 0] (memO a b c d e)).fin = some (.ok (.int .i64 5) (memO a b c d e)) := by kernel_rfl
def countM : MSpec := fun args H => match args with
  | [.ptr 0 0] => memM (fun a b c d e => .leaf (.ok (.int .i64 5) (memO a b c d e))) H
  | _ => .fail
theorem countM_ok : MSound Tryz.prog 44 countM := by
  intro args H out h
  unfold countM at h
  split at h
  rotate_left
  · cases h
  obtain ⟨a, b, c, d, e, rfl, hl, h⟩ := memM_run h
  cases h
  refine msound_fun (cx := cx44) (fn := Tryz.f44) (cx1_ok (.nil _) (.cons noneM_ok fun p h => by cases h) rfl rfl) (by kernel_rfl) (by kernel_rfl) _ _ _ ?_
  refine run_req (by kernel_rfl) ?_
  rw [← Tree.fin_run, count_eq]
def isStart (x : Int) : Bool := x == 4096 || (x == 8192 || (x == 65536 || (x == 69632 || x == 131072)))
def isBase (x : Int) : Bool := x == 4096 || x == 65536
def bigOk (x n r : Int) : Bool := n == 0 || ((isBase x && (decide (1 ≤ n) && (decide (n ≤ 8192) && r == 0))) || (isStart x && (n == 4096 && r == 4)))
theorem mayGo_two {H : List O} {y r k : Int} (h0 : 0 ≤ k) (hk : k < 1000) (h1 : okP r k = true) (hy : pgF y = k ∨ (pgF y = k + 1 ∧ okP r (k + 1) = true)) : mayGo H y r 3 k = some (.ok (.bool true) H) := by
  have w1 : IntKind.wrap .u64 (k + 1) = k + 1 := by
    show (k + 1) % 18446744073709551616 = _
    omega
  have w2 : IntKind.wrap .u64 (k + 1 + 1) = k + 1 + 1 := by
    show (k + 1 + 1) % 18446744073709551616 = _
    omega
  rw [mayGo_step, decide_eq_true (by omega), cond_true, h1, cond_true, w1, mayGo_step]
  rcases hy with hy | ⟨hy, h2⟩
  · rw [decide_eq_false (by omega), cond_false]
  · rw [decide_eq_true (by omega), cond_true, h2, cond_true, w2, mayGo_step, decide_eq_false (by omega), cond_false]
theorem endF_big {x n : Int} (h0 : 0 ≤ x) (h1 : x < 1000000) (h2 : 1 ≤ n) (h3 : n ≤ 8192) : endF x n = x + n - 1 := by
  have e : endF x n = ((x + n % 18446744073709551616) % 18446744073709551616 - 1) % 18446744073709551616 := rfl
  rw [e]
  omega
theorem pgF_small {x : Int} (h0 : 0 ≤ x) (h1 : x < 10000000) : pgF x = x / 4096 := by
  refine pgF_eq ?_
  simp only [rng64, Bool.and_eq_true, decide_eq_true_eq]
  omega
theorem mayX_big {H : List O} {x n r : Int} (h : bigOk x n r = true) : mayX H x n r = some (.ok (.bool true) H) := by
  unfold mayX
  unfold bigOk at h
  cases h0 : n == 0
  rotate_left
  · rfl
  rw [cond_false]
  rw [h0, Bool.false_or] at h
  rcases Bool.or_eq_true_iff.1 h with h | h
  · simp only [Bool.and_eq_true, decide_eq_true_eq, beq_iff_eq] at h
    obtain ⟨hx, h1, h2, rfl⟩ := h
    have hx : x = 4096 ∨ x = 65536 := by simpa [isBase] using hx
    have he := endF_big (x := x) (n := n) (by omega) (by omega) h1 h2
    have hy := pgF_small (x := x + n - 1) (by omega) (by omega)
    rw [he, decide_eq_true (by omega), Bool.not_true, cond_false]
    rcases hx with rfl | rfl
    · refine mayGo_two (k := 1) (by decide) (by decide) rfl ?_
      rw [hy]
      by_cases hn : n ≤ 4096
      · exact .inl (by omega)
      · exact .inr ⟨by omega, rfl⟩
    · refine mayGo_two (k := 16) (by decide) (by decide) rfl ?_
      rw [hy]
      by_cases hn : n ≤ 4096
      · exact .inl (by omega)
      · exact .inr ⟨by omega, rfl⟩
  · simp only [Bool.and_eq_true, decide_eq_true_eq, beq_iff_eq] at h
    obtain ⟨hx, rfl, rfl⟩ := h
    have hx : x = 4096 ∨ x = 8192 ∨ x = 65536 ∨ x = 69632 ∨ x = 131072 := by simpa [isStart] using hx
    rcases hx with rfl | rfl | rfl | rfl | rfl <;> rfl
def mayBig : MSpec := fun args H => match args with
  | [.ptr 0 0, .int .u64 x, .int .i64 n, .int .i64 r] => memM (fun a b c d e => .req (bigOk x n r) (.leaf (.ok (.bool true) (memO a b c d e)))) H
  | _ => .fail
theorem mayBig_ok : MSound Tryz.prog 35 mayBig := by
  intro args H out h
  unfold mayBig at h
  split at h
  rotate_left
  · cases h
  rename_i x n r
  obtain ⟨a, b, c, d, e, rfl, hl, h⟩ := memM_run h
  obtain ⟨h1, h⟩ := req_run h
  cases h
  refine msound_fun (cx := cx35) (fn := Tryz.f35) (cx1_ok (ok1 lastS_ok) (.cons noneM_ok fun p h => by cases h) rfl rfl) (by kernel_rfl) (by kernel_rfl) _ _ _ ?_
  refine run_req (by kernel_rfl) ?_
  rw [← Tree.fin_run, may_eq, mayX_big h1]
end Go.Ra

namespace Go.Ra
open Go Go.Ab Go.Proofs
noncomputable def cx31 : Cx := { P := Tryz.prog, n := 34, tab := [], mtab := [(34, noneM), (35, mayBig), (68, putM)], refs := [], keeps := [0, 1, 2, 6, 7, 8, 18, 19, 20, 21, 22] }
theorem cxPs_ok : CxOk cx31 := cx1_ok (.nil _) (.cons noneM_ok (.cons mayBig_ok (.cons putM_ok fun p h => by cases h))) rfl rfl
noncomputable def cxPs0 : Cx := { cx31 with fuel := 1 }
noncomputable abbrev Bps : Code := bodyOf Tryz.f31
def layL (k x : Int) (l : List Int) : Nat → List Int → List Int
  | 0, P => P
  | n + 1, P => setF k (adr x n) (l.getD n 0) (layL k x l n P)
theorem byte_getD {l : List Int} (h : l.all byteB = true) (n : Nat) : byteB (l.getD n 0) = true := by
  rw [List.getD_eq_getElem?_getD]
  cases hn : l[n]? with
  | none => rfl
  | some v => exact List.all_eq_true.1 h v (List.mem_of_getElem? hn)
theorem lens5_layL {a b c d e : List Int} (x : Int) (l : List Int) (hb : l.all byteB = true) (h : lens5 a b c d e = true) : ∀ n, lens5 (layL 1 x l n a) (layL 2 x l n b) (layL 16 x l n c) (layL 17 x l n d) (layL 32 x l n e) = true
  | 0 => h
  | n + 1 => lens5_set (lens5_layL x l hb h n) _ (byte_getD hb n)
theorem adr_small {x : Int} {j : Nat} (h0 : 0 ≤ x) (h1 : x + j < 18446744073709551616) : adr x j = x + j := by
  have e : adr x j = (x + (j : Int) % 18446744073709551616) % 18446744073709551616 := rfl
  rw [e]
  omega
theorem usable_base {x : Int} (hx : isBase x = true) {i : Nat} (hi : i < 8192) : usable (adr x i) = true := by
  have hx : x = 4096 ∨ x = 65536 := by simpa [isBase] using hx
  have ea : adr x i = x + i := adr_small (by omega) (by omega)
  have hr : rng64 (x + i) = true := by
    simp only [rng64, Bool.and_eq_true, decide_eq_true_eq]
    omega
  have hp : pgF (x + i) = (x + i) / 4096 := pgF_eq hr
  unfold usable
  rw [ea, hr, Bool.true_and]
  have : pgF (x + i) = 1 ∨ pgF (x + i) = 2 ∨ pgF (x + i) = 16 ∨ pgF (x + i) = 17 := by omega
  rcases this with h | h | h | h <;> rw [h] <;> rfl
theorem all_t {α : Type} {c : Bool} {x y : Tree α} {Q : α → Prop} (h : c = true) (hx : x.all Q) : (Tree.br c x y).all Q := ⟨fun _ => hx, fun e => Bool.noConfusion (h.symm.trans e)⟩
theorem all_f {α : Type} {c : Bool} {x y : Tree α} {Q : α → Prop} (h : c = false) (hy : y.all Q) : (Tree.br c x y).all Q := ⟨fun e => Bool.noConfusion (h.symm.trans e), fun _ => hy⟩
def cutK (ks : List Nat) (s : St) : Tree St := .leaf (s.1, keep ks s.2.1, s.2.2)
theorem cutK_run (ks : List Nat) (x : Tree St) : (x.bind (cutK ks)).run = x.run.map (fun s => (s.1, keep ks s.2.1, s.2.2)) := by
  induction x with
  | leaf b => rfl
  | fail => rfl
  | br c x y h1 h2 =>
    cases c
    · exact h2
    · exact h1
def psT (x : Int) (l sp : List Int) (fl : Fl) (i : Int) : T := [(0, .ptr 0 0), (1, .int .u64 x), (19, .sl (.int .u8) l sp fl), (20, .int .i64 l.length), (21, .int .i64 i)]
def psS (x : Int) (l : List Int) (n : Nat) (a b c d e : List Int) : List O := memO (layL 1 x l n a) (layL 2 x l n b) (layL 16 x l n c) (layL 17 x l n d) (layL 32 x l n e)
def psRound (x : Int) (l sp : List Int) (fl : Fl) (i : Nat) (a b c d e : List Int) : Tree St :=
  .br (decide ((i : Int) < l.length)) (.br (inside i l.length) (.br (lens5 a b c d e) (.br (usable (adr x i)) (.leaf (.normal, psT x l sp fl (IntKind.wrap .i64 ((i : Int) + 1)),
      memO (setF 1 (adr x i) (l.getD i 0) a) (setF 2 (adr x i) (l.getD i 0) b) (setF 16 (adr x i) (l.getD i 0) c) (setF 17 (adr x i) (l.getD i 0) d) (setF 32 (adr x i) (l.getD i 0) e))) .fail) .fail) .fail)
    (.leaf (.exit 0, psT x l sp fl i, memO a b c d e))
theorem psRound_eq (x : Int) (l sp : List Int) (fl : Fl) (i : Nat) (a b c d e : List Int) :
    ((dcode cx31 (cin (cin (c2 (c1 (tailN 1 Bps))))) (psT x l sp fl i) (memO a b c d e)).bind (rnd 7 [] [0, 1, 19, 20, 21])).run = (psRound x l sp fl i a b c d e).run :=
  (show _ = (psRound x l sp fl i a b c d e).out by kernel_rfl).trans (Tree.out_run _)
theorem ps_head (x : Int) (l sp : List Int) (fl : Fl) (a b c d e : List Int) : ((dcode cx31 (headN 1 Bps) (initT 0 [.ptr 0 0, .int .u64 x, .sl (.int .u8) l sp fl]) (memO a b c d e)).bind (cutK [0, 1, 2])).run =
    cond (lens5 a b c d e) (cond (bigOk x l.length 0) (some (.normal, [(0, .ptr 0 0), (1, .int .u64 x), (2, .sl (.int .u8) l sp fl)], memO a b c d e)) none) none := by kernel_rfl
theorem ps_start (x : Int) (l sp : List Int) (fl : Fl) (H : List O) : (dcode cx31 (c1 (c1 (tailN 1 Bps))) [(0, .ptr 0 0), (1, .int .u64 x), (2, .sl (.int .u8) l sp fl)] H).run.map (fun s => (s.1, keep [0, 1, 19, 20, 21] s.2.1, s.2.2)) =
    some (.normal, psT x l sp fl 0, H) := by kernel_rfl
theorem ps_end (H : List O) : ((dcode cx31 (tailN 2 Bps) [] H).bind (answerM Tryz.prog Tryz.f31.results.toList)).run = some (.ok (.int .i64 0) H) := by kernel_rfl
theorem ps_nil (x : Int) (a b c d e : List Int) : (mfun cxPs0 Tryz.f31 [.ptr 0 0, .int .u64 x, .val (.slice none 0 0)] (memO a b c d e)).fin = cond (lens5 a b c d e) (some (.ok (.int .i64 0) (memO a b c d e))) none := by kernel_rfl
def psSt (x : Int) (l sp : List Int) (fl : Fl) (a b c d e : List Int) (i : { i : Nat // i ≤ l.length }) : T × List O := (psT x l sp fl i.1, psS x l i.1 a b c d e)
theorem ps_ok {x : Int} {l : List Int} (sp : List Int) (fl : Fl) {a b c d e : List Int} (hx : isBase x = true) (hn : l.length ≤ 8192) (hb8 : l.all byteB = true) (hl : lens5 a b c d e = true) :
    MCall Tryz.prog 31 [.ptr 0 0, .int .u64 x, .sl (.int .u8) l sp fl] (memO a b c d e) (.ok (.int .i64 0) (psS x l l.length a b c d e)) := by
  refine mcall_of' (c := Bps) (fn := Tryz.f31) (by kernel_rfl) (by kernel_rfl) (by kernel_rfl) (by kernel_rfl) ?_
  have hb : bigOk x l.length 0 = true := by
    unfold bigOk
    cases h0 : ((l.length : Int) == 0)
    · have h0 : ¬ (l.length : Int) = 0 := by simpa using h0
      rw [hx, decide_eq_true (by omega), decide_eq_true (by omega)]
      rfl
    · rfl
  refine AWP_headK (cx := cx31) rfl rfl cxPs_ok 1 [0, 1, 2] (by kernel_rfl) (by rw [← cutK_run, ps_head, hl, hb]; rfl) ?_
  have eb : tailN 1 Bps = .seq (.seq (c1 (c1 (tailN 1 Bps))) (.block 0 (.loop (cin (cin (c2 (c1 (tailN 1 Bps)))))))) (tailN 2 Bps) := by kernel_rfl
  rw [eb]
  obtain ⟨s, g1, g2⟩ := Option.map_eq_some_iff.1 (ps_start x l sp fl (memO a b c d e))
  refine AWP_seq (AWP_seq (AWP_run (cx := cx31) rfl rfl cxPs_ok g1 ?_))
  obtain ⟨ex, t, H⟩ := s
  simp only [Prod.mk.injEq] at g2
  obtain ⟨rfl, g2, rfl⟩ := g2
  refine AWP_block (AWP.less (s := psT x l sp fl 0) (g2 ▸ TLe.keep _ _) ?_)
  refine AWP_roundsK (cx := cx31) (P := Tryz.prog) (n := 34) rfl rfl cxPs_ok (psSt x l sp fl a b c d e) (fun i => l.length - i.1) [] [0, 1, 19, 20, 21] ?_ ⟨0, Nat.zero_le _⟩
  rintro ⟨i, hi⟩
  have hl' := lens5_layL x l hb8 hl i
  refine Tree.all_run_eq (psRound_eq x l sp fl i _ _ _ _ _) ?_
  refine ⟨fun hlt => ?_, fun hge => ?_⟩
  · have hlt : i < l.length := Int.ofNat_lt.1 (of_decide_eq_true hlt)
    refine all_t (inside_of (Int.natCast_nonneg i) (Int.ofNat_lt.2 hlt)) (all_t hl' (all_t (usable_base hx (by omega)) ⟨⟨i + 1, hlt⟩, by show l.length - (i + 1) < l.length - i; omega, ?_, rfl⟩))
    rw [wrap_i64 (by omega) (by omega)]
    exact TLe.refl _
  · have hge : ¬ i < l.length := fun h => of_decide_eq_false hge (Int.ofNat_lt.2 h)
    have hi' : i = l.length := by omega
    subst hi'
    intro t _
    show AWP _ _ _ _ _ _
    refine AWP.less (s := []) (fun _ => .inr rfl) ?_
    obtain ⟨s, g1, g2⟩ := bind_run (ps_end (psS x l l.length a b c d e))
    refine AWP_run (cx := cx31) rfl rfl cxPs_ok g1 ?_
    exact answerM_post g2
def setPM : MSpec := fun args H => match args with
  | [.ptr 0 0, .int .u64 x, .sl (.int .u8) l _ _] => memM (fun a b c d e => .req (isBase x && (decide (l.length ≤ 8192) && l.all byteB)) (.leaf (.ok (.int .i64 0) (memO (layL 1 x l l.length a) (layL 2 x l l.length b) (layL 16 x l l.length c) (layL 17 x l l.length d) (layL 32 x l l.length e))))) H
  | [.ptr 0 0, .int .u64 x, .val (.slice none 0 0)] => memM (fun a b c d e => .leaf (.ok (.int .i64 0) (memO a b c d e))) H
  | _ => .fail
theorem cxPs0_ok : CxOk cxPs0 := cxPs_ok
theorem setPM_ok : MSound Tryz.prog 31 setPM := by
  intro args H out h
  unfold setPM at h
  split at h
  · rename_i x l sp fl
    obtain ⟨a, b, c, d, e, rfl, hl, h⟩ := memM_run h
    obtain ⟨h1, h⟩ := req_run h
    cases h
    obtain ⟨hx, hn⟩ := Bool.and_eq_true_iff.1 h1
    obtain ⟨hn, h8⟩ := Bool.and_eq_true_iff.1 hn
    exact ps_ok sp fl hx (of_decide_eq_true hn) h8 hl
  · rename_i x
    obtain ⟨a, b, c, d, e, rfl, hl, h⟩ := memM_run h
    cases h
    refine msound_fun (cx := cxPs0) (fn := Tryz.f31) cxPs0_ok (by kernel_rfl) (by kernel_rfl) _ _ _ ?_
    refine run_req (by kernel_rfl) ?_
    rw [← Tree.fin_run, ps_nil, hl, cond_true]
  · cases h
end Go.Ra

namespace Go.Ra
open Go Go.Ab Go.Proofs
noncomputable def cxPb : Cx := { P := Tryz.prog, n := Tryz.f46.ntmps, tab := [], mtab := [(34, noneM), (35, mayBig), (36, getM)], refs := [], keeps := [0, 1, 2, 6, 7, 8, 9, 10, 17, 30, 31, 32], lz := [28, 42] }
theorem cxPb_ok : CxOk cxPb := cx1_ok (.nil _) (.cons noneM_ok (.cons mayBig_ok (.cons getM_ok fun p h => by cases h))) rfl rfl
noncomputable abbrev Bpb : Code := bodyOf Tryz.f46
def newPg (l : List Int) : O := .obj (.page 0 .u8 l) []
def filL (a b c d e : List Int) (x : Int) : Nat → List Int
  | 0 => zeros
  | n + 1 => (filL a b c d e x n).set n (byteF a b c d e (adr x n))
theorem filL_len (a b c d e : List Int) (x : Int) : ∀ n, (filL a b c d e x n).length = 4096
  | 0 => List.length_replicate
  | n + 1 => List.length_set.trans (filL_len a b c d e x n)
theorem filL_get (a b c d e : List Int) (x : Int) : ∀ n i, i < n → n ≤ 4096 → (filL a b c d e x n).getD i 0 = byteF a b c d e (adr x i)
  | n + 1, i, hi, hn => by
    have hl := filL_len a b c d e x n
    rw [List.getD_eq_getElem?_getD]
    show (((filL a b c d e x n).set n (byteF a b c d e (adr x n)))[i]?).getD 0 = _
    rw [List.getElem?_set]
    by_cases h : n = i
    · subst h
      rw [if_pos rfl, if_pos (by omega)]
      rfl
    · rw [if_neg h, ← List.getD_eq_getElem?_getD]
      exact filL_get a b c d e x n i (by omega) (by omega)
def pbT (x i : Int) : T := [(0, .ptr 0 0), (1, .int .u64 x), (8, .ref 7 1 0 4096), (30, .int .i64 4096), (31, .int .i64 i)]
def pbRound (x : Int) (i : Nat) (L a b c d e : List Int) : Tree St :=
  .br (decide ((i : Int) < 4096)) (.br (lens5 a b c d e) (.br (usable (adr x i)) (.br (inside i 4096) (.br (Nat.ble 0 (0 + i * 1) && Nat.blt (0 + i * 1 - 0) L.length) (.leaf (.normal, pbT x (IntKind.wrap .i64 ((i : Int) + 1)), memO a b c d e ++ [newPg (L.set (0 + i * 1 - 0) (byteF a b c d e (adr x i)))])) .fail) .fail) .fail) .fail)
    (.leaf (.exit 1, pbT x i, memO a b c d e ++ [newPg L]))
theorem pbRound_eq (x : Int) (i : Nat) (L a b c d e : List Int) :
    ((dcode cxPb (cin (cin (c2 (c1 (tailN 2 Bpb))))) (pbT x i) (memO a b c d e ++ [newPg L])).bind (rnd 8 [] [0, 1, 8, 30, 31])).run = (pbRound x i L a b c d e).run :=
  (show _ = (pbRound x i L a b c d e).out by kernel_rfl).trans (Tree.out_run _)
def pbHead (x n : Int) (a b c d e : List Int) : Option St :=
  cond (decide (n < 0)) (some (.ret, [(0, .ptr 0 0), (1, .int .u64 x)], memO a b c d e)) (cond (decide (1048576 < n)) (some (.ret, [(0, .ptr 0 0), (1, .int .u64 x)], memO a b c d e)) (cond (lens5 a b c d e) (cond (bigOk x n 4)
    (cond (decide (0 ≤ n) && decide (n ≤ n) && roomy n.toNat 1) (some (.normal, [(0, .ptr 0 0), (1, .int .u64 x), (8, .ref 7 1 0 n.toNat)], memO a b c d e ++ [newPg (List.replicate n.toNat 0)])) none) none) none))
theorem pb_head (x n : Int) (a b c d e : List Int) : ((dcode cxPb (headN 2 Bpb) (initT 0 [.ptr 0 0, .int .u64 x, .int .i64 n]) (memO a b c d e)).bind (cutK [0, 1, 8])).run = pbHead x n a b c d e := by kernel_rfl
theorem pb_start (x : Int) (L a b c d e : List Int) : ((dcode cxPb (c1 (c1 (tailN 2 Bpb))) [(0, .ptr 0 0), (1, .int .u64 x), (8, .ref 7 1 0 4096)] (memO a b c d e ++ [newPg L])).bind (cutK [0, 1, 8, 30, 31])).run =
    some (.normal, pbT x 0, memO a b c d e ++ [newPg L]) := by kernel_rfl
theorem pb_end (x : Int) (L a b c d e : List Int) : ((dcode cxPb (tailN 3 Bpb) (pbT x 4096) (memO a b c d e ++ [newPg L])).bind (answerM Tryz.prog Tryz.f46.results.toList)).run = some (.ok (.tup [.ref 7 1 0 4096, .int .i64 0]) (memO a b c d e ++ [newPg L])) := by kernel_rfl
theorem off_small {x : Int} (h0 : 0 ≤ x) : offF x = (x % 4096).toNat := by
  unfold offF
  rw [Int.tmod_eq_emod_of_nonneg h0]
  omega
theorem byte_page {k : Int} {i : Nat} (h0 : 0 ≤ k) (h1 : k < 100) (hi : i < 4096) (a b c d e : List Int) : byteF a b c d e (adr (4096 * k) i) = (selF k a b c d e).getD i 0 := by
  have ea : adr (4096 * k) i = 4096 * k + i := adr_small (by omega) (by omega)
  unfold byteF
  rw [ea, pgF_small (by omega) (by omega), off_small (by omega)]
  have e1 : (4096 * k + (i : Int)) / 4096 = k := by omega
  have e2 : ((4096 * k + (i : Int)) % 4096).toNat = i := by omega
  rw [e1, e2]
theorem selF_len {a b c d e : List Int} (hl : lens5 a b c d e = true) (k : Int) : (selF k a b c d e).length = 4096 := by
  obtain ⟨l1, l2, l3, l4, l5⟩ := lens5_spec hl
  unfold selF
  cases k == 1 <;> cases k == 2 <;> cases k == 16 <;> cases k == 17 <;> assumption
theorem fil_page {k : Int} (h0 : 0 ≤ k) (h1 : k < 100) {a b c d e : List Int} (hl : lens5 a b c d e = true) : filL a b c d e (4096 * k) 4096 = selF k a b c d e := by
  have n1 := filL_len a b c d e (4096 * k) 4096
  have n2 := selF_len hl k
  refine List.ext_getElem (n1.trans n2.symm) fun i g1 g2 => ?_
  have := filL_get a b c d e (4096 * k) 4096 i (by omega) (Nat.le_refl _)
  rw [byte_page h0 h1 (by omega), getD_lt g1, getD_lt g2] at this
  exact this
theorem usable_page {k : Int} (hk : isPg k = true) {i : Nat} (hi : i < 4096) : usable (adr (4096 * k) i) = true := by
  have hk' : k = 1 ∨ k = 2 ∨ k = 16 ∨ k = 17 ∨ k = 32 := by simpa [isPg] using hk
  have ea : adr (4096 * k) i = 4096 * k + i := adr_small (by omega) (by omega)
  have hr : rng64 (4096 * k + i) = true := by
    simp only [rng64, Bool.and_eq_true, decide_eq_true_eq]
    omega
  have hp : pgF (4096 * k + i) = k := by
    rw [pgF_eq hr]
    omega
  unfold usable
  rw [ea, hr, hp, hk]
  rfl
def pbSt (x : Int) (a b c d e : List Int) (i : { i : Nat // i ≤ 4096 }) : T × List O := (pbT x i.1, memO a b c d e ++ [newPg (filL a b c d e x i.1)])
theorem pb_ok {k : Int} {a b c d e : List Int} (hk : isPg k = true) (hl : lens5 a b c d e = true) :
    MCall Tryz.prog 46 [.ptr 0 0, .int .u64 (4096 * k), .int .i64 4096] (memO a b c d e) (.ok (.tup [.ref 7 1 0 4096, .int .i64 0]) (memO a b c d e ++ [newPg (selF k a b c d e)])) := by
  have hk' : k = 1 ∨ k = 2 ∨ k = 16 ∨ k = 17 ∨ k = 32 := by simpa [isPg] using hk
  have hb : bigOk (4096 * k) 4096 4 = true := by
    rcases hk' with rfl | rfl | rfl | rfl | rfl <;> rfl
  rw [← fil_page (k := k) (by omega) (by omega) hl]
  generalize hx : 4096 * k = x at hb
  refine mcall_of' (c := Bpb) (fn := Tryz.f46) (by kernel_rfl) (by kernel_rfl) (by kernel_rfl) (by kernel_rfl) ?_
  have h4 : (decide ((0 : Int) ≤ 4096) && decide ((4096 : Int) ≤ 4096) && roomy (4096 : Int).toNat 1) = true := by decide
  have hh : pbHead x 4096 a b c d e = some (.normal, [(0, .ptr 0 0), (1, .int .u64 x), (8, .ref 7 1 0 4096)], memO a b c d e ++ [newPg zeros]) := by
    unfold pbHead
    rw [hl, hb, h4]
    rfl
  refine AWP_headK (cx := cxPb) rfl rfl cxPb_ok 2 [0, 1, 8] (by kernel_rfl) ((cutK_run _ _).symm.trans ((pb_head x 4096 a b c d e).trans hh)) ?_
  have eb : tailN 2 Bpb = .seq (.seq (c1 (c1 (tailN 2 Bpb))) (.block 1 (.loop (cin (cin (c2 (c1 (tailN 2 Bpb)))))))) (tailN 3 Bpb) := by kernel_rfl
  rw [eb]
  obtain ⟨s, g1, g2⟩ := Option.map_eq_some_iff.1 ((cutK_run _ _).symm.trans (pb_start x zeros a b c d e))
  refine AWP_seq (AWP_seq (AWP_run (cx := cxPb) rfl rfl cxPb_ok g1 ?_))
  obtain ⟨ex, t, H⟩ := s
  simp only [Prod.mk.injEq] at g2
  obtain ⟨rfl, g2, rfl⟩ := g2
  refine AWP_block (AWP.less (s := pbT x 0) (g2 ▸ TLe.keep _ _) ?_)
  refine AWP_roundsK (cx := cxPb) (P := Tryz.prog) (n := 45) rfl rfl cxPb_ok (pbSt x a b c d e) (fun i => 4096 - i.1) [] [0, 1, 8, 30, 31] ?_ ⟨0, Nat.zero_le _⟩
  rintro ⟨i, hi⟩
  refine Tree.all_run_eq (pbRound_eq x i (filL a b c d e x i) a b c d e) ?_
  have n1 := filL_len a b c d e x i
  refine ⟨fun hlt => ?_, fun hge => ?_⟩
  · have hlt : i < 4096 := Int.ofNat_lt.1 (of_decide_eq_true hlt)
    have hbl : (Nat.ble 0 (0 + i * 1) && Nat.blt (0 + i * 1 - 0) (filL a b c d e x i).length) = true := by
      rw [n1, Bool.and_eq_true_iff]
      exact ⟨Nat.ble_eq_true_of_le (Nat.zero_le _), Nat.ble_eq_true_of_le (by omega)⟩
    refine all_t hl (all_t (hx ▸ usable_page hk hlt) (all_t (inside_of (Int.natCast_nonneg i) (Int.ofNat_lt.2 hlt)) (all_t hbl ⟨⟨i + 1, hlt⟩, by show 4096 - (i + 1) < 4096 - i; omega, ?_, ?_⟩)))
    · rw [wrap_i64 (by omega) (by omega)]
      exact TLe.refl _
    · have ei : 0 + i * 1 - 0 = i := by omega
      rw [ei]
      rfl
  · have hge : ¬ i < 4096 := fun h => of_decide_eq_false hge (Int.ofNat_lt.2 h)
    have hi' : i = 4096 := by omega
    subst hi'
    intro t ht
    show AWP _ _ _ _ _ _
    have ht : pbT x 4096 = keep [0, 1, 8, 30, 31] t := ht
    refine AWP.less (s := pbT x 4096) (ht ▸ TLe.keep _ _) ?_
    obtain ⟨s, g1, g2⟩ := bind_run (pb_end x (filL a b c d e x 4096) a b c d e)
    refine AWP_run (cx := cxPb) rfl rfl cxPb_ok g1 ?_
    exact answerM_post g2
def bytesM : MSpec := fun args H => match args with
  | [.ptr 0 0, .int .u64 x, .int .i64 n] => memM (fun a b c d e => .req (isStart x && n == 4096) (.leaf (.ok (.tup [.ref 7 1 0 4096, .int .i64 0]) (memO a b c d e ++ [newPg (selF (pgF x) a b c d e)])))) H
  | _ => .fail
theorem bytesM_ok : MSound Tryz.prog 46 bytesM := by
  intro args H out h
  unfold bytesM at h
  split at h
  rotate_left
  · cases h
  rename_i x n
  obtain ⟨a, b, c, d, e, rfl, hl, h⟩ := memM_run h
  obtain ⟨h1, h⟩ := req_run h
  cases h
  obtain ⟨hx, hn⟩ := Bool.and_eq_true_iff.1 h1
  have hn : n = 4096 := by simpa using hn
  subst hn
  have hx : x = 4096 ∨ x = 8192 ∨ x = 65536 ∨ x = 69632 ∨ x = 131072 := by simpa [isStart] using hx
  have key : ∀ k : Int, isPg k = true → x = 4096 * k → MCall Tryz.prog 46 [.ptr 0 0, .int .u64 x, .int .i64 4096] (memO a b c d e) (.ok (.tup [.ref 7 1 0 4096, .int .i64 0]) (memO a b c d e ++ [newPg (selF (pgF x) a b c d e)])) := by
    intro k hk hxk
    have hk' : k = 1 ∨ k = 2 ∨ k = 16 ∨ k = 17 ∨ k = 32 := by simpa [isPg] using hk
    have hp : pgF x = k := by
      rw [pgF_small (by omega) (by omega)]
      omega
    rw [hp, hxk]
    exact pb_ok hk hl
  rcases hx with h | h | h | h | h
  · exact key 1 rfl h
  · exact key 2 rfl h
  · exact key 16 rfl h
  · exact key 17 rfl h
  · exact key 32 rfl h
end Go.Ra

namespace Go.Ra
open Go Go.Ab Go.Proofs
noncomputable def cxRcb : Cx := { P := Tryz.prog, n := Tryz.f69.ntmps, tab := [], mtab := [], refs := [], keeps := [0, 1, 2, 3, 8, 9, 10, 20, 23, 35, 61], rtab := [(67, findR)], lz := [55] }
theorem cxRcb_ok : CxOk cxRcb := ⟨.nil _, .nil _, .cons findR_ok (.nil _), fun p h => by cases h⟩
noncomputable abbrev Bcb : Code := bodyOf Tryz.f69
def cbT (x n k : Int) : T := [(0, .ptr 0 0), (1, .int .u64 x), (2, .int .i64 n), (3, .int .i64 0), (9, .int .i64 k)]
def cbNext (x n : Int) (k : Nat) (H : List O) : Tree St := .leaf (.normal, cbT x n (IntKind.wrap .i64 ((k : Int) + 1)), H)
def cbFind (L : Bool) (x n : Int) (k : Nat) (H : List O) : Tree St := .br L (.br (decide (idxF (pgF (adr x k)) < 0)) (.leaf (.ret, cbT x n k, H)) (cbNext x n k H)) .fail
def cbRound (x n : Int) (k : Nat) (A B C D E : List Int) : Tree St :=
  .br (decide ((k : Int) < n)) (.br (decide (0 < (k : Int))) (.br (Int.tmod (adr x k) 4096 != 0) (cbNext x n k (refO A B C D E)) (cbFind (lens5 A B C D E) x n k (refO A B C D E))) (cbFind (lens5 A B C D E) x n k (refO A B C D E)))
    (.leaf (.exit 0, cbT x n k, refO A B C D E))
theorem cbRound_eq (x n : Int) (k : Nat) (A B C D E : List Int) :
    ((dcode cxRcb (cin (cin (c2 (c1 (tailN 1 Bcb))))) (cbT x n k) (refO A B C D E)).bind (rnd 7 [] [0, 1, 2, 3, 9])).run = (cbRound x n k A B C D E).run :=
  (show _ = (cbRound x n k A B C D E).out by kernel_rfl).trans (Tree.out_run _)
def cbHead (x n : Int) (H : List O) : Option St :=
  cond (decide (0 < n)) (cond (decide (IntKind.wrap .u64 (18446744073709551615 - x) < IntKind.wrap .u64 (IntKind.wrap .i64 (n - 1)))) (some (.ret, [(0, .ptr 0 0), (1, .int .u64 x), (2, .int .i64 n), (3, .int .i64 0)], H)) (some (.normal, [(0, .ptr 0 0), (1, .int .u64 x), (2, .int .i64 n), (3, .int .i64 0)], H)))
    (some (.normal, [(0, .ptr 0 0), (1, .int .u64 x), (2, .int .i64 n), (3, .int .i64 0)], H))
theorem cb_head (x n : Int) (H : List O) : ((dcode cxRcb (headN 1 Bcb) (initT 0 [.ptr 0 0, .int .u64 x, .int .i64 n, .int .i64 0]) H).bind (cutK [0, 1, 2, 3])).run = cbHead x n H := by kernel_rfl
theorem cb_start (x n : Int) (H : List O) : ((dcode cxRcb (c1 (c1 (tailN 1 Bcb))) [(0, .ptr 0 0), (1, .int .u64 x), (2, .int .i64 n), (3, .int .i64 0)] H).bind (cutK [0, 1, 2, 3, 9])).run = some (.normal, cbT x n 0, H) := by kernel_rfl
theorem cb_end (H : List O) : ((dcode cxRcb (tailN 2 Bcb) [] H).bind (answerM Tryz.prog Tryz.f69.results.toList)).run = some (.ok (.bool true) H) := by kernel_rfl
def cbSt (x n : Int) (A B C D E : List Int) (k : { k : Nat // k ≤ n.toNat }) : T × List O := (cbT x n k.1, refO A B C D E)
theorem idx_base {x : Int} (hx : isBase x = true) {i : Nat} (hi : i < 8192) : ¬ idxF (pgF (adr x i)) < 0 := by
  have h := usable_base hx hi
  unfold usable at h
  obtain ⟨_, h⟩ := Bool.and_eq_true_iff.1 h
  simp only [isPg, Bool.or_eq_true, beq_iff_eq] at h
  rcases h with h | h | h | h | h <;> rw [h] <;> decide
theorem cb_ok {x n : Int} (hx : isBase x = true) (h0 : 0 ≤ n) (h1 : n ≤ 8192) {A B C D E : List Int} (hl : lens5 A B C D E = true) :
    MCall Tryz.prog 69 [.ptr 0 0, .int .u64 x, .int .i64 n, .int .i64 0] (refO A B C D E) (.ok (.bool true) (refO A B C D E)) := by
  have hx' : x = 4096 ∨ x = 65536 := by simpa [isBase] using hx
  refine mcall_of' (c := Bcb) (fn := Tryz.f69) (by kernel_rfl) (by kernel_rfl) (by kernel_rfl) (by kernel_rfl) ?_
  have hh : cbHead x n (refO A B C D E) = some (.normal, [(0, .ptr 0 0), (1, .int .u64 x), (2, .int .i64 n), (3, .int .i64 0)], refO A B C D E) := by
    unfold cbHead
    cases hp : decide (0 < n)
    · rfl
    have hp := of_decide_eq_true hp
    have e1 : IntKind.wrap .u64 (18446744073709551615 - x) = (18446744073709551615 - x) % 18446744073709551616 := rfl
    have e2 : IntKind.wrap .u64 (IntKind.wrap .i64 (n - 1)) = IntKind.wrap .i64 (n - 1) % 18446744073709551616 := rfl
    rw [e1, e2, wrap_i64 (by omega) (by omega), decide_eq_false (by omega)]
    rfl
  refine AWP_headK (cx := cxRcb) rfl rfl cxRcb_ok 1 [0, 1, 2, 3] (by kernel_rfl) ((cutK_run _ _).symm.trans ((cb_head x n _).trans hh)) ?_
  have eb : tailN 1 Bcb = .seq (.seq (c1 (c1 (tailN 1 Bcb))) (.block 0 (.loop (cin (cin (c2 (c1 (tailN 1 Bcb)))))))) (tailN 2 Bcb) := by kernel_rfl
  rw [eb]
  obtain ⟨s, g1, g2⟩ := Option.map_eq_some_iff.1 ((cutK_run _ _).symm.trans (cb_start x n (refO A B C D E)))
  refine AWP_seq (AWP_seq (AWP_run (cx := cxRcb) rfl rfl cxRcb_ok g1 ?_))
  obtain ⟨ex, t, H⟩ := s
  simp only [Prod.mk.injEq] at g2
  obtain ⟨rfl, g2, rfl⟩ := g2
  refine AWP_block (AWP.less (s := cbT x n 0) (g2 ▸ TLe.keep _ _) ?_)
  refine AWP_roundsK (cx := cxRcb) (P := Tryz.prog) (n := 62) rfl rfl cxRcb_ok (cbSt x n A B C D E) (fun k => n.toNat - k.1) [] [0, 1, 2, 3, 9] ?_ ⟨0, Nat.zero_le _⟩
  rintro ⟨k, hk⟩
  refine Tree.all_run_eq (cbRound_eq x n k A B C D E) ?_
  refine ⟨fun hlt => ?_, fun hge => ?_⟩
  · have hlt := of_decide_eq_true hlt
    have hnext : (cbNext x n k (refO A B C D E)).all (RoundK (cbSt x n A B C D E) (fun k => n.toNat - k.1) [0, 1, 2, 3, 9] (blockQ 0 (seqQ (AWP Tryz.prog 62 (tailN 2 Bcb) (MPost Tryz.prog Tryz.f69 (.ok (.bool true) (refO A B C D E)))) (MPost Tryz.prog Tryz.f69 (.ok (.bool true) (refO A B C D E))))) ⟨k, hk⟩) := by
      refine ⟨⟨k + 1, by omega⟩, by show n.toNat - (k + 1) < n.toNat - k; omega, ?_, rfl⟩
      rw [wrap_i64 (by omega) (by omega)]
      exact TLe.refl _
    have hfind := all_t (y := .fail) hl (all_f (x := .leaf (.ret, cbT x n k, refO A B C D E)) (decide_eq_false (idx_base hx (i := k) (by omega))) hnext)
    exact ⟨fun _ => ⟨fun _ => hnext, fun _ => hfind⟩, fun _ => hfind⟩
  · have hge := of_decide_eq_false hge
    intro t ht
    show AWP _ _ _ _ _ _
    refine AWP.less (s := []) (fun _ => .inr rfl) ?_
    obtain ⟨s, g1, g2⟩ := bind_run (cb_end (refO A B C D E))
    refine AWP_run (cx := cxRcb) rfl rfl cxRcb_ok g1 ?_
    exact answerM_post g2
def canBig : RSpec := fun args H => match args with
  | [.ptr 0 0, .int .u64 x, .int .i64 n, .int .i64 r] => refM (fun _ _ _ _ _ => .req (isBase x && (decide (0 ≤ n) && (decide (n ≤ 8192) && r == 0))) (.leaf (.bool true))) H
  | _ => .fail
theorem canBig_ok : RSound Tryz.prog 69 canBig := by
  intro args H out h
  unfold canBig at h
  split at h
  rotate_left
  · cases h
  rename_i x n r
  obtain ⟨a, b, c, d, e, rfl, hl, h⟩ := refM_run h
  obtain ⟨h1, h⟩ := req_run h
  cases h
  simp only [Bool.and_eq_true, decide_eq_true_eq, beq_iff_eq] at h1
  obtain ⟨hx, h2, h3, rfl⟩ := h1
  exact cb_ok hx h2 h3 hl
noncomputable def cxRset : Cx := { P := Tryz.prog, n := Tryz.f32.ntmps, tab := [], mtab := [(70, putRf)], refs := [], keeps := [0, 1, 2, 6, 7, 13, 17], rtab := [(69, canBig)] }
noncomputable def cxRset0 : Cx := { cxRset with fuel := 1 }
theorem cxRset_ok : CxOk cxRset := ⟨.nil _, .cons putRf_ok (.nil _), .cons canBig_ok (.nil _), fun p h => by cases h⟩
noncomputable abbrev Brs : Code := bodyOf Tryz.f32
def rsS (x : Int) (l : List Int) (n : Nat) (a b c d e : List Int) : List O := refO (layL 1 x l n a) (layL 2 x l n b) (layL 16 x l n c) (layL 17 x l n d) (layL 32 x l n e)
def rsT (x : Int) (l sp : List Int) (fl : Fl) (i : Int) : T := [(0, .ptr 0 0), (1, .int .u64 x), (2, .sl (.int .u8) l sp fl), (7, .int .i64 i)]
def rsRound (x : Int) (l sp : List Int) (fl : Fl) (i : Nat) (a b c d e : List Int) : Tree St :=
  .br (decide ((i : Int) < l.length)) (.br (inside i l.length) (.br (lens5 a b c d e) (.br (usable (adr x i)) (.leaf (.normal, rsT x l sp fl (IntKind.wrap .i64 ((i : Int) + 1)),
      refO (setF 1 (adr x i) (l.getD i 0) a) (setF 2 (adr x i) (l.getD i 0) b) (setF 16 (adr x i) (l.getD i 0) c) (setF 17 (adr x i) (l.getD i 0) d) (setF 32 (adr x i) (l.getD i 0) e))) .fail) .fail) .fail)
    (.leaf (.exit 0, rsT x l sp fl i, refO a b c d e))
theorem rsRound_eq (x : Int) (l sp : List Int) (fl : Fl) (i : Nat) (a b c d e : List Int) :
    ((dcode cxRset (cin (cin (c2 (c1 (tailN 1 Brs))))) (rsT x l sp fl i) (refO a b c d e)).bind (rnd 7 [] [0, 1, 2, 7])).run = (rsRound x l sp fl i a b c d e).run :=
  (show _ = (rsRound x l sp fl i a b c d e).out by kernel_rfl).trans (Tree.out_run _)
theorem rs_head (x : Int) (l sp : List Int) (fl : Fl) (a b c d e : List Int) : ((dcode cxRset (headN 1 Brs) (initT 0 [.ptr 0 0, .int .u64 x, .sl (.int .u8) l sp fl]) (refO a b c d e)).bind (cutK [0, 1, 2])).run =
    cond (lens5 a b c d e) (cond (isBase x && (decide ((0 : Int) ≤ l.length) && (decide ((l.length : Int) ≤ 8192) && true))) (some (.normal, [(0, .ptr 0 0), (1, .int .u64 x), (2, .sl (.int .u8) l sp fl)], refO a b c d e)) none) none := by kernel_rfl
theorem rs_start (x : Int) (l sp : List Int) (fl : Fl) (H : List O) : ((dcode cxRset (c1 (c1 (tailN 1 Brs))) [(0, .ptr 0 0), (1, .int .u64 x), (2, .sl (.int .u8) l sp fl)] H).bind (cutK [0, 1, 2, 7])).run = some (.normal, rsT x l sp fl 0, H) := by kernel_rfl
theorem rs_end (H : List O) : ((dcode cxRset (tailN 2 Brs) [] H).bind (answerM Tryz.prog Tryz.f32.results.toList)).run = some (.ok (.int .i64 0) H) := by kernel_rfl
theorem rs_nil (x : Int) (a b c d e : List Int) : (mfun cxRset0 Tryz.f32 [.ptr 0 0, .int .u64 x, .val (.slice none 0 0)] (refO a b c d e)).fin = cond (lens5 a b c d e) (cond (isBase x && true) (some (.ok (.int .i64 0) (refO a b c d e))) none) none := by kernel_rfl
def rsSt (x : Int) (l sp : List Int) (fl : Fl) (a b c d e : List Int) (i : { i : Nat // i ≤ l.length }) : T × List O := (rsT x l sp fl i.1, rsS x l i.1 a b c d e)
set_option maxRecDepth 8000 in
theorem rs_ok {x : Int} {l : List Int} (sp : List Int) (fl : Fl) {a b c d e : List Int} (hx : isBase x = true) (hn : l.length ≤ 8192) (hb8 : l.all byteB = true) (hl : lens5 a b c d e = true) :
    MCall Tryz.prog 32 [.ptr 0 0, .int .u64 x, .sl (.int .u8) l sp fl] (refO a b c d e) (.ok (.int .i64 0) (rsS x l l.length a b c d e)) := by
  refine mcall_of' (c := Brs) (fn := Tryz.f32) (by kernel_rfl) (by kernel_rfl) (by kernel_rfl) (by kernel_rfl) ?_
  have hb : (isBase x && (decide ((0 : Int) ≤ l.length) && (decide ((l.length : Int) ≤ 8192) && true))) = true := by
    rw [hx, decide_eq_true (by omega), decide_eq_true (by omega)]
    rfl
  refine AWP_headK (cx := cxRset) rfl rfl cxRset_ok 1 [0, 1, 2] (by kernel_rfl) (by rw [← cutK_run, rs_head, hl, hb]; rfl) ?_
  have eb : tailN 1 Brs = .seq (.seq (c1 (c1 (tailN 1 Brs))) (.block 0 (.loop (cin (cin (c2 (c1 (tailN 1 Brs)))))))) (tailN 2 Brs) := by kernel_rfl
  rw [eb]
  obtain ⟨s, g1, g2⟩ := Option.map_eq_some_iff.1 ((cutK_run _ _).symm.trans (rs_start x l sp fl (refO a b c d e)))
  refine AWP_seq (AWP_seq (AWP_run (cx := cxRset) rfl rfl cxRset_ok g1 ?_))
  obtain ⟨ex, t, H⟩ := s
  simp only [Prod.mk.injEq] at g2
  obtain ⟨rfl, g2, rfl⟩ := g2
  refine AWP_block (AWP.less (s := rsT x l sp fl 0) (g2 ▸ TLe.keep _ _) ?_)
  refine AWP_roundsK (cx := cxRset) (P := Tryz.prog) (n := 30) rfl rfl cxRset_ok (rsSt x l sp fl a b c d e) (fun i => l.length - i.1) [] [0, 1, 2, 7] ?_ ⟨0, Nat.zero_le _⟩
  rintro ⟨i, hi⟩
  have hl' := lens5_layL x l hb8 hl i
  refine Tree.all_run_eq (rsRound_eq x l sp fl i _ _ _ _ _) ?_
  refine ⟨fun hlt => ?_, fun hge => ?_⟩
  · have hlt : i < l.length := Int.ofNat_lt.1 (of_decide_eq_true hlt)
    refine all_t (inside_of (Int.natCast_nonneg i) (Int.ofNat_lt.2 hlt)) (all_t hl' (all_t (usable_base hx (by omega)) ⟨⟨i + 1, hlt⟩, by show l.length - (i + 1) < l.length - i; omega, ?_, rfl⟩))
    rw [wrap_i64 (by omega) (by omega)]
    exact TLe.refl _
  · have hge : ¬ i < l.length := fun h => of_decide_eq_false hge (Int.ofNat_lt.2 h)
    have hi' : i = l.length := by omega
    subst hi'
    intro t _
    show AWP _ _ _ _ _ _
    refine AWP.less (s := []) (fun _ => .inr rfl) ?_
    obtain ⟨s, g1, g2⟩ := bind_run (rs_end (rsS x l l.length a b c d e))
    refine AWP_run (cx := cxRset) rfl rfl cxRset_ok g1 ?_
    exact answerM_post g2
def okLast : V → Bool
  | .rng .i64 0 5 => true
  | .int .i64 0 => true
  | _ => false
def refMW {α : Type} (f : List Int → List Int → List Int → List Int → List Int → Tree α) : List O → Tree α
  | .cells [.ref 1 3 0 5, v] t :: H => .req (okLast v) (refM f (.cells [.ref 1 3 0 5, .rng .i64 0 5] t :: H))
  | _ => .fail
theorem refMW_run {f : List Int → List Int → List Int → List Int → List Int → Tree Res} {H : List O} {out : Res} (h : (refMW f H).run = some out) :
    ∃ v a b c d e, H = refH v a b c d e ∧ okLast v = true ∧ lens5 a b c d e = true ∧ (f a b c d e).run = some out := by
  unfold refMW at h
  split at h
  rotate_left
  · cases h
  rename_i v t H
  obtain ⟨h1, h⟩ := req_run h
  obtain ⟨a, b, c, d, e, g1, g2, g3⟩ := refM_run h
  refine ⟨v, a, b, c, d, e, ?_, h1, g2, g3⟩
  unfold refO refH at g1
  simp only [List.cons.injEq, O.cells.injEq] at g1
  obtain ⟨⟨_, rfl⟩, rfl⟩ := g1
  rfl
theorem mcall_last {f : Nat} {args : List V} {v : V} {A B C D E : List Int} {o : V} {H' : List O} (hv : okLast v = true) (h : MCall Tryz.prog f args (refO A B C D E) (.ok o H')) : MCall Tryz.prog f args (refH v A B C D E) (.ok o H') := by
  unfold okLast at hv
  split at hv
  · exact h
  · exact mcall_in (A := []) (pre := [.ref 1 3 0 5]) (post := []) (lo := 0) (hi := 5) (by decide) (by decide) h
  · cases hv
def setRM : MSpec := fun args H => match args with
  | [.ptr 0 0, .int .u64 x, .sl (.int .u8) l _ _] => refMW (fun a b c d e => .req (isBase x && (decide (l.length ≤ 8192) && l.all byteB)) (.leaf (.ok (.int .i64 0) (refO (layL 1 x l l.length a) (layL 2 x l l.length b) (layL 16 x l l.length c) (layL 17 x l l.length d) (layL 32 x l l.length e))))) H
  | [.ptr 0 0, .int .u64 x, .val (.slice none 0 0)] => refMW (fun a b c d e => .req (isBase x) (.leaf (.ok (.int .i64 0) (refO a b c d e)))) H
  | _ => .fail
theorem setRM_ok : MSound Tryz.prog 32 setRM := by
  intro args H out h
  unfold setRM at h
  split at h
  · rename_i x l sp fl
    obtain ⟨v, a, b, c, d, e, rfl, hv, hl, h⟩ := refMW_run h
    obtain ⟨h1, h⟩ := req_run h
    cases h
    obtain ⟨hx, hn⟩ := Bool.and_eq_true_iff.1 h1
    obtain ⟨hn, h8⟩ := Bool.and_eq_true_iff.1 hn
    exact mcall_last hv (rs_ok sp fl hx (of_decide_eq_true hn) h8 hl)
  · rename_i x
    obtain ⟨v, a, b, c, d, e, rfl, hv, hl, h⟩ := refMW_run h
    obtain ⟨h1, h⟩ := req_run h
    cases h
    refine mcall_last hv (msound_fun (cx := cxRset0) (fn := Tryz.f32) cxRset_ok (by kernel_rfl) (by kernel_rfl) _ _ _ ?_)
    refine run_req (by kernel_rfl) ?_
    rw [← Tree.fin_run, rs_nil, hl, cond_true, h1]
    rfl
  · cases h
end Go.Ra

namespace Go.Ra
open Go Go.Ab Go.Proofs
def wi (x : Int) : Int := IntKind.wrap .i64 x
def wu (x : Int) : Int := IntKind.wrap .u64 x
def okReg (n : Int) : Bool := decide (0 ≤ n) && decide (n ≤ 31)
def oX (n : Int) : Nat := cond (n == 31) 1000 (1 + n.toNat)
def regF (cs : List V) (n : Int) : Int := cond (n == 31) 0 (intAt cs (1 + n.toNat * 1))
def isU : V → Bool
  | .int .u64 _ => true
  | _ => false
def rowB (cs : List V) : Bool := Nat.beq ((cs.drop 1).take 32).length 32 && (((cs.drop 1).take 32).all isU && Nat.ble cs.length 900)
theorem rowB_at {cs : List V} (h : rowB cs = true) {o : Nat} (h1 : 1 ≤ o) (h2 : o < 33) : isIntAt .u64 cs o = true := by
  unfold rowB at h
  simp only [Bool.and_eq_true] at h
  obtain ⟨g1, g2, _⟩ := h
  have g1 := Nat.eq_of_beq_eq_true g1
  have hlen : 33 ≤ cs.length := by
    simp only [List.length_take, List.length_drop] at g1
    omega
  have hlt : o < cs.length := by omega
  have hm : cs[o] ∈ (cs.drop 1).take 32 := by
    have e : ((cs.drop 1).take 32)[o - 1]? = some cs[o] := by
      rw [List.getElem?_take, if_pos (by omega), List.getElem?_drop, show 1 + (o - 1) = o by omega, List.getElem?_eq_getElem hlt]
    exact List.mem_of_getElem? e
  have hu := List.all_eq_true.1 g2 _ hm
  unfold isIntAt
  rw [List.getElem?_eq_getElem hlt]
  generalize cs[o] = v at hu
  cases v with
  | int k n =>
    cases k with
    | u64 => rfl
    | _ => cases hu
  | _ => cases hu
theorem okReg_in {n : Int} (h : okReg n = true) : 0 ≤ n ∧ n ≤ 31 := by
  simpa only [okReg, Bool.and_eq_true, decide_eq_true_eq] using h
noncomputable def cxSet : Cx := { P := Tryz.prog, n := Tryz.f51.ntmps, tab := [], mtab := [], refs := [], keeps := [0, 1, 2, 7], lz := [14] }
noncomputable def cxReg : Cx := { cx52 with lz := [12] }
theorem reg_eq (cs : List V) (t : TypeId) (rest : List O) (n : Int) : (qfun cxReg Tryz.f52 [.ptr 0 0, .int .i64 n] (.cells cs t :: rest)).fin =
    cond (n == 31) (some (.int .u64 0)) (cond (inside n 32) (cond (isIntAt .u64 cs (1 + n.toNat * 1)) (some (.int .u64 (intAt cs (1 + n.toNat * 1)))) none) none) := by kernel_rfl
def regR : RSpec := fun args H => match args, H with
  | [.ptr 0 0, .int .i64 n], .cells cs _ :: _ => .req (rowB cs && okReg n) (.leaf (.int .u64 (regF cs n)))
  | _, _ => .fail
theorem regR_ok : RSound Tryz.prog 52 regR := by
  intro args H v h
  unfold regR at h
  split at h
  rotate_left
  · cases h
  rename_i n cs t rest
  obtain ⟨h1, h⟩ := req_run h
  cases h
  obtain ⟨g1, g2⟩ := Bool.and_eq_true_iff.1 h1
  obtain ⟨n0, n1⟩ := okReg_in g2
  refine qfun_ok (cx := cxReg) (fn := Tryz.f52) (cx0_ok rfl rfl) (by kernel_rfl) (by kernel_rfl) (by kernel_rfl) (by kernel_rfl) _ _ _ ?_
  rw [← Tree.fin_run, reg_eq]
  unfold regF
  by_cases h31 : n = 31
  · subst h31
    rfl
  · have e : (n == 31) = false := by simpa using h31
    rw [e, cond_false, cond_false, inside_of n0 (by omega), cond_true, rowB_at g1 (by omega) (by omega), cond_true]
theorem set_eq (cs : List V) (t : TypeId) (rest : List O) (n x : Int) : (mfun cxSet Tryz.f51 [.ptr 0 0, .int .i64 n, .int .u64 x] (.cells cs t :: rest)).fin =
    cond (n != 31) (cond (inside n 32) (cond (isIntAt .u64 cs (1 + n.toNat * 1)) (some (.ok (.tup []) (.cells (setI .u64 (1 + n.toNat * 1) x 0 cs) t :: rest))) none) none) (some (.ok (.tup []) (.cells cs t :: rest))) := by kernel_rfl
def setM : MSpec := fun args H => match args, H with
  | [.ptr 0 0, .int .i64 n, .int .u64 x], .cells cs t :: rest => .req (rowB cs && okReg n) (.leaf (.ok (.tup []) (.cells (setI .u64 (oX n) x 0 cs) t :: rest)))
  | _, _ => .fail
theorem setM_ok : MSound Tryz.prog 51 setM := by
  intro args H v h
  unfold setM at h
  split at h
  rotate_left
  · cases h
  rename_i n x cs t rest
  obtain ⟨h1, h⟩ := req_run h
  cases h
  obtain ⟨g1, g2⟩ := Bool.and_eq_true_iff.1 h1
  obtain ⟨n0, n1⟩ := okReg_in g2
  refine msound_fun (cx := cxSet) (fn := Tryz.f51) (cx0_ok rfl rfl) (by kernel_rfl) (by kernel_rfl) _ _ _ ?_
  refine run_req (by kernel_rfl) ?_
  rw [← Tree.fin_run, set_eq]
  unfold oX
  by_cases h31 : n = 31
  · subst h31
    have hl : cs.length ≤ 900 := by
      unfold rowB at g1
      simp only [Bool.and_eq_true] at g1
      exact Nat.le_of_ble_eq_true g1.2.2
    show some (Res.ok (.tup []) (.cells cs t :: rest)) = some (Res.ok (.tup []) (.cells (setI .u64 1000 x 0 cs) t :: rest))
    rw [setI_out cs 0 (by omega)]
  · have e : (n == 31) = false := by simpa using h31
    have e2 : (n != 31) = true := by simpa using h31
    rw [e, e2, cond_false, cond_true, inside_of n0 (by omega), cond_true, rowB_at g1 (by omega) (by omega), cond_true, Nat.mul_one]
noncomputable def cx11 : Cx := { P := Tryz.prog, n := 97, tab := [], mtab := [], refs := [], keeps := [0, 1, 2, 4, 5, 6, 10, 15, 19, 24, 28, 33, 37, 42, 51, 60, 67, 74, 86] }
def holdsF (z n c v : Bool) (d : Int) : Bool :=
  cond (d == 0) z (cond (d == 1) (!z) (cond (d == 2) c (cond (d == 3) (!c) (cond (d == 4) n (cond (d == 5) (!n) (cond (d == 6) v (cond (d == 7) (!v) (cond (d == 8) (cond c (!z) false)
    (cond (d == 9) (cond (!c) true z) (cond (d == 10) (n == v) (cond (d == 11) (!(n == v)) (cond (d == 12) (cond (!z) (n == v) false) (cond (d == 13) (cond z true (!(n == v))) false)))))))))))))
def bO (b : Bool) : Option V := some (.bool b)
def holdsT (z n c v : Bool) (d : Int) : Option V :=
  cond (d == 0) (bO z) (cond (d == 1) (bO (!z)) (cond (d == 2) (bO c) (cond (d == 3) (bO (!c)) (cond (d == 4) (bO n) (cond (d == 5) (bO (!n)) (cond (d == 6) (bO v) (cond (d == 7) (bO (!v)) (cond (d == 8) (cond c (bO (!z)) (bO false))
    (cond (d == 9) (cond (!c) (bO true) (bO z)) (cond (d == 10) (bO (n == v)) (cond (d == 11) (bO (!(n == v))) (cond (d == 12) (cond (!z) (bO (n == v)) (bO false)) (cond (d == 13) (cond z (bO true) (bO (!(n == v)))) (bO false))))))))))))))
theorem holds_eq (p x0 x1 x2 x3 x4 x5 x6 x7 x8 x9 x10 x11 x12 x13 x14 x15 x16 x17 x18 x19 x20 x21 x22 x23 x24 x25 x26 x27 x28 x29 x30 x31 th : Int) (z n c v : Bool) (d : Int) :
    (dfun cx11 Tryz.f11 [.agg (CpuT.l ⟨p, [x0, x1, x2, x3, x4, x5, x6, x7, x8, x9, x10, x11, x12, x13, x14, x15, x16, x17, x18, x19, x20, x21, x22, x23, x24, x25, x26, x27, x28, x29, x30, x31], z, n, c, v, th⟩), .int .i64 d]).fin = holdsT z n c v d := by kernel_rfl
theorem holdsT_eq (z n c v : Bool) (d : Int) : holdsT z n c v d = some (.bool (holdsF z n c v d)) := by
  unfold holdsT holdsF
  cases d == 0 <;> cases d == 1 <;> cases d == 2 <;> cases d == 3 <;> cases d == 4 <;> cases d == 5 <;> cases d == 6 <;> cases d == 7 <;> simp only [cond_true, cond_false, bO] <;>
    cases d == 8 <;> cases d == 9 <;> cases d == 10 <;> cases d == 11 <;> cases d == 12 <;> cases d == 13 <;> simp only [cond_true, cond_false] <;> cases c <;> cases z <;> rfl
theorem cpu_tab {s : CpuT} (h : s.x.length = 32) : (⟨s.pc, [s.x.getD 0 0, s.x.getD 1 0, s.x.getD 2 0, s.x.getD 3 0, s.x.getD 4 0, s.x.getD 5 0, s.x.getD 6 0, s.x.getD 7 0, s.x.getD 8 0, s.x.getD 9 0, s.x.getD 10 0, s.x.getD 11 0, s.x.getD 12 0, s.x.getD 13 0, s.x.getD 14 0, s.x.getD 15 0, s.x.getD 16 0, s.x.getD 17 0, s.x.getD 18 0, s.x.getD 19 0, s.x.getD 20 0, s.x.getD 21 0, s.x.getD 22 0, s.x.getD 23 0, s.x.getD 24 0, s.x.getD 25 0, s.x.getD 26 0, s.x.getD 27 0, s.x.getD 28 0, s.x.getD 29 0, s.x.getD 30 0, s.x.getD 31 0], s.z, s.n, s.c, s.v, s.th⟩ : CpuT) = s := by
  obtain ⟨p, x, z, n, c, v, th⟩ := s
  simp only [CpuT.mk.injEq, true_and, and_true]
  exact (list_tab h).symm
def holdsS : Ab.Spec := fun args => match args with
  | [.agg cs, .int .i64 d] => match cpuOf cs with
    | some s => .leaf (.bool (holdsF s.z s.n s.c s.v d))
    | none => .fail
  | _ => .fail
theorem holdsS_ok : Sound Tryz.prog 11 holdsS := by
  intro args out h
  unfold holdsS at h
  split at h
  rotate_left
  · cases h
  rename_i cs d
  split at h
  rotate_left
  · cases h
  rename_i s hs
  cases h
  obtain ⟨e1, e2⟩ := cpuOf_spec hs
  subst e1
  refine pcall_fun' (cx := cx11) (fn := Tryz.f11) (cx0_ok rfl rfl) (by kernel_rfl) (by kernel_rfl) (by kernel_rfl) ?_
  rw [← Tree.fin_run, ← holdsT_eq, ← cpu_tab e2]
  apply holds_eq
noncomputable def cx58 : Cx := { P := Tryz.prog, n := 45, tab := [], mtab := [], refs := [], keeps := [0, 1, 2, 3, 8, 9, 10, 11, 18, 30] }
noncomputable def cx57 : Cx := { P := Tryz.prog, n := 17, tab := [], mtab := [], refs := [], keeps := [0, 1, 4, 5, 6, 8] }
noncomputable def cx56 : Cx := { P := Tryz.prog, n := 10, tab := [], mtab := [], refs := [], keeps := [0, 1, 4, 6] }
def shlF (x c : Int) : Int := IntKind.wrap .u64 (x * 2 ^ (min c.toNat 64))
def shrF (x c : Int) : Int := Int.fdiv x (2 ^ (min c.toNat 64))
def fieldX (b w at_ : Int) (sg : Bool) : Int := cond sg (shlF (wu (shrF (wi (shlF b (wi (64 - w)))) (wi (64 - w)))) at_) (shlF (shrF (shlF b (wi (64 - w))) (wi (64 - w))) at_)
def iO (x : Int) : Option V := some (.int .u64 x)
def fieldK (b w at_ : Int) (sg : Bool) : Option V :=
  cond (decide (0 ≤ wi (64 - w))) (cond sg (cond (decide (0 ≤ wi (64 - w))) (cond (decide (0 ≤ at_)) (iO (shlF (wu (shrF (wi (shlF b (wi (64 - w)))) (wi (64 - w)))) at_)) none) none)
    (cond (decide (0 ≤ wi (64 - w))) (cond (decide (0 ≤ at_)) (iO (shlF (shrF (shlF b (wi (64 - w))) (wi (64 - w))) at_)) none) none)) none
def fieldT (b r t : Int) (sg : Bool) : Option V := cond (decide (t < r)) (fieldK b (wi (t + 1)) (wi (64 - r)) sg) (cond (decide (0 ≤ r)) (fieldK (shrF b r) (wi (wi (t - r) + 1)) 0 sg) none)
theorem field_eq (b r t : Int) (sg : Bool) : (dfun cx58 Tryz.f58 [.int .u64 b, .int .i64 r, .int .i64 t, .bool sg]).fin = fieldT b r t sg := by kernel_rfl
def fieldF (b r t : Int) (sg : Bool) : Int := cond (decide (t < r)) (fieldX b (wi (t + 1)) (wi (64 - r)) sg) (fieldX (shrF b r) (wi (wi (t - r) + 1)) 0 sg)
def ok6 (n : Int) : Bool := decide (0 ≤ n) && decide (n ≤ 63)
def fieldS : Ab.Spec := fun args => match args with
  | [.int .u64 b, .int .i64 r, .int .i64 t, .bool sg] => .req (ok6 r && ok6 t) (.leaf (.int .u64 (fieldF b r t sg)))
  | _ => .fail
theorem wi_eq {x : Int} (h0 : -9223372036854775808 ≤ x) (h1 : x < 9223372036854775808) : wi x = x := wrap_i64 h0 h1
theorem fieldS_ok : Sound Tryz.prog 58 fieldS := by
  intro args out h
  unfold fieldS at h
  split at h
  rotate_left
  · cases h
  rename_i b r t sg
  obtain ⟨h1, h⟩ := req_run h
  cases h
  simp only [ok6, Bool.and_eq_true, decide_eq_true_eq] at h1
  refine pcall_fun' (cx := cx58) (fn := Tryz.f58) (cx0_ok rfl rfl) (by kernel_rfl) (by kernel_rfl) (by kernel_rfl) ?_
  rw [← Tree.fin_run, field_eq]
  unfold fieldT fieldF
  by_cases hlt : t < r
  · rw [decide_eq_true hlt, cond_true, cond_true]
    unfold fieldK fieldX
    have e : wi (t + 1) = t + 1 := wi_eq (by omega) (by omega)
    have e2 : wi (64 - r) = 64 - r := wi_eq (by omega) (by omega)
    have e3 : wi (64 - (t + 1)) = 64 - (t + 1) := wi_eq (by omega) (by omega)
    rw [e, e2, e3, decide_eq_true (by omega), decide_eq_true (by omega)]
    cases sg <;> rfl
  · rw [decide_eq_false hlt, cond_false, cond_false, decide_eq_true (by omega), cond_true]
    unfold fieldK fieldX
    have e : wi (t - r) = t - r := wi_eq (by omega) (by omega)
    have e2 : wi (t - r + 1) = t - r + 1 := wi_eq (by omega) (by omega)
    have e3 : wi (64 - (t - r + 1)) = 64 - (t - r + 1) := wi_eq (by omega) (by omega)
    rw [e, e2, e3, decide_eq_true (by omega)]
    cases sg <;> rfl
def divF (a b : Int) : Int := cond (b == 0) 0 (cond (b == -1) (wu (wi (0 - a))) (wu (wi (Int.tdiv a b))))
theorem divide_eq (a b : Int) : (dfun cx57 Tryz.f57 [.int .i64 a, .int .i64 b]).fin = cond (b == 0) (iO 0) (cond (b == -1) (iO (wu (wi (0 - a)))) (cond (!decide (b = 0)) (iO (wu (wi (Int.tdiv a b)))) none)) := by kernel_rfl
def divideS : Ab.Spec := fun args => match args with
  | [.int .i64 a, .int .i64 b] => .leaf (.int .u64 (divF a b))
  | _ => .fail
theorem divideS_ok : Sound Tryz.prog 57 divideS := by
  intro args out h
  unfold divideS at h
  split at h
  rotate_left
  · cases h
  rename_i a b
  cases h
  refine pcall_fun' (cx := cx57) (fn := Tryz.f57) (cx0_ok rfl rfl) (by kernel_rfl) (by kernel_rfl) (by kernel_rfl) ?_
  rw [← Tree.fin_run, divide_eq]
  unfold divF
  by_cases h0 : b = 0
  · subst h0
    rfl
  · have e : (b == 0) = false := by simpa using h0
    rw [e, cond_false, cond_false, decide_eq_false h0]
    cases b == -1 <;> rfl
def divuF (a b : Int) : Int := cond (b == 0) 0 (wu (Int.tdiv a b))
theorem divu_eq (a b : Int) : (dfun cx56 Tryz.f56 [.int .u64 a, .int .u64 b]).fin = cond (b == 0) (iO 0) (cond (!decide (b = 0)) (iO (wu (Int.tdiv a b))) none) := by kernel_rfl
def divuS : Ab.Spec := fun args => match args with
  | [.int .u64 a, .int .u64 b] => .leaf (.int .u64 (divuF a b))
  | _ => .fail
theorem divuS_ok : Sound Tryz.prog 56 divuS := by
  intro args out h
  unfold divuS at h
  split at h
  rotate_left
  · cases h
  rename_i a b
  cases h
  refine pcall_fun' (cx := cx56) (fn := Tryz.f56) (cx0_ok rfl rfl) (by kernel_rfl) (by kernel_rfl) (by kernel_rfl) ?_
  rw [← Tree.fin_run, divu_eq]
  unfold divuF
  by_cases h0 : b = 0
  · subst h0
    rfl
  · have e : (b == 0) = false := by simpa using h0
    rw [e, cond_false, cond_false, decide_eq_false h0]
    rfl
end Go.Ra
