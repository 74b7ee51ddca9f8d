/-
  Ten bytes of code fetched; runarm: the law Same. Conditions: none.
-/
import Derived.Test.YtmbbnhcbphkniaaGreatDoorPk32
import Derived.Test.YtmbbnhcbphkniaaGreatDoorRs5
set_option linter.unusedVariables false
set_option linter.unusedSimpArgs false
namespace Go.Ra
open Go Go.Ab Go.Proofs Go.Rk
def fetK (K : Nat) (x : Int) : Nat := if 4096 ≤ x ∧ x < 12288 then min K (12288 - x).toNat else 0
def fetKL (K : Nat) (a b c d e : List Int) (x : Int) : List Int := (List.range (fetK K x)).map fun (i : Nat) => byteF a b c d e (x + (i : Int))
theorem fetK_le (K : Nat) (x : Int) : fetK K x ≤ K := by
  unfold fetK
  split <;> omega
theorem fetKL_len (K : Nat) (a b c d e : List Int) (x : Int) : (fetKL K a b c d e x).length = fetK K x := by
  unfold fetKL
  rw [List.length_map, List.length_range]
theorem pfGo_eqK {a b c d e : List Int} {x : Int} (hl : lens5 a b c d e = true) (hx : rng64 x = true) {K : Nat} (hK : K ≤ 16) : ∀ (m i : Nat), i + m = K → i ≤ fetK K x →
    pfGo a b c d e x m i ((List.range i).map fun (j : Nat) => byteF a b c d e (x + (j : Int))) = pfAns (memO a b c d e) (fetKL K a b c d e x)
  | 0, i, hi, hf => by
    have : i = fetK K x := by have := fetK_le K x; omega
    subst this
    rfl
  | m + 1, i, hi, hf => by
    have hr := adv_rng x (i : Int)
    have e0 : adv x (i : Int) = (x + (i : Int)) % 18446744073709551616 := rfl
    unfold pfGo
    rw [hl, hr, Bool.true_and, Bool.true_and]
    simp only [cond_true]
    simp only [rng64, Bool.and_eq_true, decide_eq_true_eq] at hx
    by_cases hlt : i < fetK K x
    · have hin : 4096 ≤ x ∧ x + i < 12288 := by
        unfold fetK at hlt
        split at hlt <;> omega
      have ea : adv x (i : Int) = x + i := by rw [e0]; omega
      rw [decide_eq_false (by omega), cond_false, ea, mayB_in (rng_of (by omega) (by omega)) (by omega) (by omega) (by omega) (by omega)]
      have hu := usable_exec (x := x + i) (by omega) hin.2
      rw [rng_of (x := x + i) (by omega) (by omega), Bool.true_and] at hu
      rw [hu]
      simp only [Bool.not_true, cond_false, cond_true]
      rw [← map_more (f := fun (j : Nat) => byteF a b c d e (x + (j : Int))) i]
      exact pfGo_eqK hl (rng_of hx.1 hx.2) hK m (i + 1) (by omega) hlt
    · have hif : i = fetK K x := by omega
      have hans : pfAns (memO a b c d e) ((List.range i).map fun (j : Nat) => byteF a b c d e (x + (j : Int))) = pfAns (memO a b c d e) (fetKL K a b c d e x) := by
        rw [hif]
        rfl
      rw [hans]
      cases hov : decide (adv x (i : Int) < x)
      · have hov := of_decide_eq_false hov
        have ho : mayB (adv x (i : Int)) 1 1 = false := by
          refine mayB_out hr (by omega) (by omega) ?_
          unfold fetK at hif
          split at hif <;> omega
        rw [cond_false, ho]
        rfl
      · rfl
noncomputable def cxPf10 : Cx := { cxPf with fuel := 11 }
theorem cxPf10_ok : CxOk cxPf10 := cxPf_ok
noncomputable def pf10 (a b c d e : List Int) (x : Int) : Option Res := (mfun cxPf10 Tryz.f19 [.ptr 0 0, .int .u64 x, .int .i64 10] (memO a b c d e)).fin
theorem pf10_eq (a b c d e : List Int) (x : Int) : pf10 a b c d e x = pfGo a b c d e x 10 0 [] := by kernel_rfl
theorem pfAns_eqK (K : Nat) (a b c d e : List Int) (x : Int) : pfAns (memO a b c d e) (fetKL K a b c d e x) =
    cond (Nat.beq (fetK K x) 0) (some (.ok (.tup [.val (.slice none 0 0), .int .i64 21]) (memO a b c d e))) (some (.ok (.tup [.gro 7 (.int .u8) (fetKL K a b c d e x), .int .i64 0]) (memO a b c d e ++ [.tok (fetKL K a b c d e x).length 1]))) := by
  cases h : Nat.beq (fetK K x) 0
  · have hlen := fetKL_len K a b c d e x
    cases hL : fetKL K a b c d e x with
    | nil =>
      rw [hL] at hlen
      rw [← hlen] at h
      cases h
    | cons y r => rfl
  · have hn : fetKL K a b c d e x = [] := by
      unfold fetKL
      rw [Nat.eq_of_beq_eq_true h]
      rfl
    rw [hn]
    rfl
def fetch10 : MSpec := fun args H => match args with
  | [.ptr 0 0, .int .u64 x, .int .i64 n] => memM (fun a b c d e => .req (rng64 x && n == 10) (.br (Nat.beq (fetK 10 x) 0) (.leaf (.ok (.tup [.val (.slice none 0 0), .int .i64 21]) (memO a b c d e)))
      (.leaf (.ok (.tup [.gro 7 (.int .u8) (fetKL 10 a b c d e x), .int .i64 0]) (memO a b c d e ++ [.tok (fetKL 10 a b c d e x).length 1]))))) H
  | _ => .fail
theorem fetch10_ok : MSound Tryz.prog 19 fetch10 := by
  intro args H out h
  unfold fetch10 at h
  split at h
  rotate_left
  · cases h
  rename_i x n
  obtain ⟨a, b, c, d, e, rfl, hl, h⟩ := memM_run h
  obtain ⟨h1, hres⟩ := req_run h
  clear h
  obtain ⟨hx, hn⟩ := Bool.and_eq_true_iff.1 h1
  have hn : n = 10 := by simpa using hn
  subst hn
  refine msound_fun (cx := cxPf10) (fn := Tryz.f19) cxPf10_ok (by kernel_rfl) (by kernel_rfl) _ _ _ ?_
  refine run_req (by kernel_rfl) ?_
  rw [← Tree.fin_run]
  refine (pf10_eq a b c d e x).trans ?_
  refine (pfGo_eqK hl hx (K := 10) (by omega) 10 0 rfl (Nat.zero_le _)).trans ?_
  rw [pfAns_eqK, ← hres, br_cond]
  rfl
noncomputable def cxSm (g : StFn) (f : OutFn) : Cx := { P := Tryz.prog, n := Tryz.f7.ntmps, tab := [(10, begunS), (20, isaS)], mtab := [(18, stpS g), (14, runS f), (15, worldD), (17, copyM), (19, fetch10)], refs := [], keeps := [0, 1, 2, 3, 6, 7, 9, 10, 11, 12, 13, 14, 15, 16, 17, 18, 19, 20, 21, 22, 23, 24, 26, 34, 80, 89, 99] }
noncomputable abbrev Bsm : Code := bodyOf Tryz.f7
def smHead (s : CpuT) (l m : List Int) : Tree St :=
  .br (decide (8192 < ((l.length : Nat) : Int))) (.leaf (.ret, ssA s l m [(6, .bool true), (26, .bool false), (34, .bool true)], [cpuO s])) (.br (decide (8192 < ((m.length : Nat) : Int))) (.leaf (.ret, ssA s l m [(6, .bool true), (26, .bool false), (34, .bool true)], [cpuO s]))
    (.br (setB l && setB m) (.leaf (.normal, ssA s l m [(6, .bool false), (7, .ptr 1 0), (26, .bool false), (34, .bool false)],
    cpuO s :: bothA (wdK 1 l m zeros) (wdK 2 l m zeros) (wdK 16 l m zeros) (wdK 17 l m zeros) (wdK 32 l m zeros))) .fail))
theorem sm_head (g : StFn) (f : OutFn) (s : CpuT) (l m : List Int) : (dcode (cxSm g f) (headN 3 Bsm) (initT 0 [.agg (tabS s).l, .sl (.int .u8) l [] .may, .sl (.int .u8) m [] .may]) []).run = (smHead s l m).run :=
  (show _ = (smHead s l m).out by kernel_rfl).trans (Tree.out_run _)
def smNo : Option V := some (.bool false)
def smRun (f : OutFn) (s : CpuT) (l A B C D E : List Int) : Out := f (dI l 0).1 (tabS s) (dI l 0).2.1 (dI l 0).2.2.1 (dI l 0).2.2.2.1 (dI l 0).2.2.2.2.1 (dI l 0).2.2.2.2.2 (dN l 0) A B C D E
def smX (L : Bool) (g : StFn) (f : OutFn) (s : CpuT) (A B C D E : List Int) : Option V :=
  let o := g (tabS s) A B C D E
  let l := fetKL 10 A B C D E s.pc
  let u := smRun f s l A B C D E
  let rest := cond (true && L) (cond (rng64 s.pc && true) (cond (Nat.beq (fetK 10 s.pc) 0) (some (.bool (o.err == 21))) (cond (true && decide (l.length < 1000000000)) (cond (dE l 0 != 0) (some (.bool (o.err == 22)))
    (cond (true && L) (cond (fineB (tabS s)) (cond (eqS (tabS u.s) (tabS o.s)) (cond (u.ev == o.ev) (some (.bool (u.err == o.err))) smNo) smNo) none) none)) none)) none) none
  cond (true && L) (cond (true && L) (cond (true && L) (cond (fineB (tabS s)) (cond (true && L) (cond (fineB (tabS s)) (cond (!(eqS (tabS o.s) (tabS o.s))) smNo (cond (o.ev != o.ev) smNo (cond (o.err != o.err) smNo (cond (o.err != 0) (cond (!(eqS (tabS o.s) (tabS s))) smNo rest) rest)))) none) none) none) none) none) none
noncomputable def smE (g : StFn) (f : OutFn) (s : CpuT) (A B C D E : List Int) : Option V := ((dcode (cxSm g f) (tailN 3 Bsm) [(3, .ptr 0 0), (7, .ptr 1 0)] (cpuO s :: bothA A B C D E)).bind (answer Tryz.prog Tryz.f7.results.toList)).fin
theorem sm_eq (g : StFn) (f : OutFn) (s : CpuT) (A B C D E : List Int) : smE g f s A B C D E = smX (lens5 A B C D E) g f s A B C D E := by kernel_rfl
theorem w4_front {l m : List Int} (h : ∀ i, i < 4 → l.getD i 0 = m.getD i 0) : Wd.w4 l 0 = Wd.w4 m 0 := by
  have g : ∀ (i : Nat) (a : Int), i < 4 → a.toNat = i → Wd.gb l a = Wd.gb m a := fun i a hi ha => by
    unfold Wd.gb
    rw [ha, h i hi]
  unfold Wd.w4
  rw [g 0 0 (by omega) rfl, g 1 (IntKind.wrap .i64 (0 + 1)) (by omega) rfl, g 2 (IntKind.wrap .i64 (0 + 2)) (by omega) rfl, g 3 (IntKind.wrap .i64 (0 + 3)) (by omega) rfl]
theorem map_getD {f : Nat → Int} {n i : Nat} (h : i < n) : ((List.range n).map f).getD i 0 = f i := by
  rw [List.getD_eq_getElem?_getD, List.getElem?_map, List.getElem?_range h]
  rfl
theorem dec_same (A B C D E : List Int) (x : Int) : dI (fetL A B C D E x) 0 = dI (fetKL 10 A B C D E x) 0 ∧ dN (fetL A B C D E x) 0 = dN (fetKL 10 A B C D E x) 0 ∧ dE (fetL A B C D E x) 0 = dE (fetKL 10 A B C D E x) 0 := by
  have n4 := fetL_len A B C D E x
  have n10 := fetKL_len 10 A B C D E x
  have ho : ∀ l : List Int, outOf l 0 = false := fun l => by
    unfold outOf
    rw [decide_eq_false (by omega), decide_eq_false (by omega)]
    rfl
  by_cases h : 4 ≤ fetN x
  · have h10 : 4 ≤ fetK 10 x := by
      unfold fetN at h
      unfold fetK
      split at h <;> rename_i hx
      · rw [if_pos hx]; omega
      · omega
    have hle := fetK_le 10 x
    have hle4 := fetN_le x
    have s4 : shortOf (fetL A B C D E x) 0 = false := by
      unfold shortOf
      rw [n4, wrap_i64 (by omega) (by omega)]
      exact decide_eq_false (by omega)
    have s10 : shortOf (fetKL 10 A B C D E x) 0 = false := by
      unfold shortOf
      rw [n10, wrap_i64 (by omega) (by omega)]
      exact decide_eq_false (by omega)
    have hw : Wd.w4 (fetL A B C D E x) 0 = Wd.w4 (fetKL 10 A B C D E x) 0 := w4_front fun i hi => by
      unfold fetL fetKL
      rw [map_getD (by omega), map_getD (by omega)]
    unfold dI dN dE
    rw [ho, ho, s4, s10, hw]
    simp only [and_self]
  · have h10 : fetK 10 x < 4 := by
      unfold fetN at h
      unfold fetK
      split at h <;> rename_i hx
      · rw [if_pos hx]; omega
      · rw [if_neg hx]; omega
    have hle4 := fetN_le x
    have s4 : shortOf (fetL A B C D E x) 0 = true := by
      unfold shortOf
      rw [n4, wrap_i64 (by omega) (by omega)]
      exact decide_eq_true (by omega)
    have s10 : shortOf (fetKL 10 A B C D E x) 0 = true := by
      unfold shortOf
      rw [n10, wrap_i64 (by omega) (by omega)]
      exact decide_eq_true (by omega)
    unfold dI dN dE
    rw [ho, ho, s4, s10]
    simp only [Bool.false_or, cond_true, cond_false, and_self]
theorem beq_no {n : Nat} (hn : n ≠ 0) : Nat.beq n 0 = false := by
  cases n with
  | zero => exact absurd rfl hn
  | succ n => rfl
theorem fet_none (x : Int) : Nat.beq (fetK 10 x) 0 = Nat.beq (fetN x) 0 := by
  by_cases h : 4096 ≤ x ∧ x < 12288
  · have h1 : fetK 10 x ≠ 0 := by
      unfold fetK
      rw [if_pos h]
      omega
    have h2 : fetN x ≠ 0 := by
      unfold fetN
      rw [if_pos h]
      omega
    rw [beq_no h1, beq_no h2]
  · have h1 : fetK 10 x = 0 := by
      unfold fetK
      rw [if_neg h]
    have h2 : fetN x = 0 := by
      unfold fetN
      rw [if_neg h]
    rw [h1, h2]
def FEr (f : OutFn) : Prop := ∀ nm s a b c d m sz A B C D E, Fine s → lens5 A B C D E = true → (f nm s a b c d m sz A B C D E).err ≠ 0 → (f nm s a b c d m sz A B C D E).s = s
theorem smX_true {f : OutFn} (hf : FEr f) {s : CpuT} {A B C D E : List Int} (hs : Fine s) (hl : lens5 A B C D E = true) : smX true (stG f) f s A B C D E = some (.bool true) := by
  have hts : tabS s = s := cpu_tab hs.len
  have hfb := fineB_of hs
  have h10 : decide ((fetKL 10 A B C D E s.pc).length < 1000000000) = true := decide_eq_true (by rw [fetKL_len]; have := fetK_le 10 s.pc; omega)
  obtain ⟨e1, e2, e3⟩ := dec_same A B C D E s.pc
  unfold smX smRun stG
  dsimp only
  rw [hts, hfb, hs.pc, h10, fet_none, e1, e2, e3]
  simp only [eqS_self, bne_self_eq_false, Bool.not_true, cond_false, cond_true, Bool.and_self]
  cases hn : Nat.beq (fetN s.pc) 0
  · simp only [cond_false]
    cases hd : dE (fetKL 10 A B C D E s.pc) 0 != 0
    · simp only [cond_false]
      have hs' := hf (dI (fetKL 10 A B C D E s.pc) 0).1 s (dI (fetKL 10 A B C D E s.pc) 0).2.1 (dI (fetKL 10 A B C D E s.pc) 0).2.2.1 (dI (fetKL 10 A B C D E s.pc) 0).2.2.2.1 (dI (fetKL 10 A B C D E s.pc) 0).2.2.2.2.1 (dI (fetKL 10 A B C D E s.pc) 0).2.2.2.2.2 (dN (fetKL 10 A B C D E s.pc) 0) A B C D E hs hl
      generalize f (dI (fetKL 10 A B C D E s.pc) 0).1 s (dI (fetKL 10 A B C D E s.pc) 0).2.1 (dI (fetKL 10 A B C D E s.pc) 0).2.2.1 (dI (fetKL 10 A B C D E s.pc) 0).2.2.2.1 (dI (fetKL 10 A B C D E s.pc) 0).2.2.2.2.1 (dI (fetKL 10 A B C D E s.pc) 0).2.2.2.2.2 (dN (fetKL 10 A B C D E s.pc) 0) A B C D E = o at hs'
      simp only [eqS_self, bne_self_eq_false, beq_self_eq_true, Bool.not_true, cond_false, cond_true]
      cases he : o.err != 0
      · rfl
      · have he : o.err ≠ 0 := by simpa using he
        rw [hs' he, hts, eqS_self]
        rfl
    · simp only [cond_true, hts, eqS_self]
      rfl
  · simp only [cond_true, hts, eqS_self]
    rfl
theorem cxSm_ok {g : StFn} {f : OutFn} (h1 : MSound Tryz.prog 18 (stpS g)) (h2 : MSound Tryz.prog 14 (runS f)) : CxOk (cxSm g f) :=
  ⟨.cons begunS_ok (.cons isaS_ok (.nil _)), .cons h1 (.cons h2 (.cons worldD_ok (.cons copyM_ok (.cons fetch10_ok (.nil _))))), .nil _, fun p h => by cases h⟩
set_option maxRecDepth 8000 in
theorem same_law {f : OutFn} (hf : FEr f) (h2 : MSound Tryz.prog 14 (runS f)) {s : CpuT} (hs : Fine s) {l m : List Int} (h3 : l.all byteB = true) (h4 : m.all byteB = true) :
    PCall Tryz.prog 7 [.agg s.l, .sl (.int .u8) l [] .may, .sl (.int .u8) m [] .may] (.bool true) := by
  have hok := cxSm_ok (stpS_ok h2) h2
  have hts : tabS s = s := cpu_tab hs.len
  rw [← hts]
  refine pcall_of' (c := Bsm) (fn := Tryz.f7) (by kernel_rfl) (by kernel_rfl) (by kernel_rfl) (by kernel_rfl) ?_
  refine AWP_headE (cx := cxSm (stG f) f) rfl rfl hok 3 (by kernel_rfl) (sm_head (stG f) f s l m) ?_
  refine ⟨fun _ => ⟨.inl rfl, by kernel_rfl⟩, fun hx => ⟨fun _ => ⟨.inl rfl, by kernel_rfl⟩, fun hy => ?_⟩⟩
  have hx := of_decide_eq_false hx
  have hy := of_decide_eq_false hy
  have b1 : setB l = true := by
    unfold setB
    rw [h3, decide_eq_true (by omega)]
    rfl
  have b2 : setB m = true := by
    unfold setB
    rw [h4, decide_eq_true (by omega)]
    rfl
  refine all_t (by rw [b1, b2]; rfl) ?_
  show AWP _ _ _ _ _ _
  refine AWP.less (s := [(3, .ptr 0 0), (7, .ptr 1 0)]) (Fits.tle ⟨rfl, rfl, trivial⟩) ?_
  have hl := lens5_wd b1 b2 lens_zeros
  generalize wdK 1 l m zeros = A at hl
  generalize wdK 2 l m zeros = B at hl
  generalize wdK 16 l m zeros = C at hl
  generalize wdK 17 l m zeros = D at hl
  generalize wdK 32 l m zeros = E at hl
  have he := (sm_eq (stG f) f s A B C D E).trans ((congrArg (fun L => smX L (stG f) f s A B C D E) hl).trans (smX_true hf hs hl))
  unfold smE at he
  rw [Tree.fin_run] at he
  obtain ⟨r, q1, q2⟩ := bind_run he
  exact AWP_run (cx := cxSm (stG f) f) rfl rfl hok q1 (answer_post q2)
theorem outA_err : FEr outA := fun nm s a b c d m sz A B C D E hs hl h => by
  obtain ⟨_, _, h3, _⟩ := out_is check_eq wdF_wide nm hs a b c d m sz hl
  exact (h3 h).1
theorem same_call (x : EC.tys [cpuE, .sl (.int .u8), .sl (.int .u8)]) (h : okEs [cpuE, .sl (.int .u8), .sl (.int .u8)] x) : PCall Tryz.prog 7 (argVs [cpuE, .sl (.int .u8), .sl (.int .u8)] x) (.bool true) := by
  rw [argS]
  exact same_law outA_err runA_ok (cpuA_fine h.1) (ok_bytes h.2.1) (ok_bytes h.2.2)
end Go.Ra
