/-
  The engine, part Yh: a region that draws its order; what may be turned is not tried twice. Conditions: none.
-/
import Derived.Test.YtbanejncffdihaaPk15
import Derived.Test.YtbanejncffdihaaPk14
set_option linter.unusedVariables false
set_option linter.unusedSimpArgs false
namespace Go.Ab
def firmB (cx : Cx) (ops : Array Oper) (ah : List (List Nat)) (listed : Array Bool) (i : Nat) : Bool :=
  (List.range ops.size).all fun j => listed.getD j false || (Nat.beq j i || (hasN i (ah.getD j []) || (match ops[i]?, ops[j]? with
    | some x, some y => x.apart ops y && mayTurn cx x y
    | _, _ => true)))
def ordsP (cx : Cx) (ops : Array Oper) (ah : List (List Nat)) : Nat → Array Bool → T × List O → Option (List (T × List O))
  | 0, listed, p => cond (Region.ready .any ops listed).isEmpty (some [p]) none
  | fuel + 1, listed, p => match (Region.ready .any ops listed).find? (firmB cx ops ah listed) with
    | some i => match ops[i]? with
      | some o => match step1 cx ops o p with
        | some q => ordsP cx ops ah fuel (listed.setIfInBounds i true) q
        | none => none
      | none => none
    | none => cond (Region.ready .any ops listed).isEmpty none
      ((Region.ready .any ops listed).foldr (fun i acc => match acc, ops[i]? with
        | some l, some o => match step1 cx ops o p with
          | some q => match ordsP cx ops ah fuel (listed.setIfInBounds i true) q with
            | some m => some (m ++ l)
            | none => none
          | none => none
        | _, _ => none) (some []))
inductive Compl (ops : Array Oper) : Array Bool → List Nat → Prop
  | nil {listed : Array Bool} : Region.ready .any ops listed = [] → Compl ops listed []
  | cons {listed : Array Bool} {i : Nat} {l : List Nat} : i ∈ Region.ready .any ops listed → Compl ops (listed.setIfInBounds i true) l → Compl ops listed (i :: l)
section
variable {cx : Cx} {ops : Array Oper}
def isIn (listed : Array Bool) : Nat → Bool := fun j => listed.getD j false
theorem isIn_set {listed : Array Bool} {i : Nat} (hi : i < listed.size) : isIn (listed.setIfInBounds i true) = with1 (isIn listed) i := by
  funext j
  unfold with1 isIn
  by_cases hj : j = i
  · subst hj
    simp [Array.getD_eq_getD_getElem?, hi]
  · have hji : (j == i) = false := by simpa using hj
    rw [getD_set_ne false (fun e => hj e.symm), hji, Bool.or_false]
theorem ready_lt {listed : Array Bool} {i : Nat} (h : i ∈ Region.ready .any ops listed) : i < ops.size := by
  obtain ⟨_, o, ho, _⟩ := mem_ready.1 h
  exact (Array.getElem?_eq_some_iff.1 ho).1
theorem ready_out {listed : Array Bool} {i : Nat} (hs : listed.size = ops.size) (h : i ∈ Region.ready .any ops listed) : isIn listed i = false := by
  have hlt := ready_lt h
  obtain ⟨h1, _⟩ := mem_ready.1 h
  unfold isIn
  rw [Array.getD_eq_getD_getElem?] at h1 ⊢
  have : i < listed.size := by omega
  simp [this] at h1 ⊢
  exact h1
theorem closed_set {listed : Array Bool} {i : Nat} (hs : listed.size = ops.size) (hc : Closed ops (isIn listed)) (h : i ∈ Region.ready .any ops listed) : Closed ops (isIn (listed.setIfInBounds i true)) := by
  rw [isIn_set (by rw [hs]; exact ready_lt h)]
  obtain ⟨_, o, ho, h3⟩ := mem_ready.1 h
  exact closed_with hc fun o' ho' e he hb => by
    rw [ho] at ho'
    simp only [Option.some.injEq] at ho'
    subst ho'
    exact h3 e he hb
theorem ready_stays {listed : Array Bool} {i j : Nat} (h : i ∈ Region.ready .any ops listed) (hj : j ≠ i) : i ∈ Region.ready .any ops (listed.setIfInBounds j true) := by
  obtain ⟨h1, o, ho, h3⟩ := mem_ready.1 h
  exact mem_ready.2 ⟨by rw [getD_set_ne true hj]; exact h1, o, ho, fun e he hb => getD_set_true (h3 e he hb)⟩
theorem ready_not {listed : Array Bool} {i j : Nat} (hs : listed.size = ops.size) (hc : Closed ops (isIn listed)) (hi : i ∈ Region.ready .any ops listed) (hj : j ∈ Region.ready .any ops listed) (hne : j ≠ i) : ¬ Anc ops i j := by
  intro ha
  have := ha _ (closed_set hs hc hj) (by rw [isIn_set (by rw [hs]; exact ready_lt hj)]; simp [with1])
  rw [isIn_set (by rw [hs]; exact ready_lt hj)] at this
  unfold with1 at this
  rw [ready_out hs hi, Bool.false_or] at this
  exact hne (by simpa using this : i = j).symm
theorem compl_split {listed : Array Bool} {l : List Nat} (h : Compl ops listed l) : ∀ {i : Nat}, listed.size = ops.size → Closed ops (isIn listed) → i ∈ Region.ready .any ops listed →
    ∃ A B, l = A ++ i :: B ∧ Compl ops (listed.setIfInBounds i true) (A ++ B) ∧ ∀ j ∈ A, j ≠ i ∧ j < ops.size ∧ isIn listed j = false ∧ ¬ Anc ops i j := by
  induction h with
  | nil h0 =>
    intro i _ _ hi
    rw [h0] at hi; cases hi
  | @cons listed j l hj hc ih =>
    intro i hs hcl hi
    by_cases hji : j = i
    · subst hji
      exact ⟨[], l, rfl, hc, fun j hj => by cases hj⟩
    · obtain ⟨A, B, rfl, h2, h3⟩ := ih (i := i) (by simpa using hs) (closed_set hs hcl hj) (ready_stays hi hji)
      refine ⟨j :: A, B, rfl, .cons (ready_stays hj (fun e => hji e.symm)) ?_, fun k hk => ?_⟩
      · rw [Array.setIfInBounds_comm _ _ (fun e => hji e.symm)]
        exact h2
      · rcases List.mem_cons.1 hk with rfl | hk
        · exact ⟨hji, ready_lt hj, ready_out hs hj, ready_not hs hcl hi hj hji⟩
        · obtain ⟨g1, g2, g3, g4⟩ := h3 k hk
          refine ⟨g1, g2, ?_, g4⟩
          rw [isIn_set (by rw [hs]; exact ready_lt hj)] at g3
          unfold with1 at g3
          exact (Bool.or_eq_false_iff.1 g3).1
theorem firm_turns {ah : List (List Nat)} {listed : Array Bool} {i : Nat} (hah : ∀ (j : Nat) a, ah[j]? = some a → ∀ k ∈ a, Anc ops k j) (h : firmB cx ops ah listed i = true) {j : Nat} (hj : j < ops.size) (hne : j ≠ i)
    (ho : isIn listed j = false) (hn : ¬ Anc ops i j) : Turns cx ops (fun _ => True) i j := by
  intro x y hx hy
  have := List.all_eq_true.1 h j (List.mem_range.2 hj)
  rw [hx, hy] at this
  have h1 : listed.getD j false = false := ho
  have h2 : Nat.beq j i = false := by
    cases hb : Nat.beq j i
    · rfl
    · exact absurd (Nat.eq_of_beq_eq_true hb) hne
  have h3 : hasN i (ah.getD j []) = false := by
    cases hb : hasN i (ah.getD j [])
    · rfl
    · have hm := hasN_mem hb
      rw [List.getD_eq_getElem?_getD] at hm
      cases ha : ah[j]? with
      | none => rw [ha] at hm; cases hm
      | some a => rw [ha] at hm; exact absurd (hah j a ha i hm) hn
  rw [h1, h2, h3, Bool.false_or, Bool.false_or, Bool.false_or, Bool.and_eq_true] at this
  exact ⟨this.1, .inl this.2⟩
theorem keeps_true : Keeps cx ops (fun _ => True) := fun _ _ _ _ _ _ _ => trivial
theorem ordsP_step {ah : List (List Nat)} {fuel : Nat} {listed : Array Bool} {p : T × List O} : ∀ (is : List Nat) (l : List (T × List O)),
    is.foldr (fun i acc => match acc, ops[i]? with
      | some l, some o => match step1 cx ops o p with
        | some q => match ordsP cx ops ah fuel (listed.setIfInBounds i true) q with
          | some m => some (m ++ l)
          | none => none
        | none => none
      | _, _ => none) (some []) = some l →
    ∀ i ∈ is, ∃ o q m, ops[i]? = some o ∧ step1 cx ops o p = some q ∧ ordsP cx ops ah fuel (listed.setIfInBounds i true) q = some m ∧ ∀ s ∈ m, s ∈ l
  | [], _, _, i, hi => by cases hi
  | j :: is, l, h, i, hi => by
    rw [List.foldr_cons] at h
    split at h
    rotate_left
    · cases h
    rename_i l' o h1 h2
    split at h
    rotate_left
    · cases h
    rename_i q hq
    split at h
    rotate_left
    · cases h
    rename_i m hm
    simp only [Option.some.injEq] at h
    subst h
    rcases List.mem_cons.1 hi with rfl | hi
    · exact ⟨o, q, m, h2, hq, hm, fun s hs => List.mem_append_left _ hs⟩
    · obtain ⟨o', q', m', g1, g2, g3, g4⟩ := ordsP_step is l' h1 i hi
      exact ⟨o', q', m', g1, g2, g3, fun s hs => List.mem_append_right _ (g4 s hs)⟩
theorem runI_cons {i : Nat} {o : Oper} (ho : ops[i]? = some o) {p q : T × List O} (h : step1 cx ops o p = some q) (l : List Nat) : runI cx ops (i :: l) p = runI cx ops l q := by
  simp only [runI, ho, h]
theorem ordsP_all {ah : List (List Nat)} (hah : ∀ (j : Nat) a, ah[j]? = some a → ∀ k ∈ a, Anc ops k j) : ∀ (fuel : Nat) (listed : Array Bool) (p : T × List O) (L : List (T × List O)), ordsP cx ops ah fuel listed p = some L → listed.size = ops.size → Closed ops (isIn listed) →
    ∀ l, Compl ops listed l → ∃ r, runI cx ops l p = some r ∧ ∃ s ∈ L, Like s r
  | 0, listed, p, L, h, hs, hc, l, hl => by
    unfold ordsP at h
    cases hr : (Region.ready .any ops listed).isEmpty
    · rw [hr] at h; cases h
    rw [hr] at h
    simp only [cond_true, Option.some.injEq] at h
    subst h
    cases hl with
    | nil _ => exact ⟨p, rfl, p, List.mem_cons_self, .refl p⟩
    | cons hi _ =>
      rw [List.isEmpty_iff.1 hr] at hi; cases hi
  | fuel + 1, listed, p, L, h, hs, hc, l, hl => by
    unfold ordsP at h
    split at h
    · rename_i i hf
      have hfirm := List.find?_some hf
      have hi := List.mem_of_find?_eq_some hf
      split at h
      rotate_left
      · cases h
      rename_i o ho
      split at h
      rotate_left
      · cases h
      rename_i q hq
      obtain ⟨A, B, rfl, h2, h3⟩ := compl_split hl hs hc hi
      obtain ⟨r, hr, s, hsL, hlk⟩ := ordsP_all hah fuel _ q L h (by simpa using hs) (closed_set hs hc hi) _ h2
      have hr' : runI cx ops ((i :: A) ++ B) p = some r := by rw [List.cons_append, runI_cons ho hq]; exact hr
      rw [runI_append] at hr'
      obtain ⟨m, hm, hB⟩ := Option.bind_eq_some_iff.1 hr'
      obtain ⟨m', hm', hlm⟩ := move_end (I := fun _ => True) keeps_true A trivial (fun j hj => by
        obtain ⟨g1, g2, g3, g4⟩ := h3 j hj
        exact firm_turns hah hfirm g2 g1 g3 g4) hm
      obtain ⟨r', hr2, hlr⟩ := runI_like B hlm hB
      refine ⟨r', ?_, s, hsL, hlk.trans hlr⟩
      rw [show A ++ i :: B = (A ++ [i]) ++ B from by simp, runI_append, hm']
      exact hr2
    · cases hr : (Region.ready .any ops listed).isEmpty
      rotate_left
      · rw [hr] at h; cases h
      rw [hr, cond_false] at h
      cases hl with
      | nil h0 => rw [h0] at hr; cases hr
      | @cons _ i l hi hl =>
        obtain ⟨o, q, m, g1, g2, g3, g4⟩ := ordsP_step _ L h i hi
        obtain ⟨r, h1, s, h2, h4⟩ := ordsP_all hah fuel _ q m g3 (by simpa using hs) (closed_set hs hc hi) l hl
        exact ⟨r, by rw [runI_cons g1 g2]; exact h1, s, g4 s h2, h4⟩
theorem ready_some (hb : ∀ (j : Nat) o, ops[j]? = some o → ∀ e ∈ o.after, Region.binds .any e = true → e.on < j) {listed : Array Bool} (hs : listed.size = ops.size) (h : 0 < missing ops.size (isIn listed)) : ∃ i, i ∈ Region.ready .any ops listed := by
  obtain ⟨i, h1, h2, h3⟩ := first_missing h
  obtain ⟨o, ho⟩ : ∃ o, ops[i]? = some o := ⟨ops[i], by simp [h1]⟩
  refine ⟨i, mem_ready.2 ⟨?_, o, ho, fun e he hbb => h3 _ (hb i o ho e he hbb)⟩⟩
  unfold isIn at h2
  rw [Array.getD_eq_getD_getElem?] at h2 ⊢
  have : i < listed.size := by omega
  simp [this] at h2 ⊢
  exact h2
theorem ready_none {listed : Array Bool} (hs : listed.size = ops.size) (h : missing ops.size (isIn listed) = 0) : Region.ready .any ops listed = [] := by
  apply List.eq_nil_iff_forall_not_mem.2
  intro i hi
  have h1 := ready_out hs hi
  have hin : i ∈ (List.range ops.size).filter fun i => !(isIn listed i) := List.mem_filter.2 ⟨List.mem_range.2 (ready_lt hi), by simp [h1]⟩
  have h0 := List.length_eq_zero_iff.1 h
  rw [h0] at hin; cases hin
theorem compl_some (hb : ∀ (j : Nat) o, ops[j]? = some o → ∀ e ∈ o.after, Region.binds .any e = true → e.on < j) : ∀ (fuel : Nat) (listed : Array Bool), listed.size = ops.size → missing ops.size (isIn listed) = fuel → ∃ l, Compl ops listed l
  | 0, listed, hs, hm => ⟨[], .nil (ready_none hs hm)⟩
  | fuel + 1, listed, hs, hm => by
    obtain ⟨i, hi⟩ := ready_some hb hs (by omega)
    have := missing_with (S := isIn listed) (ready_lt hi) (ready_out hs hi)
    obtain ⟨l, hl⟩ := compl_some hb fuel (listed.setIfInBounds i true) (by simpa using hs) (by rw [isIn_set (by rw [hs]; exact ready_lt hi)]; omega)
    exact ⟨i :: l, .cons hi hl⟩
theorem compl_sound (hT : CxOk cx) {E H0 β0 w0 D} (hs0 : StartOk cx.P E H0 β0 w0) (hb : ∀ (j : Nat) o, ops[j]? = some o → ∀ e ∈ o.after, Region.binds .any e = true → e.on < j) {Q : AEx → T → List O → Prop} :
    ∀ (fuel : Nat) (listed : Array Bool) (p : T × List O) (β : List Loc) (a : Act) (w : World), listed.size = ops.size → missing ops.size (isIn listed) = fuel →
      (∀ l, Compl ops listed l → ∃ r, runI cx ops l p = some r ∧ ∃ s : T × List O, Q .normal s.1 s.2 ∧ Like s r) → Good E H0 β0 w0 cx.n D p.1 p.2 β a w →
      wpAny cx.P .any ops (Post E H0 β0 w0 cx.n D Q) fuel listed a w
  | 0, listed, p, β, a, w, hs, hm, h, hg => by
    have hr := ready_none hs hm
    obtain ⟨r, h1, s, h2, h3⟩ := h [] (.nil hr)
    simp only [runI, Option.some.injEq] at h1
    subst h1
    refine ⟨hr, s.1, s.2, β, h2, ?_⟩
    have := hg.like h3.1
    rw [h3.2]
    exact this
  | fuel + 1, listed, p, β, a, w, hs, hm, h, hg => by
    refine ⟨fun hr => ?_, fun i hi => ?_⟩
    · obtain ⟨i, hi⟩ := ready_some hb hs (by omega)
      rw [hr] at hi; cases hi
    · obtain ⟨_, o, ho, _⟩ := mem_ready.1 hi
      have hmw := missing_with (S := isIn listed) (ready_lt hi) (ready_out hs hi)
      have hm' : missing ops.size (isIn (listed.setIfInBounds i true)) = fuel := by rw [isIn_set (by rw [hs]; exact ready_lt hi)]; omega
      obtain ⟨l, hl⟩ := compl_some hb fuel (listed.setIfInBounds i true) (by simpa using hs) hm'
      obtain ⟨r, h1, _⟩ := h (i :: l) (.cons hi hl)
      cases hst : step1 cx ops o p with
      | none => simp only [runI, ho, hst] at h1; cases h1
      | some q =>
        refine step1_sound hT hs0 ho (t := p.1) (H := p.2) hg hst ?_
        intro β' a' w' hg'
        refine compl_sound hT hs0 hb fuel _ q β' a' w' (by simpa using hs) hm' (fun l hl => ?_) hg'
        obtain ⟨r, h1, h2⟩ := h (i :: l) (.cons hi hl)
        rw [runI_cons ho hst] at h1
        exact ⟨r, h1, h2⟩
end
section
variable {P : Program} {n : Nat} {Q : AEx → T → List O → Prop} {t : T} {H : List O} {cx : Cx} {ops : Array Oper}
def nothing (ops : Array Oper) : Array Bool := Array.replicate ops.size false
def allOrds (cx : Cx) (ops : Array Oper) (p : T × List O) : Option (List (T × List O)) :=
  cond (cx.P.follows .mixedOrders && backs 0 ops.toList) (ordsP cx ops (aheads ops.toList []) ops.size (nothing ops) p) none
theorem AWP_ordersP (hP : cx.P = P) (hn : cx.n = n) (hT : CxOk cx) {id : Nat} {l : List (T × List O)}
    (h : allOrds cx ops (t, H) = some l) (hq : ∀ s ∈ l, Q .normal s.1 s.2) : AWP P n (.region id ops true) Q t H := by
  subst hP
  subst hn
  unfold allOrds at h
  cases hf : (cx.P.follows .mixedOrders && backs 0 ops.toList)
  · rw [hf] at h; cases h
  rw [hf, cond_true] at h
  obtain ⟨hm, hb⟩ := Bool.and_eq_true_iff.1 hf
  intro E H0 β0 w0 D β a w hs hg
  refine wp_region_any hm ?_
  have st := Step.heap_same (w' := { w with drawn := w.drawn + 1 }) hg.step.rel rfl rfl rfl rfl
  have hsz : (nothing ops).size = ops.size := by simp [nothing]
  have hno : isIn (nothing ops) = fun _ => false := by
    funext j
    unfold isIn nothing
    simp only [Array.getD_eq_getD_getElem?, Array.getElem?_replicate]
    split <;> rfl
  have hcl : Closed ops (isIn (nothing ops)) := by rw [hno]; intro j o ho hj; cases hj
  refine compl_sound hT hs (backs_spec hb) ops.size (nothing ops) (t, H) β a _ hsz ?_ (fun l' hl' => ?_) ⟨hg.step.trans st, hg.fr.step st, hg.defers⟩
  · rw [hno]
    unfold missing
    have e : (List.range ops.size).filter (fun i => !(fun _ => false) i) = List.range ops.size := List.filter_eq_self.2 fun _ _ => rfl
    rw [e, List.length_range]
  · obtain ⟨r, h1, s, h2, h3⟩ := ordsP_all (aheads_ok (ops := ops) ops.toList 0 [] rfl rfl (fun j a h => by simp at h)) _ _ _ _ h hsz hcl l' hl'
    exact ⟨r, h1, s, hq s h2, h3⟩
theorem AWP.keepQ (l : List Nat) {c : Code} (h : AWP P n c (fun e t H => Q e (keep l t) H) t H) : AWP P n c Q t H := by
  intro E H0 β0 w0 D β a w hs hg
  refine wp_mono (h E H0 β0 w0 D β a w hs hg) fun e a w hp => ?_
  have le : ∀ {t H β a w}, Good E H0 β0 w0 n D t H β a w → Good E H0 β0 w0 n D (keep l t) H β a w := fun hg => ⟨hg.step, hg.fr.le (TLe.keep l _), hg.defers⟩
  cases e with
  | normal => obtain ⟨t, H, β, h1, h2⟩ := hp; exact ⟨_, H, β, h1, le h2⟩
  | exit id => obtain ⟨t, H, β, h1, h2⟩ := hp; exact ⟨_, H, β, h1, le h2⟩
  | ret => obtain ⟨t, H, β, h1, h2⟩ := hp; exact ⟨_, H, β, h1, le h2⟩
  | panic ch => obtain ⟨t, H, β, v, x, h1, h2, h3, h4⟩ := hp; exact ⟨_, H, β, v, x, h1, le h2, h3, h4⟩
  | goto l => exact hp.elim
  | outgrown => exact hp.elim
end
end Go.Ab

namespace Go.Amd
open Go Go.Ab Go.Proofs
def parO (k : Nat) (rexed : Bool) : O := .cells [nilSl, .int .i64 0, .int .i64 0, .int .i64 0, .int .i64 0, .ref 2 1 0 k, nilSl, .bool rexed] 84
def opO (op : List Int) : O := .cells (op.map (V.int .u8)) 0
noncomputable abbrev bdE (q : List UInt8 → Bool) (f : Int) (op : List Int) (rx : Int) (x : List UInt8) (dg : Int) (nm : List UInt8) (a b c d n : Int) : Tree V :=
  (dcode (cxBd q f x op dg rx) (tailN 2 Bbd) [(1, .ptr 0 0), (3, .ptr 1 0), (5, .ptr 3 0)] [insOb nm a b c d n, rowOb f x op dg rx, opO op, parO op.length (decide (0 < rx))]).bind (answer Try.prog Try.f20.results.toList)
def bt1_12 (_x : List UInt8) (_dg : Int) (_nm : List UInt8) (a b _c _d _n o : Int) : Tree V :=
  (.leaf (.sl (.int .u8) ([IntKind.wrap IntKind.u8 (IntKind.wrap IntKind.i64 (IntKind.wrap IntKind.i64 (IntKind.wrap IntKind.i64 (IntKind.wrap IntKind.i64 (64 + IntKind.wrap IntKind.i64 (8 * 1)) + IntKind.wrap IntKind.i64 (4 * IntKind.wrap IntKind.i64 (Int.tdiv b 8))) + IntKind.wrap IntKind.i64 (2 * 0)) + IntKind.wrap IntKind.i64 (Int.tdiv a 8)))] ++ [o] ++ [dirB b a]) ([]) Fl.ro))
theorem bt1_12_eq (q : List UInt8 → Bool) (x : List UInt8) (dg : Int) (nm : List UInt8) (a b c d n o : Int) : (bdE q 1 [o] 2 x dg nm a b c d n).run = (bt1_12 x dg nm a b c d n o).run :=
  (show (bdE q 1 [o] 2 x dg nm a b c d n).run = (bt1_12 x dg nm a b c d n o).out by kernel_rfl).trans (Tree.out_run _)
def bt7_22 (_x : List UInt8) (_dg : Int) (_nm : List UInt8) (a b _c d _n o p : Int) : Tree V :=
  (.leaf (.sl (.int .u8) ([IntKind.wrap IntKind.u8 (IntKind.wrap IntKind.i64 (IntKind.wrap IntKind.i64 (IntKind.wrap IntKind.i64 (IntKind.wrap IntKind.i64 (64 + IntKind.wrap IntKind.i64 (8 * 1)) + IntKind.wrap IntKind.i64 (4 * IntKind.wrap IntKind.i64 (Int.tdiv a 8))) + IntKind.wrap IntKind.i64 (2 * 0)) + IntKind.wrap IntKind.i64 (Int.tdiv b 8)))] ++ [o, IntKind.wrap IntKind.u8 (p + IntKind.wrap IntKind.u8 d)] ++ [dirB a b]) ([]) Fl.ro))
theorem bt7_22_eq (q : List UInt8 → Bool) (x : List UInt8) (dg : Int) (nm : List UInt8) (a b c d n o p : Int) : (bdE q 7 [o, p] 2 x dg nm a b c d n).run = (bt7_22 x dg nm a b c d n o p).run :=
  (show (bdE q 7 [o, p] 2 x dg nm a b c d n).run = (bt7_22 x dg nm a b c d n o p).out by kernel_rfl).trans (Tree.out_run _)
def bt11_22 (_x : List UInt8) (_dg : Int) (_nm : List UInt8) (a b _c d _n o p : Int) : Tree V :=
  (.leaf (.sl (.int .u8) ([IntKind.wrap IntKind.u8 (IntKind.wrap IntKind.i64 (IntKind.wrap IntKind.i64 (IntKind.wrap IntKind.i64 (IntKind.wrap IntKind.i64 (64 + IntKind.wrap IntKind.i64 (8 * 1)) + IntKind.wrap IntKind.i64 (4 * IntKind.wrap IntKind.i64 (Int.tdiv a 8))) + IntKind.wrap IntKind.i64 (2 * 0)) + IntKind.wrap IntKind.i64 (Int.tdiv b 8)))] ++ [o, IntKind.wrap IntKind.u8 (p + IntKind.wrap IntKind.u8 d)] ++ [dirB a b]) ([]) Fl.ro))
theorem bt11_22_eq (q : List UInt8 → Bool) (x : List UInt8) (dg : Int) (nm : List UInt8) (a b c d n o p : Int) : (bdE q 11 [o, p] 2 x dg nm a b c d n).run = (bt11_22 x dg nm a b c d n o p).run :=
  (show (bdE q 11 [o, p] 2 x dg nm a b c d n).run = (bt11_22 x dg nm a b c d n o p).out by kernel_rfl).trans (Tree.out_run _)
def bt2_12 (_x : List UInt8) (_dg : Int) (_nm : List UInt8) (a _b _c _d n o : Int) : Tree V :=
  (.leaf (.sl (.int .u8) (([IntKind.wrap IntKind.u8 (IntKind.wrap IntKind.i64 (IntKind.wrap IntKind.i64 (IntKind.wrap IntKind.i64 (IntKind.wrap IntKind.i64 (64 + IntKind.wrap IntKind.i64 (8 * 1)) + IntKind.wrap IntKind.i64 (4 * 0)) + IntKind.wrap IntKind.i64 (2 * 0)) + IntKind.wrap IntKind.i64 (Int.tdiv a 8)))] ++ [IntKind.wrap IntKind.u8 (o + IntKind.wrap IntKind.u8 (Int.tmod a 8))] ++ fx8 (IntKind.wrap IntKind.u64 n))) ([]) Fl.ro))
theorem bt2_12_eq (q : List UInt8 → Bool) (x : List UInt8) (dg : Int) (nm : List UInt8) (a b c d n o : Int) : (bdE q 2 [o] 2 x dg nm a b c d n).run = (bt2_12 x dg nm a b c d n o).run :=
  (show (bdE q 2 [o] 2 x dg nm a b c d n).run = (bt2_12 x dg nm a b c d n o).out by kernel_rfl).trans (Tree.out_run _)
def bt3_12 (_x : List UInt8) (dg : Int) (_nm : List UInt8) (a _b _c _d n o : Int) : Tree V :=
  (.leaf (.sl (.int .u8) (([IntKind.wrap IntKind.u8 (IntKind.wrap IntKind.i64 (IntKind.wrap IntKind.i64 (IntKind.wrap IntKind.i64 (IntKind.wrap IntKind.i64 (64 + IntKind.wrap IntKind.i64 (8 * 1)) + IntKind.wrap IntKind.i64 (4 * 0)) + IntKind.wrap IntKind.i64 (2 * 0)) + IntKind.wrap IntKind.i64 (Int.tdiv a 8)))] ++ [o] ++ ([dirB dg a] ++ sub (fx8 (IntKind.wrap IntKind.u64 n) ++ []) 0 4))) ([]) Fl.ro))
theorem bt3_12_eq (q : List UInt8 → Bool) (x : List UInt8) (dg : Int) (nm : List UInt8) (a b c d n o : Int) : (bdE q 3 [o] 2 x dg nm a b c d n).run = (bt3_12 x dg nm a b c d n o).run :=
  (show (bdE q 3 [o] 2 x dg nm a b c d n).run = (bt3_12 x dg nm a b c d n o).out by kernel_rfl).trans (Tree.out_run _)
def bt5_12 (_x : List UInt8) (_dg : Int) (_nm : List UInt8) (a _b _c _d n o : Int) : Tree V :=
  (.leaf (.sl (.int .u8) (([100] ++ [IntKind.wrap IntKind.u8 (IntKind.wrap IntKind.i64 (IntKind.wrap IntKind.i64 (IntKind.wrap IntKind.i64 (IntKind.wrap IntKind.i64 (64 + IntKind.wrap IntKind.i64 (8 * 1)) + IntKind.wrap IntKind.i64 (4 * IntKind.wrap IntKind.i64 (Int.tdiv a 8))) + IntKind.wrap IntKind.i64 (2 * 0)) + 0))] ++ [o] ++ ([IntKind.wrap IntKind.u8 ↑(BitVec.toNat (BitVec.ofInt 8 (IntKind.wrap IntKind.u8 (IntKind.wrap IntKind.u8 (Int.tmod a 8) * 2 ^ 3)) ||| BitVec.ofInt 8 4)), 37] ++ sub (fx8 (IntKind.wrap IntKind.u64 n) ++ []) 0 4))) ([]) Fl.ro))
theorem bt5_12_eq (q : List UInt8 → Bool) (x : List UInt8) (dg : Int) (nm : List UInt8) (a b c d n o : Int) : (bdE q 5 [o] 2 x dg nm a b c d n).run = (bt5_12 x dg nm a b c d n o).run :=
  (show (bdE q 5 [o] 2 x dg nm a b c d n).run = (bt5_12 x dg nm a b c d n o).out by kernel_rfl).trans (Tree.out_run _)
def bt6_12 (_x : List UInt8) (dg : Int) (_nm : List UInt8) (a _b _c _d n o : Int) : Tree V :=
  (.br (shortX n) (.leaf (.sl (.int .u8) (([IntKind.wrap IntKind.u8 (IntKind.wrap IntKind.i64 (IntKind.wrap IntKind.i64 (IntKind.wrap IntKind.i64 (IntKind.wrap IntKind.i64 (64 + IntKind.wrap IntKind.i64 (8 * 1)) + IntKind.wrap IntKind.i64 (4 * 0)) + IntKind.wrap IntKind.i64 (2 * 0)) + IntKind.wrap IntKind.i64 (Int.tdiv a 8)))] ++ [o] ++ ([dirB dg a] ++ [tI (List.getD (fx8 (IntKind.wrap IntKind.u64 n)) 0 (tI (EC.dflt (EC.int IntKind.u8))))]))) ([]) Fl.ro)) (.leaf (.sl (.int .u8) (([IntKind.wrap IntKind.u8 (IntKind.wrap IntKind.i64 (IntKind.wrap IntKind.i64 (IntKind.wrap IntKind.i64 (IntKind.wrap IntKind.i64 (64 + IntKind.wrap IntKind.i64 (8 * 1)) + IntKind.wrap IntKind.i64 (4 * 0)) + IntKind.wrap IntKind.i64 (2 * 0)) + IntKind.wrap IntKind.i64 (Int.tdiv a 8)))] ++ [129] ++ ([dirB dg a] ++ sub (fx8 (IntKind.wrap IntKind.u64 n) ++ []) 0 4))) ([]) Fl.ro)))
theorem bt6_12_eq (q : List UInt8 → Bool) (x : List UInt8) (dg : Int) (nm : List UInt8) (a b c d n o : Int) : (bdE q 6 [o] 2 x dg nm a b c d n).run = (bt6_12 x dg nm a b c d n o).run :=
  (show (bdE q 6 [o] 2 x dg nm a b c d n).run = (bt6_12 x dg nm a b c d n o).out by kernel_rfl).trans (Tree.out_run _)
def bt8_12 (_x : List UInt8) (dg : Int) (_nm : List UInt8) (a _b _c _d _n o : Int) : Tree V :=
  (.leaf (.sl (.int .u8) ([IntKind.wrap IntKind.u8 (IntKind.wrap IntKind.i64 (IntKind.wrap IntKind.i64 (IntKind.wrap IntKind.i64 (IntKind.wrap IntKind.i64 (64 + IntKind.wrap IntKind.i64 (8 * 1)) + IntKind.wrap IntKind.i64 (4 * 0)) + IntKind.wrap IntKind.i64 (2 * 0)) + IntKind.wrap IntKind.i64 (Int.tdiv a 8)))] ++ [o] ++ [dirB dg a]) ([]) Fl.ro))
theorem bt8_12_eq (q : List UInt8 → Bool) (x : List UInt8) (dg : Int) (nm : List UInt8) (a b c d n o : Int) : (bdE q 8 [o] 2 x dg nm a b c d n).run = (bt8_12 x dg nm a b c d n o).run :=
  (show (bdE q 8 [o] 2 x dg nm a b c d n).run = (bt8_12 x dg nm a b c d n o).out by kernel_rfl).trans (Tree.out_run _)
def bt8_10 (_x : List UInt8) (dg : Int) (_nm : List UInt8) (a _b _c _d _n o : Int) : Tree V :=
  (.br (decide (0 < IntKind.wrap IntKind.i64 (IntKind.wrap IntKind.i64 (0 + 0) + IntKind.wrap IntKind.i64 (Int.tdiv a 8)))) (.leaf (.sl (.int .u8) ([IntKind.wrap IntKind.u8 (IntKind.wrap IntKind.i64 (IntKind.wrap IntKind.i64 (IntKind.wrap IntKind.i64 (IntKind.wrap IntKind.i64 (64 + IntKind.wrap IntKind.i64 (8 * 0)) + IntKind.wrap IntKind.i64 (4 * 0)) + IntKind.wrap IntKind.i64 (2 * 0)) + IntKind.wrap IntKind.i64 (Int.tdiv a 8)))] ++ [o] ++ [dirB dg a]) ([]) Fl.ro)) (.leaf (.sl (.int .u8) ([o] ++ [dirB dg a]) ([]) Fl.ro)))
theorem bt8_10_eq (q : List UInt8 → Bool) (x : List UInt8) (dg : Int) (nm : List UInt8) (a b c d n o : Int) : (bdE q 8 [o] 0 x dg nm a b c d n).run = (bt8_10 x dg nm a b c d n o).run :=
  (show (bdE q 8 [o] 0 x dg nm a b c d n).run = (bt8_10 x dg nm a b c d n o).out by kernel_rfl).trans (Tree.out_run _)
def bt9_12 (_x : List UInt8) (_dg : Int) (_nm : List UInt8) (_a _b _c _d _n o : Int) : Tree V :=
  (.leaf (.sl (.int .u8) ([IntKind.wrap IntKind.u8 (IntKind.wrap IntKind.i64 (IntKind.wrap IntKind.i64 (IntKind.wrap IntKind.i64 (IntKind.wrap IntKind.i64 (64 + IntKind.wrap IntKind.i64 (8 * 1)) + IntKind.wrap IntKind.i64 (4 * 0)) + IntKind.wrap IntKind.i64 (2 * 0)) + 0))] ++ [o] ++ []) ([]) Fl.ro))
theorem bt9_12_eq (q : List UInt8 → Bool) (x : List UInt8) (dg : Int) (nm : List UInt8) (a b c d n o : Int) : (bdE q 9 [o] 2 x dg nm a b c d n).run = (bt9_12 x dg nm a b c d n o).run :=
  (show (bdE q 9 [o] 2 x dg nm a b c d n).run = (bt9_12 x dg nm a b c d n o).out by kernel_rfl).trans (Tree.out_run _)
def bt9_10 (_x : List UInt8) (_dg : Int) (_nm : List UInt8) (_a _b _c _d _n o : Int) : Tree V :=
  (.leaf (.sl (.int .u8) ([o] ++ []) ([]) Fl.ro))
theorem bt9_10_eq (q : List UInt8 → Bool) (x : List UInt8) (dg : Int) (nm : List UInt8) (a b c d n o : Int) : (bdE q 9 [o] 0 x dg nm a b c d n).run = (bt9_10 x dg nm a b c d n o).run :=
  (show (bdE q 9 [o] 0 x dg nm a b c d n).run = (bt9_10 x dg nm a b c d n o).out by kernel_rfl).trans (Tree.out_run _)
def bt9_20 (_x : List UInt8) (_dg : Int) (_nm : List UInt8) (_a _b _c _d _n o p : Int) : Tree V :=
  (.leaf (.sl (.int .u8) ([o, p] ++ []) ([]) Fl.ro))
theorem bt9_20_eq (q : List UInt8 → Bool) (x : List UInt8) (dg : Int) (nm : List UInt8) (a b c d n o p : Int) : (bdE q 9 [o, p] 0 x dg nm a b c d n).run = (bt9_20 x dg nm a b c d n o p).run :=
  (show (bdE q 9 [o, p] 0 x dg nm a b c d n).run = (bt9_20 x dg nm a b c d n o p).out by kernel_rfl).trans (Tree.out_run _)
def bt10_12 (_x : List UInt8) (dg : Int) (_nm : List UInt8) (a _b _c _d n o : Int) : Tree V :=
  (.leaf (.sl (.int .u8) (([IntKind.wrap IntKind.u8 (IntKind.wrap IntKind.i64 (IntKind.wrap IntKind.i64 (IntKind.wrap IntKind.i64 (IntKind.wrap IntKind.i64 (64 + IntKind.wrap IntKind.i64 (8 * 1)) + IntKind.wrap IntKind.i64 (4 * 0)) + IntKind.wrap IntKind.i64 (2 * 0)) + IntKind.wrap IntKind.i64 (Int.tdiv a 8)))] ++ [o] ++ ([dirB dg a] ++ [tI (List.getD (fx8 (IntKind.wrap IntKind.u64 n)) 0 (tI (EC.dflt (EC.int IntKind.u8))))]))) ([]) Fl.ro))
theorem bt10_12_eq (q : List UInt8 → Bool) (x : List UInt8) (dg : Int) (nm : List UInt8) (a b c d n o : Int) : (bdE q 10 [o] 2 x dg nm a b c d n).run = (bt10_12 x dg nm a b c d n o).run :=
  (show (bdE q 10 [o] 2 x dg nm a b c d n).run = (bt10_12 x dg nm a b c d n o).out by kernel_rfl).trans (Tree.out_run _)
def bt12_10 (_x : List UInt8) (_dg : Int) (_nm : List UInt8) (a _b _c _d _n o : Int) : Tree V :=
  (.br (decide (0 < IntKind.wrap IntKind.i64 (IntKind.wrap IntKind.i64 (0 + 0) + IntKind.wrap IntKind.i64 (Int.tdiv a 8)))) (.leaf (.sl (.int .u8) ([IntKind.wrap IntKind.u8 (IntKind.wrap IntKind.i64 (IntKind.wrap IntKind.i64 (IntKind.wrap IntKind.i64 (IntKind.wrap IntKind.i64 (64 + IntKind.wrap IntKind.i64 (8 * 0)) + IntKind.wrap IntKind.i64 (4 * 0)) + IntKind.wrap IntKind.i64 (2 * 0)) + IntKind.wrap IntKind.i64 (Int.tdiv a 8)))] ++ [IntKind.wrap IntKind.u8 (o + IntKind.wrap IntKind.u8 (Int.tmod a 8))] ++ []) ([]) Fl.ro)) (.leaf (.sl (.int .u8) ([IntKind.wrap IntKind.u8 (o + IntKind.wrap IntKind.u8 (Int.tmod a 8))] ++ []) ([]) Fl.ro)))
theorem bt12_10_eq (q : List UInt8 → Bool) (x : List UInt8) (dg : Int) (nm : List UInt8) (a b c d n o : Int) : (bdE q 12 [o] 0 x dg nm a b c d n).run = (bt12_10 x dg nm a b c d n o).run :=
  (show (bdE q 12 [o] 0 x dg nm a b c d n).run = (bt12_10 x dg nm a b c d n o).out by kernel_rfl).trans (Tree.out_run _)
def bt13_10 (_x : List UInt8) (_dg : Int) (_nm : List UInt8) (_a _b _c d n o : Int) : Tree V :=
  (.leaf (.sl (.int .u8) (([IntKind.wrap IntKind.u8 (o + IntKind.wrap IntKind.u8 d)] ++ sub (fx8 (IntKind.wrap IntKind.u64 n) ++ []) 0 4)) ([]) Fl.ro))
theorem bt13_10_eq (q : List UInt8 → Bool) (x : List UInt8) (dg : Int) (nm : List UInt8) (a b c d n o : Int) : (bdE q 13 [o] 0 x dg nm a b c d n).run = (bt13_10 x dg nm a b c d n o).run :=
  (show (bdE q 13 [o] 0 x dg nm a b c d n).run = (bt13_10 x dg nm a b c d n o).out by kernel_rfl).trans (Tree.out_run _)
def bt14_10 (_x : List UInt8) (_dg : Int) (_nm : List UInt8) (_a _b _c d n o : Int) : Tree V :=
  (.leaf (.sl (.int .u8) (([IntKind.wrap IntKind.u8 (o + IntKind.wrap IntKind.u8 d)] ++ sub (fx8 (IntKind.wrap IntKind.u64 n) ++ []) 0 1)) ([]) Fl.ro))
theorem bt14_10_eq (q : List UInt8 → Bool) (x : List UInt8) (dg : Int) (nm : List UInt8) (a b c d n o : Int) : (bdE q 14 [o] 0 x dg nm a b c d n).run = (bt14_10 x dg nm a b c d n o).run :=
  (show (bdE q 14 [o] 0 x dg nm a b c d n).run = (bt14_10 x dg nm a b c d n o).out by kernel_rfl).trans (Tree.out_run _)
def bt15_20 (_x : List UInt8) (_dg : Int) (_nm : List UInt8) (_a _b _c d n o p : Int) : Tree V :=
  (.leaf (.sl (.int .u8) (([o, IntKind.wrap IntKind.u8 (p + IntKind.wrap IntKind.u8 d)] ++ sub (fx8 (IntKind.wrap IntKind.u64 n) ++ []) 0 4)) ([]) Fl.ro))
theorem bt15_20_eq (q : List UInt8 → Bool) (x : List UInt8) (dg : Int) (nm : List UInt8) (a b c d n o p : Int) : (bdE q 15 [o, p] 0 x dg nm a b c d n).run = (bt15_20 x dg nm a b c d n o p).run :=
  (show (bdE q 15 [o, p] 0 x dg nm a b c d n).run = (bt15_20 x dg nm a b c d n o p).out by kernel_rfl).trans (Tree.out_run _)
def bt16_10 (_x : List UInt8) (_dg : Int) (_nm : List UInt8) (_a _b _c d n o : Int) : Tree V :=
  (.leaf (.sl (.int .u8) (([IntKind.wrap IntKind.u8 (o + IntKind.wrap IntKind.u8 d)] ++ sub (fx8 (IntKind.wrap IntKind.u64 n) ++ []) 0 1)) ([]) Fl.ro))
theorem bt16_10_eq (q : List UInt8 → Bool) (x : List UInt8) (dg : Int) (nm : List UInt8) (a b c d n o : Int) : (bdE q 16 [o] 0 x dg nm a b c d n).run = (bt16_10 x dg nm a b c d n o).run :=
  (show (bdE q 16 [o] 0 x dg nm a b c d n).run = (bt16_10 x dg nm a b c d n o).out by kernel_rfl).trans (Tree.out_run _)
end Go.Amd

namespace Go.Amd
open Go Go.Ab Go.Proofs
def slB (l : List Int) : V := .sl (.int .u8) l [] .ro
theorem via {α : Type} {a b c d : α} (h1 : a = b) (h2 : c = d) (h : b = c) : a = d := h1.trans (h.trans h2)
def q8 (n : Int) : Int := wi (Int.tdiv n 8)
def rexD (w r x b : Int) : Int := w8 (wi (wi (wi (wi (64 + wi (8 * w)) + wi (4 * r)) + wi (2 * x)) + b))
def rW (R : Int) : Int := or8 64 (or8 R 8)
def rex0 (a : Int) : List Int := cond (decide (0 < wi (wi (0 + 0) + q8 a))) [rexD 0 0 0 (q8 a)] []
theorem rex2_all : all2 16 16 (fun r b => rexD 1 (q8 r) 0 (q8 b) == rW (rexM 0 r b) && dirB r b == mrB 3 r b) = true := by kernel_rfl
theorem rex1_all : all1 16 (fun a => rexD 1 0 0 (q8 a) == rW (or8 0 (hi4 a 1)) && (rexD 1 (q8 a) 0 0 == rW (rexM 0 a 4) && (rex0 a == rexL 0 (or8 0 (hi4 a 1)) && (orB (sl8 (u8 (Int.tmod a 8)) 3) 4 == mrB 0 a 4 && w8 (Int.tmod a 8) == w8 (andi a 7))))) = true := by kernel_rfl
theorem rexg_all : all2 8 16 (fun g a => rexD 1 0 0 (q8 a) == rW (rexM 0 (wi g) a) && (rex0 a == rexL 0 (rexM 0 (wi g) a) && dirB g a == mrB 3 (wi g) a)) = true := by kernel_rfl
abbrev Reg (a : Int) : Prop := 0 ≤ a ∧ a < 16
theorem rex2 {r b : Int} (hr : Reg r) (hb : Reg b) : rexD 1 (q8 r) 0 (q8 b) = rW (rexM 0 r b) ∧ dirB r b = mrB 3 r b := by
  have := all2_of rex2_all hr.1 hr.2 hb.1 hb.2
  simpa only [Bool.and_eq_true, beq_iff_eq] using this
theorem rex1 {a : Int} (ha : Reg a) : rexD 1 0 0 (q8 a) = rW (or8 0 (hi4 a 1)) ∧ rexD 1 (q8 a) 0 0 = rW (rexM 0 a 4) ∧ rex0 a = rexL 0 (or8 0 (hi4 a 1)) ∧ orB (sl8 (u8 (Int.tmod a 8)) 3) 4 = mrB 0 a 4 ∧ w8 (Int.tmod a 8) = w8 (andi a 7) := by
  have := all1_of rex1_all ha.1 ha.2
  simpa only [Bool.and_eq_true, beq_iff_eq] using this
theorem rexg {g a : Int} (hg : 0 ≤ g ∧ g < 8) (ha : Reg a) : rexD 1 0 0 (q8 a) = rW (rexM 0 (wi g) a) ∧ rex0 a = rexL 0 (rexM 0 (wi g) a) ∧ dirB g a = mrB 3 (wi g) a := by
  have := all2_of rexg_all hg.1 hg.2 ha.1 ha.2
  simpa only [Bool.and_eq_true, beq_iff_eq] using this
theorem w8_in {o : Int} (ho : IsB o) : w8 o = o := by
  unfold w8
  rw [Go.Wd.wrap_u8]
  exact Int.emod_eq_of_lt ho.1 ho.2
theorem hd1 {o : Int} (ho : IsB o) : hdF o = [] := by
  unfold hdF
  rw [decide_eq_false (by have := ho.2; omega)]
  rfl
theorem hd2 {o p : Int} (h1 : 1 ≤ o) (ho : IsB o) (hp : IsB p) : hdF (256 * o + p) = [o] ∧ w8 (256 * o + p) = p := by
  obtain ⟨o0, o1⟩ := ho
  obtain ⟨p0, p1⟩ := hp
  have e : w8 (Int.fdiv (256 * o + p) (2 ^ 8)) = o := by
    unfold w8
    rw [Go.Wd.wrap_u8, Int.fdiv_eq_ediv_of_nonneg _ (by decide)]
    omega
  refine ⟨?_, ?_⟩
  · unfold hdF
    rw [decide_eq_true (by omega), e]
    rfl
  · unfold w8
    rw [Go.Wd.wrap_u8]
    omega
theorem w8_add0 {o : Int} (ho : IsB o) : w8 (o + w8 0) = o := by
  show w8 (o + 0) = o
  rw [Int.add_zero, w8_in ho]
theorem sh8_eq (n : Int) : sh8 n = n / 256 := by
  unfold sh8
  rw [Int.fdiv_eq_ediv_of_nonneg _ (by decide)]
  rfl
theorem u8_eq (n : Int) : u8 n = n % 256 := Go.Wd.wrap_u8 n
abbrev N64 (n : Int) : Int := IntKind.wrap .u64 n
theorem fx8_im (n : Int) : fx8 (N64 n) = im8 n := by
  show [_, _, _, _, _, _, _, _] = [_, _, _, _, _, _, _, _]
  simp only [sh8_eq, u8_eq, imB_eq, N64, Go.Wd.wrap_u64, List.cons.injEq, and_true]
  refine ⟨by omega, by omega, by omega, by omega, by omega, by omega, by omega, by omega⟩
theorem fx4_im (n : Int) : fx4 (N64 n) = im4 n := by
  have h := fx8_im n
  have e : fx4 (N64 n) = (fx8 (N64 n)).take 4 := rfl
  rw [e, h]
  rfl
theorem fx1_im (n : Int) : [u8 (N64 n)] = im1 n := by
  have h := fx8_im n
  have e : [u8 (N64 n)] = (fx8 (N64 n)).take 1 := rfl
  rw [e, h]
  rfl
theorem short_fits (n : Int) : shortX n = fitsF n := by
  rw [shortX_eq']
  unfold fitsF
  by_cases h0 : -128 ≤ n
  · rw [decide_eq_true h0, decide_eq_false (show ¬ n < -128 by omega)]
    by_cases h1 : n ≤ 127
    · rw [decide_eq_true h1, decide_eq_false (show ¬ 127 < n by omega)]
      rfl
    · rw [decide_eq_false h1, decide_eq_true (show 127 < n by omega)]
      rfl
  · rw [decide_eq_false h0, decide_eq_true (show n < -128 by omega)]
    rfl
section
variable {x nm : List UInt8} {dg a b c d n o p : Int} (ha : Reg a) (hb : Reg b) (hg : 0 ≤ dg ∧ dg < 8) (h1 : 1 ≤ o) (ho : IsB o) (hp : IsB p)
abbrev bF (f : Int) (op : List Int) (rx dg : Int) (nm : List UInt8) (a b c d n : Int) : Option V := some (slB (bytesF (conv (nm, f, some op, dg, rx)) (nm, a, b, c, d, n)))
include ha hb ho in
theorem k1 : (bt1_12 x dg nm a b c d n o).run = bF 1 [o] 2 dg nm a b c d n := by
  refine via (b := some (slB ([rexD 1 (q8 b) 0 (q8 a)] ++ [o] ++ [dirB b a]))) (c := some (slB ([] ++ [rW (rexM 0 b a)] ++ (hdF o ++ [w8 o]) ++ [mrB 3 b a]))) (by kernel_rfl) (by kernel_rfl) ?_
  rw [(rex2 hb ha).1, (rex2 hb ha).2, hd1 ho, w8_in ho]
  rfl
include ha hb h1 ho hp in
theorem k7 (hd : d = 0) : (bt7_22 x dg nm a b c d n o p).run = bF 7 [o, p] 2 dg nm a b c d n := by
  subst hd
  refine via (b := some (slB ([rexD 1 (q8 a) 0 (q8 b)] ++ [o, w8 (p + w8 0)] ++ [dirB a b]))) (c := some (slB ([] ++ [rW (rexM 0 a b)] ++ (hdF (256 * o + p) ++ [w8 (256 * o + p)]) ++ [mrB 3 a b]))) (by kernel_rfl) (by kernel_rfl) ?_
  rw [(rex2 ha hb).1, (rex2 ha hb).2, (hd2 h1 ho hp).1, (hd2 h1 ho hp).2, w8_add0 hp]
  rfl
include ha hb h1 ho hp in
theorem k11 : (bt11_22 x dg nm a b c d n o p).run = bF 11 [o, p] 2 dg nm a b c d n := by
  refine via (b := some (slB ([rexD 1 (q8 a) 0 (q8 b)] ++ [o, w8 (p + w8 d)] ++ [dirB a b]))) (c := some (slB ([] ++ [rW (rexM 0 a b)] ++ (hdF (256 * o + p) ++ [w8 (w8 (256 * o + p) + w8 d)]) ++ [mrB 3 a b]))) (by kernel_rfl) (by kernel_rfl) ?_
  rw [(rex2 ha hb).1, (rex2 ha hb).2, (hd2 h1 ho hp).1, (hd2 h1 ho hp).2]
  rfl
include ha ho in
theorem k2 : (bt2_12 x dg nm a b c d n o).run = bF 2 [o] 2 dg nm a b c d n := by
  refine via (b := some (slB ([rexD 1 0 0 (q8 a)] ++ [w8 (o + w8 (Int.tmod a 8))] ++ fx8 (N64 n)))) (c := some (slB ([] ++ [rW (or8 0 (hi4 a 1))] ++ (hdF o ++ [w8 (w8 o + w8 (andi a 7))]) ++ im8 n))) (by kernel_rfl) (by kernel_rfl) ?_
  rw [(rex1 ha).1, (rex1 ha).2.2.2.2, hd1 ho, w8_in ho, fx8_im]
  rfl
include ha hg ho in
theorem k3 : (bt3_12 x dg nm a b c d n o).run = bF 3 [o] 2 dg nm a b c d n := by
  refine via (b := some (slB ([rexD 1 0 0 (q8 a)] ++ [o] ++ ([dirB dg a] ++ fx4 (N64 n))))) (c := some (slB ([] ++ [rW (rexM 0 (wi dg) a)] ++ (hdF o ++ [w8 o]) ++ ([mrB 3 (wi dg) a] ++ im4 n)))) (by kernel_rfl) (by kernel_rfl) ?_
  rw [(rexg hg ha).1, (rexg hg ha).2.2, hd1 ho, w8_in ho, fx4_im]
  rfl
include ha ho in
theorem k5 : (bt5_12 x dg nm a b c d n o).run = bF 5 [o] 2 dg nm a b c d n := by
  refine via (b := some (slB ([100] ++ [rexD 1 (q8 a) 0 0] ++ [o] ++ ([orB (sl8 (u8 (Int.tmod a 8)) 3) 4, 37] ++ fx4 (N64 n))))) (c := some (slB ([100] ++ [rW (rexM 0 a 4)] ++ (hdF o ++ [w8 o]) ++ ([mrB 0 a 4] ++ [37] ++ im4 n)))) (by kernel_rfl) (by kernel_rfl) ?_
  rw [(rex1 ha).2.1, (rex1 ha).2.2.2.1, hd1 ho, w8_in ho, fx4_im]
  rfl
include ha hg ho in
theorem k6 : (bt6_12 x dg nm a b c d n o).run = bF 6 [o] 2 dg nm a b c d n := by
  refine via (b := cond (shortX n) (some (slB ([rexD 1 0 0 (q8 a)] ++ [o] ++ ([dirB dg a] ++ [u8 (N64 n)])))) (some (slB ([rexD 1 0 0 (q8 a)] ++ [129] ++ ([dirB dg a] ++ fx4 (N64 n))))))
    (c := some (slB ([] ++ [rW (rexM 0 (wi dg) a)] ++ (hdF o ++ [cond (fitsF n) (w8 o) 129]) ++ ([mrB 3 (wi dg) a] ++ cond (fitsF n) (im1 n) (im4 n))))) (by unfold bt6_12; rw [br_run]; kernel_rfl) (by kernel_rfl) ?_
  rw [short_fits, (rexg hg ha).1, (rexg hg ha).2.2, hd1 ho, w8_in ho, fx4_im, fx1_im]
  cases fitsF n <;> rfl
include ha hg ho in
theorem k8 : (bt8_12 x dg nm a b c d n o).run = bF 8 [o] 2 dg nm a b c d n := by
  refine via (b := some (slB ([rexD 1 0 0 (q8 a)] ++ [o] ++ [dirB dg a]))) (c := some (slB ([] ++ [rW (rexM 0 (wi dg) a)] ++ (hdF o ++ [w8 o]) ++ [mrB 3 (wi dg) a]))) (by kernel_rfl) (by kernel_rfl) ?_
  rw [(rexg hg ha).1, (rexg hg ha).2.2, hd1 ho, w8_in ho]
  rfl
include ha hg ho in
theorem k8s : (bt8_10 x dg nm a b c d n o).run = bF 8 [o] 0 dg nm a b c d n := by
  have e : (bt8_10 x dg nm a b c d n o).run = some (slB (rex0 a ++ [o] ++ [dirB dg a])) := by
    unfold bt8_10
    rw [br_run]
    show cond (decide (0 < wi (wi (0 + 0) + q8 a))) _ _ = _
    unfold rex0
    cases decide (0 < wi (wi (0 + 0) + q8 a)) <;> rfl
  refine via (c := some (slB ([] ++ rexL 0 (rexM 0 (wi dg) a) ++ (hdF o ++ [w8 o]) ++ [mrB 3 (wi dg) a]))) e (by kernel_rfl) ?_
  rw [(rexg hg ha).2.1, (rexg hg ha).2.2, hd1 ho, w8_in ho]
  rfl
include ho in
theorem k9 : (bt9_12 x dg nm a b c d n o).run = bF 9 [o] 2 dg nm a b c d n := by
  refine via (b := some (slB ([rexD 1 0 0 0] ++ [o] ++ []))) (c := some (slB ([] ++ [rW 0] ++ (hdF o ++ [w8 o]) ++ []))) (by kernel_rfl) (by kernel_rfl) ?_
  rw [hd1 ho, w8_in ho]
  rfl
include ho in
theorem k9s : (bt9_10 x dg nm a b c d n o).run = bF 9 [o] 0 dg nm a b c d n := by
  refine via (b := some (slB ([o] ++ []))) (c := some (slB ([] ++ [] ++ (hdF o ++ [w8 o]) ++ []))) (by kernel_rfl) (by kernel_rfl) ?_
  rw [hd1 ho, w8_in ho]
  rfl
include h1 ho hp in
theorem k9t : (bt9_20 x dg nm a b c d n o p).run = bF 9 [o, p] 0 dg nm a b c d n := by
  refine via (b := some (slB ([o, p] ++ []))) (c := some (slB ([] ++ [] ++ (hdF (256 * o + p) ++ [w8 (256 * o + p)]) ++ []))) (by kernel_rfl) (by kernel_rfl) ?_
  rw [(hd2 h1 ho hp).1, (hd2 h1 ho hp).2]
  rfl
include ha hg ho in
theorem k10 : (bt10_12 x dg nm a b c d n o).run = bF 10 [o] 2 dg nm a b c d n := by
  refine via (b := some (slB ([rexD 1 0 0 (q8 a)] ++ [o] ++ ([dirB dg a] ++ [u8 (N64 n)])))) (c := some (slB ([] ++ [rW (rexM 0 (wi dg) a)] ++ (hdF o ++ [w8 o]) ++ ([mrB 3 (wi dg) a] ++ im1 n)))) (by kernel_rfl) (by kernel_rfl) ?_
  rw [(rexg hg ha).1, (rexg hg ha).2.2, hd1 ho, w8_in ho, fx1_im]
  rfl
include ha ho in
theorem k12 : (bt12_10 x dg nm a b c d n o).run = bF 12 [o] 0 dg nm a b c d n := by
  have e : (bt12_10 x dg nm a b c d n o).run = some (slB (rex0 a ++ [w8 (o + w8 (Int.tmod a 8))] ++ [])) := by
    unfold bt12_10
    rw [br_run]
    show cond (decide (0 < wi (wi (0 + 0) + q8 a))) _ _ = _
    unfold rex0
    cases decide (0 < wi (wi (0 + 0) + q8 a)) <;> rfl
  refine via (c := some (slB ([] ++ rexL 0 (or8 0 (hi4 a 1)) ++ (hdF o ++ [w8 (w8 o + w8 (andi a 7))]) ++ []))) e (by kernel_rfl) ?_
  rw [(rex1 ha).2.2.1, (rex1 ha).2.2.2.2, hd1 ho, w8_in ho]
  rfl
include ho in
theorem k13 (hd : d = 0) : (bt13_10 x dg nm a b c d n o).run = bF 13 [o] 0 dg nm a b c d n := by
  subst hd
  refine via (b := some (slB ([w8 (o + w8 0)] ++ fx4 (N64 n)))) (c := some (slB ([] ++ [] ++ (hdF o ++ [w8 o]) ++ im4 n))) (by kernel_rfl) (by kernel_rfl) ?_
  rw [w8_add0 ho, hd1 ho, w8_in ho, fx4_im]
  rfl
include ho in
theorem k14 (hd : d = 0) : (bt14_10 x dg nm a b c d n o).run = bF 14 [o] 0 dg nm a b c d n := by
  subst hd
  refine via (b := some (slB ([w8 (o + w8 0)] ++ [u8 (N64 n)]))) (c := some (slB ([] ++ [] ++ (hdF o ++ [w8 o]) ++ im1 n))) (by kernel_rfl) (by kernel_rfl) ?_
  rw [w8_add0 ho, hd1 ho, w8_in ho, fx1_im]
  rfl
include h1 ho hp in
theorem k15 : (bt15_20 x dg nm a b c d n o p).run = bF 15 [o, p] 0 dg nm a b c d n := by
  refine via (b := some (slB ([o, w8 (p + w8 d)] ++ fx4 (N64 n)))) (c := some (slB ([] ++ [] ++ (hdF (256 * o + p) ++ [w8 (w8 (256 * o + p) + w8 d)]) ++ im4 n))) (by kernel_rfl) (by kernel_rfl) ?_
  rw [(hd2 h1 ho hp).1, (hd2 h1 ho hp).2, fx4_im]
  rfl
include ho in
theorem k16 : (bt16_10 x dg nm a b c d n o).run = bF 16 [o] 0 dg nm a b c d n := by
  refine via (b := some (slB ([w8 (o + w8 d)] ++ [u8 (N64 n)]))) (c := some (slB ([] ++ [] ++ (hdF o ++ [w8 (w8 o + w8 d)]) ++ im1 n))) (by kernel_rfl) (by kernel_rfl) ?_
  rw [hd1 ho, w8_in ho, fx1_im]
  rfl
end
end Go.Amd

namespace Go.Amd
open Go Go.Ab Go.Proofs
def atX (l : List Int) (k : Int) : Int := l.getD k.toNat 0
def atS : Ab.Spec := fun args => match args with
  | [.sl (.int .u8) l _ _, .int .i64 k] => .req (decide (0 ≤ k)) (.leaf (.int .u8 (atX l k)))
  | _ => .fail
noncomputable def cx52 : Cx := { P := Try.prog, n := 13, tab := [], mtab := [], refs := [], keeps := [0, 1, 4, 8] }
def atT (l _sp : List Int) (_fl : Fl) (k : Int) : Tree V :=
  (.br (decide (k < ↑(List.length l))) (.br (inside k (List.length l)) (.leaf (.int .u8 (tI (List.getD l (Int.toNat k) (tI (EC.dflt (EC.int IntKind.u8))))))) .fail) (.leaf (.int .u8 0)))
theorem atT_eq (l sp : List Int) (fl : Fl) (k : Int) : (dfun cx52 Try.f52 [.sl (.int .u8) l sp fl, .int .i64 k]).run = (atT l sp fl k).run :=
  (show (dfun cx52 Try.f52 [.sl (.int .u8) l sp fl, .int .i64 k]).run = (atT l sp fl k).out by kernel_rfl).trans (Tree.out_run _)
noncomputable def cx70 : Cx := { P := Try.prog, n := 44, tab := [(52, atS)], mtab := [], refs := [], keeps := [0, 1, 2, 6, 7, 8, 12, 34], fuel := 10 }
def num1T (l _sp : List Int) (_fl : Fl) (k : Int) : Tree V :=
  (.br (decide (0 ≤ IntKind.wrap IntKind.i64 (k + IntKind.wrap IntKind.i64 (1 - 1)))) (.br (decide (IntKind.wrap IntKind.u64 (1 * 2 ^ 7) ≤ IntKind.wrap IntKind.u64 ↑(BitVec.toNat (BitVec.ofInt 64 (IntKind.wrap IntKind.u64 (0 * 2 ^ 8)) ||| BitVec.ofInt 64 (IntKind.wrap IntKind.u64 (atX l (IntKind.wrap IntKind.i64 (k + IntKind.wrap IntKind.i64 (1 - 1))))))))) (.leaf (.int .i64 (IntKind.wrap IntKind.i64 (IntKind.wrap IntKind.i64 (IntKind.wrap IntKind.u64 ↑(BitVec.toNat (BitVec.ofInt 64 (IntKind.wrap IntKind.u64 (0 * 2 ^ 8)) ||| BitVec.ofInt 64 (IntKind.wrap IntKind.u64 (atX l (IntKind.wrap IntKind.i64 (k + IntKind.wrap IntKind.i64 (1 - 1)))))))) - IntKind.wrap IntKind.i64 (1 * 2 ^ 8))))) (.leaf (.int .i64 (IntKind.wrap IntKind.i64 (IntKind.wrap IntKind.u64 ↑(BitVec.toNat (BitVec.ofInt 64 (IntKind.wrap IntKind.u64 (0 * 2 ^ 8)) ||| BitVec.ofInt 64 (IntKind.wrap IntKind.u64 (atX l (IntKind.wrap IntKind.i64 (k + IntKind.wrap IntKind.i64 (1 - 1)))))))))))) .fail)
theorem num1T_eq (l sp : List Int) (fl : Fl) (k : Int) : (dfun cx70 Try.f70 [.sl (.int .u8) l sp fl, .int .i64 k, .int .i64 1]).run = (num1T l sp fl k).run :=
  (show (dfun cx70 Try.f70 [.sl (.int .u8) l sp fl, .int .i64 k, .int .i64 1]).run = (num1T l sp fl k).out by kernel_rfl).trans (Tree.out_run _)
def num4T (l _sp : List Int) (_fl : Fl) (k : Int) : Tree V :=
  (.br (decide (0 ≤ IntKind.wrap IntKind.i64 (k + IntKind.wrap IntKind.i64 (4 - 1)))) (.br (decide (0 ≤ IntKind.wrap IntKind.i64 (k + IntKind.wrap IntKind.i64 (IntKind.wrap IntKind.i64 (4 - 1) - 1)))) (.br (decide (0 ≤ IntKind.wrap IntKind.i64 (k + IntKind.wrap IntKind.i64 (IntKind.wrap IntKind.i64 (IntKind.wrap IntKind.i64 (4 - 1) - 1) - 1)))) (.br (decide (0 ≤ IntKind.wrap IntKind.i64 (k + IntKind.wrap IntKind.i64 (IntKind.wrap IntKind.i64 (IntKind.wrap IntKind.i64 (IntKind.wrap IntKind.i64 (4 - 1) - 1) - 1) - 1)))) (.br (decide (IntKind.wrap IntKind.u64 (1 * 2 ^ 31) ≤ IntKind.wrap IntKind.u64 ↑(BitVec.toNat (BitVec.ofInt 64 (IntKind.wrap IntKind.u64 (IntKind.wrap IntKind.u64 ↑(BitVec.toNat (BitVec.ofInt 64 (IntKind.wrap IntKind.u64 (IntKind.wrap IntKind.u64 ↑(BitVec.toNat (BitVec.ofInt 64 (IntKind.wrap IntKind.u64 (IntKind.wrap IntKind.u64 ↑(BitVec.toNat (BitVec.ofInt 64 (IntKind.wrap IntKind.u64 (0 * 2 ^ 8)) ||| BitVec.ofInt 64 (IntKind.wrap IntKind.u64 (atX l (IntKind.wrap IntKind.i64 (k + IntKind.wrap IntKind.i64 (4 - 1))))))) * 2 ^ 8)) ||| BitVec.ofInt 64 (IntKind.wrap IntKind.u64 (atX l (IntKind.wrap IntKind.i64 (k + IntKind.wrap IntKind.i64 (IntKind.wrap IntKind.i64 (4 - 1) - 1))))))) * 2 ^ 8)) ||| BitVec.ofInt 64 (IntKind.wrap IntKind.u64 (atX l (IntKind.wrap IntKind.i64 (k + IntKind.wrap IntKind.i64 (IntKind.wrap IntKind.i64 (IntKind.wrap IntKind.i64 (4 - 1) - 1) - 1))))))) * 2 ^ 8)) ||| BitVec.ofInt 64 (IntKind.wrap IntKind.u64 (atX l (IntKind.wrap IntKind.i64 (k + IntKind.wrap IntKind.i64 (IntKind.wrap IntKind.i64 (IntKind.wrap IntKind.i64 (IntKind.wrap IntKind.i64 (4 - 1) - 1) - 1) - 1))))))))) (.leaf (.int .i64 (IntKind.wrap IntKind.i64 (IntKind.wrap IntKind.i64 (IntKind.wrap IntKind.u64 ↑(BitVec.toNat (BitVec.ofInt 64 (IntKind.wrap IntKind.u64 (IntKind.wrap IntKind.u64 ↑(BitVec.toNat (BitVec.ofInt 64 (IntKind.wrap IntKind.u64 (IntKind.wrap IntKind.u64 ↑(BitVec.toNat (BitVec.ofInt 64 (IntKind.wrap IntKind.u64 (IntKind.wrap IntKind.u64 ↑(BitVec.toNat (BitVec.ofInt 64 (IntKind.wrap IntKind.u64 (0 * 2 ^ 8)) ||| BitVec.ofInt 64 (IntKind.wrap IntKind.u64 (atX l (IntKind.wrap IntKind.i64 (k + IntKind.wrap IntKind.i64 (4 - 1))))))) * 2 ^ 8)) ||| BitVec.ofInt 64 (IntKind.wrap IntKind.u64 (atX l (IntKind.wrap IntKind.i64 (k + IntKind.wrap IntKind.i64 (IntKind.wrap IntKind.i64 (4 - 1) - 1))))))) * 2 ^ 8)) ||| BitVec.ofInt 64 (IntKind.wrap IntKind.u64 (atX l (IntKind.wrap IntKind.i64 (k + IntKind.wrap IntKind.i64 (IntKind.wrap IntKind.i64 (IntKind.wrap IntKind.i64 (4 - 1) - 1) - 1))))))) * 2 ^ 8)) ||| BitVec.ofInt 64 (IntKind.wrap IntKind.u64 (atX l (IntKind.wrap IntKind.i64 (k + IntKind.wrap IntKind.i64 (IntKind.wrap IntKind.i64 (IntKind.wrap IntKind.i64 (IntKind.wrap IntKind.i64 (4 - 1) - 1) - 1) - 1)))))))) - IntKind.wrap IntKind.i64 (1 * 2 ^ 32))))) (.leaf (.int .i64 (IntKind.wrap IntKind.i64 (IntKind.wrap IntKind.u64 ↑(BitVec.toNat (BitVec.ofInt 64 (IntKind.wrap IntKind.u64 (IntKind.wrap IntKind.u64 ↑(BitVec.toNat (BitVec.ofInt 64 (IntKind.wrap IntKind.u64 (IntKind.wrap IntKind.u64 ↑(BitVec.toNat (BitVec.ofInt 64 (IntKind.wrap IntKind.u64 (IntKind.wrap IntKind.u64 ↑(BitVec.toNat (BitVec.ofInt 64 (IntKind.wrap IntKind.u64 (0 * 2 ^ 8)) ||| BitVec.ofInt 64 (IntKind.wrap IntKind.u64 (atX l (IntKind.wrap IntKind.i64 (k + IntKind.wrap IntKind.i64 (4 - 1))))))) * 2 ^ 8)) ||| BitVec.ofInt 64 (IntKind.wrap IntKind.u64 (atX l (IntKind.wrap IntKind.i64 (k + IntKind.wrap IntKind.i64 (IntKind.wrap IntKind.i64 (4 - 1) - 1))))))) * 2 ^ 8)) ||| BitVec.ofInt 64 (IntKind.wrap IntKind.u64 (atX l (IntKind.wrap IntKind.i64 (k + IntKind.wrap IntKind.i64 (IntKind.wrap IntKind.i64 (IntKind.wrap IntKind.i64 (4 - 1) - 1) - 1))))))) * 2 ^ 8)) ||| BitVec.ofInt 64 (IntKind.wrap IntKind.u64 (atX l (IntKind.wrap IntKind.i64 (k + IntKind.wrap IntKind.i64 (IntKind.wrap IntKind.i64 (IntKind.wrap IntKind.i64 (IntKind.wrap IntKind.i64 (4 - 1) - 1) - 1) - 1)))))))))))) .fail) .fail) .fail) .fail)
theorem num4T_eq (l sp : List Int) (fl : Fl) (k : Int) : (dfun cx70 Try.f70 [.sl (.int .u8) l sp fl, .int .i64 k, .int .i64 4]).run = (num4T l sp fl k).run :=
  (show (dfun cx70 Try.f70 [.sl (.int .u8) l sp fl, .int .i64 k, .int .i64 4]).run = (num4T l sp fl k).out by kernel_rfl).trans (Tree.out_run _)
def num8T (l _sp : List Int) (_fl : Fl) (k : Int) : Tree V :=
  (.br (decide (0 ≤ IntKind.wrap IntKind.i64 (k + IntKind.wrap IntKind.i64 (8 - 1)))) (.br (decide (0 ≤ IntKind.wrap IntKind.i64 (k + IntKind.wrap IntKind.i64 (IntKind.wrap IntKind.i64 (8 - 1) - 1)))) (.br (decide (0 ≤ IntKind.wrap IntKind.i64 (k + IntKind.wrap IntKind.i64 (IntKind.wrap IntKind.i64 (IntKind.wrap IntKind.i64 (8 - 1) - 1) - 1)))) (.br (decide (0 ≤ IntKind.wrap IntKind.i64 (k + IntKind.wrap IntKind.i64 (IntKind.wrap IntKind.i64 (IntKind.wrap IntKind.i64 (IntKind.wrap IntKind.i64 (8 - 1) - 1) - 1) - 1)))) (.br (decide (0 ≤ IntKind.wrap IntKind.i64 (k + IntKind.wrap IntKind.i64 (IntKind.wrap IntKind.i64 (IntKind.wrap IntKind.i64 (IntKind.wrap IntKind.i64 (IntKind.wrap IntKind.i64 (8 - 1) - 1) - 1) - 1) - 1)))) (.br (decide (0 ≤ IntKind.wrap IntKind.i64 (k + IntKind.wrap IntKind.i64 (IntKind.wrap IntKind.i64 (IntKind.wrap IntKind.i64 (IntKind.wrap IntKind.i64 (IntKind.wrap IntKind.i64 (IntKind.wrap IntKind.i64 (8 - 1) - 1) - 1) - 1) - 1) - 1)))) (.br (decide (0 ≤ IntKind.wrap IntKind.i64 (k + IntKind.wrap IntKind.i64 (IntKind.wrap IntKind.i64 (IntKind.wrap IntKind.i64 (IntKind.wrap IntKind.i64 (IntKind.wrap IntKind.i64 (IntKind.wrap IntKind.i64 (IntKind.wrap IntKind.i64 (8 - 1) - 1) - 1) - 1) - 1) - 1) - 1)))) (.br (decide (0 ≤ IntKind.wrap IntKind.i64 (k + IntKind.wrap IntKind.i64 (IntKind.wrap IntKind.i64 (IntKind.wrap IntKind.i64 (IntKind.wrap IntKind.i64 (IntKind.wrap IntKind.i64 (IntKind.wrap IntKind.i64 (IntKind.wrap IntKind.i64 (IntKind.wrap IntKind.i64 (8 - 1) - 1) - 1) - 1) - 1) - 1) - 1) - 1)))) (.leaf (.int .i64 (IntKind.wrap IntKind.i64 (IntKind.wrap IntKind.u64 ↑(BitVec.toNat (BitVec.ofInt 64 (IntKind.wrap IntKind.u64 (IntKind.wrap IntKind.u64 ↑(BitVec.toNat (BitVec.ofInt 64 (IntKind.wrap IntKind.u64 (IntKind.wrap IntKind.u64 ↑(BitVec.toNat (BitVec.ofInt 64 (IntKind.wrap IntKind.u64 (IntKind.wrap IntKind.u64 ↑(BitVec.toNat (BitVec.ofInt 64 (IntKind.wrap IntKind.u64 (IntKind.wrap IntKind.u64 ↑(BitVec.toNat (BitVec.ofInt 64 (IntKind.wrap IntKind.u64 (IntKind.wrap IntKind.u64 ↑(BitVec.toNat (BitVec.ofInt 64 (IntKind.wrap IntKind.u64 (IntKind.wrap IntKind.u64 ↑(BitVec.toNat (BitVec.ofInt 64 (IntKind.wrap IntKind.u64 (IntKind.wrap IntKind.u64 ↑(BitVec.toNat (BitVec.ofInt 64 (IntKind.wrap IntKind.u64 (0 * 2 ^ 8)) ||| BitVec.ofInt 64 (IntKind.wrap IntKind.u64 (atX l (IntKind.wrap IntKind.i64 (k + IntKind.wrap IntKind.i64 (8 - 1))))))) * 2 ^ 8)) ||| BitVec.ofInt 64 (IntKind.wrap IntKind.u64 (atX l (IntKind.wrap IntKind.i64 (k + IntKind.wrap IntKind.i64 (IntKind.wrap IntKind.i64 (8 - 1) - 1))))))) * 2 ^ 8)) ||| BitVec.ofInt 64 (IntKind.wrap IntKind.u64 (atX l (IntKind.wrap IntKind.i64 (k + IntKind.wrap IntKind.i64 (IntKind.wrap IntKind.i64 (IntKind.wrap IntKind.i64 (8 - 1) - 1) - 1))))))) * 2 ^ 8)) ||| BitVec.ofInt 64 (IntKind.wrap IntKind.u64 (atX l (IntKind.wrap IntKind.i64 (k + IntKind.wrap IntKind.i64 (IntKind.wrap IntKind.i64 (IntKind.wrap IntKind.i64 (IntKind.wrap IntKind.i64 (8 - 1) - 1) - 1) - 1))))))) * 2 ^ 8)) ||| BitVec.ofInt 64 (IntKind.wrap IntKind.u64 (atX l (IntKind.wrap IntKind.i64 (k + IntKind.wrap IntKind.i64 (IntKind.wrap IntKind.i64 (IntKind.wrap IntKind.i64 (IntKind.wrap IntKind.i64 (IntKind.wrap IntKind.i64 (8 - 1) - 1) - 1) - 1) - 1))))))) * 2 ^ 8)) ||| BitVec.ofInt 64 (IntKind.wrap IntKind.u64 (atX l (IntKind.wrap IntKind.i64 (k + IntKind.wrap IntKind.i64 (IntKind.wrap IntKind.i64 (IntKind.wrap IntKind.i64 (IntKind.wrap IntKind.i64 (IntKind.wrap IntKind.i64 (IntKind.wrap IntKind.i64 (8 - 1) - 1) - 1) - 1) - 1) - 1))))))) * 2 ^ 8)) ||| BitVec.ofInt 64 (IntKind.wrap IntKind.u64 (atX l (IntKind.wrap IntKind.i64 (k + IntKind.wrap IntKind.i64 (IntKind.wrap IntKind.i64 (IntKind.wrap IntKind.i64 (IntKind.wrap IntKind.i64 (IntKind.wrap IntKind.i64 (IntKind.wrap IntKind.i64 (IntKind.wrap IntKind.i64 (8 - 1) - 1) - 1) - 1) - 1) - 1) - 1))))))) * 2 ^ 8)) ||| BitVec.ofInt 64 (IntKind.wrap IntKind.u64 (atX l (IntKind.wrap IntKind.i64 (k + IntKind.wrap IntKind.i64 (IntKind.wrap IntKind.i64 (IntKind.wrap IntKind.i64 (IntKind.wrap IntKind.i64 (IntKind.wrap IntKind.i64 (IntKind.wrap IntKind.i64 (IntKind.wrap IntKind.i64 (IntKind.wrap IntKind.i64 (8 - 1) - 1) - 1) - 1) - 1) - 1) - 1) - 1))))))))))) .fail) .fail) .fail) .fail) .fail) .fail) .fail) .fail)
theorem num8T_eq (l sp : List Int) (fl : Fl) (k : Int) : (dfun cx70 Try.f70 [.sl (.int .u8) l sp fl, .int .i64 k, .int .i64 8]).run = (num8T l sp fl k).run :=
  (show (dfun cx70 Try.f70 [.sl (.int .u8) l sp fl, .int .i64 k, .int .i64 8]).run = (num8T l sp fl k).out by kernel_rfl).trans (Tree.out_run _)
noncomputable def cx69 : Cx := { P := Try.prog, n := 18, tab := [], mtab := [], refs := [], keeps := [0, 2] }
def highsT (r : Int) : Tree V :=
  (.leaf (.sl (.int .i64) ([IntKind.wrap IntKind.i64 (IntKind.wrap IntKind.i64 (IntKind.wrap IntKind.u8 ↑(BitVec.toNat (BitVec.ofInt 8 (Int.fdiv r (2 ^ 2)) &&& BitVec.ofInt 8 1))) * 8), IntKind.wrap IntKind.i64 (IntKind.wrap IntKind.i64 (IntKind.wrap IntKind.u8 ↑(BitVec.toNat (BitVec.ofInt 8 (Int.fdiv r (2 ^ 1)) &&& BitVec.ofInt 8 1))) * 8), IntKind.wrap IntKind.i64 (IntKind.wrap IntKind.i64 (IntKind.wrap IntKind.u8 ↑(BitVec.toNat (BitVec.ofInt 8 r &&& BitVec.ofInt 8 1))) * 8)]) ([]) Fl.full))
theorem highsT_eq (r : Int) : (dfun cx69 Try.f69 [.int .u8 r]).run = (highsT r).run :=
  (show (dfun cx69 Try.f69 [.int .u8 r]).run = (highsT r).out by kernel_rfl).trans (Tree.out_run _)
theorem atT_x {l sp : List Int} {fl : Fl} {k : Int} (k0 : 0 ≤ k) : (atT l sp fl k).run = some (.int .u8 (atX l k)) := by
  unfold atT atX
  rw [br_run, br_run]
  by_cases hk : k < (l.length : Int)
  · rw [decide_eq_true hk, inside_of k0 hk]
    rfl
  · rw [decide_eq_false hk]
    show some (V.int .u8 0) = _
    have : l.getD k.toNat 0 = 0 := by simp only [List.getD]; rw [List.getElem?_eq_none (by omega)]; rfl
    rw [this]
theorem atS_ok : Sound Try.prog 52 atS := by
  intro args out h
  unfold atS at h
  split at h
  rotate_left
  · cases h
  rename_i l sp fl k
  obtain ⟨h1, h⟩ := req_run h
  have h := leaf_out h
  subst h
  exact pcall_fun' (cx := cx52) (fn := Try.f52) (cx0_ok rfl rfl) (by kernel_rfl) (by kernel_rfl) (by kernel_rfl) ((atT_eq l sp fl k).trans (atT_x (of_decide_eq_true h1)))
def shO (n b : Int) : Int := or64 (w64 (n * 2 ^ 8)) (w64 b)
def sgX (m t : Int) (n : Int) : Int := cond (decide (w64 m ≤ n)) (wi (wi n - wi t)) (wi n)
def n1X (l : List Int) (k : Int) : Int := sgX (1 * 2 ^ 7) (1 * 2 ^ 8) (shO 0 (atX l k))
def n4X (l : List Int) (k : Int) : Int := sgX (1 * 2 ^ 31) (1 * 2 ^ 32) (shO (shO (shO (shO 0 (atX l (k + 3))) (atX l (k + 2))) (atX l (k + 1))) (atX l k))
def n8X (l : List Int) (k : Int) : Int := wi (shO (shO (shO (shO (shO (shO (shO (shO 0 (atX l (k + 7))) (atX l (k + 6))) (atX l (k + 5))) (atX l (k + 4))) (atX l (k + 3))) (atX l (k + 2))) (atX l (k + 1))) (atX l k))
def smallK (k : Int) : Bool := decide (0 ≤ k ∧ k < 1000)
theorem wk {k j : Int} (h0 : 0 ≤ k) (h1 : k < 1000) (j0 : 0 ≤ j) (j1 : j < 10) : wi (k + j) = k + j := wrap_i64 (by omega) (by omega)
theorem num1_x {l sp : List Int} {fl : Fl} {k : Int} (h0 : 0 ≤ k) (h1 : k < 1000) : (num1T l sp fl k).run = some (.int .i64 (n1X l k)) := by
  have e0 : wi (k + 0) = k := by rw [wk h0 h1 (by decide) (by decide)]; omega
  unfold num1T
  rw [br_run, br_run]
  show cond (decide (0 ≤ wi (k + 0))) (cond (decide (w64 (1 * 2 ^ 7) ≤ shO 0 (atX l (wi (k + 0))))) (some (V.int .i64 (wi (wi (shO 0 (atX l (wi (k + 0)))) - wi (1 * 2 ^ 8))))) (some (V.int .i64 (wi (shO 0 (atX l (wi (k + 0)))))))) none = _
  rw [e0, decide_eq_true h0, cond_true]
  unfold n1X sgX
  cases decide (w64 (1 * 2 ^ 7) ≤ shO 0 (atX l k)) <;> rfl
theorem num4_x {l sp : List Int} {fl : Fl} {k : Int} (h0 : 0 ≤ k) (h1 : k < 1000) : (num4T l sp fl k).run = some (.int .i64 (n4X l k)) := by
  have e0 : wi (k + 0) = k := by rw [wk h0 h1 (by decide) (by decide)]; omega
  have e1 : wi (k + 1) = k + 1 := wk h0 h1 (by decide) (by decide)
  have e2 : wi (k + 2) = k + 2 := wk h0 h1 (by decide) (by decide)
  have e3 : wi (k + 3) = k + 3 := wk h0 h1 (by decide) (by decide)
  unfold num4T
  rw [br_run, br_run, br_run, br_run, br_run]
  refine Eq.trans (b := (cond (decide (0 ≤ wi (k + 3))) (cond (decide (0 ≤ wi (k + 2))) (cond (decide (0 ≤ wi (k + 1))) (cond (decide (0 ≤ wi (k + 0)))
    (cond (decide (w64 (1 * 2 ^ 31) ≤ shO (shO (shO (shO 0 (atX l (wi (k + 3)))) (atX l (wi (k + 2)))) (atX l (wi (k + 1)))) (atX l (wi (k + 0)))))
      (some (V.int .i64 (wi (wi (shO (shO (shO (shO 0 (atX l (wi (k + 3)))) (atX l (wi (k + 2)))) (atX l (wi (k + 1)))) (atX l (wi (k + 0)))) - wi (1 * 2 ^ 32)))))
      (some (V.int .i64 (wi (shO (shO (shO (shO 0 (atX l (wi (k + 3)))) (atX l (wi (k + 2)))) (atX l (wi (k + 1)))) (atX l (wi (k + 0)))))))) none) none) none) none)) (by kernel_rfl) ?_
  rw [e0, e1, e2, e3, decide_eq_true h0, decide_eq_true (show 0 ≤ k + 1 by omega), decide_eq_true (show 0 ≤ k + 2 by omega), decide_eq_true (show 0 ≤ k + 3 by omega)]
  simp only [cond_true]
  unfold n4X sgX
  cases decide (w64 (1 * 2 ^ 31) ≤ shO (shO (shO (shO 0 (atX l (k + 3))) (atX l (k + 2))) (atX l (k + 1))) (atX l k)) <;> rfl
theorem num8_x {l sp : List Int} {fl : Fl} {k : Int} (h0 : 0 ≤ k) (h1 : k < 1000) : (num8T l sp fl k).run = some (.int .i64 (n8X l k)) := by
  have e0 : wi (k + 0) = k := by rw [wk h0 h1 (by decide) (by decide)]; omega
  have e1 : wi (k + 1) = k + 1 := wk h0 h1 (by decide) (by decide)
  have e2 : wi (k + 2) = k + 2 := wk h0 h1 (by decide) (by decide)
  have e3 : wi (k + 3) = k + 3 := wk h0 h1 (by decide) (by decide)
  have e4 : wi (k + 4) = k + 4 := wk h0 h1 (by decide) (by decide)
  have e5 : wi (k + 5) = k + 5 := wk h0 h1 (by decide) (by decide)
  have e6 : wi (k + 6) = k + 6 := wk h0 h1 (by decide) (by decide)
  have e7 : wi (k + 7) = k + 7 := wk h0 h1 (by decide) (by decide)
  unfold num8T
  rw [br_run, br_run, br_run, br_run, br_run, br_run, br_run, br_run]
  refine Eq.trans (b := (cond (decide (0 ≤ wi (k + 7))) (cond (decide (0 ≤ wi (k + 6))) (cond (decide (0 ≤ wi (k + 5))) (cond (decide (0 ≤ wi (k + 4))) (cond (decide (0 ≤ wi (k + 3))) (cond (decide (0 ≤ wi (k + 2))) (cond (decide (0 ≤ wi (k + 1))) (cond (decide (0 ≤ wi (k + 0)))
    (some (V.int .i64 (wi (shO (shO (shO (shO (shO (shO (shO (shO 0 (atX l (wi (k + 7)))) (atX l (wi (k + 6)))) (atX l (wi (k + 5)))) (atX l (wi (k + 4)))) (atX l (wi (k + 3)))) (atX l (wi (k + 2)))) (atX l (wi (k + 1)))) (atX l (wi (k + 0))))))) none) none) none) none) none) none) none) none)) (by kernel_rfl) ?_
  rw [e0, e1, e2, e3, e4, e5, e6, e7, decide_eq_true h0, decide_eq_true (show 0 ≤ k + 1 by omega), decide_eq_true (show 0 ≤ k + 2 by omega), decide_eq_true (show 0 ≤ k + 3 by omega),
    decide_eq_true (show 0 ≤ k + 4 by omega), decide_eq_true (show 0 ≤ k + 5 by omega), decide_eq_true (show 0 ≤ k + 6 by omega), decide_eq_true (show 0 ≤ k + 7 by omega)]
  rfl
def numXS : Ab.Spec := fun args => match args with
  | [.sl (.int .u8) l _ _, .int .i64 k, .int .i64 1] => .req (smallK k) (.leaf (.int .i64 (n1X l k)))
  | [.sl (.int .u8) l _ _, .int .i64 k, .int .i64 4] => .req (smallK k) (.leaf (.int .i64 (n4X l k)))
  | [.sl (.int .u8) l _ _, .int .i64 k, .int .i64 8] => .req (smallK k) (.leaf (.int .i64 (n8X l k)))
  | _ => .fail
theorem numXS_ok : Sound Try.prog 70 numXS := by
  intro args out h
  unfold numXS at h
  split at h
  · rename_i l sp fl k
    obtain ⟨h1, h⟩ := req_run h
    have h := leaf_out h
    subst h
    obtain ⟨k0, k1⟩ : 0 ≤ k ∧ k < 1000 := of_decide_eq_true h1
    exact pcall_fun' (cx := cx70) (fn := Try.f70) (cx1_ok (ok1 atS_ok) (.nil _) rfl rfl) (by kernel_rfl) (by kernel_rfl) (by kernel_rfl) ((num1T_eq l sp fl k).trans (num1_x k0 k1))
  · rename_i l sp fl k
    obtain ⟨h1, h⟩ := req_run h
    have h := leaf_out h
    subst h
    obtain ⟨k0, k1⟩ : 0 ≤ k ∧ k < 1000 := of_decide_eq_true h1
    exact pcall_fun' (cx := cx70) (fn := Try.f70) (cx1_ok (ok1 atS_ok) (.nil _) rfl rfl) (by kernel_rfl) (by kernel_rfl) (by kernel_rfl) ((num4T_eq l sp fl k).trans (num4_x k0 k1))
  · rename_i l sp fl k
    obtain ⟨h1, h⟩ := req_run h
    have h := leaf_out h
    subst h
    obtain ⟨k0, k1⟩ : 0 ≤ k ∧ k < 1000 := of_decide_eq_true h1
    exact pcall_fun' (cx := cx70) (fn := Try.f70) (cx1_ok (ok1 atS_ok) (.nil _) rfl rfl) (by kernel_rfl) (by kernel_rfl) (by kernel_rfl) ((num8T_eq l sp fl k).trans (num8_x k0 k1))
  · cases h
def hiX (r : Int) (j : Nat) : Int := wi (wi (and8 (Int.fdiv r (2 ^ j)) 1) * 8)
def hi0X (r : Int) : Int := wi (wi (and8 r 1) * 8)
def highsS : Ab.Spec := fun args => match args with
  | [.int .u8 r] => .leaf (.sl (.int .i64) [hiX r 2, hiX r 1, hi0X r] [] .full)
  | _ => .fail
theorem highsS_ok : Sound Try.prog 69 highsS := by
  intro args out h
  unfold highsS at h
  split at h
  rotate_left
  · cases h
  rename_i r
  have h := leaf_out h
  subst h
  exact pcall_fun' (cx := cx69) (fn := Try.f69) (cx0_ok rfl rfl) (by kernel_rfl) (by kernel_rfl) (by kernel_rfl) (highsT_eq r)
end Go.Amd

namespace Go.Amd
open Go Go.Ab Go.Proofs
section
variable (K : Int → Int → List Int → Option V) (a b c d n : Int)
def plLp (one : Int → Int → Int → Option V) : Nat → Int → Int → Option V
  | 0, _, _ => none
  | f + 1, k, sc => cond (decide (1 < k)) (plLp one f (wi (Int.tdiv k 2)) (w8 (sc + 1))) (one (q8 c) (u8 (Int.tmod c 8)) sc)
def plSib (m : Int) (disp : List Int) (x idx sc : Int) : Option V :=
  K x (q8 b) ([orB (orB (sl8 m 6) (sl8 (u8 (Int.tmod a 8)) 3)) 4, orB (orB (sl8 sc 6) (sl8 idx 3)) (u8 (Int.tmod b 8))] ++ disp)
def plRest (m : Int) (disp : List Int) : Option V :=
  cond (c != 16) (plLp c (plSib K a b m disp) 5 d 0) (plSib K a b m disp 0 4 0)
def plMd (m : Int) (disp : List Int) : Option V :=
  cond (c == 16) (cond (u8 (Int.tmod b 8) != 4) (K 0 (q8 b) ([orB (orB (sl8 m 6) (sl8 (u8 (Int.tmod a 8)) 3)) (u8 (Int.tmod b 8))] ++ disp)) (plRest K a b c d m disp)) (plRest K a b c d m disp)
def plShort : Option V := cond (shortX n) (plMd K a b c d 1 [u8 (N64 n)]) (plMd K a b c d 2 (fx4 (N64 n)))
def plO : Option V :=
  cond (b == 17) (K 0 0 ([orB (sl8 (u8 (Int.tmod a 8)) 3) 5] ++ fx4 (N64 n)))
    (cond (n == 0) (cond (u8 (Int.tmod b 8) != 5) (plMd K a b c d 0 []) (plShort K a b c d n)) (plShort K a b c d n))
end
theorem p4_12 (q : List UInt8 → Bool) (x : List UInt8) (dg : Int) (nm : List UInt8) (a b c d n o : Int) : (bdE q 4 [o] 2 x dg nm a b c d n).fin = plO (fun x bq t => some (slB ([rexD 1 (q8 a) x bq] ++ [o] ++ t))) a b c d n := by kernel_rfl
theorem p4_22 (q : List UInt8 → Bool) (x : List UInt8) (dg : Int) (nm : List UInt8) (a b c d n o p : Int) : (bdE q 4 [o, p] 2 x dg nm a b c d n).fin = plO (fun x bq t => some (slB ([rexD 1 (q8 a) x bq] ++ [o, p] ++ t))) a b c d n := by kernel_rfl
theorem p4_11 (q : List UInt8 → Bool) (x : List UInt8) (dg : Int) (nm : List UInt8) (a b c d n o : Int) : (bdE q 4 [o] 1 x dg nm a b c d n).fin = plO (fun x bq t => some (slB ([rexD 0 (q8 a) x bq] ++ [o] ++ t))) a b c d n := by kernel_rfl
theorem p4_10 (q : List UInt8 → Bool) (x : List UInt8) (dg : Int) (nm : List UInt8) (a b c d n o : Int) : (bdE q 4 [o] 0 x dg nm a b c d n).fin = plO (fun x bq t => cond (decide (0 < wi (wi (q8 a + x) + bq))) (some (slB ([rexD 0 (q8 a) x bq] ++ [o] ++ t))) (some (slB ([o] ++ t)))) a b c d n := by kernel_rfl
end Go.Amd
