/-
  The engine, part Yh: a region that draws its order; what may be turned is not tried twice. Conditions: none.
-/
import Derived.Test.YtmbbnhcbphkniaaGreatDoorBbYg
namespace Go.Ab

/-- Does this one turn with, or come ahead of, all that is left? -/
def firmB (cx : Cx) (ops : Array Oper) (ah : List (List Nat)) (listed : Array Bool) (i : Nat) : Bool :=
  (List.range ops.size).all fun j => listed.getD j false || (Nat.beq j i || (hasN i (ah.getD j []) || (match ops[i]?, ops[j]? with
    | some x, some y => x.apart ops y && mayTurn cx x y
    | _, _ => true)))

/-- What the operations may come to, in whatever order, but for slots' order. -/
def ordsP (cx : Cx) (ops : Array Oper) (ah : List (List Nat)) : Nat → Array Bool → T × List O → Option (List (T × List O))
  | 0, listed, p => cond (Region.ready .any ops listed).isEmpty (some [p]) none
  | fuel + 1, listed, p => match (Region.ready .any ops listed).find? (firmB cx ops ah listed) with
    | some i => match ops[i]? with
      | some o => match step1 cx ops o p with
        | some q => ordsP cx ops ah fuel (listed.setIfInBounds i true) q
        | none => none
      | none => none
    | none => cond (Region.ready .any ops listed).isEmpty none
      ((Region.ready .any ops listed).foldr (fun i acc => match acc, ops[i]? with
        | some l, some o => match step1 cx ops o p with
          | some q => match ordsP cx ops ah fuel (listed.setIfInBounds i true) q with
            | some m => some (m ++ l)
            | none => none
          | none => none
        | _, _ => none) (some []))

inductive Compl (ops : Array Oper) : Array Bool → List Nat → Prop
  | nil {listed : Array Bool} : Region.ready .any ops listed = [] → Compl ops listed []
  | cons {listed : Array Bool} {i : Nat} {l : List Nat} : i ∈ Region.ready .any ops listed → Compl ops (listed.setIfInBounds i true) l → Compl ops listed (i :: l)

section
variable {cx : Cx} {ops : Array Oper}

def isIn (listed : Array Bool) : Nat → Bool := fun j => listed.getD j false

theorem isIn_set {listed : Array Bool} {i : Nat} (hi : i < listed.size) : isIn (listed.setIfInBounds i true) = with1 (isIn listed) i := by
  funext j
  unfold with1 isIn
  by_cases hj : j = i
  · subst hj
    simp [Array.getD_eq_getD_getElem?, hi]
  · have hji : (j == i) = false := by simpa using hj
    rw [getD_set_ne false (fun e => hj e.symm), hji, Bool.or_false]

theorem ready_lt {listed : Array Bool} {i : Nat} (h : i ∈ Region.ready .any ops listed) : i < ops.size := by
  obtain ⟨_, o, ho, _⟩ := mem_ready.1 h
  exact (Array.getElem?_eq_some_iff.1 ho).1
theorem ready_out {listed : Array Bool} {i : Nat} (hs : listed.size = ops.size) (h : i ∈ Region.ready .any ops listed) : isIn listed i = false := by
  have hlt := ready_lt h
  obtain ⟨h1, _⟩ := mem_ready.1 h
  unfold isIn
  rw [Array.getD_eq_getD_getElem?] at h1 ⊢
  have : i < listed.size := by omega
  simp [this] at h1 ⊢
  exact h1
theorem closed_set {listed : Array Bool} {i : Nat} (hs : listed.size = ops.size) (hc : Closed ops (isIn listed)) (h : i ∈ Region.ready .any ops listed) : Closed ops (isIn (listed.setIfInBounds i true)) := by
  rw [isIn_set (by rw [hs]; exact ready_lt h)]
  obtain ⟨_, o, ho, h3⟩ := mem_ready.1 h
  exact closed_with hc fun o' ho' e he hb => by
    rw [ho] at ho'
    simp only [Option.some.injEq] at ho'
    subst ho'
    exact h3 e he hb
theorem ready_stays {listed : Array Bool} {i j : Nat} (h : i ∈ Region.ready .any ops listed) (hj : j ≠ i) : i ∈ Region.ready .any ops (listed.setIfInBounds j true) := by
  obtain ⟨h1, o, ho, h3⟩ := mem_ready.1 h
  exact mem_ready.2 ⟨by rw [getD_set_ne true hj]; exact h1, o, ho, fun e he hb => getD_set_true (h3 e he hb)⟩
theorem ready_not {listed : Array Bool} {i j : Nat} (hs : listed.size = ops.size) (hc : Closed ops (isIn listed)) (hi : i ∈ Region.ready .any ops listed) (hj : j ∈ Region.ready .any ops listed) (hne : j ≠ i) : ¬ Anc ops i j := by
  intro ha
  have := ha _ (closed_set hs hc hj) (by rw [isIn_set (by rw [hs]; exact ready_lt hj)]; simp [with1])
  rw [isIn_set (by rw [hs]; exact ready_lt hj)] at this
  unfold with1 at this
  rw [ready_out hs hi, Bool.false_or] at this
  exact hne (by simpa using this : i = j).symm

/-- One that can be carried out now may be put ahead. -/
theorem compl_split {listed : Array Bool} {l : List Nat} (h : Compl ops listed l) : ∀ {i : Nat}, listed.size = ops.size → Closed ops (isIn listed) → i ∈ Region.ready .any ops listed →
    ∃ A B, l = A ++ i :: B ∧ Compl ops (listed.setIfInBounds i true) (A ++ B) ∧ ∀ j ∈ A, j ≠ i ∧ j < ops.size ∧ isIn listed j = false ∧ ¬ Anc ops i j := by
  induction h with
  | nil h0 =>
    intro i _ _ hi
    rw [h0] at hi; cases hi
  | @cons listed j l hj hc ih =>
    intro i hs hcl hi
    by_cases hji : j = i
    · subst hji
      exact ⟨[], l, rfl, hc, fun j hj => by cases hj⟩
    · obtain ⟨A, B, rfl, h2, h3⟩ := ih (i := i) (by simpa using hs) (closed_set hs hcl hj) (ready_stays hi hji)
      refine ⟨j :: A, B, rfl, .cons (ready_stays hj (fun e => hji e.symm)) ?_, fun k hk => ?_⟩
      · rw [Array.setIfInBounds_comm _ _ (fun e => hji e.symm)]
        exact h2
      · rcases List.mem_cons.1 hk with rfl | hk
        · exact ⟨hji, ready_lt hj, ready_out hs hj, ready_not hs hcl hi hj hji⟩
        · obtain ⟨g1, g2, g3, g4⟩ := h3 k hk
          refine ⟨g1, g2, ?_, g4⟩
          rw [isIn_set (by rw [hs]; exact ready_lt hj)] at g3
          unfold with1 at g3
          exact (Bool.or_eq_false_iff.1 g3).1

theorem firm_turns {ah : List (List Nat)} {listed : Array Bool} {i : Nat} (hah : ∀ (j : Nat) a, ah[j]? = some a → ∀ k ∈ a, Anc ops k j) (h : firmB cx ops ah listed i = true) {j : Nat} (hj : j < ops.size) (hne : j ≠ i)
    (ho : isIn listed j = false) (hn : ¬ Anc ops i j) : Turns cx ops (fun _ => True) i j := by
  intro x y hx hy
  have := List.all_eq_true.1 h j (List.mem_range.2 hj)
  rw [hx, hy] at this
  have h1 : listed.getD j false = false := ho
  have h2 : Nat.beq j i = false := by
    cases hb : Nat.beq j i
    · rfl
    · exact absurd (Nat.eq_of_beq_eq_true hb) hne
  have h3 : hasN i (ah.getD j []) = false := by
    cases hb : hasN i (ah.getD j [])
    · rfl
    · have hm := hasN_mem hb
      rw [List.getD_eq_getElem?_getD] at hm
      cases ha : ah[j]? with
      | none => rw [ha] at hm; cases hm
      | some a => rw [ha] at hm; exact absurd (hah j a ha i hm) hn
  rw [h1, h2, h3, Bool.false_or, Bool.false_or, Bool.false_or, Bool.and_eq_true] at this
  exact ⟨this.1, .inl this.2⟩

theorem keeps_true : Keeps cx ops (fun _ => True) := fun _ _ _ _ _ _ _ => trivial

theorem ordsP_step {ah : List (List Nat)} {fuel : Nat} {listed : Array Bool} {p : T × List O} : ∀ (is : List Nat) (l : List (T × List O)),
    is.foldr (fun i acc => match acc, ops[i]? with
      | some l, some o => match step1 cx ops o p with
        | some q => match ordsP cx ops ah fuel (listed.setIfInBounds i true) q with
          | some m => some (m ++ l)
          | none => none
        | none => none
      | _, _ => none) (some []) = some l →
    ∀ i ∈ is, ∃ o q m, ops[i]? = some o ∧ step1 cx ops o p = some q ∧ ordsP cx ops ah fuel (listed.setIfInBounds i true) q = some m ∧ ∀ s ∈ m, s ∈ l
  | [], _, _, i, hi => by cases hi
  | j :: is, l, h, i, hi => by
    rw [List.foldr_cons] at h
    split at h
    rotate_left
    · cases h
    rename_i l' o h1 h2
    split at h
    rotate_left
    · cases h
    rename_i q hq
    split at h
    rotate_left
    · cases h
    rename_i m hm
    simp only [Option.some.injEq] at h
    subst h
    rcases List.mem_cons.1 hi with rfl | hi
    · exact ⟨o, q, m, h2, hq, hm, fun s hs => List.mem_append_left _ hs⟩
    · obtain ⟨o', q', m', g1, g2, g3, g4⟩ := ordsP_step is l' h1 i hi
      exact ⟨o', q', m', g1, g2, g3, fun s hs => List.mem_append_right _ (g4 s hs)⟩

theorem runI_cons {i : Nat} {o : Oper} (ho : ops[i]? = some o) {p q : T × List O} (h : step1 cx ops o p = some q) (l : List Nat) : runI cx ops (i :: l) p = runI cx ops l q := by
  simp only [runI, ho, h]

/-- Every order comes to one of these. -/
theorem ordsP_all {ah : List (List Nat)} (hah : ∀ (j : Nat) a, ah[j]? = some a → ∀ k ∈ a, Anc ops k j) : ∀ (fuel : Nat) (listed : Array Bool) (p : T × List O) (L : List (T × List O)), ordsP cx ops ah fuel listed p = some L → listed.size = ops.size → Closed ops (isIn listed) →
    ∀ l, Compl ops listed l → ∃ r, runI cx ops l p = some r ∧ ∃ s ∈ L, Like s r
  | 0, listed, p, L, h, hs, hc, l, hl => by
    unfold ordsP at h
    cases hr : (Region.ready .any ops listed).isEmpty
    · rw [hr] at h; cases h
    rw [hr] at h
    simp only [cond_true, Option.some.injEq] at h
    subst h
    cases hl with
    | nil _ => exact ⟨p, rfl, p, List.mem_cons_self, .refl p⟩
    | cons hi _ =>
      rw [List.isEmpty_iff.1 hr] at hi; cases hi
  | fuel + 1, listed, p, L, h, hs, hc, l, hl => by
    unfold ordsP at h
    split at h
    · rename_i i hf
      have hfirm := List.find?_some hf
      have hi := List.mem_of_find?_eq_some hf
      split at h
      rotate_left
      · cases h
      rename_i o ho
      split at h
      rotate_left
      · cases h
      rename_i q hq
      obtain ⟨A, B, rfl, h2, h3⟩ := compl_split hl hs hc hi
      obtain ⟨r, hr, s, hsL, hlk⟩ := ordsP_all hah fuel _ q L h (by simpa using hs) (closed_set hs hc hi) _ h2
      have hr' : runI cx ops ((i :: A) ++ B) p = some r := by rw [List.cons_append, runI_cons ho hq]; exact hr
      rw [runI_append] at hr'
      obtain ⟨m, hm, hB⟩ := Option.bind_eq_some_iff.1 hr'
      obtain ⟨m', hm', hlm⟩ := move_end (I := fun _ => True) keeps_true A trivial (fun j hj => by
        obtain ⟨g1, g2, g3, g4⟩ := h3 j hj
        exact firm_turns hah hfirm g2 g1 g3 g4) hm
      obtain ⟨r', hr2, hlr⟩ := runI_like B hlm hB
      refine ⟨r', ?_, s, hsL, hlk.trans hlr⟩
      rw [show A ++ i :: B = (A ++ [i]) ++ B from by simp, runI_append, hm']
      exact hr2
    · cases hr : (Region.ready .any ops listed).isEmpty
      rotate_left
      · rw [hr] at h; cases h
      rw [hr, cond_false] at h
      cases hl with
      | nil h0 => rw [h0] at hr; cases hr
      | @cons _ i l hi hl =>
        obtain ⟨o, q, m, g1, g2, g3, g4⟩ := ordsP_step _ L h i hi
        obtain ⟨r, h1, s, h2, h4⟩ := ordsP_all hah fuel _ q m g3 (by simpa using hs) (closed_set hs hc hi) l hl
        exact ⟨r, by rw [runI_cons g1 g2]; exact h1, s, g4 s h2, h4⟩

theorem ready_some (hb : ∀ (j : Nat) o, ops[j]? = some o → ∀ e ∈ o.after, Region.binds .any e = true → e.on < j) {listed : Array Bool} (hs : listed.size = ops.size) (h : 0 < missing ops.size (isIn listed)) : ∃ i, i ∈ Region.ready .any ops listed := by
  obtain ⟨i, h1, h2, h3⟩ := first_missing h
  obtain ⟨o, ho⟩ : ∃ o, ops[i]? = some o := ⟨ops[i], by simp [h1]⟩
  refine ⟨i, mem_ready.2 ⟨?_, o, ho, fun e he hbb => h3 _ (hb i o ho e he hbb)⟩⟩
  unfold isIn at h2
  rw [Array.getD_eq_getD_getElem?] at h2 ⊢
  have : i < listed.size := by omega
  simp [this] at h2 ⊢
  exact h2

theorem ready_none {listed : Array Bool} (hs : listed.size = ops.size) (h : missing ops.size (isIn listed) = 0) : Region.ready .any ops listed = [] := by
  apply List.eq_nil_iff_forall_not_mem.2
  intro i hi
  have h1 := ready_out hs hi
  have hin : i ∈ (List.range ops.size).filter fun i => !(isIn listed i) := List.mem_filter.2 ⟨List.mem_range.2 (ready_lt hi), by simp [h1]⟩
  have h0 := List.length_eq_zero_iff.1 h
  rw [h0] at hin; cases hin

theorem compl_some (hb : ∀ (j : Nat) o, ops[j]? = some o → ∀ e ∈ o.after, Region.binds .any e = true → e.on < j) : ∀ (fuel : Nat) (listed : Array Bool), listed.size = ops.size → missing ops.size (isIn listed) = fuel → ∃ l, Compl ops listed l
  | 0, listed, hs, hm => ⟨[], .nil (ready_none hs hm)⟩
  | fuel + 1, listed, hs, hm => by
    obtain ⟨i, hi⟩ := ready_some hb hs (by omega)
    have := missing_with (S := isIn listed) (ready_lt hi) (ready_out hs hi)
    obtain ⟨l, hl⟩ := compl_some hb fuel (listed.setIfInBounds i true) (by simpa using hs) (by rw [isIn_set (by rw [hs]; exact ready_lt hi)]; omega)
    exact ⟨i :: l, .cons hi hl⟩

theorem compl_sound (hT : CxOk cx) {E H0 β0 w0 D} (hs0 : StartOk cx.P E H0 β0 w0) (hb : ∀ (j : Nat) o, ops[j]? = some o → ∀ e ∈ o.after, Region.binds .any e = true → e.on < j) {Q : AEx → T → List O → Prop} :
    ∀ (fuel : Nat) (listed : Array Bool) (p : T × List O) (β : List Loc) (a : Act) (w : World), listed.size = ops.size → missing ops.size (isIn listed) = fuel →
      (∀ l, Compl ops listed l → ∃ r, runI cx ops l p = some r ∧ ∃ s : T × List O, Q .normal s.1 s.2 ∧ Like s r) → Good E H0 β0 w0 cx.n D p.1 p.2 β a w →
      wpAny cx.P .any ops (Post E H0 β0 w0 cx.n D Q) fuel listed a w
  | 0, listed, p, β, a, w, hs, hm, h, hg => by
    have hr := ready_none hs hm
    obtain ⟨r, h1, s, h2, h3⟩ := h [] (.nil hr)
    simp only [runI, Option.some.injEq] at h1
    subst h1
    refine ⟨hr, s.1, s.2, β, h2, ?_⟩
    have := hg.like h3.1
    rw [h3.2]
    exact this
  | fuel + 1, listed, p, β, a, w, hs, hm, h, hg => by
    refine ⟨fun hr => ?_, fun i hi => ?_⟩
    · obtain ⟨i, hi⟩ := ready_some hb hs (by omega)
      rw [hr] at hi; cases hi
    · obtain ⟨_, o, ho, _⟩ := mem_ready.1 hi
      have hmw := missing_with (S := isIn listed) (ready_lt hi) (ready_out hs hi)
      have hm' : missing ops.size (isIn (listed.setIfInBounds i true)) = fuel := by rw [isIn_set (by rw [hs]; exact ready_lt hi)]; omega
      obtain ⟨l, hl⟩ := compl_some hb fuel (listed.setIfInBounds i true) (by simpa using hs) hm'
      obtain ⟨r, h1, _⟩ := h (i :: l) (.cons hi hl)
      cases hst : step1 cx ops o p with
      | none => simp only [runI, ho, hst] at h1; cases h1
      | some q =>
        refine step1_sound hT hs0 ho (t := p.1) (H := p.2) hg hst ?_
        intro β' a' w' hg'
        refine compl_sound hT hs0 hb fuel _ q β' a' w' (by simpa using hs) hm' (fun l hl => ?_) hg'
        obtain ⟨r, h1, h2⟩ := h (i :: l) (.cons hi hl)
        rw [runI_cons ho hst] at h1
        exact ⟨r, h1, h2⟩
end

section
variable {P : Program} {n : Nat} {Q : AEx → T → List O → Prop} {t : T} {H : List O} {cx : Cx} {ops : Array Oper}

def nothing (ops : Array Oper) : Array Bool := Array.replicate ops.size false
def allOrds (cx : Cx) (ops : Array Oper) (p : T × List O) : Option (List (T × List O)) :=
  cond (cx.P.follows .mixedOrders && backs 0 ops.toList) (ordsP cx ops (aheads ops.toList []) ops.size (nothing ops) p) none

theorem AWP_ordersP (hP : cx.P = P) (hn : cx.n = n) (hT : CxOk cx) {id : Nat} {l : List (T × List O)}
    (h : allOrds cx ops (t, H) = some l) (hq : ∀ s ∈ l, Q .normal s.1 s.2) : AWP P n (.region id ops true) Q t H := by
  subst hP
  subst hn
  unfold allOrds at h
  cases hf : (cx.P.follows .mixedOrders && backs 0 ops.toList)
  · rw [hf] at h; cases h
  rw [hf, cond_true] at h
  obtain ⟨hm, hb⟩ := Bool.and_eq_true_iff.1 hf
  intro E H0 β0 w0 D β a w hs hg
  refine wp_region_any hm ?_
  have st := Step.heap_same (w' := { w with drawn := w.drawn + 1 }) hg.step.rel rfl rfl rfl rfl
  have hsz : (nothing ops).size = ops.size := by simp [nothing]
  have hno : isIn (nothing ops) = fun _ => false := by
    funext j
    unfold isIn nothing
    simp only [Array.getD_eq_getD_getElem?, Array.getElem?_replicate]
    split <;> rfl
  have hcl : Closed ops (isIn (nothing ops)) := by rw [hno]; intro j o ho hj; cases hj
  refine compl_sound hT hs (backs_spec hb) ops.size (nothing ops) (t, H) β a _ hsz ?_ (fun l' hl' => ?_) ⟨hg.step.trans st, hg.fr.step st, hg.defers⟩
  · rw [hno]
    unfold missing
    have e : (List.range ops.size).filter (fun i => !(fun _ => false) i) = List.range ops.size := List.filter_eq_self.2 fun _ _ => rfl
    rw [e, List.length_range]
  · obtain ⟨r, h1, s, h2, h3⟩ := ordsP_all (aheads_ok (ops := ops) ops.toList 0 [] rfl rfl (fun j a h => by simp at h)) _ _ _ _ h hsz hcl l' hl'
    exact ⟨r, h1, s, hq s h2, h3⟩

theorem AWP.keepQ (l : List Nat) {c : Code} (h : AWP P n c (fun e t H => Q e (keep l t) H) t H) : AWP P n c Q t H := by
  intro E H0 β0 w0 D β a w hs hg
  refine wp_mono (h E H0 β0 w0 D β a w hs hg) fun e a w hp => ?_
  have le : ∀ {t H β a w}, Good E H0 β0 w0 n D t H β a w → Good E H0 β0 w0 n D (keep l t) H β a w := fun hg => ⟨hg.step, hg.fr.le (TLe.keep l _), hg.defers⟩
  cases e with
  | normal => obtain ⟨t, H, β, h1, h2⟩ := hp; exact ⟨_, H, β, h1, le h2⟩
  | exit id => obtain ⟨t, H, β, h1, h2⟩ := hp; exact ⟨_, H, β, h1, le h2⟩
  | ret => obtain ⟨t, H, β, h1, h2⟩ := hp; exact ⟨_, H, β, h1, le h2⟩
  | panic ch => obtain ⟨t, H, β, v, x, h1, h2, h3, h4⟩ := hp; exact ⟨_, H, β, v, x, h1, le h2, h3, h4⟩
  | goto l => exact hp.elim
  | outgrown => exact hp.elim

/-- Likewise; what they come to, some slots alone, their objects put in order, is one state. -/
theorem AWP_ordersPK (ks keeps : List Nat) (k : Nat) (hP : cx.P = P) (hn : cx.n = n) (hT : CxOk cx) {id : Nat} {t' : T} {H' : List O}
    (h : (allOrds cx ops (t, H)).map (fun l => l.map fun s => (dropS H.length (ordK ks s.1) (.normal, keep keeps s.1, s.2))) = some (List.replicate k (some (.normal, t', H'))))
    (hq : Q .normal t' H') : AWP P n (.region id ops true) Q t H := by
  obtain ⟨l, hl, h2⟩ := Option.map_eq_some_iff.1 h
  refine AWP_scope (AWP.keepQ keeps (AWP_ordersP hP hn hT hl fun s hs => ⟨ordK ks s.1, (.normal, t', H'), ?_, hq⟩))
  have : dropS H.length (ordK ks s.1) (.normal, keep keeps s.1, s.2) ∈ List.replicate k (some ((.normal, t', H') : St)) := by rw [← h2]; exact List.mem_map_of_mem hs
  exact (List.mem_replicate.1 this).2
end
end Go.Ab
