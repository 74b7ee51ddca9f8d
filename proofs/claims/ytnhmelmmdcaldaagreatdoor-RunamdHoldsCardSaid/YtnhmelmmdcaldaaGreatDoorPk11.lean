/-
  The engine, part Yh: a region that draws its order; what may be turned is not tried twice. Conditions: none.
-/
import Derived.Test.YtnhmelmmdcaldaaGreatDoorPk10
import Derived.ProofKit
import Derived.Deep.Slices
import Derived.OpenShut
import Derived.Test.YtnhmelmmdcaldaaGreatDoorProg
import Derived.KernelRfl
set_option linter.unusedVariables false
set_option linter.unusedSimpArgs false
namespace Go.Ab
def firmB (cx : Cx) (ops : Array Oper) (ah : List (List Nat)) (listed : Array Bool) (i : Nat) : Bool :=
  (List.range ops.size).all fun j => listed.getD j false || (Nat.beq j i || (hasN i (ah.getD j []) || (match ops[i]?, ops[j]? with
    | some x, some y => x.apart ops y && mayTurn cx x y
    | _, _ => true)))
def ordsP (cx : Cx) (ops : Array Oper) (ah : List (List Nat)) : Nat → Array Bool → T × List O → Option (List (T × List O))
  | 0, listed, p => cond (Region.ready .any ops listed).isEmpty (some [p]) none
  | fuel + 1, listed, p => match (Region.ready .any ops listed).find? (firmB cx ops ah listed) with
    | some i => match ops[i]? with
      | some o => match step1 cx ops o p with
        | some q => ordsP cx ops ah fuel (listed.setIfInBounds i true) q
        | none => none
      | none => none
    | none => cond (Region.ready .any ops listed).isEmpty none
      ((Region.ready .any ops listed).foldr (fun i acc => match acc, ops[i]? with
        | some l, some o => match step1 cx ops o p with
          | some q => match ordsP cx ops ah fuel (listed.setIfInBounds i true) q with
            | some m => some (m ++ l)
            | none => none
          | none => none
        | _, _ => none) (some []))
inductive Compl (ops : Array Oper) : Array Bool → List Nat → Prop
  | nil {listed : Array Bool} : Region.ready .any ops listed = [] → Compl ops listed []
  | cons {listed : Array Bool} {i : Nat} {l : List Nat} : i ∈ Region.ready .any ops listed → Compl ops (listed.setIfInBounds i true) l → Compl ops listed (i :: l)
section
variable {cx : Cx} {ops : Array Oper}
def isIn (listed : Array Bool) : Nat → Bool := fun j => listed.getD j false
theorem isIn_set {listed : Array Bool} {i : Nat} (hi : i < listed.size) : isIn (listed.setIfInBounds i true) = with1 (isIn listed) i := by
  funext j
  unfold with1 isIn
  by_cases hj : j = i
  · subst hj
    simp [Array.getD_eq_getD_getElem?, hi]
  · have hji : (j == i) = false := by simpa using hj
    rw [getD_set_ne false (fun e => hj e.symm), hji, Bool.or_false]
theorem ready_lt {listed : Array Bool} {i : Nat} (h : i ∈ Region.ready .any ops listed) : i < ops.size := by
  obtain ⟨_, o, ho, _⟩ := mem_ready.1 h
  exact (Array.getElem?_eq_some_iff.1 ho).1
theorem ready_out {listed : Array Bool} {i : Nat} (hs : listed.size = ops.size) (h : i ∈ Region.ready .any ops listed) : isIn listed i = false := by
  have hlt := ready_lt h
  obtain ⟨h1, _⟩ := mem_ready.1 h
  unfold isIn
  rw [Array.getD_eq_getD_getElem?] at h1 ⊢
  have : i < listed.size := by omega
  simp [this] at h1 ⊢
  exact h1
theorem closed_set {listed : Array Bool} {i : Nat} (hs : listed.size = ops.size) (hc : Closed ops (isIn listed)) (h : i ∈ Region.ready .any ops listed) : Closed ops (isIn (listed.setIfInBounds i true)) := by
  rw [isIn_set (by rw [hs]; exact ready_lt h)]
  obtain ⟨_, o, ho, h3⟩ := mem_ready.1 h
  exact closed_with hc fun o' ho' e he hb => by
    rw [ho] at ho'
    simp only [Option.some.injEq] at ho'
    subst ho'
    exact h3 e he hb
theorem ready_stays {listed : Array Bool} {i j : Nat} (h : i ∈ Region.ready .any ops listed) (hj : j ≠ i) : i ∈ Region.ready .any ops (listed.setIfInBounds j true) := by
  obtain ⟨h1, o, ho, h3⟩ := mem_ready.1 h
  exact mem_ready.2 ⟨by rw [getD_set_ne true hj]; exact h1, o, ho, fun e he hb => getD_set_true (h3 e he hb)⟩
theorem ready_not {listed : Array Bool} {i j : Nat} (hs : listed.size = ops.size) (hc : Closed ops (isIn listed)) (hi : i ∈ Region.ready .any ops listed) (hj : j ∈ Region.ready .any ops listed) (hne : j ≠ i) : ¬ Anc ops i j := by
  intro ha
  have := ha _ (closed_set hs hc hj) (by rw [isIn_set (by rw [hs]; exact ready_lt hj)]; simp [with1])
  rw [isIn_set (by rw [hs]; exact ready_lt hj)] at this
  unfold with1 at this
  rw [ready_out hs hi, Bool.false_or] at this
  exact hne (by simpa using this : i = j).symm
theorem compl_split {listed : Array Bool} {l : List Nat} (h : Compl ops listed l) : ∀ {i : Nat}, listed.size = ops.size → Closed ops (isIn listed) → i ∈ Region.ready .any ops listed →
    ∃ A B, l = A ++ i :: B ∧ Compl ops (listed.setIfInBounds i true) (A ++ B) ∧ ∀ j ∈ A, j ≠ i ∧ j < ops.size ∧ isIn listed j = false ∧ ¬ Anc ops i j := by
  induction h with
  | nil h0 =>
    intro i _ _ hi
    rw [h0] at hi; cases hi
  | @cons listed j l hj hc ih =>
    intro i hs hcl hi
    by_cases hji : j = i
    · subst hji
      exact ⟨[], l, rfl, hc, fun j hj => by cases hj⟩
    · obtain ⟨A, B, rfl, h2, h3⟩ := ih (i := i) (by simpa using hs) (closed_set hs hcl hj) (ready_stays hi hji)
      refine ⟨j :: A, B, rfl, .cons (ready_stays hj (fun e => hji e.symm)) ?_, fun k hk => ?_⟩
      · rw [Array.setIfInBounds_comm _ _ (fun e => hji e.symm)]
        exact h2
      · rcases List.mem_cons.1 hk with rfl | hk
        · exact ⟨hji, ready_lt hj, ready_out hs hj, ready_not hs hcl hi hj hji⟩
        · obtain ⟨g1, g2, g3, g4⟩ := h3 k hk
          refine ⟨g1, g2, ?_, g4⟩
          rw [isIn_set (by rw [hs]; exact ready_lt hj)] at g3
          unfold with1 at g3
          exact (Bool.or_eq_false_iff.1 g3).1
theorem firm_turns {ah : List (List Nat)} {listed : Array Bool} {i : Nat} (hah : ∀ (j : Nat) a, ah[j]? = some a → ∀ k ∈ a, Anc ops k j) (h : firmB cx ops ah listed i = true) {j : Nat} (hj : j < ops.size) (hne : j ≠ i)
    (ho : isIn listed j = false) (hn : ¬ Anc ops i j) : Turns cx ops (fun _ => True) i j := by
  intro x y hx hy
  have := List.all_eq_true.1 h j (List.mem_range.2 hj)
  rw [hx, hy] at this
  have h1 : listed.getD j false = false := ho
  have h2 : Nat.beq j i = false := by
    cases hb : Nat.beq j i
    · rfl
    · exact absurd (Nat.eq_of_beq_eq_true hb) hne
  have h3 : hasN i (ah.getD j []) = false := by
    cases hb : hasN i (ah.getD j [])
    · rfl
    · have hm := hasN_mem hb
      rw [List.getD_eq_getElem?_getD] at hm
      cases ha : ah[j]? with
      | none => rw [ha] at hm; cases hm
      | some a => rw [ha] at hm; exact absurd (hah j a ha i hm) hn
  rw [h1, h2, h3, Bool.false_or, Bool.false_or, Bool.false_or, Bool.and_eq_true] at this
  exact ⟨this.1, .inl this.2⟩
theorem keeps_true : Keeps cx ops (fun _ => True) := fun _ _ _ _ _ _ _ => trivial
theorem ordsP_step {ah : List (List Nat)} {fuel : Nat} {listed : Array Bool} {p : T × List O} : ∀ (is : List Nat) (l : List (T × List O)),
    is.foldr (fun i acc => match acc, ops[i]? with
      | some l, some o => match step1 cx ops o p with
        | some q => match ordsP cx ops ah fuel (listed.setIfInBounds i true) q with
          | some m => some (m ++ l)
          | none => none
        | none => none
      | _, _ => none) (some []) = some l →
    ∀ i ∈ is, ∃ o q m, ops[i]? = some o ∧ step1 cx ops o p = some q ∧ ordsP cx ops ah fuel (listed.setIfInBounds i true) q = some m ∧ ∀ s ∈ m, s ∈ l
  | [], _, _, i, hi => by cases hi
  | j :: is, l, h, i, hi => by
    rw [List.foldr_cons] at h
    split at h
    rotate_left
    · cases h
    rename_i l' o h1 h2
    split at h
    rotate_left
    · cases h
    rename_i q hq
    split at h
    rotate_left
    · cases h
    rename_i m hm
    simp only [Option.some.injEq] at h
    subst h
    rcases List.mem_cons.1 hi with rfl | hi
    · exact ⟨o, q, m, h2, hq, hm, fun s hs => List.mem_append_left _ hs⟩
    · obtain ⟨o', q', m', g1, g2, g3, g4⟩ := ordsP_step is l' h1 i hi
      exact ⟨o', q', m', g1, g2, g3, fun s hs => List.mem_append_right _ (g4 s hs)⟩
theorem runI_cons {i : Nat} {o : Oper} (ho : ops[i]? = some o) {p q : T × List O} (h : step1 cx ops o p = some q) (l : List Nat) : runI cx ops (i :: l) p = runI cx ops l q := by
  simp only [runI, ho, h]
theorem ordsP_all {ah : List (List Nat)} (hah : ∀ (j : Nat) a, ah[j]? = some a → ∀ k ∈ a, Anc ops k j) : ∀ (fuel : Nat) (listed : Array Bool) (p : T × List O) (L : List (T × List O)), ordsP cx ops ah fuel listed p = some L → listed.size = ops.size → Closed ops (isIn listed) →
    ∀ l, Compl ops listed l → ∃ r, runI cx ops l p = some r ∧ ∃ s ∈ L, Like s r
  | 0, listed, p, L, h, hs, hc, l, hl => by
    unfold ordsP at h
    cases hr : (Region.ready .any ops listed).isEmpty
    · rw [hr] at h; cases h
    rw [hr] at h
    simp only [cond_true, Option.some.injEq] at h
    subst h
    cases hl with
    | nil _ => exact ⟨p, rfl, p, List.mem_cons_self, .refl p⟩
    | cons hi _ =>
      rw [List.isEmpty_iff.1 hr] at hi; cases hi
  | fuel + 1, listed, p, L, h, hs, hc, l, hl => by
    unfold ordsP at h
    split at h
    · rename_i i hf
      have hfirm := List.find?_some hf
      have hi := List.mem_of_find?_eq_some hf
      split at h
      rotate_left
      · cases h
      rename_i o ho
      split at h
      rotate_left
      · cases h
      rename_i q hq
      obtain ⟨A, B, rfl, h2, h3⟩ := compl_split hl hs hc hi
      obtain ⟨r, hr, s, hsL, hlk⟩ := ordsP_all hah fuel _ q L h (by simpa using hs) (closed_set hs hc hi) _ h2
      have hr' : runI cx ops ((i :: A) ++ B) p = some r := by rw [List.cons_append, runI_cons ho hq]; exact hr
      rw [runI_append] at hr'
      obtain ⟨m, hm, hB⟩ := Option.bind_eq_some_iff.1 hr'
      obtain ⟨m', hm', hlm⟩ := move_end (I := fun _ => True) keeps_true A trivial (fun j hj => by
        obtain ⟨g1, g2, g3, g4⟩ := h3 j hj
        exact firm_turns hah hfirm g2 g1 g3 g4) hm
      obtain ⟨r', hr2, hlr⟩ := runI_like B hlm hB
      refine ⟨r', ?_, s, hsL, hlk.trans hlr⟩
      rw [show A ++ i :: B = (A ++ [i]) ++ B from by simp, runI_append, hm']
      exact hr2
    · cases hr : (Region.ready .any ops listed).isEmpty
      rotate_left
      · rw [hr] at h; cases h
      rw [hr, cond_false] at h
      cases hl with
      | nil h0 => rw [h0] at hr; cases hr
      | @cons _ i l hi hl =>
        obtain ⟨o, q, m, g1, g2, g3, g4⟩ := ordsP_step _ L h i hi
        obtain ⟨r, h1, s, h2, h4⟩ := ordsP_all hah fuel _ q m g3 (by simpa using hs) (closed_set hs hc hi) l hl
        exact ⟨r, by rw [runI_cons g1 g2]; exact h1, s, g4 s h2, h4⟩
theorem ready_some (hb : ∀ (j : Nat) o, ops[j]? = some o → ∀ e ∈ o.after, Region.binds .any e = true → e.on < j) {listed : Array Bool} (hs : listed.size = ops.size) (h : 0 < missing ops.size (isIn listed)) : ∃ i, i ∈ Region.ready .any ops listed := by
  obtain ⟨i, h1, h2, h3⟩ := first_missing h
  obtain ⟨o, ho⟩ : ∃ o, ops[i]? = some o := ⟨ops[i], by simp [h1]⟩
  refine ⟨i, mem_ready.2 ⟨?_, o, ho, fun e he hbb => h3 _ (hb i o ho e he hbb)⟩⟩
  unfold isIn at h2
  rw [Array.getD_eq_getD_getElem?] at h2 ⊢
  have : i < listed.size := by omega
  simp [this] at h2 ⊢
  exact h2
theorem ready_none {listed : Array Bool} (hs : listed.size = ops.size) (h : missing ops.size (isIn listed) = 0) : Region.ready .any ops listed = [] := by
  apply List.eq_nil_iff_forall_not_mem.2
  intro i hi
  have h1 := ready_out hs hi
  have hin : i ∈ (List.range ops.size).filter fun i => !(isIn listed i) := List.mem_filter.2 ⟨List.mem_range.2 (ready_lt hi), by simp [h1]⟩
  have h0 := List.length_eq_zero_iff.1 h
  rw [h0] at hin; cases hin
theorem compl_some (hb : ∀ (j : Nat) o, ops[j]? = some o → ∀ e ∈ o.after, Region.binds .any e = true → e.on < j) : ∀ (fuel : Nat) (listed : Array Bool), listed.size = ops.size → missing ops.size (isIn listed) = fuel → ∃ l, Compl ops listed l
  | 0, listed, hs, hm => ⟨[], .nil (ready_none hs hm)⟩
  | fuel + 1, listed, hs, hm => by
    obtain ⟨i, hi⟩ := ready_some hb hs (by omega)
    have := missing_with (S := isIn listed) (ready_lt hi) (ready_out hs hi)
    obtain ⟨l, hl⟩ := compl_some hb fuel (listed.setIfInBounds i true) (by simpa using hs) (by rw [isIn_set (by rw [hs]; exact ready_lt hi)]; omega)
    exact ⟨i :: l, .cons hi hl⟩
theorem compl_sound (hT : CxOk cx) {E H0 β0 w0 D} (hs0 : StartOk cx.P E H0 β0 w0) (hb : ∀ (j : Nat) o, ops[j]? = some o → ∀ e ∈ o.after, Region.binds .any e = true → e.on < j) {Q : AEx → T → List O → Prop} :
    ∀ (fuel : Nat) (listed : Array Bool) (p : T × List O) (β : List Loc) (a : Act) (w : World), listed.size = ops.size → missing ops.size (isIn listed) = fuel →
      (∀ l, Compl ops listed l → ∃ r, runI cx ops l p = some r ∧ ∃ s : T × List O, Q .normal s.1 s.2 ∧ Like s r) → Good E H0 β0 w0 cx.n D p.1 p.2 β a w →
      wpAny cx.P .any ops (Post E H0 β0 w0 cx.n D Q) fuel listed a w
  | 0, listed, p, β, a, w, hs, hm, h, hg => by
    have hr := ready_none hs hm
    obtain ⟨r, h1, s, h2, h3⟩ := h [] (.nil hr)
    simp only [runI, Option.some.injEq] at h1
    subst h1
    refine ⟨hr, s.1, s.2, β, h2, ?_⟩
    have := hg.like h3.1
    rw [h3.2]
    exact this
  | fuel + 1, listed, p, β, a, w, hs, hm, h, hg => by
    refine ⟨fun hr => ?_, fun i hi => ?_⟩
    · obtain ⟨i, hi⟩ := ready_some hb hs (by omega)
      rw [hr] at hi; cases hi
    · obtain ⟨_, o, ho, _⟩ := mem_ready.1 hi
      have hmw := missing_with (S := isIn listed) (ready_lt hi) (ready_out hs hi)
      have hm' : missing ops.size (isIn (listed.setIfInBounds i true)) = fuel := by rw [isIn_set (by rw [hs]; exact ready_lt hi)]; omega
      obtain ⟨l, hl⟩ := compl_some hb fuel (listed.setIfInBounds i true) (by simpa using hs) hm'
      obtain ⟨r, h1, _⟩ := h (i :: l) (.cons hi hl)
      cases hst : step1 cx ops o p with
      | none => simp only [runI, ho, hst] at h1; cases h1
      | some q =>
        refine step1_sound hT hs0 ho (t := p.1) (H := p.2) hg hst ?_
        intro β' a' w' hg'
        refine compl_sound hT hs0 hb fuel _ q β' a' w' (by simpa using hs) hm' (fun l hl => ?_) hg'
        obtain ⟨r, h1, h2⟩ := h (i :: l) (.cons hi hl)
        rw [runI_cons ho hst] at h1
        exact ⟨r, h1, h2⟩
end
section
variable {P : Program} {n : Nat} {Q : AEx → T → List O → Prop} {t : T} {H : List O} {cx : Cx} {ops : Array Oper}
def nothing (ops : Array Oper) : Array Bool := Array.replicate ops.size false
def allOrds (cx : Cx) (ops : Array Oper) (p : T × List O) : Option (List (T × List O)) :=
  cond (cx.P.follows .mixedOrders && backs 0 ops.toList) (ordsP cx ops (aheads ops.toList []) ops.size (nothing ops) p) none
theorem AWP_ordersP (hP : cx.P = P) (hn : cx.n = n) (hT : CxOk cx) {id : Nat} {l : List (T × List O)}
    (h : allOrds cx ops (t, H) = some l) (hq : ∀ s ∈ l, Q .normal s.1 s.2) : AWP P n (.region id ops true) Q t H := by
  subst hP
  subst hn
  unfold allOrds at h
  cases hf : (cx.P.follows .mixedOrders && backs 0 ops.toList)
  · rw [hf] at h; cases h
  rw [hf, cond_true] at h
  obtain ⟨hm, hb⟩ := Bool.and_eq_true_iff.1 hf
  intro E H0 β0 w0 D β a w hs hg
  refine wp_region_any hm ?_
  have st := Step.heap_same (w' := { w with drawn := w.drawn + 1 }) hg.step.rel rfl rfl rfl rfl
  have hsz : (nothing ops).size = ops.size := by simp [nothing]
  have hno : isIn (nothing ops) = fun _ => false := by
    funext j
    unfold isIn nothing
    simp only [Array.getD_eq_getD_getElem?, Array.getElem?_replicate]
    split <;> rfl
  have hcl : Closed ops (isIn (nothing ops)) := by rw [hno]; intro j o ho hj; cases hj
  refine compl_sound hT hs (backs_spec hb) ops.size (nothing ops) (t, H) β a _ hsz ?_ (fun l' hl' => ?_) ⟨hg.step.trans st, hg.fr.step st, hg.defers⟩
  · rw [hno]
    unfold missing
    have e : (List.range ops.size).filter (fun i => !(fun _ => false) i) = List.range ops.size := List.filter_eq_self.2 fun _ _ => rfl
    rw [e, List.length_range]
  · obtain ⟨r, h1, s, h2, h3⟩ := ordsP_all (aheads_ok (ops := ops) ops.toList 0 [] rfl rfl (fun j a h => by simp at h)) _ _ _ _ h hsz hcl l' hl'
    exact ⟨r, h1, s, hq s h2, h3⟩
theorem AWP.keepQ (l : List Nat) {c : Code} (h : AWP P n c (fun e t H => Q e (keep l t) H) t H) : AWP P n c Q t H := by
  intro E H0 β0 w0 D β a w hs hg
  refine wp_mono (h E H0 β0 w0 D β a w hs hg) fun e a w hp => ?_
  have le : ∀ {t H β a w}, Good E H0 β0 w0 n D t H β a w → Good E H0 β0 w0 n D (keep l t) H β a w := fun hg => ⟨hg.step, hg.fr.le (TLe.keep l _), hg.defers⟩
  cases e with
  | normal => obtain ⟨t, H, β, h1, h2⟩ := hp; exact ⟨_, H, β, h1, le h2⟩
  | exit id => obtain ⟨t, H, β, h1, h2⟩ := hp; exact ⟨_, H, β, h1, le h2⟩
  | ret => obtain ⟨t, H, β, h1, h2⟩ := hp; exact ⟨_, H, β, h1, le h2⟩
  | panic ch => obtain ⟨t, H, β, v, x, h1, h2, h3, h4⟩ := hp; exact ⟨_, H, β, v, x, h1, le h2, h3, h4⟩
  | goto l => exact hp.elim
  | outgrown => exact hp.elim
theorem AWP_ordersPK (ks keeps : List Nat) (k : Nat) (hP : cx.P = P) (hn : cx.n = n) (hT : CxOk cx) {id : Nat} {t' : T} {H' : List O}
    (h : (allOrds cx ops (t, H)).map (fun l => l.map fun s => (dropS H.length (ordK ks s.1) (.normal, keep keeps s.1, s.2))) = some (List.replicate k (some (.normal, t', H'))))
    (hq : Q .normal t' H') : AWP P n (.region id ops true) Q t H := by
  obtain ⟨l, hl, h2⟩ := Option.map_eq_some_iff.1 h
  refine AWP_scope (AWP.keepQ keeps (AWP_ordersP hP hn hT hl fun s hs => ⟨ordK ks s.1, (.normal, t', H'), ?_, hq⟩))
  have : dropS H.length (ordK ks s.1) (.normal, keep keeps s.1, s.2) ∈ List.replicate k (some ((.normal, t', H') : St)) := by rw [← h2]; exact List.mem_map_of_mem hs
  exact (List.mem_replicate.1 this).2
end
end Go.Ab

namespace Go.Ab
open Go.ChangeShapes Go.WideShapes Go.ChangeAt Go.RowKit
def arrFs (P : Program) (n : Nat) (e : TypeId) : List Field := (List.range n).map fun i => { name := "", type := e, offset := i * P.cellsOf e, embedded := false, tag := "", pkgPath := "", byteOffset := 0 }
mutual
def lay (P : Program) : Nat → TypeId → Option EC
  | 0, _ => none
  | d + 1, t => match P.underlying t with
    | some (.int k) => some (.int k)
    | some .bool => some .bool
    | some .string => some .str
    | some (.struct fs) => match layF P d 0 fs.toList with
      | some cs => if P.cellsOf t = EC.sizes cs then some (.prod cs) else none
      | none => none
    | some (.array n e) => match layF P d 0 (arrFs P n e) with
      | some cs => if P.cellsOf t = EC.sizes cs then some (.prod cs) else none
      | none => none
    | _ => none
def layF (P : Program) : Nat → Nat → List Field → Option (List EC)
  | 0, _, _ => none
  | _ + 1, _, [] => some []
  | d + 1, off, f :: r => match lay P d f.type with
    | some c => if f.offset = off ∧ P.cellsOf f.type = c.size then (layF P d (off + c.size) r).map (c :: ·) else none
    | none => none
end
def layP (P : Program) (t : TypeId) : Option EC :=
  match P.underlying t with
  | some (.slice e) => match lay P 80 e with
    | some c => if P.cellsOf e = c.size ∧ 0 < c.size then some (.sl c) else none
    | none => none
  | _ => lay P 80 t
mutual
def okE : (c : EC) → c.ty → Prop
  | .int k, (n : Int) => k.has n
  | .bool, _ => True
  | .str, (s : List UInt8) => s.length ≤ maxLen
  | .sl _, none => True
  | .sl c, some l => l.length ≤ maxLen ∧ ∀ x ∈ l, okE c x
  | .prod cs, x => okEs cs x
def okEs : (cs : List EC) → EC.tys cs → Prop
  | [], _ => True
  | [c], x => okE c x
  | c :: d :: cs, x => okE c x.1 ∧ okEs (d :: cs) x.2
end
def argV : (c : EC) → c.ty → V
  | .int k, n => .int k n
  | .bool, b => .bool b
  | .str, s => .str s
  | .sl c, o => .sl c (o.getD []) [] .may
  | .prod cs, x => .agg (encs cs x)
def argVs : (cs : List EC) → EC.tys cs → List V
  | [], _ => []
  | [c], x => [argV c x]
  | c :: d :: cs, x => argV c x.1 :: argVs (d :: cs) x.2
section
variable {H : Type} {en : TypeId × Value → H} {P : Program} {w : World} {base : Nat} {sp : Nat → Bool} {hd : Bool} {X : Nat → Nat → Prop}
theorem wf_has {k : IntKind} {n : Int} (h : (Lit.int k n).wf = true) : k.has n := by
  simpa [Lit.wf, IntKind.has] using h
theorem take_get {α : Type} {l : List α} {off n k : Nat} {z : α} (h : ((l.drop off).take n)[k]? = some z) : l[off + k]? = some z := by
  rw [List.getElem?_take] at h
  split at h
  · rwa [List.getElem?_drop] at h
  · cases h
mutual
theorem trod_lay : ∀ (d : Nat) (t : TypeId) (c : EC) (fuel : Nat) (cs : List Value) (y : DataW H × List MemPlace), lay P d t = some c → DataW.trod en P w base sp hd fuel t cs = some y →
    ∃ x : c.ty, okE c x ∧ ∀ (k : Nat) v, (enc c x)[k]? = some v → ∃ z, cs[k]? = some z ∧ R w X [] v z
  | 0, t, c, fuel, cs, y, hl, ht => by simp [lay] at hl
  | d + 1, t, c, fuel, cs, y, hl, ht => by
    unfold lay at hl
    split at hl
    · rename_i k hu
      simp only [Option.some.injEq] at hl
      subst hl
      obtain ⟨n, rfl, _, hw⟩ := DataW.trod_int hu ht
      refine ⟨(n : Int), wf_has hw, ?_⟩
      intro k v hv
      match k, hv with
      | 0, hv =>
        simp only [enc, List.getElem?_cons_zero, Option.some.injEq] at hv
        subst hv
        exact ⟨_, rfl, .int _ _ _⟩
    · rename_i hu
      simp only [Option.some.injEq] at hl
      subst hl
      obtain ⟨b, rfl, _⟩ := DataW.trod_bool hu ht
      refine ⟨(b : Bool), trivial, ?_⟩
      intro k v hv
      match k, hv with
      | 0, hv =>
        simp only [enc, List.getElem?_cons_zero, Option.some.injEq] at hv
        subst hv
        exact ⟨_, rfl, .bool _ _⟩
    · rename_i hu
      simp only [Option.some.injEq] at hl
      subst hl
      obtain ⟨s, rfl, _, hs⟩ := DataW.trod_string hu ht
      refine ⟨(s.data.toList : List UInt8), by simpa [okE] using hs, ?_⟩
      intro k v hv
      match k, hv with
      | 0, hv =>
        simp only [enc, List.getElem?_cons_zero, Option.some.injEq] at hv
        subst hv
        refine ⟨_, rfl, ?_⟩
        have := R.str (w := w) (X := X) [] s.data.toList
        simpa using this
    · rename_i fs hu
      split at hl
      rotate_left
      · cases hl
      rename_i cs' hcs'
      split at hl
      rotate_left
      · cases hl
      simp only [Option.some.injEq] at hl
      subst hl
      obtain ⟨xs, n, _, _, hlen, hxs, hf⟩ := DataW.trod_struct hu ht
      obtain ⟨x, h1, h2⟩ := trod_layF d 0 fs.toList cs' n cs hcs' (fun f hf' => by
        obtain ⟨i, hi, hfi⟩ := List.getElem_of_mem hf'
        have h1 := hf i f (by simp at hi; rw [Array.getElem?_eq_getElem hi]; simpa using hfi)
        rw [List.getElem?_eq_getElem (by simp at hi; omega)] at h1
        exact ⟨_, h1⟩)
      exact ⟨x, by simpa [okE] using h1, fun k v hv => by simpa using h2 k v (by simpa [enc] using hv)⟩
    · rename_i n e hu
      split at hl
      rotate_left
      · cases hl
      rename_i cs' hcs'
      split at hl
      rotate_left
      · cases hl
      simp only [Option.some.injEq] at hl
      subst hl
      obtain ⟨xs, m, _, _, hlen, hxs, hf⟩ := DataW.trod_array hu ht
      obtain ⟨x, h1, h2⟩ := trod_layF d 0 (arrFs P n e) cs' m cs hcs' (fun f hf' => by
        obtain ⟨i, hi, rfl⟩ := List.mem_map.1 hf'
        have hi : i < n := List.mem_range.1 hi
        have h1 := hf i hi
        rw [List.getElem?_eq_getElem (by omega)] at h1
        exact ⟨_, h1⟩)
      exact ⟨x, by simpa [okE] using h1, fun k v hv => by simpa using h2 k v (by simpa [enc] using hv)⟩
    · cases hl
theorem trod_layF : ∀ (d off : Nat) (fs : List Field) (cs' : List EC) (n : Nat) (cs : List Value), layF P d off fs = some cs' →
    (∀ f ∈ fs, ∃ y, DataW.trod en P w base sp hd n f.type ((cs.drop f.offset).take (P.cellsOf f.type)) = some y) →
    ∃ x : EC.tys cs', okEs cs' x ∧ ∀ (k : Nat) v, (encs cs' x)[k]? = some v → ∃ z, cs[off + k]? = some z ∧ R w X [] v z
  | 0, off, fs, cs', n, cs, hl, h => by simp [layF] at hl
  | d + 1, off, [], cs', n, cs, hl, h => by
    simp only [layF, Option.some.injEq] at hl
    subst hl
    exact ⟨(), trivial, fun k v hv => by simp [encs] at hv⟩
  | d + 1, off, f :: r, cs', n, cs, hl, h => by
    unfold layF at hl
    split at hl
    rotate_left
    · cases hl
    rename_i c hc
    split at hl
    rotate_left
    · cases hl
    rename_i ho
    obtain ⟨ho, hz⟩ := ho
    obtain ⟨ds, hds, rfl⟩ := Option.map_eq_some_iff.1 hl
    obtain ⟨y, hy⟩ := h f List.mem_cons_self
    obtain ⟨x1, a1, a2⟩ := trod_lay d f.type c n _ y hc hy
    obtain ⟨x2, b1, b2⟩ := trod_layF d (off + c.size) r ds n cs hds (fun g hg => h g (List.mem_cons_of_mem _ hg))
    have hfirst : ∀ (k : Nat) v, (enc c x1)[k]? = some v → ∃ z, cs[off + k]? = some z ∧ R w X [] v z := fun k v hv => by
      obtain ⟨z, hz, hr⟩ := a2 k v hv
      rw [ho] at hz
      exact ⟨z, take_get hz, hr⟩
    match ds, x2, b1, b2 with
    | [], _, _, _ => exact ⟨x1, by simpa [okEs] using a1, fun k v hv => hfirst k v (by simpa [encs] using hv)⟩
    | e :: es, x2, b1, b2 =>
      refine ⟨(x1, x2), by simpa [okEs] using ⟨a1, b1⟩, fun k v hv => ?_⟩
      simp only [encs] at hv
      by_cases hk : k < (enc c x1).length
      · rw [List.getElem?_append_left hk] at hv
        exact hfirst k v hv
      · rw [List.getElem?_append_right (by omega)] at hv
        rw [enc_size] at hv hk
        obtain ⟨z, hz, hr⟩ := b2 (k - c.size) v hv
        rw [show off + c.size + (k - c.size) = off + k from by omega] at hz
        exact ⟨z, hz, hr⟩
end
theorem choose_lt' {α : Type} [Inhabited α] {p : Nat → α → Prop} {m : Nat} (h : ∀ i, i < m → ∃ x, p i x) : ∃ f : Nat → α, ∀ i, i < m → p i (f i) := by
  refine ⟨fun i => if hi : i < m then Classical.choose (h i hi) else default, fun i hi => ?_⟩
  simp only [hi, dif_pos]
  exact Classical.choose_spec (h i hi)
instance (c : EC) : Inhabited c.ty := ⟨c.dflt⟩
theorem flat_not_sl {d : Nat} {t : TypeId} {c : EC} (h : lay P d t = some (.sl c)) : False := by
  cases d with
  | zero => simp [lay] at h
  | succ d =>
    unfold lay at h
    split at h
    all_goals first | (simp at h; done) | skip
    all_goals (repeat' (split at h))
    all_goals first | (cases h; done) | (simp at h; done)
theorem cells_one {t : TypeId} {c : EC} {v : Value} {r : Reach} (hl : lay P 80 t = some c) (hv : Value.okWide P w r base t v) (hc : ∀ cs, c ≠ .prod cs) : v.cells = #[v] := by
  unfold lay at hl
  unfold Value.okWide at hv
  split at hl
  · rename_i k hu
    simp only [hu] at hv
    simp only [Cell.okWide, hu, Cell.ok] at hv
    cases v <;> first | rfl | (simp at hv; done)
  · rename_i hu
    simp only [hu] at hv
    simp only [Cell.okWide, hu, Cell.ok] at hv
    cases v <;> first | rfl | (simp at hv; done)
  · rename_i hu
    simp only [hu] at hv
    simp only [Cell.okWide, hu, Cell.ok] at hv
    cases v <;> first | rfl | (simp at hv; done)
  · split at hl
    rotate_left
    · cases hl
    split at hl
    rotate_left
    · cases hl
    simp only [Option.some.injEq] at hl
    exact absurd hl.symm (hc _)
  · split at hl
    rotate_left
    · cases hl
    split at hl
    rotate_left
    · cases hl
    simp only [Option.some.injEq] at hl
    exact absurd hl.symm (hc _)
  · cases hl
theorem cells_agg {t : TypeId} {cs : List EC} {v : Value} {r : Reach} (hl : lay P 80 t = some (.prod cs)) (hv : Value.okWide P w r base t v) : ∃ xs : Array Value, v = .agg xs ∧ xs.size = EC.sizes cs := by
  unfold lay at hl
  unfold Value.okWide at hv
  split at hl
  · simp at hl
  · simp at hl
  · simp at hl
  · rename_i fs hu
    simp only [hu] at hv
    split at hl
    rotate_left
    · cases hl
    split at hl
    rotate_left
    · cases hl
    rename_i hsz
    simp only [Option.some.injEq, EC.prod.injEq] at hl
    subst hl
    obtain ⟨xs, rfl, h1, _⟩ := hv
    exact ⟨xs, rfl, by rw [h1, hsz]⟩
  · rename_i n e hu
    simp only [hu] at hv
    split at hl
    rotate_left
    · cases hl
    split at hl
    rotate_left
    · cases hl
    rename_i hsz
    simp only [Option.some.injEq, EC.prod.injEq] at hl
    subst hl
    obtain ⟨xs, rfl, h1, _⟩ := hv
    exact ⟨xs, rfl, by rw [h1, hsz]⟩
  · cases hl
theorem okWide_sl {t e : TypeId} {v : Value} {r : Reach} (hu : P.underlying t = some (.slice e)) (hv : Value.okWide P w r base t v) :
    v = .slice none 0 0 ∨ ∃ b o len cap, v = .slice (some ⟨b, o, none⟩) len cap := by
  unfold Value.okWide at hv
  simp only [hu] at hv
  cases v
  case slice a len cap =>
    cases a with
    | none =>
      simp only [Cell.okWide, hu, Cell.ok] at hv
      split at hv
      all_goals first | (simp_all; done) | skip
    | some a =>
      simp only [Cell.okWide, hu, Cell.ok] at hv
      obtain ⟨_, _, _, hs, _⟩ := hv
      obtain ⟨b, o, s⟩ := a
      simp only at hs
      subst hs
      exact .inr ⟨b, o, len, cap, rfl⟩
  all_goals simp [Cell.okWide, hu, Cell.ok] at hv
theorem arg_R {t : TypeId} {c : EC} {v : Value} {d : DataW H} {ps : List MemPlace} {r : Reach} (hl : layP P t = some c) (hv : Value.okWide P w r base t v)
    (ht : DataW.Trod en P w 0 sp hd t v d ps) : ∃ x : c.ty, okE c x ∧ R w (fun _ _ => False) [] (argV c x) v := by
  obtain ⟨fuel, ht⟩ := ht
  unfold layP at hl
  split at hl
  · rename_i e hu
    split at hl
    rotate_left
    · cases hl
    rename_i c' hc'
    split at hl
    rotate_left
    · cases hl
    rename_i hsz
    simp only [Option.some.injEq] at hl
    subst hl
    rcases okWide_sl hu hv with rfl | ⟨b, o, len, cap, rfl⟩
    · exact ⟨(none : Option (List c'.ty)), trivial, .nil _ _⟩
    · rcases Go.Deep.open_slice hu ht with ⟨h0, _⟩ | ⟨a, len', cap', m, n, D, Pl, hcs, _, hle, hmax, hm, _, hx⟩
      · simp [Value.cells] at h0
      simp only [Value.cells, List.cons.injEq, Value.slice.injEq, Option.some.injEq, and_true] at hcs
      obtain ⟨rfl, rfl, rfl⟩ := hcs
      have hlm : len ≤ m := by rw [hm]; split <;> omega
      have hel : ∀ i, i < len → ∃ x : c'.ty, okE c' x ∧ ∀ (k : Nat) v, (enc c' x)[k]? = some v → ∃ z, w.cell? ⟨b, o + i * c'.size + k, none⟩ = some z ∧ R w (fun _ _ => False) [] v z := by
        intro i hi
        obtain ⟨cs', h1, h2⟩ := hx i (by omega)
        obtain ⟨x, x1, x2⟩ := trod_lay (X := fun _ _ => False) 80 e c' n cs' _ hc' h2
        obtain ⟨_, hlen, hcell⟩ := World.cells?_some h1
        refine ⟨x, x1, fun k v hv => ?_⟩
        obtain ⟨z, hz, hr⟩ := x2 k v hv
        refine ⟨z, ?_, hr⟩
        have hk : k < P.cellsOf e := by
          rw [← hlen]
          exact (List.getElem?_eq_some_iff.1 hz).1
        have := hcell k hk
        rw [hz, add_plain, add_plain, hsz.1] at this
        exact this
      obtain ⟨f, hf⟩ := choose_lt' hel
      have hg : ∀ i k, i < len → k < c'.size → ∃ z, w.cell? ⟨b, o + i * c'.size + k, none⟩ = some z := fun i k hi hk => by
        obtain ⟨z, hz, _⟩ := (hf i hi).2 k _ (List.getElem?_eq_getElem (by rw [enc_size]; exact hk))
        exact ⟨z, hz⟩
      refine ⟨(some ((List.range len).map f) : Option (List c'.ty)), ⟨by simp; omega, fun x hx => ?_⟩, ?_⟩
      · obtain ⟨i, hi, rfl⟩ := List.mem_map.1 hx
        exact (hf i (List.mem_range.1 hi)).1
      · have := R.sl (w := w) (X := fun _ _ => False) [] c' ((List.range len).map f) [] .may b o cap (fun i k => (w.cell? ⟨b, o + i * c'.size + k, none⟩).getD undef)
          (by simp; omega) (fun h => by cases h) (fun h => by cases h) (fun i k hi hk => ⟨fun h => h, by
            obtain ⟨z, hz⟩ := hg i k (by simpa using hi) hk
            rw [hz]; rfl⟩) (fun i x k v h1 h2 => by
            simp only [List.append_nil, List.getElem?_map, Option.map_eq_some_iff] at h1
            obtain ⟨j, hj, rfl⟩ := h1
            obtain ⟨hj1, hj2⟩ := List.getElem?_eq_some_iff.1 hj
            simp only [List.length_range] at hj1
            simp only [List.getElem_range] at hj2
            subst hj2
            obtain ⟨z, hz, hr⟩ := (hf i hj1).2 k v h2
            rw [hz]; exact hr)
        simp only [List.length_map, List.length_range] at this
        exact this
  · cases c with
    | prod cs =>
      obtain ⟨xs, rfl, hsz⟩ := cells_agg hl hv
      obtain ⟨x, x1, x2⟩ := trod_lay (X := fun _ _ => False) 80 t _ fuel _ _ hl ht
      refine ⟨x, x1, ?_⟩
      have := R.agg (w := w) (X := fun _ _ => False) [] (encs cs x) xs.toList (by rw [show (encs cs x).length = EC.sizes cs from enc_size (.prod cs) x]; simpa using hsz) (fun k v y h1 h2 => by
        obtain ⟨z, hz, hr⟩ := x2 k v (by simpa [enc] using h1)
        simp only [Value.cells] at hz
        rw [hz] at h2
        simp only [Option.some.injEq] at h2
        subst h2
        exact hr)
      simpa [argV] using this
    | sl c => exact (flat_not_sl hl).elim
    | int k =>
      have hc := cells_one hl hv (by simp)
      obtain ⟨x, x1, x2⟩ := trod_lay (X := fun _ _ => False) 80 t _ fuel _ _ hl ht
      obtain ⟨z, hz, hr⟩ := x2 0 _ rfl
      simp only [hc, List.getElem?_cons_zero, Option.some.injEq] at hz
      subst hz
      exact ⟨x, x1, hr⟩
    | bool =>
      have hc := cells_one hl hv (by simp)
      obtain ⟨x, x1, x2⟩ := trod_lay (X := fun _ _ => False) 80 t _ fuel _ _ hl ht
      obtain ⟨z, hz, hr⟩ := x2 0 _ rfl
      simp only [hc, List.getElem?_cons_zero, Option.some.injEq] at hz
      subst hz
      exact ⟨x, x1, hr⟩
    | str =>
      have hc := cells_one hl hv (by simp)
      obtain ⟨x, x1, x2⟩ := trod_lay (X := fun _ _ => False) 80 t _ fuel _ _ hl ht
      obtain ⟨z, hz, hr⟩ := x2 0 _ rfl
      simp only [hc, List.getElem?_cons_zero, Option.some.injEq] at hz
      subst hz
      exact ⟨x, x1, hr⟩
theorem okWide_of_get {ts : List TypeId} {vs : List Value} {t : TypeId} {v : Value} {r : Reach} (h : ∀ (j : Nat) t' v', (t :: ts)[j]? = some t' → (v :: vs)[j]? = some v' → Value.okWide P w r base t' v') :
    Value.okWide P w r base t v ∧ ∀ (j : Nat) t' v', ts[j]? = some t' → vs[j]? = some v' → Value.okWide P w r base t' v' :=
  ⟨h 0 t v rfl rfl, fun j t' v' h1 h2 => h (j + 1) t' v' (by simpa using h1) (by simpa using h2)⟩
def layPs (P : Program) : List TypeId → Option (List EC)
  | [] => some []
  | t :: r => match layP P t, layPs P r with
    | some c, some cs => some (c :: cs)
    | _, _ => none
theorem args_R {r : Reach} : ∀ {ts : List TypeId} {cs : List EC} {vs : List Value} {ds : List (DataW H)} {ps : List MemPlace}, layPs P ts = some cs →
    (∀ (j : Nat) t v, ts[j]? = some t → vs[j]? = some v → Value.okWide P w r base t v) → DataW.TrodAll en P w 0 sp hd ts vs ds ps →
    ∃ x : EC.tys cs, okEs cs x ∧ vs.length = (argVs cs x).length ∧ ds.length = ts.length ∧ ∀ (k : Nat) v z, (argVs cs x)[k]? = some v → vs[k]? = some z → R w (fun _ _ => False) [] v z
  | [], cs, vs, ds, ps, hl, hv, ht => by
    simp only [layPs, Option.some.injEq] at hl
    subst hl
    obtain ⟨rfl, rfl, rfl⟩ := trodAll_nil ht
    exact ⟨(), trivial, rfl, rfl, fun k v z h => by simp [argVs] at h⟩
  | t :: ts, cs, vs, ds, ps, hl, hv, ht => by
    unfold layPs at hl
    split at hl
    rotate_left
    · cases hl
    rename_i c cs' hc hcs
    simp only [Option.some.injEq] at hl
    subst hl
    obtain ⟨v, vs', d, ds', p, q, rfl, rfl, rfl, h1, h2⟩ := trodAll_cons ht
    obtain ⟨g1, g2⟩ := okWide_of_get hv
    obtain ⟨x1, a1, a2⟩ := arg_R hc g1 h1
    obtain ⟨x2, b1, b2, b3, b4⟩ := args_R hcs g2 h2
    match cs', x2, b1, b2, b4 with
    | [], x2, b1, b2, b4 =>
      refine ⟨x1, by simpa [okEs] using a1, by simpa [argVs] using b2, by simp [b3], fun k u z hu hz => ?_⟩
      match k, hu, hz with
      | 0, hu, hz =>
        simp only [argVs, List.getElem?_cons_zero, Option.some.injEq] at hu hz
        subst hu; subst hz
        exact a2
    | e :: es, x2, b1, b2, b4 =>
      refine ⟨(x1, x2), by simpa [okEs] using ⟨a1, b1⟩, by simpa [argVs] using b2, by simp [b3], fun k u z hu hz => ?_⟩
      cases k with
      | zero =>
        simp only [argVs, List.getElem?_cons_zero, Option.some.injEq] at hu hz
        subst hu; subst hz
        exact a2
      | succ k => exact b4 k u z (by simpa [argVs] using hu) (by simpa using hz)
def readable (P : Program) (ts : List TypeId) : Bool := ts.all fun t => P.readableRec t && decide (t < P.types.size)
theorem args_stay {W W' : World} (hlaid : laidOutB P = true) (hb : Below W.heap.size W W') : ∀ {ts : List TypeId} {vs : List Value} {ds : List (DataW H)} {ps : List MemPlace}, readable P ts = true →
    DataW.TrodAll en P W 0 (fun _ => true) true ts vs ds ps → (∀ x ∈ ps, x.block < W.heap.size) → DataW.TrodAll en P W' 0 (fun b => decide (b < W.heap.size)) true ts vs ds ps
  | [], vs, ds, ps, _, ht, _ => by
    obtain ⟨rfl, rfl, rfl⟩ := trodAll_nil ht
    rfl
  | t :: ts, vs, ds, ps, hr, ht, hlt => by
    obtain ⟨v, vs', d, ds', p, q, rfl, rfl, rfl, h1, h2⟩ := trodAll_cons ht
    simp only [readable, List.all_cons, Bool.and_eq_true, decide_eq_true_eq] at hr
    exact ⟨p, q, Below.trod hlaid hr.1.1 hr.1.2 h1 hb (fun x hx => hlt x (by simp [hx])), args_stay hlaid hb (by simpa [readable] using hr.2) h2 (fun x hx => hlt x (by simp [hx])), rfl⟩
theorem below_step {W W' : World} (s : Step (fun _ _ => False) [] [] W [] [] W') : Below W.heap.size W W' :=
  ⟨s.os, s.tape, s.output, s.size, fun b hb => by
    rcases s.pres b hb with h | ⟨⟨o, h⟩, _⟩ | ⟨⟨o, h⟩, _⟩
    · exact h
    · exact absurd h (own_nil b o)
    · exact absurd h (own_nil b o)⟩
def resBool (P : Program) (ts : List TypeId) : Bool :=
  match ts with
  | [t] => match P.underlying t with
    | some .bool => true
    | _ => false
  | _ => false
theorem resBool_some {ts : Array TypeId} (h : resBool P ts.toList = true) : ∃ t, ts = #[t] ∧ P.underlying t = some .bool := by
  unfold resBool at h
  split at h
  · rename_i t ht
    split at h
    · rename_i hu
      exact ⟨t, by apply Array.ext'; simpa using ht, hu⟩
    · cases h
  · cases h
theorem law_contract {f : FuncId} {fn : Func} {s : ChangeSpec} {cs : List EC} {apart fresh handsOn : Bool} (hlaid : laidOutB P = true) (hts : layPs P fn.params.toList = some cs) (hrd : readable P fn.params.toList = true)
    (hrb : resBool P fn.resultTypes.toList = true) (hvars : s.vars = [])
    (hs : ∀ ds : List (DataW H), ds.length = fn.params.toList.length → s.fn H ds = { results := [.lit (.bool true)], args := ds })
    (hpc : ∀ x : EC.tys cs, okEs cs x → PCall P f (argVs cs x) (.bool true))
    (W : World) (base : Nat) (args : Array Value) (ds gs : List (DataW H)) (before : List MemPlace) (hG : Gs P W fun _ _ => False)
    (hval : ∀ (j : Nat) t v, fn.params[j]? = some t → args[j]? = some v → Value.okWide P W .any base t v)
    (hW : DataW.Whole en P fn.params.toList s.vars apart W args.toList ds gs before) :
    Calls P f args W fun e W' => ∃ v, e = .returned v ∧ s.post en P fn apart fresh handsOn false W args v W' := by
  have hW0 := hW
  obtain ⟨tb, hres, htb⟩ := resBool_some hrb
  obtain ⟨p, q, hA, hV, rfl, hfz, hnd⟩ := hW
  rw [hvars] at hV
  obtain ⟨rfl, rfl⟩ : gs = [] ∧ q = [] := by
    cases gs with
    | nil => exact ⟨rfl, hV⟩
    | cons g gs => exact hV.elim
  obtain ⟨x, x1, x2, x3, x4⟩ := args_R hts (fun j t v h1 h2 => hval j t v (by simpa using h1) (by simpa using h2)) hA
  have hlt := hW0.lt
  simp only [List.append_nil] at hlt hW0
  have := (hpc x x1).2 W (fun _ _ => False) args.toList ⟨fun _ _ h => h.elim, hG⟩ x2 x4
  simp only [Array.toArray_toList] at this
  refine this.mono ?_
  rintro e W' ⟨y, rfl, st, hr⟩
  have hb := below_step st
  cases hr
  refine ⟨_, rfl, ds, [], p, [], p, [], hW0, ?_, ?_, ?_, ?_, fun h => by cases h⟩
  · rw [List.append_nil, hs ds x3, hres]
    exact trodAll_mk1 (shut_bool htb true)
  · rw [List.append_nil, hs ds x3]
    exact args_stay hlaid hb hrd hA hlt
  · rw [List.append_nil, hs ds x3, hvars]
    rfl
  · exact hb.frame _
end
end Go.Ab

namespace Go.Amd
open Go Go.Ab Go.Proofs
theorem cx0_ok {cx : Cx} (h1 : cx.tab = []) (h2 : cx.mtab = []) (h3 : cx.rtab = [] := by rfl) (h4 : ∀ p ∈ cx.globs, p ∈ globsOf cx.P := by intro p h; cases h) : CxOk cx := by
  refine ⟨?_, ?_, ?_, h4⟩
  · rw [h1]; exact .nil _
  · rw [h2]; exact .nil _
  · rw [h3]; exact .nil _
theorem cx1_ok {cx : Cx} {t : List (Nat × Ab.Spec)} {m : List (Nat × MSpec)} (ht : TabOk cx.P t) (hm : MTabOk cx.P m) (h1 : cx.tab = t) (h2 : cx.mtab = m) (h3 : cx.rtab = [] := by rfl) (h4 : ∀ p ∈ cx.globs, p ∈ globsOf cx.P := by intro p h; cases h) : CxOk cx := by
  refine ⟨?_, ?_, ?_, h4⟩
  · rw [h1]; exact ht
  · rw [h2]; exact hm
  · rw [h3]; exact .nil _
abbrev rowE : EC := .prod [.str, .int .i64, .int .u16, .int .i64, .int .u8, .bool, .int .i64, .int .i64, .str]
abbrev RowT := List UInt8 × Int × Int × Int × Int × Bool × Int × Int × List UInt8
noncomputable def cx102 : Cx := { P := Tryz.prog, n := 32, tab := [], mtab := [], refs := [], keeps := [0, 1, 2, 4, 7, 8, 9, 10, 11], fuel := 10 }
noncomputable def likeS : MSpec := fun args H => .req (Nat.ble args.length Tryz.f102.ntmps) (mfun cx102 Tryz.f102 args H)
theorem likeS_ok : MSound Tryz.prog 102 likeS := msound_fun (cx := cx102) (fn := Tryz.f102) (cx0_ok rfl rfl) (by kernel_rfl) (by kernel_rfl)
noncomputable def cx72 : Cx := { P := Tryz.prog, n := 62, tab := [], mtab := [(102, likeS)], refs := [], keeps := [0, 2, 3, 4] }
noncomputable def cx73 : Cx := { P := Tryz.prog, n := 75, tab := [], mtab := [(102, likeS)], refs := [], keeps := [0] }
noncomputable def cx74 : Cx := { P := Tryz.prog, n := 43, tab := [], mtab := [(102, likeS)], refs := [], keeps := [0] }
def movesL : List RowT := [
  ([109, 111, 118, 46, 114, 114], 1, 137, 7, 0, false, 0, 0, [65, 66]),
  ([109, 111, 118, 46, 114, 105], 1, 184, 2, 0, false, -9223372036854775808, 9223372036854775807, [65, 105]),
  ([109, 111, 118, 46, 114, 115], 1, 199, 4, 0, false, -2147483648, 2147483647, [65, 105]),
  ([109, 111, 118, 46, 114, 109], 1, 139, 9, 0, false, -2147483648, 2147483647, [65, 109]),
  ([109, 111, 118, 108, 46, 114, 109], 0, 139, 9, 0, false, -2147483648, 2147483647, [65, 109]),
  ([109, 111, 118, 115, 108, 46, 114, 109], 1, 99, 9, 0, false, -2147483648, 2147483647, [65, 109]),
  ([109, 111, 118, 122, 98, 46, 114, 109], 1, 4022, 9, 0, false, -2147483648, 2147483647, [65, 109]),
  ([108, 101, 97], 1, 141, 9, 0, false, -2147483648, 2147483647, [65, 109]),
  ([109, 111, 118, 46, 109, 114], 1, 137, 9, 0, false, -2147483648, 2147483647, [65, 109]),
  ([109, 111, 118, 108, 46, 109, 114], 0, 137, 9, 0, false, -2147483648, 2147483647, [65, 109]),
  ([109, 111, 118, 98, 46, 109, 114], 2, 136, 9, 0, false, -2147483648, 2147483647, [65, 109]),
  ([109, 111, 118, 46, 102, 115], 1, 139, 10, 0, false, -2147483648, 2147483647, [65, 105])]
@[irreducible] def rowsL : List RowT := [
  ([109, 111, 118, 46, 114, 114], 1, 137, 7, 0, false, 0, 0, [65, 66]),
  ([109, 111, 118, 46, 114, 105], 1, 184, 2, 0, false, -9223372036854775808, 9223372036854775807, [65, 105]),
  ([109, 111, 118, 46, 114, 115], 1, 199, 4, 0, false, -2147483648, 2147483647, [65, 105]),
  ([109, 111, 118, 46, 114, 109], 1, 139, 9, 0, false, -2147483648, 2147483647, [65, 109]),
  ([109, 111, 118, 108, 46, 114, 109], 0, 139, 9, 0, false, -2147483648, 2147483647, [65, 109]),
  ([109, 111, 118, 115, 108, 46, 114, 109], 1, 99, 9, 0, false, -2147483648, 2147483647, [65, 109]),
  ([109, 111, 118, 122, 98, 46, 114, 109], 1, 4022, 9, 0, false, -2147483648, 2147483647, [65, 109]),
  ([108, 101, 97], 1, 141, 9, 0, false, -2147483648, 2147483647, [65, 109]),
  ([109, 111, 118, 46, 109, 114], 1, 137, 9, 0, false, -2147483648, 2147483647, [65, 109]),
  ([109, 111, 118, 108, 46, 109, 114], 0, 137, 9, 0, false, -2147483648, 2147483647, [65, 109]),
  ([109, 111, 118, 98, 46, 109, 114], 2, 136, 9, 0, false, -2147483648, 2147483647, [65, 109]),
  ([109, 111, 118, 46, 102, 115], 1, 139, 10, 0, false, -2147483648, 2147483647, [65, 105]),
  ([97, 100, 100, 46, 114, 114], 1, 1, 7, 0, false, 0, 0, [65, 66]),
  ([111, 114, 46, 114, 114], 1, 9, 7, 0, false, 0, 0, [65, 66]),
  ([97, 110, 100, 46, 114, 114], 1, 33, 7, 0, false, 0, 0, [65, 66]),
  ([115, 117, 98, 46, 114, 114], 1, 41, 7, 0, false, 0, 0, [65, 66]),
  ([120, 111, 114, 46, 114, 114], 1, 49, 7, 0, false, 0, 0, [65, 66]),
  ([99, 109, 112, 46, 114, 114], 1, 57, 7, 0, false, 0, 0, [65, 66]),
  ([97, 100, 100, 46, 114, 109], 1, 3, 9, 0, false, -2147483648, 2147483647, [65, 109]),
  ([111, 114, 46, 114, 109], 1, 11, 9, 0, false, -2147483648, 2147483647, [65, 109]),
  ([97, 110, 100, 46, 114, 109], 1, 35, 9, 0, false, -2147483648, 2147483647, [65, 109]),
  ([115, 117, 98, 46, 114, 109], 1, 43, 9, 0, false, -2147483648, 2147483647, [65, 109]),
  ([120, 111, 114, 46, 114, 109], 1, 51, 9, 0, false, -2147483648, 2147483647, [65, 109]),
  ([99, 109, 112, 46, 114, 109], 1, 59, 9, 0, false, -2147483648, 2147483647, [65, 109]),
  ([97, 100, 100, 46, 114, 105], 1, 131, 6, 0, false, -2147483648, 2147483647, [65, 105]),
  ([111, 114, 46, 114, 105], 1, 131, 6, 1, false, -2147483648, 2147483647, [65, 105]),
  ([97, 110, 100, 46, 114, 105], 1, 131, 6, 4, false, -2147483648, 2147483647, [65, 105]),
  ([115, 117, 98, 46, 114, 105], 1, 131, 6, 5, false, -2147483648, 2147483647, [65, 105]),
  ([120, 111, 114, 46, 114, 105], 1, 131, 6, 6, false, -2147483648, 2147483647, [65, 105]),
  ([99, 109, 112, 46, 114, 105], 1, 131, 6, 7, false, -2147483648, 2147483647, [65, 105]),
  ([116, 101, 115, 116, 46, 114, 114], 1, 133, 7, 0, false, 0, 0, [65, 66]),
  ([105, 109, 117, 108, 46, 114, 114], 1, 4015, 8, 0, false, 0, 0, [65, 66]),
  ([110, 111, 116], 1, 247, 3, 2, false, 0, 0, [65]),
  ([110, 101, 103], 1, 247, 3, 3, false, 0, 0, [65]),
  ([109, 117, 108], 1, 247, 3, 4, false, 0, 0, [65]),
  ([100, 105, 118], 1, 247, 3, 6, false, 0, 0, [65]),
  ([105, 100, 105, 118], 1, 247, 3, 7, false, 0, 0, [65]),
  ([99, 113, 111], 1, 153, 0, 0, false, 0, 0, []),
  ([115, 104, 108, 46, 114, 105], 1, 193, 5, 4, false, 0, 63, [65, 105]),
  ([115, 104, 114, 46, 114, 105], 1, 193, 5, 5, false, 0, 63, [65, 105]),
  ([115, 97, 114, 46, 114, 105], 1, 193, 5, 7, false, 0, 63, [65, 105]),
  ([115, 104, 108, 46, 114, 99], 1, 211, 3, 4, false, 0, 0, [65]),
  ([115, 104, 114, 46, 114, 99], 1, 211, 3, 5, false, 0, 0, [65]),
  ([115, 97, 114, 46, 114, 99], 1, 211, 3, 7, false, 0, 0, [65]),
  ([99, 109, 111, 118], 1, 3904, 8, 0, true, 0, 0, [65, 66, 99]),
  ([112, 117, 115, 104], 0, 80, 1, 0, false, 0, 0, [65]),
  ([112, 111, 112], 0, 88, 1, 0, false, 0, 0, [65]),
  ([99, 97, 108, 108], 0, 232, 11, 0, false, -2147483648, 2147483647, [106]),
  ([106, 109, 112], 0, 233, 11, 0, false, -2147483648, 2147483647, [106]),
  ([106, 109, 112, 46, 115], 0, 235, 12, 0, false, -128, 127, [106]),
  ([99, 97, 108, 108, 46, 114], 0, 255, 3, 2, false, 0, 0, [65]),
  ([106, 109, 112, 46, 114], 0, 255, 3, 4, false, 0, 0, [65]),
  ([106, 99, 99], 0, 3968, 11, 0, true, -2147483648, 2147483647, [99, 106]),
  ([106, 99, 99, 46, 115], 0, 112, 12, 0, true, -128, 127, [99, 106]),
  ([114, 101, 116], 0, 195, 0, 0, false, 0, 0, []),
  ([115, 121, 115, 99, 97, 108, 108], 0, 3845, 0, 0, false, 0, 0, []),
  ([110, 111, 112], 0, 144, 0, 0, false, 0, 0, []),
  ([117, 100, 50], 0, 3851, 0, 0, false, 0, 0, [])]
def mvH : List O := [.cells [.gro 1 rowE []] 110, .tok 0 9]
noncomputable def mvOf (x : Option St) : T × List O := match x with
  | some (.normal, t, H) => (t, H)
  | _ => ([], [])
@[irreducible] noncomputable def mv4 : T × List O := mvOf (dcode cx72 (headN 3 (bodyOf Tryz.f72)) [(0, .ptr 0 0)] mvH).run
theorem mv4_eq : (dcode cx72 (headN 3 (bodyOf Tryz.f72)) [(0, .ptr 0 0)] mvH).run = some (.normal, mv4.1, mv4.2) := by kernel_rfl
noncomputable def mvOps : Array Oper := regOps (c1 (tailN 3 (bodyOf Tryz.f72)))
@[irreducible] noncomputable def mv5 : T × List O := mvOf (((ordsF cx72 mvOps mvOps.size (Array.replicate mvOps.size false) mv4).map (fun l => l.map fun s => dropS mv4.2.length (ordK [3, 4] s.1) (.normal, s.1, s.2))).getD []).head?.join
set_option maxRecDepth 8000 in
theorem mv5_eq : (ordsF cx72 mvOps mvOps.size (Array.replicate mvOps.size false) (mv4.1, mv4.2)).map (fun l => l.map fun s => dropS mv4.2.length (ordK [3, 4] s.1) (.normal, s.1, s.2)) = some (List.replicate 30 (some (.normal, mv5.1, mv5.2))) := by kernel_rfl
@[irreducible] noncomputable def mvE : St := ((dcode cx72 (c2 (tailN 3 (bodyOf Tryz.f72))) mv5.1 mv5.2).run).getD (.normal, [], [])
theorem mvE_eq : (dcode cx72 (c2 (tailN 3 (bodyOf Tryz.f72))) mv5.1 mv5.2).run = some mvE := by kernel_rfl
theorem mvE_out : (dropS 2 [] mvE).map (fun s => (match s.1 with | .normal => true | _ => false, s.2.2)) = some (true, [.cells [.gro 1 rowE movesL] 110, .tok 12 9]) := by kernel_rfl
def movesS : MSpec := fun args H => match args, H with
  | [.ptr 0 0], [.cells [.gro 1 (.prod [.str, .int .i64, .int .u16, .int .i64, .int .u8, .bool, .int .i64, .int .i64, .str]) []] 110, .tok 0 9] => .leaf (.ok (.tup []) [.cells [.gro 1 rowE movesL] 110, .tok 12 9])
  | _, _ => .fail
theorem cxMoves_ok : CxOk cx72 := cx1_ok (.nil _) (.cons likeS_ok (.nil _)) rfl rfl
set_option maxHeartbeats 2000000 in
set_option maxRecDepth 8000 in
theorem movesS_ok : MSound Tryz.prog 72 movesS := by
  intro args H r h
  unfold movesS at h
  split at h
  rotate_left
  · cases h
  simp only [Tree.run, Option.some.injEq] at h
  subst h
  refine mcall_of' (c := bodyOf Tryz.f72) (fn := Tryz.f72) (by kernel_rfl) (by kernel_rfl) (by kernel_rfl) (by kernel_rfl) ?_
  refine AWP_scope ?_
  refine AWP_head (cx := cx72) rfl rfl cxMoves_ok 3 _ _ _ _ (by kernel_rfl) (Tree.run_all mv4_eq ?_)
  show AWP _ _ _ _ _ _
  have e : tailN 3 (bodyOf Tryz.f72) = .seq (.region 4 mvOps true) (c2 (tailN 3 (bodyOf Tryz.f72))) := by kernel_rfl
  rw [e]
  refine AWP_seq (AWP_ordersK (cx := cx72) [3, 4] 30 rfl rfl cxMoves_ok (by kernel_rfl) mv5_eq ?_)
  show AWP _ _ _ _ _ _
  refine AWP_run (cx := cx72) rfl rfl cxMoves_ok mvE_eq ?_
  obtain ⟨⟨ex, t, H⟩, h1, h2⟩ := Option.map_eq_some_iff.1 mvE_out
  simp only [Prod.mk.injEq] at h2
  obtain ⟨h2, rfl⟩ := h2
  refine ⟨[], _, h1, ?_⟩
  cases ex with
  | normal =>
    show MPost Tryz.prog Tryz.f72 (.ok (.tup []) [.cells [.gro 1 rowE movesL] 110, .tok 12 9]) .normal t [.cells [.gro 1 rowE movesL] 110, .tok 12 9]
    unfold MPost
    exact ⟨.inr rfl, rfl, by kernel_rfl⟩
  | exit _ => cases h2
  | ret => cases h2
  | panic _ => cases h2
noncomputable def sumsS : MSpec := fun args H => .req (Nat.ble args.length Tryz.f73.ntmps) (mfun cx73 Tryz.f73 args H)
theorem sumsS_ok : MSound Tryz.prog 73 sumsS := msound_fun (cx := cx73) (fn := Tryz.f73) (cx1_ok (.nil _) (.cons likeS_ok (.nil _)) rfl rfl) (by kernel_rfl) (by kernel_rfl)
noncomputable def jumpsS : MSpec := fun args H => .req (Nat.ble args.length Tryz.f74.ntmps) (mfun cx74 Tryz.f74 args H)
theorem jumpsS_ok : MSound Tryz.prog 74 jumpsS := msound_fun (cx := cx74) (fn := Tryz.f74) (cx1_ok (.nil _) (.cons likeS_ok (.nil _)) rfl rfl) (by kernel_rfl) (by kernel_rfl)
noncomputable def cx43 : Cx := { P := Tryz.prog, n := 7, tab := [], mtab := [(72, movesS), (73, sumsS), (74, jumpsS)], refs := [], keeps := [0, 1] }
def rowsS : Ab.Spec := fun args => match args with
  | [] => .leaf (.sl rowE rowsL [] .ro)
  | _ => .fail
theorem rows_run : (dfun cx43 Tryz.f43 []).run = some (.sl rowE rowsL [] .ro) := by kernel_rfl
theorem rowsL_len : rowsL.length = 58 := by kernel_rfl
theorem rowsS_ok : Sound Tryz.prog 43 rowsS := by
  intro args out h
  unfold rowsS at h
  split at h
  rotate_left
  · cases h
  simp only [Tree.run, Option.some.injEq] at h
  subst h
  exact pcall_fun' (cx := cx43) (fn := Tryz.f43) (cx1_ok (.nil _) (.cons movesS_ok (.cons sumsS_ok (.cons jumpsS_ok (.nil _)))) rfl rfl) (by kernel_rfl) (by kernel_rfl) (by kernel_rfl) rows_run
end Go.Amd

namespace Go.Amd
open Go Go.Ab Go.Proofs
def rowL (r : RowT) : List V := [.str r.1, .int .i64 r.2.1, .int .u16 r.2.2.1, .int .i64 r.2.2.2.1, .int .u8 r.2.2.2.2.1, .bool r.2.2.2.2.2.1, .int .i64 r.2.2.2.2.2.2.1, .int .i64 r.2.2.2.2.2.2.2.1, .str r.2.2.2.2.2.2.2.2]
noncomputable def cx34 : Cx := { P := Tryz.prog, n := 19, tab := [(43, rowsS)], mtab := [], refs := [], keeps := [0, 2, 3, 5, 6, 7, 8, 9, 15] }
noncomputable abbrev cxFind : Cx := cx34
def zeroR : RowT := ([], 0, 0, 0, 0, false, 0, 0, [])
abbrev rowAt (l : List RowT) (i : Nat) : RowT := l.getD i zeroR
def findRound (nm : List UInt8) (i : Int) (l : List RowT) : Tree St :=
  (.br (decide (i < (l.length : Nat))) (.br (inside i l.length) (.br (strEq (rowAt l i.toNat).1 nm)
    (.leaf (.ret, [(0, .str nm), (2, .ptr 0 0), (3, .bool true), (5, .ptr 1 0), (6, .sl rowE l [] .ro), (7, .int .i64 (l.length : Nat)), (8, .int .i64 i), (9, .bool true), (15, .bool true)], [.cells (rowL (rowAt l i.toNat)) 82, .cells (rowL (rowAt l i.toNat)) 82]))
    (.leaf (.normal, [(0, .str nm), (2, .ptr 0 0), (3, .bool false), (5, .ptr 1 0), (6, .sl rowE l [] .ro), (7, .int .i64 (l.length : Nat)), (8, .int .i64 (IntKind.wrap .i64 (i + 1))), (9, .bool true), (15, .bool false)], [.cells (rowL zeroR) 82, .cells (rowL (rowAt l i.toNat)) 82]))) .fail)
    (.leaf (.exit 0, [(0, .str nm), (2, .ptr 0 0), (3, .bool false), (6, .sl rowE l [] .ro), (7, .int .i64 (l.length : Nat)), (8, .int .i64 i), (9, .bool false)], [.cells (rowL zeroR) 82])))
theorem findRound_eq (nm : List UInt8) (i : Int) (l : List RowT) : (dcode cxFind (cin (cin (c2 (c1 (c2 (bodyOf Tryz.f34)))))) [(0, .str nm), (2, .ptr 0 0), (3, .bool false), (6, .sl rowE l [] .ro), (7, .int .i64 l.length), (8, .int .i64 i)] [.cells (rowL zeroR) 82]).run = (findRound nm i l).run :=
  (show (dcode cxFind (cin (cin (c2 (c1 (c2 (bodyOf Tryz.f34)))))) [(0, .str nm), (2, .ptr 0 0), (3, .bool false), (6, .sl rowE l [] .ro), (7, .int .i64 l.length), (8, .int .i64 i)] [.cells (rowL zeroR) 82]).run = (findRound nm i l).out by kernel_rfl).trans (Tree.out_run _)
theorem cxFind_ok : CxOk cxFind := cx1_ok (.cons rowsS_ok (.nil _)) (fun p h => by cases h) rfl rfl
def findL (nm : List UInt8) (l : List RowT) : Option RowT := l.find? fun r => strEq r.1 nm
def frow (nm : List UInt8) : RowT := (findL nm rowsL).getD zeroR
def fok (nm : List UInt8) : Bool := (findL nm rowsL).isSome
def findS : Ab.Spec := fun args => match args with
  | [.str nm] => .leaf (.tup [.agg (rowL (frow nm)), .bool (fok nm)])
  | _ => .fail
def findSt (nm : List UInt8) (i : { i : Nat // i ≤ rowsL.length ∧ findL nm (rowsL.take i) = none }) : T × List O :=
  ([(0, .str nm), (2, .ptr 0 0), (3, .bool false), (6, .sl rowE rowsL [] .ro), (7, .int .i64 rowsL.length), (8, .int .i64 i.1)], [.cells (rowL zeroR) 82])
theorem find_ok (nm : List UInt8) : PCall Tryz.prog 34 [.str nm] (.tup [.agg (rowL (frow nm)), .bool (fok nm)]) := by
  refine pcall_of' (c := bodyOf Tryz.f34) (fn := Tryz.f34) (by kernel_rfl) (by kernel_rfl) (by kernel_rfl) (by kernel_rfl) ?_
  have e : bodyOf Tryz.f34 = .seq (c1 (bodyOf Tryz.f34)) (.seq (.seq (c1 (c1 (c2 (bodyOf Tryz.f34)))) (.block 0 (.loop (cin (cin (c2 (c1 (c2 (bodyOf Tryz.f34))))))))) (c2 (c2 (bodyOf Tryz.f34)))) := by kernel_rfl
  rw [e]
  generalize hQ : (fun e t H => (e = AEx.ret ∨ e = .normal) ∧ answerV Tryz.prog Tryz.f34.results.toList H t = some (.tup [.agg (rowL (frow nm)), .bool (fok nm)])) = Q
  have hlen := rowsL_len
  refine AWP_seq (AWP_run (cx := cxFind) rfl rfl cxFind_ok (s := (.normal, [(0, .str nm), (2, .ptr 0 0), (3, .bool false)], [.cells (rowL zeroR) 82])) (by kernel_rfl) ?_)
  refine AWP_seq (AWP_seq (AWP_run (cx := cxFind) rfl rfl cxFind_ok (s := (.normal, [(0, .str nm), (2, .ptr 0 0), (3, .bool false), (6, .sl rowE rowsL [] .ro), (7, .int .i64 58), (8, .int .i64 0)], [.cells (rowL zeroR) 82])) (by kernel_rfl) ?_))
  refine AWP_block ?_
  refine AWP.less (s := (findSt nm ⟨0, Nat.zero_le _, rfl⟩).1) (Fits.tle ⟨rfl, rfl, rfl, rfl, by kernel_rfl, rfl, trivial⟩) ?_
  refine AWP_rounds (cx := cxFind) (P := Tryz.prog) (n := 19) rfl rfl cxFind_ok (findSt nm) (fun i => 58 - i.1) ?_ ⟨0, Nat.zero_le _, rfl⟩
  rintro ⟨i, hi, hnone⟩
  refine Tree.all_run_eq (findRound_eq nm i rowsL) ?_
  refine ⟨fun hlt => ⟨fun hin => ⟨fun hp => ?_, fun hp => ?_⟩, fun hin => ?_⟩, fun hge => ?_⟩
  · -- found
    have hlt : i < rowsL.length := Int.ofNat_lt.1 (of_decide_eq_true hlt)
    have hf : findL nm rowsL = some (rowsL.getD i zeroR) := take_some hlt hnone hp
    refine ⟨[], _, rfl, ?_⟩
    subst hQ
    refine ⟨.inl rfl, ?_⟩
    have h1 : frow nm = rowsL.getD i zeroR := by unfold frow; rw [hf]; rfl
    have h2 : fok nm = true := by unfold fok; rw [hf]; rfl
    show answerV _ _ _ _ = some _
    rw [h1, h2]
    kernel_rfl
  · have hlt : i < rowsL.length := Int.ofNat_lt.1 (of_decide_eq_true hlt)
    have hf : findL nm (rowsL.take (i + 1)) = none := take_none hlt hnone hp
    refine ⟨[], _, rfl, ⟨i + 1, hlt, hf⟩, by show 58 - (i + 1) < 58 - i; omega, Fits.tle ⟨rfl, rfl, rfl, rfl, rfl, ?_, trivial⟩, rfl⟩
    show V.int .i64 (IntKind.wrap .i64 ((i : Int) + 1)) = V.int .i64 ((i + 1 : Nat) : Int)
    rw [wrap_i64 (by omega) (by omega)]
    rfl
  · exfalso
    have hlt : i < rowsL.length := Int.ofNat_lt.1 (of_decide_eq_true hlt)
    exact Bool.noConfusion ((inside_of (Int.natCast_nonneg i) (Int.ofNat_lt.2 hlt)).symm.trans hin)
  · have hge : ¬ ((i : Int) < rowsL.length) := of_decide_eq_false hge
    have hi' : i = rowsL.length := by omega
    refine ⟨[], _, rfl, ?_⟩
    show AWP _ _ _ _ _ _
    refine AWP.less (s := [(0, .str nm), (2, .ptr 0 0), (3, .bool false)]) (Fits.tle ⟨rfl, rfl, rfl, trivial⟩) ?_
    refine AWP_run (cx := cxFind) rfl rfl cxFind_ok (s := (.ret, [(0, .str nm), (2, .ptr 0 0), (3, .bool false)], [.cells (rowL zeroR) 82])) (by kernel_rfl) ?_
    subst hQ
    refine ⟨.inl rfl, ?_⟩
    have hf : findL nm rowsL = none := by rw [← hnone, hi', List.take_length]
    have h1 : frow nm = zeroR := by unfold frow; rw [hf]; rfl
    have h2 : fok nm = false := by unfold fok; rw [hf]; rfl
    show answerV _ _ _ _ = some _
    rw [h1, h2]
    kernel_rfl
theorem findS_ok : Sound Tryz.prog 34 findS := by
  intro args out h
  unfold findS at h
  split at h
  rotate_left
  · cases h
  simp only [Tree.run, Option.some.injEq] at h
  subst h
  exact find_ok _
end Go.Amd

namespace Go.Amd
open Go Go.Ab Go.Proofs
theorem leaf_out {α : Type} {b o : α} (h : (Tree.leaf b).run = some o) : o = b := by simpa [Tree.run] using h.symm
theorem ok1 {P : Program} {f : Nat} {s : Ab.Spec} (h : Sound P f s) : TabOk P [(f, s)] := .cons h (.nil _)
abbrev InsT := List UInt8 × Int × Int × Int × Int × Int
def insL (i : InsT) : List V := [.str i.1, .int .i64 i.2.1, .int .i64 i.2.2.1, .int .i64 i.2.2.2.1, .int .i64 i.2.2.2.2.1, .int .i64 i.2.2.2.2.2]
noncomputable def cx45 : Cx := { P := Tryz.prog, n := 18, tab := [], mtab := [], refs := [], keeps := [0, 1, 4] }
noncomputable def cx47 : Cx := { P := Tryz.prog, n := 17, tab := [], mtab := [], refs := [], keeps := [0, 2] }
noncomputable def cx46 : Cx := { P := Tryz.prog, n := 67, tab := [], mtab := [], refs := [], keeps := [0, 1, 2, 3, 19] }
def regT (n : Int) (u : Bool) : Tree V :=
  (.br (n == 0) (.leaf (.bool true)) (.br u (.br (decide (0 < n)) (.leaf (.bool (decide (n ≤ 15)))) (.leaf (.bool false))) (.leaf (.bool false))))
theorem regT_eq (n : Int) (u : Bool) : (dfun cx45 Tryz.f45 [.int .i64 n, .bool u]).run = (regT n u).run :=
  (show (dfun cx45 Tryz.f45 [.int .i64 n, .bool u]).run = (regT n u).out by kernel_rfl).trans (Tree.out_run _)
def condT (n : Int) : Tree V :=
  (.br (decide (0 ≤ n)) (.br (decide (n ≤ 9)) (.leaf (.bool true)) (.br (decide (12 ≤ n)) (.leaf (.bool (decide (n ≤ 15)))) (.leaf (.bool false)))) (.br (decide (12 ≤ n)) (.leaf (.bool (decide (n ≤ 15)))) (.leaf (.bool false))))
theorem condT_eq (n : Int) : (dfun cx47 Tryz.f47 [.int .i64 n]).run = (condT n).run :=
  (show (dfun cx47 Tryz.f47 [.int .i64 n]).run = (condT n).out by kernel_rfl).trans (Tree.out_run _)
def regF (n : Int) (u : Bool) : Bool := cond (n == 0) true (cond u (cond (decide (0 < n)) (decide (n ≤ 15)) false) false)
def condF (n : Int) : Bool := cond (cond (decide (0 ≤ n)) (decide (n ≤ 9)) false) true (cond (decide (12 ≤ n)) (decide (n ≤ 15)) false)
def baseF (b : Int) : Bool := cond (cond (decide (0 ≤ b)) (decide (b ≤ 15)) false) true (b == 17)
def scaleF (d : Int) : Bool := cond (d == 1) true (cond (d == 2) true (cond (d == 4) true (d == 8)))
def placeF (b c d : Int) : Bool := cond (c == 16) (cond (baseF b) (d == 0) false) (cond (baseF b) (cond (b != 17) (cond (decide (0 ≤ c)) (cond (decide (c ≤ 15)) (cond (c != 4) (scaleF d) false) false) false) false) false)
def registerS : Ab.Spec := fun args => match args with
  | [.int .i64 n, .bool u] => .leaf (.bool (regF n u))
  | _ => .fail
theorem registerS_ok : Sound Tryz.prog 45 registerS := by
  intro args out h
  unfold registerS at h
  split at h
  rotate_left
  · cases h
  rename_i n u
  have h := leaf_out h
  subst h
  refine pcall_fun' (cx := cx45) (fn := Tryz.f45) (cx0_ok rfl rfl) (by kernel_rfl) (by kernel_rfl) (by kernel_rfl) ((regT_eq n u).trans ?_)
  unfold regT regF
  cases (n == 0)
  · cases u
    · rfl
    · cases decide (0 < n) <;> rfl
  · rfl
def conditionS : Ab.Spec := fun args => match args with
  | [.int .i64 n] => .leaf (.bool (condF n))
  | _ => .fail
theorem conditionS_ok : Sound Tryz.prog 47 conditionS := by
  intro args out h
  unfold conditionS at h
  split at h
  rotate_left
  · cases h
  rename_i n
  have h := leaf_out h
  subst h
  refine pcall_fun' (cx := cx47) (fn := Tryz.f47) (cx0_ok rfl rfl) (by kernel_rfl) (by kernel_rfl) (by kernel_rfl) ((condT_eq n).trans ?_)
  unfold condT condF
  cases decide (0 ≤ n) <;> cases decide (n ≤ 9) <;> cases decide (12 ≤ n) <;> rfl
def tB (b : Bool) : Tree V := .leaf (.bool b)
def placeD (d : Int) : Tree V := .br (d == 1) (tB true) (.br (d == 2) (tB true) (.br (d == 4) (tB true) (tB (d == 8))))
def placeC (x : Bool) (b c d : Int) : Tree V := .br (c == 16) (.br x (tB (d == 0)) (tB false))
  (.br x (.br (b != 17) (.br (decide (0 ≤ c)) (.br (decide (c ≤ 15)) (.br (c != 4) (placeD d) (tB false)) (tB false)) (tB false)) (tB false)) (tB false))
def placeT (b c d : Int) : Tree V := .br (decide (0 ≤ b)) (.br (decide (b ≤ 15)) (placeC true b c d) (placeC (b == 17) b c d)) (placeC (b == 17) b c d)
theorem placeT_eq (nm : List UInt8) (a b c d n : Int) : (dfun cx46 Tryz.f46 [.agg [.str nm, .int .i64 a, .int .i64 b, .int .i64 c, .int .i64 d, .int .i64 n]]).run = (placeT b c d).run :=
  (show (dfun cx46 Tryz.f46 [.agg [.str nm, .int .i64 a, .int .i64 b, .int .i64 c, .int .i64 d, .int .i64 n]]).run = (placeT b c d).out by kernel_rfl).trans (Tree.out_run _)
theorem placeC_run (x : Bool) (b c d : Int) : (placeC x b c d).run = some (.bool (cond (c == 16) (cond x (d == 0) false) (cond x (cond (b != 17) (cond (decide (0 ≤ c)) (cond (decide (c ≤ 15)) (cond (c != 4) (scaleF d) false) false) false) false) false))) := by
  unfold placeC placeD scaleF tB
  cases (c == 16)
  · cases x
    · rfl
    · cases (b != 17)
      · rfl
      · cases decide (0 ≤ c)
        · rfl
        · cases decide (c ≤ 15)
          · rfl
          · cases (c != 4)
            · rfl
            · cases (d == 1) <;> cases (d == 2) <;> cases (d == 4) <;> rfl
  · cases x <;> rfl
theorem placeT_run (b c d : Int) : (placeT b c d).run = some (.bool (placeF b c d)) := by
  unfold placeT placeF baseF
  cases decide (0 ≤ b)
  · exact placeC_run _ b c d
  · cases decide (b ≤ 15)
    · exact placeC_run _ b c d
    · exact placeC_run _ b c d
def placeS : Ab.Spec := fun args => match args with
  | [.agg [.str _, .int .i64 _, .int .i64 b, .int .i64 c, .int .i64 d, .int .i64 _]] => .leaf (.bool (placeF b c d))
  | _ => .fail
theorem placeS_ok : Sound Tryz.prog 46 placeS := by
  intro args out h
  unfold placeS at h
  split at h
  rotate_left
  · cases h
  rename_i nm a b c d n
  have h := leaf_out h
  subst h
  exact pcall_fun' (cx := cx46) (fn := Tryz.f46) (cx0_ok rfl rfl) (by kernel_rfl) (by kernel_rfl) (by kernel_rfl) ((placeT_eq nm a b c d n).trans (placeT_run b c d))
end Go.Amd

namespace Go.Amd
open Go Go.Ab Go.Proofs
noncomputable def cx44 : Cx := { P := Tryz.prog, n := 29, tab := [], mtab := [], refs := [], keeps := [0, 1, 2, 3, 4, 5, 7, 8, 11, 17, 20, 22] }
noncomputable def usesS : Ab.Spec := fun args => .req (Nat.ble args.length Tryz.f44.ntmps) (dfun cx44 Tryz.f44 args)
theorem usesS_ok : Sound Tryz.prog 44 usesS := sound_fun (cx := cx44) (fn := Tryz.f44) (cx0_ok rfl rfl) (by kernel_rfl) (by kernel_rfl)
noncomputable def cx35 : Cx := { P := Tryz.prog, n := 81, tab := [(44, usesS), (45, registerS), (46, placeS), (47, conditionS)], mtab := [], refs := [], keeps := [0, 1, 2, 3, 4, 5, 6, 7, 8, 9, 21, 53, 65] }
theorem cxFa_ok : CxOk cx35 := cx1_ok (.cons usesS_ok (.cons registerS_ok (.cons placeS_ok (ok1 conditionS_ok)))) (.nil _) rfl rfl
def formR (x : RowT) : Int := x.2.2.2.1
def condR (x : RowT) : Bool := x.2.2.2.2.2.1
def lowR (x : RowT) : Int := x.2.2.2.2.2.2.1
def highR (x : RowT) : Int := x.2.2.2.2.2.2.2.1
def uA (x : RowT) : Bool := !(formR x == 0 || formR x == 11 || formR x == 12)
def uB (x : RowT) : Bool := formR x == 7 || formR x == 8
def uM (x : RowT) : Bool := formR x == 9
def uI (x : RowT) : Bool := formR x == 2 || formR x == 4 || formR x == 5 || formR x == 6 || formR x == 9 || formR x == 10 || formR x == 11 || formR x == 12
def tE (n : Int) : Tree V := .leaf (.int .i64 n)
def tailH (x : RowT) (o : Bool) (n : Int) : Tree V :=
  .br (!o) (tE 13) (.br (uI x) (.br (decide (n < lowR x)) (tE 3) (.br (decide (highR x < n)) (tE 3) (tE 0))) (.br (n != 0) (tE 13) (tE 0)))
def faultyH (x : RowT) (a b c d n : Int) : Tree V :=
  .br (uM x) (.br (regF a (uA x)) (tailH x (placeF b c d) n) (tailH x false n))
    (.br (regF a (uA x)) (.br (regF b (uB x)) (.br (c == 0) (.br (d == 0) (tailH x true n) (.br (condR x) (tailH x (condF d) n) (tailH x false n))) (tailH x false n)) (tailH x false n)) (tailH x false n))
def forms : List Int := [0, 1, 2, 3, 4, 5, 6, 7, 8, 9, 10, 11, 12]
def formOk (x : RowT) : Bool := forms.contains (formR x)
theorem rows_forms : rowsL.all formOk = true := by kernel_rfl
theorem forms_of {β : Type} {f g : Int → β} (h : forms.map f = forms.map g) {x : RowT} (hx : formOk x = true) : f (formR x) = g (formR x) :=
  List.map_inj_left.1 h _ (by simpa [formOk] using hx)
theorem faulty_forms : forms.map (fun f nm rex op dg cn lo hi ops i a b c d n => (dfun cx35 Tryz.f35 [.agg (rowL (nm, rex, op, f, dg, cn, lo, hi, ops)), .agg [.str i, .int .i64 a, .int .i64 b, .int .i64 c, .int .i64 d, .int .i64 n]]).out) =
    forms.map (fun f nm rex op dg cn lo hi ops _ a b c d n => (faultyH (nm, rex, op, f, dg, cn, lo, hi, ops) a b c d n).out) := by kernel_rfl
end Go.Amd

namespace Go.Amd
open Go Go.Ab Go.Proofs
def tailF (x : RowT) (o : Bool) (n : Int) : Int := cond (!o) 13 (cond (uI x) (cond (decide (n < lowR x)) 3 (cond (decide (highR x < n)) 3 0)) (cond (n != 0) 13 0))
def okF (x : RowT) (a b c d : Int) : Bool :=
  cond (uM x) (cond (regF a (uA x)) (placeF b c d) false) (cond (regF a (uA x)) (cond (regF b (uB x)) (cond (c == 0) (cond (d == 0) true (cond (condR x) (condF d) false)) false) false) false)
def faultyF (x : RowT) (i : InsT) : Int := tailF x (okF x i.2.1 i.2.2.1 i.2.2.2.1 i.2.2.2.2.1) i.2.2.2.2.2
theorem tailH_run (x : RowT) (o : Bool) (n : Int) : (tailH x o n).run = some (.int .i64 (tailF x o n)) := by
  unfold tailH tailF tE
  cases o
  · rfl
  · cases (uI x)
    · cases (n != 0) <;> rfl
    · cases decide (n < lowR x)
      · cases decide (highR x < n) <;> rfl
      · rfl
theorem faultyH_run (x : RowT) (a b c d n : Int) : (faultyH x a b c d n).run = some (.int .i64 (tailF x (okF x a b c d) n)) := by
  unfold faultyH okF
  simp only [br_run, tailH_run]
  cases (uM x) <;> cases regF a (uA x) <;> cases regF b (uB x) <;> cases (c == 0) <;> cases (d == 0) <;> cases condR x <;> rfl
def faultyS : Ab.Spec := fun args => match args with
  | [.agg [.str nm, .int .i64 rex, .int .u16 op, .int .i64 f, .int .u8 dg, .bool cn, .int .i64 lo, .int .i64 hi, .str ops], .agg [.str i, .int .i64 a, .int .i64 b, .int .i64 c, .int .i64 d, .int .i64 n]] =>
    .req (formOk (nm, rex, op, f, dg, cn, lo, hi, ops)) (.leaf (.int .i64 (faultyF (nm, rex, op, f, dg, cn, lo, hi, ops) (i, a, b, c, d, n))))
  | _ => .fail
theorem faultyS_ok : Sound Tryz.prog 35 faultyS := by
  intro args out h
  unfold faultyS at h
  split at h
  rotate_left
  · cases h
  rename_i nm rex op f dg cn lo hi ops i a b c d n
  obtain ⟨h1, h⟩ := req_run h
  have h := leaf_out h
  subst h
  refine pcall_fun' (cx := cx35) (fn := Tryz.f35) cxFa_ok (by kernel_rfl) (by kernel_rfl) (by kernel_rfl) ?_
  have e := congrFun (congrFun (congrFun (congrFun (congrFun (congrFun (congrFun (congrFun (congrFun (congrFun (congrFun (congrFun (congrFun (congrFun (forms_of faulty_forms h1) nm) rex) op) dg) cn) lo) hi) ops) i) a) b) c) d) n
  exact (Tree.out_run _).symm.trans (e.trans ((Tree.out_run _).trans (faultyH_run (nm, rex, op, f, dg, cn, lo, hi, ops) a b c d n)))
end Go.Amd
