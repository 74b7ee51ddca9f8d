/-
  The engine, part Oa: calls that write to what they are handed; objects numbered anew. Conditions: none.
-/
import Derived.Test.YtffamklolgjjdaaAbO
namespace Go.Ab

def Normal (P : Program) (f : Nat) : Prop := ∃ fn, P.funcs[f]? = some fn ∧ fn.name ≠ "runtime.NumGoroutine" ∧ fn.body.isSome = true

/-- A call that only reads what it is handed, and makes what is new. -/
def PCall (P : Program) (f : Nat) (args : List V) (out : V) : Prop :=
  Normal P f ∧ ∀ (w : World) (E : Nat → Nat → Prop) (rargs : List Value), (∀ b o, E b o → b < w.heap.size) → rargs.length = args.length →
    (∀ (k : Nat) (v : V) (x : Value), args[k]? = some v → rargs[k]? = some x → R w E [] v x) →
    Calls P f rargs.toArray w fun e w' => ∃ y, e = .returned y ∧ Step E [] [] w [] [] w' ∧ R w' E [] out y

/-- How a call comes out. -/
def Outcome (E : Nat → Nat → Prop) (H : List O) (β : List Loc) (w : World) (r : Res) (e : Ending) (w' : World) : Prop :=
  match r with
  | .ok v H' => ∃ y β', e = .returned y ∧ Step E H β w H' β' w' ∧ R w' (Xs E H' β') β' v y
  | .pan v H' => ∃ y β', e = .panicked [{ v := y, recovered := false }] ∧ Step E H β w H' β' w' ∧ R w' (Xs E H' β') β' v y

/-- A call that may write to what it is handed. -/
def MCall (P : Program) (f : Nat) (args : List V) (H : List O) (r : Res) : Prop :=
  Normal P f ∧ ∀ (w : World) (E : Nat → Nat → Prop) (β : List Loc) (rargs : List Value), (∀ b o, E b o → b < w.heap.size ∧ ¬ Own H β b o) → Rel w (Xs E H β) H β →
    rargs.length = args.length → (∀ (k : Nat) (v : V) (x : Value), args[k]? = some v → rargs[k]? = some x → R w (Xs E H β) β v x) →
    Calls P f rargs.toArray w (Outcome E H β w r)

def MSound (P : Program) (f : Nat) (s : MSpec) : Prop := ∀ args H r, (s args H).run = some r → MCall P f args H r

def MTabOk (P : Program) (tab : List (Nat × MSpec)) : Prop := ∀ p ∈ tab, MSound P p.1 p.2

theorem MTabOk.nil (P : Program) : MTabOk P [] := fun p h => by cases h
theorem MTabOk.cons {P : Program} {f : Nat} {s : MSpec} {tab : List (Nat × MSpec)} (h : MSound P f s) (ht : MTabOk P tab) : MTabOk P ((f, s) :: tab) := by
  intro p hp
  rcases List.mem_cons.1 hp with rfl | hp
  · exact h
  · exact ht p hp

theorem lookM_spec {f : Nat} {args : List V} {H : List O} {r : Res} : ∀ {tab : List (Nat × MSpec)}, (lookM f tab args H).run = some r → ∃ s, (f, s) ∈ tab ∧ (s args H).run = some r
  | [], h => by cases h
  | (g, s) :: r, h => by
    unfold lookM at h
    cases hb : Nat.beq f g
    · simp only [hb, cond_false] at h
      obtain ⟨s', h1, h2⟩ := lookM_spec h
      exact ⟨s', List.mem_cons_of_mem _ h1, h2⟩
    · simp only [hb, cond_true] at h
      have := Nat.eq_of_beq_eq_true hb
      subst this
      exact ⟨s, List.mem_cons_self, h⟩

/-! Objects numbered anew. -/

theorem rens_get {ρ : Nat → Option Nat} : ∀ {cs ds : List V}, V.rens? ρ cs = some ds → ds.length = cs.length ∧ ∀ (k : Nat) v, ds[k]? = some v → ∃ u, cs[k]? = some u ∧ V.ren? ρ u = some v
  | [], ds, h => by
    simp only [V.rens?, Option.some.injEq] at h
    subst h
    exact ⟨rfl, by simp⟩
  | c :: cs, ds, h => by
    unfold V.rens? at h
    split at h
    rotate_left
    · cases h
    rename_i u us h1 h2
    simp only [Option.some.injEq] at h
    subst h
    obtain ⟨g1, g2⟩ := rens_get h2
    refine ⟨by simp [g1], fun k v hv => ?_⟩
    cases k with
    | zero => simp only [List.getElem?_cons_zero, Option.some.injEq] at hv; subst hv; exact ⟨c, rfl, h1⟩
    | succ k => exact g2 k v (by simpa using hv)

theorem rensO_get {ρ : Nat → Option Nat} : ∀ {cs ds : List O}, rensO ρ cs = some ds → ds.length = cs.length ∧ ∀ (k : Nat) v, ds[k]? = some v → ∃ u, cs[k]? = some u ∧ O.ren? ρ u = some v
  | [], ds, h => by
    simp only [rensO, Option.some.injEq] at h
    subst h
    exact ⟨rfl, by simp⟩
  | c :: cs, ds, h => by
    unfold rensO at h
    split at h
    rotate_left
    · cases h
    rename_i u us h1 h2
    simp only [Option.some.injEq] at h
    subst h
    obtain ⟨g1, g2⟩ := rensO_get h2
    refine ⟨by simp [g1], fun k v hv => ?_⟩
    cases k with
    | zero => simp only [List.getElem?_cons_zero, Option.some.injEq] at hv; subst hv; exact ⟨c, rfl, h1⟩
    | succ k => exact g2 k v (by simpa using hv)

/-- What lies at a number lies, numbered anew, at the other. -/
def Turned (ρ : Nat → Option Nat) (β β' : List Loc) : Prop := ∀ i j loc, ρ i = some j → β[i]? = some loc → β'[j]? = some loc

theorem ren_R {w : World} {X : Nat → Nat → Prop} {ρ : Nat → Option Nat} {β β' : List Loc} (hρ : Turned ρ β β') {v : V} {x : Value} (h : R w X β v x) :
    ∀ v', V.ren? ρ v = some v' → R w X β' v' x := by
  induction h generalizing β' with
  | int => intro v' h; simp only [V.ren?, Option.some.injEq] at h; subst h; exact .int β' _ _
  | bool => intro v' h; simp only [V.ren?, Option.some.injEq] at h; subst h; exact .bool β' _
  | str => intro v' h; simp only [V.ren?, Option.some.injEq] at h; subst h; exact .str β' _
  | val => intro v' h; simp only [V.ren?, Option.some.injEq] at h; subst h; exact .val β' _
  | any => intro v' h; simp only [V.ren?, Option.some.injEq] at h; subst h; exact .any β' _
  | pin β cells b o f hc hr ih => intro v' h; simp only [V.ren?, Option.some.injEq] at h; subst h; exact .pin β' cells b o f hc hr
  | sl β c l spare fl b o cap f hcap hfull hrw hc hr ih =>
    intro v' h; simp only [V.ren?, Option.some.injEq] at h; subst h; exact .sl β' c l spare fl b o cap f hcap hfull hrw hc hr
  | nil β c => intro v' h; simp only [V.ren?, Option.some.injEq] at h; subst h; exact .nil β' c
  | gro β id c l b o cap loc f hid hk hn hl hcap hc hr ih =>
    intro v' h
    unfold V.ren? at h
    split at h
    rotate_left
    · cases h
    rename_i j hj
    simp only [Option.some.injEq] at h
    subst h
    exact .gro β' j c l b o cap loc f (hρ _ _ _ hj hid) hk hn hl hcap hc hr
  | ptr β id off loc hid hk =>
    intro v' h
    unfold V.ren? at h
    split at h
    rotate_left
    · cases h
    rename_i j hj
    simp only [Option.some.injEq] at h
    subst h
    exact .ptr β' j off loc (hρ _ _ _ hj hid) hk
  | ref β id sz off len loc b o cap hid hk hlen ha hcap =>
    intro v' h
    unfold V.ren? at h
    split at h
    rotate_left
    · cases h
    rename_i j hj
    simp only [Option.some.injEq] at h
    subst h
    exact .ref β' j sz off len loc b o cap (hρ _ _ _ hj hid) hk hlen ha hcap
  | agg β cells xs hl h ih =>
    intro v' h
    unfold V.ren? at h
    split at h
    rotate_left
    · cases h
    rename_i cs hcs
    simp only [Option.some.injEq] at h
    subst h
    obtain ⟨g1, g2⟩ := rens_get hcs
    refine .agg β' cs xs (by omega) (fun k v x hv hx => ?_)
    obtain ⟨u, hu, hu'⟩ := g2 k v hv
    exact ih k u x hu hx hρ v hu'
  | tup β cells xs hl h ih =>
    intro v' h
    unfold V.ren? at h
    split at h
    rotate_left
    · cases h
    rename_i cs hcs
    simp only [Option.some.injEq] at h
    subst h
    obtain ⟨g1, g2⟩ := rens_get hcs
    refine .tup β' cs xs (by omega) (fun k v x hv hx => ?_)
    obtain ⟨u, hu, hu'⟩ := g2 k v hv
    exact ih k u x hu hx hρ v hu'
  | ifc β t v x h ih =>
    intro v' h
    unfold V.ren? at h
    split at h
    rotate_left
    · cases h
    rename_i u hu
    simp only [Option.some.injEq] at h
    subst h
    exact .ifc β' t u x (ih hρ u hu)
  | clo β fn as bs xs ys hl hm h h' ih ih' =>
    intro v' h
    unfold V.ren? at h
    split at h
    rotate_left
    · cases h
    rename_i cs ds hcs hds
    simp only [Option.some.injEq] at h
    subst h
    obtain ⟨g1, g2⟩ := rens_get hcs
    obtain ⟨g3, g4⟩ := rens_get hds
    refine .clo β' fn cs ds xs ys (by omega) (by omega) (fun k v x hv hx => ?_) (fun k v x hv hx => ?_)
    · obtain ⟨u, hu, hu'⟩ := g2 k v hv
      exact ih k u x hu hx hρ v hu'
    · obtain ⟨u, hu, hu'⟩ := g4 k v hv
      exact ih' k u x hu hx hρ v hu'

theorem R.weak {w : World} {X X' : Nat → Nat → Prop} {β : List Loc} {v : V} {x : Value} (h : R w X β v x) (hX : ∀ b o, X' b o → X b o) : R w X' β v x :=
  h.stab ⟨fun b o _ h1 h2 => ⟨fun h => h1 (hX b o h), h2⟩, fun _ cs e h => ⟨cs, e, h⟩⟩ β (.refl _)

/-! The numbers. -/

theorem hasN_iff {i : Nat} : ∀ {l : List Nat}, hasN i l = true ↔ i ∈ l
  | [] => by simp [hasN]
  | j :: l => by
    unfold hasN
    cases hb : Nat.beq i j
    · have : i ≠ j := fun e => by subst e; simp at hb
      simp [hasN_iff, this]
    · have := Nat.eq_of_beq_eq_true hb
      simp [this]

theorem place_some {i k : Nat} : ∀ {σ : List Nat}, place i σ = some k → σ[k]? = some i
  | [], h => by cases h
  | j :: σ, h => by
    unfold place at h
    cases hb : Nat.beq i j
    · simp only [hb, cond_false] at h
      split at h
      rotate_left
      · cases h
      rename_i m hm
      simp only [Option.some.injEq] at h
      subst h
      simpa using place_some hm
    · simp only [hb, cond_true, Option.some.injEq] at h
      subst h
      simp [Nat.eq_of_beq_eq_true hb]

theorem noDup_cons {i : Nat} {σ : List Nat} (h : noDup (i :: σ) = true) : i ∉ σ ∧ noDup σ = true := by
  unfold noDup at h
  cases hb : hasN i σ
  · simp only [hb, cond_false] at h
    exact ⟨fun hm => (by rw [hasN_iff.2 hm] at hb; cases hb), h⟩
  · simp [hb] at h

theorem noDup_inj : ∀ {σ : List Nat} {i j k : Nat}, noDup σ = true → σ[i]? = some k → σ[j]? = some k → i = j
  | [], i, j, k, _, h, _ => by simp at h
  | s :: σ, i, j, k, hd, hi, hj => by
    obtain ⟨h1, h2⟩ := noDup_cons hd
    cases i with
    | zero =>
      cases j with
      | zero => rfl
      | succ j =>
        simp only [List.getElem?_cons_zero, Option.some.injEq, List.getElem?_cons_succ] at hi hj
        subst hi
        exact absurd (List.mem_of_getElem? hj) h1
    | succ i =>
      cases j with
      | zero =>
        simp only [List.getElem?_cons_zero, Option.some.injEq, List.getElem?_cons_succ] at hi hj
        subst hj
        exact absurd (List.mem_of_getElem? hi) h1
      | succ j =>
        simp only [List.getElem?_cons_succ] at hi hj
        rw [noDup_inj h2 hi hj]

theorem setAll_len {α : Type} : ∀ (H : List α) (σ : List Nat) (os : List α), σ.length ≤ os.length → (setAll H σ os).length = H.length + (os.length - σ.length)
  | H, [], os, _ => by cases os <;> simp [setAll]
  | H, s :: σ, [], h => by simp at h
  | H, s :: σ, o :: os, h => by
    simp only [setAll]
    rw [setAll_len _ σ os (by simpa using h)]
    simp

theorem setAll_old {α : Type} : ∀ (H : List α) (σ : List Nat) (os : List α) (i : Nat), i < H.length → i ∉ σ → σ.length ≤ os.length → (setAll H σ os)[i]? = H[i]?
  | H, [], os, i, hi, _, _ => by cases os <;> simp [setAll, List.getElem?_append_left, hi]
  | H, s :: σ, [], i, _, _, h => by simp at h
  | H, s :: σ, o :: os, i, hi, hn, h => by
    simp only [setAll]
    rw [setAll_old _ σ os i (by simpa using hi) (fun h => hn (List.mem_cons_of_mem _ h)) (by simpa using h)]
    have : s ≠ i := fun e => hn (by simp [e])
    simp [this]

theorem backTo_succ (s : Nat) (σ : List Nat) (n k : Nat) : backTo (s :: σ) n (k + 1) = backTo σ n k := by
  simp [backTo, Nat.succ_sub_succ]

theorem setAll_new {α : Type} : ∀ (H : List α) (σ : List Nat) (os : List α) (i j : Nat), noDup σ = true → (∀ s ∈ σ, s < H.length) → σ.length ≤ os.length → backTo σ H.length j = some i → (setAll H σ os)[i]? = os[j]?
  | H, [], os, i, j, _, _, _, h => by
    simp only [backTo, List.getElem?_nil, List.length_nil, Nat.sub_zero, Option.some.injEq] at h
    subst h
    have : setAll H [] os = H ++ os := by cases os <;> rfl
    rw [this, List.getElem?_append_right (by omega)]
    simp
  | H, s :: σ, [], _, _, _, _, h, _ => by simp at h
  | H, s :: σ, o :: os, i, j, hd, hs, hl, h => by
    obtain ⟨h1, h2⟩ := noDup_cons hd
    simp only [setAll]
    cases j with
    | zero =>
      simp only [backTo, List.getElem?_cons_zero, Option.some.injEq] at h
      subst h
      rw [setAll_old _ σ os s (by simpa using hs s (by simp)) h1 (by simpa using hl)]
      simp [hs s (by simp)]
    | succ j =>
      rw [backTo_succ] at h
      rw [setAll_new (H.set s o) σ os i j h2 (fun s' h' => by simpa using hs s' (by simp [h'])) (by simpa using hl) (by simpa using h)]
      simp

theorem backTo_all {σ : List Nat} {n i : Nat} (h : ¬ (i < n ∧ i ∉ σ)) : ∃ j, backTo σ n j = some i := by
  by_cases hi : i ∈ σ
  · obtain ⟨j, hj, he⟩ := List.getElem_of_mem hi
    exact ⟨j, by simp [backTo, hj, he]⟩
  · refine ⟨σ.length + (i - n), ?_⟩
    have : n ≤ i := by
      rcases Nat.lt_or_ge i n with h' | h'
      · exact absurd ⟨h', hi⟩ h
      · exact h'
    simp only [backTo]
    rw [List.getElem?_eq_none (by omega)]
    simp
    omega

theorem pickO_get {H : List O} : ∀ {σ : List Nat} {os : List O}, pickO H σ = some os → os.length = σ.length ∧ ∀ (k i : Nat), σ[k]? = some i → i < H.length ∧ os[k]? = H[i]?
  | [], os, h => by
    simp only [pickO, Option.some.injEq] at h
    subst h
    exact ⟨rfl, by simp⟩
  | s :: σ, os, h => by
    unfold pickO at h
    split at h
    rotate_left
    · cases h
    rename_i o os' h1 h2
    simp only [Option.some.injEq] at h
    subst h
    obtain ⟨g1, g2⟩ := pickO_get h2
    refine ⟨by simp [g1], fun k i hk => ?_⟩
    cases k with
    | zero =>
      simp only [List.getElem?_cons_zero, Option.some.injEq] at hk
      subst hk
      exact ⟨(List.getElem?_eq_some_iff.1 h1).1, by simp [h1]⟩
    | succ k => simpa using g2 k i (by simpa using hk)

end Go.Ab
