/-
  The engine, part X: objects that are done with are dropped. Conditions: none.
-/
import Derived.Test.YtffamklolgjjdaaAbW
namespace Go.Ab

def dropT (σ : List Nat) : T → T
  | [] => []
  | (d, v) :: r => (d, (V.ren? (fun i => place i σ) v).getD .any) :: dropT σ r

def dropE (σ : List Nat) : AEx → Option AEx
  | .panic v => (V.ren? (fun i => place i σ) v).map .panic
  | e => some e

/-- The state with no objects but the first n and the chosen ones, in this order. -/
def dropS (n : Nat) (κ : List Nat) : St → Option St
  | (e, t, H) =>
    let σ := List.range n ++ κ
    cond (noDup σ) (match pickO H σ with
    | some os => match rensO (fun i => place i σ) os, dropE σ e with
      | some Hs, some e => some (e, dropT σ t, Hs)
      | _, _ => none
    | none => none) none

section
variable {P : Program} {n : Nat} {Q : AEx → T → List O → Prop} {t : T} {H : List O} {β : List Loc} {w : World} {E : Nat → Nat → Prop}

theorem get_dropT (σ : List Nat) (d : Nat) : ∀ t : T, get d (dropT σ t) = (V.ren? (fun i => place i σ) (get d t)).getD .any
  | [] => rfl
  | (e, v) :: r => by
    simp only [dropT, get]
    cases Nat.beq d e
    · simpa using get_dropT σ d r
    · rfl

theorem sub_own {σ : List Nat} {os Hs : List O} (hR : Rel w (Xs E H β) H β) (hσ : noDup σ = true) (hp : pickO H σ = some os)
    (hr : rensO (fun i => place i σ) os = some Hs) : Rel w (Xs E Hs (pickL β σ)) Hs (pickL β σ) ∧ (∀ b o, Own Hs (pickL β σ) b o → Own H β b o) ∧ Turned (fun i => place i σ) β (pickL β σ) := by
  -- as if nothing were closed
  have hR0 : Rel w (Xs (fun _ _ => False) H β) H β := by
    have hX : ∀ b o, Xs (fun _ _ => False) H β b o → Xs E H β b o := fun b o h => by rcases h with h | h; exact h.elim; exact .inr h
    refine ⟨hR.len, fun id cs e loc h1 h2 => ?_, hR.tok, hR.disj⟩
    obtain ⟨a1, c, e', a2, a3, a4, a5⟩ := hR.cells id cs e loc h1 h2
    exact ⟨a1, c, e', a2, a3, a4, fun k v hv => let ⟨x, hx, hr⟩ := a5 k v hv; ⟨x, hx, hr.weak hX⟩⟩
  obtain ⟨hi, hturn⟩ := into (fun b o h => h.elim) hR0 hσ hp hr
  refine ⟨?_, hi.sub, hturn⟩
  have hX : ∀ b o, Xs E Hs (pickL β σ) b o → Xs E H β b o := fun b o h => by rcases h with h | h; exact .inl h; exact .inr (hi.sub b o h)
  obtain ⟨p1, p2⟩ := pickO_get hp
  obtain ⟨r1, r2⟩ := rensO_get hr
  refine ⟨hi.rel.len, fun k cs e loc h1 h2 => ?_, hi.rel.tok, hi.rel.disj⟩
  obtain ⟨a1, c, e', a2, a3, a4, _⟩ := hi.rel.cells k cs e loc h1 h2
  refine ⟨a1, c, e', a2, a3, a4, fun m v hv => ?_⟩
  -- the contents, anew, with what is closed
  obtain ⟨u, hu, hu'⟩ := r2 k _ h1
  have hk : k < σ.length := by rw [← p1]; exact (List.getElem?_eq_some_iff.1 hu).1
  obtain ⟨g1, g2, _⟩ := hi.get k σ[k] (by simp [hk])
  obtain ⟨cs', rfl, hren⟩ := oren_cells hu'
  obtain ⟨q1, q2⟩ := rens_get hren
  obtain ⟨v', hv', hvr⟩ := q2 m v hv
  have hH : H[σ[k]]? = some (.cells cs' e) := by rw [← (p2 k σ[k] (by simp [hk])).2, hu]
  obtain ⟨_, c2, e2, b2, _, _, b5⟩ := hR.cells σ[k] cs' e loc hH (by rw [← g2, h2])
  rw [a2] at b2
  simp only [Option.some.injEq, Obj.cells.injEq, and_true] at b2
  obtain ⟨rfl, rfl⟩ := b2
  obtain ⟨x, hx, hr⟩ := b5 m v' hv'
  exact ⟨x, hx, (ren_R hturn hr v hvr).weak hX⟩

theorem Good.drop {E H0 β0 w0 D a} {σ : List Nat} {os Hs : List O} (hg : Good E H0 β0 w0 n D t H β a w) (hσ : noDup σ = true) (hp : pickO H σ = some os)
    (hr : rensO (fun i => place i σ) os = some Hs) (h0 : ∀ i, i < β0.length → σ[i]? = some i) :
    Good E H0 β0 w0 n D (dropT σ t) Hs (pickL β σ) a w ∧ ∀ v v' x, R w (Xs E H β) β v x → V.ren? (fun i => place i σ) v = some v' → R w (Xs E Hs (pickL β σ)) (pickL β σ) v' x := by
  obtain ⟨s1, s2, s3⟩ := sub_own hg.step.rel hσ hp hr
  have hX : ∀ b o, Xs E Hs (pickL β σ) b o → Xs E H β b o := fun b o h => by rcases h with h | h; exact .inl h; exact .inr (s2 b o h)
  have hv : ∀ v v' x, R w (Xs E H β) β v x → V.ren? (fun i => place i σ) v = some v' → R w (Xs E Hs (pickL β σ)) (pickL β σ) v' x := fun v v' x h1 h2 => (ren_R s3 h1 v' h2).weak hX
  have hlt : ∀ i ∈ σ, i < β.length := fun i hi => by
    obtain ⟨k, hk⟩ := List.getElem?_of_mem hi
    rw [← hg.step.rel.len]; exact ((pickO_get hp).2 k i hk).1
  refine ⟨⟨⟨s1, hg.step.os, hg.step.tape, hg.step.output, hg.step.size, hg.step.pres, fun b o h => hg.step.own b o (s2 b o h), ?_⟩, ⟨hg.fr.size, fun d => ?_⟩, hg.defers⟩, hv⟩
  · intro i loc h
    obtain ⟨loc', g1, g2⟩ := hg.step.locs i loc h
    refine ⟨loc', ?_, g2⟩
    rw [(pickL_get hlt).2 i i (h0 i (List.getElem?_eq_some_iff.1 h).1), g1]
  · rw [get_dropT]
    cases hc : V.ren? (fun i => place i σ) (get d t) with
    | none => exact .any _ _
    | some v => exact hv _ v _ (hg.fr.slot d) hc

theorem LocLe.len {a b : List Loc} (h : LocLe a b) : a.length ≤ b.length := by
  rcases Nat.lt_or_ge b.length a.length with hl | hl
  · obtain ⟨l, e, _⟩ := h b.length a[b.length] (by simp [hl])
    simp at e
  · exact hl

/-- Behind some code, objects that it made are dropped. -/
theorem AWP_scope {c : Code} (h : AWP P n c (fun e t' H' => ∃ κ s, dropS H.length κ (e, t', H') = some s ∧ Q s.1 s.2.1 s.2.2) t H) : AWP P n c Q t H := by
  intro E H0 β0 w0 D β a w hs hg
  have hlen : β0.length ≤ H.length := by rw [hg.step.rel.len]; exact hg.step.locs.len
  refine wp_mono (h E H0 β0 w0 D β a w hs hg) ?_
  intro e a' w' hp
  have fin : ∀ ex t' H' β', (∃ κ s, dropS H.length κ (ex, t', H') = some s ∧ Q s.1 s.2.1 s.2.2) → Good E H0 β0 w0 n D t' H' β' a' w' →
      ∃ ex' t2 H2 β2 σ, dropE σ ex = some ex' ∧ Q ex' t2 H2 ∧ Good E H0 β0 w0 n D t2 H2 β2 a' w' ∧ ∀ v v' x, R w' (Xs E H' β') β' v x → V.ren? (fun i => place i σ) v = some v' → R w' (Xs E H2 β2) β2 v' x := by
    rintro ex t' H' β' ⟨κ, s, h1, h2⟩ hg'
    unfold dropS at h1
    simp only at h1
    cases hd : noDup (List.range H.length ++ κ)
    · simp [hd] at h1
    simp only [hd, cond_true] at h1
    split at h1
    rotate_left
    · cases h1
    rename_i os hos
    split at h1
    rotate_left
    · cases h1
    rename_i Hs ex' e1 e2
    simp only [Option.some.injEq] at h1
    subst h1
    obtain ⟨g1, g2⟩ := hg'.drop hd hos e1 (fun i hi => by
      have hi' : i < (List.range H.length).length := by rw [List.length_range]; omega
      rw [List.getElem?_append_left hi', List.getElem?_eq_getElem hi', List.getElem_range])
    exact ⟨ex', _, _, _, _, e2, h2, g1, g2⟩
  cases e with
  | normal =>
    obtain ⟨t', H', β', h1, h2⟩ := hp
    obtain ⟨ex', t2, H2, β2, σ, g1, g2, g3, _⟩ := fin _ _ _ _ h1 h2
    cases g1
    exact ⟨t2, H2, β2, g2, g3⟩
  | exit id =>
    obtain ⟨t', H', β', h1, h2⟩ := hp
    obtain ⟨ex', t2, H2, β2, σ, g1, g2, g3, _⟩ := fin _ _ _ _ h1 h2
    cases g1
    exact ⟨t2, H2, β2, g2, g3⟩
  | ret =>
    obtain ⟨t', H', β', h1, h2⟩ := hp
    obtain ⟨ex', t2, H2, β2, σ, g1, g2, g3, _⟩ := fin _ _ _ _ h1 h2
    cases g1
    exact ⟨t2, H2, β2, g2, g3⟩
  | panic ch =>
    obtain ⟨t', H', β', v, x, h1, h2, h3, h4⟩ := hp
    obtain ⟨ex', t2, H2, β2, σ, g1, g2, g3, g4⟩ := fin _ _ _ _ h1 h2
    simp only [dropE] at g1
    obtain ⟨v', hv', rfl⟩ := Option.map_eq_some_iff.1 g1
    exact ⟨t2, H2, β2, v', x, g2, g3, g4 v v' x h3 hv', h4⟩
  | goto l => exact hp.elim
  | outgrown => exact hp.elim

theorem Tree.all_mono {γ : Type} {Q Q' : γ → Prop} {x : Tree γ} (h : x.all Q) (hq : ∀ s, Q s → Q' s) : x.all Q' := by
  induction x with
  | leaf b => exact hq b h
  | fail => exact h.elim
  | br c x y ihx ihy => exact ⟨fun hc => ihx (h.1 hc), fun hc => ihy (h.2 hc)⟩

/-- One round of a loop without loops in it: what it comes to, objects dropped. -/
def Round {α : Type} (st : α → T × List O) (μ : α → Nat) (Q : AEx → T → List O → Prop) (i : α) (s : St) : Prop :=
  ∃ κ s', dropS (st i).2.length κ s = some s' ∧ (match s'.1 with | .normal => ∃ j, μ j < μ i ∧ TLe s'.2.1 (st j).1 ∧ s'.2.2 = (st j).2 | e => Q e s'.2.1 s'.2.2)

theorem AWP_rounds {cx : Cx} {α : Type} (hP : cx.P = P) (hn : cx.n = n) (hT : CxOk cx) (st : α → T × List O) (μ : α → Nat) {body : Code}
    (h : ∀ i, (dcode cx body (st i).1 (st i).2).all (Round st μ Q i)) (i : α) : AWP P n (.loop body) Q (st i).1 (st i).2 := by
  refine AWP_loop st μ (fun i => ?_) i
  refine AWP_scope (AWP_code hP hn hT body _ _ _ ?_)
  refine Tree.all_mono (h i) ?_
  rintro s ⟨κ, s', h1, h2⟩
  exact ⟨κ, s', h1, h2⟩

end
end Go.Ab
namespace Go.Ab
/-! Parts of a body. -/
def c1 : Code → Code
  | .seq a _ => a
  | c => c
def c2 : Code → Code
  | .seq _ b => b
  | c => c
def cin : Code → Code
  | .block _ c => c
  | .loop c => c
  | c => c
def bodyOf (fn : Func) : Code := fn.body.getD .skip
end Go.Ab
