/-
  The engine, part S: a function's contract out of its body. Conditions: none.
-/
import Derived.Test.YtffamklolgjjdaaAbR
namespace Go.Ab
section
variable {P : Program} {E : Nat → Nat → Prop} {H : List O} {β : List Loc} {w : World} {X : Nat → Nat → Prop}

def resOne (tmps : Array Value) : ResultVar → Sem Value
  | .tmp t => pure (tmps.getD t undef)
  | .cell a t => do loadVar t (← asAddr (tmps.getD a undef))

theorem results_eq (fn : Func) (tmps : Array Value) : results fn tmps = (do let vs ← fn.results.mapM (resOne tmps); pure (if h : vs.size = 1 then vs[0] else .tuple vs)) := by
  unfold results
  have : (fun r : ResultVar => (match r with | .tmp t => pure (tmps.getD t undef) | .cell a t => do loadVar t (← asAddr (tmps.getD a undef)) : Sem Value)) = resOne tmps := by
    funext r; cases r <;> rfl
  rw [← this]
  rfl

theorem resV_R {n : Nat} {t : T} {a : Act} (hR : Rel w X H β) (hF : FR w X β n t a) : ∀ (rs : List ResultVar) (vs : List V), resV P H t rs = some vs →
    ∃ ys : List Value, (rs.mapM (resOne a.tmps)).run P w = .ok ys w ∧
      ys.length = vs.length ∧ ∀ (k : Nat) v x, vs[k]? = some v → ys[k]? = some x → R w X β v x
  | [], vs, h => by
    simp only [resV, Option.some.injEq] at h
    subst h
    exact ⟨[], by simp, rfl, by simp⟩
  | .tmp i :: rs, vs, h => by
    simp only [resV] at h
    obtain ⟨us, hu, rfl⟩ := Option.map_eq_some_iff.1 h
    obtain ⟨ys, h1, h2, h3⟩ := resV_R hR hF rs us hu
    refine ⟨a.tmps.getD i undef :: ys, by simp [List.mapM_cons, resOne, h1], by simp [h2], ?_⟩
    intro k v x hv hx
    cases k with
    | zero => simp only [List.getElem?_cons_zero, Option.some.injEq] at hv hx; subst hv; subst hx; exact hF.slot i
    | succ k => exact h3 k v x (by simpa using hv) (by simpa using hx)
  | .cell b ty :: rs, vs, h => by
    unfold resV at h
    split at h
    rotate_left
    · cases h
    rename_i u us hl hu
    simp only [Option.some.injEq] at h
    subst h
    obtain ⟨ys, h1, h2, h3⟩ := resV_R hR hF rs us hu
    obtain ⟨bl, o, z, hz, hrun, hr⟩ := sound_loadVar (P := P) hR (hF.slot b) hl
    refine ⟨z :: ys, ?_, by simp [h2], ?_⟩
    · simp only [List.mapM_cons, resOne, Sem.run_bind, hz, asAddr, Sem.run_pure, Result.andThen_ok, hrun, h1]
    · intro k v x hv hx
      cases k with
      | zero => simp only [List.getElem?_cons_zero, Option.some.injEq] at hv hx; subst hv; subst hx; exact hr
      | succ k => exact h3 k v x (by simpa using hv) (by simpa using hx)

theorem answer_R {n : Nat} {t : T} {a : Act} {fn : Func} {out : V} (hR : Rel w X H β) (hF : FR w X β n t a) (h : answerV P fn.results.toList H t = some out) :
    ∃ y, (results fn a.tmps).run P w = .ok y w ∧ R w X [] out y := by
  unfold answerV at h
  have key : ∀ ds, (resV P H t fn.results.toList).bind V.pures? = some ds → ∃ ys : List Value, (results fn a.tmps).run P w = .ok (if hh : ys.length = 1 then ys[0] else .tuple ys.toArray) w ∧
      ys.length = ds.length ∧ ∀ (k : Nat) v x, ds[k]? = some v → ys[k]? = some x → R w X [] v x := by
    intro ds hds
    obtain ⟨vs, hvs, hp⟩ := Option.bind_eq_some_iff.1 hds
    obtain ⟨ys, h1, h2, h3⟩ := resV_R hR hF fn.results.toList vs hvs
    obtain ⟨p1, p2⟩ := pures_get hp
    refine ⟨ys, ?_, by omega, fun k v x hv hx => ?_⟩
    · rw [results_eq]
      simp only [Array.mapM_eq_mapM_toList, Sem.run_bind, Sem.run_map]
      rw [h1]
      simp
    · obtain ⟨u, hu, hu'⟩ := p2 k v hv
      exact pure_R (h3 k u x hu hx) v hu'
  split at h
  · rename_i v hv
    simp only [Option.some.injEq] at h
    subst h
    obtain ⟨ys, h1, h2, h3⟩ := key _ hv
    have hl : ys.length = 1 := h2
    refine ⟨ys[0], by rw [h1, dif_pos hl], h3 0 v _ rfl (by simp [hl])⟩
  · rename_i vs hne hv
    simp only [Option.some.injEq] at h
    subst h
    obtain ⟨ys, h1, h2, h3⟩ := key _ hv
    have hl : ¬ ys.length = 1 := fun e => by
      rw [e] at h2
      match vs, h2 with
      | [v], _ => exact hne v rfl
    exact ⟨.tuple ys.toArray, by rw [h1, dif_neg hl], .tup [] vs ys h2 h3⟩
  · cases h

theorem get_initT : ∀ (args : List V) (i d : Nat), get d (initT i args) = if d < i then .any else (args[d - i]?).getD .any
  | [], i, d => by simp [initT, get]
  | v :: r, i, d => by
    simp only [initT, get]
    by_cases h : d = i
    · subst h; simp
    · rw [nbeq_ne h, cond_false, get_initT r (i + 1) d]
      by_cases h1 : d < i
      · simp [h1, Nat.lt_succ_of_lt h1]
      · have : ¬ d < i + 1 := by omega
        simp only [h1, this, if_false]
        rw [show d - i = (d - (i + 1)) + 1 from by omega, List.getElem?_cons_succ]

/-- A function's contract. -/
theorem pcall_of {f : Nat} {fn : Func} {c : Code} {args : List V} {out : V} (hf : P.funcs[f]? = some fn) (hb : fn.body = some c) (hname : fn.name ≠ "runtime.NumGoroutine")
    (hn : args.length ≤ fn.ntmps) (h : AWP P fn.ntmps c (fun e t H => (e = .ret ∨ e = .normal) ∧ answerV P fn.results.toList H t = some out) (initT 0 args) []) : PCall P f args out := by
  refine ⟨⟨fn, hf, hname, by simp [hb]⟩, ?_⟩
  intro w E rargs hE hlen hargs
  refine calls_of_wp hf hb ?_
  have hg : Good E [] [] w fn.ntmps [] (initT 0 args) [] [] { tmps := rargs.toArray ++ Array.replicate (fn.ntmps - rargs.toArray.size) undef, defers := [] } w := by
    have hX : ∀ v x, R w E [] v x → R w (Xs E [] []) [] v x := fun v x h => h.stab ⟨fun b o v h1 h2 => ⟨fun h => h.elim h1 (own_nil b o), h2⟩, fun b cs e h => ⟨cs, e, h⟩⟩ [] (.refl _)
    refine ⟨Step.refl (rel_nil _ _), ⟨by simp; omega, fun d => ?_⟩, rfl⟩
    rw [get_initT]
    simp only [Nat.not_lt_zero, if_false, Nat.sub_zero]
    cases hd : args[d]? with
    | none => exact .any _ _
    | some v =>
      have hlt : d < rargs.length := by rw [hlen]; exact (List.getElem?_eq_some_iff.1 hd).1
      have := hargs d v rargs[d] hd (by simp [hlt])
      simp only [Option.getD_some]
      have e : (rargs.toArray ++ Array.replicate (fn.ntmps - rargs.toArray.size) undef).getD d undef = rargs[d] := by
        rw [Array.getD_eq_getD_getElem?, Array.getElem?_append_left (by simpa using hlt)]
        simp [hlt]
      rw [e]
      exact hX _ _ this
  have := h E [] [] w [] [] _ w (fun b o hb => ⟨hE b o hb, own_nil b o⟩) hg
  refine wp_mono this ?_
  intro e a w' hp
  have fin : ∀ t H β ex, (ex = AEx.ret ∨ ex = AEx.normal) ∧ answerV P fn.results.toList H t = some out → Good E [] [] w fn.ntmps [] t H β a w' →
      a.defers = [] ∧ ∃ v, (results fn a.tmps).run P w' = .ok v w' ∧ (∃ y, Ending.returned v = .returned y ∧ Step E [] [] w [] [] w' ∧ R w' E [] out y) := by
    intro t H β ex hq hg
    obtain ⟨y, h1, h2⟩ := answer_R hg.step.rel hg.fr hq.2
    refine ⟨hg.defers, y, h1, y, rfl, ?_, ?_⟩
    · exact ⟨rel_nil _ _, hg.step.os, hg.step.tape, hg.step.output, hg.step.size, fun b hb => by
        rcases hg.step.pres b hb with h | ⟨⟨o, h⟩, _⟩
        · exact .inl h
        · exact absurd h (own_nil b o), fun b o h => absurd h (own_nil b o), .nil _⟩
    · exact h2.stab ⟨fun b o v h1 h2 => ⟨fun h => h1 (.inl h), h2⟩, fun b cs e h => ⟨cs, e, h⟩⟩ [] (.refl _)
  cases e with
  | normal => obtain ⟨t, H, β, hq, hg⟩ := hp; exact fin t H β _ hq hg
  | ret => obtain ⟨t, H, β, hq, hg⟩ := hp; exact fin t H β _ hq hg
  | exit id => obtain ⟨t, H, β, hq, hg⟩ := hp; rcases hq.1 with h | h <;> cases h
  | panic ch => obtain ⟨t, H, β, v, x, hq, hg⟩ := hp; rcases hq.1 with h | h <;> cases h
  | goto l => exact hp.elim
  | outgrown => exact hp.elim

end
end Go.Ab
