/-
  The engine, part W: contracts out of bodies, where what was handed in is written. Conditions: none.
-/
import Derived.Test.YtffamklolgjjdaaAbV
namespace Go.Ab

/-- What a function answers, handles of what it made or was handed among it. -/
def answerI (P : Program) (rs : List ResultVar) (H : List O) (t : T) : Option V :=
  match resV P H t rs with
  | some [v] => some v
  | some vs => some (.tup vs)
  | none => none

def answerM (P : Program) (rs : List ResultVar) : St → Tree Res
  | (.ret, t, H) | (.normal, t, H) => match answerI P rs H t with
    | some v => .leaf (.ok v H)
    | none => .fail
  | (.panic v, _, H) => .leaf (.pan v H)
  | _ => .fail

def mfun (cx : Cx) (fn : Func) (args : List V) (H : List O) : Tree Res :=
  match fn.body with
  | some c => (dcode { cx with n := fn.ntmps } c (initT 0 args) H).bind (answerM cx.P fn.results.toList)
  | none => .fail

/-- Where a body that writes is to end. -/
def MPost (P : Program) (fn : Func) (r : Res) (e : AEx) (t : T) (H : List O) : Prop :=
  match r with
  | .ok v H' => (e = .ret ∨ e = .normal) ∧ H = H' ∧ answerI P fn.results.toList H t = some v
  | .pan v H' => e = .panic v ∧ H = H'

section
variable {P : Program} {E : Nat → Nat → Prop} {H : List O} {β : List Loc} {w : World} {X : Nat → Nat → Prop}

theorem answerI_R {n : Nat} {t : T} {a : Act} {fn : Func} {out : V} (hR : Rel w X H β) (hF : FR w X β n t a) (h : answerI P fn.results.toList H t = some out) :
    ∃ y, (results fn a.tmps).run P w = .ok y w ∧ R w X β out y := by
  unfold answerI at h
  have key : ∀ ds, resV P H t fn.results.toList = some ds → ∃ ys : List Value, (results fn a.tmps).run P w = .ok (if hh : ys.length = 1 then ys[0] else .tuple ys.toArray) w ∧
      ys.length = ds.length ∧ ∀ (k : Nat) v x, ds[k]? = some v → ys[k]? = some x → R w X β v x := by
    intro ds hds
    obtain ⟨ys, h1, h2, h3⟩ := resV_R hR hF fn.results.toList ds hds
    refine ⟨ys, ?_, h2, h3⟩
    rw [results_eq]
    simp only [Array.mapM_eq_mapM_toList, Sem.run_bind, Sem.run_map]
    rw [h1]
    simp
  split at h
  · rename_i v hv
    simp only [Option.some.injEq] at h
    subst h
    obtain ⟨ys, h1, h2, h3⟩ := key _ hv
    have hl : ys.length = 1 := h2
    refine ⟨ys[0], by rw [h1, dif_pos hl], h3 0 v _ rfl (by simp [hl])⟩
  · rename_i vs hne hv
    simp only [Option.some.injEq] at h
    subst h
    obtain ⟨ys, h1, h2, h3⟩ := key _ hv
    have hl : ¬ ys.length = 1 := fun e => by
      rw [e] at h2
      match vs, h2 with
      | [v], _ => exact hne v rfl
    exact ⟨.tuple ys.toArray, by rw [h1, dif_neg hl], .tup β vs ys h2 h3⟩
  · cases h

/-- A contract of a function that writes. -/
theorem mcall_of {f : Nat} {fn : Func} {c : Code} {args : List V} {r : Res} (hf : P.funcs[f]? = some fn) (hb : fn.body = some c) (hname : fn.name ≠ "runtime.NumGoroutine")
    (hn : args.length ≤ fn.ntmps) (h : AWP P fn.ntmps c (MPost P fn r) (initT 0 args) H) : MCall P f args H r := by
  refine ⟨⟨fn, hf, hname, by simp [hb]⟩, ?_⟩
  intro w E β rargs hE hrel hlen hargs
  refine calls_of_wp hf hb ?_
  have hg : Good E H β w fn.ntmps [] (initT 0 args) H β { tmps := rargs.toArray ++ Array.replicate (fn.ntmps - rargs.toArray.size) undef, defers := [] } w := by
    refine ⟨Step.refl hrel, ⟨by simp; omega, fun d => ?_⟩, rfl⟩
    rw [get_initT]
    simp only [Nat.not_lt_zero, if_false, Nat.sub_zero]
    cases hd : args[d]? with
    | none => exact .any _ _
    | some v =>
      have hlt : d < rargs.length := by rw [hlen]; exact (List.getElem?_eq_some_iff.1 hd).1
      have := hargs d v rargs[d] hd (by simp [hlt])
      simp only [Option.getD_some]
      have e : (rargs.toArray ++ Array.replicate (fn.ntmps - rargs.toArray.size) undef).getD d undef = rargs[d] := by
        rw [Array.getD_eq_getD_getElem?, Array.getElem?_append_left (by simpa using hlt)]
        simp [hlt]
      rw [e]
      exact this
  have := h E H β w [] β _ w hE hg
  refine wp_mono this ?_
  intro e a w' hp
  have fin : ∀ t H2 β2 ex, (ex = AEx.ret ∨ ex = AEx.normal) → MPost P fn r ex t H2 → Good E H β w fn.ntmps [] t H2 β2 a w' →
      a.defers = [] ∧ ∃ v, (results fn a.tmps).run P w' = .ok v w' ∧ Outcome E H β w r (.returned v) w' := by
    intro t H2 β2 ex hex hq hg
    cases r with
    | ok v H' =>
      obtain ⟨_, rfl, h3⟩ := hq
      obtain ⟨y, h1, h2⟩ := answerI_R hg.step.rel hg.fr h3
      exact ⟨hg.defers, y, h1, y, β2, rfl, hg.step, h2⟩
    | pan v H' =>
      obtain ⟨h1, _⟩ := hq
      rcases hex with rfl | rfl <;> cases h1
  cases e with
  | normal => obtain ⟨t, H, β, hq, hg⟩ := hp; exact fin t H β _ (.inr rfl) hq hg
  | ret => obtain ⟨t, H, β, hq, hg⟩ := hp; exact fin t H β _ (.inl rfl) hq hg
  | exit id =>
    obtain ⟨t, H, β, hq, hg⟩ := hp
    cases r with
    | ok v H' => rcases hq.1 with h | h <;> cases h
    | pan v H' => cases hq.1
  | panic ch =>
    obtain ⟨t, H2, β2, v, x, hq, hg, hv, rfl⟩ := hp
    cases r with
    | ok v H' => rcases hq.1 with h | h <;> cases h
    | pan v' H' =>
      obtain ⟨h1, rfl⟩ := hq
      cases h1
      exact ⟨hg.defers, x, β2, rfl, hg.step, hv⟩
  | goto l => exact hp.elim
  | outgrown => exact hp.elim

theorem answerM_post {fn : Func} {s : St} {r : Res} (h : (answerM P fn.results.toList s).run = some r) : MPost P fn r s.1 s.2.1 s.2.2 := by
  obtain ⟨e, t, H⟩ := s
  have ans : (match answerI P fn.results.toList H t with | some v => Tree.leaf (Res.ok v H) | none => .fail).run = some r → ∃ v, r = .ok v H ∧ answerI P fn.results.toList H t = some v := by
    intro h
    cases hv : answerI P fn.results.toList H t with
    | none => rw [hv] at h; cases h
    | some v => rw [hv] at h; exact ⟨v, by simpa [Tree.run] using h.symm, rfl⟩
  cases e with
  | normal => obtain ⟨v, rfl, hv⟩ := ans h; exact ⟨.inr rfl, rfl, hv⟩
  | ret => obtain ⟨v, rfl, hv⟩ := ans h; exact ⟨.inl rfl, rfl, hv⟩
  | exit id => cases h
  | panic v =>
    simp only [answerM, Tree.run, Option.some.injEq] at h
    subst h
    exact ⟨rfl, rfl⟩

/-- A function without loops that writes. -/
theorem mcall_fun {cx : Cx} {f : Nat} {fn : Func} {c : Code} {args : List V} {r : Res} (hP : cx.P = P) (hT : CxOk cx) (hf : P.funcs[f]? = some fn) (hb : fn.body = some c)
    (hname : fn.name ≠ "runtime.NumGoroutine") (hn : Nat.ble args.length fn.ntmps = true) (h : (mfun cx fn args H).run = some r) : MCall P f args H r := by
  subst hP
  refine mcall_of hf hb hname (Nat.le_of_ble_eq_true hn) ?_
  unfold mfun at h
  rw [hb] at h
  obtain ⟨s, h1, h2⟩ := bind_run h
  exact AWP_code (cx := { cx with n := fn.ntmps }) rfl rfl hT c _ _ _ (Tree.run_all h1 (answerM_post h2))

/-- Code that is run, then what is behind it. -/
theorem AWP_run {cx : Cx} {n : Nat} (hP : cx.P = P) (hn : cx.n = n) (hT : CxOk cx) {c : Code} {Q : AEx → T → List O → Prop} {t : T} {s : St}
    (h : (dcode cx c t H).run = some s) (hq : Q s.1 s.2.1 s.2.2) : AWP P n c Q t H :=
  AWP_code hP hn hT c Q t H (Tree.run_all h hq)

end
end Go.Ab
