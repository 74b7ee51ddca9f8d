/-
  The engine, part Yj: a call's own objects dropped from what it leaves. Conditions: none.
-/
import Derived.Test.YtmbbnhcbphkniaaGreatDoorBbYi
namespace Go.Ab

/-- Objects dropped: those that were there and some new ones are told. -/
def dropR (n : Nat) (κ : List Nat) : Res → Tree Res
  | .ok v H => cond (noDup (List.range n ++ κ)) (match pickO H (List.range n ++ κ) with
    | some os => match rensO (fun i => place i (List.range n ++ κ)) os, V.ren? (fun i => place i (List.range n ++ κ)) v with
      | some Hs, some v => .leaf (.ok v Hs)
      | _, _ => .fail
    | none => .fail) .fail
  | .pan _ _ => .fail

theorem mcall_drop {P : Program} {f : Nat} {args : List V} {H : List O} {r r' : Res} {κ : List Nat} (h : MCall P f args H r) (hd : (dropR H.length κ r).run = some r') : MCall P f args H r' := by
  cases r with
  | pan _ _ => cases hd
  | ok v H1 =>
    unfold dropR at hd
    cases hσ : noDup (List.range H.length ++ κ)
    · rw [hσ] at hd; cases hd
    rw [hσ] at hd
    simp only [cond_true] at hd
    split at hd
    rotate_left
    · cases hd
    rename_i os hos
    split at hd
    rotate_left
    · cases hd
    rename_i Hs v' hHs hv'
    cases hd
    obtain ⟨hnorm, hc⟩ := h
    refine ⟨hnorm, fun w E β rargs hE hR hl hv => (hc w E β rargs hE hR hl hv).mono ?_⟩
    rintro ev w' ⟨y, β', rfl, st, hr⟩
    let a : Act := ⟨#[], []⟩
    have hg : Good E H β w a.tmps.size a.defers [] H1 β' a w' := ⟨st, ⟨rfl, fun d => .any _ _⟩, rfl⟩
    have hlen : β.length = H.length := hR.len.symm
    obtain ⟨g1, g2⟩ := hg.drop hσ hos hHs (fun i hi => by
      have hi' : i < (List.range H.length).length := by rw [List.length_range]; omega
      rw [List.getElem?_append_left hi', List.getElem?_eq_getElem hi', List.getElem_range])
    exact ⟨y, _, rfl, g1.step, g2 _ _ _ hr hv'⟩

/-- A function by its text; of what it made only some is told. -/
def mfunR (cx : Cx) (fn : Func) (κ : List Nat) (args : List V) (H : List O) : Tree Res :=
  .req (Nat.ble args.length fn.ntmps) ((mfun cx fn args H).bind (dropR H.length κ))

theorem mfunR_ok {cx : Cx} {f : Nat} {fn : Func} (κ : List Nat) (hT : CxOk cx) (hf : cx.P.funcs[f]? = some fn) (hname : (fn.name == "runtime.NumGoroutine") = false) : MSound cx.P f (mfunR cx fn κ) := by
  intro args H r h
  obtain ⟨h1, h2⟩ := req_run h
  obtain ⟨r0, h3, h4⟩ := bind_run h2
  refine mcall_drop (msound_fun hT hf hname args H r0 ?_) h4
  show (Tree.req _ _).run = _
  unfold Tree.req
  rw [br_run, h1]
  exact h3

theorem mfunR_run {cx : Cx} {f : Nat} {fn : Func} {κ : List Nat} {args : List V} {H : List O} {r : Res} (hT : CxOk cx) (hf : cx.P.funcs[f]? = some fn) (hname : (fn.name == "runtime.NumGoroutine") = false)
    (h : (mfunR cx fn κ args H).run = some r) : MCall cx.P f args H r := mfunR_ok κ hT hf hname args H r h
end Go.Ab
