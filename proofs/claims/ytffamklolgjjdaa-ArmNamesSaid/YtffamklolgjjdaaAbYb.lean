/-
  The engine, part Yb: a list of strings that a call made may be written by who called. Conditions: none.
-/
import Derived.Test.YtffamklolgjjdaaAbYa
namespace Go.Ab

/-- What grew in a call, and is handed back alone, is the caller's to write. -/
theorem mcall_own {P : Program} {f : Nat} {l : List (List UInt8)} (e : TypeId) (he : e < 4294967296) (h : MCall P f [] [] (.ok (.gro 0 .str l) [.tok l.length 1])) :
    MCall P f [] [] (.ok (.ref 0 1 0 l.length) [.cells (l.map .str) e]) := by
  obtain ⟨hnorm, hc⟩ := h
  refine ⟨hnorm, fun w E β rargs hE hR hl hv => (hc w E β rargs hE hR hl hv).mono ?_⟩
  rintro ev w' ⟨y, β', rfl, st, hr⟩
  have hβ : β = [] := by
    have := hR.len
    exact List.length_eq_zero_iff.1 this.symm
  subst hβ
  cases hr with
  | gro _ _ _ _ b o cap loc f hid hk hn hlb hcap hcells hvals =>
    obtain ⟨_, hloc, arr, e', harr, hsz⟩ := st.rel.tok 0 _ _ loc rfl hid
    obtain ⟨rfl, rfl, hcs⟩ := hlb hloc
    have h1 : EC.str.size = 1 := rfl
    rw [h1, Nat.mul_one] at hcs
    have hblock : w.heap.size ≤ loc.block := by
      rcases st.own loc.block (loc.base + l.length * 1) ⟨0, loc, hid, rfl, .inr ⟨l.length, 1, rfl, Nat.le_refl _⟩⟩ with h | h
      · exact absurd h (own_nil _ _)
      · exact h
    have hlen1 : ∀ {id : Nat} {x : O}, [O.cells (l.map V.str) e][id]? = some x → id = 0 ∧ x = .cells (l.map V.str) e := by
      intro id x hx
      cases id with
      | zero => exact ⟨rfl, (Option.some.inj hx).symm⟩
      | succ id => simp at hx
    have hloc1 : ∀ {id : Nat} {x : Loc}, [({ loc with kind := false } : Loc)][id]? = some x → id = 0 ∧ x = { loc with kind := false } := by
      intro id x hx
      cases id with
      | zero => exact ⟨rfl, (Option.some.inj hx).symm⟩
      | succ id => simp at hx
    refine ⟨_, [{ loc with kind := false }], rfl, ⟨⟨rfl, ?_, ?_, ?_⟩, st.os, st.tape, st.output, st.size, ?_, ?_, .nil _⟩, ?_⟩
    · intro id cs e2 loc2 g1 g2
      obtain ⟨rfl, k1⟩ := hlen1 g1
      obtain ⟨_, rfl⟩ := hloc1 g2
      cases k1
      refine ⟨rfl, arr, e', harr, hsz, ⟨by rw [List.length_map]; exact Nat.le_trans (Nat.add_le_add_left hcap _) hcs, fun h => absurd (Nat.lt_of_lt_of_le he h) (Nat.lt_irrefl _)⟩, fun k v hv => ?_⟩
      rw [List.getElem?_map] at hv
      obtain ⟨s, hs, rfl⟩ := Option.map_eq_some_iff.1 hv
      have hk1 : k < l.length := (List.getElem?_eq_some_iff.1 hs).1
      have hcell := (hcells k 0 hk1 (by omega)).2
      have hval := hvals k s 0 (.str s) hs rfl
      rw [h1, Nat.mul_one, Nat.add_zero, cell_of_row w' _ _ arr e' (0, 0) harr] at hcell
      refine ⟨f k 0, hcell, ?_⟩
      generalize f k 0 = z at hval
      cases hval
      exact .str _ _
    · intro id n sz loc2 g1 g2
      obtain ⟨_, k1⟩ := hlen1 g1
      cases k1
    · intro i j l1 l2 hi hj _ _ _
      obtain ⟨x, hx, _⟩ := hi
      obtain ⟨x', hx', _⟩ := hj
      rw [(hlen1 hx).1, (hlen1 hx').1]
    · intro b hb
      rcases st.pres b hb with h | ⟨⟨o, h⟩, _⟩
      · exact .inl h
      · exact absurd h (own_nil b o)
    · rintro b o ⟨id, l1, g1, g2, _⟩
      obtain ⟨_, rfl⟩ := hloc1 g1
      exact .inr (g2 ▸ hblock)
    · exact .ref _ 0 1 0 _ _ _ _ _ rfl rfl hcap (fun _ => ⟨rfl, by simp⟩) (by simp only; omega)

/-- A call run, and of what it made only some objects told. -/
def mfunD (cx : Cx) (fn : Func) (args : List V) (H : List O) (κ : List Nat) : Option (V × List O) :=
  match (dcode { cx with n := fn.ntmps } (bodyOf fn) (initT 0 args) H).run with
  | some s => match dropS H.length κ s with
    | some (.ret, t, H') | some (.normal, t, H') => (answerI cx.P fn.results.toList H' t).map fun v => (v, H')
    | _ => none
  | none => none

theorem mcall_funD {cx : Cx} {f : Nat} {fn : Func} {args : List V} {H H' : List O} {v : V} (κ : List Nat) (hT : CxOk cx) (hf : cx.P.funcs[f]? = some fn) (hb : fn.body = some (bodyOf fn))
    (hname : (fn.name == "runtime.NumGoroutine") = false) (hn : Nat.ble args.length fn.ntmps = true) (h : mfunD cx fn args H κ = some (v, H')) : MCall cx.P f args H (.ok v H') := by
  refine mcall_of' hf hb hname hn ?_
  unfold mfunD at h
  split at h
  rotate_left
  · cases h
  rename_i s hs
  refine AWP_scope (AWP_run (cx := { cx with n := fn.ntmps }) rfl rfl hT hs ?_)
  split at h
  · rename_i t H2 hd
    obtain ⟨u, hu, e⟩ := Option.map_eq_some_iff.1 h
    cases e
    exact ⟨κ, _, hd, .inl rfl, rfl, hu⟩
  · rename_i t H2 hd
    obtain ⟨u, hu, e⟩ := Option.map_eq_some_iff.1 h
    cases e
    exact ⟨κ, _, hd, .inr rfl, rfl, hu⟩
  · cases h

/-- Statements run, and of the slots only some told. -/
theorem AWP_headK {P : Program} {n : Nat} {cx : Cx} (hP : cx.P = P) (hn : cx.n = n) (hT : CxOk cx) (k : Nat) (ks : List Nat) {c : Code} {Q : AEx → T → List O → Prop} {t t' : T} {H H' : List O} (hr : rowN k c = true)
    (h : (dcode cx (headN k c) t H).run.map (fun s => (s.1, keep ks s.2.1, s.2.2)) = some (.normal, t', H')) (hq : AWP P n (tailN k c) Q t' H') : AWP P n c Q t H := by
  obtain ⟨⟨e, t2, H2⟩, h1, h2⟩ := Option.map_eq_some_iff.1 h
  simp only [Prod.mk.injEq] at h2
  obtain ⟨rfl, rfl, rfl⟩ := h2
  exact AWP_head hP hn hT k c Q t H hr (Tree.run_all h1 (AWP.less (TLe.keep ks t2) hq))

end Go.Ab
