/-
  The engine, part Ye: functions called by functions, each by its own text, so deep. Conditions: none.
-/
import Derived.Test.YtmbbnhcbphkniaaGreatDoorBbXt
namespace Go.Ab

/-- A function, and how it is run: the slots kept, those of slices that are written, rounds of loops. -/
structure Fi where
  f : Nat
  fn : Func
  keeps : List Nat
  refs : List Nat := []
  fuel : Nat := 0
  lz : List Nat := []

structure Tabs where
  tab : List (Nat × Spec) := []
  mtab : List (Nat × MSpec) := []
  rtab : List (Nat × RSpec) := []
  globs : List (Nat × List V) := []

def Tabs.Ok (P : Program) (T : Tabs) : Prop := TabOk P T.tab ∧ MTabOk P T.mtab ∧ RTabOk P T.rtab ∧ ∀ p ∈ T.globs, p ∈ globsOf P

def Fi.cx (P : Program) (T : Tabs) (i : Fi) : Cx := { P := P, n := i.fn.ntmps, tab := T.tab, mtab := T.mtab, refs := i.refs, keeps := i.keeps, fuel := i.fuel, rtab := T.rtab, globs := T.globs, lz := i.lz }
def Fi.spec (P : Program) (T : Tabs) (i : Fi) : Nat × Spec := (i.f, fun args => .req (Nat.ble args.length i.fn.ntmps) (dfun (i.cx P T) i.fn args))
def Fi.mspec (P : Program) (T : Tabs) (i : Fi) : Nat × MSpec := (i.f, fun args H => .req (Nat.ble args.length i.fn.ntmps) (mfun (i.cx P T) i.fn args H))

/-- So deep: the functions by their texts, and what is known of others. -/
def deep (P : Program) (T : Tabs) (ps ms : List Fi) : Nat → Tabs
  | 0 => T
  | d + 1 => { tab := ps.map (Fi.spec P (deep P T ps ms d)) ++ T.tab, mtab := ms.map (Fi.mspec P (deep P T ps ms d)) ++ T.mtab, rtab := T.rtab, globs := T.globs }

def FisOk (P : Program) : List Fi → Prop
  | [] => True
  | i :: r => (P.funcs[i.f]? = some i.fn ∧ (i.fn.name == "runtime.NumGoroutine") = false) ∧ FisOk P r

theorem FisOk.get {P : Program} : ∀ {l : List Fi}, FisOk P l → ∀ i ∈ l, P.funcs[i.f]? = some i.fn ∧ (i.fn.name == "runtime.NumGoroutine") = false
  | [], _, i, h => by cases h
  | j :: r, h, i, hi => by
    rcases List.mem_cons.1 hi with rfl | hi
    · exact h.1
    · exact FisOk.get h.2 i hi

theorem deep_ok {P : Program} {T : Tabs} {ps ms : List Fi} (hT : T.Ok P) (hps : FisOk P ps) (hms : FisOk P ms) : ∀ d, (deep P T ps ms d).Ok P
  | 0 => hT
  | d + 1 => by
    have ih := deep_ok hT hps hms d
    refine ⟨fun p hp => ?_, fun p hp => ?_, hT.2.2⟩
    · rcases List.mem_append.1 hp with hp | hp
      · obtain ⟨i, hi, rfl⟩ := List.mem_map.1 hp
        obtain ⟨h1, h2⟩ := hps.get i hi
        exact .inl (sound_fun (cx := i.cx P (deep P T ps ms d)) ih h1 h2)
      · exact hT.1 p hp
    · rcases List.mem_append.1 hp with hp | hp
      · obtain ⟨i, hi, rfl⟩ := List.mem_map.1 hp
        obtain ⟨h1, h2⟩ := hms.get i hi
        exact msound_fun (cx := i.cx P (deep P T ps ms d)) ih h1 h2
      · exact hT.2.1 p hp

/-- A list of strings that a call made and handed back, told as one that nobody writes any more. -/
theorem pcall_freeze {P : Program} {f : Nat} {args : List V} {l : List (List UInt8)} {e : TypeId} (h : MCall P f args [] (.ok (.ref 0 1 0 l.length) [.cells (l.map .str) e])) : PCall P f args (.sl .str l [] .ro) := by
  obtain ⟨hnorm, hc⟩ := h
  refine ⟨hnorm, fun w E rargs hE hlen hargs => ?_⟩
  have hX : ∀ v x, R w E [] v x → R w (Xs E [] []) [] v x := fun v x h => h.stab ⟨fun b o v h1 h2 => ⟨fun h => h.elim h1 (own_nil b o), h2⟩, fun b cs e h => ⟨cs, e, h⟩⟩ [] (.refl _)
  refine (hc w E [] rargs ⟨fun b o hb => ⟨hE.1 b o hb, own_nil b o⟩, fun p hp => hX _ _ (hE.2 p hp)⟩ (rel_nil _ _) hlen fun k v x h1 h2 => hX v x (hargs k v x h1 h2)).mono ?_
  rintro ev w' ⟨y, β', rfl, st, hr⟩
  refine ⟨y, rfl, ?_, ?_⟩
  · exact ⟨rel_nil _ _, st.os, st.tape, st.output, st.size, fun b hb => by
      rcases st.pres b hb with h | ⟨⟨o, h⟩, _⟩ | ⟨⟨o, h⟩, _⟩
      · exact .inl h
      · exact absurd h (own_nil b o)
      · exact absurd h (own_nil b o), fun b o h => absurd h (own_nil b o), .nil _⟩
  · cases hr with
    | ref _ _ _ _ _ loc b o cap hid hk hl ha hcap =>
      obtain ⟨_, arr, e', harr, hsz, -, hvals⟩ := st.rel.cells 0 _ _ loc rfl hid
      have hblock : w.heap.size ≤ loc.block := by
        rcases st.own loc.block 0 ⟨0, loc, hid, rfl, .inl ⟨_, _, rfl⟩⟩ with h | h
        · exact absurd h (own_nil _ _)
        · exact h
      refine .sl [] .str l [] .ro b o cap (fun i _ => Value.string ⟨List.toArray (l.getD i [])⟩) (show l.length + 0 ≤ cap from hl) (fun h => by cases h) (fun h => by cases h) (fun i k hi hk => ?_) (fun i x k v hx hv => ?_)
      · have hi : i < l.length := hi
        have hk : k = 0 := by
          have : EC.str.size = 1 := rfl
          omega
        subst hk
        obtain ⟨rfl, rfl⟩ := ha (by omega)
        have h1 : EC.str.size = 1 := rfl
        refine ⟨fun hE' => absurd (hE.1 _ _ hE') (Nat.not_lt.2 hblock), ?_⟩
        rw [cell_of_row w' _ _ arr e' (0, 0) harr]
        obtain ⟨x, hx, hrx⟩ := hvals i (.str l[i]) (by simp [hi])
        cases hrx
        have e0 : loc.base + 0 + i * EC.str.size + 0 = loc.base + i := by rw [h1]; omega
        show arr[loc.base + 0 + i * EC.str.size + 0]? = _
        rw [e0, hx, getD_lt hi]
      · have hx : l[i]? = some x := by
          have e : (l ++ [])[i]? = some x := hx
          rw [List.append_nil] at e
          exact e
        have hv : ([V.str x] : List V)[k]? = some v := hv
        cases k with
        | succ k => simp at hv
        | zero =>
          simp only [List.getElem?_cons_zero, Option.some.injEq] at hv
          subst hv
          have : l.getD i [] = x := by
            rw [List.getD_eq_getElem?_getD]
            exact congrArg (·.getD []) hx
          rw [this]
          exact .str _ _

end Go.Ab
