/-
  The engine, part Yr: how far a slice that may be written reaches; what grew in one's own room may be written. Conditions: none.
-/
import Derived.Test.YtbanejncffdihaaPk12
import Derived.Test.YtbanejncffdihaaPk10
import Derived.Test.YtbanejncffdihaaPk11
set_option linter.unusedVariables false
set_option linter.unusedSimpArgs false
namespace Go.Ab
open Go
theorem AWP_cap {cx : Cx} {P : Program} {n : Nat} {Q : AEx → T → List O → Prop} {t : T} {H : List O} (hP : cx.P = P) (hn : cx.n = n) (hT : CxOk cx) {id : Nat} {ops : Array Oper} {o0 o1 : Oper} {r : List Oper} {d0 d1 : Nat} {x : Operand} {ats : Array TypeId}
    {ty el : TypeId} {g sz off m : Nat} (hops : ops.toList = o0 :: o1 :: r) (g0 : o0.guard = none) (p0 : o0.op = .move x) (e0 : o0.dst = some d0) (l0 : d0 < n)
    (g1 : o1.guard = none) (p1 : o1.op = .call { callee := .builtin .cap, args := #[.tmp d0], argTypes := ats }) (e1 : o1.dst = some d1) (l1 : d1 < n)
    (hat : ats[0]? = some ty) (hu : P.underlying ty = some (.slice el)) (hx : rd t x = .ref g sz off m)
    (h : ∀ N : Nat, m ≤ N → (druns cx ops r (put d1 (.int .i64 N) (put d0 (.ref g sz off m) t)) H).all (fun s => Q s.1 s.2.1 s.2.2)) :
    AWP P n (.region id ops false) Q t H := by
  intro E H0 β0 w0 D β a w hs hg
  refine wp_region ?_
  subst hP
  subst hn
  have k0 : ops[0]? = some o0 := by rw [← Array.getElem?_toList, hops]; rfl
  have k1 : ops[1]? = some o1 := by rw [← Array.getElem?_toList, hops]; rfl
  have key : wpOps cx.P ops (Post E H0 β0 w0 cx.n D Q) (List.range' 0 ops.toList.length) a w := by
    rw [hops]
    simp only [List.length_cons, List.range'_succ, wpOps, k0, k1]
    have hw0 : ∀ q : Array Value, Region.wanted o0 (yielded ops q) = true := fun q => by simp [Region.wanted, g0]
    have hw1 : ∀ q : Array Value, Region.wanted o1 (yielded ops q) = true := fun q => by simp [Region.wanted, g1]
    simp only [hw0, hw1, if_true]
    refine .inl ?_
    unfold Oper.wp
    simp only [execOp, p0]
    have hx0 : R w (Xs E H β) β (.ref g sz off m) (a.eval x) := by rw [← hx]; exact rd_R hg.fr x
    have fr0 : FR w (Xs E H β) β cx.n (put d0 (.ref g sz off m) t) (a.put o0.dst (a.eval x)) := by
      rw [e0]
      exact hg.fr.put l0 hx0
    have hdef0 : (a.put o0.dst (a.eval x)).defers = D := by rw [e0]; exact hg.defers
    refine .inl ?_
    generalize hy : a.eval x = y at hx0 fr0 hdef0 ⊢
    have hslot : (a.put o0.dst y).eval (.tmp d0) = y := by
      rw [e0]
      have := (hg.fr.size : a.tmps.size = cx.n)
      simp [Act.eval, Act.put, Array.getD_eq_getD_getElem?, this, l0]
    cases hx0 with
    | ref _ _ _ _ _ loc b o cap hid hk hcap ha hsz =>
      have he0 : execOp (a.put o0.dst (.slice (some ⟨b, o, none⟩) m cap)).eval o1 = builtin .cap ats o1.type ((#[Operand.tmp d0]).map fun | .const _ => true | _ => false) ((#[Operand.tmp d0]).map (a.put o0.dst (.slice (some ⟨b, o, none⟩) m cap)).eval) := by
        simp only [execOp, p1, resolve, invoke]
        rfl
      have one : (#[Operand.tmp d0]).map (a.put o0.dst (.slice (some ⟨b, o, none⟩) m cap)).eval = #[.slice (some ⟨b, o, none⟩) m cap] := by
        apply Array.ext'
        simp [hslot]
      rw [one] at he0
      have he : execOp (a.put o0.dst (.slice (some ⟨b, o, none⟩) m cap)).eval o1 = (do pure (Next.value (← Builtin.cap_ ats o1.type #[.slice (some ⟨b, o, none⟩) m cap]))) := he0.trans rfl
      refine wp_sem he (w' := w) (x := .int .i64 cap) ?_ ?_
      · simp [Builtin.cap_, hat, run_und w hu, goInt]
      · have fr1 : FR w (Xs E H β) β cx.n (put d1 (.int .i64 cap) (put d0 (.ref g sz off m) t)) ((a.put o0.dst (.slice (some ⟨b, o, none⟩) m cap)).put o1.dst (.int .i64 cap)) := by
          rw [e1]
          exact fr0.put l1 (.int _ _ _)
        have hr2 : ops.toList.drop 2 = r := by rw [hops]; rfl
        refine runs_sound hT hs (ops := ops) (Q := Q) (D := D) r 2 _ H β _ w hr2 (h cap hcap) ⟨hg.step, fr1, ?_⟩
        rw [e1]
        exact hdef0
  simpa [List.range_eq_range'] using key
end Go.Ab

namespace Go.Ab
open Go
abbrev u8c (l : List Int) : List V := l.map fun x => V.int .u8 x
theorem R.anti {w : World} {X X' : Nat → Nat → Prop} (h : ∀ b o, X' b o → X b o) {β : List Loc} {v : V} {x : Value} (hr : R w X β v x) : R w X' β v x :=
  hr.stab ⟨fun b o v h1 h2 => ⟨fun h3 => h1 (h b o h3), h2⟩, fun b cs e h => ⟨cs, e, h⟩⟩ β (.refl _)
theorem AWP_own8 {P : Program} {n : Nat} {c : Code} {d d' : Nat} {M : Int} {l : List Int} {e : TypeId} {φ : List Int → Prop} (he : e < 4294967296) (hne : 1 ≤ l.length) (hdd : d' ≠ d)
    (h : AWP P n c (fun ex t' H' => ex = .normal ∧ ∃ l' : List Int, H' = [.tok l'.length 1] ∧ get d t' = .gro 0 (.int .u8) l' ∧ φ l') [(d, .gro 0 (.int .u8) l), (d', .int .i64 M)] [.tok l.length 1])
    {Q : AEx → T → List O → Prop} (hQ : ∀ l' : List Int, φ l' → Q .normal [(d, .ref 1 1 0 l'.length)] [.dead, .cells (u8c l') e]) :
    AWP P n c Q [(d, .ref 0 1 0 l.length), (d', .int .i64 M)] [.cells (u8c l) e] := by
  intro E H0 β0 w0 D β a w hS hG
  obtain ⟨loc, rfl⟩ : ∃ loc, β = [loc] := by
    have := hG.step.rel.len
    match β, this with
    | [loc], _ => exact ⟨loc, rfl⟩
  have hnow := hS.now hG.step
  have hsl := hG.fr.slot d
  have hgd : get d [(d, V.ref 0 1 0 l.length), (d', .int .i64 M)] = .ref 0 1 0 l.length := by simp [get]
  rw [hgd] at hsl
  generalize hx : a.tmps.getD d undef = x at hsl
  cases hsl with
  | ref _ _ _ _ _ loc' b o cap hid hk hlen ha hcap =>
  have hloc : loc' = loc := by simpa using hid.symm
  subst hloc
  obtain ⟨rfl, rfl⟩ := ha (by omega)
  obtain ⟨_, arr, e', harr, hsz, ⟨hb, _⟩, hcells⟩ := hG.step.rel.cells 0 _ _ loc' rfl rfl
  have ownC : ∀ b o, Own [.tok l.length 1] [{ loc' with kind := true, n := l.length }] b o → Own [.cells (u8c l) e] [loc'] b o := by
    rintro b o ⟨id, l1, h1, h2, h3⟩
    match id, h1, h3 with
    | 0, h1, h3 =>
      have : l1 = { loc' with kind := true, n := l.length } := by simpa using h1.symm
      subst this
      exact ⟨0, loc', rfl, h2, .inl ⟨_, _, rfl⟩⟩
    | id + 1, h1, _ => simp at h1
  have ownA : ∀ o, Own [.cells (u8c l) e] [loc'] loc'.block o := fun o => ⟨0, loc', rfl, rfl, .inl ⟨_, _, rfl⟩⟩
  have xsub : ∀ b o, Xs E [.tok l.length 1] [{ loc' with kind := true, n := l.length }] b o → Xs E [.cells (u8c l) e] [loc'] b o := fun b o h => h.imp id (ownC b o)
  have hrel : Rel w (Xs E [.tok l.length 1] [{ loc' with kind := true, n := l.length }]) [.tok l.length 1] [{ loc' with kind := true, n := l.length }] := by
    refine ⟨rfl, fun id cs e1 l1 g1 g2 => ?_, fun id m sz l1 g1 g2 => ?_, fun id sh vs l1 g1 g2 => ?_, fun i j l1 l2 g1 g2 g3 g4 _ => ?_⟩
    · match id, g1 with
      | 0, g1 => simp at g1
      | id + 1, g1 => simp at g1
    · match id, g1, g2 with
      | 0, g1, g2 =>
        have e1 : l1 = { loc' with kind := true, n := l.length } := by simpa using g2.symm
        have e2 : l.length = m ∧ 1 = sz := by simpa using g1
        subst e1
        exact ⟨rfl, e2.1, arr, e', harr, hsz⟩
      | id + 1, g1, _ => simp at g1
    · match id, g1 with
      | 0, g1 => simp at g1
      | id + 1, g1 => simp at g1
    · obtain ⟨o1, q1, _⟩ := g1
      obtain ⟨o2, q2, _⟩ := g2
      match i, j, q1, q2 with
      | 0, 0, _, _ => rfl
      | i + 1, _, q1, _ => simp at q1
      | _, j + 1, _, q2 => simp at q2
  have hcell : ∀ i, (hi : i < l.length) → arr[loc'.base + i]? = some (.int .u8 (l[i]'hi)) := by
    intro i hi
    obtain ⟨y, hy, hr⟩ := hcells i (.int .u8 (l[i]'hi)) (by simp [u8c, hi])
    cases hr
    exact hy
  have hst : StartOk P E [.tok l.length 1] [{ loc' with kind := true, n := l.length }] w :=
    ⟨fun b o hb => ⟨(hnow.1 b o hb).1, fun ho => (hnow.1 b o hb).2 (ownC b o ho)⟩, fun p hp => (hnow.2 p hp).anti xsub⟩
  have hgro : R w (Xs E [.tok l.length 1] [{ loc' with kind := true, n := l.length }]) [{ loc' with kind := true, n := l.length }] (.gro 0 (.int .u8) l) (.slice (some ⟨loc'.block, loc'.base + 0, none⟩) l.length cap) := by
    refine .gro _ 0 (.int .u8) l _ _ cap { loc' with kind := true, n := l.length } (fun i _ => .int .u8 (l.getD i 0)) rfl rfl (Nat.le_refl _) (fun _ => ⟨rfl, by simp, ?_⟩) hlen (fun i k hi hk => ?_) (fun i y k v h1 h2 => ?_)
    · show loc'.base + 0 + cap * 1 ≤ loc'.size
      omega
    · have hk0 : k = 0 := by have : k < 1 := hk; omega
      subst hk0
      have hi : i < @List.length Int l := hi
      refine ⟨fun hX => ?_, ?_⟩
      · rcases hX with hX | ⟨id, l1, h1, h2, h3⟩
        · exact (hnow.1 _ _ hX).2 (ownA _)
        · match id, h1, h3 with
          | 0, h1, h3 =>
            have e1 : l1 = { loc' with kind := true, n := l.length } := by simpa using h1.symm
            subst e1
            rcases h3 with ⟨_, _, h3⟩ | ⟨m, sz, h3, h4⟩ | ⟨_, _, h3⟩
            · simp at h3
            · have e2 : l.length = m ∧ 1 = sz := by simpa using h3
              obtain ⟨rfl, rfl⟩ := e2
              have h4 : loc'.base + l.length * 1 ≤ loc'.base + 0 + i * 1 + 0 := h4
              omega
            · simp at h3
          | id + 1, h1, _ => simp at h1
      · have e1 : loc'.base + 0 + i * EC.size (.int .u8) + 0 = loc'.base + i := by show loc'.base + 0 + i * 1 + 0 = _; omega
        have hg : @List.getD Int l i 0 = l[i]'hi := by rw [List.getD_eq_getElem?_getD, List.getElem?_eq_getElem hi]; rfl
        rw [e1, cell_of_row w _ _ arr e' (0, 0) harr, hcell i hi]
        exact congrArg (fun z => some (Value.int .u8 z)) hg.symm
    · have e2 : k = 0 ∧ v = .int .u8 y := by
        have h2 : ([V.int .u8 y] : List V)[k]? = some v := h2
        match k, h2 with
        | 0, h2 => exact ⟨rfl, by simpa using h2.symm⟩
        | k + 1, h2 => simp at h2
      obtain ⟨rfl, rfl⟩ := e2
      have h1 : l[i]? = some y := h1
      show R _ _ _ (.int .u8 y) (.int .u8 (l.getD i 0))
      rw [List.getD_eq_getElem?_getD, h1]
      exact .int _ _ _
  have hfr : FR w (Xs E [.tok l.length 1] [{ loc' with kind := true, n := l.length }]) [{ loc' with kind := true, n := l.length }] n [(d, .gro 0 (.int .u8) l), (d', .int .i64 M)] a := by
    refine ⟨hG.fr.size, fun d2 => ?_⟩
    by_cases hd : d2 = d
    · subst hd
      rw [hx]
      have : get d2 [(d2, V.gro 0 (.int .u8) l), (d', .int .i64 M)] = .gro 0 (.int .u8) l := by simp [get]
      rw [this]
      exact hgro
    · by_cases hd' : d2 = d'
      · subst hd'
        have h1 := hG.fr.slot d2
        have e1 : get d2 [(d, V.ref 0 1 0 l.length), (d2, V.int .i64 M)] = .int .i64 M := by simp [get, nbeq_ne hd]
        have e2 : get d2 [(d, V.gro 0 (.int .u8) l), (d2, V.int .i64 M)] = .int .i64 M := by simp [get, nbeq_ne hd]
        rw [e1] at h1
        rw [e2]
        generalize a.tmps.getD d2 undef = z at h1
        cases h1
        exact .int _ _ _
      · have : get d2 [(d, V.gro 0 (.int .u8) l), (d', .int .i64 M)] = .any := by simp [get, nbeq_ne hd, nbeq_ne hd']
        rw [this]
        exact .any _ _
  refine wp_mono (h E [.tok l.length 1] [{ loc' with kind := true, n := l.length }] w D [{ loc' with kind := true, n := l.length }] a w hst ⟨Step.refl hrel, hfr, hG.defers⟩) ?_
  intro ex a' w' hp
  cases ex with
  | exit id => obtain ⟨_, _, _, h1, _⟩ := hp; cases h1.1
  | ret => obtain ⟨_, _, _, h1, _⟩ := hp; cases h1.1
  | panic ch => obtain ⟨_, _, _, _, _, h1, _⟩ := hp; cases h1.1
  | goto l => exact hp.elim
  | outgrown => exact hp.elim
  | normal =>
  obtain ⟨t', H', β', ⟨_, l', rfl, hget, hφ⟩, hg'⟩ := hp
  obtain ⟨loc2, rfl⟩ : ∃ loc2, β' = [loc2] := by
    have := hg'.step.rel.len
    match β', this with
    | [loc2], _ => exact ⟨loc2, rfl⟩
  have hs2 := hg'.fr.slot d
  rw [hget] at hs2
  obtain ⟨hk2, hn2, arr2, e2, harr2, hsz2⟩ := hg'.step.rel.tok 0 _ _ loc2 rfl rfl
  generalize hx2 : a'.tmps.getD d undef = x2 at hs2
  cases hs2 with
  | gro _ _ _ _ b2 o2 cap2 loc3 f2 hid2 hk3 hnl2 hlb2 hcap2 hc2 hr2 =>
  have e3 : loc3 = loc2 := by simpa using hid2.symm
  subst e3
  obtain ⟨rfl, rfl, hcs2⟩ := hlb2 hn2
  have hcs2 : loc3.base + cap2 * 1 ≤ loc3.size := hcs2
  have hcap2 : @List.length Int l' ≤ cap2 := hcap2
  have hown2 : ∀ o, Own [.cells (u8c l) e] [loc'] loc3.block o ∨ w.heap.size ≤ loc3.block := by
    intro o
    rcases hg'.step.own loc3.block (loc3.base + l'.length * 1) ⟨0, loc3, rfl, rfl, .inr (.inl ⟨_, _, rfl, Nat.le_refl _⟩)⟩ with h1 | h1
    · obtain ⟨id, l1, q1, q2, _⟩ := ownC _ _ h1
      refine .inl ⟨id, l1, q1, q2, ?_⟩
      match id, q1 with
      | 0, _ => exact .inl ⟨_, _, rfl⟩
      | id + 1, q1 => simp at q1
    · exact .inr h1
  have hval : ∀ k, (hk : k < l'.length) → arr2[loc3.base + k]? = some (.int .u8 (l'[k]'hk)) := by
    intro k hk
    have h1 := (hc2 k 0 hk (by show 0 < 1; omega)).2
    have h2 := hr2 k (l'[k]'hk) 0 (.int .u8 (l'[k]'hk)) (List.getElem?_eq_getElem hk) rfl
    have e1 : loc3.base + k * EC.size (.int .u8) + 0 = loc3.base + k := by show loc3.base + k * 1 + 0 = _; omega
    rw [e1, cell_of_row w' _ _ arr2 e2 (0, 0) harr2] at h1
    rw [h1]
    generalize f2 k 0 = z at h2
    cases h2
    rfl
  have hrel2 : Rel w' (Xs E [.dead, .cells (u8c l') e] [loc', { loc3 with kind := false }]) [.dead, .cells (u8c l') e] [loc', { loc3 with kind := false }] := by
    refine ⟨rfl, fun id cs e1 l1 g1 g2 => ?_, fun id m sz l1 g1 g2 => ?_, fun id sh vs l1 g1 g2 => ?_, fun i j l1 l2 g1 g2 g3 g4 _ => ?_⟩
    · match id, g1, g2 with
      | 0, g1, _ => simp at g1
      | 1, g1, g2 =>
        have q1 : u8c l' = cs ∧ e = e1 := by simpa using g1
        have q2 : l1 = { loc3 with kind := false } := by simpa using g2.symm
        obtain ⟨rfl, rfl⟩ := q1
        subst q2
        refine ⟨rfl, arr2, e2, harr2, hsz2, ⟨?_, fun h => absurd (Nat.lt_of_lt_of_le he h) (Nat.lt_irrefl _)⟩, fun k v hv => ?_⟩
        · show loc3.base + (u8c l').length ≤ loc3.size
          rw [List.length_map]
          omega
        · rw [List.getElem?_map] at hv
          obtain ⟨s, hs, rfl⟩ := Option.map_eq_some_iff.1 hv
          have hk1 : k < l'.length := (List.getElem?_eq_some_iff.1 hs).1
          refine ⟨_, hval k hk1, ?_⟩
          have : l'[k]'hk1 = s := (List.getElem?_eq_some_iff.1 hs).2
          rw [this]
          exact .int _ _ _
      | id + 2, g1, _ => simp at g1
    · match id, g1 with
      | 0, g1 => simp at g1
      | 1, g1 => simp at g1
      | id + 2, g1 => simp at g1
    · match id, g1 with
      | 0, g1 => simp at g1
      | 1, g1 => simp at g1
      | id + 2, g1 => simp at g1
    · obtain ⟨o1, q1, q1'⟩ := g1
      obtain ⟨o2, q2, q2'⟩ := g2
      have one : ∀ {i : Nat} {o : O}, ([.dead, .cells (u8c l') e] : List O)[i]? = some o → o ≠ .dead → i = 1 := by
        intro i o h1 h2
        match i, h1 with
        | 0, h1 => exact absurd (by simpa using h1.symm) h2
        | 1, _ => rfl
        | i + 2, h1 => simp at h1
      rw [one q1 q1', one q2 q2']
  have hstep : Step E [.cells (u8c l) e] [loc'] w [.dead, .cells (u8c l') e] [loc', { loc3 with kind := false }] w' := by
    refine ⟨hrel2, hg'.step.os, hg'.step.tape, hg'.step.output, hg'.step.size, fun b hb => ?_, fun b o ho => ?_, ?_⟩
    · rcases hg'.step.pres b hb with h1 | ⟨⟨o, h1⟩, c1, c2, e4, q1, q2, q3, q4⟩ | ⟨⟨o, h1⟩, q⟩
      · exact .inl h1
      · exact .inr (.inl ⟨⟨o, ownC b o h1⟩, c1, c2, e4, q1, q2, q3, fun o ho => q4 o fun h2 => ho (ownC b o h2)⟩)
      · exact .inr (.inr ⟨⟨o, ownC b o h1⟩, q⟩)
    · obtain ⟨id, l1, q1, q2, q3⟩ := ho
      match id, q1, q3 with
      | 0, _, q3 => rcases q3 with ⟨_, _, q3⟩ | ⟨_, _, q3, _⟩ | ⟨_, _, q3⟩ <;> simp at q3
      | 1, q1, _ =>
        have q4 : l1 = { loc3 with kind := false } := by simpa using q1.symm
        subst q4
        have q2 : loc3.block = b := q2
        rw [← q2]
        exact hown2 o
      | id + 2, q1, _ => simp at q1
    · intro id l1 q1
      match id, q1 with
      | 0, q1 => exact ⟨l1, q1, .inl rfl⟩
      | id + 1, q1 => simp at q1
  refine ⟨[(d, .ref 1 1 0 l'.length)], _, _, hQ l' hφ, hG.step.trans hstep, ⟨hg'.fr.size, fun d2 => ?_⟩, hg'.defers⟩
  by_cases hd : d2 = d
  · subst hd
    rw [hx2]
    have : get d2 [(d2, V.ref 1 1 0 l'.length)] = .ref 1 1 0 l'.length := by simp [get]
    rw [this]
    refine .ref _ 1 1 0 l'.length { loc3 with kind := false } _ _ cap2 rfl rfl hcap2 (fun _ => ⟨rfl, by simp⟩) ?_
    show loc3.base + 0 + cap2 * 1 ≤ loc3.size
    omega
  · have : get d2 [(d, V.ref 1 1 0 l'.length)] = .any := by simp [get, nbeq_ne hd]
    rw [this]
    exact .any _ _
theorem mcall_own8 {P : Program} {f : Nat} {args : List V} {l : List Int} {k : IntKind} {m : Int} (e : TypeId) (he : e < 4294967296) (h : MCall P f args [] (.ok (.tup [.gro 0 (.int .u8) l, .int k m]) [.tok l.length 1])) :
    MCall P f args [] (.ok (.tup [.ref 0 1 0 l.length, .int k m]) [.cells (u8c l) e]) := by
  obtain ⟨hnorm, hc⟩ := h
  refine ⟨hnorm, fun w E β rargs hE hR hl hv => (hc w E β rargs hE hR hl hv).mono ?_⟩
  rintro ev w' ⟨y, β', rfl, st, hr⟩
  have hβ : β = [] := by
    have := hR.len
    exact List.length_eq_zero_iff.1 this.symm
  subst hβ
  obtain ⟨loc2, rfl⟩ : ∃ loc2, β' = [loc2] := by
    have := st.rel.len
    match β', this with
    | [loc2], _ => exact ⟨loc2, rfl⟩
  cases hr with
  | tup _ _ xs hxl hx =>
  match xs, hxl with
  | [x0, x1], _ =>
  have h0 := hx 0 _ x0 rfl rfl
  have h1 := hx 1 _ x1 rfl rfl
  cases h0 with
  | gro _ _ _ _ b o cap loc f hid hk hn hlb hcap hcells hvals =>
    have e3 : loc = loc2 := by simpa using hid.symm
    subst e3
    obtain ⟨_, hloc, arr, e', harr, hsz⟩ := st.rel.tok 0 _ _ loc rfl rfl
    obtain ⟨rfl, rfl, hcs⟩ := hlb hloc
    have hcs : loc.base + cap * 1 ≤ loc.size := hcs
    have hcap : @List.length Int l ≤ cap := hcap
    have hblock : w.heap.size ≤ loc.block := by
      rcases st.own loc.block (loc.base + l.length * 1) ⟨0, loc, rfl, rfl, .inr (.inl ⟨l.length, 1, rfl, Nat.le_refl _⟩)⟩ with h | h
      · exact absurd h (own_nil _ _)
      · exact h
    have hval : ∀ k, (hk : k < l.length) → arr[loc.base + k]? = some (.int .u8 (l[k]'hk)) := by
      intro k hk
      have h1 := (hcells k 0 hk (by show 0 < 1; omega)).2
      have h2 := hvals k (l[k]'hk) 0 (.int .u8 (l[k]'hk)) (List.getElem?_eq_getElem hk) rfl
      have e1 : loc.base + k * EC.size (.int .u8) + 0 = loc.base + k := by show loc.base + k * 1 + 0 = _; omega
      rw [e1, cell_of_row w' _ _ arr e' (0, 0) harr] at h1
      rw [h1]
      generalize f k 0 = z at h2
      cases h2
      rfl
    have hlen1 : ∀ {id : Nat} {x : O}, [O.cells (u8c l) e][id]? = some x → id = 0 ∧ x = .cells (u8c l) e := by
      intro id x hx
      cases id with
      | zero => exact ⟨rfl, (Option.some.inj hx).symm⟩
      | succ id => simp at hx
    have hloc1 : ∀ {id : Nat} {x : Loc}, [({ loc with kind := false } : Loc)][id]? = some x → id = 0 ∧ x = { loc with kind := false } := by
      intro id x hx
      cases id with
      | zero => exact ⟨rfl, (Option.some.inj hx).symm⟩
      | succ id => simp at hx
    refine ⟨_, [{ loc with kind := false }], rfl, ⟨⟨rfl, ?_, ?_, ?_, ?_⟩, st.os, st.tape, st.output, st.size, ?_, ?_, .nil _⟩, ?_⟩
    · intro id cs e2 loc2 g1 g2
      obtain ⟨rfl, k1⟩ := hlen1 g1
      obtain ⟨_, rfl⟩ := hloc1 g2
      cases k1
      refine ⟨rfl, arr, e', harr, hsz, ⟨?_, fun h => absurd (Nat.lt_of_lt_of_le he h) (Nat.lt_irrefl _)⟩, fun k v hv => ?_⟩
      · show loc.base + (u8c l).length ≤ loc.size
        rw [List.length_map]
        omega
      · rw [List.getElem?_map] at hv
        obtain ⟨s, hs, rfl⟩ := Option.map_eq_some_iff.1 hv
        have hk1 : k < l.length := (List.getElem?_eq_some_iff.1 hs).1
        refine ⟨_, hval k hk1, ?_⟩
        have : l[k]'hk1 = s := (List.getElem?_eq_some_iff.1 hs).2
        rw [this]
        exact .int _ _ _
    · intro id n sz loc2 g1 g2
      obtain ⟨_, k1⟩ := hlen1 g1
      cases k1
    · intro id sh vs loc2 g1 g2
      obtain ⟨_, k1⟩ := hlen1 g1
      cases k1
    · intro i j l1 l2 hi hj _ _ _
      obtain ⟨x, hx, _⟩ := hi
      obtain ⟨x', hx', _⟩ := hj
      rw [(hlen1 hx).1, (hlen1 hx').1]
    · intro b hb
      rcases st.pres b hb with h | ⟨⟨o, h⟩, _⟩ | ⟨⟨o, h⟩, _⟩
      · exact .inl h
      · exact absurd h (own_nil b o)
      · exact absurd h (own_nil b o)
    · rintro b o ⟨id, l1, g1, g2, _⟩
      obtain ⟨_, rfl⟩ := hloc1 g1
      exact .inr (g2 ▸ hblock)
    · refine .tup _ _ [_, x1] rfl fun j v x h2 h3 => ?_
      match j, h2, h3 with
      | 0, h2, h3 =>
        have e1 : V.ref 0 1 0 l.length = v := by simpa using h2
        have e2 : Value.slice (some ⟨loc.block, loc.base, none⟩) (@List.length Int l) cap = x := by
          have h3 := Option.some.inj h3
          exact h3
        subst e1
        subst e2
        exact .ref _ 0 1 0 _ { loc with kind := false } _ _ _ rfl rfl hcap (fun _ => ⟨rfl, by simp⟩) (by show loc.base + 0 + cap * 1 ≤ loc.size; omega)
      | 1, h2, h3 =>
        have e1 : V.int k m = v := by simpa using h2
        have e2 : x1 = x := Option.some.inj h3
        subst e1
        subst e2
        cases h1
        exact .int _ _ _
      | j + 2, h2, _ => simp at h2
end Go.Ab

namespace Go.Amd
open Go Go.Ab Go.Proofs
noncomputable def cx9 : Cx := { P := Try.prog, n := 26, tab := [], mtab := [], refs := [], keeps := [0, 2, 3, 13, 20] }
noncomputable def cxSz : Cx := { cx9 with lz := [25] }
theorem cxSp_ok : CxOk cx9 := cx0_ok rfl rfl
theorem cxSz_ok : CxOk cxSz := cx0_ok rfl rfl
noncomputable abbrev Bsp : Code := bodyOf Try.f9
def spOpsOf : Code → Array Oper
  | .region _ ops _ => ops
  | _ => #[]
noncomputable abbrev spOps : Array Oper := spOpsOf (c1 Bsp)
theorem sp0_eq (m N e : Nat) (cs : List V) : (druns cx9 spOps (spOps.toList.drop 2) (put 5 (.int .i64 N) (put 4 (.ref 0 1 0 m) [(0, .ref 0 1 0 m)])) [.cells cs e]).fin =
    some (.normal, [(0, .ref 0 1 0 m), (2, .int .i64 (if IntKind.wrap .i64 ((m : Nat) + 2000) < (N : Nat) then IntKind.wrap .i64 ((m : Nat) + 2000) else (N : Nat)))], [.cells cs e]) := by kernel_rfl
def sp1 (l : List Int) (M : Int) : Tree St :=
  (.br (decide (↑(List.length l) < M)) (.br (decide (List.length l = List.length l) && roomy (List.length l + 1) 1) (.leaf (.normal, [(0, (.gro 0 (.int .u8) (l ++ [0]))), (2, (.int .i64 M)), (13, (.bool true))], [(.tok (List.length l + 1) 1)])) .fail) (.leaf ((.exit 0), [(0, (.gro 0 (.int .u8) l)), (2, (.int .i64 M)), (13, (.bool false))], [(.tok (List.length l) 1)])))
theorem sp1_eq (l : List Int) (M : Int) : (dcode cx9 (cin (cin (c1 (c2 Bsp)))) [(0, .gro 0 (.int .u8) l), (2, .int .i64 M)] [.tok l.length 1]).run = (sp1 l M).run :=
  (show (dcode cx9 (cin (cin (c1 (c2 Bsp)))) [(0, .gro 0 (.int .u8) l), (2, .int .i64 M)] [.tok l.length 1]).run = (sp1 l M).out by kernel_rfl).trans (Tree.out_run _)
def sp2 (l : List Int) (m : Nat) (i : Int) (e : Nat) : Tree St :=
  .br (decide (i < m)) (.br (inside i m) (.br (isIntAt .u8 (u8c l) (0 + Int.toNat i * 1)) (.leaf (.normal, [(0, .ref 1 1 0 m), (3, .int .i64 (IntKind.wrap .i64 (i + 1))), (20, .bool true)], [.dead, .cells (setI .u8 (0 + Int.toNat i * 1) 238 0 (u8c l)) e])) .fail) .fail)
    (.leaf (.exit 2, [(0, .ref 1 1 0 m), (3, .int .i64 i), (20, .bool false)], [.dead, .cells (u8c l) e]))
theorem sp2_eq (l : List Int) (m : Nat) (i : Int) (e : Nat) : (dcode cxSz (cin (cin (c2 (c2 (c2 Bsp))))) [(0, .ref 1 1 0 m), (3, .int .i64 i)] [.dead, .cells (u8c l) e]).run = (sp2 l m i e).run :=
  (show _ = (sp2 l m i e).out by kernel_rfl).trans (Tree.out_run _)
set_option maxRecDepth 8000 in
theorem sp_loop1 {M : Int} (hM : M < 1000000) {φ : AEx → T → List O → Prop} (hφ : ∀ l : List Int, l.length < 1000000 → φ (.exit 0) [(0, .gro 0 (.int .u8) l), (2, .int .i64 M), (13, .bool false)] [.tok l.length 1]) (l : List Int) (hl : l.length < 1000000) :
    AWP Try.prog Try.f9.ntmps (.loop (cin (cin (c1 (c2 Bsp))))) φ [(0, .gro 0 (.int .u8) l), (2, .int .i64 M)] [.tok l.length 1] := by
  refine AWP_rounds (cx := cx9) rfl rfl cxSp_ok (fun l : { l : List Int // l.length < 1000000 } => ([(0, .gro 0 (.int .u8) l.1), (2, .int .i64 M)], [.tok l.1.length 1])) (fun l => 1000000 - l.1.length) ?_ ⟨l, hl⟩
  rintro ⟨l, hl⟩
  refine Tree.all_run_eq (sp1_eq l M) ?_
  refine ⟨fun hlt => ?_, fun hge => ?_⟩
  · have hlt := of_decide_eq_true hlt
    refine all_t ?_ ?_
    · rw [Bool.and_eq_true]
      exact ⟨decide_eq_true rfl, decide_eq_true (by omega)⟩
    · refine ⟨[], _, rfl, ⟨⟨l ++ [0], ?_⟩, ?_, ?_, ?_⟩⟩
      · rw [List.length_append]
        show l.length + 1 < 1000000
        omega
      · show 1000000 - (l ++ [0]).length < 1000000 - l.length
        rw [List.length_append]
        show 1000000 - (l.length + 1) < _
        omega
      · exact Fits.tle ⟨rfl, rfl, trivial⟩
      · show [O.tok (l.length + 1) 1] = [O.tok (l ++ [0]).length 1]
        rw [List.length_append]
        rfl
  · exact ⟨[], _, rfl, hφ l hl⟩
set_option maxRecDepth 8000 in
theorem sp_loop2 {m e : Nat} (hm : m < 1000000) {φ : AEx → T → List O → Prop} (hφ : ∀ (l : List Int) (i : Int), φ (.exit 2) [(0, .ref 1 1 0 m), (3, .int .i64 i), (20, .bool false)] [.dead, .cells (u8c l) e]) (l : List Int) (hl : l.length = m) :
    AWP Try.prog Try.f9.ntmps (.loop (cin (cin (c2 (c2 (c2 Bsp)))))) φ [(0, .ref 1 1 0 m), (3, .int .i64 ((0 : Nat) : Int))] [.dead, .cells (u8c l) e] := by
  refine AWP_loop (n := Try.f9.ntmps) (P := Try.prog) (fun p : { p : List Int × Nat // p.1.length = m ∧ p.2 ≤ m } => ([(0, .ref 1 1 0 m), (3, .int .i64 (p.1.2 : Int))], [.dead, .cells (u8c p.1.1) e])) (fun p => m - p.1.2) (fun p => ?_) ⟨(l, 0), hl, Nat.zero_le _⟩
  obtain ⟨⟨l, i⟩, hl, hi⟩ := p
  have hl : l.length = m := hl
  have hi : i ≤ m := hi
  refine AWP_code (cx := cxSz) rfl rfl cxSz_ok _ _ _ _ (Tree.all_run_eq (sp2_eq l m i e) ?_)
  refine ⟨fun hlt => ?_, fun hge => ?_⟩
  · have hlt : i < m := Int.ofNat_lt.1 (of_decide_eq_true hlt)
    refine all_t (inside_of (Int.natCast_nonneg i) (Int.ofNat_lt.2 hlt)) (all_t ?_ ?_)
    · have := isIntAt_row (k := .u8) (l := []) (m := []) (xs := l) (o := 0 + Int.toNat (i : Int) * 1) (Nat.zero_le _) (by rw [Int.toNat_natCast]; simp; omega)
      rw [List.nil_append, List.append_nil] at this
      exact this
    · have hset : setI .u8 (0 + Int.toNat (i : Int) * 1) 238 0 (u8c l) = u8c (l.set i 238) := by
        have := setI_in (k := .u8) (o := 0 + Int.toNat (i : Int) * 1) (x := 238) l 0 (Nat.zero_le _) (by rw [Int.toNat_natCast]; omega)
        rw [this]
        congr 2
        rw [Int.toNat_natCast]
        omega
      refine ⟨⟨(l.set i 238, i + 1), by show (l.set i 238).length = m; rw [List.length_set, hl], hlt⟩, by show m - (i + 1) < m - i; omega, ?_, ?_⟩
      · refine Fits.tle ⟨rfl, ?_, trivial⟩
        show V.int .i64 (IntKind.wrap .i64 ((i : Int) + 1)) = V.int .i64 ((i + 1 : Nat) : Int)
        rw [wrap_i64 (by omega) (by omega)]
        rfl
      · show [O.dead, O.cells (setI .u8 (0 + Int.toNat (i : Int) * 1) 238 0 (u8c l)) e] = [O.dead, O.cells (u8c (l.set i 238)) e]
        rw [hset]
  · exact hφ l i
set_option maxRecDepth 8000 in
theorem spoil_ok {l : List Int} {e : Nat} (he : e < 4294967296) (h1 : 1 ≤ l.length) (h2 : l.length ≤ 1000) :
    MCall Try.prog 9 [.ref 0 1 0 l.length] [.cells (u8c l) e] (.ok (.tup []) [.dead]) := by
  refine mcall_of' (c := Bsp) (fn := Try.f9) (by kernel_rfl) (by kernel_rfl) (by kernel_rfl) (by kernel_rfl) ?_
  refine AWP_scope ?_
  generalize hQ : (fun (e' : AEx) (t : T) (H : List O) => ∃ κ s, dropS [O.cells (u8c l) e].length κ (e', t, H) = some s ∧ MPost Try.prog Try.f9 (.ok (.tup []) [.dead]) s.1 s.2.1 s.2.2) = Q
  have e0 : Bsp = .seq (.region 0 spOps false) (.seq (.block 0 (.loop (cin (cin (c1 (c2 Bsp)))))) (.seq (c1 (c2 (c2 Bsp))) (.block 2 (.loop (cin (cin (c2 (c2 (c2 Bsp))))))))) := by kernel_rfl
  have fin : ∀ l' : List Int, l'.length < 1000000 → AWP Try.prog Try.f9.ntmps (.seq (c1 (c2 (c2 Bsp))) (.block 2 (.loop (cin (cin (c2 (c2 (c2 Bsp)))))))) Q [(0, .ref 1 1 0 l'.length)] [.dead, .cells (u8c l') e] := by
    intro l' hl'
    refine AWP_seq (AWP_run (cx := cx9) rfl rfl cxSp_ok (s := (.normal, [(0, .ref 1 1 0 l'.length), (3, .int .i64 ((0 : Nat) : Int))], [.dead, .cells (u8c l') e])) (by kernel_rfl) ?_)
    show AWP _ _ _ _ _ _
    refine AWP_block (sp_loop2 hl' (fun l'' i => ?_) l' rfl)
    subst hQ
    refine ⟨[], (.normal, [(0, .any), (3, .int .i64 i), (20, .bool false)], [.dead]), by kernel_rfl, .inr rfl, rfl, by kernel_rfl⟩
  rw [e0]
  refine AWP_seq (AWP_cap (cx := cx9) rfl rfl cxSp_ok (o0 := spOps.getD 0 default) (o1 := spOps.getD 1 default) (r := spOps.toList.drop 2) (d0 := 4) (d1 := 5) (x := .tmp 0) (ats := #[24]) (ty := 24) (el := 5) (g := 0) (sz := 1) (off := 0) (m := l.length)
    (by kernel_rfl) (by kernel_rfl) (by kernel_rfl) (by kernel_rfl) (by decide) (by kernel_rfl) (by kernel_rfl) (by kernel_rfl) (by decide) (by kernel_rfl) (by kernel_rfl) rfl ?_)
  intro N hN
  refine Tree.run_all ((Tree.fin_run _).symm.trans (sp0_eq l.length N e (u8c l))) ?_
  show AWP _ _ _ _ _ _
  rw [wrap_i64 (n := (l.length : Int) + 2000) (by omega) (by omega)]
  generalize hM : (if ((l.length : Nat) : Int) + 2000 < (N : Nat) then ((l.length : Nat) : Int) + 2000 else (N : Nat)) = M
  have hM : M < 1000000 := by
    split at hM <;> omega
  exact AWP_seq (AWP_own8 (φ := fun l' => l'.length < 1000000) he h1 (by decide) (AWP_block (sp_loop1 hM (fun l' hl' => ⟨rfl, l', rfl, rfl, hl'⟩) l (by omega))) fun l' hl' => fin l' hl')
end Go.Amd

namespace Go.Amd
open Go Go.Ab Go.Proofs
noncomputable def groA (fn : Func) : St → Tree V
  | (.ret, t, H) => match answerI Try.prog fn.results.toList H t with
    | some (.gro id _ _) => match dropS 0 [id] (.ret, t, H) with
      | some (.ret, t', H') => match H', answerI Try.prog fn.results.toList H' t' with
        | [.tok m 1], some (.gro 0 (.int .u8) l) => cond (Nat.beq m l.length) (.leaf (.sl (.int .u8) l [] .ro)) .fail
        | _, _ => .fail
      | _ => .fail
    | _ => .fail
  | _ => .fail
def GroA (f : Nat) (args : List V) : V → Prop
  | .sl (.int .u8) l [] .ro => MCall Try.prog f args [] (.ok (.gro 0 (.int .u8) l) [.tok l.length 1])
  | _ => True
theorem mcall_gro {cx : Cx} {f : Nat} {fn : Func} {args : List V} {v : V} (hP : cx.P = Try.prog) (hT : CxOk cx) (hf : cx.P.funcs[f]? = some fn) (hb : fn.body = some (bodyOf fn)) (hname : (fn.name == "runtime.NumGoroutine") = false) (hn : Nat.ble args.length fn.ntmps = true)
    (h : ((dcode { cx with n := fn.ntmps } (bodyOf fn) (initT 0 args) []).bind (groA fn)).run = some v) : GroA f args v := by
  obtain ⟨s, h1, h2⟩ := bind_run h
  have call : ∀ {κ : List Nat} {t' : T} {H' : List O} {u : V}, dropS 0 κ s = some (.ret, t', H') → answerI Try.prog fn.results.toList H' t' = some u → MCall Try.prog f args [] (.ok u H') := by
    intro κ t' H' u hd ha
    have := mcall_of' (P := cx.P) (args := args) (H := []) (r := .ok u H') hf hb hname hn (AWP_scope (AWP_run (cx := { cx with n := fn.ntmps }) rfl rfl hT h1 ⟨κ, _, hd, .inl rfl, rfl, by rw [hP]; exact ha⟩))
    rw [hP] at this
    exact this
  obtain ⟨e, t, H⟩ := s
  unfold groA at h2
  split at h2
  rotate_left
  · cases h2
  rename_i heq
  cases heq
  split at h2
  rotate_left
  · cases h2
  rename_i id c l0 ha
  split at h2
  rotate_left
  · cases h2
  rename_i t' H' hd
  split at h2
  rotate_left
  · cases h2
  rename_i m l' ha'
  cases hm : Nat.beq m l'.length
  · rw [hm] at h2; cases h2
  · rw [hm] at h2
    have e2 := Option.some.inj h2
    subst e2
    have e1 := Nat.eq_of_beq_eq_true hm
    subst e1
    exact call hd ha'
end Go.Amd

namespace Go.Amd
open Go Go.Ab Go.Proofs
noncomputable abbrev bgE (nm : List UInt8) (k : Int × Int × Bool) (op dg lo hi : Int) (os i : List UInt8) (a b c d n : Int) : Tree V :=
  (dcode { cx18 with n := Try.f18.ntmps } (bodyOf Try.f18) (initT 0 [.agg (rowL (nm, k.2.1, op, k.1, dg, k.2.2, lo, hi, os)), .agg [.str i, .int .i64 a, .int .i64 b, .int .i64 c, .int .i64 d, .int .i64 n]]) []).bind (groA Try.f18)
theorem bg_0 : ((kindsB.drop 0).take 7).map (fun k nm op dg lo hi os i a b c d n => (bgE nm k.1 op dg lo hi os i a b c d n).out) =
    ((kindsB.drop 0).take 7).map (fun k _ op dg _ _ _ _ a b c d n => (bytesH k.2 op dg a b c d n).out) := by kernel_rfl
theorem bg_1 : ((kindsB.drop 7).take 5).map (fun k nm op dg lo hi os i a b c d n => (bgE nm k.1 op dg lo hi os i a b c d n).out) =
    ((kindsB.drop 7).take 5).map (fun k _ op dg _ _ _ _ a b c d n => (bytesH k.2 op dg a b c d n).out) := by kernel_rfl
theorem bg_2 : ((kindsB.drop 12).take 1).map (fun k nm op dg lo hi os i a b c d n => (bgE nm k.1 op dg lo hi os i a b c d n).out) =
    ((kindsB.drop 12).take 1).map (fun k _ op dg _ _ _ _ a b c d n => (bytesH k.2 op dg a b c d n).out) := by kernel_rfl
theorem bg_3 : ((kindsB.drop 13).take 1).map (fun k nm op dg lo hi os i a b c d n => (bgE nm k.1 op dg lo hi os i a b c d n).out) =
    ((kindsB.drop 13).take 1).map (fun k _ op dg _ _ _ _ a b c d n => (bytesH k.2 op dg a b c d n).out) := by kernel_rfl
theorem bg_4 : ((kindsB.drop 14).take 1).map (fun k nm op dg lo hi os i a b c d n => (bgE nm k.1 op dg lo hi os i a b c d n).out) =
    ((kindsB.drop 14).take 1).map (fun k _ op dg _ _ _ _ a b c d n => (bytesH k.2 op dg a b c d n).out) := by kernel_rfl
theorem bg_5 : ((kindsB.drop 15).take 5).map (fun k nm op dg lo hi os i a b c d n => (bgE nm k.1 op dg lo hi os i a b c d n).out) =
    ((kindsB.drop 15).take 5).map (fun k _ op dg _ _ _ _ a b c d n => (bytesH k.2 op dg a b c d n).out) := by kernel_rfl
theorem bg_kinds : kindsB.map (fun k nm op dg lo hi os i a b c d n => (bgE nm k.1 op dg lo hi os i a b c d n).out) =
    kindsB.map (fun k _ op dg _ _ _ _ a b c d n => (bytesH k.2 op dg a b c d n).out) :=
  kinds_all bg_0 bg_1 bg_2 bg_3 bg_4 bg_5
def bytesGS : MSpec := fun args H => match args, H with
  | [.agg [.str nm, .int .i64 rex, .int .u16 op, .int .i64 f, .int .u8 dg, .bool cn, .int .i64 lo, .int .i64 hi, .str ops], .agg [.str i, .int .i64 a, .int .i64 b, .int .i64 c, .int .i64 d, .int .i64 n]], [] =>
    .req (kindOk (nm, rex, op, f, dg, cn, lo, hi, ops)) (.req (decide (d ≤ 16)) (.leaf (.ok (.gro 0 (.int .u8) (bytesF (nm, rex, op, f, dg, cn, lo, hi, ops) (i, a, b, c, d, n))) [.tok (bytesF (nm, rex, op, f, dg, cn, lo, hi, ops) (i, a, b, c, d, n)).length 1])))
  | _, _ => .fail
theorem bytesGS_ok : MSound Try.prog 18 bytesGS := by
  intro args H out h
  unfold bytesGS at h
  split at h
  rotate_left
  · cases h
  rename_i nm rex op f dg cn lo hi ops i a b c d n
  obtain ⟨h1, h⟩ := req_run h
  obtain ⟨h2, h⟩ := req_run h
  have h := leaf_out h
  subst h
  obtain ⟨⟨k, p⟩, hk, he⟩ := kind_mem h1
  have e := congrFun (congrFun (congrFun (congrFun (congrFun (congrFun (congrFun (congrFun (congrFun (congrFun (congrFun (congrFun (List.map_inj_left.1 bg_kinds _ hk) nm) op) dg) lo) hi) ops) i) a) b) c) d) n
  simp only at he
  subst he
  exact mcall_gro (cx := cx18) (fn := Try.f18) rfl cxBy_ok (by kernel_rfl) (by kernel_rfl) (by kernel_rfl) (by kernel_rfl)
    ((Tree.out_run _).symm.trans (e.trans ((Tree.out_run _).trans (bytesH_run hk rfl (i, a, b, c, d, n) (of_decide_eq_true h2)))))
end Go.Amd

namespace Go.Amd
open Go Go.Ab Go.Proofs
def parO (k : Nat) (rexed : Bool) : O := .cells [nilSl, .int .i64 0, .int .i64 0, .int .i64 0, .int .i64 0, .ref 2 1 0 k, nilSl, .bool rexed] 84
def opO (op : List Int) : O := .cells (op.map (V.int .u8)) 0
noncomputable abbrev bdE (q : List UInt8 → Bool) (f : Int) (op : List Int) (rx : Int) (x : List UInt8) (dg : Int) (nm : List UInt8) (a b c d n : Int) : Tree V :=
  (dcode (cxBd q f x op dg rx) (tailN 2 Bbd) [(1, .ptr 0 0), (3, .ptr 1 0), (5, .ptr 3 0)] [insOb nm a b c d n, rowOb f x op dg rx, opO op, parO op.length (decide (0 < rx))]).bind (answer Try.prog Try.f20.results.toList)
def bt1_12 (_x : List UInt8) (_dg : Int) (_nm : List UInt8) (a b _c _d _n o : Int) : Tree V :=
  (.leaf (.sl (.int .u8) ([IntKind.wrap IntKind.u8 (IntKind.wrap IntKind.i64 (IntKind.wrap IntKind.i64 (IntKind.wrap IntKind.i64 (IntKind.wrap IntKind.i64 (64 + IntKind.wrap IntKind.i64 (8 * 1)) + IntKind.wrap IntKind.i64 (4 * IntKind.wrap IntKind.i64 (Int.tdiv b 8))) + IntKind.wrap IntKind.i64 (2 * 0)) + IntKind.wrap IntKind.i64 (Int.tdiv a 8)))] ++ [o] ++ [dirB b a]) ([]) Fl.ro))
theorem bt1_12_eq (q : List UInt8 → Bool) (x : List UInt8) (dg : Int) (nm : List UInt8) (a b c d n o : Int) : (bdE q 1 [o] 2 x dg nm a b c d n).run = (bt1_12 x dg nm a b c d n o).run :=
  (show (bdE q 1 [o] 2 x dg nm a b c d n).run = (bt1_12 x dg nm a b c d n o).out by kernel_rfl).trans (Tree.out_run _)
def bt7_22 (_x : List UInt8) (_dg : Int) (_nm : List UInt8) (a b _c d _n o p : Int) : Tree V :=
  (.leaf (.sl (.int .u8) ([IntKind.wrap IntKind.u8 (IntKind.wrap IntKind.i64 (IntKind.wrap IntKind.i64 (IntKind.wrap IntKind.i64 (IntKind.wrap IntKind.i64 (64 + IntKind.wrap IntKind.i64 (8 * 1)) + IntKind.wrap IntKind.i64 (4 * IntKind.wrap IntKind.i64 (Int.tdiv a 8))) + IntKind.wrap IntKind.i64 (2 * 0)) + IntKind.wrap IntKind.i64 (Int.tdiv b 8)))] ++ [o, IntKind.wrap IntKind.u8 (p + IntKind.wrap IntKind.u8 d)] ++ [dirB a b]) ([]) Fl.ro))
theorem bt7_22_eq (q : List UInt8 → Bool) (x : List UInt8) (dg : Int) (nm : List UInt8) (a b c d n o p : Int) : (bdE q 7 [o, p] 2 x dg nm a b c d n).run = (bt7_22 x dg nm a b c d n o p).run :=
  (show (bdE q 7 [o, p] 2 x dg nm a b c d n).run = (bt7_22 x dg nm a b c d n o p).out by kernel_rfl).trans (Tree.out_run _)
def bt11_22 (_x : List UInt8) (_dg : Int) (_nm : List UInt8) (a b _c d _n o p : Int) : Tree V :=
  (.leaf (.sl (.int .u8) ([IntKind.wrap IntKind.u8 (IntKind.wrap IntKind.i64 (IntKind.wrap IntKind.i64 (IntKind.wrap IntKind.i64 (IntKind.wrap IntKind.i64 (64 + IntKind.wrap IntKind.i64 (8 * 1)) + IntKind.wrap IntKind.i64 (4 * IntKind.wrap IntKind.i64 (Int.tdiv a 8))) + IntKind.wrap IntKind.i64 (2 * 0)) + IntKind.wrap IntKind.i64 (Int.tdiv b 8)))] ++ [o, IntKind.wrap IntKind.u8 (p + IntKind.wrap IntKind.u8 d)] ++ [dirB a b]) ([]) Fl.ro))
theorem bt11_22_eq (q : List UInt8 → Bool) (x : List UInt8) (dg : Int) (nm : List UInt8) (a b c d n o p : Int) : (bdE q 11 [o, p] 2 x dg nm a b c d n).run = (bt11_22 x dg nm a b c d n o p).run :=
  (show (bdE q 11 [o, p] 2 x dg nm a b c d n).run = (bt11_22 x dg nm a b c d n o p).out by kernel_rfl).trans (Tree.out_run _)
def bt2_12 (_x : List UInt8) (_dg : Int) (_nm : List UInt8) (a _b _c _d n o : Int) : Tree V :=
  (.leaf (.sl (.int .u8) (([IntKind.wrap IntKind.u8 (IntKind.wrap IntKind.i64 (IntKind.wrap IntKind.i64 (IntKind.wrap IntKind.i64 (IntKind.wrap IntKind.i64 (64 + IntKind.wrap IntKind.i64 (8 * 1)) + IntKind.wrap IntKind.i64 (4 * 0)) + IntKind.wrap IntKind.i64 (2 * 0)) + IntKind.wrap IntKind.i64 (Int.tdiv a 8)))] ++ [IntKind.wrap IntKind.u8 (o + IntKind.wrap IntKind.u8 (Int.tmod a 8))] ++ fx8 (IntKind.wrap IntKind.u64 n))) ([]) Fl.ro))
theorem bt2_12_eq (q : List UInt8 → Bool) (x : List UInt8) (dg : Int) (nm : List UInt8) (a b c d n o : Int) : (bdE q 2 [o] 2 x dg nm a b c d n).run = (bt2_12 x dg nm a b c d n o).run :=
  (show (bdE q 2 [o] 2 x dg nm a b c d n).run = (bt2_12 x dg nm a b c d n o).out by kernel_rfl).trans (Tree.out_run _)
def bt3_12 (_x : List UInt8) (dg : Int) (_nm : List UInt8) (a _b _c _d n o : Int) : Tree V :=
  (.leaf (.sl (.int .u8) (([IntKind.wrap IntKind.u8 (IntKind.wrap IntKind.i64 (IntKind.wrap IntKind.i64 (IntKind.wrap IntKind.i64 (IntKind.wrap IntKind.i64 (64 + IntKind.wrap IntKind.i64 (8 * 1)) + IntKind.wrap IntKind.i64 (4 * 0)) + IntKind.wrap IntKind.i64 (2 * 0)) + IntKind.wrap IntKind.i64 (Int.tdiv a 8)))] ++ [o] ++ ([dirB dg a] ++ sub (fx8 (IntKind.wrap IntKind.u64 n) ++ []) 0 4))) ([]) Fl.ro))
theorem bt3_12_eq (q : List UInt8 → Bool) (x : List UInt8) (dg : Int) (nm : List UInt8) (a b c d n o : Int) : (bdE q 3 [o] 2 x dg nm a b c d n).run = (bt3_12 x dg nm a b c d n o).run :=
  (show (bdE q 3 [o] 2 x dg nm a b c d n).run = (bt3_12 x dg nm a b c d n o).out by kernel_rfl).trans (Tree.out_run _)
def bt5_12 (_x : List UInt8) (_dg : Int) (_nm : List UInt8) (a _b _c _d n o : Int) : Tree V :=
  (.leaf (.sl (.int .u8) (([100] ++ [IntKind.wrap IntKind.u8 (IntKind.wrap IntKind.i64 (IntKind.wrap IntKind.i64 (IntKind.wrap IntKind.i64 (IntKind.wrap IntKind.i64 (64 + IntKind.wrap IntKind.i64 (8 * 1)) + IntKind.wrap IntKind.i64 (4 * IntKind.wrap IntKind.i64 (Int.tdiv a 8))) + IntKind.wrap IntKind.i64 (2 * 0)) + 0))] ++ [o] ++ ([IntKind.wrap IntKind.u8 ↑(BitVec.toNat (BitVec.ofInt 8 (IntKind.wrap IntKind.u8 (IntKind.wrap IntKind.u8 (Int.tmod a 8) * 2 ^ 3)) ||| BitVec.ofInt 8 4)), 37] ++ sub (fx8 (IntKind.wrap IntKind.u64 n) ++ []) 0 4))) ([]) Fl.ro))
theorem bt5_12_eq (q : List UInt8 → Bool) (x : List UInt8) (dg : Int) (nm : List UInt8) (a b c d n o : Int) : (bdE q 5 [o] 2 x dg nm a b c d n).run = (bt5_12 x dg nm a b c d n o).run :=
  (show (bdE q 5 [o] 2 x dg nm a b c d n).run = (bt5_12 x dg nm a b c d n o).out by kernel_rfl).trans (Tree.out_run _)
def bt6_12 (_x : List UInt8) (dg : Int) (_nm : List UInt8) (a _b _c _d n o : Int) : Tree V :=
  (.br (shortX n) (.leaf (.sl (.int .u8) (([IntKind.wrap IntKind.u8 (IntKind.wrap IntKind.i64 (IntKind.wrap IntKind.i64 (IntKind.wrap IntKind.i64 (IntKind.wrap IntKind.i64 (64 + IntKind.wrap IntKind.i64 (8 * 1)) + IntKind.wrap IntKind.i64 (4 * 0)) + IntKind.wrap IntKind.i64 (2 * 0)) + IntKind.wrap IntKind.i64 (Int.tdiv a 8)))] ++ [o] ++ ([dirB dg a] ++ [tI (List.getD (fx8 (IntKind.wrap IntKind.u64 n)) 0 (tI (EC.dflt (EC.int IntKind.u8))))]))) ([]) Fl.ro)) (.leaf (.sl (.int .u8) (([IntKind.wrap IntKind.u8 (IntKind.wrap IntKind.i64 (IntKind.wrap IntKind.i64 (IntKind.wrap IntKind.i64 (IntKind.wrap IntKind.i64 (64 + IntKind.wrap IntKind.i64 (8 * 1)) + IntKind.wrap IntKind.i64 (4 * 0)) + IntKind.wrap IntKind.i64 (2 * 0)) + IntKind.wrap IntKind.i64 (Int.tdiv a 8)))] ++ [129] ++ ([dirB dg a] ++ sub (fx8 (IntKind.wrap IntKind.u64 n) ++ []) 0 4))) ([]) Fl.ro)))
theorem bt6_12_eq (q : List UInt8 → Bool) (x : List UInt8) (dg : Int) (nm : List UInt8) (a b c d n o : Int) : (bdE q 6 [o] 2 x dg nm a b c d n).run = (bt6_12 x dg nm a b c d n o).run :=
  (show (bdE q 6 [o] 2 x dg nm a b c d n).run = (bt6_12 x dg nm a b c d n o).out by kernel_rfl).trans (Tree.out_run _)
def bt8_12 (_x : List UInt8) (dg : Int) (_nm : List UInt8) (a _b _c _d _n o : Int) : Tree V :=
  (.leaf (.sl (.int .u8) ([IntKind.wrap IntKind.u8 (IntKind.wrap IntKind.i64 (IntKind.wrap IntKind.i64 (IntKind.wrap IntKind.i64 (IntKind.wrap IntKind.i64 (64 + IntKind.wrap IntKind.i64 (8 * 1)) + IntKind.wrap IntKind.i64 (4 * 0)) + IntKind.wrap IntKind.i64 (2 * 0)) + IntKind.wrap IntKind.i64 (Int.tdiv a 8)))] ++ [o] ++ [dirB dg a]) ([]) Fl.ro))
theorem bt8_12_eq (q : List UInt8 → Bool) (x : List UInt8) (dg : Int) (nm : List UInt8) (a b c d n o : Int) : (bdE q 8 [o] 2 x dg nm a b c d n).run = (bt8_12 x dg nm a b c d n o).run :=
  (show (bdE q 8 [o] 2 x dg nm a b c d n).run = (bt8_12 x dg nm a b c d n o).out by kernel_rfl).trans (Tree.out_run _)
def bt8_10 (_x : List UInt8) (dg : Int) (_nm : List UInt8) (a _b _c _d _n o : Int) : Tree V :=
  (.br (decide (0 < IntKind.wrap IntKind.i64 (IntKind.wrap IntKind.i64 (0 + 0) + IntKind.wrap IntKind.i64 (Int.tdiv a 8)))) (.leaf (.sl (.int .u8) ([IntKind.wrap IntKind.u8 (IntKind.wrap IntKind.i64 (IntKind.wrap IntKind.i64 (IntKind.wrap IntKind.i64 (IntKind.wrap IntKind.i64 (64 + IntKind.wrap IntKind.i64 (8 * 0)) + IntKind.wrap IntKind.i64 (4 * 0)) + IntKind.wrap IntKind.i64 (2 * 0)) + IntKind.wrap IntKind.i64 (Int.tdiv a 8)))] ++ [o] ++ [dirB dg a]) ([]) Fl.ro)) (.leaf (.sl (.int .u8) ([o] ++ [dirB dg a]) ([]) Fl.ro)))
theorem bt8_10_eq (q : List UInt8 → Bool) (x : List UInt8) (dg : Int) (nm : List UInt8) (a b c d n o : Int) : (bdE q 8 [o] 0 x dg nm a b c d n).run = (bt8_10 x dg nm a b c d n o).run :=
  (show (bdE q 8 [o] 0 x dg nm a b c d n).run = (bt8_10 x dg nm a b c d n o).out by kernel_rfl).trans (Tree.out_run _)
def bt9_12 (_x : List UInt8) (_dg : Int) (_nm : List UInt8) (_a _b _c _d _n o : Int) : Tree V :=
  (.leaf (.sl (.int .u8) ([IntKind.wrap IntKind.u8 (IntKind.wrap IntKind.i64 (IntKind.wrap IntKind.i64 (IntKind.wrap IntKind.i64 (IntKind.wrap IntKind.i64 (64 + IntKind.wrap IntKind.i64 (8 * 1)) + IntKind.wrap IntKind.i64 (4 * 0)) + IntKind.wrap IntKind.i64 (2 * 0)) + 0))] ++ [o] ++ []) ([]) Fl.ro))
theorem bt9_12_eq (q : List UInt8 → Bool) (x : List UInt8) (dg : Int) (nm : List UInt8) (a b c d n o : Int) : (bdE q 9 [o] 2 x dg nm a b c d n).run = (bt9_12 x dg nm a b c d n o).run :=
  (show (bdE q 9 [o] 2 x dg nm a b c d n).run = (bt9_12 x dg nm a b c d n o).out by kernel_rfl).trans (Tree.out_run _)
def bt9_10 (_x : List UInt8) (_dg : Int) (_nm : List UInt8) (_a _b _c _d _n o : Int) : Tree V :=
  (.leaf (.sl (.int .u8) ([o] ++ []) ([]) Fl.ro))
theorem bt9_10_eq (q : List UInt8 → Bool) (x : List UInt8) (dg : Int) (nm : List UInt8) (a b c d n o : Int) : (bdE q 9 [o] 0 x dg nm a b c d n).run = (bt9_10 x dg nm a b c d n o).run :=
  (show (bdE q 9 [o] 0 x dg nm a b c d n).run = (bt9_10 x dg nm a b c d n o).out by kernel_rfl).trans (Tree.out_run _)
def bt9_20 (_x : List UInt8) (_dg : Int) (_nm : List UInt8) (_a _b _c _d _n o p : Int) : Tree V :=
  (.leaf (.sl (.int .u8) ([o, p] ++ []) ([]) Fl.ro))
theorem bt9_20_eq (q : List UInt8 → Bool) (x : List UInt8) (dg : Int) (nm : List UInt8) (a b c d n o p : Int) : (bdE q 9 [o, p] 0 x dg nm a b c d n).run = (bt9_20 x dg nm a b c d n o p).run :=
  (show (bdE q 9 [o, p] 0 x dg nm a b c d n).run = (bt9_20 x dg nm a b c d n o p).out by kernel_rfl).trans (Tree.out_run _)
def bt10_12 (_x : List UInt8) (dg : Int) (_nm : List UInt8) (a _b _c _d n o : Int) : Tree V :=
  (.leaf (.sl (.int .u8) (([IntKind.wrap IntKind.u8 (IntKind.wrap IntKind.i64 (IntKind.wrap IntKind.i64 (IntKind.wrap IntKind.i64 (IntKind.wrap IntKind.i64 (64 + IntKind.wrap IntKind.i64 (8 * 1)) + IntKind.wrap IntKind.i64 (4 * 0)) + IntKind.wrap IntKind.i64 (2 * 0)) + IntKind.wrap IntKind.i64 (Int.tdiv a 8)))] ++ [o] ++ ([dirB dg a] ++ [tI (List.getD (fx8 (IntKind.wrap IntKind.u64 n)) 0 (tI (EC.dflt (EC.int IntKind.u8))))]))) ([]) Fl.ro))
theorem bt10_12_eq (q : List UInt8 → Bool) (x : List UInt8) (dg : Int) (nm : List UInt8) (a b c d n o : Int) : (bdE q 10 [o] 2 x dg nm a b c d n).run = (bt10_12 x dg nm a b c d n o).run :=
  (show (bdE q 10 [o] 2 x dg nm a b c d n).run = (bt10_12 x dg nm a b c d n o).out by kernel_rfl).trans (Tree.out_run _)
def bt12_10 (_x : List UInt8) (_dg : Int) (_nm : List UInt8) (a _b _c _d _n o : Int) : Tree V :=
  (.br (decide (0 < IntKind.wrap IntKind.i64 (IntKind.wrap IntKind.i64 (0 + 0) + IntKind.wrap IntKind.i64 (Int.tdiv a 8)))) (.leaf (.sl (.int .u8) ([IntKind.wrap IntKind.u8 (IntKind.wrap IntKind.i64 (IntKind.wrap IntKind.i64 (IntKind.wrap IntKind.i64 (IntKind.wrap IntKind.i64 (64 + IntKind.wrap IntKind.i64 (8 * 0)) + IntKind.wrap IntKind.i64 (4 * 0)) + IntKind.wrap IntKind.i64 (2 * 0)) + IntKind.wrap IntKind.i64 (Int.tdiv a 8)))] ++ [IntKind.wrap IntKind.u8 (o + IntKind.wrap IntKind.u8 (Int.tmod a 8))] ++ []) ([]) Fl.ro)) (.leaf (.sl (.int .u8) ([IntKind.wrap IntKind.u8 (o + IntKind.wrap IntKind.u8 (Int.tmod a 8))] ++ []) ([]) Fl.ro)))
theorem bt12_10_eq (q : List UInt8 → Bool) (x : List UInt8) (dg : Int) (nm : List UInt8) (a b c d n o : Int) : (bdE q 12 [o] 0 x dg nm a b c d n).run = (bt12_10 x dg nm a b c d n o).run :=
  (show (bdE q 12 [o] 0 x dg nm a b c d n).run = (bt12_10 x dg nm a b c d n o).out by kernel_rfl).trans (Tree.out_run _)
def bt13_10 (_x : List UInt8) (_dg : Int) (_nm : List UInt8) (_a _b _c d n o : Int) : Tree V :=
  (.leaf (.sl (.int .u8) (([IntKind.wrap IntKind.u8 (o + IntKind.wrap IntKind.u8 d)] ++ sub (fx8 (IntKind.wrap IntKind.u64 n) ++ []) 0 4)) ([]) Fl.ro))
theorem bt13_10_eq (q : List UInt8 → Bool) (x : List UInt8) (dg : Int) (nm : List UInt8) (a b c d n o : Int) : (bdE q 13 [o] 0 x dg nm a b c d n).run = (bt13_10 x dg nm a b c d n o).run :=
  (show (bdE q 13 [o] 0 x dg nm a b c d n).run = (bt13_10 x dg nm a b c d n o).out by kernel_rfl).trans (Tree.out_run _)
def bt14_10 (_x : List UInt8) (_dg : Int) (_nm : List UInt8) (_a _b _c d n o : Int) : Tree V :=
  (.leaf (.sl (.int .u8) (([IntKind.wrap IntKind.u8 (o + IntKind.wrap IntKind.u8 d)] ++ sub (fx8 (IntKind.wrap IntKind.u64 n) ++ []) 0 1)) ([]) Fl.ro))
theorem bt14_10_eq (q : List UInt8 → Bool) (x : List UInt8) (dg : Int) (nm : List UInt8) (a b c d n o : Int) : (bdE q 14 [o] 0 x dg nm a b c d n).run = (bt14_10 x dg nm a b c d n o).run :=
  (show (bdE q 14 [o] 0 x dg nm a b c d n).run = (bt14_10 x dg nm a b c d n o).out by kernel_rfl).trans (Tree.out_run _)
def bt15_20 (_x : List UInt8) (_dg : Int) (_nm : List UInt8) (_a _b _c d n o p : Int) : Tree V :=
  (.leaf (.sl (.int .u8) (([o, IntKind.wrap IntKind.u8 (p + IntKind.wrap IntKind.u8 d)] ++ sub (fx8 (IntKind.wrap IntKind.u64 n) ++ []) 0 4)) ([]) Fl.ro))
theorem bt15_20_eq (q : List UInt8 → Bool) (x : List UInt8) (dg : Int) (nm : List UInt8) (a b c d n o p : Int) : (bdE q 15 [o, p] 0 x dg nm a b c d n).run = (bt15_20 x dg nm a b c d n o p).run :=
  (show (bdE q 15 [o, p] 0 x dg nm a b c d n).run = (bt15_20 x dg nm a b c d n o p).out by kernel_rfl).trans (Tree.out_run _)
def bt16_10 (_x : List UInt8) (_dg : Int) (_nm : List UInt8) (_a _b _c d n o : Int) : Tree V :=
  (.leaf (.sl (.int .u8) (([IntKind.wrap IntKind.u8 (o + IntKind.wrap IntKind.u8 d)] ++ sub (fx8 (IntKind.wrap IntKind.u64 n) ++ []) 0 1)) ([]) Fl.ro))
theorem bt16_10_eq (q : List UInt8 → Bool) (x : List UInt8) (dg : Int) (nm : List UInt8) (a b c d n o : Int) : (bdE q 16 [o] 0 x dg nm a b c d n).run = (bt16_10 x dg nm a b c d n o).run :=
  (show (bdE q 16 [o] 0 x dg nm a b c d n).run = (bt16_10 x dg nm a b c d n o).out by kernel_rfl).trans (Tree.out_run _)
end Go.Amd

namespace Go.Amd
open Go Go.Ab Go.Proofs
def slB (l : List Int) : V := .sl (.int .u8) l [] .ro
theorem via {α : Type} {a b c d : α} (h1 : a = b) (h2 : c = d) (h : b = c) : a = d := h1.trans (h.trans h2)
def q8 (n : Int) : Int := wi (Int.tdiv n 8)
def rexD (w r x b : Int) : Int := w8 (wi (wi (wi (wi (64 + wi (8 * w)) + wi (4 * r)) + wi (2 * x)) + b))
def rW (R : Int) : Int := or8 64 (or8 R 8)
def rex0 (a : Int) : List Int := cond (decide (0 < wi (wi (0 + 0) + q8 a))) [rexD 0 0 0 (q8 a)] []
theorem rex2_all : all2 16 16 (fun r b => rexD 1 (q8 r) 0 (q8 b) == rW (rexM 0 r b) && dirB r b == mrB 3 r b) = true := by kernel_rfl
theorem rex1_all : all1 16 (fun a => rexD 1 0 0 (q8 a) == rW (or8 0 (hi4 a 1)) && (rexD 1 (q8 a) 0 0 == rW (rexM 0 a 4) && (rex0 a == rexL 0 (or8 0 (hi4 a 1)) && (orB (sl8 (u8 (Int.tmod a 8)) 3) 4 == mrB 0 a 4 && w8 (Int.tmod a 8) == w8 (andi a 7))))) = true := by kernel_rfl
theorem rexg_all : all2 8 16 (fun g a => rexD 1 0 0 (q8 a) == rW (rexM 0 (wi g) a) && (rex0 a == rexL 0 (rexM 0 (wi g) a) && dirB g a == mrB 3 (wi g) a)) = true := by kernel_rfl
abbrev Reg (a : Int) : Prop := 0 ≤ a ∧ a < 16
theorem rex2 {r b : Int} (hr : Reg r) (hb : Reg b) : rexD 1 (q8 r) 0 (q8 b) = rW (rexM 0 r b) ∧ dirB r b = mrB 3 r b := by
  have := all2_of rex2_all hr.1 hr.2 hb.1 hb.2
  simpa only [Bool.and_eq_true, beq_iff_eq] using this
theorem rex1 {a : Int} (ha : Reg a) : rexD 1 0 0 (q8 a) = rW (or8 0 (hi4 a 1)) ∧ rexD 1 (q8 a) 0 0 = rW (rexM 0 a 4) ∧ rex0 a = rexL 0 (or8 0 (hi4 a 1)) ∧ orB (sl8 (u8 (Int.tmod a 8)) 3) 4 = mrB 0 a 4 ∧ w8 (Int.tmod a 8) = w8 (andi a 7) := by
  have := all1_of rex1_all ha.1 ha.2
  simpa only [Bool.and_eq_true, beq_iff_eq] using this
theorem rexg {g a : Int} (hg : 0 ≤ g ∧ g < 8) (ha : Reg a) : rexD 1 0 0 (q8 a) = rW (rexM 0 (wi g) a) ∧ rex0 a = rexL 0 (rexM 0 (wi g) a) ∧ dirB g a = mrB 3 (wi g) a := by
  have := all2_of rexg_all hg.1 hg.2 ha.1 ha.2
  simpa only [Bool.and_eq_true, beq_iff_eq] using this
theorem w8_in {o : Int} (ho : IsB o) : w8 o = o := by
  unfold w8
  rw [Go.Wd.wrap_u8]
  exact Int.emod_eq_of_lt ho.1 ho.2
theorem hd1 {o : Int} (ho : IsB o) : hdF o = [] := by
  unfold hdF
  rw [decide_eq_false (by have := ho.2; omega)]
  rfl
theorem hd2 {o p : Int} (h1 : 1 ≤ o) (ho : IsB o) (hp : IsB p) : hdF (256 * o + p) = [o] ∧ w8 (256 * o + p) = p := by
  obtain ⟨o0, o1⟩ := ho
  obtain ⟨p0, p1⟩ := hp
  have e : w8 (Int.fdiv (256 * o + p) (2 ^ 8)) = o := by
    unfold w8
    rw [Go.Wd.wrap_u8, Int.fdiv_eq_ediv_of_nonneg _ (by decide)]
    omega
  refine ⟨?_, ?_⟩
  · unfold hdF
    rw [decide_eq_true (by omega), e]
    rfl
  · unfold w8
    rw [Go.Wd.wrap_u8]
    omega
theorem w8_add0 {o : Int} (ho : IsB o) : w8 (o + w8 0) = o := by
  show w8 (o + 0) = o
  rw [Int.add_zero, w8_in ho]
theorem sh8_eq (n : Int) : sh8 n = n / 256 := by
  unfold sh8
  rw [Int.fdiv_eq_ediv_of_nonneg _ (by decide)]
  rfl
theorem u8_eq (n : Int) : u8 n = n % 256 := Go.Wd.wrap_u8 n
abbrev N64 (n : Int) : Int := IntKind.wrap .u64 n
theorem fx8_im (n : Int) : fx8 (N64 n) = im8 n := by
  show [_, _, _, _, _, _, _, _] = [_, _, _, _, _, _, _, _]
  simp only [sh8_eq, u8_eq, imB_eq, N64, Go.Wd.wrap_u64, List.cons.injEq, and_true]
  refine ⟨by omega, by omega, by omega, by omega, by omega, by omega, by omega, by omega⟩
theorem fx4_im (n : Int) : fx4 (N64 n) = im4 n := by
  have h := fx8_im n
  have e : fx4 (N64 n) = (fx8 (N64 n)).take 4 := rfl
  rw [e, h]
  rfl
theorem fx1_im (n : Int) : [u8 (N64 n)] = im1 n := by
  have h := fx8_im n
  have e : [u8 (N64 n)] = (fx8 (N64 n)).take 1 := rfl
  rw [e, h]
  rfl
theorem short_fits (n : Int) : shortX n = fitsF n := by
  rw [shortX_eq']
  unfold fitsF
  by_cases h0 : -128 ≤ n
  · rw [decide_eq_true h0, decide_eq_false (show ¬ n < -128 by omega)]
    by_cases h1 : n ≤ 127
    · rw [decide_eq_true h1, decide_eq_false (show ¬ 127 < n by omega)]
      rfl
    · rw [decide_eq_false h1, decide_eq_true (show 127 < n by omega)]
      rfl
  · rw [decide_eq_false h0, decide_eq_true (show n < -128 by omega)]
    rfl
section
variable {x nm : List UInt8} {dg a b c d n o p : Int} (ha : Reg a) (hb : Reg b) (hg : 0 ≤ dg ∧ dg < 8) (h1 : 1 ≤ o) (ho : IsB o) (hp : IsB p)
abbrev bF (f : Int) (op : List Int) (rx dg : Int) (nm : List UInt8) (a b c d n : Int) : Option V := some (slB (bytesF (conv (nm, f, some op, dg, rx)) (nm, a, b, c, d, n)))
include ha hb ho in
theorem k1 : (bt1_12 x dg nm a b c d n o).run = bF 1 [o] 2 dg nm a b c d n := by
  refine via (b := some (slB ([rexD 1 (q8 b) 0 (q8 a)] ++ [o] ++ [dirB b a]))) (c := some (slB ([] ++ [rW (rexM 0 b a)] ++ (hdF o ++ [w8 o]) ++ [mrB 3 b a]))) (by kernel_rfl) (by kernel_rfl) ?_
  rw [(rex2 hb ha).1, (rex2 hb ha).2, hd1 ho, w8_in ho]
  rfl
include ha hb h1 ho hp in
theorem k7 (hd : d = 0) : (bt7_22 x dg nm a b c d n o p).run = bF 7 [o, p] 2 dg nm a b c d n := by
  subst hd
  refine via (b := some (slB ([rexD 1 (q8 a) 0 (q8 b)] ++ [o, w8 (p + w8 0)] ++ [dirB a b]))) (c := some (slB ([] ++ [rW (rexM 0 a b)] ++ (hdF (256 * o + p) ++ [w8 (256 * o + p)]) ++ [mrB 3 a b]))) (by kernel_rfl) (by kernel_rfl) ?_
  rw [(rex2 ha hb).1, (rex2 ha hb).2, (hd2 h1 ho hp).1, (hd2 h1 ho hp).2, w8_add0 hp]
  rfl
include ha hb h1 ho hp in
theorem k11 : (bt11_22 x dg nm a b c d n o p).run = bF 11 [o, p] 2 dg nm a b c d n := by
  refine via (b := some (slB ([rexD 1 (q8 a) 0 (q8 b)] ++ [o, w8 (p + w8 d)] ++ [dirB a b]))) (c := some (slB ([] ++ [rW (rexM 0 a b)] ++ (hdF (256 * o + p) ++ [w8 (w8 (256 * o + p) + w8 d)]) ++ [mrB 3 a b]))) (by kernel_rfl) (by kernel_rfl) ?_
  rw [(rex2 ha hb).1, (rex2 ha hb).2, (hd2 h1 ho hp).1, (hd2 h1 ho hp).2]
  rfl
include ha ho in
theorem k2 : (bt2_12 x dg nm a b c d n o).run = bF 2 [o] 2 dg nm a b c d n := by
  refine via (b := some (slB ([rexD 1 0 0 (q8 a)] ++ [w8 (o + w8 (Int.tmod a 8))] ++ fx8 (N64 n)))) (c := some (slB ([] ++ [rW (or8 0 (hi4 a 1))] ++ (hdF o ++ [w8 (w8 o + w8 (andi a 7))]) ++ im8 n))) (by kernel_rfl) (by kernel_rfl) ?_
  rw [(rex1 ha).1, (rex1 ha).2.2.2.2, hd1 ho, w8_in ho, fx8_im]
  rfl
include ha hg ho in
theorem k3 : (bt3_12 x dg nm a b c d n o).run = bF 3 [o] 2 dg nm a b c d n := by
  refine via (b := some (slB ([rexD 1 0 0 (q8 a)] ++ [o] ++ ([dirB dg a] ++ fx4 (N64 n))))) (c := some (slB ([] ++ [rW (rexM 0 (wi dg) a)] ++ (hdF o ++ [w8 o]) ++ ([mrB 3 (wi dg) a] ++ im4 n)))) (by kernel_rfl) (by kernel_rfl) ?_
  rw [(rexg hg ha).1, (rexg hg ha).2.2, hd1 ho, w8_in ho, fx4_im]
  rfl
include ha ho in
theorem k5 : (bt5_12 x dg nm a b c d n o).run = bF 5 [o] 2 dg nm a b c d n := by
  refine via (b := some (slB ([100] ++ [rexD 1 (q8 a) 0 0] ++ [o] ++ ([orB (sl8 (u8 (Int.tmod a 8)) 3) 4, 37] ++ fx4 (N64 n))))) (c := some (slB ([100] ++ [rW (rexM 0 a 4)] ++ (hdF o ++ [w8 o]) ++ ([mrB 0 a 4] ++ [37] ++ im4 n)))) (by kernel_rfl) (by kernel_rfl) ?_
  rw [(rex1 ha).2.1, (rex1 ha).2.2.2.1, hd1 ho, w8_in ho, fx4_im]
  rfl
include ha hg ho in
theorem k6 : (bt6_12 x dg nm a b c d n o).run = bF 6 [o] 2 dg nm a b c d n := by
  refine via (b := cond (shortX n) (some (slB ([rexD 1 0 0 (q8 a)] ++ [o] ++ ([dirB dg a] ++ [u8 (N64 n)])))) (some (slB ([rexD 1 0 0 (q8 a)] ++ [129] ++ ([dirB dg a] ++ fx4 (N64 n))))))
    (c := some (slB ([] ++ [rW (rexM 0 (wi dg) a)] ++ (hdF o ++ [cond (fitsF n) (w8 o) 129]) ++ ([mrB 3 (wi dg) a] ++ cond (fitsF n) (im1 n) (im4 n))))) (by unfold bt6_12; rw [br_run]; kernel_rfl) (by kernel_rfl) ?_
  rw [short_fits, (rexg hg ha).1, (rexg hg ha).2.2, hd1 ho, w8_in ho, fx4_im, fx1_im]
  cases fitsF n <;> rfl
include ha hg ho in
theorem k8 : (bt8_12 x dg nm a b c d n o).run = bF 8 [o] 2 dg nm a b c d n := by
  refine via (b := some (slB ([rexD 1 0 0 (q8 a)] ++ [o] ++ [dirB dg a]))) (c := some (slB ([] ++ [rW (rexM 0 (wi dg) a)] ++ (hdF o ++ [w8 o]) ++ [mrB 3 (wi dg) a]))) (by kernel_rfl) (by kernel_rfl) ?_
  rw [(rexg hg ha).1, (rexg hg ha).2.2, hd1 ho, w8_in ho]
  rfl
include ha hg ho in
theorem k8s : (bt8_10 x dg nm a b c d n o).run = bF 8 [o] 0 dg nm a b c d n := by
  have e : (bt8_10 x dg nm a b c d n o).run = some (slB (rex0 a ++ [o] ++ [dirB dg a])) := by
    unfold bt8_10
    rw [br_run]
    show cond (decide (0 < wi (wi (0 + 0) + q8 a))) _ _ = _
    unfold rex0
    cases decide (0 < wi (wi (0 + 0) + q8 a)) <;> rfl
  refine via (c := some (slB ([] ++ rexL 0 (rexM 0 (wi dg) a) ++ (hdF o ++ [w8 o]) ++ [mrB 3 (wi dg) a]))) e (by kernel_rfl) ?_
  rw [(rexg hg ha).2.1, (rexg hg ha).2.2, hd1 ho, w8_in ho]
  rfl
include ho in
theorem k9 : (bt9_12 x dg nm a b c d n o).run = bF 9 [o] 2 dg nm a b c d n := by
  refine via (b := some (slB ([rexD 1 0 0 0] ++ [o] ++ []))) (c := some (slB ([] ++ [rW 0] ++ (hdF o ++ [w8 o]) ++ []))) (by kernel_rfl) (by kernel_rfl) ?_
  rw [hd1 ho, w8_in ho]
  rfl
include ho in
theorem k9s : (bt9_10 x dg nm a b c d n o).run = bF 9 [o] 0 dg nm a b c d n := by
  refine via (b := some (slB ([o] ++ []))) (c := some (slB ([] ++ [] ++ (hdF o ++ [w8 o]) ++ []))) (by kernel_rfl) (by kernel_rfl) ?_
  rw [hd1 ho, w8_in ho]
  rfl
include h1 ho hp in
theorem k9t : (bt9_20 x dg nm a b c d n o p).run = bF 9 [o, p] 0 dg nm a b c d n := by
  refine via (b := some (slB ([o, p] ++ []))) (c := some (slB ([] ++ [] ++ (hdF (256 * o + p) ++ [w8 (256 * o + p)]) ++ []))) (by kernel_rfl) (by kernel_rfl) ?_
  rw [(hd2 h1 ho hp).1, (hd2 h1 ho hp).2]
  rfl
include ha hg ho in
theorem k10 : (bt10_12 x dg nm a b c d n o).run = bF 10 [o] 2 dg nm a b c d n := by
  refine via (b := some (slB ([rexD 1 0 0 (q8 a)] ++ [o] ++ ([dirB dg a] ++ [u8 (N64 n)])))) (c := some (slB ([] ++ [rW (rexM 0 (wi dg) a)] ++ (hdF o ++ [w8 o]) ++ ([mrB 3 (wi dg) a] ++ im1 n)))) (by kernel_rfl) (by kernel_rfl) ?_
  rw [(rexg hg ha).1, (rexg hg ha).2.2, hd1 ho, w8_in ho, fx1_im]
  rfl
include ha ho in
theorem k12 : (bt12_10 x dg nm a b c d n o).run = bF 12 [o] 0 dg nm a b c d n := by
  have e : (bt12_10 x dg nm a b c d n o).run = some (slB (rex0 a ++ [w8 (o + w8 (Int.tmod a 8))] ++ [])) := by
    unfold bt12_10
    rw [br_run]
    show cond (decide (0 < wi (wi (0 + 0) + q8 a))) _ _ = _
    unfold rex0
    cases decide (0 < wi (wi (0 + 0) + q8 a)) <;> rfl
  refine via (c := some (slB ([] ++ rexL 0 (or8 0 (hi4 a 1)) ++ (hdF o ++ [w8 (w8 o + w8 (andi a 7))]) ++ []))) e (by kernel_rfl) ?_
  rw [(rex1 ha).2.2.1, (rex1 ha).2.2.2.2, hd1 ho, w8_in ho]
  rfl
include ho in
theorem k13 (hd : d = 0) : (bt13_10 x dg nm a b c d n o).run = bF 13 [o] 0 dg nm a b c d n := by
  subst hd
  refine via (b := some (slB ([w8 (o + w8 0)] ++ fx4 (N64 n)))) (c := some (slB ([] ++ [] ++ (hdF o ++ [w8 o]) ++ im4 n))) (by kernel_rfl) (by kernel_rfl) ?_
  rw [w8_add0 ho, hd1 ho, w8_in ho, fx4_im]
  rfl
include ho in
theorem k14 (hd : d = 0) : (bt14_10 x dg nm a b c d n o).run = bF 14 [o] 0 dg nm a b c d n := by
  subst hd
  refine via (b := some (slB ([w8 (o + w8 0)] ++ [u8 (N64 n)]))) (c := some (slB ([] ++ [] ++ (hdF o ++ [w8 o]) ++ im1 n))) (by kernel_rfl) (by kernel_rfl) ?_
  rw [w8_add0 ho, hd1 ho, w8_in ho, fx1_im]
  rfl
include h1 ho hp in
theorem k15 : (bt15_20 x dg nm a b c d n o p).run = bF 15 [o, p] 0 dg nm a b c d n := by
  refine via (b := some (slB ([o, w8 (p + w8 d)] ++ fx4 (N64 n)))) (c := some (slB ([] ++ [] ++ (hdF (256 * o + p) ++ [w8 (w8 (256 * o + p) + w8 d)]) ++ im4 n))) (by kernel_rfl) (by kernel_rfl) ?_
  rw [(hd2 h1 ho hp).1, (hd2 h1 ho hp).2, fx4_im]
  rfl
include ho in
theorem k16 : (bt16_10 x dg nm a b c d n o).run = bF 16 [o] 0 dg nm a b c d n := by
  refine via (b := some (slB ([w8 (o + w8 d)] ++ [u8 (N64 n)]))) (c := some (slB ([] ++ [] ++ (hdF o ++ [w8 (w8 o + w8 d)]) ++ im1 n))) (by kernel_rfl) (by kernel_rfl) ?_
  rw [hd1 ho, w8_in ho, fx1_im]
  rfl
end
end Go.Amd

namespace Go.Amd
open Go Go.Ab Go.Proofs
section
variable (K : Int → Int → List Int → Option V) (a b c d n : Int)
def plLp (one : Int → Int → Int → Option V) : Nat → Int → Int → Option V
  | 0, _, _ => none
  | f + 1, k, sc => cond (decide (1 < k)) (plLp one f (wi (Int.tdiv k 2)) (w8 (sc + 1))) (one (q8 c) (u8 (Int.tmod c 8)) sc)
def plSib (m : Int) (disp : List Int) (x idx sc : Int) : Option V :=
  K x (q8 b) ([orB (orB (sl8 m 6) (sl8 (u8 (Int.tmod a 8)) 3)) 4, orB (orB (sl8 sc 6) (sl8 idx 3)) (u8 (Int.tmod b 8))] ++ disp)
def plRest (m : Int) (disp : List Int) : Option V :=
  cond (c != 16) (plLp c (plSib K a b m disp) 5 d 0) (plSib K a b m disp 0 4 0)
def plMd (m : Int) (disp : List Int) : Option V :=
  cond (c == 16) (cond (u8 (Int.tmod b 8) != 4) (K 0 (q8 b) ([orB (orB (sl8 m 6) (sl8 (u8 (Int.tmod a 8)) 3)) (u8 (Int.tmod b 8))] ++ disp)) (plRest K a b c d m disp)) (plRest K a b c d m disp)
def plShort : Option V := cond (shortX n) (plMd K a b c d 1 [u8 (N64 n)]) (plMd K a b c d 2 (fx4 (N64 n)))
def plO : Option V :=
  cond (b == 17) (K 0 0 ([orB (sl8 (u8 (Int.tmod a 8)) 3) 5] ++ fx4 (N64 n)))
    (cond (n == 0) (cond (u8 (Int.tmod b 8) != 5) (plMd K a b c d 0 []) (plShort K a b c d n)) (plShort K a b c d n))
end
theorem p4_12 (q : List UInt8 → Bool) (x : List UInt8) (dg : Int) (nm : List UInt8) (a b c d n o : Int) : (bdE q 4 [o] 2 x dg nm a b c d n).fin = plO (fun x bq t => some (slB ([rexD 1 (q8 a) x bq] ++ [o] ++ t))) a b c d n := by kernel_rfl
theorem p4_22 (q : List UInt8 → Bool) (x : List UInt8) (dg : Int) (nm : List UInt8) (a b c d n o p : Int) : (bdE q 4 [o, p] 2 x dg nm a b c d n).fin = plO (fun x bq t => some (slB ([rexD 1 (q8 a) x bq] ++ [o, p] ++ t))) a b c d n := by kernel_rfl
theorem p4_11 (q : List UInt8 → Bool) (x : List UInt8) (dg : Int) (nm : List UInt8) (a b c d n o : Int) : (bdE q 4 [o] 1 x dg nm a b c d n).fin = plO (fun x bq t => some (slB ([rexD 0 (q8 a) x bq] ++ [o] ++ t))) a b c d n := by kernel_rfl
theorem p4_10 (q : List UInt8 → Bool) (x : List UInt8) (dg : Int) (nm : List UInt8) (a b c d n o : Int) : (bdE q 4 [o] 0 x dg nm a b c d n).fin = plO (fun x bq t => cond (decide (0 < wi (wi (q8 a + x) + bq))) (some (slB ([rexD 0 (q8 a) x bq] ++ [o] ++ t))) (some (slB ([o] ++ t)))) a b c d n := by kernel_rfl
end Go.Amd
