/-
  The engine, part I: append. Conditions: none.
-/
import Derived.Test.YtffamklolgjjdaaAbH
namespace Go.Ab
section
variable {P : Program} {E : Nat → Nat → Prop} {H : List O} {β : List Loc} {w : World} {X : Nat → Nat → Prop}

structure AppT (P : Program) (argTypes : Array TypeId) (e : TypeId) (j : TI) : Prop where
  st : ∃ st, argTypes[0]? = some st ∧ P.underlying st = some (.slice e)
  el : ti P e = some j
  xt : ∃ t d, argTypes[1]? = some t ∧ P.underlying t = some d ∧ ((∃ e, d = .slice e) ∨ d = .string)
  bytes : 0 < j.bytes
  zero : j.zero.length = j.size

theorem roomy_spec {n b : Nat} (h : roomy n b = true) : n * b ≤ 140737488355328 := of_decide_eq_true h

theorem run_append_in {argTypes : Array TypeId} {e ty : TypeId} {j : TI} (t : AppT P argTypes e j) {n : Nat} {news : List Value} {y : Value} {base : Option Addr} {sLen sCap : Nat}
    (hlen : (Builtin.lenOf y).run P w = .ok n w) (hfirst : (Builtin.firstCells j.size n y).run P w = .ok news.toArray w) (hneed : sLen + n ≤ sCap) {w' : World}
    (hst : ∀ a, base = some a → (storeCells (a.add (sLen * j.size)) news).run P w = .ok () w') (hnone : base = none → w' = w) :
    (Builtin.append_ argTypes ty #[.slice base sLen sCap, y]).run P w = .ok (.slice base (sLen + n) sCap) w' := by
  obtain ⟨st, h0, h1⟩ := t.st
  obtain ⟨xt, d, h2, h3, h4⟩ := t.xt
  cases base with
  | none =>
    rw [hnone rfl]
    rcases h4 with ⟨e', rfl⟩ | rfl <;> simp [Builtin.append_, h0, h2, run_und w h1, run_und w h3, ti_size w t.el, hlen, hfirst, hneed]
  | some a =>
    rcases h4 with ⟨e', rfl⟩ | rfl <;> simp [Builtin.append_, h0, h2, run_und w h1, run_und w h3, ti_size w t.el, hlen, hfirst, hneed, hst a rfl]

theorem run_append_out {argTypes : Array TypeId} {e ty : TypeId} {j : TI} (t : AppT P argTypes e j) {n : Nat} {olds news : List Value} {y : Value} {base : Option Addr} {sLen sCap : Nat}
    (hlen : (Builtin.lenOf y).run P w = .ok n w) (hfirst : (Builtin.firstCells j.size n y).run P w.drew = .ok news.toArray w.drew)
    (hold : (Builtin.firstCells j.size sLen (.slice base sLen sCap)).run P w.drew = .ok olds.toArray w.drew) (hneed : sCap < sLen + n) (hb : (sLen + n) * j.bytes ≤ 140737488355328) :
    ∃ rest : List Value, rest.length = (grownCap w (sLen + n) sCap e - (sLen + n)) * j.size ∧
    (Builtin.append_ argTypes ty #[.slice base sLen sCap, y]).run P w = .ok (.slice (some ⟨w.heap.size, 0, none⟩) (sLen + n) (grownCap w (sLen + n) sCap e))
      (w.drew.alloc (.cells (olds ++ news ++ rest).toArray e)) := by
  obtain ⟨st, h0, h1⟩ := t.st
  obtain ⟨xt, d, h2, h3, h4⟩ := t.xt
  obtain ⟨ti1, d1, i1, i2, i3, i4, ⟨z, z1, z2⟩, _⟩ := (ti_spec t.el).info
  have hz : z.cells.size = j.size := by have := t.zero; rw [z2] at this; simpa using this
  have hfit := growslice_fits hneed hb
  rw [← i4] at hfit
  refine ⟨(Builtin.zeroCells z.cells (grownCap w (sLen + n) sCap e - (sLen + n))).toList, by simp [size_zeroCells, hz], ?_⟩
  have hnb : ¬ (ti1.bytes = 0) := by rw [i4]; have := t.bytes; omega
  have hn : ¬ (sLen + n ≤ sCap) := by omega
  have hfit' : ¬ (281474976710656 < Builtin.nextslicecap (sLen + n) sCap * ti1.bytes) := by omega
  have hcat : ∀ Z : Array Value, w.drew.alloc (Obj.cells (olds.toArray ++ (news.toArray ++ Z)) e) = w.drew.alloc (Obj.cells (olds ++ (news ++ Z.toList)).toArray e) := by
    intro Z
    congr 2
    apply Array.ext'
    simp
  rcases h4 with ⟨e', rfl⟩ | rfl <;>
    simp [Builtin.append_, h0, h2, run_und w h1, run_und w h3, ti_size w t.el, hlen, hn, hcat, run_typeInfo' w i1, run_typeInfo' w.drew i1, hnb, hfit', Question.forced, grownCap, hfirst, hold, zeroValue, z1, newRow]

end
end Go.Ab
