/-
  The engine, part Ya: some statements of a row of statements at once. Conditions: none.
-/
import Derived.Test.YtffamklolgjjdaaAbY
namespace Go.Ab

/-- The first statements of a row, as one; what stands behind them. -/
def headN : Nat → Code → Code
  | 0, c => c1 c
  | k + 1, c => .seq (c1 c) (headN k (c2 c))
def tailN : Nat → Code → Code
  | 0, c => c2 c
  | k + 1, c => tailN k (c2 c)
def isSeq : Code → Bool
  | .seq _ _ => true
  | _ => false
def rowN : Nat → Code → Bool
  | 0, c => isSeq c
  | k + 1, c => cond (isSeq c) (rowN k (c2 c)) false

theorem Tree.all_bind {α β : Type} {x : Tree α} {f : α → Tree β} {Q : β → Prop} (h : (x.bind f).all Q) : x.all (fun s => (f s).all Q) := by
  induction x with
  | leaf b => exact h
  | fail => exact h
  | br c x y ih1 ih2 => exact ⟨fun hc => ih1 (h.1 hc), fun hc => ih2 (h.2 hc)⟩

theorem isSeq_eq {c : Code} (h : isSeq c = true) : c = .seq (c1 c) (c2 c) := by
  cases c <;> first | rfl | cases h

section
variable {P : Program} {n : Nat} {cx : Cx}

theorem AWP_head (hP : cx.P = P) (hn : cx.n = n) (hT : CxOk cx) : ∀ (k : Nat) (c : Code) (Q : AEx → T → List O → Prop) (t : T) (H : List O), rowN k c = true →
    (dcode cx (headN k c) t H).all (fun s => seqQ (AWP P n (tailN k c) Q) Q s.1 s.2.1 s.2.2) → AWP P n c Q t H
  | 0, c, Q, t, H, hr, h => by
    rw [isSeq_eq hr]
    exact AWP_seq (AWP_code hP hn hT _ _ _ _ h)
  | k + 1, c, Q, t, H, hr, h => by
    have hs : isSeq c = true := by
      cases hs : isSeq c
      · simp [rowN, hs] at hr
      · rfl
    have hr' : rowN k (c2 c) = true := by simpa [rowN, hs] using hr
    rw [isSeq_eq hs]
    refine AWP_seq (AWP_code hP hn hT _ _ _ _ ?_)
    have h := Tree.all_bind (h : ((dcode cx (c1 c) t H).bind (dseq (dcode cx (headN k (c2 c))))).all _)
    refine Tree.all_mono h ?_
    rintro ⟨e, t', H'⟩ hq
    cases e with
    | normal => exact AWP_head hP hn hT k (c2 c) Q t' H' hr' hq
    | exit id => exact hq
    | ret => exact hq
    | panic v => exact hq

/-- The same where the equation of the tree is told. -/
theorem AWP_headE (hP : cx.P = P) (hn : cx.n = n) (hT : CxOk cx) (k : Nat) {c : Code} {Q : AEx → T → List O → Prop} {t : T} {H : List O} {x : Tree St} (hr : rowN k c = true)
    (e : (dcode cx (headN k c) t H).run = x.run) (h : x.all (fun s => seqQ (AWP P n (tailN k c) Q) Q s.1 s.2.1 s.2.2)) : AWP P n c Q t H :=
  AWP_head hP hn hT k c Q t H hr (Tree.all_run_eq e h)

end
end Go.Ab
