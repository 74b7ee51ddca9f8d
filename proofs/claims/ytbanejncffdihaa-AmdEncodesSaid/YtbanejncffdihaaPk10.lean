/-
  The engine, part Ya: some statements of a row of statements at once. Conditions: none.
-/
import Derived.Test.YtbanejncffdihaaPk09
import Derived.Recover
import Derived.Test.YtbanejncffdihaaProg
import Derived.KernelRfl
set_option linter.unusedVariables false
set_option linter.unusedSimpArgs false
namespace Go.Ab
def headN : Nat → Code → Code
  | 0, c => c1 c
  | k + 1, c => .seq (c1 c) (headN k (c2 c))
def tailN : Nat → Code → Code
  | 0, c => c2 c
  | k + 1, c => tailN k (c2 c)
def isSeq : Code → Bool
  | .seq _ _ => true
  | _ => false
def rowN : Nat → Code → Bool
  | 0, c => isSeq c
  | k + 1, c => cond (isSeq c) (rowN k (c2 c)) false
theorem Tree.all_bind {α β : Type} {x : Tree α} {f : α → Tree β} {Q : β → Prop} (h : (x.bind f).all Q) : x.all (fun s => (f s).all Q) := by
  induction x with
  | leaf b => exact h
  | fail => exact h
  | br c x y ih1 ih2 => exact ⟨fun hc => ih1 (h.1 hc), fun hc => ih2 (h.2 hc)⟩
theorem isSeq_eq {c : Code} (h : isSeq c = true) : c = .seq (c1 c) (c2 c) := by
  cases c <;> first | rfl | cases h
section
variable {P : Program} {n : Nat} {cx : Cx}
theorem AWP_head (hP : cx.P = P) (hn : cx.n = n) (hT : CxOk cx) : ∀ (k : Nat) (c : Code) (Q : AEx → T → List O → Prop) (t : T) (H : List O), rowN k c = true →
    (dcode cx (headN k c) t H).all (fun s => seqQ (AWP P n (tailN k c) Q) Q s.1 s.2.1 s.2.2) → AWP P n c Q t H
  | 0, c, Q, t, H, hr, h => by
    rw [isSeq_eq hr]
    exact AWP_seq (AWP_code hP hn hT _ _ _ _ h)
  | k + 1, c, Q, t, H, hr, h => by
    have hs : isSeq c = true := by
      cases hs : isSeq c
      · simp [rowN, hs] at hr
      · rfl
    have hr' : rowN k (c2 c) = true := by simpa [rowN, hs] using hr
    rw [isSeq_eq hs]
    refine AWP_seq (AWP_code hP hn hT _ _ _ _ ?_)
    have h := Tree.all_bind (h : ((dcode cx (c1 c) t H).bind (dseq (dcode cx (headN k (c2 c))))).all _)
    refine Tree.all_mono h ?_
    rintro ⟨e, t', H'⟩ hq
    cases e with
    | normal => exact AWP_head hP hn hT k (c2 c) Q t' H' hr' hq
    | exit id => exact hq
    | ret => exact hq
    | panic v => exact hq
end
end Go.Ab

namespace Go.Ab
theorem AWP_headK {P : Program} {n : Nat} {cx : Cx} (hP : cx.P = P) (hn : cx.n = n) (hT : CxOk cx) (k : Nat) (ks : List Nat) {c : Code} {Q : AEx → T → List O → Prop} {t t' : T} {H H' : List O} (hr : rowN k c = true)
    (h : (dcode cx (headN k c) t H).run.map (fun s => (s.1, keep ks s.2.1, s.2.2)) = some (.normal, t', H')) (hq : AWP P n (tailN k c) Q t' H') : AWP P n c Q t H := by
  obtain ⟨⟨e, t2, H2⟩, h1, h2⟩ := Option.map_eq_some_iff.1 h
  simp only [Prod.mk.injEq] at h2
  obtain ⟨rfl, rfl, rfl⟩ := h2
  exact AWP_head hP hn hT k c Q t H hr (Tree.run_all h1 (AWP.less (TLe.keep ks t2) hq))
end Go.Ab

namespace Go.Ab
def rcV : Option V → V
  | none => .val .nilIface
  | some v => v
def recSlot (ops : Array Oper) : Option Nat :=
  match ops.toList with
  | [o] => match o.op, o.dst, o.guard with
    | .call { callee := .builtin .recover, .. }, some d, none => some d
    | _, _, _ => none
  | _ => none
def dcl (cx : Cx) (fn : Func) (args : List V) (H : List O) (rv : Option V) : Tree (List O) :=
  match fn.body with
  | some (.seq (.region _ ops false) rest) => match recSlot ops with
    | some d => cond (Nat.blt d fn.ntmps && fn.results.isEmpty) ((dcode { cx with n := fn.ntmps } rest (put d (rcV rv) (initT 0 args)) H).bind fun s => match s with
      | (.ret, _, H) | (.normal, _, H) => .leaf H
      | _ => .fail) .fail
    | none => .fail
  | _ => .fail
def defSlot (ops : Array Oper) : Option (Nat × Fn × List Operand × List Operand) :=
  match ops.toList with
  | [o1, o2] => match o1.op, o1.dst, o1.guard with
    | .makeFunc fn first cap, some d, none => match o2.op, o2.dst, o2.guard with
      | .defer { callee := .value (.tmp e), args, .. }, none, none => cond (Nat.beq d e && args.isEmpty) (some (d, fn, first.toList, cap.toList)) none
      | _, _, _ => none
    | _, _, _ => none
  | _ => none
def defOf : Code → Option (Nat × Fn × List Operand × List Operand)
  | .region _ ops false => defSlot ops
  | _ => none
def dcodeD (cx : Cx) : Code → T → List O → Tree (St × Option V)
  | .seq a b, t, H => match defOf a with
    | some (d, fn, first, cap) => cond (Nat.blt d cx.n)
      ((dcode cx b (keep cx.keeps (put d (.clo fn (first.map (rd t)) (cap.map (rd t))) t)) H).bind fun s => .leaf (s, some (.clo fn (first.map (rd t)) (cap.map (rd t))))) .fail
    | none => (dcode cx a t H).bind fun s => match s with
      | (.normal, t, H) => dcodeD cx b t H
      | s => .leaf (s, none)
  | c, t, H => (dcode cx c t H).bind fun s => .leaf (s, none)
def deferE (P : Program) (cl : Cx) (rs : List ResultVar) (fg : Func) (args : List V) : St → Tree Res
  | (.ret, t, H) | (.normal, t, H) => (dcl cl fg args H none).bind fun H => answerM P rs (.ret, t, H)
  | (.panic v, t, H) => (dcl cl fg args H (some v)).bind fun H => answerM P rs (.ret, t, H)
  | _ => .fail
def deferS (P : Program) (cl : Cx) (rs : List ResultVar) (g : Nat) (fg : Func) : St × Option V → Tree Res
  | (s, none) => answerM P rs s
  | (s, some (.clo (.func g') first cap)) => cond (Nat.beq g' g && Nat.ble (first ++ cap).length fg.ntmps) (deferE P cl rs fg (first ++ cap) s) .fail
  | _ => .fail
def dfunD (cx cl : Cx) (fn : Func) (g : Nat) (fg : Func) (args : List V) (H : List O) : Tree Res :=
  match fn.body with
  | some c => (dcodeD { cx with n := fn.ntmps } c (initT 0 args) H).bind (deferS cx.P cl fn.results.toList g fg)
  | none => .fail
section
variable {P : Program} {E : Nat → Nat → Prop} {H : List O} {β : List Loc} {w : World} {X : Nat → Nat → Prop}
theorem fr_init {fn : Func} {args : List V} {rargs : List Value} (hlen : rargs.length = args.length) (hn : args.length ≤ fn.ntmps)
    (hargs : ∀ (k : Nat) (v : V) (x : Value), args[k]? = some v → rargs[k]? = some x → R w X β v x) :
    FR w X β fn.ntmps (initT 0 args) { tmps := rargs.toArray ++ Array.replicate (fn.ntmps - rargs.toArray.size) undef, defers := [] } := by
  refine ⟨by simp; omega, fun d => ?_⟩
  rw [get_initT]
  simp only [Nat.not_lt_zero, if_false, Nat.sub_zero]
  cases hd : args[d]? with
  | none => exact .any _ _
  | some v =>
    have hlt : d < rargs.length := by rw [hlen]; exact (List.getElem?_eq_some_iff.1 hd).1
    have := hargs d v rargs[d] hd (by simp [hlt])
    simp only [Option.getD_some]
    have e : (rargs.toArray ++ Array.replicate (fn.ntmps - rargs.toArray.size) undef).getD d undef = rargs[d] := by
      rw [Array.getD_eq_getD_getElem?, Array.getElem?_append_left (by simpa using hlt)]
      simp [hlt]
    rw [e]
    exact this
def Mode (w : World) (X : Nat → Nat → Prop) (β : List Loc) (u u2 : FrameMode) : Option V → Prop
  | none => u = .returning ∧ u2 = .returning
  | some v => ∃ x, R w X β v x ∧ u = .panicking [{ v := x, recovered := false }] ∧ u2 = .panicking [{ v := x, recovered := true }]
theorem recSlot_spec {ops : Array Oper} {d : Nat} (h : recSlot ops = some d) : ∃ o c, ops = #[o] ∧ o.op = .call c ∧ c.callee = .builtin .recover ∧ o.dst = some d ∧ o.guard = none := by
  unfold recSlot at h
  split at h
  rotate_left
  · cases h
  rename_i o ho
  split at h
  rotate_left
  · cases h
  rename_i args argTypes d' h1 h2 h3
  simp only [Option.some.injEq] at h
  subst h
  exact ⟨o, _, by apply Array.ext'; simpa using ho, h1, rfl, h2, h3⟩
theorem dcl_sound {cx : Cx} (hT : CxOk cx) {g : Nat} {fn : Func} {args : List V} {H' : List O} {rv : Option V} {rargs : List Value} {u u2 : FrameMode} (hf : cx.P.funcs[g]? = some fn)
    (h : (dcl cx fn args H rv).run = some H') (hE : StartOk cx.P E H β w) (hR : Rel w (Xs E H β) H β) (hlen : rargs.length = args.length) (hn : args.length ≤ fn.ntmps)
    (hargs : ∀ (k : Nat) (v : V) (x : Value), args[k]? = some v → rargs[k]? = some x → R w (Xs E H β) β v x) (hu : Mode w (Xs E H β) β u u2 rv) :
    CallsD cx.P g rargs.toArray u w fun e u' w' => (∃ y, e = .returned y) ∧ u' = u2 ∧ ∃ β', Step E H β w H' β' w' := by
  unfold dcl at h
  split at h
  rotate_left
  · cases h
  rename_i id ops rest hb
  split at h
  rotate_left
  · cases h
  rename_i d hd
  cases hc : (Nat.blt d fn.ntmps && fn.results.isEmpty)
  · rw [hc] at h; cases h
  rw [hc, cond_true] at h
  obtain ⟨hlt, hres⟩ := Bool.and_eq_true_iff.1 hc
  have hlt : d < fn.ntmps := by simpa [Nat.blt_eq] using hlt
  obtain ⟨o, c, rfl, ho, hcal, hdst, hg⟩ := recSlot_spec hd
  obtain ⟨s, hs1, hs2⟩ := bind_run h
  have rest_ok : ∀ x cs', R w (Xs E H β) β (rcV rv) x → ∀ c₀ cs, cs' = { c₀ with mode := u2 } :: cs →
      rest.wpS cx.P (bodyPostS cx.P fn c₀ cs fun e u' w' => (∃ y, e = .returned y) ∧ u' = u2 ∧ ∃ β', Step E H β w H' β' w')
        (({ tmps := rargs.toArray ++ Array.replicate (fn.ntmps - rargs.toArray.size) undef, defers := [] } : Act).put (some d) x) cs' w := by
    rintro x cs' hx c₀ cs rfl
    refine wpS_of_wp ?_
    have hfr := (fr_init hlen hn hargs).put (d := d) (v := rcV rv) (x := x) hlt hx
    have hgood : Good E H β w fn.ntmps [] (put d (rcV rv) (initT 0 args)) H β _ w := ⟨Step.refl hR, hfr, rfl⟩
    refine wp_mono (AWP_code (cx := { cx with n := fn.ntmps }) rfl rfl hT rest (fun e _ H2 => (e = .ret ∨ e = .normal) ∧ H2 = H') _ _ (Tree.run_all hs1 ?_) E H β w [] β _ w hE hgood) ?_
    · obtain ⟨e, t2, H2⟩ := s
      cases e with
      | normal => simp only [Tree.run, Option.some.injEq] at hs2; exact ⟨.inr rfl, hs2⟩
      | ret => simp only [Tree.run, Option.some.injEq] at hs2; exact ⟨.inl rfl, hs2⟩
      | exit id => cases hs2
      | panic v => cases hs2
    · intro e a w' hp
      have fin : ∀ t H2 β2, H2 = H' → Good E H β w fn.ntmps [] t H2 β2 a w' → a.defers = [] ∧ ∃ u', ({ c₀ with mode := u2 } :: cs : List Frame) = { c₀ with mode := u' } :: cs ∧ ∃ v, (results fn a.tmps).run cx.P w' = .ok v w' ∧
          ((∃ y, Ending.returned v = .returned y) ∧ u' = u2 ∧ ∃ β', Step E H β w H' β' w') := by
        rintro t H2 β2 rfl hg
        have hr : fn.results = #[] := by simpa using hres
        exact ⟨hg.defers, u2, rfl, .tuple #[], by rw [results_eq]; simp [hr], ⟨_, rfl⟩, rfl, β2, hg.step⟩
      cases e with
      | normal => obtain ⟨t, H2, β2, hq, hg⟩ := hp; exact fin t H2 β2 hq.2 hg
      | ret => obtain ⟨t, H2, β2, hq, hg⟩ := hp; exact fin t H2 β2 hq.2 hg
      | exit id => obtain ⟨t, H2, β2, hq, hg⟩ := hp; rcases hq.1 with h | h <;> cases h
      | panic ch => obtain ⟨t, H2, β2, v, x, hq, hg⟩ := hp; rcases hq.1 with h | h <;> cases h
      | goto l => exact hp.elim
      | outgrown => exact hp.elim
  refine callsD_of_wpS hf hb fun c₀ cs hm => ?_
  apply wpS_seq
  apply wpS_region
  have hrun : ∀ a : Act, (execOp a.eval o).run cx.P w = .ok .recover w := by
    intro a
    obtain ⟨cc, ca, ct⟩ := c
    simp only at hcal
    subst hcal
    simp only [execOp, ho, resolve, invoke, Sem.run_bind, Sem.run_pure, Result.andThen_ok]
    simp [builtin]
  have hw : ∀ y, Region.wanted o y = true := fun y => by simp [Region.wanted, hg]
  have hl : List.range (#[o] : Array Oper).size = [0] := rfl
  rw [hl]
  simp only [wpOpsS, List.getElem?_toArray, List.getElem?_cons_zero, hw, if_true, hrun]
  cases rv with
  | none =>
    obtain ⟨h1, h2⟩ := hu
    have e : recoverD (c₀ :: cs) = none := by simp [recoverD, hm, h1]
    rw [e]
    have hc0 : ({ c₀ with mode := u2 } : Frame) = c₀ := by rw [h2, ← h1, ← hm]
    simp only [hdst, Exit.thenS]
    exact rest_ok _ _ (.val _ _) c₀ cs (by rw [hc0])
  | some v =>
    obtain ⟨x, hx, h1, h2⟩ := hu
    have e : recoverD (c₀ :: cs) = some (x, { c₀ with mode := u2 } :: cs) := by simp [recoverD, hm, h1, h2]
    rw [e]
    simp only [hdst, Exit.thenS]
    exact rest_ok _ _ hx c₀ cs rfl
def DefOf (x : Value) (df : Deferred) : Prop := ∃ fn first cap, x = .func fn first cap ∧ df = { target := .fn fn cap, args := first }
def PostK (E : Nat → Nat → Prop) (H0 : List O) (β0 : List Loc) (w0 : World) (n : Nat) (s : St) (d : Option V) (e : Exit) (a : Act) (w : World) : Prop :=
  match d with
  | none => Post E H0 β0 w0 n [] (fun e t H => (e, t, H) = s) e a w
  | some v => ∃ df H1 β1 w1 x, Step E H0 β0 w0 H1 β1 w1 ∧ R w1 (Xs E H1 β1) β1 v x ∧ DefOf x df ∧ Post E H1 β1 w1 n [df] (fun e t H => (e, t, H) = s) e a w
theorem defSlot_spec {ops : Array Oper} {d : Nat} {fn : Fn} {first cap : List Operand} (h : defSlot ops = some (d, fn, first, cap)) :
    ∃ o1 o2 fa ca cl, ops = #[o1, o2] ∧ o1.op = .makeFunc fn fa ca ∧ fa.toList = first ∧ ca.toList = cap ∧ o1.dst = some d ∧ o1.guard = none ∧ o2.op = .defer cl ∧ cl.callee = .value (.tmp d) ∧ cl.args = #[] ∧ o2.dst = none ∧ o2.guard = none := by
  unfold defSlot at h
  split at h
  rotate_left
  · cases h
  rename_i o1 o2 hops
  split at h
  rotate_left
  · cases h
  rename_i fn' fa ca d' h1 h2 h3
  split at h
  rotate_left
  · cases h
  rename_i e args at' h4 h5 h6
  cases hb : (Nat.beq d' e && args.isEmpty)
  · rw [hb] at h; cases h
  rw [hb] at h
  simp only [cond_true, Option.some.injEq, Prod.mk.injEq] at h
  obtain ⟨rfl, rfl, rfl, rfl⟩ := h
  obtain ⟨b1, b2⟩ := Bool.and_eq_true_iff.1 hb
  have b1 := Nat.eq_of_beq_eq_true b1
  subst b1
  exact ⟨o1, o2, fa, ca, _, by apply Array.ext'; simpa using hops, h1, rfl, rfl, h2, h3, h4, rfl, by simpa using b2, h5, h6⟩
theorem defOf_spec {a : Code} {p : Nat × Fn × List Operand × List Operand} (h : defOf a = some p) : ∃ id ops, a = .region id ops false ∧ defSlot ops = some p := by
  unfold defOf at h
  split at h
  · exact ⟨_, _, rfl, h⟩
  · cases h
theorem wp_plain {cx : Cx} (hT : CxOk cx) {c : Code} {t : T} {s : St} (h : (dcode cx c t H).run = some s) {H0 : List O} {β0 : List Loc} {w0 : World} {a : Act}
    (hs : StartOk cx.P E H0 β0 w0) {D : List Deferred} (hg : Good E H0 β0 w0 cx.n D t H β a w) : c.wp cx.P (Post E H0 β0 w0 cx.n D fun e t H => (e, t, H) = s) a w :=
  AWP_code rfl rfl hT c _ t H (Tree.run_all h rfl) E H0 β0 w0 D β a w hs hg
theorem wp_dcodeD {cx : Cx} (hT : CxOk cx) {H0 : List O} {β0 : List Loc} {w0 : World} (hs : StartOk cx.P E H0 β0 w0) : ∀ (c : Code) (t : T) (H : List O) (s : St) (d : Option V), (dcodeD cx c t H).run = some (s, d) →
    ∀ β a w, Good E H0 β0 w0 cx.n [] t H β a w → c.wp cx.P (PostK E H0 β0 w0 cx.n s d) a w := by
  intro c
  have plain : ∀ (c : Code) (t : T) (H : List O) (s : St) (d : Option V), ((dcode cx c t H).bind fun s => Tree.leaf (s, (none : Option V))).run = some (s, d) →
      ∀ β a w, Good E H0 β0 w0 cx.n [] t H β a w → c.wp cx.P (PostK E H0 β0 w0 cx.n s d) a w := by
    intro c t H s d h β a w hg
    obtain ⟨s', h1, h2⟩ := bind_run h
    simp only [Tree.run, Option.some.injEq, Prod.mk.injEq] at h2
    obtain ⟨rfl, rfl⟩ := h2
    exact wp_mono (wp_plain hT h1 hs hg) fun _ _ _ hp => hp
  induction c with
  | seq x y ihx ihy =>
    intro t H s d h β a w hg
    unfold dcodeD at h
    split at h
    · rename_i d' fn first cap hdef
      obtain ⟨id, ops, rfl, hslot⟩ := defOf_spec hdef
      obtain ⟨o1, o2, fa, ca, cl, rfl, e1, e2, e3, e4, e5, e6, e7, e8, e9, e10⟩ := defSlot_spec hslot
      cases hb : Nat.blt d' cx.n
      · rw [hb] at h; cases h
      rw [hb, cond_true] at h
      have hlt : d' < cx.n := by simpa [Nat.blt_eq] using hb
      obtain ⟨s', h1, h2⟩ := bind_run h
      simp only [Tree.run, Option.some.injEq, Prod.mk.injEq] at h2
      obtain ⟨rfl, rfl⟩ := h2
      have hrd := fun x => rd_R hg.fr x
      have hclo : R w (Xs E H β) β (.clo fn (first.map (rd t)) (cap.map (rd t))) (.func fn (fa.map a.eval) (ca.map a.eval)) := by
        have get : ∀ (l : List Operand) (k : Nat) (v : V) (x : Value), (l.map (rd t))[k]? = some v → (l.map a.eval)[k]? = some x → R w (Xs E H β) β v x := by
          intro l k v x h1 h2
          simp only [List.getElem?_map, Option.map_eq_some_iff] at h1 h2
          obtain ⟨u, hu, rfl⟩ := h1
          obtain ⟨u', hu', rfl⟩ := h2
          rw [hu] at hu'
          simp only [Option.some.injEq] at hu'
          subst hu'
          exact hrd u
        have q1 : fa.map a.eval = (first.map a.eval).toArray := by rw [← e2]; apply Array.ext'; simp
        have q2 : ca.map a.eval = (cap.map a.eval).toArray := by rw [← e3]; apply Array.ext'; simp
        rw [q1, q2]
        exact .clo β fn _ _ _ _ (by simp) (by simp) (get _) (get _)
      refine wp_seq (wp_region ?_)
      have hl : List.range (#[o1, o2] : Array Oper).size = [0, 1] := rfl
      have w1 : ∀ y, Region.wanted o1 y = true := fun y => by simp [Region.wanted, e5]
      have w2 : ∀ y, Region.wanted o2 y = true := fun y => by simp [Region.wanted, e10]
      rw [hl]
      simp only [wpOps, List.getElem?_toArray, List.getElem?_cons_zero, List.getElem?_cons_succ, w1, w2, if_true]
      refine .inl ?_
      have r1 : (execOp a.eval o1).run cx.P w = .ok (.value (.func fn (fa.map a.eval) (ca.map a.eval))) w := by
        simp only [execOp, e1]
        rfl
      unfold Oper.wp
      rw [r1, Oper.upon_value]
      refine .inl ?_
      have hsz : d' < a.tmps.size := by rw [hg.fr.size]; exact hlt
      have r2 : (execOp (a.put o1.dst (.func fn (fa.map a.eval) (ca.map a.eval))).eval o2).run cx.P w = .ok (.defer { target := .fn fn (ca.map a.eval), args := fa.map a.eval }) w := by
        have hev : (a.put o1.dst (.func fn (fa.map a.eval) (ca.map a.eval))).eval (.tmp d') = .func fn (fa.map a.eval) (ca.map a.eval) := by
          simp [e4, Act.put, Act.eval, Array.getD_eq_getD_getElem?, hsz]
        simp only [execOp, e6, resolve, e7, e8, hev, Deferred.ofValue]
        simp
      rw [r2, Oper.upon_defer]
      simp only [e9, e4, Act.put, Exit.then]
      have hfr := hg.fr.put (d := d') hlt hclo
      have hg' : Good E H β w cx.n [{ target := .fn fn (ca.map a.eval), args := fa.map a.eval }] (keep cx.keeps (put d' (.clo fn (first.map (rd t)) (cap.map (rd t))) t)) H β
          { tmps := a.tmps.setIfInBounds d' (.func fn (fa.map a.eval) (ca.map a.eval)), defers := { target := .fn fn (ca.map a.eval), args := fa.map a.eval } :: a.defers } w :=
        ⟨Step.refl hg.step.rel, ⟨hfr.size, fun k => (hfr.keep cx.keeps).slot k⟩, by rw [hg.defers]⟩
      refine wp_mono (wp_plain hT h1 (hs.now hg.step) hg') fun e a' w' hp => ?_
      exact ⟨_, H, β, w, _, hg.step, hclo, ⟨fn, _, _, rfl, rfl⟩, hp⟩
    · obtain ⟨s', h1, h2⟩ := bind_run h
      refine wp_seq (wp_mono (wp_plain hT h1 hs hg) ?_)
      intro e a' w' hp
      obtain ⟨ex, t', H'⟩ := s'
      cases e with
      | normal =>
        obtain ⟨t2, H2, β2, hq, hg2⟩ := hp
        cases hq
        exact ihy t' H' s d h2 β2 a' w' hg2
      | exit id =>
        obtain ⟨t2, H2, β2, hq, hg2⟩ := hp
        cases hq
        simp only [Tree.run, Option.some.injEq, Prod.mk.injEq] at h2
        obtain ⟨rfl, rfl⟩ := h2
        exact ⟨t', H', β2, rfl, hg2⟩
      | ret =>
        obtain ⟨t2, H2, β2, hq, hg2⟩ := hp
        cases hq
        simp only [Tree.run, Option.some.injEq, Prod.mk.injEq] at h2
        obtain ⟨rfl, rfl⟩ := h2
        exact ⟨t', H', β2, rfl, hg2⟩
      | panic ch =>
        obtain ⟨t2, H2, β2, v, x, hq, hg2⟩ := hp
        cases hq
        simp only [Tree.run, Option.some.injEq, Prod.mk.injEq] at h2
        obtain ⟨rfl, rfl⟩ := h2
        exact ⟨t', H', β2, v, x, rfl, hg2⟩
      | goto l => exact hp.elim
      | outgrown => exact hp.elim
  | _ => exact plain _
theorem mcall_defer {cx cl : Cx} {f g : Nat} {fn fg : Func} {args : List V} {r : Res} (hT : CxOk cx) (hL : CxOk cl) (hP : cl.P = cx.P) (hf : cx.P.funcs[f]? = some fn)
    (hname : (fn.name == "runtime.NumGoroutine") = false) (hg : cx.P.funcs[g]? = some fg) (hgname : (fg.name == "runtime.NumGoroutine") = false) (hn : Nat.ble args.length fn.ntmps = true)
    (h : (dfunD cx cl fn g fg args H).run = some r) : MCall cx.P f args H r := by
  have hname : fn.name ≠ "runtime.NumGoroutine" := by intro e; rw [e] at hname; simp at hname
  have hgname : fg.name ≠ "runtime.NumGoroutine" := by intro e; rw [e] at hgname; simp at hgname
  unfold dfunD at h
  split at h
  rotate_left
  · cases h
  rename_i c hb
  obtain ⟨⟨s, d⟩, h1, h2⟩ := bind_run h
  refine ⟨⟨fn, hf, hname, by simp [hb]⟩, ?_⟩
  intro w E β rargs hE hrel hlen hargs
  refine calls_of_wp_defers hf hb ?_
  have hgood : Good E H β w fn.ntmps [] (initT 0 args) H β _ w := ⟨Step.refl hrel, fr_init hlen (Nat.le_of_ble_eq_true hn) hargs, rfl⟩
  refine wp_mono (wp_dcodeD (cx := { cx with n := fn.ntmps }) hT hE c _ _ s d h1 β _ w hgood) ?_
  intro e a w' hp
  cases d with
  | none =>
    have fin : ∀ t H2 β2, answerM cx.P fn.results.toList (.ret, t, H2) = answerM cx.P fn.results.toList s → Good E H β w fn.ntmps [] t H2 β2 a w' → Leaves cx.P fn a.tmps (Outcome E H β w r) a.defers .returning w' := by
      intro t H2 β2 hs hg
      rw [hg.defers]
      have h2 : (answerM cx.P fn.results.toList (.ret, t, H2)).run = some r := by rw [hs]; exact h2
      unfold answerM at h2
      simp only at h2
      split at h2
      rotate_left
      · cases h2
      rename_i v hv
      simp only [Tree.run, Option.some.injEq] at h2
      subst h2
      obtain ⟨y, q1, q2⟩ := answerI_R hg.step.rel hg.fr hv
      exact ⟨y, q1, y, β2, rfl, hg.step, q2⟩
    cases e with
    | normal => obtain ⟨t, H2, β2, hq, hg⟩ := hp; subst hq; exact fin t H2 β2 rfl hg
    | ret => obtain ⟨t, H2, β2, hq, hg⟩ := hp; subst hq; exact fin t H2 β2 rfl hg
    | exit id => obtain ⟨t, H2, β2, hq, hg⟩ := hp; subst hq; cases h2
    | panic ch =>
      obtain ⟨t, H2, β2, v, x, hq, hg, hx, rfl⟩ := hp
      subst hq
      simp only [deferS, answerM, Tree.run, Option.some.injEq] at h2
      subst h2
      simp only [bodyPostD, hg.defers]
      exact ⟨x, β2, rfl, hg.step, hx⟩
    | goto l => exact hp.elim
    | outgrown => exact hp.elim
  | some cv =>
    obtain ⟨df, H1, β1, w1, x, hst, hx, ⟨fv, first, cap, rfl, rfl⟩, hp⟩ := hp
    unfold deferS at h2
    split at h2
    · rename_i heq; cases heq
    rotate_left
    · cases h2
    rename_i s' g' fs cs heq
    simp only [Prod.mk.injEq, Option.some.injEq] at heq
    obtain ⟨rfl, rfl⟩ := heq
    cases hbq : (Nat.beq g' g && Nat.ble (fs ++ cs).length fg.ntmps)
    · rw [hbq] at h2; cases h2
    rw [hbq, cond_true] at h2
    obtain ⟨b1, b2⟩ := Bool.and_eq_true_iff.1 hbq
    have b1 := Nat.eq_of_beq_eq_true b1
    subst b1
    have b2 := Nat.le_of_ble_eq_true b2
    have hfv : fv = .func g' := by cases hx; rfl
    subst hfv
    have fin : ∀ (t : T) (H2 : List O) (β2 : List Loc) (rv : Option V) (u u2 : FrameMode), u ≠ .run → settle u2 = .returning → Good E H1 β1 w1 fn.ntmps [{ target := .fn (.func g') cap, args := first }] t H2 β2 a w' →
        Mode w' (Xs E H2 β2) β2 u u2 rv → ((dcl cl fg (fs ++ cs) H2 rv).bind fun H => answerM cx.P fn.results.toList (.ret, t, H)).run = some r →
        Leaves cx.P fn a.tmps (Outcome E H β w r) a.defers u w' := by
      intro t H2 β2 rv u u2 hrun hset hg2 hmode hh
      rw [hg2.defers]
      obtain ⟨H3, q1, q2⟩ := bind_run hh
      have hclo := hg2.step.keepR hx
      obtain ⟨xs, ys, hxs, hys, hl1, hl2, r1, r2⟩ : ∃ xs ys : List Value, first = xs.toArray ∧ cap = ys.toArray ∧ xs.length = fs.length ∧ ys.length = cs.length ∧
          (∀ (k : Nat) (v : V) (x : Value), fs[k]? = some v → xs[k]? = some x → R w' (Xs E H2 β2) β2 v x) ∧ (∀ (k : Nat) (v : V) (x : Value), cs[k]? = some v → ys[k]? = some x → R w' (Xs E H2 β2) β2 v x) := by
        cases hclo with
        | clo _ _ _ _ xs ys hl hm k1 k2 => exact ⟨xs, ys, rfl, rfl, hl, hm, k1, k2⟩
      subst hxs
      subst hys
      have hbody : fg.body.isSome = true := by
        unfold dcl at q1
        split at q1
        · rename_i hbody; rw [hbody]; rfl
        · cases q1
      have happ : (xs ++ ys).length = (fs ++ cs).length := by simp [hl1, hl2]
      have hinv : (invoke (.fn (.func g') ys.toArray) xs.toArray).run cx.P w' = .ok (.enter g' (xs ++ ys).toArray) w' := by
        obtain ⟨bd, hbd⟩ := Option.isSome_iff_exists.1 hbody
        simp [invoke, callFunc, hg, hgname, hbd]
      refine leaves_cons hrun hinv ?_
      have hs2 : StartOk cl.P E H2 β2 w' := by rw [hP]; exact (StartOk.now (StartOk.now hE hst) hg2.step : _)
      have := dcl_sound (cx := cl) hL (g := g') (by rw [hP]; exact hg) q1 hs2 hg2.step.rel happ b2 (by
        intro k v x hv hx
        by_cases hk : k < fs.length
        · rw [List.getElem?_append_left hk] at hv
          rw [List.getElem?_append_left (by omega)] at hx
          exact r1 k v x hv hx
        · rw [List.getElem?_append_right (by omega)] at hv
          rw [List.getElem?_append_right (by omega), hl1] at hx
          exact r2 _ v x hv hx) hmode
      rw [hP] at this
      refine this.mono ?_
      rintro e u' w2 ⟨⟨y, rfl⟩, rfl, β3, hst3⟩
      simp only [hset]
      unfold answerM at q2
      simp only at q2
      split at q2
      rotate_left
      · cases q2
      rename_i v hv
      simp only [Tree.run, Option.some.injEq] at q2
      subst q2
      obtain ⟨z, z1, z2⟩ := answerI_R hst3.rel (hg2.fr.step hst3) hv
      exact ⟨z, z1, z, β3, rfl, (hst.trans hg2.step).trans hst3, z2⟩
    cases e with
    | normal => obtain ⟨t, H2, β2, hq, hg2⟩ := hp; subst hq; exact fin t H2 β2 none .returning .returning (by simp) rfl hg2 ⟨rfl, rfl⟩ h2
    | ret => obtain ⟨t, H2, β2, hq, hg2⟩ := hp; subst hq; exact fin t H2 β2 none .returning .returning (by simp) rfl hg2 ⟨rfl, rfl⟩ h2
    | exit id => obtain ⟨t, H2, β2, hq, hg2⟩ := hp; subst hq; cases h2
    | panic ch =>
      obtain ⟨t, H2, β2, v, x, hq, hg2, hx2, rfl⟩ := hp
      subst hq
      exact fin t H2 β2 (some v) _ (.panicking [{ v := x, recovered := true }]) (by simp) rfl hg2 ⟨x, hx2, rfl, rfl⟩ h2
    | goto l => exact hp.elim
    | outgrown => exact hp.elim
theorem pcall_of_mcall {f : Nat} {args : List V} {v out : V} {H' : List O} (h : MCall P f args [] (.ok v H')) (hp : V.pure? v = some out) : PCall P f args out := by
  obtain ⟨hnorm, hc⟩ := h
  refine ⟨hnorm, fun w E rargs hE hlen hargs => ?_⟩
  have hX : ∀ v x, R w E [] v x → R w (Xs E [] []) [] v x := fun v x h => h.stab ⟨fun b o v h1 h2 => ⟨fun h => h.elim h1 (own_nil b o), h2⟩, fun b cs e h => ⟨cs, e, h⟩⟩ [] (.refl _)
  refine (hc w E [] rargs ⟨fun b o hb => ⟨hE.1 b o hb, own_nil b o⟩, fun p hp => hX _ _ (hE.2 p hp)⟩ (rel_nil _ _) hlen fun k v x h1 h2 => hX v x (hargs k v x h1 h2)).mono ?_
  rintro e w' ⟨y, β', rfl, st, hr⟩
  refine ⟨y, rfl, ?_, ?_⟩
  · exact ⟨rel_nil _ _, st.os, st.tape, st.output, st.size, fun b hb => by
      rcases st.pres b hb with h | ⟨⟨o, h⟩, _⟩ | ⟨⟨o, h⟩, _⟩
      · exact .inl h
      · exact absurd h (own_nil b o)
      · exact absurd h (own_nil b o), fun b o h => absurd h (own_nil b o), .nil _⟩
  · exact (pure_R hr out hp).stab ⟨fun b o v h1 h2 => ⟨fun h => h1 (.inl h), h2⟩, fun b cs e h => ⟨cs, e, h⟩⟩ [] (.refl _)
end
end Go.Ab

namespace Go.Ab
def ordsF (cx : Cx) (ops : Array Oper) : Nat → Array Bool → T × List O → Option (List (T × List O))
  | 0, listed, p => cond (Region.ready .any ops listed).isEmpty (some [p]) none
  | fuel + 1, listed, p => cond (Region.ready .any ops listed).isEmpty none
    ((Region.ready .any ops listed).foldr (fun i acc => match acc, ops[i]? with
      | some l, some o => match step1 cx ops o p with
        | some q => match ordsF cx ops fuel (listed.setIfInBounds i true) q with
          | some m => some (m ++ l)
          | none => none
        | none => none
      | _, _ => none) (some []))
def ordK (ks : List Nat) (t : T) : List Nat := ks.map fun d => match get d t with
  | .ptr i _ => i
  | _ => 0
section
variable {P : Program} {n : Nat} {Q : AEx → T → List O → Prop} {t : T} {H : List O} {cx : Cx} {ops : Array Oper}
theorem ords_step {fuel : Nat} {listed : Array Bool} {p : T × List O} : ∀ (is : List Nat) (l : List (T × List O)),
    is.foldr (fun i acc => match acc, ops[i]? with
      | some l, some o => match step1 cx ops o p with
        | some q => match ordsF cx ops fuel (listed.setIfInBounds i true) q with
          | some m => some (m ++ l)
          | none => none
        | none => none
      | _, _ => none) (some []) = some l →
    ∀ i ∈ is, ∃ o q m, ops[i]? = some o ∧ step1 cx ops o p = some q ∧ ordsF cx ops fuel (listed.setIfInBounds i true) q = some m ∧ ∀ s ∈ m, s ∈ l
  | [], _, _, i, hi => by cases hi
  | j :: is, l, h, i, hi => by
    rw [List.foldr_cons] at h
    split at h
    rotate_left
    · cases h
    rename_i l' o h1 h2
    split at h
    rotate_left
    · cases h
    rename_i q hq
    split at h
    rotate_left
    · cases h
    rename_i m hm
    simp only [Option.some.injEq] at h
    subst h
    rcases List.mem_cons.1 hi with rfl | hi
    · exact ⟨o, q, m, h2, hq, hm, fun s hs => List.mem_append_left _ hs⟩
    · obtain ⟨o', q', m', g1, g2, g3, g4⟩ := ords_step is l' h1 i hi
      exact ⟨o', q', m', g1, g2, g3, fun s hs => List.mem_append_right _ (g4 s hs)⟩
theorem ords_sound (hT : CxOk cx) {E H0 β0 w0 D} (hs : StartOk cx.P E H0 β0 w0) : ∀ (fuel : Nat) (listed : Array Bool) (p : T × List O) (l : List (T × List O)) (β : List Loc) (a : Act) (w : World),
    ordsF cx ops fuel listed p = some l → (∀ s ∈ l, Q .normal s.1 s.2) → Good E H0 β0 w0 cx.n D p.1 p.2 β a w → wpAny cx.P .any ops (Post E H0 β0 w0 cx.n D Q) fuel listed a w
  | 0, listed, p, l, β, a, w, h, hq, hg => by
    unfold ordsF at h
    cases hr : (Region.ready .any ops listed).isEmpty
    · rw [hr] at h; cases h
    rw [hr] at h
    simp only [cond_true, Option.some.injEq] at h
    subst h
    exact ⟨by simpa using hr, p.1, p.2, β, hq p List.mem_cons_self, hg⟩
  | fuel + 1, listed, p, l, β, a, w, h, hq, hg => by
    unfold ordsF at h
    cases hr : (Region.ready .any ops listed).isEmpty
    rotate_left
    · rw [hr] at h; cases h
    rw [hr, cond_false] at h
    refine ⟨fun h0 => (by rw [h0] at hr; cases hr), fun i hi => ?_⟩
    obtain ⟨o, q, m, g1, g2, g3, g4⟩ := ords_step _ l h i hi
    refine step1_sound hT hs g1 (t := p.1) (H := p.2) hg g2 ?_
    intro β' a' w' hg'
    exact ords_sound hT hs fuel _ q m β' a' w' g3 (fun s hs => hq s (g4 s hs)) hg'
theorem AWP_orders (hP : cx.P = P) (hn : cx.n = n) (hT : CxOk cx) {id : Nat} (hm : cx.P.follows .mixedOrders = true) {l : List (T × List O)}
    (h : ordsF cx ops ops.size (Array.replicate ops.size false) (t, H) = some l) (hq : ∀ s ∈ l, Q .normal s.1 s.2) : AWP P n (.region id ops true) Q t H := by
  subst hP
  subst hn
  intro E H0 β0 w0 D β a w hs hg
  refine wp_region_any hm ?_
  have st := Step.heap_same (w' := { w with drawn := w.drawn + 1 }) hg.step.rel rfl rfl rfl rfl
  exact ords_sound hT hs ops.size _ (t, H) l β a _ h hq ⟨hg.step.trans st, hg.fr.step st, hg.defers⟩
def regOps : Code → Array Oper
  | .region _ ops _ => ops
  | _ => #[]
theorem AWP_ordersK (ks : List Nat) (k : Nat) (hP : cx.P = P) (hn : cx.n = n) (hT : CxOk cx) {id : Nat} (hm : cx.P.follows .mixedOrders = true) {t' : T} {H' : List O}
    (h : (ordsF cx ops ops.size (Array.replicate ops.size false) (t, H)).map (fun l => l.map fun s => dropS H.length (ordK ks s.1) (.normal, s.1, s.2)) = some (List.replicate k (some (.normal, t', H'))))
    (hq : Q .normal t' H') : AWP P n (.region id ops true) Q t H := by
  obtain ⟨l, hl, h2⟩ := Option.map_eq_some_iff.1 h
  refine AWP_scope (AWP_orders hP hn hT hm hl fun s hs => ⟨ordK ks s.1, (.normal, t', H'), ?_, hq⟩)
  have : dropS H.length (ordK ks s.1) (.normal, s.1, s.2) ∈ List.replicate k (some ((.normal, t', H') : St)) := by rw [← h2]; exact List.mem_map_of_mem hs
  exact (List.mem_replicate.1 this).2
end
end Go.Ab

namespace Go.Amd
open Go Go.Ab Go.Proofs
theorem cx0_ok {cx : Cx} (h1 : cx.tab = []) (h2 : cx.mtab = []) (h3 : cx.rtab = [] := by rfl) (h4 : ∀ p ∈ cx.globs, p ∈ globsOf cx.P := by intro p h; cases h) : CxOk cx := by
  refine ⟨?_, ?_, ?_, h4⟩
  · rw [h1]; exact .nil _
  · rw [h2]; exact .nil _
  · rw [h3]; exact .nil _
theorem cx1_ok {cx : Cx} {t : List (Nat × Ab.Spec)} {m : List (Nat × MSpec)} (ht : TabOk cx.P t) (hm : MTabOk cx.P m) (h1 : cx.tab = t) (h2 : cx.mtab = m) (h3 : cx.rtab = [] := by rfl) (h4 : ∀ p ∈ cx.globs, p ∈ globsOf cx.P := by intro p h; cases h) : CxOk cx := by
  refine ⟨?_, ?_, ?_, h4⟩
  · rw [h1]; exact ht
  · rw [h2]; exact hm
  · rw [h3]; exact .nil _
abbrev rowE : EC := .prod [.str, .int .i64, .int .u16, .int .i64, .int .u8, .bool, .int .i64, .int .i64, .str]
abbrev RowT := List UInt8 × Int × Int × Int × Int × Bool × Int × Int × List UInt8
noncomputable def cx73 : Cx := { P := Try.prog, n := 32, tab := [], mtab := [], refs := [], keeps := [0, 1, 2, 4, 7, 8, 9, 10, 11], fuel := 10 }
noncomputable def likeS : MSpec := fun args H => .req (Nat.ble args.length Try.f73.ntmps) (mfun cx73 Try.f73 args H)
theorem likeS_ok : MSound Try.prog 73 likeS := msound_fun (cx := cx73) (fn := Try.f73) (cx0_ok rfl rfl) (by kernel_rfl) (by kernel_rfl)
noncomputable def cx58 : Cx := { P := Try.prog, n := 62, tab := [], mtab := [(73, likeS)], refs := [], keeps := [0, 2, 3, 4] }
noncomputable def cx59 : Cx := { P := Try.prog, n := 75, tab := [], mtab := [(73, likeS)], refs := [], keeps := [0] }
noncomputable def cx60 : Cx := { P := Try.prog, n := 43, tab := [], mtab := [(73, likeS)], refs := [], keeps := [0] }
def movesL : List RowT := [
  ([109, 111, 118, 46, 114, 114], 1, 137, 7, 0, false, 0, 0, [65, 66]),
  ([109, 111, 118, 46, 114, 105], 1, 184, 2, 0, false, -9223372036854775808, 9223372036854775807, [65, 105]),
  ([109, 111, 118, 46, 114, 115], 1, 199, 4, 0, false, -2147483648, 2147483647, [65, 105]),
  ([109, 111, 118, 46, 114, 109], 1, 139, 9, 0, false, -2147483648, 2147483647, [65, 109]),
  ([109, 111, 118, 108, 46, 114, 109], 0, 139, 9, 0, false, -2147483648, 2147483647, [65, 109]),
  ([109, 111, 118, 115, 108, 46, 114, 109], 1, 99, 9, 0, false, -2147483648, 2147483647, [65, 109]),
  ([109, 111, 118, 122, 98, 46, 114, 109], 1, 4022, 9, 0, false, -2147483648, 2147483647, [65, 109]),
  ([108, 101, 97], 1, 141, 9, 0, false, -2147483648, 2147483647, [65, 109]),
  ([109, 111, 118, 46, 109, 114], 1, 137, 9, 0, false, -2147483648, 2147483647, [65, 109]),
  ([109, 111, 118, 108, 46, 109, 114], 0, 137, 9, 0, false, -2147483648, 2147483647, [65, 109]),
  ([109, 111, 118, 98, 46, 109, 114], 2, 136, 9, 0, false, -2147483648, 2147483647, [65, 109]),
  ([109, 111, 118, 46, 102, 115], 1, 139, 10, 0, false, -2147483648, 2147483647, [65, 105])]
@[irreducible] def rowsL : List RowT := [
  ([109, 111, 118, 46, 114, 114], 1, 137, 7, 0, false, 0, 0, [65, 66]),
  ([109, 111, 118, 46, 114, 105], 1, 184, 2, 0, false, -9223372036854775808, 9223372036854775807, [65, 105]),
  ([109, 111, 118, 46, 114, 115], 1, 199, 4, 0, false, -2147483648, 2147483647, [65, 105]),
  ([109, 111, 118, 46, 114, 109], 1, 139, 9, 0, false, -2147483648, 2147483647, [65, 109]),
  ([109, 111, 118, 108, 46, 114, 109], 0, 139, 9, 0, false, -2147483648, 2147483647, [65, 109]),
  ([109, 111, 118, 115, 108, 46, 114, 109], 1, 99, 9, 0, false, -2147483648, 2147483647, [65, 109]),
  ([109, 111, 118, 122, 98, 46, 114, 109], 1, 4022, 9, 0, false, -2147483648, 2147483647, [65, 109]),
  ([108, 101, 97], 1, 141, 9, 0, false, -2147483648, 2147483647, [65, 109]),
  ([109, 111, 118, 46, 109, 114], 1, 137, 9, 0, false, -2147483648, 2147483647, [65, 109]),
  ([109, 111, 118, 108, 46, 109, 114], 0, 137, 9, 0, false, -2147483648, 2147483647, [65, 109]),
  ([109, 111, 118, 98, 46, 109, 114], 2, 136, 9, 0, false, -2147483648, 2147483647, [65, 109]),
  ([109, 111, 118, 46, 102, 115], 1, 139, 10, 0, false, -2147483648, 2147483647, [65, 105]),
  ([97, 100, 100, 46, 114, 114], 1, 1, 7, 0, false, 0, 0, [65, 66]),
  ([111, 114, 46, 114, 114], 1, 9, 7, 0, false, 0, 0, [65, 66]),
  ([97, 110, 100, 46, 114, 114], 1, 33, 7, 0, false, 0, 0, [65, 66]),
  ([115, 117, 98, 46, 114, 114], 1, 41, 7, 0, false, 0, 0, [65, 66]),
  ([120, 111, 114, 46, 114, 114], 1, 49, 7, 0, false, 0, 0, [65, 66]),
  ([99, 109, 112, 46, 114, 114], 1, 57, 7, 0, false, 0, 0, [65, 66]),
  ([97, 100, 100, 46, 114, 109], 1, 3, 9, 0, false, -2147483648, 2147483647, [65, 109]),
  ([111, 114, 46, 114, 109], 1, 11, 9, 0, false, -2147483648, 2147483647, [65, 109]),
  ([97, 110, 100, 46, 114, 109], 1, 35, 9, 0, false, -2147483648, 2147483647, [65, 109]),
  ([115, 117, 98, 46, 114, 109], 1, 43, 9, 0, false, -2147483648, 2147483647, [65, 109]),
  ([120, 111, 114, 46, 114, 109], 1, 51, 9, 0, false, -2147483648, 2147483647, [65, 109]),
  ([99, 109, 112, 46, 114, 109], 1, 59, 9, 0, false, -2147483648, 2147483647, [65, 109]),
  ([97, 100, 100, 46, 114, 105], 1, 131, 6, 0, false, -2147483648, 2147483647, [65, 105]),
  ([111, 114, 46, 114, 105], 1, 131, 6, 1, false, -2147483648, 2147483647, [65, 105]),
  ([97, 110, 100, 46, 114, 105], 1, 131, 6, 4, false, -2147483648, 2147483647, [65, 105]),
  ([115, 117, 98, 46, 114, 105], 1, 131, 6, 5, false, -2147483648, 2147483647, [65, 105]),
  ([120, 111, 114, 46, 114, 105], 1, 131, 6, 6, false, -2147483648, 2147483647, [65, 105]),
  ([99, 109, 112, 46, 114, 105], 1, 131, 6, 7, false, -2147483648, 2147483647, [65, 105]),
  ([116, 101, 115, 116, 46, 114, 114], 1, 133, 7, 0, false, 0, 0, [65, 66]),
  ([105, 109, 117, 108, 46, 114, 114], 1, 4015, 8, 0, false, 0, 0, [65, 66]),
  ([110, 111, 116], 1, 247, 3, 2, false, 0, 0, [65]),
  ([110, 101, 103], 1, 247, 3, 3, false, 0, 0, [65]),
  ([109, 117, 108], 1, 247, 3, 4, false, 0, 0, [65]),
  ([100, 105, 118], 1, 247, 3, 6, false, 0, 0, [65]),
  ([105, 100, 105, 118], 1, 247, 3, 7, false, 0, 0, [65]),
  ([99, 113, 111], 1, 153, 0, 0, false, 0, 0, []),
  ([115, 104, 108, 46, 114, 105], 1, 193, 5, 4, false, 0, 63, [65, 105]),
  ([115, 104, 114, 46, 114, 105], 1, 193, 5, 5, false, 0, 63, [65, 105]),
  ([115, 97, 114, 46, 114, 105], 1, 193, 5, 7, false, 0, 63, [65, 105]),
  ([115, 104, 108, 46, 114, 99], 1, 211, 3, 4, false, 0, 0, [65]),
  ([115, 104, 114, 46, 114, 99], 1, 211, 3, 5, false, 0, 0, [65]),
  ([115, 97, 114, 46, 114, 99], 1, 211, 3, 7, false, 0, 0, [65]),
  ([99, 109, 111, 118], 1, 3904, 8, 0, true, 0, 0, [65, 66, 99]),
  ([112, 117, 115, 104], 0, 80, 1, 0, false, 0, 0, [65]),
  ([112, 111, 112], 0, 88, 1, 0, false, 0, 0, [65]),
  ([99, 97, 108, 108], 0, 232, 11, 0, false, -2147483648, 2147483647, [106]),
  ([106, 109, 112], 0, 233, 11, 0, false, -2147483648, 2147483647, [106]),
  ([106, 109, 112, 46, 115], 0, 235, 12, 0, false, -128, 127, [106]),
  ([99, 97, 108, 108, 46, 114], 0, 255, 3, 2, false, 0, 0, [65]),
  ([106, 109, 112, 46, 114], 0, 255, 3, 4, false, 0, 0, [65]),
  ([106, 99, 99], 0, 3968, 11, 0, true, -2147483648, 2147483647, [99, 106]),
  ([106, 99, 99, 46, 115], 0, 112, 12, 0, true, -128, 127, [99, 106]),
  ([114, 101, 116], 0, 195, 0, 0, false, 0, 0, []),
  ([115, 121, 115, 99, 97, 108, 108], 0, 3845, 0, 0, false, 0, 0, []),
  ([110, 111, 112], 0, 144, 0, 0, false, 0, 0, []),
  ([117, 100, 50], 0, 3851, 0, 0, false, 0, 0, [])]
def mvH : List O := [.cells [.gro 1 rowE []] 101, .tok 0 9]
noncomputable def mvOf (x : Option St) : T × List O := match x with
  | some (.normal, t, H) => (t, H)
  | _ => ([], [])
@[irreducible] noncomputable def mv4 : T × List O := mvOf (dcode cx58 (headN 3 (bodyOf Try.f58)) [(0, .ptr 0 0)] mvH).run
theorem mv4_eq : (dcode cx58 (headN 3 (bodyOf Try.f58)) [(0, .ptr 0 0)] mvH).run = some (.normal, mv4.1, mv4.2) := by kernel_rfl
noncomputable def mvOps : Array Oper := regOps (c1 (tailN 3 (bodyOf Try.f58)))
@[irreducible] noncomputable def mv5 : T × List O := mvOf (((ordsF cx58 mvOps mvOps.size (Array.replicate mvOps.size false) mv4).map (fun l => l.map fun s => dropS mv4.2.length (ordK [3, 4] s.1) (.normal, s.1, s.2))).getD []).head?.join
set_option maxRecDepth 8000 in
theorem mv5_eq : (ordsF cx58 mvOps mvOps.size (Array.replicate mvOps.size false) (mv4.1, mv4.2)).map (fun l => l.map fun s => dropS mv4.2.length (ordK [3, 4] s.1) (.normal, s.1, s.2)) = some (List.replicate 30 (some (.normal, mv5.1, mv5.2))) := by kernel_rfl
@[irreducible] noncomputable def mvE : St := ((dcode cx58 (c2 (tailN 3 (bodyOf Try.f58))) mv5.1 mv5.2).run).getD (.normal, [], [])
theorem mvE_eq : (dcode cx58 (c2 (tailN 3 (bodyOf Try.f58))) mv5.1 mv5.2).run = some mvE := by kernel_rfl
theorem mvE_out : (dropS 2 [] mvE).map (fun s => (match s.1 with | .normal => true | _ => false, s.2.2)) = some (true, [.cells [.gro 1 rowE movesL] 101, .tok 12 9]) := by kernel_rfl
def movesS : MSpec := fun args H => match args, H with
  | [.ptr 0 0], [.cells [.gro 1 (.prod [.str, .int .i64, .int .u16, .int .i64, .int .u8, .bool, .int .i64, .int .i64, .str]) []] 101, .tok 0 9] => .leaf (.ok (.tup []) [.cells [.gro 1 rowE movesL] 101, .tok 12 9])
  | _, _ => .fail
theorem cxMoves_ok : CxOk cx58 := cx1_ok (.nil _) (.cons likeS_ok (.nil _)) rfl rfl
set_option maxHeartbeats 2000000 in
set_option maxRecDepth 8000 in
theorem movesS_ok : MSound Try.prog 58 movesS := by
  intro args H r h
  unfold movesS at h
  split at h
  rotate_left
  · cases h
  simp only [Tree.run, Option.some.injEq] at h
  subst h
  refine mcall_of' (c := bodyOf Try.f58) (fn := Try.f58) (by kernel_rfl) (by kernel_rfl) (by kernel_rfl) (by kernel_rfl) ?_
  refine AWP_scope ?_
  refine AWP_head (cx := cx58) rfl rfl cxMoves_ok 3 _ _ _ _ (by kernel_rfl) (Tree.run_all mv4_eq ?_)
  show AWP _ _ _ _ _ _
  have e : tailN 3 (bodyOf Try.f58) = .seq (.region 4 mvOps true) (c2 (tailN 3 (bodyOf Try.f58))) := by kernel_rfl
  rw [e]
  refine AWP_seq (AWP_ordersK (cx := cx58) [3, 4] 30 rfl rfl cxMoves_ok (by kernel_rfl) mv5_eq ?_)
  show AWP _ _ _ _ _ _
  refine AWP_run (cx := cx58) rfl rfl cxMoves_ok mvE_eq ?_
  obtain ⟨⟨ex, t, H⟩, h1, h2⟩ := Option.map_eq_some_iff.1 mvE_out
  simp only [Prod.mk.injEq] at h2
  obtain ⟨h2, rfl⟩ := h2
  refine ⟨[], _, h1, ?_⟩
  cases ex with
  | normal =>
    show MPost Try.prog Try.f58 (.ok (.tup []) [.cells [.gro 1 rowE movesL] 101, .tok 12 9]) .normal t [.cells [.gro 1 rowE movesL] 101, .tok 12 9]
    unfold MPost
    exact ⟨.inr rfl, rfl, by kernel_rfl⟩
  | exit _ => cases h2
  | ret => cases h2
  | panic _ => cases h2
noncomputable def sumsS : MSpec := fun args H => .req (Nat.ble args.length Try.f59.ntmps) (mfun cx59 Try.f59 args H)
theorem sumsS_ok : MSound Try.prog 59 sumsS := msound_fun (cx := cx59) (fn := Try.f59) (cx1_ok (.nil _) (.cons likeS_ok (.nil _)) rfl rfl) (by kernel_rfl) (by kernel_rfl)
noncomputable def jumpsS : MSpec := fun args H => .req (Nat.ble args.length Try.f60.ntmps) (mfun cx60 Try.f60 args H)
theorem jumpsS_ok : MSound Try.prog 60 jumpsS := msound_fun (cx := cx60) (fn := Try.f60) (cx1_ok (.nil _) (.cons likeS_ok (.nil _)) rfl rfl) (by kernel_rfl) (by kernel_rfl)
noncomputable def cx25 : Cx := { P := Try.prog, n := 7, tab := [], mtab := [(58, movesS), (59, sumsS), (60, jumpsS)], refs := [], keeps := [0, 1] }
def rowsS : Ab.Spec := fun args => match args with
  | [] => .leaf (.sl rowE rowsL [] .ro)
  | _ => .fail
theorem rows_run : (dfun cx25 Try.f25 []).run = some (.sl rowE rowsL [] .ro) := by kernel_rfl
theorem rowsL_len : rowsL.length = 58 := by kernel_rfl
theorem rowsS_ok : Sound Try.prog 25 rowsS := by
  intro args out h
  unfold rowsS at h
  split at h
  rotate_left
  · cases h
  simp only [Tree.run, Option.some.injEq] at h
  subst h
  exact pcall_fun' (cx := cx25) (fn := Try.f25) (cx1_ok (.nil _) (.cons movesS_ok (.cons sumsS_ok (.cons jumpsS_ok (.nil _)))) rfl rfl) (by kernel_rfl) (by kernel_rfl) (by kernel_rfl) rows_run
end Go.Amd

namespace Go.Amd
open Go Go.Ab Go.Proofs
def rowL (r : RowT) : List V := [.str r.1, .int .i64 r.2.1, .int .u16 r.2.2.1, .int .i64 r.2.2.2.1, .int .u8 r.2.2.2.2.1, .bool r.2.2.2.2.2.1, .int .i64 r.2.2.2.2.2.2.1, .int .i64 r.2.2.2.2.2.2.2.1, .str r.2.2.2.2.2.2.2.2]
noncomputable def cx16 : Cx := { P := Try.prog, n := 19, tab := [(25, rowsS)], mtab := [], refs := [], keeps := [0, 2, 3, 5, 6, 7, 8, 9, 15] }
noncomputable abbrev cxFind : Cx := cx16
def zeroR : RowT := ([], 0, 0, 0, 0, false, 0, 0, [])
abbrev rowAt (l : List RowT) (i : Nat) : RowT := l.getD i zeroR
def findRound (nm : List UInt8) (i : Int) (l : List RowT) : Tree St :=
  (.br (decide (i < (l.length : Nat))) (.br (inside i l.length) (.br (strEq (rowAt l i.toNat).1 nm)
    (.leaf (.ret, [(0, .str nm), (2, .ptr 0 0), (3, .bool true), (5, .ptr 1 0), (6, .sl rowE l [] .ro), (7, .int .i64 (l.length : Nat)), (8, .int .i64 i), (9, .bool true), (15, .bool true)], [.cells (rowL (rowAt l i.toNat)) 46, .cells (rowL (rowAt l i.toNat)) 46]))
    (.leaf (.normal, [(0, .str nm), (2, .ptr 0 0), (3, .bool false), (5, .ptr 1 0), (6, .sl rowE l [] .ro), (7, .int .i64 (l.length : Nat)), (8, .int .i64 (IntKind.wrap .i64 (i + 1))), (9, .bool true), (15, .bool false)], [.cells (rowL zeroR) 46, .cells (rowL (rowAt l i.toNat)) 46]))) .fail)
    (.leaf (.exit 0, [(0, .str nm), (2, .ptr 0 0), (3, .bool false), (6, .sl rowE l [] .ro), (7, .int .i64 (l.length : Nat)), (8, .int .i64 i), (9, .bool false)], [.cells (rowL zeroR) 46])))
theorem findRound_eq (nm : List UInt8) (i : Int) (l : List RowT) : (dcode cxFind (cin (cin (c2 (c1 (c2 (bodyOf Try.f16)))))) [(0, .str nm), (2, .ptr 0 0), (3, .bool false), (6, .sl rowE l [] .ro), (7, .int .i64 l.length), (8, .int .i64 i)] [.cells (rowL zeroR) 46]).run = (findRound nm i l).run :=
  (show (dcode cxFind (cin (cin (c2 (c1 (c2 (bodyOf Try.f16)))))) [(0, .str nm), (2, .ptr 0 0), (3, .bool false), (6, .sl rowE l [] .ro), (7, .int .i64 l.length), (8, .int .i64 i)] [.cells (rowL zeroR) 46]).run = (findRound nm i l).out by kernel_rfl).trans (Tree.out_run _)
theorem cxFind_ok : CxOk cxFind := cx1_ok (.cons rowsS_ok (.nil _)) (fun p h => by cases h) rfl rfl
def findL (nm : List UInt8) (l : List RowT) : Option RowT := l.find? fun r => strEq r.1 nm
def frow (nm : List UInt8) : RowT := (findL nm rowsL).getD zeroR
def fok (nm : List UInt8) : Bool := (findL nm rowsL).isSome
def findS : Ab.Spec := fun args => match args with
  | [.str nm] => .leaf (.tup [.agg (rowL (frow nm)), .bool (fok nm)])
  | _ => .fail
def findSt (nm : List UInt8) (i : { i : Nat // i ≤ rowsL.length ∧ findL nm (rowsL.take i) = none }) : T × List O :=
  ([(0, .str nm), (2, .ptr 0 0), (3, .bool false), (6, .sl rowE rowsL [] .ro), (7, .int .i64 rowsL.length), (8, .int .i64 i.1)], [.cells (rowL zeroR) 46])
theorem find_ok (nm : List UInt8) : PCall Try.prog 16 [.str nm] (.tup [.agg (rowL (frow nm)), .bool (fok nm)]) := by
  refine pcall_of' (c := bodyOf Try.f16) (fn := Try.f16) (by kernel_rfl) (by kernel_rfl) (by kernel_rfl) (by kernel_rfl) ?_
  have e : bodyOf Try.f16 = .seq (c1 (bodyOf Try.f16)) (.seq (.seq (c1 (c1 (c2 (bodyOf Try.f16)))) (.block 0 (.loop (cin (cin (c2 (c1 (c2 (bodyOf Try.f16))))))))) (c2 (c2 (bodyOf Try.f16)))) := by kernel_rfl
  rw [e]
  generalize hQ : (fun e t H => (e = AEx.ret ∨ e = .normal) ∧ answerV Try.prog Try.f16.results.toList H t = some (.tup [.agg (rowL (frow nm)), .bool (fok nm)])) = Q
  have hlen := rowsL_len
  refine AWP_seq (AWP_run (cx := cxFind) rfl rfl cxFind_ok (s := (.normal, [(0, .str nm), (2, .ptr 0 0), (3, .bool false)], [.cells (rowL zeroR) 46])) (by kernel_rfl) ?_)
  refine AWP_seq (AWP_seq (AWP_run (cx := cxFind) rfl rfl cxFind_ok (s := (.normal, [(0, .str nm), (2, .ptr 0 0), (3, .bool false), (6, .sl rowE rowsL [] .ro), (7, .int .i64 58), (8, .int .i64 0)], [.cells (rowL zeroR) 46])) (by kernel_rfl) ?_))
  refine AWP_block ?_
  refine AWP.less (s := (findSt nm ⟨0, Nat.zero_le _, rfl⟩).1) (Fits.tle ⟨rfl, rfl, rfl, rfl, by kernel_rfl, rfl, trivial⟩) ?_
  refine AWP_rounds (cx := cxFind) (P := Try.prog) (n := 19) rfl rfl cxFind_ok (findSt nm) (fun i => 58 - i.1) ?_ ⟨0, Nat.zero_le _, rfl⟩
  rintro ⟨i, hi, hnone⟩
  refine Tree.all_run_eq (findRound_eq nm i rowsL) ?_
  refine ⟨fun hlt => ⟨fun hin => ⟨fun hp => ?_, fun hp => ?_⟩, fun hin => ?_⟩, fun hge => ?_⟩
  · -- found
    have hlt : i < rowsL.length := Int.ofNat_lt.1 (of_decide_eq_true hlt)
    have hf : findL nm rowsL = some (rowsL.getD i zeroR) := take_some hlt hnone hp
    refine ⟨[], _, rfl, ?_⟩
    subst hQ
    refine ⟨.inl rfl, ?_⟩
    have h1 : frow nm = rowsL.getD i zeroR := by unfold frow; rw [hf]; rfl
    have h2 : fok nm = true := by unfold fok; rw [hf]; rfl
    show answerV _ _ _ _ = some _
    rw [h1, h2]
    kernel_rfl
  · have hlt : i < rowsL.length := Int.ofNat_lt.1 (of_decide_eq_true hlt)
    have hf : findL nm (rowsL.take (i + 1)) = none := take_none hlt hnone hp
    refine ⟨[], _, rfl, ⟨i + 1, hlt, hf⟩, by show 58 - (i + 1) < 58 - i; omega, Fits.tle ⟨rfl, rfl, rfl, rfl, rfl, ?_, trivial⟩, rfl⟩
    show V.int .i64 (IntKind.wrap .i64 ((i : Int) + 1)) = V.int .i64 ((i + 1 : Nat) : Int)
    rw [wrap_i64 (by omega) (by omega)]
    rfl
  · exfalso
    have hlt : i < rowsL.length := Int.ofNat_lt.1 (of_decide_eq_true hlt)
    exact Bool.noConfusion ((inside_of (Int.natCast_nonneg i) (Int.ofNat_lt.2 hlt)).symm.trans hin)
  · have hge : ¬ ((i : Int) < rowsL.length) := of_decide_eq_false hge
    have hi' : i = rowsL.length := by omega
    refine ⟨[], _, rfl, ?_⟩
    show AWP _ _ _ _ _ _
    refine AWP.less (s := [(0, .str nm), (2, .ptr 0 0), (3, .bool false)]) (Fits.tle ⟨rfl, rfl, rfl, trivial⟩) ?_
    refine AWP_run (cx := cxFind) rfl rfl cxFind_ok (s := (.ret, [(0, .str nm), (2, .ptr 0 0), (3, .bool false)], [.cells (rowL zeroR) 46])) (by kernel_rfl) ?_
    subst hQ
    refine ⟨.inl rfl, ?_⟩
    have hf : findL nm rowsL = none := by rw [← hnone, hi', List.take_length]
    have h1 : frow nm = zeroR := by unfold frow; rw [hf]; rfl
    have h2 : fok nm = false := by unfold fok; rw [hf]; rfl
    show answerV _ _ _ _ = some _
    rw [h1, h2]
    kernel_rfl
theorem findS_ok : Sound Try.prog 16 findS := by
  intro args out h
  unfold findS at h
  split at h
  rotate_left
  · cases h
  simp only [Tree.run, Option.some.injEq] at h
  subst h
  exact find_ok _
end Go.Amd

namespace Go.Amd
open Go Go.Ab Go.Proofs
theorem leaf_out {α : Type} {b o : α} (h : (Tree.leaf b).run = some o) : o = b := by simpa [Tree.run] using h.symm
theorem ok1 {P : Program} {f : Nat} {s : Ab.Spec} (h : Sound P f s) : TabOk P [(f, s)] := .cons h (.nil _)
theorem br_t {α : Type} {c : Bool} {x y : Tree α} (h : c = true) : (Tree.br c x y).run = x.run := by rw [h]; rfl
theorem all_t {α : Type} {c : Bool} {x y : Tree α} {Q : α → Prop} (h : c = true) (hx : x.all Q) : (Tree.br c x y).all Q := ⟨fun _ => hx, fun e => Bool.noConfusion (h.symm.trans e)⟩
abbrev InsT := List UInt8 × Int × Int × Int × Int × Int
def insL (i : InsT) : List V := [.str i.1, .int .i64 i.2.1, .int .i64 i.2.2.1, .int .i64 i.2.2.2.1, .int .i64 i.2.2.2.2.1, .int .i64 i.2.2.2.2.2]
abbrev insV (i : InsT) : V := .agg (insL i)
noncomputable def cx27 : Cx := { P := Try.prog, n := 18, tab := [], mtab := [], refs := [], keeps := [0, 1, 4] }
noncomputable def cx29 : Cx := { P := Try.prog, n := 17, tab := [], mtab := [], refs := [], keeps := [0, 2] }
noncomputable def cx28 : Cx := { P := Try.prog, n := 67, tab := [], mtab := [], refs := [], keeps := [0, 1, 2, 3, 19] }
noncomputable def cx33 : Cx := { P := Try.prog, n := 9, tab := [], mtab := [], refs := [], keeps := [0, 2] }
def regT (n : Int) (u : Bool) : Tree V :=
  (.br (n == 0) (.leaf (.bool true)) (.br u (.br (decide (0 < n)) (.leaf (.bool (decide (n ≤ 15)))) (.leaf (.bool false))) (.leaf (.bool false))))
theorem regT_eq (n : Int) (u : Bool) : (dfun cx27 Try.f27 [.int .i64 n, .bool u]).run = (regT n u).run :=
  (show (dfun cx27 Try.f27 [.int .i64 n, .bool u]).run = (regT n u).out by kernel_rfl).trans (Tree.out_run _)
def condT (n : Int) : Tree V :=
  (.br (decide (0 ≤ n)) (.br (decide (n ≤ 9)) (.leaf (.bool true)) (.br (decide (12 ≤ n)) (.leaf (.bool (decide (n ≤ 15)))) (.leaf (.bool false)))) (.br (decide (12 ≤ n)) (.leaf (.bool (decide (n ≤ 15)))) (.leaf (.bool false))))
theorem condT_eq (n : Int) : (dfun cx29 Try.f29 [.int .i64 n]).run = (condT n).run :=
  (show (dfun cx29 Try.f29 [.int .i64 n]).run = (condT n).out by kernel_rfl).trans (Tree.out_run _)
def fitsT (n : Int) : Tree V :=
  (.br (decide (-128 ≤ n)) (.leaf (.bool (decide (n ≤ 127)))) (.leaf (.bool false)))
theorem fitsT_eq (n : Int) : (dfun cx33 Try.f33 [.int .i64 n]).run = (fitsT n).run :=
  (show (dfun cx33 Try.f33 [.int .i64 n]).run = (fitsT n).out by kernel_rfl).trans (Tree.out_run _)
def regF (n : Int) (u : Bool) : Bool := cond (n == 0) true (cond u (cond (decide (0 < n)) (decide (n ≤ 15)) false) false)
def condF (n : Int) : Bool := cond (cond (decide (0 ≤ n)) (decide (n ≤ 9)) false) true (cond (decide (12 ≤ n)) (decide (n ≤ 15)) false)
def fitsF (n : Int) : Bool := cond (decide (-128 ≤ n)) (decide (n ≤ 127)) false
def baseF (b : Int) : Bool := cond (cond (decide (0 ≤ b)) (decide (b ≤ 15)) false) true (b == 17)
def scaleF (d : Int) : Bool := cond (d == 1) true (cond (d == 2) true (cond (d == 4) true (d == 8)))
def placeF (b c d : Int) : Bool := cond (c == 16) (cond (baseF b) (d == 0) false) (cond (baseF b) (cond (b != 17) (cond (decide (0 ≤ c)) (cond (decide (c ≤ 15)) (cond (c != 4) (scaleF d) false) false) false) false) false)
def registerS : Ab.Spec := fun args => match args with
  | [.int .i64 n, .bool u] => .leaf (.bool (regF n u))
  | _ => .fail
theorem registerS_ok : Sound Try.prog 27 registerS := by
  intro args out h
  unfold registerS at h
  split at h
  rotate_left
  · cases h
  rename_i n u
  have h := leaf_out h
  subst h
  refine pcall_fun' (cx := cx27) (fn := Try.f27) (cx0_ok rfl rfl) (by kernel_rfl) (by kernel_rfl) (by kernel_rfl) ((regT_eq n u).trans ?_)
  unfold regT regF
  cases (n == 0)
  · cases u
    · rfl
    · cases decide (0 < n) <;> rfl
  · rfl
def conditionS : Ab.Spec := fun args => match args with
  | [.int .i64 n] => .leaf (.bool (condF n))
  | _ => .fail
theorem conditionS_ok : Sound Try.prog 29 conditionS := by
  intro args out h
  unfold conditionS at h
  split at h
  rotate_left
  · cases h
  rename_i n
  have h := leaf_out h
  subst h
  refine pcall_fun' (cx := cx29) (fn := Try.f29) (cx0_ok rfl rfl) (by kernel_rfl) (by kernel_rfl) (by kernel_rfl) ((condT_eq n).trans ?_)
  unfold condT condF
  cases decide (0 ≤ n) <;> cases decide (n ≤ 9) <;> cases decide (12 ≤ n) <;> rfl
def fitsS : Ab.Spec := fun args => match args with
  | [.int .i64 n] => .leaf (.bool (fitsF n))
  | _ => .fail
theorem fitsS_ok : Sound Try.prog 33 fitsS := by
  intro args out h
  unfold fitsS at h
  split at h
  rotate_left
  · cases h
  rename_i n
  have h := leaf_out h
  subst h
  refine pcall_fun' (cx := cx33) (fn := Try.f33) (cx0_ok rfl rfl) (by kernel_rfl) (by kernel_rfl) (by kernel_rfl) ((fitsT_eq n).trans ?_)
  unfold fitsT fitsF
  cases decide (-128 ≤ n) <;> rfl
def tB (b : Bool) : Tree V := .leaf (.bool b)
def placeD (d : Int) : Tree V := .br (d == 1) (tB true) (.br (d == 2) (tB true) (.br (d == 4) (tB true) (tB (d == 8))))
def placeC (x : Bool) (b c d : Int) : Tree V := .br (c == 16) (.br x (tB (d == 0)) (tB false))
  (.br x (.br (b != 17) (.br (decide (0 ≤ c)) (.br (decide (c ≤ 15)) (.br (c != 4) (placeD d) (tB false)) (tB false)) (tB false)) (tB false)) (tB false))
def placeT (b c d : Int) : Tree V := .br (decide (0 ≤ b)) (.br (decide (b ≤ 15)) (placeC true b c d) (placeC (b == 17) b c d)) (placeC (b == 17) b c d)
theorem placeT_eq (nm : List UInt8) (a b c d n : Int) : (dfun cx28 Try.f28 [.agg [.str nm, .int .i64 a, .int .i64 b, .int .i64 c, .int .i64 d, .int .i64 n]]).run = (placeT b c d).run :=
  (show (dfun cx28 Try.f28 [.agg [.str nm, .int .i64 a, .int .i64 b, .int .i64 c, .int .i64 d, .int .i64 n]]).run = (placeT b c d).out by kernel_rfl).trans (Tree.out_run _)
theorem placeC_run (x : Bool) (b c d : Int) : (placeC x b c d).run = some (.bool (cond (c == 16) (cond x (d == 0) false) (cond x (cond (b != 17) (cond (decide (0 ≤ c)) (cond (decide (c ≤ 15)) (cond (c != 4) (scaleF d) false) false) false) false) false))) := by
  unfold placeC placeD scaleF tB
  cases (c == 16)
  · cases x
    · rfl
    · cases (b != 17)
      · rfl
      · cases decide (0 ≤ c)
        · rfl
        · cases decide (c ≤ 15)
          · rfl
          · cases (c != 4)
            · rfl
            · cases (d == 1) <;> cases (d == 2) <;> cases (d == 4) <;> rfl
  · cases x <;> rfl
theorem placeT_run (b c d : Int) : (placeT b c d).run = some (.bool (placeF b c d)) := by
  unfold placeT placeF baseF
  cases decide (0 ≤ b)
  · exact placeC_run _ b c d
  · cases decide (b ≤ 15)
    · exact placeC_run _ b c d
    · exact placeC_run _ b c d
def placeS : Ab.Spec := fun args => match args with
  | [.agg [.str _, .int .i64 _, .int .i64 b, .int .i64 c, .int .i64 d, .int .i64 _]] => .leaf (.bool (placeF b c d))
  | _ => .fail
theorem placeS_ok : Sound Try.prog 28 placeS := by
  intro args out h
  unfold placeS at h
  split at h
  rotate_left
  · cases h
  rename_i nm a b c d n
  have h := leaf_out h
  subst h
  exact pcall_fun' (cx := cx28) (fn := Try.f28) (cx0_ok rfl rfl) (by kernel_rfl) (by kernel_rfl) (by kernel_rfl) ((placeT_eq nm a b c d n).trans (placeT_run b c d))
end Go.Amd

namespace Go.Amd
open Go Go.Ab Go.Proofs
noncomputable def cx68 : Cx := { P := Try.prog, n := 58, tab := [], mtab := [], refs := [], keeps := [0, 1, 2, 3, 4, 5, 12, 13, 14, 18, 31, 47], fuel := 9 }
noncomputable def alikeM : MSpec := fun args H => .req (Nat.ble args.length Try.f68.ntmps) (mfun cx68 Try.f68 args H)
theorem alikeM_ok : MSound Try.prog 68 alikeM := msound_fun (cx := cx68) (fn := Try.f68) (cx0_ok rfl rfl) (by kernel_rfl) (by kernel_rfl)
noncomputable def cx53 : Cx := { P := Try.prog, n := 150, tab := [], mtab := [(68, alikeM)], refs := [], keeps := [0, 1] }
abbrev rowXE : EC := .prod [.str, .int .i64, .sl (.int .u8), .int .i64, .int .i64]
abbrev RowX := List UInt8 × Int × Option (List Int) × Int × Int
@[irreducible] def rowsX : List RowX := [
  ([109, 111, 118, 46, 114, 114], 1, some [137], 0, 2),
  ([109, 111, 118, 46, 114, 105], 2, some [184], 0, 2),
  ([109, 111, 118, 46, 114, 115], 3, some [199], 0, 2),
  ([109, 111, 118, 46, 114, 109], 4, some [139], 0, 2),
  ([109, 111, 118, 108, 46, 114, 109], 4, some [139], 0, 0),
  ([109, 111, 118, 115, 108, 46, 114, 109], 4, some [99], 0, 2),
  ([109, 111, 118, 122, 98, 46, 114, 109], 4, some [15, 182], 0, 2),
  ([108, 101, 97], 4, some [141], 0, 2),
  ([109, 111, 118, 46, 109, 114], 4, some [137], 0, 2),
  ([109, 111, 118, 108, 46, 109, 114], 4, some [137], 0, 0),
  ([109, 111, 118, 98, 46, 109, 114], 4, some [136], 0, 1),
  ([109, 111, 118, 46, 102, 115], 5, some [139], 0, 2),
  ([97, 100, 100, 46, 114, 114], 1, some [1], 0, 2),
  ([111, 114, 46, 114, 114], 1, some [9], 0, 2),
  ([97, 110, 100, 46, 114, 114], 1, some [33], 0, 2),
  ([115, 117, 98, 46, 114, 114], 1, some [41], 0, 2),
  ([120, 111, 114, 46, 114, 114], 1, some [49], 0, 2),
  ([99, 109, 112, 46, 114, 114], 1, some [57], 0, 2),
  ([97, 100, 100, 46, 114, 109], 4, some [3], 0, 2),
  ([111, 114, 46, 114, 109], 4, some [11], 0, 2),
  ([97, 110, 100, 46, 114, 109], 4, some [35], 0, 2),
  ([115, 117, 98, 46, 114, 109], 4, some [43], 0, 2),
  ([120, 111, 114, 46, 114, 109], 4, some [51], 0, 2),
  ([99, 109, 112, 46, 114, 109], 4, some [59], 0, 2),
  ([97, 100, 100, 46, 114, 105], 6, some [131], 0, 2),
  ([111, 114, 46, 114, 105], 6, some [131], 1, 2),
  ([97, 110, 100, 46, 114, 105], 6, some [131], 4, 2),
  ([115, 117, 98, 46, 114, 105], 6, some [131], 5, 2),
  ([120, 111, 114, 46, 114, 105], 6, some [131], 6, 2),
  ([99, 109, 112, 46, 114, 105], 6, some [131], 7, 2),
  ([116, 101, 115, 116, 46, 114, 114], 1, some [133], 0, 2),
  ([105, 109, 117, 108, 46, 114, 114], 7, some [15, 175], 0, 2),
  ([110, 111, 116], 8, some [247], 2, 2),
  ([110, 101, 103], 8, some [247], 3, 2),
  ([109, 117, 108], 8, some [247], 4, 2),
  ([100, 105, 118], 8, some [247], 6, 2),
  ([105, 100, 105, 118], 8, some [247], 7, 2),
  ([99, 113, 111], 9, some [153], 0, 2),
  ([115, 104, 108, 46, 114, 105], 10, some [193], 4, 2),
  ([115, 104, 114, 46, 114, 105], 10, some [193], 5, 2),
  ([115, 97, 114, 46, 114, 105], 10, some [193], 7, 2),
  ([115, 104, 108, 46, 114, 99], 8, some [211], 4, 2),
  ([115, 104, 114, 46, 114, 99], 8, some [211], 5, 2),
  ([115, 97, 114, 46, 114, 99], 8, some [211], 7, 2),
  ([99, 109, 111, 118], 11, some [15, 64], 0, 2),
  ([112, 117, 115, 104], 12, some [80], 0, 0),
  ([112, 111, 112], 12, some [88], 0, 0),
  ([99, 97, 108, 108], 13, some [232], 0, 0),
  ([106, 109, 112], 13, some [233], 0, 0),
  ([106, 109, 112, 46, 115], 14, some [235], 0, 0),
  ([99, 97, 108, 108, 46, 114], 8, some [255], 2, 0),
  ([106, 109, 112, 46, 114], 8, some [255], 4, 0),
  ([106, 99, 99], 15, some [15, 128], 0, 0),
  ([106, 99, 99, 46, 115], 16, some [112], 0, 0),
  ([114, 101, 116], 9, some [195], 0, 0),
  ([115, 121, 115, 99, 97, 108, 108], 9, some [15, 5], 0, 0),
  ([110, 111, 112], 9, some [144], 0, 0),
  ([117, 100, 50], 9, some [15, 11], 0, 0)]
theorem table_run : (dfun cx53 Try.f53 []).run = some (.sl rowXE rowsX [] .ro) := by kernel_rfl
def tableS : Ab.Spec := fun args => match args with
  | [] => .leaf (.sl rowXE rowsX [] .ro)
  | _ => .fail
theorem tableS_ok : Sound Try.prog 53 tableS := by
  intro args out h
  unfold tableS at h
  split at h
  rotate_left
  · cases h
  simp only [Tree.run, Option.some.injEq] at h
  subst h
  exact pcall_fun' (cx := cx53) (fn := Try.f53) (cx1_ok (.nil _) (.cons alikeM_ok (.nil _)) rfl rfl) (by kernel_rfl) (by kernel_rfl) (by kernel_rfl) table_run
noncomputable def cx36 : Cx := { P := Try.prog, n := 25, tab := [(53, tableS)], mtab := [], refs := [], keeps := [0, 2, 3, 4, 5, 10, 19], fuel := 60 }
theorem cxXf_ok : CxOk cx36 := cx1_ok (.cons tableS_ok (.nil _)) (.nil _) rfl rfl
def zeroX : RowX := ([], 0, none, 0, 0)
def findLX (nm : List UInt8) (l : List RowX) : Option RowX := l.find? fun r => strEq r.1 nm
def frowX (nm : List UInt8) : RowX := (findLX nm rowsX).getD zeroX
def fokX (nm : List UInt8) : Bool := (findLX nm rowsX).isSome
def slO (o : Option (List Int)) : V := match o with
  | none => nilSl
  | some l => .sl (.int .u8) l [] .ro
def rowXL (r : RowX) : List V := [.str r.1, .int .i64 r.2.1, slO r.2.2.1, .int .i64 r.2.2.2.1, .int .i64 r.2.2.2.2]
def rowV (r : RowX) : V := .agg (rowXL r)
def findXT (nm : List UInt8) : List RowX → Tree V
  | [] => .leaf (.tup [.agg (rowXL zeroX), .bool false])
  | r :: l => .br (strEq r.1 nm) (.leaf (.tup [.agg (rowXL r), .bool true])) (findXT nm l)
theorem findXT_eq (nm : List UInt8) : (dfun cx36 Try.f36 [.str nm]).out = (findXT nm rowsX).out := by kernel_rfl
theorem findXT_run (nm : List UInt8) : ∀ l, (findXT nm l).run = some (.tup [.agg (rowXL ((findLX nm l).getD zeroX)), .bool (findLX nm l).isSome])
  | [] => rfl
  | r :: l => by
    unfold findXT findLX
    rw [br_run, List.find?_cons]
    cases strEq r.1 nm
    · exact findXT_run nm l
    · rfl
theorem findX_ok (nm : List UInt8) : PCall Try.prog 36 [.str nm] (.tup [rowV (frowX nm), .bool (fokX nm)]) :=
  pcall_fun' (cx := cx36) (fn := Try.f36) cxXf_ok (by kernel_rfl) (by kernel_rfl) (by kernel_rfl) ((Tree.out_run _).symm.trans ((findXT_eq nm).trans ((Tree.out_run _).trans (findXT_run nm rowsX))))
end Go.Amd

namespace Go.Amd
open Go Go.Ab Go.Proofs
noncomputable def cx26 : Cx := { P := Try.prog, n := 29, tab := [], mtab := [], refs := [], keeps := [0, 1, 2, 3, 4, 5, 7, 8, 11, 17, 20, 22] }
noncomputable def usesS : Ab.Spec := fun args => .req (Nat.ble args.length Try.f26.ntmps) (dfun cx26 Try.f26 args)
theorem usesS_ok : Sound Try.prog 26 usesS := sound_fun (cx := cx26) (fn := Try.f26) (cx0_ok rfl rfl) (by kernel_rfl) (by kernel_rfl)
noncomputable def cx17 : Cx := { P := Try.prog, n := 81, tab := [(26, usesS), (27, registerS), (28, placeS), (29, conditionS)], mtab := [], refs := [], keeps := [0, 1, 2, 3, 4, 5, 6, 7, 8, 9, 21, 53, 65] }
theorem cxFa_ok : CxOk cx17 := cx1_ok (.cons usesS_ok (.cons registerS_ok (.cons placeS_ok (ok1 conditionS_ok)))) (.nil _) rfl rfl
def formR (x : RowT) : Int := x.2.2.2.1
def condR (x : RowT) : Bool := x.2.2.2.2.2.1
def lowR (x : RowT) : Int := x.2.2.2.2.2.2.1
def highR (x : RowT) : Int := x.2.2.2.2.2.2.2.1
def uA (x : RowT) : Bool := !(formR x == 0 || formR x == 11 || formR x == 12)
def uB (x : RowT) : Bool := formR x == 7 || formR x == 8
def uM (x : RowT) : Bool := formR x == 9
def uI (x : RowT) : Bool := formR x == 2 || formR x == 4 || formR x == 5 || formR x == 6 || formR x == 9 || formR x == 10 || formR x == 11 || formR x == 12
def tE (n : Int) : Tree V := .leaf (.int .i64 n)
def tailH (x : RowT) (o : Bool) (n : Int) : Tree V :=
  .br (!o) (tE 13) (.br (uI x) (.br (decide (n < lowR x)) (tE 3) (.br (decide (highR x < n)) (tE 3) (tE 0))) (.br (n != 0) (tE 13) (tE 0)))
def faultyH (x : RowT) (a b c d n : Int) : Tree V :=
  .br (uM x) (.br (regF a (uA x)) (tailH x (placeF b c d) n) (tailH x false n))
    (.br (regF a (uA x)) (.br (regF b (uB x)) (.br (c == 0) (.br (d == 0) (tailH x true n) (.br (condR x) (tailH x (condF d) n) (tailH x false n))) (tailH x false n)) (tailH x false n)) (tailH x false n))
def forms : List Int := [0, 1, 2, 3, 4, 5, 6, 7, 8, 9, 10, 11, 12]
def formOk (x : RowT) : Bool := forms.contains (formR x)
theorem rows_forms : rowsL.all formOk = true := by kernel_rfl
theorem forms_of {β : Type} {f g : Int → β} (h : forms.map f = forms.map g) {x : RowT} (hx : formOk x = true) : f (formR x) = g (formR x) :=
  List.map_inj_left.1 h _ (by simpa [formOk] using hx)
theorem faulty_forms : forms.map (fun f nm rex op dg cn lo hi ops i a b c d n => (dfun cx17 Try.f17 [.agg (rowL (nm, rex, op, f, dg, cn, lo, hi, ops)), .agg [.str i, .int .i64 a, .int .i64 b, .int .i64 c, .int .i64 d, .int .i64 n]]).out) =
    forms.map (fun f nm rex op dg cn lo hi ops _ a b c d n => (faultyH (nm, rex, op, f, dg, cn, lo, hi, ops) a b c d n).out) := by kernel_rfl
end Go.Amd

namespace Go.Amd
open Go Go.Ab Go.Proofs
def tailF (x : RowT) (o : Bool) (n : Int) : Int := cond (!o) 13 (cond (uI x) (cond (decide (n < lowR x)) 3 (cond (decide (highR x < n)) 3 0)) (cond (n != 0) 13 0))
def okF (x : RowT) (a b c d : Int) : Bool :=
  cond (uM x) (cond (regF a (uA x)) (placeF b c d) false) (cond (regF a (uA x)) (cond (regF b (uB x)) (cond (c == 0) (cond (d == 0) true (cond (condR x) (condF d) false)) false) false) false)
def faultyF (x : RowT) (i : InsT) : Int := tailF x (okF x i.2.1 i.2.2.1 i.2.2.2.1 i.2.2.2.2.1) i.2.2.2.2.2
theorem tailH_run (x : RowT) (o : Bool) (n : Int) : (tailH x o n).run = some (.int .i64 (tailF x o n)) := by
  unfold tailH tailF tE
  cases o
  · rfl
  · cases (uI x)
    · cases (n != 0) <;> rfl
    · cases decide (n < lowR x)
      · cases decide (highR x < n) <;> rfl
      · rfl
theorem faultyH_run (x : RowT) (a b c d n : Int) : (faultyH x a b c d n).run = some (.int .i64 (tailF x (okF x a b c d) n)) := by
  unfold faultyH okF
  simp only [br_run, tailH_run]
  cases (uM x) <;> cases regF a (uA x) <;> cases regF b (uB x) <;> cases (c == 0) <;> cases (d == 0) <;> cases condR x <;> rfl
def faultyS : Ab.Spec := fun args => match args with
  | [.agg [.str nm, .int .i64 rex, .int .u16 op, .int .i64 f, .int .u8 dg, .bool cn, .int .i64 lo, .int .i64 hi, .str ops], .agg [.str i, .int .i64 a, .int .i64 b, .int .i64 c, .int .i64 d, .int .i64 n]] =>
    .req (formOk (nm, rex, op, f, dg, cn, lo, hi, ops)) (.leaf (.int .i64 (faultyF (nm, rex, op, f, dg, cn, lo, hi, ops) (i, a, b, c, d, n))))
  | _ => .fail
theorem faultyS_ok : Sound Try.prog 17 faultyS := by
  intro args out h
  unfold faultyS at h
  split at h
  rotate_left
  · cases h
  rename_i nm rex op f dg cn lo hi ops i a b c d n
  obtain ⟨h1, h⟩ := req_run h
  have h := leaf_out h
  subst h
  refine pcall_fun' (cx := cx17) (fn := Try.f17) cxFa_ok (by kernel_rfl) (by kernel_rfl) (by kernel_rfl) ?_
  have e := congrFun (congrFun (congrFun (congrFun (congrFun (congrFun (congrFun (congrFun (congrFun (congrFun (congrFun (congrFun (congrFun (congrFun (forms_of faulty_forms h1) nm) rex) op) dg) cn) lo) hi) ops) i) a) b) c) d) n
  exact (Tree.out_run _).symm.trans (e.trans ((Tree.out_run _).trans (faultyH_run (nm, rex, op, f, dg, cn, lo, hi, ops) a b c d n)))
end Go.Amd
