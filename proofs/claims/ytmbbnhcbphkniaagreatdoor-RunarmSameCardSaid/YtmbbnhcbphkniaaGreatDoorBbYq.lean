/-
  The engine, part Yq: a loop over a map whose rounds are shown in any way; a struct with a row of numbers, copied. Conditions: none.
-/
import Derived.Test.YtmbbnhcbphkniaaGreatDoorPk11
import Derived.Laws.CopyRow
set_option linter.unusedVariables false
set_option linter.unusedSimpArgs false
namespace Go.Ab
section
variable {P : Program} {E : Nat → Nat → Prop} {H : List O} {β : List Loc} {w : World}
def lenIs : Nat → List V → Bool
  | 0, [] => true
  | n + 1, _ :: r => lenIs n r
  | _, _ => false
theorem lenIs_spec : ∀ {n : Nat} {l : List V}, lenIs n l = true → l.length = n
  | 0, [], _ => rfl
  | n + 1, _ :: r, h => by rw [List.length_cons, lenIs_spec (n := n) h]
  | 0, _ :: _, h => by cases h
  | _ + 1, [], h => by cases h
theorem push_modify {α : Type} (h : Array α) (a : α) (f : α → α) : (h.push a).modify h.size f = h.push (f a) := by
  apply Array.ext
  · simp
  · intro i h1 h2
    rw [Array.getElem_modify, Array.getElem_push, Array.getElem_push]
    by_cases hi : i < h.size
    · rw [if_neg (by omega), dif_pos hi, dif_pos hi]
    · have : i = h.size := by simp at h2; omega
      rw [if_pos this.symm, dif_neg hi, dif_neg hi]
theorem sound_copyRow {ty : TypeId} {i : TI} {id n : Nat} {k : IntKind} {l : List Int} {hd : List V} {x : Value} (hR : Rel w (Xs E H β) H β) (hx : R w (Xs E H β) β (.ptr id 0) x)
    (hH : H[id]? = some (.obj (.page n k l) hd)) (hi : ti P ty = some i) (hk : aggTK i.k = true) (hs : i.size = n + l.length) (hz : i.zero.length = i.size) (hn : hd.length = n) (hone : allOne hd = true) :
    ∃ z w1 w2 β', (Instr.loadAt ty x).run P w = .ok z w ∧ (Instr.alloc ty true (.tuple #[])).run P w = .ok (.pointer (some ⟨w.heap.size, 0, none⟩)) w1 ∧
      (Instr.storeAt ty (.pointer (some ⟨w.heap.size, 0, none⟩)) z).run P w1 = .ok () w2 ∧ Step E H β w (H ++ [.obj (.page n k l) hd]) β' w2 ∧
      R w2 (Xs E (H ++ [.obj (.page n k l) hd]) β') β' (.ptr H.length 0) (.pointer (some ⟨w.heap.size, 0, none⟩)) := by
  cases hx with
  | ptr _ _ _ loc hid hkd =>
  obtain ⟨_, hb0, ob, xs, h1, ⟨hxn, e', rfl⟩, h4⟩ := hR.objs id _ _ loc hH hid
  rw [hb0]
  let ys : List Value := xs ++ l.map (Value.int k)
  have hyl : ys.length = i.size := by simp [ys, hxn, hs]
  let f : Nat → Value := fun j => ys.getD j undef
  have hf : ∀ j, j < i.size → w.cell? ((⟨loc.block, 0, none⟩ : Addr).add j) = some (f j) := by
    intro j hj
    rw [addr_add, Nat.zero_add, cell_of_row w _ _ _ e' (0, 0) h1, List.getElem?_toArray]
    have hj' : j < ys.length := by omega
    show ys[j]? = some (ys.getD j undef)
    rw [List.getD_eq_getElem?_getD, List.getElem?_eq_getElem hj']
    rfl
  have hys : (List.range i.size).map f = ys := by
    apply List.ext_getElem?
    intro j
    by_cases hj : j < i.size
    · rw [List.getElem?_map, List.getElem?_range hj, Option.map_some]
      have hj' : j < ys.length := by omega
      show some (ys.getD j undef) = _
      rw [List.getD_eq_getElem?_getD, List.getElem?_eq_getElem hj']
      rfl
    · rw [List.getElem?_eq_none (by simp; omega), List.getElem?_eq_none (by omega)]
  have hload : (Instr.loadAt ty (.pointer (some ⟨loc.block, 0 + 0, none⟩))).run P w = .ok (.agg ys.toArray) w := by
    rw [Nat.add_zero]
    simp [Instr.loadAt, Instr.sureAddr, loadVar, ti_isAgg w hi, hk, ti_size w hi, run_loadCells (P := P) w ⟨loc.block, 0, none⟩ i.size f hf, hys]
  have hone' : ∀ y ∈ ys, y.oneCell' = true := by
    intro y hy
    rcases List.mem_append.1 hy with hy | hy
    · obtain ⟨j, hj, rfl⟩ := List.getElem_of_mem hy
      have hj' : j < hd.length := by omega
      obtain ⟨z, q1, q2⟩ := h4 j hd[j] (List.getElem?_eq_getElem hj')
      rw [List.getElem?_eq_getElem hj] at q1
      cases q1
      exact one_spec q2 (allOne_spec hone _ (List.getElem_mem hj'))
    · obtain ⟨m, _, rfl⟩ := List.mem_map.1 hy
      rfl
  obtain ⟨z0, hz1, hz2⟩ := zero_cells hi
  have hzl : z0.cells.size = i.size := by
    have := congrArg List.length hz2
    rw [List.length_map, Array.length_toList] at this
    omega
  let w1 : World := w.alloc (.cells z0.cells ty)
  have halloc : (Instr.alloc ty true (.tuple #[])).run P w = .ok (.pointer (some ⟨w.heap.size, 0, none⟩)) w1 := by
    simp [Instr.alloc, hz1, newVar, newRow, w1]
  have hw1 : w1.heap[w.heap.size]? = some (.cells z0.cells ty (0, 0)) := heap_alloc_new w _
  have hst := run_storeCells_at P w.heap.size 0 ty ys 0 z0.cells w1 hw1 (by omega) hone'
  have hfin : (z0.cells.toList.take (0 + 0) ++ ys ++ z0.cells.toList.drop (0 + 0 + ys.length)).toArray = ys.toArray := by
    congr 1
    rw [List.drop_eq_nil_of_le (by simp; omega)]
    simp
  rw [hfin] at hst
  let w2 : World := w.alloc (.cells ys.toArray ty)
  have hw2 : w1.setRow w.heap.size ys.toArray = w2 := by
    unfold World.setRow
    show ({ w1 with heap := (w.heap.push _).modify w.heap.size _ } : World) = _
    rw [push_modify]
    rfl
  rw [hw2] at hst
  have hstore : (Instr.storeAt ty (.pointer (some ⟨w.heap.size, 0, none⟩)) (.agg ys.toArray)).run P w1 = .ok () w2 := by
    simp [Instr.storeAt, Instr.sureAddr, storeVar, Value.cells, ti_size w1 hi, hyl]
    simpa using hst
  let loc2 : Loc := { kind := false, block := w.heap.size, base := 0, n := 0, size := ys.length }
  refine ⟨_, w1, w2, β ++ [loc2], hload, halloc, hstore, ?_, ?_⟩
  · exact Step.pushObjD hR (.cells ys.toArray ty (0, 0)) (loc := loc2) (xs := xs) ⟨hxn, ty, rfl⟩ h4 rfl rfl rfl
  · have := R.ptr (w := w2) (X := Xs E (H ++ [.obj (.page n k l) hd]) (β ++ [loc2])) (β ++ [loc2]) H.length 0 loc2 (by rw [hR.len]; simp) rfl
    simpa [loc2] using this
theorem AWP_copyRow {cx : Cx} {n0 : Nat} {Q : AEx → T → List O → Prop} (hP : cx.P = P) (hn0 : cx.n = n0) (hT : CxOk cx) {ops : Array Oper} {pre : List Oper} {oL oA oS : Oper} {ty : TypeId} {pa dL dA : Nat} {rid : Nat}
    (hops : ops.toList = pre ++ [oL, oA, oS]) (qL : oL.op = .load ty (.tmp pa)) (qA : oA.op = .alloc ty) (qS : oS.op = .store ty (.tmp dA) (.tmp dL)) (gL : oL.guard = none) (gA : oA.guard = none) (gS : oS.guard = none)
    (tL : oL.dst = some dL) (tA : oA.dst = some dA) (tS : oS.dst = none) (lL : Nat.blt dL cx.n = true) (lA : Nat.blt dA cx.n = true) (nLA : Nat.beq dL dA = false)
    {t t1 : T} {H : List O} (ks : List Nat) (hpre : (druns { cx with keeps := ks } ops pre t H).run = some (.normal, t1, H)) {id n : Nat} {k : IntKind} {l : List Int} {hd : List V} (hp : get pa t1 = .ptr id 0)
    (hH : H[id]? = some (.obj (.page n k l) hd)) {i : TI} (hi : ti cx.P ty = some i) (hk : aggTK i.k = true) (hs : i.size = n + l.length) (hz : lenIs i.size i.zero = true) (hn : hd.length = n) (hone : allOne hd = true)
    (hq : Q .normal (put dA (.ptr H.length 0) (put dL .any t1)) (H ++ [.obj (.page n k l) hd])) : AWP P n0 (.region rid ops false) Q t H := by
  subst hP
  subst hn0
  intro E H0 β0 w0 D β a w hst hg
  refine wp_region ?_
  have hsz : List.range ops.size = List.range' 0 (pre.length + [oL, oA, oS].length) := by
    have : ops.size = pre.length + 3 := by
      have := congrArg List.length hops
      simpa using this
    rw [this, List.range_eq_range']
    rfl
  rw [hsz]
  have at0 : ops[pre.length]? = some oL := by
    have := congrArg (fun l => l[pre.length]?) hops
    simpa using this
  have at1 : ops[pre.length + 1]? = some oA := by
    have := congrArg (fun l => l[pre.length + 1]?) hops
    simpa using this
  have at2 : ops[pre.length + 1 + 1]? = some oS := by
    have h := congrArg (fun l => l[pre.length + 1 + 1]?) hops
    have e : (pre ++ [oL, oA, oS])[pre.length + 1 + 1]? = some oS := by
      rw [List.getElem?_append_right (by omega), show pre.length + 1 + 1 - pre.length = 2 by omega]
      rfl
    rw [Array.getElem?_toList] at h
    exact h.trans e
  refine runs_cont (cx := { cx with keeps := ks }) hT hst (ops := ops) (D := D) (l2 := [oL, oA, oS]) (Q := fun e t' H' => e = .normal ∧ t' = t1 ∧ H' = H) (fun v t H h => by cases h.1) pre 0 _ _ _ _ _ (by rw [hops]; rfl) (Tree.run_all hpre ⟨rfl, rfl, rfl⟩) ?_ hg
  rintro t' H' β a w ⟨_, rfl, rfl⟩ hg
  rw [Nat.zero_add]
  show wpOps cx.P ops _ [pre.length, pre.length + 1, pre.length + 1 + 1] a w
  have wL : Region.wanted oL (yielded ops a.tmps) = true := by simp [Region.wanted, gL]
  simp only [wpOps, at0, wL, if_true]
  have hlL : dL < cx.n := by simpa [Nat.blt_eq] using lL
  have hlA : dA < cx.n := by simpa [Nat.blt_eq] using lA
  have hne : dL ≠ dA := fun h => by rw [h] at nLA; simp at nLA
  have hx := rd_R hg.fr (.tmp pa)
  simp only [rd, hp] at hx
  obtain ⟨z, w1, w2, β', r1, r2, r3, st, hr⟩ := sound_copyRow (P := cx.P) hg.step.rel hx hH hi hk hs (lenIs_spec hz) hn hone
  refine .inl (wp_sem (s := Instr.loadAt ty (a.eval (.tmp pa))) (by simp only [execOp, qL]) r1 ?_)
  rw [tL]
  have wA : Region.wanted oA (yielded ops (a.put (some dL) z).tmps) = true := by simp [Region.wanted, gA]
  simp only [at1, wA, if_true]
  refine .inl (wp_sem (s := Instr.alloc ty true (.tuple #[])) (by simp only [execOp, qA]) r2 ?_)
  rw [tA]
  have wS : Region.wanted oS (yielded ops ((a.put (some dL) z).put (some dA) (.pointer (some ⟨w.heap.size, 0, none⟩))).tmps) = true := by simp [Region.wanted, gS]
  simp only [at2, wS, if_true]
  have f1 : FR w2 (Xs E (H' ++ [.obj (.page n k l) hd]) β') β' cx.n (put dA (.ptr H'.length 0) (put dL .any t')) ((a.put (some dL) z).put (some dA) (.pointer (some ⟨w.heap.size, 0, none⟩))) :=
    ((hg.fr.step st).put hlL (.any _ _)).put hlA hr
  have e1 : ((a.put (some dL) z).put (some dA) (.pointer (some ⟨w.heap.size, 0, none⟩))).eval (.tmp dA) = .pointer (some ⟨w.heap.size, 0, none⟩) := by
    have hs1 : (a.put (some dL) z).tmps.size = cx.n := ((hg.fr.put (v := .any) (x := z) hlL (.any _ _)).size)
    exact getD_set (by rw [hs1]; exact hlA)
  have e2 : ((a.put (some dL) z).put (some dA) (.pointer (some ⟨w.heap.size, 0, none⟩))).eval (.tmp dL) = z := by
    have hs1 : dL < a.tmps.size := by rw [hg.fr.size]; exact hlL
    simp [Act.put, Act.eval, Array.getD_eq_getD_getElem?, Array.getElem?_setIfInBounds, hs1, Ne.symm hne]
  refine .inl (wp_unit (s := Instr.storeAt ty (.pointer (some ⟨w.heap.size, 0, none⟩)) z) (by simp only [execOp, qS, e1, e2]) r3 ?_)
  rw [tS]
  exact ⟨_, _, β', hq, ⟨hg.step.trans st, f1, hg.defers⟩⟩
end
end Go.Ab
