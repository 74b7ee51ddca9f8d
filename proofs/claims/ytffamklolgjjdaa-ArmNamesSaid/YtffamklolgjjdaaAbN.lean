/-
  The engine, part N: numbers, texts, comparisons, conversions. Conditions: none.
-/
import Derived.Test.YtffamklolgjjdaaAbM
import Derived.Laws.BytesArg
namespace Go.Ab
section
variable {P : Program} {E : Nat → Nat → Prop} {H : List O} {β : List Loc} {w : World} {X : Nat → Nat → Prop}

theorem nums_of (c : List Int) : ∀ (news : List Value), news.length = c.length → (∀ (i : Nat) n, c[i]? = some n → news[i]? = some (Value.int .u8 n)) → news = c.map (Value.int .u8) := by
  intro news hl h
  apply List.ext_getElem?
  intro i
  by_cases hi : i < c.length
  · rw [h i c[i] (by simp [hi])]
    simp [hi]
  · rw [List.getElem?_eq_none (by omega), List.getElem?_eq_none (by simp; omega)]

theorem News.nums {xs : List Int} {y : Value} {news : List Value} (N : News P w X (.int .u8) xs y news) : news = xs.map (Value.int .u8) := by
  refine nums_of xs news (by have : news.length = xs.length * 1 := N.len; omega) ?_
  intro i n hn
  obtain ⟨z, hz, hr⟩ := N.get i n 0 (.int .u8 n) hn rfl
  have hz : news[i * 1 + 0]? = some z := hz
  simp only [Nat.mul_one, Nat.add_zero] at hz
  rw [hz]
  cases hr
  rfl

theorem foldl_bytes (ns : List Int) : ns.foldl (fun (r : ByteArray) n => r.push (UInt8.ofNat n.toNat)) ByteArray.empty = ⟨(ns.map fun n => UInt8.ofNat n.toNat).toArray⟩ := by
  rw [foldl_push_bytes]
  congr 1
  show (#[] : Array UInt8) ++ _ = _
  simp

theorem Step.allocAny (hR : Rel w (Xs E H β) H β) {w' : World} {ob : Obj} (hh : w'.heap = w.heap.push ob) (h1 : w'.os = w.os) (h2 : w'.tape = w.tape) (h3 : w'.output = w.output) : Step E H β w H β w' := by
  have s1 := Step.alloc hR ob
  exact s1.trans (Step.heap_same s1.rel hh h1 h2 h3)

theorem elemsOf_val {c : EC} {y : Value} {l : List c.ty} (h : elemsOf c H (.val y) = some l) : y = .slice none 0 0 ∧ l = [] := by
  unfold elemsOf at h
  split at h <;> first | (rename_i e; cases e; done) | skip
  all_goals first
    | (rename_i e; cases e; simp only [Option.some.injEq] at h; exact ⟨rfl, h.symm⟩)
    | (cases h; done)
    | skip
  all_goals simp_all

theorem sound_convert {src dst : TypeId} {x v : V} {y : Value} (hR : Rel w X H β)
    (hx : R w X β x y) (h : oConvert P H src dst x = some v) :
    ∃ z, (convert src dst y).run P w = .ok z w ∧ R w X β v z := by
  unfold oConvert at h
  split at h
  · rename_i e hs hd
    split at h
    rotate_left
    · cases h
    rename_i he
    split at h
    · cases h
    rename_i hnot
    obtain ⟨l, hl, rfl⟩ := Option.map_eq_some_iff.1 h
    obtain ⟨news, N⟩ := elems_R (P := P) hR hx hl
    change List Int at l
    have hnums := News.nums (xs := l) N
    have key : ∀ a len cap, y = .slice (some a) len cap → ∃ z, (convert src dst y).run P w = .ok z w ∧
        R w X β (.str (l.map fun (n : Int) => UInt8.ofNat n.toNat)) z := by
      intro a len cap hy
      subst hy
      have h1 := N.first w rfl
      have hlen : (Result.ok len w : Result Nat) = .ok (List.length (α := Int) l) w := N.lenOf w
      have hlen : len = List.length (α := Int) l := by simpa using hlen
      subst hlen
      have h2 : (loadCells a (List.length (α := Int) l)).run P w = .ok (l.map (Value.int .u8)).toArray w := by
        rw [← hnums]
        have : (Builtin.firstCells 1 (List.length (α := Int) l) (.slice (some a) (List.length (α := Int) l) cap)).run P w = .ok news.toArray w := h1
        simpa [Builtin.firstCells] using this
      refine ⟨_, by rw [run_convert_bytes_string w src dst e _ _ _ hs he hd, run_bytesToString w a _ cap l h2], ?_⟩
      rw [foldl_bytes]
      exact .str _ _
    cases hx with
    | sl _ _ _ _ _ b o cap f => exact key _ _ _ rfl
    | nil _ c0 =>
      have hl0 : l = [] := by
        have hl2 : sameL (.int .u8) c0 ([] : List c0.ty) = some (show List (EC.ty (.int .u8)) from l) := hl
        obtain ⟨e1, e2⟩ := sameL_spec hl2
        subst e1
        exact e2
      subst hl0
      exact ⟨_, run_convert_bytes_nil (P := P) w src e hs he 0 0 dst hd, .str _ []⟩
    | gro _ _ _ _ b o cap => exact key _ _ _ rfl
    | ref _ _ _ _ _ _ b o cap => exact key _ _ _ rfl
    | str => exact absurd rfl (hnot _)
    | val _ =>
      obtain ⟨rfl, rfl⟩ := elemsOf_val hl
      exact ⟨_, run_convert_bytes_nil (P := P) w src e hs he 0 0 dst hd, .str _ []⟩
    | _ => simp [elemsOf] at hl
  · rename_i hs hd
    split at h
    · simp only [Option.some.injEq] at h
      subst h
      cases hx
      exact ⟨_, by simp [convert, run_und w hs, run_und w hd], .str _ _⟩
    · cases h
  · rename_i k1 k hs hd
    split at h
    · simp only [Option.some.injEq] at h
      subst h
      cases hx
      exact ⟨_, by simp [convert, run_und w hs, run_und w hd, Conv.intToInt], .int _ _ _⟩
    · cases h
  · cases h

theorem guard_int (op : BinOp) (t : TypeId) (x y : Operand) (k l : IntKind) (a b : Int) : (eqGuard op t x y (.int k a) (.int l b)).run P w = .ok () w := by
  cases op <;> simp [eqGuard]

theorem guard_str (op : BinOp) (t : TypeId) (x y : Operand) (a b : ByteArray) : (eqGuard op t x y (.string a) (.string b)).run P w = .ok () w := by
  cases op <;> simp [eqGuard]

theorem guard_bool (op : BinOp) (t : TypeId) (x y : Operand) (a b : Bool) : (eqGuard op t x y (.bool a) (.bool b)).run P w = .ok () w := by
  cases op <;> simp [eqGuard]

/-- A comparison and its guard. -/
def bin (op : BinOp) (t : TypeId) (xo yo : Operand) (x y : Value) : Sem Value := do eqGuard op t xo yo x y; binOp op t x y

theorem sound_int {op : BinOp} {t : TypeId} {xo yo : Operand} {k l : IntKind} {a b : Int} {v : V} (hop : op ≠ .shl ∧ op ≠ .shr) (hk : k = l) (h : (intBin op k a b).run = some v) :
    ∃ z, (bin op t xo yo (.int k a) (.int l b)).run P w = .ok z w ∧ R w X β v z := by
  subst hk
  unfold intBin at h
  cases op <;> first | (exact absurd rfl hop.1) | (exact absurd rfl hop.2) | skip
  case quo =>
    obtain ⟨h0, h⟩ := req_run h
    simp only [Tree.run, Option.some.injEq] at h
    subst h
    have h0 : ¬ b = 0 := by simpa using h0
    exact ⟨_, by simp [bin, guard_int, binOp, Op.intDiv, h0], .int _ _ _⟩
  case rem =>
    obtain ⟨h0, h⟩ := req_run h
    simp only [Tree.run, Option.some.injEq] at h
    subst h
    have h0 : ¬ b = 0 := by simpa using h0
    exact ⟨_, by simp [bin, guard_int, binOp, Op.intDiv, h0], .int _ _ _⟩
  all_goals
    simp only [Tree.run, Option.some.injEq] at h
    subst h
    first
      | exact ⟨_, by simp only [bin, Sem.run_bind, guard_int, Result.andThen_ok, binOp, ne_eq, not_true_eq_false, if_false]; rfl, .int _ _ _⟩
      | exact ⟨_, by simp only [bin, Sem.run_bind, guard_int, Result.andThen_ok, binOp, ne_eq, not_true_eq_false, if_false]; rfl, .bool _ _⟩

theorem sound_shift {op : BinOp} {t : TypeId} {xo yo : Operand} {k l : IntKind} {a b : Int} {v : V} (h : (intShift op k a b).run = some v) :
    ∃ z, (bin op t xo yo (.int k a) (.int l b)).run P w = .ok z w ∧ R w X β v z := by
  unfold intShift at h
  cases op <;> first | (cases h; done) | skip
  all_goals
    obtain ⟨h0, h⟩ := req_run h
    simp only [Tree.run, Option.some.injEq] at h
    subst h
    have h0 : ¬ b < 0 := by have := of_decide_eq_true h0; omega
    exact ⟨_, by simp [bin, guard_int, binOp, Op.shift, h0] <;> rfl, .int _ _ _⟩

theorem str_append (a b : List UInt8) : (ByteArray.mk a.toArray) ++ (ByteArray.mk b.toArray) = ⟨(a ++ b).toArray⟩ := by
  apply ByteArray.ext
  apply Array.ext'
  simp

theorem sound_str {op : BinOp} {t : TypeId} {xo yo : Operand} {a b : List UInt8} {v : V} (h : (strBin op a b).run = some v) :
    ∃ z, (bin op t xo yo (.string ⟨a.toArray⟩) (.string ⟨b.toArray⟩)).run P w = .ok z w ∧ R w X β v z := by
  unfold strBin at h
  cases op <;> first | (cases h; done) | skip
  case add =>
    obtain ⟨h0, h⟩ := req_run h
    simp only [Tree.run, Option.some.injEq] at h
    subst h
    have h0 := of_decide_eq_true h0
    have e1 : (ByteArray.mk a.toArray).size = a.length := by simp [ByteArray.size]
    have e2 : (ByteArray.mk b.toArray).size = b.length := by simp [ByteArray.size]
    have hmax : IntKind.i64.max = 9223372036854775807 := by decide
    have h1 : ¬ (9223372036854775807 < (a.length : Int) + (b.length : Int)) := by simp at h0; omega
    refine ⟨.string ⟨(a ++ b).toArray⟩, ?_, .str _ _⟩
    simp [bin, guard_str, binOp, Op.stringOp, e1, e2, hmax, h1, str_append]
  all_goals
    simp only [Tree.run, Option.some.injEq] at h
    subst h
    exact ⟨_, by simp [bin, guard_str, binOp, Op.stringOp] <;> rfl, .bool _ _⟩

theorem cellEq_spec {a b : V} {x y : Value} {r : Bool} {t : TypeId} (d : Nat) (hx : R w X β a x) (hy : R w X β b y) (h : cellEq a b = some r)
    (hfit : (∃ k n, a = .int k n ∧ ∃ k', P.underlying t = some (.int k')) ∨ (∃ c, a = .bool c ∧ P.underlying t = some .bool) ∨ (∃ s, a = .str s ∧ P.underlying t = some .string)) :
    (Op.equalIn (d + 1) t x y).run P w = .ok r w := by
  unfold cellEq at h
  split at h
  · rename_i k n l m
    cases hk : decide (k = l)
    · simp [hk] at h
    simp only [hk, cond_true, Option.some.injEq] at h
    subst h
    have := of_decide_eq_true hk
    subst this
    cases hx
    cases hy
    rcases hfit with ⟨_, _, _, k', hu⟩ | ⟨_, e, _⟩ | ⟨_, e, _⟩
    · exact run_equalIn_int w d t k k' n m hu
    · cases e
    · cases e
  · simp only [Option.some.injEq] at h
    subst h
    cases hx
    cases hy
    rcases hfit with ⟨_, _, e, _⟩ | ⟨_, _, hu⟩ | ⟨_, e, _⟩
    · cases e
    · exact run_equalIn_bool w d t _ _ hu
    · cases e
  · simp only [Option.some.injEq] at h
    subst h
    cases hx
    cases hy
    rcases hfit with ⟨_, _, e, _⟩ | ⟨_, e, _⟩ | ⟨_, _, hu⟩
    · cases e
    · cases e
    · rw [run_equalIn_string w d t _ _ hu]; simp
  · cases h

end
end Go.Ab
