/-
  The engine, part O: comparisons of structs, length, indexes; values that lead to nothing that is written. Conditions: none.
-/
import Derived.Test.YtffamklolgjjdaaAbN
namespace Go.Ab
section
variable {P : Program} {E : Nat → Nat → Prop} {H : List O} {β : List Loc} {w : World} {X : Nat → Nat → Prop}

theorem run_part_scal {ft : TypeId} {xs : List Value} {off : Nat} {d : TypeDesc} {z : Value} (hu : P.underlying ft = some d) (hd : isAggB P ft = false) (hz : xs[off]? = some z) :
    (part ft xs.toArray off).run P w = .ok z w := by
  have h1 := run_isAgg' w hu
  rw [hd] at h1
  simp [part, h1, hz]

theorem eqBy_spec {cx cy : List V} {xs ys : List Value} (d : Nat) (hlx : xs.length = cx.length) (hly : ys.length = cy.length)
    (hx : ∀ (k : Nat) (v : V) (x : Value), cx[k]? = some v → xs[k]? = some x → R w X β v x) (hy : ∀ (k : Nat) (v : V) (x : Value), cy[k]? = some v → ys[k]? = some x → R w X β v x) :
    ∀ (fs : List Field) (r : Bool), eqBy P cx cy fs = some r → (Op.eqFields (d + 1) xs.toArray ys.toArray fs).run P w = .ok r w
  | [], r, h => by
    simp only [eqBy, Option.some.injEq] at h
    subst h
    simp [Op.eqFields]
  | f :: fs, r, h => by
    unfold eqBy at h
    split at h
    rotate_left
    · cases h
    rename_i a b q ha hb hq
    cases hc : (!(f.name == "_") && fitT P f.type a)
    · simp [hc] at h
    simp only [hc, cond_true] at h
    obtain ⟨c1, c2⟩ := Bool.and_eq_true_iff.1 hc
    obtain ⟨e, he, rfl⟩ := Option.map_eq_some_iff.1 h
    have ih := eqBy_spec d hlx hly hx hy fs q hq
    have hname : f.name ≠ "_" := by simpa using c1
    have hkx : f.offset < xs.length := by rw [hlx]; exact (List.getElem?_eq_some_iff.1 ha).1
    have hky : f.offset < ys.length := by rw [hly]; exact (List.getElem?_eq_some_iff.1 hb).1
    have rx := hx _ a xs[f.offset] ha (by simp [hkx])
    have ry := hy _ b ys[f.offset] hb (by simp [hky])
    have hfit : (∃ k n, a = .int k n ∧ ∃ k', P.underlying f.type = some (.int k')) ∨ (∃ c, a = .bool c ∧ P.underlying f.type = some .bool) ∨ (∃ s, a = .str s ∧ P.underlying f.type = some .string) := by
      unfold fitT at c2
      split at c2
      · rename_i k' k n hu; exact .inl ⟨k, n, rfl, _, hu⟩
      · rename_i c hu; exact .inr (.inl ⟨c, rfl, hu⟩)
      · rename_i s hu; exact .inr (.inr ⟨s, rfl, hu⟩)
      · cases c2
    obtain ⟨dd, hu, hag⟩ : ∃ dd, P.underlying f.type = some dd ∧ isAggB P f.type = false := by
      rcases hfit with ⟨_, _, _, k', hu⟩ | ⟨_, _, hu⟩ | ⟨_, _, hu⟩ <;> exact ⟨_, hu, by simp [isAggB, hu]⟩
    have p1 := run_part_scal (w := w) hu hag (show xs[f.offset]? = some xs[f.offset] by simp [hkx])
    have p2 := run_part_scal (w := w) hu hag (show ys[f.offset]? = some ys[f.offset] by simp [hky])
    have heq := cellEq_spec (P := P) d rx ry he hfit
    cases e <;> simp [Op.eqFields, hname, p1, p2, heq, ih]

theorem nil_in (d : Nat) {t : TypeId} {e : TypeId} (h : P.underlying t = some (.slice e)) (b : Option Addr) (n m n' m' : Nat) :
    (Op.equalIn (d + 1) t (.slice b n m) (.slice none n' m')).run P w = .ok b.isNone w := by
  cases b <;> simp [Op.equalIn, run_und w h]

theorem und_nil {t : TypeId} {e : TypeId} (h : P.underlying t = some (.slice e)) (b : Option Addr) (n m n' m' : Nat) :
    (Op.equal t (.slice b n m) (.slice none n' m')).run P w = .ok b.isNone w := nil_in 9999 h b n m n' m'

theorem nilp_in (d : Nat) {t : TypeId} {e : TypeId} (h : P.underlying t = some (.pointer e)) (b : Option Addr) :
    (Op.equalIn (d + 1) t (.pointer b) (.pointer none)).run P w = .ok b.isNone w := by
  cases b <;> simp [Op.equalIn, run_und w h]

theorem und_nilp {t : TypeId} {e : TypeId} (h : P.underlying t = some (.pointer e)) (b : Option Addr) :
    (Op.equal t (.pointer b) (.pointer none)).run P w = .ok b.isNone w := nilp_in 9999 h b

theorem sound_bin {op : BinOp} {t : TypeId} {xo yo : Operand} {x y v : V} {sx sy : Value} (hx : R w X β x sx) (hy : R w X β y sy) (h : (oBin P op t x y).run = some v) :
    ∃ z, (bin op t xo yo sx sy).run P w = .ok z w ∧ R w X β v z := by
  unfold oBin at h
  split at h
  · cases hx
    cases hy
    split at h
    · exact sound_shift h
    · exact sound_shift h
    · rename_i k a l b _ h1 h2
      cases hk : decide (k = l)
      · simp [hk, Tree.run] at h
      · simp only [hk, cond_true] at h
        exact sound_int ⟨h1, h2⟩ (of_decide_eq_true hk) h
  · cases hx
    cases hy
    exact sound_str h
  · cases hx
    cases hy
    split at h
    · rename_i hu
      simp only [Tree.run, Option.some.injEq] at h
      subst h
      exact ⟨_, by simp only [bin, Sem.run_bind, guard_bool, Result.andThen_ok]; exact run_eql_bool w t _ _ hu, .bool _ _⟩
    · rename_i hu
      simp only [Tree.run, Option.some.injEq] at h
      subst h
      exact ⟨_, by simp only [bin, Sem.run_bind, guard_bool, Result.andThen_ok]; exact run_neq_bool w t _ _ hu, .bool _ _⟩
    · cases h
  · rename_i a b
    cases hx with
    | agg _ _ xs hlx hrx =>
    cases hy with
    | agg _ _ ys hly hry =>
    have key : ∀ c, aggEq P t a b = some c → P.eqGuardType P.depth t = false ∧ (Op.equalIn 10000 t (.agg xs.toArray) (.agg ys.toArray)).run P w = .ok c w := by
      intro c hc
      unfold aggEq at hc
      split at hc
      · rename_i fs hu
        cases hg : (!P.stoodInHeld t && !P.eqGuardType P.depth t)
        · simp [hg] at hc
        simp only [hg, cond_true] at hc
        obtain ⟨g1, g2⟩ := Bool.and_eq_true_iff.1 hg
        have hf : P.fieldsOf t = fs := by simp [Program.fieldsOf, hu]
        refine ⟨by simpa using g2, ?_⟩
        rw [run_equalIn_struct w 9999 t _ _ (by rw [hf]; exact hu) (by simpa using g1), hf]
        exact eqBy_spec 9998 hlx hly hrx hry _ c hc
      · cases hc
    split at h
    · rename_i c hc
      simp only [Tree.run, Option.some.injEq] at h
      subst h
      obtain ⟨k1, k2⟩ := key c hc
      exact ⟨_, by simp only [bin, Sem.run_bind, run_eqGuard_agg w _ t _ _ _ _ k1, Result.andThen_ok, run_eql_struct, k2], .bool _ _⟩
    · rename_i c hc
      simp only [Tree.run, Option.some.injEq] at h
      subst h
      obtain ⟨k1, k2⟩ := key c hc
      exact ⟨_, by simp only [bin, Sem.run_bind, run_eqGuard_agg w _ t _ _ _ _ k1, Result.andThen_ok, run_neq_struct, k2], .bool _ _⟩
    · cases h
  · cases hy
    split at h
    rotate_left
    · cases h
    rename_i e hu
    have hg : ∀ op a n m n' m', (eqGuard op t xo yo (.slice a n m) (.slice none n' m')).run P w = .ok () w := by intro op a n m n' m'; cases op <;> simp [eqGuard]
    have h1 : ∀ a n m n' m', (bin .eql t xo yo (.slice a n m) (.slice none n' m')).run P w = .ok (.bool a.isNone) w := by
      intro a n m n' m'; simp only [bin, Sem.run_bind, hg, Result.andThen_ok, binOp]; simp [und_nil hu]
    have h2 : ∀ a n m n' m', (bin .neq t xo yo (.slice a n m) (.slice none n' m')).run P w = .ok (.bool (!a.isNone)) w := by
      intro a n m n' m'; simp only [bin, Sem.run_bind, hg, Result.andThen_ok, binOp]; simp [und_nil hu]
    split at h <;> first | (cases h; done) | skip
    all_goals
      simp only [Tree.run, Option.some.injEq] at h
      subst h
      cases hx <;> first | exact ⟨_, h1 _ _ _ _ _, .bool _ _⟩ | exact ⟨_, h2 _ _ _ _ _, .bool _ _⟩ | (rename_i hm; exact (hm rfl).elim)
  · cases hy
    split at h
    rotate_left
    · cases h
    rename_i e hu
    have hg : ∀ op a, (eqGuard op t xo yo (.pointer a) (.pointer none)).run P w = .ok () w := by intro op a; cases op <;> simp [eqGuard]
    have h1 : ∀ a, (bin .eql t xo yo (.pointer a) (.pointer none)).run P w = .ok (.bool a.isNone) w := by
      intro a; simp only [bin, Sem.run_bind, hg, Result.andThen_ok, binOp]; simp [und_nilp hu]
    have h2 : ∀ a, (bin .neq t xo yo (.pointer a) (.pointer none)).run P w = .ok (.bool (!a.isNone)) w := by
      intro a; simp only [bin, Sem.run_bind, hg, Result.andThen_ok, binOp]; simp [und_nilp hu]
    split at h <;> first | (cases h; done) | skip
    all_goals
      simp only [Tree.run, Option.some.injEq] at h
      subst h
      cases hx
      first | exact ⟨_, h1 _, .bool _ _⟩ | exact ⟨_, h2 _, .bool _ _⟩
  · cases h

theorem sound_un {op : UnOp} {x v : V} {y : Value} (hx : R w X β x y) (h : oUn op x = some v) : ∃ z, (Op.unary op y).run P w = .ok z w ∧ R w X β v z := by
  unfold oUn at h
  split at h
  · simp only [Option.some.injEq] at h
    subst h
    cases hx
    exact ⟨_, rfl, .int _ _ _⟩
  · simp only [Option.some.injEq] at h
    subst h
    cases hx
    exact ⟨_, rfl, .int _ _ _⟩
  · simp only [Option.some.injEq] at h
    subst h
    cases hx
    exact ⟨_, rfl, .bool _ _⟩
  · cases h

theorem sound_index {t : TypeId} {x ix v : V} {y iy : Value} (hx : R w X β x y) (hi : R w X β ix iy) (h : (oIndex P t x ix).run = some v) :
    ∃ z, (Instr.index t y iy).run P w = .ok z w ∧ R w X β v z := by
  unfold oIndex at h
  split at h
  · rename_i s k n
    split at h
    rotate_left
    · cases h
    rename_i hu
    obtain ⟨hin, h⟩ := req_run h
    simp only [Tree.run, Option.some.injEq] at h
    subst h
    obtain ⟨i0, i1, i2⟩ := inside_spec hin
    cases hx
    cases hi
    have hsz : (ByteArray.mk s.toArray).size = s.length := by simp [ByteArray.size]
    refine ⟨.int .u8 (s.getD n.toNat 0).toNat, ?_, .int _ _ _⟩
    rw [run_index_string w t _ k n hu, dif_pos ⟨i0, by rw [hsz]; exact i1⟩]
    have : (ByteArray.mk s.toArray)[n.toNat]'(by rw [hsz]; exact i2) = s.getD n.toNat 0 := by
      rw [List.getD_eq_getElem?_getD, List.getElem?_eq_getElem i2, Option.getD_some]
      rfl
    rw [this]
  · rename_i cells k n
    split at h
    rotate_left
    · cases h
    rename_i i hti
    split at h
    rotate_left
    · cases h
    rename_i len e hk
    have hu := arr_spec hti hk
    split at h
    rotate_left
    · cases h
    rename_i j hj
    obtain ⟨hin, h⟩ := req_run h
    obtain ⟨i0, i1, i2⟩ := inside_spec hin
    split at h
    rotate_left
    · cases h
    rename_i u hu'
    simp only [Tree.run, Option.some.injEq] at h
    subst h
    cases hi
    cases hx with
    | agg _ _ xs hl hr =>
      obtain ⟨z, hz, hz'⟩ := sound_part (P := P) (ft := e) hl hr (ti_isAgg w hj) (ti_size w hj) hu'
      exact ⟨z, by simp [Instr.index, asIntOf, run_und w hu, i0, i1, ti_size w hj, hz], hz'⟩
  · cases h

theorem sound_len {argTypes : Array TypeId} {ty : TypeId} {x v : V} {y : Value} (hx : R w X β x y) (h : oLen P argTypes x = some v) :
    ∃ z, (Builtin.len_ argTypes ty #[y]).run P w = .ok z w ∧ R w X β v z := by
  unfold oLen at h
  split at h
  rotate_left
  · cases h
  rename_i t ht
  split at h
  · rename_i s hu
    simp only [Option.some.injEq] at h
    subst h
    cases hx
    have hsz : (ByteArray.mk s.toArray).size = s.length := by simp [ByteArray.size]
    exact ⟨_, by simp [Builtin.len_, ht, run_und w hu, hsz, goInt], .int _ _ _⟩
  · cases h
  · rename_i e hu hnot
    split at h
    rotate_left
    · cases h
    rename_i n hn
    simp only [Option.some.injEq] at h
    subst h
    have key : ∀ a cap, y = .slice a n cap → ∃ z, (Builtin.len_ argTypes ty #[y]).run P w = .ok z w ∧ R w X β (.int .i64 n) z := by
      intro a cap hy
      subst hy
      exact ⟨.int .i64 n, by simp [Builtin.len_, ht, run_und w hu, goInt], .int _ _ _⟩
    unfold lenOf? at hn
    split at hn <;> first | (cases hn; done) | skip
    · cases hn; cases hx <;> exact key _ _ rfl
    · cases hn; cases hx; exact key _ _ rfl
    · cases hn; cases hx; exact key _ _ rfl
    · cases hn; cases hx; exact key _ _ rfl
    · exact absurd rfl (hnot _)
  · rename_i n e hu
    simp only [Option.some.injEq] at h
    subst h
    refine ⟨.int .i64 n, ?_, .int _ _ _⟩
    simp [Builtin.len_, ht, run_und w hu, goInt]
  · cases h

theorem sound_cap {H : List O} {argTypes : Array TypeId} {ty : TypeId} {x v : V} {y : Value} (hR : Rel w X H β) (hx : R w X β x y) (h : oCap P H argTypes x = some v) :
    ∃ z, (Builtin.cap_ argTypes ty #[y]).run P w = .ok z w ∧ R w X β v z := by
  unfold oCap at h
  split at h
  rotate_left
  · cases h
  rename_i t ht
  split at h
  rotate_left
  · cases h
  rename_i e hu
  split at h
  · rename_i id sz off len
    split at h
    rotate_left
    · cases h
    rename_i cs e' hH
    cases hb : (Nat.ble 4294967296 e' && (Nat.beq off 0 && (Nat.beq (len * sz) cs.length && Nat.blt 0 sz)))
    · rw [hb] at h; cases h
    rw [hb] at h
    simp only [cond_true, Option.some.injEq] at h
    subst h
    simp only [Bool.and_eq_true] at hb
    obtain ⟨b1, b2, b3, b4⟩ := hb
    have b1 := Nat.le_of_ble_eq_true b1
    have b2 := Nat.eq_of_beq_eq_true b2
    have b3 := Nat.eq_of_beq_eq_true b3
    have b4 : 1 ≤ sz := by simpa [Nat.blt] using b4
    cases hx with
    | ref _ _ _ _ _ loc b o cap hid hk hlen ha hcap =>
      obtain ⟨_, arr, e2, a1, a2, a3, a4⟩ := hR.cells id cs e' loc hH hid
      have hs := a3.2 b1
      have hle : cap * sz ≤ len * sz := by omega
      have hc : cap = len := Nat.le_antisymm (Nat.le_of_mul_le_mul_right hle b4) hlen
      subst hc
      exact ⟨.int .i64 cap, by simp [Builtin.cap_, ht, run_und w hu, goInt], .int _ _ _⟩
  · simp only [Option.some.injEq] at h
    subst h
    cases hx
    exact ⟨.int .i64 0, by simp [Builtin.cap_, ht, run_und w hu, goInt], .int _ _ _⟩
  · cases h

theorem sound_max {argTypes : Array TypeId} {ty : TypeId} {x y v : V} {sx sy : Value} (hx : R w X β x sx) (hy : R w X β y sy) (h : vmax x y = some v) :
    ∃ z, (Builtin.max_ argTypes ty #[sx, sy]).run P w = .ok z w ∧ R w X β v z := by
  unfold vmax at h
  split at h
  rotate_left
  · cases h
  rename_i k a l b
  cases hk : decide (k = l)
  · simp [hk] at h
  simp only [hk, cond_true, Option.some.injEq] at h
  subst h
  cases hx
  cases hy
  exact ⟨_, run_max_int2 w argTypes ty k l a b, .int _ _ _⟩

theorem sound_min {argTypes : Array TypeId} {ty : TypeId} {x y v : V} {sx sy : Value} (hx : R w X β x sx) (hy : R w X β y sy) (h : vmin x y = some v) :
    ∃ z, (Builtin.min_ argTypes ty #[sx, sy]).run P w = .ok z w ∧ R w X β v z := by
  unfold vmin at h
  split at h
  rotate_left
  · cases h
  rename_i k a l b
  cases hk : decide (k = l)
  · simp [hk] at h
  simp only [hk, cond_true, Option.some.injEq] at h
  subst h
  cases hx
  cases hy
  exact ⟨_, run_min_int2 w argTypes ty k l a b, .int _ _ _⟩

theorem pures_get : ∀ {cs ds : List V}, V.pures? cs = some ds → ds.length = cs.length ∧ ∀ (k : Nat) v, ds[k]? = some v → ∃ u, cs[k]? = some u ∧ V.pure? u = some v
  | [], ds, h => by
    simp only [V.pures?, Option.some.injEq] at h
    subst h
    exact ⟨rfl, fun k v h => by simp at h⟩
  | c :: cs, ds, h => by
    unfold V.pures? at h
    split at h
    · rename_i v r h1 h2
      simp only [Option.some.injEq] at h
      subst h
      obtain ⟨a, b⟩ := pures_get h2
      refine ⟨by simp [a], fun k u hu => ?_⟩
      cases k with
      | zero => simp at hu; subst hu; exact ⟨c, rfl, h1⟩
      | succ k => simp at hu; obtain ⟨z, hz, hz'⟩ := b k u hu; exact ⟨z, by simpa using hz, hz'⟩
    · cases h

theorem pure_R {β : List Loc} {v : V} {y : Value} (h : R w X β v y) : ∀ v', V.pure? v = some v' → R w X [] v' y := by
  induction h with
  | int => intro v' h; simp only [V.pure?, Option.some.injEq] at h; subst h; exact .int _ _ _
  | bool => intro v' h; simp only [V.pure?, Option.some.injEq] at h; subst h; exact .bool _ _
  | str => intro v' h; simp only [V.pure?, Option.some.injEq] at h; subst h; exact .str _ _
  | val => intro v' h; simp only [V.pure?, Option.some.injEq] at h; subst h; exact .val _ _
  | any => intro v' h; simp [V.pure?] at h
  | pin β cells b o f hc hr ih => intro v' h; simp only [V.pure?, Option.some.injEq] at h; subst h; exact .pin [] cells b o f hc hr
  | sl β c l spare fl b o cap f hcap hfull hrw hc hr ih =>
    intro v' h; simp only [V.pure?, Option.some.injEq] at h; subst h; exact .sl [] c l spare fl b o cap f hcap hfull hrw hc hr
  | nil β c => intro v' h; simp only [V.pure?, Option.some.injEq] at h; subst h; exact .nil [] c
  | gro β id c l b o cap loc f hid hk hn hl hcap hc hr ih =>
    intro v' h; simp only [V.pure?, Option.some.injEq] at h; subst h
    exact gro_sl (.gro β id c l b o cap loc f hid hk hn hl hcap hc hr)
  | ptr => intro v' h; simp [V.pure?] at h
  | ref => intro v' h; simp [V.pure?] at h
  | agg β cells xs hl h ih =>
    intro v' h
    simp only [V.pure?] at h
    obtain ⟨ds, hd, rfl⟩ := Option.map_eq_some_iff.1 h
    obtain ⟨a, b⟩ := pures_get hd
    exact .agg [] ds xs (by omega) (fun k v x h1 h2 => let ⟨u, hu, hp⟩ := b k v h1; ih k u x hu h2 v hp)
  | tup β cells xs hl h ih =>
    intro v' h
    simp only [V.pure?] at h
    obtain ⟨ds, hd, rfl⟩ := Option.map_eq_some_iff.1 h
    obtain ⟨a, b⟩ := pures_get hd
    exact .tup [] ds xs (by omega) (fun k v x h1 h2 => let ⟨u, hu, hp⟩ := b k v h1; ih k u x hu h2 v hp)
  | ifc β t v x h ih =>
    intro v' h
    simp only [V.pure?] at h
    obtain ⟨d, hd, rfl⟩ := Option.map_eq_some_iff.1 h
    exact .ifc [] t d x (ih d hd)
  | clo β fn as bs xs ys hl hm h h' ih ih' =>
    intro v' h
    simp only [V.pure?] at h
    split at h
    · rename_i a b ha hb
      simp only [Option.some.injEq] at h
      subst h
      obtain ⟨a1, a2⟩ := pures_get ha
      obtain ⟨b1, b2⟩ := pures_get hb
      exact .clo [] fn a b xs ys (by omega) (by omega) (fun k v x h1 h2 => let ⟨u, hu, hp⟩ := a2 k v h1; ih k u x hu h2 v hp)
        (fun k v x h1 h2 => let ⟨u, hu, hp⟩ := b2 k v h1; ih' k u x hu h2 v hp)
    · cases h

end
end Go.Ab
