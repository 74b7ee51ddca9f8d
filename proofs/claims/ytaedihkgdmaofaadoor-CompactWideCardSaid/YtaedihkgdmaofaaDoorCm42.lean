/-
  compact: the document's Short is the program's. Conditions: none.
-/
import Derived.Test.YtaedihkgdmaofaaDoorCm38
import Derived.Test.YtaedihkgdmaofaaDoorCm41
import Derived.Test.YtaedihkgdmaofaaDoorCm34
namespace Go.Cmp
open Go Go.Ab Go.Proofs

/-- The context of foundry/foundryref9.Short. -/
noncomputable def cx21 : Cx := { P := Tryd.prog, n := 53, tab := [(38, check8S), (34, tableS), (39, triedS), (19, wideXS)], mtab := [], refs := [], keeps := [0, 1, 2, 3, 4, 5, 6, 7, 8, 9, 12, 18, 30, 47] }
noncomputable abbrev B21 : Code := bodyOf Tryd.f21
noncomputable abbrev S21 : Code := cin (cin (c2 (c1 (tailN 2 B21))))
noncomputable abbrev T21 : Code := cin (c1 (c2 S21))
noncomputable abbrev I21 : Code := cin (cin (c2 (c2 T21)))
def shPre (nm : List UInt8) (a b c d n : Int) : Tree St :=
  (.br (chkL (nm, a, b, c, d, n) != 0) (.leaf (.ret, [(0, (.agg [(.str nm), (.int .i64 a), (.int .i64 b), (.int .i64 c), (.int .i64 d), (.int .i64 n)])), (1, (.ptr 0 0)), (2, (.ptr 1 0)), (3, (.bool false)), (12, (.bool true))], [(.cells [(.str nm), (.int .i64 a), (.int .i64 b), (.int .i64 c), (.int .i64 d), (.int .i64 n)] 29), (.cells [(.str []), (.int .i64 0), (.int .i64 0), (.int .i64 0), (.int .i64 0), (.int .i64 0)] 29)])) (.leaf (.normal, [(0, (.agg [(.str nm), (.int .i64 a), (.int .i64 b), (.int .i64 c), (.int .i64 d), (.int .i64 n)])), (1, (.ptr 0 0)), (2, (.ptr 1 0)), (3, (.bool false)), (4, (.sl (.prod [.str, .str, .str, .bool, (.int .i64), (.int .i64), (.int .i64), .bool]) (tabL) ([]) Fl.full)), (12, (.bool false))], [(.cells [(.str nm), (.int .i64 a), (.int .i64 b), (.int .i64 c), (.int .i64 d), (.int .i64 n)] 29), (.cells [(.str []), (.int .i64 0), (.int .i64 0), (.int .i64 0), (.int .i64 0), (.int .i64 0)] 29)])))

theorem shPre_eq (nm : List UInt8) (a b c d n : Int) : (dcode cx21 (headN 2 B21) (initT 0 [.agg [.str nm, .int .i64 a, .int .i64 b, .int .i64 c, .int .i64 d, .int .i64 n]]) []).run = (shPre nm a b c d n).run :=
  (show (dcode cx21 (headN 2 B21) (initT 0 [.agg [.str nm, .int .i64 a, .int .i64 b, .int .i64 c, .int .i64 d, .int .i64 n]]) []).run = (shPre nm a b c d n).out by kernel_rfl).trans (Tree.out_run _)

def shA (nm : List UInt8) (a b c d n : Int) (l : List tabE.ty) (i : Int) : Tree St :=
  (.br (decide (i < ↑(List.length l))) (.leaf (.normal, [(1, (.ptr 0 0)), (2, (.ptr 1 0)), (3, (.bool false)), (4, (.sl (.prod [.str, .str, .str, .bool, (.int .i64), (.int .i64), (.int .i64), .bool]) (l) ([]) Fl.full)), (5, (.int .i64 i)), (18, (.bool true))], [(.cells [(.str nm), (.int .i64 a), (.int .i64 b), (.int .i64 c), (.int .i64 d), (.int .i64 n)] 29), (.cells [(.str []), (.int .i64 0), (.int .i64 0), (.int .i64 0), (.int .i64 0), (.int .i64 0)] 29)])) (.leaf ((.exit 0), [(1, (.ptr 0 0)), (2, (.ptr 1 0)), (3, (.bool false)), (4, (.sl (.prod [.str, .str, .str, .bool, (.int .i64), (.int .i64), (.int .i64), .bool]) (l) ([]) Fl.full)), (5, (.int .i64 i)), (18, (.bool false))], [(.cells [(.str nm), (.int .i64 a), (.int .i64 b), (.int .i64 c), (.int .i64 d), (.int .i64 n)] 29), (.cells [(.str []), (.int .i64 0), (.int .i64 0), (.int .i64 0), (.int .i64 0), (.int .i64 0)] 29)])))

theorem shA_eq (nm : List UInt8) (a b c d n : Int) (l : List tabE.ty) (i : Int) : (dcode cx21 (c1 S21) [(1, .ptr 0 0), (2, .ptr 1 0), (3, .bool false), (4, .sl tabE l [] .full), (5, .int .i64 i)] [.cells [.str nm, .int .i64 a, .int .i64 b, .int .i64 c, .int .i64 d, .int .i64 n] 29, .cells [.str [], .int .i64 0, .int .i64 0, .int .i64 0, .int .i64 0, .int .i64 0] 29]).run = (shA nm a b c d n l i).run :=
  (show (dcode cx21 (c1 S21) [(1, .ptr 0 0), (2, .ptr 1 0), (3, .bool false), (4, .sl tabE l [] .full), (5, .int .i64 i)] [.cells [.str nm, .int .i64 a, .int .i64 b, .int .i64 c, .int .i64 d, .int .i64 n] 29, .cells [.str [], .int .i64 0, .int .i64 0, .int .i64 0, .int .i64 0, .int .i64 0] 29]).run = (shA nm a b c d n l i).out by kernel_rfl).trans (Tree.out_run _)

def shE (nm : List UInt8) (a b c d n : Int) : Tree St :=
  (.leaf (.ret, [(1, (.ptr 0 0)), (2, (.ptr 1 0)), (3, (.bool false))], [(.cells [(.str nm), (.int .i64 a), (.int .i64 b), (.int .i64 c), (.int .i64 d), (.int .i64 n)] 29), (.cells [(.str []), (.int .i64 0), (.int .i64 0), (.int .i64 0), (.int .i64 0), (.int .i64 0)] 29)]))

theorem shE_eq (nm : List UInt8) (a b c d n : Int) : (dcode cx21 (tailN 3 B21) [(1, .ptr 0 0), (2, .ptr 1 0), (3, .bool false)] [.cells [.str nm, .int .i64 a, .int .i64 b, .int .i64 c, .int .i64 d, .int .i64 n] 29, .cells [.str [], .int .i64 0, .int .i64 0, .int .i64 0, .int .i64 0, .int .i64 0] 29]).run = (shE nm a b c d n).run :=
  (show (dcode cx21 (tailN 3 B21) [(1, .ptr 0 0), (2, .ptr 1 0), (3, .bool false)] [.cells [.str nm, .int .i64 a, .int .i64 b, .int .i64 c, .int .i64 d, .int .i64 n] 29, .cells [.str [], .int .i64 0, .int .i64 0, .int .i64 0, .int .i64 0, .int .i64 0] 29]).run = (shE nm a b c d n).out by kernel_rfl).trans (Tree.out_run _)

abbrev stS (l : List TabT) (i : Int) : T := [(1, .ptr 0 0), (2, .ptr 1 0), (3, .bool false), (4, .sl tabE l [] .full), (5, .int .i64 i)]
def shB (l : List TabT) (i : Int) (w : InsT) : Tree St :=
  .br (inside i l.length) (.br (isTabB (tabAt l i.toNat)) (.leaf (.normal, stS l i ++ [(6, .sl insEC (triedX (tabAt l i.toNat) w) [] .ro)], [insO w, insO zeroI])) .fail) .fail
theorem shB_eq (l : List TabT) (i : Int) (w : InsT) : (dcode cx21 (c1 T21) (stS l i) [insO w, insO zeroI]).run = (shB l i w).run :=
  (show _ = (shB l i w).out by kernel_rfl).trans (Tree.out_run _)
abbrev tAt (ts : List InsT) (j : Nat) : InsT := ts.getD j zeroI
def shI2 (l : List TabT) (i : Int) (w : InsT) (ts : List InsT) (j : Int) : Tree St :=
  .br (decide (j < (ts.length : Int))) (.br (inside j ts.length) (.br (encE (tAt ts j.toNat) == 0) (.br (insEq (wideA (tAt ts j.toNat)) w)
    (.br (inside j ts.length) (.leaf (.ret, [(1, .ptr 0 0), (2, .ptr 1 0), (3, .bool true), (4, .sl tabE l [] .full), (5, .int .i64 i), (6, .sl insEC ts [] .ro), (7, .int .i64 j), (8, .ptr 2 0), (9, .int .i64 (encE (tAt ts j.toNat))), (30, .bool true), (47, .bool true)], [insO w, insO (tAt ts j.toNat), insO (wideA (tAt ts j.toNat))])) .fail)
    (.leaf (.normal, [(1, .ptr 0 0), (2, .ptr 1 0), (3, .bool false), (4, .sl tabE l [] .full), (5, .int .i64 i), (6, .sl insEC ts [] .ro), (7, .int .i64 (IntKind.wrap .i64 (j + 1))), (8, .ptr 2 0), (9, .int .i64 (encE (tAt ts j.toNat))), (30, .bool true), (47, .bool false)], [insO w, insO zeroI, insO (wideA (tAt ts j.toNat))])))
    (.leaf (.normal, [(1, .ptr 0 0), (2, .ptr 1 0), (3, .bool false), (4, .sl tabE l [] .full), (5, .int .i64 i), (6, .sl insEC ts [] .ro), (7, .int .i64 (IntKind.wrap .i64 (j + 1))), (8, .ptr 2 0), (9, .int .i64 (encE (tAt ts j.toNat))), (30, .bool true), (47, .bool false)], [insO w, insO zeroI, insO (wideA (tAt ts j.toNat))]))) .fail)
    (.leaf (.exit 2, [(1, .ptr 0 0), (2, .ptr 1 0), (3, .bool false), (4, .sl tabE l [] .full), (5, .int .i64 i), (6, .sl insEC ts [] .ro), (7, .int .i64 j), (30, .bool false)], [insO w, insO zeroI]))
theorem shI2_eq (l : List TabT) (i : Int) (w : InsT) (ts : List InsT) (j : Int) : (dcode cx21 I21 (stS l i ++ [(6, .sl insEC ts [] .ro), (7, .int .i64 j)]) [insO w, insO zeroI]).run = (shI2 l i w ts j).run :=
  (show _ = (shI2 l i w ts j).out by kernel_rfl).trans (Tree.out_run _)

theorem cx21_ok : CxOk cx21 := cx1_ok (.cons check8S_ok (.cons tableS_ok (.cons triedS_ok (ok1 wideXS_ok)))) (fun p h => by cases h) rfl rfl
theorem hit_eq (w t : InsT) : hit w t = cond (encE t == 0) (insEq (wideA t) w) false := rfl
theorem find_take {α : Type} {p : α → Bool} {l : List α} {j : Nat} {d : α} (hj : j < l.length) (hn : (l.take j).find? p = none) : (p (l.getD j d) = true → l.find? p = some (l.getD j d)) ∧ (p (l.getD j d) = false → (l.take (j + 1)).find? p = none) := by
  have e : l.getD j d = l[j] := by rw [List.getD, List.getElem?_eq_getElem hj]; rfl
  refine ⟨fun h => ?_, fun h => ?_⟩
  · rw [e] at h ⊢
    have hs : l = l.take j ++ l[j] :: l.drop (j + 1) := by rw [List.getElem_cons_drop, List.take_append_drop]
    have : (l.take j ++ l[j] :: l.drop (j + 1)).find? p = some l[j] := by
      rw [List.find?_append, hn, List.find?_cons, h]
      rfl
    rw [← hs] at this
    exact this
  · rw [e] at h
    rw [List.take_add_one, List.getElem?_eq_getElem hj, List.find?_append, hn]
    simp [h]

set_option maxRecDepth 8000 in
/-- The tries of one row. -/
theorem tries (w : InsT) (i : Nat) (ts : List InsT) (hl : ts.length = 16) {Q : AEx → T → List O → Prop}
    (hret : ∀ t, ts.find? (hit w) = some t → ∀ s : T, get 1 s = .ptr 0 0 → get 2 s = .ptr 1 0 → get 3 s = .bool true → Q .ret s [insO w, insO t])
    (hnone : ts.find? (hit w) = none → ∀ s : T, TLe s (stS tabL i) → Q .normal s [insO w, insO zeroI]) :
    AWP Tryd.prog 53 (c2 T21) Q (stS tabL i ++ [(6, .sl insEC ts [] .ro)]) [insO w, insO zeroI] := by
  have e : c2 T21 = .seq (c1 (c2 T21)) (.block 2 (.loop I21)) := by kernel_rfl
  rw [e]
  refine AWP_seq (AWP_run (cx := cx21) rfl rfl cx21_ok (s := (.normal, stS tabL i ++ [(6, .sl insEC ts [] .ro), (7, .int .i64 ((0 : Nat) : Int))], [insO w, insO zeroI])) (by kernel_rfl) ?_)
  refine AWP_block ?_
  refine AWP_rounds (cx := cx21) (P := Tryd.prog) (n := 53) rfl rfl cx21_ok (fun j : { j : Nat // j ≤ ts.length ∧ (ts.take j).find? (hit w) = none } => (stS tabL i ++ [(6, .sl insEC ts [] .ro), (7, .int .i64 j.1)], [insO w, insO zeroI])) (fun j => 16 - j.1) ?_ ⟨0, Nat.zero_le _, rfl⟩
  rintro ⟨j, hj, hno⟩
  refine Tree.all_run_eq (shI2_eq tabL i w ts j) ?_
  unfold shI2
  refine ⟨fun hlt => ?_, fun hge => ?_⟩
  · have hlt : j < ts.length := Int.ofNat_lt.1 (of_decide_eq_true hlt)
    have hin : inside (j : Int) ts.length = true := inside_of (Int.natCast_nonneg j) (Int.ofNat_lt.2 hlt)
    obtain ⟨f1, f2⟩ := find_take (d := zeroI) hlt hno
    have ej : tAt ts ((j : Int).toNat) = ts.getD j zeroI := rfl
    rw [ej]
    have step : V.int .i64 (IntKind.wrap .i64 ((j : Int) + 1)) = V.int .i64 ((j + 1 : Nat) : Int) := by
      rw [wrap_i64 (by omega) (by omega)]
      rfl
    have next : hit w (ts.getD j zeroI) = false → (ts.take (j + 1)).find? (hit w) = none := f2
    refine all_t hin ⟨fun h1 => ⟨fun h2 => all_t hin ?_, fun h2 => ?_⟩, fun h1 => ?_⟩
    · refine ⟨[], _, rfl, ?_⟩
      exact hret _ (f1 (by rw [hit_eq, h1, h2]; rfl)) _ rfl rfl rfl
    · exact ⟨[], _, rfl, ⟨j + 1, hlt, next (by rw [hit_eq, h1, h2]; rfl)⟩, by show 16 - (j + 1) < 16 - j; omega, Fits.tle ⟨rfl, rfl, rfl, rfl, rfl, rfl, step, trivial⟩, rfl⟩
    · exact ⟨[], _, rfl, ⟨j + 1, hlt, next (by rw [hit_eq, h1]; rfl)⟩, by show 16 - (j + 1) < 16 - j; omega, Fits.tle ⟨rfl, rfl, rfl, rfl, rfl, rfl, step, trivial⟩, rfl⟩
  · have hge : ¬ j < ts.length := fun h => of_decide_eq_false hge (Int.ofNat_lt.2 h)
    have hj' : j = ts.length := by omega
    refine ⟨[], _, rfl, ?_⟩
    refine hnone (by rw [← hno, hj', List.take_length]) _ (Fits.tle ⟨rfl, rfl, rfl, rfl, rfl, trivial⟩)

def shXQ (w : InsT) (e : AEx) (t : T) (H : List O) : Prop :=
  (e = .ret ∨ e = .normal) ∧ answerV Tryd.prog Tryd.f21.results.toList H t = some (.tup [insV (shI w), .bool (shOk w)])
theorem ans21 {t : T} {o : InsT} {w : InsT} {b : Bool} (h1 : get 2 t = .ptr 1 0) (h2 : get 3 t = .bool b) : answerV Tryd.prog Tryd.f21.results.toList [insO w, insO o] t = some (.tup [insV o, .bool b]) := by
  have hr : Tryd.f21.results.toList = [.cell 2 29, .tmp 3] := by kernel_rfl
  have hl : oLoad Tryd.prog [insO w, insO o] 29 (.ptr 1 0) = some (insV o) := by kernel_rfl
  unfold answerV
  rw [hr]
  simp only [resV, h1, h2, hl]
  rfl

def shP2 (w : InsT) (x : RowT) : Bool := narrowB x (longs x) w
def shSt2 (w : InsT) (i : { i : Nat // i ≤ rowsL.length ∧ (rowsL.take i).find? (shP w) = none }) : T × List O := (stS tabL i.1, [insO w, insO zeroI])
theorem shA_run (w : InsT) (i : Nat) : (dcode cx21 (c1 S21) (stS tabL i) [insO w, insO zeroI]).run = (shA w.1 w.2.1 w.2.2.1 w.2.2.2.1 w.2.2.2.2.1 w.2.2.2.2.2 tabL i).run := shA_eq _ _ _ _ _ _ _ _

set_option maxRecDepth 8000 in
theorem shX_loop (w : InsT) : AWP Tryd.prog 53 (tailN 2 B21) (shXQ w) [(1, .ptr 0 0), (2, .ptr 1 0), (3, .bool false), (4, .sl tabE tabL [] .full)] [insO w, insO zeroI] := by
  have e : tailN 2 B21 = .seq (.seq (c1 (c1 (tailN 2 B21))) (.block 0 (.loop S21))) (tailN 3 B21) := by kernel_rfl
  rw [e]
  have hlen := rowsL_len
  refine AWP_seq (AWP_seq (AWP_run (cx := cx21) rfl rfl cx21_ok (s := (.normal, stS tabL ((0 : Nat) : Int), [insO w, insO zeroI])) (by kernel_rfl) ?_))
  refine AWP_block ?_
  refine AWP_loop (P := Tryd.prog) (n := 53) (shSt2 w) (fun i => 33 - i.1) ?_ ⟨0, Nat.zero_le _, rfl⟩
  rintro ⟨i, hi, hnone⟩
  have es : S21 = .seq (c1 S21) (.seq (.block 1 (.seq (c1 T21) (c2 T21))) (c2 (c2 S21))) := by kernel_rfl
  rw [es]
  refine AWP_seq (AWP_code (cx := cx21) rfl rfl cx21_ok _ _ _ _ (Tree.all_run_eq (shA_run w i) ?_))
  unfold shA
  refine ⟨fun hlt => ?_, fun hge => ?_⟩
  · have hlt : i < rowsL.length := by
      have h := Int.ofNat_lt.1 (of_decide_eq_true hlt)
      have h2 := tabL_len
      exact h2 ▸ h
    have hx : rowsL.getD i zeroR ∈ rowsL := getD_mem hlt
    have hy : tabAt tabL ((i : Int).toNat) = tabs (rowsL.getD i zeroR) := tabAt_eq hlt
    obtain ⟨f1, f2⟩ := find_take (d := zeroR) hlt hnone
    have tf := tried_find hx w
    show AWP _ _ _ _ _ _
    refine AWP.less (s := stS tabL i) (Fits.tle ⟨rfl, rfl, rfl, rfl, rfl, trivial⟩) ?_
    refine AWP_seq (AWP_block (AWP_seq (AWP_code (cx := cx21) rfl rfl cx21_ok _ _ _ _ (Tree.all_run_eq (shB_eq tabL i w) ?_))))
    unfold shB
    rw [hy]
    refine all_t (inside_of (Int.natCast_nonneg i) (by rw [tabL_len]; exact Int.ofNat_lt.2 hlt)) (all_t (isTabB_of hx) ?_)
    show AWP _ _ _ _ _ _
    refine tries w i (triedX (tabs (rowsL.getD i zeroR)) w) rfl (fun t ht s g1 g2 g3 => ?_) (fun hn s hs => ?_)
    · rw [tf] at ht
      cases hb : narrowB (rowsL.getD i zeroR) (longs (rowsL.getD i zeroR)) w
      · rw [hb] at ht; cases ht
      · rw [hb, cond_true] at ht
        have ht := Option.some.inj ht
        have hrow : shrow w = some (rowsL.getD i zeroR) := f1 hb
        have e1 : shI w = t := by unfold shI; rw [hrow]; exact ht
        have e2 : shOk w = true := by unfold shOk; rw [hrow]; rfl
        refine ⟨.inl rfl, ?_⟩
        rw [e1, e2]
        exact ans21 g2 g3
    · have hb : narrowB (rowsL.getD i zeroR) (longs (rowsL.getD i zeroR)) w = false := by
        cases hb : narrowB (rowsL.getD i zeroR) (longs (rowsL.getD i zeroR)) w
        · rfl
        · rw [tf, hb] at hn; cases hn
      show AWP _ _ _ _ _ _
      refine AWP.less hs ?_
      refine AWP_run (cx := cx21) rfl rfl cx21_ok (s := (.normal, stS tabL (IntKind.wrap .i64 ((i : Int) + 1)), [insO w, insO zeroI])) (by kernel_rfl) ?_
      refine ⟨⟨i + 1, hlt, f2 hb⟩, by show 33 - (i + 1) < 33 - i; omega, ?_, rfl⟩
      rw [wrap_i64 (by omega) (by omega)]
      exact Fits.tle ⟨rfl, rfl, rfl, rfl, rfl, trivial⟩
  · have hge : ¬ i < rowsL.length := fun h => by
      refine of_decide_eq_false hge (Int.ofNat_lt.2 ?_)
      have h2 := tabL_len
      exact h2.symm ▸ h
    have hi' : i = rowsL.length := by omega
    have hf : shrow w = none := by unfold shrow; rw [← hnone, hi', List.take_length]
    have e1 : shI w = zeroI := by unfold shI; rw [hf]
    have e2 : shOk w = false := by unfold shOk; rw [hf]; rfl
    show AWP _ _ _ _ _ _
    refine AWP.less (s := [(1, .ptr 0 0), (2, .ptr 1 0), (3, .bool false)]) (Fits.tle ⟨rfl, rfl, rfl, trivial⟩) ?_
    refine AWP_run (cx := cx21) rfl rfl cx21_ok (s := (.ret, [(1, .ptr 0 0), (2, .ptr 1 0), (3, .bool false)], [insO w, insO zeroI])) (shE_eq w.1 w.2.1 w.2.2.1 w.2.2.2.1 w.2.2.2.2.1 w.2.2.2.2.2) ?_
    refine ⟨.inl rfl, ?_⟩
    rw [e1, e2]
    exact ans21 rfl rfl

set_option maxRecDepth 8000 in
theorem shX_ok (w : InsT) : PCall Tryd.prog 21 [insV w] (.tup [insV (shI w), .bool (shOk w)]) := by
  refine pcall_of' (c := bodyOf Tryd.f21) (fn := Tryd.f21) (by kernel_rfl) (by kernel_rfl) (by kernel_rfl) (by kernel_rfl) ?_
  refine AWP_headE (cx := cx21) rfl rfl cx21_ok 2 (by kernel_rfl) (shPre_eq w.1 w.2.1 w.2.2.1 w.2.2.2.1 w.2.2.2.2.1 w.2.2.2.2.2) ?_
  refine ⟨fun h => ?_, fun h => ?_⟩
  · have hs : shOk w = false := by
      cases hs : shOk w
      · rfl
      · have h0 := short_chk hs
        have h : (chkL w != 0) = true := h
        rw [h0] at h
        cases h
    have e1 : shI w = zeroI := by
      unfold shI
      unfold shOk at hs
      cases hr : shrow w with
      | none => rfl
      | some x => rw [hr] at hs; cases hs
    refine ⟨.inl rfl, ?_⟩
    rw [e1, hs]
    exact ans21 (w := w) (o := zeroI) (t := [(0, insV w), (1, .ptr 0 0), (2, .ptr 1 0), (3, .bool false), (12, .bool true)]) rfl rfl
  · show AWP _ _ _ _ _ _
    exact AWP.less (s := [(1, .ptr 0 0), (2, .ptr 1 0), (3, .bool false), (4, .sl tabE tabL [] .full)]) (Fits.tle ⟨rfl, rfl, rfl, rfl, trivial⟩) (shX_loop w)
def shXS : Ab.Spec := fun args => match args with
  | [.agg [.str nm, .int .i64 a, .int .i64 b, .int .i64 c, .int .i64 d, .int .i64 n]] => .leaf (.tup [insV (shI (nm, a, b, c, d, n)), .bool (shOk (nm, a, b, c, d, n))])
  | _ => .fail
theorem shXS_ok : Sound Tryd.prog 21 shXS := by
  intro args out h
  unfold shXS at h
  split at h
  rotate_left
  · cases h
  have h := leaf_out h
  subst h
  exact shX_ok (_, _, _, _, _, _)

/-! The law. -/

/-- The context of foundry/foundrylaw9.CompactWide. -/
noncomputable def cx6 : Cx := { P := Tryd.prog, n := 53, tab := [(9, begunS), (18, wideAS), (19, wideXS), (20, shortS), (21, shXS)], mtab := [], refs := [], keeps := [0, 1, 2, 3, 4, 5, 6, 7, 8, 9, 10, 11, 12, 14] }
def boV (b : Bool) : Option V := some (.bool b)
theorem wideLaw_eq (nm : List UInt8) (a b c d n : Int) (nm' : List UInt8) (a' b' c' d' n' : Int) : (dfun cx6 Tryd.f6 [.agg [.str nm, .int .i64 a, .int .i64 b, .int .i64 c, .int .i64 d, .int .i64 n], .agg [.str nm', .int .i64 a', .int .i64 b', .int .i64 c', .int .i64 d', .int .i64 n']]).fin =
    cond (insEq (wideA (nm, a, b, c, d, n)) (wideA (nm, a, b, c, d, n))) (cond (encE (nm, a, b, c, d, n) == encE (nm, a, b, c, d, n)) (cond (insEq (shI (nm', a', b', c', d', n')) (shI (nm', a', b', c', d', n'))) (boV (shOk (nm', a', b', c', d', n') == shOk (nm', a', b', c', d', n'))) (boV false)) (boV false)) (boV false) := by kernel_rfl
theorem wide_law (i w : InsT) : PCall Tryd.prog 6 [insV i, insV w] (.bool true) := by
  refine pcall_fun' (cx := cx6) (fn := Tryd.f6) (cx1_ok (.cons begunS_ok (.cons wideAS_ok (.cons wideXS_ok (.cons shortS_ok (ok1 shXS_ok))))) (fun p h => by cases h) rfl rfl) (by kernel_rfl) (by kernel_rfl) rfl
    ((Tree.fin_run _).symm.trans ((wideLaw_eq i.1 i.2.1 i.2.2.1 i.2.2.2.1 i.2.2.2.2.1 i.2.2.2.2.2 w.1 w.2.1 w.2.2.1 w.2.2.2.1 w.2.2.2.2.1 w.2.2.2.2.2).trans ?_))
  rw [insEq_self, insEq_self, beq_self_eq_true, beq_self_eq_true]
  rfl

end Go.Cmp
