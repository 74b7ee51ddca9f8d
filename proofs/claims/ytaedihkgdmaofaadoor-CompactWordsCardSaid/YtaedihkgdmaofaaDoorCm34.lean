/-
  compact: the document's Decode is the program's. Conditions: none.
-/
import Derived.Test.YtaedihkgdmaofaaDoorCm32
import Derived.Test.YtaedihkgdmaofaaDoorCm33
import Derived.Test.YtaedihkgdmaofaaDoorEnE
namespace Go.Cmp
open Go Go.Ab Go.Proofs

/-- The context of foundry/foundryref9.Decode. -/
noncomputable def cx16 : Cx := { P := Tryd.prog, n := 48, tab := [(33, uS), (34, tableS), (35, readXS), (27, checkXS), (29, wordXS)], mtab := [], refs := [], keeps := [0, 1, 4, 5, 6, 7, 8, 9, 10, 11, 19, 26, 45] }
noncomputable abbrev B16 : Code := bodyOf Tryd.f16
def decXPre (l sp : List Int) (fl : Fl) (at_ : Int) : Tree St :=
  (.br (decide (List.length l < 1000000000)) (.br (uE l at_ != 0) (.leaf (.ret, [(0, (.sl (.int .u8) (l) (sp) fl)), (1, (.int .i64 at_)), (4, (.ptr 0 0)), (5, (.int .i64 0)), (6, (.int .i64 (uE l at_))), (7, (.int .u64 (uV l at_))), (8, (.int .i64 (uE l at_))), (19, (.bool true))], [(.cells [(.str []), (.int .i64 0), (.int .i64 0), (.int .i64 0), (.int .i64 0), (.int .i64 0)] 29)])) (.leaf (.normal, [(0, (.sl (.int .u8) (l) (sp) fl)), (1, (.int .i64 at_)), (4, (.ptr 0 0)), (5, (.int .i64 0)), (6, (.int .i64 0)), (7, (.int .u64 (uV l at_))), (8, (.int .i64 (uE l at_))), (9, (.sl (.prod [.str, .str, .str, .bool, (.int .i64), (.int .i64), (.int .i64), .bool]) (tabL) ([]) Fl.full)), (19, (.bool false))], [(.cells [(.str []), (.int .i64 0), (.int .i64 0), (.int .i64 0), (.int .i64 0), (.int .i64 0)] 29)]))) .fail)

theorem decXPre_eq (l sp : List Int) (fl : Fl) (at_ : Int) : (dcode cx16 (headN 3 B16) (initT 0 [.sl (.int .u8) l sp fl, .int .i64 at_]) []).run = (decXPre l sp fl at_).run :=
  (show (dcode cx16 (headN 3 B16) (initT 0 [.sl (.int .u8) l sp fl, .int .i64 at_]) []).run = (decXPre l sp fl at_).out by kernel_rfl).trans (Tree.out_run _)

def decXEnd  : Tree St :=
  (.leaf (.ret, [(4, (.ptr 0 0)), (5, (.int .i64 0)), (6, (.int .i64 22))], [(.cells [(.str []), (.int .i64 0), (.int .i64 0), (.int .i64 0), (.int .i64 0), (.int .i64 0)] 29)]))

theorem decXEnd_eq  : (dcode cx16 (tailN 4 B16) [(4, .ptr 0 0), (5, .int .i64 0), (6, .int .i64 0)] [.cells [.str [], .int .i64 0, .int .i64 0, .int .i64 0, .int .i64 0, .int .i64 0] 29]).run = (decXEnd ).run :=
  (show (dcode cx16 (tailN 4 B16) [(4, .ptr 0 0), (5, .int .i64 0), (6, .int .i64 0)] [.cells [.str [], .int .i64 0, .int .i64 0, .int .i64 0, .int .i64 0, .int .i64 0] 29]).run = (decXEnd ).out by kernel_rfl).trans (Tree.out_run _)

abbrev tabAt (l : List TabT) (i : Nat) : TabT := l.getD i zeroT
def decXI (l : List TabT) (w i : Int) : InsT := rdI (frow (tabAt l i.toNat).1) (IntKind.wrap IntKind.u16 w)
def decXRound (l : List TabT) (w i : Int) : Tree St :=
  .br (decide (i < (l.length : Int))) (.br (inside i l.length) (.br (isTabB (tabAt l i.toNat)) (.br (decide (0 ≤ IntKind.wrap IntKind.u16 w) && decide (IntKind.wrap IntKind.u16 w < 65536)) (.br (encE (decXI l w i) == 0) (.br (fok (decXI l w i).1)
    (.br (wdX (tabs (frow (decXI l w i).1)) (decXI l w i).2.1 (decXI l w i).2.2.1 (decXI l w i).2.2.2.1 (decXI l w i).2.2.2.2.2 == IntKind.wrap IntKind.u16 w)
    (.leaf (.ret, [(4, (.ptr 0 0)), (5, (.int .i64 2)), (6, (.int .i64 0)), (7, (.int .u64 w)), (9, .sl tabE l [] .full), (10, (.int .i64 i)), (11, (.ptr 1 0)), (26, (.bool true)), (45, (.bool true))], [insO (decXI l w i), insO (decXI l w i)]))
    (.leaf (.normal, [(4, (.ptr 0 0)), (5, (.int .i64 0)), (6, (.int .i64 0)), (7, (.int .u64 w)), (9, .sl tabE l [] .full), (10, (.int .i64 (IntKind.wrap IntKind.i64 (i + 1)))), (11, (.ptr 1 0)), (26, (.bool true)), (45, (.bool false))], [insO zeroI, insO (decXI l w i)]))) .fail)
    (.leaf (.normal, [(4, (.ptr 0 0)), (5, (.int .i64 0)), (6, (.int .i64 0)), (7, (.int .u64 w)), (9, .sl tabE l [] .full), (10, (.int .i64 (IntKind.wrap IntKind.i64 (i + 1)))), (11, (.ptr 1 0)), (26, (.bool true)), (45, (.bool false))], [insO zeroI, insO (decXI l w i)]))) .fail) .fail) .fail)
    (.leaf ((.exit 0), [(4, (.ptr 0 0)), (5, (.int .i64 0)), (6, (.int .i64 0)), (7, (.int .u64 w)), (9, .sl tabE l [] .full), (10, (.int .i64 i)), (26, (.bool false))], [insO zeroI]))
theorem decXRound_eq (l : List TabT) (w i : Int) : (dcode cx16 (cin (cin (c2 (c1 (tailN 3 B16))))) [(4, .ptr 0 0), (5, .int .i64 0), (6, .int .i64 0), (7, .int .u64 w), (9, .sl tabE l [] .full), (10, .int .i64 i)] [insO zeroI]).run = (decXRound l w i).run :=
  (show _ = (decXRound l w i).out by kernel_rfl).trans (Tree.out_run _)

theorem cx16_ok : CxOk cx16 := cx1_ok (.cons uS_ok (.cons tableS_ok (.cons readXS_ok (.cons checkXS_ok (ok1 wordXS_ok))))) (fun p h => by cases h) rfl rfl
theorem all_t {α : Type} {c : Bool} {x y : Tree α} {Q : α → Prop} (h : c = true) (hx : x.all Q) : (Tree.br c x y).all Q := ⟨fun _ => hx, fun e => Bool.noConfusion (h.symm.trans e)⟩
theorem all_f {α : Type} {c : Bool} {x y : Tree α} {Q : α → Prop} (h : c = false) (hy : y.all Q) : (Tree.br c x y).all Q := ⟨fun e => Bool.noConfusion (h.symm.trans e), fun _ => hy⟩

def drowX (w : Int) : Option RowT := rowsL.find? (matchX w)
theorem find_congr {p q : RowT → Bool} : ∀ {l : List RowT}, (∀ x ∈ l, p x = q x) → l.find? p = l.find? q
  | [], _ => rfl
  | x :: r, h => by
    rw [List.find?_cons, List.find?_cons, h x List.mem_cons_self, find_congr (fun y hy => h y (List.mem_cons_of_mem _ hy))]
theorem drow_eq {w : Int} (w0 : 0 ≤ w) (w1 : w < 65536) : drowX w = drow w := find_congr fun _ hx => (matchX_eq hx w0 w1).1
theorem dec_found {w : Int} (w0 : 0 ≤ w) (w1 : w < 65536) {x : RowT} (h : drowX w = some x) : decI w = rdI x w ∧ decOk w = true := by
  have hd := drow_eq w0 w1
  rw [h] at hd
  have hx : x ∈ rowsL := List.mem_of_find?_eq_some h
  have hm : matchX w x = true := List.find?_some (p := matchX w) h
  obtain ⟨m1, m2⟩ := matchX_eq hx w0 w1
  rw [m1] at hm
  refine ⟨?_, ?_⟩
  · unfold decI
    rw [← hd]
    exact (m2 hm).symm
  · unfold decOk
    rw [← hd]
    rfl
theorem dec_none {w : Int} (w0 : 0 ≤ w) (w1 : w < 65536) (h : drowX w = none) : decI w = zeroI ∧ decOk w = false := by
  have hd := drow_eq w0 w1
  rw [h] at hd
  refine ⟨?_, ?_⟩
  · unfold decI
    rw [← hd]
  · unfold decOk
    rw [← hd]
    rfl

def decXSt (w : Int) (i : { i : Nat // i ≤ rowsL.length ∧ (rowsL.take i).find? (matchX w) = none }) : T × List O :=
  ([(4, .ptr 0 0), (5, .int .i64 0), (6, .int .i64 0), (7, .int .u64 w), (9, .sl tabE tabL [] .full), (10, .int .i64 i.1)], [insO zeroI])
def decXQ (w : Int) (e : AEx) (t : T) (H : List O) : Prop :=
  (e = .ret ∨ e = .normal) ∧ answerV Tryd.prog Tryd.f16.results.toList H t = some (.tup [insV (decI w), .int .i64 (cond (decOk w) 2 0), .int .i64 (cond (decOk w) 0 22)])
theorem tabAt_eq {i : Nat} (h : i < rowsL.length) : tabAt tabL i = tabs (rowsL.getD i zeroR) := by
  unfold tabAt
  rw [tabL_eq, List.getD, List.getElem?_map, List.getElem?_eq_getElem h, List.getD, List.getElem?_eq_getElem h]
  rfl
theorem tabL_len : tabL.length = rowsL.length := by
  rw [tabL_eq, List.length_map]
theorem isTabB_of {x : RowT} (hx : x ∈ rowsL) : isTabB (tabs x) = true := by
  obtain ⟨o1, o2⟩ := row_names hx
  unfold isTabB
  rw [tabs_name hx, o1, o2, tabs_name hx]
  simp [strEq, isDoc]

set_option maxRecDepth 8000 in
theorem decX_loop (w : Int) (w0 : 0 ≤ w) (w1 : w < 65536) : AWP Tryd.prog 48 (tailN 3 B16) (decXQ w) [(4, .ptr 0 0), (5, .int .i64 0), (6, .int .i64 0), (7, .int .u64 w), (9, .sl tabE tabL [] .full)] [insO zeroI] := by
  have e : tailN 3 B16 = .seq (.seq (c1 (c1 (tailN 3 B16))) (.block 0 (.loop (cin (cin (c2 (c1 (tailN 3 B16)))))))) (tailN 4 B16) := by kernel_rfl
  rw [e]
  have hlen := rowsL_len
  have hw : IntKind.wrap IntKind.u16 w = w := by rw [wrap_u16]; omega
  refine AWP_seq (AWP_seq (AWP_run (cx := cx16) rfl rfl cx16_ok (s := (.normal, (decXSt w ⟨0, Nat.zero_le _, rfl⟩).1, [insO zeroI])) (by kernel_rfl) ?_))
  refine AWP_block ?_
  refine AWP_rounds (cx := cx16) (P := Tryd.prog) (n := 48) rfl rfl cx16_ok (decXSt w) (fun i => 33 - i.1) ?_ ⟨0, Nat.zero_le _, rfl⟩
  rintro ⟨i, hi, hnone⟩
  refine Tree.all_run_eq (decXRound_eq tabL w i) ?_
  unfold decXRound
  rw [tabL_len]
  refine ⟨fun hlt => ?_, fun hge => ?_⟩
  · have hlt : i < rowsL.length := Int.ofNat_lt.1 (of_decide_eq_true hlt)
    have hm : rowsL.getD i zeroR ∈ rowsL := getD_mem hlt
    have hy : tabAt tabL ((i : Int).toNat) = tabs (rowsL.getD i zeroR) := tabAt_eq hlt
    obtain ⟨o1, o2⟩ := row_names hm
    have hI : decXI tabL w (i : Int) = rdI (rowsL.getD i zeroR) w := by unfold decXI; rw [hw, hy, tabs_name hm, o1]
    have hn : (rdI (rowsL.getD i zeroR) w).1 = (rowsL.getD i zeroR).1 := rdI_name _ _
    have step : V.int .i64 (IntKind.wrap .i64 ((i : Int) + 1)) = V.int .i64 ((i + 1 : Nat) : Int) := by
      rw [wrap_i64 (by omega) (by omega)]
      rfl
    rw [hy, hI]
    have hE : encE (rdI (rowsL.getD i zeroR) w) = faultyF (rowsL.getD i zeroR) (rdI (rowsL.getD i zeroR) w) := by
      unfold encE
      rw [hn, o1, o2]
      rfl
    refine all_t (inside_of (Int.natCast_nonneg i) (Int.ofNat_lt.2 hlt)) (all_t (isTabB_of hm) (all_t (by rw [hw]; simp only [Bool.and_eq_true, decide_eq_true_eq]; exact ⟨w0, w1⟩) ?_))
    have next : matchX w (rowsL.getD i zeroR) = false → (rowsL.take (i + 1)).find? (matchX w) = none := fun hp => take_none hlt hnone hp
    refine ⟨fun h1 => all_t (by rw [hn]; exact o2) ?_, fun h1 => ?_⟩
    · rw [hE] at h1
      have hwd := wdX_eq hm (eq_of_beq h1)
      rw [hn, o1, hw, hwd]
      have hmx : matchX w (rowsL.getD i zeroR) = (encW (rowsL.getD i zeroR) (rdI (rowsL.getD i zeroR) w) == w) := by unfold matchX; rw [h1, Bool.true_and]
      refine ⟨fun h2 => ?_, fun h2 => ?_⟩
      · have hf : drowX w = some (rowsL.getD i zeroR) := take_some hlt hnone (by rw [hmx]; exact h2)
        obtain ⟨e1, e2⟩ := dec_found w0 w1 hf
        refine ⟨[], _, rfl, .inl rfl, ?_⟩
        show answerV _ _ _ _ = some _
        rw [e1, e2]
        kernel_rfl
      · exact ⟨[], _, rfl, ⟨i + 1, hlt, next (by rw [hmx]; exact h2)⟩, by show 33 - (i + 1) < 33 - i; omega, Fits.tle ⟨rfl, rfl, rfl, rfl, rfl, step, trivial⟩, rfl⟩
    · rw [hE] at h1
      have hmf : matchX w (rowsL.getD i zeroR) = false := by unfold matchX; rw [h1]; rfl
      exact ⟨[], _, rfl, ⟨i + 1, hlt, next hmf⟩, by show 33 - (i + 1) < 33 - i; omega, Fits.tle ⟨rfl, rfl, rfl, rfl, rfl, step, trivial⟩, rfl⟩
  · have hge : ¬ i < rowsL.length := fun h => of_decide_eq_false hge (Int.ofNat_lt.2 h)
    have hi' : i = rowsL.length := by omega
    refine ⟨[], _, rfl, ?_⟩
    show AWP _ _ _ _ _ _
    refine AWP.less (s := [(4, .ptr 0 0), (5, .int .i64 0), (6, .int .i64 0)]) (Fits.tle ⟨rfl, rfl, rfl, trivial⟩) ?_
    refine AWP_run (cx := cx16) rfl rfl cx16_ok decXEnd_eq ?_
    refine ⟨.inl rfl, ?_⟩
    have hf : drowX w = none := by unfold drowX; rw [← hnone, hi', List.take_length]
    obtain ⟨h1, h2⟩ := dec_none w0 w1 hf
    show answerV _ _ _ _ = some _
    rw [h1, h2]
    kernel_rfl

theorem decX_ok (l sp : List Int) (fl : Fl) (at_ : Int) (hl : l.length < 1000000000) (hb : Bytes l) :
    PCall Tryd.prog 16 [.sl (.int .u8) l sp fl, .int .i64 at_] (.tup [insV (dI l at_), .int .i64 (dN l at_), .int .i64 (dE l at_)]) := by
  refine pcall_of' (c := bodyOf Tryd.f16) (fn := Tryd.f16) (by kernel_rfl) (by kernel_rfl) (by kernel_rfl) (by kernel_rfl) ?_
  refine AWP_headE (cx := cx16) rfl rfl cx16_ok 3 (by kernel_rfl) (decXPre_eq l sp fl at_) ?_
  refine all_t (decide_eq_true (by omega)) ⟨fun he => ?_, fun he => ?_⟩
  · have key : dI l at_ = zeroI ∧ dN l at_ = 0 ∧ dE l at_ = uE l at_ := by
      unfold uE at he ⊢
      unfold dI dN dE
      cases ho : outOf l at_
      · rw [ho] at he
        cases hs : shortOf l at_
        · rw [hs] at he; cases he
        · exact ⟨rfl, rfl, rfl⟩
      · exact ⟨rfl, rfl, rfl⟩
    obtain ⟨a1, a2, a3⟩ := key
    refine ⟨.inl rfl, ?_⟩
    show answerV _ _ _ _ = some _
    rw [a1, a2, a3]
    kernel_rfl
  · have ho : outOf l at_ = false ∧ shortOf l at_ = false := by
      unfold uE at he
      cases ho : outOf l at_
      · rw [ho] at he
        cases hs : shortOf l at_
        · exact ⟨rfl, rfl⟩
        · rw [hs] at he; cases he
      · rw [ho] at he; cases he
    obtain ⟨ho, hs⟩ := ho
    have g1 : 0 ≤ at_ ∧ at_ ≤ l.length := by
      simp only [outOf, Bool.or_eq_false_iff, decide_eq_false_iff_not] at ho
      omega
    have g2 : at_ + 2 ≤ l.length := by
      simp only [shortOf, decide_eq_false_iff_not] at hs
      rw [wrap_i64 (by omega) (by omega)] at hs
      omega
    have hw := w2_sum hb g1.1 g2 hl
    obtain ⟨r0, r1⟩ := sum2_rng hb at_.toNat
    have hu : uV l at_ = sum2 l at_.toNat := by
      unfold uV
      rw [ho, hs]
      show numP (sub l at_.toNat (at_.toNat + 2)) = _
      rw [sub2 (by omega)]
      exact num2F_eq (bytes_getD hb _) (bytes_getD hb _)
    have a1 : dI l at_ = decI (sum2 l at_.toNat) := by unfold dI; rw [ho, hs, hw]; rfl
    have a2 : dN l at_ = cond (decOk (sum2 l at_.toNat)) 2 0 := by unfold dN; rw [ho, hs, hw]; rfl
    have a3 : dE l at_ = cond (decOk (sum2 l at_.toNat)) 0 22 := by unfold dE; rw [ho, hs, hw]; rfl
    show AWP _ _ _ _ _ _
    refine AWP.less (s := [(4, .ptr 0 0), (5, .int .i64 0), (6, .int .i64 0), (7, .int .u64 (sum2 l at_.toNat)), (9, .sl tabE tabL [] .full)]) (Fits.tle ⟨rfl, rfl, rfl, congrArg (V.int .u64) hu, rfl, trivial⟩) ?_
    rw [a1, a2, a3]
    exact decX_loop (sum2 l at_.toNat) r0 r1

def bytesB (l : List Int) : Bool := l.all fun b => decide (0 ≤ b) && decide (b < 256)
theorem bytesB_of {l : List Int} (h : Bytes l) : bytesB l = true := by
  unfold bytesB
  rw [List.all_eq_true]
  intro x hx
  have := h x hx
  simp [this.1, this.2]
theorem bytesB_to {l : List Int} (h : bytesB l = true) : Bytes l := by
  intro x hx
  have := List.all_eq_true.1 h x hx
  simpa using this
def decXS : Ab.Spec := fun args => match args with
  | [.sl (.int .u8) l _ _, .int .i64 at_] => .req (decide (l.length < 1000000000)) (.req (bytesB l) (.leaf (.tup [insV (dI l at_), .int .i64 (dN l at_), .int .i64 (dE l at_)])))
  | _ => .fail
theorem decXS_ok : Sound Tryd.prog 16 decXS := by
  intro args out h
  unfold decXS at h
  split at h
  rotate_left
  · cases h
  obtain ⟨h1, h⟩ := req_run h
  obtain ⟨h2, h⟩ := req_run h
  have h := leaf_out h
  subst h
  exact decX_ok _ _ _ _ (of_decide_eq_true h1) (bytesB_to h2)

end Go.Cmp
