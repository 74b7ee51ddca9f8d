/-
  The document's Decode. Conditions: none.
-/
import Derived.Test.YtffamklolgjjdaaAr31
namespace Go.Arm
open Go Go.Ab Go.Proofs Go.Wd

/-- The context of foundry/foundryref11.Decode. -/
noncomputable def cx16 : Cx := { P := Try.prog, n := 48, tab := [(31, uS), (19, tableS), (32, readXS), (26, checkS), (28, wordXS)], mtab := [], refs := [], keeps := [0, 1, 4, 5, 6, 7, 8, 9, 10, 11, 19, 26, 45] }
noncomputable abbrev B16 : Code := bodyOf Try.f16
def decXPre (l sp : List Int) (fl : Fl) (at_ : Int) : Tree St :=
  (.br (decide (List.length l < 1000000000)) (.br (uE l at_ != 0) (.leaf (.ret, [(0, (.sl (.int .u8) (l) (sp) fl)), (1, (.int .i64 at_)), (4, (.ptr 0 0)), (5, (.int .i64 0)), (6, (.int .i64 (uE l at_))), (7, (.int .u64 (uV l at_))), (8, (.int .i64 (uE l at_))), (19, (.bool true))], [(.cells [(.str []), (.int .i64 0), (.int .i64 0), (.int .i64 0), (.int .i64 0), (.int .i64 0)] 29)])) (.leaf (.normal, [(0, (.sl (.int .u8) (l) (sp) fl)), (1, (.int .i64 at_)), (4, (.ptr 0 0)), (5, (.int .i64 0)), (6, (.int .i64 0)), (7, (.int .u64 (uV l at_))), (8, (.int .i64 (uE l at_))), (9, (.sl (.prod [.str, (.int .u32), .str, (.int .u64), (.int .u64), (.int .i64), (.int .u8), (.int .u64), (.int .u64), (.int .i64), (.int .i64), (.int .i64)]) (rowsX) ([]) Fl.ro)), (19, (.bool false))], [(.cells [(.str []), (.int .i64 0), (.int .i64 0), (.int .i64 0), (.int .i64 0), (.int .i64 0)] 29)]))) .fail)

theorem decXPre_eq (l sp : List Int) (fl : Fl) (at_ : Int) : (dcode cx16 (headN 3 B16) (initT 0 [.sl (.int .u8) l sp fl, .int .i64 at_]) []).run = (decXPre l sp fl at_).run :=
  (show (dcode cx16 (headN 3 B16) (initT 0 [.sl (.int .u8) l sp fl, .int .i64 at_]) []).run = (decXPre l sp fl at_).out by kernel_rfl).trans (Tree.out_run _)

def decXEnd  : Tree St :=
  (.leaf (.ret, [(4, (.ptr 0 0)), (5, (.int .i64 0)), (6, (.int .i64 22))], [(.cells [(.str []), (.int .i64 0), (.int .i64 0), (.int .i64 0), (.int .i64 0), (.int .i64 0)] 29)]))

theorem decXEnd_eq  : (dcode cx16 (tailN 4 B16) [(4, .ptr 0 0), (5, .int .i64 0), (6, .int .i64 0)] [.cells [.str [], .int .i64 0, .int .i64 0, .int .i64 0, .int .i64 0, .int .i64 0] 29]).run = (decXEnd ).run :=
  (show (dcode cx16 (tailN 4 B16) [(4, .ptr 0 0), (5, .int .i64 0), (6, .int .i64 0)] [.cells [.str [], .int .i64 0, .int .i64 0, .int .i64 0, .int .i64 0, .int .i64 0] 29]).run = (decXEnd ).out by kernel_rfl).trans (Tree.out_run _)


abbrev rowXAt (l : List RowX) (i : Nat) : RowX := l.getD i zeroX
def decXI (l : List RowX) (w i : Int) : InsT := readX (IntKind.wrap IntKind.u32 w) (rowXAt l i.toNat)
def decXRound (l : List RowX) (w i : Int) : Tree St :=
  .br (decide (i < (l.length : Int))) (.br (inside i l.length) (.br (hasRow (rowXAt l i.toNat)) (.br (checkX (decXI l w i) == 0) (.br (fokX (decXI l w i).1) (.br (wordX (decXI l w i) == IntKind.wrap IntKind.u32 w)
    (.leaf (.ret, [(4, (.ptr 0 0)), (5, (.int .i64 4)), (6, (.int .i64 0)), (7, (.int .u64 w)), (9, .sl rowXE l [] .ro), (10, (.int .i64 i)), (11, (.ptr 1 0)), (26, (.bool true)), (45, (.bool true))], [insO (decXI l w i), insO (decXI l w i)]))
    (.leaf (.normal, [(4, (.ptr 0 0)), (5, (.int .i64 0)), (6, (.int .i64 0)), (7, (.int .u64 w)), (9, .sl rowXE l [] .ro), (10, (.int .i64 (IntKind.wrap IntKind.i64 (i + 1)))), (11, (.ptr 1 0)), (26, (.bool true)), (45, (.bool false))], [insO zeroI, insO (decXI l w i)]))) .fail)
    (.leaf (.normal, [(4, (.ptr 0 0)), (5, (.int .i64 0)), (6, (.int .i64 0)), (7, (.int .u64 w)), (9, .sl rowXE l [] .ro), (10, (.int .i64 (IntKind.wrap IntKind.i64 (i + 1)))), (11, (.ptr 1 0)), (26, (.bool true)), (45, (.bool false))], [insO zeroI, insO (decXI l w i)]))) .fail) .fail)
    (.leaf ((.exit 0), [(4, (.ptr 0 0)), (5, (.int .i64 0)), (6, (.int .i64 0)), (7, (.int .u64 w)), (9, .sl rowXE l [] .ro), (10, (.int .i64 i)), (26, (.bool false))], [insO zeroI]))
theorem decXRound_eq (l : List RowX) (w i : Int) : (dcode cx16 (cin (cin (c2 (c1 (tailN 3 B16))))) [(4, .ptr 0 0), (5, .int .i64 0), (6, .int .i64 0), (7, .int .u64 w), (9, .sl rowXE l [] .ro), (10, .int .i64 i)] [insO zeroI]).run = (decXRound l w i).run :=
  (show _ = (decXRound l w i).out by kernel_rfl).trans (Tree.out_run _)

theorem cxDX_ok : CxOk cx16 := cx1_ok (.cons uS_ok (.cons tableS_ok (.cons readXS_ok (.cons checkS_ok (ok1 wordXS_ok))))) (.nil _) rfl rfl

def decXSt (w : Int) (i : { i : Nat // i ≤ rowsX.length ∧ (rowsX.take i).find? (matchX w) = none }) : T × List O :=
  ([(4, .ptr 0 0), (5, .int .i64 0), (6, .int .i64 0), (7, .int .u64 w), (9, .sl rowXE rowsX [] .ro), (10, .int .i64 i.1)], [insO zeroI])

def decXQ (w : Int) (e : AEx) (t : T) (H : List O) : Prop :=
  (e = .ret ∨ e = .normal) ∧ answerV Try.prog Try.f16.results.toList H t = some (.tup [insV (decI w), .int .i64 (cond (decOk w) 4 0), .int .i64 (cond (decOk w) 0 22)])

theorem dec_found {w : Nat} (hw : w < 2 ^ 32) {r : RowX} (h : drowX w = some r) : decI w = readX w r ∧ decOk w = true := by
  have hm : r ∈ rowsX := List.mem_of_find?_eq_some h
  have hd := drow_eq hw
  rw [h] at hd
  refine ⟨?_, ?_⟩
  · unfold decI
    rw [hd]
    exact (read_row (row_xgood hm) hw).symm
  · unfold decOk
    rw [hd]
    rfl

theorem dec_none {w : Nat} (hw : w < 2 ^ 32) (h : drowX w = none) : decI w = zeroI ∧ decOk w = false := by
  have hd := drow_eq hw
  rw [h] at hd
  refine ⟨?_, ?_⟩
  · unfold decI
    rw [hd]
    rfl
  · unfold decOk
    rw [hd]
    rfl

set_option maxRecDepth 8000 in
theorem decX_loop (v : Nat) (hv : v < 2 ^ 32) : AWP Try.prog 48 (tailN 3 B16) (decXQ (v : Int)) [(4, .ptr 0 0), (5, .int .i64 0), (6, .int .i64 0), (7, .int .u64 (v : Int)), (9, .sl rowXE rowsX [] .ro)] [insO zeroI] := by
  have e : tailN 3 B16 = .seq (.seq (c1 (c1 (tailN 3 B16))) (.block 0 (.loop (cin (cin (c2 (c1 (tailN 3 B16)))))))) (tailN 4 B16) := by kernel_rfl
  rw [e]
  have hlen := rowsX_len
  have hw : IntKind.wrap IntKind.u32 (v : Int) = (v : Int) := by rw [wrap_u32]; omega
  refine AWP_seq (AWP_seq (AWP_run (cx := cx16) rfl rfl cxDX_ok (s := (.normal, (decXSt (v : Int) ⟨0, Nat.zero_le _, rfl⟩).1, [insO zeroI])) (by kernel_rfl) ?_))
  refine AWP_block ?_
  refine AWP_rounds (cx := cx16) (P := Try.prog) (n := 48) rfl rfl cxDX_ok (decXSt (v : Int)) (fun i => 54 - i.1) ?_ ⟨0, Nat.zero_le _, rfl⟩
  rintro ⟨i, hi, hnone⟩
  refine Tree.all_run_eq (decXRound_eq rowsX (v : Int) i) ?_
  unfold decXRound
  refine ⟨fun hlt => ?_, fun hge => ?_⟩
  · have hlt : i < rowsX.length := Int.ofNat_lt.1 (of_decide_eq_true hlt)
    have hm : rowXAt rowsX i ∈ rowsX := by
      unfold rowXAt
      rw [getD_lt hlt]
      exact List.getElem_mem hlt
    have G := row_xgood hm
    obtain ⟨o1, o2⟩ := row_own G.mem
    have hI : decXI rowsX (v : Int) (i : Int) = readX (v : Int) (rowXAt rowsX i) := by unfold decXI; rw [hw]; rfl
    have hfok : fokX (decXI rowsX (v : Int) (i : Int)).1 = true := by rw [hI, ← fok_eq]; exact o1
    have step : V.int .i64 (IntKind.wrap .i64 ((i : Int) + 1)) = V.int .i64 ((i + 1 : Nat) : Int) := by
      rw [wrap_i64 (by omega) (by omega)]
      rfl
    refine all_t (inside_of (Int.natCast_nonneg i) (Int.ofNat_lt.2 hlt)) (all_t (decide_eq_true hm) ?_)
    have next : matchX (v : Int) (rowXAt rowsX i) = false → (rowsX.take (i + 1)).find? (matchX (v : Int)) = none := fun hp => take_none hlt hnone hp
    have hmx : matchX (v : Int) (rowXAt rowsX i) = cond (checkX (decXI rowsX (v : Int) (i : Int)) == 0) (wordX (decXI rowsX (v : Int) (i : Int)) == IntKind.wrap IntKind.u32 (v : Int)) false := by unfold matchX; rw [hI, hw]
    refine ⟨fun h1 => all_t hfok ⟨fun h2 => ?_, fun h2 => ?_⟩, fun h1 => ?_⟩
    · have hf : drowX (v : Int) = some (rowXAt rowsX i) := take_some hlt hnone (by rw [hmx, h1, cond_true]; exact h2)
      obtain ⟨e1, e2⟩ := dec_found hv hf
      refine ⟨[], _, rfl, .inl rfl, ?_⟩
      show answerV _ _ _ _ = some _
      rw [e1, e2, hI]
      kernel_rfl
    · have hmf : matchX (v : Int) (rowXAt rowsX i) = false := by rw [hmx, h1, cond_true]; exact h2
      exact ⟨[], _, rfl, ⟨i + 1, hlt, next hmf⟩, by show 54 - (i + 1) < 54 - i; omega, Fits.tle ⟨rfl, rfl, rfl, rfl, rfl, step, trivial⟩, rfl⟩
    · have hmf : matchX (v : Int) (rowXAt rowsX i) = false := by rw [hmx, h1]; rfl
      exact ⟨[], _, rfl, ⟨i + 1, hlt, next hmf⟩, by show 54 - (i + 1) < 54 - i; omega, Fits.tle ⟨rfl, rfl, rfl, rfl, rfl, step, trivial⟩, rfl⟩
  · have hge : ¬ i < rowsX.length := fun h => of_decide_eq_false hge (Int.ofNat_lt.2 h)
    have hi' : i = rowsX.length := by omega
    refine ⟨[], _, rfl, ?_⟩
    show AWP _ _ _ _ _ _
    refine AWP.less (s := [(4, .ptr 0 0), (5, .int .i64 0), (6, .int .i64 0)]) (Fits.tle ⟨rfl, rfl, rfl, trivial⟩) ?_
    refine AWP_run (cx := cx16) rfl rfl cxDX_ok decXEnd_eq ?_
    refine ⟨.inl rfl, ?_⟩
    have hf : drowX (v : Int) = none := by unfold drowX; rw [← hnone, hi', List.take_length]
    obtain ⟨h1, h2⟩ := dec_none hv hf
    show answerV _ _ _ _ = some _
    rw [h1, h2]
    kernel_rfl

end Go.Arm
