/-
  Decode of arm. Conditions: none.
-/
import Derived.Test.YtmbbnhcbphkniaaGreatDoorPk25
import Derived.Test.YtmbbnhcbphkniaaGreatDoorPk14
set_option linter.unusedVariables false
set_option linter.unusedSimpArgs false
namespace Go.Rk
open Go Go.Ab Go.Proofs Go.Ra Go.Wd
noncomputable def cx76 : Cx := { P := Tryz.prog, n := 100, tab := [(107, rowsS), (121, getS), (50, faultyS), (120, bitsS)], mtab := [], refs := [], keeps := [0, 1, 4, 5, 6, 7, 9, 10, 11, 21, 57, 58, 59, 60, 96] }
def readF (w : Int) (r : RowT) : InsT := (r.1, getF r.2.2.1 w, getF r.2.2.2.1 w, getF r.2.2.2.2.1 w, getF r.2.2.2.2.2.1 w, getF r.2.2.2.2.2.2.1 w)
def dMatch (w : Int) (r : RowT) : Bool := cond (faultyF r (readF w r) == 0) (bitsF r (readF w r) == w) false
def drow (w : Int) : Option RowT := rowsL.find? (dMatch w)
def zeroI : InsT := ([], 0, 0, 0, 0, 0)
def decI (w : Int) : InsT := match drow w with
  | some r => readF w r
  | none => zeroI
def decOk (w : Int) : Bool := (drow w).isSome
theorem cxDec_ok : CxOk cx76 := cx1_ok (.cons rowsS_ok (.cons getS_ok (.cons faultyS_ok (.cons bitsS_ok (.nil _))))) (.nil _) rfl rfl
abbrev insO (i : InsT) : O := .cells (insL i) 35
def dRound (l : List RowT) (w i : Int) : Tree St :=
  .br (decide (i < (l.length : Nat))) (.br (inside i l.length) (.br (numOk (rowAt l i.toNat).2.2.1) (.br (numOk (rowAt l i.toNat).2.2.2.1) (.br (numOk (rowAt l i.toNat).2.2.2.2.1) (.br (numOk (rowAt l i.toNat).2.2.2.2.2.1) (.br (numOk (rowAt l i.toNat).2.2.2.2.2.2.1)
    (.br (byOk (rowAt l i.toNat).2.2.2.2.2.2.1) (.br (faultyF (rowAt l i.toNat) (readF w (rowAt l i.toNat)) == 0)
      (.br (rowOk (rowAt l i.toNat)) (.br (bitsF (rowAt l i.toNat) (readF w (rowAt l i.toNat)) == w)
        (.leaf (.ret, [(4, .ptr 0 0), (5, .int .i64 4), (6, .int .i64 0), (7, .int .u32 w), (9, .ptr 1 0), (10, .ptr 2 0), (57, .sl rowE l [] .ro), (58, .int .i64 (l.length : Nat)), (59, .int .i64 i), (60, .bool true), (96, .bool true)],
          [insO (readF w (rowAt l i.toNat)), .cells (rowL (rowAt l i.toNat)) 105, insO (readF w (rowAt l i.toNat))]))
        (.leaf (.normal, [(4, .ptr 0 0), (5, .int .i64 0), (6, .int .i64 0), (7, .int .u32 w), (9, .ptr 1 0), (10, .ptr 2 0), (57, .sl rowE l [] .ro), (58, .int .i64 (l.length : Nat)), (59, .int .i64 (IntKind.wrap .i64 (i + 1))), (60, .bool true), (96, .bool false)],
          [insO zeroI, .cells (rowL (rowAt l i.toNat)) 105, insO (readF w (rowAt l i.toNat))]))) .fail)
      (.leaf (.normal, [(4, .ptr 0 0), (5, .int .i64 0), (6, .int .i64 0), (7, .int .u32 w), (9, .ptr 1 0), (10, .ptr 2 0), (57, .sl rowE l [] .ro), (58, .int .i64 (l.length : Nat)), (59, .int .i64 (IntKind.wrap .i64 (i + 1))), (60, .bool true), (96, .bool false)],
          [insO zeroI, .cells (rowL (rowAt l i.toNat)) 105, insO (readF w (rowAt l i.toNat))]))) .fail) .fail) .fail) .fail) .fail) .fail) .fail)
    (.leaf (.exit 1, [(4, .ptr 0 0), (5, .int .i64 0), (6, .int .i64 0), (7, .int .u32 w), (57, .sl rowE l [] .ro), (58, .int .i64 (l.length : Nat)), (59, .int .i64 i), (60, .bool false)], [insO zeroI]))
theorem dRound_eq (l : List RowT) (w i : Int) : (dcode cx76 (cin (cin (c2 (c1 (c2 (c2 (c2 (bodyOf Tryz.f76)))))))) [(4, .ptr 0 0), (5, .int .i64 0), (6, .int .i64 0), (7, .int .u32 w), (57, .sl rowE l [] .ro), (58, .int .i64 l.length), (59, .int .i64 i)] [insO zeroI]).run = (dRound l w i).run :=
  (show (dcode cx76 (cin (cin (c2 (c1 (c2 (c2 (c2 (bodyOf Tryz.f76)))))))) [(4, .ptr 0 0), (5, .int .i64 0), (6, .int .i64 0), (7, .int .u32 w), (57, .sl rowE l [] .ro), (58, .int .i64 l.length), (59, .int .i64 i)] [insO zeroI]).run = (dRound l w i).out by kernel_rfl).trans (Tree.out_run _)
def decSt (w : Int) (i : { i : Nat // i ≤ rowsL.length ∧ (rowsL.take i).find? (dMatch w) = none }) : T × List O :=
  ([(4, .ptr 0 0), (5, .int .i64 0), (6, .int .i64 0), (7, .int .u32 w), (57, .sl rowE rowsL [] .ro), (58, .int .i64 rowsL.length), (59, .int .i64 i.1)], [insO zeroI])
def decQ (w : Int) (e : AEx) (t : T) (H : List O) : Prop :=
  (e = .ret ∨ e = .normal) ∧ answerV Tryz.prog Tryz.f76.results.toList H t = some (.tup [insV (decI w), .int .i64 (cond (decOk w) 4 0), .int .i64 (cond (decOk w) 0 22)])
theorem decode_loop (w : Int) : AWP Tryz.prog 100 (c2 (c2 (c2 (bodyOf Tryz.f76)))) (decQ w) [(4, .ptr 0 0), (5, .int .i64 0), (6, .int .i64 0), (7, .int .u32 w)] [insO zeroI] := by
  have e : c2 (c2 (c2 (bodyOf Tryz.f76))) = .seq (.seq (c1 (c1 (c2 (c2 (c2 (bodyOf Tryz.f76)))))) (.block 1 (.loop (cin (cin (c2 (c1 (c2 (c2 (c2 (bodyOf Tryz.f76))))))))))) (c2 (c2 (c2 (c2 (bodyOf Tryz.f76))))) := by kernel_rfl
  rw [e]
  have hlen := rowsL_len
  refine AWP_seq (AWP_seq (AWP_run (cx := cx76) rfl rfl cxDec_ok (s := (.normal, [(4, .ptr 0 0), (5, .int .i64 0), (6, .int .i64 0), (7, .int .u32 w), (57, .sl rowE rowsL [] .ro), (58, .int .i64 54), (59, .int .i64 0)], [insO zeroI])) (by kernel_rfl) ?_))
  refine AWP_block ?_
  refine AWP.less (s := (decSt w ⟨0, Nat.zero_le _, rfl⟩).1) (Fits.tle ⟨rfl, rfl, rfl, rfl, rfl, by kernel_rfl, rfl, trivial⟩) ?_
  refine AWP_rounds (cx := cx76) (P := Tryz.prog) (n := 100) rfl rfl cxDec_ok (decSt w) (fun i => 54 - i.1) ?_ ⟨0, Nat.zero_le _, rfl⟩
  rintro ⟨i, hi, hnone⟩
  refine Tree.all_run_eq (dRound_eq rowsL w i) ?_
  have next : ∀ (hlt : i < rowsL.length) (hp : dMatch w (rowsL.getD i zeroR) = false), (rowsL.take (i + 1)).find? (dMatch w) = none := fun hlt hp => take_none hlt hnone hp
  have hfine : i < rowsL.length → rowFine (rowAt rowsL i) = true := fun hlt => by
    refine List.all_eq_true.1 rows_fine _ ?_
    show rowsL.getD i zeroR ∈ rowsL
    rw [getD_lt hlt]
    exact List.getElem_mem hlt
  have step : V.int .i64 (IntKind.wrap .i64 ((i : Int) + 1)) = V.int .i64 ((i + 1 : Nat) : Int) := by
    rw [wrap_i64 (by omega) (by omega)]
    rfl
  refine ⟨fun hlt => ⟨fun hin => ?_, fun hin => ?_⟩, fun hge => ?_⟩
  · have hlt : i < rowsL.length := Int.ofNat_lt.1 (of_decide_eq_true hlt)
    obtain ⟨g0, g⟩ := Bool.and_eq_true_iff.1 (hfine hlt)
    have g' := g
    simp only [rowOk, Bool.and_eq_true] at g
    obtain ⟨g1, g2, g3, g4, g5⟩ := g
    refine all_t g1 (all_t g2 (all_t g3 (all_t g4 (all_t g5 (all_t g0 ⟨fun hm => all_t g' ⟨fun hw => ?_, fun hw => ?_⟩, fun hm => ?_⟩)))))
    · have hp : dMatch w (rowAt rowsL i) = true := by
        unfold dMatch
        rw [show (faultyF (rowAt rowsL i) (readF w (rowAt rowsL i)) == 0) = true from hm]
        exact hw
      have hf : drow w = some (rowAt rowsL i) := take_some hlt hnone hp
      refine ⟨[], _, rfl, ?_⟩
      refine ⟨.inl rfl, ?_⟩
      have h1 : decI w = readF w (rowAt rowsL i) := by unfold decI; rw [hf]
      have h2 : decOk w = true := by unfold decOk; rw [hf]; rfl
      show answerV _ _ _ _ = some _
      rw [h1, h2]
      kernel_rfl
    · have hp : dMatch w (rowAt rowsL i) = false := by
        unfold dMatch
        rw [show (faultyF (rowAt rowsL i) (readF w (rowAt rowsL i)) == 0) = true from hm]
        exact hw
      exact ⟨[], _, rfl, ⟨i + 1, hlt, next hlt hp⟩, by show 54 - (i + 1) < 54 - i; omega, Fits.tle ⟨rfl, rfl, rfl, rfl, rfl, rfl, step, trivial⟩, rfl⟩
    · have hp : dMatch w (rowAt rowsL i) = false := by
        unfold dMatch
        rw [show (faultyF (rowAt rowsL i) (readF w (rowAt rowsL i)) == 0) = false from hm]
        rfl
      exact ⟨[], _, rfl, ⟨i + 1, hlt, next hlt hp⟩, by show 54 - (i + 1) < 54 - i; omega, Fits.tle ⟨rfl, rfl, rfl, rfl, rfl, rfl, step, trivial⟩, rfl⟩
  · exfalso
    have hlt : i < rowsL.length := Int.ofNat_lt.1 (of_decide_eq_true hlt)
    exact Bool.noConfusion ((inside_of (Int.natCast_nonneg i) (Int.ofNat_lt.2 hlt)).symm.trans hin)
  · have hge : ¬ i < rowsL.length := fun h => of_decide_eq_false hge (Int.ofNat_lt.2 h)
    have hi' : i = rowsL.length := by omega
    refine ⟨[], _, rfl, ?_⟩
    show AWP _ _ _ _ _ _
    refine AWP.less (s := [(4, .ptr 0 0), (5, .int .i64 0), (6, .int .i64 0), (7, .int .u32 w)]) (Fits.tle ⟨rfl, rfl, rfl, rfl, trivial⟩) ?_
    refine AWP_run (cx := cx76) rfl rfl cxDec_ok (s := (.ret, [(4, .ptr 0 0), (5, .int .i64 0), (6, .int .i64 22), (7, .int .u32 w)], [insO zeroI])) (by kernel_rfl) ?_
    refine ⟨.inl rfl, ?_⟩
    have hf : drow w = none := by unfold drow; rw [← hnone, hi', List.take_length]
    have h1 : decI w = zeroI := by unfold decI; rw [hf]
    have h2 : decOk w = false := by unfold decOk; rw [hf]; rfl
    show answerV _ _ _ _ = some _
    rw [h1, h2]
    kernel_rfl
def decodeB (l sp : List Int) (fl : Fl) (at_ : Int) : Tree St :=
  (.br (decide (at_ < 0)) (.leaf (.ret, [(0, (.sl (.int .u8) (l) (sp) fl)), (1, (.int .i64 at_)), (4, (.ptr 0 0)), (5, (.int .i64 0)), (6, (.int .i64 5)), (11, (.bool true))], [(.cells [(.str []), (.int .i64 0), (.int .i64 0), (.int .i64 0), (.int .i64 0), (.int .i64 0)] 35)])) (.br (decide (↑(List.length l) < at_)) (.leaf (.ret, [(0, (.sl (.int .u8) (l) (sp) fl)), (1, (.int .i64 at_)), (4, (.ptr 0 0)), (5, (.int .i64 0)), (6, (.int .i64 5)), (11, (.bool true))], [(.cells [(.str []), (.int .i64 0), (.int .i64 0), (.int .i64 0), (.int .i64 0), (.int .i64 0)] 35)])) (.br (decide (IntKind.wrap IntKind.i64 (↑(List.length l) - at_) < 4)) (.leaf (.ret, [(0, (.sl (.int .u8) (l) (sp) fl)), (1, (.int .i64 at_)), (4, (.ptr 0 0)), (5, (.int .i64 0)), (6, (.int .i64 2)), (11, (.bool false)), (21, (.bool true))], [(.cells [(.str []), (.int .i64 0), (.int .i64 0), (.int .i64 0), (.int .i64 0), (.int .i64 0)] 35)])) (.leaf (.normal, [(0, (.sl (.int .u8) (l) (sp) fl)), (1, (.int .i64 at_)), (4, (.ptr 0 0)), (5, (.int .i64 0)), (6, (.int .i64 0)), (11, (.bool false)), (21, (.bool false))], [(.cells [(.str (Prod.fst Go.Rk.zeroI)), (.int .i64 (Prod.fst (Prod.snd Go.Rk.zeroI))), (.int .i64 (Prod.fst (Prod.snd (Prod.snd Go.Rk.zeroI)))), (.int .i64 (Prod.fst (Prod.snd (Prod.snd (Prod.snd Go.Rk.zeroI))))), (.int .i64 (Prod.fst (Prod.snd (Prod.snd (Prod.snd (Prod.snd Go.Rk.zeroI)))))), (.int .i64 (Prod.snd (Prod.snd (Prod.snd (Prod.snd (Prod.snd Go.Rk.zeroI))))))] 35)])))))
theorem decodeB_eq (l sp : List Int) (fl : Fl) (at_ : Int) : (dcode cx76 (c1 (c2 (bodyOf Tryz.f76))) [(0, .sl (.int .u8) l sp fl), (1, .int .i64 at_), (4, .ptr 0 0), (5, .int .i64 0), (6, .int .i64 0)] [insO zeroI]).run = (decodeB l sp fl at_).run :=
  (show (dcode cx76 (c1 (c2 (bodyOf Tryz.f76))) [(0, .sl (.int .u8) l sp fl), (1, .int .i64 at_), (4, .ptr 0 0), (5, .int .i64 0), (6, .int .i64 0)] [insO zeroI]).run = (decodeB l sp fl at_).out by kernel_rfl).trans (Tree.out_run _)
def decodeW (l sp : List Int) (fl : Fl) (at_ : Int) : Tree St :=
  (.br (inside at_ (List.length l)) (.br (inside (IntKind.wrap IntKind.i64 (at_ + 1)) (List.length l)) (.br (inside (IntKind.wrap IntKind.i64 (at_ + 2)) (List.length l)) (.br (inside (IntKind.wrap IntKind.i64 (at_ + 3)) (List.length l)) (.leaf (.normal, [(0, (.sl (.int .u8) (l) (sp) fl)), (1, (.int .i64 at_)), (4, (.ptr 0 0)), (5, (.int .i64 0)), (6, (.int .i64 0)), (7, (.int .u32 (IntKind.wrap IntKind.u32 ↑(BitVec.toNat (BitVec.ofInt 32 (IntKind.wrap IntKind.u32 ↑(BitVec.toNat (BitVec.ofInt 32 (IntKind.wrap IntKind.u32 ↑(BitVec.toNat (BitVec.ofInt 32 (IntKind.wrap IntKind.u32 (tI (List.getD l (Int.toNat at_) (tI (EC.dflt (EC.int IntKind.u8)))))) ||| BitVec.ofInt 32 (IntKind.wrap IntKind.u32 (IntKind.wrap IntKind.u32 (tI (List.getD l (Int.toNat (IntKind.wrap IntKind.i64 (at_ + 1))) (tI (EC.dflt (EC.int IntKind.u8))))) * 2 ^ 8))))) ||| BitVec.ofInt 32 (IntKind.wrap IntKind.u32 (IntKind.wrap IntKind.u32 (tI (List.getD l (Int.toNat (IntKind.wrap IntKind.i64 (at_ + 2))) (tI (EC.dflt (EC.int IntKind.u8))))) * 2 ^ 16))))) ||| BitVec.ofInt 32 (IntKind.wrap IntKind.u32 (IntKind.wrap IntKind.u32 (tI (List.getD l (Int.toNat (IntKind.wrap IntKind.i64 (at_ + 3))) (tI (EC.dflt (EC.int IntKind.u8))))) * 2 ^ 24)))))))], [(.cells [(.str (Prod.fst Go.Rk.zeroI)), (.int .i64 (Prod.fst (Prod.snd Go.Rk.zeroI))), (.int .i64 (Prod.fst (Prod.snd (Prod.snd Go.Rk.zeroI)))), (.int .i64 (Prod.fst (Prod.snd (Prod.snd (Prod.snd Go.Rk.zeroI))))), (.int .i64 (Prod.fst (Prod.snd (Prod.snd (Prod.snd (Prod.snd Go.Rk.zeroI)))))), (.int .i64 (Prod.snd (Prod.snd (Prod.snd (Prod.snd (Prod.snd Go.Rk.zeroI))))))] 35)])) .fail) .fail) .fail) .fail)
theorem decodeW_eq (l sp : List Int) (fl : Fl) (at_ : Int) : (dcode cx76 (c1 (c2 (c2 (bodyOf Tryz.f76)))) [(0, .sl (.int .u8) l sp fl), (1, .int .i64 at_), (4, .ptr 0 0), (5, .int .i64 0), (6, .int .i64 0)] [insO zeroI]).run = (decodeW l sp fl at_).run :=
  (show (dcode cx76 (c1 (c2 (c2 (bodyOf Tryz.f76)))) [(0, .sl (.int .u8) l sp fl), (1, .int .i64 at_), (4, .ptr 0 0), (5, .int .i64 0), (6, .int .i64 0)] [insO zeroI]).run = (decodeW l sp fl at_).out by kernel_rfl).trans (Tree.out_run _)
def outOf (l : List Int) (at_ : Int) : Bool := decide (at_ < 0) || decide ((l.length : Int) < at_)
def shortOf (l : List Int) (at_ : Int) : Bool := decide (IntKind.wrap .i64 ((l.length : Int) - at_) < 4)
def dI (l : List Int) (at_ : Int) : InsT := cond (outOf l at_ || shortOf l at_) zeroI (decI (w4 l at_))
def dN (l : List Int) (at_ : Int) : Int := cond (outOf l at_ || shortOf l at_) 0 (cond (decOk (w4 l at_)) 4 0)
def dE (l : List Int) (at_ : Int) : Int := cond (outOf l at_) 5 (cond (shortOf l at_) 2 (cond (decOk (w4 l at_)) 0 22))
set_option maxRecDepth 8000 in
theorem decode_ok (l sp : List Int) (fl : Fl) (at_ : Int) (hl : l.length < 1000000000) :
    PCall Tryz.prog 76 [.sl (.int .u8) l sp fl, .int .i64 at_] (.tup [insV (dI l at_), .int .i64 (dN l at_), .int .i64 (dE l at_)]) := by
  refine pcall_of' (c := bodyOf Tryz.f76) (fn := Tryz.f76) (by kernel_rfl) (by kernel_rfl) (by kernel_rfl) (by kernel_rfl) ?_
  have e : bodyOf Tryz.f76 = .seq (c1 (bodyOf Tryz.f76)) (.seq (c1 (c2 (bodyOf Tryz.f76))) (.seq (c1 (c2 (c2 (bodyOf Tryz.f76)))) (c2 (c2 (c2 (bodyOf Tryz.f76)))))) := by kernel_rfl
  rw [e]
  generalize hQ : (fun e t H => (e = AEx.ret ∨ e = .normal) ∧ answerV Tryz.prog Tryz.f76.results.toList H t = some (.tup [insV (dI l at_), .int .i64 (dN l at_), .int .i64 (dE l at_)])) = Q
  refine AWP_seq (AWP_run (cx := cx76) rfl rfl cxDec_ok (s := (.normal, [(0, .sl (.int .u8) l sp fl), (1, .int .i64 at_), (4, .ptr 0 0), (5, .int .i64 0), (6, .int .i64 0)], [insO zeroI])) (by kernel_rfl) ?_)
  refine AWP_seq (AWP_code (cx := cx76) rfl rfl cxDec_ok _ _ _ _ (Tree.all_run_eq (decodeB_eq l sp fl at_) ?_))
  have out1 : outOf l at_ = true → dI l at_ = zeroI ∧ dN l at_ = 0 ∧ dE l at_ = 5 := fun h => by simp [dI, dN, dE, h]
  refine ⟨fun h1 => ?_, fun h1 => ⟨fun h2 => ?_, fun h2 => ⟨fun h3 => ?_, fun h3 => ?_⟩⟩⟩
  · obtain ⟨a1, a2, a3⟩ := out1 (by unfold outOf; rw [h1]; rfl)
    subst hQ
    refine ⟨.inl rfl, ?_⟩
    show answerV _ _ _ _ = some _
    rw [a1, a2, a3]
    kernel_rfl
  · obtain ⟨a1, a2, a3⟩ := out1 (by unfold outOf; rw [h1, h2]; rfl)
    subst hQ
    refine ⟨.inl rfl, ?_⟩
    show answerV _ _ _ _ = some _
    rw [a1, a2, a3]
    kernel_rfl
  · have ho : outOf l at_ = false := by unfold outOf; rw [h1, h2]; rfl
    have hs : shortOf l at_ = true := h3
    have a1 : dI l at_ = zeroI := by simp [dI, ho, hs]
    have a2 : dN l at_ = 0 := by simp [dN, ho, hs]
    have a3 : dE l at_ = 2 := by simp [dE, ho, hs]
    subst hQ
    refine ⟨.inl rfl, ?_⟩
    show answerV _ _ _ _ = some _
    rw [a1, a2, a3]
    kernel_rfl
  · have ho : outOf l at_ = false := by unfold outOf; rw [h1, h2]; rfl
    have hs : shortOf l at_ = false := h3
    have a1 : dI l at_ = decI (w4 l at_) := by simp [dI, ho, hs]
    have a2 : dN l at_ = cond (decOk (w4 l at_)) 4 0 := by simp [dN, ho, hs]
    have a3 : dE l at_ = cond (decOk (w4 l at_)) 0 22 := by simp [dE, ho, hs]
    have g1 : ¬ at_ < 0 := of_decide_eq_false h1
    have g2 : ¬ (l.length : Int) < at_ := of_decide_eq_false h2
    have g3 : ¬ IntKind.wrap .i64 ((l.length : Int) - at_) < 4 := of_decide_eq_false h3
    rw [wrap_i64 (by omega) (by omega)] at g3
    show AWP _ _ _ _ _ _
    refine AWP.less (s := [(0, .sl (.int .u8) l sp fl), (1, .int .i64 at_), (4, .ptr 0 0), (5, .int .i64 0), (6, .int .i64 0)]) (Fits.tle ⟨rfl, rfl, rfl, rfl, rfl, trivial⟩) ?_
    refine AWP_seq (AWP_code (cx := cx76) rfl rfl cxDec_ok _ _ _ _ (Tree.all_run_eq (decodeW_eq l sp fl at_) ?_))
    have i0 : inside at_ l.length = true := inside_of (by omega) (by omega)
    have i1 : inside (IntKind.wrap .i64 (at_ + 1)) l.length = true := by rw [wrap_i64 (by omega) (by omega)]; exact inside_of (by omega) (by omega)
    have i2 : inside (IntKind.wrap .i64 (at_ + 2)) l.length = true := by rw [wrap_i64 (by omega) (by omega)]; exact inside_of (by omega) (by omega)
    have i3 : inside (IntKind.wrap .i64 (at_ + 3)) l.length = true := by rw [wrap_i64 (by omega) (by omega)]; exact inside_of (by omega) (by omega)
    refine ⟨fun _ => ⟨fun _ => ⟨fun _ => ⟨fun _ => ?_, fun h => Bool.noConfusion (i3.symm.trans h)⟩, fun h => Bool.noConfusion (i2.symm.trans h)⟩, fun h => Bool.noConfusion (i1.symm.trans h)⟩, fun h => Bool.noConfusion (i0.symm.trans h)⟩
    show AWP _ _ _ _ _ _
    refine AWP.less (s := [(4, .ptr 0 0), (5, .int .i64 0), (6, .int .i64 0), (7, .int .u32 (w4 l at_))]) (Fits.tle ⟨rfl, rfl, rfl, by kernel_rfl, trivial⟩) ?_
    subst hQ
    rw [a1, a2, a3]
    exact decode_loop (w4 l at_)
def decodeS : Ab.Spec := fun args => match args with
  | [.sl (.int .u8) l _ _, .int .i64 at_] => .req (decide (l.length < 1000000000)) (.leaf (.tup [insV (dI l at_), .int .i64 (dN l at_), .int .i64 (dE l at_)]))
  | _ => .fail
theorem decodeS_ok : Sound Tryz.prog 76 decodeS := by
  intro args out h
  unfold decodeS at h
  split at h
  rotate_left
  · cases h
  rename_i l sp fl at_
  obtain ⟨h1, h2⟩ := req_run h
  simp only [Tree.run, Option.some.injEq] at h2
  subst h2
  exact decode_ok l sp fl at_ (of_decide_eq_true h1)
end Go.Rk

namespace Go.Rk
open Go Go.Ab Go.Proofs Go.Ra Go.Wd
def eL : List Nat := [2, 4, 8, 16, 32, 64]
theorem ofE_mem (m : Nat) : ofE m ∈ eL := by
  unfold ofE eL
  cases pE m 2 <;> cases pE m 4 <;> cases pE m 8 <;> cases pE m 16 <;> cases pE m 32 <;> simp
theorem ofE_rep {m : Nat} (hm : m < 2 ^ 64) : spreadN 7 (ofX m) (ofE m) = m := by
  have key : ofE m = 64 ∨ pE m (ofE m) = true := by
    unfold ofE
    cases h2 : pE m 2
    rotate_left
    · exact .inr h2
    cases h4 : pE m 4
    rotate_left
    · exact .inr h4
    cases h8 : pE m 8
    rotate_left
    · exact .inr h8
    cases h16 : pE m 16
    rotate_left
    · exact .inr h16
    cases h32 : pE m 32
    rotate_left
    · exact .inr h32
    exact .inl rfl
  rcases key with h | h
  · unfold ofX
    rw [h]
    show m &&& (2 ^ 64 - 1) = m
    rw [Nat.and_two_pow_sub_one_eq_mod, Nat.mod_eq_of_lt hm]
  · exact Nat.eq_of_beq_eq_true h
theorem dull_all : eL.all (fun e => (List.range 128).all fun c => (List.range e).all fun r => (Nat.blt 0 c && Nat.blt c e) || (Nat.beq (maskM e c r) 0 || Nat.beq (maskM e c r) 18446744073709551615)) = true := by kernel_rfl
theorem of_mask {m r : Nat} (hm : m < 2 ^ 64) (h : ofFind m = some r) : 0 < ofC m ∧ ofC m < ofE m ∧ r < ofE m ∧ maskM (ofE m) (ofC m) r = m := by
  unfold ofFind at h
  cases h0 : (Nat.beq m 0 || Nat.beq m 18446744073709551615)
  rotate_left
  · rw [h0] at h; cases h
  rw [h0, cond_false, List.find?_range_eq_some] at h
  obtain ⟨h1, h2, _⟩ := h
  have h2 := List.mem_range.1 h2
  have hmask : maskM (ofE m) (ofC m) r = m := by
    unfold maskM
    rw [Nat.eq_of_beq_eq_true h1]
    exact ofE_rep hm
  have hd := List.all_eq_true.1 (List.all_eq_true.1 (List.all_eq_true.1 dull_all _ (ofE_mem m)) (ofC m) (List.mem_range.2 (cntN_lt _))) r (List.mem_range.2 h2)
  rw [hmask, h0, Bool.or_false] at hd
  obtain ⟨g1, g2⟩ := Bool.and_eq_true_iff.1 hd
  exact ⟨Nat.le_of_ble_eq_true g1, Nat.le_of_ble_eq_true g2, h2, hmask⟩
def nOf (e : Nat) : Nat := cond (Nat.beq e 64) 1 0
theorem back_all : allT (fun e c r => (atOkN (nOf e) r (imsI e c).toNat && Nat.beq (atVN (nOf e) r (imsI e c).toNat) (maskM e c r)) && (decide (0 ≤ imsI e c) && decide (imsI e c ≤ 63))) = true := by kernel_rfl
theorem of_back {m : Nat} (hm : m < 2 ^ 64) (h : ofOk m = true) :
    (0 ≤ ofVN m ∧ ofVN m ≤ 1) ∧ (0 ≤ ofVR m ∧ ofVR m ≤ 63) ∧ (0 ≤ ofVS m ∧ ofVS m ≤ 63) ∧ atV (ofVN m) (ofVR m) (ofVS m) = m := by
  have h' := h
  unfold ofOk at h
  obtain ⟨r, hr⟩ := Option.isSome_iff_exists.1 h
  obtain ⟨g1, g2, g3, g4⟩ := of_mask hm hr
  have hb := allT_spec back_all (ofE_mem m) g1 g2 g3
  simp only [Bool.and_eq_true, decide_eq_true_eq] at hb
  obtain ⟨⟨b1, b2⟩, b3, b4⟩ := hb
  have e64 := (ofE_ok m).2
  have eN : ofVN m = (nOf (ofE m) : Nat) := by
    unfold ofVN nOf
    rw [h', cond_true]
    cases Nat.beq (ofE m) 64 <;> rfl
  have eR : ofVR m = (r : Nat) := by unfold ofVR; rw [hr]; rfl
  have eS : ofVS m = imsI (ofE m) (ofC m) := by unfold ofVS; rw [h']; rfl
  have nle : nOf (ofE m) ≤ 1 := by unfold nOf; cases Nat.beq (ofE m) 64 <;> decide
  refine ⟨by rw [eN]; omega, by rw [eR]; omega, by rw [eS]; omega, ?_⟩
  rw [eN, eR, eS]
  unfold atV
  have hin : atIn (nOf (ofE m) : Nat) (r : Nat) (imsI (ofE m) (ofC m)) = true := by
    simp only [atIn, Bool.and_eq_true, decide_eq_true_eq]
    omega
  rw [hin, cond_true, Int.toNat_natCast, Int.toNat_natCast, Nat.eq_of_beq_eq_true b2, g4]
end Go.Rk

namespace Go.Rk
open Go Go.Ab Go.Proofs Go.Ra Go.Wd
def plainOk (f : NumT) : Bool :=
  (decide (0 ≤ f.1) && (decide (1 ≤ f.2.1) && (decide (f.2.1 ≤ 31) && (decide (f.1 + f.2.1 ≤ 32) && (f.2.2.2.1 == 1 || (f.2.2.2.1 == 2 || (f.2.2.2.1 == 4 || f.2.2.2.1 == 8))))))) &&
  ((decide (0 ≤ f.2.2.2.2.2) && decide (f.2.2.2.2.2 < 2147483648)) && (decide (-2147483648 ≤ f.2.2.2.2.1) && cond (decide (f.2.2.2.2.1 < 0))
    ((f.2.1 == 7 || (f.2.1 == 19 || f.2.1 == 26)) && (f.2.2.2.2.1 == -(2 ^ (f.2.1.toNat - 1) * f.2.2.2.1) && decide (f.2.2.2.2.2 ≤ (2 ^ (f.2.1.toNat - 1) - 1) * f.2.2.2.1)))
    (f.2.2.2.2.1 == 0 && decide (f.2.2.2.2.2 ≤ (2 ^ f.2.1.toNat - 1) * f.2.2.2.1))))
def zeroN : NumT := (0, 0, 0, 0, 0, 0)
def aparN : NumT := (0, 0, 2, 1, -1048576, 1048575)
def maskNm : NumT := (0, 0, 3, 0, 0, 0)
def numFine (f : NumT) : Bool := decide (f = zeroN) || (decide (f = aparN) || (decide (f = maskNm) || ((f.2.2.1 == 1) && plainOk f)))
def fMask (f : NumT) : Nat := cond (f.2.2.1 == 1) ((2 ^ f.2.1.toNat - 1) <<< f.1.toNat) (cond (f.2.2.1 == 2) ((3 <<< 29) ||| (524287 <<< 5)) (cond (f.2.2.1 == 3) (8191 <<< 10) 0))
structure Plain (f : NumT) (at_ bi : Nat) (by_ : Int) : Prop where
  kind : f.2.2.1 = 1
  eAt : f.1 = (at_ : Int)
  eBi : f.2.1 = (bi : Int)
  eBy : f.2.2.2.1 = by_
  bi1 : 1 ≤ bi
  bi31 : bi ≤ 31
  at32 : at_ + bi ≤ 32
  byC : by_ = 1 ∨ by_ = 2 ∨ by_ = 4 ∨ by_ = 8
  hi : f.2.2.2.2.2 < 2147483648
  hi0 : 0 ≤ f.2.2.2.2.2
  lo : -2147483648 ≤ f.2.2.2.2.1
  rng : (f.2.2.2.2.1 < 0 ∧ (bi = 7 ∨ bi = 19 ∨ bi = 26) ∧ f.2.2.2.2.1 = -(2 ^ (bi - 1) * by_) ∧ f.2.2.2.2.2 ≤ (2 ^ (bi - 1) - 1) * by_) ∨ (f.2.2.2.2.1 = 0 ∧ f.2.2.2.2.2 ≤ (2 ^ bi - 1) * by_)
theorem plain_of {f : NumT} (hk : f.2.2.1 = 1) (h : plainOk f = true) : Plain f f.1.toNat f.2.1.toNat f.2.2.2.1 := by
  simp only [plainOk, Bool.and_eq_true, decide_eq_true_eq, Bool.or_eq_true, beq_iff_eq] at h
  obtain ⟨⟨h1, h2, h3, h4, h5⟩, ⟨h60, h6⟩, h7, h8⟩ := h
  refine ⟨hk, by omega, by omega, rfl, by omega, by omega, by omega, h5, h6, h60, h7, ?_⟩
  cases hl : decide (f.2.2.2.2.1 < 0)
  · rw [hl] at h8
    simp only [cond_false, Bool.and_eq_true, beq_iff_eq, decide_eq_true_eq] at h8
    exact .inr h8
  · rw [hl] at h8
    simp only [cond_true, Bool.and_eq_true, Bool.or_eq_true, beq_iff_eq, decide_eq_true_eq] at h8
    obtain ⟨g1, g2, g3⟩ := h8
    exact .inl ⟨of_decide_eq_true hl, by omega, g2, g3⟩
theorem num_cases {f : NumT} (h : numFine f = true) : f = zeroN ∨ f = aparN ∨ f = maskNm ∨ Plain f f.1.toNat f.2.1.toNat f.2.2.2.1 := by
  simp only [numFine, Bool.or_eq_true, Bool.and_eq_true, decide_eq_true_eq, beq_iff_eq] at h
  rcases h with h | h | h | ⟨h1, h2⟩
  · exact .inl h
  · exact .inr (.inl h)
  · exact .inr (.inr (.inl h))
  · exact .inr (.inr (.inr (plain_of h1 h2)))
theorem wrap_i64_u32 (x : Int) : IntKind.wrap .u32 (IntKind.wrap .i64 x) = x % 4294967296 := by
  have h : IntKind.wrap .i64 x = if x % 18446744073709551616 ≥ 9223372036854775808 then x % 18446744073709551616 - 18446744073709551616 else x % 18446744073709551616 := by
    simp [IntKind.wrap, IntKind.bits, IntKind.signed]
  rw [wrap_u32, h]
  split <;> omega
theorem maskB_cast {bi : Nat} (h : bi ≤ 31) : maskB (bi : Int) = ((2 ^ bi - 1 : Nat) : Int) := by
  unfold maskB
  have hp : (2 : Nat) ^ bi < 2 ^ 32 := Nat.pow_lt_pow_right (by omega) (by omega)
  have hp0 : (0 : Nat) < 2 ^ bi := Nat.two_pow_pos bi
  have e : Min.min bi 32 = bi := by omega
  rw [Int.toNat_natCast, e, Int.one_mul, pow_cast, wrap_u32, wrap_u32]
  omega
theorem and_maskB {x : Int} {bi : Nat} (h : bi ≤ 31) : and32 (x % 4294967296) (maskB (bi : Int)) = x % ((2 ^ bi : Nat) : Int) := by
  have hp : (2 : Nat) ^ bi < 2 ^ 32 := Nat.pow_lt_pow_right (by omega) (by omega)
  have hp0 : (0 : Nat) < 2 ^ bi := Nat.two_pow_pos bi
  rw [maskB_cast h]
  obtain ⟨y, hy⟩ := Int.eq_ofNat_of_zero_le (show 0 ≤ x % 4294967296 by omega)
  rw [hy, and32_cast (by omega) (by omega), Nat.and_two_pow_sub_one_eq_mod]
  rw [Int.natCast_emod, ← hy, Int.emod_emod_of_dvd]
  refine ⟨((2 ^ (32 - bi) : Nat) : Int), ?_⟩
  rw [← Int.natCast_mul, ← Nat.pow_add, show bi + (32 - bi) = 32 from by omega]
  rfl
def p1 (f : NumT) (n : Int) : Nat := (Int.tdiv n f.2.2.2.1 % ((2 ^ f.2.1.toNat : Nat) : Int)).toNat
theorem p1_lt (f : NumT) (n : Int) : p1 f n < 2 ^ f.2.1.toNat := by
  have hp0 : (0 : Nat) < 2 ^ f.2.1.toNat := Nat.two_pow_pos _
  unfold p1
  have h1 := Int.emod_lt_of_pos (Int.tdiv n f.2.2.2.1) (show (0 : Int) < ((2 ^ f.2.1.toNat : Nat) : Int) by omega)
  have h2 := Int.emod_nonneg (Int.tdiv n f.2.2.2.1) (show ((2 ^ f.2.1.toNat : Nat) : Int) ≠ 0 by omega)
  omega
theorem p1_int (f : NumT) (n : Int) : ((p1 f n : Nat) : Int) = Int.tdiv n f.2.2.2.1 % ((2 ^ f.2.1.toNat : Nat) : Int) := by
  have hp0 : (0 : Nat) < 2 ^ f.2.1.toNat := Nat.two_pow_pos _
  have h2 := Int.emod_nonneg (Int.tdiv n f.2.2.2.1) (show ((2 ^ f.2.1.toNat : Nat) : Int) ≠ 0 by omega)
  unfold p1
  omega
theorem shl_lt {p k b : Nat} (hp : p < 2 ^ b) (h : k + b ≤ 32) : p <<< k < 2 ^ 32 := by
  rw [Nat.shiftLeft_eq]
  have h1 := Nat.mul_lt_mul_of_pos_right hp (Nat.two_pow_pos k)
  rw [← Nat.pow_add] at h1
  have : (2 : Nat) ^ (b + k) ≤ 2 ^ 32 := Nat.pow_le_pow_right (by omega) (by omega)
  omega
theorem put1_nat {f : NumT} {at_ bi : Nat} {by_ : Int} (P : Plain f at_ bi by_) (n : Int) : put1 f n = ((p1 f n <<< at_ : Nat) : Int) ∧ p1 f n <<< at_ < 2 ^ 32 := by
  have hl := p1_lt f n
  have hi := p1_int f n
  rw [P.eBi, Int.toNat_natCast] at hl hi
  have hs := shl_lt hl P.at32
  refine ⟨?_, hs⟩
  unfold put1
  have hb : IntKind.wrap .i64 by_ = by_ := by
    rcases P.byC with h | h | h | h <;> rw [h] <;> decide
  rw [P.eBi, P.eAt, P.eBy, hb, wrap_i64_u32, and_maskB P.bi31]
  rw [P.eBy] at hi
  rw [← hi, Int.toNat_natCast, show Min.min at_ 32 = at_ from by have := P.at32; omega, shl32_cast, Nat.mod_eq_of_lt hs]
def put2N (n : Int) : Nat := ((n % 4).toNat <<< 29) ||| ((n / 4 % 524288).toNat <<< 5)
theorem u64N_lt (n : Int) : u64N n < 2 ^ 64 := by
  unfold u64N
  rw [wrap_u64]
  omega
def put3N (n : Int) : Nat := (((ofVN (u64N n)).toNat <<< 22) ||| ((ofVR (u64N n)).toNat <<< 16)) ||| ((ofVS (u64N n)).toNat <<< 10)
def putN (f : NumT) (n : Int) : Nat := cond (f.2.2.1 == 1) (p1 f n <<< f.1.toNat) (cond (f.2.2.1 == 2) (put2N n) (cond (f.2.2.1 == 3) (put3N n) 0))
end Go.Rk

namespace Go.Rk
open Go Go.Ab Go.Proofs Go.Ra Go.Wd
theorem and_shift_mask (w k b : Nat) : w &&& ((2 ^ b - 1) <<< k) = (w / 2 ^ k % 2 ^ b) <<< k := by
  apply Nat.eq_of_testBit_eq
  intro j
  rw [Nat.testBit_and, Nat.testBit_shiftLeft, Nat.testBit_shiftLeft, Nat.testBit_two_pow_sub_one, Nat.testBit_mod_two_pow, Nat.testBit_div_two_pow]
  by_cases hk : k ≤ j
  · have e : j - k + k = j := by omega
    simp only [ge_iff_le, hk, decide_true, Bool.true_and, e]
    exact Bool.and_comm _ _
  · simp [hk]
theorem shl_inj {a b k : Nat} (h : a <<< k = b <<< k) : a = b := by
  rw [Nat.shiftLeft_eq, Nat.shiftLeft_eq] at h
  exact Nat.eq_of_mul_eq_mul_right (Nat.two_pow_pos k) h
def NOk (f : NumT) (n : Int) : Prop :=
  (f = zeroN → n = 0) ∧ (f = aparN ∨ f.2.2.1 = 1 → f.2.2.2.2.1 ≤ n ∧ n ≤ f.2.2.2.2.2 ∧ Int.tmod n f.2.2.2.1 = 0) ∧ (f = maskNm → ofOk (u64N n) = true ∧ -9223372036854775808 ≤ n ∧ n < 9223372036854775808)
theorem shr_and {w k b : Nat} (hw : w < 2 ^ 32) (hb : b ≤ 31) : and32 (Int.fdiv (w : Int) (2 ^ k)) ((2 ^ b - 1 : Nat) : Int) = ((w / 2 ^ k % 2 ^ b : Nat) : Int) := by
  have hp : (2 : Nat) ^ b < 2 ^ 32 := Nat.pow_lt_pow_right (by omega) (by omega)
  have h1 : w >>> k < 2 ^ 32 := by rw [Nat.shiftRight_eq_div_pow]; exact Nat.lt_of_le_of_lt (Nat.div_le_self _ _) hw
  rw [shr_cast, and32_cast h1 (by omega), Nat.and_two_pow_sub_one_eq_mod, Nat.shiftRight_eq_div_pow]
theorem raw1_nat {f : NumT} {at_ bi : Nat} {by_ : Int} (P : Plain f at_ bi by_) {w : Nat} (hw : w < 2 ^ 32) : raw1 f (w : Int) = ((w / 2 ^ at_ % 2 ^ bi : Nat) : Int) := by
  unfold raw1
  rw [P.eAt, P.eBi, maskB_cast P.bi31, Int.toNat_natCast, show Min.min at_ 32 = at_ from by have := P.at32; omega]
  exact shr_and hw P.bi31
theorem signed7 (x : Int) : signedF x 7 = sgn 7 x := by
  unfold signedF
  rw [show Min.min (Int.toNat (IntKind.wrap IntKind.i64 (32 - 7))) 32 = 25 from by decide, Int.fdiv_eq_ediv_of_nonneg _ (by decide), wrap_u32, wrap_i32, wrap_i64 (by omega) (by omega)]
  unfold sgn
  omega
theorem signed19 (x : Int) : signedF x 19 = sgn 19 x := by
  unfold signedF
  rw [show Min.min (Int.toNat (IntKind.wrap IntKind.i64 (32 - 19))) 32 = 13 from by decide, Int.fdiv_eq_ediv_of_nonneg _ (by decide), wrap_u32, wrap_i32, wrap_i64 (by omega) (by omega)]
  unfold sgn
  omega
theorem signed21 (x : Int) : signedF x 21 = sgn 21 x := by
  unfold signedF
  rw [show Min.min (Int.toNat (IntKind.wrap IntKind.i64 (32 - 21))) 32 = 11 from by decide, Int.fdiv_eq_ediv_of_nonneg _ (by decide), wrap_u32, wrap_i32, wrap_i64 (by omega) (by omega)]
  unfold sgn
  omega
theorem signed26 (x : Int) : signedF x 26 = sgn 26 x := by
  unfold signedF
  rw [show Min.min (Int.toNat (IntKind.wrap IntKind.i64 (32 - 26))) 32 = 6 from by decide, Int.fdiv_eq_ediv_of_nonneg _ (by decide), wrap_u32, wrap_i32, wrap_i64 (by omega) (by omega)]
  unfold sgn
  omega
theorem get_plain {f : NumT} {at_ bi : Nat} {by_ : Int} (P : Plain f at_ bi by_) {n : Int} {w : Nat} (hv : f.2.2.2.2.1 ≤ n ∧ n ≤ f.2.2.2.2.2 ∧ Int.tmod n f.2.2.2.1 = 0) (hw : w < 2 ^ 32)
    (hm : w / 2 ^ at_ % 2 ^ bi = p1 f n) : get1 f (w : Int) = n := by
  obtain ⟨h1, h2, h3⟩ := hv
  rw [P.eBy] at h3
  have hr := raw1_nat P hw
  rw [hm] at hr
  have hp := p1_int f n
  rw [P.eBy, P.eBi, Int.toNat_natCast] at hp
  have hq : Int.tdiv n by_ * by_ = n := Int.tdiv_mul_cancel (Int.dvd_of_tmod_eq_zero h3)
  generalize Int.tdiv n by_ = q at hp hq
  have hby : IntKind.wrap .i64 by_ = by_ := by rcases P.byC with h | h | h | h <;> rw [h] <;> decide
  have hbi : IntKind.wrap .i64 (bi : Int) = (bi : Int) := wrap_i64 (by omega) (by have := P.bi31; omega)
  unfold get1
  rw [hr, P.eBy, P.eBi, hby, hbi]
  rcases P.rng with ⟨r1, r2, r3, r4⟩ | ⟨r3, r4⟩
  · rw [decide_eq_true r1, cond_true]
    rw [r3] at h1
    have hs : signedF ((p1 f n : Nat) : Int) (bi : Int) = q := by
      rw [hp]
      rcases r2 with h | h | h <;> subst h
      · rw [show ((7 : Nat) : Int) = 7 from rfl, signed7]
        unfold sgn
        rcases P.byC with h | h | h | h <;> subst h <;> omega
      · rw [show ((19 : Nat) : Int) = 19 from rfl, signed19]
        unfold sgn
        rcases P.byC with h | h | h | h <;> subst h <;> omega
      · rw [show ((26 : Nat) : Int) = 26 from rfl, signed26]
        unfold sgn
        rcases P.byC with h | h | h | h <;> subst h <;> omega
    rw [hs, hq]
    have := P.hi
    have := P.lo
    exact wrap_i64 (by omega) (by omega)
  · rw [r3] at h1 ⊢
    rw [show decide ((0 : Int) < 0) = false from rfl, cond_false]
    have hp0 : (0 : Nat) < 2 ^ bi := Nat.two_pow_pos _
    have hpc := pow_cast bi
    have hs : ((p1 f n : Nat) : Int) = q := by
      rw [hp]
      refine Int.emod_eq_of_lt ?_ ?_
      · rcases P.byC with h | h | h | h <;> subst h <;> omega
      · rw [hpc] at r4
        rcases P.byC with h | h | h | h <;> subst h <;> omega
    have h32 : p1 f n < 2 ^ 32 := by
      have := p1_lt f n
      rw [P.eBi, Int.toNat_natCast] at this
      have hp : (2 : Nat) ^ bi < 2 ^ 32 := Nat.pow_lt_pow_right (by omega) (by have := P.bi31; omega)
      omega
    have hw2 : IntKind.wrap .i64 ((p1 f n : Nat) : Int) = ((p1 f n : Nat) : Int) := wrap_i64 (by omega) (by omega)
    rw [hw2, hs, hq]
    have := P.hi
    exact wrap_i64 (by omega) (by omega)
theorem get_apart {n : Int} {w : Nat} (h1 : -1048576 ≤ n) (h2 : n ≤ 1048575) (hw : w < 2 ^ 32) (hm : w &&& ((3 <<< 29) ||| (524287 <<< 5)) = put2N n) : get2 (w : Int) = n := by
  have e1 : w &&& (3 <<< 29) = (w / 2 ^ 29 % 2 ^ 2) <<< 29 := and_shift_mask w 29 2
  have e2 : w &&& (524287 <<< 5) = (w / 2 ^ 5 % 2 ^ 19) <<< 5 := and_shift_mask w 5 19
  rw [Nat.and_or_distrib_left, e1, e2] at hm
  unfold put2N at hm
  have l1 : (w / 2 ^ 5 % 2 ^ 19) <<< 5 < 2 ^ 29 := by rw [Nat.shiftLeft_eq]; omega
  have l2 : (n / 4 % 524288).toNat <<< 5 < 2 ^ 29 := by rw [Nat.shiftLeft_eq]; omega
  rw [← Nat.shiftLeft_add_eq_or_of_lt l1, ← Nat.shiftLeft_add_eq_or_of_lt l2, Nat.shiftLeft_eq, Nat.shiftLeft_eq, Nat.shiftLeft_eq, Nat.shiftLeft_eq] at hm
  rw [Nat.shiftLeft_eq] at l1 l2
  unfold get2
  have a1 : and32 (Int.fdiv (w : Int) (2 ^ 5)) 524287 = ((w / 2 ^ 5 % 2 ^ 19 : Nat) : Int) := shr_and (k := 5) (b := 19) hw (by omega)
  have a2 : and32 (Int.fdiv (w : Int) (2 ^ 29)) 3 = ((w / 2 ^ 29 % 2 ^ 2 : Nat) : Int) := shr_and (k := 29) (b := 2) hw (by omega)
  have l3 : (w / 2 ^ 5 % 2 ^ 19) <<< 2 < 2 ^ 32 := by rw [Nat.shiftLeft_eq]; omega
  have l4 : w / 2 ^ 29 % 2 ^ 2 < 2 ^ 2 := Nat.mod_lt _ (by decide)
  rw [a1, a2, shl32_cast, Nat.mod_eq_of_lt l3, or32_cast l3 (by omega), ← Nat.shiftLeft_add_eq_or_of_lt l4, Nat.shiftLeft_eq, signed21]
  clear a1 a2 l3
  have l5 : w / 2 ^ 5 % 2 ^ 19 < 2 ^ 19 := Nat.mod_lt _ (by decide)
  generalize w / 2 ^ 5 % 2 ^ 19 = y at *
  generalize w / 2 ^ 29 % 2 ^ 2 = x at *
  clear hw e1 e2 l1 l2
  have hx : (x : Int) = n % 4 := by omega
  have hy : (y : Int) = n / 4 % 524288 := by omega
  have hs : ((y * 2 ^ 2 + x : Nat) : Int) = n % 2097152 := by omega
  rw [hs]
  unfold sgn
  omega
theorem get_mask {n : Int} {w : Nat} (hv : ofOk (u64N n) = true ∧ -9223372036854775808 ≤ n ∧ n < 9223372036854775808) (hw : w < 2 ^ 32) (hm : w &&& (8191 <<< 10) = put3N n) : get3 (w : Int) = n := by
  obtain ⟨h1, h2, h3⟩ := hv
  obtain ⟨r1, r2, r3, hb⟩ := of_back (u64N_lt n) h1
  have e1 : w &&& (8191 <<< 10) = (w / 2 ^ 10 % 2 ^ 13) <<< 10 := and_shift_mask w 10 13
  rw [e1] at hm
  unfold put3N at hm
  generalize ofVN (u64N n) = a at *
  generalize ofVR (u64N n) = b at *
  generalize ofVS (u64N n) = c at *
  have l1 : b.toNat <<< 16 < 2 ^ 22 := by rw [Nat.shiftLeft_eq]; omega
  have l2 : c.toNat <<< 10 < 2 ^ 16 := by rw [Nat.shiftLeft_eq]; omega
  have e3 : b.toNat <<< 16 ||| c.toNat <<< 10 = b.toNat * 2 ^ 16 + c.toNat * 2 ^ 10 := by
    rw [← Nat.shiftLeft_add_eq_or_of_lt l2, Nat.shiftLeft_eq, Nat.shiftLeft_eq]
  have l3 : b.toNat <<< 16 ||| c.toNat <<< 10 < 2 ^ 22 := by rw [e3]; omega
  rw [Nat.or_assoc, ← Nat.shiftLeft_add_eq_or_of_lt l3, e3, Nat.shiftLeft_eq, Nat.shiftLeft_eq] at hm
  unfold get3
  have a1 : and32 (Int.fdiv (w : Int) (2 ^ 22)) 1 = ((w / 2 ^ 22 % 2 ^ 1 : Nat) : Int) := shr_and (k := 22) (b := 1) hw (by omega)
  have a2 : and32 (Int.fdiv (w : Int) (2 ^ 16)) 63 = ((w / 2 ^ 16 % 2 ^ 6 : Nat) : Int) := shr_and (k := 16) (b := 6) hw (by omega)
  have a3 : and32 (Int.fdiv (w : Int) (2 ^ 10)) 63 = ((w / 2 ^ 10 % 2 ^ 6 : Nat) : Int) := shr_and (k := 10) (b := 6) hw (by omega)
  have b1 : ((w / 2 ^ 22 % 2 ^ 1 : Nat) : Int) = a := by omega
  have b2 : ((w / 2 ^ 16 % 2 ^ 6 : Nat) : Int) = b := by omega
  have b3 : ((w / 2 ^ 10 % 2 ^ 6 : Nat) : Int) = c := by omega
  rw [a1, a2, a3, b1, b2, b3, wrap_i64 (n := a) (by omega) (by omega), wrap_i64 (n := b) (by omega) (by omega), wrap_i64 (n := c) (by omega) (by omega), hb]
  have hm64 := u64N_lt n
  have h : IntKind.wrap .i64 ((u64N n : Nat) : Int) = if ((u64N n : Nat) : Int) % 18446744073709551616 ≥ 9223372036854775808 then ((u64N n : Nat) : Int) % 18446744073709551616 - 18446744073709551616 else ((u64N n : Nat) : Int) % 18446744073709551616 := by
    simp [IntKind.wrap, IntKind.bits, IntKind.signed]
  rw [h]
  have hu : ((u64N n : Nat) : Int) = n % 18446744073709551616 := by
    unfold u64N
    rw [wrap_u64]
    omega
  rw [hu]
  split <;> omega
theorem get_put {f : NumT} (hf : numFine f = true) {n : Int} (hv : NOk f n) {w : Nat} (hw : w < 2 ^ 32) (hm : w &&& fMask f = putN f n) : getF f (w : Int) = n := by
  obtain ⟨v1, v2, v3⟩ := hv
  rcases num_cases hf with h | h | h | P
  · subst h
    exact (v1 rfl).symm
  · subst h
    obtain ⟨g1, g2, _⟩ := v2 (.inl rfl)
    exact get_apart g1 g2 hw hm
  · subst h
    exact get_mask (v3 rfl) hw hm
  · have hk : (f.2.2.1 == 1) = true := by rw [P.kind]; rfl
    unfold getF
    rw [hk, cond_true]
    refine get_plain P (v2 (.inr P.kind)) hw ?_
    unfold fMask putN at hm
    rw [hk, cond_true, cond_true, and_shift_mask] at hm
    exact shl_inj hm
end Go.Rk

namespace Go.Rk
open Go Go.Ab Go.Proofs Go.Ra Go.Wd
def regFine (f : NumT) : Bool := numFine f && (decide (f = zeroN) || (f.2.2.1 == 1 && f.2.2.2.1 == 1))
def rowA (r : RowT) : Nat := fMask r.2.2.1
def rowB (r : RowT) : Nat := fMask r.2.2.2.1
def rowC (r : RowT) : Nat := fMask r.2.2.2.2.1
def rowD (r : RowT) : Nat := fMask r.2.2.2.2.2.1
def rowI (r : RowT) : Nat := fMask r.2.2.2.2.2.2.1
def z2 (a b : Nat) : Bool := Nat.beq (a &&& b) 0
def rowGood (r : RowT) : Bool :=
  (decide (0 ≤ r.2.1) && decide (r.2.1 < 4294967296)) && ((regFine r.2.2.1 && (regFine r.2.2.2.1 && (regFine r.2.2.2.2.1 && (regFine r.2.2.2.2.2.1 && numFine r.2.2.2.2.2.2.1)))) &&
  ((z2 r.2.1.toNat (rowA r) && (z2 r.2.1.toNat (rowB r) && (z2 r.2.1.toNat (rowC r) && (z2 r.2.1.toNat (rowD r) && z2 r.2.1.toNat (rowI r))))) &&
   ((z2 (rowA r) (rowB r) && (z2 (rowA r) (rowC r) && (z2 (rowA r) (rowD r) && z2 (rowA r) (rowI r)))) && ((z2 (rowB r) (rowC r) && (z2 (rowB r) (rowD r) && z2 (rowB r) (rowI r))) && ((z2 (rowC r) (rowD r) && z2 (rowC r) (rowI r)) && z2 (rowD r) (rowI r))))))
theorem rows_good : rowsL.all rowGood = true := by kernel_rfl
theorem z2_eq {a b : Nat} (h : z2 a b = true) : a &&& b = 0 := Nat.eq_of_beq_eq_true h
structure Good (r : RowT) : Prop where
  w0 : 0 ≤ r.2.1
  w1 : r.2.1 < 4294967296
  fa : regFine r.2.2.1 = true
  fb : regFine r.2.2.2.1 = true
  fc : regFine r.2.2.2.2.1 = true
  fd : regFine r.2.2.2.2.2.1 = true
  fi : numFine r.2.2.2.2.2.2.1 = true
  wa : r.2.1.toNat &&& rowA r = 0
  wb : r.2.1.toNat &&& rowB r = 0
  wc : r.2.1.toNat &&& rowC r = 0
  wd : r.2.1.toNat &&& rowD r = 0
  wi : r.2.1.toNat &&& rowI r = 0
  ab : z2 (rowA r) (rowB r) = true
  ac : z2 (rowA r) (rowC r) = true
  ad : z2 (rowA r) (rowD r) = true
  ai : z2 (rowA r) (rowI r) = true
  bc : z2 (rowB r) (rowC r) = true
  bd : z2 (rowB r) (rowD r) = true
  bi : z2 (rowB r) (rowI r) = true
  cd : z2 (rowC r) (rowD r) = true
  ci : z2 (rowC r) (rowI r) = true
  di : z2 (rowD r) (rowI r) = true
theorem row_good {r : RowT} (hr : r ∈ rowsL) : Good r := by
  have h := List.all_eq_true.1 rows_good r hr
  simp only [rowGood, Bool.and_eq_true, decide_eq_true_eq] at h
  obtain ⟨⟨a1, a2⟩, ⟨b1, b2, b3, b4, b5⟩, ⟨c1, c2, c3, c4, c5⟩, ⟨d1, d2, d3, d4⟩, ⟨e1, e2, e3⟩, ⟨f1, f2⟩, g1⟩ := h
  exact ⟨a1, a2, b1, b2, b3, b4, b5, z2_eq c1, z2_eq c2, z2_eq c3, z2_eq c4, z2_eq c5, d1, d2, d3, d4, e1, e2, e3, f1, f2, g1⟩
theorem reg_num {f : NumT} (h : regFine f = true) : numFine f = true := (Bool.and_eq_true_iff.1 h).1
section
variable {r : RowT} (G : Good r) (i : InsT)
include G
end
def eqR (r s : RowT) : Bool := strEq r.1 s.1 && (decide (r.2.1 = s.2.1) && (decide (r.2.2.1 = s.2.2.1) && (decide (r.2.2.2.1 = s.2.2.2.1) && (decide (r.2.2.2.2.1 = s.2.2.2.2.1) && (decide (r.2.2.2.2.2.1 = s.2.2.2.2.2.1) && (decide (r.2.2.2.2.2.2.1 = s.2.2.2.2.2.2.1) && strEq r.2.2.2.2.2.2.2 s.2.2.2.2.2.2.2))))))
theorem eqR_eq {r s : RowT} (h : eqR r s = true) : r = s := by
  simp only [eqR, Bool.and_eq_true, decide_eq_true_eq] at h
  obtain ⟨h1, h2, h3, h4, h5, h6, h7, h8⟩ := h
  have h1 : r.1 = s.1 := eq_of_beq h1
  have h8 : r.2.2.2.2.2.2.2 = s.2.2.2.2.2.2.2 := eq_of_beq h8
  exact Prod.ext h1 (Prod.ext h2 (Prod.ext h3 (Prod.ext h4 (Prod.ext h5 (Prod.ext h6 (Prod.ext h7 h8))))))
def rowOwn (r : RowT) : Bool := fok r.1 && eqR (frow r.1) r
theorem rows_own : rowsL.all rowOwn = true := by kernel_rfl
theorem row_own {r : RowT} (hr : r ∈ rowsL) : fok r.1 = true ∧ frow r.1 = r := by
  have h := List.all_eq_true.1 rows_own r hr
  simp only [rowOwn, Bool.and_eq_true] at h
  exact ⟨h.1, eqR_eq h.2⟩
theorem frow_mem {nm : List UInt8} (h : fok nm = true) : frow nm ∈ rowsL ∧ (frow nm).1 = nm := by
  unfold fok at h
  obtain ⟨r, hr⟩ := Option.isSome_iff_exists.1 h
  have e : frow nm = r := by unfold frow; rw [hr]; rfl
  rw [e]
  exact ⟨List.mem_of_find?_eq_some hr, eq_of_beq (by simpa using List.find?_some hr : strEq r.1 nm = true)⟩
theorem enc_ok {i : InsT} (h : (encE i == 0) = true) : fok i.1 = true ∧ faultyF (frow i.1) i = 0 := by
  have h := eq_of_beq h
  unfold encE at h
  cases hf : fok i.1
  · rw [hf] at h; cases h
  · rw [hf] at h
    exact ⟨rfl, h⟩
theorem faulty_parts {r : RowT} {i : InsT} (h : faultyF r i = 0) : smallF r.2.2.1 i.2.1 = true ∧ smallF r.2.2.2.1 i.2.2.1 = true ∧ smallF r.2.2.2.2.1 i.2.2.2.1 = true ∧ smallF r.2.2.2.2.2.1 i.2.2.2.2.1 = true ∧
    (r.2.2.2.2.2.2.1.2.2.1 == 0 && i.2.2.2.2.2 != 0) = false ∧ numE2 r.2.2.2.2.2.2.1 i.2.2.2.2.2 = 0 := by
  unfold faultyF at h
  cases h1 : smallF r.2.2.1 i.2.1
  · rw [h1] at h; cases h
  cases h2 : smallF r.2.2.2.1 i.2.2.1
  · rw [h1, h2] at h; cases h
  cases h3 : smallF r.2.2.2.2.1 i.2.2.2.1
  · rw [h1, h2, h3] at h; cases h
  cases h4 : smallF r.2.2.2.2.2.1 i.2.2.2.2.1
  · rw [h1, h2, h3, h4] at h; cases h
  cases h5 : (r.2.2.2.2.2.2.1.2.2.1 == 0 && i.2.2.2.2.2 != 0)
  · rw [h1, h2, h3, h4, h5] at h
    exact ⟨rfl, rfl, rfl, rfl, rfl, h⟩
  · rw [h1, h2, h3, h4, h5] at h; cases h
theorem small_rng {f : NumT} {n : Int} (h : smallF f n = true) : IntKind.wrap .i64 f.2.2.2.2.1 ≤ n ∧ n ≤ IntKind.wrap .i64 f.2.2.2.2.2 := by
  unfold smallF at h
  cases hd : decide (IntKind.wrap IntKind.i64 f.2.2.2.2.1 ≤ n)
  · rw [hd] at h; cases h
  · rw [hd] at h
    exact ⟨of_decide_eq_true hd, of_decide_eq_true h⟩
theorem plain_wraps {f : NumT} {at_ bi : Nat} {by_ : Int} (P : Plain f at_ bi by_) : IntKind.wrap .i64 f.2.2.2.2.1 = f.2.2.2.2.1 ∧ IntKind.wrap .i64 f.2.2.2.2.2 = f.2.2.2.2.2 ∧ IntKind.wrap .i64 f.2.2.2.1 = f.2.2.2.1 := by
  have h1 := P.lo
  have h2 := P.hi
  have h4 := P.hi0
  have h3 : f.2.2.2.2.1 < 2147483648 := by rcases P.rng with ⟨h, _⟩ | ⟨h, _⟩ <;> omega
  refine ⟨wrap_i64 (by omega) (by omega), wrap_i64 (by omega) (by omega), ?_⟩
  rw [P.eBy]
  rcases P.byC with h | h | h | h <;> rw [h] <;> decide
theorem reg_ok {f : NumT} (hf : regFine f = true) {n : Int} (h : smallF f n = true) : NOk f n := by
  obtain ⟨h1, h2⟩ := small_rng h
  simp only [regFine, Bool.and_eq_true, Bool.or_eq_true, decide_eq_true_eq, beq_iff_eq] at hf
  obtain ⟨hn, hf⟩ := hf
  refine ⟨fun e => ?_, fun e => ?_, fun e => ?_⟩
  · subst e
    have h1 : (0 : Int) ≤ n := h1
    have h2 : n ≤ (0 : Int) := h2
    omega
  · rcases num_cases hn with h | h | h | P
    · subst h
      rcases e with e | e
      · cases e
      · cases e
    · subst h
      rcases hf with h | h
      · cases h
      · cases h.1
    · subst h
      rcases hf with h | h
      · cases h
      · cases h.1
    · obtain ⟨p1, p2, _⟩ := plain_wraps P
      rw [p1] at h1
      rw [p2] at h2
      refine ⟨h1, h2, ?_⟩
      rcases hf with h | h
      · have := P.kind; rw [h] at this; cases this
      · rw [h.2]
        exact Int.tmod_one n
  · subst e
    rcases hf with h | h
    · cases h
    · cases h.1
end Go.Rk

namespace Go.Rk
open Go Go.Ab Go.Proofs Go.Ra
noncomputable def cx141 : Cx := { P := Tryz.prog, n := 31, tab := [], mtab := [], refs := [], keeps := [0, 1, 2, 3, 5, 8, 9, 13], fuel := 20 }
noncomputable def rowsMS : MSpec := fun args H => .req (Nat.ble args.length Tryz.f141.ntmps) (mfun cx141 Tryz.f141 args H)
theorem rowsMS_ok : MSound Tryz.prog 141 rowsMS := msound_fun (cx := cx141) (fn := Tryz.f141) (cx0_ok rfl rfl) (by kernel_rfl) (by kernel_rfl)
noncomputable def cx140 : Cx := { P := Tryz.prog, n := 20, tab := [], mtab := [], refs := [], keeps := [0, 1, 2, 3, 4, 5, 12] }
noncomputable def numXS : Ab.Spec := fun args => .req (Nat.ble args.length Tryz.f140.ntmps) (dfun cx140 Tryz.f140 args)
theorem numXS_ok : Sound Tryz.prog 140 numXS := sound_fun (cx := cx140) (fn := Tryz.f140) (cx0_ok rfl rfl) (by kernel_rfl) (by kernel_rfl)
noncomputable def cx104 : Cx := { P := Tryz.prog, n := 115, tab := [(140, numXS)], mtab := [(141, rowsMS)], refs := [], keeps := [0, 1, 2, 3, 4, 5] }
abbrev rowXE : EC := .prod [.str, .int .u32, .str, .int .u64, .int .u64, .int .i64, .int .u8, .int .u64, .int .u64, .int .i64, .int .i64, .int .i64]
abbrev RowX := List UInt8 × Int × List UInt8 × Int × Int × Int × Int × Int × Int × Int × Int × Int
@[irreducible] def rowsX : List RowX := [
  ([109, 111, 118, 110], 2457862144, [65, 105, 115], 0, 21, 3, 105, 5, 16, 0, 65535, 1),
  ([109, 111, 118, 122], 3531603968, [65, 105, 115], 0, 21, 3, 105, 5, 16, 0, 65535, 1),
  ([109, 111, 118, 107], 4068474880, [65, 105, 115], 0, 21, 3, 105, 5, 16, 0, 65535, 1),
  ([97, 100, 100, 46, 105], 2432696320, [65, 66, 105, 115], 0, 22, 1, 105, 10, 12, 0, 4095, 1),
  ([97, 100, 100, 115, 46, 105], 2969567232, [65, 66, 105, 115], 0, 22, 1, 105, 10, 12, 0, 4095, 1),
  ([115, 117, 98, 46, 105], 3506438144, [65, 66, 105, 115], 0, 22, 1, 105, 10, 12, 0, 4095, 1),
  ([115, 117, 98, 115, 46, 105], 4043309056, [65, 66, 105, 115], 0, 22, 1, 105, 10, 12, 0, 4095, 1),
  ([97, 100, 100], 2332033024, [65, 66, 67, 115], 16, 10, 63, 0, 0, 0, 0, 0, 0),
  ([97, 100, 100, 115], 2868903936, [65, 66, 67, 115], 16, 10, 63, 0, 0, 0, 0, 0, 0),
  ([115, 117, 98], 3405774848, [65, 66, 67, 115], 16, 10, 63, 0, 0, 0, 0, 0, 0),
  ([115, 117, 98, 115], 3942645760, [65, 66, 67, 115], 16, 10, 63, 0, 0, 0, 0, 0, 0),
  ([97, 110, 100], 2315255808, [65, 66, 67, 115], 16, 10, 63, 0, 0, 0, 0, 0, 0),
  ([111, 114, 114], 2852126720, [65, 66, 67, 115], 16, 10, 63, 0, 0, 0, 0, 0, 0),
  ([101, 111, 114], 3388997632, [65, 66, 67, 115], 16, 10, 63, 0, 0, 0, 0, 0, 0),
  ([97, 110, 100, 115], 3925868544, [65, 66, 67, 115], 16, 10, 63, 0, 0, 0, 0, 0, 0),
  ([97, 110, 100, 46, 105], 2449473536, [65, 66, 105], 0, 0, 0, 109, 0, 0, 0, 0, 0),
  ([111, 114, 114, 46, 105], 2986344448, [65, 66, 105], 0, 0, 0, 109, 0, 0, 0, 0, 0),
  ([101, 111, 114, 46, 105], 3523215360, [65, 66, 105], 0, 0, 0, 109, 0, 0, 0, 0, 0),
  ([97, 110, 100, 115, 46, 105], 4060086272, [65, 66, 105], 0, 0, 0, 109, 0, 0, 0, 0, 0),
  ([109, 97, 100, 100], 2600468480, [65, 66, 67, 68], 16, 10, 31, 0, 0, 0, 0, 0, 0),
  ([109, 115, 117, 98], 2600501248, [65, 66, 67, 68], 16, 10, 31, 0, 0, 0, 0, 0, 0),
  ([117, 100, 105, 118], 2596276224, [65, 66, 67], 16, 0, 0, 0, 0, 0, 0, 0, 0),
  ([115, 100, 105, 118], 2596277248, [65, 66, 67], 16, 0, 0, 0, 0, 0, 0, 0, 0),
  ([108, 115, 108, 118], 2596282368, [65, 66, 67], 16, 0, 0, 0, 0, 0, 0, 0, 0),
  ([108, 115, 114, 118], 2596283392, [65, 66, 67], 16, 0, 0, 0, 0, 0, 0, 0, 0),
  ([97, 115, 114, 118], 2596284416, [65, 66, 67], 16, 0, 0, 0, 0, 0, 0, 0, 0),
  ([115, 98, 102, 109], 2470445056, [65, 66, 116, 115], 16, 10, 63, 0, 0, 0, 0, 0, 0),
  ([117, 98, 102, 109], 3544186880, [65, 66, 116, 115], 16, 10, 63, 0, 0, 0, 0, 0, 0),
  ([99, 115, 101, 108], 2592079872, [65, 66, 67, 99], 16, 12, 13, 0, 0, 0, 0, 0, 0),
  ([99, 115, 105, 110, 99], 2592080896, [65, 66, 67, 99], 16, 12, 13, 0, 0, 0, 0, 0, 0),
  ([97, 100, 114], 268435456, [65, 106], 0, 0, 0, 97, 0, 0, -1048576, 1048575, 1),
  ([97, 100, 114, 112], 2415919104, [65, 106], 0, 0, 0, 97, 0, 0, -1048576, 1048575, 1),
  ([108, 100, 114, 98], 960495616, [65, 66, 105], 0, 0, 0, 105, 10, 12, 0, 4095, 1),
  ([115, 116, 114, 98], 956301312, [65, 66, 105], 0, 0, 0, 105, 10, 12, 0, 4095, 1),
  ([108, 100, 114, 104], 2034237440, [65, 66, 105], 0, 0, 0, 105, 10, 12, 0, 8190, 2),
  ([115, 116, 114, 104], 2030043136, [65, 66, 105], 0, 0, 0, 105, 10, 12, 0, 8190, 2),
  ([108, 100, 114, 46, 119], 3107979264, [65, 66, 105], 0, 0, 0, 105, 10, 12, 0, 16380, 4),
  ([115, 116, 114, 46, 119], 3103784960, [65, 66, 105], 0, 0, 0, 105, 10, 12, 0, 16380, 4),
  ([108, 100, 114, 115, 119], 3112173568, [65, 66, 105], 0, 0, 0, 105, 10, 12, 0, 16380, 4),
  ([108, 100, 114], 4181721088, [65, 66, 105], 0, 0, 0, 105, 10, 12, 0, 32760, 8),
  ([115, 116, 114], 4177526784, [65, 66, 105], 0, 0, 0, 105, 10, 12, 0, 32760, 8),
  ([108, 100, 112], 2839543808, [65, 67, 66, 105], 10, 0, 0, 105, 15, 7, -512, 504, 8),
  ([115, 116, 112], 2835349504, [65, 67, 66, 105], 10, 0, 0, 105, 15, 7, -512, 504, 8),
  ([98], 335544320, [106], 0, 0, 0, 105, 0, 26, -134217728, 134217724, 4),
  ([98, 108], 2483027968, [106], 0, 0, 0, 105, 0, 26, -134217728, 134217724, 4),
  ([98, 46, 99], 1409286144, [99, 106], 0, 0, 13, 105, 5, 19, -1048576, 1048572, 4),
  ([99, 98, 122], 3019898880, [65, 106], 0, 0, 0, 105, 5, 19, -1048576, 1048572, 4),
  ([99, 98, 110, 122], 3036676096, [65, 106], 0, 0, 0, 105, 5, 19, -1048576, 1048572, 4),
  ([98, 114], 3592355840, [66], 0, 0, 0, 0, 0, 0, 0, 0, 0),
  ([98, 108, 114], 3594452992, [66], 0, 0, 0, 0, 0, 0, 0, 0, 0),
  ([114, 101, 116], 3596550144, [66], 0, 0, 0, 0, 0, 0, 0, 0, 0),
  ([115, 118, 99], 3556769793, [105], 0, 0, 0, 105, 5, 16, 0, 65535, 1),
  ([98, 114, 107], 3558866944, [105], 0, 0, 0, 105, 5, 16, 0, 65535, 1),
  ([110, 111, 112], 3573751839, [], 0, 0, 0, 0, 0, 0, 0, 0, 0)]
theorem table_run : (dfun cx104 Tryz.f104 []).run = some (.sl rowXE rowsX [] .ro) := by kernel_rfl
def tableS : Ab.Spec := fun args => match args with
  | [] => .leaf (.sl rowXE rowsX [] .ro)
  | _ => .fail
theorem tableS_ok : Sound Tryz.prog 104 tableS := by
  intro args out h
  unfold tableS at h
  split at h
  rotate_left
  · cases h
  simp only [Tree.run, Option.some.injEq] at h
  subst h
  exact pcall_fun' (cx := cx104) (fn := Tryz.f104) (cx1_ok (.cons numXS_ok (.nil _)) (.cons rowsMS_ok (.nil _)) rfl rfl) (by kernel_rfl) (by kernel_rfl) (by kernel_rfl) table_run
theorem rowsX_len : rowsX.length = 54 := by kernel_rfl
end Go.Rk
