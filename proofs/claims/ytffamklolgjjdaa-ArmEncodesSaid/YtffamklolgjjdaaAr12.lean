/-
  Decode of arm. Conditions: none.
-/
import Derived.Test.YtffamklolgjjdaaAr11
namespace Go.Arm
open Go Go.Ab Go.Proofs Go.Wd

/-- The context of foundry/arm.Decode. -/
noncomputable def cx15 : Cx := { P := Try.prog, n := 100, tab := [(29, rowsS), (30, getS), (24, faultyS), (25, bitsS)], mtab := [], refs := [], keeps := [0, 1, 4, 5, 6, 7, 9, 10, 11, 21, 57, 58, 59, 60, 96] }

/-- Would this row's instruction be the word? -/
def readF (w : Int) (r : RowT) : InsT := (r.1, getF r.2.2.1 w, getF r.2.2.2.1 w, getF r.2.2.2.2.1 w, getF r.2.2.2.2.2.1 w, getF r.2.2.2.2.2.2.1 w)
def dMatch (w : Int) (r : RowT) : Bool := cond (faultyF r (readF w r) == 0) (bitsF r (readF w r) == w) false
def drow (w : Int) : Option RowT := rowsL.find? (dMatch w)
def zeroI : InsT := ([], 0, 0, 0, 0, 0)
def decI (w : Int) : InsT := match drow w with
  | some r => readF w r
  | none => zeroI
def decOk (w : Int) : Bool := (drow w).isSome

theorem cxDec_ok : CxOk cx15 := cx1_ok (.cons rowsS_ok (.cons getS_ok (.cons faultyS_ok (.cons bitsS_ok (.nil _))))) (.nil _) rfl rfl

abbrev insO (i : InsT) : O := .cells (insL i) 29

def dRound (l : List RowT) (w i : Int) : Tree St :=
  .br (decide (i < (l.length : Nat))) (.br (inside i l.length) (.br (numOk (rowAt l i.toNat).2.2.1) (.br (numOk (rowAt l i.toNat).2.2.2.1) (.br (numOk (rowAt l i.toNat).2.2.2.2.1) (.br (numOk (rowAt l i.toNat).2.2.2.2.2.1) (.br (numOk (rowAt l i.toNat).2.2.2.2.2.2.1)
    (.br (byOk (rowAt l i.toNat).2.2.2.2.2.2.1) (.br (faultyF (rowAt l i.toNat) (readF w (rowAt l i.toNat)) == 0)
      (.br (rowOk (rowAt l i.toNat)) (.br (bitsF (rowAt l i.toNat) (readF w (rowAt l i.toNat)) == w)
        (.leaf (.ret, [(4, .ptr 0 0), (5, .int .i64 4), (6, .int .i64 0), (7, .int .u32 w), (9, .ptr 1 0), (10, .ptr 2 0), (57, .sl rowE l [] .ro), (58, .int .i64 (l.length : Nat)), (59, .int .i64 i), (60, .bool true), (96, .bool true)],
          [insO (readF w (rowAt l i.toNat)), .cells (rowL (rowAt l i.toNat)) 59, insO (readF w (rowAt l i.toNat))]))
        (.leaf (.normal, [(4, .ptr 0 0), (5, .int .i64 0), (6, .int .i64 0), (7, .int .u32 w), (9, .ptr 1 0), (10, .ptr 2 0), (57, .sl rowE l [] .ro), (58, .int .i64 (l.length : Nat)), (59, .int .i64 (IntKind.wrap .i64 (i + 1))), (60, .bool true), (96, .bool false)],
          [insO zeroI, .cells (rowL (rowAt l i.toNat)) 59, insO (readF w (rowAt l i.toNat))]))) .fail)
      (.leaf (.normal, [(4, .ptr 0 0), (5, .int .i64 0), (6, .int .i64 0), (7, .int .u32 w), (9, .ptr 1 0), (10, .ptr 2 0), (57, .sl rowE l [] .ro), (58, .int .i64 (l.length : Nat)), (59, .int .i64 (IntKind.wrap .i64 (i + 1))), (60, .bool true), (96, .bool false)],
          [insO zeroI, .cells (rowL (rowAt l i.toNat)) 59, insO (readF w (rowAt l i.toNat))]))) .fail) .fail) .fail) .fail) .fail) .fail) .fail)
    (.leaf (.exit 1, [(4, .ptr 0 0), (5, .int .i64 0), (6, .int .i64 0), (7, .int .u32 w), (57, .sl rowE l [] .ro), (58, .int .i64 (l.length : Nat)), (59, .int .i64 i), (60, .bool false)], [insO zeroI]))

theorem dRound_eq (l : List RowT) (w i : Int) : (dcode cx15 (cin (cin (c2 (c1 (c2 (c2 (c2 (bodyOf Try.f15)))))))) [(4, .ptr 0 0), (5, .int .i64 0), (6, .int .i64 0), (7, .int .u32 w), (57, .sl rowE l [] .ro), (58, .int .i64 l.length), (59, .int .i64 i)] [insO zeroI]).run = (dRound l w i).run :=
  (show (dcode cx15 (cin (cin (c2 (c1 (c2 (c2 (c2 (bodyOf Try.f15)))))))) [(4, .ptr 0 0), (5, .int .i64 0), (6, .int .i64 0), (7, .int .u32 w), (57, .sl rowE l [] .ro), (58, .int .i64 l.length), (59, .int .i64 i)] [insO zeroI]).run = (dRound l w i).out by kernel_rfl).trans (Tree.out_run _)

def decSt (w : Int) (i : { i : Nat // i ≤ rowsL.length ∧ (rowsL.take i).find? (dMatch w) = none }) : T × List O :=
  ([(4, .ptr 0 0), (5, .int .i64 0), (6, .int .i64 0), (7, .int .u32 w), (57, .sl rowE rowsL [] .ro), (58, .int .i64 rowsL.length), (59, .int .i64 i.1)], [insO zeroI])

/-- What Decode answers behind its loop. -/
def decQ (w : Int) (e : AEx) (t : T) (H : List O) : Prop :=
  (e = .ret ∨ e = .normal) ∧ answerV Try.prog Try.f15.results.toList H t = some (.tup [insV (decI w), .int .i64 (cond (decOk w) 4 0), .int .i64 (cond (decOk w) 0 22)])

theorem decode_loop (w : Int) : AWP Try.prog 100 (c2 (c2 (c2 (bodyOf Try.f15)))) (decQ w) [(4, .ptr 0 0), (5, .int .i64 0), (6, .int .i64 0), (7, .int .u32 w)] [insO zeroI] := by
  have e : c2 (c2 (c2 (bodyOf Try.f15))) = .seq (.seq (c1 (c1 (c2 (c2 (c2 (bodyOf Try.f15)))))) (.block 1 (.loop (cin (cin (c2 (c1 (c2 (c2 (c2 (bodyOf Try.f15))))))))))) (c2 (c2 (c2 (c2 (bodyOf Try.f15))))) := by kernel_rfl
  rw [e]
  have hlen := rowsL_len
  refine AWP_seq (AWP_seq (AWP_run (cx := cx15) rfl rfl cxDec_ok (s := (.normal, [(4, .ptr 0 0), (5, .int .i64 0), (6, .int .i64 0), (7, .int .u32 w), (57, .sl rowE rowsL [] .ro), (58, .int .i64 54), (59, .int .i64 0)], [insO zeroI])) (by kernel_rfl) ?_))
  refine AWP_block ?_
  refine AWP.less (s := (decSt w ⟨0, Nat.zero_le _, rfl⟩).1) (Fits.tle ⟨rfl, rfl, rfl, rfl, rfl, by kernel_rfl, rfl, trivial⟩) ?_
  refine AWP_rounds (cx := cx15) (P := Try.prog) (n := 100) rfl rfl cxDec_ok (decSt w) (fun i => 54 - i.1) ?_ ⟨0, Nat.zero_le _, rfl⟩
  rintro ⟨i, hi, hnone⟩
  refine Tree.all_run_eq (dRound_eq rowsL w i) ?_
  have next : ∀ (hlt : i < rowsL.length) (hp : dMatch w (rowsL.getD i zeroR) = false), (rowsL.take (i + 1)).find? (dMatch w) = none := fun hlt hp => take_none hlt hnone hp
  have hfine : i < rowsL.length → rowFine (rowAt rowsL i) = true := fun hlt => by
    refine List.all_eq_true.1 rows_fine _ ?_
    show rowsL.getD i zeroR ∈ rowsL
    rw [getD_lt hlt]
    exact List.getElem_mem hlt
  have step : V.int .i64 (IntKind.wrap .i64 ((i : Int) + 1)) = V.int .i64 ((i + 1 : Nat) : Int) := by
    rw [wrap_i64 (by omega) (by omega)]
    rfl
  refine ⟨fun hlt => ⟨fun hin => ?_, fun hin => ?_⟩, fun hge => ?_⟩
  · have hlt : i < rowsL.length := Int.ofNat_lt.1 (of_decide_eq_true hlt)
    obtain ⟨g0, g⟩ := Bool.and_eq_true_iff.1 (hfine hlt)
    have g' := g
    simp only [rowOk, Bool.and_eq_true] at g
    obtain ⟨g1, g2, g3, g4, g5⟩ := g
    refine all_t g1 (all_t g2 (all_t g3 (all_t g4 (all_t g5 (all_t g0 ⟨fun hm => all_t g' ⟨fun hw => ?_, fun hw => ?_⟩, fun hm => ?_⟩)))))
    · have hp : dMatch w (rowAt rowsL i) = true := by
        unfold dMatch
        rw [show (faultyF (rowAt rowsL i) (readF w (rowAt rowsL i)) == 0) = true from hm]
        exact hw
      have hf : drow w = some (rowAt rowsL i) := take_some hlt hnone hp
      refine ⟨[], _, rfl, ?_⟩
      refine ⟨.inl rfl, ?_⟩
      have h1 : decI w = readF w (rowAt rowsL i) := by unfold decI; rw [hf]
      have h2 : decOk w = true := by unfold decOk; rw [hf]; rfl
      show answerV _ _ _ _ = some _
      rw [h1, h2]
      kernel_rfl
    · have hp : dMatch w (rowAt rowsL i) = false := by
        unfold dMatch
        rw [show (faultyF (rowAt rowsL i) (readF w (rowAt rowsL i)) == 0) = true from hm]
        exact hw
      exact ⟨[], _, rfl, ⟨i + 1, hlt, next hlt hp⟩, by show 54 - (i + 1) < 54 - i; omega, Fits.tle ⟨rfl, rfl, rfl, rfl, rfl, rfl, step, trivial⟩, rfl⟩
    · have hp : dMatch w (rowAt rowsL i) = false := by
        unfold dMatch
        rw [show (faultyF (rowAt rowsL i) (readF w (rowAt rowsL i)) == 0) = false from hm]
        rfl
      exact ⟨[], _, rfl, ⟨i + 1, hlt, next hlt hp⟩, by show 54 - (i + 1) < 54 - i; omega, Fits.tle ⟨rfl, rfl, rfl, rfl, rfl, rfl, step, trivial⟩, rfl⟩
  · exfalso
    have hlt : i < rowsL.length := Int.ofNat_lt.1 (of_decide_eq_true hlt)
    exact Bool.noConfusion ((inside_of (Int.natCast_nonneg i) (Int.ofNat_lt.2 hlt)).symm.trans hin)
  · have hge : ¬ i < rowsL.length := fun h => of_decide_eq_false hge (Int.ofNat_lt.2 h)
    have hi' : i = rowsL.length := by omega
    refine ⟨[], _, rfl, ?_⟩
    show AWP _ _ _ _ _ _
    refine AWP.less (s := [(4, .ptr 0 0), (5, .int .i64 0), (6, .int .i64 0), (7, .int .u32 w)]) (Fits.tle ⟨rfl, rfl, rfl, rfl, trivial⟩) ?_
    refine AWP_run (cx := cx15) rfl rfl cxDec_ok (s := (.ret, [(4, .ptr 0 0), (5, .int .i64 0), (6, .int .i64 22), (7, .int .u32 w)], [insO zeroI])) (by kernel_rfl) ?_
    refine ⟨.inl rfl, ?_⟩
    have hf : drow w = none := by unfold drow; rw [← hnone, hi', List.take_length]
    have h1 : decI w = zeroI := by unfold decI; rw [hf]
    have h2 : decOk w = false := by unfold decOk; rw [hf]; rfl
    show answerV _ _ _ _ = some _
    rw [h1, h2]
    kernel_rfl

def decodeB (l sp : List Int) (fl : Fl) (at_ : Int) : Tree St :=
  (.br (decide (at_ < 0)) (.leaf (.ret, [(0, (.sl (.int .u8) (l) (sp) fl)), (1, (.int .i64 at_)), (4, (.ptr 0 0)), (5, (.int .i64 0)), (6, (.int .i64 5)), (11, (.bool true))], [(.cells [(.str []), (.int .i64 0), (.int .i64 0), (.int .i64 0), (.int .i64 0), (.int .i64 0)] 29)])) (.br (decide (↑(List.length l) < at_)) (.leaf (.ret, [(0, (.sl (.int .u8) (l) (sp) fl)), (1, (.int .i64 at_)), (4, (.ptr 0 0)), (5, (.int .i64 0)), (6, (.int .i64 5)), (11, (.bool true))], [(.cells [(.str []), (.int .i64 0), (.int .i64 0), (.int .i64 0), (.int .i64 0), (.int .i64 0)] 29)])) (.br (decide (IntKind.wrap IntKind.i64 (↑(List.length l) - at_) < 4)) (.leaf (.ret, [(0, (.sl (.int .u8) (l) (sp) fl)), (1, (.int .i64 at_)), (4, (.ptr 0 0)), (5, (.int .i64 0)), (6, (.int .i64 2)), (11, (.bool false)), (21, (.bool true))], [(.cells [(.str []), (.int .i64 0), (.int .i64 0), (.int .i64 0), (.int .i64 0), (.int .i64 0)] 29)])) (.leaf (.normal, [(0, (.sl (.int .u8) (l) (sp) fl)), (1, (.int .i64 at_)), (4, (.ptr 0 0)), (5, (.int .i64 0)), (6, (.int .i64 0)), (11, (.bool false)), (21, (.bool false))], [(.cells [(.str (Prod.fst zeroI)), (.int .i64 (Prod.fst (Prod.snd zeroI))), (.int .i64 (Prod.fst (Prod.snd (Prod.snd zeroI)))), (.int .i64 (Prod.fst (Prod.snd (Prod.snd (Prod.snd zeroI))))), (.int .i64 (Prod.fst (Prod.snd (Prod.snd (Prod.snd (Prod.snd zeroI)))))), (.int .i64 (Prod.snd (Prod.snd (Prod.snd (Prod.snd (Prod.snd zeroI))))))] 29)])))))

theorem decodeB_eq (l sp : List Int) (fl : Fl) (at_ : Int) : (dcode cx15 (c1 (c2 (bodyOf Try.f15))) [(0, .sl (.int .u8) l sp fl), (1, .int .i64 at_), (4, .ptr 0 0), (5, .int .i64 0), (6, .int .i64 0)] [insO zeroI]).run = (decodeB l sp fl at_).run :=
  (show (dcode cx15 (c1 (c2 (bodyOf Try.f15))) [(0, .sl (.int .u8) l sp fl), (1, .int .i64 at_), (4, .ptr 0 0), (5, .int .i64 0), (6, .int .i64 0)] [insO zeroI]).run = (decodeB l sp fl at_).out by kernel_rfl).trans (Tree.out_run _)

def decodeW (l sp : List Int) (fl : Fl) (at_ : Int) : Tree St :=
  (.br (inside at_ (List.length l)) (.br (inside (IntKind.wrap IntKind.i64 (at_ + 1)) (List.length l)) (.br (inside (IntKind.wrap IntKind.i64 (at_ + 2)) (List.length l)) (.br (inside (IntKind.wrap IntKind.i64 (at_ + 3)) (List.length l)) (.leaf (.normal, [(0, (.sl (.int .u8) (l) (sp) fl)), (1, (.int .i64 at_)), (4, (.ptr 0 0)), (5, (.int .i64 0)), (6, (.int .i64 0)), (7, (.int .u32 (IntKind.wrap IntKind.u32 ↑(BitVec.toNat (BitVec.ofInt 32 (IntKind.wrap IntKind.u32 ↑(BitVec.toNat (BitVec.ofInt 32 (IntKind.wrap IntKind.u32 ↑(BitVec.toNat (BitVec.ofInt 32 (IntKind.wrap IntKind.u32 (tI (List.getD l (Int.toNat at_) (tI (EC.dflt (EC.int IntKind.u8)))))) ||| BitVec.ofInt 32 (IntKind.wrap IntKind.u32 (IntKind.wrap IntKind.u32 (tI (List.getD l (Int.toNat (IntKind.wrap IntKind.i64 (at_ + 1))) (tI (EC.dflt (EC.int IntKind.u8))))) * 2 ^ 8))))) ||| BitVec.ofInt 32 (IntKind.wrap IntKind.u32 (IntKind.wrap IntKind.u32 (tI (List.getD l (Int.toNat (IntKind.wrap IntKind.i64 (at_ + 2))) (tI (EC.dflt (EC.int IntKind.u8))))) * 2 ^ 16))))) ||| BitVec.ofInt 32 (IntKind.wrap IntKind.u32 (IntKind.wrap IntKind.u32 (tI (List.getD l (Int.toNat (IntKind.wrap IntKind.i64 (at_ + 3))) (tI (EC.dflt (EC.int IntKind.u8))))) * 2 ^ 24)))))))], [(.cells [(.str (Prod.fst zeroI)), (.int .i64 (Prod.fst (Prod.snd zeroI))), (.int .i64 (Prod.fst (Prod.snd (Prod.snd zeroI)))), (.int .i64 (Prod.fst (Prod.snd (Prod.snd (Prod.snd zeroI))))), (.int .i64 (Prod.fst (Prod.snd (Prod.snd (Prod.snd (Prod.snd zeroI)))))), (.int .i64 (Prod.snd (Prod.snd (Prod.snd (Prod.snd (Prod.snd zeroI))))))] 29)])) .fail) .fail) .fail) .fail)

theorem decodeW_eq (l sp : List Int) (fl : Fl) (at_ : Int) : (dcode cx15 (c1 (c2 (c2 (bodyOf Try.f15)))) [(0, .sl (.int .u8) l sp fl), (1, .int .i64 at_), (4, .ptr 0 0), (5, .int .i64 0), (6, .int .i64 0)] [insO zeroI]).run = (decodeW l sp fl at_).run :=
  (show (dcode cx15 (c1 (c2 (c2 (bodyOf Try.f15)))) [(0, .sl (.int .u8) l sp fl), (1, .int .i64 at_), (4, .ptr 0 0), (5, .int .i64 0), (6, .int .i64 0)] [insO zeroI]).run = (decodeW l sp fl at_).out by kernel_rfl).trans (Tree.out_run _)


def outOf (l : List Int) (at_ : Int) : Bool := decide (at_ < 0) || decide ((l.length : Int) < at_)
def shortOf (l : List Int) (at_ : Int) : Bool := decide (IntKind.wrap .i64 ((l.length : Int) - at_) < 4)
/-- What Decode answers. -/
def dI (l : List Int) (at_ : Int) : InsT := cond (outOf l at_ || shortOf l at_) zeroI (decI (w4 l at_))
def dN (l : List Int) (at_ : Int) : Int := cond (outOf l at_ || shortOf l at_) 0 (cond (decOk (w4 l at_)) 4 0)
def dE (l : List Int) (at_ : Int) : Int := cond (outOf l at_) 5 (cond (shortOf l at_) 2 (cond (decOk (w4 l at_)) 0 22))

set_option maxRecDepth 8000 in
theorem decode_ok (l sp : List Int) (fl : Fl) (at_ : Int) (hl : l.length < 1000000000) :
    PCall Try.prog 15 [.sl (.int .u8) l sp fl, .int .i64 at_] (.tup [insV (dI l at_), .int .i64 (dN l at_), .int .i64 (dE l at_)]) := by
  refine pcall_of' (c := bodyOf Try.f15) (fn := Try.f15) (by kernel_rfl) (by kernel_rfl) (by kernel_rfl) (by kernel_rfl) ?_
  have e : bodyOf Try.f15 = .seq (c1 (bodyOf Try.f15)) (.seq (c1 (c2 (bodyOf Try.f15))) (.seq (c1 (c2 (c2 (bodyOf Try.f15)))) (c2 (c2 (c2 (bodyOf Try.f15)))))) := by kernel_rfl
  rw [e]
  generalize hQ : (fun e t H => (e = AEx.ret ∨ e = .normal) ∧ answerV Try.prog Try.f15.results.toList H t = some (.tup [insV (dI l at_), .int .i64 (dN l at_), .int .i64 (dE l at_)])) = Q
  refine AWP_seq (AWP_run (cx := cx15) rfl rfl cxDec_ok (s := (.normal, [(0, .sl (.int .u8) l sp fl), (1, .int .i64 at_), (4, .ptr 0 0), (5, .int .i64 0), (6, .int .i64 0)], [insO zeroI])) (by kernel_rfl) ?_)
  refine AWP_seq (AWP_code (cx := cx15) rfl rfl cxDec_ok _ _ _ _ (Tree.all_run_eq (decodeB_eq l sp fl at_) ?_))
  have out1 : outOf l at_ = true → dI l at_ = zeroI ∧ dN l at_ = 0 ∧ dE l at_ = 5 := fun h => by simp [dI, dN, dE, h]
  refine ⟨fun h1 => ?_, fun h1 => ⟨fun h2 => ?_, fun h2 => ⟨fun h3 => ?_, fun h3 => ?_⟩⟩⟩
  · obtain ⟨a1, a2, a3⟩ := out1 (by unfold outOf; rw [h1]; rfl)
    subst hQ
    refine ⟨.inl rfl, ?_⟩
    show answerV _ _ _ _ = some _
    rw [a1, a2, a3]
    kernel_rfl
  · obtain ⟨a1, a2, a3⟩ := out1 (by unfold outOf; rw [h1, h2]; rfl)
    subst hQ
    refine ⟨.inl rfl, ?_⟩
    show answerV _ _ _ _ = some _
    rw [a1, a2, a3]
    kernel_rfl
  · have ho : outOf l at_ = false := by unfold outOf; rw [h1, h2]; rfl
    have hs : shortOf l at_ = true := h3
    have a1 : dI l at_ = zeroI := by simp [dI, ho, hs]
    have a2 : dN l at_ = 0 := by simp [dN, ho, hs]
    have a3 : dE l at_ = 2 := by simp [dE, ho, hs]
    subst hQ
    refine ⟨.inl rfl, ?_⟩
    show answerV _ _ _ _ = some _
    rw [a1, a2, a3]
    kernel_rfl
  · have ho : outOf l at_ = false := by unfold outOf; rw [h1, h2]; rfl
    have hs : shortOf l at_ = false := h3
    have a1 : dI l at_ = decI (w4 l at_) := by simp [dI, ho, hs]
    have a2 : dN l at_ = cond (decOk (w4 l at_)) 4 0 := by simp [dN, ho, hs]
    have a3 : dE l at_ = cond (decOk (w4 l at_)) 0 22 := by simp [dE, ho, hs]
    have g1 : ¬ at_ < 0 := of_decide_eq_false h1
    have g2 : ¬ (l.length : Int) < at_ := of_decide_eq_false h2
    have g3 : ¬ IntKind.wrap .i64 ((l.length : Int) - at_) < 4 := of_decide_eq_false h3
    rw [wrap_i64 (by omega) (by omega)] at g3
    show AWP _ _ _ _ _ _
    refine AWP.less (s := [(0, .sl (.int .u8) l sp fl), (1, .int .i64 at_), (4, .ptr 0 0), (5, .int .i64 0), (6, .int .i64 0)]) (Fits.tle ⟨rfl, rfl, rfl, rfl, rfl, trivial⟩) ?_
    refine AWP_seq (AWP_code (cx := cx15) rfl rfl cxDec_ok _ _ _ _ (Tree.all_run_eq (decodeW_eq l sp fl at_) ?_))
    have i0 : inside at_ l.length = true := inside_of (by omega) (by omega)
    have i1 : inside (IntKind.wrap .i64 (at_ + 1)) l.length = true := by rw [wrap_i64 (by omega) (by omega)]; exact inside_of (by omega) (by omega)
    have i2 : inside (IntKind.wrap .i64 (at_ + 2)) l.length = true := by rw [wrap_i64 (by omega) (by omega)]; exact inside_of (by omega) (by omega)
    have i3 : inside (IntKind.wrap .i64 (at_ + 3)) l.length = true := by rw [wrap_i64 (by omega) (by omega)]; exact inside_of (by omega) (by omega)
    refine ⟨fun _ => ⟨fun _ => ⟨fun _ => ⟨fun _ => ?_, fun h => Bool.noConfusion (i3.symm.trans h)⟩, fun h => Bool.noConfusion (i2.symm.trans h)⟩, fun h => Bool.noConfusion (i1.symm.trans h)⟩, fun h => Bool.noConfusion (i0.symm.trans h)⟩
    show AWP _ _ _ _ _ _
    refine AWP.less (s := [(4, .ptr 0 0), (5, .int .i64 0), (6, .int .i64 0), (7, .int .u32 (w4 l at_))]) (Fits.tle ⟨rfl, rfl, rfl, by kernel_rfl, trivial⟩) ?_
    subst hQ
    rw [a1, a2, a3]
    exact decode_loop (w4 l at_)

def decodeS : Ab.Spec := fun args => match args with
  | [.sl (.int .u8) l _ _, .int .i64 at_] => .req (decide (l.length < 1000000000)) (.leaf (.tup [insV (dI l at_), .int .i64 (dN l at_), .int .i64 (dE l at_)]))
  | _ => .fail

theorem decodeS_ok : Sound Try.prog 15 decodeS := by
  intro args out h
  unfold decodeS at h
  split at h
  rotate_left
  · cases h
  rename_i l sp fl at_
  obtain ⟨h1, h2⟩ := req_run h
  simp only [Tree.run, Option.some.injEq] at h2
  subst h2
  exact decode_ok l sp fl at_ (of_decide_eq_true h1)

end Go.Arm
