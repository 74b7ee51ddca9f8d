/-
  compact: the short one of a row, Wide and Short. Conditions: none.
-/
import Derived.Test.YtaedihkgdmaofaaGreatDoorCz16
namespace Go.Cmp
open Go Go.Ab Go.Proofs

/-- The last register that a long one's letters name. -/
def lastF (c : Int) (t : LongT) (w : InsT) : Int := cond (t.2.2.2.1.1 == c) w.2.2.2.1 (cond (t.2.2.1.1 == c) w.2.2.1 (cond (t.2.1.1 == c) w.2.1 0))
def narrowF (x : RowT) (t : LongT) (w : InsT) : InsT := (x.1, lastF 1 t w, lastF 2 t w, lastF 3 t w, 0, cond t.2.2.2.2 w.2.2.2.2.2 0)
def insEq (i j : InsT) : Bool := strEq i.1 j.1 && (i.2.1 == j.2.1 && (i.2.2.1 == j.2.2.1 && (i.2.2.2.1 == j.2.2.2.1 && (i.2.2.2.2.1 == j.2.2.2.2.1 && (i.2.2.2.2.2 == j.2.2.2.2.2 && true)))))
def narrowB (x : RowT) (t : LongT) (w : InsT) : Bool := strEq t.1 w.1 && (faultyF x (narrowF x t w) == 0 && insEq (wideF t (narrowF x t w)) w)

noncomputable def cxNa : Cx := { P := Tryz.prog, n := 74, tab := [(36, wordsS), (35, faultyS), (25, wideS)], mtab := [], refs := [], keeps := [0, 1, 2, 3, 4, 5, 6, 7, 8, 9, 22, 23, 24, 25, 33, 34, 38, 42, 50], fuel := 5 }
theorem cxNa_ok : CxOk cxNa := cx1_ok (.cons wordsS_ok (.cons faultyS_ok (ok1 wideS_ok))) (fun p h => by cases h) rfl rfl
noncomputable def narR (p : RowT × LongT) (i : InsT) : Option V := (dfun cxNa Tryz.f26 [.agg (rowL p.1), .agg (insL i)]).fin
def narO (p : RowT × LongT) (i : InsT) : Option V :=
  cond (strEq p.2.1 i.1) (cond (faultyF p.1 (narrowF p.1 p.2 i) == 0) (some (.tup [insV (narrowF p.1 p.2 i), .bool (insEq (wideF p.2 (narrowF p.1 p.2 i)) i)]))
    (some (.tup [insV (narrowF p.1 p.2 i), .bool false]))) (some (.tup [insV (narrowF p.1 p.2 i), .bool false]))
theorem nar_0 : (partL 0).map narR = (partL 0).map narO := by kernel_rfl
theorem nar_1 : (partL 1).map narR = (partL 1).map narO := by kernel_rfl
theorem nar_2 : (partL 2).map narR = (partL 2).map narO := by kernel_rfl
theorem nar_3 : (partL 3).map narR = (partL 3).map narO := by kernel_rfl
theorem nar_4 : (partL 4).map narR = (partL 4).map narO := by kernel_rfl
theorem nar_5 : (partL 5).map narR = (partL 5).map narO := by kernel_rfl
theorem nar_all {x : RowT} (hx : x ∈ rowsL) : narR (x, longs x) = narO (x, longs x) :=
  six_all (l := pairsW) pairsW_len (fun k hk => match k, hk with
    | 0, _ => nar_0
    | 1, _ => nar_1
    | 2, _ => nar_2
    | 3, _ => nar_3
    | 4, _ => nar_4
    | 5, _ => nar_5) (pairsW_mem hx)
theorem narO_eq (x : RowT) (t : LongT) (i : InsT) : narO (x, t) i = some (.tup [insV (narrowF x t i), .bool (narrowB x t i)]) := by
  unfold narO narrowB
  simp only
  cases strEq t.1 i.1
  · rfl
  · cases (faultyF x (narrowF x t i) == 0) <;> rfl
def narrowS : Ab.Spec := fun args => match args with
  | [.agg [.str n, .str b, .int .i64 lo, .int .i64 hi, .int .i64 by_, .str no, .str lg], .agg [.str nm, .int .i64 ia, .int .i64 ib, .int .i64 ic, .int .i64 id, .int .i64 im]] =>
    .req (isRowB (n, b, lo, hi, by_, no, lg)) (.leaf (.tup [insV (narrowF (n, b, lo, hi, by_, no, lg) (longs (n, b, lo, hi, by_, no, lg)) (nm, ia, ib, ic, id, im)), .bool (narrowB (n, b, lo, hi, by_, no, lg) (longs (n, b, lo, hi, by_, no, lg)) (nm, ia, ib, ic, id, im))]))
  | _ => .fail
theorem narrowS_ok : Sound Tryz.prog 26 narrowS := by
  intro args out h
  unfold narrowS at h
  split at h
  rotate_left
  · cases h
  rename_i n b lo hi by_ no lg nm ia ib ic id im
  obtain ⟨h1, h⟩ := req_run h
  have h := leaf_out h
  subst h
  have hw := (congrFun (nar_all (isRowB_mem h1)) (nm, ia, ib, ic, id, im)).trans (narO_eq _ _ _)
  unfold narR at hw
  exact pcall_fun' (cx := cxNa) (fn := Tryz.f26) cxNa_ok (by kernel_rfl) (by kernel_rfl) rfl ((Tree.fin_run _).symm.trans hw)

/-! Wide -/

/-- The context of foundry/compact.Wide. -/
noncomputable def cx11 : Cx := { P := Tryz.prog, n := 18, tab := [(20, chkS), (25, wideS)], mtab := [], refs := [], keeps := [0, 1, 2, 3, 4, 5, 12] }
def wideT (nm : List UInt8) (a b c d n : Int) : Tree V :=
  (.br (encE (nm, a, b, c, d, n) != 0) (.leaf (.tup [(.agg [(.str []), (.int .i64 0), (.int .i64 0), (.int .i64 0), (.int .i64 0), (.int .i64 0)]), (.int .i64 (encE (nm, a, b, c, d, n)))])) (.br (isRowB (Prod.fst (frow nm), Prod.fst (Prod.snd (frow nm)), Prod.fst (Prod.snd (Prod.snd (frow nm))), Prod.fst (Prod.snd (Prod.snd (Prod.snd (frow nm)))), Prod.fst (Prod.snd (Prod.snd (Prod.snd (Prod.snd (frow nm))))), Prod.fst (Prod.snd (Prod.snd (Prod.snd (Prod.snd (Prod.snd (frow nm)))))), Prod.snd (Prod.snd (Prod.snd (Prod.snd (Prod.snd (Prod.snd (frow nm)))))))) (.leaf (.tup [(.agg [(.str (Prod.fst (wideF (longs (Prod.fst (frow nm), Prod.fst (Prod.snd (frow nm)), Prod.fst (Prod.snd (Prod.snd (frow nm))), Prod.fst (Prod.snd (Prod.snd (Prod.snd (frow nm)))), Prod.fst (Prod.snd (Prod.snd (Prod.snd (Prod.snd (frow nm))))), Prod.fst (Prod.snd (Prod.snd (Prod.snd (Prod.snd (Prod.snd (frow nm)))))), Prod.snd (Prod.snd (Prod.snd (Prod.snd (Prod.snd (Prod.snd (frow nm)))))))) (nm, a, b, c, d, n)))), (.int .i64 (Prod.fst (Prod.snd (wideF (longs (Prod.fst (frow nm), Prod.fst (Prod.snd (frow nm)), Prod.fst (Prod.snd (Prod.snd (frow nm))), Prod.fst (Prod.snd (Prod.snd (Prod.snd (frow nm)))), Prod.fst (Prod.snd (Prod.snd (Prod.snd (Prod.snd (frow nm))))), Prod.fst (Prod.snd (Prod.snd (Prod.snd (Prod.snd (Prod.snd (frow nm)))))), Prod.snd (Prod.snd (Prod.snd (Prod.snd (Prod.snd (Prod.snd (frow nm)))))))) (nm, a, b, c, d, n))))), (.int .i64 (Prod.fst (Prod.snd (Prod.snd (wideF (longs (Prod.fst (frow nm), Prod.fst (Prod.snd (frow nm)), Prod.fst (Prod.snd (Prod.snd (frow nm))), Prod.fst (Prod.snd (Prod.snd (Prod.snd (frow nm)))), Prod.fst (Prod.snd (Prod.snd (Prod.snd (Prod.snd (frow nm))))), Prod.fst (Prod.snd (Prod.snd (Prod.snd (Prod.snd (Prod.snd (frow nm)))))), Prod.snd (Prod.snd (Prod.snd (Prod.snd (Prod.snd (Prod.snd (frow nm)))))))) (nm, a, b, c, d, n)))))), (.int .i64 (Prod.fst (Prod.snd (Prod.snd (Prod.snd (wideF (longs (Prod.fst (frow nm), Prod.fst (Prod.snd (frow nm)), Prod.fst (Prod.snd (Prod.snd (frow nm))), Prod.fst (Prod.snd (Prod.snd (Prod.snd (frow nm)))), Prod.fst (Prod.snd (Prod.snd (Prod.snd (Prod.snd (frow nm))))), Prod.fst (Prod.snd (Prod.snd (Prod.snd (Prod.snd (Prod.snd (frow nm)))))), Prod.snd (Prod.snd (Prod.snd (Prod.snd (Prod.snd (Prod.snd (frow nm)))))))) (nm, a, b, c, d, n))))))), (.int .i64 (Prod.fst (Prod.snd (Prod.snd (Prod.snd (Prod.snd (wideF (longs (Prod.fst (frow nm), Prod.fst (Prod.snd (frow nm)), Prod.fst (Prod.snd (Prod.snd (frow nm))), Prod.fst (Prod.snd (Prod.snd (Prod.snd (frow nm)))), Prod.fst (Prod.snd (Prod.snd (Prod.snd (Prod.snd (frow nm))))), Prod.fst (Prod.snd (Prod.snd (Prod.snd (Prod.snd (Prod.snd (frow nm)))))), Prod.snd (Prod.snd (Prod.snd (Prod.snd (Prod.snd (Prod.snd (frow nm)))))))) (nm, a, b, c, d, n)))))))), (.int .i64 (Prod.snd (Prod.snd (Prod.snd (Prod.snd (Prod.snd (wideF (longs (Prod.fst (frow nm), Prod.fst (Prod.snd (frow nm)), Prod.fst (Prod.snd (Prod.snd (frow nm))), Prod.fst (Prod.snd (Prod.snd (Prod.snd (frow nm)))), Prod.fst (Prod.snd (Prod.snd (Prod.snd (Prod.snd (frow nm))))), Prod.fst (Prod.snd (Prod.snd (Prod.snd (Prod.snd (Prod.snd (frow nm)))))), Prod.snd (Prod.snd (Prod.snd (Prod.snd (Prod.snd (Prod.snd (frow nm)))))))) (nm, a, b, c, d, n))))))))]), (.int .i64 0)])) .fail))

theorem wideT_eq (nm : List UInt8) (a b c d n : Int) : (dfun cx11 Tryz.f11 [.agg [.str nm, .int .i64 a, .int .i64 b, .int .i64 c, .int .i64 d, .int .i64 n]]).run = (wideT nm a b c d n).run :=
  (show (dfun cx11 Tryz.f11 [.agg [.str nm, .int .i64 a, .int .i64 b, .int .i64 c, .int .i64 d, .int .i64 n]]).run = (wideT nm a b c d n).out by kernel_rfl).trans (Tree.out_run _)


/-- The long one of what may be. -/
def wideA (i : InsT) : InsT := cond (encE i == 0) (wideF (longs (frow i.1)) i) zeroI
def wideAS : Ab.Spec := fun args => match args with
  | [.agg [.str nm, .int .i64 a, .int .i64 b, .int .i64 c, .int .i64 d, .int .i64 n]] => .leaf (.tup [insV (wideA (nm, a, b, c, d, n)), .int .i64 (encE (nm, a, b, c, d, n))])
  | _ => .fail
theorem wideAS_ok : Sound Tryz.prog 11 wideAS := by
  intro args out h
  unfold wideAS at h
  split at h
  rotate_left
  · cases h
  rename_i nm a b c d n
  have h := leaf_out h
  subst h
  refine pcall_fun' (cx := cx11) (fn := Tryz.f11) (cx1_ok (.cons chkS_ok (ok1 wideS_ok)) (fun p h => by cases h) rfl rfl) (by kernel_rfl) (by kernel_rfl) rfl ((wideT_eq nm a b c d n).trans ?_)
  unfold wideT wideA
  rw [br_run]
  unfold bne
  cases he : (encE (nm, a, b, c, d, n) == 0)
  · rfl
  · have hE := eq_of_beq he
    have hrow : isRowB (frow nm) = true := isRowB_of (frow_mem (enc_parts hE).1).1
    rw [hE]
    show (Tree.br (isRowB (frow nm)) _ _).run = _
    exact (br_t hrow).trans rfl

/-! Names -/

/-- The context of foundry/compact.Names. -/
noncomputable def cx5 : Cx := { P := Tryz.prog, n := 17, tab := [(14, rowsS)], mtab := [], refs := [], keeps := [0, 1, 3, 4, 5, 6, 7], fuel := 40 }
def namesL : List (List UInt8) := rowsL.map (fun r => r.1)
theorem names_run : (dfun cx5 Tryz.f5 []).run = some (.sl .str namesL [] .ro) := by kernel_rfl
def namesS : Ab.Spec := fun args => match args with
  | [] => .leaf (.sl .str namesL [] .ro)
  | _ => .fail
theorem namesS_ok : Sound Tryz.prog 5 namesS := by
  intro args out h
  unfold namesS at h
  split at h
  rotate_left
  · cases h
  have h := leaf_out h
  subst h
  exact pcall_fun' (cx := cx5) (fn := Tryz.f5) (cx1_ok (ok1 rowsS_ok) (fun p h => by cases h) rfl rfl) (by kernel_rfl) (by kernel_rfl) (by kernel_rfl) names_run

end Go.Cmp
