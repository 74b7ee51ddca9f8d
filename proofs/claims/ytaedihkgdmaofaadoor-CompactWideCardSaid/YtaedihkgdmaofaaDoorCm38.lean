/-
  compact: the document's Wide. Conditions: none.
-/
import Derived.Test.YtaedihkgdmaofaaDoorCm27
import Derived.Test.YtaedihkgdmaofaaDoorCm17
namespace Go.Cmp
open Go Go.Ab Go.Proofs

/-- Check, its answer opaque. -/
def chkE (E : InsT → Int) : Ab.Spec := fun args => match args with
  | [.agg [.str nm, .int .i64 a, .int .i64 b, .int .i64 c, .int .i64 d, .int .i64 n]] => .leaf (.int .i64 (E (nm, a, b, c, d, n)))
  | _ => .fail
theorem chkE_ok : Sound Tryd.prog 27 (chkE encE) := checkXS_ok
noncomputable def cxWi (E : InsT → Int) : Cx := { P := Tryd.prog, n := 153, tab := [(27, chkE E)], mtab := [], refs := [], keeps := [0, 1, 2, 3, 4, 5, 9, 15, 16, 22, 34, 46, 49, 65, 71, 75, 81, 99, 103, 109, 115, 125, 130, 135, 142] }
theorem cxWi_ok : CxOk (cxWi encE) := cx1_ok (ok1 chkE_ok) (fun p h => by cases h) rfl rfl
noncomputable def wiR (p : RowT × LongT) (E : InsT → Int) (a b c d n : Int) : Option V := (dfun (cxWi E) Tryd.f19 [.agg [.str p.1.1, .int .i64 a, .int .i64 b, .int .i64 c, .int .i64 d, .int .i64 n]]).fin
def wiO (p : RowT × LongT) (E : InsT → Int) (a b c d n : Int) : Option V :=
  cond (E (p.1.1, a, b, c, d, n) != 0) (some (.tup [insV zeroI, .int .i64 (E (p.1.1, a, b, c, d, n))])) (some (.tup [insV (wideF p.2 (p.1.1, a, b, c, d, n)), .int .i64 0]))
theorem wi_0 : (partL 0).map wiR = (partL 0).map wiO := by kernel_rfl
theorem wi_1 : (partL 1).map wiR = (partL 1).map wiO := by kernel_rfl
theorem wi_2 : (partL 2).map wiR = (partL 2).map wiO := by kernel_rfl
theorem wi_3 : (partL 3).map wiR = (partL 3).map wiO := by kernel_rfl
theorem wi_4 : (partL 4).map wiR = (partL 4).map wiO := by kernel_rfl
theorem wi_5 : (partL 5).map wiR = (partL 5).map wiO := by kernel_rfl
theorem wi_all {x : RowT} (hx : x ∈ rowsL) : wiR (x, longs x) = wiO (x, longs x) :=
  six_all (l := pairsW) pairsW_len (fun k hk => match k, hk with
    | 0, _ => wi_0
    | 1, _ => wi_1
    | 2, _ => wi_2
    | 3, _ => wi_3
    | 4, _ => wi_4
    | 5, _ => wi_5) (pairsW_mem hx)
/-- One without a row. -/
def chk7 : Ab.Spec := fun args => match args with
  | [.agg [.str nm, .int .i64 _, .int .i64 _, .int .i64 _, .int .i64 _, .int .i64 _]] => .req (!fok nm) (.leaf (.int .i64 7))
  | _ => .fail
theorem chk7_ok : Sound Tryd.prog 27 chk7 := by
  intro args out h
  refine checkXS_ok args out ?_
  unfold chk7 at h
  split at h
  rotate_left
  · cases h
  obtain ⟨h1, h⟩ := req_run h
  have h := leaf_out h
  subst h
  have h1 : fok _ = false := (Bool.not_eq_true' _).mp h1
  unfold checkXS encE
  simp only
  rw [h1]
  rfl
noncomputable def cxW7 : Cx := { P := Tryd.prog, n := 153, tab := [(27, chk7)], mtab := [], refs := [], keeps := [0, 1, 2, 3, 4, 5, 9, 15, 16, 22, 34, 46, 49, 65, 71, 75, 81, 99, 103, 109, 115, 125, 130, 135, 142] }
theorem wi7_eq (nm : List UInt8) (a b c d n : Int) : (dfun cxW7 Tryd.f19 [.agg [.str nm, .int .i64 a, .int .i64 b, .int .i64 c, .int .i64 d, .int .i64 n]]).fin = cond (!fok nm) (some (.tup [insV zeroI, .int .i64 7])) none := by kernel_rfl
def wideXS : Ab.Spec := fun args => match args with
  | [.agg [.str nm, .int .i64 a, .int .i64 b, .int .i64 c, .int .i64 d, .int .i64 n]] => .leaf (.tup [insV (wideA (nm, a, b, c, d, n)), .int .i64 (encE (nm, a, b, c, d, n))])
  | _ => .fail
theorem wideXS_ok : Sound Tryd.prog 19 wideXS := by
  intro args out h
  unfold wideXS at h
  split at h
  rotate_left
  · cases h
  rename_i nm a b c d n
  have h := leaf_out h
  subst h
  cases hf : fok nm
  · have e : encE (nm, a, b, c, d, n) = 7 := by unfold encE; simp only; rw [hf]; rfl
    have w : wideA (nm, a, b, c, d, n) = zeroI := by unfold wideA; rw [e]; rfl
    rw [e, w]
    refine pcall_fun' (cx := cxW7) (fn := Tryd.f19) (cx1_ok (ok1 chk7_ok) (fun p h => by cases h) rfl rfl) (by kernel_rfl) (by kernel_rfl) rfl ((Tree.fin_run _).symm.trans ((wi7_eq nm a b c d n).trans ?_))
    rw [hf]
    rfl
  · obtain ⟨hx, hn, _⟩ := frow_mem hf
    have hw := congrFun (congrFun (congrFun (congrFun (congrFun (congrFun (wi_all hx) encE) a) b) c) d) n
    unfold wiR wiO at hw
    simp only at hw
    rw [hn] at hw
    refine pcall_fun' (cx := cxWi encE) (fn := Tryd.f19) cxWi_ok (by kernel_rfl) (by kernel_rfl) rfl ((Tree.fin_run _).symm.trans (hw.trans ?_))
    unfold wideA bne
    cases he : (encE (nm, a, b, c, d, n) == 0)
    · rfl
    · rw [eq_of_beq he]
      rfl

end Go.Cmp
