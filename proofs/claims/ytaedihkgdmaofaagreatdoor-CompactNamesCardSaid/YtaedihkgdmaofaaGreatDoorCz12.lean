/-
  compact's Encode. Conditions: none.
-/
import Derived.Test.YtaedihkgdmaofaaGreatDoorCz11
namespace Go.Cmp
open Go Go.Ab Go.Proofs

/-- Of one row an instruction that may be. -/
def chkAt (x : RowT) : Ab.Spec := fun args => match args with
  | [.agg [.str nm, .int .i64 a, .int .i64 b, .int .i64 c, .int .i64 d, .int .i64 n]] => .req (isAt nm x) (.req (faultyF x (nm, a, b, c, d, n) == 0) (.leaf (.tup [.agg (rowL x), .int .i64 0])))
  | _ => .fail
noncomputable def valA_ps : List Fi := [⟨22, Tryz.f22, [0, 1, 2, 3, 4, 5, 7, 8, 12, 16, 20, 24], [], 0⟩]
theorem valA_ps_ok : FisOk Tryz.prog valA_ps := ⟨⟨by kernel_rfl, by kernel_rfl⟩, trivial⟩
noncomputable def valA_ms : List Fi := []
theorem valA_ms_ok : FisOk Tryz.prog valA_ms := trivial
noncomputable def valA (d : Nat) : Tabs := deep Tryz.prog {} valA_ps valA_ms d
noncomputable def cxEn (x : RowT) : Cx := { P := Tryz.prog, n := 39, tab := [(20, chkAt x), (21, fieldsS)] ++ (valA 1).tab, mtab := [], refs := [], keeps := [0, 1, 2, 3, 4, 5, 6, 8, 15, 18, 19, 20, 21], fuel := 12 }

def u16 (n : Int) : Int := IntKind.wrap .u16 n
def u8w (n : Int) : Int := IntKind.wrap .u8 n
def or16 (a b : Int) : Int := IntKind.wrap .u16 ↑(BitVec.toNat (BitVec.ofInt 16 a ||| BitVec.ofInt 16 b))
def and16 (a b : Int) : Int := IntKind.wrap .u16 ↑(BitVec.toNat (BitVec.ofInt 16 a &&& BitVec.ofInt 16 b))
def mask16 (k : Int) : Int := u16 (u16 (1 * 2 ^ min k.toNat 16) - 1)
/-- What a field is of. -/
def srcF (f : FldT) (i : InsT) : Int := cond (f.2.1 == 97) i.2.1 (cond (f.2.1 == 98) i.2.2.1 (cond (f.2.1 == 99) i.2.2.2.1 (Int.fdiv i.2.2.2.2.2 (2 ^ min f.2.2.2.1.toNat 64))))
def valF (f : FldT) (i : InsT) : Int := cond (f.2.1 == 0) f.2.2.1 (and16 (u16 (srcF f i)) (mask16 f.1))
/-- An instruction's word, by its row. -/
def encW (x : RowT) (i : InsT) : Int := (flds x).foldl (fun w f => or16 (u16 (w * 2 ^ min f.1.toNat 16)) (valF f i)) 0
def bytes2 (w : Int) : List Int := [u8w w, u8w (Int.fdiv w (2 ^ 8))]
def encT (x : RowT) (nm : List UInt8) (a b c d n : Int) : Tree V :=
  .br (isAt nm x) (.br (faultyF x (nm, a, b, c, d, n) == 0) (.leaf (.tup [.sl (.int .u8) (bytes2 (encW x (nm, a, b, c, d, n))) [] .full, .int .i64 0])) .fail) .fail
noncomputable def encR (x : RowT) (nm : List UInt8) (a b c d n : Int) : Option V := (dfun (cxEn x) Tryz.f9 [.agg [.str nm, .int .i64 a, .int .i64 b, .int .i64 c, .int .i64 d, .int .i64 n]]).out
def encO (x : RowT) (nm : List UInt8) (a b c d n : Int) : Option V := (encT x nm a b c d n).out
theorem enc_0 : (partR 0).map encR = (partR 0).map encO := by kernel_rfl
theorem enc_1 : (partR 1).map encR = (partR 1).map encO := by kernel_rfl
theorem enc_2 : (partR 2).map encR = (partR 2).map encO := by kernel_rfl
theorem enc_3 : (partR 3).map encR = (partR 3).map encO := by kernel_rfl
theorem enc_4 : (partR 4).map encR = (partR 4).map encO := by kernel_rfl
theorem enc_5 : (partR 5).map encR = (partR 5).map encO := by kernel_rfl
theorem enc_all {x : RowT} (hx : x ∈ rowsL) : encR x = encO x := rows_all enc_0 enc_1 enc_2 enc_3 enc_4 enc_5 hx

/-- One that may not be. -/
def chkNo : Ab.Spec := fun args => match args with
  | [.agg [.str nm, .int .i64 a, .int .i64 b, .int .i64 c, .int .i64 d, .int .i64 n]] => .req (encE (nm, a, b, c, d, n) != 0) (.leaf (.tup [.agg (rowL (frow nm)), .int .i64 (encE (nm, a, b, c, d, n))]))
  | _ => .fail
theorem chkNo_ok : Sound Tryz.prog 20 chkNo := by
  intro args out h
  refine chkS_ok args out ?_
  unfold chkNo at h
  split at h
  rotate_left
  · cases h
  exact (req_run h).2
theorem chkAt_ok (x : RowT) : Sound Tryz.prog 20 (chkAt x) := by
  intro args out h
  refine chkS_ok args out ?_
  unfold chkAt at h
  split at h
  rotate_left
  · cases h
  rename_i nm a b c d n
  obtain ⟨h1, h⟩ := req_run h
  obtain ⟨h2, h⟩ := req_run h
  have h := leaf_out h
  subst h
  have hf := isAt_eq h1
  have e1 : frow nm = x := by unfold frow; rw [hf]; rfl
  have e2 : fok nm = true := by unfold fok; rw [hf]; rfl
  unfold chkS encE
  simp only
  rw [e2, e1, eq_of_beq h2]
  rfl
noncomputable def cxEx : Cx := { P := Tryz.prog, n := 39, tab := [(20, chkNo)], mtab := [], refs := [], keeps := [0, 1, 2, 3, 4, 5, 6, 8, 15, 18, 19, 20, 21], fuel := 12 }
abbrev nilV : V := .val (.slice none 0 0)
def encNo (nm : List UInt8) (a b c d n : Int) : Tree V :=
  (.br (encE (nm, a, b, c, d, n) != 0) (.br (encE (nm, a, b, c, d, n) != 0) (.leaf (.tup [(.val (Go.Value.slice Option.none 0 0)), (.int .i64 (encE (nm, a, b, c, d, n)))])) .fail) .fail)

theorem encNo_eq (nm : List UInt8) (a b c d n : Int) : (dfun cxEx Tryz.f9 [.agg [.str nm, .int .i64 a, .int .i64 b, .int .i64 c, .int .i64 d, .int .i64 n]]).run = (encNo nm a b c d n).run :=
  (show (dfun cxEx Tryz.f9 [.agg [.str nm, .int .i64 a, .int .i64 b, .int .i64 c, .int .i64 d, .int .i64 n]]).run = (encNo nm a b c d n).out by kernel_rfl).trans (Tree.out_run _)

theorem cxEn_ok (x : RowT) : CxOk (cxEn x) := cx1_ok (.cons (chkAt_ok x) (.cons fieldsS_ok (deep_ok (tabs_ok (.nil _) (fun p h => by cases h)) valA_ps_ok valA_ms_ok 1).1)) (fun p h => by cases h) rfl rfl
def encL (i : InsT) : List Int := bytes2 (encW (frow i.1) i)
def encodeS : Ab.Spec := fun args => match args with
  | [.agg [.str nm, .int .i64 a, .int .i64 b, .int .i64 c, .int .i64 d, .int .i64 n]] =>
    .br (encE (nm, a, b, c, d, n) == 0) (.leaf (.tup [.sl (.int .u8) (encL (nm, a, b, c, d, n)) [] .full, .int .i64 0])) (.leaf (.tup [nilV, .int .i64 (encE (nm, a, b, c, d, n))]))
  | _ => .fail
theorem isAt_row {nm : List UInt8} (h : fok nm = true) : isAt nm (frow nm) = true := by
  unfold isAt
  rw [(frow_mem h).2.2]
  exact beq_self_eq_true _
theorem enc_parts {i : InsT} (h : encE i = 0) : fok i.1 = true ∧ faultyF (frow i.1) i = 0 := by
  unfold encE at h
  cases hf : fok i.1
  · rw [hf] at h; cases h
  · rw [hf, cond_true] at h; exact ⟨rfl, h⟩
theorem encodeS_ok : Sound Tryz.prog 9 encodeS := by
  intro args out h
  unfold encodeS at h
  split at h
  rotate_left
  · cases h
  rename_i nm a b c d n
  rw [br_run] at h
  cases he : (encE (nm, a, b, c, d, n) == 0)
  · rw [he, cond_false] at h
    have h := leaf_out h
    subst h
    have hn : (encE (nm, a, b, c, d, n) != 0) = true := by unfold bne; rw [he]; rfl
    refine pcall_fun' (cx := cxEx) (fn := Tryz.f9) (cx1_ok (ok1 chkNo_ok) (fun p h => by cases h) rfl rfl) (by kernel_rfl) (by kernel_rfl) rfl ((encNo_eq nm a b c d n).trans ?_)
    unfold encNo
    refine (br_t hn).trans ?_
    first | rfl | exact (br_t hn).trans rfl
  · rw [he, cond_true] at h
    have h := leaf_out h
    subst h
    obtain ⟨h1, h2⟩ := enc_parts (eq_of_beq he)
    have hw := congrFun (congrFun (congrFun (congrFun (congrFun (congrFun (enc_all (frow_mem h1).1) nm) a) b) c) d) n
    unfold encR encO at hw
    refine pcall_fun' (cx := cxEn (frow nm)) (fn := Tryz.f9) (cxEn_ok _) (by kernel_rfl) (by kernel_rfl) rfl ((Tree.out_run _).symm.trans (hw.trans ((Tree.out_run _).trans ?_)))
    unfold encT
    exact (br_t (isAt_row h1)).trans ((br_t (beq_iff_eq.2 h2)).trans rfl)

end Go.Cmp
