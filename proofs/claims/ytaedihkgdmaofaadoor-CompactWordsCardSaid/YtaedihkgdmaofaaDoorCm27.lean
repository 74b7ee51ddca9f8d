/-
  compact: the document's Check. Conditions: none.
-/
import Derived.Test.YtaedihkgdmaofaaDoorCm26
import Derived.Test.YtaedihkgdmaofaaDoorCm13
namespace Go.Cmp
open Go Go.Ab Go.Proofs

noncomputable def hasA_ps : List Fi := [⟨51, Tryd.f51, [0, 1, 4, 5, 9, 16], [], 18⟩]
theorem hasA_ps_ok : FisOk Tryd.prog hasA_ps := ⟨⟨by kernel_rfl, by kernel_rfl⟩, trivial⟩
noncomputable def hasA_ms : List Fi := []
theorem hasA_ms_ok : FisOk Tryd.prog hasA_ms := trivial
noncomputable def hasA (d : Nat) : Tabs := deep Tryd.prog {} hasA_ps hasA_ms d
noncomputable def cxRX : Cx := { P := Tryd.prog, n := 49, tab := (hasA 1).tab, mtab := [], refs := [], keeps := [0, 1, 2, 3, 6, 11, 15, 36] }
theorem cxRX_ok : CxOk cxRX := cx1_ok (deep_ok (tabs_ok (.nil _) (fun p h => by cases h)) hasA_ps_ok hasA_ms_ok 1).1 (fun p h => by cases h) rfl rfl
def bO (b : Bool) : Option V := some (.bool b)
def restX (x : RowT) (w n : Int) : Option V := cond (decide (0 < n)) (bO true) (bO (!bars x (UInt8.ofNat (w - 32).toNat)))
def regX (x : RowT) (w n : Int) : Option V :=
  cond (hasF x w).2 (cond (hasF x w).1 (cond (decide (8 ≤ n)) (bO (decide (n ≤ 15))) (bO false))
    (cond (decide (n < 0)) (bO false) (cond (decide (31 < n)) (bO false) (cond (bars x 50) (cond (n == 2) (bO false) (restX x w n)) (restX x w n))))) (bO (n == 0))
noncomputable def rxR (p : RowT × TabT) (n : Int) : List (Option V) := regs3.map fun w => (dfun cxRX Tryd.f50 [.agg (tabLV p.2), .int .u8 (w - 32), .int .i64 n]).fin
def rxO (p : RowT × TabT) (n : Int) : List (Option V) := regs3.map fun w => regX p.1 w n
theorem rx_0 : (partT 0).map rxR = (partT 0).map rxO := by kernel_rfl
theorem rx_1 : (partT 1).map rxR = (partT 1).map rxO := by kernel_rfl
theorem rx_2 : (partT 2).map rxR = (partT 2).map rxO := by kernel_rfl
theorem rx_3 : (partT 3).map rxR = (partT 3).map rxO := by kernel_rfl
theorem rx_4 : (partT 4).map rxR = (partT 4).map rxO := by kernel_rfl
theorem rx_5 : (partT 5).map rxR = (partT 5).map rxO := by kernel_rfl
theorem rx_all {x : RowT} (hx : x ∈ rowsL) : rxR (x, tabs x) = rxO (x, tabs x) :=
  six_all (l := pairsT) pairsT_len (fun k hk => match k, hk with
    | 0, _ => rx_0
    | 1, _ => rx_1
    | 2, _ => rx_2
    | 3, _ => rx_3
    | 4, _ => rx_4
    | 5, _ => rx_5) (pairsT_mem hx)
/-- Only lui bars 2, of its A. -/
theorem bar2 {x : RowT} (hx : x ∈ rowsL) {w : Int} (hw : w ∈ regs3) : (bars x 50 && (hasF x w).2) = true → w = 97 := by
  have h : rowsL.map (fun x => regs3.map fun w => !(bars x 50 && (hasF x w).2) || w == 97) = rowsL.map (fun _ => regs3.map fun _ => true) := by kernel_rfl
  have h2 := List.map_inj_left.1 (List.map_inj_left.1 h _ hx) _ hw
  intro hb
  rw [hb] at h2
  simpa using h2
theorem regX_eq {x : RowT} (hx : x ∈ rowsL) {w : Int} (hw : w ∈ regs3) (n : Int) : regX x w n = bO (regF x w n) := by
  have hb := bar2 hx hw
  unfold regX regF restX
  cases h2 : (hasF x w).2
  · rfl
  cases h1 : (hasF x w).1
  · rw [h2, Bool.and_true] at hb
    simp only [cond_true, cond_false]
    by_cases n0 : n < 0
    · rw [decide_eq_true n0, decide_eq_false (by omega : ¬ 0 ≤ n)]; rfl
    by_cases n31 : 31 < n
    · rw [decide_eq_false n0, decide_eq_true n31, decide_eq_false (by omega : ¬ n < 32), Bool.false_and, Bool.and_false]; rfl
    rw [decide_eq_false n0, decide_eq_false n31, decide_eq_true (by omega : 0 ≤ n), decide_eq_true (by omega : n < 32)]
    simp only [cond_false, Bool.true_and]
    have hz : decide (0 < n) = (n != 0) := by
      by_cases h : n = 0
      · subst h; rfl
      · rw [decide_eq_true (by omega : 0 < n)]; exact (bne_iff_ne.2 h).symm
    rw [hz]
    cases hbar : bars x 50
    · cases (n != 0) <;> cases (!bars x (UInt8.ofNat (w - 32).toNat)) <;> cases (n != 2) <;> cases (w == 97) <;> rfl
    · have hw97 := hb hbar
      subst hw97
      unfold bne
      cases (n == 2) <;> cases (n == 0) <;> cases (!bars x (UInt8.ofNat ((97 : Int) - 32).toNat)) <;> rfl
  · simp only [cond_true]
    cases decide (8 ≤ n) <;> rfl
/-- Of one row. -/
def isDoc (p : RowT × TabT) (y : TabT) : Bool := strEq y.1 p.2.1 && (strEq y.2.1 p.2.2.1 && (strEq y.2.2.1 p.2.2.2.1 && (y.2.2.2.1 == p.2.2.2.2.1 && (y.2.2.2.2.1 == p.2.2.2.2.2.1 && (y.2.2.2.2.2.1 == p.2.2.2.2.2.2.1 && (y.2.2.2.2.2.2.1 == p.2.2.2.2.2.2.2.1 && y.2.2.2.2.2.2.2 == p.2.2.2.2.2.2.2.2))))))
theorem isDoc_eq {p : RowT × TabT} {y : TabT} (h : isDoc p y = true) : y = p.2 := by
  unfold isDoc at h
  simp only [strEq, Bool.and_eq_true, beq_iff_eq] at h
  obtain ⟨h1, h2, h3, h4, h5, h6, h7, h8⟩ := h
  exact Prod.ext h1 (Prod.ext h2 (Prod.ext h3 (Prod.ext h4 (Prod.ext h5 (Prod.ext h6 (Prod.ext h7 h8))))))
def regAtX (p : RowT × TabT) : Ab.Spec := fun args => match args with
  | [.agg [.str nm, .str b, .str o, .bool s, .int .i64 lo, .int .i64 hi, .int .i64 by_, .bool z], .int .u8 c, .int .i64 n] => .req (isDoc p (nm, b, o, s, lo, hi, by_, z)) (.req (regs3.contains (c + 32)) (.leaf (.bool (regF p.1 (c + 32) n))))
  | _ => .fail
theorem regAtX_ok {x : RowT} (hx : x ∈ rowsL) : Sound Tryd.prog 50 (regAtX (x, tabs x)) := by
  intro args out h
  unfold regAtX at h
  split at h
  rotate_left
  · cases h
  rename_i nm b o s lo hi by_ z c n
  obtain ⟨h1, h⟩ := req_run h
  obtain ⟨h2, h⟩ := req_run h
  have h := leaf_out h
  subst h
  have e := isDoc_eq h1
  have hm : c + 32 ∈ regs3 := by simpa using h2
  have hw := List.map_inj_left.1 (congrFun (rx_all hx) n) _ hm
  rw [regX_eq hx hm] at hw
  rw [Int.add_sub_cancel, show tabLV (x, tabs x).2 = tabLV (nm, b, o, s, lo, hi, by_, z) from congrArg tabLV e.symm] at hw
  exact pcall_fun' (cx := cxRX) (fn := Tryd.f50) cxRX_ok (by kernel_rfl) (by kernel_rfl) rfl ((Tree.fin_run _).symm.trans hw)

/-! Check -/

noncomputable def cxCX (p : RowT × TabT) : Cx := { P := Tryd.prog, n := 78, tab := [(49, findAtX p), (50, regAtX p)] ++ (hasA 1).tab, mtab := [], refs := [], keeps := [0, 1, 2, 3, 4, 12, 36, 46, 49, 71, 77] }
theorem cxCX_ok {x : RowT} (hx : x ∈ rowsL) : CxOk (cxCX (x, tabs x)) :=
  cx1_ok (.cons (findAtX_ok x) (.cons (regAtX_ok hx) (deep_ok (tabs_ok (.nil _) (fun p h => by cases h)) hasA_ps_ok hasA_ms_ok 1).1)) (fun p h => by cases h) rfl rfl
def iO (n : Int) : Option V := some (.int .i64 n)
def byX (x : RowT) (n : Int) : Option V := cond (Int.tmod n x.2.2.2.2.1 != 0) (iO 10) (iO 0)
def rngX (p : RowT × TabT) (n : Int) : Option V := cond (decide (n < p.1.2.2.1)) (iO 3) (cond (decide (p.1.2.2.2.1 < n)) (iO 3) (cond (n == 0) (cond p.2.2.2.2.2.2.2.2 (byX p.1 n) (iO 3)) (byX p.1 n)))
def ckO (p : RowT × TabT) (nm : List UInt8) (a b c d n : Int) : Option V :=
  cond (isAt nm p.1) (cond (!regF p.1 97 a) (iO 13) (cond (!regF p.1 98 b) (iO 13) (cond (!regF p.1 99 c) (iO 13) (cond (d != 0) (iO 13) (cond (hasF p.1 115).2 (rngX p n) (cond (n != 0) (iO 13) (iO 0))))))) none
noncomputable def ckR (p : RowT × TabT) (nm : List UInt8) (a b c d n : Int) : Option V := (dfun (cxCX p) Tryd.f27 [.agg [.str nm, .int .i64 a, .int .i64 b, .int .i64 c, .int .i64 d, .int .i64 n]]).fin
theorem ck_0 : (partT 0).map ckR = (partT 0).map ckO := by kernel_rfl
theorem ck_1 : (partT 1).map ckR = (partT 1).map ckO := by kernel_rfl
theorem ck_2 : (partT 2).map ckR = (partT 2).map ckO := by kernel_rfl
theorem ck_3 : (partT 3).map ckR = (partT 3).map ckO := by kernel_rfl
theorem ck_4 : (partT 4).map ckR = (partT 4).map ckO := by kernel_rfl
theorem ck_5 : (partT 5).map ckR = (partT 5).map ckO := by kernel_rfl
theorem ck_all {x : RowT} (hx : x ∈ rowsL) : ckR (x, tabs x) = ckO (x, tabs x) :=
  six_all (l := pairsT) pairsT_len (fun k hk => match k, hk with
    | 0, _ => ck_0
    | 1, _ => ck_1
    | 2, _ => ck_2
    | 3, _ => ck_3
    | 4, _ => ck_4
    | 5, _ => ck_5) (pairsT_mem hx)
theorem zero_ok {x : RowT} (hx : x ∈ rowsL) : bars x 115 = !(tabs x).2.2.2.2.2.2.2 ∨ 0 < x.2.2.1 := by
  have h : rowsL.map (fun x => (bars x 115 == !(tabs x).2.2.2.2.2.2.2) || decide (0 < x.2.2.1)) = rowsL.map (fun _ => true) := by kernel_rfl
  have h := List.map_inj_left.1 h _ hx
  rw [Bool.or_eq_true] at h
  rcases h with h | h
  · exact .inl (eq_of_beq h)
  · exact .inr (of_decide_eq_true h)
theorem rngX_eq {x : RowT} (hx : x ∈ rowsL) (n : Int) : rngX (x, tabs x) n = iO (rngF x n) := by
  unfold rngX rngF byX
  simp only
  by_cases h1 : n < x.2.2.1
  · rw [decide_eq_true h1]; rfl
  by_cases h2 : x.2.2.2.1 < n
  · rw [decide_eq_false h1, decide_eq_true h2]; rfl
  rw [decide_eq_false h1, decide_eq_false h2]
  simp only [cond_false]
  rcases zero_ok hx with hz | hz
  · rw [hz]
    cases (n == 0) <;> cases (tabs x).2.2.2.2.2.2.2 <;> cases (Int.tmod n x.2.2.2.2.1 != 0) <;> rfl
  · have hn : (n == 0) = false := beq_eq_false_iff_ne.2 (by omega)
    rw [hn]
    cases (Int.tmod n x.2.2.2.2.1 != 0) <;> rfl
/-- The rows without a number. -/
theorem none_ok {x : RowT} (hx : x ∈ rowsL) (h : (hasF x 115).2 = false) : rngF x 0 = 0 := by
  have hc : rowsL.map (fun x => (hasF x 115).2 || rngF x 0 == 0) = rowsL.map (fun _ => true) := by kernel_rfl
  have hc := List.map_inj_left.1 hc _ hx
  rw [h, Bool.false_or] at hc
  exact eq_of_beq hc
theorem ckO_eq {x : RowT} (hx : x ∈ rowsL) {nm : List UInt8} (hn : isAt nm x = true) (a b c d n : Int) : ckO (x, tabs x) nm a b c d n = iO (faultyF x (nm, a, b, c, d, n)) := by
  unfold ckO faultyF
  simp only
  rw [hn, cond_true, rngX_eq hx]
  cases regF x 97 a
  · rfl
  cases regF x 98 b
  · rfl
  cases regF x 99 c
  · rfl
  unfold bne
  cases (d == 0)
  · rfl
  cases h : (hasF x 115).2
  · cases h0 : (n == 0)
    · rfl
    · rw [eq_of_beq h0, none_ok hx h]
      rfl
  · rfl
def zeroRow : Ab.Spec := fun args => match args with
  | [.str nm] => .req (!fok nm) (.leaf (.tup [.agg (tabLV zeroT), .bool false]))
  | _ => .fail
theorem zeroRow_ok : Sound Tryd.prog 49 zeroRow := by
  intro args out h
  refine findXS_ok args out ?_
  unfold zeroRow at h
  split at h
  rotate_left
  · cases h
  obtain ⟨h1, h⟩ := req_run h
  have h := leaf_out h
  subst h
  have h1 : fok _ = false := (Bool.not_eq_true' _).mp h1
  unfold findXS ftab
  simp only
  rw [h1]
  rfl
noncomputable def cxCN : Cx := { P := Tryd.prog, n := 78, tab := [(49, zeroRow)], mtab := [], refs := [], keeps := [0, 1, 2, 3, 4, 12, 36, 46, 49, 71, 77] }
theorem ckN_eq (nm : List UInt8) (a b c d n : Int) : (dfun cxCN Tryd.f27 [.agg [.str nm, .int .i64 a, .int .i64 b, .int .i64 c, .int .i64 d, .int .i64 n]]).fin = cond (!fok nm) (iO 7) none := by kernel_rfl

/-- The document's Check is the program's. -/
def checkXS : Ab.Spec := fun args => match args with
  | [.agg [.str nm, .int .i64 a, .int .i64 b, .int .i64 c, .int .i64 d, .int .i64 n]] => .leaf (.int .i64 (encE (nm, a, b, c, d, n)))
  | _ => .fail
theorem checkXS_ok : Sound Tryd.prog 27 checkXS := by
  intro args out h
  unfold checkXS at h
  split at h
  rotate_left
  · cases h
  rename_i nm a b c d n
  have h := leaf_out h
  subst h
  unfold encE
  cases hf : fok nm
  · refine pcall_fun' (cx := cxCN) (fn := Tryd.f27) (cx1_ok (ok1 zeroRow_ok) (fun p h => by cases h) rfl rfl) (by kernel_rfl) (by kernel_rfl) rfl ((Tree.fin_run _).symm.trans ((ckN_eq nm a b c d n).trans ?_))
    rw [hf]
    rfl
  · obtain ⟨hx, hn, _⟩ := frow_mem hf
    have hw := congrFun (congrFun (congrFun (congrFun (congrFun (congrFun (ck_all hx) nm) a) b) c) d) n
    rw [ckO_eq hx (isAt_row hf)] at hw
    exact pcall_fun' (cx := cxCX (frow nm, tabs (frow nm))) (fn := Tryd.f27) (cxCX_ok hx) (by kernel_rfl) (by kernel_rfl) rfl ((Tree.fin_run _).symm.trans hw)

end Go.Cmp
