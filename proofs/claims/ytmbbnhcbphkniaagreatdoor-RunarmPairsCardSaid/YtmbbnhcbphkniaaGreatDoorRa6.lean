/-
  runarm: movz, movk and movn may be. Conditions: none.
-/
import Derived.Test.YtmbbnhcbphkniaaGreatDoorBbYj
import Derived.Test.YtmbbnhcbphkniaaGreatDoorRa3
namespace Go.Ra
open Go Go.Ab Go.Proofs

def insV (nm : List UInt8) (a b c d n : Int) : V := .agg [.str nm, .int .i64 a, .int .i64 b, .int .i64 c, .int .i64 d, .int .i64 n]
def movzN : List UInt8 := [109, 111, 118, 122]
def movkN : List UInt8 := [109, 111, 118, 107]
def movnN : List UInt8 := [109, 111, 118, 110]
/-- The moves that the law makes: name, register, which 16 bits. -/
def movL : List (List UInt8 × Int × Int) := [(movzN, 7, 0), (movzN, 7, 1), (movzN, 7, 2), (movzN, 7, 3), (movkN, 7, 0), (movkN, 7, 1), (movkN, 7, 2), (movkN, 7, 3), (movnN, 8, 0), (movnN, 8, 1), (movnN, 8, 2), (movnN, 8, 3)]
noncomputable def cxMay : Cx := { P := Tryz.prog, n := Tryz.f24.ntmps, tab := (runT 5).tab, mtab := (runT 5).mtab, rtab := (runT 5).rtab, refs := [], keeps := [0, 1, 2, 3, 4] }
theorem cxMay_ok : CxOk cxMay := runT_ok 5
noncomputable def mayR (x : List UInt8 × Int × Int) (m : Int) : Option V := (dfun cxMay Tryz.f24 [insV x.1 x.2.1 0 0 x.2.2 m]).fin
def mayO (_ : List UInt8 × Int × Int) (m : Int) : Option V := cond (decide (m < 0)) (some (.bool false)) (cond (decide (65535 < m)) (some (.bool false)) (cond (Int.tmod m 1 != 0) (some (.bool false)) (some (.bool true))))
theorem may_z : (movL.take 4).map mayR = (movL.take 4).map mayO := by kernel_rfl
theorem may_k : ((movL.drop 4).take 4).map mayR = ((movL.drop 4).take 4).map mayO := by kernel_rfl
theorem may_n : (movL.drop 8).map mayR = (movL.drop 8).map mayO := by kernel_rfl
theorem may_all {x : List UInt8 × Int × Int} (hx : x ∈ movL) : mayR x = mayO x := by
  have h : movL.map mayR = movL.map mayO := by
    have e : movL = movL.take 4 ++ ((movL.drop 4).take 4 ++ movL.drop 8) := rfl
    rw [e, List.map_append, List.map_append, List.map_append, List.map_append, may_z, may_k, may_n]
  exact List.map_inj_left.1 h _ hx
def isMov (nm : List UInt8) (a d : Int) : Bool := movL.any fun x => strEq x.1 nm && (x.2.1 == a && x.2.2 == d)
theorem isMov_mem {nm : List UInt8} {a d : Int} (h : isMov nm a d = true) : (nm, a, d) ∈ movL := by
  obtain ⟨x, hx, h1⟩ := List.any_eq_true.1 h
  simp only [Bool.and_eq_true] at h1
  obtain ⟨h1, h2, h3⟩ := h1
  have e1 : x.1 = nm := eq_of_beq h1
  have e2 : x.2.1 = a := by simpa using h2
  have e3 : x.2.2 = d := by simpa using h3
  obtain ⟨x1, x2, x3⟩ := x
  subst e1 e2 e3
  exact hx
def mayMov : Ab.Spec := fun args => match args with
  | [.agg [.str nm, .int .i64 a, .int .i64 b, .int .i64 c, .int .i64 d, .int .i64 m]] => .req (isMov nm a d && (b == 0 && c == 0)) (.req (decide (0 ≤ m) && decide (m ≤ 65535)) (.leaf (.bool true)))
  | _ => .fail
theorem mayMov_ok : Sound Tryz.prog 24 mayMov := by
  intro args out h
  unfold mayMov at h
  split at h
  rotate_left
  · cases h
  rename_i nm a b c d m
  obtain ⟨h1, h⟩ := req_run h
  obtain ⟨h2, h⟩ := req_run h
  cases h
  simp only [Bool.and_eq_true, decide_eq_true_eq] at h1 h2
  obtain ⟨h1, hb, hc⟩ := h1
  have hb : b = 0 := by simpa using hb
  have hc : c = 0 := by simpa using hc
  subst hb hc
  have e := congrFun (may_all (isMov_mem h1)) m
  unfold mayR mayO at e
  refine pcall_fun' (cx := cxMay) (fn := Tryz.f24) cxMay_ok (by kernel_rfl) (by kernel_rfl) (by kernel_rfl) ((Tree.fin_run _).symm.trans (e.trans ?_))
  rw [decide_eq_false (by omega : ¬ m < 0), decide_eq_false (by omega : ¬ 65535 < m)]
  have : (Int.tmod m 1 != 0) = false := by rw [Int.tmod_one]; rfl
  rw [this]
  rfl

/-! Run, of these -/

noncomputable def movT : Tabs := { tab := (24, mayMov) :: baseT.tab, rtab := baseT.rtab }
theorem movT_ok : movT.Ok Tryz.prog := ⟨.cons mayMov_ok baseT_ok.1, (fun p h => by cases h), baseT_ok.2.2.1, fun p h => by cases h⟩
noncomputable def mvT_ps : List Fi := []
theorem mvT_ps_ok : FisOk Tryz.prog mvT_ps := trivial
noncomputable def mvT_ms : List Fi := [⟨25, Tryz.f25, [0, 2, 3, 4, 13, 14, 25, 37, 58, 81, 104, 125, 146, 161, 176, 191, 205, 218], [], 0, []⟩, ⟨51, Tryz.f51, [0, 1, 2, 7], [], 0, []⟩]
theorem mvT_ms_ok : FisOk Tryz.prog mvT_ms := ⟨⟨by kernel_rfl, by kernel_rfl⟩, ⟨by kernel_rfl, by kernel_rfl⟩, trivial⟩
noncomputable def mvT (d : Nat) : Tabs := deep Tryz.prog movT mvT_ps mvT_ms d
theorem mvT_ok (d : Nat) : (mvT d).Ok Tryz.prog := deep_ok movT_ok mvT_ps_ok mvT_ms_ok d
noncomputable def cxRun : Cx := { P := Tryz.prog, n := Tryz.f14.ntmps, tab := (mvT 3).tab, mtab := (mvT 3).mtab, rtab := (mvT 3).rtab, refs := [], keeps := [0, 1, 2, 3, 4, 5, 8, 9, 10, 11, 12, 13, 14, 18, 23, 40, 41, 55, 68, 75, 78, 86] }
theorem cxRun_ok : CxOk cxRun := mvT_ok 3
noncomputable def runMov : MSpec := mfunR cxRun Tryz.f14 []
theorem runMov_ok : MSound Tryz.prog 14 runMov := mfunR_ok (cx := cxRun) (fn := Tryz.f14) [] cxRun_ok (by kernel_rfl) (by kernel_rfl)

/-! Run of these, plainly -/

def intsOf : Nat → List V → Option (List Int × List V)
  | 0, l => some ([], l)
  | k + 1, .int .u64 x :: r => match intsOf k r with
    | some (xs, l) => some (x :: xs, l)
    | none => none
  | _, _ => none
/-- A state of the processor, told. -/
structure CpuT where
  pc : Int
  x : List Int
  z : Bool
  n : Bool
  c : Bool
  v : Bool
  th : Int
abbrev CpuT.l (s : CpuT) : List V := cpuL s.pc s.x s.z s.n s.c s.v s.th
def cpuOf (l : List V) : Option CpuT := match intsOf 33 l with
  | some (p :: xs, [.bool z, .bool n, .bool c, .bool v, .int .u64 th]) => some ⟨p, xs, z, n, c, v, th⟩
  | _ => none
theorem intsOf_spec : ∀ (k : Nat) (l : List V) (xs : List Int) (r : List V), intsOf k l = some (xs, r) → l = xs.map (V.int .u64) ++ r ∧ xs.length = k
  | 0, l, xs, r, h => by
    simp only [intsOf, Option.some.injEq, Prod.mk.injEq] at h
    obtain ⟨rfl, rfl⟩ := h
    exact ⟨rfl, rfl⟩
  | k + 1, [], xs, r, h => by cases h
  | k + 1, v :: r', xs, r, h => by
    have key : ∀ x, v = .int .u64 x → v :: r' = xs.map (V.int .u64) ++ r ∧ xs.length = k + 1 := by
      intro x hv
      subst hv
      have h : (match intsOf k r' with | some (xs, l) => some (x :: xs, l) | none => none) = some (xs, r) := h
      split at h
      · rename_i xs' l' hi
        cases h
        obtain ⟨h1, h2⟩ := intsOf_spec k r' xs' _ hi
        exact ⟨by rw [h1]; rfl, by simp [h2]⟩
      · cases h
    cases v with
    | int kd x =>
      cases kd with
      | u64 => exact key x rfl
      | _ => cases h
    | _ => cases h
theorem cpuOf_spec {l : List V} {s : CpuT} (h : cpuOf l = some s) : l = s.l ∧ s.x.length = 32 := by
  unfold cpuOf at h
  split at h
  · rename_i p xs z n c v th hi
    cases h
    obtain ⟨h1, h2⟩ := intsOf_spec _ _ _ _ hi
    exact ⟨by rw [h1]; rfl, by simpa using h2⟩
  · cases h

def memH : List O := [.cells [.bool true, .mp 1] 61, .obj (.map []) []]
def pw (d : Int) : Int := 2 ^ (16 * d).toNat
/-- What movz, movk, movn make. -/
def movzF (d m : Int) : Int := IntKind.wrap .u64 (IntKind.wrap .u64 m * pw d)
def movkF (d x m : Int) : Int := IntKind.wrap .u64 (((BitVec.ofInt 64 (IntKind.wrap .u64 (((BitVec.ofInt 64 x &&& ~~~BitVec.ofInt 64 (IntKind.wrap .u64 (65535 * pw d))).toNat : Nat) : Int)) ||| BitVec.ofInt 64 (IntKind.wrap .u64 (IntKind.wrap .u64 m * pw d))).toNat : Nat) : Int)
def movnF (d m : Int) : Int := IntKind.wrap .u64 (((BitVec.ofInt 64 (IntKind.max .u64) ^^^ BitVec.ofInt 64 (IntKind.wrap .u64 (IntKind.wrap .u64 m * pw d))).toNat : Nat) : Int)
abbrev MovZ := Int → Int → Int
abbrev MovK := Int → Int → Int → Int
def movX (Z : MovZ) (K : MovK) (N : MovZ) (nm : List UInt8) (a d m : Int) (x : List Int) : List Int :=
  x.set a.toNat (cond (strEq nm movzN) (Z d m) (cond (strEq nm movkN) (K d (x.getD a.toNat 0) m) (N d m)))
def p4 (p : Int) : Int := IntKind.wrap .u64 (p + IntKind.wrap .u64 4)
def movOut (Z : MovZ) (K : MovK) (N : MovZ) (nm : List UInt8) (a d m : Int) (s : CpuT) : V :=
  .tup [.agg (cpuL (p4 s.pc) (movX Z K N nm a d m s.x) s.z s.n s.c s.v s.th), .int .i64 0, .int .i64 0]
def movG (x : List UInt8 × Int × Int) (m : Int) (s : CpuT) : Option Res :=
  cond (decide (0 ≤ m) && decide (m ≤ 65535)) (cond (Int.tmod s.pc 4 != 0) (some (.ok (.tup [.agg s.l, .int .i64 0, .int .i64 10]) memH))
    (cond (Int.tmod (p4 s.pc) 4 != 0) (some (.ok (.tup [.agg s.l, .int .i64 0, .int .i64 10]) memH)) (some (.ok (movOut movzF movkF movnF x.1 x.2.1 x.2.2 m s) memH)))) none
noncomputable def movE (y : List UInt8 × Int × Int) (m p x0 x1 x2 x3 x4 x5 x6 x7 x8 x9 x10 x11 x12 x13 x14 x15 x16 x17 x18 x19 x20 x21 x22 x23 x24 x25 x26 x27 x28 x29 x30 x31 th : Int) (z n c v : Bool) : Option Res := (runMov [.agg (CpuT.l ⟨p, [x0, x1, x2, x3, x4, x5, x6, x7, x8, x9, x10, x11, x12, x13, x14, x15, x16, x17, x18, x19, x20, x21, x22, x23, x24, x25, x26, x27, x28, x29, x30, x31], z, n, c, v, th⟩), insV y.1 y.2.1 0 0 y.2.2 m, .int .i64 4, .ptr 0 0] memH).fin
def movR (y : List UInt8 × Int × Int) (m p x0 x1 x2 x3 x4 x5 x6 x7 x8 x9 x10 x11 x12 x13 x14 x15 x16 x17 x18 x19 x20 x21 x22 x23 x24 x25 x26 x27 x28 x29 x30 x31 th : Int) (z n c v : Bool) : Option Res := movG y m ⟨p, [x0, x1, x2, x3, x4, x5, x6, x7, x8, x9, x10, x11, x12, x13, x14, x15, x16, x17, x18, x19, x20, x21, x22, x23, x24, x25, x26, x27, x28, x29, x30, x31], z, n, c, v, th⟩
theorem mov_z : (movL.take 4).map movE = (movL.take 4).map movR := by kernel_rfl
theorem mov_k : ((movL.drop 4).take 4).map movE = ((movL.drop 4).take 4).map movR := by kernel_rfl
theorem mov_n : (movL.drop 8).map movE = (movL.drop 8).map movR := by kernel_rfl

end Go.Ra
