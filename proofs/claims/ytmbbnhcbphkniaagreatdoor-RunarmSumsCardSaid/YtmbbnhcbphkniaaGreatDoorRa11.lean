/-
  runarm: Run of subs, ubfm (from r on) and lslv. Conditions: none.
-/
import Derived.Test.YtmbbnhcbphkniaaGreatDoorRa7
namespace Go.Ra
open Go Go.Ab Go.Proofs

def subsN : List UInt8 := [115, 117, 98, 115]
def ubfmN : List UInt8 := [117, 98, 102, 109]
def lslvN : List UInt8 := [108, 115, 108, 118]
/-- The instructions that the law runs: name, A, B, C, D. -/
abbrev SumT := List UInt8 × Int × Int × Int × Int
def ubfmL : List SumT := (List.range 64).map fun r : Nat => (ubfmN, 3, 0, (r : Int), 63)
def sumL : List SumT := (subsN, 2, 0, 1, 0) :: (lslvN, 3, 3, 4, 0) :: ubfmL
noncomputable def maySR (x : SumT) : Option V := (dfun cxMay Tryz.f24 [insV x.1 x.2.1 x.2.2.1 x.2.2.2.1 x.2.2.2.2 0]).fin
theorem mays_0 : (sumL.take 2).map maySR = (sumL.take 2).map (fun _ => some (.bool true)) := by kernel_rfl
theorem mays_1 : (ubfmL.take 16).map maySR = (ubfmL.take 16).map (fun _ => some (.bool true)) := by kernel_rfl
theorem mays_2 : ((ubfmL.drop 16).take 16).map maySR = ((ubfmL.drop 16).take 16).map (fun _ => some (.bool true)) := by kernel_rfl
theorem mays_3 : ((ubfmL.drop 32).take 16).map maySR = ((ubfmL.drop 32).take 16).map (fun _ => some (.bool true)) := by kernel_rfl
theorem mays_4 : (ubfmL.drop 48).map maySR = (ubfmL.drop 48).map (fun _ => some (.bool true)) := by kernel_rfl
theorem sum_parts {β : Type} {f g : SumT → β} (h0 : (sumL.take 2).map f = (sumL.take 2).map g) (h1 : (ubfmL.take 16).map f = (ubfmL.take 16).map g) (h2 : ((ubfmL.drop 16).take 16).map f = ((ubfmL.drop 16).take 16).map g)
    (h3 : ((ubfmL.drop 32).take 16).map f = ((ubfmL.drop 32).take 16).map g) (h4 : (ubfmL.drop 48).map f = (ubfmL.drop 48).map g) : ∀ x ∈ sumL, f x = g x := by
  have e : sumL = sumL.take 2 ++ (ubfmL.take 16 ++ ((ubfmL.drop 16).take 16 ++ ((ubfmL.drop 32).take 16 ++ ubfmL.drop 48))) := by kernel_rfl
  have h : sumL.map f = sumL.map g := by
    rw [e]
    simp only [List.map_append, h0, h1, h2, h3, h4]
  exact List.map_inj_left.1 h
theorem mays_all : ∀ x ∈ sumL, maySR x = some (.bool true) := sum_parts mays_0 mays_1 mays_2 mays_3 mays_4
def isSum (nm : List UInt8) (a b c d : Int) : Bool := sumL.any fun x => strEq x.1 nm && (x.2.1 == a && (x.2.2.1 == b && (x.2.2.2.1 == c && x.2.2.2.2 == d)))
theorem isSum_mem {nm : List UInt8} {a b c d : Int} (h : isSum nm a b c d = true) : (nm, a, b, c, d) ∈ sumL := by
  obtain ⟨x, hx, h1⟩ := List.any_eq_true.1 h
  simp only [Bool.and_eq_true] at h1
  obtain ⟨h1, h2, h3, h4, h5⟩ := h1
  have e1 : x.1 = nm := eq_of_beq h1
  have e2 : x.2.1 = a := by simpa using h2
  have e3 : x.2.2.1 = b := by simpa using h3
  have e4 : x.2.2.2.1 = c := by simpa using h4
  have e5 : x.2.2.2.2 = d := by simpa using h5
  obtain ⟨x1, x2, x3, x4, x5⟩ := x
  subst e1 e2 e3 e4 e5
  exact hx
def maySum : Ab.Spec := fun args => match args with
  | [.agg [.str nm, .int .i64 a, .int .i64 b, .int .i64 c, .int .i64 d, .int .i64 m]] => .req (isSum nm a b c d && m == 0) (.leaf (.bool true))
  | _ => .fail
theorem maySum_ok : Sound Tryz.prog 24 maySum := by
  intro args out h
  unfold maySum at h
  split at h
  rotate_left
  · cases h
  rename_i nm a b c d m
  obtain ⟨h1, h⟩ := req_run h
  cases h
  obtain ⟨g1, g2⟩ := Bool.and_eq_true_iff.1 h1
  have g2 : m = 0 := by simpa using g2
  clear h h1
  subst g2
  have e := mays_all _ (isSum_mem g1)
  exact pcall_fun' (cx := cxMay) (fn := Tryz.f24) cxMay_ok (by kernel_rfl) (by kernel_rfl) (by kernel_rfl) ((Tree.fin_run _).symm.trans e)

noncomputable def sumT : Tabs := { tab := (24, maySum) :: baseT.tab, rtab := baseT.rtab }
theorem sumT_ok : sumT.Ok Tryz.prog := ⟨.cons maySum_ok baseT_ok.1, (fun p h => by cases h), baseT_ok.2.2.1, fun p h => by cases h⟩
noncomputable def smT_ps : List Fi := [⟨58, Tryz.f58, [0, 1, 2, 3, 8, 9, 10, 11, 18, 30], [], 0, []⟩]
theorem smT_ps_ok : FisOk Tryz.prog smT_ps := ⟨⟨by kernel_rfl, by kernel_rfl⟩, trivial⟩
noncomputable def smT_ms : List Fi := [⟨25, Tryz.f25, [0, 2, 3, 4, 13, 14, 25, 37, 58, 81, 104, 125, 146, 161, 176, 191, 205, 218], [], 0, []⟩, ⟨26, Tryz.f26, [0, 2, 3, 4, 5, 6, 25, 30, 39, 48, 58, 68, 77, 86, 95, 106, 120, 134, 143, 154, 164, 174, 186, 198], [], 0, []⟩, ⟨51, Tryz.f51, [0, 1, 2, 7], [], 0, []⟩, ⟨54, Tryz.f54, [0, 1, 2, 6, 7, 8], [], 0, []⟩, ⟨111, Tryz.f111, [0, 1], [], 0, []⟩]
theorem smT_ms_ok : FisOk Tryz.prog smT_ms := ⟨⟨by kernel_rfl, by kernel_rfl⟩, ⟨by kernel_rfl, by kernel_rfl⟩, ⟨by kernel_rfl, by kernel_rfl⟩, ⟨by kernel_rfl, by kernel_rfl⟩, ⟨by kernel_rfl, by kernel_rfl⟩, trivial⟩
noncomputable def smT (d : Nat) : Tabs := deep Tryz.prog sumT smT_ps smT_ms d
theorem smT_ok (d : Nat) : (smT d).Ok Tryz.prog := deep_ok sumT_ok smT_ps_ok smT_ms_ok d
noncomputable def cxRunS : Cx := { P := Tryz.prog, n := Tryz.f14.ntmps, tab := (smT 3).tab, mtab := (smT 3).mtab, rtab := (smT 3).rtab, refs := [], keeps := [0, 1, 2, 3, 4, 5, 8, 9, 10, 11, 12, 13, 14, 18, 23, 40, 41, 55, 68, 75, 78, 86] }
theorem cxRunS_ok : CxOk cxRunS := smT_ok 3
noncomputable def runSum : MSpec := mfunR cxRunS Tryz.f14 []
theorem runSum_ok : MSound Tryz.prog 14 runSum := mfunR_ok (cx := cxRunS) (fn := Tryz.f14) [] cxRunS_ok (by kernel_rfl) (by kernel_rfl)

/-! Run of these, plainly -/

def subF (a b : Int) : Int := (a - IntKind.wrap .u64 (b * 2 ^ 0) - 0) % 18446744073709551616
def subZ (a b : Int) : Bool := subF a b == 0
def subN (a b : Int) : Bool := decide (IntKind.wrap .i64 (subF a b) < 0)
def subC (a b : Int) : Bool := (cond (decide (a < IntKind.wrap .u64 (b * 2 ^ 0) + 0)) (1 : Int) 0) == 0
def subV (a b : Int) : Bool := decide (IntKind.wrap .i64 (IntKind.wrap .u64 (((BitVec.ofInt 64 (IntKind.wrap .u64 (((BitVec.ofInt 64 a ^^^ BitVec.ofInt 64 (IntKind.wrap .u64 (b * 2 ^ 0))).toNat : Nat) : Int)) &&& BitVec.ofInt 64 (IntKind.wrap .u64 (((BitVec.ofInt 64 a ^^^ BitVec.ofInt 64 (subF a b)).toNat : Nat) : Int))).toNat : Nat) : Int)) < 0)
def subReq (a b : Int) : Bool := decide (0 ≤ a) && decide (0 ≤ IntKind.wrap .u64 (b * 2 ^ 0)) && decide (a < 18446744073709551616) && decide (IntKind.wrap .u64 (b * 2 ^ 0) < 18446744073709551616) && true && true
def ubF (r a : Int) : Int := IntKind.wrap .u64 (Int.fdiv (IntKind.wrap .u64 (Int.fdiv a (2 ^ r.toNat) * 2 ^ r.toNat)) (2 ^ r.toNat) * 2 ^ 0)
def lslF (a b : Int) : Int := IntKind.wrap .u64 (a * 2 ^ (min (IntKind.wrap .u64 (((BitVec.ofInt 64 b &&& BitVec.ofInt 64 63).toNat : Nat) : Int)).toNat 64))
def isSubs (y : SumT) : Bool := strEq y.1 subsN
def sumX (y : SumT) (x : List Int) : List Int := cond (isSubs y) (x.set 2 (subF (x.getD 0 0) (x.getD 1 0))) (x.set 3 (cond (strEq y.1 ubfmN) (ubF y.2.2.2.1 (x.getD 0 0)) (lslF (x.getD 3 0) (x.getD 4 0))))
def sumOut (y : SumT) (s : CpuT) : V := .tup [.agg (cpuL (p4 s.pc) (sumX y s.x) (cond (isSubs y) (subZ (s.x.getD 0 0) (s.x.getD 1 0)) s.z) (cond (isSubs y) (subN (s.x.getD 0 0) (s.x.getD 1 0)) s.n) (cond (isSubs y) (subC (s.x.getD 0 0) (s.x.getD 1 0)) s.c) (cond (isSubs y) (subV (s.x.getD 0 0) (s.x.getD 1 0)) s.v) s.th), .int .i64 0, .int .i64 0]
def sumNeed (y : SumT) (s : CpuT) : Bool := cond (isSubs y) (subReq (s.x.getD 0 0) (s.x.getD 1 0)) true
def sumErr (s : CpuT) : Option Res := some (.ok (.tup [.agg s.l, .int .i64 0, .int .i64 10]) memH)
def sumG (y : SumT) (s : CpuT) : Option Res := cond (Int.tmod s.pc 4 != 0) (sumErr s) (cond (sumNeed y s) (cond (Int.tmod (p4 s.pc) 4 != 0) (sumErr s) (some (.ok (sumOut y s) memH))) none)
noncomputable def sumE (y : SumT) (p x0 x1 x2 x3 x4 x5 x6 x7 x8 x9 x10 x11 x12 x13 x14 x15 x16 x17 x18 x19 x20 x21 x22 x23 x24 x25 x26 x27 x28 x29 x30 x31 th : Int) (z n c v : Bool) : Option Res := (runSum [.agg (CpuT.l ⟨p, [x0, x1, x2, x3, x4, x5, x6, x7, x8, x9, x10, x11, x12, x13, x14, x15, x16, x17, x18, x19, x20, x21, x22, x23, x24, x25, x26, x27, x28, x29, x30, x31], z, n, c, v, th⟩), insV y.1 y.2.1 y.2.2.1 y.2.2.2.1 y.2.2.2.2 0, .int .i64 4, .ptr 0 0] memH).fin
def sumR (y : SumT) (p x0 x1 x2 x3 x4 x5 x6 x7 x8 x9 x10 x11 x12 x13 x14 x15 x16 x17 x18 x19 x20 x21 x22 x23 x24 x25 x26 x27 x28 x29 x30 x31 th : Int) (z n c v : Bool) : Option Res := sumG y ⟨p, [x0, x1, x2, x3, x4, x5, x6, x7, x8, x9, x10, x11, x12, x13, x14, x15, x16, x17, x18, x19, x20, x21, x22, x23, x24, x25, x26, x27, x28, x29, x30, x31], z, n, c, v, th⟩
theorem sums_0 : (sumL.take 2).map sumE = (sumL.take 2).map sumR := by kernel_rfl
theorem sums_1 : ((ubfmL.drop 0).take 8).map sumE = ((ubfmL.drop 0).take 8).map sumR := by kernel_rfl
theorem sums_2 : ((ubfmL.drop 8).take 8).map sumE = ((ubfmL.drop 8).take 8).map sumR := by kernel_rfl
theorem sums_3 : ((ubfmL.drop 16).take 8).map sumE = ((ubfmL.drop 16).take 8).map sumR := by kernel_rfl
theorem sums_4 : ((ubfmL.drop 24).take 8).map sumE = ((ubfmL.drop 24).take 8).map sumR := by kernel_rfl
theorem sums_5 : ((ubfmL.drop 32).take 8).map sumE = ((ubfmL.drop 32).take 8).map sumR := by kernel_rfl
theorem sums_6 : ((ubfmL.drop 40).take 8).map sumE = ((ubfmL.drop 40).take 8).map sumR := by kernel_rfl
theorem sums_7 : ((ubfmL.drop 48).take 8).map sumE = ((ubfmL.drop 48).take 8).map sumR := by kernel_rfl
theorem sums_8 : ((ubfmL.drop 56).take 8).map sumE = ((ubfmL.drop 56).take 8).map sumR := by kernel_rfl
theorem sums_all : ∀ y ∈ sumL, sumE y = sumR y := by
  have e : sumL = sumL.take 2 ++ ((ubfmL.drop 0).take 8 ++ ((ubfmL.drop 8).take 8 ++ ((ubfmL.drop 16).take 8 ++ ((ubfmL.drop 24).take 8 ++ ((ubfmL.drop 32).take 8 ++ ((ubfmL.drop 40).take 8 ++ ((ubfmL.drop 48).take 8 ++ (ubfmL.drop 56).take 8))))))) := by kernel_rfl
  have h : sumL.map sumE = sumL.map sumR := by
    rw [e]
    simp only [List.map_append, sums_0, sums_1, sums_2, sums_3, sums_4, sums_5, sums_6, sums_7, sums_8]
  exact List.map_inj_left.1 h
def sumM : MSpec := fun args H => match args with
  | [.agg cs, .agg [.str nm, .int .i64 a, .int .i64 b, .int .i64 c, .int .i64 d, .int .i64 m], .int .i64 sz, .ptr 0 0] => match cpuOf cs with
    | some s => .req (isMem 61 H && (m == 0 && sz == 4)) (.req (isSum nm a b c d) (.req (Int.tmod s.pc 4 == 0 && Int.tmod (p4 s.pc) 4 == 0) (.req (sumNeed (nm, a, b, c, d) s) (.leaf (.ok (sumOut (nm, a, b, c, d) s) H)))))
    | none => .fail
  | _ => .fail
theorem sumM_ok : MSound Tryz.prog 14 sumM := by
  intro args H out h
  unfold sumM at h
  split at h
  rotate_left
  · cases h
  rename_i cs nm a b c d m sz
  split at h
  rotate_left
  · cases h
  rename_i s hs
  obtain ⟨h0, h⟩ := req_run h
  obtain ⟨h1, h⟩ := req_run h
  obtain ⟨h3, h⟩ := req_run h
  obtain ⟨h4, h⟩ := req_run h
  cases h
  simp only [Bool.and_eq_true] at h0 h3
  obtain ⟨h0, hm, hz⟩ := h0
  have hm : m = 0 := by simpa using hm
  have hz : sz = 4 := by simpa using hz
  subst hm hz
  have hH : H = memH := isMem_spec h0
  subst hH
  obtain ⟨e1, e2⟩ := cpuOf_spec hs
  subst e1
  refine runSum_ok _ _ _ ?_
  have hx := list_tab e2
  have key := congrFun (congrFun (congrFun (congrFun (congrFun (congrFun (congrFun (congrFun (congrFun (congrFun (congrFun (congrFun (congrFun (congrFun (congrFun (congrFun (congrFun (congrFun (congrFun (congrFun (congrFun (congrFun (congrFun (congrFun (congrFun (congrFun (congrFun (congrFun (congrFun (congrFun (congrFun (congrFun (congrFun (congrFun (congrFun (congrFun (congrFun (congrFun (sums_all _ (isSum_mem h1)) s.pc) (s.x.getD 0 0)) (s.x.getD 1 0)) (s.x.getD 2 0)) (s.x.getD 3 0)) (s.x.getD 4 0)) (s.x.getD 5 0)) (s.x.getD 6 0)) (s.x.getD 7 0)) (s.x.getD 8 0)) (s.x.getD 9 0)) (s.x.getD 10 0)) (s.x.getD 11 0)) (s.x.getD 12 0)) (s.x.getD 13 0)) (s.x.getD 14 0)) (s.x.getD 15 0)) (s.x.getD 16 0)) (s.x.getD 17 0)) (s.x.getD 18 0)) (s.x.getD 19 0)) (s.x.getD 20 0)) (s.x.getD 21 0)) (s.x.getD 22 0)) (s.x.getD 23 0)) (s.x.getD 24 0)) (s.x.getD 25 0)) (s.x.getD 26 0)) (s.x.getD 27 0)) (s.x.getD 28 0)) (s.x.getD 29 0)) (s.x.getD 30 0)) (s.x.getD 31 0)) s.th) s.z) s.n) s.c) s.v
  unfold sumE sumR sumG at key
  have es : (⟨s.pc, [s.x.getD 0 0, s.x.getD 1 0, s.x.getD 2 0, s.x.getD 3 0, s.x.getD 4 0, s.x.getD 5 0, s.x.getD 6 0, s.x.getD 7 0, s.x.getD 8 0, s.x.getD 9 0, s.x.getD 10 0, s.x.getD 11 0, s.x.getD 12 0, s.x.getD 13 0, s.x.getD 14 0, s.x.getD 15 0, s.x.getD 16 0, s.x.getD 17 0, s.x.getD 18 0, s.x.getD 19 0, s.x.getD 20 0, s.x.getD 21 0, s.x.getD 22 0, s.x.getD 23 0, s.x.getD 24 0, s.x.getD 25 0, s.x.getD 26 0, s.x.getD 27 0, s.x.getD 28 0, s.x.getD 29 0, s.x.getD 30 0, s.x.getD 31 0], s.z, s.n, s.c, s.v, s.th⟩ : CpuT) = s := by
    obtain ⟨p, x, z, n, c, v, th⟩ := s
    simp only [CpuT.mk.injEq, true_and, and_true]
    exact hx.symm
  rw [es] at key
  have ne : ∀ {x : Int}, (x == 0) = true → (x != 0) = false := by
    intro x h
    have : x = 0 := by simpa using h
    subst this
    rfl
  rw [ne h3.1, ne h3.2, h4] at key
  exact (Tree.fin_run _).symm.trans key

end Go.Ra
