/-
  The document's checks, words, and what a word would be by a row. Conditions: none.
-/
import Derived.Test.YtmbbnhcbphkniaaGreatDoorPk27
import Derived.Test.YtmbbnhcbphkniaaGreatDoorRk28
import Derived.Test.YtmbbnhcbphkniaaGreatDoorPk24
set_option linter.unusedVariables false
set_option linter.unusedSimpArgs false
namespace Go.Rk
open Go Go.Ab Go.Proofs Go.Ra Go.Wd
noncomputable def cx85 : Cx := { P := Tryz.prog, n := 18, tab := [], mtab := [], refs := [], keeps := [0, 1, 2, 6, 8] }
def withinT (b : Bool) (n m : Int) : Tree V :=
  (.br (!b) (.leaf (.bool (n == 0))) (.br (decide (0 ≤ n)) (.leaf (.bool (decide (n ≤ m)))) (.leaf (.bool false))))
theorem withinT_eq (b : Bool) (n m : Int) : (dfun cx85 Tryz.f85 [.bool b, .int .i64 n, .int .i64 m]).run = (withinT b n m).run :=
  (show (dfun cx85 Tryz.f85 [.bool b, .int .i64 n, .int .i64 m]).run = (withinT b n m).out by kernel_rfl).trans (Tree.out_run _)
noncomputable def cx142 : Cx := { P := Tryz.prog, n := 22, tab := [], mtab := [], refs := [], keeps := [0, 1, 4, 5, 16] }
def signXT (n s : Int) : Tree V :=
  (.br (decide (0 ≤ s)) (.br (decide (0 ≤ IntKind.wrap IntKind.u64 (s - 1))) (.br (decide (IntKind.wrap IntKind.i64 (1 * 2 ^ Min.min (Int.toNat (IntKind.wrap IntKind.u64 (s - 1))) 64) ≤ IntKind.wrap IntKind.i64 (IntKind.wrap IntKind.u32 ↑(BitVec.toNat (BitVec.ofInt 32 n &&& BitVec.ofInt 32 (IntKind.wrap IntKind.u32 (IntKind.wrap IntKind.u32 (1 * 2 ^ Min.min (Int.toNat s) 32) - 1))))))) (.br (decide (0 ≤ s)) (.leaf (.int .i64 (IntKind.wrap IntKind.i64 (IntKind.wrap IntKind.i64 (IntKind.wrap IntKind.u32 ↑(BitVec.toNat (BitVec.ofInt 32 n &&& BitVec.ofInt 32 (IntKind.wrap IntKind.u32 (IntKind.wrap IntKind.u32 (1 * 2 ^ Min.min (Int.toNat s) 32) - 1))))) - IntKind.wrap IntKind.i64 (1 * 2 ^ Min.min (Int.toNat s) 64))))) .fail) (.leaf (.int .i64 (IntKind.wrap IntKind.i64 (IntKind.wrap IntKind.u32 ↑(BitVec.toNat (BitVec.ofInt 32 n &&& BitVec.ofInt 32 (IntKind.wrap IntKind.u32 (IntKind.wrap IntKind.u32 (1 * 2 ^ Min.min (Int.toNat s) 32) - 1))))))))) .fail) .fail)
theorem signXT_eq (n s : Int) : (dfun cx142 Tryz.f142 [.int .u32 n, .int .u64 s]).run = (signXT n s).run :=
  (show (dfun cx142 Tryz.f142 [.int .u32 n, .int .u64 s]).run = (signXT n s).out by kernel_rfl).trans (Tree.out_run _)
def withinF (b : Bool) (n m : Int) : Bool := cond b (cond (decide (0 ≤ n)) (decide (n ≤ m)) false) (n == 0)
def withinS : Ab.Spec := fun args => match args with
  | [.bool b, .int .i64 n, .int .i64 m] => .leaf (.bool (withinF b n m))
  | _ => .fail
theorem withinS_ok : Sound Tryz.prog 85 withinS := by
  intro args out h
  unfold withinS at h
  split at h
  rotate_left
  · cases h
  rename_i b n m
  have h := leaf_out h
  subst h
  refine pcall_fun' (cx := cx85) (fn := Tryz.f85) (cx0_ok rfl rfl) (by kernel_rfl) (by kernel_rfl) (by kernel_rfl) ?_
  rw [withinT_eq]
  unfold withinT withinF
  cases b
  · cases (n == 0) <;> rfl
  · cases decide (0 ≤ n) <;> cases decide (n ≤ m) <;> rfl
def lowM (s : Int) : Int := IntKind.wrap IntKind.u32 (IntKind.wrap IntKind.u32 (1 * 2 ^ Min.min (Int.toNat s) 32) - 1)
def lowW (n s : Int) : Int := IntKind.wrap IntKind.i64 (and32 n (lowM s))
def halfW (s : Int) : Int := IntKind.wrap IntKind.i64 (1 * 2 ^ Min.min (Int.toNat (IntKind.wrap IntKind.u64 (s - 1))) 64)
def signX (n s : Int) : Int := cond (decide (halfW s ≤ lowW n s)) (IntKind.wrap IntKind.i64 (lowW n s - IntKind.wrap IntKind.i64 (1 * 2 ^ Min.min (Int.toNat s) 64))) (lowW n s)
def signXS : Ab.Spec := fun args => match args with
  | [.int .u32 n, .int .u64 s] => .req (decide (0 ≤ s)) (.leaf (.int .i64 (signX n s)))
  | _ => .fail
theorem signXS_ok : Sound Tryz.prog 142 signXS := by
  intro args out h
  unfold signXS at h
  split at h
  rotate_left
  · cases h
  rename_i n s
  obtain ⟨h1, h⟩ := req_run h
  have h := leaf_out h
  subst h
  refine pcall_fun' (cx := cx142) (fn := Tryz.f142) (cx0_ok rfl rfl) (by kernel_rfl) (by kernel_rfl) (by kernel_rfl) ?_
  rw [signXT_eq]
  unfold signXT
  refine (br_t h1).trans ((br_t (wrap64_nonneg _)).trans ?_)
  unfold signX
  show (Tree.br (decide (halfW s ≤ lowW n s)) (.br _ (.leaf (V.int .i64 (IntKind.wrap IntKind.i64 (lowW n s - IntKind.wrap IntKind.i64 (1 * 2 ^ Min.min (Int.toNat s) 64))))) .fail) (.leaf (V.int .i64 (lowW n s)))).run = _
  rw [h1]
  cases decide (halfW s ≤ lowW n s) <;> rfl
def isRow (nm : List UInt8) (x : RowX) : Bool := match findLX nm rowsX with
  | some y => y == x
  | none => false
theorem isRow_to {nm : List UInt8} {x : RowX} (h : isRow nm x = true) : findLX nm rowsX = some x := by
  unfold isRow at h
  cases hf : findLX nm rowsX
  · rw [hf] at h; cases h
  · rw [hf] at h; exact congrArg some (eq_of_beq h)
def findAt (x : RowX) : Ab.Spec := fun args => match args with
  | [.str nm] => .req (isRow nm x) (.leaf (.tup [.agg (rowXL x), .bool true]))
  | _ => .fail
theorem findAt_ok (x : RowX) : Sound Tryz.prog 83 (findAt x) := by
  intro args out h
  unfold findAt at h
  split at h
  rotate_left
  · cases h
  rename_i nm
  obtain ⟨h1, h⟩ := req_run h
  have h := leaf_out h
  subst h
  have hx : findLX nm rowsX = some x := isRow_to h1
  have := findX_ok nm
  unfold frowX fokX at this
  rw [hx] at this
  exact this
def xpart (k : Nat) : List RowX := (rowsX.drop (9 * k)).take 9
theorem xrows_parts : (xpart 0 ++ xpart 1 ++ xpart 2 ++ xpart 3 ++ xpart 4 ++ xpart 5) = rowsX := by kernel_rfl
theorem xrows_all {β : Type} {f g : RowX → β} (h0 : (xpart 0).map f = (xpart 0).map g) (h1 : (xpart 1).map f = (xpart 1).map g) (h2 : (xpart 2).map f = (xpart 2).map g)
    (h3 : (xpart 3).map f = (xpart 3).map g) (h4 : (xpart 4).map f = (xpart 4).map g) (h5 : (xpart 5).map f = (xpart 5).map g) : rowsX.map f = rowsX.map g := by
  rw [← xrows_parts]
  simp only [List.map_append, h0, h1, h2, h3, h4, h5]
noncomputable def cxC (x : RowX) : Cx := { P := Tryz.prog, n := 113, tab := [(83, findAt x), (84, hasS), (85, withinS), (86, xofS)], mtab := [], refs := [], keeps := [0, 1, 2, 3, 4, 5, 6, 10, 18, 21, 74, 76, 77, 81, 82, 94, 106, 112] }
theorem cxC_ok (x : RowX) : CxOk (cxC x) := cx1_ok (.cons (findAt_ok x) (.cons hasS_ok (.cons withinS_ok (ok1 xofS_ok)))) (.nil _) rfl rfl
def mostC (x : RowX) : Int := cond (hasX x.2.2.1 116) 63 31
def hasC (x : RowX) : Bool := cond (hasX x.2.2.1 67) true (hasX x.2.2.1 116)
def hasDX (x : RowX) : Bool := cond (hasX x.2.2.1 115) true (cond (hasX x.2.2.1 68) true (hasX x.2.2.1 99))
def kindX (x : RowX) : Int := x.2.2.2.2.2.2.1
def loX (x : RowX) : Int := x.2.2.2.2.2.2.2.2.2.1
def hiX (x : RowX) : Int := x.2.2.2.2.2.2.2.2.2.2.1
def byX (x : RowX) : Int := x.2.2.2.2.2.2.2.2.2.2.2
def tailH (x : RowX) (n : Int) : Tree V :=
  .br (kindX x == 0) (.br (n != 0) (.leaf (.int .i64 13)) (.leaf (.int .i64 0)))
    (.br (kindX x == 109) (.br (decide (0 ≤ IntKind.wrap IntKind.u64 n) && decide (IntKind.wrap IntKind.u64 n < 18446744073709551616)) (.br (!ofOk (u64N n)) (.leaf (.int .i64 3)) (.leaf (.int .i64 0))) .fail)
      (.br (decide (n < loX x)) (.leaf (.int .i64 3)) (.br (decide (hiX x < n)) (.leaf (.int .i64 3)) (.br (!decide (byX x = 0)) (.br (Int.tmod n (byX x) != 0) (.leaf (.int .i64 10)) (.leaf (.int .i64 0))) .fail))))
def checkH (x : RowX) (nm : List UInt8) (a b c d n : Int) : Tree V :=
  .br (isRow nm x) (.br (!withinF (hasX x.2.2.1 65) a 31) (.leaf (.int .i64 13)) (.br (!withinF (hasX x.2.2.1 66) b 31) (.leaf (.int .i64 13)) (.br (!withinF (hasC x) c (mostC x)) (.leaf (.int .i64 13)) (.br (!withinF (hasDX x) d x.2.2.2.2.2.1) (.leaf (.int .i64 13)) (tailH x n))))) .fail
theorem check_0 : (xpart 0).map (fun x nm a b c d n => (dfun (cxC x) Tryz.f38 [.agg [.str nm, .int .i64 a, .int .i64 b, .int .i64 c, .int .i64 d, .int .i64 n]]).out) =
    (xpart 0).map (fun x nm a b c d n => (checkH x nm a b c d n).out) := by kernel_rfl
theorem check_1 : (xpart 1).map (fun x nm a b c d n => (dfun (cxC x) Tryz.f38 [.agg [.str nm, .int .i64 a, .int .i64 b, .int .i64 c, .int .i64 d, .int .i64 n]]).out) =
    (xpart 1).map (fun x nm a b c d n => (checkH x nm a b c d n).out) := by kernel_rfl
theorem check_2 : (xpart 2).map (fun x nm a b c d n => (dfun (cxC x) Tryz.f38 [.agg [.str nm, .int .i64 a, .int .i64 b, .int .i64 c, .int .i64 d, .int .i64 n]]).out) =
    (xpart 2).map (fun x nm a b c d n => (checkH x nm a b c d n).out) := by kernel_rfl
theorem check_3 : (xpart 3).map (fun x nm a b c d n => (dfun (cxC x) Tryz.f38 [.agg [.str nm, .int .i64 a, .int .i64 b, .int .i64 c, .int .i64 d, .int .i64 n]]).out) =
    (xpart 3).map (fun x nm a b c d n => (checkH x nm a b c d n).out) := by kernel_rfl
theorem check_4 : (xpart 4).map (fun x nm a b c d n => (dfun (cxC x) Tryz.f38 [.agg [.str nm, .int .i64 a, .int .i64 b, .int .i64 c, .int .i64 d, .int .i64 n]]).out) =
    (xpart 4).map (fun x nm a b c d n => (checkH x nm a b c d n).out) := by kernel_rfl
theorem check_5 : (xpart 5).map (fun x nm a b c d n => (dfun (cxC x) Tryz.f38 [.agg [.str nm, .int .i64 a, .int .i64 b, .int .i64 c, .int .i64 d, .int .i64 n]]).out) =
    (xpart 5).map (fun x nm a b c d n => (checkH x nm a b c d n).out) := by kernel_rfl
theorem check_all : rowsX.map (fun x nm a b c d n => (dfun (cxC x) Tryz.f38 [.agg [.str nm, .int .i64 a, .int .i64 b, .int .i64 c, .int .i64 d, .int .i64 n]]).out) =
    rowsX.map (fun x nm a b c d n => (checkH x nm a b c d n).out) := xrows_all check_0 check_1 check_2 check_3 check_4 check_5
noncomputable def cxW (x : RowX) : Cx := { P := Tryz.prog, n := 105, tab := [(83, findAt x), (86, xofS)], mtab := [], refs := [], keeps := [0, 1, 2, 3, 5, 6, 7, 8, 9, 10, 47, 48, 68, 90] }
theorem cxW_ok (x : RowX) : CxOk (cxW x) := cx1_ok (.cons (findAt_ok x) (ok1 xofS_ok)) (.nil _) rfl rfl
def shlM (n : Int) (k : Int) : Int := IntKind.wrap IntKind.u32 (IntKind.wrap IntKind.u32 n * 2 ^ Min.min (Int.toNat k) 32)
def baseX (x : RowX) (a b c d : Int) : Int := or32 (or32 (or32 (or32 x.2.1 (IntKind.wrap IntKind.u32 a)) (IntKind.wrap IntKind.u32 (IntKind.wrap IntKind.u32 b * 2 ^ 5))) (shlM c x.2.2.2.1)) (shlM d x.2.2.2.2.1)
def atX (x : RowX) : Int := x.2.2.2.2.2.2.2.1
def siX (x : RowX) : Int := x.2.2.2.2.2.2.2.2.1
def immI (x : RowX) (n : Int) : Int := IntKind.wrap IntKind.u32 (IntKind.wrap IntKind.u64 (and64 (IntKind.wrap IntKind.u64 (IntKind.wrap IntKind.i64 (Int.tdiv n (byX x)))) (IntKind.wrap IntKind.u64 (IntKind.wrap IntKind.u64 (1 * 2 ^ Min.min (Int.toNat (siX x)) 64) - 1)) * 2 ^ Min.min (Int.toNat (atX x)) 64))
def wordR (x : RowX) (a b c d n : Int) : Int :=
  cond (kindX x == 105) (or32 (baseX x a b c d) (immI x n))
    (cond (kindX x == 109) (or32 (or32 (or32 (baseX x a b c d) (IntKind.wrap IntKind.u32 (IntKind.wrap IntKind.u32 (ofVN (u64N n)) * 2 ^ 22))) (IntKind.wrap IntKind.u32 (IntKind.wrap IntKind.u32 (ofVR (u64N n)) * 2 ^ 16))) (IntKind.wrap IntKind.u32 (IntKind.wrap IntKind.u32 (ofVS (u64N n)) * 2 ^ 10)))
      (cond (kindX x == 97) (or32 (or32 (baseX x a b c d) (IntKind.wrap IntKind.u32 (IntKind.wrap IntKind.u32 (and64 (IntKind.wrap IntKind.u64 n) 3) * 2 ^ 29))) (IntKind.wrap IntKind.u32 (IntKind.wrap IntKind.u32 (and64 (Int.fdiv (IntKind.wrap IntKind.u64 n) (2 ^ 2)) 524287) * 2 ^ 5)))
        (baseX x a b c d)))
def wordH (x : RowX) (nm : List UInt8) (a b c d n : Int) : Tree V :=
  .br (isRow nm x) (.br (kindX x == 109) (.br (decide (0 ≤ IntKind.wrap IntKind.u64 n) && decide (IntKind.wrap IntKind.u64 n < 18446744073709551616)) (.leaf (.int .u32 (wordR x a b c d n))) .fail) (.leaf (.int .u32 (wordR x a b c d n)))) .fail
theorem word_0 : (xpart 0).map (fun x nm a b c d n => (dfun (cxW x) Tryz.f106 [.agg [.str nm, .int .i64 a, .int .i64 b, .int .i64 c, .int .i64 d, .int .i64 n]]).out) =
    (xpart 0).map (fun x nm a b c d n => (wordH x nm a b c d n).out) := by kernel_rfl
theorem word_1 : (xpart 1).map (fun x nm a b c d n => (dfun (cxW x) Tryz.f106 [.agg [.str nm, .int .i64 a, .int .i64 b, .int .i64 c, .int .i64 d, .int .i64 n]]).out) =
    (xpart 1).map (fun x nm a b c d n => (wordH x nm a b c d n).out) := by kernel_rfl
theorem word_2 : (xpart 2).map (fun x nm a b c d n => (dfun (cxW x) Tryz.f106 [.agg [.str nm, .int .i64 a, .int .i64 b, .int .i64 c, .int .i64 d, .int .i64 n]]).out) =
    (xpart 2).map (fun x nm a b c d n => (wordH x nm a b c d n).out) := by kernel_rfl
theorem word_3 : (xpart 3).map (fun x nm a b c d n => (dfun (cxW x) Tryz.f106 [.agg [.str nm, .int .i64 a, .int .i64 b, .int .i64 c, .int .i64 d, .int .i64 n]]).out) =
    (xpart 3).map (fun x nm a b c d n => (wordH x nm a b c d n).out) := by kernel_rfl
theorem word_4 : (xpart 4).map (fun x nm a b c d n => (dfun (cxW x) Tryz.f106 [.agg [.str nm, .int .i64 a, .int .i64 b, .int .i64 c, .int .i64 d, .int .i64 n]]).out) =
    (xpart 4).map (fun x nm a b c d n => (wordH x nm a b c d n).out) := by kernel_rfl
theorem word_5 : (xpart 5).map (fun x nm a b c d n => (dfun (cxW x) Tryz.f106 [.agg [.str nm, .int .i64 a, .int .i64 b, .int .i64 c, .int .i64 d, .int .i64 n]]).out) =
    (xpart 5).map (fun x nm a b c d n => (wordH x nm a b c d n).out) := by kernel_rfl
theorem word_all : rowsX.map (fun x nm a b c d n => (dfun (cxW x) Tryz.f106 [.agg [.str nm, .int .i64 a, .int .i64 b, .int .i64 c, .int .i64 d, .int .i64 n]]).out) =
    rowsX.map (fun x nm a b c d n => (wordH x nm a b c d n).out) := xrows_all word_0 word_1 word_2 word_3 word_4 word_5
noncomputable def cx105 : Cx := { P := Tryz.prog, n := 141, tab := [(84, hasS), (142, signXS), (143, atS)], mtab := [], refs := [], keeps := [0, 1, 2, 4, 5, 6, 7, 8, 15, 22, 30, 40, 60, 65, 79, 80, 94, 107, 128], fuel := 8 }
theorem cxR_ok : CxOk cx105 := cx1_ok (.cons hasS_ok (.cons signXS_ok (ok1 atXS_ok))) (.nil _) rfl rfl
def andM (w k m : Int) : Int := IntKind.wrap IntKind.i64 (and32 (Int.fdiv w (2 ^ Min.min (Int.toNat k) 32)) m)
def readC (x : RowX) (w : Int) : Int := cond (hasX x.2.2.1 116) (andM w x.2.2.2.1 63) (cond (hasX x.2.2.1 67) (andM w x.2.2.2.1 31) 0)
def readI (x : RowX) (w : Int) : Int :=
  cond (kindX x == 105) (IntKind.wrap IntKind.i64 (cond (decide (loX x < 0)) (signX (Int.fdiv w (2 ^ Min.min (Int.toNat (atX x)) 32)) (siX x)) (andM w (atX x) (lowM (siX x))) * byX x))
    (cond (kindX x == 109) (IntKind.wrap IntKind.i64 ((atV (IntKind.wrap IntKind.i64 (and32 (Int.fdiv w (2 ^ 22)) 1)) (IntKind.wrap IntKind.i64 (and32 (Int.fdiv w (2 ^ 16)) 63)) (IntKind.wrap IntKind.i64 (and32 (Int.fdiv w (2 ^ 10)) 63)) : Nat) : Int))
      (cond (kindX x == 97) (signX (or32 (IntKind.wrap IntKind.u32 (and32 (Int.fdiv w (2 ^ 5)) 524287 * 2 ^ 2)) (and32 (Int.fdiv w (2 ^ 29)) 3)) 21) 0))
def readX (w : Int) (x : RowX) : InsT :=
  (x.1, cond (hasX x.2.2.1 65) (IntKind.wrap IntKind.i64 (and32 w 31)) 0, cond (hasX x.2.2.1 66) (IntKind.wrap IntKind.i64 (and32 (Int.fdiv w (2 ^ 5)) 31)) 0, readC x w,
    cond (hasDX x) (andM w x.2.2.2.2.1 (lowM (sizeD x.2.2.2.2.2.1))) 0, readI x w)
theorem read_0 : (xpart 0).map (fun x w => (dfun cx105 Tryz.f105 [.agg (rowXL x), .int .u32 w]).out) =
    (xpart 0).map (fun x w => (Tree.leaf (insV (readX w x))).out) := by kernel_rfl
theorem read_1 : (xpart 1).map (fun x w => (dfun cx105 Tryz.f105 [.agg (rowXL x), .int .u32 w]).out) =
    (xpart 1).map (fun x w => (Tree.leaf (insV (readX w x))).out) := by kernel_rfl
theorem read_2 : (xpart 2).map (fun x w => (dfun cx105 Tryz.f105 [.agg (rowXL x), .int .u32 w]).out) =
    (xpart 2).map (fun x w => (Tree.leaf (insV (readX w x))).out) := by kernel_rfl
theorem read_3 : (xpart 3).map (fun x w => (dfun cx105 Tryz.f105 [.agg (rowXL x), .int .u32 w]).out) =
    (xpart 3).map (fun x w => (Tree.leaf (insV (readX w x))).out) := by kernel_rfl
theorem read_4 : (xpart 4).map (fun x w => (dfun cx105 Tryz.f105 [.agg (rowXL x), .int .u32 w]).out) =
    (xpart 4).map (fun x w => (Tree.leaf (insV (readX w x))).out) := by kernel_rfl
theorem read_5 : (xpart 5).map (fun x w => (dfun cx105 Tryz.f105 [.agg (rowXL x), .int .u32 w]).out) =
    (xpart 5).map (fun x w => (Tree.leaf (insV (readX w x))).out) := by kernel_rfl
theorem read_all : rowsX.map (fun x w => (dfun cx105 Tryz.f105 [.agg (rowXL x), .int .u32 w]).out) =
    rowsX.map (fun x w => (Tree.leaf (insV (readX w x))).out) := xrows_all read_0 read_1 read_2 read_3 read_4 read_5
theorem of_map_eq {α β : Type} {f g : α → β} {l : List α} (h : l.map f = l.map g) {x : α} (hx : x ∈ l) : f x = g x := List.map_inj_left.1 h x hx
theorem row_of {nm : List UInt8} (h : fokX nm = true) : findLX nm rowsX = some (frowX nm) ∧ frowX nm ∈ rowsX ∧ isRow nm (frowX nm) = true := by
  unfold fokX at h
  obtain ⟨r, hr⟩ := Option.isSome_iff_exists.1 h
  have h1 : frowX nm = r := by unfold frowX; rw [hr]; rfl
  refine ⟨by rw [h1]; exact hr, by rw [h1]; exact List.mem_of_find?_eq_some hr, ?_⟩
  unfold isRow
  rw [hr, h1]
  exact beq_self_eq_true _
def tailR (x : RowX) (n : Int) : Int :=
  cond (kindX x == 0) (cond (n != 0) 13 0) (cond (kindX x == 109) (cond (!ofOk (u64N n)) 3 0) (cond (decide (n < loX x)) 3 (cond (decide (hiX x < n)) 3 (cond (Int.tmod n (byX x) != 0) 10 0))))
def checkR (x : RowX) (a b c d n : Int) : Int :=
  cond (!withinF (hasX x.2.2.1 65) a 31) 13 (cond (!withinF (hasX x.2.2.1 66) b 31) 13 (cond (!withinF (hasC x) c (mostC x)) 13 (cond (!withinF (hasDX x) d x.2.2.2.2.2.1) 13 (tailR x n))))
def byFine (x : RowX) : Bool := kindX x == 0 || (kindX x == 109 || !decide (byX x = 0))
theorem rows_by : rowsX.all byFine = true := by kernel_rfl
theorem tail_run {x : RowX} (hx : byFine x = true) (n : Int) : (tailH x n).run = some (.int .i64 (tailR x n)) := by
  unfold tailH tailR
  rw [u64_rng]
  unfold byFine at hx
  cases h0 : (kindX x == 0)
  · cases h1 : (kindX x == 109)
    · rw [h0, h1, Bool.false_or, Bool.false_or] at hx
      rw [hx]
      cases decide (n < loX x)
      · cases decide (hiX x < n)
        · cases (Int.tmod n (byX x) != 0) <;> rfl
        · rfl
      · rfl
    · cases (!ofOk (u64N n)) <;> rfl
  · cases (n != 0) <;> rfl
theorem check_run {x : RowX} (hx : byFine x = true) {nm : List UInt8} (h : isRow nm x = true) (a b c d n : Int) : (checkH x nm a b c d n).run = some (.int .i64 (checkR x a b c d n)) := by
  unfold checkH checkR
  rw [h]
  cases (!withinF (hasX x.2.2.1 65) a 31)
  rotate_left
  · rfl
  cases (!withinF (hasX x.2.2.1 66) b 31)
  rotate_left
  · rfl
  cases (!withinF (hasC x) c (mostC x))
  rotate_left
  · rfl
  cases (!withinF (hasDX x) d x.2.2.2.2.2.1)
  rotate_left
  · rfl
  exact tail_run hx n
def checkX (i : InsT) : Int := cond (fokX i.1) (checkR (frowX i.1) i.2.1 i.2.2.1 i.2.2.2.1 i.2.2.2.2.1 i.2.2.2.2.2) 7
def findNo : Ab.Spec := fun args => match args with
  | [.str nm] => .req (!fokX nm) (.leaf (.tup [.agg (rowXL zeroX), .bool false]))
  | _ => .fail
theorem findNo_ok : Sound Tryz.prog 83 findNo := by
  intro args out h
  unfold findNo at h
  split at h
  rotate_left
  · cases h
  rename_i nm
  obtain ⟨h1, h⟩ := req_run h
  have h := leaf_out h
  subst h
  have hf : fokX nm = false := by simpa using h1
  have hn : findLX nm rowsX = none := by
    unfold fokX at hf
    cases hl : findLX nm rowsX
    · rfl
    · rw [hl] at hf; cases hf
  have := findX_ok nm
  unfold frowX fokX at this
  rw [hn] at this
  exact this
noncomputable def cxNo : Cx := { P := Tryz.prog, n := 113, tab := [(83, findNo)], mtab := [], refs := [], keeps := [0, 1, 2, 3, 4, 5, 6, 10, 18, 21, 74, 76, 77, 81, 82, 94, 106, 112] }
theorem no_run (nm : List UInt8) (a b c d n : Int) : (dfun cxNo Tryz.f38 [.agg [.str nm, .int .i64 a, .int .i64 b, .int .i64 c, .int .i64 d, .int .i64 n]]).run = (Tree.req (!fokX nm) (.leaf (V.int .i64 7))).run :=
  (show _ = (Tree.req (!fokX nm) (.leaf (V.int .i64 7))).out by kernel_rfl).trans (Tree.out_run _)
def checkS : Ab.Spec := fun args => match args with
  | [.agg [.str nm, .int .i64 a, .int .i64 b, .int .i64 c, .int .i64 d, .int .i64 n]] => .leaf (.int .i64 (checkX (nm, a, b, c, d, n)))
  | _ => .fail
theorem checkS_ok : Sound Tryz.prog 38 checkS := by
  intro args out h
  unfold checkS at h
  split at h
  rotate_left
  · cases h
  rename_i nm a b c d n
  have h := leaf_out h
  subst h
  unfold checkX
  cases hf : fokX nm
  · refine pcall_fun' (cx := cxNo) (fn := Tryz.f38) (cx1_ok (ok1 findNo_ok) (.nil _) rfl rfl) (by kernel_rfl) (by kernel_rfl) (by kernel_rfl) ?_
    refine (no_run nm a b c d n).trans ?_
    rw [hf]
    rfl
  · obtain ⟨_, h2, h3⟩ := row_of hf
    refine pcall_fun' (cx := cxC (frowX nm)) (fn := Tryz.f38) (cxC_ok _) (by kernel_rfl) (by kernel_rfl) (by kernel_rfl) ?_
    have e := congrFun (congrFun (congrFun (congrFun (congrFun (congrFun (of_map_eq check_all h2) nm) a) b) c) d) n
    refine ((Tree.out_run _).symm.trans (e.trans (Tree.out_run _))).trans ?_
    exact check_run (List.all_eq_true.1 rows_by _ h2) h3 a b c d n
def wordX (i : InsT) : Int := wordR (frowX i.1) i.2.1 i.2.2.1 i.2.2.2.1 i.2.2.2.2.1 i.2.2.2.2.2
def wordXS : Ab.Spec := fun args => match args with
  | [.agg [.str nm, .int .i64 a, .int .i64 b, .int .i64 c, .int .i64 d, .int .i64 n]] => .req (fokX nm) (.leaf (.int .u32 (wordX (nm, a, b, c, d, n))))
  | _ => .fail
theorem wordXS_ok : Sound Tryz.prog 106 wordXS := by
  intro args out h
  unfold wordXS at h
  split at h
  rotate_left
  · cases h
  rename_i nm a b c d n
  obtain ⟨hf, h⟩ := req_run h
  have h := leaf_out h
  subst h
  obtain ⟨_, h2, h3⟩ := row_of hf
  refine pcall_fun' (cx := cxW (frowX nm)) (fn := Tryz.f106) (cxW_ok _) (by kernel_rfl) (by kernel_rfl) (by kernel_rfl) ?_
  have e := congrFun (congrFun (congrFun (congrFun (congrFun (congrFun (of_map_eq word_all h2) nm) a) b) c) d) n
  refine ((Tree.out_run _).symm.trans (e.trans (Tree.out_run _))).trans ?_
  unfold wordH
  rw [h3, u64_rng]
  cases (kindX (frowX nm) == 109) <;> rfl
def hasRow (x : RowX) : Bool := decide (x ∈ rowsX)
def readXS : Ab.Spec := fun args => match args with
  | [.agg [.str nm, .int .u32 o, .str ops, .int .u64 c, .int .u64 d, .int .i64 m, .int .u8 k, .int .u64 a, .int .u64 s, .int .i64 lo, .int .i64 hi, .int .i64 by_], .int .u32 w] =>
    .req (hasRow (nm, o, ops, c, d, m, k, a, s, lo, hi, by_)) (.leaf (insV (readX w (nm, o, ops, c, d, m, k, a, s, lo, hi, by_))))
  | _ => .fail
theorem readXS_ok : Sound Tryz.prog 105 readXS := by
  intro args out h
  unfold readXS at h
  split at h
  rotate_left
  · cases h
  rename_i nm o ops c d m k a s lo hi by_ w
  obtain ⟨hf, h⟩ := req_run h
  have h := leaf_out h
  subst h
  have hm : (nm, o, ops, c, d, m, k, a, s, lo, hi, by_) ∈ rowsX := of_decide_eq_true hf
  refine pcall_fun' (cx := cx105) (fn := Tryz.f105) cxR_ok (by kernel_rfl) (by kernel_rfl) (by kernel_rfl) ?_
  have e := congrFun (of_map_eq read_all hm) w
  exact (Tree.out_run _).symm.trans (e.trans (Tree.out_run _))
end Go.Rk
