/-
  The document's rows are the program's; its Operands. Conditions: none.
-/
import Derived.Test.YtbanejncffdihaaPk10
set_option linter.unusedVariables false
set_option linter.unusedSimpArgs false
namespace Go.Amd
open Go Go.Ab Go.Proofs
def prefC (r : Int) : Int := cond (r == 0) 0 (cond (r == 2) 1 2)
def opC (o : Option (List Int)) : Int := match o with
  | some [a] => a
  | some [a, b] => 256 * a + b
  | _ => 0
def formC (f : Int) : Int := ([0, 7, 2, 4, 9, 10, 6, 8, 3, 0, 5, 8, 1, 11, 12, 11, 12] : List Int).getD f.toNat 0
def condC (f : Int) : Bool := f == 11 || f == 15 || f == 16
def longC (f : Int) : Bool := f == 3 || f == 4 || f == 5 || f == 6 || f == 13 || f == 15
def shortC (f : Int) : Bool := f == 14 || f == 16
def lowC (f : Int) : Int := cond (f == 2) (-9223372036854775808) (cond (longC f) (-2147483648) (cond (shortC f) (-128) 0))
def highC (f : Int) : Int := cond (f == 2) 9223372036854775807 (cond (longC f) 2147483647 (cond (shortC f) 127 (cond (f == 10) 63 0)))
def opsC (f : Int) : List UInt8 :=
  cond (f == 1 || f == 7) [65, 66] (cond (f == 2 || f == 3 || f == 6 || f == 10 || f == 5) [65, 105] (cond (f == 4) [65, 109] (cond (f == 8 || f == 12) [65] (cond (f == 11) [65, 66, 99] (cond (f == 13 || f == 14) [106] (cond (f == 15 || f == 16) [99, 106] []))))))
def conv (x : RowX) : RowT := (x.1, prefC x.2.2.2.2, opC x.2.2.1, formC x.2.1, x.2.2.2.1, condC x.2.1, lowC x.2.1, highC x.2.1, opsC x.2.1)
theorem rows_conv : rowsX.map conv = rowsL := by kernel_rfl
theorem find_conv (nm : List UInt8) : findL nm rowsL = (findLX nm rowsX).map conv := by
  unfold findL findLX
  rw [← rows_conv, List.find?_map]
  rfl
theorem fok_eq (nm : List UInt8) : fok nm = fokX nm := by
  unfold fok fokX
  rw [find_conv]
  cases findLX nm rowsX <;> rfl
theorem frow_eq {nm : List UInt8} (h : fokX nm = true) : frow nm = conv (frowX nm) ∧ frowX nm ∈ rowsX := by
  unfold fokX at h
  obtain ⟨r, hr⟩ := Option.isSome_iff_exists.1 h
  have h1 : frowX nm = r := by unfold frowX; rw [hr]; rfl
  refine ⟨?_, by rw [h1]; exact List.mem_of_find?_eq_some hr⟩
  unfold frow
  rw [find_conv, hr, h1]
  rfl
def isRow (nm : List UInt8) (x : RowX) : Bool := match findLX nm rowsX with
  | some y => y == x
  | none => false
theorem isRow_to {nm : List UInt8} {x : RowX} (h : isRow nm x = true) : findLX nm rowsX = some x := by
  unfold isRow at h
  cases hf : findLX nm rowsX
  · rw [hf] at h; cases h
  · rw [hf] at h; exact congrArg some (eq_of_beq h)
def findAt (x : RowX) : Ab.Spec := fun args => match args with
  | [.str nm] => .req (isRow nm x) (.leaf (.tup [.agg (rowXL x), .bool true]))
  | _ => .fail
theorem findAt_ok (x : RowX) : Sound Try.prog 36 (findAt x) := by
  intro args out h
  unfold findAt at h
  split at h
  rotate_left
  · cases h
  rename_i nm
  obtain ⟨h1, h⟩ := req_run h
  have h := leaf_out h
  subst h
  have hx : findLX nm rowsX = some x := isRow_to h1
  have := findX_ok nm
  unfold frowX fokX rowV at this
  rw [hx] at this
  exact this
def findNo : Ab.Spec := fun args => match args with
  | [.str nm] => .req (!fokX nm) (.leaf (.tup [.agg (rowXL zeroX), .bool false]))
  | _ => .fail
theorem findNo_ok : Sound Try.prog 36 findNo := by
  intro args out h
  unfold findNo at h
  split at h
  rotate_left
  · cases h
  rename_i nm
  obtain ⟨h1, h⟩ := req_run h
  have h := leaf_out h
  subst h
  have hf : fokX nm = false := by simpa using h1
  have hn : findLX nm rowsX = none := by
    unfold fokX at hf
    cases hl : findLX nm rowsX
    · rfl
    · rw [hl] at hf; cases hf
  have := findX_ok nm
  unfold frowX fokX rowV at this
  rw [hn] at this
  exact this
theorem row_of {nm : List UInt8} (h : fokX nm = true) : findLX nm rowsX = some (frowX nm) ∧ frowX nm ∈ rowsX ∧ isRow nm (frowX nm) = true := by
  unfold fokX at h
  obtain ⟨r, hr⟩ := Option.isSome_iff_exists.1 h
  have h1 : frowX nm = r := by unfold frowX; rw [hr]; rfl
  refine ⟨by rw [h1]; exact hr, by rw [h1]; exact List.mem_of_find?_eq_some hr, ?_⟩
  unfold isRow
  rw [hr, h1]
  exact beq_self_eq_true _
theorem of_map_eq {α β : Type} {f g : α → β} {l : List α} (h : l.map f = l.map g) {x : α} (hx : x ∈ l) : f x = g x := List.map_inj_left.1 h x hx
end Go.Amd

namespace Go.Amd
open Go Go.Ab Go.Proofs
noncomputable def cx31 : Cx := { P := Try.prog, n := 26, tab := [], mtab := [], refs := [], keeps := [0, 1, 2, 6, 7, 8, 9], fuel := 9 }
noncomputable def cx32 : Cx := { P := Try.prog, n := 43, tab := [], mtab := [], refs := [], keeps := [0, 1, 2, 3] }
noncomputable def cx61 : Cx := { P := Try.prog, n := 54, tab := [], mtab := [], refs := [], keeps := [0, 1, 3, 4, 5, 9, 14], fuel := 5 }
noncomputable def immM : MSpec := fun args H => .req (Nat.ble args.length Try.f31.ntmps) (mfun cx31 Try.f31 args H)
theorem immM_ok : MSound Try.prog 31 immM := msound_fun (cx := cx31) (fn := Try.f31) (cx0_ok rfl rfl) (by kernel_rfl) (by kernel_rfl)
noncomputable def modrmM : MSpec := fun args H => .req (Nat.ble args.length Try.f32.ntmps) (mfun cx32 Try.f32 args H)
theorem modrmM_ok : MSound Try.prog 32 modrmM := msound_fun (cx := cx32) (fn := Try.f32) (cx0_ok rfl rfl) (by kernel_rfl) (by kernel_rfl)
noncomputable def sibM : MSpec := fun args H => .req (Nat.ble args.length Try.f61.ntmps) (mfun cx61 Try.f61 args H)
theorem sibM_ok : MSound Try.prog 61 sibM := msound_fun (cx := cx61) (fn := Try.f61) (cx0_ok rfl rfl) (by kernel_rfl) (by kernel_rfl)
noncomputable def cx34 : Cx := { P := Try.prog, n := 60, tab := [(33, fitsS)], mtab := [(31, immM), (32, modrmM), (61, sibM)], refs := [], keeps := [0, 1, 3, 4, 5, 8, 17, 27, 39] }
noncomputable def placeM : MSpec := fun args H => .req (Nat.ble args.length Try.f34.ntmps) (mfun cx34 Try.f34 args H)
theorem placeM_ok : MSound Try.prog 34 placeM := msound_fun (cx := cx34) (fn := Try.f34) (cx1_ok (ok1 fitsS_ok) (.cons immM_ok (.cons modrmM_ok (.cons sibM_ok (.nil _)))) rfl rfl) (by kernel_rfl) (by kernel_rfl)
noncomputable def cx35 : Cx := { P := Try.prog, n := 50, tab := [], mtab := [], refs := [], keeps := [0, 1, 2, 3, 6, 7, 10, 16, 33] }
noncomputable def wholeM : MSpec := fun args H => .req (Nat.ble args.length Try.f35.ntmps) (mfun cx35 Try.f35 args H)
theorem wholeM_ok : MSound Try.prog 35 wholeM := msound_fun (cx := cx35) (fn := Try.f35) (cx0_ok rfl rfl) (by kernel_rfl) (by kernel_rfl)
noncomputable def cxCode : Cx := { P := Try.prog, n := Try.f30.ntmps, tab := [], mtab := [], refs := [13, 17], keeps := [0, 1, 2, 5] }
noncomputable def codeM : MSpec := fun args H => .req (Nat.ble args.length Try.f30.ntmps) (mfun cxCode Try.f30 args H)
theorem codeM_ok : MSound Try.prog 30 codeM := msound_fun (cx := cxCode) (fn := Try.f30) (cx0_ok rfl rfl) (by kernel_rfl) (by kernel_rfl)
noncomputable def cx18 : Cx := { P := Try.prog, n := 164, tab := [(33, fitsS)], mtab := [(30, codeM), (31, immM), (32, modrmM), (34, placeM), (35, wholeM)], refs := [], keeps := [0, 1, 2, 3, 4, 5, 6, 7, 18, 28, 29, 55, 60, 72, 80, 98, 108, 116, 124, 129, 148, 154] }
theorem cxBy_ok : CxOk cx18 := cx1_ok (ok1 fitsS_ok) (.cons codeM_ok (.cons immM_ok (.cons modrmM_ok (.cons placeM_ok (.cons wholeM_ok (.nil _)))))) rfl rfl
end Go.Amd

namespace Go.Amd
open Go Go.Ab Go.Proofs
def w8 (x : Int) : Int := IntKind.wrap .u8 x
def or8 (a b : Int) : Int := IntKind.wrap .u8 ↑(BitVec.toNat (BitVec.ofInt 8 a ||| BitVec.ofInt 8 b))
def ori (a b : Int) : Int := IntKind.wrap .i64 ↑(BitVec.toNat (BitVec.ofInt 64 a ||| BitVec.ofInt 64 b))
def andi (a b : Int) : Int := IntKind.wrap .i64 ↑(BitVec.toNat (BitVec.ofInt 64 a &&& BitVec.ofInt 64 b))
def wi (x : Int) : Int := IntKind.wrap .i64 x
def hi4 (r k : Int) : Int := w8 (w8 (Int.fdiv r (2 ^ 3)) * k)
def rexM (R reg rm : Int) : Int := or8 R (or8 (hi4 reg 4) (hi4 rm 1))
def mrB (m reg rm : Int) : Int := w8 (ori (ori (wi (m * 2 ^ 6)) (wi (andi reg 7 * 2 ^ 3))) (andi rm 7))
def imB (n : Int) (k : Nat) : Int := w8 (Int.fdiv n (2 ^ k))
def im1 (n : Int) : List Int := [imB n 0]
def im4 (n : Int) : List Int := [imB n 0, imB n 8, imB n 16, imB n 24]
def im8 (n : Int) : List Int := [imB n 0, imB n 8, imB n 16, imB n 24, imB n 32, imB n 40, imB n 48, imB n 56]
def leafB (l : List Int) : Tree V := .leaf (.sl (.int .u8) l [] .ro)
def W0 (fsl : List Int) (R : Int) (op tail : List Int) : Tree V := .br (R != 0) (leafB (fsl ++ [or8 64 R] ++ op ++ tail)) (leafB (fsl ++ op ++ tail))
def W1 (fsl : List Int) (R : Int) (op tail : List Int) : Tree V := leafB (fsl ++ [or8 64 (or8 R 8)] ++ op ++ tail)
def W2 (fsl : List Int) (R : Int) (op tail : List Int) : Tree V := leafB (fsl ++ [or8 64 R] ++ op ++ tail)
def sibR (R index b : Int) : Int := or8 R (or8 (hi4 index 2) (hi4 b 1))
def sibH (K : Int → List Int → Tree V) (R : Int) (tail imm : List Int) (b index d : Int) : Tree V :=
  .br (decide (1 < d)) (.br (decide (2 < d)) (.br (decide (4 < d)) (.br (decide (8 < d)) (.br (decide (16 < d)) .fail (K (sibR R index b) (tail ++ [mrB 4 index b] ++ imm))) (K (sibR R index b) (tail ++ [mrB 3 index b] ++ imm)))
    (K (sibR R index b) (tail ++ [mrB 2 index b] ++ imm))) (K (sibR R index b) (tail ++ [mrB 1 index b] ++ imm))) (K (sibR R index b) (tail ++ [mrB 0 index b] ++ imm))
def withH (K : Int → List Int → Tree V) (m a b c d : Int) (imm : List Int) : Tree V :=
  .br (c == 16) (sibH K (rexM 0 a 4) [mrB m a 4] imm b 4 d) (sibH K (rexM 0 a 4) [mrB m a 4] imm b c d)
def modH (K : Int → List Int → Tree V) (m a b c d : Int) (imm : List Int) : Tree V :=
  .br (c == 16) (.br (andi b 7 != 4) (K (rexM 0 a b) ([mrB m a b] ++ imm)) (withH K m a b c d imm)) (withH K m a b c d imm)
def longH (K : Int → List Int → Tree V) (a b c d n : Int) : Tree V :=
  .br (fitsF n) (modH K 1 a b c d (im1 n)) (modH K 2 a b c d (im4 n))
def memH (K : Int → List Int → Tree V) (a b c d n : Int) : Tree V :=
  .br (b == 17) (K (rexM 0 a 5) ([mrB 0 a 5] ++ im4 n)) (.br (n == 0) (.br (andi b 7 != 5) (modH K 0 a b c d []) (longH K a b c d n)) (longH K a b c d n))
abbrev BodyT := Int → List Int → Int → Int → Int → Int → Int → Int → Tree V
def bytesH (p : BodyT) (op dg a b c d n : Int) : Tree V :=
  .br (decide (255 < op)) (p dg [w8 (Int.fdiv op (2 ^ 8))] (w8 op) a b c d n) (p dg [] (w8 op) a b c d n)
def kindsB : List ((Int × Int × Bool) × BodyT) := [
  ((0, 0, false), fun _dg hd l _a _b _c _d _n => W0 [] 0 (hd ++ [l]) []),
  ((0, 1, false), fun _dg hd l _a _b _c _d _n => W1 [] 0 (hd ++ [l]) []),
  ((1, 0, false), fun _dg hd l a _b _c _d _n => W0 [] (or8 0 (hi4 a 1)) (hd ++ [w8 (l + w8 (andi a 7))]) []),
  ((2, 1, false), fun _dg hd l a _b _c _d n => W1 [] (or8 0 (hi4 a 1)) (hd ++ [w8 (l + w8 (andi a 7))]) (im8 n)),
  ((3, 0, false), fun dg hd l a _b _c _d _n => W0 [] (rexM 0 (wi dg) a) (hd ++ [l]) [mrB 3 (wi dg) a]),
  ((3, 1, false), fun dg hd l a _b _c _d _n => W1 [] (rexM 0 (wi dg) a) (hd ++ [l]) [mrB 3 (wi dg) a]),
  ((4, 1, false), fun dg hd l a _b _c _d n => W1 [] (rexM 0 (wi dg) a) (hd ++ [l]) ([mrB 3 (wi dg) a] ++ im4 n)),
  ((5, 1, false), fun dg hd l a _b _c _d n => W1 [] (rexM 0 (wi dg) a) (hd ++ [l]) ([mrB 3 (wi dg) a] ++ im1 n)),
  ((6, 1, false), fun dg hd l a _b _c _d n => .br (fitsF n) (W1 [] (rexM 0 (wi dg) a) (hd ++ [l]) ([mrB 3 (wi dg) a] ++ im1 n)) (W1 [] (rexM 0 (wi dg) a) (hd ++ [129]) ([mrB 3 (wi dg) a] ++ im4 n))),
  ((7, 1, false), fun _dg hd l a b _c _d _n => W1 [] (rexM 0 b a) (hd ++ [l]) [mrB 3 b a]),
  ((8, 1, false), fun _dg hd l a b _c _d _n => W1 [] (rexM 0 a b) (hd ++ [l]) [mrB 3 a b]),
  ((8, 1, true), fun _dg hd l a b _c d _n => W1 [] (rexM 0 a b) (hd ++ [(w8 (l + w8 d))]) [mrB 3 a b]),
  ((9, 0, false), fun _dg hd l a b c d n => memH (fun R t => W0 [] R (hd ++ [l]) t) a b c d n),
  ((9, 1, false), fun _dg hd l a b c d n => memH (fun R t => W1 [] R (hd ++ [l]) t) a b c d n),
  ((9, 2, false), fun _dg hd l a b c d n => memH (fun R t => W2 [] R (hd ++ [l]) t) a b c d n),
  ((10, 1, false), fun _dg hd l a _b _c _d n => W1 [100] (rexM 0 a 4) (hd ++ [l]) ([mrB 0 a 4] ++ [37] ++ im4 n)),
  ((11, 0, false), fun _dg hd l _a _b _c _d n => W0 [] 0 (hd ++ [l]) (im4 n)),
  ((11, 0, true), fun _dg hd l _a _b _c d n => W0 [] 0 (hd ++ [(w8 (l + w8 d))]) (im4 n)),
  ((12, 0, false), fun _dg hd l _a _b _c _d n => W0 [] 0 (hd ++ [l]) (im1 n)),
  ((12, 0, true), fun _dg hd l _a _b _c d n => W0 [] 0 (hd ++ [(w8 (l + w8 d))]) (im1 n))]
def kindOf (x : RowT) : Int × Int × Bool := (formR x, x.2.1, condR x)
def kindOk (x : RowT) : Bool := (kindsB.map (·.1)).contains (kindOf x)
theorem bytes_0 : ((kindsB.drop 0).take 7).map (fun k nm op dg lo hi os i a b c d n => (dfun cx18 Try.f18 [.agg (rowL (nm, k.1.2.1, op, k.1.1, dg, k.1.2.2, lo, hi, os)), .agg [.str i, .int .i64 a, .int .i64 b, .int .i64 c, .int .i64 d, .int .i64 n]]).out) =
    ((kindsB.drop 0).take 7).map (fun k _ op dg _ _ _ _ a b c d n => (bytesH k.2 op dg a b c d n).out) := by kernel_rfl
theorem bytes_1 : ((kindsB.drop 7).take 5).map (fun k nm op dg lo hi os i a b c d n => (dfun cx18 Try.f18 [.agg (rowL (nm, k.1.2.1, op, k.1.1, dg, k.1.2.2, lo, hi, os)), .agg [.str i, .int .i64 a, .int .i64 b, .int .i64 c, .int .i64 d, .int .i64 n]]).out) =
    ((kindsB.drop 7).take 5).map (fun k _ op dg _ _ _ _ a b c d n => (bytesH k.2 op dg a b c d n).out) := by kernel_rfl
theorem bytes_2 : ((kindsB.drop 12).take 1).map (fun k nm op dg lo hi os i a b c d n => (dfun cx18 Try.f18 [.agg (rowL (nm, k.1.2.1, op, k.1.1, dg, k.1.2.2, lo, hi, os)), .agg [.str i, .int .i64 a, .int .i64 b, .int .i64 c, .int .i64 d, .int .i64 n]]).out) =
    ((kindsB.drop 12).take 1).map (fun k _ op dg _ _ _ _ a b c d n => (bytesH k.2 op dg a b c d n).out) := by kernel_rfl
theorem bytes_3 : ((kindsB.drop 13).take 1).map (fun k nm op dg lo hi os i a b c d n => (dfun cx18 Try.f18 [.agg (rowL (nm, k.1.2.1, op, k.1.1, dg, k.1.2.2, lo, hi, os)), .agg [.str i, .int .i64 a, .int .i64 b, .int .i64 c, .int .i64 d, .int .i64 n]]).out) =
    ((kindsB.drop 13).take 1).map (fun k _ op dg _ _ _ _ a b c d n => (bytesH k.2 op dg a b c d n).out) := by kernel_rfl
theorem bytes_4 : ((kindsB.drop 14).take 1).map (fun k nm op dg lo hi os i a b c d n => (dfun cx18 Try.f18 [.agg (rowL (nm, k.1.2.1, op, k.1.1, dg, k.1.2.2, lo, hi, os)), .agg [.str i, .int .i64 a, .int .i64 b, .int .i64 c, .int .i64 d, .int .i64 n]]).out) =
    ((kindsB.drop 14).take 1).map (fun k _ op dg _ _ _ _ a b c d n => (bytesH k.2 op dg a b c d n).out) := by kernel_rfl
theorem bytes_5 : ((kindsB.drop 15).take 5).map (fun k nm op dg lo hi os i a b c d n => (dfun cx18 Try.f18 [.agg (rowL (nm, k.1.2.1, op, k.1.1, dg, k.1.2.2, lo, hi, os)), .agg [.str i, .int .i64 a, .int .i64 b, .int .i64 c, .int .i64 d, .int .i64 n]]).out) =
    ((kindsB.drop 15).take 5).map (fun k _ op dg _ _ _ _ a b c d n => (bytesH k.2 op dg a b c d n).out) := by kernel_rfl
theorem kinds_parts : ((kindsB.drop 0).take 7 ++ (kindsB.drop 7).take 5 ++ (kindsB.drop 12).take 1 ++ (kindsB.drop 13).take 1 ++ (kindsB.drop 14).take 1 ++ (kindsB.drop 15).take 5) = kindsB := rfl
theorem kinds_all {β : Type} {f g : (Int × Int × Bool) × BodyT → β} (h0 : ((kindsB.drop 0).take 7).map f = ((kindsB.drop 0).take 7).map g) (h1 : ((kindsB.drop 7).take 5).map f = ((kindsB.drop 7).take 5).map g) (h2 : ((kindsB.drop 12).take 1).map f = ((kindsB.drop 12).take 1).map g) (h3 : ((kindsB.drop 13).take 1).map f = ((kindsB.drop 13).take 1).map g) (h4 : ((kindsB.drop 14).take 1).map f = ((kindsB.drop 14).take 1).map g) (h5 : ((kindsB.drop 15).take 5).map f = ((kindsB.drop 15).take 5).map g) : kindsB.map f = kindsB.map g := by
  rw [← kinds_parts]
  simp only [List.map_append, h0, h1, h2, h3, h4, h5]
theorem bytes_kinds : kindsB.map (fun k nm op dg lo hi os i a b c d n => (dfun cx18 Try.f18 [.agg (rowL (nm, k.1.2.1, op, k.1.1, dg, k.1.2.2, lo, hi, os)), .agg [.str i, .int .i64 a, .int .i64 b, .int .i64 c, .int .i64 d, .int .i64 n]]).out) =
    kindsB.map (fun k _ op dg _ _ _ _ a b c d n => (bytesH k.2 op dg a b c d n).out) :=
  kinds_all bytes_0 bytes_1 bytes_2 bytes_3 bytes_4 bytes_5
end Go.Amd

namespace Go.Amd
open Go Go.Ab Go.Proofs
def scaleN (d : Int) : Int := cond (decide (1 < d)) (cond (decide (2 < d)) (cond (decide (4 < d)) (cond (decide (8 < d)) 4 3) 2) 1) 0
def modP (m a b c d : Int) (imm : List Int) : Int × List Int :=
  cond (cond (c == 16) (andi b 7 != 4) false) (rexM 0 a b, [mrB m a b] ++ imm)
    (sibR (rexM 0 a 4) (cond (c == 16) 4 c) b, [mrB m a 4] ++ [mrB (scaleN d) (cond (c == 16) 4 c) b] ++ imm)
def memP (a b c d n : Int) : Int × List Int :=
  cond (b == 17) (rexM 0 a 5, [mrB 0 a 5] ++ im4 n)
    (cond (cond (n == 0) (andi b 7 != 5) false) (modP 0 a b c d []) (cond (fitsF n) (modP 1 a b c d (im1 n)) (modP 2 a b c d (im4 n))))
theorem sibH_run (K : Int → List Int → Tree V) (R : Int) (tail imm : List Int) (b index d : Int) (hd : d ≤ 16) :
    (sibH K R tail imm b index d).run = (K (sibR R index b) (tail ++ [mrB (scaleN d) index b] ++ imm)).run := by
  have h16 : decide (16 < d) = false := decide_eq_false (by omega)
  unfold sibH scaleN
  rw [h16]
  cases decide (1 < d)
  · rfl
  · cases decide (2 < d)
    · rfl
    · cases decide (4 < d)
      · rfl
      · cases decide (8 < d) <;> rfl
theorem withH_run (K : Int → List Int → Tree V) (m a b c d : Int) (imm : List Int) (hd : d ≤ 16) :
    (withH K m a b c d imm).run = (K (sibR (rexM 0 a 4) (cond (c == 16) 4 c) b) ([mrB m a 4] ++ [mrB (scaleN d) (cond (c == 16) 4 c) b] ++ imm)).run := by
  unfold withH
  rw [br_run, sibH_run _ _ _ _ _ _ _ hd, sibH_run _ _ _ _ _ _ _ hd]
  cases (c == 16) <;> rfl
theorem modH_run (K : Int → List Int → Tree V) (m a b c d : Int) (imm : List Int) (hd : d ≤ 16) :
    (modH K m a b c d imm).run = (K (modP m a b c d imm).1 (modP m a b c d imm).2).run := by
  unfold modH modP
  rw [br_run, br_run, withH_run _ _ _ _ _ _ _ hd]
  cases (c == 16)
  · rfl
  · cases (andi b 7 != 4) <;> rfl
theorem memH_run (K : Int → List Int → Tree V) (a b c d n : Int) (hd : d ≤ 16) : (memH K a b c d n).run = (K (memP a b c d n).1 (memP a b c d n).2).run := by
  unfold memH memP longH
  simp only [br_run, modH_run _ _ _ _ _ _ _ hd]
  cases (b == 17)
  · cases (n == 0)
    · cases fitsF n <;> rfl
    · cases (andi b 7 != 5)
      · cases fitsF n <;> rfl
      · rfl
  · rfl
def fsF (f : Int) : List Int := cond (f == 10) [100] []
def rF (f dg a b c d n : Int) : Int :=
  cond (f == 1) (or8 0 (hi4 a 1)) (cond (f == 2) (or8 0 (hi4 a 1)) (cond (f == 3) (rexM 0 (wi dg) a) (cond (f == 4) (rexM 0 (wi dg) a) (cond (f == 5) (rexM 0 (wi dg) a) (cond (f == 6) (rexM 0 (wi dg) a)
    (cond (f == 7) (rexM 0 b a) (cond (f == 8) (rexM 0 a b) (cond (f == 9) (memP a b c d n).1 (cond (f == 10) (rexM 0 a 4) 0)))))))))
def tailB (f dg a b c d n : Int) : List Int :=
  cond (f == 2) (im8 n) (cond (f == 3) [mrB 3 (wi dg) a] (cond (f == 4) ([mrB 3 (wi dg) a] ++ im4 n) (cond (f == 5) ([mrB 3 (wi dg) a] ++ im1 n) (cond (f == 6) ([mrB 3 (wi dg) a] ++ cond (fitsF n) (im1 n) (im4 n))
    (cond (f == 7) [mrB 3 b a] (cond (f == 8) [mrB 3 a b] (cond (f == 9) (memP a b c d n).2 (cond (f == 10) ([mrB 0 a 4] ++ [37] ++ im4 n) (cond (f == 11) (im4 n) (cond (f == 12) (im1 n) []))))))))))
def lastF (f : Int) (cn : Bool) (l a d n : Int) : Int :=
  cond (f == 1) (w8 (l + w8 (andi a 7))) (cond (f == 2) (w8 (l + w8 (andi a 7))) (cond (f == 6) (cond (fitsF n) l 129) (cond cn (w8 (l + w8 d)) l)))
def rexL (rex R : Int) : List Int := cond (rex == 0) (cond (R != 0) [or8 64 R] []) [or8 64 (cond (rex == 1) (or8 R 8) R)]
def hdF (op : Int) : List Int := cond (decide (255 < op)) [w8 (Int.fdiv op (2 ^ 8))] []
def bytesF (x : RowT) (i : InsT) : List Int :=
  fsF (formR x) ++ rexL x.2.1 (rF (formR x) x.2.2.2.2.1 i.2.1 i.2.2.1 i.2.2.2.1 i.2.2.2.2.1 i.2.2.2.2.2) ++ (hdF x.2.2.1 ++ [lastF (formR x) (condR x) (w8 x.2.2.1) i.2.1 i.2.2.2.2.1 i.2.2.2.2.2]) ++
    tailB (formR x) x.2.2.2.2.1 i.2.1 i.2.2.1 i.2.2.2.1 i.2.2.2.2.1 i.2.2.2.2.2
def bodyP (k : Int × Int × Bool) (dg : Int) (hd : List Int) (l a b c d n : Int) : List Int :=
  fsF k.1 ++ rexL k.2.1 (rF k.1 dg a b c d n) ++ (hd ++ [lastF k.1 k.2.2 l a d n]) ++ tailB k.1 dg a b c d n
theorem W0_run (fsl : List Int) (R : Int) (op tail : List Int) : (W0 fsl R op tail).run = some (.sl (.int .u8) (fsl ++ rexL 0 R ++ op ++ tail) [] .ro) := by
  unfold W0 rexL
  cases (R != 0)
  · show some (V.sl (.int .u8) (fsl ++ op ++ tail) [] .ro) = some (V.sl (.int .u8) (fsl ++ [] ++ op ++ tail) [] .ro)
    rw [List.append_nil]
    rfl
  · rfl
theorem W1_run (fsl : List Int) (R : Int) (op tail : List Int) : (W1 fsl R op tail).run = some (.sl (.int .u8) (fsl ++ rexL 1 R ++ op ++ tail) [] .ro) := rfl
theorem W2_run (fsl : List Int) (R : Int) (op tail : List Int) : (W2 fsl R op tail).run = some (.sl (.int .u8) (fsl ++ rexL 2 R ++ op ++ tail) [] .ro) := rfl
theorem body_runs : ∀ k ∈ kindsB, ∀ dg hd l a b c d n, d ≤ 16 → (k.2 dg hd l a b c d n).run = some (.sl (.int .u8) (bodyP k.1 dg hd l a b c d n) [] .ro) := by
  intro k hk dg hd l a b c d n h16
  unfold kindsB at hk
  simp only [List.mem_cons, List.not_mem_nil, or_false] at hk
  rcases hk with rfl | rfl | rfl | rfl | rfl | rfl | rfl | rfl | rfl | rfl | rfl | rfl | rfl | rfl | rfl | rfl | rfl | rfl | rfl | rfl
  · refine (W0_run _ _ _ _).trans ?_
    kernel_rfl
  · refine (W1_run _ _ _ _).trans ?_
    kernel_rfl
  · refine (W0_run _ _ _ _).trans ?_
    kernel_rfl
  · refine (W1_run _ _ _ _).trans ?_
    kernel_rfl
  · refine (W0_run _ _ _ _).trans ?_
    kernel_rfl
  · refine (W1_run _ _ _ _).trans ?_
    kernel_rfl
  · refine (W1_run _ _ _ _).trans ?_
    kernel_rfl
  · refine (W1_run _ _ _ _).trans ?_
    kernel_rfl
  · refine (br_run _ _ _).trans ?_
    rw [W1_run, W1_run]
    show _ = some (V.sl (.int .u8) (bodyP (6, 1, false) dg hd l a b c d n) [] .ro)
    unfold bodyP tailB lastF
    cases fitsF n
    · kernel_rfl
    · kernel_rfl
  · refine (W1_run _ _ _ _).trans ?_
    kernel_rfl
  · refine (W1_run _ _ _ _).trans ?_
    kernel_rfl
  · refine (W1_run _ _ _ _).trans ?_
    kernel_rfl
  · refine (memH_run (fun R t => W0 [] R (hd ++ [l]) t) a b c d n h16).trans ?_
    refine (W0_run _ _ _ _).trans ?_
    kernel_rfl
  · refine (memH_run (fun R t => W1 [] R (hd ++ [l]) t) a b c d n h16).trans ?_
    refine (W1_run _ _ _ _).trans ?_
    kernel_rfl
  · refine (memH_run (fun R t => W2 [] R (hd ++ [l]) t) a b c d n h16).trans ?_
    refine (W2_run _ _ _ _).trans ?_
    kernel_rfl
  · refine (W1_run _ _ _ _).trans ?_
    kernel_rfl
  · refine (W0_run _ _ _ _).trans ?_
    kernel_rfl
  · refine (W0_run _ _ _ _).trans ?_
    kernel_rfl
  · refine (W0_run _ _ _ _).trans ?_
    kernel_rfl
  · refine (W0_run _ _ _ _).trans ?_
    kernel_rfl
theorem kind_mem {x : RowT} (h : kindOk x = true) : ∃ k ∈ kindsB, k.1 = kindOf x := by
  unfold kindOk at h
  simpa using h
theorem bytesH_run {x : RowT} {p : BodyT} {k : Int × Int × Bool} (hk : (k, p) ∈ kindsB) (he : k = kindOf x) (i : InsT) (h16 : i.2.2.2.2.1 ≤ 16) :
    (bytesH p x.2.2.1 x.2.2.2.2.1 i.2.1 i.2.2.1 i.2.2.2.1 i.2.2.2.2.1 i.2.2.2.2.2).run = some (.sl (.int .u8) (bytesF x i) [] .ro) := by
  unfold bytesH
  rw [br_run, body_runs _ hk _ _ _ _ _ _ _ _ h16, body_runs _ hk _ _ _ _ _ _ _ _ h16]
  subst he
  unfold bytesF hdF bodyP kindOf
  cases decide (255 < x.2.2.1) <;> rfl
def bytesS : Ab.Spec := fun args => match args with
  | [.agg [.str nm, .int .i64 rex, .int .u16 op, .int .i64 f, .int .u8 dg, .bool cn, .int .i64 lo, .int .i64 hi, .str ops], .agg [.str i, .int .i64 a, .int .i64 b, .int .i64 c, .int .i64 d, .int .i64 n]] =>
    .req (kindOk (nm, rex, op, f, dg, cn, lo, hi, ops)) (.req (decide (d ≤ 16)) (.leaf (.sl (.int .u8) (bytesF (nm, rex, op, f, dg, cn, lo, hi, ops) (i, a, b, c, d, n)) [] .ro)))
  | _ => .fail
theorem bytesS_ok : Sound Try.prog 18 bytesS := by
  intro args out h
  unfold bytesS at h
  split at h
  rotate_left
  · cases h
  rename_i nm rex op f dg cn lo hi ops i a b c d n
  obtain ⟨h1, h⟩ := req_run h
  obtain ⟨h2, h⟩ := req_run h
  have h := leaf_out h
  subst h
  refine pcall_fun' (cx := cx18) (fn := Try.f18) cxBy_ok (by kernel_rfl) (by kernel_rfl) (by kernel_rfl) ?_
  obtain ⟨⟨k, p⟩, hk, he⟩ := kind_mem h1
  have e := congrFun (congrFun (congrFun (congrFun (congrFun (congrFun (congrFun (congrFun (congrFun (congrFun (congrFun (congrFun (List.map_inj_left.1 bytes_kinds _ hk) nm) op) dg) lo) hi) ops) i) a) b) c) d) n
  simp only at he
  subst he
  exact (Tree.out_run _).symm.trans (e.trans ((Tree.out_run _).trans (bytesH_run hk rfl (i, a, b, c, d, n) (of_decide_eq_true h2))))
noncomputable def cx6 : Cx := { P := Try.prog, n := 24, tab := [(16, findS), (17, faultyS), (18, bytesS)], mtab := [], refs := [], keeps := [0, 1, 2, 3, 4, 5, 6, 14, 19] }
noncomputable def cx8 : Cx := { P := Try.prog, n := 18, tab := [(16, findS), (17, faultyS)], mtab := [], refs := [], keeps := [0, 1, 2, 3, 4] }
noncomputable def cx14 : Cx := { P := Try.prog, n := 14, tab := [(16, findS)], mtab := [], refs := [], keeps := [0, 2, 3, 4, 5] }
noncomputable def cx15 : Cx := { P := Try.prog, n := 17, tab := [(25, rowsS)], mtab := [], refs := [], keeps := [0, 1, 3, 4, 5, 6, 7], fuel := 64 }
def rowFine (x : RowT) : Bool := formOk x && kindOk x
theorem rows_fine : rowsL.all rowFine = true := by kernel_rfl
theorem frow_fine {nm : List UInt8} (h : fok nm = true) : rowFine (frow nm) = true := by
  unfold fok at h
  unfold frow
  cases hf : findL nm rowsL with
  | none => rw [hf] at h; cases h
  | some r => exact List.all_eq_true.1 rows_fine r (List.mem_of_find?_eq_some hf)
theorem frow_form {nm : List UInt8} (h : fok nm = true) : formOk (frow nm) = true := (Bool.and_eq_true_iff.1 (frow_fine h)).1
theorem frow_kind {nm : List UInt8} (h : fok nm = true) : kindOk (frow nm) = true := (Bool.and_eq_true_iff.1 (frow_fine h)).2
def encE (i : InsT) : Int := cond (fok i.1) (faultyF (frow i.1) i) 7
def encL (i : InsT) : List Int := bytesF (frow i.1) i
abbrev nilV : V := .val (.slice none 0 0)
theorem scale_le {d : Int} (h : scaleF d = true) : d ≤ 16 := by
  unfold scaleF at h
  by_cases h1 : d = 1
  · omega
  by_cases h2 : d = 2
  · omega
  by_cases h4 : d = 4
  · omega
  by_cases h8 : d = 8
  · omega
  simp [h1, h2, h4, h8] at h
theorem cond_le {d : Int} (h : condF d = true) : d ≤ 16 := by
  unfold condF at h
  by_cases h1 : d ≤ 16
  · exact h1
  have h2 : decide (d ≤ 9) = false := decide_eq_false (by omega)
  have h3 : decide (d ≤ 15) = false := decide_eq_false (by omega)
  rw [h2, h3] at h
  cases hx : decide (0 ≤ d) <;> cases hy : decide (12 ≤ d) <;> rw [hx, hy] at h <;> cases h
theorem place_le {b c d : Int} (h : placeF b c d = true) : d ≤ 16 := by
  unfold placeF at h
  cases hc : (c == 16)
  · rw [hc] at h
    cases h1 : baseF b
    · rw [h1] at h; cases h
    rw [h1] at h
    cases h2 : (b != 17)
    · rw [h2] at h; cases h
    rw [h2] at h
    cases h3 : decide (0 ≤ c)
    · rw [h3] at h; cases h
    rw [h3] at h
    cases h4 : decide (c ≤ 15)
    · rw [h4] at h; cases h
    rw [h4] at h
    cases h5 : (c != 4)
    · rw [h5] at h; cases h
    rw [h5] at h
    exact scale_le h
  · rw [hc] at h
    cases h1 : baseF b
    · rw [h1] at h; cases h
    · rw [h1] at h
      have : d = 0 := by simpa using h
      omega
theorem ok_le {x : RowT} {a b c d : Int} (h : okF x a b c d = true) : d ≤ 16 := by
  unfold okF at h
  cases h0 : uM x
  · rw [h0] at h
    cases h1 : regF a (uA x)
    · rw [h1] at h; cases h
    rw [h1] at h
    cases h2 : regF b (uB x)
    · rw [h2] at h; cases h
    rw [h2] at h
    cases h3 : (c == 0)
    · rw [h3] at h; cases h
    rw [h3] at h
    cases h4 : (d == 0)
    · rw [h4] at h
      cases h5 : condR x
      · rw [h5] at h; cases h
      · rw [h5] at h; exact cond_le h
    · have : d = 0 := by simpa using h4
      omega
  · rw [h0] at h
    cases h1 : regF a (uA x)
    · rw [h1] at h; cases h
    · rw [h1] at h
      exact place_le h
theorem faulty_ok {x : RowT} {i : InsT} (h : faultyF x i = 0) : okF x i.2.1 i.2.2.1 i.2.2.2.1 i.2.2.2.2.1 = true := by
  unfold faultyF tailF at h
  cases ho : okF x i.2.1 i.2.2.1 i.2.2.2.1 i.2.2.2.2.1
  · rw [ho] at h; cases h
  · rfl
def encH (i : InsT) : Tree V := .br (!fok i.1) (.leaf (.tup [nilV, .int .i64 7])) (.br (formOk (frow i.1)) (.br (faultyF (frow i.1) i != 0) (.leaf (.tup [nilV, .int .i64 (faultyF (frow i.1) i)]))
  (.br (kindOk (frow i.1)) (.br (decide (i.2.2.2.2.1 ≤ 16)) (.leaf (.tup [.sl (.int .u8) (encL i) [] .ro, .int .i64 0])) .fail) .fail)) .fail)
theorem encH_eq (i : InsT) : (dfun cx6 Try.f6 [.agg (insL i)]).run = (encH i).run :=
  (show (dfun cx6 Try.f6 [.agg (insL i)]).run = (encH i).out by kernel_rfl).trans (Tree.out_run _)
def encodeS : Ab.Spec := fun args => match args with
  | [.agg [.str nm, .int .i64 a, .int .i64 b, .int .i64 c, .int .i64 d, .int .i64 n]] =>
    .br (encE (nm, a, b, c, d, n) == 0) (.leaf (.tup [.sl (.int .u8) (encL (nm, a, b, c, d, n)) [] .ro, .int .i64 0])) (.leaf (.tup [nilV, .int .i64 (encE (nm, a, b, c, d, n))]))
  | _ => .fail
theorem encodeS_ok : Sound Try.prog 6 encodeS := by
  intro args out h
  unfold encodeS at h
  split at h
  rotate_left
  · cases h
  rename_i nm a b c d n
  refine pcall_fun' (cx := cx6) (fn := Try.f6) (cx1_ok (.cons findS_ok (.cons faultyS_ok (ok1 bytesS_ok))) (.nil _) rfl rfl) (by kernel_rfl) (by kernel_rfl) (by kernel_rfl) ?_
  refine (encH_eq (nm, a, b, c, d, n)).trans ?_
  rw [← h]
  unfold encH encE
  simp only
  cases hf : (fok nm)
  · rfl
  rw [frow_form hf, frow_kind hf]
  simp only [cond_true]
  cases hb : (faultyF (frow nm) (nm, a, b, c, d, n) == 0)
  · have : (faultyF (frow nm) (nm, a, b, c, d, n) != 0) = true := by simp [bne, hb]
    rw [this]
    rfl
  · have : (faultyF (frow nm) (nm, a, b, c, d, n) != 0) = false := by simp [bne, hb]
    rw [this, decide_eq_true (ok_le (faulty_ok (eq_of_beq hb)))]
    rfl
def mayH (i : InsT) : Tree V := .br (fok i.1) (.br (formOk (frow i.1)) (.leaf (.bool (faultyF (frow i.1) i == 0))) .fail) (.leaf (.bool false))
theorem mayH_eq (i : InsT) : (dfun cx8 Try.f8 [.agg (insL i)]).run = (mayH i).run :=
  (show (dfun cx8 Try.f8 [.agg (insL i)]).run = (mayH i).out by kernel_rfl).trans (Tree.out_run _)
def mayS : Ab.Spec := fun args => match args with
  | [.agg [.str nm, .int .i64 a, .int .i64 b, .int .i64 c, .int .i64 d, .int .i64 n]] => .leaf (.bool (encE (nm, a, b, c, d, n) == 0))
  | _ => .fail
theorem mayS_ok : Sound Try.prog 8 mayS := by
  intro args out h
  unfold mayS at h
  split at h
  rotate_left
  · cases h
  rename_i nm a b c d n
  refine pcall_fun' (cx := cx8) (fn := Try.f8) (cx1_ok (.cons findS_ok (ok1 faultyS_ok)) (.nil _) rfl rfl) (by kernel_rfl) (by kernel_rfl) (by kernel_rfl) ?_
  refine (mayH_eq (nm, a, b, c, d, n)).trans ?_
  rw [← h]
  unfold mayH encE
  simp only
  cases hf : (fok nm)
  · rfl
  rw [frow_form hf]
  rfl
def opsOf (nm : List UInt8) : List UInt8 := (frow nm).2.2.2.2.2.2.2.2
def operandsS : Ab.Spec := fun args => match args with
  | [.str nm] => .leaf (.tup [.str (opsOf nm), .bool (fok nm)])
  | _ => .fail
theorem operandsS_ok : Sound Try.prog 14 operandsS := by
  intro args out h
  unfold operandsS at h
  split at h
  rotate_left
  · cases h
  rename_i nm
  have h := leaf_out h
  subst h
  exact pcall_fun' (cx := cx14) (fn := Try.f14) (cx1_ok (ok1 findS_ok) (.nil _) rfl rfl) (by kernel_rfl) (by kernel_rfl) (by kernel_rfl) (by kernel_rfl)
def namesL : List (List UInt8) := rowsL.map (fun r => r.1)
theorem names_run : (dfun cx15 Try.f15 []).run = some (.sl .str namesL [] .ro) := by kernel_rfl
def namesS : Ab.Spec := fun args => match args with
  | [] => .leaf (.sl .str namesL [] .ro)
  | _ => .fail
theorem namesS_ok : Sound Try.prog 15 namesS := by
  intro args out h
  unfold namesS at h
  split at h
  rotate_left
  · cases h
  have h := leaf_out h
  subst h
  exact pcall_fun' (cx := cx15) (fn := Try.f15) (cx1_ok (ok1 rowsS_ok) (.nil _) rfl rfl) (by kernel_rfl) (by kernel_rfl) (by kernel_rfl) names_run
end Go.Amd

namespace Go.Amd
open Go Go.Ab Go.Proofs
noncomputable def cx49 : Cx := { P := Try.prog, n := 6, tab := [], mtab := [], refs := [], keeps := [0, 3] }
noncomputable def mustM : MSpec := fun args H => .req (Nat.ble args.length Try.f49.ntmps) (mfun cx49 Try.f49 args H)
theorem mustM_ok : MSound Try.prog 49 mustM := msound_fun (cx := cx49) (fn := Try.f49) (cx1_ok (.nil _) (.nil _) rfl rfl) (by kernel_rfl) (by kernel_rfl)
noncomputable def cx50 : Cx := { P := Try.prog, n := 33, tab := [], mtab := [], refs := [], keeps := [0, 2, 12] }
noncomputable def nextM : MSpec := fun args H => .req (Nat.ble args.length Try.f50.ntmps) (mfun cx50 Try.f50 args H)
theorem nextM_ok : MSound Try.prog 50 nextM := msound_fun (cx := cx50) (fn := Try.f50) (cx1_ok (.nil _) (.nil _) rfl rfl) (by kernel_rfl) (by kernel_rfl)
noncomputable def cx66 : Cx := { P := Try.prog, n := 30, tab := [], mtab := [(50, nextM)], refs := [], keeps := [0, 1, 4, 5, 6, 7, 8, 9], fuel := 9 }
noncomputable def numberM : MSpec := fun args H => .req (Nat.ble args.length Try.f66.ntmps) (mfun cx66 Try.f66 args H)
theorem numberM_ok : MSound Try.prog 66 numberM := msound_fun (cx := cx66) (fn := Try.f66) (cx1_ok (.nil _) (.cons nextM_ok (.nil _)) rfl rfl) (by kernel_rfl) (by kernel_rfl)
noncomputable def cx47 : Cx := { P := Try.prog, n := 12, tab := [], mtab := [], refs := [], keeps := [0, 1, 4, 11] }
noncomputable def bitM : MSpec := fun args H => .req (Nat.ble args.length Try.f47.ntmps) (mfun cx47 Try.f47 args H)
theorem bitM_ok : MSound Try.prog 47 bitM := msound_fun (cx := cx47) (fn := Try.f47) (cx1_ok (.nil _) (.nil _) rfl rfl) (by kernel_rfl) (by kernel_rfl)
noncomputable def cx45 : Cx := { P := Try.prog, n := 59, tab := [], mtab := [(49, mustM), (50, nextM)], refs := [], keeps := [0, 2, 3, 7, 19, 31] }
noncomputable def opcodeM : MSpec := fun args H => .req (Nat.ble args.length Try.f45.ntmps) (mfun cx45 Try.f45 args H)
theorem opcodeM_ok : MSound Try.prog 45 opcodeM := msound_fun (cx := cx45) (fn := Try.f45) (cx1_ok (.nil _) (.cons mustM_ok (.cons nextM_ok (.nil _))) rfl rfl) (by kernel_rfl) (by kernel_rfl)
noncomputable def cx62 : Cx := { P := Try.prog, n := 75, tab := [(29, conditionS)], mtab := [], refs := [], keeps := [0, 1, 2, 4, 5, 6, 29, 38, 48, 59] }
noncomputable def opensE : Ab.Spec := fun args => .req (Nat.ble args.length Try.f62.ntmps) (dfun cx62 Try.f62 args)
theorem opensE_ok : Sound Try.prog 62 opensE := sound_fun (cx := cx62) (fn := Try.f62) (cx1_ok (.cons conditionS_ok (.nil _)) (.nil _) rfl rfl) (by kernel_rfl) (by kernel_rfl)
noncomputable def cx63 : Cx := { P := Try.prog, n := 81, tab := [], mtab := [], refs := [], keeps := [0, 1, 2, 4, 5, 13, 15, 16, 20, 27, 36, 38, 39, 47] }
noncomputable def prefixedM : MSpec := fun args H => .req (Nat.ble args.length Try.f63.ntmps) (mfun cx63 Try.f63 args H)
theorem prefixedM_ok : MSound Try.prog 63 prefixedM := msound_fun (cx := cx63) (fn := Try.f63) (cx1_ok (.nil _) (.nil _) rfl rfl) (by kernel_rfl) (by kernel_rfl)
noncomputable def cx64 : Cx := { P := Try.prog, n := 11, tab := [], mtab := [], refs := [], keeps := [0, 1, 2, 4, 5] }
noncomputable def hasModE : Ab.Spec := fun args => .req (Nat.ble args.length Try.f64.ntmps) (dfun cx64 Try.f64 args)
theorem hasModE_ok : Sound Try.prog 64 hasModE := sound_fun (cx := cx64) (fn := Try.f64) (cx1_ok (.nil _) (.nil _) rfl rfl) (by kernel_rfl) (by kernel_rfl)
noncomputable def cx65 : Cx := { P := Try.prog, n := 36, tab := [], mtab := [], refs := [], keeps := [0, 1, 2, 3, 4, 8, 10, 11, 15, 23] }
noncomputable def fitE : Ab.Spec := fun args => .req (Nat.ble args.length Try.f65.ntmps) (dfun cx65 Try.f65 args)
theorem fitE_ok : Sound Try.prog 65 fitE := sound_fun (cx := cx65) (fn := Try.f65) (cx1_ok (.nil _) (.nil _) rfl rfl) (by kernel_rfl) (by kernel_rfl)
noncomputable def cx46 : Cx := { P := Try.prog, n := 65, tab := [(25, rowsS), (62, opensE), (64, hasModE), (65, fitE)], mtab := [(63, prefixedM), (49, mustM), (50, nextM)], refs := [], keeps := [0, 1, 4, 5, 6, 8, 9, 11, 12, 13, 14, 15, 25, 39, 45, 46, 47, 48, 59], fuel := 64 }
noncomputable def chosenM : MSpec := fun args H => .req (Nat.ble args.length Try.f46.ntmps) (mfun cx46 Try.f46 args H)
theorem chosenM_ok : MSound Try.prog 46 chosenM := msound_fun (cx := cx46) (fn := Try.f46) (cx1_ok (.cons rowsS_ok (.cons opensE_ok (.cons hasModE_ok (.cons fitE_ok (.nil _))))) (.cons prefixedM_ok (.cons mustM_ok (.cons nextM_ok (.nil _)))) rfl rfl) (by kernel_rfl) (by kernel_rfl)
noncomputable def cx67 : Cx := { P := Try.prog, n := 57, tab := [], mtab := [(50, nextM), (47, bitM), (49, mustM)], refs := [], keeps := [0, 1, 2, 6, 7, 8, 37] }
noncomputable def sibW : MSpec := fun args H => .req (Nat.ble args.length Try.f67.ntmps) (mfun cx67 Try.f67 args H)
theorem sibW_ok : MSound Try.prog 67 sibW := msound_fun (cx := cx67) (fn := Try.f67) (cx1_ok (.nil _) (.cons nextM_ok (.cons bitM_ok (.cons mustM_ok (.nil _)))) rfl rfl) (by kernel_rfl) (by kernel_rfl)
noncomputable def cx48 : Cx := { P := Try.prog, n := 96, tab := [(33, fitsS)], mtab := [(66, numberM), (47, bitM), (49, mustM), (67, sibW)], refs := [], keeps := [0, 1, 2, 6, 7, 18, 48, 60, 61, 82] }
noncomputable def placeW : MSpec := fun args H => .req (Nat.ble args.length Try.f48.ntmps) (mfun cx48 Try.f48 args H)
theorem placeW_ok : MSound Try.prog 48 placeW := msound_fun (cx := cx48) (fn := Try.f48) (cx1_ok (.cons fitsS_ok (.nil _)) (.cons numberM_ok (.cons bitM_ok (.cons mustM_ok (.cons sibW_ok (.nil _))))) rfl rfl) (by kernel_rfl) (by kernel_rfl)
noncomputable def cx51 : Cx := { P := Try.prog, n := 40, tab := [(33, fitsS)], mtab := [(66, numberM), (49, mustM)], refs := [], keeps := [0, 1, 2, 4, 6, 7, 9, 10, 14, 20, 25, 30] }
noncomputable def immW : MSpec := fun args H => .req (Nat.ble args.length Try.f51.ntmps) (mfun cx51 Try.f51 args H)
theorem immW_ok : MSound Try.prog 51 immW := msound_fun (cx := cx51) (fn := Try.f51) (cx1_ok (.cons fitsS_ok (.nil _)) (.cons numberM_ok (.cons mustM_ok (.nil _))) rfl rfl) (by kernel_rfl) (by kernel_rfl)
noncomputable def cx22 : Cx := { P := Try.prog, n := 115, tab := [(17, faultyS)], mtab := [(45, opcodeM), (46, chosenM), (47, bitM), (48, placeW), (50, nextM), (49, mustM), (51, immW)], refs := [], keeps := [0, 2, 3, 4, 5, 6, 7, 8, 9, 25, 50, 51, 67, 74, 80, 86, 93, 103] }
noncomputable def allM : MSpec := fun args H => .req (Nat.ble args.length Try.f22.ntmps) (mfun cx22 Try.f22 args H)
theorem allM_ok : MSound Try.prog 22 allM := msound_fun (cx := cx22) (fn := Try.f22) (cx1_ok (.cons faultyS_ok (.nil _)) (.cons opcodeM_ok (.cons chosenM_ok (.cons bitM_ok (.cons placeW_ok (.cons nextM_ok (.cons mustM_ok (.cons immW_ok (.nil _)))))))) rfl rfl) (by kernel_rfl) (by kernel_rfl)
noncomputable def cx11 : Cx := { P := Try.prog, n := 30, tab := [], mtab := [(22, allM)], refs := [], keeps := [0, 1, 4, 5, 6, 7, 15] }
noncomputable def cx21 : Cx := { P := Try.prog, n := 15, tab := [], mtab := [], refs := [], keeps := [0, 1, 2, 4, 5, 6, 8, 10, 11] }
theorem cxDec_ok : CxOk cx11 := cx1_ok (.nil _) (.cons allM_ok (.nil _)) rfl rfl
noncomputable def decodeE : Ab.Spec := fun args => .req (Nat.ble args.length Try.f11.ntmps) ((dfunD cx11 cx21 Try.f11 21 Try.f21 args []).bind fun r => match r with
  | .ok v _ => .ofOption (V.pure? v)
  | _ => .fail)
theorem ofOption_run {α : Type} {o : Option α} {a : α} (h : (Tree.ofOption o).run = some a) : o = some a := by
  cases o with
  | none => cases h
  | some b => simpa [Tree.ofOption, Tree.run] using h
theorem decodeE_ok : Sound Try.prog 11 decodeE := by
  intro args out h
  unfold decodeE at h
  obtain ⟨h1, h⟩ := req_run h
  obtain ⟨r, h2, h3⟩ := bind_run h
  cases r with
  | ok v H' =>
    exact pcall_of_mcall (mcall_defer (cx := cx11) (cl := cx21) (fn := Try.f11) (fg := Try.f21) cxDec_ok (cx0_ok rfl rfl) rfl (by kernel_rfl) (by kernel_rfl) (by kernel_rfl) (by kernel_rfl) h1 h2) (ofOption_run h3)
  | pan v H' => cases h3
noncomputable def cx5 : Cx := { P := Try.prog, n := 77, tab := [(6, encodeS), (11, decodeE), (14, operandsS), (8, mayS), (15, namesS)], mtab := [], refs := [], keeps := [0, 1, 2, 3, 4, 5, 8, 9, 10] }
theorem begun_run : (dfun cx5 Try.f5 []).run = some (.bool true) := by kernel_rfl
def begunS : Ab.Spec := fun args => match args with
  | [] => .leaf (.bool true)
  | _ => .fail
theorem begunS_ok : Sound Try.prog 5 begunS := by
  intro args out h
  unfold begunS at h
  split at h
  rotate_left
  · cases h
  have h := leaf_out h
  subst h
  exact pcall_fun' (cx := cx5) (fn := Try.f5) (cx1_ok (.cons encodeS_ok (.cons decodeE_ok (.cons operandsS_ok (.cons mayS_ok (ok1 namesS_ok))))) (.nil _) rfl rfl) (by kernel_rfl) (by kernel_rfl) (by kernel_rfl) begun_run
end Go.Amd

namespace Go.Amd
open Go Go.Ab Go.Proofs
def and8 (a b : Int) : Int := IntKind.wrap .u8 ↑(BitVec.toNat (BitVec.ofInt 8 a &&& BitVec.ofInt 8 b))
def nthB (x : RowT) (c : Int) : Int := w8 (c - w8 x.2.2.1)
def opensH (x : RowT) (c : Int) (c0 : Int) : Tree V :=
  .br (condR x) (.br (decide (nthB x c < 16)) (tB (condF (wi (nthB x c)))) (tB false))
    (cond (formR x == 1 || formR x == 2) (tB (decide (nthB x c < 8))) (cond (formR x == 6) (.br (c0 == 131) (tB true) (tB (c0 == 129))) (tB (nthB x c == 0))))
theorem opens1_forms : forms.map (fun f nm rex op dg cn lo hi os c => (dfun cx62 Try.f62 [.agg (rowL (nm, rex, op, f, dg, cn, lo, hi, os)), .sl (.int .u8) ([c] : List Int) [] .full]).out) =
    forms.map (fun f nm rex op dg cn lo hi os c => (Tree.br (!(false == decide (255 < op))) (tB false) (opensH (nm, rex, op, f, dg, cn, lo, hi, os) c c)).out) := by kernel_rfl
theorem opens2_forms : forms.map (fun f nm rex op dg cn lo hi os c e => (dfun cx62 Try.f62 [.agg (rowL (nm, rex, op, f, dg, cn, lo, hi, os)), .sl (.int .u8) ([c, e] : List Int) [] .full]).out) =
    forms.map (fun f nm rex op dg cn lo hi os c e => (Tree.br (!(true == decide (255 < op))) (tB false) (.br (c != w8 (Int.fdiv op (2 ^ 8))) (tB false) (opensH (nm, rex, op, f, dg, cn, lo, hi, os) e c))).out) := by kernel_rfl
abbrev wkO (l sp : List Int) (fl : Fl) (k : Int) (fs : Bool) (R : Int) (has : Bool) : O := .cells [.sl (.int .u8) l sp fl, .int .i64 k, .bool fs, .int .u8 R, .bool has] 55
def tM (b : Bool) (H : List O) : Tree Res := .leaf (.ok (.bool b) H)
def unusedF (f : Int) : Int := cond (f == 0 || f == 11 || f == 12) 7 (cond (f == 1 || f == 2 || f == 3 || f == 4 || f == 5 || f == 6) 6 (cond (f == 7 || f == 8) 2 0))
def prefH (x : RowT) (fs : Bool) (R : Int) (has : Bool) (H : List O) : Tree Res :=
  .br (!(fs == (formR x == 10))) (tM false H) (.br (and8 R (unusedF (formR x)) != 0) (tM false H)
    (.br (x.2.1 == 1) (tM (and8 R 8 != 0) H) (.br (x.2.1 == 2) (.br has (tM (and8 R 8 == 0) H) (tM false H)) (.br (and8 R 8 == 0) (.br (!has) (tM true H) (tM (R != 0) H)) (tM false H)))))
theorem pref_forms : forms.map (fun f nm rex op dg cn lo hi os l sp fl k fs R has => (mfun cx63 Try.f63 [.agg (rowL (nm, rex, op, f, dg, cn, lo, hi, os)), .ptr 0 0] [wkO l sp fl k fs R has]).out) =
    forms.map (fun f nm rex op dg cn lo hi os l sp fl k fs R has => (prefH (nm, rex, op, f, dg, cn, lo, hi, os) fs R has ([wkO l sp fl k fs R has] ++ [.cells (rowL (nm, rex, op, f, dg, cn, lo, hi, os)) 46])).out) := by kernel_rfl
def modOf (f : Int) : Bool := !(f == 0 || f == 1 || f == 2 || f == 11 || f == 12)
theorem mod_forms : forms.map (fun f nm rex op dg cn lo hi os => (dfun cx64 Try.f64 [.agg (rowL (nm, rex, op, f, dg, cn, lo, hi, os))]).out) =
    forms.map (fun f _ _ _ _ _ _ _ _ => (tB (modOf f)).out) := by kernel_rfl
def fitH (x : RowT) (m dg rm : Int) : Tree V :=
  cond (formR x == 9) (tB (m != 3)) (cond (formR x == 10) (.br (m == 0) (tB (rm == 4)) (tB false)) (cond (formR x == 7 || formR x == 8) (tB (m == 3)) (.br (m == 3) (tB (dg == x.2.2.2.2.1)) (tB false))))
theorem fit_forms : forms.map (fun f nm rex op dg cn lo hi os m d rm => (dfun cx65 Try.f65 [.agg (rowL (nm, rex, op, f, dg, cn, lo, hi, os)), .int .u8 m, .int .u8 d, .int .u8 rm]).out) =
    forms.map (fun f nm rex op dg cn lo hi os m d rm => (fitH (nm, rex, op, f, dg, cn, lo, hi, os) m d rm).out) := by kernel_rfl
end Go.Amd

namespace Go.Amd
open Go Go.Ab Go.Proofs
def opF (x : RowT) (c c0 : Int) : Bool :=
  cond (condR x) (cond (decide (nthB x c < 16)) (condF (wi (nthB x c))) false)
    (cond (formR x == 1 || formR x == 2) (decide (nthB x c < 8)) (cond (formR x == 6) (cond (c0 == 131) true (c0 == 129)) (nthB x c == 0)))
def opensF (x : RowT) : List Int → Bool
  | [c] => cond (decide (255 < x.2.2.1)) false (opF x c c)
  | [c, e] => cond (decide (255 < x.2.2.1)) (cond (c != w8 (Int.fdiv x.2.2.1 (2 ^ 8))) false (opF x e c)) false
  | _ => false
theorem opensH_run (x : RowT) (c c0 : Int) : (opensH x c c0).run = some (.bool (opF x c c0)) := by
  unfold opensH opF tB
  rw [br_run, br_run]
  cases condR x
  · cases (formR x == 1 || formR x == 2)
    · cases (formR x == 6)
      · rfl
      · cases (c0 == 131) <;> rfl
    · rfl
  · cases decide (nthB x c < 16) <;> rfl
theorem opens1_run (x : RowT) (c : Int) : (Tree.br (!(false == decide (255 < x.2.2.1))) (tB false) (opensH x c c)).run = some (.bool (opensF x [c])) := by
  rw [br_run, opensH_run]
  unfold opensF
  cases decide (255 < x.2.2.1) <;> rfl
theorem opens2_run (x : RowT) (c e : Int) : (Tree.br (!(true == decide (255 < x.2.2.1))) (tB false) (.br (c != w8 (Int.fdiv x.2.2.1 (2 ^ 8))) (tB false) (opensH x e c))).run = some (.bool (opensF x [c, e])) := by
  rw [br_run, br_run, opensH_run]
  show _ = some (V.bool (cond (decide (255 < x.2.2.1)) (cond (c != w8 (Int.fdiv x.2.2.1 (2 ^ 8))) false (opF x e c)) false))
  cases decide (255 < x.2.2.1)
  · rfl
  · cases (c != w8 (Int.fdiv x.2.2.1 (2 ^ 8))) <;> rfl
def opensS : Ab.Spec := fun args => match args with
  | [.agg [.str nm, .int .i64 rex, .int .u16 op, .int .i64 f, .int .u8 dg, .bool cn, .int .i64 lo, .int .i64 hi, .str ops], .sl (.int .u8) [c] [] .full] =>
    .req (formOk (nm, rex, op, f, dg, cn, lo, hi, ops)) (.leaf (.bool (opensF (nm, rex, op, f, dg, cn, lo, hi, ops) [c])))
  | [.agg [.str nm, .int .i64 rex, .int .u16 op, .int .i64 f, .int .u8 dg, .bool cn, .int .i64 lo, .int .i64 hi, .str ops], .sl (.int .u8) [c, e] [] .full] =>
    .req (formOk (nm, rex, op, f, dg, cn, lo, hi, ops)) (.leaf (.bool (opensF (nm, rex, op, f, dg, cn, lo, hi, ops) [c, e])))
  | _ => .fail
theorem cxOp_ok : CxOk cx62 := cx1_ok (ok1 conditionS_ok) (.nil _) rfl rfl
theorem opensS_ok : Sound Try.prog 62 opensS := by
  intro args out h
  unfold opensS at h
  split at h
  · rename_i nm rex op f dg cn lo hi os c
    obtain ⟨h1, h⟩ := req_run h
    have h := leaf_out h
    subst h
    refine pcall_fun' (cx := cx62) (fn := Try.f62) cxOp_ok (by kernel_rfl) (by kernel_rfl) (by kernel_rfl) ?_
    have e := congrFun (congrFun (congrFun (congrFun (congrFun (congrFun (congrFun (congrFun (congrFun (forms_of opens1_forms h1) nm) rex) op) dg) cn) lo) hi) os) c
    exact (Tree.out_run _).symm.trans (e.trans ((Tree.out_run _).trans (opens1_run (nm, rex, op, f, dg, cn, lo, hi, os) c)))
  · rename_i nm rex op f dg cn lo hi os c c2
    obtain ⟨h1, h⟩ := req_run h
    have h := leaf_out h
    subst h
    refine pcall_fun' (cx := cx62) (fn := Try.f62) cxOp_ok (by kernel_rfl) (by kernel_rfl) (by kernel_rfl) ?_
    have e := congrFun (congrFun (congrFun (congrFun (congrFun (congrFun (congrFun (congrFun (congrFun (congrFun (forms_of opens2_forms h1) nm) rex) op) dg) cn) lo) hi) os) c) c2
    exact (Tree.out_run _).symm.trans (e.trans ((Tree.out_run _).trans (opens2_run (nm, rex, op, f, dg, cn, lo, hi, os) c c2)))
  · cases h
def prefF (x : RowT) (fs : Bool) (R : Int) (has : Bool) : Bool :=
  cond (!(fs == (formR x == 10))) false (cond (and8 R (unusedF (formR x)) != 0) false
    (cond (x.2.1 == 1) (and8 R 8 != 0) (cond (x.2.1 == 2) (cond has (and8 R 8 == 0) false) (cond (and8 R 8 == 0) (cond (!has) true (R != 0)) false))))
theorem prefH_run (x : RowT) (fs : Bool) (R : Int) (has : Bool) (H : List O) : (prefH x fs R has H).run = some (.ok (.bool (prefF x fs R has)) H) := by
  unfold prefH prefF tM
  simp only [br_run]
  cases (!(fs == (formR x == 10))) <;> cases (and8 R (unusedF (formR x)) != 0) <;> cases (x.2.1 == 1) <;> cases (x.2.1 == 2) <;> cases has <;> cases (and8 R 8 == 0) <;> rfl
def prefS : MSpec := fun args H => match args, H with
  | [.agg [.str nm, .int .i64 rex, .int .u16 op, .int .i64 f, .int .u8 dg, .bool cn, .int .i64 lo, .int .i64 hi, .str ops], .ptr 0 0], [.cells [.sl (.int .u8) l sp fl, .int .i64 k, .bool fs, .int .u8 R, .bool has] 55] =>
    .req (formOk (nm, rex, op, f, dg, cn, lo, hi, ops)) (.leaf (.ok (.bool (prefF (nm, rex, op, f, dg, cn, lo, hi, ops) fs R has)) ([wkO l sp fl k fs R has] ++ [.cells (rowL (nm, rex, op, f, dg, cn, lo, hi, ops)) 46])))
  | _, _ => .fail
theorem prefS_ok : MSound Try.prog 63 prefS := by
  intro args H r h
  unfold prefS at h
  split at h
  rotate_left
  · cases h
  rename_i nm rex op f dg cn lo hi os l sp fl k fs R has
  obtain ⟨h1, h⟩ := req_run h
  have h := leaf_out h
  subst h
  refine mcall_fun' (cx := cx63) (fn := Try.f63) (cx1_ok (.nil _) (.nil _) rfl rfl) (by kernel_rfl) (by kernel_rfl) (by kernel_rfl) ?_
  have e := congrFun (congrFun (congrFun (congrFun (congrFun (congrFun (congrFun (congrFun (congrFun (congrFun (congrFun (congrFun (congrFun (congrFun (congrFun (forms_of pref_forms h1) nm) rex) op) dg) cn) lo) hi) os) l) sp) fl) k) fs) R) has
  exact (Tree.out_run _).symm.trans (e.trans ((Tree.out_run _).trans (prefH_run _ _ _ _ _)))
def hasModS : Ab.Spec := fun args => match args with
  | [.agg [.str nm, .int .i64 rex, .int .u16 op, .int .i64 f, .int .u8 dg, .bool cn, .int .i64 lo, .int .i64 hi, .str ops]] => .req (formOk (nm, rex, op, f, dg, cn, lo, hi, ops)) (.leaf (.bool (modOf f)))
  | _ => .fail
theorem hasModS_ok : Sound Try.prog 64 hasModS := by
  intro args out h
  unfold hasModS at h
  split at h
  rotate_left
  · cases h
  rename_i nm rex op f dg cn lo hi os
  obtain ⟨h1, h⟩ := req_run h
  have h := leaf_out h
  subst h
  refine pcall_fun' (cx := cx64) (fn := Try.f64) (cx1_ok (.nil _) (.nil _) rfl rfl) (by kernel_rfl) (by kernel_rfl) (by kernel_rfl) ?_
  have e := congrFun (congrFun (congrFun (congrFun (congrFun (congrFun (congrFun (congrFun (forms_of mod_forms h1) nm) rex) op) dg) cn) lo) hi) os
  exact (Tree.out_run _).symm.trans (e.trans ((Tree.out_run _).trans rfl))
def fitF (x : RowT) (m dg rm : Int) : Bool :=
  cond (formR x == 9) (m != 3) (cond (formR x == 10) (cond (m == 0) (rm == 4) false) (cond (formR x == 7 || formR x == 8) (m == 3) (cond (m == 3) (dg == x.2.2.2.2.1) false)))
theorem fitH_run (x : RowT) (m dg rm : Int) : (fitH x m dg rm).run = some (.bool (fitF x m dg rm)) := by
  unfold fitH fitF tB
  cases (formR x == 9) <;> cases (formR x == 10) <;> cases (formR x == 7 || formR x == 8) <;> cases (m == 0) <;> cases (m == 3) <;> rfl
def fitS : Ab.Spec := fun args => match args with
  | [.agg [.str nm, .int .i64 rex, .int .u16 op, .int .i64 f, .int .u8 dg, .bool cn, .int .i64 lo, .int .i64 hi, .str ops], .int .u8 m, .int .u8 d, .int .u8 rm] =>
    .req (formOk (nm, rex, op, f, dg, cn, lo, hi, ops)) (.leaf (.bool (fitF (nm, rex, op, f, dg, cn, lo, hi, ops) m d rm)))
  | _ => .fail
theorem fitS_ok : Sound Try.prog 65 fitS := by
  intro args out h
  unfold fitS at h
  split at h
  rotate_left
  · cases h
  rename_i nm rex op f dg cn lo hi os m d rm
  obtain ⟨h1, h⟩ := req_run h
  have h := leaf_out h
  subst h
  refine pcall_fun' (cx := cx65) (fn := Try.f65) (cx1_ok (.nil _) (.nil _) rfl rfl) (by kernel_rfl) (by kernel_rfl) (by kernel_rfl) ?_
  have e := congrFun (congrFun (congrFun (congrFun (congrFun (congrFun (congrFun (congrFun (congrFun (congrFun (congrFun (forms_of fit_forms h1) nm) rex) op) dg) cn) lo) hi) os) m) d) rm
  exact (Tree.out_run _).symm.trans (e.trans ((Tree.out_run _).trans (fitH_run _ _ _ _)))
end Go.Amd

namespace Go.Amd
open Go Go.Ab Go.Proofs
def opLen : List Int → Bool
  | [_] => true
  | [_, _] => true
  | _ => false
def opensG : Ab.Spec := fun args => match args with
  | [.agg [.str nm, .int .i64 rex, .int .u16 op, .int .i64 f, .int .u8 dg, .bool cn, .int .i64 lo, .int .i64 hi, .str ops], .sl (.int .u8) l [] .full] =>
    .req (opLen l) (.req (formOk (nm, rex, op, f, dg, cn, lo, hi, ops)) (.leaf (.bool (opensF (nm, rex, op, f, dg, cn, lo, hi, ops) l))))
  | _ => .fail
theorem opensG_ok : Sound Try.prog 62 opensG := by
  intro args out h
  unfold opensG at h
  split at h
  rotate_left
  · cases h
  rename_i nm rex op f dg cn lo hi os l
  obtain ⟨h1, h⟩ := req_run h
  refine opensS_ok _ out ?_
  match l, h1, h with
  | [c], _, h => exact h
  | [c, e], _, h => exact h
  | [], h1, _ => cases h1
  | _ :: _ :: _ :: _, h1, _ => cases h1
noncomputable def cxCh : Cx := { P := Try.prog, n := 65, tab := [(25, rowsS), (62, opensG), (64, hasModS), (65, fitS)], mtab := [(63, prefS), (49, mustM), (50, nextM)], refs := [], keeps := [0, 1, 4, 5, 6, 8, 9, 11, 12, 13, 14, 15, 25, 39, 45, 46, 47, 48, 59] }
theorem cxCh_ok : CxOk cxCh := cx1_ok (.cons rowsS_ok (.cons opensG_ok (.cons hasModS_ok (ok1 fitS_ok)))) (.cons prefS_ok (.cons mustM_ok (.cons nextM_ok (.nil _)))) rfl rfl
noncomputable abbrev Bch : Code := bodyOf Try.f46
abbrev rO (r : RowT) : O := .cells (rowL r) 46
noncomputable abbrev rnd1 : Code := cin (cin (c2 (c1 (c2 (c2 Bch)))))
abbrev opV (op : List Int) : V := .sl (.int .u8) op [] .full
def cand (op : List Int) (fs : Bool) (R : Int) (has : Bool) (r : RowT) : Bool := cond (opensF r op) (prefF r fs R has) false
section
variable (l sp : List Int) (fl : Fl) (k R i : Int) (op : List Int) (fs has : Bool) (L G : List RowT)
abbrev t1A (g : V) (j : Int) (b : Bool) : T := [(0, .ptr 0 0), (1, opV op), (4, .ptr 1 0), (5, .int .u8 0), (6, g), (8, .ptr 2 0), (12, .sl rowE L [] .ro), (13, .int .i64 L.length), (14, .int .i64 j), (15, .bool true), (25, .bool b)]
abbrev t1G (g : V) (j : Int) (b : Bool) : T := [(0, .ptr 0 0), (1, opV op), (4, .ptr 1 0), (5, .int .u8 0), (6, g), (8, .ptr 3 0), (12, .sl rowE L [] .ro), (13, .int .i64 L.length), (14, .int .i64 j), (15, .bool true), (25, .bool b)]
abbrev t1E (g : V) (j : Int) : T := [(0, .ptr 0 0), (1, opV op), (4, .ptr 1 0), (5, .int .u8 0), (6, g), (12, .sl rowE L [] .ro), (13, .int .i64 L.length), (14, .int .i64 j), (15, .bool false)]
abbrev t1S (g : V) (j : Int) : T := [(0, .ptr 0 0), (1, opV op), (4, .ptr 1 0), (5, .int .u8 0), (6, g), (12, .sl rowE L [] .ro), (13, .int .i64 L.length), (14, .int .i64 j)]
def chR1 : Tree St :=
  .br (decide (i < (L.length : Nat))) (.br (inside i L.length) (.br (opLen op) (.br (formOk (rowAt L i.toNat)) (.br (opensF (rowAt L i.toNat) op) (.br (formOk (rowAt L i.toNat)) (.br (prefF (rowAt L i.toNat) fs R has)
    (.leaf (.normal, t1A op L (.gro 4 rowE [rowAt L i.toNat]) (IntKind.wrap .i64 (i + 1)) true, [wkO l sp fl k fs R has, rO zeroR, rO (rowAt L i.toNat), rO (rowAt L i.toNat), .tok 1 9]))
    (.leaf (.normal, t1A op L nilV (IntKind.wrap .i64 (i + 1)) false, [wkO l sp fl k fs R has, rO zeroR, rO (rowAt L i.toNat), rO (rowAt L i.toNat)]))) .fail)
    (.leaf (.normal, t1A op L nilV (IntKind.wrap .i64 (i + 1)) false, [wkO l sp fl k fs R has, rO zeroR, rO (rowAt L i.toNat)]))) .fail) .fail) .fail)
    (.leaf (.exit 0, t1E op L nilV i, [wkO l sp fl k fs R has, rO zeroR]))
theorem chR1_eq : (dcode cxCh rnd1 (t1S op L nilV i) [wkO l sp fl k fs R has, rO zeroR]).run = (chR1 l sp fl k R i op fs has L).run :=
  (show _ = (chR1 l sp fl k R i op fs has L).out by kernel_rfl).trans (Tree.out_run _)
def chR2 : Tree St :=
  .br (decide (i < (L.length : Nat))) (.br (inside i L.length) (.br (opLen op) (.br (formOk (rowAt L i.toNat)) (.br (opensF (rowAt L i.toNat) op) (.br (formOk (rowAt L i.toNat)) (.br (prefF (rowAt L i.toNat) fs R has)
    (.br (decide (G.length = G.length) && roomy (G.length + 1) 80) (.leaf (.normal, t1G op L (.gro 2 rowE (G ++ [rowAt L i.toNat])) (IntKind.wrap .i64 (i + 1)) true, [wkO l sp fl k fs R has, rO zeroR, .tok (G.length + 1) 9, rO (rowAt L i.toNat), rO (rowAt L i.toNat)])) .fail)
    (.leaf (.normal, t1G op L (.gro 2 rowE G) (IntKind.wrap .i64 (i + 1)) false, [wkO l sp fl k fs R has, rO zeroR, .tok G.length 9, rO (rowAt L i.toNat), rO (rowAt L i.toNat)]))) .fail)
    (.leaf (.normal, t1G op L (.gro 2 rowE G) (IntKind.wrap .i64 (i + 1)) false, [wkO l sp fl k fs R has, rO zeroR, .tok G.length 9, rO (rowAt L i.toNat)]))) .fail) .fail) .fail)
    (.leaf (.exit 0, t1E op L (.gro 2 rowE G) i, [wkO l sp fl k fs R has, rO zeroR, .tok G.length 9]))
theorem chR2_eq : (dcode cxCh rnd1 (t1S op L (.gro 2 rowE G) i) [wkO l sp fl k fs R has, rO zeroR, .tok G.length 9]).run = (chR2 l sp fl k R i op fs has L G).run :=
  (show _ = (chR2 l sp fl k R i op fs has L G).out by kernel_rfl).trans (Tree.out_run _)
end
end Go.Amd

namespace Go.Amd
open Go Go.Ab Go.Proofs
noncomputable abbrev T3 : Code := c2 (c2 (c2 Bch))
noncomputable abbrev rnd2 : Code := cin (cin (c2 (c1 (tailN 2 T3))))
abbrev fltV (e : Int) : V := .ifc 52 (.agg [.int .i64 e])
section
variable (l sp : List Int) (fl : Fl) (k R i c : Int) (op : List Int) (fs has : Bool) (G : List RowT)
abbrev t3S (g : V) : T := [(0, .ptr 0 0), (4, .ptr 1 0), (5, .int .u8 0), (6, g)]
abbrev H3 (r : RowT) : List O := [wkO l sp fl k fs R has, rO r, .tok G.length 9]
def chT : Tree St :=
  .br (!decide (0 < (G.length : Int))) (.leaf (.panic (fltV 22), [(0, .ptr 0 0), (4, .ptr 1 0), (5, .int .u8 0), (6, .gro 2 rowE G), (31, .gro 2 rowE G), (32, .int .i64 (G.length : Nat)), (33, .bool (decide (0 < (G.length : Int))))], H3 l sp fl k R fs has G zeroR))
    (.br (inside 0 G.length) (.br (formOk (rowAt G 0)) (.br (!modOf (formR (rowAt G 0))) (.br (inside 0 G.length) (.leaf (.ret, [(0, .ptr 0 0), (4, .ptr 1 0), (5, .int .u8 0), (6, .gro 2 rowE G), (39, .bool true)], H3 l sp fl k R fs has G (rowAt G 0))) .fail)
      (.leaf (.normal, [(0, .ptr 0 0), (4, .ptr 1 0), (5, .int .u8 0), (6, .gro 2 rowE G), (39, .bool false)], H3 l sp fl k R fs has G zeroR))) .fail) .fail)
theorem chT_eq : (dcode cxCh (headN 1 T3) (t3S (.gro 2 rowE G)) (H3 l sp fl k R fs has G zeroR)).run = (chT l sp fl k R fs has G).run :=
  (show _ = (chT l sp fl k R fs has G).out by kernel_rfl).trans (Tree.out_run _)
def chN : Tree St :=
  .br (decide ((l.length : Nat) ≤ k)) (.leaf (.panic (fltV 2), [(0, .ptr 0 0), (4, .ptr 1 0), (5, .int .u8 0), (6, .gro 2 rowE G), (43, .ptr 0 0)], H3 l sp fl k R fs has G zeroR))
    (.br (inside (IntKind.wrap .i64 (IntKind.wrap .i64 (k + 1) - 1)) l.length) (.leaf (.normal, [(0, .ptr 0 0), (4, .ptr 1 0), (5, .int .u8 0), (6, .gro 2 rowE G), (9, .int .u8 (l.getD (Int.toNat (IntKind.wrap .i64 (IntKind.wrap .i64 (k + 1) - 1))) 0))], H3 l sp fl (IntKind.wrap .i64 (k + 1)) R fs has G zeroR)) .fail)
theorem chN_eq : (dcode cxCh (headN 0 (tailN 1 T3)) (t3S (.gro 2 rowE G)) (H3 l sp fl k R fs has G zeroR)).run = (chN l sp fl k R fs has G).run :=
  (show _ = (chN l sp fl k R fs has G).out by kernel_rfl).trans (Tree.out_run _)
def fitC (c : Int) (r : RowT) : Bool := fitF r (Int.fdiv c (2 ^ 6)) (and8 (Int.fdiv c (2 ^ 3)) 7) (and8 c 7)
abbrev t4S (j : Int) : T := [(0, .ptr 0 0), (4, .ptr 1 0), (5, .int .u8 0), (9, .int .u8 c), (45, .gro 2 rowE G), (46, .int .i64 (G.length : Nat)), (47, .int .i64 j)]
def chR3 : Tree St :=
  .br (decide (i < (G.length : Nat))) (.br (inside i G.length) (.br (formOk (rowAt G i.toNat)) (.br (fitC c (rowAt G i.toNat))
    (.leaf (.ret, [(0, .ptr 0 0), (4, .ptr 1 0), (5, .int .u8 c), (9, .int .u8 c), (11, .ptr 3 0), (45, .gro 2 rowE G), (46, .int .i64 (G.length : Nat)), (47, .int .i64 i), (48, .bool true), (59, .bool true)], H3 l sp fl k R fs has G (rowAt G i.toNat) ++ [rO (rowAt G i.toNat)]))
    (.leaf (.normal, [(0, .ptr 0 0), (4, .ptr 1 0), (5, .int .u8 0), (9, .int .u8 c), (11, .ptr 3 0), (45, .gro 2 rowE G), (46, .int .i64 (G.length : Nat)), (47, .int .i64 (IntKind.wrap .i64 (i + 1))), (48, .bool true), (59, .bool false)], H3 l sp fl k R fs has G zeroR ++ [rO (rowAt G i.toNat)]))) .fail) .fail)
    (.leaf (.exit 2, [(0, .ptr 0 0), (4, .ptr 1 0), (5, .int .u8 0), (9, .int .u8 c), (45, .gro 2 rowE G), (46, .int .i64 (G.length : Nat)), (47, .int .i64 i), (48, .bool false)], H3 l sp fl k R fs has G zeroR))
theorem chR3_eq : (dcode cxCh rnd2 (t4S c G i) (H3 l sp fl k R fs has G zeroR)).run = (chR3 l sp fl k R i c fs has G).run :=
  (show _ = (chR3 l sp fl k R i c fs has G).out by kernel_rfl).trans (Tree.out_run _)
def fitT : Tree Res := match G.find? (fitC c) with
  | some r => .leaf (.ok (.tup [.agg (rowL r), .int .u8 c]) [wkO l sp fl k fs R has, rO r])
  | none => .leaf (.pan (fltV 22) [wkO l sp fl k fs R has])
def cands : List RowT := rowsL.filter (cand op fs R has)
def chosenT : Tree Res := match cands R op fs has with
  | [] => .leaf (.pan (fltV 22) [wkO l sp fl k fs R has])
  | r0 :: G => .br (modOf (formR r0)) (.br (decide ((l.length : Nat) ≤ k)) (.leaf (.pan (fltV 2) [wkO l sp fl k fs R has]))
      (fitT l sp fl (k + 1) R (l.getD k.toNat 0) fs has (r0 :: G)))
    (.leaf (.ok (.tup [.agg (rowL r0), .int .u8 0]) [wkO l sp fl k fs R has, rO r0]))
theorem cand_fine {r : RowT} {G : List RowT} (h : ∀ r ∈ G, r ∈ rowsL) (hr : r ∈ G) : formOk r = true := List.all_eq_true.1 rows_forms r (h r hr)
def chQ (r : Res) (e : AEx) (t : T) (H : List O) : Prop := ∃ κ s, dropS 1 κ (e, t, H) = some s ∧ MPost Try.prog Try.f46 r s.1 s.2.1 s.2.2
variable {l sp fl k R op fs has G}
theorem chosen_fit (hG : ∀ r ∈ G, r ∈ rowsL) (hlen : G.length ≤ 58) {res : Res}
    (hres : (fitT l sp fl k R c fs has G).run = some res) :
    AWP Try.prog 65 (tailN 1 (c2 T3)) (chQ res) [(0, .ptr 0 0), (4, .ptr 1 0), (5, .int .u8 0), (6, .gro 2 rowE G), (9, .int .u8 c)] (H3 l sp fl k R fs has G zeroR) := by
  unfold fitT at hres
  have e : tailN 1 (c2 T3) = .seq (.seq (c1 (c1 (tailN 2 T3))) (.block 2 (.loop rnd2))) (c2 (tailN 2 T3)) := by kernel_rfl
  rw [e]
  refine AWP_seq (AWP_seq (AWP_run (cx := cxCh) rfl rfl cxCh_ok (s := (.normal, [(0, .ptr 0 0), (4, .ptr 1 0), (5, .int .u8 0), (6, .gro 2 rowE G), (9, .int .u8 c), (45, .gro 2 rowE G), (46, .int .i64 (G.length : Nat)), (47, .int .i64 0)], H3 l sp fl k R fs has G zeroR)) (by kernel_rfl) ?_))
  refine AWP_block ?_
  refine AWP.less (s := t4S c G ((0 : Nat) : Int)) (Fits.tle ⟨rfl, rfl, rfl, rfl, rfl, rfl, rfl, trivial⟩) ?_
  refine AWP_rounds (cx := cxCh) (P := Try.prog) (n := 65) rfl rfl cxCh_ok (fun j : { j : Nat // j ≤ G.length ∧ (G.take j).find? (fitC c) = none } => (t4S c G (j.1 : Int), H3 l sp fl k R fs has G zeroR)) (fun j => 58 - j.1) ?_ ⟨0, Nat.zero_le _, rfl⟩
  rintro ⟨j, hj, hnone⟩
  refine Tree.all_run_eq (chR3_eq l sp fl k R j c fs has G) ?_
  refine ⟨fun hlt => ⟨fun hin => ?_, fun hin => ?_⟩, fun hge => ?_⟩
  · have hlt : j < G.length := Int.ofNat_lt.1 (of_decide_eq_true hlt)
    have hmem : rowAt G j ∈ G := by
      show G.getD j zeroR ∈ G
      rw [getD_lt hlt]
      exact List.getElem_mem hlt
    refine all_t (cand_fine hG hmem) ⟨fun hp => ?_, fun hp => ?_⟩
    · have hf : G.find? (fitC c) = some (rowAt G j) := take_some hlt hnone hp
      rw [hf] at hres
      simp only [Tree.run, Option.some.injEq] at hres
      subst hres
      refine ⟨[], (.ret, [(0, .ptr 0 0), (4, .ptr 1 0), (5, .int .u8 c), (9, .int .u8 c), (11, .any), (45, .gro 2 rowE G), (46, .int .i64 (G.length : Nat)), (47, .int .i64 (j : Int)), (48, .bool true), (59, .bool true)], H3 l sp fl k R fs has G (rowAt G j)), by kernel_rfl, ?_⟩
      show chQ _ _ _ _
      exact ⟨[1], (.ret, [(0, .ptr 0 0), (4, .ptr 1 0), (5, .int .u8 c), (9, .int .u8 c), (11, .any), (45, .any), (46, .int .i64 (G.length : Nat)), (47, .int .i64 (j : Int)), (48, .bool true), (59, .bool true)], [wkO l sp fl k fs R has, rO (rowAt G j)]), by kernel_rfl, .inl rfl, rfl, by kernel_rfl⟩
    · have hn : (G.take (j + 1)).find? (fitC c) = none := take_none hlt hnone hp
      refine ⟨[], (.normal, [(0, .ptr 0 0), (4, .ptr 1 0), (5, .int .u8 0), (9, .int .u8 c), (11, .any), (45, .gro 2 rowE G), (46, .int .i64 (G.length : Nat)), (47, .int .i64 (IntKind.wrap .i64 ((j : Int) + 1))), (48, .bool true), (59, .bool false)], H3 l sp fl k R fs has G zeroR), by kernel_rfl,
        ⟨j + 1, hlt, hn⟩, by show 58 - (j + 1) < 58 - j; omega, Fits.tle ⟨rfl, rfl, rfl, rfl, rfl, rfl, ?_, trivial⟩, rfl⟩
      show V.int .i64 (IntKind.wrap .i64 ((j : Int) + 1)) = V.int .i64 ((j + 1 : Nat) : Int)
      rw [wrap_i64 (by omega) (by omega)]
      rfl
  · exfalso
    have hlt : j < G.length := Int.ofNat_lt.1 (of_decide_eq_true hlt)
    exact Bool.noConfusion ((inside_of (Int.natCast_nonneg j) (Int.ofNat_lt.2 hlt)).symm.trans hin)
  · have hge : ¬ j < G.length := fun h => of_decide_eq_false hge (Int.ofNat_lt.2 h)
    have hj' : j = G.length := by omega
    have hf : G.find? (fitC c) = none := by rw [← hnone, hj', List.take_length]
    rw [hf] at hres
    simp only [Tree.run, Option.some.injEq] at hres
    subst hres
    refine ⟨[], (.exit 2, [(0, .ptr 0 0), (4, .ptr 1 0), (5, .int .u8 0), (9, .int .u8 c), (45, .gro 2 rowE G), (46, .int .i64 (G.length : Nat)), (47, .int .i64 (j : Int)), (48, .bool false)], H3 l sp fl k R fs has G zeroR), by kernel_rfl, ?_⟩
    show AWP _ _ _ _ _ _
    refine AWP.less (s := [(0, .ptr 0 0), (4, .ptr 1 0), (5, .int .u8 0)]) (Fits.tle ⟨rfl, rfl, rfl, trivial⟩) ?_
    refine AWP_run (cx := cxCh) rfl rfl cxCh_ok (s := (.panic (fltV 22), [(0, .ptr 0 0), (4, .ptr 1 0), (5, .int .u8 0)], H3 l sp fl k R fs has G zeroR)) (by kernel_rfl) ?_
    exact ⟨[], (.panic (fltV 22), [(0, .ptr 0 0), (4, .any), (5, .int .u8 0)], [wkO l sp fl k fs R has]), by kernel_rfl, rfl, rfl⟩
end
end Go.Amd
