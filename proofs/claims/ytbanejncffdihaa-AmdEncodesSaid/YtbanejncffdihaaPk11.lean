/-
  The document's rows are the program's; its Operands. Conditions: none.
-/
import Derived.Test.YtbanejncffdihaaPk10
set_option linter.unusedVariables false
set_option linter.unusedSimpArgs false
namespace Go.Amd
open Go Go.Ab Go.Proofs
def prefC (r : Int) : Int := cond (r == 0) 0 (cond (r == 2) 1 2)
def opC (o : Option (List Int)) : Int := match o with
  | some [a] => a
  | some [a, b] => 256 * a + b
  | _ => 0
def formC (f : Int) : Int := ([0, 7, 2, 4, 9, 10, 6, 8, 3, 0, 5, 8, 1, 11, 12, 11, 12] : List Int).getD f.toNat 0
def condC (f : Int) : Bool := f == 11 || f == 15 || f == 16
def longC (f : Int) : Bool := f == 3 || f == 4 || f == 5 || f == 6 || f == 13 || f == 15
def shortC (f : Int) : Bool := f == 14 || f == 16
def lowC (f : Int) : Int := cond (f == 2) (-9223372036854775808) (cond (longC f) (-2147483648) (cond (shortC f) (-128) 0))
def highC (f : Int) : Int := cond (f == 2) 9223372036854775807 (cond (longC f) 2147483647 (cond (shortC f) 127 (cond (f == 10) 63 0)))
def opsC (f : Int) : List UInt8 :=
  cond (f == 1 || f == 7) [65, 66] (cond (f == 2 || f == 3 || f == 6 || f == 10 || f == 5) [65, 105] (cond (f == 4) [65, 109] (cond (f == 8 || f == 12) [65] (cond (f == 11) [65, 66, 99] (cond (f == 13 || f == 14) [106] (cond (f == 15 || f == 16) [99, 106] []))))))
def conv (x : RowX) : RowT := (x.1, prefC x.2.2.2.2, opC x.2.2.1, formC x.2.1, x.2.2.2.1, condC x.2.1, lowC x.2.1, highC x.2.1, opsC x.2.1)
theorem rows_conv : rowsX.map conv = rowsL := by kernel_rfl
theorem find_conv (nm : List UInt8) : findL nm rowsL = (findLX nm rowsX).map conv := by
  unfold findL findLX
  rw [← rows_conv, List.find?_map]
  rfl
theorem fok_eq (nm : List UInt8) : fok nm = fokX nm := by
  unfold fok fokX
  rw [find_conv]
  cases findLX nm rowsX <;> rfl
theorem frow_eq {nm : List UInt8} (h : fokX nm = true) : frow nm = conv (frowX nm) ∧ frowX nm ∈ rowsX := by
  unfold fokX at h
  obtain ⟨r, hr⟩ := Option.isSome_iff_exists.1 h
  have h1 : frowX nm = r := by unfold frowX; rw [hr]; rfl
  refine ⟨?_, by rw [h1]; exact List.mem_of_find?_eq_some hr⟩
  unfold frow
  rw [find_conv, hr, h1]
  rfl
def isRow (nm : List UInt8) (x : RowX) : Bool := match findLX nm rowsX with
  | some y => y == x
  | none => false
theorem isRow_to {nm : List UInt8} {x : RowX} (h : isRow nm x = true) : findLX nm rowsX = some x := by
  unfold isRow at h
  cases hf : findLX nm rowsX
  · rw [hf] at h; cases h
  · rw [hf] at h; exact congrArg some (eq_of_beq h)
def findAt (x : RowX) : Ab.Spec := fun args => match args with
  | [.str nm] => .req (isRow nm x) (.leaf (.tup [.agg (rowXL x), .bool true]))
  | _ => .fail
theorem findAt_ok (x : RowX) : Sound Try.prog 36 (findAt x) := by
  intro args out h
  unfold findAt at h
  split at h
  rotate_left
  · cases h
  rename_i nm
  obtain ⟨h1, h⟩ := req_run h
  have h := leaf_out h
  subst h
  have hx : findLX nm rowsX = some x := isRow_to h1
  have := findX_ok nm
  unfold frowX fokX rowV at this
  rw [hx] at this
  exact this
def findNo : Ab.Spec := fun args => match args with
  | [.str nm] => .req (!fokX nm) (.leaf (.tup [.agg (rowXL zeroX), .bool false]))
  | _ => .fail
theorem findNo_ok : Sound Try.prog 36 findNo := by
  intro args out h
  unfold findNo at h
  split at h
  rotate_left
  · cases h
  rename_i nm
  obtain ⟨h1, h⟩ := req_run h
  have h := leaf_out h
  subst h
  have hf : fokX nm = false := by simpa using h1
  have hn : findLX nm rowsX = none := by
    unfold fokX at hf
    cases hl : findLX nm rowsX
    · rfl
    · rw [hl] at hf; cases hf
  have := findX_ok nm
  unfold frowX fokX rowV at this
  rw [hn] at this
  exact this
theorem row_of {nm : List UInt8} (h : fokX nm = true) : findLX nm rowsX = some (frowX nm) ∧ frowX nm ∈ rowsX ∧ isRow nm (frowX nm) = true := by
  unfold fokX at h
  obtain ⟨r, hr⟩ := Option.isSome_iff_exists.1 h
  have h1 : frowX nm = r := by unfold frowX; rw [hr]; rfl
  refine ⟨by rw [h1]; exact hr, by rw [h1]; exact List.mem_of_find?_eq_some hr, ?_⟩
  unfold isRow
  rw [hr, h1]
  exact beq_self_eq_true _
theorem of_map_eq {α β : Type} {f g : α → β} {l : List α} (h : l.map f = l.map g) {x : α} (hx : x ∈ l) : f x = g x := List.map_inj_left.1 h x hx
end Go.Amd

namespace Go.Amd
open Go Go.Ab Go.Proofs
noncomputable def cx31 : Cx := { P := Try.prog, n := 26, tab := [], mtab := [], refs := [], keeps := [0, 1, 2, 6, 7, 8, 9], fuel := 9 }
noncomputable def cx32 : Cx := { P := Try.prog, n := 43, tab := [], mtab := [], refs := [], keeps := [0, 1, 2, 3] }
noncomputable def cx61 : Cx := { P := Try.prog, n := 54, tab := [], mtab := [], refs := [], keeps := [0, 1, 3, 4, 5, 9, 14], fuel := 5 }
noncomputable def immM : MSpec := fun args H => .req (Nat.ble args.length Try.f31.ntmps) (mfun cx31 Try.f31 args H)
theorem immM_ok : MSound Try.prog 31 immM := msound_fun (cx := cx31) (fn := Try.f31) (cx0_ok rfl rfl) (by kernel_rfl) (by kernel_rfl)
noncomputable def modrmM : MSpec := fun args H => .req (Nat.ble args.length Try.f32.ntmps) (mfun cx32 Try.f32 args H)
theorem modrmM_ok : MSound Try.prog 32 modrmM := msound_fun (cx := cx32) (fn := Try.f32) (cx0_ok rfl rfl) (by kernel_rfl) (by kernel_rfl)
noncomputable def sibM : MSpec := fun args H => .req (Nat.ble args.length Try.f61.ntmps) (mfun cx61 Try.f61 args H)
theorem sibM_ok : MSound Try.prog 61 sibM := msound_fun (cx := cx61) (fn := Try.f61) (cx0_ok rfl rfl) (by kernel_rfl) (by kernel_rfl)
noncomputable def cx34 : Cx := { P := Try.prog, n := 60, tab := [(33, fitsS)], mtab := [(31, immM), (32, modrmM), (61, sibM)], refs := [], keeps := [0, 1, 3, 4, 5, 8, 17, 27, 39] }
noncomputable def placeM : MSpec := fun args H => .req (Nat.ble args.length Try.f34.ntmps) (mfun cx34 Try.f34 args H)
theorem placeM_ok : MSound Try.prog 34 placeM := msound_fun (cx := cx34) (fn := Try.f34) (cx1_ok (ok1 fitsS_ok) (.cons immM_ok (.cons modrmM_ok (.cons sibM_ok (.nil _)))) rfl rfl) (by kernel_rfl) (by kernel_rfl)
noncomputable def cx35 : Cx := { P := Try.prog, n := 50, tab := [], mtab := [], refs := [], keeps := [0, 1, 2, 3, 6, 7, 10, 16, 33] }
noncomputable def wholeM : MSpec := fun args H => .req (Nat.ble args.length Try.f35.ntmps) (mfun cx35 Try.f35 args H)
theorem wholeM_ok : MSound Try.prog 35 wholeM := msound_fun (cx := cx35) (fn := Try.f35) (cx0_ok rfl rfl) (by kernel_rfl) (by kernel_rfl)
noncomputable def cxCode : Cx := { P := Try.prog, n := Try.f30.ntmps, tab := [], mtab := [], refs := [13, 17], keeps := [0, 1, 2, 5] }
noncomputable def codeM : MSpec := fun args H => .req (Nat.ble args.length Try.f30.ntmps) (mfun cxCode Try.f30 args H)
theorem codeM_ok : MSound Try.prog 30 codeM := msound_fun (cx := cxCode) (fn := Try.f30) (cx0_ok rfl rfl) (by kernel_rfl) (by kernel_rfl)
noncomputable def cx18 : Cx := { P := Try.prog, n := 164, tab := [(33, fitsS)], mtab := [(30, codeM), (31, immM), (32, modrmM), (34, placeM), (35, wholeM)], refs := [], keeps := [0, 1, 2, 3, 4, 5, 6, 7, 18, 28, 29, 55, 60, 72, 80, 98, 108, 116, 124, 129, 148, 154] }
theorem cxBy_ok : CxOk cx18 := cx1_ok (ok1 fitsS_ok) (.cons codeM_ok (.cons immM_ok (.cons modrmM_ok (.cons placeM_ok (.cons wholeM_ok (.nil _)))))) rfl rfl
end Go.Amd

namespace Go.Amd
open Go Go.Ab Go.Proofs
def w8 (x : Int) : Int := IntKind.wrap .u8 x
def or8 (a b : Int) : Int := IntKind.wrap .u8 ↑(BitVec.toNat (BitVec.ofInt 8 a ||| BitVec.ofInt 8 b))
def ori (a b : Int) : Int := IntKind.wrap .i64 ↑(BitVec.toNat (BitVec.ofInt 64 a ||| BitVec.ofInt 64 b))
def andi (a b : Int) : Int := IntKind.wrap .i64 ↑(BitVec.toNat (BitVec.ofInt 64 a &&& BitVec.ofInt 64 b))
def wi (x : Int) : Int := IntKind.wrap .i64 x
def hi4 (r k : Int) : Int := w8 (w8 (Int.fdiv r (2 ^ 3)) * k)
def rexM (R reg rm : Int) : Int := or8 R (or8 (hi4 reg 4) (hi4 rm 1))
def mrB (m reg rm : Int) : Int := w8 (ori (ori (wi (m * 2 ^ 6)) (wi (andi reg 7 * 2 ^ 3))) (andi rm 7))
def imB (n : Int) (k : Nat) : Int := w8 (Int.fdiv n (2 ^ k))
def im1 (n : Int) : List Int := [imB n 0]
def im4 (n : Int) : List Int := [imB n 0, imB n 8, imB n 16, imB n 24]
def im8 (n : Int) : List Int := [imB n 0, imB n 8, imB n 16, imB n 24, imB n 32, imB n 40, imB n 48, imB n 56]
def leafB (l : List Int) : Tree V := .leaf (.sl (.int .u8) l [] .ro)
def W0 (fsl : List Int) (R : Int) (op tail : List Int) : Tree V := .br (R != 0) (leafB (fsl ++ [or8 64 R] ++ op ++ tail)) (leafB (fsl ++ op ++ tail))
def W1 (fsl : List Int) (R : Int) (op tail : List Int) : Tree V := leafB (fsl ++ [or8 64 (or8 R 8)] ++ op ++ tail)
def W2 (fsl : List Int) (R : Int) (op tail : List Int) : Tree V := leafB (fsl ++ [or8 64 R] ++ op ++ tail)
def sibR (R index b : Int) : Int := or8 R (or8 (hi4 index 2) (hi4 b 1))
def sibH (K : Int → List Int → Tree V) (R : Int) (tail imm : List Int) (b index d : Int) : Tree V :=
  .br (decide (1 < d)) (.br (decide (2 < d)) (.br (decide (4 < d)) (.br (decide (8 < d)) (.br (decide (16 < d)) .fail (K (sibR R index b) (tail ++ [mrB 4 index b] ++ imm))) (K (sibR R index b) (tail ++ [mrB 3 index b] ++ imm)))
    (K (sibR R index b) (tail ++ [mrB 2 index b] ++ imm))) (K (sibR R index b) (tail ++ [mrB 1 index b] ++ imm))) (K (sibR R index b) (tail ++ [mrB 0 index b] ++ imm))
def withH (K : Int → List Int → Tree V) (m a b c d : Int) (imm : List Int) : Tree V :=
  .br (c == 16) (sibH K (rexM 0 a 4) [mrB m a 4] imm b 4 d) (sibH K (rexM 0 a 4) [mrB m a 4] imm b c d)
def modH (K : Int → List Int → Tree V) (m a b c d : Int) (imm : List Int) : Tree V :=
  .br (c == 16) (.br (andi b 7 != 4) (K (rexM 0 a b) ([mrB m a b] ++ imm)) (withH K m a b c d imm)) (withH K m a b c d imm)
def longH (K : Int → List Int → Tree V) (a b c d n : Int) : Tree V :=
  .br (fitsF n) (modH K 1 a b c d (im1 n)) (modH K 2 a b c d (im4 n))
def memH (K : Int → List Int → Tree V) (a b c d n : Int) : Tree V :=
  .br (b == 17) (K (rexM 0 a 5) ([mrB 0 a 5] ++ im4 n)) (.br (n == 0) (.br (andi b 7 != 5) (modH K 0 a b c d []) (longH K a b c d n)) (longH K a b c d n))
abbrev BodyT := Int → List Int → Int → Int → Int → Int → Int → Int → Tree V
def bytesH (p : BodyT) (op dg a b c d n : Int) : Tree V :=
  .br (decide (255 < op)) (p dg [w8 (Int.fdiv op (2 ^ 8))] (w8 op) a b c d n) (p dg [] (w8 op) a b c d n)
def kindsB : List ((Int × Int × Bool) × BodyT) := [
  ((0, 0, false), fun _dg hd l _a _b _c _d _n => W0 [] 0 (hd ++ [l]) []),
  ((0, 1, false), fun _dg hd l _a _b _c _d _n => W1 [] 0 (hd ++ [l]) []),
  ((1, 0, false), fun _dg hd l a _b _c _d _n => W0 [] (or8 0 (hi4 a 1)) (hd ++ [w8 (l + w8 (andi a 7))]) []),
  ((2, 1, false), fun _dg hd l a _b _c _d n => W1 [] (or8 0 (hi4 a 1)) (hd ++ [w8 (l + w8 (andi a 7))]) (im8 n)),
  ((3, 0, false), fun dg hd l a _b _c _d _n => W0 [] (rexM 0 (wi dg) a) (hd ++ [l]) [mrB 3 (wi dg) a]),
  ((3, 1, false), fun dg hd l a _b _c _d _n => W1 [] (rexM 0 (wi dg) a) (hd ++ [l]) [mrB 3 (wi dg) a]),
  ((4, 1, false), fun dg hd l a _b _c _d n => W1 [] (rexM 0 (wi dg) a) (hd ++ [l]) ([mrB 3 (wi dg) a] ++ im4 n)),
  ((5, 1, false), fun dg hd l a _b _c _d n => W1 [] (rexM 0 (wi dg) a) (hd ++ [l]) ([mrB 3 (wi dg) a] ++ im1 n)),
  ((6, 1, false), fun dg hd l a _b _c _d n => .br (fitsF n) (W1 [] (rexM 0 (wi dg) a) (hd ++ [l]) ([mrB 3 (wi dg) a] ++ im1 n)) (W1 [] (rexM 0 (wi dg) a) (hd ++ [129]) ([mrB 3 (wi dg) a] ++ im4 n))),
  ((7, 1, false), fun _dg hd l a b _c _d _n => W1 [] (rexM 0 b a) (hd ++ [l]) [mrB 3 b a]),
  ((8, 1, false), fun _dg hd l a b _c _d _n => W1 [] (rexM 0 a b) (hd ++ [l]) [mrB 3 a b]),
  ((8, 1, true), fun _dg hd l a b _c d _n => W1 [] (rexM 0 a b) (hd ++ [(w8 (l + w8 d))]) [mrB 3 a b]),
  ((9, 0, false), fun _dg hd l a b c d n => memH (fun R t => W0 [] R (hd ++ [l]) t) a b c d n),
  ((9, 1, false), fun _dg hd l a b c d n => memH (fun R t => W1 [] R (hd ++ [l]) t) a b c d n),
  ((9, 2, false), fun _dg hd l a b c d n => memH (fun R t => W2 [] R (hd ++ [l]) t) a b c d n),
  ((10, 1, false), fun _dg hd l a _b _c _d n => W1 [100] (rexM 0 a 4) (hd ++ [l]) ([mrB 0 a 4] ++ [37] ++ im4 n)),
  ((11, 0, false), fun _dg hd l _a _b _c _d n => W0 [] 0 (hd ++ [l]) (im4 n)),
  ((11, 0, true), fun _dg hd l _a _b _c d n => W0 [] 0 (hd ++ [(w8 (l + w8 d))]) (im4 n)),
  ((12, 0, false), fun _dg hd l _a _b _c _d n => W0 [] 0 (hd ++ [l]) (im1 n)),
  ((12, 0, true), fun _dg hd l _a _b _c d n => W0 [] 0 (hd ++ [(w8 (l + w8 d))]) (im1 n))]
def kindOf (x : RowT) : Int × Int × Bool := (formR x, x.2.1, condR x)
def kindOk (x : RowT) : Bool := (kindsB.map (·.1)).contains (kindOf x)
theorem bytes_0 : ((kindsB.drop 0).take 7).map (fun k nm op dg lo hi os i a b c d n => (dfun cx18 Try.f18 [.agg (rowL (nm, k.1.2.1, op, k.1.1, dg, k.1.2.2, lo, hi, os)), .agg [.str i, .int .i64 a, .int .i64 b, .int .i64 c, .int .i64 d, .int .i64 n]]).out) =
    ((kindsB.drop 0).take 7).map (fun k _ op dg _ _ _ _ a b c d n => (bytesH k.2 op dg a b c d n).out) := by kernel_rfl
theorem bytes_1 : ((kindsB.drop 7).take 5).map (fun k nm op dg lo hi os i a b c d n => (dfun cx18 Try.f18 [.agg (rowL (nm, k.1.2.1, op, k.1.1, dg, k.1.2.2, lo, hi, os)), .agg [.str i, .int .i64 a, .int .i64 b, .int .i64 c, .int .i64 d, .int .i64 n]]).out) =
    ((kindsB.drop 7).take 5).map (fun k _ op dg _ _ _ _ a b c d n => (bytesH k.2 op dg a b c d n).out) := by kernel_rfl
theorem bytes_2 : ((kindsB.drop 12).take 1).map (fun k nm op dg lo hi os i a b c d n => (dfun cx18 Try.f18 [.agg (rowL (nm, k.1.2.1, op, k.1.1, dg, k.1.2.2, lo, hi, os)), .agg [.str i, .int .i64 a, .int .i64 b, .int .i64 c, .int .i64 d, .int .i64 n]]).out) =
    ((kindsB.drop 12).take 1).map (fun k _ op dg _ _ _ _ a b c d n => (bytesH k.2 op dg a b c d n).out) := by kernel_rfl
theorem bytes_3 : ((kindsB.drop 13).take 1).map (fun k nm op dg lo hi os i a b c d n => (dfun cx18 Try.f18 [.agg (rowL (nm, k.1.2.1, op, k.1.1, dg, k.1.2.2, lo, hi, os)), .agg [.str i, .int .i64 a, .int .i64 b, .int .i64 c, .int .i64 d, .int .i64 n]]).out) =
    ((kindsB.drop 13).take 1).map (fun k _ op dg _ _ _ _ a b c d n => (bytesH k.2 op dg a b c d n).out) := by kernel_rfl
theorem bytes_4 : ((kindsB.drop 14).take 1).map (fun k nm op dg lo hi os i a b c d n => (dfun cx18 Try.f18 [.agg (rowL (nm, k.1.2.1, op, k.1.1, dg, k.1.2.2, lo, hi, os)), .agg [.str i, .int .i64 a, .int .i64 b, .int .i64 c, .int .i64 d, .int .i64 n]]).out) =
    ((kindsB.drop 14).take 1).map (fun k _ op dg _ _ _ _ a b c d n => (bytesH k.2 op dg a b c d n).out) := by kernel_rfl
theorem bytes_5 : ((kindsB.drop 15).take 5).map (fun k nm op dg lo hi os i a b c d n => (dfun cx18 Try.f18 [.agg (rowL (nm, k.1.2.1, op, k.1.1, dg, k.1.2.2, lo, hi, os)), .agg [.str i, .int .i64 a, .int .i64 b, .int .i64 c, .int .i64 d, .int .i64 n]]).out) =
    ((kindsB.drop 15).take 5).map (fun k _ op dg _ _ _ _ a b c d n => (bytesH k.2 op dg a b c d n).out) := by kernel_rfl
theorem kinds_parts : ((kindsB.drop 0).take 7 ++ (kindsB.drop 7).take 5 ++ (kindsB.drop 12).take 1 ++ (kindsB.drop 13).take 1 ++ (kindsB.drop 14).take 1 ++ (kindsB.drop 15).take 5) = kindsB := rfl
theorem kinds_all {β : Type} {f g : (Int × Int × Bool) × BodyT → β} (h0 : ((kindsB.drop 0).take 7).map f = ((kindsB.drop 0).take 7).map g) (h1 : ((kindsB.drop 7).take 5).map f = ((kindsB.drop 7).take 5).map g) (h2 : ((kindsB.drop 12).take 1).map f = ((kindsB.drop 12).take 1).map g) (h3 : ((kindsB.drop 13).take 1).map f = ((kindsB.drop 13).take 1).map g) (h4 : ((kindsB.drop 14).take 1).map f = ((kindsB.drop 14).take 1).map g) (h5 : ((kindsB.drop 15).take 5).map f = ((kindsB.drop 15).take 5).map g) : kindsB.map f = kindsB.map g := by
  rw [← kinds_parts]
  simp only [List.map_append, h0, h1, h2, h3, h4, h5]
theorem bytes_kinds : kindsB.map (fun k nm op dg lo hi os i a b c d n => (dfun cx18 Try.f18 [.agg (rowL (nm, k.1.2.1, op, k.1.1, dg, k.1.2.2, lo, hi, os)), .agg [.str i, .int .i64 a, .int .i64 b, .int .i64 c, .int .i64 d, .int .i64 n]]).out) =
    kindsB.map (fun k _ op dg _ _ _ _ a b c d n => (bytesH k.2 op dg a b c d n).out) :=
  kinds_all bytes_0 bytes_1 bytes_2 bytes_3 bytes_4 bytes_5
end Go.Amd

namespace Go.Amd
open Go Go.Ab Go.Proofs
def scaleN (d : Int) : Int := cond (decide (1 < d)) (cond (decide (2 < d)) (cond (decide (4 < d)) (cond (decide (8 < d)) 4 3) 2) 1) 0
def modP (m a b c d : Int) (imm : List Int) : Int × List Int :=
  cond (cond (c == 16) (andi b 7 != 4) false) (rexM 0 a b, [mrB m a b] ++ imm)
    (sibR (rexM 0 a 4) (cond (c == 16) 4 c) b, [mrB m a 4] ++ [mrB (scaleN d) (cond (c == 16) 4 c) b] ++ imm)
def memP (a b c d n : Int) : Int × List Int :=
  cond (b == 17) (rexM 0 a 5, [mrB 0 a 5] ++ im4 n)
    (cond (cond (n == 0) (andi b 7 != 5) false) (modP 0 a b c d []) (cond (fitsF n) (modP 1 a b c d (im1 n)) (modP 2 a b c d (im4 n))))
theorem sibH_run (K : Int → List Int → Tree V) (R : Int) (tail imm : List Int) (b index d : Int) (hd : d ≤ 16) :
    (sibH K R tail imm b index d).run = (K (sibR R index b) (tail ++ [mrB (scaleN d) index b] ++ imm)).run := by
  have h16 : decide (16 < d) = false := decide_eq_false (by omega)
  unfold sibH scaleN
  rw [h16]
  cases decide (1 < d)
  · rfl
  · cases decide (2 < d)
    · rfl
    · cases decide (4 < d)
      · rfl
      · cases decide (8 < d) <;> rfl
theorem withH_run (K : Int → List Int → Tree V) (m a b c d : Int) (imm : List Int) (hd : d ≤ 16) :
    (withH K m a b c d imm).run = (K (sibR (rexM 0 a 4) (cond (c == 16) 4 c) b) ([mrB m a 4] ++ [mrB (scaleN d) (cond (c == 16) 4 c) b] ++ imm)).run := by
  unfold withH
  rw [br_run, sibH_run _ _ _ _ _ _ _ hd, sibH_run _ _ _ _ _ _ _ hd]
  cases (c == 16) <;> rfl
theorem modH_run (K : Int → List Int → Tree V) (m a b c d : Int) (imm : List Int) (hd : d ≤ 16) :
    (modH K m a b c d imm).run = (K (modP m a b c d imm).1 (modP m a b c d imm).2).run := by
  unfold modH modP
  rw [br_run, br_run, withH_run _ _ _ _ _ _ _ hd]
  cases (c == 16)
  · rfl
  · cases (andi b 7 != 4) <;> rfl
theorem memH_run (K : Int → List Int → Tree V) (a b c d n : Int) (hd : d ≤ 16) : (memH K a b c d n).run = (K (memP a b c d n).1 (memP a b c d n).2).run := by
  unfold memH memP longH
  simp only [br_run, modH_run _ _ _ _ _ _ _ hd]
  cases (b == 17)
  · cases (n == 0)
    · cases fitsF n <;> rfl
    · cases (andi b 7 != 5)
      · cases fitsF n <;> rfl
      · rfl
  · rfl
def fsF (f : Int) : List Int := cond (f == 10) [100] []
def rF (f dg a b c d n : Int) : Int :=
  cond (f == 1) (or8 0 (hi4 a 1)) (cond (f == 2) (or8 0 (hi4 a 1)) (cond (f == 3) (rexM 0 (wi dg) a) (cond (f == 4) (rexM 0 (wi dg) a) (cond (f == 5) (rexM 0 (wi dg) a) (cond (f == 6) (rexM 0 (wi dg) a)
    (cond (f == 7) (rexM 0 b a) (cond (f == 8) (rexM 0 a b) (cond (f == 9) (memP a b c d n).1 (cond (f == 10) (rexM 0 a 4) 0)))))))))
def tailB (f dg a b c d n : Int) : List Int :=
  cond (f == 2) (im8 n) (cond (f == 3) [mrB 3 (wi dg) a] (cond (f == 4) ([mrB 3 (wi dg) a] ++ im4 n) (cond (f == 5) ([mrB 3 (wi dg) a] ++ im1 n) (cond (f == 6) ([mrB 3 (wi dg) a] ++ cond (fitsF n) (im1 n) (im4 n))
    (cond (f == 7) [mrB 3 b a] (cond (f == 8) [mrB 3 a b] (cond (f == 9) (memP a b c d n).2 (cond (f == 10) ([mrB 0 a 4] ++ [37] ++ im4 n) (cond (f == 11) (im4 n) (cond (f == 12) (im1 n) []))))))))))
def lastF (f : Int) (cn : Bool) (l a d n : Int) : Int :=
  cond (f == 1) (w8 (l + w8 (andi a 7))) (cond (f == 2) (w8 (l + w8 (andi a 7))) (cond (f == 6) (cond (fitsF n) l 129) (cond cn (w8 (l + w8 d)) l)))
def rexL (rex R : Int) : List Int := cond (rex == 0) (cond (R != 0) [or8 64 R] []) [or8 64 (cond (rex == 1) (or8 R 8) R)]
def hdF (op : Int) : List Int := cond (decide (255 < op)) [w8 (Int.fdiv op (2 ^ 8))] []
def bytesF (x : RowT) (i : InsT) : List Int :=
  fsF (formR x) ++ rexL x.2.1 (rF (formR x) x.2.2.2.2.1 i.2.1 i.2.2.1 i.2.2.2.1 i.2.2.2.2.1 i.2.2.2.2.2) ++ (hdF x.2.2.1 ++ [lastF (formR x) (condR x) (w8 x.2.2.1) i.2.1 i.2.2.2.2.1 i.2.2.2.2.2]) ++
    tailB (formR x) x.2.2.2.2.1 i.2.1 i.2.2.1 i.2.2.2.1 i.2.2.2.2.1 i.2.2.2.2.2
def bodyP (k : Int × Int × Bool) (dg : Int) (hd : List Int) (l a b c d n : Int) : List Int :=
  fsF k.1 ++ rexL k.2.1 (rF k.1 dg a b c d n) ++ (hd ++ [lastF k.1 k.2.2 l a d n]) ++ tailB k.1 dg a b c d n
theorem W0_run (fsl : List Int) (R : Int) (op tail : List Int) : (W0 fsl R op tail).run = some (.sl (.int .u8) (fsl ++ rexL 0 R ++ op ++ tail) [] .ro) := by
  unfold W0 rexL
  cases (R != 0)
  · show some (V.sl (.int .u8) (fsl ++ op ++ tail) [] .ro) = some (V.sl (.int .u8) (fsl ++ [] ++ op ++ tail) [] .ro)
    rw [List.append_nil]
    rfl
  · rfl
theorem W1_run (fsl : List Int) (R : Int) (op tail : List Int) : (W1 fsl R op tail).run = some (.sl (.int .u8) (fsl ++ rexL 1 R ++ op ++ tail) [] .ro) := rfl
theorem W2_run (fsl : List Int) (R : Int) (op tail : List Int) : (W2 fsl R op tail).run = some (.sl (.int .u8) (fsl ++ rexL 2 R ++ op ++ tail) [] .ro) := rfl
theorem body_runs : ∀ k ∈ kindsB, ∀ dg hd l a b c d n, d ≤ 16 → (k.2 dg hd l a b c d n).run = some (.sl (.int .u8) (bodyP k.1 dg hd l a b c d n) [] .ro) := by
  intro k hk dg hd l a b c d n h16
  unfold kindsB at hk
  simp only [List.mem_cons, List.not_mem_nil, or_false] at hk
  rcases hk with rfl | rfl | rfl | rfl | rfl | rfl | rfl | rfl | rfl | rfl | rfl | rfl | rfl | rfl | rfl | rfl | rfl | rfl | rfl | rfl
  · refine (W0_run _ _ _ _).trans ?_
    kernel_rfl
  · refine (W1_run _ _ _ _).trans ?_
    kernel_rfl
  · refine (W0_run _ _ _ _).trans ?_
    kernel_rfl
  · refine (W1_run _ _ _ _).trans ?_
    kernel_rfl
  · refine (W0_run _ _ _ _).trans ?_
    kernel_rfl
  · refine (W1_run _ _ _ _).trans ?_
    kernel_rfl
  · refine (W1_run _ _ _ _).trans ?_
    kernel_rfl
  · refine (W1_run _ _ _ _).trans ?_
    kernel_rfl
  · refine (br_run _ _ _).trans ?_
    rw [W1_run, W1_run]
    show _ = some (V.sl (.int .u8) (bodyP (6, 1, false) dg hd l a b c d n) [] .ro)
    unfold bodyP tailB lastF
    cases fitsF n
    · kernel_rfl
    · kernel_rfl
  · refine (W1_run _ _ _ _).trans ?_
    kernel_rfl
  · refine (W1_run _ _ _ _).trans ?_
    kernel_rfl
  · refine (W1_run _ _ _ _).trans ?_
    kernel_rfl
  · refine (memH_run (fun R t => W0 [] R (hd ++ [l]) t) a b c d n h16).trans ?_
    refine (W0_run _ _ _ _).trans ?_
    kernel_rfl
  · refine (memH_run (fun R t => W1 [] R (hd ++ [l]) t) a b c d n h16).trans ?_
    refine (W1_run _ _ _ _).trans ?_
    kernel_rfl
  · refine (memH_run (fun R t => W2 [] R (hd ++ [l]) t) a b c d n h16).trans ?_
    refine (W2_run _ _ _ _).trans ?_
    kernel_rfl
  · refine (W1_run _ _ _ _).trans ?_
    kernel_rfl
  · refine (W0_run _ _ _ _).trans ?_
    kernel_rfl
  · refine (W0_run _ _ _ _).trans ?_
    kernel_rfl
  · refine (W0_run _ _ _ _).trans ?_
    kernel_rfl
  · refine (W0_run _ _ _ _).trans ?_
    kernel_rfl
theorem kind_mem {x : RowT} (h : kindOk x = true) : ∃ k ∈ kindsB, k.1 = kindOf x := by
  unfold kindOk at h
  simpa using h
theorem bytesH_run {x : RowT} {p : BodyT} {k : Int × Int × Bool} (hk : (k, p) ∈ kindsB) (he : k = kindOf x) (i : InsT) (h16 : i.2.2.2.2.1 ≤ 16) :
    (bytesH p x.2.2.1 x.2.2.2.2.1 i.2.1 i.2.2.1 i.2.2.2.1 i.2.2.2.2.1 i.2.2.2.2.2).run = some (.sl (.int .u8) (bytesF x i) [] .ro) := by
  unfold bytesH
  rw [br_run, body_runs _ hk _ _ _ _ _ _ _ _ h16, body_runs _ hk _ _ _ _ _ _ _ _ h16]
  subst he
  unfold bytesF hdF bodyP kindOf
  cases decide (255 < x.2.2.1) <;> rfl
def bytesS : Ab.Spec := fun args => match args with
  | [.agg [.str nm, .int .i64 rex, .int .u16 op, .int .i64 f, .int .u8 dg, .bool cn, .int .i64 lo, .int .i64 hi, .str ops], .agg [.str i, .int .i64 a, .int .i64 b, .int .i64 c, .int .i64 d, .int .i64 n]] =>
    .req (kindOk (nm, rex, op, f, dg, cn, lo, hi, ops)) (.req (decide (d ≤ 16)) (.leaf (.sl (.int .u8) (bytesF (nm, rex, op, f, dg, cn, lo, hi, ops) (i, a, b, c, d, n)) [] .ro)))
  | _ => .fail
theorem bytesS_ok : Sound Try.prog 18 bytesS := by
  intro args out h
  unfold bytesS at h
  split at h
  rotate_left
  · cases h
  rename_i nm rex op f dg cn lo hi ops i a b c d n
  obtain ⟨h1, h⟩ := req_run h
  obtain ⟨h2, h⟩ := req_run h
  have h := leaf_out h
  subst h
  refine pcall_fun' (cx := cx18) (fn := Try.f18) cxBy_ok (by kernel_rfl) (by kernel_rfl) (by kernel_rfl) ?_
  obtain ⟨⟨k, p⟩, hk, he⟩ := kind_mem h1
  have e := congrFun (congrFun (congrFun (congrFun (congrFun (congrFun (congrFun (congrFun (congrFun (congrFun (congrFun (congrFun (List.map_inj_left.1 bytes_kinds _ hk) nm) op) dg) lo) hi) ops) i) a) b) c) d) n
  simp only at he
  subst he
  exact (Tree.out_run _).symm.trans (e.trans ((Tree.out_run _).trans (bytesH_run hk rfl (i, a, b, c, d, n) (of_decide_eq_true h2))))
noncomputable def cx6 : Cx := { P := Try.prog, n := 24, tab := [(16, findS), (17, faultyS), (18, bytesS)], mtab := [], refs := [], keeps := [0, 1, 2, 3, 4, 5, 6, 14, 19] }
noncomputable def cx8 : Cx := { P := Try.prog, n := 18, tab := [(16, findS), (17, faultyS)], mtab := [], refs := [], keeps := [0, 1, 2, 3, 4] }
noncomputable def cx14 : Cx := { P := Try.prog, n := 14, tab := [(16, findS)], mtab := [], refs := [], keeps := [0, 2, 3, 4, 5] }
noncomputable def cx15 : Cx := { P := Try.prog, n := 17, tab := [(25, rowsS)], mtab := [], refs := [], keeps := [0, 1, 3, 4, 5, 6, 7], fuel := 64 }
def rowFine (x : RowT) : Bool := formOk x && kindOk x
theorem rows_fine : rowsL.all rowFine = true := by kernel_rfl
theorem frow_fine {nm : List UInt8} (h : fok nm = true) : rowFine (frow nm) = true := by
  unfold fok at h
  unfold frow
  cases hf : findL nm rowsL with
  | none => rw [hf] at h; cases h
  | some r => exact List.all_eq_true.1 rows_fine r (List.mem_of_find?_eq_some hf)
theorem frow_form {nm : List UInt8} (h : fok nm = true) : formOk (frow nm) = true := (Bool.and_eq_true_iff.1 (frow_fine h)).1
theorem frow_kind {nm : List UInt8} (h : fok nm = true) : kindOk (frow nm) = true := (Bool.and_eq_true_iff.1 (frow_fine h)).2
def encE (i : InsT) : Int := cond (fok i.1) (faultyF (frow i.1) i) 7
def encL (i : InsT) : List Int := bytesF (frow i.1) i
abbrev nilV : V := .val (.slice none 0 0)
theorem scale_le {d : Int} (h : scaleF d = true) : d ≤ 16 := by
  unfold scaleF at h
  by_cases h1 : d = 1
  · omega
  by_cases h2 : d = 2
  · omega
  by_cases h4 : d = 4
  · omega
  by_cases h8 : d = 8
  · omega
  simp [h1, h2, h4, h8] at h
theorem cond_le {d : Int} (h : condF d = true) : d ≤ 16 := by
  unfold condF at h
  by_cases h1 : d ≤ 16
  · exact h1
  have h2 : decide (d ≤ 9) = false := decide_eq_false (by omega)
  have h3 : decide (d ≤ 15) = false := decide_eq_false (by omega)
  rw [h2, h3] at h
  cases hx : decide (0 ≤ d) <;> cases hy : decide (12 ≤ d) <;> rw [hx, hy] at h <;> cases h
theorem place_le {b c d : Int} (h : placeF b c d = true) : d ≤ 16 := by
  unfold placeF at h
  cases hc : (c == 16)
  · rw [hc] at h
    cases h1 : baseF b
    · rw [h1] at h; cases h
    rw [h1] at h
    cases h2 : (b != 17)
    · rw [h2] at h; cases h
    rw [h2] at h
    cases h3 : decide (0 ≤ c)
    · rw [h3] at h; cases h
    rw [h3] at h
    cases h4 : decide (c ≤ 15)
    · rw [h4] at h; cases h
    rw [h4] at h
    cases h5 : (c != 4)
    · rw [h5] at h; cases h
    rw [h5] at h
    exact scale_le h
  · rw [hc] at h
    cases h1 : baseF b
    · rw [h1] at h; cases h
    · rw [h1] at h
      have : d = 0 := by simpa using h
      omega
theorem ok_le {x : RowT} {a b c d : Int} (h : okF x a b c d = true) : d ≤ 16 := by
  unfold okF at h
  cases h0 : uM x
  · rw [h0] at h
    cases h1 : regF a (uA x)
    · rw [h1] at h; cases h
    rw [h1] at h
    cases h2 : regF b (uB x)
    · rw [h2] at h; cases h
    rw [h2] at h
    cases h3 : (c == 0)
    · rw [h3] at h; cases h
    rw [h3] at h
    cases h4 : (d == 0)
    · rw [h4] at h
      cases h5 : condR x
      · rw [h5] at h; cases h
      · rw [h5] at h; exact cond_le h
    · have : d = 0 := by simpa using h4
      omega
  · rw [h0] at h
    cases h1 : regF a (uA x)
    · rw [h1] at h; cases h
    · rw [h1] at h
      exact place_le h
theorem faulty_ok {x : RowT} {i : InsT} (h : faultyF x i = 0) : okF x i.2.1 i.2.2.1 i.2.2.2.1 i.2.2.2.2.1 = true := by
  unfold faultyF tailF at h
  cases ho : okF x i.2.1 i.2.2.1 i.2.2.2.1 i.2.2.2.2.1
  · rw [ho] at h; cases h
  · rfl
def encH (i : InsT) : Tree V := .br (!fok i.1) (.leaf (.tup [nilV, .int .i64 7])) (.br (formOk (frow i.1)) (.br (faultyF (frow i.1) i != 0) (.leaf (.tup [nilV, .int .i64 (faultyF (frow i.1) i)]))
  (.br (kindOk (frow i.1)) (.br (decide (i.2.2.2.2.1 ≤ 16)) (.leaf (.tup [.sl (.int .u8) (encL i) [] .ro, .int .i64 0])) .fail) .fail)) .fail)
theorem encH_eq (i : InsT) : (dfun cx6 Try.f6 [.agg (insL i)]).run = (encH i).run :=
  (show (dfun cx6 Try.f6 [.agg (insL i)]).run = (encH i).out by kernel_rfl).trans (Tree.out_run _)
def encodeS : Ab.Spec := fun args => match args with
  | [.agg [.str nm, .int .i64 a, .int .i64 b, .int .i64 c, .int .i64 d, .int .i64 n]] =>
    .br (encE (nm, a, b, c, d, n) == 0) (.leaf (.tup [.sl (.int .u8) (encL (nm, a, b, c, d, n)) [] .ro, .int .i64 0])) (.leaf (.tup [nilV, .int .i64 (encE (nm, a, b, c, d, n))]))
  | _ => .fail
theorem encodeS_ok : Sound Try.prog 6 encodeS := by
  intro args out h
  unfold encodeS at h
  split at h
  rotate_left
  · cases h
  rename_i nm a b c d n
  refine pcall_fun' (cx := cx6) (fn := Try.f6) (cx1_ok (.cons findS_ok (.cons faultyS_ok (ok1 bytesS_ok))) (.nil _) rfl rfl) (by kernel_rfl) (by kernel_rfl) (by kernel_rfl) ?_
  refine (encH_eq (nm, a, b, c, d, n)).trans ?_
  rw [← h]
  unfold encH encE
  simp only
  cases hf : (fok nm)
  · rfl
  rw [frow_form hf, frow_kind hf]
  simp only [cond_true]
  cases hb : (faultyF (frow nm) (nm, a, b, c, d, n) == 0)
  · have : (faultyF (frow nm) (nm, a, b, c, d, n) != 0) = true := by simp [bne, hb]
    rw [this]
    rfl
  · have : (faultyF (frow nm) (nm, a, b, c, d, n) != 0) = false := by simp [bne, hb]
    rw [this, decide_eq_true (ok_le (faulty_ok (eq_of_beq hb)))]
    rfl
def mayH (i : InsT) : Tree V := .br (fok i.1) (.br (formOk (frow i.1)) (.leaf (.bool (faultyF (frow i.1) i == 0))) .fail) (.leaf (.bool false))
theorem mayH_eq (i : InsT) : (dfun cx8 Try.f8 [.agg (insL i)]).run = (mayH i).run :=
  (show (dfun cx8 Try.f8 [.agg (insL i)]).run = (mayH i).out by kernel_rfl).trans (Tree.out_run _)
def mayS : Ab.Spec := fun args => match args with
  | [.agg [.str nm, .int .i64 a, .int .i64 b, .int .i64 c, .int .i64 d, .int .i64 n]] => .leaf (.bool (encE (nm, a, b, c, d, n) == 0))
  | _ => .fail
theorem mayS_ok : Sound Try.prog 8 mayS := by
  intro args out h
  unfold mayS at h
  split at h
  rotate_left
  · cases h
  rename_i nm a b c d n
  refine pcall_fun' (cx := cx8) (fn := Try.f8) (cx1_ok (.cons findS_ok (ok1 faultyS_ok)) (.nil _) rfl rfl) (by kernel_rfl) (by kernel_rfl) (by kernel_rfl) ?_
  refine (mayH_eq (nm, a, b, c, d, n)).trans ?_
  rw [← h]
  unfold mayH encE
  simp only
  cases hf : (fok nm)
  · rfl
  rw [frow_form hf]
  rfl
def opsOf (nm : List UInt8) : List UInt8 := (frow nm).2.2.2.2.2.2.2.2
def operandsS : Ab.Spec := fun args => match args with
  | [.str nm] => .leaf (.tup [.str (opsOf nm), .bool (fok nm)])
  | _ => .fail
theorem operandsS_ok : Sound Try.prog 14 operandsS := by
  intro args out h
  unfold operandsS at h
  split at h
  rotate_left
  · cases h
  rename_i nm
  have h := leaf_out h
  subst h
  exact pcall_fun' (cx := cx14) (fn := Try.f14) (cx1_ok (ok1 findS_ok) (.nil _) rfl rfl) (by kernel_rfl) (by kernel_rfl) (by kernel_rfl) (by kernel_rfl)
def namesL : List (List UInt8) := rowsL.map (fun r => r.1)
theorem names_run : (dfun cx15 Try.f15 []).run = some (.sl .str namesL [] .ro) := by kernel_rfl
def namesS : Ab.Spec := fun args => match args with
  | [] => .leaf (.sl .str namesL [] .ro)
  | _ => .fail
theorem namesS_ok : Sound Try.prog 15 namesS := by
  intro args out h
  unfold namesS at h
  split at h
  rotate_left
  · cases h
  have h := leaf_out h
  subst h
  exact pcall_fun' (cx := cx15) (fn := Try.f15) (cx1_ok (ok1 rowsS_ok) (.nil _) rfl rfl) (by kernel_rfl) (by kernel_rfl) (by kernel_rfl) names_run
end Go.Amd

namespace Go.Amd
open Go Go.Ab Go.Proofs
noncomputable def cx49 : Cx := { P := Try.prog, n := 6, tab := [], mtab := [], refs := [], keeps := [0, 3] }
noncomputable def mustM : MSpec := fun args H => .req (Nat.ble args.length Try.f49.ntmps) (mfun cx49 Try.f49 args H)
theorem mustM_ok : MSound Try.prog 49 mustM := msound_fun (cx := cx49) (fn := Try.f49) (cx1_ok (.nil _) (.nil _) rfl rfl) (by kernel_rfl) (by kernel_rfl)
noncomputable def cx50 : Cx := { P := Try.prog, n := 33, tab := [], mtab := [], refs := [], keeps := [0, 2, 12] }
noncomputable def nextM : MSpec := fun args H => .req (Nat.ble args.length Try.f50.ntmps) (mfun cx50 Try.f50 args H)
theorem nextM_ok : MSound Try.prog 50 nextM := msound_fun (cx := cx50) (fn := Try.f50) (cx1_ok (.nil _) (.nil _) rfl rfl) (by kernel_rfl) (by kernel_rfl)
noncomputable def cx66 : Cx := { P := Try.prog, n := 30, tab := [], mtab := [(50, nextM)], refs := [], keeps := [0, 1, 4, 5, 6, 7, 8, 9], fuel := 9 }
noncomputable def numberM : MSpec := fun args H => .req (Nat.ble args.length Try.f66.ntmps) (mfun cx66 Try.f66 args H)
theorem numberM_ok : MSound Try.prog 66 numberM := msound_fun (cx := cx66) (fn := Try.f66) (cx1_ok (.nil _) (.cons nextM_ok (.nil _)) rfl rfl) (by kernel_rfl) (by kernel_rfl)
noncomputable def cx47 : Cx := { P := Try.prog, n := 12, tab := [], mtab := [], refs := [], keeps := [0, 1, 4, 11] }
noncomputable def bitM : MSpec := fun args H => .req (Nat.ble args.length Try.f47.ntmps) (mfun cx47 Try.f47 args H)
theorem bitM_ok : MSound Try.prog 47 bitM := msound_fun (cx := cx47) (fn := Try.f47) (cx1_ok (.nil _) (.nil _) rfl rfl) (by kernel_rfl) (by kernel_rfl)
noncomputable def cx45 : Cx := { P := Try.prog, n := 59, tab := [], mtab := [(49, mustM), (50, nextM)], refs := [], keeps := [0, 2, 3, 7, 19, 31] }
noncomputable def opcodeM : MSpec := fun args H => .req (Nat.ble args.length Try.f45.ntmps) (mfun cx45 Try.f45 args H)
theorem opcodeM_ok : MSound Try.prog 45 opcodeM := msound_fun (cx := cx45) (fn := Try.f45) (cx1_ok (.nil _) (.cons mustM_ok (.cons nextM_ok (.nil _))) rfl rfl) (by kernel_rfl) (by kernel_rfl)
noncomputable def cx62 : Cx := { P := Try.prog, n := 75, tab := [(29, conditionS)], mtab := [], refs := [], keeps := [0, 1, 2, 4, 5, 6, 29, 38, 48, 59] }
noncomputable def opensE : Ab.Spec := fun args => .req (Nat.ble args.length Try.f62.ntmps) (dfun cx62 Try.f62 args)
theorem opensE_ok : Sound Try.prog 62 opensE := sound_fun (cx := cx62) (fn := Try.f62) (cx1_ok (.cons conditionS_ok (.nil _)) (.nil _) rfl rfl) (by kernel_rfl) (by kernel_rfl)
noncomputable def cx63 : Cx := { P := Try.prog, n := 81, tab := [], mtab := [], refs := [], keeps := [0, 1, 2, 4, 5, 13, 15, 16, 20, 27, 36, 38, 39, 47] }
noncomputable def prefixedM : MSpec := fun args H => .req (Nat.ble args.length Try.f63.ntmps) (mfun cx63 Try.f63 args H)
theorem prefixedM_ok : MSound Try.prog 63 prefixedM := msound_fun (cx := cx63) (fn := Try.f63) (cx1_ok (.nil _) (.nil _) rfl rfl) (by kernel_rfl) (by kernel_rfl)
noncomputable def cx64 : Cx := { P := Try.prog, n := 11, tab := [], mtab := [], refs := [], keeps := [0, 1, 2, 4, 5] }
noncomputable def hasModE : Ab.Spec := fun args => .req (Nat.ble args.length Try.f64.ntmps) (dfun cx64 Try.f64 args)
theorem hasModE_ok : Sound Try.prog 64 hasModE := sound_fun (cx := cx64) (fn := Try.f64) (cx1_ok (.nil _) (.nil _) rfl rfl) (by kernel_rfl) (by kernel_rfl)
noncomputable def cx65 : Cx := { P := Try.prog, n := 36, tab := [], mtab := [], refs := [], keeps := [0, 1, 2, 3, 4, 8, 10, 11, 15, 23] }
noncomputable def fitE : Ab.Spec := fun args => .req (Nat.ble args.length Try.f65.ntmps) (dfun cx65 Try.f65 args)
theorem fitE_ok : Sound Try.prog 65 fitE := sound_fun (cx := cx65) (fn := Try.f65) (cx1_ok (.nil _) (.nil _) rfl rfl) (by kernel_rfl) (by kernel_rfl)
noncomputable def cx46 : Cx := { P := Try.prog, n := 65, tab := [(25, rowsS), (62, opensE), (64, hasModE), (65, fitE)], mtab := [(63, prefixedM), (49, mustM), (50, nextM)], refs := [], keeps := [0, 1, 4, 5, 6, 8, 9, 11, 12, 13, 14, 15, 25, 39, 45, 46, 47, 48, 59], fuel := 64 }
noncomputable def chosenM : MSpec := fun args H => .req (Nat.ble args.length Try.f46.ntmps) (mfun cx46 Try.f46 args H)
theorem chosenM_ok : MSound Try.prog 46 chosenM := msound_fun (cx := cx46) (fn := Try.f46) (cx1_ok (.cons rowsS_ok (.cons opensE_ok (.cons hasModE_ok (.cons fitE_ok (.nil _))))) (.cons prefixedM_ok (.cons mustM_ok (.cons nextM_ok (.nil _)))) rfl rfl) (by kernel_rfl) (by kernel_rfl)
noncomputable def cx67 : Cx := { P := Try.prog, n := 57, tab := [], mtab := [(50, nextM), (47, bitM), (49, mustM)], refs := [], keeps := [0, 1, 2, 6, 7, 8, 37] }
noncomputable def sibW : MSpec := fun args H => .req (Nat.ble args.length Try.f67.ntmps) (mfun cx67 Try.f67 args H)
theorem sibW_ok : MSound Try.prog 67 sibW := msound_fun (cx := cx67) (fn := Try.f67) (cx1_ok (.nil _) (.cons nextM_ok (.cons bitM_ok (.cons mustM_ok (.nil _)))) rfl rfl) (by kernel_rfl) (by kernel_rfl)
noncomputable def cx48 : Cx := { P := Try.prog, n := 96, tab := [(33, fitsS)], mtab := [(66, numberM), (47, bitM), (49, mustM), (67, sibW)], refs := [], keeps := [0, 1, 2, 6, 7, 18, 48, 60, 61, 82] }
noncomputable def placeW : MSpec := fun args H => .req (Nat.ble args.length Try.f48.ntmps) (mfun cx48 Try.f48 args H)
theorem placeW_ok : MSound Try.prog 48 placeW := msound_fun (cx := cx48) (fn := Try.f48) (cx1_ok (.cons fitsS_ok (.nil _)) (.cons numberM_ok (.cons bitM_ok (.cons mustM_ok (.cons sibW_ok (.nil _))))) rfl rfl) (by kernel_rfl) (by kernel_rfl)
noncomputable def cx51 : Cx := { P := Try.prog, n := 40, tab := [(33, fitsS)], mtab := [(66, numberM), (49, mustM)], refs := [], keeps := [0, 1, 2, 4, 6, 7, 9, 10, 14, 20, 25, 30] }
noncomputable def immW : MSpec := fun args H => .req (Nat.ble args.length Try.f51.ntmps) (mfun cx51 Try.f51 args H)
theorem immW_ok : MSound Try.prog 51 immW := msound_fun (cx := cx51) (fn := Try.f51) (cx1_ok (.cons fitsS_ok (.nil _)) (.cons numberM_ok (.cons mustM_ok (.nil _))) rfl rfl) (by kernel_rfl) (by kernel_rfl)
noncomputable def cx22 : Cx := { P := Try.prog, n := 115, tab := [(17, faultyS)], mtab := [(45, opcodeM), (46, chosenM), (47, bitM), (48, placeW), (50, nextM), (49, mustM), (51, immW)], refs := [], keeps := [0, 2, 3, 4, 5, 6, 7, 8, 9, 25, 50, 51, 67, 74, 80, 86, 93, 103] }
noncomputable def allM : MSpec := fun args H => .req (Nat.ble args.length Try.f22.ntmps) (mfun cx22 Try.f22 args H)
theorem allM_ok : MSound Try.prog 22 allM := msound_fun (cx := cx22) (fn := Try.f22) (cx1_ok (.cons faultyS_ok (.nil _)) (.cons opcodeM_ok (.cons chosenM_ok (.cons bitM_ok (.cons placeW_ok (.cons nextM_ok (.cons mustM_ok (.cons immW_ok (.nil _)))))))) rfl rfl) (by kernel_rfl) (by kernel_rfl)
noncomputable def cx11 : Cx := { P := Try.prog, n := 30, tab := [], mtab := [(22, allM)], refs := [], keeps := [0, 1, 4, 5, 6, 7, 15] }
noncomputable def cx21 : Cx := { P := Try.prog, n := 15, tab := [], mtab := [], refs := [], keeps := [0, 1, 2, 4, 5, 6, 8, 10, 11] }
theorem cxDec_ok : CxOk cx11 := cx1_ok (.nil _) (.cons allM_ok (.nil _)) rfl rfl
noncomputable def decodeE : Ab.Spec := fun args => .req (Nat.ble args.length Try.f11.ntmps) ((dfunD cx11 cx21 Try.f11 21 Try.f21 args []).bind fun r => match r with
  | .ok v _ => .ofOption (V.pure? v)
  | _ => .fail)
theorem ofOption_run {α : Type} {o : Option α} {a : α} (h : (Tree.ofOption o).run = some a) : o = some a := by
  cases o with
  | none => cases h
  | some b => simpa [Tree.ofOption, Tree.run] using h
theorem decodeE_ok : Sound Try.prog 11 decodeE := by
  intro args out h
  unfold decodeE at h
  obtain ⟨h1, h⟩ := req_run h
  obtain ⟨r, h2, h3⟩ := bind_run h
  cases r with
  | ok v H' =>
    exact pcall_of_mcall (mcall_defer (cx := cx11) (cl := cx21) (fn := Try.f11) (fg := Try.f21) cxDec_ok (cx0_ok rfl rfl) rfl (by kernel_rfl) (by kernel_rfl) (by kernel_rfl) (by kernel_rfl) h1 h2) (ofOption_run h3)
  | pan v H' => cases h3
noncomputable def cx5 : Cx := { P := Try.prog, n := 77, tab := [(6, encodeS), (11, decodeE), (14, operandsS), (8, mayS), (15, namesS)], mtab := [], refs := [], keeps := [0, 1, 2, 3, 4, 5, 8, 9, 10] }
theorem begun_run : (dfun cx5 Try.f5 []).run = some (.bool true) := by kernel_rfl
def begunS : Ab.Spec := fun args => match args with
  | [] => .leaf (.bool true)
  | _ => .fail
theorem begunS_ok : Sound Try.prog 5 begunS := by
  intro args out h
  unfold begunS at h
  split at h
  rotate_left
  · cases h
  have h := leaf_out h
  subst h
  exact pcall_fun' (cx := cx5) (fn := Try.f5) (cx1_ok (.cons encodeS_ok (.cons decodeE_ok (.cons operandsS_ok (.cons mayS_ok (ok1 namesS_ok))))) (.nil _) rfl rfl) (by kernel_rfl) (by kernel_rfl) (by kernel_rfl) begun_run
end Go.Amd

namespace Go.Amd
open Go Go.Ab Go.Proofs
def and8 (a b : Int) : Int := IntKind.wrap .u8 ↑(BitVec.toNat (BitVec.ofInt 8 a &&& BitVec.ofInt 8 b))
def nthB (x : RowT) (c : Int) : Int := w8 (c - w8 x.2.2.1)
abbrev wkO (l sp : List Int) (fl : Fl) (k : Int) (fs : Bool) (R : Int) (has : Bool) : O := .cells [.sl (.int .u8) l sp fl, .int .i64 k, .bool fs, .int .u8 R, .bool has] 55
end Go.Amd

namespace Go.Amd
open Go Go.Ab Go.Proofs
def opF (x : RowT) (c c0 : Int) : Bool :=
  cond (condR x) (cond (decide (nthB x c < 16)) (condF (wi (nthB x c))) false)
    (cond (formR x == 1 || formR x == 2) (decide (nthB x c < 8)) (cond (formR x == 6) (cond (c0 == 131) true (c0 == 129)) (nthB x c == 0)))
def opensF (x : RowT) : List Int → Bool
  | [c] => cond (decide (255 < x.2.2.1)) false (opF x c c)
  | [c, e] => cond (decide (255 < x.2.2.1)) (cond (c != w8 (Int.fdiv x.2.2.1 (2 ^ 8))) false (opF x e c)) false
  | _ => false
def fitF (x : RowT) (m dg rm : Int) : Bool :=
  cond (formR x == 9) (m != 3) (cond (formR x == 10) (cond (m == 0) (rm == 4) false) (cond (formR x == 7 || formR x == 8) (m == 3) (cond (m == 3) (dg == x.2.2.2.2.1) false)))
end Go.Amd

namespace Go.Amd
open Go Go.Ab Go.Proofs
abbrev rO (r : RowT) : O := .cells (rowL r) 46
section
variable (l sp : List Int) (fl : Fl) (k R i : Int) (op : List Int) (fs has : Bool) (L G : List RowT)
end
end Go.Amd

namespace Go.Amd
open Go Go.Ab Go.Proofs
abbrev fltV (e : Int) : V := .ifc 52 (.agg [.int .i64 e])
section
variable (l sp : List Int) (fl : Fl) (k R i c : Int) (op : List Int) (fs has : Bool) (G : List RowT)
abbrev H3 (r : RowT) : List O := [wkO l sp fl k fs R has, rO r, .tok G.length 9]
def fitC (c : Int) (r : RowT) : Bool := fitF r (Int.fdiv c (2 ^ 6)) (and8 (Int.fdiv c (2 ^ 3)) 7) (and8 c 7)
def fitT : Tree Res := match G.find? (fitC c) with
  | some r => .leaf (.ok (.tup [.agg (rowL r), .int .u8 c]) [wkO l sp fl k fs R has, rO r])
  | none => .leaf (.pan (fltV 22) [wkO l sp fl k fs R has])
variable {l sp fl k R op fs has G}
end
end Go.Amd

namespace Go.Amd
open Go Go.Ab Go.Proofs
section
variable (l sp : List Int) (fl : Fl)
def sh4 (c : Int) : Int := Int.fdiv c (2 ^ 4)
end
section
variable (l sp : List Int) (fl : Fl)
end
end Go.Amd

namespace Go.Wd
open Go Go.Ab
theorem wrap_u64 (n : Int) : IntKind.wrap .u64 n = n % 18446744073709551616 := by
  simp [IntKind.wrap, IntKind.bits, IntKind.signed]
theorem wrap_u8 (n : Int) : IntKind.wrap .u8 n = n % 256 := by
  simp [IntKind.wrap, IntKind.bits, IntKind.signed]
def OffN (x lo hi : Nat) : Prop := ∀ j, lo ≤ j → j < hi → x.testBit j = false
theorem OffN.zero (lo hi : Nat) : OffN 0 lo hi := fun j _ _ => Nat.zero_testBit j
def gb (l : List Int) (i : Int) : Int := IntKind.wrap .u32 (l.getD i.toNat 0)
def InMask (x m : Nat) : Prop := x &&& m = x
theorem InMask.disj {x m n : Nat} (h : InMask x m) (hd : m &&& n = 0) : x &&& n = 0 := by
  unfold InMask at h
  rw [← h, Nat.and_assoc, hd, Nat.and_zero]
theorem InMask.zero (m : Nat) : InMask 0 m := Nat.zero_and m
theorem InMask.or {x y m : Nat} (hx : InMask x m) (hy : InMask y m) : InMask (x ||| y) m := by
  unfold InMask at *
  rw [Nat.and_or_distrib_right, hx, hy]
end Go.Wd

namespace Go.Amd
open Go Go.Ab Go.Proofs
abbrev NumF := (Int → Int) × (Int → Int → Int → Int → Int) × (Int → Int → Int → Int → Int → Int → Int → Int → Int)
section
variable (N : NumF) (l sp : List Int) (fl : Fl) (fs : Bool) (R : Int) (has : Bool)
abbrev panA (e k : Int) : Tree Res := .leaf (.pan (fltV e) [wkO l sp fl k fs R has])
end
section
variable (l sp : List Int) (fl : Fl) (fs : Bool) (R : Int) (has : Bool) (k : Int)
end
section
variable (N : NumF) (l sp : List Int) (fl : Fl) (fs : Bool) (R : Int) (has : Bool)
variable (x : RowT) (op : List Int) (c k : Int)
abbrev insO (i : InsT) : O := .cells (insL i) 29
abbrev finA (a b cc d n k : Int) : Tree Res := .br (formOk x) (.br (!(faultyF x (x.1, a, b, cc, d, n) == 0)) (panA l sp fl fs R has 22 k) (.leaf (.ok (insV (x.1, a, b, cc, d, n)) [wkO l sp fl k fs R has, insO (x.1, a, b, cc, d, n)]))) .fail
end
end Go.Amd

namespace Go.Amd
open Go Go.Ab Go.Proofs
abbrev RestR := Except (Int × Int) (InsT × Int)
def finQ (x : RowT) (i : InsT) (k : Int) : RestR := cond (!(faultyF x i == 0)) (.error (22, k)) (.ok (i, k))
structure At (l : List Int) (k : Int) (t : List Int) : Prop where
  at' : ∃ p : List Int, l = p ++ t ∧ k = (p.length : Int)
  fine : ∀ x ∈ t, 0 ≤ x ∧ x < 256
theorem At.next {l t : List Int} {k c : Int} (h : At l k (c :: t)) : At l (k + 1) t := by
  obtain ⟨p, h1, h2⟩ := h.at'
  exact ⟨⟨p ++ [c], by rw [h1]; simp, by rw [h2, List.length_append]; rfl⟩, fun x hx => h.fine x (List.mem_cons_of_mem _ hx)⟩
section
variable {l sp : List Int} {fl : Fl} {fs : Bool} {R : Int} {has : Bool}
def toRes (l sp : List Int) (fl : Fl) (fs : Bool) (R : Int) (has : Bool) : RestR → Res
  | .ok (i, k) => .ok (insV i) [wkO l sp fl k fs R has, insO i]
  | .error (e, k) => .pan (fltV e) [wkO l sp fl k fs R has]
def Comes' (l sp : List Int) (fl : Fl) (fs : Bool) (R : Int) (has : Bool) (T : Tree Res) (r : RestR) : Prop := T.run = some (toRes l sp fl fs R has r)
theorem fin_run {x : RowT} (hx : formOk x = true) (a b cc d n k : Int) : Comes' l sp fl fs R has (finA l sp fl fs R has x a b cc d n k) (finQ x (x.1, a, b, cc, d, n) k) := by
  unfold Comes' finQ
  refine (br_t hx).trans ?_
  rw [br_run]
  cases (!(faultyF x (x.1, a, b, cc, d, n) == 0)) <;> rfl
end
section
variable {l sp : List Int} {fl : Fl} {fs : Bool} {R : Int} {has : Bool}
end
end Go.Amd

namespace Go.Amd
open Go Go.Ab Go.Proofs
def all1 (n : Nat) (p : Int → Bool) : Bool := (List.range n).all fun a => p (a : Int)
def all2 (n m : Nat) (p : Int → Int → Bool) : Bool := (List.range n).all fun a => (List.range m).all fun b => p (a : Int) (b : Int)
theorem all1_of {n : Nat} {p : Int → Bool} (h : all1 n p = true) {a : Int} (a0 : 0 ≤ a) (a1 : a < n) : p a = true := by
  have := List.all_eq_true.1 h a.toNat (List.mem_range.2 (by omega))
  rwa [Int.toNat_of_nonneg a0] at this
theorem all2_of {n m : Nat} {p : Int → Int → Bool} (h : all2 n m p = true) {a b : Int} (a0 : 0 ≤ a) (a1 : a < n) (b0 : 0 ≤ b) (b1 : b < m) : p a b = true := by
  have := List.all_eq_true.1 h a.toNat (List.mem_range.2 (by omega))
  have := List.all_eq_true.1 this b.toNat (List.mem_range.2 (by omega))
  rwa [Int.toNat_of_nonneg a0, Int.toNat_of_nonneg b0] at this
theorem rexM_all : all2 16 16 (fun a b => rexM 0 a b == 4 * (a / 8) + b / 8) = true := by kernel_rfl
theorem rexM_eq {a b : Int} (a0 : 0 ≤ a) (a1 : a < 16) (b0 : 0 ≤ b) (b1 : b < 16) : rexM 0 a b = 4 * (a / 8) + b / 8 := eq_of_beq (all2_of rexM_all a0 a1 b0 b1)
theorem sibR_all : all2 16 16 (fun i b => sibR 0 i b == 2 * (i / 8) + b / 8 && sibR 4 i b == 4 + 2 * (i / 8) + b / 8) = true := by kernel_rfl
theorem sibR_eq {a i b : Int} (a0 : 0 ≤ a) (a1 : a < 16) (i0 : 0 ≤ i) (i1 : i < 16) (b0 : 0 ≤ b) (b1 : b < 16) : sibR (rexM 0 a 4) i b = 4 * (a / 8) + 2 * (i / 8) + b / 8 := by
  obtain ⟨h1, h2⟩ := Bool.and_eq_true_iff.1 (all2_of sibR_all i0 i1 b0 b1)
  rw [rexM_eq a0 a1 (by decide) (by decide)]
  have : a / 8 = 0 ∨ a / 8 = 1 := by omega
  rcases this with h | h
  · rw [h]
    have := eq_of_beq h1
    simpa using this
  · rw [h]
    have := eq_of_beq h2
    simpa using this
end Go.Amd

namespace Go.Amd
open Go Go.Ab Go.Proofs
theorem imB_eq (n : Int) (k : Nat) : imB n k = n / 2 ^ k % 256 := by
  unfold imB w8
  rw [Go.Wd.wrap_u8, Int.fdiv_eq_ediv_of_nonneg _ (Int.pow_nonneg (by decide))]
def IsB (a : Int) : Prop := 0 ≤ a ∧ a < 256
theorem imB_b (n : Int) (k : Nat) : IsB (imB n k) := by
  rw [imB_eq]
  exact ⟨Int.emod_nonneg _ (by decide), Int.emod_lt_of_pos _ (by decide)⟩
end Go.Amd

namespace Go.Amd
open Go Go.Ab Go.Proofs
def bools : List Bool := [false, true]
end Go.Amd

namespace Go.Amd
open Go Go.Ab Go.Proofs
theorem reg_rng {n : Int} {u : Bool} (h : regF n u = true) : 0 ≤ n ∧ n < 16 := by
  unfold regF at h
  by_cases h0 : n = 0
  · omega
  have e : (n == 0) = false := beq_eq_false_iff_ne.2 h0
  rw [e, cond_false] at h
  cases u
  · cases h
  · rw [cond_true] at h
    by_cases h1 : 0 < n
    · rw [decide_eq_true h1, cond_true] at h
      have := of_decide_eq_true h
      omega
    · rw [decide_eq_false h1] at h; cases h
theorem reg_zero {n : Int} (h : regF n false = true) : n = 0 := by
  unfold regF at h
  cases e : (n == 0)
  · rw [e] at h; cases h
  · exact eq_of_beq e
theorem base_rng {b : Int} (h : baseF b = true) : (0 ≤ b ∧ b < 16) ∨ b = 17 := by
  unfold baseF at h
  by_cases h17 : b = 17
  · exact .inr h17
  have e : (b == 17) = false := beq_eq_false_iff_ne.2 h17
  rw [e] at h
  by_cases h0 : 0 ≤ b
  · by_cases h1 : b ≤ 15
    · exact .inl ⟨h0, by omega⟩
    · rw [decide_eq_true h0, decide_eq_false h1] at h; cases h
  · rw [decide_eq_false h0] at h; cases h
theorem scale_rng {d : Int} (h : scaleF d = true) : d = 1 ∨ d = 2 ∨ d = 4 ∨ d = 8 := by
  unfold scaleF at h
  by_cases h1 : d = 1
  · exact .inl h1
  by_cases h2 : d = 2
  · exact .inr (.inl h2)
  by_cases h4 : d = 4
  · exact .inr (.inr (.inl h4))
  by_cases h8 : d = 8
  · exact .inr (.inr (.inr h8))
  simp [h1, h2, h4, h8] at h
theorem place_rng {b c d : Int} (h : placeF b c d = true) :
    (b = 17 ∧ c = 16 ∧ d = 0) ∨ ((0 ≤ b ∧ b < 16) ∧ c = 16 ∧ d = 0) ∨ ((0 ≤ b ∧ b < 16) ∧ (0 ≤ c ∧ c < 16) ∧ c ≠ 4 ∧ (d = 1 ∨ d = 2 ∨ d = 4 ∨ d = 8)) := by
  unfold placeF at h
  cases hc : (c == 16)
  · rw [hc, cond_false] at h
    cases h1 : baseF b
    · rw [h1] at h; cases h
    rw [h1, cond_true] at h
    cases h2 : (b != 17)
    · rw [h2] at h; cases h
    rw [h2, cond_true] at h
    cases h3 : decide (0 ≤ c)
    · rw [h3] at h; cases h
    rw [h3, cond_true] at h
    cases h4 : decide (c ≤ 15)
    · rw [h4] at h; cases h
    rw [h4, cond_true] at h
    cases h5 : (c != 4)
    · rw [h5] at h; cases h
    rw [h5, cond_true] at h
    have h2 : b ≠ 17 := by simpa using h2
    have h5 : c ≠ 4 := by simpa using h5
    have h3 := of_decide_eq_true h3
    have h4 := of_decide_eq_true h4
    rcases base_rng h1 with hb | hb
    · exact .inr (.inr ⟨hb, ⟨h3, by omega⟩, h5, scale_rng h⟩)
    · exact absurd hb h2
  · rw [hc, cond_true] at h
    have hc := eq_of_beq hc
    cases h1 : baseF b
    · rw [h1] at h; cases h
    rw [h1, cond_true] at h
    have hd := eq_of_beq h
    rcases base_rng h1 with hb | hb
    · exact .inr (.inl ⟨hb, hc, hd⟩)
    · exact .inl ⟨hb, hc, hd⟩
theorem cond_rng {d : Int} (h : condF d = true) : 0 ≤ d ∧ d < 16 := by
  unfold condF at h
  by_cases h0 : 0 ≤ d
  · by_cases h9 : d ≤ 9
    · omega
    · rw [decide_eq_true h0, decide_eq_false h9] at h
      by_cases h12 : 12 ≤ d
      · rw [decide_eq_true h12] at h
        have := of_decide_eq_true h
        omega
      · rw [decide_eq_false h12] at h; cases h
  · have h12 : ¬ 12 ≤ d := by omega
    rw [decide_eq_false h0, decide_eq_false h12] at h
    cases h
theorem ok_parts {x : RowT} {a b c d : Int} (h : okF x a b c d = true) :
    (uM x = true ∧ regF a (uA x) = true ∧ placeF b c d = true) ∨ (uM x = false ∧ regF a (uA x) = true ∧ regF b (uB x) = true ∧ c = 0 ∧ (d = 0 ∨ (condR x = true ∧ condF d = true))) := by
  unfold okF at h
  cases h0 : uM x
  · rw [h0, cond_false] at h
    cases h1 : regF a (uA x)
    · rw [h1] at h; cases h
    rw [h1, cond_true] at h
    cases h2 : regF b (uB x)
    · rw [h2] at h; cases h
    rw [h2, cond_true] at h
    cases h3 : (c == 0)
    · rw [h3] at h; cases h
    rw [h3, cond_true] at h
    refine .inr ⟨rfl, rfl, rfl, eq_of_beq h3, ?_⟩
    cases h4 : (d == 0)
    · rw [h4, cond_false] at h
      cases h5 : condR x
      · rw [h5] at h; cases h
      · rw [h5, cond_true] at h; exact .inr ⟨rfl, h⟩
    · exact .inl (eq_of_beq h4)
  · rw [h0, cond_true] at h
    cases h1 : regF a (uA x)
    · rw [h1] at h; cases h
    rw [h1, cond_true] at h
    exact .inl ⟨rfl, rfl, h⟩
end Go.Amd

namespace Go.Amd
open Go Go.Ab Go.Proofs
def OneB (c : Int) : Prop := (c == 15) = false ∧ (c == 100) = false ∧ (sh4 c == 4) = false
end Go.Amd

namespace Go.Amd
open Go Go.Ab Go.Proofs
def rI (x : RowT) (i : InsT) : Int := rF (formR x) x.2.2.2.2.1 i.2.1 i.2.2.1 i.2.2.2.1 i.2.2.2.2.1 i.2.2.2.2.2
end Go.Amd

namespace Go.Amd
open Go Go.Ab Go.Proofs
def oneB (c : Int) : Bool := (c == 15) == false && ((c == 100) == false && (sh4 c == 4) == false)
theorem oneB_of {c : Int} (h : oneB c = true) : OneB c := by
  unfold oneB at h
  obtain ⟨h1, h⟩ := Bool.and_eq_true_iff.1 h
  obtain ⟨h2, h3⟩ := Bool.and_eq_true_iff.1 h
  exact ⟨eq_of_beq h1, eq_of_beq h2, eq_of_beq h3⟩
def lastG (f : Int) (cn : Bool) (l a d : Int) (ft : Bool) : Int :=
  cond (f == 1) (w8 (l + w8 (andi a 7))) (cond (f == 2) (w8 (l + w8 (andi a 7))) (cond (f == 6) (cond ft l 129) (cond cn (w8 (l + w8 d)) l)))
def goodH (x : RowT) (c : Int) : Bool :=
  opensF x (hdF x.2.2.1 ++ [c]) && (decide (0 ≤ c) && (decide (c < 256) && cond (decide (255 < x.2.2.1)) (hdF x.2.2.1 == [15]) (hdF x.2.2.1 == [] && oneB c)))
def goodR (x : RowT) (a d : Int) (ft : Bool) : Bool := cond (condR x && !(condF d || d == 0)) true (goodH x (lastG (formR x) (condR x) (w8 x.2.2.1) a d ft))
theorem good_all : rowsL.all (fun x => bools.all fun ft => all2 16 16 fun a d => goodR x a d ft) = true := by kernel_rfl
def lastO (x : RowT) (i : InsT) : Int := lastF (formR x) (condR x) (w8 x.2.2.1) i.2.1 i.2.2.2.2.1 i.2.2.2.2.2
def headI (x : RowT) (i : InsT) : List Int := hdF x.2.2.1 ++ [lastO x i]
theorem head_good {x : RowT} (hx : x ∈ rowsL) {i : InsT} (h : okF x i.2.1 i.2.2.1 i.2.2.2.1 i.2.2.2.2.1 = true) : goodH x (lastO x i) = true := by
  have hm : ∀ b : Bool, b ∈ bools := by intro b; cases b <;> simp [bools]
  have key := List.all_eq_true.1 (List.all_eq_true.1 good_all x hx) (fitsF i.2.2.2.2.2) (hm _)
  have fin : ∀ (a0 : 0 ≤ i.2.1 ∧ i.2.1 < 16) (d0 : 0 ≤ i.2.2.2.2.1 ∧ i.2.2.2.2.1 < 16) (hc : (condR x && !(condF i.2.2.2.2.1 || i.2.2.2.2.1 == 0)) = false), goodH x (lastO x i) = true := by
    intro a0 d0 hc
    have := all2_of key a0.1 a0.2 d0.1 d0.2
    unfold goodR at this
    rw [hc] at this
    exact this
  have c9 : formR x = 9 → condR x = false := by
    intro he
    have hr : rowsL.all (fun x => !(formR x == 9 && condR x)) = true := by kernel_rfl
    have := List.all_eq_true.1 hr x hx
    rw [he] at this
    cases hc : condR x
    · rfl
    · rw [hc] at this; cases this
  rcases ok_parts h with ⟨h1, h2, h3⟩ | ⟨h1, h2, h3, h4, h5⟩
  · refine fin (reg_rng h2) ?_ ?_
    · rcases place_rng h3 with ⟨-, -, hd⟩ | ⟨-, -, hd⟩ | ⟨-, -, -, hd⟩ <;> omega
    · rw [c9 (eq_of_beq h1)]; rfl
  · rcases h5 with hd | ⟨hc, hd⟩
    · refine fin (reg_rng h2) (by omega) ?_
      rw [hd]
      cases condR x <;> rfl
    · refine fin (reg_rng h2) (cond_rng hd) ?_
      rw [hd]
      cases condR x <;> rfl
theorem head_ok {x : RowT} (hx : x ∈ rowsL) {i : InsT} (h : okF x i.2.1 i.2.2.1 i.2.2.2.1 i.2.2.2.2.1 = true) :
    opensF x (headI x i) = true ∧ ((headI x i = [lastO x i] ∧ OneB (lastO x i) ∧ IsB (lastO x i)) ∨ (headI x i = [15, lastO x i] ∧ IsB (lastO x i) ∧ 255 < x.2.2.1)) := by
  have hg := head_good hx h
  unfold goodH at hg
  obtain ⟨h1, hg⟩ := Bool.and_eq_true_iff.1 hg
  obtain ⟨h2, hg⟩ := Bool.and_eq_true_iff.1 hg
  obtain ⟨h3, hg⟩ := Bool.and_eq_true_iff.1 hg
  refine ⟨h1, ?_⟩
  unfold headI
  cases hb : decide (255 < x.2.2.1)
  · rw [hb, cond_false] at hg
    obtain ⟨h4, h5⟩ := Bool.and_eq_true_iff.1 hg
    rw [eq_of_beq h4]
    exact .inl ⟨rfl, oneB_of h5, of_decide_eq_true h2, of_decide_eq_true h3⟩
  · rw [hb, cond_true] at hg
    rw [eq_of_beq hg]
    exact .inr ⟨rfl, ⟨of_decide_eq_true h2, of_decide_eq_true h3⟩, of_decide_eq_true hb⟩
end Go.Amd

namespace Go.Amd
open Go Go.Ab Go.Proofs
def takH (x : RowT) (i : InsT) : Bool := !(x.2.1 == 0 && rI x i == 0)
def takF (x : RowT) : Bool := formR x == 10
def takN (x : RowT) (i : InsT) : Int := cond (takF x) 3 (cond (takH x i) 1 0 + cond (decide (255 < x.2.2.1)) 2 1)
theorem rows_rex : rowsL.all (fun x => (x.2.1 == 0 || (x.2.1 == 1 || x.2.1 == 2)) && (cond (x.2.1 == 1 || decide (x.2.2.1 ≤ 255)) true (x.2.1 == 0 && (formR x == 0 || (formR x == 11 || formR x == 12))) && cond (formR x == 10) (x.2.1 == 1 && decide (x.2.2.1 ≤ 255)) true)) = true := by kernel_rfl
theorem rex_of {x : RowT} (hx : x ∈ rowsL) : (x.2.1 = 0 ∨ x.2.1 = 1 ∨ x.2.1 = 2) ∧ (x.2.1 ≠ 1 → 255 < x.2.2.1 → x.2.1 = 0 ∧ (formR x = 0 ∨ formR x = 11 ∨ formR x = 12)) ∧ (formR x = 10 → x.2.1 = 1 ∧ x.2.2.1 ≤ 255) := by
  have := List.all_eq_true.1 rows_rex x hx
  obtain ⟨h1, h⟩ := Bool.and_eq_true_iff.1 this
  obtain ⟨h2, h3⟩ := Bool.and_eq_true_iff.1 h
  simp only [Bool.or_eq_true, beq_iff_eq] at h1
  refine ⟨h1, fun hn hl => ?_, fun he => ?_⟩
  · rw [beq_eq_false_iff_ne.2 hn, decide_eq_false (Int.not_le.2 hl)] at h2
    simpa using h2
  · rw [he] at h3
    obtain ⟨h4, h5⟩ := Bool.and_eq_true_iff.1 h3
    exact ⟨eq_of_beq h4, of_decide_eq_true h5⟩
end Go.Amd

namespace Go.Amd
open Go Go.Ab Go.Proofs
def tailI (x : RowT) (i : InsT) : List Int := tailB (formR x) x.2.2.2.2.1 i.2.1 i.2.2.1 i.2.2.2.1 i.2.2.2.2.1 i.2.2.2.2.2
theorem bytes_split (x : RowT) (i : InsT) : bytesF x i = fsF (formR x) ++ rexL x.2.1 (rI x i) ++ headI x i ++ tailI x i := rfl
end Go.Amd

namespace Go.Amd
open Go Go.Ab Go.Proofs
def frontI (x : RowT) (i : InsT) : List Int := fsF (formR x) ++ rexL x.2.1 (rI x i) ++ headI x i
theorem front_len {x : RowT} (hx : x ∈ rowsL) (i : InsT) : takN x i = ((frontI x i).length : Int) := by
  obtain ⟨q1, -, q3⟩ := rex_of hx
  have hh : ((headI x i).length : Int) = cond (decide (255 < x.2.2.1)) 2 1 := by
    unfold headI hdF
    cases decide (255 < x.2.2.1) <;> rfl
  unfold takN takF takH frontI
  rw [List.length_append, List.length_append, Int.natCast_add, Int.natCast_add, hh]
  by_cases h10 : formR x = 10
  · obtain ⟨h1, h2⟩ := q3 h10
    unfold fsF rexL
    rw [h10, h1, decide_eq_false (by omega)]
    rfl
  · have hn : (formR x == 10) = false := beq_eq_false_iff_ne.2 h10
    have hr : ((rexL x.2.1 (rI x i)).length : Int) = cond (!(x.2.1 == 0 && rI x i == 0)) 1 0 := by
      unfold rexL
      rcases q1 with hr | hr | hr
      · rw [hr]
        unfold bne
        cases (rI x i == 0) <;> rfl
      · rw [hr]; rfl
      · rw [hr]; rfl
    rw [hr]
    unfold fsF
    rw [hn]
    show _ = (0 : Int) + _ + _
    rw [Int.zero_add, cond_false]
end Go.Amd

namespace Go.Amd
open Go Go.Ab Go.Proofs
theorem fitsF_iff (n : Int) : fitsF n = true ↔ -128 ≤ n ∧ n < 128 := by
  unfold fitsF
  by_cases h0 : -128 ≤ n
  · by_cases h1 : n ≤ 127
    · rw [decide_eq_true h0, decide_eq_true h1]
      exact ⟨fun _ => by omega, fun _ => rfl⟩
    · rw [decide_eq_true h0, decide_eq_false h1]
      exact ⟨fun h => (by cases h), fun h => (by omega)⟩
  · rw [decide_eq_false h0]
    exact ⟨fun h => (by cases h), fun h => (by omega)⟩
end Go.Amd

namespace Go.Amd
open Go Go.Ab Go.Proofs
theorem ok_rng {x : RowT} {i : InsT} (h : okF x i.2.1 i.2.2.1 i.2.2.2.1 i.2.2.2.2.1 = true) : (0 ≤ i.2.1 ∧ i.2.1 < 16) ∧ (0 ≤ i.2.2.2.2.1 ∧ i.2.2.2.2.1 < 16) := by
  rcases ok_parts h with ⟨-, h2, h3⟩ | ⟨-, h2, -, -, h5⟩
  · refine ⟨reg_rng h2, ?_⟩
    rcases place_rng h3 with ⟨-, -, hd⟩ | ⟨-, -, hd⟩ | ⟨-, -, -, hd⟩ <;> omega
  · refine ⟨reg_rng h2, ?_⟩
    rcases h5 with hd | ⟨-, hd⟩
    · omega
    · exact cond_rng hd
theorem ok_zero {x : RowT} {i : InsT} (h : okF x i.2.1 i.2.2.1 i.2.2.2.1 i.2.2.2.2.1 = true) (h9 : uM x = false) : (uA x = false → i.2.1 = 0) ∧ (uB x = false → i.2.2.1 = 0) ∧ i.2.2.2.1 = 0 ∧ (0 ≤ i.2.2.1 ∧ i.2.2.1 < 16) := by
  rcases ok_parts h with ⟨h1, -⟩ | ⟨-, h2, h3, h4, -⟩
  · rw [h9] at h1; cases h1
  · refine ⟨fun hu => ?_, fun hu => ?_, h4, reg_rng h3⟩
    · rw [hu] at h2; exact reg_zero h2
    · rw [hu] at h3; exact reg_zero h3
end Go.Amd

namespace Go.Amd
open Go Go.Ab Go.Proofs
def immS (n : Int) : List Int := cond (fitsF n) (im1 n) (im4 n)
end Go.Amd

namespace Go.Amd
open Go Go.Ab Go.Proofs
theorem small_all : all1 16 (fun b => andi b 7 == b % 8 && (and8 b 3 == b % 4 && and8 b 2 == 2 * (b / 2 % 2))) = true := by kernel_rfl
theorem andi7 {b : Int} (b0 : 0 ≤ b) (b1 : b < 16) : andi b 7 = b % 8 := by
  have := all1_of small_all b0 b1
  simp only [Bool.and_eq_true, beq_iff_eq] at this
  exact this.1
def ModeOk (b n mod : Int) (imm : List Int) : Prop :=
  (mod = 0 ∧ imm = [] ∧ n = 0 ∧ b % 8 ≠ 5) ∨ (mod = 1 ∧ imm = im1 n ∧ (-128 ≤ n ∧ n < 128) ∧ (n = 0 → b % 8 = 5)) ∨ (mod = 2 ∧ imm = im4 n ∧ fitsF n = false)
theorem memP_mode {a b c d n : Int} (b0 : 0 ≤ b) (b1 : b < 16) : ∃ mod imm, ModeOk b n mod imm ∧ memP a b c d n = modP mod a b c d imm := by
  have hb : (b == 17) = false := beq_eq_false_iff_ne.2 (by omega)
  unfold memP
  rw [hb, cond_false, andi7 b0 b1]
  by_cases h0 : n = 0 ∧ b % 8 ≠ 5
  · have e1 : (n == 0) = true := by rw [h0.1]; rfl
    have e2 : (b % 8 != 5) = true := by simpa using h0.2
    rw [e1, e2]
    exact ⟨0, [], .inl ⟨rfl, rfl, h0.1, h0.2⟩, rfl⟩
  · have e : cond (n == 0) (b % 8 != 5) false = false := by
      cases hn : (n == 0)
      · rfl
      · rw [cond_true]
        have hn := eq_of_beq hn
        simp only [not_and, ne_eq, Decidable.not_not] at h0
        simp [h0 hn]
    rw [e, cond_false]
    cases hq : fitsF n
    · exact ⟨2, im4 n, .inr (.inr ⟨rfl, rfl, hq⟩), rfl⟩
    · refine ⟨1, im1 n, .inr (.inl ⟨rfl, rfl, (fitsF_iff n).1 hq, fun hz => ?_⟩), rfl⟩
      by_cases hb5 : b % 8 = 5
      · exact hb5
      · exact absurd ⟨hz, hb5⟩ h0
end Go.Amd

namespace Go.Amd
open Go Go.Ab Go.Proofs
section
variable {x : RowT} {i : InsT}
theorem tail_e {f : Int} (hf : formR x = f) : tailI x i = tailB f x.2.2.2.2.1 i.2.1 i.2.2.1 i.2.2.2.1 i.2.2.2.2.1 i.2.2.2.2.2 := by unfold tailI; rw [hf]
theorem tail_0 (hf : formR x = 0) : tailI x i = [] := by rw [tail_e hf]; rfl
theorem tail_1 (hf : formR x = 1) : tailI x i = [] := by rw [tail_e hf]; rfl
theorem tail_2 (hf : formR x = 2) : tailI x i = im8 i.2.2.2.2.2 := by rw [tail_e hf]; rfl
theorem tail_3 (hf : formR x = 3) : tailI x i = [mrB 3 (wi x.2.2.2.2.1) i.2.1] := by rw [tail_e hf]; rfl
theorem tail_4 (hf : formR x = 4) : tailI x i = mrB 3 (wi x.2.2.2.2.1) i.2.1 :: im4 i.2.2.2.2.2 := by rw [tail_e hf]; rfl
theorem tail_5 (hf : formR x = 5) : tailI x i = mrB 3 (wi x.2.2.2.2.1) i.2.1 :: im1 i.2.2.2.2.2 := by rw [tail_e hf]; rfl
theorem tail_6 (hf : formR x = 6) : tailI x i = mrB 3 (wi x.2.2.2.2.1) i.2.1 :: immS i.2.2.2.2.2 := by rw [tail_e hf]; rfl
theorem tail_7 (hf : formR x = 7) : tailI x i = [mrB 3 i.2.2.1 i.2.1] := by rw [tail_e hf]; rfl
theorem tail_8 (hf : formR x = 8) : tailI x i = [mrB 3 i.2.1 i.2.2.1] := by rw [tail_e hf]; rfl
theorem tail_9 (hf : formR x = 9) : tailI x i = (memP i.2.1 i.2.2.1 i.2.2.2.1 i.2.2.2.2.1 i.2.2.2.2.2).2 := by rw [tail_e hf]; rfl
theorem tail_10 (hf : formR x = 10) : tailI x i = mrB 0 i.2.1 4 :: 37 :: im4 i.2.2.2.2.2 := by rw [tail_e hf]; rfl
theorem tail_11 (hf : formR x = 11) : tailI x i = im4 i.2.2.2.2.2 := by rw [tail_e hf]; rfl
theorem tail_12 (hf : formR x = 12) : tailI x i = im1 i.2.2.2.2.2 := by rw [tail_e hf]; rfl
end
theorem enc_split (i : InsT) : encL i = frontI (frow i.1) i ++ tailI (frow i.1) i := bytes_split _ _
theorem enc_row {i : InsT} (he : encE i = 0) : frow i.1 ∈ rowsL ∧ (frow i.1).1 = i.1 ∧ faultyF (frow i.1) i = 0 := by
  unfold encE at he
  cases hk : fok i.1
  · rw [hk] at he; cases he
  · rw [hk, cond_true] at he
    unfold fok at hk
    cases hfd : findL i.1 rowsL with
    | none => rw [hfd] at hk; cases hk
    | some r =>
      have e : frow i.1 = r := by unfold frow; rw [hfd]; rfl
      rw [e] at he ⊢
      refine ⟨List.mem_of_find?_eq_some hfd, ?_, he⟩
      have := List.find?_some hfd
      simpa using this
end Go.Amd
