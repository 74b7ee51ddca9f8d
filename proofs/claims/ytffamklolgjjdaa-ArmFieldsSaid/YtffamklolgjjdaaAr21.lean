/-
  ArmFields: its call answers true. Conditions: none.
-/
import Derived.Test.YtffamklolgjjdaaAr18
namespace Go.Arm
open Go Go.Ab Go.Proofs Go.Wd

/-- The context of foundry/foundrylaw11.ArmFields. -/
noncomputable def cx7 : Cx := { P := Try.prog, n := 94, tab := [(9, begunS), (10, encodeS), (20, operandsS), (22, numS)], mtab := [], refs := [], keeps := [0, 1, 2, 3, 6, 7, 8, 9, 10, 11, 12, 13, 14, 15, 16, 17, 19, 33, 46, 55, 62, 63, 67, 92] }
noncomputable abbrev B7 : Code := bodyOf Try.f7
abbrev insO7 (nm : List UInt8) (a b c d n : Int) : O := .cells [.str nm, .int .i64 a, .int .i64 b, .int .i64 c, .int .i64 d, .int .i64 n] 29
def fieldsPre (nm : List UInt8) (a b c d n x y : Int) : Tree St :=
  (.br (decide (x < 0)) (.leaf (.ret, [(0, (.agg [(.str nm), (.int .i64 a), (.int .i64 b), (.int .i64 c), (.int .i64 d), (.int .i64 n)])), (1, (.int .i64 x)), (2, (.int .i64 y)), (3, (.ptr 0 0)), (6, (.bool true)), (19, (.bool false)), (33, (.bool true))], [(.cells [(.str nm), (.int .i64 a), (.int .i64 b), (.int .i64 c), (.int .i64 d), (.int .i64 n)] 29)])) (.br (decide (y < 0)) (.leaf (.ret, [(0, (.agg [(.str nm), (.int .i64 a), (.int .i64 b), (.int .i64 c), (.int .i64 d), (.int .i64 n)])), (1, (.int .i64 x)), (2, (.int .i64 y)), (3, (.ptr 0 0)), (6, (.bool true)), (19, (.bool false)), (33, (.bool true))], [(.cells [(.str nm), (.int .i64 a), (.int .i64 b), (.int .i64 c), (.int .i64 d), (.int .i64 n)] 29)])) (.br (decide (31 < x)) (.leaf (.ret, [(0, (.agg [(.str nm), (.int .i64 a), (.int .i64 b), (.int .i64 c), (.int .i64 d), (.int .i64 n)])), (1, (.int .i64 x)), (2, (.int .i64 y)), (3, (.ptr 0 0)), (6, (.bool true)), (19, (.bool false)), (33, (.bool true))], [(.cells [(.str nm), (.int .i64 a), (.int .i64 b), (.int .i64 c), (.int .i64 d), (.int .i64 n)] 29)])) (.br (decide (31 < y)) (.leaf (.ret, [(0, (.agg [(.str nm), (.int .i64 a), (.int .i64 b), (.int .i64 c), (.int .i64 d), (.int .i64 n)])), (1, (.int .i64 x)), (2, (.int .i64 y)), (3, (.ptr 0 0)), (6, (.bool true)), (19, (.bool false)), (33, (.bool true))], [(.cells [(.str nm), (.int .i64 a), (.int .i64 b), (.int .i64 c), (.int .i64 d), (.int .i64 n)] 29)])) (.br (encE (nm, a, b, c, d, n) == 0) (.leaf (.normal, [(0, (.agg [(.str nm), (.int .i64 a), (.int .i64 b), (.int .i64 c), (.int .i64 d), (.int .i64 n)])), (1, (.int .i64 x)), (2, (.int .i64 y)), (3, (.ptr 0 0)), (6, (.bool false)), (7, (.sl (.int .u8) ((bytes4 (encW (nm, a, b, c, d, n)))) ([]) Fl.full)), (8, (.int .i64 0)), (9, (.str (opsOf nm))), (10, (.bool (fok nm))), (19, (.bool false)), (33, (.bool false)), (46, (.bool false))], [(.cells [(.str nm), (.int .i64 a), (.int .i64 b), (.int .i64 c), (.int .i64 d), (.int .i64 n)] 29)])) (.br (encE (nm, a, b, c, d, n) != 0) (.leaf (.ret, [(0, (.agg [(.str nm), (.int .i64 a), (.int .i64 b), (.int .i64 c), (.int .i64 d), (.int .i64 n)])), (1, (.int .i64 x)), (2, (.int .i64 y)), (3, (.ptr 0 0)), (6, (.bool true)), (7, (.val (Go.Value.slice Option.none 0 0))), (8, (.int .i64 (encE (nm, a, b, c, d, n)))), (9, (.str (opsOf nm))), (10, (.bool (fok nm))), (19, (.bool false)), (33, (.bool false)), (46, (.bool true))], [(.cells [(.str nm), (.int .i64 a), (.int .i64 b), (.int .i64 c), (.int .i64 d), (.int .i64 n)] 29)])) (.leaf (.normal, [(0, (.agg [(.str nm), (.int .i64 a), (.int .i64 b), (.int .i64 c), (.int .i64 d), (.int .i64 n)])), (1, (.int .i64 x)), (2, (.int .i64 y)), (3, (.ptr 0 0)), (6, (.bool false)), (7, (.val (Go.Value.slice Option.none 0 0))), (8, (.int .i64 (encE (nm, a, b, c, d, n)))), (9, (.str (opsOf nm))), (10, (.bool (fok nm))), (19, (.bool false)), (33, (.bool false)), (46, (.bool false))], [(.cells [(.str nm), (.int .i64 a), (.int .i64 b), (.int .i64 c), (.int .i64 d), (.int .i64 n)] 29)]))))))))

theorem fieldsPre_eq (nm : List UInt8) (a b c d n x y : Int) : (dcode cx7 (headN 5 B7) (initT 0 [.agg [.str nm, .int .i64 a, .int .i64 b, .int .i64 c, .int .i64 d, .int .i64 n], .int .i64 x, .int .i64 y]) []).run = (fieldsPre nm a b c d n x y).run :=
  (show (dcode cx7 (headN 5 B7) (initT 0 [.agg [.str nm, .int .i64 a, .int .i64 b, .int .i64 c, .int .i64 d, .int .i64 n], .int .i64 x, .int .i64 y]) []).run = (fieldsPre nm a b c d n x y).out by kernel_rfl).trans (Tree.out_run _)

def fieldsRound (nm s : List UInt8) (ok : Bool) (a b c d n x y m k : Int) : Tree St :=
  (.br (decide (k < ↑(List.length s))) (.br (inside k (List.length s)) (.br (tI ↑(UInt8.toNat (List.getD s (Int.toNat k) 0)) == 65) (.br (encE (nm, x, b, c, d, n) == 0) (.br (numL (bytes4 (encW (nm, x, b, c, d, n))) != IntKind.wrap IntKind.u64 ↑(BitVec.toNat (BitVec.ofInt 64 (IntKind.wrap IntKind.u64 ↑(BitVec.toNat (BitVec.ofInt 64 m &&& ~~~BitVec.ofInt 64 (IntKind.wrap IntKind.u64 (31 * 2 ^ 0))))) ||| BitVec.ofInt 64 (IntKind.wrap IntKind.u64 (IntKind.wrap IntKind.u64 x * 2 ^ 0))))) (.leaf (.ret, [(1, (.int .i64 x)), (2, (.int .i64 y)), (3, (.ptr 0 0)), (6, (.bool false)), (9, (.str s)), (10, (.bool ok)), (11, (.int .u64 m)), (12, (.int .i64 k)), (13, (.ptr 1 0)), (14, (.int .u64 0)), (15, (.int .i64 x)), (16, (.sl (.int .u8) ((bytes4 (encW (nm, x, b, c, d, n)))) ([]) Fl.full)), (17, (.int .i64 0)), (55, (.bool true)), (62, (.int .u8 (↑(UInt8.toNat (List.getD s (Int.toNat k) 0))))), (63, (.bool true)), (92, (.bool true))], [(.cells [(.str nm), (.int .i64 a), (.int .i64 b), (.int .i64 c), (.int .i64 d), (.int .i64 n)] 29), (.cells [(.str nm), (.int .i64 x), (.int .i64 b), (.int .i64 c), (.int .i64 d), (.int .i64 n)] 29)])) (.leaf (.normal, [(1, (.int .i64 x)), (2, (.int .i64 y)), (3, (.ptr 0 0)), (9, (.str s)), (10, (.bool ok)), (11, (.int .u64 m)), (12, (.int .i64 (IntKind.wrap IntKind.i64 (k + 1)))), (13, (.ptr 1 0)), (14, (.int .u64 0)), (15, (.int .i64 x)), (16, (.sl (.int .u8) ((bytes4 (encW (nm, x, b, c, d, n)))) ([]) Fl.full)), (17, (.int .i64 0)), (55, (.bool true)), (62, (.int .u8 (↑(UInt8.toNat (List.getD s (Int.toNat k) 0))))), (63, (.bool true)), (92, (.bool false))], [(.cells [(.str nm), (.int .i64 a), (.int .i64 b), (.int .i64 c), (.int .i64 d), (.int .i64 n)] 29), (.cells [(.str nm), (.int .i64 x), (.int .i64 b), (.int .i64 c), (.int .i64 d), (.int .i64 n)] 29)]))) (.br (encE (nm, x, b, c, d, n) != 0) (.leaf (.ret, [(1, (.int .i64 x)), (2, (.int .i64 y)), (3, (.ptr 0 0)), (6, (.bool false)), (9, (.str s)), (10, (.bool ok)), (11, (.int .u64 m)), (12, (.int .i64 k)), (13, (.ptr 1 0)), (14, (.int .u64 0)), (15, (.int .i64 x)), (16, (.val (Go.Value.slice Option.none 0 0))), (17, (.int .i64 (encE (nm, x, b, c, d, n)))), (55, (.bool true)), (62, (.int .u8 (↑(UInt8.toNat (List.getD s (Int.toNat k) 0))))), (63, (.bool true)), (92, (.bool true))], [(.cells [(.str nm), (.int .i64 a), (.int .i64 b), (.int .i64 c), (.int .i64 d), (.int .i64 n)] 29), (.cells [(.str nm), (.int .i64 x), (.int .i64 b), (.int .i64 c), (.int .i64 d), (.int .i64 n)] 29)])) .fail)) (.br (tI ↑(UInt8.toNat (List.getD s (Int.toNat k) 0)) == 66) (.br (encE (nm, a, y, c, d, n) == 0) (.br (numL (bytes4 (encW (nm, a, y, c, d, n))) != IntKind.wrap IntKind.u64 ↑(BitVec.toNat (BitVec.ofInt 64 (IntKind.wrap IntKind.u64 ↑(BitVec.toNat (BitVec.ofInt 64 m &&& ~~~BitVec.ofInt 64 (IntKind.wrap IntKind.u64 (31 * 2 ^ 5))))) ||| BitVec.ofInt 64 (IntKind.wrap IntKind.u64 (IntKind.wrap IntKind.u64 y * 2 ^ 5))))) (.leaf (.ret, [(1, (.int .i64 x)), (2, (.int .i64 y)), (3, (.ptr 0 0)), (6, (.bool false)), (9, (.str s)), (10, (.bool ok)), (11, (.int .u64 m)), (12, (.int .i64 k)), (13, (.ptr 1 0)), (14, (.int .u64 5)), (15, (.int .i64 y)), (16, (.sl (.int .u8) ((bytes4 (encW (nm, a, y, c, d, n)))) ([]) Fl.full)), (17, (.int .i64 0)), (55, (.bool true)), (62, (.int .u8 (↑(UInt8.toNat (List.getD s (Int.toNat k) 0))))), (63, (.bool false)), (67, (.bool true)), (92, (.bool true))], [(.cells [(.str nm), (.int .i64 a), (.int .i64 b), (.int .i64 c), (.int .i64 d), (.int .i64 n)] 29), (.cells [(.str nm), (.int .i64 a), (.int .i64 y), (.int .i64 c), (.int .i64 d), (.int .i64 n)] 29)])) (.leaf (.normal, [(1, (.int .i64 x)), (2, (.int .i64 y)), (3, (.ptr 0 0)), (9, (.str s)), (10, (.bool ok)), (11, (.int .u64 m)), (12, (.int .i64 (IntKind.wrap IntKind.i64 (k + 1)))), (13, (.ptr 1 0)), (14, (.int .u64 5)), (15, (.int .i64 y)), (16, (.sl (.int .u8) ((bytes4 (encW (nm, a, y, c, d, n)))) ([]) Fl.full)), (17, (.int .i64 0)), (55, (.bool true)), (62, (.int .u8 (↑(UInt8.toNat (List.getD s (Int.toNat k) 0))))), (63, (.bool false)), (67, (.bool true)), (92, (.bool false))], [(.cells [(.str nm), (.int .i64 a), (.int .i64 b), (.int .i64 c), (.int .i64 d), (.int .i64 n)] 29), (.cells [(.str nm), (.int .i64 a), (.int .i64 y), (.int .i64 c), (.int .i64 d), (.int .i64 n)] 29)]))) (.br (encE (nm, a, y, c, d, n) != 0) (.leaf (.ret, [(1, (.int .i64 x)), (2, (.int .i64 y)), (3, (.ptr 0 0)), (6, (.bool false)), (9, (.str s)), (10, (.bool ok)), (11, (.int .u64 m)), (12, (.int .i64 k)), (13, (.ptr 1 0)), (14, (.int .u64 5)), (15, (.int .i64 y)), (16, (.val (Go.Value.slice Option.none 0 0))), (17, (.int .i64 (encE (nm, a, y, c, d, n)))), (55, (.bool true)), (62, (.int .u8 (↑(UInt8.toNat (List.getD s (Int.toNat k) 0))))), (63, (.bool false)), (67, (.bool true)), (92, (.bool true))], [(.cells [(.str nm), (.int .i64 a), (.int .i64 b), (.int .i64 c), (.int .i64 d), (.int .i64 n)] 29), (.cells [(.str nm), (.int .i64 a), (.int .i64 y), (.int .i64 c), (.int .i64 d), (.int .i64 n)] 29)])) .fail)) (.leaf (.normal, [(1, (.int .i64 x)), (2, (.int .i64 y)), (3, (.ptr 0 0)), (9, (.str s)), (10, (.bool ok)), (11, (.int .u64 m)), (12, (.int .i64 (IntKind.wrap IntKind.i64 (k + 1)))), (13, (.ptr 1 0)), (14, (.int .u64 0)), (15, (.int .i64 x)), (55, (.bool true)), (62, (.int .u8 (↑(UInt8.toNat (List.getD s (Int.toNat k) 0))))), (63, (.bool false)), (67, (.bool false))], [(.cells [(.str nm), (.int .i64 a), (.int .i64 b), (.int .i64 c), (.int .i64 d), (.int .i64 n)] 29), (.cells [(.str nm), (.int .i64 a), (.int .i64 b), (.int .i64 c), (.int .i64 d), (.int .i64 n)] 29)])))) .fail) (.leaf ((.exit 0), [(1, (.int .i64 x)), (2, (.int .i64 y)), (3, (.ptr 0 0)), (9, (.str s)), (10, (.bool ok)), (11, (.int .u64 m)), (12, (.int .i64 k)), (55, (.bool false))], [(.cells [(.str nm), (.int .i64 a), (.int .i64 b), (.int .i64 c), (.int .i64 d), (.int .i64 n)] 29)])))

theorem fieldsRound_eq (nm s : List UInt8) (ok : Bool) (a b c d n x y m k : Int) : (dcode cx7 (cin (cin (c2 (c1 (tailN 6 B7))))) [(1, .int .i64 x), (2, .int .i64 y), (3, .ptr 0 0), (9, .str s), (10, .bool ok), (11, .int .u64 m), (12, .int .i64 k)] [insO7 nm a b c d n]).run = (fieldsRound nm s ok a b c d n x y m k).run :=
  (show (dcode cx7 (cin (cin (c2 (c1 (tailN 6 B7))))) [(1, .int .i64 x), (2, .int .i64 y), (3, .ptr 0 0), (9, .str s), (10, .bool ok), (11, .int .u64 m), (12, .int .i64 k)] [insO7 nm a b c d n]).run = (fieldsRound nm s ok a b c d n x y m k).out by kernel_rfl).trans (Tree.out_run _)

def fieldsEnd (nm : List UInt8) (ok : Bool) (a b c d n : Int) : Tree St :=
  (.leaf (.ret, [(6, (.bool ok)), (10, (.bool ok))], [(.cells [(.str nm), (.int .i64 a), (.int .i64 b), (.int .i64 c), (.int .i64 d), (.int .i64 n)] 29)]))

theorem fieldsEnd_eq (nm : List UInt8) (ok : Bool) (a b c d n : Int) : (dcode cx7 (tailN 7 B7) [(10, .bool ok)] [insO7 nm a b c d n]).run = (fieldsEnd nm ok a b c d n).run :=
  (show (dcode cx7 (tailN 7 B7) [(10, .bool ok)] [insO7 nm a b c d n]).run = (fieldsEnd nm ok a b c d n).out by kernel_rfl).trans (Tree.out_run _)


theorem cxF_ok : CxOk cx7 := cx1_ok (.cons begunS_ok (.cons encodeS_ok (.cons operandsS_ok (ok1 numS_ok)))) (.nil _) rfl rfl

/-! What the rows have where they name A, B. -/

def regAt (k : Int) : NumT := (k, 5, 1, 1, 0, 31)
def rowOps (r : RowT) : Bool := Nat.ble r.2.2.2.2.2.2.2.length 4 && r.2.2.2.2.2.2.2.all fun L => (!(((UInt8.toNat L : Nat) : Int) == 65) || decide (r.2.2.1 = regAt 0)) && (!(((UInt8.toNat L : Nat) : Int) == 66) || decide (r.2.2.2.1 = regAt 5))
theorem rows_ops : rowsL.all rowOps = true := by kernel_rfl

theorem reg_put {k : Nat} {x : Int} (x0 : 0 ≤ x) (x1 : x < 32) : putN (regAt (k : Int)) x = x.toNat <<< k := by
  show p1 (regAt (k : Int)) x <<< (k : Int).toNat = _
  have : p1 (regAt (k : Int)) x = x.toNat := by
    show (Int.tdiv x 1 % ((2 ^ 5 : Nat) : Int)).toNat = _
    rw [Int.tdiv_one]
    show (x % 32).toNat = _
    omega
  rw [this, Int.toNat_natCast]

theorem small_reg (k : Int) {x : Int} (h0 : 0 ≤ x) (h1 : x < 32) : smallF (regAt k) x = true := by
  unfold smallF
  rw [show IntKind.wrap .i64 (regAt k).2.2.2.2.1 = 0 from by show IntKind.wrap .i64 0 = 0; decide, show IntKind.wrap .i64 (regAt k).2.2.2.2.2 = 31 from by show IntKind.wrap .i64 31 = 31; decide]
  rw [decide_eq_true h0, decide_eq_true (show x ≤ 31 by omega)]
  rfl
theorem small_lt (k : Int) {x : Int} (h : smallF (regAt k) x = true) : 0 ≤ x ∧ x < 32 := by
  obtain ⟨h1, h2⟩ := small_rng h
  rw [show IntKind.wrap .i64 (regAt k).2.2.2.2.1 = 0 from by show IntKind.wrap .i64 0 = 0; decide] at h1
  rw [show IntKind.wrap .i64 (regAt k).2.2.2.2.2 = 31 from by show IntKind.wrap .i64 31 = 31; decide] at h2
  omega

theorem off_of {R k : Nat} (h : R &&& (31 <<< k) = 0) : ∀ j, k ≤ j → j < k + 5 → R.testBit j = false := by
  intro j g1 g2
  have := congrArg (fun n => Nat.testBit n j) h
  simp only [Nat.testBit_and, Nat.zero_testBit, Nat.testBit_shiftLeft, testBit_31] at this
  have hj : j - k < 5 := by omega
  simpa [g1, hj] using this

section
variable {nm : List UInt8} {a b c d n x : Int} (h : (encE (nm, a, b, c, d, n) == 0) = true)
include h

theorem fields_A (hu : (frow nm).2.2.1 = regAt 0) (x0 : 0 ≤ x) (x1 : x < 32) : (encE (nm, x, b, c, d, n) == 0) = true ∧ (numL (bytes4 (encW (nm, x, b, c, d, n))) != updF (numL (bytes4 (encW (nm, a, b, c, d, n)))) x 0) = false := by
  obtain ⟨hf, hz⟩ := enc_ok h
  obtain ⟨hm, _⟩ := frow_mem hf
  obtain ⟨q1, q2, q3, q4, q5, q6⟩ := faulty_parts hz
  simp only at hf hz hm q1 q2 q3 q4 q5 q6
  have h' : (encE (nm, x, b, c, d, n) == 0) = true := by
    unfold encE
    simp only
    rw [hf, cond_true, faulty_mk (r := frow nm) (i := (nm, x, b, c, d, n)) (by rw [hu]; exact small_reg 0 x0 x1) q2 q3 q4 q5 q6]
    rfl
  refine ⟨h', ?_⟩
  obtain ⟨r0, r1⟩ := encW_rng h
  obtain ⟨s0, s1⟩ := encW_rng h'
  rw [numL_bytes4 r0 r1, numL_bytes4 s0 s1]
  have G := row_good hm
  rw [hu] at q1
  obtain ⟨a0, a1⟩ := small_lt 0 q1
  obtain ⟨e1, l1⟩ := bits_nat G (nm, a, b, c, d, n)
  obtain ⟨e2, l2⟩ := bits_nat G (nm, x, b, c, d, n)
  obtain ⟨_, i2, _⟩ := put_nat (reg_num G.fb) b
  obtain ⟨_, i3, _⟩ := put_nat (reg_num G.fc) c
  obtain ⟨_, i4, _⟩ := put_nat (reg_num G.fd) d
  obtain ⟨_, i5, _⟩ := put_nat G.fi n
  have hA : rowA (frow nm) = 31 <<< 0 := by unfold rowA; rw [hu]; rfl
  have wa := G.wa
  have o2 := i2.disj (z2_sym G.ab)
  have o3 := i3.disj (z2_sym G.ac)
  have o4 := i4.disj (z2_sym G.ad)
  have o5 := i5.disj (z2_sym G.ai)
  rw [hA] at wa o2 o3 o4 o5
  have pa : putN (frow nm).2.2.1 a = a.toNat <<< 0 := by rw [hu]; exact reg_put (k := 0) a0 a1
  have px : putN (frow nm).2.2.1 x = x.toNat <<< 0 := by rw [hu]; exact reg_put (k := 0) x0 x1
  have key : ∀ z : Int, bitsN (frow nm) (nm, z, b, c, d, n) = ((((frow nm).2.1.toNat ||| putN (frow nm).2.2.2.1 b) ||| putN (frow nm).2.2.2.2.1 c) ||| putN (frow nm).2.2.2.2.2.1 d ||| putN (frow nm).2.2.2.2.2.2.1 n) ||| putN (frow nm).2.2.1 z := by
    intro z
    unfold bitsN
    simp only
    ac_rfl
  have hR := key a
  have hX := key x
  rw [pa] at hR
  rw [px] at hX
  have zero : (((((frow nm).2.1.toNat ||| putN (frow nm).2.2.2.1 b) ||| putN (frow nm).2.2.2.2.1 c) ||| putN (frow nm).2.2.2.2.2.1 d) ||| putN (frow nm).2.2.2.2.2.2.1 n) &&& (31 <<< 0) = 0 :=
    and_or_zeros (and_or_zeros (and_or_zeros (and_or_zeros wa o2) o3) o4) o5
  generalize (((((frow nm).2.1.toNat ||| putN (frow nm).2.2.2.1 b) ||| putN (frow nm).2.2.2.2.1 c) ||| putN (frow nm).2.2.2.2.2.1 d) ||| putN (frow nm).2.2.2.2.2.2.1 n) = R at hR hX zero
  have eW : encW (nm, a, b, c, d, n) = ((R ||| a.toNat <<< 0 : Nat) : Int) := by unfold encW; rw [e1, hR]
  have eX : encW (nm, x, b, c, d, n) = ((R ||| x.toNat <<< 0 : Nat) : Int) := by unfold encW; rw [e2, hX]
  rw [eW, eX]
  have lR : R < 2 ^ 32 := Nat.lt_of_le_of_lt Nat.left_le_or (hR ▸ l1)
  rw [upd_field lR (off_of zero) (by omega) x0 x1 (by omega), bne_self_eq_false]

theorem fields_B (hu : (frow nm).2.2.2.1 = regAt 5) (x0 : 0 ≤ x) (x1 : x < 32) : (encE (nm, a, x, c, d, n) == 0) = true ∧ (numL (bytes4 (encW (nm, a, x, c, d, n))) != updF (numL (bytes4 (encW (nm, a, b, c, d, n)))) x 5) = false := by
  obtain ⟨hf, hz⟩ := enc_ok h
  obtain ⟨hm, _⟩ := frow_mem hf
  obtain ⟨q1, q2, q3, q4, q5, q6⟩ := faulty_parts hz
  simp only at hf hz hm q1 q2 q3 q4 q5 q6
  have h' : (encE (nm, a, x, c, d, n) == 0) = true := by
    unfold encE
    simp only
    rw [hf, cond_true, faulty_mk (r := frow nm) (i := (nm, a, x, c, d, n)) q1 (by rw [hu]; exact small_reg 5 x0 x1) q3 q4 q5 q6]
    rfl
  refine ⟨h', ?_⟩
  obtain ⟨r0, r1⟩ := encW_rng h
  obtain ⟨s0, s1⟩ := encW_rng h'
  rw [numL_bytes4 r0 r1, numL_bytes4 s0 s1]
  have G := row_good hm
  rw [hu] at q2
  obtain ⟨b0, b1⟩ := small_lt 5 q2
  obtain ⟨e1, l1⟩ := bits_nat G (nm, a, b, c, d, n)
  obtain ⟨e2, l2⟩ := bits_nat G (nm, a, x, c, d, n)
  obtain ⟨_, i1, _⟩ := put_nat (reg_num G.fa) a
  obtain ⟨_, i3, _⟩ := put_nat (reg_num G.fc) c
  obtain ⟨_, i4, _⟩ := put_nat (reg_num G.fd) d
  obtain ⟨_, i5, _⟩ := put_nat G.fi n
  have hB : rowB (frow nm) = 31 <<< 5 := by unfold rowB; rw [hu]; rfl
  have wb := G.wb
  have o1 := i1.disj (z2_eq G.ab)
  have o3 := i3.disj (z2_sym G.bc)
  have o4 := i4.disj (z2_sym G.bd)
  have o5 := i5.disj (z2_sym G.bi)
  have o1 : putN (frow nm).2.2.1 a &&& rowB (frow nm) = 0 := o1
  rw [hB] at wb o1 o3 o4 o5
  have pb : putN (frow nm).2.2.2.1 b = b.toNat <<< 5 := by rw [hu]; exact reg_put (k := 5) b0 b1
  have px : putN (frow nm).2.2.2.1 x = x.toNat <<< 5 := by rw [hu]; exact reg_put (k := 5) x0 x1
  have key : ∀ z : Int, bitsN (frow nm) (nm, a, z, c, d, n) = ((((frow nm).2.1.toNat ||| putN (frow nm).2.2.1 a) ||| putN (frow nm).2.2.2.2.1 c) ||| putN (frow nm).2.2.2.2.2.1 d ||| putN (frow nm).2.2.2.2.2.2.1 n) ||| putN (frow nm).2.2.2.1 z := by
    intro z
    unfold bitsN
    simp only
    ac_rfl
  have hR := key b
  have hX := key x
  rw [pb] at hR
  rw [px] at hX
  have zero : (((((frow nm).2.1.toNat ||| putN (frow nm).2.2.1 a) ||| putN (frow nm).2.2.2.2.1 c) ||| putN (frow nm).2.2.2.2.2.1 d) ||| putN (frow nm).2.2.2.2.2.2.1 n) &&& (31 <<< 5) = 0 :=
    and_or_zeros (and_or_zeros (and_or_zeros (and_or_zeros wb o1) o3) o4) o5
  generalize (((((frow nm).2.1.toNat ||| putN (frow nm).2.2.1 a) ||| putN (frow nm).2.2.2.2.1 c) ||| putN (frow nm).2.2.2.2.2.1 d) ||| putN (frow nm).2.2.2.2.2.2.1 n) = R at hR hX zero
  have eW : encW (nm, a, b, c, d, n) = ((R ||| b.toNat <<< 5 : Nat) : Int) := by unfold encW; rw [e1, hR]
  have eX : encW (nm, a, x, c, d, n) = ((R ||| x.toNat <<< 5 : Nat) : Int) := by unfold encW; rw [e2, hX]
  rw [eW, eX]
  have lR : R < 2 ^ 32 := Nat.lt_of_le_of_lt Nat.left_le_or (hR ▸ l1)
  rw [upd_field lR (off_of zero) (by omega) x0 x1 (by omega), bne_self_eq_false]

theorem letter_uses (k : Nat) (hk : k < (opsOf nm).length) : ((((UInt8.toNat ((opsOf nm).getD k 0) : Nat) : Int) == 65) = true → (frow nm).2.2.1 = regAt 0) ∧ ((((UInt8.toNat ((opsOf nm).getD k 0) : Nat) : Int) == 66) = true → (frow nm).2.2.2.1 = regAt 5) := by
  obtain ⟨hf, _⟩ := enc_ok h
  obtain ⟨hm, _⟩ := frow_mem hf
  have ho := List.all_eq_true.1 rows_ops _ hm
  have ho := List.all_eq_true.1 (Bool.and_eq_true_iff.1 ho).2 ((opsOf nm).getD k 0) (by
    rw [getD_lt hk]
    exact List.getElem_mem hk)
  simp only [Bool.and_eq_true, Bool.or_eq_true, Bool.not_eq_true', decide_eq_true_eq] at ho
  refine ⟨fun e => ?_, fun e => ?_⟩
  · rcases ho.1 with h | h
    · rw [e] at h; cases h
    · exact h
  · rcases ho.2 with h | h
    · rw [e] at h; cases h
    · exact h

theorem opsOf_short : (opsOf nm).length ≤ 4 := by
  obtain ⟨hf, _⟩ := enc_ok h
  obtain ⟨hm, _⟩ := frow_mem hf
  exact Nat.le_of_ble_eq_true (Bool.and_eq_true_iff.1 (List.all_eq_true.1 rows_ops _ hm)).1
end

section
variable (nm : List UInt8) (a b c d n x y : Int)

def fieldsSt (k : { k : Nat // k ≤ (opsOf nm).length }) : T × List O :=
  ([(1, .int .i64 x), (2, .int .i64 y), (3, .ptr 0 0), (9, .str (opsOf nm)), (10, .bool (fok nm)), (11, .int .u64 (numL (bytes4 (encW (nm, a, b, c, d, n))))), (12, .int .i64 k.1)], [insO7 nm a b c d n])

def fieldsQ (e : AEx) (t : T) (H : List O) : Prop := (e = .ret ∨ e = .normal) ∧ answerV Try.prog Try.f7.results.toList H t = some (.bool true)

set_option maxRecDepth 8000 in
theorem fields_loop (h : (encE (nm, a, b, c, d, n) == 0) = true) (hx : 0 ≤ x ∧ x < 32) (hy : 0 ≤ y ∧ y < 32) :
    AWP Try.prog 94 (tailN 5 B7) fieldsQ [(1, .int .i64 x), (2, .int .i64 y), (3, .ptr 0 0), (7, .sl (.int .u8) (bytes4 (encW (nm, a, b, c, d, n))) [] .full), (9, .str (opsOf nm)), (10, .bool (fok nm))] [insO7 nm a b c d n] := by
  have e : tailN 5 B7 = .seq (c1 (tailN 5 B7)) (.seq (.seq (c1 (c1 (tailN 6 B7))) (.block 0 (.loop (cin (cin (c2 (c1 (tailN 6 B7)))))))) (tailN 7 B7)) := by kernel_rfl
  rw [e]
  have hshort := opsOf_short h
  refine AWP_seq (AWP_run (cx := cx7) rfl rfl cxF_ok (s := (.normal, [(1, .int .i64 x), (2, .int .i64 y), (3, .ptr 0 0), (7, .sl (.int .u8) (bytes4 (encW (nm, a, b, c, d, n))) [] .full), (9, .str (opsOf nm)), (10, .bool (fok nm)), (11, .int .u64 (numL (bytes4 (encW (nm, a, b, c, d, n)))))], [insO7 nm a b c d n])) (by kernel_rfl) ?_)
  refine AWP_seq (AWP_seq (AWP_run (cx := cx7) rfl rfl cxF_ok (s := (.normal, [(1, .int .i64 x), (2, .int .i64 y), (3, .ptr 0 0), (7, .sl (.int .u8) (bytes4 (encW (nm, a, b, c, d, n))) [] .full), (9, .str (opsOf nm)), (10, .bool (fok nm)), (11, .int .u64 (numL (bytes4 (encW (nm, a, b, c, d, n))))), (12, .int .i64 0)], [insO7 nm a b c d n])) (by kernel_rfl) ?_))
  refine AWP_block ?_
  refine AWP.less (s := (fieldsSt nm a b c d n x y ⟨0, Nat.zero_le _⟩).1) (Fits.tle ⟨rfl, rfl, rfl, rfl, rfl, rfl, rfl, trivial⟩) ?_
  refine AWP_rounds (cx := cx7) (P := Try.prog) (n := 94) rfl rfl cxF_ok (fieldsSt nm a b c d n x y) (fun k => 4 - k.1) ?_ ⟨0, Nat.zero_le _⟩
  rintro ⟨k, hk⟩
  refine Tree.all_run_eq (fieldsRound_eq nm (opsOf nm) (fok nm) a b c d n x y (numL (bytes4 (encW (nm, a, b, c, d, n)))) k) ?_
  have next : ∀ {t : T}, k < (opsOf nm).length → get 1 t = .int .i64 x → get 2 t = .int .i64 y → get 3 t = .ptr 0 0 → get 9 t = .str (opsOf nm) → get 10 t = .bool (fok nm) → get 11 t = .int .u64 (numL (bytes4 (encW (nm, a, b, c, d, n)))) →
      get 12 t = .int .i64 (IntKind.wrap .i64 ((k : Int) + 1)) → ∃ j : { k : Nat // k ≤ (opsOf nm).length }, 4 - j.1 < 4 - k ∧ TLe t (fieldsSt nm a b c d n x y j).1 ∧ [insO7 nm a b c d n] = (fieldsSt nm a b c d n x y j).2 := by
    intro t hlt h1 h2 h4 h5 h6 h7 h8
    refine ⟨⟨k + 1, hlt⟩, by show 4 - (k + 1) < 4 - k; omega, Fits.tle ⟨h1, h2, h4, h5, h6, h7, ?_, trivial⟩, rfl⟩
    rw [h8, wrap_i64 (by omega) (by omega)]
    rfl
  refine ⟨fun hlt => ⟨fun hin => ?_, fun hin => ?_⟩, fun hge => ?_⟩
  · have hlt : k < (opsOf nm).length := Int.ofNat_lt.1 (of_decide_eq_true hlt)
    obtain ⟨uA', uB'⟩ := letter_uses h k hlt
    refine ⟨fun hl => ?_, fun _ => ⟨fun hl => ?_, fun _ => ?_⟩⟩
    · obtain ⟨g1, g2⟩ := fields_A (x := x) h (uA' hl) hx.1 hx.2
      refine ⟨fun _ => ⟨fun hne => Bool.noConfusion (g2.symm.trans hne), fun _ => ?_⟩, fun hne => Bool.noConfusion (g1.symm.trans hne)⟩
      exact ⟨[], _, rfl, next hlt rfl rfl rfl rfl rfl rfl rfl⟩
    · obtain ⟨g1, g2⟩ := fields_B (x := y) h (uB' hl) hy.1 hy.2
      refine ⟨fun _ => ⟨fun hne => Bool.noConfusion (g2.symm.trans hne), fun _ => ?_⟩, fun hne => Bool.noConfusion (g1.symm.trans hne)⟩
      exact ⟨[], _, rfl, next hlt rfl rfl rfl rfl rfl rfl rfl⟩
    · exact ⟨[], _, rfl, next hlt rfl rfl rfl rfl rfl rfl rfl⟩
  · exfalso
    have hlt : k < (opsOf nm).length := Int.ofNat_lt.1 (of_decide_eq_true hlt)
    exact Bool.noConfusion ((inside_of (Int.natCast_nonneg k) (Int.ofNat_lt.2 hlt)).symm.trans hin)
  · refine ⟨[], _, rfl, ?_⟩
    show AWP _ _ _ _ _ _
    refine AWP.less (s := [(10, .bool (fok nm))]) (Fits.tle ⟨rfl, trivial⟩) ?_
    refine AWP_run (cx := cx7) rfl rfl cxF_ok (fieldsEnd_eq nm (fok nm) a b c d n) ?_
    refine ⟨.inl rfl, ?_⟩
    have hf : fok nm = true := (enc_ok h).1
    show answerV _ _ _ _ = some _
    rw [hf]
    kernel_rfl

set_option maxRecDepth 8000 in
theorem fields_ok : PCall Try.prog 7 [.agg [.str nm, .int .i64 a, .int .i64 b, .int .i64 c, .int .i64 d, .int .i64 n], .int .i64 x, .int .i64 y] (.bool true) := by
  refine pcall_of' (c := bodyOf Try.f7) (fn := Try.f7) (by kernel_rfl) (by kernel_rfl) (by kernel_rfl) (by kernel_rfl) ?_
  refine AWP_headE (cx := cx7) rfl rfl cxF_ok 5 (by kernel_rfl) (fieldsPre_eq nm a b c d n x y) ?_
  have ret : ∀ {t : T} {H : List O}, answerV Try.prog Try.f7.results.toList H t = some (.bool true) → fieldsQ .ret t H := fun h => ⟨.inl rfl, h⟩
  refine ⟨fun _ => ret (by kernel_rfl), fun hx => ⟨fun _ => ret (by kernel_rfl), fun hy => ⟨fun _ => ret (by kernel_rfl), fun hx' => ⟨fun _ => ret (by kernel_rfl), fun hy' => ⟨fun h => ?_, fun h => ⟨fun _ => ret (by kernel_rfl), fun h' => ?_⟩⟩⟩⟩⟩⟩
  · show AWP _ _ _ _ _ _
    refine AWP.less (s := [(1, .int .i64 x), (2, .int .i64 y), (3, .ptr 0 0), (7, .sl (.int .u8) (bytes4 (encW (nm, a, b, c, d, n))) [] .full), (9, .str (opsOf nm)), (10, .bool (fok nm))]) (Fits.tle ⟨rfl, rfl, rfl, rfl, rfl, rfl, trivial⟩) ?_
    have hx := of_decide_eq_false hx
    have hy := of_decide_eq_false hy
    have hx' := of_decide_eq_false hx'
    have hy' := of_decide_eq_false hy'
    exact fields_loop nm a b c d n x y h ⟨by omega, by omega⟩ ⟨by omega, by omega⟩
  · exfalso
    simp [bne, h] at h'
end

end Go.Arm
