/-
  Rows: faulty, bits; find. Conditions: none.
-/
import Derived.Test.YtffamklolgjjdaaAr7
namespace Go.Arm
open Go Go.Ab Go.Proofs Go.Wd

/-- An instruction: its name, A, B, C, D, its number. -/
abbrev InsT := List UInt8 × Int × Int × Int × Int × Int
def insV (i : InsT) : V := .agg [.str i.1, .int .i64 i.2.1, .int .i64 i.2.2.1, .int .i64 i.2.2.2.1, .int .i64 i.2.2.2.2.1, .int .i64 i.2.2.2.2.2]
abbrev numL6 (f : NumT) : List V := [.int .i8 f.1, .int .i8 f.2.1, .int .i8 f.2.2.1, .int .i8 f.2.2.2.1, .int .i32 f.2.2.2.2.1, .int .i32 f.2.2.2.2.2]
abbrev rowL (r : RowT) : List V := [.str r.1, .int .u32 r.2.1] ++ numL6 r.2.2.1 ++ numL6 r.2.2.2.1 ++ numL6 r.2.2.2.2.1 ++ numL6 r.2.2.2.2.2.1 ++ numL6 r.2.2.2.2.2.2.1 ++ [.str r.2.2.2.2.2.2.2]
abbrev insL (i : InsT) : List V := [.str i.1, .int .i64 i.2.1, .int .i64 i.2.2.1, .int .i64 i.2.2.2.1, .int .i64 i.2.2.2.2.1, .int .i64 i.2.2.2.2.2]

/-- The context of (foundry/arm.row).faulty. -/
noncomputable def cx24 : Cx := { P := Try.prog, n := 97, tab := [(36, smallS), (37, ofS)], mtab := [], refs := [], keeps := [0, 1, 2, 3, 4, 8, 9, 40, 50, 55, 70, 71, 88] }
/-- The context of (foundry/arm.row).bits. -/
noncomputable def cx25 : Cx := { P := Try.prog, n := 37, tab := [(38, putS)], mtab := [], refs := [], keeps := [0, 1, 2, 3, 4] }

/-! Why an instruction may not be. -/

def numE2 (f : NumT) (n : Int) : Int := cond (f.2.2.1 == 0) 0 (cond (f.2.2.1 == 3) (cond (!ofOk (u64N n)) 3 0)
  (cond (decide (n < IntKind.wrap IntKind.i64 f.2.2.2.2.1)) 3 (cond (decide (IntKind.wrap IntKind.i64 f.2.2.2.2.2 < n)) 3 (cond (Int.tmod n (IntKind.wrap IntKind.i64 f.2.2.2.1) != 0) 10 0))))
def numTail (f : NumT) (n : Int) : Tree V := .br (f.2.2.1 == 0) (.leaf (.int .i64 0)) (.br (f.2.2.1 == 3) (.br (decide (0 ≤ IntKind.wrap IntKind.u64 n) && decide (IntKind.wrap IntKind.u64 n < 18446744073709551616)) (.br (!ofOk (u64N n)) (.leaf (.int .i64 3)) (.leaf (.int .i64 0))) .fail)
  (.br (decide (n < IntKind.wrap IntKind.i64 f.2.2.2.2.1)) (.leaf (.int .i64 3)) (.br (decide (IntKind.wrap IntKind.i64 f.2.2.2.2.2 < n)) (.leaf (.int .i64 3)) (.br (!decide (IntKind.wrap IntKind.i64 f.2.2.2.1 = 0)) (.br (Int.tmod n (IntKind.wrap IntKind.i64 f.2.2.2.1) != 0) (.leaf (.int .i64 10)) (.leaf (.int .i64 0))) .fail))))
def faultyH (r : RowT) (i : InsT) : Tree V :=
  .br (!smallF r.2.2.1 i.2.1) (.leaf (.int .i64 13)) (.br (!smallF r.2.2.2.1 i.2.2.1) (.leaf (.int .i64 13)) (.br (!smallF r.2.2.2.2.1 i.2.2.2.1) (.leaf (.int .i64 13)) (.br (!smallF r.2.2.2.2.2.1 i.2.2.2.2.1) (.leaf (.int .i64 13))
    (.br (r.2.2.2.2.2.2.1.2.2.1 == 0) (.br (i.2.2.2.2.2 != 0) (.leaf (.int .i64 13)) (numTail r.2.2.2.2.2.2.1 i.2.2.2.2.2)) (numTail r.2.2.2.2.2.2.1 i.2.2.2.2.2)))))
def faultyF (r : RowT) (i : InsT) : Int :=
  cond (!smallF r.2.2.1 i.2.1) 13 (cond (!smallF r.2.2.2.1 i.2.2.1) 13 (cond (!smallF r.2.2.2.2.1 i.2.2.2.1) 13 (cond (!smallF r.2.2.2.2.2.1 i.2.2.2.2.1) 13 (cond (r.2.2.2.2.2.2.1.2.2.1 == 0 && i.2.2.2.2.2 != 0) 13 (numE2 r.2.2.2.2.2.2.1 i.2.2.2.2.2)))))
def byOk (f : NumT) : Bool := cond (f.2.2.1 == 0) true (cond (f.2.2.1 == 3) true (!decide (IntKind.wrap IntKind.i64 f.2.2.2.1 = 0)))

theorem numTail_run {f : NumT} (n : Int) (h : byOk f = true) : (numTail f n).run = some (.int .i64 (numE2 f n)) := by
  unfold numTail numE2
  unfold byOk at h
  rw [u64_rng]
  cases h0 : (f.2.2.1 == 0)
  · cases h3 : (f.2.2.1 == 3)
    · rw [h0, h3] at h
      simp only [cond_false] at h
      rw [h]
      cases decide (n < IntKind.wrap IntKind.i64 f.2.2.2.2.1)
      · cases decide (IntKind.wrap IntKind.i64 f.2.2.2.2.2 < n)
        · cases (Int.tmod n (IntKind.wrap IntKind.i64 f.2.2.2.1) != 0) <;> rfl
        · rfl
      · rfl
    · cases (!ofOk (u64N n)) <;> rfl
  · rfl

theorem faultyH_run {r : RowT} (i : InsT) (h : byOk r.2.2.2.2.2.2.1 = true) : (faultyH r i).run = some (.int .i64 (faultyF r i)) := by
  have ht := numTail_run i.2.2.2.2.2 h
  unfold faultyH faultyF
  generalize numTail r.2.2.2.2.2.2.1 i.2.2.2.2.2 = X at ht
  generalize numE2 r.2.2.2.2.2.2.1 i.2.2.2.2.2 = Y at ht
  cases (!smallF r.2.2.1 i.2.1)
  rotate_left
  · rfl
  cases (!smallF r.2.2.2.1 i.2.2.1)
  rotate_left
  · rfl
  cases (!smallF r.2.2.2.2.1 i.2.2.2.1)
  rotate_left
  · rfl
  cases (!smallF r.2.2.2.2.2.1 i.2.2.2.2.1)
  rotate_left
  · rfl
  cases (r.2.2.2.2.2.2.1.2.2.1 == 0)
  · exact ht
  · cases (i.2.2.2.2.2 != 0)
    · exact ht
    · rfl

theorem faulty_eq (r : RowT) (i : InsT) : (dfun cx24 Try.f24 [.agg (rowL r), .agg (insL i)]).run = (faultyH r i).run :=
  (show (dfun cx24 Try.f24 [.agg (rowL r), .agg (insL i)]).run = (faultyH r i).out by kernel_rfl).trans (Tree.out_run _)

def faultyS : Ab.Spec := fun args => match args with
  | [.agg (.str rn :: .int .u32 rw :: .int .i8 p1 :: .int .i8 p2 :: .int .i8 p3 :: .int .i8 p4 :: .int .i32 p5 :: .int .i32 p6 :: .int .i8 q1 :: .int .i8 q2 :: .int .i8 q3 :: .int .i8 q4 :: .int .i32 q5 :: .int .i32 q6 :: .int .i8 s1 :: .int .i8 s2 :: .int .i8 s3 :: .int .i8 s4 :: .int .i32 s5 :: .int .i32 s6 :: .int .i8 t1 :: .int .i8 t2 :: .int .i8 t3 :: .int .i8 t4 :: .int .i32 t5 :: .int .i32 t6 :: .int .i8 z1 :: .int .i8 z2 :: .int .i8 z3 :: .int .i8 z4 :: .int .i32 z5 :: .int .i32 z6 :: [.str ro]), .agg [.str nm, .int .i64 a, .int .i64 b, .int .i64 c, .int .i64 d, .int .i64 n]] => .req (byOk (z1, z2, z3, z4, z5, z6)) (.leaf (.int .i64 (faultyF (rn, rw, (p1, p2, p3, p4, p5, p6), (q1, q2, q3, q4, q5, q6), (s1, s2, s3, s4, s5, s6), (t1, t2, t3, t4, t5, t6), (z1, z2, z3, z4, z5, z6), ro) (nm, a, b, c, d, n))))
  | _ => .fail

theorem faultyS_ok : Sound Try.prog 24 faultyS := by
  intro args out h
  unfold faultyS at h
  split at h
  rotate_left
  · cases h
  rename_i rn rw p1 p2 p3 p4 p5 p6 q1 q2 q3 q4 q5 q6 s1 s2 s3 s4 s5 s6 t1 t2 t3 t4 t5 t6 z1 z2 z3 z4 z5 z6 ro nm a b c d n
  obtain ⟨h1, h⟩ := req_run h
  have h := leaf_out h
  subst h
  refine pcall_fun' (cx := cx24) (fn := Try.f24) (cx1_ok (.cons smallS_ok (ok1 ofS_ok)) (.nil _) rfl rfl) (by kernel_rfl) (by kernel_rfl) (by kernel_rfl) ?_
  exact (faulty_eq (rn, rw, (p1, p2, p3, p4, p5, p6), (q1, q2, q3, q4, q5, q6), (s1, s2, s3, s4, s5, s6), (t1, t2, t3, t4, t5, t6), (z1, z2, z3, z4, z5, z6), ro) (nm, a, b, c, d, n)).trans (faultyH_run _ h1)

/-! An instruction's word. -/

def bitsF (r : RowT) (i : InsT) : Int := or32 (or32 (or32 (or32 (or32 r.2.1 (putF r.2.2.1 i.2.1)) (putF r.2.2.2.1 i.2.2.1)) (putF r.2.2.2.2.1 i.2.2.2.1)) (putF r.2.2.2.2.2.1 i.2.2.2.2.1)) (putF r.2.2.2.2.2.2.1 i.2.2.2.2.2)
def rowOk (r : RowT) : Bool := numOk r.2.2.1 && (numOk r.2.2.2.1 && (numOk r.2.2.2.2.1 && (numOk r.2.2.2.2.2.1 && numOk r.2.2.2.2.2.2.1)))
def bitsH (r : RowT) (i : InsT) : Tree V := .br (numOk r.2.2.1) (.br (numOk r.2.2.2.1) (.br (numOk r.2.2.2.2.1) (.br (numOk r.2.2.2.2.2.1) (.br (numOk r.2.2.2.2.2.2.1) (.leaf (.int .u32 (bitsF r i))) .fail) .fail) .fail) .fail) .fail
theorem bits_eq (r : RowT) (i : InsT) : (dfun cx25 Try.f25 [.agg (rowL r), .agg (insL i)]).run = (bitsH r i).run :=
  (show (dfun cx25 Try.f25 [.agg (rowL r), .agg (insL i)]).run = (bitsH r i).out by kernel_rfl).trans (Tree.out_run _)

def bitsS : Ab.Spec := fun args => match args with
  | [.agg (.str rn :: .int .u32 rw :: .int .i8 p1 :: .int .i8 p2 :: .int .i8 p3 :: .int .i8 p4 :: .int .i32 p5 :: .int .i32 p6 :: .int .i8 q1 :: .int .i8 q2 :: .int .i8 q3 :: .int .i8 q4 :: .int .i32 q5 :: .int .i32 q6 :: .int .i8 s1 :: .int .i8 s2 :: .int .i8 s3 :: .int .i8 s4 :: .int .i32 s5 :: .int .i32 s6 :: .int .i8 t1 :: .int .i8 t2 :: .int .i8 t3 :: .int .i8 t4 :: .int .i32 t5 :: .int .i32 t6 :: .int .i8 z1 :: .int .i8 z2 :: .int .i8 z3 :: .int .i8 z4 :: .int .i32 z5 :: .int .i32 z6 :: [.str ro]), .agg [.str nm, .int .i64 a, .int .i64 b, .int .i64 c, .int .i64 d, .int .i64 n]] => .req (rowOk (rn, rw, (p1, p2, p3, p4, p5, p6), (q1, q2, q3, q4, q5, q6), (s1, s2, s3, s4, s5, s6), (t1, t2, t3, t4, t5, t6), (z1, z2, z3, z4, z5, z6), ro)) (.leaf (.int .u32 (bitsF (rn, rw, (p1, p2, p3, p4, p5, p6), (q1, q2, q3, q4, q5, q6), (s1, s2, s3, s4, s5, s6), (t1, t2, t3, t4, t5, t6), (z1, z2, z3, z4, z5, z6), ro) (nm, a, b, c, d, n))))
  | _ => .fail

theorem bitsS_ok : Sound Try.prog 25 bitsS := by
  intro args out h
  unfold bitsS at h
  split at h
  rotate_left
  · cases h
  rename_i rn rw p1 p2 p3 p4 p5 p6 q1 q2 q3 q4 q5 q6 s1 s2 s3 s4 s5 s6 t1 t2 t3 t4 t5 t6 z1 z2 z3 z4 z5 z6 ro nm a b c d n
  obtain ⟨h1, h⟩ := req_run h
  have h := leaf_out h
  subst h
  refine pcall_fun' (cx := cx25) (fn := Try.f25) (cx1_ok (ok1 putS_ok) (.nil _) rfl rfl) (by kernel_rfl) (by kernel_rfl) (by kernel_rfl) ?_
  refine (bits_eq (rn, rw, (p1, p2, p3, p4, p5, p6), (q1, q2, q3, q4, q5, q6), (s1, s2, s3, s4, s5, s6), (t1, t2, t3, t4, t5, t6), (z1, z2, z3, z4, z5, z6), ro) (nm, a, b, c, d, n)).trans ?_
  simp only [rowOk, Bool.and_eq_true] at h1
  obtain ⟨g1, g2, g3, g4, g5⟩ := h1
  exact (br_t g1).trans ((br_t g2).trans ((br_t g3).trans ((br_t g4).trans (br_t g5))))

end Go.Arm
