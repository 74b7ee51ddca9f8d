/-
  An instruction's bytes, as one list; Encode, May, Operands, Names. Conditions: none.
-/
import Derived.Test.YtlfnjldfmfjghaaAm7
namespace Go.Amd
open Go Go.Ab Go.Proofs

/-! One list. -/

def scaleN (d : Int) : Int := cond (decide (1 < d)) (cond (decide (2 < d)) (cond (decide (4 < d)) (cond (decide (8 < d)) 4 3) 2) 1) 0
/-- REX's bits and what stands behind the opcode, of a place. -/
def modP (m a b c d : Int) (imm : List Int) : Int × List Int :=
  cond (cond (c == 16) (andi b 7 != 4) false) (rexM 0 a b, [mrB m a b] ++ imm)
    (sibR (rexM 0 a 4) (cond (c == 16) 4 c) b, [mrB m a 4] ++ [mrB (scaleN d) (cond (c == 16) 4 c) b] ++ imm)
def memP (a b c d n : Int) : Int × List Int :=
  cond (b == 17) (rexM 0 a 5, [mrB 0 a 5] ++ im4 n)
    (cond (cond (n == 0) (andi b 7 != 5) false) (modP 0 a b c d []) (cond (fitsF n) (modP 1 a b c d (im1 n)) (modP 2 a b c d (im4 n))))

theorem sibH_run (K : Int → List Int → Tree V) (R : Int) (tail imm : List Int) (b index d : Int) (hd : d ≤ 16) :
    (sibH K R tail imm b index d).run = (K (sibR R index b) (tail ++ [mrB (scaleN d) index b] ++ imm)).run := by
  have h16 : decide (16 < d) = false := decide_eq_false (by omega)
  unfold sibH scaleN
  rw [h16]
  cases decide (1 < d)
  · rfl
  · cases decide (2 < d)
    · rfl
    · cases decide (4 < d)
      · rfl
      · cases decide (8 < d) <;> rfl
theorem withH_run (K : Int → List Int → Tree V) (m a b c d : Int) (imm : List Int) (hd : d ≤ 16) :
    (withH K m a b c d imm).run = (K (sibR (rexM 0 a 4) (cond (c == 16) 4 c) b) ([mrB m a 4] ++ [mrB (scaleN d) (cond (c == 16) 4 c) b] ++ imm)).run := by
  unfold withH
  rw [br_run, sibH_run _ _ _ _ _ _ _ hd, sibH_run _ _ _ _ _ _ _ hd]
  cases (c == 16) <;> rfl
theorem modH_run (K : Int → List Int → Tree V) (m a b c d : Int) (imm : List Int) (hd : d ≤ 16) :
    (modH K m a b c d imm).run = (K (modP m a b c d imm).1 (modP m a b c d imm).2).run := by
  unfold modH modP
  rw [br_run, br_run, withH_run _ _ _ _ _ _ _ hd]
  cases (c == 16)
  · rfl
  · cases (andi b 7 != 4) <;> rfl
theorem memH_run (K : Int → List Int → Tree V) (a b c d n : Int) (hd : d ≤ 16) : (memH K a b c d n).run = (K (memP a b c d n).1 (memP a b c d n).2).run := by
  unfold memH memP longH
  simp only [br_run, modH_run _ _ _ _ _ _ _ hd]
  cases (b == 17)
  · cases (n == 0)
    · cases fitsF n <;> rfl
    · cases (andi b 7 != 5)
      · cases fitsF n <;> rfl
      · rfl
  · rfl

/-- What is ahead of REX; REX's bits; what stands behind the opcode. -/
def fsF (f : Int) : List Int := cond (f == 10) [100] []
def rF (f dg a b c d n : Int) : Int :=
  cond (f == 1) (or8 0 (hi4 a 1)) (cond (f == 2) (or8 0 (hi4 a 1)) (cond (f == 3) (rexM 0 (wi dg) a) (cond (f == 4) (rexM 0 (wi dg) a) (cond (f == 5) (rexM 0 (wi dg) a) (cond (f == 6) (rexM 0 (wi dg) a)
    (cond (f == 7) (rexM 0 b a) (cond (f == 8) (rexM 0 a b) (cond (f == 9) (memP a b c d n).1 (cond (f == 10) (rexM 0 a 4) 0)))))))))
def tailB (f dg a b c d n : Int) : List Int :=
  cond (f == 2) (im8 n) (cond (f == 3) [mrB 3 (wi dg) a] (cond (f == 4) ([mrB 3 (wi dg) a] ++ im4 n) (cond (f == 5) ([mrB 3 (wi dg) a] ++ im1 n) (cond (f == 6) ([mrB 3 (wi dg) a] ++ cond (fitsF n) (im1 n) (im4 n))
    (cond (f == 7) [mrB 3 b a] (cond (f == 8) [mrB 3 a b] (cond (f == 9) (memP a b c d n).2 (cond (f == 10) ([mrB 0 a 4] ++ [37] ++ im4 n) (cond (f == 11) (im4 n) (cond (f == 12) (im1 n) []))))))))))
def lastF (f : Int) (cn : Bool) (l a d n : Int) : Int :=
  cond (f == 1) (w8 (l + w8 (andi a 7))) (cond (f == 2) (w8 (l + w8 (andi a 7))) (cond (f == 6) (cond (fitsF n) l 129) (cond cn (w8 (l + w8 d)) l)))
def rexL (rex R : Int) : List Int := cond (rex == 0) (cond (R != 0) [or8 64 R] []) [or8 64 (cond (rex == 1) (or8 R 8) R)]
def hdF (op : Int) : List Int := cond (decide (255 < op)) [w8 (Int.fdiv op (2 ^ 8))] []
/-- An instruction's bytes, by its row. -/
def bytesF (x : RowT) (i : InsT) : List Int :=
  fsF (formR x) ++ rexL x.2.1 (rF (formR x) x.2.2.2.2.1 i.2.1 i.2.2.1 i.2.2.2.1 i.2.2.2.2.1 i.2.2.2.2.2) ++ (hdF x.2.2.1 ++ [lastF (formR x) (condR x) (w8 x.2.2.1) i.2.1 i.2.2.2.2.1 i.2.2.2.2.2]) ++
    tailB (formR x) x.2.2.2.2.1 i.2.1 i.2.2.1 i.2.2.2.1 i.2.2.2.2.1 i.2.2.2.2.2

def bodyP (k : Int × Int × Bool) (dg : Int) (hd : List Int) (l a b c d n : Int) : List Int :=
  fsF k.1 ++ rexL k.2.1 (rF k.1 dg a b c d n) ++ (hd ++ [lastF k.1 k.2.2 l a d n]) ++ tailB k.1 dg a b c d n

theorem W0_run (fsl : List Int) (R : Int) (op tail : List Int) : (W0 fsl R op tail).run = some (.sl (.int .u8) (fsl ++ rexL 0 R ++ op ++ tail) [] .ro) := by
  unfold W0 rexL
  cases (R != 0)
  · show some (V.sl (.int .u8) (fsl ++ op ++ tail) [] .ro) = some (V.sl (.int .u8) (fsl ++ [] ++ op ++ tail) [] .ro)
    rw [List.append_nil]
    rfl
  · rfl
theorem W1_run (fsl : List Int) (R : Int) (op tail : List Int) : (W1 fsl R op tail).run = some (.sl (.int .u8) (fsl ++ rexL 1 R ++ op ++ tail) [] .ro) := rfl
theorem W2_run (fsl : List Int) (R : Int) (op tail : List Int) : (W2 fsl R op tail).run = some (.sl (.int .u8) (fsl ++ rexL 2 R ++ op ++ tail) [] .ro) := rfl

theorem body_runs : ∀ k ∈ kindsB, ∀ dg hd l a b c d n, d ≤ 16 → (k.2 dg hd l a b c d n).run = some (.sl (.int .u8) (bodyP k.1 dg hd l a b c d n) [] .ro) := by
  intro k hk dg hd l a b c d n h16
  unfold kindsB at hk
  simp only [List.mem_cons, List.not_mem_nil, or_false] at hk
  rcases hk with rfl | rfl | rfl | rfl | rfl | rfl | rfl | rfl | rfl | rfl | rfl | rfl | rfl | rfl | rfl | rfl | rfl | rfl | rfl | rfl
  · refine (W0_run _ _ _ _).trans ?_
    kernel_rfl
  · refine (W1_run _ _ _ _).trans ?_
    kernel_rfl
  · refine (W0_run _ _ _ _).trans ?_
    kernel_rfl
  · refine (W1_run _ _ _ _).trans ?_
    kernel_rfl
  · refine (W0_run _ _ _ _).trans ?_
    kernel_rfl
  · refine (W1_run _ _ _ _).trans ?_
    kernel_rfl
  · refine (W1_run _ _ _ _).trans ?_
    kernel_rfl
  · refine (W1_run _ _ _ _).trans ?_
    kernel_rfl
  · refine (br_run _ _ _).trans ?_
    rw [W1_run, W1_run]
    show _ = some (V.sl (.int .u8) (bodyP (6, 1, false) dg hd l a b c d n) [] .ro)
    unfold bodyP tailB lastF
    cases fitsF n
    · kernel_rfl
    · kernel_rfl
  · refine (W1_run _ _ _ _).trans ?_
    kernel_rfl
  · refine (W1_run _ _ _ _).trans ?_
    kernel_rfl
  · refine (W1_run _ _ _ _).trans ?_
    kernel_rfl
  · refine (memH_run (fun R t => W0 [] R (hd ++ [l]) t) a b c d n h16).trans ?_
    refine (W0_run _ _ _ _).trans ?_
    kernel_rfl
  · refine (memH_run (fun R t => W1 [] R (hd ++ [l]) t) a b c d n h16).trans ?_
    refine (W1_run _ _ _ _).trans ?_
    kernel_rfl
  · refine (memH_run (fun R t => W2 [] R (hd ++ [l]) t) a b c d n h16).trans ?_
    refine (W2_run _ _ _ _).trans ?_
    kernel_rfl
  · refine (W1_run _ _ _ _).trans ?_
    kernel_rfl
  · refine (W0_run _ _ _ _).trans ?_
    kernel_rfl
  · refine (W0_run _ _ _ _).trans ?_
    kernel_rfl
  · refine (W0_run _ _ _ _).trans ?_
    kernel_rfl
  · refine (W0_run _ _ _ _).trans ?_
    kernel_rfl

theorem kind_mem {x : RowT} (h : kindOk x = true) : ∃ k ∈ kindsB, k.1 = kindOf x := by
  unfold kindOk at h
  simpa using h

theorem bytesH_run {x : RowT} {p : BodyT} {k : Int × Int × Bool} (hk : (k, p) ∈ kindsB) (he : k = kindOf x) (i : InsT) (h16 : i.2.2.2.2.1 ≤ 16) :
    (bytesH p x.2.2.1 x.2.2.2.2.1 i.2.1 i.2.2.1 i.2.2.2.1 i.2.2.2.2.1 i.2.2.2.2.2).run = some (.sl (.int .u8) (bytesF x i) [] .ro) := by
  unfold bytesH
  rw [br_run, body_runs _ hk _ _ _ _ _ _ _ _ h16, body_runs _ hk _ _ _ _ _ _ _ _ h16]
  subst he
  unfold bytesF hdF bodyP kindOf
  cases decide (255 < x.2.2.1) <;> rfl

def bytesS : Ab.Spec := fun args => match args with
  | [.agg [.str nm, .int .i64 rex, .int .u16 op, .int .i64 f, .int .u8 dg, .bool cn, .int .i64 lo, .int .i64 hi, .str ops], .agg [.str i, .int .i64 a, .int .i64 b, .int .i64 c, .int .i64 d, .int .i64 n]] =>
    .req (kindOk (nm, rex, op, f, dg, cn, lo, hi, ops)) (.req (decide (d ≤ 16)) (.leaf (.sl (.int .u8) (bytesF (nm, rex, op, f, dg, cn, lo, hi, ops) (i, a, b, c, d, n)) [] .ro)))
  | _ => .fail
theorem bytesS_ok : Sound Try.prog 24 bytesS := by
  intro args out h
  unfold bytesS at h
  split at h
  rotate_left
  · cases h
  rename_i nm rex op f dg cn lo hi ops i a b c d n
  obtain ⟨h1, h⟩ := req_run h
  obtain ⟨h2, h⟩ := req_run h
  have h := leaf_out h
  subst h
  refine pcall_fun' (cx := cx24) (fn := Try.f24) cxBy_ok (by kernel_rfl) (by kernel_rfl) (by kernel_rfl) ?_
  obtain ⟨⟨k, p⟩, hk, he⟩ := kind_mem h1
  have e := congrFun (congrFun (congrFun (congrFun (congrFun (congrFun (congrFun (congrFun (congrFun (congrFun (congrFun (congrFun (List.map_inj_left.1 bytes_kinds _ hk) nm) op) dg) lo) hi) ops) i) a) b) c) d) n
  simp only at he
  subst he
  exact (Tree.out_run _).symm.trans (e.trans ((Tree.out_run _).trans (bytesH_run hk rfl (i, a, b, c, d, n) (of_decide_eq_true h2))))

/-! Encode, May, Operands, Names. -/

/-- The context of foundry/amd.Encode. -/
noncomputable def cx10 : Cx := { P := Try.prog, n := 24, tab := [(22, findS), (23, faultyS), (24, bytesS)], mtab := [], refs := [], keeps := [0, 1, 2, 3, 4, 5, 6, 14, 19] }
/-- The context of foundry/amd.May. -/
noncomputable def cx12 : Cx := { P := Try.prog, n := 18, tab := [(22, findS), (23, faultyS)], mtab := [], refs := [], keeps := [0, 1, 2, 3, 4] }
/-- The context of foundry/amd.Operands. -/
noncomputable def cx20 : Cx := { P := Try.prog, n := 14, tab := [(22, findS)], mtab := [], refs := [], keeps := [0, 2, 3, 4, 5] }
/-- The context of foundry/amd.Names. -/
noncomputable def cx18 : Cx := { P := Try.prog, n := 17, tab := [(31, rowsS)], mtab := [], refs := [], keeps := [0, 1, 3, 4, 5, 6, 7], fuel := 64 }

def rowFine (x : RowT) : Bool := formOk x && kindOk x
theorem rows_fine : rowsL.all rowFine = true := by kernel_rfl
theorem frow_fine {nm : List UInt8} (h : fok nm = true) : rowFine (frow nm) = true := by
  unfold fok at h
  unfold frow
  cases hf : findL nm rowsL with
  | none => rw [hf] at h; cases h
  | some r => exact List.all_eq_true.1 rows_fine r (List.mem_of_find?_eq_some hf)
theorem frow_form {nm : List UInt8} (h : fok nm = true) : formOk (frow nm) = true := (Bool.and_eq_true_iff.1 (frow_fine h)).1
theorem frow_kind {nm : List UInt8} (h : fok nm = true) : kindOk (frow nm) = true := (Bool.and_eq_true_iff.1 (frow_fine h)).2

/-- Why an instruction is not encoded; 0: it is. -/
def encE (i : InsT) : Int := cond (fok i.1) (faultyF (frow i.1) i) 7
def encL (i : InsT) : List Int := bytesF (frow i.1) i
abbrev nilV : V := .val (.slice none 0 0)

theorem scale_le {d : Int} (h : scaleF d = true) : d ≤ 16 := by
  unfold scaleF at h
  by_cases h1 : d = 1
  · omega
  by_cases h2 : d = 2
  · omega
  by_cases h4 : d = 4
  · omega
  by_cases h8 : d = 8
  · omega
  simp [h1, h2, h4, h8] at h
theorem cond_le {d : Int} (h : condF d = true) : d ≤ 16 := by
  unfold condF at h
  by_cases h1 : d ≤ 16
  · exact h1
  have h2 : decide (d ≤ 9) = false := decide_eq_false (by omega)
  have h3 : decide (d ≤ 15) = false := decide_eq_false (by omega)
  rw [h2, h3] at h
  cases hx : decide (0 ≤ d) <;> cases hy : decide (12 ≤ d) <;> rw [hx, hy] at h <;> cases h
theorem place_le {b c d : Int} (h : placeF b c d = true) : d ≤ 16 := by
  unfold placeF at h
  cases hc : (c == 16)
  · rw [hc] at h
    cases h1 : baseF b
    · rw [h1] at h; cases h
    rw [h1] at h
    cases h2 : (b != 17)
    · rw [h2] at h; cases h
    rw [h2] at h
    cases h3 : decide (0 ≤ c)
    · rw [h3] at h; cases h
    rw [h3] at h
    cases h4 : decide (c ≤ 15)
    · rw [h4] at h; cases h
    rw [h4] at h
    cases h5 : (c != 4)
    · rw [h5] at h; cases h
    rw [h5] at h
    exact scale_le h
  · rw [hc] at h
    cases h1 : baseF b
    · rw [h1] at h; cases h
    · rw [h1] at h
      have : d = 0 := by simpa using h
      omega
theorem ok_le {x : RowT} {a b c d : Int} (h : okF x a b c d = true) : d ≤ 16 := by
  unfold okF at h
  cases h0 : uM x
  · rw [h0] at h
    cases h1 : regF a (uA x)
    · rw [h1] at h; cases h
    rw [h1] at h
    cases h2 : regF b (uB x)
    · rw [h2] at h; cases h
    rw [h2] at h
    cases h3 : (c == 0)
    · rw [h3] at h; cases h
    rw [h3] at h
    cases h4 : (d == 0)
    · rw [h4] at h
      cases h5 : condR x
      · rw [h5] at h; cases h
      · rw [h5] at h; exact cond_le h
    · have : d = 0 := by simpa using h4
      omega
  · rw [h0] at h
    cases h1 : regF a (uA x)
    · rw [h1] at h; cases h
    · rw [h1] at h
      exact place_le h
theorem faulty_ok {x : RowT} {i : InsT} (h : faultyF x i = 0) : okF x i.2.1 i.2.2.1 i.2.2.2.1 i.2.2.2.2.1 = true := by
  unfold faultyF tailF at h
  cases ho : okF x i.2.1 i.2.2.1 i.2.2.2.1 i.2.2.2.2.1
  · rw [ho] at h; cases h
  · rfl

def encH (i : InsT) : Tree V := .br (!fok i.1) (.leaf (.tup [nilV, .int .i64 7])) (.br (formOk (frow i.1)) (.br (faultyF (frow i.1) i != 0) (.leaf (.tup [nilV, .int .i64 (faultyF (frow i.1) i)]))
  (.br (kindOk (frow i.1)) (.br (decide (i.2.2.2.2.1 ≤ 16)) (.leaf (.tup [.sl (.int .u8) (encL i) [] .ro, .int .i64 0])) .fail) .fail)) .fail)
theorem encH_eq (i : InsT) : (dfun cx10 Try.f10 [.agg (insL i)]).run = (encH i).run :=
  (show (dfun cx10 Try.f10 [.agg (insL i)]).run = (encH i).out by kernel_rfl).trans (Tree.out_run _)

def encodeS : Ab.Spec := fun args => match args with
  | [.agg [.str nm, .int .i64 a, .int .i64 b, .int .i64 c, .int .i64 d, .int .i64 n]] =>
    .br (encE (nm, a, b, c, d, n) == 0) (.leaf (.tup [.sl (.int .u8) (encL (nm, a, b, c, d, n)) [] .ro, .int .i64 0])) (.leaf (.tup [nilV, .int .i64 (encE (nm, a, b, c, d, n))]))
  | _ => .fail

theorem encodeS_ok : Sound Try.prog 10 encodeS := by
  intro args out h
  unfold encodeS at h
  split at h
  rotate_left
  · cases h
  rename_i nm a b c d n
  refine pcall_fun' (cx := cx10) (fn := Try.f10) (cx1_ok (.cons findS_ok (.cons faultyS_ok (ok1 bytesS_ok))) (.nil _) rfl rfl) (by kernel_rfl) (by kernel_rfl) (by kernel_rfl) ?_
  refine (encH_eq (nm, a, b, c, d, n)).trans ?_
  rw [← h]
  unfold encH encE
  simp only
  cases hf : (fok nm)
  · rfl
  rw [frow_form hf, frow_kind hf]
  simp only [cond_true]
  cases hb : (faultyF (frow nm) (nm, a, b, c, d, n) == 0)
  · have : (faultyF (frow nm) (nm, a, b, c, d, n) != 0) = true := by simp [bne, hb]
    rw [this]
    rfl
  · have : (faultyF (frow nm) (nm, a, b, c, d, n) != 0) = false := by simp [bne, hb]
    rw [this, decide_eq_true (ok_le (faulty_ok (eq_of_beq hb)))]
    rfl

def mayH (i : InsT) : Tree V := .br (fok i.1) (.br (formOk (frow i.1)) (.leaf (.bool (faultyF (frow i.1) i == 0))) .fail) (.leaf (.bool false))
theorem mayH_eq (i : InsT) : (dfun cx12 Try.f12 [.agg (insL i)]).run = (mayH i).run :=
  (show (dfun cx12 Try.f12 [.agg (insL i)]).run = (mayH i).out by kernel_rfl).trans (Tree.out_run _)

def mayS : Ab.Spec := fun args => match args with
  | [.agg [.str nm, .int .i64 a, .int .i64 b, .int .i64 c, .int .i64 d, .int .i64 n]] => .leaf (.bool (encE (nm, a, b, c, d, n) == 0))
  | _ => .fail

theorem mayS_ok : Sound Try.prog 12 mayS := by
  intro args out h
  unfold mayS at h
  split at h
  rotate_left
  · cases h
  rename_i nm a b c d n
  refine pcall_fun' (cx := cx12) (fn := Try.f12) (cx1_ok (.cons findS_ok (ok1 faultyS_ok)) (.nil _) rfl rfl) (by kernel_rfl) (by kernel_rfl) (by kernel_rfl) ?_
  refine (mayH_eq (nm, a, b, c, d, n)).trans ?_
  rw [← h]
  unfold mayH encE
  simp only
  cases hf : (fok nm)
  · rfl
  rw [frow_form hf]
  rfl

/-- In which order the operands stand. -/
def opsOf (nm : List UInt8) : List UInt8 := (frow nm).2.2.2.2.2.2.2.2

def operandsS : Ab.Spec := fun args => match args with
  | [.str nm] => .leaf (.tup [.str (opsOf nm), .bool (fok nm)])
  | _ => .fail

theorem operandsS_ok : Sound Try.prog 20 operandsS := by
  intro args out h
  unfold operandsS at h
  split at h
  rotate_left
  · cases h
  rename_i nm
  have h := leaf_out h
  subst h
  exact pcall_fun' (cx := cx20) (fn := Try.f20) (cx1_ok (ok1 findS_ok) (.nil _) rfl rfl) (by kernel_rfl) (by kernel_rfl) (by kernel_rfl) (by kernel_rfl)

def namesL : List (List UInt8) := rowsL.map (fun r => r.1)
theorem names_run : (dfun cx18 Try.f18 []).run = some (.sl .str namesL [] .ro) := by kernel_rfl

def namesS : Ab.Spec := fun args => match args with
  | [] => .leaf (.sl .str namesL [] .ro)
  | _ => .fail

theorem namesS_ok : Sound Try.prog 18 namesS := by
  intro args out h
  unfold namesS at h
  split at h
  rotate_left
  · cases h
  have h := leaf_out h
  subst h
  exact pcall_fun' (cx := cx18) (fn := Try.f18) (cx1_ok (ok1 rowsS_ok) (.nil _) rfl rfl) (by kernel_rfl) (by kernel_rfl) (by kernel_rfl) names_run

end Go.Amd
