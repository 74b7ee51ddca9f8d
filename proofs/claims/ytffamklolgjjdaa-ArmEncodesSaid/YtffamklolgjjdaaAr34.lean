/-
  Encode as its callers may write over what it answers; the document's Encode; Spoil. Conditions: none.
-/
import Derived.Test.YtffamklolgjjdaaEnE
import Derived.Test.YtffamklolgjjdaaAr31
import Derived.Test.YtffamklolgjjdaaAr12
namespace Go.Arm
open Go Go.Ab Go.Proofs Go.Wd

theorem Tree.all_of_run {x y : Tree St} {Q : St → Prop} (e : x.run = y.run) (h : y.all Q) : x.all Q := Tree.all_run_eq e h

noncomputable def cxEr : Cx := { cx10 with refs := [36] }
theorem cxEr_ok : CxOk cxEr := cx1_ok (.cons findS_ok (.cons faultyS_ok (ok1 bitsS_ok))) (.nil _) rfl rfl
def bytesV (w : Int) : List V := [.int .u8 (IntKind.wrap .u8 w), .int .u8 (IntKind.wrap .u8 (Int.fdiv w (2 ^ 8))), .int .u8 (IntKind.wrap .u8 (Int.fdiv w (2 ^ 16))), .int .u8 (IntKind.wrap .u8 (Int.fdiv w (2 ^ 24)))]
def encMT (i : InsT) : Tree St :=
  .br (!fok i.1) (.leaf (.ret, [(0, .agg (insL i)), (1, (.ptr 0 0)), (2, nilV), (3, (.int .i64 7)), (4, (.ptr 1 0)), (5, (.bool (fok i.1))), (15, (.bool true))], [insO i, .cells (rowL (frow i.1)) 59]))
    (.br (byOk (frow i.1).2.2.2.2.2.2.1) (.br (faultyF (frow i.1) i != 0)
      (.leaf (.ret, [(0, .agg (insL i)), (1, (.ptr 0 0)), (2, nilV), (3, (.int .i64 (faultyF (frow i.1) i))), (4, (.ptr 1 0)), (5, (.bool (fok i.1))), (6, (.int .i64 (faultyF (frow i.1) i))), (15, (.bool false)), (20, (.bool true))], [insO i, .cells (rowL (frow i.1)) 59]))
      (.br (rowOk (frow i.1)) (.leaf (.ret, [(0, .agg (insL i)), (1, (.ptr 0 0)), (2, (.ref 2 1 0 4)), (3, (.int .i64 0)), (4, (.ptr 1 0)), (5, (.bool (fok i.1))), (6, (.int .i64 (faultyF (frow i.1) i))), (7, (.int .u32 (bitsF (frow i.1) i))), (15, (.bool false)), (20, (.bool false))],
        [insO i, .cells (rowL (frow i.1)) 59, .cells (bytesV (bitsF (frow i.1) i)) 4294967301])) .fail)) .fail)
theorem encMT_eq (i : InsT) : (dcode cxEr (bodyOf Try.f10) (initT 0 [.agg (insL i)]) []).run = (encMT i).run :=
  (show _ = (encMT i).out by kernel_rfl).trans (Tree.out_run _)

/-- The context of foundry/foundrylaw1.Spoil. -/
noncomputable def cx13 : Cx := { P := Try.prog, n := 26, tab := [], mtab := [], refs := [], keeps := [0, 2, 3, 13, 20], fuel := 6 }
noncomputable def spoilM : MSpec := fun args H => .req (Nat.ble args.length Try.f13.ntmps) (mfun cx13 Try.f13 args H)
theorem spoilM_ok : MSound Try.prog 13 spoilM := msound_fun (cx := cx13) (fn := Try.f13) (cx0_ok rfl rfl) (by kernel_rfl) (by kernel_rfl)
def spoil4 (_a _b _c _d : Int) : Tree Res :=
  (.leaf (.ok (.tup []) [(.cells [(.int .u8 238), (.int .u8 238), (.int .u8 238), (.int .u8 238)] 4294967301)]))

theorem spoil4_eq (a b c d : Int) : (mfun cx13 Try.f13 [.ref 0 1 0 4] [.cells [.int .u8 a, .int .u8 b, .int .u8 c, .int .u8 d] 4294967301]).run = (spoil4 a b c d).run :=
  (show (mfun cx13 Try.f13 [.ref 0 1 0 4] [.cells [.int .u8 a, .int .u8 b, .int .u8 c, .int .u8 d] 4294967301]).run = (spoil4 a b c d).out by kernel_rfl).trans (Tree.out_run _)

def spoil0  : Tree Res :=
  (.leaf (.ok (.tup []) []))

theorem spoil0_eq  : (mfun cx13 Try.f13 [nilV] []).run = (spoil0 ).run :=
  (show (mfun cx13 Try.f13 [nilV] []).run = (spoil0 ).out by kernel_rfl).trans (Tree.out_run _)


/-- The context of foundry/foundryref1.Fixed. -/
noncomputable def cx27 : Cx := { P := Try.prog, n := 20, tab := [], mtab := [], refs := [], keeps := [0, 1, 4, 5, 6, 9], fuel := 6 }
noncomputable def fixedS : Ab.Spec := fun args => .req (Nat.ble args.length Try.f27.ntmps) (dfun cx27 Try.f27 args)
theorem fixedS_ok : Sound Try.prog 27 fixedS := sound_fun (cx := cx27) (fn := Try.f27) (cx0_ok rfl rfl) (by kernel_rfl) (by kernel_rfl)
/-- The context of foundry/foundryref11.Encode. -/
noncomputable def cx11 : Cx := { P := Try.prog, n := 14, tab := [(26, checkS), (28, wordXS), (27, fixedS)], mtab := [], refs := [], keeps := [0, 1, 2, 3, 4, 8] }
def encXT (nm : List UInt8) (a b c d n : Int) : Tree V :=
  (.br (checkX (nm, a, b, c, d, n) != 0) (.leaf (.tup [(.val (Go.Value.slice Option.none 0 0)), (.int .i64 (checkX (nm, a, b, c, d, n)))])) (.br (fokX nm) (.leaf (.tup [(.sl (.int .u8) ([IntKind.wrap IntKind.u8 (IntKind.wrap IntKind.u64 (wordX (nm, a, b, c, d, n)))] ++ [IntKind.wrap IntKind.u8 (Int.fdiv (IntKind.wrap IntKind.u64 (wordX (nm, a, b, c, d, n))) (2 ^ 8))] ++ [IntKind.wrap IntKind.u8 (Int.fdiv (Int.fdiv (IntKind.wrap IntKind.u64 (wordX (nm, a, b, c, d, n))) (2 ^ 8)) (2 ^ 8))] ++ [IntKind.wrap IntKind.u8 (Int.fdiv (Int.fdiv (Int.fdiv (IntKind.wrap IntKind.u64 (wordX (nm, a, b, c, d, n))) (2 ^ 8)) (2 ^ 8)) (2 ^ 8))]) ([]) Fl.ro), (.int .i64 0)])) .fail))

theorem encXT_eq (nm : List UInt8) (a b c d n : Int) : (dfun cx11 Try.f11 [.agg [.str nm, .int .i64 a, .int .i64 b, .int .i64 c, .int .i64 d, .int .i64 n]]).run = (encXT nm a b c d n).run :=
  (show (dfun cx11 Try.f11 [.agg [.str nm, .int .i64 a, .int .i64 b, .int .i64 c, .int .i64 d, .int .i64 n]]).run = (encXT nm a b c d n).out by kernel_rfl).trans (Tree.out_run _)


/-! The document's Encode. -/

theorem encX_bytes {w : Int} (h0 : 0 ≤ w) (h1 : w < 4294967296) :
    [IntKind.wrap IntKind.u8 (IntKind.wrap IntKind.u64 w)] ++ [IntKind.wrap IntKind.u8 (Int.fdiv (IntKind.wrap IntKind.u64 w) (2 ^ 8))] ++ [IntKind.wrap IntKind.u8 (Int.fdiv (Int.fdiv (IntKind.wrap IntKind.u64 w) (2 ^ 8)) (2 ^ 8))] ++
      [IntKind.wrap IntKind.u8 (Int.fdiv (Int.fdiv (Int.fdiv (IntKind.wrap IntKind.u64 w) (2 ^ 8)) (2 ^ 8)) (2 ^ 8))] = bytes4 w := by
  have e : IntKind.wrap IntKind.u64 w = w := by rw [wrap_u64]; omega
  rw [e, bytes4_eq h0]
  simp only [wrap_u8]
  rw [Int.fdiv_eq_ediv_of_nonneg _ (by decide), Int.fdiv_eq_ediv_of_nonneg _ (by decide), Int.fdiv_eq_ediv_of_nonneg _ (by decide)]
  show [w % 256, w / 256 % 256, w / 256 / 256 % 256, w / 256 / 256 / 256 % 256] = _
  congr 2
  congr 1
  · omega
  congr 1
  omega

def encXS : Ab.Spec := fun args => match args with
  | [.agg [.str nm, .int .i64 a, .int .i64 b, .int .i64 c, .int .i64 d, .int .i64 n]] =>
    .br (encE (nm, a, b, c, d, n) == 0) (.leaf (.tup [.sl (.int .u8) (bytes4 (encW (nm, a, b, c, d, n))) [] .ro, .int .i64 0])) (.leaf (.tup [nilV, .int .i64 (encE (nm, a, b, c, d, n))]))
  | _ => .fail

theorem encXS_ok : Sound Try.prog 11 encXS := by
  intro args out h
  unfold encXS at h
  split at h
  rotate_left
  · cases h
  rename_i nm a b c d n
  refine pcall_fun' (cx := cx11) (fn := Try.f11) (cx1_ok (.cons checkS_ok (.cons wordXS_ok (.cons fixedS_ok (.nil _)))) (.nil _) rfl rfl) (by kernel_rfl) (by kernel_rfl) (by kernel_rfl) ?_
  refine (encXT_eq nm a b c d n).trans ?_
  rw [← h]
  unfold encXT
  rw [check_eq]
  cases hb : (encE (nm, a, b, c, d, n) == 0)
  · have : (encE (nm, a, b, c, d, n) != 0) = true := by simp [bne, hb]
    rw [this]
    rfl
  · have : (encE (nm, a, b, c, d, n) != 0) = false := by simp [bne, hb]
    obtain ⟨w0, w1⟩ := encW_rng hb
    obtain ⟨k1, k2⟩ := word_eq hb
    have k1 : fokX nm = true := k1
    rw [this, k1, k2, encX_bytes w0 w1]
    rfl

/-! Encode, its answer to be written over. -/


def encM : MSpec := fun args H => match args, H with
  | [.agg [.str nm, .int .i64 a, .int .i64 b, .int .i64 c, .int .i64 d, .int .i64 n]], [] =>
    .br (encE (nm, a, b, c, d, n) == 0) (.leaf (.ok (.tup [.ref 0 1 0 4, .int .i64 0]) [.cells (bytesV (encW (nm, a, b, c, d, n))) 4294967301])) (.leaf (.ok (.tup [nilV, .int .i64 (encE (nm, a, b, c, d, n))]) []))
  | _, _ => .fail

theorem encM_ok : MSound Try.prog 10 encM := by
  intro args H out h
  unfold encM at h
  split at h
  rotate_left
  · cases h
  rename_i nm a b c d n
  refine mcall_of' (c := bodyOf Try.f10) (fn := Try.f10) (by kernel_rfl) (by kernel_rfl) (by kernel_rfl) (by kernel_rfl) ?_
  have eqT := encMT_eq (nm, a, b, c, d, n)
  refine AWP_scope ?_
  refine AWP_code (cx := cxEr) rfl rfl cxEr_ok _ _ _ _ ?_
  replace eqT : (dcode cxEr (bodyOf Try.f10) (initT 0 [.agg [.str nm, .int .i64 a, .int .i64 b, .int .i64 c, .int .i64 d, .int .i64 n]]) []).run = _ := eqT
  generalize dcode cxEr (bodyOf Try.f10) _ _ = D at eqT ⊢
  refine Tree.all_of_run eqT ?_
  clear eqT
  have g1 := frow_by nm
  have g2 := frow_ok nm
  unfold encE encW at h
  unfold encMT
  simp only at g1 g2 ⊢
  refine ⟨fun h1 => ?_, fun h1 => all_t g1 ⟨fun h2 => ?_, fun h2 => all_t g2 ?_⟩⟩
  · have hf : fok nm = false := by simpa using h1
    simp only [hf] at h
    simp only [cond_false, Tree.run] at h
    have h : some (Res.ok (.tup [nilV, .int .i64 7]) []) = some out := h
    simp only [Option.some.injEq] at h
    subst h
    exact ⟨[], _, rfl, .inl rfl, rfl, by kernel_rfl⟩
  · have hf : fok nm = true := by simpa using h1
    simp only [hf] at h
    have h0 : (faultyF (frow nm) (nm, a, b, c, d, n) == 0) = false := by simpa [bne] using h2
    have h : some (Res.ok (.tup [nilV, .int .i64 (faultyF (frow nm) (nm, a, b, c, d, n))]) []) = some out := by
      rw [← h]
      show _ = (Tree.br (faultyF (frow nm) (nm, a, b, c, d, n) == 0) _ _).run
      rw [h0]
      rfl
    simp only [Option.some.injEq] at h
    subst h
    exact ⟨[], _, rfl, .inl rfl, rfl, by kernel_rfl⟩
  · have hf : fok nm = true := by simpa using h1
    simp only [hf] at h
    have h0 : (faultyF (frow nm) (nm, a, b, c, d, n) == 0) = true := by simpa [bne] using h2
    have h : some (Res.ok (.tup [.ref 0 1 0 4, .int .i64 0]) [.cells (bytesV (bitsF (frow nm) (nm, a, b, c, d, n))) 4294967301]) = some out := by
      rw [← h]
      show _ = (Tree.br (faultyF (frow nm) (nm, a, b, c, d, n) == 0) _ _).run
      rw [h0]
      rfl
    simp only [Option.some.injEq] at h
    subst h
    exact ⟨[2], _, rfl, .inl rfl, rfl, by kernel_rfl⟩

end Go.Arm
