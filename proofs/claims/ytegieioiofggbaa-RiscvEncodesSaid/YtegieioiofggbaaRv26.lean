/-
  Encode as its callers may write over what it answers; the document's Encode; Spoil. Conditions: none.
-/
import Derived.Test.YtegieioiofggbaaAbYb
import Derived.Test.YtegieioiofggbaaRv21
import Derived.Test.YtegieioiofggbaaRv9
namespace Go.Rv
open Go Go.Ab Go.Proofs

theorem Tree.all_of_run {x y : Tree St} {Q : St → Prop} (e : x.run = y.run) (h : y.all Q) : x.all Q := Tree.all_run_eq e h

noncomputable def cx9r : Cx := { cx9 with refs := [36] }
theorem cx9r_ok : CxOk cx9r := cx1_ok (.cons findS_ok (.cons faultyS_ok (.cons wordS_ok (.nil _)))) (.nil _) rfl rfl
def encMT (nm : List UInt8) (a b c d n : Int) : Tree St :=
  (.br (!fok nm) (.leaf (.ret, [(0, (.agg [(.str nm), (.int .i64 a), (.int .i64 b), (.int .i64 c), (.int .i64 d), (.int .i64 n)])), (1, (.ptr 0 0)), (2, (.val (Go.Value.slice Option.none 0 0))), (3, (.int .i64 7)), (4, (.ptr 1 0)), (5, (.bool (fok nm))), (15, (.bool true))], [(.cells [(.str nm), (.int .i64 a), (.int .i64 b), (.int .i64 c), (.int .i64 d), (.int .i64 n)] 29), (.cells [(.str (Prod.fst (frow nm))), (.int .i64 (Prod.fst (Prod.snd (frow nm)))), (.int .u32 (Prod.snd (Prod.snd (frow nm))))] 55)])) (.br (faultyF (Prod.fst (Prod.snd (frow nm))) a b c d n != 0) (.leaf (.ret, [(0, (.agg [(.str nm), (.int .i64 a), (.int .i64 b), (.int .i64 c), (.int .i64 d), (.int .i64 n)])), (1, (.ptr 0 0)), (2, (.val (Go.Value.slice Option.none 0 0))), (3, (.int .i64 (faultyF (Prod.fst (Prod.snd (frow nm))) a b c d n))), (4, (.ptr 1 0)), (5, (.bool (fok nm))), (6, (.int .i64 (faultyF (Prod.fst (Prod.snd (frow nm))) a b c d n))), (15, (.bool false)), (20, (.bool true))], [(.cells [(.str nm), (.int .i64 a), (.int .i64 b), (.int .i64 c), (.int .i64 d), (.int .i64 n)] 29), (.cells [(.str (Prod.fst (frow nm))), (.int .i64 (Prod.fst (Prod.snd (frow nm)))), (.int .u32 (Prod.snd (Prod.snd (frow nm))))] 55)])) (.leaf (.ret, [(0, (.agg [(.str nm), (.int .i64 a), (.int .i64 b), (.int .i64 c), (.int .i64 d), (.int .i64 n)])), (1, (.ptr 0 0)), (2, (.ref 2 1 0 4)), (3, (.int .i64 0)), (4, (.ptr 1 0)), (5, (.bool (fok nm))), (6, (.int .i64 (faultyF (Prod.fst (Prod.snd (frow nm))) a b c d n))), (7, (.int .u32 (wordF (Prod.fst (Prod.snd (frow nm))) (Prod.snd (Prod.snd (frow nm))) a b c n))), (15, (.bool false)), (20, (.bool false))], [(.cells [(.str nm), (.int .i64 a), (.int .i64 b), (.int .i64 c), (.int .i64 d), (.int .i64 n)] 29), (.cells [(.str (Prod.fst (frow nm))), (.int .i64 (Prod.fst (Prod.snd (frow nm)))), (.int .u32 (Prod.snd (Prod.snd (frow nm))))] 55), (.cells [(.int .u8 (IntKind.wrap IntKind.u8 (wordF (Prod.fst (Prod.snd (frow nm))) (Prod.snd (Prod.snd (frow nm))) a b c n))), (.int .u8 (IntKind.wrap IntKind.u8 (Int.fdiv (wordF (Prod.fst (Prod.snd (frow nm))) (Prod.snd (Prod.snd (frow nm))) a b c n) (2 ^ 8)))), (.int .u8 (IntKind.wrap IntKind.u8 (Int.fdiv (wordF (Prod.fst (Prod.snd (frow nm))) (Prod.snd (Prod.snd (frow nm))) a b c n) (2 ^ 16)))), (.int .u8 (IntKind.wrap IntKind.u8 (Int.fdiv (wordF (Prod.fst (Prod.snd (frow nm))) (Prod.snd (Prod.snd (frow nm))) a b c n) (2 ^ 24))))] 4294967301)]))))

theorem encMT_eq (nm : List UInt8) (a b c d n : Int) : (dcode cx9r (bodyOf Try.f9) (initT 0 [.agg [.str nm, .int .i64 a, .int .i64 b, .int .i64 c, .int .i64 d, .int .i64 n]]) []).run = (encMT nm a b c d n).run :=
  (show (dcode cx9r (bodyOf Try.f9) (initT 0 [.agg [.str nm, .int .i64 a, .int .i64 b, .int .i64 c, .int .i64 d, .int .i64 n]]) []).run = (encMT nm a b c d n).out by kernel_rfl).trans (Tree.out_run _)


/-- The context of foundry/foundrylaw1.Spoil. -/
noncomputable def cx12 : Cx := { P := Try.prog, n := 26, tab := [], mtab := [], refs := [], keeps := [0, 2, 3, 13, 20], fuel := 6 }
noncomputable def spoilM : MSpec := fun args H => .req (Nat.ble args.length Try.f12.ntmps) (mfun cx12 Try.f12 args H)
theorem spoilM_ok : MSound Try.prog 12 spoilM := msound_fun (cx := cx12) (fn := Try.f12) (cx0_ok rfl rfl) (by kernel_rfl) (by kernel_rfl)
def spoil4 (_a _b _c _d : Int) : Tree Res :=
  (.leaf (.ok (.tup []) [(.cells [(.int .u8 238), (.int .u8 238), (.int .u8 238), (.int .u8 238)] 4294967301)]))

theorem spoil4_eq (a b c d : Int) : (mfun cx12 Try.f12 [.ref 0 1 0 4] [.cells [.int .u8 a, .int .u8 b, .int .u8 c, .int .u8 d] 4294967301]).run = (spoil4 a b c d).run :=
  (show (mfun cx12 Try.f12 [.ref 0 1 0 4] [.cells [.int .u8 a, .int .u8 b, .int .u8 c, .int .u8 d] 4294967301]).run = (spoil4 a b c d).out by kernel_rfl).trans (Tree.out_run _)

def spoil0  : Tree Res :=
  (.leaf (.ok (.tup []) []))

theorem spoil0_eq  : (mfun cx12 Try.f12 [nilV] []).run = (spoil0 ).run :=
  (show (mfun cx12 Try.f12 [nilV] []).run = (spoil0 ).out by kernel_rfl).trans (Tree.out_run _)


/-- The context of foundry/foundryref1.Fixed. -/
noncomputable def cx26 : Cx := { P := Try.prog, n := 20, tab := [], mtab := [], refs := [], keeps := [0, 1, 4, 5, 6, 9], fuel := 6 }
noncomputable def fixedS : Ab.Spec := fun args => .req (Nat.ble args.length Try.f26.ntmps) (dfun cx26 Try.f26 args)
theorem fixedS_ok : Sound Try.prog 26 fixedS := sound_fun (cx := cx26) (fn := Try.f26) (cx0_ok rfl rfl) (by kernel_rfl) (by kernel_rfl)
/-- The context of foundry/foundryref8.Encode. -/
noncomputable def cx10 : Cx := { P := Try.prog, n := 14, tab := [(25, checkS), (27, wordXS), (26, fixedS)], mtab := [], refs := [], keeps := [0, 1, 2, 3, 4, 8] }
def encXT (nm : List UInt8) (a b c d n : Int) : Tree V :=
  (.br (checkX (nm, a, b, c, d, n) != 0) (.leaf (.tup [(.val (Go.Value.slice Option.none 0 0)), (.int .i64 (checkX (nm, a, b, c, d, n)))])) (.leaf (.tup [(.sl (.int .u8) ([IntKind.wrap IntKind.u8 (IntKind.wrap IntKind.u64 (wordX (nm, a, b, c, d, n)))] ++ [IntKind.wrap IntKind.u8 (Int.fdiv (IntKind.wrap IntKind.u64 (wordX (nm, a, b, c, d, n))) (2 ^ 8))] ++ [IntKind.wrap IntKind.u8 (Int.fdiv (Int.fdiv (IntKind.wrap IntKind.u64 (wordX (nm, a, b, c, d, n))) (2 ^ 8)) (2 ^ 8))] ++ [IntKind.wrap IntKind.u8 (Int.fdiv (Int.fdiv (Int.fdiv (IntKind.wrap IntKind.u64 (wordX (nm, a, b, c, d, n))) (2 ^ 8)) (2 ^ 8)) (2 ^ 8))]) ([]) Fl.ro), (.int .i64 0)])))

theorem encXT_eq (nm : List UInt8) (a b c d n : Int) : (dfun cx10 Try.f10 [.agg [.str nm, .int .i64 a, .int .i64 b, .int .i64 c, .int .i64 d, .int .i64 n]]).run = (encXT nm a b c d n).run :=
  (show (dfun cx10 Try.f10 [.agg [.str nm, .int .i64 a, .int .i64 b, .int .i64 c, .int .i64 d, .int .i64 n]]).run = (encXT nm a b c d n).out by kernel_rfl).trans (Tree.out_run _)


/-! The document's Encode. -/

theorem encX_bytes {w : Int} (h0 : 0 ≤ w) (h1 : w < 4294967296) :
    [IntKind.wrap IntKind.u8 (IntKind.wrap IntKind.u64 w)] ++ [IntKind.wrap IntKind.u8 (Int.fdiv (IntKind.wrap IntKind.u64 w) (2 ^ 8))] ++ [IntKind.wrap IntKind.u8 (Int.fdiv (Int.fdiv (IntKind.wrap IntKind.u64 w) (2 ^ 8)) (2 ^ 8))] ++
      [IntKind.wrap IntKind.u8 (Int.fdiv (Int.fdiv (Int.fdiv (IntKind.wrap IntKind.u64 w) (2 ^ 8)) (2 ^ 8)) (2 ^ 8))] = bytes4 w := by
  have e : IntKind.wrap IntKind.u64 w = w := by rw [wrap_u64]; omega
  rw [e, bytes4_eq h0]
  simp only [wrap_u8]
  rw [Int.fdiv_eq_ediv_of_nonneg _ (by decide), Int.fdiv_eq_ediv_of_nonneg _ (by decide), Int.fdiv_eq_ediv_of_nonneg _ (by decide)]
  show [w % 256, w / 256 % 256, w / 256 / 256 % 256, w / 256 / 256 / 256 % 256] = _
  congr 2
  congr 1
  · omega
  congr 1
  omega

def encXS : Ab.Spec := fun args => match args with
  | [.agg [.str nm, .int .i64 a, .int .i64 b, .int .i64 c, .int .i64 d, .int .i64 n]] =>
    .br (encE (nm, a, b, c, d, n) == 0) (.leaf (.tup [.sl (.int .u8) (bytes4 (encW (nm, a, b, c, d, n))) [] .ro, .int .i64 0])) (.leaf (.tup [nilV, .int .i64 (encE (nm, a, b, c, d, n))]))
  | _ => .fail

theorem encXS_ok : Sound Try.prog 10 encXS := by
  intro args out h
  unfold encXS at h
  split at h
  rotate_left
  · cases h
  rename_i nm a b c d n
  refine pcall_fun' (cx := cx10) (fn := Try.f10) (cx1_ok (.cons checkS_ok (.cons wordXS_ok (.cons fixedS_ok (.nil _)))) (.nil _) rfl rfl) (by kernel_rfl) (by kernel_rfl) (by kernel_rfl) ?_
  refine (encXT_eq nm a b c d n).trans ?_
  rw [← h]
  unfold encXT
  rw [check_eq]
  cases hb : (encE (nm, a, b, c, d, n) == 0)
  · have : (encE (nm, a, b, c, d, n) != 0) = true := by simp [bne, hb]
    rw [this]
    rfl
  · have : (encE (nm, a, b, c, d, n) != 0) = false := by simp [bne, hb]
    obtain ⟨w0, w1⟩ := encW_rng hb
    rw [this, word_eq hb, encX_bytes w0 w1]
    rfl

/-! Encode, its answer to be written over. -/

def bytesV (w : Int) : List V := [.int .u8 (IntKind.wrap .u8 w), .int .u8 (IntKind.wrap .u8 (Int.fdiv w (2 ^ 8))), .int .u8 (IntKind.wrap .u8 (Int.fdiv w (2 ^ 16))), .int .u8 (IntKind.wrap .u8 (Int.fdiv w (2 ^ 24)))]

def encM : MSpec := fun args H => match args, H with
  | [.agg [.str nm, .int .i64 a, .int .i64 b, .int .i64 c, .int .i64 d, .int .i64 n]], [] =>
    .br (encE (nm, a, b, c, d, n) == 0) (.leaf (.ok (.tup [.ref 0 1 0 4, .int .i64 0]) [.cells (bytesV (encW (nm, a, b, c, d, n))) 4294967301])) (.leaf (.ok (.tup [nilV, .int .i64 (encE (nm, a, b, c, d, n))]) []))
  | _, _ => .fail

theorem encM_ok : MSound Try.prog 9 encM := by
  intro args H out h
  unfold encM at h
  split at h
  rotate_left
  · cases h
  rename_i nm a b c d n
  refine mcall_of' (c := bodyOf Try.f9) (fn := Try.f9) (by kernel_rfl) (by kernel_rfl) (by kernel_rfl) (by kernel_rfl) ?_
  have eqT := encMT_eq nm a b c d n
  refine AWP_scope ?_
  refine AWP_code (cx := cx9r) rfl rfl cx9r_ok _ _ _ _ ?_
  generalize dcode cx9r (bodyOf Try.f9) _ _ = D at eqT ⊢
  refine Tree.all_of_run eqT ?_
  clear eqT
  unfold encE encW at h
  refine ⟨fun h1 => ?_, fun h1 => ⟨fun h2 => ?_, fun h2 => ?_⟩⟩
  · have hf : fok nm = false := by simpa using h1
    simp only [hf] at h
    simp only [cond_false, Tree.run] at h
    have h : some (Res.ok (.tup [nilV, .int .i64 7]) []) = some out := h
    simp only [Option.some.injEq] at h
    subst h
    exact ⟨[], _, rfl, .inl rfl, rfl, by kernel_rfl⟩
  · have hf : fok nm = true := by simpa using h1
    simp only [hf] at h
    have h0 : (faultyF (frow nm).2.1 a b c d n == 0) = false := by simpa [bne] using h2
    have h : some (Res.ok (.tup [nilV, .int .i64 (faultyF (frow nm).2.1 a b c d n)]) []) = some out := by
      rw [← h]
      show _ = (Tree.br (faultyF (frow nm).2.1 a b c d n == 0) _ _).run
      rw [h0]
      rfl
    simp only [Option.some.injEq] at h
    subst h
    exact ⟨[], _, rfl, .inl rfl, rfl, by kernel_rfl⟩
  · have hf : fok nm = true := by simpa using h1
    simp only [hf] at h
    have h0 : (faultyF (frow nm).2.1 a b c d n == 0) = true := by simpa [bne] using h2
    have h : some (Res.ok (.tup [.ref 0 1 0 4, .int .i64 0]) [.cells (bytesV (wordF (frow nm).2.1 (frow nm).2.2 a b c n)) 4294967301]) = some out := by
      rw [← h]
      show _ = (Tree.br (faultyF (frow nm).2.1 a b c d n == 0) _ _).run
      rw [h0]
      rfl
    simp only [Option.some.injEq] at h
    subst h
    exact ⟨[2], _, rfl, .inl rfl, rfl, by kernel_rfl⟩

end Go.Rv
