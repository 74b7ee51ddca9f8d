/-
  Small functions of the document's answer. Conditions: none.
-/
import Derived.Test.YtegieioiofggbaaRv16
import Derived.Test.YtegieioiofggbaaRv8
import Derived.Test.YtegieioiofggbaaAbYa
namespace Go.Rv
open Go Go.Ab Go.Proofs

/-- The context of foundry/foundryref8.bits. -/
noncomputable def cx33 : Cx := { P := Try.prog, n := 14, tab := [], mtab := [], refs := [], keeps := [0, 1, 2, 6] }
/-- The context of foundry/foundryref1.sized. -/
noncomputable def cx49 : Cx := { P := Try.prog, n := 17, tab := [], mtab := [], refs := [], keeps := [0, 2] }
/-- The context of foundry/foundryref8.bounds. -/
noncomputable def cx41 : Cx := { P := Try.prog, n := 19, tab := [], mtab := [], refs := [], keeps := [0, 2, 3, 4, 5, 6, 9, 11, 13, 15, 17] }
/-- The context of foundry/foundryref8.has. -/
noncomputable def cx32 : Cx := { P := Try.prog, n := 17, tab := [], mtab := [], refs := [], keeps := [0, 1, 4, 5, 9, 16] }
def bitsT (n fr si : Int) : Tree V :=
  (.br (decide (0 ≤ fr)) (.br (decide (0 ≤ si)) (.leaf (.int .u32 (IntKind.wrap IntKind.u32 ↑(BitVec.toNat (BitVec.ofInt 32 (Int.fdiv n (2 ^ Min.min (Int.toNat fr) 32)) &&& BitVec.ofInt 32 (IntKind.wrap IntKind.u32 (IntKind.wrap IntKind.u32 (1 * 2 ^ Min.min (Int.toNat si) 32) - 1))))))) .fail) .fail)

theorem bitsT_eq (n fr si : Int) : (dfun cx33 Try.f33 [.int .u32 n, .int .u64 fr, .int .u64 si]).run = (bitsT n fr si).run :=
  (show (dfun cx33 Try.f33 [.int .u32 n, .int .u64 fr, .int .u64 si]).run = (bitsT n fr si).out by kernel_rfl).trans (Tree.out_run _)

def sizedT (n : Int) : Tree V :=
  (.br (n == 1) (.leaf (.bool true)) (.br (n == 2) (.leaf (.bool true)) (.br (n == 4) (.leaf (.bool true)) (.leaf (.bool (n == 8))))))

theorem sizedT_eq (n : Int) : (dfun cx49 Try.f49 [.int .i64 n]).run = (sizedT n).run :=
  (show (dfun cx49 Try.f49 [.int .i64 n]).run = (sizedT n).out by kernel_rfl).trans (Tree.out_run _)

def boundsXT (f : Int) : Tree V :=
  (.br (f == 73) (.leaf (.tup [(.int .i64 (-2048)), (.int .i64 2047), (.int .i64 1)])) (.br (f == 83) (.leaf (.tup [(.int .i64 (-2048)), (.int .i64 2047), (.int .i64 1)])) (.br (f == 104) (.leaf (.tup [(.int .i64 0), (.int .i64 63), (.int .i64 1)])) (.br (f == 119) (.leaf (.tup [(.int .i64 0), (.int .i64 31), (.int .i64 1)])) (.br (f == 66) (.leaf (.tup [(.int .i64 (-4096)), (.int .i64 4094), (.int .i64 2)])) (.br (f == 85) (.leaf (.tup [(.int .i64 (-524288)), (.int .i64 524287), (.int .i64 1)])) (.br (f == 74) (.leaf (.tup [(.int .i64 (-1048576)), (.int .i64 1048574), (.int .i64 2)])) (.leaf (.tup [(.int .i64 0), (.int .i64 0), (.int .i64 1)])))))))))

theorem boundsXT_eq (f : Int) : (dfun cx41 Try.f41 [.int .u8 f]).run = (boundsXT f).run :=
  (show (dfun cx41 Try.f41 [.int .u8 f]).run = (boundsXT f).out by kernel_rfl).trans (Tree.out_run _)

def hasRound (s : List UInt8) (c k : Int) : Tree St :=
  (.br (decide (k < ↑(List.length s))) (.br (inside k (List.length s)) (.br (↑(UInt8.toNat (List.getD s (Int.toNat k) 0)) == c) (.leaf (.ret, [(0, (.str s)), (1, (.int .u8 c)), (4, (.bool true)), (5, (.int .i64 k)), (9, (.bool true)), (16, (.bool true))], [])) (.leaf (.normal, [(0, (.str s)), (1, (.int .u8 c)), (5, (.int .i64 (IntKind.wrap IntKind.i64 (k + 1)))), (9, (.bool true)), (16, (.bool false))], []))) .fail) (.leaf ((.exit 0), [(0, (.str s)), (1, (.int .u8 c)), (5, (.int .i64 k)), (9, (.bool false))], [])))

theorem hasRound_eq (s : List UInt8) (c k : Int) : (dcode cx32 (cin (cin (c2 (c1 (tailN 0 (bodyOf Try.f32)))))) [(0, .str s), (1, .int .u8 c), (5, .int .i64 k)] []).run = (hasRound s c k).run :=
  (show (dcode cx32 (cin (cin (c2 (c1 (tailN 0 (bodyOf Try.f32)))))) [(0, .str s), (1, .int .u8 c), (5, .int .i64 k)] []).run = (hasRound s c k).out by kernel_rfl).trans (Tree.out_run _)

def hasEnd  : Tree St :=
  (.leaf (.ret, [(4, (.bool false))], []))

theorem hasEnd_eq  : (dcode cx32 (tailN 1 (bodyOf Try.f32)) [] []).run = (hasEnd ).run :=
  (show (dcode cx32 (tailN 1 (bodyOf Try.f32)) [] []).run = (hasEnd ).out by kernel_rfl).trans (Tree.out_run _)


/-- Some bits of a word. -/
def bitX (n fr si : Int) : Int := IntKind.wrap IntKind.u32 ↑(BitVec.toNat (BitVec.ofInt 32 (Int.fdiv n (2 ^ Min.min (Int.toNat fr) 32)) &&& BitVec.ofInt 32 (IntKind.wrap IntKind.u32 (IntKind.wrap IntKind.u32 (1 * 2 ^ Min.min (Int.toNat si) 32) - 1))))

def bitsS : Ab.Spec := fun args => match args with
  | [.int .u32 n, .int .u64 fr, .int .u64 si] => .req (decide (0 ≤ fr)) (.req (decide (0 ≤ si)) (.leaf (.int .u32 (bitX n fr si))))
  | _ => .fail

theorem bitsS_ok : Sound Try.prog 33 bitsS := by
  intro args out h
  unfold bitsS at h
  split at h
  rotate_left
  · cases h
  refine pcall_fun' (cx := cx33) (fn := Try.f33) (cx0_ok rfl rfl) (by kernel_rfl) (by kernel_rfl) (by kernel_rfl) ?_
  rw [bitsT_eq]
  exact h

def sizedX (n : Int) : Bool := cond (n == 1) true (cond (n == 2) true (cond (n == 4) true (n == 8)))
def sizedS : Ab.Spec := fun args => match args with
  | [.int .i64 n] => .leaf (.bool (sizedX n))
  | _ => .fail

theorem sizedS_ok : Sound Try.prog 49 sizedS := by
  intro args out h
  unfold sizedS at h
  split at h
  rotate_left
  · cases h
  rename_i n
  refine pcall_fun' (cx := cx49) (fn := Try.f49) (cx0_ok rfl rfl) (by kernel_rfl) (by kernel_rfl) (by kernel_rfl) ?_
  rw [sizedT_eq, ← h]
  unfold sizedT sizedX
  cases (n == 1) <;> cases (n == 2) <;> cases (n == 4) <;> rfl

def bndX (f : Int) : Int × Int × Int :=
  cond (f == 73) (-2048, 2047, 1) (cond (f == 83) (-2048, 2047, 1) (cond (f == 104) (0, 63, 1) (cond (f == 119) (0, 31, 1) (cond (f == 66) (-4096, 4094, 2)
    (cond (f == 85) (-524288, 524287, 1) (cond (f == 74) (-1048576, 1048574, 2) (0, 0, 1)))))))

def boundsXS : Ab.Spec := fun args => match args with
  | [.int .u8 f] => .leaf (.tup [.int .i64 (bndX f).1, .int .i64 (bndX f).2.1, .int .i64 (bndX f).2.2])
  | _ => .fail

theorem boundsXS_ok : Sound Try.prog 41 boundsXS := by
  intro args out h
  unfold boundsXS at h
  split at h
  rotate_left
  · cases h
  rename_i f
  refine pcall_fun' (cx := cx41) (fn := Try.f41) (cx0_ok rfl rfl) (by kernel_rfl) (by kernel_rfl) (by kernel_rfl) ?_
  rw [boundsXT_eq, ← h]
  unfold boundsXT bndX
  cases (f == 73)
  rotate_left
  · kernel_rfl
  cases (f == 83)
  rotate_left
  · kernel_rfl
  cases (f == 104)
  rotate_left
  · kernel_rfl
  cases (f == 119)
  rotate_left
  · kernel_rfl
  cases (f == 66)
  rotate_left
  · kernel_rfl
  cases (f == 85)
  rotate_left
  · kernel_rfl
  cases (f == 74) <;> kernel_rfl

/-! Does a text have a letter? -/

def isL (c : Int) (b : UInt8) : Bool := ((UInt8.toNat b : Nat) : Int) == c
def hasX (s : List UInt8) (c : Int) : Bool := s.any (isL c)

theorem any_take_succ {α : Type} {p : α → Bool} {l : List α} {i : Nat} {d : α} (hi : i < l.length) : (l.take (i + 1)).any p = ((l.take i).any p || p (l.getD i d)) := by
  rw [List.take_add_one, List.getElem?_eq_getElem hi, getD_lt hi, List.any_append]
  simp

def hasSt (s : List UInt8) (c : Int) (i : { i : Nat // i ≤ s.length ∧ (s.take i).any (isL c) = false }) : T × List O := ([(0, .str s), (1, .int .u8 c), (5, .int .i64 i.1)], [])

theorem has_ok (s : List UInt8) (c : Int) (hl : s.length < 1000000000) : PCall Try.prog 32 [.str s, .int .u8 c] (.bool (hasX s c)) := by
  refine pcall_of' (c := bodyOf Try.f32) (fn := Try.f32) (by kernel_rfl) (by kernel_rfl) (by kernel_rfl) (by kernel_rfl) ?_
  have e : bodyOf Try.f32 = .seq (c1 (bodyOf Try.f32)) (.seq (.seq (c1 (c1 (tailN 0 (bodyOf Try.f32)))) (.block 0 (.loop (cin (cin (c2 (c1 (tailN 0 (bodyOf Try.f32)))))))))  (tailN 1 (bodyOf Try.f32))) := by kernel_rfl
  rw [e]
  generalize hQ : (fun e t H => (e = AEx.ret ∨ e = .normal) ∧ answerV Try.prog Try.f32.results.toList H t = some (.bool (hasX s c))) = Q
  have hok : CxOk cx32 := cx0_ok rfl rfl
  refine AWP_seq (AWP_run (cx := cx32) rfl rfl hok (s := (.normal, [(0, .str s), (1, .int .u8 c), (4, .bool false)], [])) (by kernel_rfl) ?_)
  refine AWP_seq (AWP_seq (AWP_run (cx := cx32) rfl rfl hok (s := (.normal, [(0, .str s), (1, .int .u8 c), (4, .bool false), (5, .int .i64 0)], [])) (by kernel_rfl) ?_))
  refine AWP_block ?_
  refine AWP.less (s := (hasSt s c ⟨0, Nat.zero_le _, rfl⟩).1) (Fits.tle ⟨rfl, rfl, rfl, trivial⟩) ?_
  refine AWP_rounds (cx := cx32) (P := Try.prog) (n := 17) rfl rfl hok (hasSt s c) (fun i => s.length - i.1) ?_ ⟨0, Nat.zero_le _, rfl⟩
  rintro ⟨i, hi, hnone⟩
  refine Tree.all_run_eq (hasRound_eq s c i) ?_
  refine ⟨fun hlt => ⟨fun hin => ⟨fun hm => ?_, fun hm => ?_⟩, fun hin => ?_⟩, fun hge => ?_⟩
  · have hlt : i < s.length := Int.ofNat_lt.1 (of_decide_eq_true hlt)
    refine ⟨[], _, rfl, ?_⟩
    subst hQ
    refine ⟨.inl rfl, ?_⟩
    have h1 : hasX s c = true := by
      unfold hasX
      rw [List.any_eq_true]
      exact ⟨s.getD i 0, by rw [getD_lt hlt]; exact List.getElem_mem hlt, hm⟩
    show answerV _ _ _ _ = some _
    rw [h1]
    kernel_rfl
  · have hlt : i < s.length := Int.ofNat_lt.1 (of_decide_eq_true hlt)
    have hn : (s.take (i + 1)).any (isL c) = false := by
      rw [any_take_succ (d := 0) hlt, hnone, Bool.false_or]
      exact hm
    refine ⟨[], _, rfl, ⟨i + 1, hlt, hn⟩, by show s.length - (i + 1) < s.length - i; omega, Fits.tle ⟨rfl, rfl, ?_, trivial⟩, rfl⟩
    show V.int .i64 (IntKind.wrap .i64 ((i : Int) + 1)) = V.int .i64 ((i + 1 : Nat) : Int)
    rw [wrap_i64 (by omega) (by omega)]
    rfl
  · exfalso
    have hlt : i < s.length := Int.ofNat_lt.1 (of_decide_eq_true hlt)
    exact Bool.noConfusion ((inside_of (Int.natCast_nonneg i) (Int.ofNat_lt.2 hlt)).symm.trans hin)
  · have hge : ¬ i < s.length := fun h => of_decide_eq_false hge (Int.ofNat_lt.2 h)
    have hi' : i = s.length := by omega
    refine ⟨[], _, rfl, ?_⟩
    show AWP _ _ _ _ _ _
    refine AWP.less (s := []) (Fits.tle trivial) ?_
    refine AWP_run (cx := cx32) rfl rfl hok (s := (.ret, [(4, .bool false)], [])) (by kernel_rfl) ?_
    subst hQ
    refine ⟨.inl rfl, ?_⟩
    have h1 : hasX s c = false := by unfold hasX; rw [← hnone, hi', List.take_length]
    show answerV _ _ _ _ = some _
    rw [h1]
    kernel_rfl

def hasS : Ab.Spec := fun args => match args with
  | [.str s, .int .u8 c] => .req (decide (s.length < 1000000000)) (.leaf (.bool (hasX s c)))
  | _ => .fail

theorem hasS_ok : Sound Try.prog 32 hasS := by
  intro args out h
  unfold hasS at h
  split at h
  rotate_left
  · cases h
  obtain ⟨h1, h2⟩ := req_run h
  simp only [Tree.run, Option.some.injEq] at h2
  subst h2
  exact has_ok _ _ (of_decide_eq_true h1)

end Go.Rv
