/-
  The document's masks by their fields. Conditions: none.
-/
import Derived.Test.YtffamklolgjjdaaAr3
namespace Go.Arm
open Go Go.Ab Go.Proofs Go.Wd

/-- The context of foundry/foundryref10.high. -/
noncomputable def cx53 : Cx := { P := Try.prog, n := 12, tab := [], mtab := [], refs := [], keeps := [0, 2, 3, 4, 6, 8, 10] }
/-- The context of foundry/foundryref10.size. -/
noncomputable def cx62 : Cx := { P := Try.prog, n := 23, tab := [], mtab := [], refs := [], keeps := [0, 1, 4, 5, 8, 11, 14, 17, 20] }
/-- The context of foundry/foundryref10.element. -/
noncomputable def cx63 : Cx := { P := Try.prog, n := 28, tab := [], mtab := [], refs := [], keeps := [0, 1, 2, 6, 7, 8, 9, 11, 21] }
def highT (e : Int) : Tree V :=
  (.br (e == 16) (.leaf (.int .i64 32)) (.br (e == 8) (.leaf (.int .i64 48)) (.br (e == 4) (.leaf (.int .i64 56)) (.br (e == 2) (.leaf (.int .i64 60)) (.leaf (.int .i64 0))))))

theorem highT_eq (e : Int) : (dfun cx53 Try.f53 [.int .i64 e]).run = (highT e).run :=
  (show (dfun cx53 Try.f53 [.int .i64 e]).run = (highT e).out by kernel_rfl).trans (Tree.out_run _)

def sizeT (n s : Int) : Tree V :=
  (.br (n == 1) (.leaf (.int .i64 64)) (.br (decide (s < 32)) (.leaf (.int .i64 32)) (.br (decide (s < 48)) (.leaf (.int .i64 16)) (.br (decide (s < 56)) (.leaf (.int .i64 8)) (.br (decide (s < 60)) (.leaf (.int .i64 4)) (.br (decide (s < 62)) (.leaf (.int .i64 2)) (.leaf (.int .i64 0))))))))

theorem sizeT_eq (n s : Int) : (dfun cx62 Try.f62 [.int .i64 n, .int .i64 s]).run = (sizeT n s).run :=
  (show (dfun cx62 Try.f62 [.int .i64 n, .int .i64 s]).run = (sizeT n s).out by kernel_rfl).trans (Tree.out_run _)

def elRound (e c r x i : Int) : Tree St :=
  (.br (decide (i < 64)) (.br (!decide (e = 0)) (.br (decide (Int.tmod (IntKind.wrap IntKind.i64 (i + r)) e < c)) (.br (decide (0 ≤ IntKind.wrap IntKind.u64 i)) (.leaf (.normal, [(0, (.int .i64 e)), (1, (.int .i64 c)), (2, (.int .i64 r)), (7, (.int .u64 (IntKind.wrap IntKind.u64 ↑(BitVec.toNat (BitVec.ofInt 64 x ||| BitVec.ofInt 64 (IntKind.wrap IntKind.u64 (1 * 2 ^ Min.min (Int.toNat (IntKind.wrap IntKind.u64 i)) 64))))))), (8, (.int .i64 (IntKind.wrap IntKind.i64 (i + 1)))), (9, (.int .i64 (Int.tmod (IntKind.wrap IntKind.i64 (i + r)) e))), (11, (.bool true)), (21, (.bool true))], [])) .fail) (.leaf (.normal, [(0, (.int .i64 e)), (1, (.int .i64 c)), (2, (.int .i64 r)), (7, (.int .u64 x)), (8, (.int .i64 (IntKind.wrap IntKind.i64 (i + 1)))), (9, (.int .i64 (Int.tmod (IntKind.wrap IntKind.i64 (i + r)) e))), (11, (.bool true)), (21, (.bool false))], []))) .fail) (.leaf ((.exit 0), [(0, (.int .i64 e)), (1, (.int .i64 c)), (2, (.int .i64 r)), (7, (.int .u64 x)), (8, (.int .i64 i)), (11, (.bool false))], [])))

theorem elRound_eq (e c r x i : Int) : (dcode cx63 (cin (cin (c2 (c1 (tailN 1 (bodyOf Try.f63)))))) [(0, .int .i64 e), (1, .int .i64 c), (2, .int .i64 r), (7, .int .u64 x), (8, .int .i64 i)] []).run = (elRound e c r x i).run :=
  (show (dcode cx63 (cin (cin (c2 (c1 (tailN 1 (bodyOf Try.f63)))))) [(0, .int .i64 e), (1, .int .i64 c), (2, .int .i64 r), (7, .int .u64 x), (8, .int .i64 i)] []).run = (elRound e c r x i).out by kernel_rfl).trans (Tree.out_run _)

def elEnd (x : Int) : Tree St :=
  (.leaf (.ret, [(6, (.int .u64 x)), (7, (.int .u64 x))], []))

theorem elEnd_eq (x : Int) : (dcode cx63 (tailN 2 (bodyOf Try.f63)) [(7, .int .u64 x)] []).run = (elEnd x).run :=
  (show (dcode cx63 (tailN 2 (bodyOf Try.f63)) [(7, .int .u64 x)] []).run = (elEnd x).out by kernel_rfl).trans (Tree.out_run _)


def highF (e : Int) : Int := cond (e == 16) 32 (cond (e == 8) 48 (cond (e == 4) 56 (cond (e == 2) 60 0)))
def sizeF (n s : Int) : Int := cond (n == 1) 64 (cond (decide (s < 32)) 32 (cond (decide (s < 48)) 16 (cond (decide (s < 56)) 8 (cond (decide (s < 60)) 4 (cond (decide (s < 62)) 2 0)))))
def highS : Ab.Spec := fun args => match args with
  | [.int .i64 e] => .leaf (.int .i64 (highF e))
  | _ => .fail
def sizeS : Ab.Spec := fun args => match args with
  | [.int .i64 n, .int .i64 s] => .leaf (.int .i64 (sizeF n s))
  | _ => .fail
theorem highS_ok : Sound Try.prog 53 highS := by
  intro args out h
  unfold highS at h
  split at h
  rotate_left
  · cases h
  rename_i e
  have h := leaf_out h
  subst h
  refine pcall_fun' (cx := cx53) (fn := Try.f53) (cx0_ok rfl rfl) (by kernel_rfl) (by kernel_rfl) (by kernel_rfl) ?_
  rw [highT_eq]
  unfold highT highF
  cases (e == 16) <;> cases (e == 8) <;> cases (e == 4) <;> cases (e == 2) <;> rfl
theorem sizeS_ok : Sound Try.prog 62 sizeS := by
  intro args out h
  unfold sizeS at h
  split at h
  rotate_left
  · cases h
  rename_i n s
  have h := leaf_out h
  subst h
  refine pcall_fun' (cx := cx62) (fn := Try.f62) (cx0_ok rfl rfl) (by kernel_rfl) (by kernel_rfl) (by kernel_rfl) ?_
  rw [sizeT_eq]
  unfold sizeT sizeF
  cases (n == 1) <;> cases decide (s < 32) <;> cases decide (s < 48) <;> cases decide (s < 56) <;> cases decide (s < 60) <;> cases decide (s < 62) <;> rfl

/-! The element, bit by bit. -/

noncomputable def elemN (e c r k : Nat) : Nat := Nat.rec (motive := fun _ => Nat) 0 (fun i x => cond (Nat.blt ((i + r) % e) c) (x ||| 2 ^ i) x) k
theorem elemN_succ (e c r k : Nat) : elemN e c r (k + 1) = cond (Nat.blt ((k + r) % e) c) (elemN e c r k ||| 2 ^ k) (elemN e c r k) := rfl
theorem elemN_lt (e c r : Nat) : ∀ k, k ≤ 64 → elemN e c r k < 2 ^ 64
  | 0, _ => Nat.two_pow_pos 64
  | k + 1, h => by
    rw [elemN_succ]
    have ih := elemN_lt e c r k (by omega)
    cases Nat.blt ((k + r) % e) c
    · exact ih
    · exact Nat.or_lt_two_pow ih (Nat.pow_lt_pow_right (by omega) (by omega))

noncomputable def elSt (e c r : Nat) (i : { i : Nat // i ≤ 64 }) : T × List O := ([(0, .int .i64 (e : Int)), (1, .int .i64 (c : Int)), (2, .int .i64 (r : Int)), (7, .int .u64 ((elemN e c r i.1 : Nat) : Int)), (8, .int .i64 (i.1 : Int))], [])

theorem el_ok (e c r : Nat) (h1 : 1 ≤ e) (h2 : e ≤ 64) (_h3 : c ≤ 64) (h4 : r ≤ 63) : PCall Try.prog 63 [.int .i64 (e : Int), .int .i64 (c : Int), .int .i64 (r : Int)] (.int .u64 ((elemN e c r 64 : Nat) : Int)) := by
  refine pcall_of' (c := bodyOf Try.f63) (fn := Try.f63) (by kernel_rfl) (by kernel_rfl) (by kernel_rfl) (by kernel_rfl) ?_
  have eb : bodyOf Try.f63 = .seq (c1 (bodyOf Try.f63)) (.seq (c1 (tailN 0 (bodyOf Try.f63))) (.seq (.seq (c1 (c1 (tailN 1 (bodyOf Try.f63)))) (.block 0 (.loop (cin (cin (c2 (c1 (tailN 1 (bodyOf Try.f63))))))))) (tailN 2 (bodyOf Try.f63)))) := by kernel_rfl
  rw [eb]
  generalize hQ : (fun e' t H => (e' = AEx.ret ∨ e' = .normal) ∧ answerV Try.prog Try.f63.results.toList H t = some (.int .u64 ((elemN e c r 64 : Nat) : Int))) = Q
  have hok : CxOk cx63 := cx0_ok rfl rfl
  refine AWP_seq (AWP_run (cx := cx63) rfl rfl hok (s := (.normal, [(0, .int .i64 (e : Int)), (1, .int .i64 (c : Int)), (2, .int .i64 (r : Int)), (6, .int .u64 0)], [])) (by kernel_rfl) ?_)
  refine AWP_seq (AWP_run (cx := cx63) rfl rfl hok (s := (.normal, [(0, .int .i64 (e : Int)), (1, .int .i64 (c : Int)), (2, .int .i64 (r : Int)), (6, .int .u64 0), (7, .int .u64 0)], [])) (by kernel_rfl) ?_)
  refine AWP_seq (AWP_seq (AWP_run (cx := cx63) rfl rfl hok (s := (.normal, [(0, .int .i64 (e : Int)), (1, .int .i64 (c : Int)), (2, .int .i64 (r : Int)), (6, .int .u64 0), (7, .int .u64 0), (8, .int .i64 0)], [])) (by kernel_rfl) ?_))
  refine AWP_block ?_
  refine AWP.less (s := (elSt e c r ⟨0, Nat.zero_le _⟩).1) (Fits.tle ⟨rfl, rfl, rfl, rfl, rfl, trivial⟩) ?_
  refine AWP_rounds (cx := cx63) (P := Try.prog) (n := 28) rfl rfl hok (elSt e c r) (fun i => 64 - i.1) ?_ ⟨0, Nat.zero_le _⟩
  rintro ⟨i, hi⟩
  refine Tree.all_run_eq (elRound_eq e c r (elemN e c r i : Nat) i) ?_
  have hw : Int.tmod (IntKind.wrap IntKind.i64 ((i : Int) + (r : Int))) (e : Int) = (((i + r) % e : Nat) : Int) := by
    rw [wrap_i64 (by omega) (by omega), ← Int.natCast_add]
    exact (Int.ofNat_tmod _ _).symm
  have step : V.int .i64 (IntKind.wrap .i64 ((i : Int) + 1)) = V.int .i64 ((i + 1 : Nat) : Int) ∨ 64 ≤ i := by
    by_cases h : i < 64
    · left; rw [wrap_i64 (by omega) (by omega)]; rfl
    · right; omega
  refine ⟨fun hlt => ⟨fun hz => ⟨fun hm => ⟨fun hp => ?_, fun hp => ?_⟩, fun hm => ?_⟩, fun hz => ?_⟩, fun hge => ?_⟩
  · have hlt : (i : Int) < 64 := of_decide_eq_true hlt
    have hm := of_decide_eq_true hm
    rw [hw] at hm
    have hb : Nat.blt ((i + r) % e) c = true := blt_true (by omega)
    refine ⟨[], _, rfl, ⟨i + 1, by omega⟩, by show 64 - (i + 1) < 64 - i; omega, Fits.tle ⟨rfl, rfl, rfl, ?_, ?_, trivial⟩, rfl⟩
    · show V.int .u64 (or64 _ _) = V.int .u64 ((elemN e c r (i + 1) : Nat) : Int)
      rw [elemN_succ, hb, cond_true]
      refine congrArg (V.int .u64) ?_
      have e1 : Min.min i 64 = i := by omega
      have hp2 : 2 ^ i < 2 ^ 64 := Nat.pow_lt_pow_right (by omega) (by omega)
      rw [wrap64_cast (by omega), Int.toNat_natCast, e1, Int.one_mul, pow_cast, wrap64_cast hp2, or64_cast (elemN_lt e c r i (by omega)) hp2]
    · rcases step with h | h
      · exact h
      · omega
  · exfalso
    have : (0 : Int) ≤ IntKind.wrap IntKind.u64 (i : Int) := by rw [wrap_u64]; omega
    exact absurd this (of_decide_eq_false hp)
  · have hlt : (i : Int) < 64 := of_decide_eq_true hlt
    have hm := of_decide_eq_false hm
    rw [hw] at hm
    have hb : Nat.blt ((i + r) % e) c = false := blt_false (by omega)
    refine ⟨[], _, rfl, ⟨i + 1, by omega⟩, by show 64 - (i + 1) < 64 - i; omega, Fits.tle ⟨rfl, rfl, rfl, ?_, ?_, trivial⟩, rfl⟩
    · show V.int .u64 _ = V.int .u64 ((elemN e c r (i + 1) : Nat) : Int)
      rw [elemN_succ, hb, cond_false]
    · rcases step with h | h
      · exact h
      · omega
  · exfalso
    have : (e : Int) ≠ 0 := by omega
    rw [decide_eq_false this] at hz
    cases hz
  · have hge : ¬ (i : Int) < 64 := of_decide_eq_false hge
    have hi' : i = 64 := by omega
    subst hi'
    refine ⟨[], _, rfl, ?_⟩
    show AWP _ _ _ _ _ _
    refine AWP.less (s := [(7, .int .u64 ((elemN e c r 64 : Nat) : Int))]) (Fits.tle ⟨rfl, trivial⟩) ?_
    refine AWP_run (cx := cx63) rfl rfl hok ((elEnd_eq _).trans rfl) ?_
    subst hQ
    refine ⟨.inl rfl, ?_⟩
    show answerV _ _ _ _ = some _
    kernel_rfl

noncomputable def elemS : Ab.Spec := fun args => match args with
  | [.int .i64 e, .int .i64 c, .int .i64 r] => .req (decide (1 ≤ e) && decide (e ≤ 64)) (.req (decide (0 ≤ c) && decide (c ≤ 64)) (.req (decide (0 ≤ r) && decide (r ≤ 63)) (.leaf (.int .u64 ((elemN e.toNat c.toNat r.toNat 64 : Nat) : Int)))))
  | _ => .fail

theorem elemS_ok : Sound Try.prog 63 elemS := by
  intro args out h
  unfold elemS at h
  split at h
  rotate_left
  · cases h
  rename_i e c r
  obtain ⟨h1, h⟩ := req_run h
  obtain ⟨h2, h⟩ := req_run h
  obtain ⟨h3, h⟩ := req_run h
  have h := leaf_out h
  subst h
  simp only [Bool.and_eq_true, decide_eq_true_eq] at h1 h2 h3
  obtain ⟨e, rfl⟩ := Int.eq_ofNat_of_zero_le (show 0 ≤ e by omega)
  obtain ⟨c, rfl⟩ := Int.eq_ofNat_of_zero_le h2.1
  obtain ⟨r, rfl⟩ := Int.eq_ofNat_of_zero_le h3.1
  exact el_ok e c r (by omega) (by omega) (by omega) (by omega)

/-! All elements. -/

def allT (f : Nat → Nat → Nat → Bool) : Bool := [2, 4, 8, 16, 32, 64].all fun e => (List.range e).all fun c => (Nat.beq c 0) || (List.range e).all fun r => f e c r
theorem allT_spec {f : Nat → Nat → Nat → Bool} (h : allT f = true) {e c r : Nat} (he : e ∈ [2, 4, 8, 16, 32, 64]) (c0 : 0 < c) (c1 : c < e) (r1 : r < e) : f e c r = true := by
  have h := List.all_eq_true.1 (List.all_eq_true.1 h e he) c (List.mem_range.2 c1)
  rcases Bool.or_eq_true_iff.1 h with h | h
  · have := Nat.eq_of_beq_eq_true h; omega
  · exact List.all_eq_true.1 h r (List.mem_range.2 r1)

theorem elem_mask : allT (fun e c r => Nat.beq (elemN e c r 64) (maskM e c r)) = true := by kernel_rfl

theorem size_all : (List.range 128).all (fun k => decide (sizeF (k / 64 : Nat) (k % 64 : Nat) = (elE (k / 64) (k % 64) : Nat)) && (Nat.beq (elE (k / 64) (k % 64)) 0 ||
    (decide (IntKind.wrap .i64 (IntKind.wrap .i64 (((k % 64 : Nat) : Int) - highF (elE (k / 64) (k % 64) : Nat)) + 1) = (elC (k / 64) (k % 64) : Nat)) && hasN (elE (k / 64) (k % 64)) [2, 4, 8, 16, 32, 64]))) = true := by kernel_rfl

end Go.Arm
