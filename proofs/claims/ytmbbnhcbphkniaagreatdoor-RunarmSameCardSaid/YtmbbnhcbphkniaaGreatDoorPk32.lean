/-
  The document's product, by 64 rounds. Conditions: none.
-/
import Derived.Test.YtmbbnhcbphkniaaGreatDoorPk31
import Derived.Test.YtmbbnhcbphkniaaGreatDoorPk30
import Derived.Test.YtmbbnhcbphkniaaGreatDoorPk16
import Derived.Test.YtmbbnhcbphkniaaGreatDoorPk14
import Derived.Test.YtmbbnhcbphkniaaGreatDoorPk22
set_option linter.unusedVariables false
set_option linter.unusedSimpArgs false
namespace Go.Ra
open Go Go.Ab Go.Proofs Go.Wd
noncomputable def cx94 : Cx := { P := Tryz.prog, n := 36, tab := [], mtab := [], refs := [], keeps := [0, 1, 4, 5, 6, 7, 8, 10, 25, 31] }
def wdRound (a b h l i : Int) : Tree St :=
  (.br (decide (0 ≤ i)) (.br (decide (0 ≤ IntKind.wrap IntKind.u64 i)) (.br (IntKind.wrap IntKind.u64 ↑(BitVec.toNat (BitVec.ofInt 64 (Int.fdiv b (2 ^ Min.min (Int.toNat (IntKind.wrap IntKind.u64 i)) 64)) &&& BitVec.ofInt 64 1)) == 1) (.br (decide (IntKind.wrap IntKind.u64 (IntKind.wrap IntKind.u64 (l * 2 ^ 1) + a) < a)) (.leaf (.normal, [(0, (.int .u64 a)), (1, (.int .u64 b)), (6, (.int .u64 (IntKind.wrap IntKind.u64 (IntKind.wrap IntKind.u64 ↑(BitVec.toNat (BitVec.ofInt 64 (IntKind.wrap IntKind.u64 (h * 2 ^ 1)) ||| BitVec.ofInt 64 (Int.fdiv l (2 ^ 63)))) + 1)))), (7, (.int .u64 (IntKind.wrap IntKind.u64 (IntKind.wrap IntKind.u64 (l * 2 ^ 1) + a)))), (8, (.int .i64 (IntKind.wrap IntKind.i64 (i - 1)))), (10, (.bool true)), (25, (.bool true)), (31, (.bool true))], [])) (.leaf (.normal, [(0, (.int .u64 a)), (1, (.int .u64 b)), (6, (.int .u64 (IntKind.wrap IntKind.u64 ↑(BitVec.toNat (BitVec.ofInt 64 (IntKind.wrap IntKind.u64 (h * 2 ^ 1)) ||| BitVec.ofInt 64 (Int.fdiv l (2 ^ 63))))))), (7, (.int .u64 (IntKind.wrap IntKind.u64 (IntKind.wrap IntKind.u64 (l * 2 ^ 1) + a)))), (8, (.int .i64 (IntKind.wrap IntKind.i64 (i - 1)))), (10, (.bool true)), (25, (.bool true)), (31, (.bool false))], []))) (.leaf (.normal, [(0, (.int .u64 a)), (1, (.int .u64 b)), (6, (.int .u64 (IntKind.wrap IntKind.u64 ↑(BitVec.toNat (BitVec.ofInt 64 (IntKind.wrap IntKind.u64 (h * 2 ^ 1)) ||| BitVec.ofInt 64 (Int.fdiv l (2 ^ 63))))))), (7, (.int .u64 (IntKind.wrap IntKind.u64 (l * 2 ^ 1)))), (8, (.int .i64 (IntKind.wrap IntKind.i64 (i - 1)))), (10, (.bool true)), (25, (.bool false))], []))) .fail) (.leaf ((.exit 0), [(0, (.int .u64 a)), (1, (.int .u64 b)), (6, (.int .u64 h)), (7, (.int .u64 l)), (8, (.int .i64 i)), (10, (.bool false))], [])))
theorem wdRound_eq (a b h l i : Int) : (dcode cx94 (cin (cin (c2 (c1 (tailN 1 (bodyOf Tryz.f94)))))) [(0, .int .u64 a), (1, .int .u64 b), (6, .int .u64 h), (7, .int .u64 l), (8, .int .i64 i)] []).run = (wdRound a b h l i).run :=
  (show (dcode cx94 (cin (cin (c2 (c1 (tailN 1 (bodyOf Tryz.f94)))))) [(0, .int .u64 a), (1, .int .u64 b), (6, .int .u64 h), (7, .int .u64 l), (8, .int .i64 i)] []).run = (wdRound a b h l i).out by kernel_rfl).trans (Tree.out_run _)
def wdEnd (h l : Int) : Tree St :=
  (.leaf (.ret, [(4, (.int .u64 h)), (5, (.int .u64 l)), (6, (.int .u64 h)), (7, (.int .u64 l))], []))
theorem wdEnd_eq (h l : Int) : (dcode cx94 (tailN 2 (bodyOf Tryz.f94)) [(6, .int .u64 h), (7, .int .u64 l)] []).run = (wdEnd h l).run :=
  (show (dcode cx94 (tailN 2 (bodyOf Tryz.f94)) [(6, .int .u64 h), (7, .int .u64 l)] []).run = (wdEnd h l).out by kernel_rfl).trans (Tree.out_run _)
def hiS (h l : Int) : Int := IntKind.wrap .u64 (((BitVec.ofInt 64 (IntKind.wrap .u64 (h * 2 ^ 1)) ||| BitVec.ofInt 64 (Int.fdiv l (2 ^ 63))).toNat : Nat) : Int)
def loS (l : Int) : Int := IntKind.wrap .u64 (l * 2 ^ 1)
def bitB (b i : Int) : Bool := IntKind.wrap .u64 (((BitVec.ofInt 64 (Int.fdiv b (2 ^ Min.min (Int.toNat (IntKind.wrap .u64 i)) 64)) &&& BitVec.ofInt 64 1).toNat : Nat) : Int) == 1
def wStep (a b i : Int) (p : Int × Int) : Int × Int :=
  cond (bitB b i) (cond (decide (IntKind.wrap .u64 (loS p.2 + a) < a)) (IntKind.wrap .u64 (hiS p.1 p.2 + 1), IntKind.wrap .u64 (loS p.2 + a)) (hiS p.1 p.2, IntKind.wrap .u64 (loS p.2 + a))) (hiS p.1 p.2, loS p.2)
noncomputable def wN (a b : Int) (k : Nat) : Int × Int := Nat.rec (motive := fun _ => Int × Int) (0, 0) (fun i p => wStep a b (63 - (i : Int)) p) k
theorem wN_succ (a b : Int) (k : Nat) : wN a b (k + 1) = wStep a b (63 - (k : Int)) (wN a b k) := rfl
noncomputable def wSt (a b : Int) (k : { k : Nat // k ≤ 64 }) : T × List O := ([(0, .int .u64 a), (1, .int .u64 b), (6, .int .u64 (wN a b k.1).1), (7, .int .u64 (wN a b k.1).2), (8, .int .i64 (63 - (k.1 : Int)))], [])
theorem wide_ok (a b : Int) : PCall Tryz.prog 94 [.int .u64 a, .int .u64 b] (.tup [.int .u64 (wN a b 64).1, .int .u64 (wN a b 64).2]) := by
  refine pcall_of' (c := bodyOf Tryz.f94) (fn := Tryz.f94) (by kernel_rfl) (by kernel_rfl) (by kernel_rfl) (by kernel_rfl) ?_
  have eb : bodyOf Tryz.f94 = .seq (c1 (bodyOf Tryz.f94)) (.seq (c1 (tailN 0 (bodyOf Tryz.f94))) (.seq (.seq (c1 (c1 (tailN 1 (bodyOf Tryz.f94)))) (.block 0 (.loop (cin (cin (c2 (c1 (tailN 1 (bodyOf Tryz.f94))))))))) (tailN 2 (bodyOf Tryz.f94)))) := by kernel_rfl
  rw [eb]
  generalize hQ : (fun e' t H => (e' = AEx.ret ∨ e' = .normal) ∧ answerV Tryz.prog Tryz.f94.results.toList H t = some (.tup [.int .u64 (wN a b 64).1, .int .u64 (wN a b 64).2])) = Q
  have hok : CxOk cx94 := cx0_ok rfl rfl
  refine AWP_seq (AWP_run (cx := cx94) rfl rfl hok (s := (.normal, [(0, .int .u64 a), (1, .int .u64 b), (4, .int .u64 0), (5, .int .u64 0)], [])) (by kernel_rfl) ?_)
  refine AWP_seq (AWP_run (cx := cx94) rfl rfl hok (s := (.normal, [(0, .int .u64 a), (1, .int .u64 b), (4, .int .u64 0), (5, .int .u64 0), (6, .int .u64 0), (7, .int .u64 0)], [])) (by kernel_rfl) ?_)
  refine AWP_seq (AWP_seq (AWP_run (cx := cx94) rfl rfl hok (s := (.normal, [(0, .int .u64 a), (1, .int .u64 b), (4, .int .u64 0), (5, .int .u64 0), (6, .int .u64 0), (7, .int .u64 0), (8, .int .i64 63)], [])) (by kernel_rfl) ?_))
  refine AWP_block ?_
  refine AWP.less (s := (wSt a b ⟨0, Nat.zero_le _⟩).1) (Fits.tle ⟨rfl, rfl, rfl, rfl, rfl, trivial⟩) ?_
  refine AWP_rounds (cx := cx94) (P := Tryz.prog) (n := 36) rfl rfl hok (wSt a b) (fun i => 64 - i.1) ?_ ⟨0, Nat.zero_le _⟩
  rintro ⟨k, hk⟩
  refine Tree.all_run_eq (wdRound_eq a b (wN a b k).1 (wN a b k).2 (63 - (k : Int))) ?_
  have step : V.int .i64 (IntKind.wrap .i64 (63 - (k : Int) - 1)) = V.int .i64 (63 - ((k + 1 : Nat) : Int)) := by
    rw [wrap_i64 (by omega) (by omega)]
    exact congrArg (V.int .i64) (by omega)
  refine ⟨fun hge => ⟨fun hp => ⟨fun hb => ⟨fun hc => ?_, fun hc => ?_⟩, fun hb => ?_⟩, fun hp => ?_⟩, fun hlt => ?_⟩
  · have hge : (0 : Int) ≤ 63 - k := of_decide_eq_true hge
    have e : wN a b (k + 1) = (IntKind.wrap .u64 (hiS (wN a b k).1 (wN a b k).2 + 1), IntKind.wrap .u64 (loS (wN a b k).2 + a)) := by
      rw [wN_succ]
      unfold wStep
      rw [show bitB b (63 - (k : Int)) = true from hb, cond_true, show decide (IntKind.wrap .u64 (loS (wN a b k).2 + a) < a) = true from hc, cond_true]
    refine ⟨[], _, rfl, ⟨k + 1, by omega⟩, by show 64 - (k + 1) < 64 - k; omega, Fits.tle ⟨rfl, rfl, ?_, ?_, step, trivial⟩, rfl⟩
    · show V.int .u64 _ = V.int .u64 (wN a b (k + 1)).1
      rw [e]
      rfl
    · show V.int .u64 _ = V.int .u64 (wN a b (k + 1)).2
      rw [e]
      rfl
  · have hge : (0 : Int) ≤ 63 - k := of_decide_eq_true hge
    have e : wN a b (k + 1) = (hiS (wN a b k).1 (wN a b k).2, IntKind.wrap .u64 (loS (wN a b k).2 + a)) := by
      rw [wN_succ]
      unfold wStep
      rw [show bitB b (63 - (k : Int)) = true from hb, cond_true, show decide (IntKind.wrap .u64 (loS (wN a b k).2 + a) < a) = false from hc, cond_false]
    refine ⟨[], _, rfl, ⟨k + 1, by omega⟩, by show 64 - (k + 1) < 64 - k; omega, Fits.tle ⟨rfl, rfl, ?_, ?_, step, trivial⟩, rfl⟩
    · show V.int .u64 _ = V.int .u64 (wN a b (k + 1)).1
      rw [e]
      rfl
    · show V.int .u64 _ = V.int .u64 (wN a b (k + 1)).2
      rw [e]
      rfl
  · have hge : (0 : Int) ≤ 63 - k := of_decide_eq_true hge
    have e : wN a b (k + 1) = (hiS (wN a b k).1 (wN a b k).2, loS (wN a b k).2) := by
      rw [wN_succ]
      unfold wStep
      rw [show bitB b (63 - (k : Int)) = false from hb, cond_false]
    refine ⟨[], _, rfl, ⟨k + 1, by omega⟩, by show 64 - (k + 1) < 64 - k; omega, Fits.tle ⟨rfl, rfl, ?_, ?_, step, trivial⟩, rfl⟩
    · show V.int .u64 _ = V.int .u64 (wN a b (k + 1)).1
      rw [e]
      rfl
    · show V.int .u64 _ = V.int .u64 (wN a b (k + 1)).2
      rw [e]
      rfl
  · exfalso
    have : (0 : Int) ≤ IntKind.wrap IntKind.u64 (63 - (k : Int)) := by rw [wrap_u64]; omega
    exact absurd this (of_decide_eq_false hp)
  · have hlt : ¬ (0 : Int) ≤ 63 - k := of_decide_eq_false hlt
    have hk' : k = 64 := by omega
    subst hk'
    refine ⟨[], _, rfl, ?_⟩
    show AWP _ _ _ _ _ _
    refine AWP.less (s := [(6, .int .u64 (wN a b 64).1), (7, .int .u64 (wN a b 64).2)]) (Fits.tle ⟨rfl, rfl, trivial⟩) ?_
    refine AWP_run (cx := cx94) rfl rfl hok ((wdEnd_eq _ _).trans rfl) ?_
    subst hQ
    refine ⟨.inl rfl, ?_⟩
    show answerV _ _ _ _ = some _
    kernel_rfl
end Go.Ra

namespace Go.Ra
open Go Go.Ab Go.Proofs
noncomputable def wdF (a b : Int) : Int × Int := wN a b 64
theorem wdF_ok : Sound Tryz.prog 94 (wdP wdF) := by
  intro args out h
  unfold wdP at h
  split at h
  rotate_left
  · cases h
  cases h
  exact wide_ok _ _
theorem bit1 {y : Int} (h0 : 0 ≤ y) (h1 : y < 18446744073709551616) : (((BitVec.ofInt 64 y &&& BitVec.ofInt 64 1).toNat : Nat) : Int) = y % 2 := by
  obtain ⟨n, rfl⟩ := Int.eq_ofNat_of_zero_le h0
  have hn : n < 2 ^ 64 := by omega
  rw [BitVec.toNat_and]
  have e1 : (BitVec.ofInt 64 (n : Int)).toNat = n := by
    rw [BitVec.ofInt_natCast, BitVec.toNat_ofNat, Nat.mod_eq_of_lt hn]
  have e2 : (BitVec.ofInt 64 1).toNat = 1 := rfl
  rw [e1, e2, Nat.and_one_is_mod]
  rfl
theorem wu_def (x : Int) : IntKind.wrap .u64 x = x % 18446744073709551616 := rfl
theorem bit_eq {b : Int} (h0 : 0 ≤ b) (h1 : b < 18446744073709551616) {k : Nat} (hk : k < 64) : bitB b (63 - (k : Int)) = (b / 2 ^ (63 - k) % 2 == 1) := by
  have e : Min.min (Int.toNat (IntKind.wrap .u64 (63 - (k : Int)))) 64 = 63 - k := by
    rw [wu_def]
    omega
  have hp : (0 : Int) ≤ 2 ^ (63 - k) := Int.le_of_lt (Int.pow_pos (by decide))
  have n0 := Int.ediv_nonneg h0 hp
  have n1 := Int.ediv_le_self (2 ^ (63 - k)) h0
  unfold bitB
  rw [e, Int.fdiv_eq_ediv_of_nonneg _ hp, bit1 n0 (by omega), wu_def]
  have : b / 2 ^ (63 - k) % 2 % 18446744073709551616 = b / 2 ^ (63 - k) % 2 := by omega
  rw [this]
theorem step_mod {a q q' l bit : Int} (hl : l = (a * q) % 18446744073709551616) (hq : q' = 2 * q + bit) (hb : bit = 0 ∨ bit = 1) : ((l * 2 ^ 1) % 18446744073709551616 + a * bit) % 18446744073709551616 = (a * q') % 18446744073709551616 := by
  subst hl hq
  have e : a * (2 * q + bit) = (a * q) * 2 + a * bit := by
    rw [Int.mul_add, Int.mul_comm 2 q, Int.mul_assoc]
  rw [e]
  generalize a * q = z
  generalize a * bit = y
  omega
theorem wN_lo {a b : Int} (h0 : 0 ≤ b) (h1 : b < 18446744073709551616) : ∀ k, k ≤ 64 → (wN a b k).2 = (a * (b / 2 ^ (64 - k))) % 18446744073709551616
  | 0, _ => by
    have e : b / 2 ^ (64 - 0) = 0 := Int.ediv_eq_zero_of_lt h0 (by omega)
    rw [e, Int.mul_zero]
    rfl
  | k + 1, hk => by
    have ih := wN_lo (a := a) h0 h1 k (by omega)
    have e1 : 64 - (k + 1) = 63 - k := by omega
    have e2 : 64 - k = (63 - k) + 1 := by omega
    rw [wN_succ, e1]
    rw [e2, Int.pow_succ, ← Int.ediv_ediv_of_nonneg (Int.le_of_lt (Int.pow_pos (by decide)))] at ih
    have hb := bit_eq h0 h1 (k := k) (by omega)
    generalize b / 2 ^ (63 - k) = q' at ih hb
    unfold wStep
    rw [hb]
    cases h : q' % 2 == 1
    · have h := ne_of_beq_false h
      have := step_mod (bit := 0) ih (q' := q') (by omega) (.inl rfl)
      rw [Int.mul_zero, Int.add_zero] at this
      rw [cond_false, ← this, loS, wu_def]
      omega
    · have h := eq_of_beq h
      have := step_mod (bit := 1) ih (q' := q') (by omega) (.inr rfl)
      rw [Int.mul_one] at this
      rw [cond_true, ← this]
      cases decide (IntKind.wrap .u64 (loS (wN a b k).2 + a) < a) <;> rfl
theorem wdF_wide : WdOk wdF := by
  intro x y hx hy
  obtain ⟨h0, h1⟩ := rng_spec hy
  have h := wN_lo (a := x) h0 h1 64 (Nat.le_refl _)
  rw [Nat.sub_self, Int.pow_zero, Int.ediv_one] at h
  exact h
end Go.Ra

namespace Go.Ra
open Go Go.Ab Go.Proofs Go.Rk
theorem ckX_ok : Sound Tryz.prog 38 (ckP checkX) := by
  intro args out h
  unfold ckP at h
  split at h
  rotate_left
  · cases h
  exact checkS_ok _ _ h
noncomputable def outA : OutFn := outF checkX wdF
theorem runA_ok : MSound Tryz.prog 14 (runS outA) := runS_ok check_eq wdF_wide
theorem refA_ok : MSound Tryz.prog 21 (refS outA) := refS_ok check_eq wdF_wide ckX_ok wdF_ok (ckN_ok ckX_ok)
end Go.Ra

namespace Go.Ra
open Go Go.Ab Go.Proofs
noncomputable def myB : Tabs := { mtab := [(44, countM), (45, rightsM), (46, bytesM)] }
theorem myB_ok : myB.Ok Tryz.prog := ⟨.nil _, .cons countM_ok (.cons rightsM_ok (.cons bytesM_ok fun p h => by cases h)), .nil _, fun p h => by cases h⟩
noncomputable def myT_ps : List Fi := []
theorem myT_ps_ok : FisOk Tryz.prog myT_ps := trivial
noncomputable def myT_ms : List Fi := [⟨22, Tryz.f22, [0, 1, 4, 5, 6, 7, 8, 16, 23, 40, 44, 62], [], 6, []⟩]
theorem myT_ms_ok : FisOk Tryz.prog myT_ms := ⟨⟨by kernel_rfl, by kernel_rfl⟩, trivial⟩
noncomputable def myT (d : Nat) : Tabs := deep Tryz.prog myB myT_ps myT_ms d
theorem myT_ok (d : Nat) : (myT d).Ok Tryz.prog := deep_ok myB_ok myT_ps_ok myT_ms_ok d
def bothA (A B C D E : List Int) : List O := [.cells [.bool true, .mp 2] 61, .obj (.map [1, 2, 16, 17, 32]) [.ptr 3 0, .ptr 4 0, .ptr 5 0, .ptr 6 0, .ptr 7 0], wdPg 5 A, wdPg 5 B, wdPg 6 C, wdPg 6 D, wdPg 4 E,
  .cells [.ref 9 3 0 5, lastV] 70, .cells (wRow 1 5 10 ++ (wRow 2 5 11 ++ (wRow 16 6 12 ++ (wRow 17 6 13 ++ wRow 32 4 14)))) 0, newPg A, newPg B, newPg C, newPg D, newPg E]
def cpuO (s : CpuT) : O := .cells (tabS s).l 25
def rnH (s t : CpuT) (A B C D E : List Int) : List O := cpuO s :: (bothA A B C D E ++ [cpuO t])
def eqXs : List Int → List Int → Bool
  | a :: r, b :: s => (a == b) && eqXs r s
  | _, _ => true
def eqS (s t : CpuT) : Bool := (s.pc == t.pc) && (eqXs s.x t.x && ((s.z == t.z) && ((s.n == t.n) && ((s.c == t.c) && ((s.v == t.v) && ((s.th == t.th) && true))))))
theorem eqXs_self : ∀ l : List Int, eqXs l l = true
  | [] => rfl
  | a :: r => by
    unfold eqXs
    rw [beq_self_eq_true, eqXs_self r]
    rfl
theorem eqS_self (s : CpuT) : eqS s s = true := by
  unfold eqS
  simp only [beq_self_eq_true, eqXs_self, Bool.and_self]
def strP (l : List Int) : List UInt8 := (List.take 4096 (List.drop 0 l)).map fun n => UInt8.ofNat n.toNat
def pgOk (L : Bool) (A : List Int) (r : Option V) : Option V :=
  cond (true && L) (cond (true && L) (cond (true && (true && Nat.ble 4096 A.length)) (cond (true && (true && Nat.ble 4096 A.length)) (cond (!(strEq (strP A) (strP A))) (some (.bool false)) r) none) none) none) none
theorem answer_post {fn : Func} {s : St} {v : V} (h : (answer Tryz.prog fn.results.toList s).run = some v) : (s.1 = .ret ∨ s.1 = .normal) ∧ answerV Tryz.prog fn.results.toList s.2.2 s.2.1 = some v := by
  obtain ⟨e, t, H⟩ := s
  unfold answer at h
  split at h
  · rename_i heq
    cases heq
    split at h
    · rename_i v hv
      cases h
      exact ⟨.inl rfl, hv⟩
    · cases h
  · rename_i heq
    cases heq
    split at h
    · rename_i v hv
      cases h
      exact ⟨.inr rfl, hv⟩
    · cases h
  · cases h
def FOk (f : OutFn) : Prop := ∀ nm s a b c d m sz A B C D E, Fine s → lens5 A B C D E = true →
  Fine (f nm s a b c d m sz A B C D E).s ∧ lens5 (f nm s a b c d m sz A B C D E).A (f nm s a b c d m sz A B C D E).B (f nm s a b c d m sz A B C D E).C (f nm s a b c d m sz A B C D E).D (f nm s a b c d m sz A B C D E).E = true
theorem fineB_of {s : CpuT} (h : Fine s) : fineB s = true := by
  unfold fineB
  rw [h.pc, Bool.true_and, List.all_eq_true]
  intro x hx
  obtain ⟨i, hi, rfl⟩ := List.getElem_of_mem hx
  have := h.rng i
  rw [getD_lt hi] at this
  exact this
structure RnSt where
  k : Nat
  s : CpuT
  A : List Int
  B : List Int
  C : List Int
  D : List Int
  E : List Int
  hk : k ≤ 80
  hs : Fine s
  hl : lens5 A B C D E = true
theorem pgOk_true {A : List Int} (hA : A.length = 4096) (r : Option V) : pgOk true A r = r := by
  unfold pgOk
  have e : strEq (strP A) (strP A) = true := beq_self_eq_true _
  rw [e, hA]
  rfl
theorem myEnd {A B C D E : List Int} (hl : lens5 A B C D E = true) : cond (true && lens5 A B C D E) (pgOk (lens5 A B C D E) A (pgOk (lens5 A B C D E) B (pgOk (lens5 A B C D E) C (pgOk (lens5 A B C D E) D (pgOk (lens5 A B C D E) E (some (.bool true))))))) none = some (V.bool true) := by
  obtain ⟨l1, l2, l3, l4, l5⟩ := lens5_spec hl
  rw [hl, pgOk_true l1, pgOk_true l2, pgOk_true l3, pgOk_true l4, pgOk_true l5]
  rfl
end Go.Ra

namespace Go.Ra
open Go Go.Ab Go.Proofs Go.Rk
abbrev cpuE : EC := .prod [.int .u64, .prod (List.replicate 32 (.int .u64)), .bool, .bool, .bool, .bool, .int .u64]
def rowX : (n : Nat) → EC.tys (List.replicate n (EC.int .u64)) → List Int
  | 0, _ => []
  | 1, x => [x]
  | n + 2, x => x.1 :: rowX (n + 1) x.2
theorem rowX_len : ∀ (n : Nat) (x : EC.tys (List.replicate n (EC.int .u64))), (rowX n x).length = n
  | 0, _ => rfl
  | 1, _ => rfl
  | n + 2, x => congrArg (· + 1) (rowX_len (n + 1) x.2)
theorem has_rng {y : Int} (h : IntKind.u64.has y) : rng64 y = true := by
  have e1 : IntKind.u64.min = 0 ∧ IntKind.u64.max = 18446744073709551616 - 1 := ⟨rfl, rfl⟩
  unfold IntKind.has at h
  rw [e1.1, e1.2] at h
  simp only [rng64, Bool.and_eq_true, decide_eq_true_eq]
  omega
theorem rowX_rng : ∀ (n : Nat) (x : EC.tys (List.replicate n (EC.int .u64))), okEs (List.replicate n (.int .u64)) x → ∀ y ∈ rowX n x, rng64 y = true
  | 0, _, _, y, hy => by cases hy
  | 1, x, h, y, hy => by
    rcases List.mem_cons.1 hy with rfl | hy
    · exact has_rng h
    · cases hy
  | n + 2, x, h, y, hy => by
    rcases List.mem_cons.1 hy with rfl | hy
    · exact has_rng h.1
    · exact rowX_rng (n + 1) x.2 h.2 y hy
def cpuA (x : cpuE.ty) : CpuT := ⟨x.1, rowX 32 x.2.1, x.2.2.1, x.2.2.2.1, x.2.2.2.2.1, x.2.2.2.2.2.1, x.2.2.2.2.2.2⟩
theorem cpuA_fine {x : cpuE.ty} (h : okE cpuE x) : Fine (cpuA x) := by
  refine ⟨rowX_len 32 _, fun i => ?_, has_rng h.1⟩
  show rng64 ((rowX 32 x.2.1).getD i 0) = true
  rw [List.getD_eq_getElem?_getD]
  cases hi : (rowX 32 x.2.1)[i]? with
  | none => rfl
  | some v => exact rowX_rng 32 x.2.1 h.2.1 v (List.mem_of_getElem? hi)
theorem has_byte {y : Int} (h : IntKind.u8.has y) : byteB y = true := by
  have e1 : IntKind.u8.min = 0 ∧ IntKind.u8.max = 256 - 1 := ⟨rfl, rfl⟩
  unfold IntKind.has at h
  rw [e1.1, e1.2] at h
  simp only [byteB, Bool.and_eq_true, decide_eq_true_eq]
  omega
theorem ok_bytes {o : (EC.sl (.int .u8)).ty} (h : okE (.sl (.int .u8)) o) : (o.getD [] : List Int).all byteB = true := by
  cases o with
  | none => rfl
  | some l => exact List.all_eq_true.2 fun y hy => has_byte (h.2 y hy)
theorem outA_ok : FOk outA := fun nm s a b c d m sz A B C D E hs hl => by
  obtain ⟨h1, h2, _⟩ := out_is check_eq wdF_wide nm hs a b c d m sz hl
  exact ⟨h1, h2⟩
end Go.Ra

namespace Go.Ra
open Go Go.Ab Go.Proofs
def adv (x i : Int) : Int := IntKind.wrap .u64 (x + i)
noncomputable def cxPf : Cx := { P := Tryz.prog, n := Tryz.f19.ntmps, tab := [], mtab := [(35, mayM), (36, getM)], refs := [], keeps := [0, 1, 2, 6, 7, 8, 9, 15, 17, 18, 19, 33, 45], fuel := 5 }
theorem cxPf_ok : CxOk cxPf := cx1_ok (.nil _) (.cons mayM_ok (.cons getM_ok fun p h => by cases h)) rfl rfl
noncomputable def pfE (a b c d e : List Int) (x : Int) : Option Res := (mfun cxPf Tryz.f19 [.ptr 0 0, .int .u64 x, .int .i64 4] (memO a b c d e)).fin
def pfAns (H : List O) (l : List Int) : Option Res := match l with
  | [] => some (.ok (.tup [.val (.slice none 0 0), .int .i64 21]) H)
  | _ => some (.ok (.tup [.gro 7 (.int .u8) l, .int .i64 0]) (H ++ [.tok l.length 1]))
def pfGo (a b c d e : List Int) (x : Int) : Nat → Nat → List Int → Option Res
  | 0, _, l => pfAns (memO a b c d e) l
  | m + 1, i, l => cond (decide (adv x (i : Int) < x)) (pfAns (memO a b c d e) l) (cond (true && lens5 a b c d e) (cond (rng64 (adv x (i : Int)) && true) (cond (!mayB (adv x (i : Int)) 1 1) (pfAns (memO a b c d e) l)
    (cond (true && lens5 a b c d e) (cond (rng64 (adv x (i : Int)) && isPg (pgF (adv x (i : Int)))) (pfGo a b c d e x m (i + 1) (l ++ [byteF a b c d e (adv x (i : Int))])) none) none)) none) none)
theorem pf_eq (a b c d e : List Int) (x : Int) : pfE a b c d e x = pfGo a b c d e x 4 0 [] := by kernel_rfl
noncomputable def rhB : Tabs := { rtab := [(67, findR), (69, canR), (138, getRf)] }
theorem rhB_ok : rhB.Ok Tryz.prog := ⟨.nil _, .nil _, .cons findR_ok (.cons canR_ok (.cons getRf_ok (.nil _))), fun p h => by cases h⟩
noncomputable def rhT_ps : List Fi := []
theorem rhT_ps_ok : FisOk Tryz.prog rhT_ps := trivial
noncomputable def rhT_ms : List Fi := [⟨102, Tryz.f102, [0, 1, 2, 6, 7, 8, 11], [], 9, []⟩]
theorem rhT_ms_ok : FisOk Tryz.prog rhT_ms := ⟨⟨by kernel_rfl, by kernel_rfl⟩, trivial⟩
noncomputable def rhT (d : Nat) : Tabs := deep Tryz.prog rhB rhT_ps rhT_ms d
theorem rhT_ok (d : Nat) : (rhT d).Ok Tryz.prog := deep_ok rhB_ok rhT_ps_ok rhT_ms_ok d
noncomputable def cxRh : Cx := { P := Tryz.prog, n := Tryz.f47.ntmps, tab := (rhT 1).tab, mtab := (rhT 1).mtab, rtab := (rhT 1).rtab, refs := [], keeps := [0, 1, 2, 6, 7, 8, 14, 24, 28], fuel := 6 }
theorem cxRh_ok : CxOk cxRh := rhT_ok 1
noncomputable def rhE (a b c d e : List Int) (x : Int) : Option Res := (mfun cxRh Tryz.f47 [.ptr 0 0, .int .u64 x, .int .i64 4] (refO a b c d e)).fin
def rhRead (a b c d e : List Int) (x : Int) : Nat → Nat → List Int → Option Res
  | 0, _, l => some (.ok (.tup [.gro 7 (.int .u8) l, .int .i64 0]) (refO a b c d e ++ [.tok l.length 1]))
  | m + 1, i, l => cond (true && (true && (true && lens5 a b c d e))) (cond (rng64 (adr x i) && isPg (pgF (adr x i))) (rhRead a b c d e x m (i + 1) (l ++ [byteF a b c d e (adr x i)])) none) none
def rhStop (a b c d e : List Int) (x : Int) (k : Nat) : Option Res := cond (Nat.beq k 0) (some (.ok (.tup [.val (.slice none 0 0), .int .i64 21]) (refO a b c d e))) (rhRead a b c d e x k 0 [])
def rhGo (a b c d e : List Int) (x : Int) : Nat → Nat → Option Res
  | 0, k => rhStop a b c d e x k
  | m + 1, k => cond (true && (true && (true && lens5 a b c d e))) (cond (rng64 x && true) (cond (mayB x ((k + 1 : Nat) : Int) 1) (rhGo a b c d e x m (k + 1)) (rhStop a b c d e x k)) none) none
theorem rh_eq (a b c d e : List Int) (x : Int) : rhE a b c d e x = rhGo a b c d e x 4 0 := by kernel_rfl
end Go.Ra

namespace Go.Ra
open Go Go.Ab Go.Proofs
def fetN (x : Int) : Nat := if 4096 ≤ x ∧ x < 12288 then min 4 (12288 - x).toNat else 0
def fetL (a b c d e : List Int) (x : Int) : List Int := (List.range (fetN x)).map fun (i : Nat) => byteF a b c d e (x + (i : Int))
theorem fetN_le (x : Int) : fetN x ≤ 4 := by
  unfold fetN
  split <;> omega
theorem fetL_len (a b c d e : List Int) (x : Int) : (fetL a b c d e x).length = fetN x := by
  unfold fetL
  rw [List.length_map, List.length_range]
theorem okP1 (k : Int) : okP 1 k = (k == 1 || k == 2) := by
  unfold okP pgR
  cases k == 1
  · cases k == 2
    · cases k == 16 <;> cases k == 17 <;> cases k == 32 <;> rfl
    · rfl
  · rfl
theorem mayB_exec {x n : Int} (hx : rng64 x = true) (h1 : 1 ≤ n) (h2 : n ≤ 16) : mayB x n 1 = (decide (4096 ≤ x) && decide (x + n ≤ 12288)) := by
  have hy := endF_rng x n
  have px := pgF_eq hx
  have py := pgF_eq hy
  have e : endF x n = ((x + n % 18446744073709551616) % 18446744073709551616 - 1) % 18446744073709551616 := rfl
  unfold mayB
  rw [okP1, okP1, px, py, e, Bool.eq_iff_iff]
  simp only [rng64, Bool.and_eq_true, decide_eq_true_eq] at hx
  simp only [Bool.and_eq_true, Bool.or_eq_true, decide_eq_true_eq, beq_iff_eq]
  omega
theorem mayB_out {x n : Int} (hx : rng64 x = true) (h1 : 1 ≤ n) (h2 : n ≤ 16) (h : ¬ (4096 ≤ x ∧ x + n ≤ 12288)) : mayB x n 1 = false := by
  rw [mayB_exec hx h1 h2]
  by_cases h3 : 4096 ≤ x
  · rw [decide_eq_false (show ¬ x + n ≤ 12288 from fun h4 => h ⟨h3, h4⟩), Bool.and_false]
  · rw [decide_eq_false h3]
    rfl
theorem mayB_in {x n : Int} (hx : rng64 x = true) (h1 : 1 ≤ n) (h2 : n ≤ 16) (h3 : 4096 ≤ x) (h4 : x + n ≤ 12288) : mayB x n 1 = true := by
  rw [mayB_exec hx h1 h2, decide_eq_true h3, decide_eq_true h4]
  rfl
theorem rng_of {x : Int} (h0 : 0 ≤ x) (h1 : x < 18446744073709551616) : rng64 x = true := by
  simp only [rng64, Bool.and_eq_true, decide_eq_true_eq]
  exact ⟨h0, h1⟩
theorem usable_exec {x : Int} (h0 : 4096 ≤ x) (h1 : x < 12288) : (rng64 x && isPg (pgF x)) = true := by
  have hr : rng64 x = true := rng_of (by omega) (by omega)
  have hp := pgF_eq hr
  have : pgF x = 1 ∨ pgF x = 2 := by omega
  rw [hr]
  rcases this with h | h <;> rw [h] <;> rfl
theorem adv_rng (x i : Int) : rng64 (adv x i) = true := by
  have e : adv x i = (x + i) % 18446744073709551616 := rfl
  rw [e]
  exact rng_of (by omega) (by omega)
theorem map_more {f : Nat → Int} (i : Nat) : (List.range (i + 1)).map f = (List.range i).map f ++ [f i] := by
  rw [List.range_succ, List.map_append]
  rfl
theorem pfGo_eq {a b c d e : List Int} {x : Int} (hl : lens5 a b c d e = true) (hx : rng64 x = true) : ∀ (m i : Nat), i + m = 4 → i ≤ fetN x →
    pfGo a b c d e x m i ((List.range i).map fun (j : Nat) => byteF a b c d e (x + (j : Int))) = pfAns (memO a b c d e) (fetL a b c d e x)
  | 0, i, hi, hf => by
    have : i = fetN x := by have := fetN_le x; omega
    subst this
    rfl
  | m + 1, i, hi, hf => by
    have hr := adv_rng x (i : Int)
    have e0 : adv x (i : Int) = (x + (i : Int)) % 18446744073709551616 := rfl
    unfold pfGo
    rw [hl, hr, Bool.true_and, Bool.true_and]
    simp only [cond_true]
    simp only [rng64, Bool.and_eq_true, decide_eq_true_eq] at hx
    by_cases hlt : i < fetN x
    · have hin : 4096 ≤ x ∧ x + i < 12288 := by
        unfold fetN at hlt
        split at hlt <;> omega
      have ea : adv x (i : Int) = x + i := by rw [e0]; omega
      rw [decide_eq_false (by omega), cond_false, ea, mayB_in (rng_of (by omega) (by omega)) (by omega) (by omega) (by omega) (by omega)]
      have hu := usable_exec (x := x + i) (by omega) hin.2
      rw [rng_of (x := x + i) (by omega) (by omega), Bool.true_and] at hu
      rw [hu]
      simp only [Bool.not_true, cond_false, cond_true]
      rw [← map_more (f := fun (j : Nat) => byteF a b c d e (x + (j : Int))) i]
      exact pfGo_eq hl (rng_of hx.1 hx.2) m (i + 1) (by omega) hlt
    · have hif : i = fetN x := by omega
      have hans : pfAns (memO a b c d e) ((List.range i).map fun (j : Nat) => byteF a b c d e (x + (j : Int))) = pfAns (memO a b c d e) (fetL a b c d e x) := by
        rw [hif]
        rfl
      rw [hans]
      cases hov : decide (adv x (i : Int) < x)
      · have hov := of_decide_eq_false hov
        have ho : mayB (adv x (i : Int)) 1 1 = false := by
          refine mayB_out hr (by omega) (by omega) ?_
          unfold fetN at hif
          split at hif <;> omega
        rw [cond_false, ho]
        rfl
      · rfl
theorem rhRead_eq {a b c d e : List Int} {x : Int} (hl : lens5 a b c d e = true) (hf : 0 < fetN x) : ∀ (m i : Nat), i + m = fetN x →
    rhRead a b c d e x m i ((List.range i).map fun (j : Nat) => byteF a b c d e (x + (j : Int))) = some (.ok (.tup [.gro 7 (.int .u8) (fetL a b c d e x), .int .i64 0]) (refO a b c d e ++ [.tok (fetL a b c d e x).length 1]))
  | 0, i, hi => by
    have : i = fetN x := by omega
    subst this
    rfl
  | m + 1, i, hi => by
    have hin : 4096 ≤ x ∧ x + i < 12288 := by
      unfold fetN at hi
      split at hi <;> omega
    have ea : adr x i = x + i := adr_small (by omega) (by omega)
    unfold rhRead
    rw [hl, ea, usable_exec (by omega) hin.2]
    simp only [Bool.and_self, cond_true]
    rw [← map_more (f := fun (j : Nat) => byteF a b c d e (x + (j : Int))) i]
    exact rhRead_eq hl hf m (i + 1) (by omega)
def rhAns (a b c d e : List Int) (x : Int) : Option Res :=
  cond (Nat.beq (fetN x) 0) (some (.ok (.tup [.val (.slice none 0 0), .int .i64 21]) (refO a b c d e))) (some (.ok (.tup [.gro 7 (.int .u8) (fetL a b c d e x), .int .i64 0]) (refO a b c d e ++ [.tok (fetL a b c d e x).length 1])))
theorem rhGo_eq {a b c d e : List Int} {x : Int} (hl : lens5 a b c d e = true) (hx : rng64 x = true) : ∀ (m k : Nat), k + m = 4 → k ≤ fetN x → rhGo a b c d e x m k = rhAns a b c d e x := by
  have stop : rhStop a b c d e x (fetN x) = rhAns a b c d e x := by
    unfold rhStop rhAns
    cases h : Nat.beq (fetN x) 0
    · have hp : 0 < fetN x := by
        rcases Nat.eq_zero_or_pos (fetN x) with h0 | h0
        · rw [h0] at h; cases h
        · exact h0
      exact rhRead_eq hl hp (fetN x) 0 (by omega)
    · rfl
  intro m
  induction m with
  | zero =>
    intro k hk hf
    have : k = fetN x := by have := fetN_le x; omega
    rw [this]
    exact stop
  | succ m ih =>
    intro k hk hf
    unfold rhGo
    rw [hl, hx]
    simp only [Bool.and_self, cond_true]
    have hx' := hx
    simp only [rng64, Bool.and_eq_true, decide_eq_true_eq] at hx'
    by_cases hlt : k < fetN x
    · have hin : 4096 ≤ x ∧ x + k < 12288 := by
        unfold fetN at hlt
        split at hlt <;> omega
      rw [mayB_in hx (by omega) (by omega) (by omega) (by omega), cond_true]
      exact ih (k + 1) (by omega) hlt
    · have hif : k = fetN x := by omega
      rw [mayB_out hx (by omega) (by omega) (by
        unfold fetN at hif
        split at hif <;> omega), cond_false, hif]
      exact stop
theorem fetL_nil {a b c d e : List Int} {x : Int} (h : Nat.beq (fetN x) 0 = true) : fetL a b c d e x = [] := by
  unfold fetL
  rw [Nat.eq_of_beq_eq_true h]
  rfl
theorem pfAns_eq (a b c d e : List Int) (x : Int) : pfAns (memO a b c d e) (fetL a b c d e x) =
    cond (Nat.beq (fetN x) 0) (some (.ok (.tup [.val (.slice none 0 0), .int .i64 21]) (memO a b c d e))) (some (.ok (.tup [.gro 7 (.int .u8) (fetL a b c d e x), .int .i64 0]) (memO a b c d e ++ [.tok (fetL a b c d e x).length 1]))) := by
  cases h : Nat.beq (fetN x) 0
  · have hlen := fetL_len a b c d e x
    cases hL : fetL a b c d e x with
    | nil =>
      rw [hL] at hlen
      rw [← hlen] at h
      cases h
    | cons y r => rfl
  · rw [fetL_nil h]
    rfl
def fetchM : MSpec := fun args H => match args with
  | [.ptr 0 0, .int .u64 x, .int .i64 n] => memM (fun a b c d e => .req (rng64 x && n == 4) (.br (Nat.beq (fetN x) 0) (.leaf (.ok (.tup [.val (.slice none 0 0), .int .i64 21]) (memO a b c d e)))
      (.leaf (.ok (.tup [.gro 7 (.int .u8) (fetL a b c d e x), .int .i64 0]) (memO a b c d e ++ [.tok (fetL a b c d e x).length 1]))))) H
  | _ => .fail
def fetchRf : MSpec := fun args H => match args with
  | [.ptr 0 0, .int .u64 x, .int .i64 n] => refM (fun a b c d e => .req (rng64 x && n == 4) (.br (Nat.beq (fetN x) 0) (.leaf (.ok (.tup [.val (.slice none 0 0), .int .i64 21]) (refO a b c d e)))
      (.leaf (.ok (.tup [.gro 7 (.int .u8) (fetL a b c d e x), .int .i64 0]) (refO a b c d e ++ [.tok (fetL a b c d e x).length 1]))))) H
  | _ => .fail
theorem br_cond {α : Type} (c : Bool) (x y : Tree α) : (Tree.br c x y).run = cond c x.run y.run := by cases c <;> rfl
theorem fetchM_ok : MSound Tryz.prog 19 fetchM := by
  intro args H out h
  unfold fetchM at h
  split at h
  rotate_left
  · cases h
  rename_i x n
  obtain ⟨a, b, c, d, e, rfl, hl, h⟩ := memM_run h
  obtain ⟨h1, hres⟩ := req_run h
  clear h
  obtain ⟨hx, hn⟩ := Bool.and_eq_true_iff.1 h1
  have hn : n = 4 := by simpa using hn
  subst hn
  refine msound_fun (cx := cxPf) (fn := Tryz.f19) cxPf_ok (by kernel_rfl) (by kernel_rfl) _ _ _ ?_
  refine run_req (by kernel_rfl) ?_
  rw [← Tree.fin_run]
  refine (pf_eq a b c d e x).trans ?_
  refine (pfGo_eq hl hx 4 0 rfl (Nat.zero_le _)).trans ?_
  rw [pfAns_eq, ← hres, br_cond]
  rfl
theorem fetchRf_ok : MSound Tryz.prog 47 fetchRf := by
  intro args H out h
  unfold fetchRf at h
  split at h
  rotate_left
  · cases h
  rename_i x n
  obtain ⟨a, b, c, d, e, rfl, hl, h⟩ := refM_run h
  obtain ⟨h1, hres⟩ := req_run h
  clear h
  obtain ⟨hx, hn⟩ := Bool.and_eq_true_iff.1 h1
  have hn : n = 4 := by simpa using hn
  subst hn
  refine msound_fun (cx := cxRh) (fn := Tryz.f47) cxRh_ok (by kernel_rfl) (by kernel_rfl) _ _ _ ?_
  refine run_req (by kernel_rfl) ?_
  rw [← Tree.fin_run]
  refine (rh_eq a b c d e x).trans ?_
  refine (rhGo_eq hl hx 4 0 rfl (Nat.zero_le _)).trans ?_
  unfold rhAns
  rw [← hres, br_cond]
  rfl
end Go.Ra

namespace Go.Ra
open Go Go.Ab Go.Proofs Go.Rk
noncomputable def dcB : Tabs := { tab := [(76, decodeS)] }
theorem dcB_ok : dcB.Ok Tryz.prog := ⟨ok1 decodeS_ok, (fun p h => by cases h), .nil _, fun p h => by cases h⟩
noncomputable def dcT_ps : List Fi := [⟨20, Tryz.f20, [0, 1, 2, 6, 7, 8, 9, 10, 17], [], 0, []⟩, ⟨37, Tryz.f37, [0, 2, 3, 4, 5, 8, 11], [], 0, []⟩]
theorem dcT_ps_ok : FisOk Tryz.prog dcT_ps := ⟨⟨by kernel_rfl, by kernel_rfl⟩, ⟨by kernel_rfl, by kernel_rfl⟩, trivial⟩
noncomputable def dcT_ms : List Fi := []
theorem dcT_ms_ok : FisOk Tryz.prog dcT_ms := trivial
noncomputable def dcT (d : Nat) : Tabs := deep Tryz.prog dcB dcT_ps dcT_ms d
theorem dcT_ok (d : Nat) : (dcT d).Ok Tryz.prog := deep_ok dcB_ok dcT_ps_ok dcT_ms_ok d
noncomputable def isaE (l sp : List Int) (fl : Fl) (at_ : Int) : Option V := (dfun { P := Tryz.prog, n := Tryz.f20.ntmps, tab := (dcT 1).tab, mtab := [], refs := [], keeps := [0, 1, 2, 6, 7, 8, 9, 10, 17] } Tryz.f20 [.int .i64 2, .sl (.int .u8) l sp fl, .int .i64 at_]).fin
theorem isa_eq (l sp : List Int) (fl : Fl) (at_ : Int) : isaE l sp fl at_ = cond (decide (l.length < 1000000000)) (some (.tup [Rk.insV (dI l at_), .int .i64 (dN l at_), .int .i64 (dE l at_)])) none := by kernel_rfl
theorem cond_of {α : Type} {c : Bool} {x y : α} (h : c = true) : cond c x y = x := by
  rw [h]
  rfl
def isaS : Ab.Spec := fun args => match args with
  | [.int .i64 k, .sl (.int .u8) l _ _, .int .i64 at_] => .req (k == 2 && decide (l.length < 1000000000)) (.leaf (.tup [Rk.insV (dI l at_), .int .i64 (dN l at_), .int .i64 (dE l at_)]))
  | _ => .fail
theorem isaS_ok : Sound Tryz.prog 20 isaS := by
  intro args out h
  unfold isaS at h
  split at h
  rotate_left
  · cases h
  rename_i k l sp fl at_
  obtain ⟨h1, h⟩ := req_run h
  cases h
  obtain ⟨hk, hl⟩ := Bool.and_eq_true_iff.1 h1
  have hk : k = 2 := by simpa using hk
  subst hk
  have e := (isa_eq l sp fl at_).trans (cond_of hl)
  exact pcall_fun' (cx := { P := Tryz.prog, n := Tryz.f20.ntmps, tab := (dcT 1).tab, mtab := [], refs := [], keeps := [0, 1, 2, 6, 7, 8, 9, 10, 17] }) (fn := Tryz.f20) (dcT_ok 1) (by kernel_rfl) (by kernel_rfl) (by kernel_rfl) ((Tree.fin_run _).symm.trans e)
abbrev StFn := CpuT → List Int → List Int → List Int → List Int → List Int → Out
def stG (f : OutFn) : StFn := fun s A B C D E => cond (Nat.beq (fetN s.pc) 0) ⟨s, 0, 21, A, B, C, D, E⟩ (cond (dE (fetL A B C D E s.pc) 0 != 0) ⟨s, 0, 22, A, B, C, D, E⟩
  (f (dI (fetL A B C D E s.pc) 0).1 s (dI (fetL A B C D E s.pc) 0).2.1 (dI (fetL A B C D E s.pc) 0).2.2.1 (dI (fetL A B C D E s.pc) 0).2.2.2.1 (dI (fetL A B C D E s.pc) 0).2.2.2.2.1 (dI (fetL A B C D E s.pc) 0).2.2.2.2.2 (dN (fetL A B C D E s.pc) 0) A B C D E))
def ansM (o : Out) : Option Res := some (.ok (outV o) (memO o.A o.B o.C o.D o.E))
def ansR (o : Out) : Option Res := some (.ok (outV o) (refO o.A o.B o.C o.D o.E))
noncomputable def cxSt (f : OutFn) : Cx := { P := Tryz.prog, n := Tryz.f18.ntmps, tab := [(20, isaS)], mtab := [(19, fetchM), (14, runS f)], refs := [], keeps := [0, 1, 2, 4, 5, 6, 7, 8, 9, 10, 19, 28] }
noncomputable def stpE (f : OutFn) (s : CpuT) (A B C D E : List Int) : Option Res := (mfunR (cxSt f) Tryz.f18 [] [.agg (tabS s).l, .ptr 0 0] (memO A B C D E)).fin
def stpX (f : OutFn) (s : CpuT) (A B C D E : List Int) : Option Res :=
  cond (true && lens5 A B C D E) (cond (rng64 s.pc && true) (cond (Nat.beq (fetN s.pc) 0) (ansM ⟨s, 0, 21, A, B, C, D, E⟩) (cond (true && decide ((fetL A B C D E s.pc).length < 1000000000)) (cond (dE (fetL A B C D E s.pc) 0 != 0) (ansM ⟨s, 0, 22, A, B, C, D, E⟩)
    (cond (true && lens5 A B C D E) (cond (fineB (tabS s)) (ansM (f (dI (fetL A B C D E s.pc) 0).1 (tabS s) (dI (fetL A B C D E s.pc) 0).2.1 (dI (fetL A B C D E s.pc) 0).2.2.1 (dI (fetL A B C D E s.pc) 0).2.2.2.1 (dI (fetL A B C D E s.pc) 0).2.2.2.2.1 (dI (fetL A B C D E s.pc) 0).2.2.2.2.2 (dN (fetL A B C D E s.pc) 0) A B C D E)) none) none)) none)) none) none
theorem st_eq (f : OutFn) (s : CpuT) (A B C D E : List Int) : stpE f s A B C D E = stpX f s A B C D E := by kernel_rfl
noncomputable def cxSr (f : OutFn) : Cx := { P := Tryz.prog, n := Tryz.f23.ntmps, tab := [(48, decXS)], mtab := [(47, fetchRf), (21, refS f)], refs := [], keeps := [0, 1, 2, 4, 5, 6, 7, 8, 9, 10, 19, 29] }
noncomputable def srE (f : OutFn) (s : CpuT) (A B C D E : List Int) : Option Res := (mfunR (cxSr f) Tryz.f23 [] [.agg (tabS s).l, .ptr 0 0] (refO A B C D E)).fin
def srX (f : OutFn) (s : CpuT) (A B C D E : List Int) : Option Res :=
  cond (true && (true && (true && lens5 A B C D E))) (cond (rng64 s.pc && true) (cond (Nat.beq (fetN s.pc) 0) (ansR ⟨s, 0, 21, A, B, C, D, E⟩) (cond (decide ((fetL A B C D E s.pc).length < 1000000000)) (cond (bytesB (fetL A B C D E s.pc)) (cond (dE (fetL A B C D E s.pc) 0 != 0) (ansR ⟨s, 0, 22, A, B, C, D, E⟩)
    (cond (true && (true && (true && lens5 A B C D E))) (cond (fineB (tabS s)) (ansR (f (dI (fetL A B C D E s.pc) 0).1 (tabS s) (dI (fetL A B C D E s.pc) 0).2.1 (dI (fetL A B C D E s.pc) 0).2.2.1 (dI (fetL A B C D E s.pc) 0).2.2.2.1 (dI (fetL A B C D E s.pc) 0).2.2.2.2.1 (dI (fetL A B C D E s.pc) 0).2.2.2.2.2 (dN (fetL A B C D E s.pc) 0) A B C D E)) none) none)) none) none)) none) none
theorem sr_eq (f : OutFn) (s : CpuT) (A B C D E : List Int) : srE f s A B C D E = srX f s A B C D E := by kernel_rfl
theorem stpX_eq {f : OutFn} {s : CpuT} {A B C D E : List Int} (hs : Fine s) (hl : lens5 A B C D E = true) : stpX f s A B C D E = ansM (stG f s A B C D E) := by
  have hts : tabS s = s := cpu_tab hs.len
  have h4 : decide ((fetL A B C D E s.pc).length < 1000000000) = true := decide_eq_true (by rw [fetL_len]; have := fetN_le s.pc; omega)
  unfold stpX stG
  rw [hts, hl, hs.pc, h4, fineB_of hs]
  cases Nat.beq (fetN s.pc) 0
  · cases dE (fetL A B C D E s.pc) 0 != 0 <;> rfl
  · rfl
theorem byteF_byte {A B C D E : List Int} (hl : lens5 A B C D E = true) (x : Int) : byteB (byteF A B C D E x) = true := by
  unfold lens5 at hl
  simp only [Bool.and_eq_true] at hl
  obtain ⟨h1, h2, h3, h4, h5⟩ := hl
  have g : ∀ {l : List Int}, pgB l = true → byteB (l.getD (offF x) 0) = true := fun h => byte_getD (Bool.and_eq_true_iff.1 h).2 _
  unfold byteF selF
  cases pgF x == 1 <;> cases pgF x == 2 <;> cases pgF x == 16 <;> cases pgF x == 17 <;> first | exact g h1 | exact g h2 | exact g h3 | exact g h4 | exact g h5
theorem fetL_bytes {A B C D E : List Int} (hl : lens5 A B C D E = true) (x : Int) : bytesB (fetL A B C D E x) = true := by
  unfold bytesB fetL
  rw [List.all_eq_true]
  intro y hy
  obtain ⟨i, _, rfl⟩ := List.mem_map.1 hy
  exact byteF_byte hl _
theorem srX_eq {f : OutFn} {s : CpuT} {A B C D E : List Int} (hs : Fine s) (hl : lens5 A B C D E = true) : srX f s A B C D E = ansR (stG f s A B C D E) := by
  have hts : tabS s = s := cpu_tab hs.len
  have h4 : decide ((fetL A B C D E s.pc).length < 1000000000) = true := decide_eq_true (by rw [fetL_len]; have := fetN_le s.pc; omega)
  unfold srX stG
  rw [hts, hl, hs.pc, h4, fetL_bytes hl, fineB_of hs]
  cases Nat.beq (fetN s.pc) 0
  · cases dE (fetL A B C D E s.pc) 0 != 0 <;> rfl
  · rfl
def stpS (g : StFn) : MSpec := fun args H => match args with
  | [.agg cs, .ptr 0 0] => match cpuOf cs with
    | some s => memM (fun A B C D E => .req (fineB s) (.leaf (.ok (outV (g s A B C D E)) (memO (g s A B C D E).A (g s A B C D E).B (g s A B C D E).C (g s A B C D E).D (g s A B C D E).E)))) H
    | none => .fail
  | _ => .fail
def stpD (g : StFn) : MSpec := fun args H => match args with
  | [.agg cs, .ptr 0 0] => match cpuOf cs with
    | some s => refM (fun A B C D E => .req (fineB s) (.leaf (.ok (outV (g s A B C D E)) (refO (g s A B C D E).A (g s A B C D E).B (g s A B C D E).C (g s A B C D E).D (g s A B C D E).E)))) H
    | none => .fail
  | _ => .fail
theorem cxSt_ok {f : OutFn} (h : MSound Tryz.prog 14 (runS f)) : CxOk (cxSt f) := ⟨ok1 isaS_ok, .cons fetchM_ok (.cons h (.nil _)), .nil _, fun p h => by cases h⟩
theorem cxSr_ok {f : OutFn} (h : MSound Tryz.prog 21 (refS f)) : CxOk (cxSr f) := ⟨ok1 decXS_ok, .cons fetchRf_ok (.cons h (.nil _)), .nil _, fun p h => by cases h⟩
theorem stpS_ok {f : OutFn} (hf : MSound Tryz.prog 14 (runS f)) : MSound Tryz.prog 18 (stpS (stG f)) := by
  intro args H out h
  unfold stpS at h
  split at h
  rotate_left
  · cases h
  rename_i cs
  split at h
  rotate_left
  · cases h
  rename_i s hs
  obtain ⟨A, B, C, D, E, rfl, hl, h⟩ := memM_run h
  obtain ⟨hfb, h⟩ := req_run h
  cases h
  obtain ⟨rfl, e2⟩ := cpuOf_spec hs
  have hF := fine_of e2 hfb
  refine mfunR_ok (cx := cxSt f) (fn := Tryz.f18) [] (cxSt_ok hf) (by kernel_rfl) (by kernel_rfl) _ _ _ ?_
  rw [← Tree.fin_run]
  have e := (st_eq f s A B C D E).trans (stpX_eq hF hl)
  unfold stpE at e
  rw [show tabS s = s from cpu_tab e2] at e
  exact e
theorem stpD_ok {f : OutFn} (hf : MSound Tryz.prog 21 (refS f)) : MSound Tryz.prog 23 (stpD (stG f)) := by
  intro args H out h
  unfold stpD at h
  split at h
  rotate_left
  · cases h
  rename_i cs
  split at h
  rotate_left
  · cases h
  rename_i s hs
  obtain ⟨A, B, C, D, E, rfl, hl, h⟩ := refM_run h
  obtain ⟨hfb, h⟩ := req_run h
  cases h
  obtain ⟨rfl, e2⟩ := cpuOf_spec hs
  have hF := fine_of e2 hfb
  refine mfunR_ok (cx := cxSr f) (fn := Tryz.f23) [] (cxSr_ok hf) (by kernel_rfl) (by kernel_rfl) _ _ _ ?_
  rw [← Tree.fin_run]
  have e := (sr_eq f s A B C D E).trans (srX_eq hF hl)
  unfold srE at e
  rw [show tabS s = s from cpu_tab e2] at e
  exact e
def GOk (g : StFn) : Prop := ∀ s A B C D E, Fine s → lens5 A B C D E = true → Fine (g s A B C D E).s ∧ lens5 (g s A B C D E).A (g s A B C D E).B (g s A B C D E).C (g s A B C D E).D (g s A B C D E).E = true
theorem stG_ok {f : OutFn} (hf : FOk f) : GOk (stG f) := by
  intro s A B C D E hs hl
  unfold stG
  cases Nat.beq (fetN s.pc) 0
  · cases dE (fetL A B C D E s.pc) 0 != 0
    · exact hf _ _ _ _ _ _ _ _ _ _ _ _ _ hs hl
    · exact ⟨hs, hl⟩
  · exact ⟨hs, hl⟩
end Go.Ra

namespace Go.Ra
open Go Go.Ab Go.Proofs
noncomputable def cxSs (g : StFn) : Cx := { P := Tryz.prog, n := Tryz.f9.ntmps, tab := [(10, begunS)], mtab := (18, stpS g) :: (23, stpD g) :: (15, worldD) :: (myT 1).mtab, rtab := (myT 1).rtab, still := [18, 23], refs := [], keeps := [0, 1, 2, 3, 6, 7, 8, 9, 10, 11, 12, 13, 14, 15, 16, 18, 26, 35, 64, 66] }
noncomputable abbrev Bss : Code := bodyOf Tryz.f9
def ssT (k : Int) : T := [(3, .ptr 0 0), (7, .ptr 1 0), (8, .ptr 8 0), (9, .ptr 15 0), (10, .int .i64 k)]
def ssStop (k : Int) (s : CpuT) (o : Out) : Tree St := .leaf (.ret, ssT k, rnH s s o.A o.B o.C o.D o.E)
def ssRound (g : StFn) (k : Int) (s : CpuT) (A B C D E : List Int) : Tree St :=
  .br (decide (k < 200)) (.br (true && lens5 A B C D E) (.br (fineB (tabS s)) (.br (true && (true && (true && lens5 A B C D E))) (.br (fineB (tabS s))
    (let o := g (tabS s) A B C D E
     .br (!(eqS (tabS o.s) (tabS o.s))) (ssStop k s o) (.br (o.ev != o.ev) (ssStop k s o) (.br (o.err != o.err) (ssStop k s o) (.br (o.err != 0) (.leaf (.exit 0, ssT k, rnH s s o.A o.B o.C o.D o.E)) (.leaf (.normal, ssT (IntKind.wrap .i64 (k + 1)), rnH o.s o.s o.A o.B o.C o.D o.E)))))) .fail) .fail) .fail) .fail)
    (.leaf (.exit 0, ssT k, rnH s s A B C D E))
theorem ssRound_eq (g : StFn) (k : Int) (s : CpuT) (A B C D E : List Int) :
    ((dcode (cxSs g) (cin (cin (c2 (c1 (tailN 4 Bss))))) (ssT k) (rnH s s A B C D E)).bind (rnd 16 [] [3, 7, 8, 9, 10])).run = (ssRound g k s A B C D E).run :=
  (show _ = (ssRound g k s A B C D E).out by kernel_rfl).trans (Tree.out_run _)
def ssA (s : CpuT) (l m : List Int) (t : T) : T := (0, .agg (tabS s).l) :: (1, .sl (.int .u8) l [] .may) :: (2, .sl (.int .u8) m [] .may) :: (3, .ptr 0 0) :: t
def ssHead (s : CpuT) (l m : List Int) : Tree St :=
  .br (decide (8192 < ((l.length : Nat) : Int))) (.leaf (.ret, ssA s l m [(6, .bool true), (18, .bool false), (26, .bool true)], [cpuO s])) (.br (decide (8192 < ((m.length : Nat) : Int))) (.leaf (.ret, ssA s l m [(6, .bool true), (18, .bool false), (26, .bool true)], [cpuO s]))
    (.br (setB l && setB m) (.leaf (.normal, ssA s l m [(6, .bool false), (7, .ptr 1 0), (8, .ptr 8 0), (9, .ptr 15 0), (18, .bool false), (26, .bool false)],
    rnH s s (wdK 1 l m zeros) (wdK 2 l m zeros) (wdK 16 l m zeros) (wdK 17 l m zeros) (wdK 32 l m zeros))) .fail))
theorem ss_head (g : StFn) (s : CpuT) (l m : List Int) : (dcode (cxSs g) (headN 4 Bss) (initT 0 [.agg (tabS s).l, .sl (.int .u8) l [] .may, .sl (.int .u8) m [] .may]) []).run = (ssHead s l m).run :=
  (show _ = (ssHead s l m).out by kernel_rfl).trans (Tree.out_run _)
theorem ss_start (g : StFn) (H : List O) : ((dcode (cxSs g) (c1 (c1 (tailN 4 Bss))) [(3, .ptr 0 0), (7, .ptr 1 0), (8, .ptr 8 0), (9, .ptr 15 0)] H).bind (cutK [3, 7, 8, 9, 10])).run = some (.normal, ssT 0, H) := by kernel_rfl
noncomputable def ssEnd (g : StFn) (s : CpuT) (A B C D E : List Int) : Option V := ((dcode (cxSs g) (tailN 5 Bss) [(7, .ptr 1 0), (8, .ptr 8 0)] (rnH s s A B C D E)).bind (answer Tryz.prog Tryz.f9.results.toList)).fin
theorem ss_end (g : StFn) (s : CpuT) (A B C D E : List Int) : ssEnd g s A B C D E =
    cond (true && lens5 A B C D E) (pgOk (lens5 A B C D E) A (pgOk (lens5 A B C D E) B (pgOk (lens5 A B C D E) C (pgOk (lens5 A B C D E) D (pgOk (lens5 A B C D E) E (some (.bool true))))))) none := by kernel_rfl
structure SsSt where
  k : Nat
  s : CpuT
  A : List Int
  B : List Int
  C : List Int
  D : List Int
  E : List Int
  hk : k ≤ 200
  hs : Fine s
  hl : lens5 A B C D E = true
def ssSt (i : SsSt) : T × List O := (ssT i.k, rnH i.s i.s i.A i.B i.C i.D i.E)
theorem cxSs_ok {g : StFn} (h1 : MSound Tryz.prog 18 (stpS g)) (h2 : MSound Tryz.prog 23 (stpD g)) : CxOk (cxSs g) :=
  ⟨.cons begunS_ok (.nil _), .cons h1 (.cons h2 (.cons worldD_ok (myT_ok 1).2.1)), (myT_ok 1).2.2⟩
set_option maxRecDepth 8000 in
theorem steps_law {g : StFn} (hg : GOk g) (h1 : MSound Tryz.prog 18 (stpS g)) (h2 : MSound Tryz.prog 23 (stpD g)) {s : CpuT} (hs : Fine s) {l m : List Int} (h3 : l.all byteB = true) (h4 : m.all byteB = true) :
    PCall Tryz.prog 9 [.agg s.l, .sl (.int .u8) l [] .may, .sl (.int .u8) m [] .may] (.bool true) := by
  have hok := cxSs_ok h1 h2
  have hts : tabS s = s := cpu_tab hs.len
  rw [← hts]
  refine pcall_of' (c := Bss) (fn := Tryz.f9) (by kernel_rfl) (by kernel_rfl) (by kernel_rfl) (by kernel_rfl) ?_
  refine AWP_headE (cx := cxSs g) rfl rfl hok 4 (by kernel_rfl) (ss_head g s l m) ?_
  refine ⟨fun _ => ⟨.inl rfl, by kernel_rfl⟩, fun hx => ⟨fun _ => ⟨.inl rfl, by kernel_rfl⟩, fun hy => ?_⟩⟩
  have hx := of_decide_eq_false hx
  have hy := of_decide_eq_false hy
  have b1 : setB l = true := by
    unfold setB
    rw [h3, decide_eq_true (by omega)]
    rfl
  have b2 : setB m = true := by
    unfold setB
    rw [h4, decide_eq_true (by omega)]
    rfl
  refine all_t (by rw [b1, b2]; rfl) ?_
  show AWP _ _ _ _ _ _
  refine AWP.less (s := [(3, .ptr 0 0), (7, .ptr 1 0), (8, .ptr 8 0), (9, .ptr 15 0)]) (Fits.tle ⟨rfl, rfl, rfl, rfl, trivial⟩) ?_
  have eb : tailN 4 Bss = .seq (.seq (c1 (c1 (tailN 4 Bss))) (.block 0 (.loop (cin (cin (c2 (c1 (tailN 4 Bss)))))))) (tailN 5 Bss) := by kernel_rfl
  rw [eb]
  have hl := lens5_wd b1 b2 lens_zeros
  generalize wdK 1 l m zeros = A at hl
  generalize wdK 2 l m zeros = B at hl
  generalize wdK 16 l m zeros = C at hl
  generalize wdK 17 l m zeros = D at hl
  generalize wdK 32 l m zeros = E at hl
  obtain ⟨r, g1, g2⟩ := Option.map_eq_some_iff.1 ((cutK_run _ _).symm.trans (ss_start g (rnH s s A B C D E)))
  refine AWP_seq (AWP_seq (AWP_run (cx := cxSs g) rfl rfl hok g1 ?_))
  obtain ⟨ex, t, H⟩ := r
  simp only [Prod.mk.injEq] at g2
  obtain ⟨rfl, g2, rfl⟩ := g2
  refine AWP_block (AWP.less (s := ssT 0) (g2 ▸ TLe.keep _ _) ?_)
  refine AWP_roundsK (cx := cxSs g) (P := Tryz.prog) (n := 72) rfl rfl hok ssSt (fun i => 200 - i.k) [] [3, 7, 8, 9, 10] ?_ ⟨0, s, A, B, C, D, E, by omega, hs, hl⟩
  rintro ⟨k, s, A, B, C, D, E, hk, hs, hl⟩
  refine Tree.all_run_eq (ssRound_eq g k s A B C D E) ?_
  have hts : tabS s = s := cpu_tab hs.len
  have hfb : fineB (tabS s) = true := by rw [hts]; exact fineB_of hs
  have hend : ∀ {A' B' C' D' E' : List Int}, lens5 A' B' C' D' E' = true → RoundK ssSt (fun i => 200 - i.k) [3, 7, 8, 9, 10] (blockQ 0 (seqQ (AWP Tryz.prog 72 (tailN 5 Bss) fun e t H => (e = .ret ∨ e = .normal) ∧ answerV Tryz.prog Tryz.f9.results.toList H t = some (.bool true)) fun e t H => (e = .ret ∨ e = .normal) ∧ answerV Tryz.prog Tryz.f9.results.toList H t = some (.bool true)))
      ⟨k, s, A, B, C, D, E, hk, hs, hl⟩ (.exit 0, ssT k, rnH s s A' B' C' D' E') := by
    intro A' B' C' D' E' hl' t ht
    have ht : ssT k = keep [3, 7, 8, 9, 10] t := ht
    show AWP _ _ _ _ _ _
    refine AWP.less (s := ssT k) (ht ▸ TLe.keep _ _) ?_
    refine AWP.less (s := [(7, .ptr 1 0), (8, .ptr 8 0)]) (Fits.tle ⟨rfl, rfl, trivial⟩) ?_
    have he := (ss_end g s A' B' C' D' E').trans (myEnd hl')
    unfold ssEnd at he
    rw [Tree.fin_run] at he
    obtain ⟨r, q1, q2⟩ := bind_run he
    refine AWP_run (cx := cxSs g) rfl rfl hok q1 ?_
    exact answer_post q2
  refine ⟨fun hlt => ?_, fun _ => hend hl⟩
  have hlt := of_decide_eq_true hlt
  refine all_t (by rw [hl]; rfl) (all_t hfb (all_t (by rw [hl]; rfl) (all_t hfb ?_)))
  refine all_f (by rw [eqS_self]; rfl) (all_f (bne_self_eq_false _) (all_f (bne_self_eq_false _) ?_))
  rw [hts]
  obtain ⟨f1, f2⟩ := hg s A B C D E hs hl
  refine ⟨fun _ => hend f2, fun _ => ?_⟩
  refine ⟨⟨k + 1, _, _, _, _, _, _, by omega, f1, f2⟩, by show 200 - (k + 1) < 200 - k; omega, ?_, rfl⟩
  rw [wrap_i64 (by omega) (by omega)]
  exact TLe.refl _
theorem argS (x : EC.tys [cpuE, .sl (.int .u8), .sl (.int .u8)]) : argVs [cpuE, .sl (.int .u8), .sl (.int .u8)] x = [.agg (cpuA x.1).l, .sl (.int .u8) (x.2.1.getD []) [] .may, .sl (.int .u8) (x.2.2.getD []) [] .may] := by kernel_rfl
theorem steps_call (x : EC.tys [cpuE, .sl (.int .u8), .sl (.int .u8)]) (h : okEs [cpuE, .sl (.int .u8), .sl (.int .u8)] x) : PCall Tryz.prog 9 (argVs [cpuE, .sl (.int .u8), .sl (.int .u8)] x) (.bool true) := by
  rw [argS]
  exact steps_law (stG_ok outA_ok) (stpS_ok runA_ok) (stpD_ok refA_ok) (cpuA_fine h.1) (ok_bytes h.2.1) (ok_bytes h.2.2)
end Go.Ra
