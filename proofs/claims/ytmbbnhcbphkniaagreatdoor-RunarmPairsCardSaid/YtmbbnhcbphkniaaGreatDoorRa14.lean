/-
  runarm: the law Pairs, of whatever is handed in. Conditions: none.
-/
import Derived.Test.YtmbbnhcbphkniaaGreatDoorRa13
import Derived.Test.YtmbbnhcbphkniaaGreatDoorRm6
import Derived.Test.YtmbbnhcbphkniaaGreatDoorEnJ
namespace Go.Ra
open Go Go.Ab Go.Proofs

theorem zeros_len : zeros.length = 4096 := List.length_replicate
theorem zeros_get (i : Nat) : zeros.getD i 0 = 0 := by
  rw [List.getD_eq_getElem?_getD]
  unfold zeros
  rw [List.getElem?_replicate]
  split <;> rfl
theorem lens_zeros : lens5 zeros zeros zeros zeros zeros = true := by
  unfold lens5
  rw [zeros_len]
  rfl
theorem byte_zeros (z : Int) : byteF zeros zeros zeros zeros zeros z = 0 := by
  unfold byteF selF
  cases pgF z == 1 <;> cases pgF z == 2 <;> cases pgF z == 16 <;> cases pgF z == 17 <;> exact zeros_get _
theorem adr_at {x : Int} {j : Nat} (h0 : 0 ≤ x) (h1 : x + j < 18446744073709551616) : adr x j = x + j := by
  have e : adr x j = (x + (j : Int) % 18446744073709551616) % 18446744073709551616 := rfl
  rw [e]
  omega
theorem usable_17 {z : Int} (h0 : 69632 ≤ z) (h1 : z < 73728) : usable z = true := by
  have hr : rng64 z = true := by
    simp only [rng64, Bool.and_eq_true, decide_eq_true_eq]
    omega
  have hp : pgF z = 17 := by
    rw [pgF_eq hr]
    omega
  unfold usable
  rw [hr, hp]
  rfl
theorem prLo_true (a b : Int) : prLo a b zeros zeros zeros zeros zeros = some (.bool true) := by
  have e : ∀ x, ldN zeros zeros zeros zeros zeros x 8 0 = 0 := fun x => ldN_zero 8 fun j _ => byte_zeros _
  unfold prLo same2
  rw [e, e, e, beq_self_eq_true, beq_self_eq_true]
  rfl
theorem rL_true (n : Nat) (v : Option V) : rL true n v = v := by
  induction n with
  | zero => rfl
  | succ n ih => exact ih
theorem prS_true {i : Nat} {a b k : Int} (ha : rng64 a = true) (hb : rng64 b = true) (hi : i < 40) (hk : Int.tmod k 40 = (i : Int)) : prS i a b k zeros zeros zeros zeros zeros = some (.bool true) := by
  unfold prS
  rw [lens_zeros, rL_true, rL_true, rL_true, rL_true, rL_true, rL_true, prLo_true, hk]
  by_cases h8 : i ≤ 8
  · rw [Nat.ble_eq_true_of_le h8, cond_true, decide_eq_true (by omega)]
    rfl
  have e8 : Nat.ble i 8 = false := by
    cases h : Nat.ble i 8
    · rfl
    · exact absurd (Nat.le_of_ble_eq_true h) h8
  rw [e8, cond_false]
  by_cases h15 : i ≤ 15
  · rw [Nat.ble_eq_true_of_le h15, cond_true, decide_eq_true (by omega)]
    rfl
  have e15 : Nat.ble i 15 = false := by
    cases h : Nat.ble i 15
    · rfl
    · exact absurd (Nat.le_of_ble_eq_true h) h15
  rw [e15, cond_false, decide_eq_false (by omega)]
  generalize hx : (73728 - (i : Int)) = x
  have l1 := lens5_stN (x := x) (y := a) 8 0 lens_zeros
  have l2 := lens5_stN (x := x + 8) (y := b) 8 0 l1
  have u1 : ∀ j : Nat, 0 ≤ j → j < 0 + 8 → usable (adr x j) = true ∧ adr x j = x + j := fun j _ hj => by
    rw [adr_at (by omega) (by omega)]
    exact ⟨usable_17 (by omega) (by omega), rfl⟩
  have u2 : ∀ j : Nat, 0 ≤ j → j < 0 + 8 → usable (adr (x + 8) j) = true ∧ adr (x + 8) j = x + 8 + j := fun j _ hj => by
    rw [adr_at (by omega) (by omega)]
    exact ⟨usable_17 (by omega) (by omega), rfl⟩
  unfold prSt
  rw [lens_zeros, l1, cond_true, cond_true]
  simp only [l2, rL_true, cond_false]
  have g1 : ∀ j : Nat, j < 8 → byteF (stN 1 (x + 8) b 8 0 (stN 1 x a 8 0 zeros)) (stN 2 (x + 8) b 8 0 (stN 2 x a 8 0 zeros)) (stN 16 (x + 8) b 8 0 (stN 16 x a 8 0 zeros)) (stN 17 (x + 8) b 8 0 (stN 17 x a 8 0 zeros)) (stN 32 (x + 8) b 8 0 (stN 32 x a 8 0 zeros)) (adr x j) = byS a j := by
    intro j hj
    obtain ⟨q1, q2⟩ := u1 j (by omega) (by omega)
    rw [byteF_stN q1 8 0 l1 u2, byteF_stN q1 8 0 lens_zeros u1, q2, if_neg (by omega), if_pos (by omega)]
    have : (x + (j : Int) - x).toNat = j := by omega
    rw [this]
  have g2 : ∀ j : Nat, j < 8 → byteF (stN 1 (x + 8) b 8 0 (stN 1 x a 8 0 zeros)) (stN 2 (x + 8) b 8 0 (stN 2 x a 8 0 zeros)) (stN 16 (x + 8) b 8 0 (stN 16 x a 8 0 zeros)) (stN 17 (x + 8) b 8 0 (stN 17 x a 8 0 zeros)) (stN 32 (x + 8) b 8 0 (stN 32 x a 8 0 zeros)) (adr (x + 8) j) = byS b j := by
    intro j hj
    obtain ⟨q1, q2⟩ := u2 j (by omega) (by omega)
    rw [byteF_stN q1 8 0 l1 u2, q2, if_pos (by omega)]
    have : (x + 8 + (j : Int) - (x + 8)).toNat = j := by omega
    rw [this]
  unfold prHi
  rw [ldN_8 ha g1, ldN_8 hb g2, beq_self_eq_true, beq_self_eq_true]
  rfl
theorem pairs_ok {a b k : Int} (ha : rng64 a = true) (hb : rng64 b = true) (k0 : 0 ≤ k) (k1 : k < 65536) : PCall Tryz.prog 6 [.int .u64 a, .int .u64 b, .int .u16 k] (.bool true) := by
  refine pcall_of' (c := Bp) (fn := Tryz.f6) (by kernel_rfl) (by kernel_rfl) (by kernel_rfl) (by kernel_rfl) ?_
  refine AWP_headK (cx := cxPr) rfl rfl cxPr_ok 6 [0, 1, 2, 7, 9] (by kernel_rfl) (pr_head a b k) ?_
  have hk : Int.tmod k 40 = ((k.toNat % 40 : Nat) : Int) := by
    rw [Int.tmod_eq_emod_of_nonneg k0]
    omega
  have hlt : k.toNat % 40 < 40 := Nat.mod_lt _ (by decide)
  have hw : IntKind.wrap .u64 (73728 - IntKind.wrap .u64 (Int.tmod k 40)) = 73728 - ((k.toNat % 40 : Nat) : Int) := by
    rw [hk]
    show (73728 - ((k.toNat % 40 : Nat) : Int) % 18446744073709551616) % 18446744073709551616 = _
    omega
  rw [hw]
  generalize k.toNat % 40 = i at hk hlt
  have run : (pwL i a b k zeros zeros zeros zeros zeros).run = some (.bool true) := by
    have e := congrFun (congrFun (congrFun (congrFun (congrFun (congrFun (congrFun (congrFun (pr_all i (List.mem_range.2 hlt)) a) b) k) zeros) zeros) zeros) zeros) zeros
    rw [← Tree.fin_run]
    exact e.trans (prS_true ha hb hlt hk)
  unfold pwL at run
  obtain ⟨s, g1, g2⟩ := bind_run run
  refine AWP_run (cx := cxPr) rfl rfl cxPr_ok g1 ?_
  obtain ⟨e, t, H⟩ := s
  unfold answer at g2
  split at g2
  · rename_i heq
    cases heq
    split at g2
    · rename_i v hv
      cases g2
      exact ⟨.inl rfl, hv⟩
    · cases g2
  · rename_i heq
    cases heq
    split at g2
    · rename_i v hv
      cases g2
      exact ⟨.inr rfl, hv⟩
    · cases g2
  · cases g2
theorem pairs_call (x : EC.tys [.int .u64, .int .u64, .int .u16]) (h : okEs [.int .u64, .int .u64, .int .u16] x) : PCall Tryz.prog 6 (argVs [.int .u64, .int .u64, .int .u16] x) (.bool true) := by
  have h1 : IntKind.u64.has x.1 := h.1
  have h2 : IntKind.u64.has x.2.1 := h.2.1
  have h3 : IntKind.u16.has x.2.2 := h.2.2
  have e1 : IntKind.u64.min = 0 ∧ IntKind.u64.max = 18446744073709551616 - 1 ∧ IntKind.u16.min = 0 ∧ IntKind.u16.max = 65536 - 1 := ⟨rfl, rfl, rfl, rfl⟩
  unfold IntKind.has at h1 h2 h3
  rw [e1.1, e1.2.1] at h1 h2
  rw [e1.2.2.1, e1.2.2.2] at h3
  have r1 : ∀ {y : Int}, 0 ≤ y ∧ y ≤ 18446744073709551616 - 1 → rng64 y = true := fun {y} hy => by
    simp only [rng64, Bool.and_eq_true, decide_eq_true_eq]
    omega
  exact pairs_ok (a := x.1) (b := x.2.1) (k := x.2.2) (r1 h1) (r1 h2) h3.1 (Int.lt_of_le_sub_one h3.2)

end Go.Ra
