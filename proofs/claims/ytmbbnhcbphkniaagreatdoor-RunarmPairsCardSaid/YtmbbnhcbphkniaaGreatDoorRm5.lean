/-
  The program's memory: numbers loaded and stored. Conditions: none.
-/
import Derived.Test.YtmbbnhcbphkniaaGreatDoorRm4
namespace Go.Ra
open Go Go.Ab Go.Proofs

/-- The context of foundry/pages.sized. -/
noncomputable def cx33 : Cx := { P := Tryz.prog, n := 17, tab := [], mtab := [], refs := [], keeps := [0, 2] }
noncomputable def sizedS : Ab.Spec := fun args => .req (Nat.ble args.length Tryz.f33.ntmps) (dfun cx33 Tryz.f33 args)
theorem sizedS_ok : Sound Tryz.prog 33 sizedS := sound_fun (cx := cx33) (fn := Tryz.f33) (cx0_ok rfl rfl) (by kernel_rfl) (by kernel_rfl)
/-- The context of (*foundry/pages.Pages).Load. -/
noncomputable def cx16 : Cx := { P := Tryz.prog, n := 41, tab := [(33, sizedS)], mtab := [(34, noneM), (35, mayM), (36, getM)], refs := [], keeps := [0, 1, 2, 6, 7, 8, 9, 10, 14, 27], fuel := 9 }
/-- The context of (*foundry/pages.Pages).Store. -/
noncomputable def cx62 : Cx := { P := Tryz.prog, n := 40, tab := [(33, sizedS)], mtab := [(34, noneM), (35, mayM), (68, putM)], refs := [], keeps := [0, 1, 2, 3, 8, 9, 10, 14, 24, 25, 26], fuel := 9 }
def adr (x : Int) (i : Nat) : Int := IntKind.wrap .u64 (x + IntKind.wrap .u64 (i : Int))
def ldS (v b : Int) : Int := IntKind.wrap .u64 (((BitVec.ofInt 64 (IntKind.wrap .u64 (v * 2 ^ 8)) ||| BitVec.ofInt 64 (IntKind.wrap .u64 b)).toNat : Nat) : Int)
def usable (x : Int) : Bool := rng64 x && isPg (pgF x)
def ldGo (a b c d e : List Int) (x : Int) : Nat → Int → Option Res
  | 0, v => some (.ok (.tup [.int .u64 v, .int .i64 0]) (memO a b c d e))
  | m + 1, v => cond (true && lens5 a b c d e) (cond (usable (adr x m)) (ldGo a b c d e x m (ldS v (byteF a b c d e (adr x m)))) none) none
def ldX (n : Nat) (a b c d e : List Int) (x : Int) : Option Res := cond (true && lens5 a b c d e) (cond (rng64 x && true) (cond (!mayB x (n : Int) 4) (some (.ok (.tup [.int .u64 0, .int .i64 21]) (memO a b c d e))) (ldGo a b c d e x n 0)) none) none
noncomputable def ldE (n : Nat) (a b c d e : List Int) (x : Int) : Option Res := (mfun cx16 Tryz.f16 [.ptr 0 0, .int .u64 x, .int .i64 (n : Int)] (memO a b c d e)).fin
def byS (y : Int) (i : Nat) : Int := IntKind.wrap .u8 (Int.fdiv y (2 ^ (8 * i)))
def stGo (x y : Int) : Nat → Nat → List Int → List Int → List Int → List Int → List Int → Option Res
  | 0, _, a, b, c, d, e => some (.ok (.int .i64 0) (memO a b c d e))
  | m + 1, i, a, b, c, d, e => cond (true && lens5 a b c d e) (cond (usable (adr x i)) (stGo x y m (i + 1) (setF 1 (adr x i) (byS y i) a) (setF 2 (adr x i) (byS y i) b) (setF 16 (adr x i) (byS y i) c) (setF 17 (adr x i) (byS y i) d) (setF 32 (adr x i) (byS y i) e)) none) none
def stX (n : Nat) (a b c d e : List Int) (x y : Int) : Option Res := cond (true && lens5 a b c d e) (cond (rng64 x && true) (cond (!mayB x (n : Int) 2) (some (.ok (.int .i64 21) (memO a b c d e))) (stGo x y n 0 a b c d e)) none) none
noncomputable def stE (n : Nat) (a b c d e : List Int) (x y : Int) : Option Res := (mfun cx62 Tryz.f62 [.ptr 0 0, .int .u64 x, .int .i64 (n : Int), .int .u64 y] (memO a b c d e)).fin
theorem ld_all : [1, 2, 4, 8].map ldE = [1, 2, 4, 8].map ldX := by kernel_rfl
theorem st_all : [1, 2, 4, 8].map stE = [1, 2, 4, 8].map stX := by kernel_rfl

def szB (n : Int) : Bool := n == 1 || (n == 2 || (n == 4 || n == 8))
theorem szB_mem {n : Int} (h : szB n = true) : ∃ m : Nat, m ∈ [1, 2, 4, 8] ∧ n = (m : Int) := by
  simp only [szB, Bool.or_eq_true, beq_iff_eq] at h
  rcases h with h | h | h | h
  · exact ⟨1, by decide, h⟩
  · exact ⟨2, by decide, h⟩
  · exact ⟨4, by decide, h⟩
  · exact ⟨8, by decide, h⟩
theorem okP_pg {r k : Int} (h : okP r k = true) : isPg k = true := by
  unfold okP pgR at h
  unfold isPg
  revert h
  cases k == 1 <;> cases k == 2 <;> cases k == 16 <;> cases k == 17 <;> cases k == 32 <;> intro h <;> first | rfl | cases h
theorem adr_eq {x n : Int} {r : Int} (h : rng64 x = true) (h1 : 1 ≤ n) (h2 : n ≤ 16) (hm : mayB x n r = true) {i : Nat} (hi : (i : Int) < n) : adr x i = x + i ∧ rng64 (x + i) = true := by
  unfold mayB at hm
  obtain ⟨g1, _⟩ := Bool.and_eq_true_iff.1 hm
  have g1 := of_decide_eq_true g1
  have ey := endF_eq h h1 h2 g1
  have hy := endF_rng x n
  rw [ey] at hy
  simp only [rng64, Bool.and_eq_true, decide_eq_true_eq] at h hy ⊢
  have e : adr x i = (x + (i : Int) % 18446744073709551616) % 18446744073709551616 := rfl
  rw [e]
  omega
theorem usable_of {x n : Int} {r : Int} (h : rng64 x = true) (h1 : 1 ≤ n) (h2 : n ≤ 16) (hm : mayB x n r = true) {i : Nat} (hi : (i : Int) < n) : usable (adr x i) = true := by
  obtain ⟨e1, e2⟩ := adr_eq h h1 h2 hm hi
  unfold usable
  rw [e1, e2, Bool.true_and]
  unfold mayB at hm
  obtain ⟨g1, g2⟩ := Bool.and_eq_true_iff.1 hm
  obtain ⟨g2, g3⟩ := Bool.and_eq_true_iff.1 g2
  have g1 := of_decide_eq_true g1
  have ey := endF_eq h h1 h2 g1
  have hy := endF_rng x n
  have px := pgF_eq h
  have py := pgF_eq hy
  have pi := pgF_eq e2
  rcases Bool.or_eq_true_iff.1 g3 with g3 | g3
  · have g3 : pgF (endF x n) = pgF x := by simpa using g3
    have : pgF (x + i) = pgF x := by omega
    rw [this]
    exact okP_pg g2
  · by_cases hq : pgF (x + i) = pgF x
    · rw [hq]
      exact okP_pg g2
    · have : pgF (x + i) = pgF (endF x n) := by omega
      rw [this]
      exact okP_pg g3

/-- The number that is loaded. -/
def ldN (a b c d e : List Int) (x : Int) : Nat → Int → Int
  | 0, v => v
  | m + 1, v => ldN a b c d e x m (ldS v (byteF a b c d e (adr x m)))
def stN (k x y : Int) : Nat → Nat → List Int → List Int
  | 0, _, l => l
  | m + 1, i, l => stN k x y m (i + 1) (setF k (adr x i) (byS y i) l)
theorem ldGo_eq {a b c d e : List Int} {x : Int} (hl : lens5 a b c d e = true) : ∀ (m : Nat) (v : Int), (∀ i, i < m → usable (adr x i) = true) → ldGo a b c d e x m v = some (.ok (.tup [.int .u64 (ldN a b c d e x m v), .int .i64 0]) (memO a b c d e))
  | 0, _, _ => rfl
  | m + 1, v, h => by
    unfold ldGo ldN
    rw [hl, h m (by omega), Bool.and_true, cond_true, cond_true]
    exact ldGo_eq hl m _ fun i hi => h i (by omega)
theorem setF_len (k x v : Int) (l : List Int) : (setF k x v l).length = l.length := by
  unfold setF
  cases pgF x == k
  · rfl
  · exact List.length_set
theorem lens5_set {a b c d e : List Int} (h : lens5 a b c d e = true) (x v : Int) : lens5 (setF 1 x v a) (setF 2 x v b) (setF 16 x v c) (setF 17 x v d) (setF 32 x v e) = true := by
  unfold lens5 at h ⊢
  simpa only [setF_len] using h
theorem stGo_eq {x y : Int} : ∀ (m i : Nat) {a b c d e : List Int}, lens5 a b c d e = true → (∀ j, i ≤ j → j < i + m → usable (adr x j) = true) →
    stGo x y m i a b c d e = some (.ok (.int .i64 0) (memO (stN 1 x y m i a) (stN 2 x y m i b) (stN 16 x y m i c) (stN 17 x y m i d) (stN 32 x y m i e)))
  | 0, _, _, _, _, _, _, _, _ => rfl
  | m + 1, i, a, b, c, d, e, hl, h => by
    unfold stGo stN
    rw [hl, h i (by omega) (by omega), Bool.and_true, cond_true, cond_true]
    exact stGo_eq m (i + 1) (lens5_set hl _ _) fun j h1 h2 => h j (by omega) (by omega)

def loadM : MSpec := fun args H => match args with
  | [.ptr 0 0, .int .u64 x, .int .i64 n] => memM (fun a b c d e => .req (rng64 x && szB n) (.leaf (.ok (.tup [.int .u64 (cond (mayB x n 4) (ldN a b c d e x n.toNat 0) 0), .int .i64 (cond (mayB x n 4) 0 21)]) (memO a b c d e)))) H
  | _ => .fail
def stB (k x n y : Int) (l : List Int) : List Int := cond (mayB x n 2) (stN k x y n.toNat 0 l) l
def storeM : MSpec := fun args H => match args with
  | [.ptr 0 0, .int .u64 x, .int .i64 n, .int .u64 y] => memM (fun a b c d e => .req (rng64 x && szB n) (.leaf (.ok (.int .i64 (cond (mayB x n 2) 0 21)) (memO (stB 1 x n y a) (stB 2 x n y b) (stB 16 x n y c) (stB 17 x n y d) (stB 32 x n y e))))) H
  | _ => .fail
theorem loadM_ok : MSound Tryz.prog 16 loadM := by
  intro args H out h
  unfold loadM at h
  split at h
  rotate_left
  · cases h
  rename_i x n
  obtain ⟨a, b, c, d, e, rfl, hl, h⟩ := memM_run h
  obtain ⟨h1, h⟩ := req_run h
  cases h
  obtain ⟨hx, hn⟩ := Bool.and_eq_true_iff.1 h1
  obtain ⟨m, hm, rfl⟩ := szB_mem hn
  refine msound_fun (cx := cx16) (fn := Tryz.f16) (cx1_ok (ok1 sizedS_ok) (.cons noneM_ok (.cons mayM_ok (.cons getM_ok fun p h => by cases h))) rfl rfl) (by kernel_rfl) (by kernel_rfl) _ _ _ ?_
  refine run_req (by kernel_rfl) ?_
  rw [← Tree.fin_run]
  refine (congrFun (congrFun (congrFun (congrFun (congrFun (congrFun (List.map_inj_left.1 ld_all _ hm) a) b) c) d) e) x).trans ?_
  have hm1 : 1 ≤ m ∧ m ≤ 16 := by
    simp only [List.mem_cons, List.not_mem_nil, or_false] at hm
    omega
  unfold ldX
  rw [hl, hx]
  cases hb : mayB x (m : Int) 4
  · rfl
  · exact ldGo_eq hl m 0 fun i hi => usable_of hx (by omega) (by omega) hb (by omega)
theorem storeM_ok : MSound Tryz.prog 62 storeM := by
  intro args H out h
  unfold storeM at h
  split at h
  rotate_left
  · cases h
  rename_i x n y
  obtain ⟨a, b, c, d, e, rfl, hl, h⟩ := memM_run h
  obtain ⟨h1, h⟩ := req_run h
  cases h
  obtain ⟨hx, hn⟩ := Bool.and_eq_true_iff.1 h1
  obtain ⟨m, hm, rfl⟩ := szB_mem hn
  refine msound_fun (cx := cx62) (fn := Tryz.f62) (cx1_ok (ok1 sizedS_ok) (.cons noneM_ok (.cons mayM_ok (.cons putM_ok fun p h => by cases h))) rfl rfl) (by kernel_rfl) (by kernel_rfl) _ _ _ ?_
  refine run_req (by kernel_rfl) ?_
  rw [← Tree.fin_run]
  refine (congrFun (congrFun (congrFun (congrFun (congrFun (congrFun (congrFun (List.map_inj_left.1 st_all _ hm) a) b) c) d) e) x) y).trans ?_
  have hm1 : 1 ≤ m ∧ m ≤ 16 := by
    simp only [List.mem_cons, List.not_mem_nil, or_false] at hm
    omega
  unfold stX stB
  rw [hl, hx]
  cases hb : mayB x (m : Int) 2
  · rfl
  · exact stGo_eq m 0 hl fun i _ hi => usable_of hx (by omega) (by omega) hb (by omega)

end Go.Ra
