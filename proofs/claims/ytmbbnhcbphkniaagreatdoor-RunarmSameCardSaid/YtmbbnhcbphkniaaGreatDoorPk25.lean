/-
  Of: the fields of a mask. Conditions: none.
-/
import Derived.Test.YtmbbnhcbphkniaaGreatDoorPk24
set_option linter.unusedVariables false
set_option linter.unusedSimpArgs false
namespace Go.Rk
open Go Go.Ab Go.Proofs Go.Ra Go.Wd
noncomputable def cx109 : Cx := { P := Tryz.prog, n := 62, tab := [(147, onesS), (146, spreadS), (149, turnedS), (148, countNS)], mtab := [], refs := [], keeps := [0, 2, 3, 4, 5, 6, 7, 8, 9, 15, 27, 36, 37, 38, 46, 48] }
noncomputable abbrev OB : Code := bodyOf Tryz.f109
def ofPre (m : Int) : Tree St :=
  (.br (m == 0) (.leaf (.ret, [(0, (.int .u64 m)), (2, (.int .i64 0)), (3, (.int .i64 0)), (4, (.int .i64 0)), (5, (.bool false)), (15, (.bool true))], [])) (.br (m == 18446744073709551615) (.leaf (.ret, [(0, (.int .u64 m)), (2, (.int .i64 0)), (3, (.int .i64 0)), (4, (.int .i64 0)), (5, (.bool false)), (15, (.bool true))], [])) (.leaf (.normal, [(0, (.int .u64 m)), (2, (.int .i64 0)), (3, (.int .i64 0)), (4, (.int .i64 0)), (5, (.bool false)), (6, (.int .i64 2)), (15, (.bool false))], []))))
theorem ofPre_eq (m : Int) : (dcode cx109 (headN 2 OB) (initT 0 [.int .u64 m]) []).run = (ofPre m).run :=
  (show (dcode cx109 (headN 2 OB) (initT 0 [.int .u64 m]) []).run = (ofPre m).out by kernel_rfl).trans (Tree.out_run _)
def ofLoop1 (m e : Int) : Tree St :=
  (.br (decide (e < 64)) (.br (decide (0 ≤ e)) (.br (decide (1 ≤ e)) (.br (decide (e ≤ 64)) (.br (Go.Rk.spreadF 7 (IntKind.wrap IntKind.u64 ↑(BitVec.toNat (BitVec.ofInt 64 m &&& BitVec.ofInt 64 (Go.Rk.onesF e)))) e != m) (.leaf (.normal, [(0, (.int .u64 m)), (6, (.int .i64 (IntKind.wrap IntKind.i64 (e * 2)))), (27, (.bool true))], [])) (.leaf ((.exit 0), [(0, (.int .u64 m)), (6, (.int .i64 e)), (27, (.bool false))], []))) .fail) .fail) .fail) (.leaf ((.exit 0), [(0, (.int .u64 m)), (6, (.int .i64 e)), (27, (.bool false))], [])))
theorem ofLoop1_eq (m e : Int) : (dcode cx109 (cin (cin (c1 (tailN 2 OB)))) [(0, .int .u64 m), (6, .int .i64 e)] []).run = (ofLoop1 m e).run :=
  (show (dcode cx109 (cin (cin (c1 (tailN 2 OB)))) [(0, .int .u64 m), (6, .int .i64 e)] []).run = (ofLoop1 m e).out by kernel_rfl).trans (Tree.out_run _)
def ofMid (m e : Int) : Tree St :=
  (.br (decide (0 ≤ e)) (.leaf (.normal, [(0, (.int .u64 m)), (6, (.int .i64 e)), (7, (.int .u64 (IntKind.wrap IntKind.u64 ↑(BitVec.toNat (BitVec.ofInt 64 m &&& BitVec.ofInt 64 (Go.Rk.onesF e)))))), (8, (.int .i64 (Go.Rk.cntF (IntKind.wrap IntKind.u64 ↑(BitVec.toNat (BitVec.ofInt 64 m &&& BitVec.ofInt 64 (Go.Rk.onesF e)))))))], [])) .fail)
theorem ofMid_eq (m e : Int) : (dcode cx109 (headN 1 (tailN 3 OB)) [(0, .int .u64 m), (6, .int .i64 e)] []).run = (ofMid m e).run :=
  (show (dcode cx109 (headN 1 (tailN 3 OB)) [(0, .int .u64 m), (6, .int .i64 e)] []).run = (ofMid m e).out by kernel_rfl).trans (Tree.out_run _)
def ofMid2 (x e c : Int) : Tree St :=
  (.leaf (.normal, [(6, (.int .i64 e)), (7, (.int .u64 x)), (8, (.int .i64 c)), (36, (.int .i64 e)), (37, (.int .i64 0))], []))
theorem ofMid2_eq (x e c : Int) : (dcode cx109 (c1 (c1 (tailN 5 OB))) [(6, .int .i64 e), (7, .int .u64 x), (8, .int .i64 c)] []).run = (ofMid2 x e c).run :=
  (show (dcode cx109 (c1 (c1 (tailN 5 OB))) [(6, .int .i64 e), (7, .int .u64 x), (8, .int .i64 c)] []).run = (ofMid2 x e c).out by kernel_rfl).trans (Tree.out_run _)
def ofLoop2 (x e c k r : Int) : Tree St :=
  (.br (decide (r < k)) (.br (decide (0 ≤ c)) (.br (decide (0 ≤ r)) (.br (decide (0 ≤ IntKind.wrap IntKind.i64 (e - r))) (.br (decide (0 ≤ e)) (.br (Go.Rk.turnedF (Go.Rk.onesF c) e r != x) (.leaf (.normal, [(6, (.int .i64 e)), (7, (.int .u64 x)), (8, (.int .i64 c)), (9, (.int .i64 r)), (36, (.int .i64 k)), (37, (.int .i64 (IntKind.wrap IntKind.i64 (r + 1)))), (38, (.bool true)), (46, (.bool true))], [])) (.br (e == 64) (.leaf (.ret, [(2, (.int .i64 1)), (3, (.int .i64 r)), (4, (.int .i64 (IntKind.wrap IntKind.i64 (c - 1)))), (5, (.bool true)), (6, (.int .i64 e)), (7, (.int .u64 x)), (8, (.int .i64 c)), (9, (.int .i64 r)), (36, (.int .i64 k)), (37, (.int .i64 r)), (38, (.bool true)), (46, (.bool false)), (48, (.bool true))], [])) (.leaf (.ret, [(2, (.int .i64 0)), (3, (.int .i64 r)), (4, (.int .i64 (IntKind.wrap IntKind.i64 (IntKind.wrap IntKind.i64 ↑(BitVec.toNat (BitVec.ofInt 64 (IntKind.wrap IntKind.i64 ↑(BitVec.toNat (BitVec.ofInt 64 (IntKind.wrap IntKind.i64 ↑(BitVec.toNat (BitVec.ofInt 64 (if true = true then -1 else IntKind.max IntKind.i64) ^^^ BitVec.ofInt 64 (IntKind.wrap IntKind.i64 (IntKind.wrap IntKind.i64 (2 * e) - 1))))) &&& BitVec.ofInt 64 63))) ||| BitVec.ofInt 64 c)) - 1)))), (5, (.bool true)), (6, (.int .i64 e)), (7, (.int .u64 x)), (8, (.int .i64 c)), (9, (.int .i64 r)), (36, (.int .i64 k)), (37, (.int .i64 r)), (38, (.bool true)), (46, (.bool false)), (48, (.bool false))], [])))) .fail) .fail) .fail) .fail) (.leaf ((.exit 2), [(6, (.int .i64 e)), (7, (.int .u64 x)), (8, (.int .i64 c)), (36, (.int .i64 k)), (37, (.int .i64 r)), (38, (.bool false))], [])))
theorem ofLoop2_eq (x e c k r : Int) : (dcode cx109 (cin (cin (c2 (c1 (tailN 5 OB))))) [(6, .int .i64 e), (7, .int .u64 x), (8, .int .i64 c), (36, .int .i64 k), (37, .int .i64 r)] []).run = (ofLoop2 x e c k r).run :=
  (show (dcode cx109 (cin (cin (c2 (c1 (tailN 5 OB))))) [(6, .int .i64 e), (7, .int .u64 x), (8, .int .i64 c), (36, .int .i64 k), (37, .int .i64 r)] []).run = (ofLoop2 x e c k r).out by kernel_rfl).trans (Tree.out_run _)
def ofEnd  : Tree St :=
  (.leaf (.ret, [(2, (.int .i64 0)), (3, (.int .i64 0)), (4, (.int .i64 0)), (5, (.bool false))], []))
theorem ofEnd_eq  : (dcode cx109 (tailN 6 OB) [] []).run = (ofEnd ).run :=
  (show (dcode cx109 (tailN 6 OB) [] []).run = (ofEnd ).out by kernel_rfl).trans (Tree.out_run _)
theorem all_t {α : Type} {c : Bool} {x y : Tree α} {Q : α → Prop} (h : c = true) (hx : x.all Q) : (Tree.br c x y).all Q := ⟨fun _ => hx, fun e => Bool.noConfusion (h.symm.trans e)⟩
theorem all_f {α : Type} {c : Bool} {x y : Tree α} {Q : α → Prop} (h : c = false) (hy : y.all Q) : (Tree.br c x y).all Q := ⟨fun e => Bool.noConfusion (h.symm.trans e), fun _ => hy⟩
def pE (m e : Nat) : Bool := Nat.beq (spreadN 7 (m &&& onesN e) e) m
def ofE (m : Nat) : Nat := cond (pE m 2) 2 (cond (pE m 4) 4 (cond (pE m 8) 8 (cond (pE m 16) 16 (cond (pE m 32) 32 64))))
def pR (x e c r : Nat) : Bool := Nat.beq (turnedN (onesN c) e r) x
def ofX (m : Nat) : Nat := m &&& onesN (ofE m)
def ofC (m : Nat) : Nat := cntN (ofX m)
def ofFind (m : Nat) : Option Nat := cond (Nat.beq m 0 || Nat.beq m 18446744073709551615) none ((List.range (ofE m)).find? (pR (ofX m) (ofE m) (ofC m)))
def imsI (e c : Nat) : Int := cond (Nat.beq e 64) (IntKind.wrap .i64 ((c : Int) - 1))
  (IntKind.wrap IntKind.i64 (IntKind.wrap IntKind.i64 ↑(BitVec.toNat (BitVec.ofInt 64 (IntKind.wrap IntKind.i64 ↑(BitVec.toNat (BitVec.ofInt 64 (IntKind.wrap IntKind.i64 ↑(BitVec.toNat (BitVec.ofInt 64 (if true = true then -1 else IntKind.max IntKind.i64) ^^^ BitVec.ofInt 64 (IntKind.wrap IntKind.i64 (IntKind.wrap IntKind.i64 (2 * (e : Int)) - 1))))) &&& BitVec.ofInt 64 63))) ||| BitVec.ofInt 64 (c : Int))) - 1))
def ofOk (m : Nat) : Bool := (ofFind m).isSome
def ofVN (m : Nat) : Int := cond (ofOk m) (cond (Nat.beq (ofE m) 64) 1 0) 0
def ofVR (m : Nat) : Int := (((ofFind m).getD 0 : Nat) : Int)
def ofVS (m : Nat) : Int := cond (ofOk m) (imsI (ofE m) (ofC m)) 0
def ofV (m : Nat) : V := .tup [.int .i64 (ofVN m), .int .i64 (ofVR m), .int .i64 (ofVS m), .bool (ofOk m)]
theorem ofV_none {m : Nat} (h : ofFind m = none) : ofV m = .tup [.int .i64 0, .int .i64 0, .int .i64 0, .bool false] := by
  have h1 : ofOk m = false := by unfold ofOk; rw [h]; rfl
  unfold ofV ofVN ofVR ofVS
  rw [h1, h]
  rfl
theorem ofV_some {m r : Nat} (h : ofFind m = some r) : ofV m = .tup [.int .i64 (cond (Nat.beq (ofE m) 64) 1 0), .int .i64 (r : Int), .int .i64 (imsI (ofE m) (ofC m)), .bool true] := by
  have h1 : ofOk m = true := by unfold ofOk; rw [h]; rfl
  unfold ofV ofVN ofVR ofVS
  rw [h1, h]
  rfl
theorem bne_cast (a b : Nat) : ((a : Int) != (b : Int)) = !(Nat.beq a b) := by
  by_cases h : a = b
  · subst h
    simp
  · have : ¬ (a : Int) = (b : Int) := by omega
    have hb : Nat.beq a b = false := by
      cases hb : Nat.beq a b
      · rfl
      · exact absurd (Nat.eq_of_beq_eq_true hb) h
    rw [hb]
    simpa [bne] using this
theorem pE_int {m e : Nat} (hm : m < 2 ^ 64) (he : e ≤ 64) : (spreadF 7 (IntKind.wrap IntKind.u64 ↑(BitVec.toNat (BitVec.ofInt 64 (m : Int) &&& BitVec.ofInt 64 (onesF (e : Int))))) (e : Int) != (m : Int)) = !(pE m e) := by
  have h1 : IntKind.wrap IntKind.u64 ↑(BitVec.toNat (BitVec.ofInt 64 (m : Int) &&& BitVec.ofInt 64 (onesF (e : Int)))) = ((m &&& onesN e : Nat) : Int) := by
    rw [onesF_nat]
    exact and64_cast hm (onesN_lt e)
  rw [h1, spreadF_nat _ _ _ (Nat.and_lt_two_pow _ (onesN_lt e)) (by omega), bne_cast]
  rfl
def ofSt (m : Nat) (j : { j : Nat // j ≤ 5 ∧ ∀ i, i < j → pE m (2 ^ (i + 1)) = false }) : T × List O := ([(0, .int .u64 (m : Int)), (6, .int .i64 ((2 ^ (j.1 + 1) : Nat) : Int))], [])
theorem ofE_at {m j : Nat} (hj : j ≤ 5) (hf : ∀ i, i < j → pE m (2 ^ (i + 1)) = false) (h : j = 5 ∨ pE m (2 ^ (j + 1)) = true) : ofE m = 2 ^ (j + 1) := by
  have f0 := fun h => hf 0 h
  have f1 := fun h => hf 1 h
  have f2 := fun h => hf 2 h
  have f3 := fun h => hf 3 h
  have f4 := fun h => hf 4 h
  unfold ofE
  have hj' : j = 0 ∨ j = 1 ∨ j = 2 ∨ j = 3 ∨ j = 4 ∨ j = 5 := by omega
  rcases hj' with rfl | rfl | rfl | rfl | rfl | rfl
  · have : pE m 2 = true := by simpa using h
    rw [this]; rfl
  · have a0 : pE m 2 = false := f0 (by omega)
    have : pE m 4 = true := by simpa using h
    rw [a0, this]; rfl
  · have a0 : pE m 2 = false := f0 (by omega)
    have a1 : pE m 4 = false := f1 (by omega)
    have : pE m 8 = true := by simpa using h
    rw [a0, a1, this]; rfl
  · have a0 : pE m 2 = false := f0 (by omega)
    have a1 : pE m 4 = false := f1 (by omega)
    have a2 : pE m 8 = false := f2 (by omega)
    have : pE m 16 = true := by simpa using h
    rw [a0, a1, a2, this]; rfl
  · have a0 : pE m 2 = false := f0 (by omega)
    have a1 : pE m 4 = false := f1 (by omega)
    have a2 : pE m 8 = false := f2 (by omega)
    have a3 : pE m 16 = false := f3 (by omega)
    have : pE m 32 = true := by simpa using h
    rw [a0, a1, a2, a3, this]; rfl
  · have a0 : pE m 2 = false := f0 (by omega)
    have a1 : pE m 4 = false := f1 (by omega)
    have a2 : pE m 8 = false := f2 (by omega)
    have a3 : pE m 16 = false := f3 (by omega)
    have a4 : pE m 32 = false := f4 (by omega)
    rw [a0, a1, a2, a3, a4]; rfl
theorem pow_le5 {j : Nat} (hj : j ≤ 5) : 2 ≤ 2 ^ (j + 1) ∧ 2 ^ (j + 1) ≤ 64 ∧ (j < 5 → 2 ^ (j + 1) < 64) ∧ (j = 5 → 2 ^ (j + 1) = 64) := by
  have hj' : j = 0 ∨ j = 1 ∨ j = 2 ∨ j = 3 ∨ j = 4 ∨ j = 5 := by omega
  rcases hj' with rfl | rfl | rfl | rfl | rfl | rfl <;> decide
theorem ofE_ok (m : Nat) : 2 ≤ ofE m ∧ ofE m ≤ 64 := by
  unfold ofE
  cases pE m 2 <;> cases pE m 4 <;> cases pE m 8 <;> cases pE m 16 <;> cases pE m 32 <;> decide
def ofSt2 (m : Nat) (r : { r : Nat // r ≤ ofE m ∧ ∀ i, i < r → pR (ofX m) (ofE m) (ofC m) i = false }) : T × List O :=
  ([(6, .int .i64 (ofE m : Int)), (7, .int .u64 (ofX m : Int)), (8, .int .i64 (ofC m : Int)), (36, .int .i64 (ofE m : Int)), (37, .int .i64 (r.1 : Int))], [])
def ofQ (m : Nat) (e : AEx) (t : T) (H : List O) : Prop := (e = .ret ∨ e = .normal) ∧ answerV Tryz.prog Tryz.f109.results.toList H t = some (ofV m)
theorem cxOf_ok : CxOk cx109 := cx1_ok (.cons onesS_ok (.cons spreadS_ok (.cons turnedS_ok (ok1 countNS_ok)))) (.nil _) rfl rfl
theorem ans4 {t : T} {H : List O} {a b c : Int} {d : Bool} (h1 : get 2 t = .int .i64 a) (h2 : get 3 t = .int .i64 b) (h3 : get 4 t = .int .i64 c) (h4 : get 5 t = .bool d) :
    answerV Tryz.prog Tryz.f109.results.toList H t = some (.tup [.int .i64 a, .int .i64 b, .int .i64 c, .bool d]) := by
  unfold answerV
  rw [show Tryz.f109.results.toList = [.tmp 2, .tmp 3, .tmp 4, .tmp 5] from by kernel_rfl]
  simp [resV, h1, h2, h3, h4, V.pures?, V.pure?]
theorem of_loop2 {m : Nat} (_hm : m < 2 ^ 64) (h0 : (Nat.beq m 0 || Nat.beq m 18446744073709551615) = false) :
    AWP Tryz.prog 62 (tailN 5 OB) (ofQ m) [(6, .int .i64 (ofE m : Int)), (7, .int .u64 (ofX m : Int)), (8, .int .i64 (ofC m : Int))] [] := by
  have e : tailN 5 OB = .seq (.seq (c1 (c1 (tailN 5 OB))) (.block 2 (.loop (cin (cin (c2 (c1 (tailN 5 OB)))))))) (tailN 6 OB) := by kernel_rfl
  rw [e]
  obtain ⟨e1, e2⟩ := ofE_ok m
  have hc : ofC m < 128 := cntN_lt _
  have hx : ofX m < 2 ^ 64 := Nat.and_lt_two_pow _ (onesN_lt _)
  refine AWP_seq (AWP_seq (AWP_run (cx := cx109) rfl rfl cxOf_ok (ofMid2_eq (ofX m) (ofE m) (ofC m)) ?_))
  refine AWP_block ?_
  refine AWP.less (s := (ofSt2 m ⟨0, Nat.zero_le _, fun i h => absurd h (Nat.not_lt_zero i)⟩).1) (Fits.tle ⟨rfl, rfl, rfl, rfl, rfl, trivial⟩) ?_
  refine AWP_rounds (cx := cx109) (P := Tryz.prog) (n := 62) rfl rfl cxOf_ok (ofSt2 m) (fun r => ofE m - r.1) ?_ ⟨0, Nat.zero_le _, fun i h => absurd h (Nat.not_lt_zero i)⟩
  rintro ⟨r, hr, hnone⟩
  refine Tree.all_run_eq (ofLoop2_eq (ofX m) (ofE m) (ofC m) (ofE m) r) ?_
  refine ⟨fun hlt => all_t (decide_eq_true (by omega)) (all_t (decide_eq_true (by omega)) (all_t (decide_eq_true ?_) (all_t (decide_eq_true (by omega)) ⟨fun hp => ?_, fun hp => ?_⟩))), fun hge => ?_⟩
  · have hlt : (r : Int) < (ofE m : Int) := of_decide_eq_true hlt
    rw [wrap_i64 (by omega) (by omega)]; omega
  · have hlt : (r : Int) < (ofE m : Int) := of_decide_eq_true hlt
    rw [onesF_nat, turnedF_nat (onesN_lt _) (by omega) e2, bne_cast] at hp
    have hp : pR (ofX m) (ofE m) (ofC m) r = false := by simpa [pR] using hp
    refine ⟨[], _, rfl, ⟨r + 1, by omega, fun i hi => ?_⟩, by show ofE m - (r + 1) < ofE m - r; omega, Fits.tle ⟨rfl, rfl, rfl, rfl, ?_, trivial⟩, rfl⟩
    · by_cases h : i < r
      · exact hnone i h
      · have : i = r := by omega
        rw [this]; exact hp
    · show V.int .i64 (IntKind.wrap .i64 ((r : Int) + 1)) = V.int .i64 ((r + 1 : Nat) : Int)
      rw [wrap_i64 (by omega) (by omega)]
      rfl
  · have hlt : (r : Int) < (ofE m : Int) := of_decide_eq_true hlt
    rw [onesF_nat, turnedF_nat (onesN_lt _) (by omega) e2, bne_cast] at hp
    have hp : pR (ofX m) (ofE m) (ofC m) r = true := by simpa [pR] using hp
    have hf : ofFind m = some r := by
      unfold ofFind
      rw [h0, cond_false, List.find?_range_eq_some]
      exact ⟨hp, List.mem_range.2 (by omega), fun j hj => by rw [hnone j hj]; rfl⟩
    refine ⟨fun h64 => ?_, fun h64 => ?_⟩
    · have h64 : ofE m = 64 := by
        have := eq_of_beq h64
        omega
      refine ⟨[], _, rfl, .inl rfl, ?_⟩
      refine (ans4 rfl rfl rfl rfl).trans ?_
      rw [ofV_some hf, show Nat.beq (ofE m) 64 = true from by rw [h64]; rfl]
      unfold imsI
      rw [show Nat.beq (ofE m) 64 = true from by rw [h64]; rfl]
      rfl
    · have h64 : Nat.beq (ofE m) 64 = false := by
        cases hb : Nat.beq (ofE m) 64
        · rfl
        · have := Nat.eq_of_beq_eq_true hb
          rw [this] at h64
          cases h64
      refine ⟨[], _, rfl, .inl rfl, ?_⟩
      refine (ans4 rfl rfl rfl rfl).trans ?_
      rw [ofV_some hf, h64]
      unfold imsI
      rw [h64]
      rfl
  · have hge : ¬ (r : Int) < (ofE m : Int) := of_decide_eq_false hge
    have hre : r = ofE m := by omega
    have hf : ofFind m = none := by
      unfold ofFind
      rw [h0, cond_false, List.find?_range_eq_none]
      intro i hi
      rw [hnone i (by omega)]
      rfl
    refine ⟨[], _, rfl, ?_⟩
    show AWP _ _ _ _ _ _
    refine AWP.less (s := []) (Fits.tle trivial) ?_
    refine AWP_run (cx := cx109) rfl rfl cxOf_ok ofEnd_eq ?_
    refine ⟨.inl rfl, ?_⟩
    refine (ans4 rfl rfl rfl rfl).trans ?_
    rw [ofV_none hf]
theorem of_loop1 {m : Nat} (hm : m < 2 ^ 64) (h0 : (Nat.beq m 0 || Nat.beq m 18446744073709551615) = false) :
    AWP Tryz.prog 62 (tailN 2 OB) (ofQ m) [(0, .int .u64 (m : Int)), (6, .int .i64 2)] [] := by
  have e : tailN 2 OB = .seq (.block 0 (.loop (cin (cin (c1 (tailN 2 OB)))))) (tailN 3 OB) := by kernel_rfl
  rw [e]
  refine AWP_seq (AWP_block ?_)
  refine AWP.less (s := (ofSt m ⟨0, Nat.zero_le _, fun i h => absurd h (Nat.not_lt_zero i)⟩).1) (Fits.tle ⟨rfl, rfl, trivial⟩) ?_
  have after : ∀ {t : T}, get 0 t = .int .u64 (m : Int) → get 6 t = .int .i64 (ofE m : Int) → AWP Tryz.prog 62 (tailN 3 OB) (ofQ m) t [] := by
    intro t g1 g2
    refine AWP.less (s := [(0, .int .u64 (m : Int)), (6, .int .i64 (ofE m : Int))]) (Fits.tle ⟨g1, g2, trivial⟩) ?_
    refine AWP_headE (cx := cx109) rfl rfl cxOf_ok 1 (by kernel_rfl) (ofMid_eq m (ofE m)) ?_
    obtain ⟨e1, e2⟩ := ofE_ok m
    refine all_t (decide_eq_true (by omega)) ?_
    show AWP _ _ _ _ _ _
    have hx : IntKind.wrap IntKind.u64 ↑(BitVec.toNat (BitVec.ofInt 64 (m : Int) &&& BitVec.ofInt 64 (onesF (ofE m : Int)))) = (ofX m : Int) := by
      rw [onesF_nat]
      exact and64_cast hm (onesN_lt _)
    rw [hx]
    refine AWP.less (s := [(6, .int .i64 (ofE m : Int)), (7, .int .u64 (ofX m : Int)), (8, .int .i64 (ofC m : Int))]) (Fits.tle ⟨rfl, rfl, ?_, trivial⟩) (of_loop2 hm h0)
    show V.int .i64 (cntF (ofX m : Int)) = _
    exact congrArg (V.int .i64) (cnt_int (x := ofX m) (Nat.and_lt_two_pow _ (onesN_lt _)))
  refine AWP_rounds (cx := cx109) (P := Tryz.prog) (n := 62) rfl rfl cxOf_ok (ofSt m) (fun j => 5 - j.1) ?_ ⟨0, Nat.zero_le _, fun i h => absurd h (Nat.not_lt_zero i)⟩
  rintro ⟨j, hj, hf⟩
  obtain ⟨p1, p2, p3, p4⟩ := pow_le5 hj
  refine Tree.all_run_eq (ofLoop1_eq m (2 ^ (j + 1) : Nat)) ?_
  refine ⟨fun hlt => all_t (decide_eq_true (by omega)) (all_t (decide_eq_true (by omega)) (all_t (decide_eq_true (by omega)) ⟨fun hp => ?_, fun hp => ?_⟩)), fun hge => ?_⟩
  · have hlt : ((2 ^ (j + 1) : Nat) : Int) < 64 := of_decide_eq_true hlt
    rw [pE_int hm p2] at hp
    have hp : pE m (2 ^ (j + 1)) = false := by simpa using hp
    have hj5 : j < 5 := by
      by_cases h : j = 5
      · have := p4 h; omega
      · omega
    refine ⟨[], _, rfl, ⟨j + 1, by omega, fun i hi => ?_⟩, by show 5 - (j + 1) < 5 - j; omega, Fits.tle ⟨rfl, ?_, trivial⟩, rfl⟩
    · by_cases h : i < j
      · exact hf i h
      · have : i = j := by omega
        rw [this]; exact hp
    · show V.int .i64 (IntKind.wrap .i64 (((2 ^ (j + 1) : Nat) : Int) * 2)) = V.int .i64 ((2 ^ (j + 1 + 1) : Nat) : Int)
      rw [wrap_i64 (by omega) (by omega), Nat.pow_succ 2 (j + 1)]
      refine congrArg (V.int .i64) ?_
      omega
  · rw [pE_int hm p2] at hp
    have hp : pE m (2 ^ (j + 1)) = true := by simpa using hp
    refine ⟨[], _, rfl, ?_⟩
    show AWP _ _ _ _ _ _
    exact after rfl (by rw [ofE_at hj hf (.inr hp)]; rfl)
  · have hge : ¬ ((2 ^ (j + 1) : Nat) : Int) < 64 := of_decide_eq_false hge
    have h5 : j = 5 := by
      by_cases h : j < 5
      · have := p3 h; omega
      · omega
    refine ⟨[], _, rfl, ?_⟩
    show AWP _ _ _ _ _ _
    exact after rfl (by rw [ofE_at hj hf (.inl h5)]; rfl)
theorem of_ok {m : Nat} (hm : m < 2 ^ 64) : PCall Tryz.prog 109 [.int .u64 (m : Int)] (ofV m) := by
  refine pcall_of' (c := bodyOf Tryz.f109) (fn := Tryz.f109) (by kernel_rfl) (by kernel_rfl) (by kernel_rfl) (by kernel_rfl) ?_
  show AWP Tryz.prog _ OB (ofQ m) _ _
  refine AWP_headE (cx := cx109) rfl rfl cxOf_ok 2 (by kernel_rfl) (ofPre_eq m) ?_
  have none : (Nat.beq m 0 || Nat.beq m 18446744073709551615) = true → ofFind m = .none := by
    intro h
    unfold ofFind
    rw [h]
    rfl
  refine ⟨fun h => ?_, fun h1 => ⟨fun h => ?_, fun h2 => ?_⟩⟩
  · refine ⟨.inl rfl, ?_⟩
    refine (ans4 rfl rfl rfl rfl).trans ?_
    rw [ofV_none (none ?_)]
    have : m = 0 := by have := eq_of_beq h; omega
    rw [this]
    rfl
  · refine ⟨.inl rfl, ?_⟩
    refine (ans4 rfl rfl rfl rfl).trans ?_
    rw [ofV_none (none ?_)]
    have : m = 18446744073709551615 := by have := eq_of_beq h; omega
    rw [this]
    rfl
  · show AWP _ _ _ _ _ _
    refine AWP.less (s := [(0, .int .u64 (m : Int)), (6, .int .i64 2)]) (Fits.tle ⟨rfl, rfl, trivial⟩) (of_loop1 hm ?_)
    have a1 : m ≠ 0 := by intro h; rw [h] at h1; cases h1
    have a2 : m ≠ 18446744073709551615 := by intro h; rw [h] at h2; cases h2
    cases b1 : Nat.beq m 0
    · cases b2 : Nat.beq m 18446744073709551615
      · rfl
      · exact absurd (Nat.eq_of_beq_eq_true b2) a2
    · exact absurd (Nat.eq_of_beq_eq_true b1) a1
def ofS : Ab.Spec := fun args => match args with
  | [.int .u64 m] => .req (decide (0 ≤ m) && decide (m < 18446744073709551616)) (.leaf (.tup [.int .i64 (ofVN m.toNat), .int .i64 (ofVR m.toNat), .int .i64 (ofVS m.toNat), .bool (ofOk m.toNat)]))
  | _ => .fail
theorem ofS_ok : Sound Tryz.prog 109 ofS := by
  intro args out h
  unfold ofS at h
  split at h
  rotate_left
  · cases h
  rename_i m
  obtain ⟨h1, h⟩ := req_run h
  have h := leaf_out h
  subst h
  simp only [Bool.and_eq_true, decide_eq_true_eq] at h1
  obtain ⟨m, rfl⟩ := Int.eq_ofNat_of_zero_le h1.1
  exact of_ok (by omega)
end Go.Rk

namespace Go.Rk
open Go Go.Ab Go.Proofs Go.Ra Go.Wd
noncomputable def cx108 : Cx := { P := Tryz.prog, n := 17, tab := [], mtab := [], refs := [], keeps := [0, 1, 2, 4] }
noncomputable def cx171 : Cx := { P := Tryz.prog, n := 14, tab := [], mtab := [], refs := [], keeps := [0, 1, 4] }
noncomputable def cx170 : Cx := { P := Tryz.prog, n := 60, tab := [(109, ofS)], mtab := [], refs := [], keeps := [0, 1, 2, 4, 5, 6, 7, 10, 11, 27, 39] }
def smallT (_at_ _bi _ki _by_ lo hi n : Int) : Tree V :=
  (.br (decide (IntKind.wrap IntKind.i64 lo ≤ n)) (.leaf (.bool (decide (n ≤ IntKind.wrap IntKind.i64 hi)))) (.leaf (.bool false)))
theorem smallT_eq (at_ bi ki by_ lo hi n : Int) : (dfun cx108 Tryz.f108 [.agg [.int .i8 at_, .int .i8 bi, .int .i8 ki, .int .i8 by_, .int .i32 lo, .int .i32 hi], .int .i64 n]).run = (smallT at_ bi ki by_ lo hi n).run :=
  (show (dfun cx108 Tryz.f108 [.agg [.int .i8 at_, .int .i8 bi, .int .i8 ki, .int .i8 by_, .int .i32 lo, .int .i32 hi], .int .i64 n]).run = (smallT at_ bi ki by_ lo hi n).out by kernel_rfl).trans (Tree.out_run _)
def signedT (n b : Int) : Tree V :=
  (.br (decide (0 ≤ IntKind.wrap IntKind.i64 (32 - b))) (.br (decide (0 ≤ IntKind.wrap IntKind.i64 (32 - b))) (.leaf (.int .i64 (IntKind.wrap IntKind.i64 (Int.fdiv (IntKind.wrap IntKind.i32 (IntKind.wrap IntKind.u32 (n * 2 ^ Min.min (Int.toNat (IntKind.wrap IntKind.i64 (32 - b))) 32))) (2 ^ Min.min (Int.toNat (IntKind.wrap IntKind.i64 (32 - b))) 32))))) .fail) .fail)
theorem signedT_eq (n b : Int) : (dfun cx171 Tryz.f171 [.int .u32 n, .int .i64 b]).run = (signedT n b).run :=
  (show (dfun cx171 Tryz.f171 [.int .u32 n, .int .i64 b]).run = (signedT n b).out by kernel_rfl).trans (Tree.out_run _)
def putT (at_ bi ki by_ _lo _hi n : Int) : Tree V :=
  (.br (ki == 1) (.br (!decide (IntKind.wrap IntKind.i64 by_ = 0)) (.br (decide (0 ≤ bi)) (.br (decide (0 ≤ at_)) (.leaf (.int .u32 (IntKind.wrap IntKind.u32 (IntKind.wrap IntKind.u32 ↑(BitVec.toNat (BitVec.ofInt 32 (IntKind.wrap IntKind.u32 (IntKind.wrap IntKind.i64 (Int.tdiv n (IntKind.wrap IntKind.i64 by_)))) &&& BitVec.ofInt 32 (IntKind.wrap IntKind.u32 (IntKind.wrap IntKind.u32 (1 * 2 ^ Min.min (Int.toNat bi) 32) - 1)))) * 2 ^ Min.min (Int.toNat at_) 32)))) .fail) .fail) .fail) (.br (ki == 2) (.leaf (.int .u32 (IntKind.wrap IntKind.u32 ↑(BitVec.toNat (BitVec.ofInt 32 (IntKind.wrap IntKind.u32 (IntKind.wrap IntKind.u32 ↑(BitVec.toNat (BitVec.ofInt 32 (IntKind.wrap IntKind.u32 n) &&& BitVec.ofInt 32 3)) * 2 ^ 29)) ||| BitVec.ofInt 32 (IntKind.wrap IntKind.u32 (IntKind.wrap IntKind.u32 ↑(BitVec.toNat (BitVec.ofInt 32 (IntKind.wrap IntKind.u32 (Int.fdiv n (2 ^ 2))) &&& BitVec.ofInt 32 524287)) * 2 ^ 5))))))) (.br (ki == 3) (.br (decide (0 ≤ IntKind.wrap IntKind.u64 n) && decide (IntKind.wrap IntKind.u64 n < 18446744073709551616)) (.leaf (.int .u32 (IntKind.wrap IntKind.u32 ↑(BitVec.toNat (BitVec.ofInt 32 (IntKind.wrap IntKind.u32 ↑(BitVec.toNat (BitVec.ofInt 32 (IntKind.wrap IntKind.u32 (IntKind.wrap IntKind.u32 (Go.Rk.ofVN (Int.toNat (IntKind.wrap IntKind.u64 n))) * 2 ^ 22)) ||| BitVec.ofInt 32 (IntKind.wrap IntKind.u32 (IntKind.wrap IntKind.u32 (Go.Rk.ofVR (Int.toNat (IntKind.wrap IntKind.u64 n))) * 2 ^ 16))))) ||| BitVec.ofInt 32 (IntKind.wrap IntKind.u32 (IntKind.wrap IntKind.u32 (Go.Rk.ofVS (Int.toNat (IntKind.wrap IntKind.u64 n))) * 2 ^ 10))))))) .fail) (.leaf (.int .u32 0)))))
theorem putT_eq (at_ bi ki by_ lo hi n : Int) : (dfun cx170 Tryz.f170 [.agg [.int .i8 at_, .int .i8 bi, .int .i8 ki, .int .i8 by_, .int .i32 lo, .int .i32 hi], .int .i64 n]).run = (putT at_ bi ki by_ lo hi n).run :=
  (show (dfun cx170 Tryz.f170 [.agg [.int .i8 at_, .int .i8 bi, .int .i8 ki, .int .i8 by_, .int .i32 lo, .int .i32 hi], .int .i64 n]).run = (putT at_ bi ki by_ lo hi n).out by kernel_rfl).trans (Tree.out_run _)
def signedF (n bi : Int) : Int := IntKind.wrap IntKind.i64 (Int.fdiv (IntKind.wrap IntKind.i32 (IntKind.wrap IntKind.u32 (n * 2 ^ Min.min (Int.toNat (IntKind.wrap IntKind.i64 (32 - bi))) 32))) (2 ^ Min.min (Int.toNat (IntKind.wrap IntKind.i64 (32 - bi))) 32))
def signedS : Ab.Spec := fun args => match args with
  | [.int .u32 n, .int .i64 bi] => .req (decide (0 ≤ IntKind.wrap IntKind.i64 (32 - bi))) (.req (decide (0 ≤ IntKind.wrap IntKind.i64 (32 - bi))) (.leaf (.int .i64 (signedF n bi))))
  | _ => .fail
theorem signedS_ok : Sound Tryz.prog 171 signedS := by
  intro args out h
  unfold signedS at h
  split at h
  rotate_left
  · cases h
  rename_i n bi
  refine pcall_fun' (cx := cx171) (fn := Tryz.f171) (cx0_ok rfl rfl) (by kernel_rfl) (by kernel_rfl) (by kernel_rfl) ?_
  rw [signedT_eq]
  exact h
noncomputable def cx121 : Cx := { P := Tryz.prog, n := 70, tab := [(171, signedS), (172, atS)], mtab := [], refs := [], keeps := [0, 1, 2, 4, 5, 6, 9, 10, 23, 39, 50] }
def getT (at_ bi ki by_ lo _hi w : Int) : Tree V :=
  (.br (ki == 1) (.br (decide (0 ≤ at_)) (.br (decide (0 ≤ bi)) (.br (decide (lo < 0)) (.br (decide (0 ≤ IntKind.wrap IntKind.i64 (32 - IntKind.wrap IntKind.i64 bi))) (.br (decide (0 ≤ IntKind.wrap IntKind.i64 (32 - IntKind.wrap IntKind.i64 bi))) (.leaf (.int .i64 (IntKind.wrap IntKind.i64 (Go.Rk.signedF (IntKind.wrap IntKind.u32 ↑(BitVec.toNat (BitVec.ofInt 32 (Int.fdiv w (2 ^ Min.min (Int.toNat at_) 32)) &&& BitVec.ofInt 32 (IntKind.wrap IntKind.u32 (IntKind.wrap IntKind.u32 (1 * 2 ^ Min.min (Int.toNat bi) 32) - 1))))) (IntKind.wrap IntKind.i64 bi) * IntKind.wrap IntKind.i64 by_)))) .fail) .fail) (.leaf (.int .i64 (IntKind.wrap IntKind.i64 (IntKind.wrap IntKind.i64 (IntKind.wrap IntKind.u32 ↑(BitVec.toNat (BitVec.ofInt 32 (Int.fdiv w (2 ^ Min.min (Int.toNat at_) 32)) &&& BitVec.ofInt 32 (IntKind.wrap IntKind.u32 (IntKind.wrap IntKind.u32 (1 * 2 ^ Min.min (Int.toNat bi) 32) - 1))))) * IntKind.wrap IntKind.i64 by_))))) .fail) .fail) (.br (ki == 2) (.leaf (.int .i64 (Go.Rk.signedF (IntKind.wrap IntKind.u32 ↑(BitVec.toNat (BitVec.ofInt 32 (IntKind.wrap IntKind.u32 (IntKind.wrap IntKind.u32 ↑(BitVec.toNat (BitVec.ofInt 32 (Int.fdiv w (2 ^ 5)) &&& BitVec.ofInt 32 524287)) * 2 ^ 2)) ||| BitVec.ofInt 32 (IntKind.wrap IntKind.u32 ↑(BitVec.toNat (BitVec.ofInt 32 (Int.fdiv w (2 ^ 29)) &&& BitVec.ofInt 32 3)))))) 21))) (.br (ki == 3) (.leaf (.int .i64 (IntKind.wrap IntKind.i64 ↑(Go.Rk.atV (IntKind.wrap IntKind.i64 (IntKind.wrap IntKind.u32 ↑(BitVec.toNat (BitVec.ofInt 32 (Int.fdiv w (2 ^ 22)) &&& BitVec.ofInt 32 1)))) (IntKind.wrap IntKind.i64 (IntKind.wrap IntKind.u32 ↑(BitVec.toNat (BitVec.ofInt 32 (Int.fdiv w (2 ^ 16)) &&& BitVec.ofInt 32 63)))) (IntKind.wrap IntKind.i64 (IntKind.wrap IntKind.u32 ↑(BitVec.toNat (BitVec.ofInt 32 (Int.fdiv w (2 ^ 10)) &&& BitVec.ofInt 32 63)))))))) (.leaf (.int .i64 0)))))
theorem getT_eq (at_ bi ki by_ lo hi w : Int) : (dfun cx121 Tryz.f121 [.agg [.int .i8 at_, .int .i8 bi, .int .i8 ki, .int .i8 by_, .int .i32 lo, .int .i32 hi], .int .u32 w]).run = (getT at_ bi ki by_ lo hi w).run :=
  (show (dfun cx121 Tryz.f121 [.agg [.int .i8 at_, .int .i8 bi, .int .i8 ki, .int .i8 by_, .int .i32 lo, .int .i32 hi], .int .u32 w]).run = (getT at_ bi ki by_ lo hi w).out by kernel_rfl).trans (Tree.out_run _)
def smallF (f : NumT) (n : Int) : Bool := cond (decide (IntKind.wrap IntKind.i64 f.2.2.2.2.1 ≤ n)) (decide (n ≤ IntKind.wrap IntKind.i64 f.2.2.2.2.2)) false
def numOk (f : NumT) : Bool := cond (f.2.2.1 == 1) (!decide (IntKind.wrap IntKind.i64 f.2.2.2.1 = 0) && (decide (0 ≤ f.2.1) && (decide (0 ≤ f.1) && decide (0 ≤ IntKind.wrap IntKind.i64 (32 - IntKind.wrap IntKind.i64 f.2.1))))) true
def maskB (bi : Int) : Int := IntKind.wrap IntKind.u32 (IntKind.wrap IntKind.u32 (1 * 2 ^ Min.min (Int.toNat bi) 32) - 1)
def put1 (f : NumT) (n : Int) : Int := IntKind.wrap IntKind.u32 (and32 (IntKind.wrap IntKind.u32 (IntKind.wrap IntKind.i64 (Int.tdiv n (IntKind.wrap IntKind.i64 f.2.2.2.1)))) (maskB f.2.1) * 2 ^ Min.min (Int.toNat f.1) 32)
def put2 (n : Int) : Int := or32 (IntKind.wrap IntKind.u32 (and32 (IntKind.wrap IntKind.u32 n) 3 * 2 ^ 29)) (IntKind.wrap IntKind.u32 (and32 (IntKind.wrap IntKind.u32 (Int.fdiv n (2 ^ 2))) 524287 * 2 ^ 5))
def u64N (n : Int) : Nat := Int.toNat (IntKind.wrap IntKind.u64 n)
def put3 (n : Int) : Int := or32 (or32 (IntKind.wrap IntKind.u32 (IntKind.wrap IntKind.u32 (ofVN (u64N n)) * 2 ^ 22)) (IntKind.wrap IntKind.u32 (IntKind.wrap IntKind.u32 (ofVR (u64N n)) * 2 ^ 16))) (IntKind.wrap IntKind.u32 (IntKind.wrap IntKind.u32 (ofVS (u64N n)) * 2 ^ 10))
def putF (f : NumT) (n : Int) : Int := cond (f.2.2.1 == 1) (put1 f n) (cond (f.2.2.1 == 2) (put2 n) (cond (f.2.2.1 == 3) (put3 n) 0))
def raw1 (f : NumT) (w : Int) : Int := and32 (Int.fdiv w (2 ^ Min.min (Int.toNat f.1) 32)) (maskB f.2.1)
def get1 (f : NumT) (w : Int) : Int := cond (decide (f.2.2.2.2.1 < 0)) (IntKind.wrap IntKind.i64 (signedF (raw1 f w) (IntKind.wrap IntKind.i64 f.2.1) * IntKind.wrap IntKind.i64 f.2.2.2.1)) (IntKind.wrap IntKind.i64 (IntKind.wrap IntKind.i64 (raw1 f w) * IntKind.wrap IntKind.i64 f.2.2.2.1))
def get2 (w : Int) : Int := signedF (or32 (IntKind.wrap IntKind.u32 (and32 (Int.fdiv w (2 ^ 5)) 524287 * 2 ^ 2)) (and32 (Int.fdiv w (2 ^ 29)) 3)) 21
def get3 (w : Int) : Int := IntKind.wrap IntKind.i64 ((atV (IntKind.wrap IntKind.i64 (and32 (Int.fdiv w (2 ^ 22)) 1)) (IntKind.wrap IntKind.i64 (and32 (Int.fdiv w (2 ^ 16)) 63)) (IntKind.wrap IntKind.i64 (and32 (Int.fdiv w (2 ^ 10)) 63)) : Nat) : Int)
def getF (f : NumT) (w : Int) : Int := cond (f.2.2.1 == 1) (get1 f w) (cond (f.2.2.1 == 2) (get2 w) (cond (f.2.2.1 == 3) (get3 w) 0))
theorem u64_rng (n : Int) : (decide (0 ≤ IntKind.wrap IntKind.u64 n) && decide (IntKind.wrap IntKind.u64 n < 18446744073709551616)) = true := by
  rw [wrap_u64]
  simp only [Bool.and_eq_true, decide_eq_true_eq]
  omega
def smallS : Ab.Spec := fun args => match args with
  | [.agg [.int .i8 at_, .int .i8 bi, .int .i8 ki, .int .i8 by_, .int .i32 lo, .int .i32 hi], .int .i64 n] => .leaf (.bool (smallF (at_, bi, ki, by_, lo, hi) n))
  | _ => .fail
def putS : Ab.Spec := fun args => match args with
  | [.agg [.int .i8 at_, .int .i8 bi, .int .i8 ki, .int .i8 by_, .int .i32 lo, .int .i32 hi], .int .i64 n] => .req (numOk (at_, bi, ki, by_, lo, hi)) (.leaf (.int .u32 (putF (at_, bi, ki, by_, lo, hi) n)))
  | _ => .fail
def getS : Ab.Spec := fun args => match args with
  | [.agg [.int .i8 at_, .int .i8 bi, .int .i8 ki, .int .i8 by_, .int .i32 lo, .int .i32 hi], .int .u32 w] => .req (numOk (at_, bi, ki, by_, lo, hi)) (.leaf (.int .i64 (getF (at_, bi, ki, by_, lo, hi) w)))
  | _ => .fail
theorem smallS_ok : Sound Tryz.prog 108 smallS := by
  intro args out h
  unfold smallS at h
  split at h
  rotate_left
  · cases h
  rename_i at_ bi ki by_ lo hi n
  have h := leaf_out h
  subst h
  refine pcall_fun' (cx := cx108) (fn := Tryz.f108) (cx0_ok rfl rfl) (by kernel_rfl) (by kernel_rfl) (by kernel_rfl) ?_
  rw [smallT_eq]
  unfold smallT smallF
  simp only
  cases decide (IntKind.wrap IntKind.i64 lo ≤ n) <;> rfl
theorem putS_ok : Sound Tryz.prog 170 putS := by
  intro args out h
  unfold putS at h
  split at h
  rotate_left
  · cases h
  rename_i at_ bi ki by_ lo hi n
  obtain ⟨h1, h⟩ := req_run h
  have h := leaf_out h
  subst h
  refine pcall_fun' (cx := cx170) (fn := Tryz.f170) (cx1_ok (ok1 ofS_ok) (.nil _) rfl rfl) (by kernel_rfl) (by kernel_rfl) (by kernel_rfl) ?_
  rw [putT_eq]
  unfold putT putF
  unfold numOk at h1
  simp only at h1 ⊢
  cases hk : (ki == 1)
  · rw [u64_rng]
    cases (ki == 2)
    · cases (ki == 3) <;> rfl
    · rfl
  · rw [hk] at h1
    simp only [cond_true, Bool.and_eq_true] at h1
    obtain ⟨g1, g2, g3, _⟩ := h1
    rw [g1, g2, g3]
    rfl
theorem getS_ok : Sound Tryz.prog 121 getS := by
  intro args out h
  unfold getS at h
  split at h
  rotate_left
  · cases h
  rename_i at_ bi ki by_ lo hi w
  obtain ⟨h1, h⟩ := req_run h
  have h := leaf_out h
  subst h
  refine pcall_fun' (cx := cx121) (fn := Tryz.f121) (cx1_ok (.cons signedS_ok (ok1 atS_ok)) (.nil _) rfl rfl) (by kernel_rfl) (by kernel_rfl) (by kernel_rfl) ?_
  rw [getT_eq]
  unfold getT getF
  unfold numOk at h1
  simp only at h1 ⊢
  cases hk : (ki == 1)
  · cases (ki == 2)
    · cases (ki == 3) <;> rfl
    · rfl
  · rw [hk] at h1
    simp only [cond_true, Bool.and_eq_true] at h1
    obtain ⟨g1, g2, g3, g4⟩ := h1
    rw [g2, g3, g4]
    unfold get1
    simp only
    cases decide (lo < 0) <;> rfl
end Go.Rk

namespace Go.Rk
open Go Go.Ab Go.Proofs Go.Ra Go.Wd
abbrev InsT := List UInt8 × Int × Int × Int × Int × Int
def insV (i : InsT) : V := .agg [.str i.1, .int .i64 i.2.1, .int .i64 i.2.2.1, .int .i64 i.2.2.2.1, .int .i64 i.2.2.2.2.1, .int .i64 i.2.2.2.2.2]
abbrev numL6 (f : NumT) : List V := [.int .i8 f.1, .int .i8 f.2.1, .int .i8 f.2.2.1, .int .i8 f.2.2.2.1, .int .i32 f.2.2.2.2.1, .int .i32 f.2.2.2.2.2]
abbrev rowL (r : RowT) : List V := [.str r.1, .int .u32 r.2.1] ++ numL6 r.2.2.1 ++ numL6 r.2.2.2.1 ++ numL6 r.2.2.2.2.1 ++ numL6 r.2.2.2.2.2.1 ++ numL6 r.2.2.2.2.2.2.1 ++ [.str r.2.2.2.2.2.2.2]
abbrev insL (i : InsT) : List V := [.str i.1, .int .i64 i.2.1, .int .i64 i.2.2.1, .int .i64 i.2.2.2.1, .int .i64 i.2.2.2.2.1, .int .i64 i.2.2.2.2.2]
noncomputable def cx50 : Cx := { P := Tryz.prog, n := 97, tab := [(108, smallS), (109, ofS)], mtab := [], refs := [], keeps := [0, 1, 2, 3, 4, 8, 9, 40, 50, 55, 70, 71, 88] }
noncomputable def cx120 : Cx := { P := Tryz.prog, n := 37, tab := [(170, putS)], mtab := [], refs := [], keeps := [0, 1, 2, 3, 4] }
def numE2 (f : NumT) (n : Int) : Int := cond (f.2.2.1 == 0) 0 (cond (f.2.2.1 == 3) (cond (!ofOk (u64N n)) 3 0)
  (cond (decide (n < IntKind.wrap IntKind.i64 f.2.2.2.2.1)) 3 (cond (decide (IntKind.wrap IntKind.i64 f.2.2.2.2.2 < n)) 3 (cond (Int.tmod n (IntKind.wrap IntKind.i64 f.2.2.2.1) != 0) 10 0))))
def numTail (f : NumT) (n : Int) : Tree V := .br (f.2.2.1 == 0) (.leaf (.int .i64 0)) (.br (f.2.2.1 == 3) (.br (decide (0 ≤ IntKind.wrap IntKind.u64 n) && decide (IntKind.wrap IntKind.u64 n < 18446744073709551616)) (.br (!ofOk (u64N n)) (.leaf (.int .i64 3)) (.leaf (.int .i64 0))) .fail)
  (.br (decide (n < IntKind.wrap IntKind.i64 f.2.2.2.2.1)) (.leaf (.int .i64 3)) (.br (decide (IntKind.wrap IntKind.i64 f.2.2.2.2.2 < n)) (.leaf (.int .i64 3)) (.br (!decide (IntKind.wrap IntKind.i64 f.2.2.2.1 = 0)) (.br (Int.tmod n (IntKind.wrap IntKind.i64 f.2.2.2.1) != 0) (.leaf (.int .i64 10)) (.leaf (.int .i64 0))) .fail))))
def faultyH (r : RowT) (i : InsT) : Tree V :=
  .br (!smallF r.2.2.1 i.2.1) (.leaf (.int .i64 13)) (.br (!smallF r.2.2.2.1 i.2.2.1) (.leaf (.int .i64 13)) (.br (!smallF r.2.2.2.2.1 i.2.2.2.1) (.leaf (.int .i64 13)) (.br (!smallF r.2.2.2.2.2.1 i.2.2.2.2.1) (.leaf (.int .i64 13))
    (.br (r.2.2.2.2.2.2.1.2.2.1 == 0) (.br (i.2.2.2.2.2 != 0) (.leaf (.int .i64 13)) (numTail r.2.2.2.2.2.2.1 i.2.2.2.2.2)) (numTail r.2.2.2.2.2.2.1 i.2.2.2.2.2)))))
def faultyF (r : RowT) (i : InsT) : Int :=
  cond (!smallF r.2.2.1 i.2.1) 13 (cond (!smallF r.2.2.2.1 i.2.2.1) 13 (cond (!smallF r.2.2.2.2.1 i.2.2.2.1) 13 (cond (!smallF r.2.2.2.2.2.1 i.2.2.2.2.1) 13 (cond (r.2.2.2.2.2.2.1.2.2.1 == 0 && i.2.2.2.2.2 != 0) 13 (numE2 r.2.2.2.2.2.2.1 i.2.2.2.2.2)))))
def byOk (f : NumT) : Bool := cond (f.2.2.1 == 0) true (cond (f.2.2.1 == 3) true (!decide (IntKind.wrap IntKind.i64 f.2.2.2.1 = 0)))
theorem numTail_run {f : NumT} (n : Int) (h : byOk f = true) : (numTail f n).run = some (.int .i64 (numE2 f n)) := by
  unfold numTail numE2
  unfold byOk at h
  rw [u64_rng]
  cases h0 : (f.2.2.1 == 0)
  · cases h3 : (f.2.2.1 == 3)
    · rw [h0, h3] at h
      simp only [cond_false] at h
      rw [h]
      cases decide (n < IntKind.wrap IntKind.i64 f.2.2.2.2.1)
      · cases decide (IntKind.wrap IntKind.i64 f.2.2.2.2.2 < n)
        · cases (Int.tmod n (IntKind.wrap IntKind.i64 f.2.2.2.1) != 0) <;> rfl
        · rfl
      · rfl
    · cases (!ofOk (u64N n)) <;> rfl
  · rfl
theorem faultyH_run {r : RowT} (i : InsT) (h : byOk r.2.2.2.2.2.2.1 = true) : (faultyH r i).run = some (.int .i64 (faultyF r i)) := by
  have ht := numTail_run i.2.2.2.2.2 h
  unfold faultyH faultyF
  generalize numTail r.2.2.2.2.2.2.1 i.2.2.2.2.2 = X at ht
  generalize numE2 r.2.2.2.2.2.2.1 i.2.2.2.2.2 = Y at ht
  cases (!smallF r.2.2.1 i.2.1)
  rotate_left
  · rfl
  cases (!smallF r.2.2.2.1 i.2.2.1)
  rotate_left
  · rfl
  cases (!smallF r.2.2.2.2.1 i.2.2.2.1)
  rotate_left
  · rfl
  cases (!smallF r.2.2.2.2.2.1 i.2.2.2.2.1)
  rotate_left
  · rfl
  cases (r.2.2.2.2.2.2.1.2.2.1 == 0)
  · exact ht
  · cases (i.2.2.2.2.2 != 0)
    · exact ht
    · rfl
theorem faulty_eq (r : RowT) (i : InsT) : (dfun cx50 Tryz.f50 [.agg (rowL r), .agg (insL i)]).run = (faultyH r i).run :=
  (show (dfun cx50 Tryz.f50 [.agg (rowL r), .agg (insL i)]).run = (faultyH r i).out by kernel_rfl).trans (Tree.out_run _)
def faultyS : Ab.Spec := fun args => match args with
  | [.agg (.str rn :: .int .u32 rw :: .int .i8 p1 :: .int .i8 p2 :: .int .i8 p3 :: .int .i8 p4 :: .int .i32 p5 :: .int .i32 p6 :: .int .i8 q1 :: .int .i8 q2 :: .int .i8 q3 :: .int .i8 q4 :: .int .i32 q5 :: .int .i32 q6 :: .int .i8 s1 :: .int .i8 s2 :: .int .i8 s3 :: .int .i8 s4 :: .int .i32 s5 :: .int .i32 s6 :: .int .i8 t1 :: .int .i8 t2 :: .int .i8 t3 :: .int .i8 t4 :: .int .i32 t5 :: .int .i32 t6 :: .int .i8 z1 :: .int .i8 z2 :: .int .i8 z3 :: .int .i8 z4 :: .int .i32 z5 :: .int .i32 z6 :: [.str ro]), .agg [.str nm, .int .i64 a, .int .i64 b, .int .i64 c, .int .i64 d, .int .i64 n]] => .req (byOk (z1, z2, z3, z4, z5, z6)) (.leaf (.int .i64 (faultyF (rn, rw, (p1, p2, p3, p4, p5, p6), (q1, q2, q3, q4, q5, q6), (s1, s2, s3, s4, s5, s6), (t1, t2, t3, t4, t5, t6), (z1, z2, z3, z4, z5, z6), ro) (nm, a, b, c, d, n))))
  | _ => .fail
theorem faultyS_ok : Sound Tryz.prog 50 faultyS := by
  intro args out h
  unfold faultyS at h
  split at h
  rotate_left
  · cases h
  rename_i rn rw p1 p2 p3 p4 p5 p6 q1 q2 q3 q4 q5 q6 s1 s2 s3 s4 s5 s6 t1 t2 t3 t4 t5 t6 z1 z2 z3 z4 z5 z6 ro nm a b c d n
  obtain ⟨h1, h⟩ := req_run h
  have h := leaf_out h
  subst h
  refine pcall_fun' (cx := cx50) (fn := Tryz.f50) (cx1_ok (.cons smallS_ok (ok1 ofS_ok)) (.nil _) rfl rfl) (by kernel_rfl) (by kernel_rfl) (by kernel_rfl) ?_
  exact (faulty_eq (rn, rw, (p1, p2, p3, p4, p5, p6), (q1, q2, q3, q4, q5, q6), (s1, s2, s3, s4, s5, s6), (t1, t2, t3, t4, t5, t6), (z1, z2, z3, z4, z5, z6), ro) (nm, a, b, c, d, n)).trans (faultyH_run _ h1)
def bitsF (r : RowT) (i : InsT) : Int := or32 (or32 (or32 (or32 (or32 r.2.1 (putF r.2.2.1 i.2.1)) (putF r.2.2.2.1 i.2.2.1)) (putF r.2.2.2.2.1 i.2.2.2.1)) (putF r.2.2.2.2.2.1 i.2.2.2.2.1)) (putF r.2.2.2.2.2.2.1 i.2.2.2.2.2)
def rowOk (r : RowT) : Bool := numOk r.2.2.1 && (numOk r.2.2.2.1 && (numOk r.2.2.2.2.1 && (numOk r.2.2.2.2.2.1 && numOk r.2.2.2.2.2.2.1)))
def bitsH (r : RowT) (i : InsT) : Tree V := .br (numOk r.2.2.1) (.br (numOk r.2.2.2.1) (.br (numOk r.2.2.2.2.1) (.br (numOk r.2.2.2.2.2.1) (.br (numOk r.2.2.2.2.2.2.1) (.leaf (.int .u32 (bitsF r i))) .fail) .fail) .fail) .fail) .fail
theorem bits_eq (r : RowT) (i : InsT) : (dfun cx120 Tryz.f120 [.agg (rowL r), .agg (insL i)]).run = (bitsH r i).run :=
  (show (dfun cx120 Tryz.f120 [.agg (rowL r), .agg (insL i)]).run = (bitsH r i).out by kernel_rfl).trans (Tree.out_run _)
def bitsS : Ab.Spec := fun args => match args with
  | [.agg (.str rn :: .int .u32 rw :: .int .i8 p1 :: .int .i8 p2 :: .int .i8 p3 :: .int .i8 p4 :: .int .i32 p5 :: .int .i32 p6 :: .int .i8 q1 :: .int .i8 q2 :: .int .i8 q3 :: .int .i8 q4 :: .int .i32 q5 :: .int .i32 q6 :: .int .i8 s1 :: .int .i8 s2 :: .int .i8 s3 :: .int .i8 s4 :: .int .i32 s5 :: .int .i32 s6 :: .int .i8 t1 :: .int .i8 t2 :: .int .i8 t3 :: .int .i8 t4 :: .int .i32 t5 :: .int .i32 t6 :: .int .i8 z1 :: .int .i8 z2 :: .int .i8 z3 :: .int .i8 z4 :: .int .i32 z5 :: .int .i32 z6 :: [.str ro]), .agg [.str nm, .int .i64 a, .int .i64 b, .int .i64 c, .int .i64 d, .int .i64 n]] => .req (rowOk (rn, rw, (p1, p2, p3, p4, p5, p6), (q1, q2, q3, q4, q5, q6), (s1, s2, s3, s4, s5, s6), (t1, t2, t3, t4, t5, t6), (z1, z2, z3, z4, z5, z6), ro)) (.leaf (.int .u32 (bitsF (rn, rw, (p1, p2, p3, p4, p5, p6), (q1, q2, q3, q4, q5, q6), (s1, s2, s3, s4, s5, s6), (t1, t2, t3, t4, t5, t6), (z1, z2, z3, z4, z5, z6), ro) (nm, a, b, c, d, n))))
  | _ => .fail
theorem bitsS_ok : Sound Tryz.prog 120 bitsS := by
  intro args out h
  unfold bitsS at h
  split at h
  rotate_left
  · cases h
  rename_i rn rw p1 p2 p3 p4 p5 p6 q1 q2 q3 q4 q5 q6 s1 s2 s3 s4 s5 s6 t1 t2 t3 t4 t5 t6 z1 z2 z3 z4 z5 z6 ro nm a b c d n
  obtain ⟨h1, h⟩ := req_run h
  have h := leaf_out h
  subst h
  refine pcall_fun' (cx := cx120) (fn := Tryz.f120) (cx1_ok (ok1 putS_ok) (.nil _) rfl rfl) (by kernel_rfl) (by kernel_rfl) (by kernel_rfl) ?_
  refine (bits_eq (rn, rw, (p1, p2, p3, p4, p5, p6), (q1, q2, q3, q4, q5, q6), (s1, s2, s3, s4, s5, s6), (t1, t2, t3, t4, t5, t6), (z1, z2, z3, z4, z5, z6), ro) (nm, a, b, c, d, n)).trans ?_
  simp only [rowOk, Bool.and_eq_true] at h1
  obtain ⟨g1, g2, g3, g4, g5⟩ := h1
  exact (br_t g1).trans ((br_t g2).trans ((br_t g3).trans ((br_t g4).trans (br_t g5))))
end Go.Rk

namespace Go.Rk
open Go Go.Ab Go.Proofs Go.Ra Go.Wd
noncomputable def cx49 : Cx := { P := Tryz.prog, n := 19, tab := [(107, rowsS)], mtab := [], refs := [], keeps := [0, 2, 3, 5, 6, 7, 8, 9, 15] }
noncomputable abbrev cxFind : Cx := cx49
def zeroR : RowT := ([], 0, (0, 0, 0, 0, 0, 0), (0, 0, 0, 0, 0, 0), (0, 0, 0, 0, 0, 0), (0, 0, 0, 0, 0, 0), (0, 0, 0, 0, 0, 0), [])
abbrev rowAt (l : List RowT) (i : Nat) : RowT := l.getD i zeroR
def findRound (nm : List UInt8) (i : Int) (l : List RowT) : Tree St :=
  (.br (decide (i < (l.length : Nat))) (.br (inside i l.length) (.br (strEq (rowAt l i.toNat).1 nm)
    (.leaf (.ret, [(0, .str nm), (2, .ptr 0 0), (3, .bool true), (5, .ptr 1 0), (6, .sl rowE l [] .ro), (7, .int .i64 (l.length : Nat)), (8, .int .i64 i), (9, .bool true), (15, .bool true)], [.cells (rowL (rowAt l i.toNat)) 105, .cells (rowL (rowAt l i.toNat)) 105]))
    (.leaf (.normal, [(0, .str nm), (2, .ptr 0 0), (3, .bool false), (5, .ptr 1 0), (6, .sl rowE l [] .ro), (7, .int .i64 (l.length : Nat)), (8, .int .i64 (IntKind.wrap .i64 (i + 1))), (9, .bool true), (15, .bool false)], [.cells (rowL zeroR) 105, .cells (rowL (rowAt l i.toNat)) 105]))) .fail)
    (.leaf (.exit 0, [(0, .str nm), (2, .ptr 0 0), (3, .bool false), (6, .sl rowE l [] .ro), (7, .int .i64 (l.length : Nat)), (8, .int .i64 i), (9, .bool false)], [.cells (rowL zeroR) 105])))
theorem findRound_eq (nm : List UInt8) (i : Int) (l : List RowT) : (dcode cxFind (cin (cin (c2 (c1 (c2 (bodyOf Tryz.f49)))))) [(0, .str nm), (2, .ptr 0 0), (3, .bool false), (6, .sl rowE l [] .ro), (7, .int .i64 l.length), (8, .int .i64 i)] [.cells (rowL zeroR) 105]).run = (findRound nm i l).run :=
  (show (dcode cxFind (cin (cin (c2 (c1 (c2 (bodyOf Tryz.f49)))))) [(0, .str nm), (2, .ptr 0 0), (3, .bool false), (6, .sl rowE l [] .ro), (7, .int .i64 l.length), (8, .int .i64 i)] [.cells (rowL zeroR) 105]).run = (findRound nm i l).out by kernel_rfl).trans (Tree.out_run _)
theorem cxFind_ok : CxOk cxFind := cx1_ok (ok1 rowsS_ok) (.nil _) rfl rfl
def findL (nm : List UInt8) (l : List RowT) : Option RowT := l.find? fun r => strEq r.1 nm
def frow (nm : List UInt8) : RowT := (findL nm rowsL).getD zeroR
def fok (nm : List UInt8) : Bool := (findL nm rowsL).isSome
def findS : Ab.Spec := fun args => match args with
  | [.str nm] => .leaf (.tup [.agg (rowL (frow nm)), .bool (fok nm)])
  | _ => .fail
def findSt (nm : List UInt8) (i : { i : Nat // i ≤ rowsL.length ∧ findL nm (rowsL.take i) = none }) : T × List O :=
  ([(0, .str nm), (2, .ptr 0 0), (3, .bool false), (6, .sl rowE rowsL [] .ro), (7, .int .i64 rowsL.length), (8, .int .i64 i.1)], [.cells (rowL zeroR) 105])
theorem find_ok (nm : List UInt8) : PCall Tryz.prog 49 [.str nm] (.tup [.agg (rowL (frow nm)), .bool (fok nm)]) := by
  refine pcall_of' (c := bodyOf Tryz.f49) (fn := Tryz.f49) (by kernel_rfl) (by kernel_rfl) (by kernel_rfl) (by kernel_rfl) ?_
  have e : bodyOf Tryz.f49 = .seq (c1 (bodyOf Tryz.f49)) (.seq (.seq (c1 (c1 (c2 (bodyOf Tryz.f49)))) (.block 0 (.loop (cin (cin (c2 (c1 (c2 (bodyOf Tryz.f49))))))))) (c2 (c2 (bodyOf Tryz.f49)))) := by kernel_rfl
  rw [e]
  generalize hQ : (fun e t H => (e = AEx.ret ∨ e = .normal) ∧ answerV Tryz.prog Tryz.f49.results.toList H t = some (.tup [.agg (rowL (frow nm)), .bool (fok nm)])) = Q
  have hlen := rowsL_len
  refine AWP_seq (AWP_run (cx := cxFind) rfl rfl cxFind_ok (s := (.normal, [(0, .str nm), (2, .ptr 0 0), (3, .bool false)], [.cells (rowL zeroR) 105])) (by kernel_rfl) ?_)
  refine AWP_seq (AWP_seq (AWP_run (cx := cxFind) rfl rfl cxFind_ok (s := (.normal, [(0, .str nm), (2, .ptr 0 0), (3, .bool false), (6, .sl rowE rowsL [] .ro), (7, .int .i64 54), (8, .int .i64 0)], [.cells (rowL zeroR) 105])) (by kernel_rfl) ?_))
  refine AWP_block ?_
  refine AWP.less (s := (findSt nm ⟨0, Nat.zero_le _, rfl⟩).1) (Fits.tle ⟨rfl, rfl, rfl, rfl, by kernel_rfl, rfl, trivial⟩) ?_
  refine AWP_rounds (cx := cxFind) (P := Tryz.prog) (n := 19) rfl rfl cxFind_ok (findSt nm) (fun i => 54 - i.1) ?_ ⟨0, Nat.zero_le _, rfl⟩
  rintro ⟨i, hi, hnone⟩
  refine Tree.all_run_eq (findRound_eq nm i rowsL) ?_
  refine ⟨fun hlt => ⟨fun hin => ⟨fun hp => ?_, fun hp => ?_⟩, fun hin => ?_⟩, fun hge => ?_⟩
  · -- found
    have hlt : i < rowsL.length := Int.ofNat_lt.1 (of_decide_eq_true hlt)
    have hf : findL nm rowsL = some (rowsL.getD i zeroR) := take_some hlt hnone hp
    refine ⟨[], _, rfl, ?_⟩
    subst hQ
    refine ⟨.inl rfl, ?_⟩
    have h1 : frow nm = rowsL.getD i zeroR := by unfold frow; rw [hf]; rfl
    have h2 : fok nm = true := by unfold fok; rw [hf]; rfl
    show answerV _ _ _ _ = some _
    rw [h1, h2]
    kernel_rfl
  · have hlt : i < rowsL.length := Int.ofNat_lt.1 (of_decide_eq_true hlt)
    have hf : findL nm (rowsL.take (i + 1)) = none := take_none hlt hnone hp
    refine ⟨[], _, rfl, ⟨i + 1, hlt, hf⟩, by show 54 - (i + 1) < 54 - i; omega, Fits.tle ⟨rfl, rfl, rfl, rfl, rfl, ?_, trivial⟩, rfl⟩
    show V.int .i64 (IntKind.wrap .i64 ((i : Int) + 1)) = V.int .i64 ((i + 1 : Nat) : Int)
    rw [wrap_i64 (by omega) (by omega)]
    rfl
  · exfalso
    have hlt : i < rowsL.length := Int.ofNat_lt.1 (of_decide_eq_true hlt)
    exact Bool.noConfusion ((inside_of (Int.natCast_nonneg i) (Int.ofNat_lt.2 hlt)).symm.trans hin)
  · have hge : ¬ ((i : Int) < rowsL.length) := of_decide_eq_false hge
    have hi' : i = rowsL.length := by omega
    refine ⟨[], _, rfl, ?_⟩
    show AWP _ _ _ _ _ _
    refine AWP.less (s := [(0, .str nm), (2, .ptr 0 0), (3, .bool false)]) (Fits.tle ⟨rfl, rfl, rfl, trivial⟩) ?_
    refine AWP_run (cx := cxFind) rfl rfl cxFind_ok (s := (.ret, [(0, .str nm), (2, .ptr 0 0), (3, .bool false)], [.cells (rowL zeroR) 105])) (by kernel_rfl) ?_
    subst hQ
    refine ⟨.inl rfl, ?_⟩
    have hf : findL nm rowsL = none := by rw [← hnone, hi', List.take_length]
    have h1 : frow nm = zeroR := by unfold frow; rw [hf]; rfl
    have h2 : fok nm = false := by unfold fok; rw [hf]; rfl
    show answerV _ _ _ _ = some _
    rw [h1, h2]
    kernel_rfl
theorem findS_ok : Sound Tryz.prog 49 findS := by
  intro args out h
  unfold findS at h
  split at h
  rotate_left
  · cases h
  simp only [Tree.run, Option.some.injEq] at h
  subst h
  exact find_ok _
end Go.Rk

namespace Go.Rk
open Go Go.Ab Go.Proofs Go.Ra Go.Wd
noncomputable def cx24 : Cx := { P := Tryz.prog, n := 18, tab := [(49, findS), (50, faultyS)], mtab := [], refs := [], keeps := [0, 1, 2, 3, 4] }
def rowFine (r : RowT) : Bool := byOk r.2.2.2.2.2.2.1 && rowOk r
theorem rows_fine : rowsL.all rowFine = true := by kernel_rfl
theorem frow_fine (nm : List UInt8) : rowFine (frow nm) = true := by
  unfold frow
  cases h : findL nm rowsL with
  | none => rfl
  | some r => exact List.all_eq_true.1 rows_fine r (List.mem_of_find?_eq_some h)
theorem frow_by (nm : List UInt8) : byOk (frow nm).2.2.2.2.2.2.1 = true := (Bool.and_eq_true_iff.1 (frow_fine nm)).1
def encE (i : InsT) : Int := cond (fok i.1) (faultyF (frow i.1) i) 7
def encW (i : InsT) : Int := bitsF (frow i.1) i
def mayH (i : InsT) : Tree V := .br (fok i.1) (.br (byOk (frow i.1).2.2.2.2.2.2.1) (.leaf (.bool (faultyF (frow i.1) i == 0))) .fail) (.leaf (.bool false))
theorem mayH_eq (i : InsT) : (dfun cx24 Tryz.f24 [.agg (insL i)]).run = (mayH i).run :=
  (show (dfun cx24 Tryz.f24 [.agg (insL i)]).run = (mayH i).out by kernel_rfl).trans (Tree.out_run _)
def mayS : Ab.Spec := fun args => match args with
  | [.agg [.str nm, .int .i64 a, .int .i64 b, .int .i64 c, .int .i64 d, .int .i64 n]] => .leaf (.bool (encE (nm, a, b, c, d, n) == 0))
  | _ => .fail
theorem mayS_ok : Sound Tryz.prog 24 mayS := by
  intro args out h
  unfold mayS at h
  split at h
  rotate_left
  · cases h
  rename_i nm a b c d n
  refine pcall_fun' (cx := cx24) (fn := Tryz.f24) (cx1_ok (.cons findS_ok (.cons faultyS_ok (.nil _))) (.nil _) rfl rfl) (by kernel_rfl) (by kernel_rfl) (by kernel_rfl) ?_
  refine (mayH_eq (nm, a, b, c, d, n)).trans ?_
  rw [← h]
  have g1 := frow_by nm
  unfold mayH encE
  simp only at g1 ⊢
  rw [g1]
  cases (fok nm) <;> rfl
end Go.Rk

namespace Go.Rk
open Go Go.Ab Go.Proofs Go.Ra Go.Wd
noncomputable def cx134 : Cx := { P := Tryz.prog, n := 21, tab := [], mtab := [], refs := [], keeps := [0, 2, 3, 4, 9] }
def numRound (l sp : List Int) (fl : Fl) (s i : Int) : Tree St :=
  (.br (decide (0 ≤ i)) (.br (inside i (List.length l)) (.leaf (.normal, [(0, (.sl (.int .u8) (l) (sp) fl)), (3, (.int .u64 (IntKind.wrap IntKind.u64 ↑(BitVec.toNat (BitVec.ofInt 64 (IntKind.wrap IntKind.u64 (s * 2 ^ 8)) ||| BitVec.ofInt 64 (IntKind.wrap IntKind.u64 (tI (List.getD l (Int.toNat i) (tI (EC.dflt (EC.int IntKind.u8))))))))))), (4, (.int .i64 (IntKind.wrap IntKind.i64 (i - 1)))), (9, (.bool true))], [])) .fail) (.leaf ((.exit 0), [(0, (.sl (.int .u8) (l) (sp) fl)), (3, (.int .u64 s)), (4, (.int .i64 i)), (9, (.bool false))], [])))
theorem numRound_eq (l sp : List Int) (fl : Fl) (s i : Int) : (dcode cx134 (cin (cin (c2 (c1 (c2 (c2 (bodyOf Tryz.f134))))))) [(0, .sl (.int .u8) l sp fl), (3, .int .u64 s), (4, .int .i64 i)] []).run = (numRound l sp fl s i).run :=
  (show (dcode cx134 (cin (cin (c2 (c1 (c2 (c2 (bodyOf Tryz.f134))))))) [(0, .sl (.int .u8) l sp fl), (3, .int .u64 s), (4, .int .i64 i)] []).run = (numRound l sp fl s i).out by kernel_rfl).trans (Tree.out_run _)
def numEnd (s : Int) : Tree St :=
  (.leaf (.ret, [(2, (.int .u64 s)), (3, (.int .u64 s))], []))
theorem numEnd_eq (s : Int) : (dcode cx134 (c2 (c2 (c2 (bodyOf Tryz.f134)))) [(3, .int .u64 s)] []).run = (numEnd s).run :=
  (show (dcode cx134 (c2 (c2 (c2 (bodyOf Tryz.f134)))) [(3, .int .u64 s)] []).run = (numEnd s).out by kernel_rfl).trans (Tree.out_run _)
theorem getD_lt {α : Type} {l : List α} {i : Nat} {d : α} (h : i < l.length) : l.getD i d = l[i] := by simp [List.getD, h]
def numSt (l sp : List Int) (fl : Fl) (j : { j : Nat // j ≤ l.length }) : T × List O :=
  ([(0, .sl (.int .u8) l sp fl), (3, .int .u64 (numL (l.drop (l.length - j.1)))), (4, .int .i64 ((l.length : Int) - 1 - j.1))], [])
theorem num_ok (l sp : List Int) (fl : Fl) (hl : l.length < 1000000000) : PCall Tryz.prog 134 [.sl (.int .u8) l sp fl] (.int .u64 (numL l)) := by
  refine pcall_of' (c := bodyOf Tryz.f134) (fn := Tryz.f134) (by kernel_rfl) (by kernel_rfl) (by kernel_rfl) (by kernel_rfl) ?_
  have e : bodyOf Tryz.f134 = .seq (c1 (bodyOf Tryz.f134)) (.seq (c1 (c2 (bodyOf Tryz.f134))) (.seq (.seq (c1 (c1 (c2 (c2 (bodyOf Tryz.f134))))) (.block 0 (.loop (cin (cin (c2 (c1 (c2 (c2 (bodyOf Tryz.f134)))))))))) (c2 (c2 (c2 (bodyOf Tryz.f134)))))) := by kernel_rfl
  rw [e]
  generalize hQ : (fun e t H => (e = AEx.ret ∨ e = .normal) ∧ answerV Tryz.prog Tryz.f134.results.toList H t = some (.int .u64 (numL l))) = Q
  have hok : CxOk cx134 := cx0_ok rfl rfl
  refine AWP_seq (AWP_run (cx := cx134) rfl rfl hok (s := (.normal, [(0, .sl (.int .u8) l sp fl), (2, .int .u64 0)], [])) (by kernel_rfl) ?_)
  refine AWP_seq (AWP_run (cx := cx134) rfl rfl hok (s := (.normal, [(0, .sl (.int .u8) l sp fl), (2, .int .u64 0), (3, .int .u64 0)], [])) (by kernel_rfl) ?_)
  refine AWP_seq (AWP_seq (AWP_run (cx := cx134) rfl rfl hok (s := (.normal, [(0, .sl (.int .u8) l sp fl), (2, .int .u64 0), (3, .int .u64 0), (4, .int .i64 (IntKind.wrap .i64 ((l.length : Int) - 1)))], [])) (by kernel_rfl) ?_))
  refine AWP_block ?_
  refine AWP.less (s := (numSt l sp fl ⟨0, Nat.zero_le _⟩).1) (Fits.tle ⟨rfl, ?_, ?_, trivial⟩) ?_
  · show V.int .u64 0 = V.int .u64 (numL (l.drop (l.length - 0)))
    rw [Nat.sub_zero, List.drop_length]
    rfl
  · show V.int .i64 _ = V.int .i64 ((l.length : Int) - 1 - (0 : Nat))
    rw [wrap_i64 (by omega) (by omega)]
    simp
  refine AWP_rounds (cx := cx134) (P := Tryz.prog) (n := 21) rfl rfl hok (numSt l sp fl) (fun j => l.length - j.1) ?_ ⟨0, Nat.zero_le _⟩
  rintro ⟨j, hj⟩
  refine Tree.all_run_eq (numRound_eq l sp fl (numL (l.drop (l.length - j))) ((l.length : Int) - 1 - j)) ?_
  refine ⟨fun hlt => ⟨fun hin => ?_, fun hin => ?_⟩, fun hge => ?_⟩
  · have hlt : (0 : Int) ≤ (l.length : Int) - 1 - j := of_decide_eq_true hlt
    refine ⟨[], _, rfl, ⟨j + 1, by omega⟩, by show l.length - (j + 1) < l.length - j; omega, Fits.tle ⟨rfl, ?_, ?_, trivial⟩, rfl⟩
    · have hk : l.length - (j + 1) < l.length := by omega
      have hd : l.drop (l.length - (j + 1)) = l.getD (l.length - (j + 1)) 0 :: l.drop (l.length - j) := by
        rw [List.drop_eq_getElem_cons hk, getD_lt hk]
        congr 2
        omega
      have ht : ((l.length : Int) - 1 - j).toNat = l.length - (j + 1) := by omega
      show V.int .u64 _ = V.int .u64 (numL (l.drop (l.length - (j + 1))))
      rw [hd, ht]
      rfl
    · show V.int .i64 _ = V.int .i64 ((l.length : Int) - 1 - (j + 1 : Nat))
      rw [wrap_i64 (by omega) (by omega)]
      congr 1
      omega
  · exfalso
    have hlt : (0 : Int) ≤ (l.length : Int) - 1 - j := of_decide_eq_true hlt
    exact Bool.noConfusion ((inside_of hlt (by omega)).symm.trans hin)
  · have hge : ¬ (0 : Int) ≤ (l.length : Int) - 1 - j := of_decide_eq_false hge
    have hj' : l.length - j = 0 := by omega
    refine ⟨[], _, rfl, ?_⟩
    show AWP _ _ _ _ _ _
    rw [hj', List.drop_zero]
    refine AWP.less (s := [(3, .int .u64 (numL l))]) (Fits.tle ⟨rfl, trivial⟩) ?_
    refine AWP_run (cx := cx134) rfl rfl hok ((numEnd_eq (numL l)).trans rfl) ?_
    subst hQ
    refine ⟨.inl rfl, ?_⟩
    show answerV _ _ _ _ = some _
    kernel_rfl
def numS : Ab.Spec := fun args => match args with
  | [.sl (.int .u8) l _ _] => .req (decide (l.length < 1000000000)) (.leaf (.int .u64 (numL l)))
  | _ => .fail
theorem numS_ok : Sound Tryz.prog 134 numS := by
  intro args out h
  unfold numS at h
  split at h
  rotate_left
  · cases h
  rename_i l sp fl
  obtain ⟨h1, h2⟩ := req_run h
  simp only [Tree.run, Option.some.injEq] at h2
  subst h2
  exact num_ok l sp fl (of_decide_eq_true h1)
end Go.Rk
