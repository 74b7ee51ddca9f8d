/-
  Of: the fields of a mask. Conditions: none.
-/
import Derived.Test.YtffamklolgjjdaaAr5
namespace Go.Arm
open Go Go.Ab Go.Proofs Go.Wd

/-- The context of foundry/mask.Of. -/
noncomputable def cx37 : Cx := { P := Try.prog, n := 62, tab := [(50, onesS), (49, spreadS), (52, turnedS), (51, countNS)], mtab := [], refs := [], keeps := [0, 2, 3, 4, 5, 6, 7, 8, 9, 15, 27, 36, 37, 38, 46, 48] }
noncomputable abbrev OB : Code := bodyOf Try.f37
def ofPre (m : Int) : Tree St :=
  (.br (m == 0) (.leaf (.ret, [(0, (.int .u64 m)), (2, (.int .i64 0)), (3, (.int .i64 0)), (4, (.int .i64 0)), (5, (.bool false)), (15, (.bool true))], [])) (.br (m == 18446744073709551615) (.leaf (.ret, [(0, (.int .u64 m)), (2, (.int .i64 0)), (3, (.int .i64 0)), (4, (.int .i64 0)), (5, (.bool false)), (15, (.bool true))], [])) (.leaf (.normal, [(0, (.int .u64 m)), (2, (.int .i64 0)), (3, (.int .i64 0)), (4, (.int .i64 0)), (5, (.bool false)), (6, (.int .i64 2)), (15, (.bool false))], []))))

theorem ofPre_eq (m : Int) : (dcode cx37 (headN 2 OB) (initT 0 [.int .u64 m]) []).run = (ofPre m).run :=
  (show (dcode cx37 (headN 2 OB) (initT 0 [.int .u64 m]) []).run = (ofPre m).out by kernel_rfl).trans (Tree.out_run _)

def ofLoop1 (m e : Int) : Tree St :=
  (.br (decide (e < 64)) (.br (decide (0 ≤ e)) (.br (decide (1 ≤ e)) (.br (decide (e ≤ 64)) (.br (spreadF 7 (IntKind.wrap IntKind.u64 ↑(BitVec.toNat (BitVec.ofInt 64 m &&& BitVec.ofInt 64 (onesF e)))) e != m) (.leaf (.normal, [(0, (.int .u64 m)), (6, (.int .i64 (IntKind.wrap IntKind.i64 (e * 2)))), (27, (.bool true))], [])) (.leaf ((.exit 0), [(0, (.int .u64 m)), (6, (.int .i64 e)), (27, (.bool false))], []))) .fail) .fail) .fail) (.leaf ((.exit 0), [(0, (.int .u64 m)), (6, (.int .i64 e)), (27, (.bool false))], [])))

theorem ofLoop1_eq (m e : Int) : (dcode cx37 (cin (cin (c1 (tailN 2 OB)))) [(0, .int .u64 m), (6, .int .i64 e)] []).run = (ofLoop1 m e).run :=
  (show (dcode cx37 (cin (cin (c1 (tailN 2 OB)))) [(0, .int .u64 m), (6, .int .i64 e)] []).run = (ofLoop1 m e).out by kernel_rfl).trans (Tree.out_run _)

def ofMid (m e : Int) : Tree St :=
  (.br (decide (0 ≤ e)) (.leaf (.normal, [(0, (.int .u64 m)), (6, (.int .i64 e)), (7, (.int .u64 (IntKind.wrap IntKind.u64 ↑(BitVec.toNat (BitVec.ofInt 64 m &&& BitVec.ofInt 64 (onesF e)))))), (8, (.int .i64 (cntF (IntKind.wrap IntKind.u64 ↑(BitVec.toNat (BitVec.ofInt 64 m &&& BitVec.ofInt 64 (onesF e)))))))], [])) .fail)

theorem ofMid_eq (m e : Int) : (dcode cx37 (headN 1 (tailN 3 OB)) [(0, .int .u64 m), (6, .int .i64 e)] []).run = (ofMid m e).run :=
  (show (dcode cx37 (headN 1 (tailN 3 OB)) [(0, .int .u64 m), (6, .int .i64 e)] []).run = (ofMid m e).out by kernel_rfl).trans (Tree.out_run _)

def ofMid2 (x e c : Int) : Tree St :=
  (.leaf (.normal, [(6, (.int .i64 e)), (7, (.int .u64 x)), (8, (.int .i64 c)), (36, (.int .i64 e)), (37, (.int .i64 0))], []))

theorem ofMid2_eq (x e c : Int) : (dcode cx37 (c1 (c1 (tailN 5 OB))) [(6, .int .i64 e), (7, .int .u64 x), (8, .int .i64 c)] []).run = (ofMid2 x e c).run :=
  (show (dcode cx37 (c1 (c1 (tailN 5 OB))) [(6, .int .i64 e), (7, .int .u64 x), (8, .int .i64 c)] []).run = (ofMid2 x e c).out by kernel_rfl).trans (Tree.out_run _)

def ofLoop2 (x e c k r : Int) : Tree St :=
  (.br (decide (r < k)) (.br (decide (0 ≤ c)) (.br (decide (0 ≤ r)) (.br (decide (0 ≤ IntKind.wrap IntKind.i64 (e - r))) (.br (decide (0 ≤ e)) (.br (turnedF (onesF c) e r != x) (.leaf (.normal, [(6, (.int .i64 e)), (7, (.int .u64 x)), (8, (.int .i64 c)), (9, (.int .i64 r)), (36, (.int .i64 k)), (37, (.int .i64 (IntKind.wrap IntKind.i64 (r + 1)))), (38, (.bool true)), (46, (.bool true))], [])) (.br (e == 64) (.leaf (.ret, [(2, (.int .i64 1)), (3, (.int .i64 r)), (4, (.int .i64 (IntKind.wrap IntKind.i64 (c - 1)))), (5, (.bool true)), (6, (.int .i64 e)), (7, (.int .u64 x)), (8, (.int .i64 c)), (9, (.int .i64 r)), (36, (.int .i64 k)), (37, (.int .i64 r)), (38, (.bool true)), (46, (.bool false)), (48, (.bool true))], [])) (.leaf (.ret, [(2, (.int .i64 0)), (3, (.int .i64 r)), (4, (.int .i64 (IntKind.wrap IntKind.i64 (IntKind.wrap IntKind.i64 ↑(BitVec.toNat (BitVec.ofInt 64 (IntKind.wrap IntKind.i64 ↑(BitVec.toNat (BitVec.ofInt 64 (IntKind.wrap IntKind.i64 ↑(BitVec.toNat (BitVec.ofInt 64 (if true = true then -1 else IntKind.max IntKind.i64) ^^^ BitVec.ofInt 64 (IntKind.wrap IntKind.i64 (IntKind.wrap IntKind.i64 (2 * e) - 1))))) &&& BitVec.ofInt 64 63))) ||| BitVec.ofInt 64 c)) - 1)))), (5, (.bool true)), (6, (.int .i64 e)), (7, (.int .u64 x)), (8, (.int .i64 c)), (9, (.int .i64 r)), (36, (.int .i64 k)), (37, (.int .i64 r)), (38, (.bool true)), (46, (.bool false)), (48, (.bool false))], [])))) .fail) .fail) .fail) .fail) (.leaf ((.exit 2), [(6, (.int .i64 e)), (7, (.int .u64 x)), (8, (.int .i64 c)), (36, (.int .i64 k)), (37, (.int .i64 r)), (38, (.bool false))], [])))

theorem ofLoop2_eq (x e c k r : Int) : (dcode cx37 (cin (cin (c2 (c1 (tailN 5 OB))))) [(6, .int .i64 e), (7, .int .u64 x), (8, .int .i64 c), (36, .int .i64 k), (37, .int .i64 r)] []).run = (ofLoop2 x e c k r).run :=
  (show (dcode cx37 (cin (cin (c2 (c1 (tailN 5 OB))))) [(6, .int .i64 e), (7, .int .u64 x), (8, .int .i64 c), (36, .int .i64 k), (37, .int .i64 r)] []).run = (ofLoop2 x e c k r).out by kernel_rfl).trans (Tree.out_run _)

def ofEnd  : Tree St :=
  (.leaf (.ret, [(2, (.int .i64 0)), (3, (.int .i64 0)), (4, (.int .i64 0)), (5, (.bool false))], []))

theorem ofEnd_eq  : (dcode cx37 (tailN 6 OB) [] []).run = (ofEnd ).run :=
  (show (dcode cx37 (tailN 6 OB) [] []).run = (ofEnd ).out by kernel_rfl).trans (Tree.out_run _)


theorem all_t {α : Type} {c : Bool} {x y : Tree α} {Q : α → Prop} (h : c = true) (hx : x.all Q) : (Tree.br c x y).all Q := ⟨fun _ => hx, fun e => Bool.noConfusion (h.symm.trans e)⟩
theorem all_f {α : Type} {c : Bool} {x y : Tree α} {Q : α → Prop} (h : c = false) (hy : y.all Q) : (Tree.br c x y).all Q := ⟨fun e => Bool.noConfusion (h.symm.trans e), fun _ => hy⟩

/-! The result, plainly. -/

def pE (m e : Nat) : Bool := Nat.beq (spreadN 7 (m &&& onesN e) e) m
/-- The least element that a number repeats. -/
def ofE (m : Nat) : Nat := cond (pE m 2) 2 (cond (pE m 4) 4 (cond (pE m 8) 8 (cond (pE m 16) 16 (cond (pE m 32) 32 64))))
def pR (x e c r : Nat) : Bool := Nat.beq (turnedN (onesN c) e r) x
def ofX (m : Nat) : Nat := m &&& onesN (ofE m)
def ofC (m : Nat) : Nat := cntN (ofX m)
def ofFind (m : Nat) : Option Nat := cond (Nat.beq m 0 || Nat.beq m 18446744073709551615) none ((List.range (ofE m)).find? (pR (ofX m) (ofE m) (ofC m)))
def imsI (e c : Nat) : Int := cond (Nat.beq e 64) (IntKind.wrap .i64 ((c : Int) - 1))
  (IntKind.wrap IntKind.i64 (IntKind.wrap IntKind.i64 ↑(BitVec.toNat (BitVec.ofInt 64 (IntKind.wrap IntKind.i64 ↑(BitVec.toNat (BitVec.ofInt 64 (IntKind.wrap IntKind.i64 ↑(BitVec.toNat (BitVec.ofInt 64 (if true = true then -1 else IntKind.max IntKind.i64) ^^^ BitVec.ofInt 64 (IntKind.wrap IntKind.i64 (IntKind.wrap IntKind.i64 (2 * (e : Int)) - 1))))) &&& BitVec.ofInt 64 63))) ||| BitVec.ofInt 64 (c : Int))) - 1))
def ofOk (m : Nat) : Bool := (ofFind m).isSome
def ofVN (m : Nat) : Int := cond (ofOk m) (cond (Nat.beq (ofE m) 64) 1 0) 0
def ofVR (m : Nat) : Int := (((ofFind m).getD 0 : Nat) : Int)
def ofVS (m : Nat) : Int := cond (ofOk m) (imsI (ofE m) (ofC m)) 0
def ofV (m : Nat) : V := .tup [.int .i64 (ofVN m), .int .i64 (ofVR m), .int .i64 (ofVS m), .bool (ofOk m)]

theorem ofV_none {m : Nat} (h : ofFind m = none) : ofV m = .tup [.int .i64 0, .int .i64 0, .int .i64 0, .bool false] := by
  have h1 : ofOk m = false := by unfold ofOk; rw [h]; rfl
  unfold ofV ofVN ofVR ofVS
  rw [h1, h]
  rfl
theorem ofV_some {m r : Nat} (h : ofFind m = some r) : ofV m = .tup [.int .i64 (cond (Nat.beq (ofE m) 64) 1 0), .int .i64 (r : Int), .int .i64 (imsI (ofE m) (ofC m)), .bool true] := by
  have h1 : ofOk m = true := by unfold ofOk; rw [h]; rfl
  unfold ofV ofVN ofVR ofVS
  rw [h1, h]
  rfl

theorem bne_cast (a b : Nat) : ((a : Int) != (b : Int)) = !(Nat.beq a b) := by
  by_cases h : a = b
  · subst h
    simp
  · have : ¬ (a : Int) = (b : Int) := by omega
    have hb : Nat.beq a b = false := by
      cases hb : Nat.beq a b
      · rfl
      · exact absurd (Nat.eq_of_beq_eq_true hb) h
    rw [hb]
    simpa [bne] using this

theorem pE_int {m e : Nat} (hm : m < 2 ^ 64) (he : e ≤ 64) : (spreadF 7 (IntKind.wrap IntKind.u64 ↑(BitVec.toNat (BitVec.ofInt 64 (m : Int) &&& BitVec.ofInt 64 (onesF (e : Int))))) (e : Int) != (m : Int)) = !(pE m e) := by
  have h1 : IntKind.wrap IntKind.u64 ↑(BitVec.toNat (BitVec.ofInt 64 (m : Int) &&& BitVec.ofInt 64 (onesF (e : Int)))) = ((m &&& onesN e : Nat) : Int) := by
    rw [onesF_nat]
    exact and64_cast hm (onesN_lt e)
  rw [h1, spreadF_nat _ _ _ (Nat.and_lt_two_pow _ (onesN_lt e)) (by omega), bne_cast]
  rfl

/-- The element after so many rounds. -/
def ofSt (m : Nat) (j : { j : Nat // j ≤ 5 ∧ ∀ i, i < j → pE m (2 ^ (i + 1)) = false }) : T × List O := ([(0, .int .u64 (m : Int)), (6, .int .i64 ((2 ^ (j.1 + 1) : Nat) : Int))], [])

theorem ofE_at {m j : Nat} (hj : j ≤ 5) (hf : ∀ i, i < j → pE m (2 ^ (i + 1)) = false) (h : j = 5 ∨ pE m (2 ^ (j + 1)) = true) : ofE m = 2 ^ (j + 1) := by
  have f0 := fun h => hf 0 h
  have f1 := fun h => hf 1 h
  have f2 := fun h => hf 2 h
  have f3 := fun h => hf 3 h
  have f4 := fun h => hf 4 h
  unfold ofE
  have hj' : j = 0 ∨ j = 1 ∨ j = 2 ∨ j = 3 ∨ j = 4 ∨ j = 5 := by omega
  rcases hj' with rfl | rfl | rfl | rfl | rfl | rfl
  · have : pE m 2 = true := by simpa using h
    rw [this]; rfl
  · have a0 : pE m 2 = false := f0 (by omega)
    have : pE m 4 = true := by simpa using h
    rw [a0, this]; rfl
  · have a0 : pE m 2 = false := f0 (by omega)
    have a1 : pE m 4 = false := f1 (by omega)
    have : pE m 8 = true := by simpa using h
    rw [a0, a1, this]; rfl
  · have a0 : pE m 2 = false := f0 (by omega)
    have a1 : pE m 4 = false := f1 (by omega)
    have a2 : pE m 8 = false := f2 (by omega)
    have : pE m 16 = true := by simpa using h
    rw [a0, a1, a2, this]; rfl
  · have a0 : pE m 2 = false := f0 (by omega)
    have a1 : pE m 4 = false := f1 (by omega)
    have a2 : pE m 8 = false := f2 (by omega)
    have a3 : pE m 16 = false := f3 (by omega)
    have : pE m 32 = true := by simpa using h
    rw [a0, a1, a2, a3, this]; rfl
  · have a0 : pE m 2 = false := f0 (by omega)
    have a1 : pE m 4 = false := f1 (by omega)
    have a2 : pE m 8 = false := f2 (by omega)
    have a3 : pE m 16 = false := f3 (by omega)
    have a4 : pE m 32 = false := f4 (by omega)
    rw [a0, a1, a2, a3, a4]; rfl

theorem pow_le5 {j : Nat} (hj : j ≤ 5) : 2 ≤ 2 ^ (j + 1) ∧ 2 ^ (j + 1) ≤ 64 ∧ (j < 5 → 2 ^ (j + 1) < 64) ∧ (j = 5 → 2 ^ (j + 1) = 64) := by
  have hj' : j = 0 ∨ j = 1 ∨ j = 2 ∨ j = 3 ∨ j = 4 ∨ j = 5 := by omega
  rcases hj' with rfl | rfl | rfl | rfl | rfl | rfl <;> decide

theorem ofE_ok (m : Nat) : 2 ≤ ofE m ∧ ofE m ≤ 64 := by
  unfold ofE
  cases pE m 2 <;> cases pE m 4 <;> cases pE m 8 <;> cases pE m 16 <;> cases pE m 32 <;> decide

def ofSt2 (m : Nat) (r : { r : Nat // r ≤ ofE m ∧ ∀ i, i < r → pR (ofX m) (ofE m) (ofC m) i = false }) : T × List O :=
  ([(6, .int .i64 (ofE m : Int)), (7, .int .u64 (ofX m : Int)), (8, .int .i64 (ofC m : Int)), (36, .int .i64 (ofE m : Int)), (37, .int .i64 (r.1 : Int))], [])

def ofQ (m : Nat) (e : AEx) (t : T) (H : List O) : Prop := (e = .ret ∨ e = .normal) ∧ answerV Try.prog Try.f37.results.toList H t = some (ofV m)

theorem cxOf_ok : CxOk cx37 := cx1_ok (.cons onesS_ok (.cons spreadS_ok (.cons turnedS_ok (ok1 countNS_ok)))) (.nil _) rfl rfl

theorem ans4 {t : T} {H : List O} {a b c : Int} {d : Bool} (h1 : get 2 t = .int .i64 a) (h2 : get 3 t = .int .i64 b) (h3 : get 4 t = .int .i64 c) (h4 : get 5 t = .bool d) :
    answerV Try.prog Try.f37.results.toList H t = some (.tup [.int .i64 a, .int .i64 b, .int .i64 c, .bool d]) := by
  unfold answerV
  rw [show Try.f37.results.toList = [.tmp 2, .tmp 3, .tmp 4, .tmp 5] from by kernel_rfl]
  simp [resV, h1, h2, h3, h4, V.pures?, V.pure?]

theorem of_loop2 {m : Nat} (_hm : m < 2 ^ 64) (h0 : (Nat.beq m 0 || Nat.beq m 18446744073709551615) = false) :
    AWP Try.prog 62 (tailN 5 OB) (ofQ m) [(6, .int .i64 (ofE m : Int)), (7, .int .u64 (ofX m : Int)), (8, .int .i64 (ofC m : Int))] [] := by
  have e : tailN 5 OB = .seq (.seq (c1 (c1 (tailN 5 OB))) (.block 2 (.loop (cin (cin (c2 (c1 (tailN 5 OB)))))))) (tailN 6 OB) := by kernel_rfl
  rw [e]
  obtain ⟨e1, e2⟩ := ofE_ok m
  have hc : ofC m < 128 := cntN_lt _
  have hx : ofX m < 2 ^ 64 := Nat.and_lt_two_pow _ (onesN_lt _)
  refine AWP_seq (AWP_seq (AWP_run (cx := cx37) rfl rfl cxOf_ok (ofMid2_eq (ofX m) (ofE m) (ofC m)) ?_))
  refine AWP_block ?_
  refine AWP.less (s := (ofSt2 m ⟨0, Nat.zero_le _, fun i h => absurd h (Nat.not_lt_zero i)⟩).1) (Fits.tle ⟨rfl, rfl, rfl, rfl, rfl, trivial⟩) ?_
  refine AWP_rounds (cx := cx37) (P := Try.prog) (n := 62) rfl rfl cxOf_ok (ofSt2 m) (fun r => ofE m - r.1) ?_ ⟨0, Nat.zero_le _, fun i h => absurd h (Nat.not_lt_zero i)⟩
  rintro ⟨r, hr, hnone⟩
  refine Tree.all_run_eq (ofLoop2_eq (ofX m) (ofE m) (ofC m) (ofE m) r) ?_
  refine ⟨fun hlt => all_t (decide_eq_true (by omega)) (all_t (decide_eq_true (by omega)) (all_t (decide_eq_true ?_) (all_t (decide_eq_true (by omega)) ⟨fun hp => ?_, fun hp => ?_⟩))), fun hge => ?_⟩
  · have hlt : (r : Int) < (ofE m : Int) := of_decide_eq_true hlt
    rw [wrap_i64 (by omega) (by omega)]; omega
  · have hlt : (r : Int) < (ofE m : Int) := of_decide_eq_true hlt
    rw [onesF_nat, turnedF_nat (onesN_lt _) (by omega) e2, bne_cast] at hp
    have hp : pR (ofX m) (ofE m) (ofC m) r = false := by simpa [pR] using hp
    refine ⟨[], _, rfl, ⟨r + 1, by omega, fun i hi => ?_⟩, by show ofE m - (r + 1) < ofE m - r; omega, Fits.tle ⟨rfl, rfl, rfl, rfl, ?_, trivial⟩, rfl⟩
    · by_cases h : i < r
      · exact hnone i h
      · have : i = r := by omega
        rw [this]; exact hp
    · show V.int .i64 (IntKind.wrap .i64 ((r : Int) + 1)) = V.int .i64 ((r + 1 : Nat) : Int)
      rw [wrap_i64 (by omega) (by omega)]
      rfl
  · have hlt : (r : Int) < (ofE m : Int) := of_decide_eq_true hlt
    rw [onesF_nat, turnedF_nat (onesN_lt _) (by omega) e2, bne_cast] at hp
    have hp : pR (ofX m) (ofE m) (ofC m) r = true := by simpa [pR] using hp
    have hf : ofFind m = some r := by
      unfold ofFind
      rw [h0, cond_false, List.find?_range_eq_some]
      exact ⟨hp, List.mem_range.2 (by omega), fun j hj => by rw [hnone j hj]; rfl⟩
    refine ⟨fun h64 => ?_, fun h64 => ?_⟩
    · have h64 : ofE m = 64 := by
        have := eq_of_beq h64
        omega
      refine ⟨[], _, rfl, .inl rfl, ?_⟩
      refine (ans4 rfl rfl rfl rfl).trans ?_
      rw [ofV_some hf, show Nat.beq (ofE m) 64 = true from by rw [h64]; rfl]
      unfold imsI
      rw [show Nat.beq (ofE m) 64 = true from by rw [h64]; rfl]
      rfl
    · have h64 : Nat.beq (ofE m) 64 = false := by
        cases hb : Nat.beq (ofE m) 64
        · rfl
        · have := Nat.eq_of_beq_eq_true hb
          rw [this] at h64
          cases h64
      refine ⟨[], _, rfl, .inl rfl, ?_⟩
      refine (ans4 rfl rfl rfl rfl).trans ?_
      rw [ofV_some hf, h64]
      unfold imsI
      rw [h64]
      rfl
  · have hge : ¬ (r : Int) < (ofE m : Int) := of_decide_eq_false hge
    have hre : r = ofE m := by omega
    have hf : ofFind m = none := by
      unfold ofFind
      rw [h0, cond_false, List.find?_range_eq_none]
      intro i hi
      rw [hnone i (by omega)]
      rfl
    refine ⟨[], _, rfl, ?_⟩
    show AWP _ _ _ _ _ _
    refine AWP.less (s := []) (Fits.tle trivial) ?_
    refine AWP_run (cx := cx37) rfl rfl cxOf_ok ofEnd_eq ?_
    refine ⟨.inl rfl, ?_⟩
    refine (ans4 rfl rfl rfl rfl).trans ?_
    rw [ofV_none hf]

theorem of_loop1 {m : Nat} (hm : m < 2 ^ 64) (h0 : (Nat.beq m 0 || Nat.beq m 18446744073709551615) = false) :
    AWP Try.prog 62 (tailN 2 OB) (ofQ m) [(0, .int .u64 (m : Int)), (6, .int .i64 2)] [] := by
  have e : tailN 2 OB = .seq (.block 0 (.loop (cin (cin (c1 (tailN 2 OB)))))) (tailN 3 OB) := by kernel_rfl
  rw [e]
  refine AWP_seq (AWP_block ?_)
  refine AWP.less (s := (ofSt m ⟨0, Nat.zero_le _, fun i h => absurd h (Nat.not_lt_zero i)⟩).1) (Fits.tle ⟨rfl, rfl, trivial⟩) ?_
  have after : ∀ {t : T}, get 0 t = .int .u64 (m : Int) → get 6 t = .int .i64 (ofE m : Int) → AWP Try.prog 62 (tailN 3 OB) (ofQ m) t [] := by
    intro t g1 g2
    refine AWP.less (s := [(0, .int .u64 (m : Int)), (6, .int .i64 (ofE m : Int))]) (Fits.tle ⟨g1, g2, trivial⟩) ?_
    refine AWP_headE (cx := cx37) rfl rfl cxOf_ok 1 (by kernel_rfl) (ofMid_eq m (ofE m)) ?_
    obtain ⟨e1, e2⟩ := ofE_ok m
    refine all_t (decide_eq_true (by omega)) ?_
    show AWP _ _ _ _ _ _
    have hx : IntKind.wrap IntKind.u64 ↑(BitVec.toNat (BitVec.ofInt 64 (m : Int) &&& BitVec.ofInt 64 (onesF (ofE m : Int)))) = (ofX m : Int) := by
      rw [onesF_nat]
      exact and64_cast hm (onesN_lt _)
    rw [hx]
    refine AWP.less (s := [(6, .int .i64 (ofE m : Int)), (7, .int .u64 (ofX m : Int)), (8, .int .i64 (ofC m : Int))]) (Fits.tle ⟨rfl, rfl, ?_, trivial⟩) (of_loop2 hm h0)
    show V.int .i64 (cntF (ofX m : Int)) = _
    exact congrArg (V.int .i64) (cnt_int (x := ofX m) (Nat.and_lt_two_pow _ (onesN_lt _)))
  refine AWP_rounds (cx := cx37) (P := Try.prog) (n := 62) rfl rfl cxOf_ok (ofSt m) (fun j => 5 - j.1) ?_ ⟨0, Nat.zero_le _, fun i h => absurd h (Nat.not_lt_zero i)⟩
  rintro ⟨j, hj, hf⟩
  obtain ⟨p1, p2, p3, p4⟩ := pow_le5 hj
  refine Tree.all_run_eq (ofLoop1_eq m (2 ^ (j + 1) : Nat)) ?_
  refine ⟨fun hlt => all_t (decide_eq_true (by omega)) (all_t (decide_eq_true (by omega)) (all_t (decide_eq_true (by omega)) ⟨fun hp => ?_, fun hp => ?_⟩)), fun hge => ?_⟩
  · have hlt : ((2 ^ (j + 1) : Nat) : Int) < 64 := of_decide_eq_true hlt
    rw [pE_int hm p2] at hp
    have hp : pE m (2 ^ (j + 1)) = false := by simpa using hp
    have hj5 : j < 5 := by
      by_cases h : j = 5
      · have := p4 h; omega
      · omega
    refine ⟨[], _, rfl, ⟨j + 1, by omega, fun i hi => ?_⟩, by show 5 - (j + 1) < 5 - j; omega, Fits.tle ⟨rfl, ?_, trivial⟩, rfl⟩
    · by_cases h : i < j
      · exact hf i h
      · have : i = j := by omega
        rw [this]; exact hp
    · show V.int .i64 (IntKind.wrap .i64 (((2 ^ (j + 1) : Nat) : Int) * 2)) = V.int .i64 ((2 ^ (j + 1 + 1) : Nat) : Int)
      rw [wrap_i64 (by omega) (by omega), Nat.pow_succ 2 (j + 1)]
      refine congrArg (V.int .i64) ?_
      omega
  · rw [pE_int hm p2] at hp
    have hp : pE m (2 ^ (j + 1)) = true := by simpa using hp
    refine ⟨[], _, rfl, ?_⟩
    show AWP _ _ _ _ _ _
    exact after rfl (by rw [ofE_at hj hf (.inr hp)]; rfl)
  · have hge : ¬ ((2 ^ (j + 1) : Nat) : Int) < 64 := of_decide_eq_false hge
    have h5 : j = 5 := by
      by_cases h : j < 5
      · have := p3 h; omega
      · omega
    refine ⟨[], _, rfl, ?_⟩
    show AWP _ _ _ _ _ _
    exact after rfl (by rw [ofE_at hj hf (.inl h5)]; rfl)

theorem of_ok {m : Nat} (hm : m < 2 ^ 64) : PCall Try.prog 37 [.int .u64 (m : Int)] (ofV m) := by
  refine pcall_of' (c := bodyOf Try.f37) (fn := Try.f37) (by kernel_rfl) (by kernel_rfl) (by kernel_rfl) (by kernel_rfl) ?_
  show AWP Try.prog _ OB (ofQ m) _ _
  refine AWP_headE (cx := cx37) rfl rfl cxOf_ok 2 (by kernel_rfl) (ofPre_eq m) ?_
  have none : (Nat.beq m 0 || Nat.beq m 18446744073709551615) = true → ofFind m = .none := by
    intro h
    unfold ofFind
    rw [h]
    rfl
  refine ⟨fun h => ?_, fun h1 => ⟨fun h => ?_, fun h2 => ?_⟩⟩
  · refine ⟨.inl rfl, ?_⟩
    refine (ans4 rfl rfl rfl rfl).trans ?_
    rw [ofV_none (none ?_)]
    have : m = 0 := by have := eq_of_beq h; omega
    rw [this]
    rfl
  · refine ⟨.inl rfl, ?_⟩
    refine (ans4 rfl rfl rfl rfl).trans ?_
    rw [ofV_none (none ?_)]
    have : m = 18446744073709551615 := by have := eq_of_beq h; omega
    rw [this]
    rfl
  · show AWP _ _ _ _ _ _
    refine AWP.less (s := [(0, .int .u64 (m : Int)), (6, .int .i64 2)]) (Fits.tle ⟨rfl, rfl, trivial⟩) (of_loop1 hm ?_)
    have a1 : m ≠ 0 := by intro h; rw [h] at h1; cases h1
    have a2 : m ≠ 18446744073709551615 := by intro h; rw [h] at h2; cases h2
    cases b1 : Nat.beq m 0
    · cases b2 : Nat.beq m 18446744073709551615
      · rfl
      · exact absurd (Nat.eq_of_beq_eq_true b2) a2
    · exact absurd (Nat.eq_of_beq_eq_true b1) a1

def ofS : Ab.Spec := fun args => match args with
  | [.int .u64 m] => .req (decide (0 ≤ m) && decide (m < 18446744073709551616)) (.leaf (.tup [.int .i64 (ofVN m.toNat), .int .i64 (ofVR m.toNat), .int .i64 (ofVS m.toNat), .bool (ofOk m.toNat)]))
  | _ => .fail

theorem ofS_ok : Sound Try.prog 37 ofS := by
  intro args out h
  unfold ofS at h
  split at h
  rotate_left
  · cases h
  rename_i m
  obtain ⟨h1, h⟩ := req_run h
  have h := leaf_out h
  subst h
  simp only [Bool.and_eq_true, decide_eq_true_eq] at h1
  obtain ⟨m, rfl⟩ := Int.eq_ofNat_of_zero_le h1.1
  exact of_ok (by omega)

end Go.Arm
