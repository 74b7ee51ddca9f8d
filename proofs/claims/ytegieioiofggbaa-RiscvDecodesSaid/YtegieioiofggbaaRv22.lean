/-
  The document's numbers out of words, and which row a word has, are the program's. Conditions: none.
-/
import Derived.Test.YtegieioiofggbaaRv21
namespace Go.Rv
open Go Go.Ab

section
variable (w : Int)
theorem iX73 : immX 73 w = signX (bitX w 20 12) 12 := by unfold immX; rw [show ((73 : Int) == 73) = true from rfl, cond_true]
theorem iX104 : immX 104 w = IntKind.wrap .i64 (bitX w 20 6) := by unfold immX; rw [show ((104 : Int) == 73) = false from rfl, cond_false, show ((104 : Int) == 104) = true from rfl, cond_true]
theorem iX119 : immX 119 w = IntKind.wrap .i64 (bitX w 20 5) := by unfold immX; rw [show ((119 : Int) == 73) = false from rfl, cond_false, show ((119 : Int) == 104) = false from rfl, cond_false, show ((119 : Int) == 119) = true from rfl, cond_true]
theorem iX83 : immX 83 w = signX (or32 (shl32 (bitX w 25 7) 5) (bitX w 7 5)) 12 := by unfold immX; rw [show ((83 : Int) == 73) = false from rfl, cond_false, show ((83 : Int) == 104) = false from rfl, cond_false, show ((83 : Int) == 119) = false from rfl, cond_false, show ((83 : Int) == 83) = true from rfl, cond_true]
theorem iX66 : immX 66 w = signX (or32 (or32 (or32 (shl32 (bitX w 31 1) 12) (shl32 (bitX w 7 1) 11)) (shl32 (bitX w 25 6) 5)) (shl32 (bitX w 8 4) 1)) 13 := by unfold immX; rw [show ((66 : Int) == 73) = false from rfl, cond_false, show ((66 : Int) == 104) = false from rfl, cond_false, show ((66 : Int) == 119) = false from rfl, cond_false, show ((66 : Int) == 83) = false from rfl, cond_false, show ((66 : Int) == 66) = true from rfl, cond_true]
theorem iX85 : immX 85 w = signX (bitX w 12 20) 20 := by unfold immX; rw [show ((85 : Int) == 73) = false from rfl, cond_false, show ((85 : Int) == 104) = false from rfl, cond_false, show ((85 : Int) == 119) = false from rfl, cond_false, show ((85 : Int) == 83) = false from rfl, cond_false, show ((85 : Int) == 66) = false from rfl, cond_false, show ((85 : Int) == 85) = true from rfl, cond_true]
theorem iX74 : immX 74 w = signX (or32 (or32 (or32 (shl32 (bitX w 31 1) 20) (shl32 (bitX w 12 8) 12)) (shl32 (bitX w 20 1) 11)) (shl32 (bitX w 21 10) 1)) 21 := by unfold immX; rw [show ((74 : Int) == 73) = false from rfl, cond_false, show ((74 : Int) == 104) = false from rfl, cond_false, show ((74 : Int) == 119) = false from rfl, cond_false, show ((74 : Int) == 83) = false from rfl, cond_false, show ((74 : Int) == 66) = false from rfl, cond_false, show ((74 : Int) == 85) = false from rfl, cond_false, show ((74 : Int) == 74) = true from rfl, cond_true]
theorem iX82 : immX 82 w = 0 := by unfold immX; rw [show ((82 : Int) == 73) = false from rfl, cond_false, show ((82 : Int) == 104) = false from rfl, cond_false, show ((82 : Int) == 119) = false from rfl, cond_false, show ((82 : Int) == 83) = false from rfl, cond_false, show ((82 : Int) == 66) = false from rfl, cond_false, show ((82 : Int) == 85) = false from rfl, cond_false, show ((82 : Int) == 74) = false from rfl, cond_false]
theorem iX120 : immX 120 w = 0 := by unfold immX; rw [show ((120 : Int) == 73) = false from rfl, cond_false, show ((120 : Int) == 104) = false from rfl, cond_false, show ((120 : Int) == 119) = false from rfl, cond_false, show ((120 : Int) == 83) = false from rfl, cond_false, show ((120 : Int) == 66) = false from rfl, cond_false, show ((120 : Int) == 85) = false from rfl, cond_false, show ((120 : Int) == 74) = false from rfl, cond_false]
end

theorem sign12 {m : Nat} (hm : m < 2 ^ 32) : signX (m : Int) 12 = sgn 12 m := by
  have e : bitX (m : Int) 0 12 = ((m % 4096 : Nat) : Int) := by
    have h := bit_part hm (fr := 0) (si := 12) (by omega) (by omega)
    rw [show bitX (m : Int) 0 12 = _ from h, partN_nat m hm]
    congr 1
    omega
  unfold signX
  rw [e, show IntKind.wrap IntKind.i64 (1 * 2 ^ Min.min (Int.toNat (IntKind.wrap IntKind.u64 (12 - 1))) 64) = 2048 from by decide, show IntKind.wrap IntKind.i64 (1 * 2 ^ Min.min (Int.toNat 12) 64) = 4096 from by decide]
  rw [wrap_i64 (n := ((m % 4096 : Nat) : Int)) (by omega) (by omega), wrap_i64 (by omega) (by omega)]
  unfold sgn
  by_cases hc : (2048 : Int) ≤ ((m % 4096 : Nat) : Int)
  · rw [decide_eq_true hc, cond_true]; omega
  · rw [decide_eq_false hc, cond_false]; omega

theorem sign13 {m : Nat} (hm : m < 2 ^ 32) : signX (m : Int) 13 = sgn 13 m := by
  have e : bitX (m : Int) 0 13 = ((m % 8192 : Nat) : Int) := by
    have h := bit_part hm (fr := 0) (si := 13) (by omega) (by omega)
    rw [show bitX (m : Int) 0 13 = _ from h, partN_nat m hm]
    congr 1
    omega
  unfold signX
  rw [e, show IntKind.wrap IntKind.i64 (1 * 2 ^ Min.min (Int.toNat (IntKind.wrap IntKind.u64 (13 - 1))) 64) = 4096 from by decide, show IntKind.wrap IntKind.i64 (1 * 2 ^ Min.min (Int.toNat 13) 64) = 8192 from by decide]
  rw [wrap_i64 (n := ((m % 8192 : Nat) : Int)) (by omega) (by omega), wrap_i64 (by omega) (by omega)]
  unfold sgn
  by_cases hc : (4096 : Int) ≤ ((m % 8192 : Nat) : Int)
  · rw [decide_eq_true hc, cond_true]; omega
  · rw [decide_eq_false hc, cond_false]; omega

theorem sign20 {m : Nat} (hm : m < 2 ^ 32) : signX (m : Int) 20 = sgn 20 m := by
  have e : bitX (m : Int) 0 20 = ((m % 1048576 : Nat) : Int) := by
    have h := bit_part hm (fr := 0) (si := 20) (by omega) (by omega)
    rw [show bitX (m : Int) 0 20 = _ from h, partN_nat m hm]
    congr 1
    omega
  unfold signX
  rw [e, show IntKind.wrap IntKind.i64 (1 * 2 ^ Min.min (Int.toNat (IntKind.wrap IntKind.u64 (20 - 1))) 64) = 524288 from by decide, show IntKind.wrap IntKind.i64 (1 * 2 ^ Min.min (Int.toNat 20) 64) = 1048576 from by decide]
  rw [wrap_i64 (n := ((m % 1048576 : Nat) : Int)) (by omega) (by omega), wrap_i64 (by omega) (by omega)]
  unfold sgn
  by_cases hc : (524288 : Int) ≤ ((m % 1048576 : Nat) : Int)
  · rw [decide_eq_true hc, cond_true]; omega
  · rw [decide_eq_false hc, cond_false]; omega

theorem sign21 {m : Nat} (hm : m < 2 ^ 32) : signX (m : Int) 21 = sgn 21 m := by
  have e : bitX (m : Int) 0 21 = ((m % 2097152 : Nat) : Int) := by
    have h := bit_part hm (fr := 0) (si := 21) (by omega) (by omega)
    rw [show bitX (m : Int) 0 21 = _ from h, partN_nat m hm]
    congr 1
    omega
  unfold signX
  rw [e, show IntKind.wrap IntKind.i64 (1 * 2 ^ Min.min (Int.toNat (IntKind.wrap IntKind.u64 (21 - 1))) 64) = 1048576 from by decide, show IntKind.wrap IntKind.i64 (1 * 2 ^ Min.min (Int.toNat 21) 64) = 2097152 from by decide]
  rw [wrap_i64 (n := ((m % 2097152 : Nat) : Int)) (by omega) (by omega), wrap_i64 (by omega) (by omega)]
  unfold sgn
  by_cases hc : (1048576 : Int) ≤ ((m % 2097152 : Nat) : Int)
  · rw [decide_eq_true hc, cond_true]; omega
  · rw [decide_eq_false hc, cond_false]; omega

theorem numFd_sum (f : Int) (w : Nat) (hf : f = 4 ∨ f = 5 ∨ f = 7) : orF 0 (numFd f w) = sumF (numFd f w) := by
  have s := orF_sum (numFd f w) 0 (by
    rcases hf with h | h | h <;> subst h <;> intro g hg
    · rcases List.mem_cons.1 hg with rfl | hg
      · exact ⟨partN_lt _ _ _, .zero _ _⟩
      rcases List.mem_cons.1 hg with rfl | hg
      · exact ⟨partN_lt _ _ _, .zero _ _⟩
      cases hg
    · rcases List.mem_cons.1 hg with rfl | hg
      · exact ⟨partN_lt _ _ _, .zero _ _⟩
      rcases List.mem_cons.1 hg with rfl | hg
      · exact ⟨partN_lt _ _ _, .zero _ _⟩
      rcases List.mem_cons.1 hg with rfl | hg
      · exact ⟨partN_lt _ _ _, .zero _ _⟩
      rcases List.mem_cons.1 hg with rfl | hg
      · exact ⟨partN_lt _ _ _, .zero _ _⟩
      cases hg
    · rcases List.mem_cons.1 hg with rfl | hg
      · exact ⟨partN_lt _ _ _, .zero _ _⟩
      rcases List.mem_cons.1 hg with rfl | hg
      · exact ⟨partN_lt _ _ _, .zero _ _⟩
      rcases List.mem_cons.1 hg with rfl | hg
      · exact ⟨partN_lt _ _ _, .zero _ _⟩
      rcases List.mem_cons.1 hg with rfl | hg
      · exact ⟨partN_lt _ _ _, .zero _ _⟩
      cases hg) (by rcases hf with h | h | h <;> subst h <;> rfl)
  rw [s, Nat.zero_add]

theorem imm_eq {g : Int} (h : formOk g = true) {w : Nat} (hw : w < 2 ^ 32) : immX g w = numberF (codeF g) w := by
  have bp : ∀ {fr si : Nat}, fr ≤ 32 → si < 32 → bitX (w : Int) fr si = ((partN (w : Int) fr si : Nat) : Int) := fun h1 h2 => bit_part hw h1 h2
  have bs : ∀ {fr si k : Nat}, fr ≤ 32 → si < 32 → si + k ≤ 32 → IsN (shl32 (bitX (w : Int) fr si) k) (partN w fr si <<< k) := fun h1 h2 h3 => IsN.shl (bp h1 h2) (partN_lt _ _ _) h3
  have pn := fun fr bi => partN_nat w (fr := fr) (bi := bi) hw
  rcases form_eq h with h | h | h | h | h | h | h | h | h <;> subst h
  · rw [iX82, show codeF 82 = 0 from rfl, nF0]
  · rw [iX73, show codeF 73 = 1 from rfl, numberF_eq 1 w hw (by omega) (by omega), nG1, show bitX (w : Int) 20 12 = _ from bp (fr := 20) (si := 12) (by omega) (by omega), sign12 (by have := partN_lt w 20 12; omega), pn]
    unfold sgn
    omega
  · rw [iX104, show codeF 104 = 2 from rfl, numberF_eq 2 w hw (by omega) (by omega), nG2, show bitX (w : Int) 20 6 = _ from bp (fr := 20) (si := 6) (by omega) (by omega), wrap_i64 (by omega) (by have := partN_lt w 20 6; omega)]
  · rw [iX119, show codeF 119 = 3 from rfl, numberF_eq 3 w hw (by omega) (by omega), nG3, show bitX (w : Int) 20 5 = _ from bp (fr := 20) (si := 5) (by omega) (by omega), wrap_i64 (by omega) (by have := partN_lt w 20 5; omega)]
  · have k := (bs (fr := 25) (si := 7) (k := 5) (by omega) (by omega) (by omega)).or (show IsN (bitX (w : Int) 7 5) (partN w 7 5) from ⟨bp (fr := 7) (si := 5) (by omega) (by omega), by have := partN_lt w 7 5; omega⟩)
    rw [iX83, show codeF 83 = 4 from rfl, numberF_eq 4 w hw (by omega) (by omega), nG4, show or32 (shl32 (bitX (w : Int) 25 7) 5) (bitX (w : Int) 7 5) = _ from k.1, sign12 k.2]
    congr 2
    rw [← numFd_sum 4 w (by omega), show numFd 4 w = [(partN w 7 5, 0, 5), (partN w 25 7, 5, 7)] from rfl]
    simp only [orF, Nat.zero_or, Nat.shiftLeft_zero]
    exact Nat.or_comm _ _
  · have k := (((bs (fr := 31) (si := 1) (k := 12) (by omega) (by omega) (by omega)).or (bs (fr := 7) (si := 1) (k := 11) (by omega) (by omega) (by omega))).or (bs (fr := 25) (si := 6) (k := 5) (by omega) (by omega) (by omega))).or (bs (fr := 8) (si := 4) (k := 1) (by omega) (by omega) (by omega))
    rw [iX66, show codeF 66 = 5 from rfl, numberF_eq 5 w hw (by omega) (by omega), nG5, show or32 (or32 (or32 (shl32 (bitX (w : Int) 31 1) 12) (shl32 (bitX (w : Int) 7 1) 11)) (shl32 (bitX (w : Int) 25 6) 5)) (shl32 (bitX (w : Int) 8 4) 1) = _ from k.1, sign13 k.2]
    congr 2
    rw [← numFd_sum 5 w (by omega), show numFd 5 w = [(partN w 8 4, 1, 4), (partN w 25 6, 5, 6), (partN w 7 1, 11, 1), (partN w 31 1, 12, 1)] from rfl]
    simp only [orF, Nat.zero_or]
    generalize partN w 31 1 <<< 12 = x1, partN w 7 1 <<< 11 = x2, partN w 25 6 <<< 5 = x3, partN w 8 4 <<< 1 = x4
    ac_rfl
  · rw [iX85, show codeF 85 = 6 from rfl, numberF_eq 6 w hw (by omega) (by omega), nG6, show bitX (w : Int) 12 20 = _ from bp (fr := 12) (si := 20) (by omega) (by omega), sign20 (by have := partN_lt w 12 20; omega), pn]
    unfold sgn
    omega
  · have k := (((bs (fr := 31) (si := 1) (k := 20) (by omega) (by omega) (by omega)).or (bs (fr := 12) (si := 8) (k := 12) (by omega) (by omega) (by omega))).or (bs (fr := 20) (si := 1) (k := 11) (by omega) (by omega) (by omega))).or (bs (fr := 21) (si := 10) (k := 1) (by omega) (by omega) (by omega))
    rw [iX74, show codeF 74 = 7 from rfl, numberF_eq 7 w hw (by omega) (by omega), nG7, show or32 (or32 (or32 (shl32 (bitX (w : Int) 31 1) 20) (shl32 (bitX (w : Int) 12 8) 12)) (shl32 (bitX (w : Int) 20 1) 11)) (shl32 (bitX (w : Int) 21 10) 1) = _ from k.1, sign21 k.2]
    congr 2
    rw [← numFd_sum 7 w (by omega), show numFd 7 w = [(partN w 21 10, 1, 10), (partN w 20 1, 11, 1), (partN w 12 8, 12, 8), (partN w 31 1, 20, 1)] from rfl]
    simp only [orF, Nat.zero_or]
    generalize partN w 31 1 <<< 20 = x1, partN w 12 8 <<< 12 = x2, partN w 20 1 <<< 11 = x3, partN w 21 10 <<< 1 = x4
    ac_rfl
  · rw [iX120, show codeF 120 = 8 from rfl, nF8]

/-! Which row. -/

/-- A row's instruction as the document reads it. -/
def readX (w : Int) (r : RowX) : InsT :=
  (r.2.1, cond (hasX (opsX r.2.1) 65) (IntKind.wrap .i64 (bitX w 7 5)) 0, cond (hasX (opsX r.2.1) 66) (IntKind.wrap .i64 (bitX w 15 5)) 0, cond (hasX (opsX r.2.1) 67) (IntKind.wrap .i64 (bitX w 20 5)) 0, 0, immX r.1 w)
def matchX (w : Int) (r : RowX) : Bool := cond (checkX (readX w r) == 0) (wordX (readX w r) == w) false
def drowX (w : Int) : Option RowX := rowsX.find? (matchX w)

theorem read_eq {r : RowX} (hr : r ∈ rowsX) {w : Nat} (hw : w < 2 ^ 32) : readX w r = readF w (conv r) := by
  have hfine := rowX_fine hr
  simp only [rowXFine, Bool.and_eq_true] at hfine
  have hm : conv r ∈ rowsL := by rw [← rows_conv]; exact List.mem_map_of_mem hr
  obtain ⟨o1, o2⟩ := row_own hm
  have hops : opsX r.2.1 = opsF (codeF r.1) := by
    rw [ops_eq]
    unfold opsOf
    rw [show fok r.2.1 = true from o1, show frow r.2.1 = conv r from o2]
    rfl
  obtain ⟨p1, _, p3, p4, p5, _⟩ := opsG_eq hfine.1
  rw [p1] at p3 p4 p5
  have fl : ∀ {k : Nat}, k ≤ 32 → IntKind.wrap .i64 (bitX (w : Int) k 5) = fld w k := by
    intro k hk
    have hb := bit_part hw (fr := k) (si := 5) hk (by omega)
    rw [show bitX (w : Int) k 5 = _ from hb, fld_eq hw, partN_nat w hw]
    have : w / 2 ^ k % 2 ^ 5 < 32 := Nat.mod_lt _ (by omega)
    rw [wrap_i64 (by omega) (by omega)]
  unfold readX readF rdA rdB rdC conv
  simp only
  rw [hops, p3, p4, p5, imm_eq hfine.1 hw, show IntKind.wrap .i64 (bitX (w : Int) 7 5) = _ from fl (k := 7) (by omega), show IntKind.wrap .i64 (bitX (w : Int) 15 5) = _ from fl (k := 15) (by omega), show IntKind.wrap .i64 (bitX (w : Int) 20 5) = _ from fl (k := 20) (by omega)]

theorem match_eq {r : RowX} (hr : r ∈ rowsX) {w : Nat} (hw : w < 2 ^ 32) : matchX w r = dMatch w (conv r) := by
  have hm : conv r ∈ rowsL := by rw [← rows_conv]; exact List.mem_map_of_mem hr
  obtain ⟨o1, o2⟩ := row_own hm
  obtain ⟨_, _, _, _, f0, f8⟩ := row_off (List.all_eq_true.1 rows_fine _ hm)
  have h1 : (encE (readF w (conv r)) == 0) = true := by
    refine enc_mk o1 ?_
    rw [o2]
    exact faulty_mk (fld_ok hw 7 _) (fld_ok hw 15 _) (fld_ok hw 20 _) (num_rng _ hw f0 f8)
  have h2 : encW (readF w (conv r)) = wordF (conv r).2.1 (conv r).2.2 (rdA (conv r).2.1 w) (rdB (conv r).2.1 w) (rdC (conv r).2.1 w) (numberF (conv r).2.1 w) := by
    show wordF (frow (conv r).1).2.1 (frow (conv r).1).2.2 _ _ _ _ = _
    rw [o2]
    rfl
  unfold matchX
  rw [read_eq hr hw, check_eq, h1, cond_true, word_eq h1, h2]
  unfold dMatch
  cases hc : (wordF (conv r).2.1 (conv r).2.2 (rdA (conv r).2.1 w) (rdB (conv r).2.1 w) (rdC (conv r).2.1 w) (numberF (conv r).2.1 w) == (w : Int))
  · cases (and32 (conv r).2.2 127 != and32 (w : Int) 127) <;> rfl
  · have e := eq_of_beq hc
    have low := code_low (n := numberF (conv r).2.1 w) hm (fld_ok hw 7 (uA (conv r).2.1)) (fld_ok hw 15 (uB (conv r).2.1)) (fld_ok hw 20 (uC (conv r).2.1))
    have e' : wordF (conv r).2.1 (conv r).2.2 (cond (uA (conv r).2.1) (fld w 7) 0) (cond (uB (conv r).2.1) (fld w 15) 0) (cond (uC (conv r).2.1) (fld w 20) 0) (numberF (conv r).2.1 w) = w := e
    rw [e'] at low
    rw [low]
    rfl

theorem find_congr {α : Type} {p q : α → Bool} : ∀ {l : List α}, (∀ x ∈ l, p x = q x) → l.find? p = l.find? q
  | [], _ => rfl
  | a :: l, h => by
    rw [List.find?_cons, List.find?_cons, h a List.mem_cons_self, find_congr (fun x hx => h x (List.mem_cons_of_mem _ hx))]

theorem drow_eq {w : Nat} (hw : w < 2 ^ 32) : drow w = (drowX w).map conv := by
  unfold drow drowX
  rw [← rows_conv, List.find?_map]
  congr 1
  exact find_congr fun r hr => (match_eq hr hw).symm

end Go.Rv
