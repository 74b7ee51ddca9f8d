/-
  The document's checks, words and readings are the program's. Conditions: none.
-/
import Derived.Test.YtmbbnhcbphkniaaGreatDoorRk29
import Derived.Test.YtmbbnhcbphkniaaGreatDoorPk23
import Derived.Test.YtmbbnhcbphkniaaGreatDoorPk20
import Derived.Test.YtmbbnhcbphkniaaGreatDoorPk21
import Derived.Test.YtmbbnhcbphkniaaGreatDoorPk22
set_option linter.unusedVariables false
set_option linter.unusedSimpArgs false
namespace Go.Rk
open Go Go.Ab Go.Proofs Go.Ra Go.Wd

/-! Rows. -/

structure XGood (x : RowX) : Prop where
  mem : conv x ∈ rowsL
  good : Good (conv x)
  kinds : kindX x = 0 ∨ kindX x = 105 ∨ kindX x = 109 ∨ kindX x = 97
  a97 : kindX x = 97 → loX x = -1048576 ∧ hiX x = 1048575 ∧ byX x = 1
  k105 : kindX x = 105 → 0 ≤ atX x ∧ 1 ≤ siX x
  dm : 0 ≤ x.2.2.2.2.2.1 ∧ x.2.2.2.2.2.1 < 2 ^ (sizeD x.2.2.2.2.2.1).toNat
  b26 : hasX x.2.2.1 116 = true → hasX x.2.2.1 67 = false

def xGood (x : RowX) : Bool :=
  (kindX x == 0 || (kindX x == 105 || (kindX x == 109 || (kindX x == 97 && (decide (loX x = -1048576) && (decide (hiX x = 1048575) && decide (byX x = 1))))))) &&
  ((!(kindX x == 105) || (decide (0 ≤ atX x) && decide (1 ≤ siX x))) && ((decide (0 ≤ x.2.2.2.2.2.1) && decide (x.2.2.2.2.2.1 < 2 ^ (sizeD x.2.2.2.2.2.1).toNat)) && (!hasX x.2.2.1 116 || !hasX x.2.2.1 67)))
theorem rows_xgood : rowsX.all xGood = true := by kernel_rfl

theorem row_xgood {x : RowX} (hx : x ∈ rowsX) : XGood x := by
  have hm : conv x ∈ rowsL := by rw [← rows_conv]; exact List.mem_map_of_mem hx
  have h := List.all_eq_true.1 rows_xgood x hx
  simp only [xGood, Bool.and_eq_true, Bool.or_eq_true, beq_iff_eq, decide_eq_true_eq, Bool.not_eq_true', beq_eq_false_iff_ne] at h
  obtain ⟨h1, h2, h3, h4⟩ := h
  refine ⟨hm, row_good hm, ?_, ?_, ?_, h3, ?_⟩
  · rcases h1 with h | h | h | h
    · exact .inl h
    · exact .inr (.inl h)
    · exact .inr (.inr (.inl h))
    · exact .inr (.inr (.inr h.1))
  · intro hk
    rcases h1 with h | h | h | h
    · omega
    · omega
    · omega
    · exact h.2
  · intro hk
    rcases h2 with h | h
    · exact absurd hk h
    · exact h
  · intro ht
    rcases h4 with h | h
    · rw [ht] at h; cases h
    · exact h

theorem hasDX_eq (x : RowX) : hasD x.2.2.1 = hasDX x := by
  unfold hasD hasDX
  cases hasX x.2.2.1 115 <;> cases hasX x.2.2.1 68 <;> rfl

/-! Checks. -/

theorem within_zero (n m : Int) : withinF false n m = smallF zeroN n := by
  unfold withinF smallF zeroN
  rw [show IntKind.wrap IntKind.i64 0 = 0 from rfl]
  by_cases h : n = 0
  · subst h; rfl
  · rw [cond_false, show (n == 0) = false from beq_eq_false_iff_ne.2 h]
    by_cases h0 : 0 ≤ n
    · rw [decide_eq_true h0, cond_true, decide_eq_false (by omega)]
    · rw [decide_eq_false h0, cond_false]
theorem within_reg {k bi by_ m : Int} (hm : 0 ≤ m) (hm' : m < 2147483648) (n : Int) : withinF true n m = smallF (k, bi, 1, by_, 0, m) n := by
  unfold withinF smallF
  show cond true (cond (decide (0 ≤ n)) (decide (n ≤ m)) false) _ = cond (decide (IntKind.wrap IntKind.i64 0 ≤ n)) (decide (n ≤ IntKind.wrap IntKind.i64 m)) false
  rw [show IntKind.wrap IntKind.i64 0 = 0 from rfl, wrap_i64 (n := m) (by omega) (by omega), cond_true]

section
variable {x : RowX} (G : XGood x)
include G

theorem dmax_lt : x.2.2.2.2.2.1 < 2147483648 := by
  have h := G.dm.2
  have : (sizeD x.2.2.2.2.2.1).toNat ≤ 6 := by
    unfold sizeD
    cases decide (x.2.2.2.2.2.1 < 2) <;> cases decide (x.2.2.2.2.2.1 < 4) <;> cases decide (x.2.2.2.2.2.1 < 8) <;> cases decide (x.2.2.2.2.2.1 < 16) <;> cases decide (x.2.2.2.2.2.1 < 32) <;> decide
  have h2 : (2 : Int) ^ (sizeD x.2.2.2.2.2.1).toNat ≤ 2 ^ 6 := by
    have := Nat.pow_le_pow_right (n := 2) (by omega) this
    exact_mod_cast this
  omega
omit G in
theorem wA (n : Int) : withinF (hasX x.2.2.1 65) n 31 = smallF (conv x).2.2.1 n := by
  show _ = smallF (cA x) n
  unfold cA
  cases hasX x.2.2.1 65
  · exact within_zero n 31
  · exact within_reg (by omega) (by omega) n
omit G in
theorem wB (n : Int) : withinF (hasX x.2.2.1 66) n 31 = smallF (conv x).2.2.2.1 n := by
  show _ = smallF (cB x) n
  unfold cB
  cases hasX x.2.2.1 66
  · exact within_zero n 31
  · exact within_reg (by omega) (by omega) n
theorem wC (n : Int) : withinF (hasC x) n (mostC x) = smallF (conv x).2.2.2.2.1 n := by
  show _ = smallF (cC x) n
  unfold cC hasC mostC
  cases h : hasX x.2.2.1 116
  · cases hasX x.2.2.1 67
    · exact within_zero n 31
    · show withinF true n 31 = _
      exact within_reg (by omega) (by omega) n
  · rw [G.b26 h]
    show withinF true n 63 = _
    exact within_reg (by omega) (by omega) n
theorem wD (n : Int) : withinF (hasDX x) n x.2.2.2.2.2.1 = smallF (conv x).2.2.2.2.2.1 n := by
  show _ = smallF (cD x) n
  unfold cD
  rw [hasDX_eq]
  cases hasDX x
  · exact within_zero n _
  · exact within_reg G.dm.1 (dmax_lt G) n

omit G in
/-- The program's field of the number. -/
theorem cI_of : (kindX x = 0 → (conv x).2.2.2.2.2.2.1 = zeroN) ∧ (kindX x = 105 → (conv x).2.2.2.2.2.2.1 = (atX x, siX x, 1, byX x, loX x, hiX x)) ∧ (kindX x = 109 → (conv x).2.2.2.2.2.2.1 = maskNm) ∧ (kindX x = 97 → (conv x).2.2.2.2.2.2.1 = aparN) := by
  have e : (conv x).2.2.2.2.2.2.1 = cond (kindX x == 105) (atX x, siX x, 1, byX x, loX x, hiX x) (cond (kindX x == 109) maskNm (cond (kindX x == 97) aparN zeroN)) := rfl
  rw [e]
  refine ⟨fun h => ?_, fun h => ?_, fun h => ?_, fun h => ?_⟩ <;> rw [h] <;> rfl
theorem plainI (h : kindX x = 105) : Plain (atX x, siX x, 1, byX x, loX x, hiX x) (atX x).toNat (siX x).toNat (byX x) := by
  have hf := G.good.fi
  rw [((cI_of (x := x))).2.1 h] at hf
  rcases num_cases hf with h | h | h | P
  · exact absurd (show (1 : Int) = 0 from congrArg (fun f : NumT => f.2.2.1) h) (by decide)
  · exact absurd (show (1 : Int) = 2 from congrArg (fun f : NumT => f.2.2.1) h) (by decide)
  · exact absurd (show (1 : Int) = 3 from congrArg (fun f : NumT => f.2.2.1) h) (by decide)
  · exact P

theorem tail_eq (n : Int) : tailR x n = cond (((conv x).2.2.2.2.2.2.1.2.2.1 == 0) && n != 0) 13 (numE2 (conv x).2.2.2.2.2.2.1 n) := by
  unfold tailR
  obtain ⟨i0, i1, i2, i3⟩ := (cI_of (x := x))
  rcases G.kinds with h | h | h | h
  · rw [i0 h, h]
    show cond (n != 0) 13 0 = cond (true && n != 0) 13 0
    rw [Bool.true_and]
  · have P := plainI G h
    obtain ⟨w1, w2, w3⟩ := plain_wraps P
    rw [i1 h, h]
    unfold numE2
    rw [w1, w2, w3]
    rfl
  · rw [i2 h, h]
    rfl
  · obtain ⟨g1, g2, g3⟩ := G.a97 h
    rw [i3 h, h, g1, g2, g3]
    rfl

theorem check_row (nm : List UInt8) (a b c d n : Int) : checkR x a b c d n = faultyF (conv x) (nm, a, b, c, d, n) := by
  unfold checkR faultyF
  rw [wA (x := x), wB (x := x), wC G, wD G, tail_eq G]
end

theorem check_eq (i : InsT) : checkX i = encE i := by
  unfold checkX encE
  rw [fok_eq]
  cases h : fokX i.1
  · rfl
  · obtain ⟨h1, h2⟩ := frow_eq h
    rw [cond_true, cond_true, h1]
    exact check_row (row_xgood h2) i.1 _ _ _ _ _

/-! Words. -/

section
variable {x : RowX} (G : XGood x) {nm : List UInt8} {a b c d n : Int} (h : faultyF (conv x) (nm, a, b, c, d, n) = 0)
include G h

end

end Go.Rk

namespace Go.Ra
open Go Go.Ab Go.Proofs

noncomputable def memC : Tabs := { mtab := [(65, thereM), (31, setPM), (32, setRM)] }
theorem memC_ok : memC.Ok Tryz.prog := ⟨.nil _, .cons thereM_ok (.cons setPM_ok (.cons setRM_ok fun p h => by cases h)), .nil _, fun p h => by cases h⟩
noncomputable def memD_ps : List Fi := [⟨64, Tryz.f64, [0, 1, 4, 5, 6], [], 0, []⟩]
theorem memD_ps_ok : FisOk Tryz.prog memD_ps := ⟨⟨by kernel_rfl, by kernel_rfl⟩, trivial⟩
noncomputable def memD_ms : List Fi := [⟨13, Tryz.f13, [0], [], 0, []⟩, ⟨34, Tryz.f34, [0, 2], [], 0, []⟩, ⟨29, Tryz.f29, [0, 1, 2, 3, 8, 9, 10, 11, 12, 13, 14, 15, 22, 37, 52, 54, 78, 87], [], 4, []⟩, ⟨67, Tryz.f67, [0, 1, 4, 5, 30, 41, 53], [], 8, []⟩, ⟨30, Tryz.f30, [0, 1, 2, 3, 8, 9, 10, 11, 12, 13, 14, 15, 16, 33, 44, 53, 61, 76, 84, 88, 95], [103,105,106], 4, [103]⟩]
theorem memD_ms_ok : FisOk Tryz.prog memD_ms := ⟨⟨by kernel_rfl, by kernel_rfl⟩, ⟨by kernel_rfl, by kernel_rfl⟩, ⟨by kernel_rfl, by kernel_rfl⟩, ⟨by kernel_rfl, by kernel_rfl⟩, ⟨by kernel_rfl, by kernel_rfl⟩, trivial⟩
noncomputable def memD (d : Nat) : Tabs := deep Tryz.prog memC memD_ps memD_ms d
theorem memD_ok (d : Nat) : (memD d).Ok Tryz.prog := deep_ok memC_ok memD_ps_ok memD_ms_ok d
noncomputable def cxWd : Cx := { P := Tryz.prog, n := Tryz.f15.ntmps, tab := (memD 4).tab, mtab := (memD 4).mtab, rtab := (memD 4).rtab, refs := [], keeps := [0, 1, 4, 5, 6, 7] }
theorem cxWd_ok : CxOk cxWd := memD_ok 4
noncomputable abbrev Bwd : Code := bodyOf Tryz.f15
def wdPg (r : Int) (l : List Int) : O := .obj (.page 1 .u8 l) [.int .i64 r]
/-- Both memories, as they were made: five pages each. -/
def wdHeap (A B C D E : List Int) : List O := [.obj (.map [1, 2, 16, 17, 32]) [.ptr 3 0, .ptr 4 0, .ptr 11 0, .ptr 12 0, .ptr 19 0], .cells [.bool true, .mp 0] 61, .cells [.ref 22 3 0 5, .int .i64 0] 70,
  wdPg 5 A, wdPg 5 B, newPg A, .cells (wRow 1 5 5) (97 + 4294967296), .dead, newPg B, .cells (wRow 2 5 8) (97 + 4294967296), .dead, wdPg 6 C, wdPg 6 D, newPg C, .cells (wRow 16 6 13) (97 + 4294967296), .dead, newPg D, .cells (wRow 17 6 16) (97 + 4294967296), .dead, wdPg 4 E, newPg E,
  .cells (wRow 32 4 20) (97 + 4294967296), .cells (wRow 1 5 5 ++ (wRow 2 5 8 ++ (wRow 16 6 13 ++ (wRow 17 6 16 ++ wRow 32 4 20)))) 0]
theorem wd_head (c d : V) : (dcode cxWd (headN 7 Bwd) (initT 0 [c, d]) []).run.map (fun s => (s.1, keep [0, 1, 6, 7] s.2.1, s.2.2)) =
    some (.normal, [(0, c), (1, d), (6, .ptr 1 0), (7, .ptr 2 0)], wdHeap zeros zeros zeros zeros zeros) := by kernel_rfl

/-- Both memories; the program's first. -/
def bothO (A B C D E : List Int) : List O := [.cells [.bool true, .mp 1] 61, .obj (.map [1, 2, 16, 17, 32]) [.ptr 2 0, .ptr 3 0, .ptr 4 0, .ptr 5 0, .ptr 6 0], wdPg 5 A, wdPg 5 B, wdPg 6 C, wdPg 6 D, wdPg 4 E,
  .cells [.ref 8 3 0 5, lastV] 70, .cells (wRow 1 5 9 ++ (wRow 2 5 10 ++ (wRow 16 6 11 ++ (wRow 17 6 12 ++ wRow 32 4 13)))) 0, newPg A, newPg B, newPg C, newPg D, newPg E]
def wdKeep : List Nat := [1, 0, 3, 4, 11, 12, 19, 2, 22, 5, 8, 13, 16, 20]
/-- A page's bytes, code and data set. -/
def wdK (k : Int) (l m P : List Int) : List Int := layL k 65536 m m.length (layL k 4096 l l.length P)
def wdL (l m A B C D E : List Int) : List O := bothO (wdK 1 l m A) (wdK 2 l m B) (wdK 16 l m C) (wdK 17 l m D) (wdK 32 l m E)
noncomputable def wdT (c d : V) (A B C D E : List Int) : Option Res := (((dcode cxWd (tailN 7 Bwd) [(0, c), (1, d), (6, .ptr 1 0), (7, .ptr 2 0)] (wdHeap A B C D E)).bind (answerM Tryz.prog Tryz.f15.results.toList)).bind (dropR 0 wdKeep)).fin
/-- Bytes that may be set. -/
def setB (l : List Int) : Bool := decide (l.length ≤ 8192) && l.all byteB
def wdC (L n : Bool) (r : Option Res) : Option Res := cond (true && L) (cond (true && n) (cond (true && (true && (true && L))) (cond (true && n) r none) none) none) none
def wdN (L : Bool) (r : Option Res) : Option Res := cond (true && L) (cond (true && (true && (true && L))) r none) none
def wdS1 (l A B C D E : List Int) : Bool := lens5 (layL 1 4096 l l.length A) (layL 2 4096 l l.length B) (layL 16 4096 l l.length C) (layL 17 4096 l l.length D) (layL 32 4096 l l.length E)
def wdOk (l m A B C D E : List Int) : Option Res := some (.ok (.tup [.ptr 0 0, .ptr 7 0]) (wdL l m A B C D E))
theorem wd_ss (l sp m sq : List Int) (fl fm : Fl) (A B C D E : List Int) : wdT (.sl (.int .u8) l sp fl) (.sl (.int .u8) m sq fm) A B C D E =
    wdC (lens5 A B C D E) (setB l) (wdC (wdS1 l A B C D E) (setB m) (wdOk l m A B C D E)) := by kernel_rfl
theorem wd_ns (m sq : List Int) (fm : Fl) (A B C D E : List Int) : wdT (.val (.slice none 0 0)) (.sl (.int .u8) m sq fm) A B C D E =
    wdN (lens5 A B C D E) (wdC (lens5 A B C D E) (setB m) (wdOk [] m A B C D E)) := by kernel_rfl
theorem wd_sn (l sp : List Int) (fl : Fl) (A B C D E : List Int) : wdT (.sl (.int .u8) l sp fl) (.val (.slice none 0 0)) A B C D E =
    wdC (lens5 A B C D E) (setB l) (wdN (wdS1 l A B C D E) (wdOk l [] A B C D E)) := by kernel_rfl
theorem wd_nn (A B C D E : List Int) : wdT (.val (.slice none 0 0)) (.val (.slice none 0 0)) A B C D E =
    wdN (lens5 A B C D E) (wdN (lens5 A B C D E) (wdOk [] [] A B C D E)) := by kernel_rfl
/-- The bytes that are handed in. -/
def wdArg : V → Option (List Int)
  | .sl (.int .u8) l _ _ => some l
  | .val (.slice none 0 0) => some []
  | _ => none
theorem wdArg_spec {v : V} {l : List Int} (h : wdArg v = some l) : (∃ sp fl, v = .sl (.int .u8) l sp fl) ∨ (v = .val (.slice none 0 0) ∧ l = []) := by
  unfold wdArg at h
  split at h
  · cases h; exact .inl ⟨_, _, rfl⟩
  · cases h; exact .inr ⟨rfl, rfl⟩
  · cases h
theorem zeros_len : zeros.length = 4096 := List.length_replicate
theorem lens_zeros : lens5 zeros zeros zeros zeros zeros = true := by
  have h : pgB zeros = true := by
    unfold pgB
    rw [zeros_len, Bool.and_eq_true_iff]
    refine ⟨rfl, ?_⟩
    unfold zeros
    rw [List.all_replicate]
    rfl
  unfold lens5
  rw [h]
  rfl
theorem wd_run {c d : V} {l m : List Int} (hc : wdArg c = some l) (hd : wdArg d = some m) (h1 : setB l = true) (h2 : setB m = true) {A B C D E : List Int} (hl : lens5 A B C D E = true) :
    wdT c d A B C D E = wdOk l m A B C D E := by
  have hs : wdS1 l A B C D E = true := lens5_layL _ _ (Bool.and_eq_true_iff.1 h1).2 hl _
  rcases wdArg_spec hc with ⟨sp, fl, rfl⟩ | ⟨rfl, rfl⟩ <;> rcases wdArg_spec hd with ⟨sq, fm, rfl⟩ | ⟨rfl, rfl⟩
  · exact (wd_ss l sp m sq fl fm A B C D E).trans (by rw [hl, hs, h1, h2]; rfl)
  · exact (wd_sn l sp fl A B C D E).trans (by rw [hl, hs, h1]; rfl)
  · exact (wd_ns m sq fm A B C D E).trans (by rw [hl, h2]; rfl)
  · rw [wd_nn, hl]; rfl
def worldD : MSpec := fun args H => match args, H with
  | [c, d], [] => match wdArg c, wdArg d with
    | some l, some m => .req (setB l && setB m) (.leaf (.ok (.tup [.ptr 0 0, .ptr 7 0]) (wdL l m zeros zeros zeros zeros zeros)))
    | _, _ => .fail
  | _, _ => .fail
theorem worldD_ok : MSound Tryz.prog 15 worldD := by
  intro args H out h
  unfold worldD at h
  split at h
  rotate_left
  · cases h
  rename_i c d
  split at h
  rotate_left
  · cases h
  rename_i l m hc hd
  obtain ⟨h0, h⟩ := req_run h
  cases h
  obtain ⟨h1, h2⟩ := Bool.and_eq_true_iff.1 h0
  have e := wd_run hc hd h1 h2 lens_zeros
  unfold wdT at e
  rw [Tree.fin_run] at e
  obtain ⟨r0, e1, e2⟩ := bind_run e
  refine mcall_drop (H := []) (r := r0) (κ := wdKeep) ?_ e2
  obtain ⟨s, g1, g2⟩ := bind_run e1
  refine mcall_of' (c := Bwd) (fn := Tryz.f15) (by kernel_rfl) (by kernel_rfl) (by kernel_rfl) (by kernel_rfl) ?_
  refine AWP_headK (cx := cxWd) rfl rfl cxWd_ok 7 [0, 1, 6, 7] (by kernel_rfl) (wd_head c d) ?_
  exact AWP_run (cx := cxWd) rfl rfl cxWd_ok g1 (answerM_post g2)
theorem lens5_wd {l m : List Int} (hl : setB l = true) (hm : setB m = true) {A B C D E : List Int} (h : lens5 A B C D E = true) : lens5 (wdK 1 l m A) (wdK 2 l m B) (wdK 16 l m C) (wdK 17 l m D) (wdK 32 l m E) = true := lens5_layL _ _ (Bool.and_eq_true_iff.1 hm).2 (lens5_layL _ _ (Bool.and_eq_true_iff.1 hl).2 h _) _

end Go.Ra

namespace Go.Ra
open Go Go.Ab Go.Proofs

theorem run_1 (mb : InsR → Bool) : ((rowsR.drop 0).take 6).map (rO mb) = ((rowsR.drop 0).take 6).map (rE mb) := by kernel_rfl

end Go.Ra

namespace Go.Ra
open Go Go.Ab Go.Proofs

theorem run_2 (mb : InsR → Bool) : ((rowsR.drop 6).take 6).map (rO mb) = ((rowsR.drop 6).take 6).map (rE mb) := by kernel_rfl

end Go.Ra

namespace Go.Ra
open Go Go.Ab Go.Proofs

theorem run_3 (mb : InsR → Bool) : ((rowsR.drop 12).take 6).map (rO mb) = ((rowsR.drop 12).take 6).map (rE mb) := by kernel_rfl

end Go.Ra

namespace Go.Ra
open Go Go.Ab Go.Proofs

theorem run_4 (mb : InsR → Bool) : ((rowsR.drop 18).take 6).map (rO mb) = ((rowsR.drop 18).take 6).map (rE mb) := by kernel_rfl

end Go.Ra

namespace Go.Ra
open Go Go.Ab Go.Proofs

theorem run_5 (mb : InsR → Bool) : ((rowsR.drop 24).take 6).map (rO mb) = ((rowsR.drop 24).take 6).map (rE mb) := by kernel_rfl

end Go.Ra

namespace Go.Ra
open Go Go.Ab Go.Proofs

theorem run_6 (mb : InsR → Bool) : ((rowsR.drop 30).take 6).map (rO mb) = ((rowsR.drop 30).take 6).map (rE mb) := by kernel_rfl

end Go.Ra

namespace Go.Ra
open Go Go.Ab Go.Proofs

theorem run_7 (mb : InsR → Bool) : ((rowsR.drop 36).take 6).map (rO mb) = ((rowsR.drop 36).take 6).map (rE mb) := by kernel_rfl

end Go.Ra

namespace Go.Ra
open Go Go.Ab Go.Proofs

theorem run_8 (mb : InsR → Bool) : ((rowsR.drop 42).take 6).map (rO mb) = ((rowsR.drop 42).take 6).map (rE mb) := by kernel_rfl

end Go.Ra

namespace Go.Ra
open Go Go.Ab Go.Proofs

theorem run_9 (mb : InsR → Bool) : ((rowsR.drop 48).take 6).map (rO mb) = ((rowsR.drop 48).take 6).map (rE mb) := by kernel_rfl

end Go.Ra

namespace Go.Ra
open Go Go.Ab Go.Proofs

theorem rows_parts {α : Type} (l : List α) : l.length = 54 → l = (l.drop 0).take 6 ++ ((l.drop 6).take 6 ++ ((l.drop 12).take 6 ++ ((l.drop 18).take 6 ++ ((l.drop 24).take 6 ++ ((l.drop 30).take 6 ++ ((l.drop 36).take 6 ++ ((l.drop 42).take 6 ++ (l.drop 48).take 6))))))) := by
  intro h
  have step : ∀ (k : Nat), l.drop k = (l.drop k).take 6 ++ l.drop (k + 6) := fun k => by
    rw [← List.drop_drop, List.take_append_drop]
  have e0 : l = l.drop 0 := rfl
  have e9 : l.drop 54 = [] := List.drop_eq_nil_of_le (by omega)
  rw [show (l.drop 48).take 6 = l.drop 48 by rw [step 48, e9, List.append_nil, List.take_take, Nat.min_self], ← step 42, ← step 36, ← step 30, ← step 24, ← step 18, ← step 12, ← step 6, ← step 0]
  rfl
theorem run_all (mb : InsR → Bool) : ∀ x ∈ rowsR, rO mb x = rE mb x := by
  have h : rowsR.map (rO mb) = rowsR.map (rE mb) := by
    rw [rows_parts rowsR (by kernel_rfl)]
    simp only [List.map_append, run_1, run_2, run_3, run_4, run_5, run_6, run_7, run_8, run_9]
  exact List.map_inj_left.1 h

end Go.Ra

namespace Go.Ra
open Go Go.Ab Go.Proofs

/-- A register: 31 is 0, and is not set. -/
def xr (s : CpuT) (n : Int) : Int := cond (n == 31) 0 (s.x.getD n.toNat 0)
def putS (a v : Int) (s : CpuT) : CpuT := { s with x := s.x.set a.toNat v }
def setS (a v : Int) (s : CpuT) : CpuT := cond (a == 31) s (putS a v s)
def flagS (z n c v : Bool) (s : CpuT) : CpuT := { s with z := z, n := n, c := c, v := v }
/-- The end: where it goes on must be aligned. -/
def finC (s s' : CpuT) (nx ev : Int) (H : List O) : Option Res := cond (Int.tmod nx 4 != 0) (errK s 10 H) (outK ({ s' with pc := nx } : CpuT).l ev H)

theorem l_eq (s : CpuT) (t : List V) : s.l ++ t = [.int .u64 s.pc] ++ (s.x.map (V.int .u64) ++ ([.bool s.z, .bool s.n, .bool s.c, .bool s.v, .int .u64 s.th] ++ t)) := by
  show (([.int .u64 s.pc] ++ s.x.map (V.int .u64)) ++ [.bool s.z, .bool s.n, .bool s.c, .bool s.v, .int .u64 s.th]) ++ t = _
  simp
section
variable {s : CpuT} (hs : s.x.length = 32)
include hs
theorem setI_cpu {n : Nat} (hn : n < 32) (v : Int) (t : List V) : setI .u64 (1 + n) v 0 (s.l ++ t) = ({ s with x := s.x.set n v } : CpuT).l ++ t := by
  rw [l_eq, l_eq, setI_append, setI_append, setI_out [.int .u64 s.pc] 0 (Or.inr (by simp)), setI_in s.x _ (by simp) (by simp [hs]; omega), setI_out _ _ (Or.inl (by simp [hs]; omega))]
  simp
theorem intAt_cpu {n : Nat} (hn : n < 32) (t : List V) : intAt (s.l ++ t) (1 + n) = s.x.getD n 0 := by
  rw [l_eq, intAt_append (by simp), intAt_front (by simp [hs]; omega), intAt_map]
  simp
theorem isInt_cpu {n : Nat} (hn : n < 32) (t : List V) : isIntAt .u64 (s.l ++ t) (1 + n) = true := by
  rw [l_eq]
  exact isIntAt_row (by simp) (by simp [hs]; omega)
theorem l_len : s.l.length = 38 := by
  have e := l_eq s []
  rw [List.append_nil, List.append_nil] at e
  rw [e]
  simp [hs]
theorem xAt_eq {b : Int} (hb : okReg b = true) (t : List V) : xAt b (s.l ++ t) = s.x.getD b.toNat 0 := by
  obtain ⟨h0, h1⟩ := okReg_in hb
  unfold xAt
  rw [Nat.mul_one]
  exact intAt_cpu hs (by omega) t
theorem inX_eq {b : Int} (hb : okReg b = true) (t : List V) (k : Option Res) : inX b (s.l ++ t) k = k := by
  obtain ⟨h0, h1⟩ := okReg_in hb
  unfold inX q
  rw [inside_of h0 (by omega), Nat.mul_one, isInt_cpu hs (by omega) t]
  rfl
theorem regF_eq {n : Int} (hn : okReg n = true) (t : List V) : regF (s.l ++ t) n = xr s n := by
  obtain ⟨h0, h1⟩ := okReg_in hn
  unfold regF xr
  rw [Nat.mul_one, intAt_cpu hs (by omega) t]
theorem getF_eq {n : Int} (hn : okReg n = true) (sp : List UInt8) (l : Int) : getF (sG s sp) l n = cond (hasL l sp) (s.x.getD n.toNat 0) (xr s n) := by
  obtain ⟨h0, h1⟩ := okReg_in hn
  have e : spOf (sG s sp) = sp := by
    unfold spOf sG
    rw [List.drop_append_of_le_length (by rw [l_len hs]; exact Nat.le_refl _), List.drop_eq_nil_of_le (by rw [l_len hs]; exact Nat.le_refl _)]
    rfl
  unfold getF
  rw [e]
  unfold sG
  rw [regF_eq hs hn, Nat.mul_one, intAt_cpu hs (by omega)]
theorem setL_eq {a : Int} (ha : okReg a = true) (v : Int) : setL a v s.l = (setS a v s).l := by
  obtain ⟨h0, h1⟩ := okReg_in ha
  unfold setL setS oX putS
  cases a == 31
  · rw [cond_false, cond_false]
    have := setI_cpu hs (n := a.toNat) (by omega) v []
    simpa using this
  · rw [cond_true, cond_true, setI_out _ _ (Or.inr (by rw [l_len hs]; omega))]
theorem putX_eq {a : Int} (ha : okReg a = true) (v : Int) : putX a v s.l = (putS a v s).l := by
  obtain ⟨h0, h1⟩ := okReg_in ha
  unfold putX putS
  rw [Nat.mul_one]
  have := setI_cpu hs (n := a.toNat) (by omega) v []
  simpa using this
theorem setLG_eq {r : CpuT} (hr : r.x.length = 32) {a : Int} (ha : okReg a = true) (sp : List UInt8) (l v : Int) : setLG (sG s sp) l a v r.l = (cond (hasL l sp) (putS a v r) (setS a v r)).l := by
  have e : spOf (sG s sp) = sp := by
    unfold spOf sG
    rw [List.drop_append_of_le_length (by rw [l_len hs]; exact Nat.le_refl _), List.drop_eq_nil_of_le (by rw [l_len hs]; exact Nat.le_refl _)]
    rfl
  unfold setLG oG
  rw [e]
  cases hasL l sp
  · exact setL_eq hr ha v
  · exact putX_eq hr ha v
theorem flagL_eq (z n c v : Bool) : flagL z n c v s.l = (flagS z n c v s).l := by
  have key : ∀ (A : List V) (b1 b2 b3 b4 b5 : V), A.length = 33 → flagL z n c v (A ++ [b1, b2, b3, b4, b5]) = A ++ [.bool z, .bool n, .bool c, .bool v, b5] := by
    intro A b1 b2 b3 b4 b5 hA
    unfold flagL
    rw [List.set_append_right _ _ (by omega), List.set_append_right _ _ (by omega), List.set_append_right _ _ (by omega), List.set_append_right _ _ (by omega), hA]
    rfl
  have e := l_eq s []
  rw [List.append_nil, List.append_nil, ← List.append_assoc] at e
  have e2 := l_eq (flagS z n c v s) []
  rw [List.append_nil, List.append_nil, ← List.append_assoc] at e2
  rw [e2, e, key _ _ _ _ _ _ (by simp [hs])]
  rfl
theorem setS_len (a v : Int) : (setS a v s).x.length = 32 := by
  unfold setS putS
  cases a == 31
  · rw [cond_false]
    simp [hs]
  · exact hs
theorem putS_len (a v : Int) : (putS a v s).x.length = 32 := by
  unfold putS
  simp [hs]
theorem flagS_len (z n c v : Bool) : (flagS z n c v s).x.length = 32 := hs
end
theorem nxS_set {a : Int} (ha : okReg a = true) (v nx : Int) : nxS (oX a) v nx = nx := by
  obtain ⟨h0, h1⟩ := okReg_in ha
  unfold nxS oX
  have : Nat.beq 45 (cond (a == 31) 1000 (1 + a.toNat)) = false := by
    cases h : Nat.beq 45 (cond (a == 31) 1000 (1 + a.toNat))
    · rfl
    · have g := Nat.eq_of_beq_eq_true h
      revert g
      cases a == 31
      · rw [cond_false]; omega
      · rw [cond_true]; omega
  rw [this]
  rfl
theorem nxS_put {a : Int} (ha : okReg a = true) (v nx : Int) : nxS (1 + a.toNat * 1) v nx = nx := by
  obtain ⟨h0, h1⟩ := okReg_in ha
  unfold nxS
  have : Nat.beq 45 (1 + a.toNat * 1) = false := by
    cases h : Nat.beq 45 (1 + a.toNat * 1)
    · rfl
    · have := Nat.eq_of_beq_eq_true h
      omega
  rw [this]
  rfl
theorem finK_eq (s s' : CpuT) (nx : Int) (H : List O) : finK s s'.l nx H = finC s s' nx 0 H := rfl
theorem finG_eq (s s' : CpuT) (nx ev : Int) (H : List O) : finG s s'.l nx ev H = finC s s' nx ev H := rfl
theorem and31_ok (c : Int) : okReg (and31 c) = true := by
  have e : and31 c = ((BitVec.ofInt 64 c &&& BitVec.ofInt 64 31).toNat : Int) := by
    unfold and31
    have h : (BitVec.ofInt 64 c &&& BitVec.ofInt 64 31).toNat ≤ 31 := by
      rw [BitVec.toNat_and]
      exact Nat.le_trans Nat.and_le_right (by decide)
    exact wrap_i64 (by omega) (by omega)
  have h : (BitVec.ofInt 64 c &&& BitVec.ofInt 64 31).toNat ≤ 31 := by
    rw [BitVec.toNat_and]
    exact Nat.le_trans Nat.and_le_right (by decide)
  rw [e]
  simp only [okReg, Bool.and_eq_true, decide_eq_true_eq]
  omega
theorem and31_eq {c : Int} (hc : okReg c = true) : and31 c = c := by
  obtain ⟨h0, h1⟩ := okReg_in hc
  have hd : c = 0 ∨ c = 1 ∨ c = 2 ∨ c = 3 ∨ c = 4 ∨ c = 5 ∨ c = 6 ∨ c = 7 ∨ c = 8 ∨ c = 9 ∨ c = 10 ∨ c = 11 ∨ c = 12 ∨ c = 13 ∨ c = 14 ∨ c = 15 ∨ c = 16 ∨ c = 17 ∨ c = 18 ∨ c = 19 ∨ c = 20 ∨ c = 21 ∨ c = 22 ∨ c = 23 ∨ c = 24 ∨ c = 25 ∨ c = 26 ∨ c = 27 ∨ c = 28 ∨ c = 29 ∨ c = 30 ∨ c = 31 := by omega
  rcases hd with rfl | rfl | rfl | rfl | rfl | rfl | rfl | rfl | rfl | rfl | rfl | rfl | rfl | rfl | rfl | rfl | rfl | rfl | rfl | rfl | rfl | rfl | rfl | rfl | rfl | rfl | rfl | rfl | rfl | rfl | rfl | rfl <;> rfl

end Go.Ra

namespace Go.Ra
open Go Go.Ab Go.Proofs

theorem rng_spec {x : Int} (h : rng64 x = true) : 0 ≤ x ∧ x < 18446744073709551616 := by
  simpa only [rng64, Bool.and_eq_true, decide_eq_true_eq] using h
theorem rng_wu (x : Int) : rng64 (wu x) = true := by
  have e : wu x = x % 18446744073709551616 := rfl
  simp only [rng64, Bool.and_eq_true, decide_eq_true_eq, e]
  omega
theorem wu_rng {x : Int} (h : rng64 x = true) : wu x = x := by
  obtain ⟨h0, h1⟩ := rng_spec h
  exact wu_eq h0 h1
theorem wi_def (y : Int) : wi y = if 9223372036854775808 ≤ y % 18446744073709551616 then y % 18446744073709551616 - 18446744073709551616 else y % 18446744073709551616 := by
  unfold wi IntKind.wrap
  simp [IntKind.bits, IntKind.signed]
/-- The highest bit. -/
def top (x : Int) : Bool := decide (9223372036854775808 ≤ x)
theorem negB_eq {x : Int} (h : rng64 x = true) : negB x = top x := by
  obtain ⟨h0, h1⟩ := rng_spec h
  unfold negB top
  rw [wi_def, Int.emod_eq_of_lt h0 h1]
  by_cases h : 9223372036854775808 ≤ x
  · rw [if_pos h, decide_eq_true h, decide_eq_true (by omega)]
  · rw [if_neg h, decide_eq_false h, decide_eq_false (by omega)]
theorem shr63_eq {x : Int} (h : rng64 x = true) : shr63 x = cond (top x) 1 0 := by
  obtain ⟨h0, h1⟩ := rng_spec h
  unfold shr63 top
  rw [Int.fdiv_eq_ediv_of_nonneg _ (by decide)]
  show x / 9223372036854775808 = _
  by_cases h : 9223372036854775808 ≤ x
  · rw [decide_eq_true h, cond_true]; omega
  · rw [decide_eq_false h, cond_false]; omega
theorem shr63_top {x : Int} (h : rng64 x = true) : (shr63 x == 1) = top x := by
  rw [shr63_eq h]
  cases top x <;> rfl
theorem top_nat (X : BitVec 64) : top ((X.toNat : Nat) : Int) = X.msb := by
  unfold top
  rw [BitVec.msb_eq_decide]
  by_cases h : 2 ^ (64 - 1) ≤ X.toNat
  · rw [decide_eq_true h, decide_eq_true (by omega)]
  · rw [decide_eq_false h, decide_eq_false (by omega)]
theorem ofInt_nat {x : Int} (h : rng64 x = true) : (((BitVec.ofInt 64 x).toNat : Nat) : Int) = x := by
  obtain ⟨h0, h1⟩ := rng_spec h
  rw [BitVec.toNat_ofInt]
  omega
theorem nat_rng (X : BitVec 64) : rng64 ((X.toNat : Nat) : Int) = true := by
  have := X.isLt
  simp only [rng64, Bool.and_eq_true, decide_eq_true_eq]
  omega
theorem top_ofInt {x : Int} (h : rng64 x = true) : (BitVec.ofInt 64 x).msb = top x := by
  rw [← top_nat, ofInt_nat h]
theorem andU_eq (a b : Int) : andU a b = (((BitVec.ofInt 64 a &&& BitVec.ofInt 64 b).toNat : Nat) : Int) := wu_rng (nat_rng _)
theorem xorU_eq (a b : Int) : xorU a b = (((BitVec.ofInt 64 a ^^^ BitVec.ofInt 64 b).toNat : Nat) : Int) := wu_rng (nat_rng _)
theorem andU_rng (a b : Int) : rng64 (andU a b) = true := by rw [andU_eq]; exact nat_rng _
theorem xorU_rng (a b : Int) : rng64 (xorU a b) = true := by rw [xorU_eq]; exact nat_rng _
theorem top_and {a b : Int} (ha : rng64 a = true) (hb : rng64 b = true) : top (andU a b) = (top a && top b) := by
  rw [andU_eq, top_nat, BitVec.msb_and, top_ofInt ha, top_ofInt hb]
theorem top_xor {a b : Int} (ha : rng64 a = true) (hb : rng64 b = true) : top (xorU a b) = (top a ^^ top b) := by
  rw [xorU_eq, top_nat, BitVec.msb_xor, top_ofInt ha, top_ofInt hb]

theorem addV_eq (x y : Int) : addV x y = wu (x + y) := by
  unfold addV
  rw [Int.add_zero]
  rfl
theorem subVl_eq (x y : Int) : subVl x y = wu (x - y) := by
  unfold subVl
  rw [Int.sub_zero]
  rfl
theorem logFl_eq {x : Int} (hx : rng64 x = true) (L : List V) : logFl x L = nzL x false false L := by
  unfold logFl nzL
  rw [negB_eq hx, shr63_top hx]
theorem addFl_eq {x y : Int} (hx : rng64 x = true) (hy : rng64 y = true) (L : List V) :
    addFl x y L = nzL (wu (x + y)) (decide (wu (x + y) < x)) (cond (shr63 x == shr63 y) (shr63 (wu (x + y)) != shr63 x) false) L := by
  have hs := rng_wu (x + y)
  unfold addFl nzL
  rw [addV_eq, negB_eq hs, shr63_top hs, negB_eq (andU_rng _ _), top_and (xorU_rng _ _) (xorU_rng _ _), top_xor hx hs, top_xor hy hs, shr63_eq hx, shr63_eq hy, shr63_eq hs]
  have ec : ((x + y + 0) / 18446744073709551616 != 0) = decide (wu (x + y) < x) := by
    obtain ⟨x0, x1⟩ := rng_spec hx
    obtain ⟨y0, y1⟩ := rng_spec hy
    have e : wu (x + y) = (x + y) % 18446744073709551616 := rfl
    rw [e, Int.add_zero]
    by_cases h : x + y < 18446744073709551616
    · have : (x + y) / 18446744073709551616 = 0 := by omega
      rw [this, decide_eq_false (by omega)]
      rfl
    · have : (x + y) / 18446744073709551616 = 1 := by omega
      rw [this, decide_eq_true (by omega)]
      rfl
  rw [ec]
  congr 1
  cases top x <;> cases top y <;> cases top (wu (x + y)) <;> rfl
theorem subFl_eq {x y : Int} (hx : rng64 x = true) (hy : rng64 y = true) (L : List V) :
    subFl x y L = nzL (wu (x - y)) (decide (y ≤ x)) (cond (shr63 x != shr63 y) (shr63 (wu (x - y)) != shr63 x) false) L := by
  have hs := rng_wu (x - y)
  unfold subFl nzL
  rw [subVl_eq, negB_eq hs, shr63_top hs, negB_eq (andU_rng _ _), top_and (xorU_rng _ _) (xorU_rng _ _), top_xor hx hs, top_xor hx hy, shr63_eq hx, shr63_eq hy, shr63_eq hs]
  have ec : ((cond (decide (x < y + 0)) (1 : Int) 0) == 0) = decide (y ≤ x) := by
    rw [Int.add_zero]
    by_cases h : y ≤ x
    · rw [decide_eq_true h, decide_eq_false (by omega)]
      rfl
    · rw [decide_eq_false h, decide_eq_true (by omega)]
      rfl
  rw [ec]
  congr 1
  cases top x <;> cases top y <;> cases top (wu (x - y)) <;> rfl
theorem addQ_eq {x y : Int} (hx : rng64 x = true) (hy : rng64 y = true) : addQ x y = true := by
  obtain ⟨x0, x1⟩ := rng_spec hx
  obtain ⟨y0, y1⟩ := rng_spec hy
  unfold addQ
  rw [decide_eq_true x0, decide_eq_true y0]
  rfl
theorem subQ_eq {x y : Int} (hx : rng64 x = true) (hy : rng64 y = true) : subQ x y = true := by
  obtain ⟨x0, x1⟩ := rng_spec hx
  obtain ⟨y0, y1⟩ := rng_spec hy
  unfold subQ
  rw [decide_eq_true x0, decide_eq_true y0, decide_eq_true x1, decide_eq_true y1]
  rfl
theorem c16_eq {d : Int} (h0 : 0 ≤ d) (h1 : d ≤ 63) : c16 d = 16 * d ∧ wu (c16 d) = 16 * d ∧ decide (0 ≤ c16 d) = true ∧ decide (0 ≤ wu (c16 d)) = true := by
  have e : c16 d = 16 * d := wi_eq (by omega) (by omega)
  have e2 : wu (16 * d) = 16 * d := wu_eq (by omega) (by omega)
  rw [e, e2]
  exact ⟨rfl, rfl, decide_eq_true (by omega), decide_eq_true (by omega)⟩
theorem c12_eq {d : Int} (h0 : 0 ≤ d) (h1 : d ≤ 63) : c12 d = 12 * d ∧ wu (c12 d) = 12 * d ∧ decide (0 ≤ c12 d) = true := by
  have e : c12 d = 12 * d := wi_eq (by omega) (by omega)
  have e2 : wu (12 * d) = 12 * d := wu_eq (by omega) (by omega)
  rw [e, e2]
  exact ⟨rfl, rfl, decide_eq_true (by omega)⟩
theorem divu_dv {x y : Int} : dvF x y false = divuF x y := rfl
theorem div_dv {x y : Int} (hx : rng64 x = true) (hy : rng64 y = true) : dvF x y true = divF (wi x) (wi y) := by
  obtain ⟨x0, x1⟩ := rng_spec hx
  unfold dvF divF
  by_cases h0 : y = 0
  · subst h0
    rfl
  · have e : (y == 0) = false := by simpa using h0
    have e2 : (wi y == 0) = false := by simpa using wi_zero hy h0
    rw [e, e2, Bool.not_true, cond_false, cond_false, cond_false]
    cases hm : wi y == -1
    · rfl
    · rw [cond_true, cond_true]
      have a1 : wu (wi (0 - wi x)) = (wi (0 - wi x)) % 18446744073709551616 := rfl
      have a2 : wu (0 - x) = (0 - x) % 18446744073709551616 := rfl
      rw [a1, a2, wi_def (0 - wi x), wi_def x]
      split <;> split <;> omega
theorem sub_neg (r p : Int) : wu (r + wu (0 - wu p)) = wu (r - wu p) := by
  have a : ∀ y, wu y = y % 18446744073709551616 := fun _ => rfl
  simp only [a]
  omega
theorem ldrsw_eq (x : Int) : ldrswG x = ldrswF x := by
  unfold ldrswG ldrswF
  have e : IntKind.wrap .i32 (IntKind.wrap .u32 x) = IntKind.wrap .i32 x := by
    have a : IntKind.wrap .u32 x = x % 4294967296 := rfl
    rw [a]
    unfold IntKind.wrap
    simp [IntKind.bits, IntKind.signed]
  rw [e]

end Go.Ra

namespace Go.Ra
open Go Go.Ab Go.Proofs

/-- A state whose numbers are of 64 bits. -/
structure Fine (s : CpuT) : Prop where
  len : s.x.length = 32
  rng : ∀ i, rng64 (s.x.getD i 0) = true
  pc : rng64 s.pc = true
/-- An answer over each of the two memories. -/
def Both (s : CpuT) (r g : Option Res) : Prop := ∃ (s' : CpuT) (ev err : Int) (A B C D E : List Int), Fine s' ∧ lens5 A B C D E = true ∧ (err ≠ 0 → s' = s ∧ ev = 0) ∧
  r = some (.ok (.tup [.agg s'.l, .int .i64 ev, .int .i64 err]) (memO A B C D E)) ∧ g = some (.ok (.tup [.agg s'.l, .int .i64 ev, .int .i64 err]) (refO A B C D E))
theorem fine_xr {s : CpuT} (h : Fine s) (n : Int) : rng64 (xr s n) = true := by
  unfold xr
  cases n == 31
  · exact h.rng _
  · rfl
theorem getD_setI {l : List Int} {i j : Nat} {v : Int} : rng64 v = true → rng64 (l.getD j 0) = true → rng64 ((l.set i v).getD j 0) = true := by
  intro hv hl
  rw [List.getD_eq_getElem?_getD, List.getElem?_set]
  split
  · split
    · exact hv
    · rfl
  · rw [← List.getD_eq_getElem?_getD]
    exact hl
theorem fine_put {s : CpuT} (h : Fine s) (a : Int) {v : Int} (hv : rng64 v = true) : Fine (putS a v s) :=
  ⟨putS_len h.len a v, fun i => getD_setI hv (h.rng i), h.pc⟩
theorem fine_set {s : CpuT} (h : Fine s) (a : Int) {v : Int} (hv : rng64 v = true) : Fine (setS a v s) := by
  unfold setS
  cases a == 31
  · exact fine_put h a hv
  · exact h
theorem fine_flag {s : CpuT} (h : Fine s) (z n c v : Bool) : Fine (flagS z n c v s) := ⟨h.len, h.rng, h.pc⟩
theorem both_err {s : CpuT} (h : Fine s) (e : Int) {A B C D E : List Int} (hl : lens5 A B C D E = true) : Both s (errK s e (memO A B C D E)) (errK s e (refO A B C D E)) :=
  ⟨s, 0, e, A, B, C, D, E, h, hl, fun _ => ⟨rfl, rfl⟩, rfl, rfl⟩
theorem both_fin {s s' : CpuT} (h : Fine s) (h' : Fine s') {nx : Int} (hn : rng64 nx = true) (ev : Int) {A B C D E : List Int} (hl : lens5 A B C D E = true) :
    Both s (finC s s' nx ev (memO A B C D E)) (finC s s' nx ev (refO A B C D E)) := by
  unfold finC
  cases (Int.tmod nx 4 != 0)
  · exact ⟨{ s' with pc := nx }, ev, 0, A, B, C, D, E, ⟨h'.len, h'.rng, hn⟩, hl, fun h => absurd rfl h, rfl, rfl⟩
  · exact both_err h 10 hl

/-- What is known of an instruction that may be, and of both memories. -/
structure Hy (s : CpuT) (a b c d : Int) (A B C D E : List Int) : Prop where
  s : Fine s
  a : okReg a = true
  b : okReg b = true
  c0 : 0 ≤ c
  c1 : c ≤ 63
  d0 : 0 ≤ d
  d1 : d ≤ 63
  l : lens5 A B C D E = true
/-- A row of the program's and one of the document's. -/
def Alike (r g : RunTy) (P : Int → Int → Prop) : Prop := ∀ s a b c d m A B C D E, Hy s a b c d A B C D E → P c d → Both s (r s a b c d m 4 A B C D E) (g s a b c d m 4 A B C D E)
def Any (_ _ : Int) : Prop := True

section
variable {s r : CpuT} {H : List O} {nx : Int}
theorem setK_R {a : Int} (ha : okReg a = true) (hr : r.x.length = 32) (v : Int) : setK a v r.l (fun L g => finK s L (g nx) H) = finC s (setS a v r) nx 0 H := by
  unfold setK q
  rw [ha, cond_true]
  show finK s (setL a v r.l) (nxS (oX a) v nx) H = _
  rw [setL_eq hr ha, nxS_set ha, finK_eq]
theorem putK_R {a : Int} (hs : s.x.length = 32) (ha : okReg a = true) (hr : r.x.length = 32) (v : Int) (t : List V) : putK a v (s.l ++ t) r.l (fun L g => finK s L (g nx) H) = finC s (putS a v r) nx 0 H := by
  unfold putK
  rw [inX_eq hs ha]
  show finK s (putX a v r.l) (nxS (1 + a.toNat * 1) v nx) H = _
  rw [putX_eq hr ha, nxS_put ha, finK_eq]
theorem setKG_R {a : Int} (hs : s.x.length = 32) (ha : okReg a = true) (hr : r.x.length = 32) (sp : List UInt8) (v : Int) : setKG a v (sG s sp) r.l (fun L => finG s L nx 0 H) = finC s (cond (hasL 65 sp) (putS a v r) (setS a v r)) nx 0 H := by
  unfold setKG q
  rw [ha, cond_true]
  show finG s (setLG (sG s sp) 65 a v r.l) nx 0 H = _
  rw [setLG_eq hs hr ha, finG_eq]
theorem q_true (k : Option Res) : q true k = k := rfl
end
theorem nx_rng (s : CpuT) (sz : Int) : rng64 (nxF s sz) = true := rng_wu _
theorem mvdG_R (nm : List UInt8) (f : MovTy) {s : CpuT} {a b c d : Int} {A B C D E : List Int} (h : Hy s a b c d A B C D E) (m : Int) :
    mvdG nm f s a b c d m 4 A B C D E = f s a c d (wu m) (xr s b) (xr s (and31 c)) s.l (sG s []) fun L => finG s L (nxF s 4) 0 (refO A B C D E) := by
  unfold mvdG q
  rw [h.b, and31_ok, cond_true, cond_true, cond_true, getF_eq h.s.len h.b, getF_eq h.s.len (and31_ok c)]
  rfl
theorem immR_R (nm : List UInt8) (f : ImmTy) (s : CpuT) (a b c d m : Int) (A B C D E : List Int) :
    ∃ t, immR nm f s a b c d m 4 A B C D E = f s a b d (wu m) s.l (s.l ++ t) fun L g => finK s L (g (nxF s 4)) (memO A B C D E) := ⟨_, rfl⟩
theorem regRr_R (nm : List UInt8) (f : RegTy) {s : CpuT} {a b c d : Int} {A B C D E : List Int} (h : Hy s a b c d A B C D E) (m : Int) :
    ∃ t, regRr nm f s a b c d m 4 A B C D E = f s a c d (xr s b) (xr s (and31 c)) (shlF (xr s (and31 c)) d) s.l (s.l ++ t) fun L g => finK s L (g (nxF s 4)) (memO A B C D E) := by
  refine ⟨(.ptr 1 0 :: [.str nm, .int .i64 a, .int .i64 b, .int .i64 c, .int .i64 d, .int .i64 m, .int .u64 (nxF s 4)]), ?_⟩
  unfold regRr preK q stC
  rw [h.b, and31_ok, decide_eq_true h.d0, cond_true, cond_true, cond_true, regF_eq h.s.len h.b, regF_eq h.s.len (and31_ok c)]

/-! Moves. -/

theorem al_movz (n1 n2 : List UInt8) : Alike (immR n1 movzI) (mvdG n2 movzG) Any := by
  intro s a b c d m A B C D E h _
  obtain ⟨t, e⟩ := immR_R n1 movzI s a b c d m A B C D E
  obtain ⟨c1, c2, c3, c4⟩ := c16_eq h.d0 h.d1
  rw [e, mvdG_R n2 movzG h]
  unfold movzI movzG
  rw [c3, c4, q_true, q_true]
  rw [setK_R h.a h.s.len, setKG_R h.s.len h.a h.s.len, c2, c1]
  exact both_fin h.s (fine_set h.s _ (rng_wu _)) (nx_rng _ _) 0 h.l
theorem al_movn (n1 n2 : List UInt8) : Alike (immR n1 movnI) (mvdG n2 movnG) Any := by
  intro s a b c d m A B C D E h _
  obtain ⟨t, e⟩ := immR_R n1 movnI s a b c d m A B C D E
  obtain ⟨c1, c2, c3, c4⟩ := c16_eq h.d0 h.d1
  rw [e, mvdG_R n2 movnG h]
  unfold movnI movnG
  rw [c3, c4, q_true, q_true]
  rw [setK_R h.a h.s.len, setKG_R h.s.len h.a h.s.len, c2, c1]
  exact both_fin h.s (fine_set h.s _ (rng_wu _)) (nx_rng _ _) 0 h.l
theorem al_movk (n1 n2 : List UInt8) : Alike (immR n1 movkI) (mvdG n2 movkG) Any := by
  intro s a b c d m A B C D E h _
  obtain ⟨t, e⟩ := immR_R n1 movkI s a b c d m A B C D E
  obtain ⟨c1, c2, c3, c4⟩ := c16_eq h.d0 h.d1
  rw [e, mvdG_R n2 movkG h]
  unfold movkI movkG
  rw [c3, c4, h.a, regF_eq h.s.len h.a, getF_eq h.s.len h.a]
  simp only [q_true]
  rw [setK_R h.a h.s.len, setKG_R h.s.len h.a h.s.len, c2, c1]
  exact both_fin h.s (fine_set h.s _ (rng_wu _)) (nx_rng _ _) 0 h.l
theorem al_adr (n1 n2 : List UInt8) : Alike (immR n1 adrI) (mvdG n2 adrG) Any := by
  intro s a b c d m A B C D E h _
  obtain ⟨t, e⟩ := immR_R n1 adrI s a b c d m A B C D E
  rw [e, mvdG_R n2 adrG h]
  unfold adrI adrG
  rw [setK_R h.a h.s.len, setKG_R h.s.len h.a h.s.len]
  exact both_fin h.s (fine_set h.s _ (rng_wu _)) (nx_rng _ _) 0 h.l
theorem al_adrp (n1 n2 : List UInt8) : Alike (immR n1 adrpI) (mvdG n2 adrpG) Any := by
  intro s a b c d m A B C D E h _
  obtain ⟨t, e⟩ := immR_R n1 adrpI s a b c d m A B C D E
  rw [e, mvdG_R n2 adrpG h]
  unfold adrpI adrpG
  rw [setK_R h.a h.s.len, setKG_R h.s.len h.a h.s.len]
  exact both_fin h.s (fine_set h.s _ (rng_wu _)) (nx_rng _ _) 0 h.l

end Go.Ra

namespace Go.Ra
open Go Go.Ab Go.Proofs

/-- The product is told rightly. -/
def WdOk (wd : Int → Int → Int × Int) : Prop := ∀ x y, rng64 x = true → rng64 y = true → (wd x y).2 = wu (x * y)
def DReg (_ d : Int) : Prop := d ≤ 31
theorem okReg_of {d : Int} (h0 : 0 ≤ d) (h1 : d ≤ 31) : okReg d = true := by
  simp only [okReg, Bool.and_eq_true, decide_eq_true_eq]
  exact ⟨h0, h1⟩
theorem al_madd (n1 n2 : List UInt8) (wd : Int → Int → Int × Int) (hw : WdOk wd) : Alike (regRr n1 maddR) (mvdG n2 (maddG wd fun x => x)) DReg := by
  intro s a b c d m A B C D E h hd
  obtain ⟨t, e⟩ := regRr_R n1 maddR h m
  have hdd := okReg_of h.d0 hd
  rw [e, mvdG_R n2 _ h]
  unfold maddR maddG
  rw [hdd, q_true, q_true, regF_eq h.s.len hdd, getF_eq h.s.len hdd, setK_R h.a h.s.len, setKG_R h.s.len h.a h.s.len, hw _ _ (fine_xr h.s _) (fine_xr h.s _)]
  exact both_fin h.s (fine_set h.s _ (rng_wu _)) (nx_rng _ _) 0 h.l
theorem al_msub (n1 n2 : List UInt8) (wd : Int → Int → Int × Int) (hw : WdOk wd) : Alike (regRr n1 msubR) (mvdG n2 (maddG wd fun x => wu (0 - x))) DReg := by
  intro s a b c d m A B C D E h hd
  obtain ⟨t, e⟩ := regRr_R n1 msubR h m
  have hdd := okReg_of h.d0 hd
  rw [e, mvdG_R n2 _ h]
  unfold msubR maddG
  rw [hdd, q_true, q_true, regF_eq h.s.len hdd, getF_eq h.s.len hdd, setK_R h.a h.s.len, setKG_R h.s.len h.a h.s.len, hw _ _ (fine_xr h.s _) (fine_xr h.s _)]
  have k : wu ((cond (hasL 68 []) (s.x.getD d.toNat 0) (xr s d)) + wu (0 - wu (xr s b * xr s (and31 c)))) = wu (xr s d - wu (xr s b * xr s (and31 c))) := sub_neg _ _
  rw [k]
  exact both_fin h.s (fine_set h.s _ (rng_wu _)) (nx_rng _ _) 0 h.l
theorem divuF_rng (x y : Int) : rng64 (divuF x y) = true := by
  unfold divuF
  cases y == 0
  · exact rng_wu _
  · rfl
theorem divF_rng (x y : Int) : rng64 (divF x y) = true := by
  unfold divF
  cases y == 0
  · cases y == -1
    · exact rng_wu _
    · exact rng_wu _
  · rfl
theorem al_udiv (n1 n2 : List UInt8) : Alike (regRr n1 udivR) (mvdG n2 (divG false)) Any := by
  intro s a b c d m A B C D E h _
  obtain ⟨t, e⟩ := regRr_R n1 udivR h m
  rw [e, mvdG_R n2 _ h]
  unfold udivR divG
  rw [fine_xr h.s, q_true, divu_dv, setK_R h.a h.s.len, setKG_R h.s.len h.a h.s.len]
  exact both_fin h.s (fine_set h.s _ (divuF_rng _ _)) (nx_rng _ _) 0 h.l
theorem al_sdiv (n1 n2 : List UInt8) : Alike (regRr n1 sdivR) (mvdG n2 (divG true)) Any := by
  intro s a b c d m A B C D E h _
  obtain ⟨t, e⟩ := regRr_R n1 sdivR h m
  rw [e, mvdG_R n2 _ h]
  unfold sdivR divG
  rw [fine_xr h.s, q_true, div_dv (fine_xr h.s _) (fine_xr h.s _), setK_R h.a h.s.len, setKG_R h.s.len h.a h.s.len]
  exact both_fin h.s (fine_set h.s _ (divF_rng _ _)) (nx_rng _ _) 0 h.l
theorem al_sh (n1 n2 : List UInt8) (g : Int → Int → Int) (hg : ∀ x y, rng64 x = true → rng64 (g x y) = true) : Alike (regRr n1 (shR g)) (mvdG n2 (shG g)) Any := by
  intro s a b c d m A B C D E h _
  obtain ⟨t, e⟩ := regRr_R n1 (shR g) h m
  have h6 : decide (0 ≤ andU (xr s (and31 c)) 63) = true := decide_eq_true (rng_spec (andU_rng _ _)).1
  rw [e, mvdG_R n2 _ h]
  unfold shR shG
  rw [h6, q_true, q_true, setK_R h.a h.s.len, setKG_R h.s.len h.a h.s.len]
  exact both_fin h.s (fine_set h.s _ (hg _ _ (fine_xr h.s _))) (nx_rng _ _) 0 h.l
theorem fieldF_rng (b r t : Int) (sg : Bool) : rng64 (fieldF b r t sg) = true := by
  unfold fieldF fieldX
  cases decide (t < r) <;> cases sg <;> exact rng_wu _
theorem ok6_of {c : Int} (h0 : 0 ≤ c) (h1 : c ≤ 63) : ok6 c = true := by
  simp only [ok6, Bool.and_eq_true, decide_eq_true_eq]
  exact ⟨h0, h1⟩
theorem al_bf (n1 n2 : List UInt8) (sg : Bool) : Alike (regRr n1 (fieldR sg)) (mvdG n2 (bfG sg)) Any := by
  intro s a b c d m A B C D E h _
  obtain ⟨t, e⟩ := regRr_R n1 (fieldR sg) h m
  have h6 : (ok6 c && ok6 d) = true := by rw [ok6_of h.c0 h.c1, ok6_of h.d0 h.d1]; rfl
  rw [e, mvdG_R n2 _ h]
  unfold fieldR bfG
  rw [h6, q_true, q_true, setK_R h.a h.s.len, setKG_R h.s.len h.a h.s.len]
  exact both_fin h.s (fine_set h.s _ (fieldF_rng _ _ _ _)) (nx_rng _ _) 0 h.l
theorem al_sel (n1 n2 : List UInt8) (g : Int → Int) (hg : ∀ x, rng64 x = true → rng64 (g x) = true) : Alike (regRr n1 (selR g)) (mvdG n2 (selG g)) Any := by
  intro s a b c d m A B C D E h _
  obtain ⟨t, e⟩ := regRr_R n1 (selR g) h m
  rw [e, mvdG_R n2 _ h]
  unfold selR selG
  rw [setK_R h.a h.s.len, setKG_R h.s.len h.a h.s.len, setK_R h.a h.s.len, setKG_R h.s.len h.a h.s.len]
  cases holdsF s.z s.n s.c s.v d
  · exact both_fin h.s (fine_set h.s _ (hg _ (fine_xr h.s _))) (nx_rng _ _) 0 h.l
  · exact both_fin h.s (fine_set h.s _ (fine_xr h.s _)) (nx_rng _ _) 0 h.l

/-! Sums. -/

def CReg (c _ : Int) : Prop := c ≤ 31
theorem sumG_R (nm sp : List UInt8) (k : Nat) (f : SumTy) {s : CpuT} {a b c d : Int} {A B C D E : List Int} (h : Hy s a b c d A B C D E) (hk : Nat.beq k 0 = true → c ≤ 31) (m : Int) :
    sumG nm sp k f s a b c d m 4 A B C D E = f s a (cond (hasL 66 sp) (s.x.getD b.toNat 0) (xr s b)) (othF k (sG s sp) c d m) s.l (sG s sp) fun L => finG s L (nxF s 4) 0 (refO A B C D E) := by
  unfold sumG q
  rw [h.b, cond_true, getF_eq h.s.len h.b]
  have : (cond (Nat.beq k 0) (okReg c) true) = true := by
    cases hb : Nat.beq k 0
    · rfl
    · exact okReg_of h.c0 (hk hb)
  rw [this, cond_true]
theorem sumG_0 (nm : List UInt8) (k : Nat) (f : SumTy) {s : CpuT} {a b c d : Int} {A B C D E : List Int} (h : Hy s a b c d A B C D E) (hk : Nat.beq k 0 = true → c ≤ 31) (m : Int) :
    sumG nm [] k f s a b c d m 4 A B C D E = f s a (xr s b) (othF k (sG s []) c d m) s.l (sG s []) fun L => finG s L (nxF s 4) 0 (refO A B C D E) := (sumG_R nm [] k f h hk m).trans rfl
theorem qset_R {s r : CpuT} {H : List O} {nx a : Int} (hs : s.x.length = 32) (ha : okReg a = true) (hr : r.x.length = 32) (sp : List UInt8) (v : Int) :
    q (okReg a) (finG s (setLG (sG s sp) 65 a v r.l) nx 0 H) = finC s (cond (hasL 65 sp) (putS a v r) (setS a v r)) nx 0 H := setKG_R hs ha hr sp v
theorem oth_0 {s : CpuT} {a b c d : Int} {A B C D E : List Int} (h : Hy s a b c d A B C D E) (hc : c ≤ 31) (m : Int) : othF 0 (sG s []) c d m = shlF (xr s (and31 c)) d := by
  have hcc := okReg_of h.c0 hc
  have hd : wu d = d := wu_eq h.d0 (by have := h.d1; omega)
  show shlF (getF (sG s []) 67 c) (wu d) = _
  rw [getF_eq h.s.len hcc, and31_eq hcc, hd]
  rfl
theorem al_op (n1 n2 : List UInt8) (g : Int → Int → Int) (hg : ∀ x y, rng64 (g x y) = true) : Alike (regRr n1 (opR g)) (sumG n2 [] 0 (opG g)) CReg := by
  intro s a b c d m A B C D E h hc
  obtain ⟨t, e⟩ := regRr_R n1 (opR g) h m
  rw [e, sumG_0 n2 0 (opG g) h (fun _ => hc), oth_0 h hc]
  unfold opR opG
  rw [setK_R h.a h.s.len, qset_R h.s.len h.a h.s.len]
  exact both_fin h.s (fine_set h.s _ (hg _ _)) (nx_rng _ _) 0 h.l
theorem nzL_eq {s : CpuT} (hs : s.x.length = 32) (x : Int) (c v : Bool) : nzL x c v s.l = (flagS (x == 0) (shr63 x == 1) c v s).l := flagL_eq hs _ _ _ _
theorem al_adds (n1 n2 : List UInt8) : Alike (regRr n1 addsR) (sumG n2 [] 0 plusG) CReg := by
  intro s a b c d m A B C D E h hc
  obtain ⟨t, e⟩ := regRr_R n1 addsR h m
  have hx := fine_xr h.s b
  have ho : rng64 (shlF (xr s (and31 c)) d) = true := rng_wu _
  rw [e, sumG_0 n2 0 plusG h (fun _ => hc), oth_0 h hc]
  unfold addsR plusG
  rw [addQ_eq hx ho, q_true, addFl_eq hx ho, nzL_eq h.s.len, setK_R h.a (flagS_len h.s.len _ _ _ _), addV_eq]
  rw [nzL_eq h.s.len, nzL_eq h.s.len, qset_R h.s.len h.a (flagS_len h.s.len _ _ _ _), qset_R h.s.len h.a (flagS_len h.s.len _ _ _ _)]
  have fin := fun v => both_fin h.s (fine_set (fine_flag h.s (wu (xr s b + shlF (xr s (and31 c)) d) == 0) (shr63 (wu (xr s b + shlF (xr s (and31 c)) d)) == 1) (decide (wu (xr s b + shlF (xr s (and31 c)) d) < xr s b)) v) a (rng_wu (xr s b + shlF (xr s (and31 c)) d))) (nx_rng s 4) 0 h.l
  cases shr63 (xr s b) == shr63 (shlF (xr s (and31 c)) d)
  · exact fin _
  · exact fin _
theorem al_subs (n1 n2 : List UInt8) : Alike (regRr n1 subsR) (sumG n2 [] 0 minusG) CReg := by
  intro s a b c d m A B C D E h hc
  obtain ⟨t, e⟩ := regRr_R n1 subsR h m
  have hx := fine_xr h.s b
  have ho : rng64 (shlF (xr s (and31 c)) d) = true := rng_wu _
  rw [e, sumG_0 n2 0 minusG h (fun _ => hc), oth_0 h hc]
  unfold subsR minusG
  rw [subQ_eq hx ho, q_true, subFl_eq hx ho, nzL_eq h.s.len, setK_R h.a (flagS_len h.s.len _ _ _ _), subVl_eq]
  rw [nzL_eq h.s.len, nzL_eq h.s.len, qset_R h.s.len h.a (flagS_len h.s.len _ _ _ _), qset_R h.s.len h.a (flagS_len h.s.len _ _ _ _)]
  have fin := fun v => both_fin h.s (fine_set (fine_flag h.s (wu (xr s b - shlF (xr s (and31 c)) d) == 0) (shr63 (wu (xr s b - shlF (xr s (and31 c)) d)) == 1) (decide (shlF (xr s (and31 c)) d ≤ xr s b)) v) a (rng_wu (xr s b - shlF (xr s (and31 c)) d))) (nx_rng s 4) 0 h.l
  cases shr63 (xr s b) != shr63 (shlF (xr s (and31 c)) d)
  · exact fin _
  · exact fin _
theorem al_ands (n1 n2 : List UInt8) : Alike (regRr n1 andsR) (sumG n2 [] 0 andsG) CReg := by
  intro s a b c d m A B C D E h hc
  obtain ⟨t, e⟩ := regRr_R n1 andsR h m
  rw [e, sumG_0 n2 0 andsG h (fun _ => hc), oth_0 h hc]
  unfold andsR andsG
  rw [logFl_eq (andU_rng _ _), nzL_eq h.s.len, setK_R h.a (flagS_len h.s.len _ _ _ _)]
  rw [qset_R h.s.len h.a (flagS_len h.s.len _ _ _ _)]
  exact both_fin h.s (fine_set (fine_flag h.s _ _ _ _) _ (andU_rng _ _)) (nx_rng _ _) 0 h.l

end Go.Ra

namespace Go.Ra
open Go Go.Ab Go.Proofs

theorem sumG_sp (nm sp : List UInt8) (hsp : hasL 66 sp = true) (k : Nat) (hk : Nat.beq k 0 = false) (f : SumTy) {s : CpuT} {a b c d : Int} {A B C D E : List Int} (h : Hy s a b c d A B C D E) (m : Int) :
    sumG nm sp k f s a b c d m 4 A B C D E = f s a (s.x.getD b.toNat 0) (othF k (sG s sp) c d m) s.l (sG s sp) fun L => finG s L (nxF s 4) 0 (refO A B C D E) := by
  rw [sumG_R nm sp k f h (fun e => by rw [hk] at e; cases e) m, hsp]
  rfl
theorem sumG_no (nm sp : List UInt8) (hsp : hasL 66 sp = false) (k : Nat) (hk : Nat.beq k 0 = false) (f : SumTy) {s : CpuT} {a b c d : Int} {A B C D E : List Int} (h : Hy s a b c d A B C D E) (m : Int) :
    sumG nm sp k f s a b c d m 4 A B C D E = f s a (xr s b) (othF k (sG s sp) c d m) s.l (sG s sp) fun L => finG s L (nxF s 4) 0 (refO A B C D E) := by
  rw [sumG_R nm sp k f h (fun e => by rw [hk] at e; cases e) m, hsp]
  rfl
theorem oth_1 {s : CpuT} {sp : List UInt8} {c d m : Int} (h0 : 0 ≤ d) (h1 : d ≤ 63) : othF 1 (sG s sp) c d m = shlF (wu m) (c12 d) := by
  obtain ⟨e1, e2, _⟩ := c12_eq h0 h1
  show shlF (wu m) (wu (c12 d)) = _
  rw [e2, e1]
theorem al_addi (n1 n2 : List UInt8) : Alike (immR n1 addiI) (sumG n2 [65, 66] 1 (opG fun x y => wu (x + y))) Any := by
  intro s a b c d m A B C D E h _
  obtain ⟨t, e⟩ := immR_R n1 addiI s a b c d m A B C D E
  obtain ⟨_, _, c3⟩ := c12_eq h.d0 h.d1
  rw [e, sumG_sp n2 [65, 66] rfl 1 rfl _ h, oth_1 h.d0 h.d1]
  unfold addiI opG
  rw [inX_eq h.s.len h.b, c3, q_true, xAt_eq h.s.len h.b, putK_R h.s.len h.a h.s.len, qset_R h.s.len h.a h.s.len]
  exact both_fin h.s (fine_put h.s _ (rng_wu _)) (nx_rng _ _) 0 h.l
theorem al_subi (n1 n2 : List UInt8) : Alike (immR n1 subiI) (sumG n2 [65, 66] 1 (opG fun x y => wu (x - y))) Any := by
  intro s a b c d m A B C D E h _
  obtain ⟨t, e⟩ := immR_R n1 subiI s a b c d m A B C D E
  obtain ⟨_, _, c3⟩ := c12_eq h.d0 h.d1
  rw [e, sumG_sp n2 [65, 66] rfl 1 rfl _ h, oth_1 h.d0 h.d1]
  unfold subiI opG
  rw [inX_eq h.s.len h.b, c3, q_true, xAt_eq h.s.len h.b, putK_R h.s.len h.a h.s.len, qset_R h.s.len h.a h.s.len]
  exact both_fin h.s (fine_put h.s _ (rng_wu _)) (nx_rng _ _) 0 h.l
theorem al_addsi (n1 n2 : List UInt8) : Alike (immR n1 addsiI) (sumG n2 [66] 1 plusG) Any := by
  intro s a b c d m A B C D E h _
  obtain ⟨t, e⟩ := immR_R n1 addsiI s a b c d m A B C D E
  obtain ⟨_, _, c3⟩ := c12_eq h.d0 h.d1
  have hx := h.s.rng b.toNat
  have ho : rng64 (shlF (wu m) (c12 d)) = true := rng_wu _
  rw [e, sumG_sp n2 [66] rfl 1 rfl _ h, oth_1 h.d0 h.d1]
  unfold addsiI plusG
  rw [inX_eq h.s.len h.b, c3, q_true, xAt_eq h.s.len h.b]
  generalize s.x.getD b.toNat 0 = x at hx
  generalize shlF (wu m) (c12 d) = o at ho
  rw [addQ_eq hx ho, q_true, addFl_eq hx ho, nzL_eq h.s.len, setK_R h.a (flagS_len h.s.len _ _ _ _), addV_eq]
  rw [nzL_eq h.s.len, nzL_eq h.s.len, qset_R h.s.len h.a (flagS_len h.s.len _ _ _ _), qset_R h.s.len h.a (flagS_len h.s.len _ _ _ _)]
  have fin := fun v => both_fin h.s (fine_set (fine_flag h.s (wu (x + o) == 0) (shr63 (wu (x + o)) == 1) (decide (wu (x + o) < x)) v) a (rng_wu (x + o))) (nx_rng s 4) 0 h.l
  cases shr63 x == shr63 o
  · exact fin _
  · exact fin _
theorem al_subsi (n1 n2 : List UInt8) : Alike (immR n1 subsiI) (sumG n2 [66] 1 minusG) Any := by
  intro s a b c d m A B C D E h _
  obtain ⟨t, e⟩ := immR_R n1 subsiI s a b c d m A B C D E
  obtain ⟨_, _, c3⟩ := c12_eq h.d0 h.d1
  have hx := h.s.rng b.toNat
  have ho : rng64 (shlF (wu m) (c12 d)) = true := rng_wu _
  rw [e, sumG_sp n2 [66] rfl 1 rfl _ h, oth_1 h.d0 h.d1]
  unfold subsiI minusG
  rw [inX_eq h.s.len h.b, c3, q_true, xAt_eq h.s.len h.b]
  generalize s.x.getD b.toNat 0 = x at hx
  generalize shlF (wu m) (c12 d) = o at ho
  rw [subQ_eq hx ho, q_true, subFl_eq hx ho, nzL_eq h.s.len, setK_R h.a (flagS_len h.s.len _ _ _ _), subVl_eq]
  rw [nzL_eq h.s.len, nzL_eq h.s.len, qset_R h.s.len h.a (flagS_len h.s.len _ _ _ _), qset_R h.s.len h.a (flagS_len h.s.len _ _ _ _)]
  have fin := fun v => both_fin h.s (fine_set (fine_flag h.s (wu (x - o) == 0) (shr63 (wu (x - o)) == 1) (decide (o ≤ x)) v) a (rng_wu (x - o))) (nx_rng s 4) 0 h.l
  cases shr63 x != shr63 o
  · exact fin _
  · exact fin _
theorem al_bit (n1 n2 : List UInt8) (g : Int → Int → Int) (hg : ∀ x y, rng64 (g x y) = true) : Alike (immR n1 (bitI g)) (sumG n2 [65] 2 (opG g)) Any := by
  intro s a b c d m A B C D E h _
  obtain ⟨t, e⟩ := immR_R n1 (bitI g) s a b c d m A B C D E
  rw [e, sumG_no n2 [65] rfl 2 rfl _ h]
  unfold bitI opG
  rw [h.b, q_true, regF_eq h.s.len h.b, putK_R h.s.len h.a h.s.len, qset_R h.s.len h.a h.s.len]
  exact both_fin h.s (fine_put h.s _ (hg _ _)) (nx_rng _ _) 0 h.l
theorem al_andsi (n1 n2 : List UInt8) : Alike (immR n1 andsI) (sumG n2 [] 2 andsG) Any := by
  intro s a b c d m A B C D E h _
  obtain ⟨t, e⟩ := immR_R n1 andsI s a b c d m A B C D E
  rw [e, sumG_no n2 [] rfl 2 rfl _ h]
  unfold andsI andsG
  rw [h.b, q_true, regF_eq h.s.len h.b, logFl_eq (andU_rng _ _), nzL_eq h.s.len, setK_R h.a (flagS_len h.s.len _ _ _ _)]
  show Both s _ (q (okReg a) (finG s (setLG (sG s []) 65 a (andU (xr s b) (wu m)) (nzL (andU (xr s b) (wu m)) false false s.l)) (nxF s 4) 0 (refO A B C D E)))
  rw [nzL_eq h.s.len, qset_R h.s.len h.a (flagS_len h.s.len _ _ _ _)]
  exact both_fin h.s (fine_set (fine_flag h.s _ _ _ _) _ (andU_rng _ _)) (nx_rng _ _) 0 h.l

/-! Jumps. -/

theorem jmpR_R (nm : List UInt8) (f : JmpTy) {s : CpuT} {a b c d : Int} {A B C D E : List Int} (h : Hy s a b c d A B C D E) (m : Int) :
    ∃ t, jmpR nm f s a b c d m 4 A B C D E = f s a b d (wu (s.pc + wu m)) (nxF s 4) s.l (s.l ++ t) fun L nx => finK s L nx (memO A B C D E) := by
  refine ⟨(.ptr 1 0 :: [.str nm, .int .i64 a, .int .i64 b, .int .i64 c, .int .i64 d, .int .i64 m, .int .u64 (nxF s 4)]), ?_⟩
  unfold jmpR preK q stC
  rw [h.b, and31_ok, decide_eq_true h.d0]
  rfl
theorem set30 {s : CpuT} (hs : s.x.length = 32) (v : Int) : setL 30 v s.l = (putS 30 v s).l := by
  rw [setL_eq hs rfl]
  rfl
theorem al_b (n1 : List UInt8) : Alike (jmpR n1 bJ) bG Any := by
  intro s a b c d m A B C D E h _
  obtain ⟨t, e⟩ := jmpR_R n1 bJ h m
  rw [e]
  exact both_fin h.s h.s (rng_wu _) 0 h.l
theorem al_bl (n1 : List UInt8) : Alike (jmpR n1 blJ) blG Any := by
  intro s a b c d m A B C D E h _
  obtain ⟨t, e⟩ := jmpR_R n1 blJ h m
  rw [e]
  unfold blJ blG
  rw [set30 h.s.len]
  exact both_fin h.s (fine_put h.s _ (nx_rng _ _)) (rng_wu _) 0 h.l
theorem al_bc (n1 : List UInt8) : Alike (jmpR n1 bcJ) bcG Any := by
  intro s a b c d m A B C D E h _
  obtain ⟨t, e⟩ := jmpR_R n1 bcJ h m
  rw [e]
  unfold bcJ bcG
  cases holdsF s.z s.n s.c s.v d
  · exact both_fin h.s h.s (nx_rng _ _) 0 h.l
  · exact both_fin h.s h.s (rng_wu _) 0 h.l
theorem al_cbz (n1 : List UInt8) : Alike (jmpR n1 cbzJ) (cbG true) Any := by
  intro s a b c d m A B C D E h _
  obtain ⟨t, e⟩ := jmpR_R n1 cbzJ h m
  rw [e]
  unfold cbzJ cbG
  rw [h.a, q_true, q_true, regF_eq h.s.len h.a, getF_eq h.s.len h.a]
  show Both s (cond (xr s a == 0) _ _) (cond ((xr s a == 0) == true) _ _)
  cases xr s a == 0
  · exact both_fin h.s h.s (nx_rng _ _) 0 h.l
  · exact both_fin h.s h.s (rng_wu _) 0 h.l
theorem al_cbnz (n1 : List UInt8) : Alike (jmpR n1 cbnzJ) (cbG false) Any := by
  intro s a b c d m A B C D E h _
  obtain ⟨t, e⟩ := jmpR_R n1 cbnzJ h m
  rw [e]
  unfold cbnzJ cbG
  rw [h.a, q_true, q_true, regF_eq h.s.len h.a, getF_eq h.s.len h.a]
  show Both s (cond (!(xr s a == 0)) _ _) (cond ((xr s a == 0) == false) _ _)
  cases xr s a == 0
  · exact both_fin h.s h.s (rng_wu _) 0 h.l
  · exact both_fin h.s h.s (nx_rng _ _) 0 h.l
theorem al_br (n1 : List UInt8) : Alike (jmpR n1 brJ) brG Any := by
  intro s a b c d m A B C D E h _
  obtain ⟨t, e⟩ := jmpR_R n1 brJ h m
  rw [e]
  unfold brJ brG
  rw [h.b, q_true, q_true, regF_eq h.s.len h.b, getF_eq h.s.len h.b]
  exact both_fin h.s h.s (fine_xr h.s _) 0 h.l
theorem al_blr (n1 : List UInt8) : Alike (jmpR n1 blrJ) blrG Any := by
  intro s a b c d m A B C D E h _
  obtain ⟨t, e⟩ := jmpR_R n1 blrJ h m
  rw [e]
  unfold blrJ blrG
  rw [h.b, q_true, q_true, regF_eq h.s.len h.b, getF_eq h.s.len h.b, set30 h.s.len]
  exact both_fin h.s (fine_put h.s _ (nx_rng _ _)) (fine_xr h.s _) 0 h.l
theorem al_nop (n1 : List UInt8) : Alike (jmpR n1 nopJ) (nopG 0) Any := by
  intro s a b c d m A B C D E h _
  obtain ⟨t, e⟩ := jmpR_R n1 nopJ h m
  rw [e]
  exact both_fin h.s h.s (nx_rng _ _) 0 h.l
def PcOk (r g : RunTy) : Prop := ∀ s a b c d m A B C D E, Hy s a b c d A B C D E → Int.tmod s.pc 4 = 0 → Both s (r s a b c d m 4 A B C D E) (g s a b c d m 4 A B C D E)
theorem al_svc : PcOk svcR (nopG 1) := by
  intro s a b c d m A B C D E h hp
  have hn : Int.tmod (nxF s 4) 4 = 0 := by
    obtain ⟨p0, p1⟩ := rng_spec h.s.pc
    have e : nxF s 4 = (s.pc + 4) % 18446744073709551616 := rfl
    rw [e]
    rw [Int.tmod_eq_emod_of_nonneg p0] at hp
    rw [Int.tmod_eq_emod_of_nonneg (by omega)]
    omega
  have e : nopG 1 s a b c d m 4 A B C D E = outK (pcL (nxF s 4) s.l) 1 (refO A B C D E) := by
    unfold nopG finG
    rw [hn]
    rfl
  rw [e]
  exact ⟨{ s with pc := nxF s 4 }, 1, 0, A, B, C, D, E, ⟨h.s.len, h.s.rng, nx_rng _ _⟩, h.l, fun h => absurd rfl h, rfl, rfl⟩
theorem al_brk : Alike brkR brkG Any := by
  intro s a b c d m A B C D E h _
  exact ⟨s, 2, 0, A, B, C, D, E, h.s, h.l, fun h => absurd rfl h, rfl, rfl⟩

end Go.Ra
