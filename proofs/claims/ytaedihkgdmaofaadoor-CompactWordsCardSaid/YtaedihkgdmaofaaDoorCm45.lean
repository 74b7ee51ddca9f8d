/-
  The law Words: every call answers true. Conditions: none.
-/
import Derived.Test.YtaedihkgdmaofaaDoorCm44
import Derived.Test.YtaedihkgdmaofaaDoorCm34
import Derived.Test.YtaedihkgdmaofaaDoorCm22
import Derived.Test.YtaedihkgdmaofaaDoorAbYg
namespace Go.Cmp
open Go Go.Ab Go.Proofs

noncomputable def cx8 (p : InsT → Bool) : Cx := { P := Tryd.prog, n := 88, tab := [(9, begunS), (15, decodeS), (10, encodeS), (18, wideAS), (22, rvS p)], mtab := [], refs := [], keeps := [0, 2, 3, 4, 5, 6, 7, 8, 9, 10, 11, 12, 14, 16, 18, 38, 44, 87] }
def bw (w k : Int) : List Int := [IntKind.wrap IntKind.u8 (IntKind.wrap IntKind.i64 (IntKind.wrap IntKind.i64 w + k)), IntKind.wrap IntKind.u8 (IntKind.wrap IntKind.i64 (Int.tdiv (IntKind.wrap IntKind.i64 (IntKind.wrap IntKind.i64 w + k)) 256))]
noncomputable abbrev B8 : Code := bodyOf Tryd.f8
def wordsPre (_p : InsT → Bool) (w : Int) : Tree St :=
  (.leaf (.normal, [(0, (.int .u16 w)), (2, (.bool false)), (16, (.bool false))], []))

theorem wordsPre_eq (p : InsT → Bool) (w : Int) : (dcode (cx8 p) (headN 1 B8) (initT 0 [.int .u16 w]) []).run = (wordsPre p w).run :=
  (show (dcode (cx8 p) (headN 1 B8) (initT 0 [.int .u16 w]) []).run = (wordsPre p w).out by kernel_rfl).trans (Tree.out_run _)

def wdN (w k : Int) : Tree St := .leaf (.normal, [(0, .int .u16 w), (3, .int .i64 (IntKind.wrap .i64 (k + 1)))], [])
def wdR (w k : Int) : Tree St := .leaf (.ret, [(0, .int .u16 w), (3, .int .i64 k)], [])
def wordsRound (p : InsT → Bool) (w k : Int) : Tree St :=
  .br (decide (k < 500)) (.br (dE (bw w k) 0 != 0) (.br (dE (bw w k) 0 != 22) (wdR w k) (.br (dN (bw w k) 0 != 0) (wdR w k) (wdN w k)))
    (.br (encE (dI (bw w k) 0) == 0)
      (.br (p (wideA (dI (bw w k) 0))) (.br (dN (bw w k) 0 != 2) (wdR w k) (.br (encE (dI (bw w k) 0) != 0) (wdR w k)
        (.br (!strEq (List.map (fun n => UInt8.ofNat (Int.toNat n)) (encL (dI (bw w k) 0))) (List.map (fun n => UInt8.ofNat (Int.toNat n)) (bw w k))) (wdR w k)
        (.br (Int.tmod ((bw w k).getD 0 0) 4 == 3) (wdR w k) (wdN w k))))) .fail)
      (.br (p (wideA (dI (bw w k) 0))) (.br (dN (bw w k) 0 != 2) (wdR w k) (.br (encE (dI (bw w k) 0) != 0) (wdR w k) (.br (encE (dI (bw w k) 0) != 0) (wdR w k) (wdR w k)))) .fail)))
    (.leaf (.exit 0, [(0, .int .u16 w), (3, .int .i64 k)], []))
theorem wordsRound_eq (p : InsT → Bool) (w k : Int) : ((dcode (cx8 p) (cin (cin (c2 (c1 (tailN 1 B8))))) [(0, .int .u16 w), (3, .int .i64 k)] []).bind (rnd 0 [] [0, 3])).fin = (wordsRound p w k).fin := by kernel_rfl
def wordsEnd  : Tree St :=
  (.leaf (.ret, [(2, (.bool true))], []))

theorem wordsEnd_eq  : (dcode (cx8 isWide) (tailN 2 B8) [] []).run = (wordsEnd ).run :=
  (show (dcode (cx8 isWide) (tailN 2 B8) [] []).run = (wordsEnd ).out by kernel_rfl).trans (Tree.out_run _)


theorem cx8_ok : CxOk (cx8 isWide) := cx1_ok (.cons begunS_ok (.cons decodeS_ok (.cons encodeS_ok (.cons wideAS_ok (ok1 rvS_ok))))) (fun p h => by cases h) rfl rfl

/-! A word that decodes does not end in two ones. -/

theorem low_all : (pairsL.all fun p => bitIs p.2 0 0 || bitIs p.2 1 0) = true := by kernel_rfl
theorem low_two {w : Int} (w0 : 0 ≤ w) (w1 : w < 65536) (h : decOk w = true) : w % 4 ≠ 3 := by
  unfold decOk at h
  obtain ⟨x, hr⟩ := Option.isSome_iff_exists.1 h
  have hx : x ∈ rowsL := List.mem_of_find?_eq_some hr
  have hm : dMatch w x = true := List.find?_some (p := dMatch w) hr
  unfold dMatch at hm
  rw [Bool.and_eq_true] at hm
  have hl := List.all_eq_true.1 low_all _ (pairs_mem hx)
  simp only [Bool.or_eq_true] at hl
  have bit : ∀ {k : Nat}, bitIs (flds x) k 0 = true → w.toNat.testBit k = false := fun {k} hb => by
    have e := bit_of hx w0 w1 hm.2 hb
    rw [bitW_eq w0 w1] at e
    cases ht : w.toNat.testBit k
    · rfl
    · rw [ht] at e; cases e
  intro h3
  have e : w.toNat % 4 = 3 := by omega
  rcases hl with hb | hb
  · have := bit hb
    rw [Nat.testBit_eq_decide_div_mod_eq] at this
    have := of_decide_eq_false this
    omega
  · have := bit hb
    rw [Nat.testBit_eq_decide_div_mod_eq] at this
    have := of_decide_eq_false this
    omega
theorem bw_len (w k : Int) : (bw w k).length = 2 := rfl
theorem bw_bytes (w k : Int) : Bytes (bw w k) := by
  intro b hb
  unfold bw at hb
  simp only [List.mem_cons, List.not_mem_nil, or_false] at hb
  rcases hb with h | h <;> rw [h, wrap_u8] <;> omega

def wordsSt (w : Int) (k : { k : Nat // k ≤ 500 }) : T × List O := ([(0, .int .u16 w), (3, .int .i64 k.1)], [])
def wordsQ (e : AEx) (t : T) (H : List O) : Prop := (e = .ret ∨ e = .normal) ∧ answerV Tryd.prog Tryd.f8.results.toList H t = some (.bool true)

set_option maxRecDepth 8000 in
theorem words_ok (w : Int) : PCall Tryd.prog 8 [.int .u16 w] (.bool true) := by
  refine pcall_of' (c := bodyOf Tryd.f8) (fn := Tryd.f8) (by kernel_rfl) (by kernel_rfl) (by kernel_rfl) (by kernel_rfl) ?_
  refine AWP_headE (cx := cx8 isWide) rfl rfl cx8_ok 1 (by kernel_rfl) (wordsPre_eq isWide w) ?_
  show AWP _ _ _ wordsQ _ _
  have e : tailN 1 B8 = .seq (.seq (c1 (c1 (tailN 1 B8))) (.block 0 (.loop (cin (cin (c2 (c1 (tailN 1 B8)))))))) (tailN 2 B8) := by kernel_rfl
  rw [e]
  refine AWP.less (s := [(0, .int .u16 w)]) (Fits.tle ⟨rfl, trivial⟩) ?_
  refine AWP_seq (AWP_seq (AWP_run (cx := cx8 isWide) rfl rfl cx8_ok (s := (.normal, (wordsSt w ⟨0, Nat.zero_le _⟩).1, [])) (by kernel_rfl) ?_))
  refine AWP_block ?_
  refine AWP_roundsK (cx := cx8 isWide) (P := Tryd.prog) (n := 88) rfl rfl cx8_ok (wordsSt w) (fun k => 500 - k.1) [] [0, 3] ?_ ⟨0, Nat.zero_le _⟩
  rintro ⟨k, hk⟩
  refine fin_all (wordsRound_eq isWide w k) ?_
  have hb := bw_bytes w k
  have hl : (bw w (k : Int)).length < 1000000000 := by rw [bw_len]; omega
  have next : k < 500 → (wdN w k).all (RoundK (wordsSt w) (fun k => 500 - k.1) [0, 3] (blockQ 0 (seqQ (AWP Tryd.prog 88 (tailN 2 B8) wordsQ) wordsQ)) ⟨k, hk⟩) := fun h => by
    refine ⟨⟨k + 1, by omega⟩, by show 500 - (k + 1) < 500 - k; omega, Fits.tle ⟨rfl, ?_, trivial⟩, rfl⟩
    show V.int .i64 (IntKind.wrap .i64 ((k : Int) + 1)) = V.int .i64 ((k + 1 : Nat) : Int)
    rw [wrap_i64 (by omega) (by omega)]
    rfl
  refine ⟨fun h500 => ?_, fun _ => ?_⟩
  · have h500 : k < 500 := by have := of_decide_eq_true h500; omega
    have ho : outOf (bw w (k : Int)) 0 = false := by unfold outOf; rw [bw_len]; rfl
    have hs : shortOf (bw w (k : Int)) 0 = false := by unfold shortOf; rw [bw_len]; rfl
    have hE : dE (bw w (k : Int)) 0 = cond (decOk (w2 (bw w (k : Int)) 0)) 0 22 := by unfold dE; rw [ho, hs]; rfl
    refine ⟨fun he => ?_, fun he => ?_⟩
    · obtain ⟨_, e2⟩ := dec_err he
      have e22 : (dE (bw w (k : Int)) 0 != 22) = false := by
        rw [hE] at he ⊢
        cases hd : decOk (w2 (bw w (k : Int)) 0)
        · rfl
        · rw [hd] at he; cases he
      refine all_f e22 (all_f (by rw [e2]; rfl) (next h500))
    · obtain ⟨g1, g2, g3, g4, g5⟩ := dec_fine hb hl he
      have h0 := eq_of_beq g4
      have g5 : encL (dI (bw w (k : Int)) 0) = bw w (k : Int) := g5
      have hd : decOk (w2 (bw w (k : Int)) 0) = true := by
        rw [hE] at he
        cases hd : decOk (w2 (bw w (k : Int)) 0)
        · rw [hd] at he; cases he
        · rfl
      have hw := w2_sum hb (Int.le_refl 0) (by rw [bw_len]; omega) hl
      obtain ⟨r0, r1⟩ := sum2_rng hb 0
      have hlow : ((bw w (k : Int)).getD 0 0) % 4 ≠ 3 := by
        rw [hw] at hd
        have := low_two r0 r1 hd
        unfold sum2 at this
        omega
      obtain ⟨b0, _⟩ := bytes_getD hb 0
      refine all_t g4 (all_t (isWide_of h0) (all_f (by rw [g3]; rfl) (all_f (by rw [h0]; rfl) (all_f (by rw [g5]; simp [strEq]) (all_f ?_ (next h500))))))
      rw [Int.tmod_eq_emod_of_nonneg b0]
      exact beq_eq_false_iff_ne.2 hlow
  · intro t ht
    show AWP _ _ _ _ _ _
    exact AWP.less (s := []) (Fits.tle trivial) (AWP_run (cx := cx8 isWide) rfl rfl cx8_ok wordsEnd_eq ⟨.inl rfl, by kernel_rfl⟩)

end Go.Cmp
