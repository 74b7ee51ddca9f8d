/-
  The program's memory: all bytes of a page. Conditions: none.
-/
import Derived.Test.YtbefgnmdliefjaaGreatDoorPk15
import Derived.Test.YtbefgnmdliefjaaGreatDoorPk13
import Derived.Test.YtbefgnmdliefjaaGreatDoorPk16
import Derived.Test.YtbefgnmdliefjaaGreatDoorPk19
import Derived.Test.YtbefgnmdliefjaaGreatDoorDt9
set_option linter.unusedVariables false
set_option linter.unusedSimpArgs false
namespace Go.Ra
open Go Go.Ab Go.Proofs
noncomputable def cxPb : Cx := { P := Tryz.prog, n := Tryz.f42.ntmps, tab := [], mtab := [(30, noneM), (31, mayBig), (33, getM)], refs := [], keeps := [0, 1, 2, 6, 7, 8, 9, 10, 17, 30, 31, 32], lz := [28, 42] }
theorem cxPb_ok : CxOk cxPb := cx1_ok (.nil _) (.cons noneM_ok (.cons mayBig_ok (.cons getM_ok fun p h => by cases h))) rfl rfl
noncomputable abbrev Bpb : Code := bodyOf Tryz.f42
def newPg (l : List Int) : O := .obj (.page 0 .u8 l) []
def filL (a b c d e : List Int) (x : Int) : Nat → List Int
  | 0 => zeros
  | n + 1 => (filL a b c d e x n).set n (byteF a b c d e (adr x n))
theorem filL_len (a b c d e : List Int) (x : Int) : ∀ n, (filL a b c d e x n).length = 4096
  | 0 => List.length_replicate
  | n + 1 => List.length_set.trans (filL_len a b c d e x n)
theorem filL_get (a b c d e : List Int) (x : Int) : ∀ n i, i < n → n ≤ 4096 → (filL a b c d e x n).getD i 0 = byteF a b c d e (adr x i)
  | n + 1, i, hi, hn => by
    have hl := filL_len a b c d e x n
    rw [List.getD_eq_getElem?_getD]
    show (((filL a b c d e x n).set n (byteF a b c d e (adr x n)))[i]?).getD 0 = _
    rw [List.getElem?_set]
    by_cases h : n = i
    · subst h
      rw [if_pos rfl, if_pos (by omega)]
      rfl
    · rw [if_neg h, ← List.getD_eq_getElem?_getD]
      exact filL_get a b c d e x n i (by omega) (by omega)
def pbT (x i : Int) : T := [(0, .ptr 0 0), (1, .int .u64 x), (8, .ref 7 1 0 4096), (30, .int .i64 4096), (31, .int .i64 i)]
def pbRound (x : Int) (i : Nat) (L a b c d e : List Int) : Tree St :=
  .br (decide ((i : Int) < 4096)) (.br (lens5 a b c d e) (.br (usable (adr x i)) (.br (inside i 4096) (.br (Nat.ble 0 (0 + i * 1) && Nat.blt (0 + i * 1 - 0) L.length) (.leaf (.normal, pbT x (IntKind.wrap .i64 ((i : Int) + 1)), memO a b c d e ++ [newPg (L.set (0 + i * 1 - 0) (byteF a b c d e (adr x i)))])) .fail) .fail) .fail) .fail)
    (.leaf (.exit 1, pbT x i, memO a b c d e ++ [newPg L]))
theorem pbRound_eq (x : Int) (i : Nat) (L a b c d e : List Int) :
    ((dcode cxPb (cin (cin (c2 (c1 (tailN 2 Bpb))))) (pbT x i) (memO a b c d e ++ [newPg L])).bind (rnd 8 [] [0, 1, 8, 30, 31])).run = (pbRound x i L a b c d e).run :=
  (show _ = (pbRound x i L a b c d e).out by kernel_rfl).trans (Tree.out_run _)
def pbHead (x n : Int) (a b c d e : List Int) : Option St :=
  cond (decide (n < 0)) (some (.ret, [(0, .ptr 0 0), (1, .int .u64 x)], memO a b c d e)) (cond (decide (1048576 < n)) (some (.ret, [(0, .ptr 0 0), (1, .int .u64 x)], memO a b c d e)) (cond (lens5 a b c d e) (cond (bigOk x n 4)
    (cond (decide (0 ≤ n) && decide (n ≤ n) && roomy n.toNat 1) (some (.normal, [(0, .ptr 0 0), (1, .int .u64 x), (8, .ref 7 1 0 n.toNat)], memO a b c d e ++ [newPg (List.replicate n.toNat 0)])) none) none) none))
theorem pb_head (x n : Int) (a b c d e : List Int) : ((dcode cxPb (headN 2 Bpb) (initT 0 [.ptr 0 0, .int .u64 x, .int .i64 n]) (memO a b c d e)).bind (cutK [0, 1, 8])).run = pbHead x n a b c d e := by kernel_rfl
theorem pb_start (x : Int) (L a b c d e : List Int) : ((dcode cxPb (c1 (c1 (tailN 2 Bpb))) [(0, .ptr 0 0), (1, .int .u64 x), (8, .ref 7 1 0 4096)] (memO a b c d e ++ [newPg L])).bind (cutK [0, 1, 8, 30, 31])).run =
    some (.normal, pbT x 0, memO a b c d e ++ [newPg L]) := by kernel_rfl
theorem pb_end (x : Int) (L a b c d e : List Int) : ((dcode cxPb (tailN 3 Bpb) (pbT x 4096) (memO a b c d e ++ [newPg L])).bind (answerM Tryz.prog Tryz.f42.results.toList)).run = some (.ok (.tup [.ref 7 1 0 4096, .int .i64 0]) (memO a b c d e ++ [newPg L])) := by kernel_rfl
theorem off_small {x : Int} (h0 : 0 ≤ x) : offF x = (x % 4096).toNat := by
  unfold offF
  rw [Int.tmod_eq_emod_of_nonneg h0]
  omega
theorem byte_page {k : Int} {i : Nat} (h0 : 0 ≤ k) (h1 : k < 100) (hi : i < 4096) (a b c d e : List Int) : byteF a b c d e (adr (4096 * k) i) = (selF k a b c d e).getD i 0 := by
  have ea : adr (4096 * k) i = 4096 * k + i := adr_small (by omega) (by omega)
  unfold byteF
  rw [ea, pgF_small (by omega) (by omega), off_small (by omega)]
  have e1 : (4096 * k + (i : Int)) / 4096 = k := by omega
  have e2 : ((4096 * k + (i : Int)) % 4096).toNat = i := by omega
  rw [e1, e2]
theorem selF_len {a b c d e : List Int} (hl : lens5 a b c d e = true) (k : Int) : (selF k a b c d e).length = 4096 := by
  obtain ⟨l1, l2, l3, l4, l5⟩ := lens5_spec hl
  unfold selF
  cases k == 1 <;> cases k == 2 <;> cases k == 16 <;> cases k == 17 <;> assumption
theorem fil_page {k : Int} (h0 : 0 ≤ k) (h1 : k < 100) {a b c d e : List Int} (hl : lens5 a b c d e = true) : filL a b c d e (4096 * k) 4096 = selF k a b c d e := by
  have n1 := filL_len a b c d e (4096 * k) 4096
  have n2 := selF_len hl k
  refine List.ext_getElem (n1.trans n2.symm) fun i g1 g2 => ?_
  have := filL_get a b c d e (4096 * k) 4096 i (by omega) (Nat.le_refl _)
  rw [byte_page h0 h1 (by omega), getD_lt g1, getD_lt g2] at this
  exact this
theorem usable_page {k : Int} (hk : isPg k = true) {i : Nat} (hi : i < 4096) : usable (adr (4096 * k) i) = true := by
  have hk' : k = 1 ∨ k = 2 ∨ k = 16 ∨ k = 17 ∨ k = 32 := by simpa [isPg] using hk
  have ea : adr (4096 * k) i = 4096 * k + i := adr_small (by omega) (by omega)
  have hr : rng64 (4096 * k + i) = true := by
    simp only [rng64, Bool.and_eq_true, decide_eq_true_eq]
    omega
  have hp : pgF (4096 * k + i) = k := by
    rw [pgF_eq hr]
    omega
  unfold usable
  rw [ea, hr, hp, hk]
  rfl
def pbSt (x : Int) (a b c d e : List Int) (i : { i : Nat // i ≤ 4096 }) : T × List O := (pbT x i.1, memO a b c d e ++ [newPg (filL a b c d e x i.1)])
theorem pb_ok {k : Int} {a b c d e : List Int} (hk : isPg k = true) (hl : lens5 a b c d e = true) :
    MCall Tryz.prog 42 [.ptr 0 0, .int .u64 (4096 * k), .int .i64 4096] (memO a b c d e) (.ok (.tup [.ref 7 1 0 4096, .int .i64 0]) (memO a b c d e ++ [newPg (selF k a b c d e)])) := by
  have hk' : k = 1 ∨ k = 2 ∨ k = 16 ∨ k = 17 ∨ k = 32 := by simpa [isPg] using hk
  have hb : bigOk (4096 * k) 4096 4 = true := by
    rcases hk' with rfl | rfl | rfl | rfl | rfl <;> rfl
  rw [← fil_page (k := k) (by omega) (by omega) hl]
  generalize hx : 4096 * k = x at hb
  refine mcall_of' (c := Bpb) (fn := Tryz.f42) (by kernel_rfl) (by kernel_rfl) (by kernel_rfl) (by kernel_rfl) ?_
  have h4 : (decide ((0 : Int) ≤ 4096) && decide ((4096 : Int) ≤ 4096) && roomy (4096 : Int).toNat 1) = true := by decide
  have hh : pbHead x 4096 a b c d e = some (.normal, [(0, .ptr 0 0), (1, .int .u64 x), (8, .ref 7 1 0 4096)], memO a b c d e ++ [newPg zeros]) := by
    unfold pbHead
    rw [hl, hb, h4]
    rfl
  refine AWP_headK (cx := cxPb) rfl rfl cxPb_ok 2 [0, 1, 8] (by kernel_rfl) ((cutK_run _ _).symm.trans ((pb_head x 4096 a b c d e).trans hh)) ?_
  have eb : tailN 2 Bpb = .seq (.seq (c1 (c1 (tailN 2 Bpb))) (.block 1 (.loop (cin (cin (c2 (c1 (tailN 2 Bpb)))))))) (tailN 3 Bpb) := by kernel_rfl
  rw [eb]
  obtain ⟨s, g1, g2⟩ := Option.map_eq_some_iff.1 ((cutK_run _ _).symm.trans (pb_start x zeros a b c d e))
  refine AWP_seq (AWP_seq (AWP_run (cx := cxPb) rfl rfl cxPb_ok g1 ?_))
  obtain ⟨ex, t, H⟩ := s
  simp only [Prod.mk.injEq] at g2
  obtain ⟨rfl, g2, rfl⟩ := g2
  refine AWP_block (AWP.less (s := pbT x 0) (g2 ▸ TLe.keep _ _) ?_)
  refine AWP_roundsK (cx := cxPb) (P := Tryz.prog) (n := 45) rfl rfl cxPb_ok (pbSt x a b c d e) (fun i => 4096 - i.1) [] [0, 1, 8, 30, 31] ?_ ⟨0, Nat.zero_le _⟩
  rintro ⟨i, hi⟩
  refine Tree.all_run_eq (pbRound_eq x i (filL a b c d e x i) a b c d e) ?_
  have n1 := filL_len a b c d e x i
  refine ⟨fun hlt => ?_, fun hge => ?_⟩
  · have hlt : i < 4096 := Int.ofNat_lt.1 (of_decide_eq_true hlt)
    have hbl : (Nat.ble 0 (0 + i * 1) && Nat.blt (0 + i * 1 - 0) (filL a b c d e x i).length) = true := by
      rw [n1, Bool.and_eq_true_iff]
      exact ⟨Nat.ble_eq_true_of_le (Nat.zero_le _), Nat.ble_eq_true_of_le (by omega)⟩
    refine all_t hl (all_t (hx ▸ usable_page hk hlt) (all_t (inside_of (Int.natCast_nonneg i) (Int.ofNat_lt.2 hlt)) (all_t hbl ⟨⟨i + 1, hlt⟩, by show 4096 - (i + 1) < 4096 - i; omega, ?_, ?_⟩)))
    · rw [wrap_i64 (by omega) (by omega)]
      exact TLe.refl _
    · have ei : 0 + i * 1 - 0 = i := by omega
      rw [ei]
      rfl
  · have hge : ¬ i < 4096 := fun h => of_decide_eq_false hge (Int.ofNat_lt.2 h)
    have hi' : i = 4096 := by omega
    subst hi'
    intro t ht
    show AWP _ _ _ _ _ _
    have ht : pbT x 4096 = keep [0, 1, 8, 30, 31] t := ht
    refine AWP.less (s := pbT x 4096) (ht ▸ TLe.keep _ _) ?_
    obtain ⟨s, g1, g2⟩ := bind_run (pb_end x (filL a b c d e x 4096) a b c d e)
    refine AWP_run (cx := cxPb) rfl rfl cxPb_ok g1 ?_
    exact answerM_post g2
def bytesM : MSpec := fun args H => match args with
  | [.ptr 0 0, .int .u64 x, .int .i64 n] => memM (fun a b c d e => .req (isStart x && n == 4096) (.leaf (.ok (.tup [.ref 7 1 0 4096, .int .i64 0]) (memO a b c d e ++ [newPg (selF (pgF x) a b c d e)])))) H
  | _ => .fail
theorem bytesM_ok : MSound Tryz.prog 42 bytesM := by
  intro args H out h
  unfold bytesM at h
  split at h
  rotate_left
  · cases h
  rename_i x n
  obtain ⟨a, b, c, d, e, rfl, hl, h⟩ := memM_run h
  obtain ⟨h1, h⟩ := req_run h
  cases h
  obtain ⟨hx, hn⟩ := Bool.and_eq_true_iff.1 h1
  have hn : n = 4096 := by simpa using hn
  subst hn
  have hx : x = 4096 ∨ x = 8192 ∨ x = 65536 ∨ x = 69632 ∨ x = 131072 := by simpa [isStart] using hx
  have key : ∀ k : Int, isPg k = true → x = 4096 * k → MCall Tryz.prog 42 [.ptr 0 0, .int .u64 x, .int .i64 4096] (memO a b c d e) (.ok (.tup [.ref 7 1 0 4096, .int .i64 0]) (memO a b c d e ++ [newPg (selF (pgF x) a b c d e)])) := by
    intro k hk hxk
    have hk' : k = 1 ∨ k = 2 ∨ k = 16 ∨ k = 17 ∨ k = 32 := by simpa [isPg] using hk
    have hp : pgF x = k := by
      rw [pgF_small (by omega) (by omega)]
      omega
    rw [hp, hxk]
    exact pb_ok hk hl
  rcases hx with h | h | h | h | h
  · exact key 1 rfl h
  · exact key 2 rfl h
  · exact key 16 rfl h
  · exact key 17 rfl h
  · exact key 32 rfl h
end Go.Ra

namespace Go.Ra
open Go Go.Ab Go.Proofs
noncomputable def cxRcb : Cx := { P := Tryz.prog, n := Tryz.f49.ntmps, tab := [], mtab := [], refs := [], keeps := [0, 1, 2, 3, 8, 9, 10, 20, 23, 35, 61], rtab := [(48, findR)], lz := [55] }
theorem cxRcb_ok : CxOk cxRcb := ⟨.nil _, .nil _, .cons findR_ok (.nil _), fun p h => by cases h⟩
noncomputable abbrev Bcb : Code := bodyOf Tryz.f49
def cbT (x n k : Int) : T := [(0, .ptr 0 0), (1, .int .u64 x), (2, .int .i64 n), (3, .int .i64 0), (9, .int .i64 k)]
def cbNext (x n : Int) (k : Nat) (H : List O) : Tree St := .leaf (.normal, cbT x n (IntKind.wrap .i64 ((k : Int) + 1)), H)
def cbFind (L : Bool) (x n : Int) (k : Nat) (H : List O) : Tree St := .br L (.br (decide (idxF (pgF (adr x k)) < 0)) (.leaf (.ret, cbT x n k, H)) (cbNext x n k H)) .fail
def cbRound (x n : Int) (k : Nat) (A B C D E : List Int) : Tree St :=
  .br (decide ((k : Int) < n)) (.br (decide (0 < (k : Int))) (.br (Int.tmod (adr x k) 4096 != 0) (cbNext x n k (refO A B C D E)) (cbFind (lens5 A B C D E) x n k (refO A B C D E))) (cbFind (lens5 A B C D E) x n k (refO A B C D E)))
    (.leaf (.exit 0, cbT x n k, refO A B C D E))
theorem cbRound_eq (x n : Int) (k : Nat) (A B C D E : List Int) :
    ((dcode cxRcb (cin (cin (c2 (c1 (tailN 1 Bcb))))) (cbT x n k) (refO A B C D E)).bind (rnd 7 [] [0, 1, 2, 3, 9])).run = (cbRound x n k A B C D E).run :=
  (show _ = (cbRound x n k A B C D E).out by kernel_rfl).trans (Tree.out_run _)
def cbHead (x n : Int) (H : List O) : Option St :=
  cond (decide (0 < n)) (cond (decide (IntKind.wrap .u64 (18446744073709551615 - x) < IntKind.wrap .u64 (IntKind.wrap .i64 (n - 1)))) (some (.ret, [(0, .ptr 0 0), (1, .int .u64 x), (2, .int .i64 n), (3, .int .i64 0)], H)) (some (.normal, [(0, .ptr 0 0), (1, .int .u64 x), (2, .int .i64 n), (3, .int .i64 0)], H)))
    (some (.normal, [(0, .ptr 0 0), (1, .int .u64 x), (2, .int .i64 n), (3, .int .i64 0)], H))
theorem cb_head (x n : Int) (H : List O) : ((dcode cxRcb (headN 1 Bcb) (initT 0 [.ptr 0 0, .int .u64 x, .int .i64 n, .int .i64 0]) H).bind (cutK [0, 1, 2, 3])).run = cbHead x n H := by kernel_rfl
theorem cb_start (x n : Int) (H : List O) : ((dcode cxRcb (c1 (c1 (tailN 1 Bcb))) [(0, .ptr 0 0), (1, .int .u64 x), (2, .int .i64 n), (3, .int .i64 0)] H).bind (cutK [0, 1, 2, 3, 9])).run = some (.normal, cbT x n 0, H) := by kernel_rfl
theorem cb_end (H : List O) : ((dcode cxRcb (tailN 2 Bcb) [] H).bind (answerM Tryz.prog Tryz.f49.results.toList)).run = some (.ok (.bool true) H) := by kernel_rfl
def cbSt (x n : Int) (A B C D E : List Int) (k : { k : Nat // k ≤ n.toNat }) : T × List O := (cbT x n k.1, refO A B C D E)
theorem idx_base {x : Int} (hx : isBase x = true) {i : Nat} (hi : i < 8192) : ¬ idxF (pgF (adr x i)) < 0 := by
  have h := usable_base hx hi
  unfold usable at h
  obtain ⟨_, h⟩ := Bool.and_eq_true_iff.1 h
  simp only [isPg, Bool.or_eq_true, beq_iff_eq] at h
  rcases h with h | h | h | h | h <;> rw [h] <;> decide
theorem cb_ok {x n : Int} (hx : isBase x = true) (h0 : 0 ≤ n) (h1 : n ≤ 8192) {A B C D E : List Int} (hl : lens5 A B C D E = true) :
    MCall Tryz.prog 49 [.ptr 0 0, .int .u64 x, .int .i64 n, .int .i64 0] (refO A B C D E) (.ok (.bool true) (refO A B C D E)) := by
  have hx' : x = 4096 ∨ x = 65536 := by simpa [isBase] using hx
  refine mcall_of' (c := Bcb) (fn := Tryz.f49) (by kernel_rfl) (by kernel_rfl) (by kernel_rfl) (by kernel_rfl) ?_
  have hh : cbHead x n (refO A B C D E) = some (.normal, [(0, .ptr 0 0), (1, .int .u64 x), (2, .int .i64 n), (3, .int .i64 0)], refO A B C D E) := by
    unfold cbHead
    cases hp : decide (0 < n)
    · rfl
    have hp := of_decide_eq_true hp
    have e1 : IntKind.wrap .u64 (18446744073709551615 - x) = (18446744073709551615 - x) % 18446744073709551616 := rfl
    have e2 : IntKind.wrap .u64 (IntKind.wrap .i64 (n - 1)) = IntKind.wrap .i64 (n - 1) % 18446744073709551616 := rfl
    rw [e1, e2, wrap_i64 (by omega) (by omega), decide_eq_false (by omega)]
    rfl
  refine AWP_headK (cx := cxRcb) rfl rfl cxRcb_ok 1 [0, 1, 2, 3] (by kernel_rfl) ((cutK_run _ _).symm.trans ((cb_head x n _).trans hh)) ?_
  have eb : tailN 1 Bcb = .seq (.seq (c1 (c1 (tailN 1 Bcb))) (.block 0 (.loop (cin (cin (c2 (c1 (tailN 1 Bcb)))))))) (tailN 2 Bcb) := by kernel_rfl
  rw [eb]
  obtain ⟨s, g1, g2⟩ := Option.map_eq_some_iff.1 ((cutK_run _ _).symm.trans (cb_start x n (refO A B C D E)))
  refine AWP_seq (AWP_seq (AWP_run (cx := cxRcb) rfl rfl cxRcb_ok g1 ?_))
  obtain ⟨ex, t, H⟩ := s
  simp only [Prod.mk.injEq] at g2
  obtain ⟨rfl, g2, rfl⟩ := g2
  refine AWP_block (AWP.less (s := cbT x n 0) (g2 ▸ TLe.keep _ _) ?_)
  refine AWP_roundsK (cx := cxRcb) (P := Tryz.prog) (n := 62) rfl rfl cxRcb_ok (cbSt x n A B C D E) (fun k => n.toNat - k.1) [] [0, 1, 2, 3, 9] ?_ ⟨0, Nat.zero_le _⟩
  rintro ⟨k, hk⟩
  refine Tree.all_run_eq (cbRound_eq x n k A B C D E) ?_
  refine ⟨fun hlt => ?_, fun hge => ?_⟩
  · have hlt := of_decide_eq_true hlt
    have hnext : (cbNext x n k (refO A B C D E)).all (RoundK (cbSt x n A B C D E) (fun k => n.toNat - k.1) [0, 1, 2, 3, 9] (blockQ 0 (seqQ (AWP Tryz.prog 62 (tailN 2 Bcb) (MPost Tryz.prog Tryz.f49 (.ok (.bool true) (refO A B C D E)))) (MPost Tryz.prog Tryz.f49 (.ok (.bool true) (refO A B C D E))))) ⟨k, hk⟩) := by
      refine ⟨⟨k + 1, by omega⟩, by show n.toNat - (k + 1) < n.toNat - k; omega, ?_, rfl⟩
      rw [wrap_i64 (by omega) (by omega)]
      exact TLe.refl _
    have hfind := all_t (y := .fail) hl (all_f (x := .leaf (.ret, cbT x n k, refO A B C D E)) (decide_eq_false (idx_base hx (i := k) (by omega))) hnext)
    exact ⟨fun _ => ⟨fun _ => hnext, fun _ => hfind⟩, fun _ => hfind⟩
  · have hge := of_decide_eq_false hge
    intro t ht
    show AWP _ _ _ _ _ _
    refine AWP.less (s := []) (fun _ => .inr rfl) ?_
    obtain ⟨s, g1, g2⟩ := bind_run (cb_end (refO A B C D E))
    refine AWP_run (cx := cxRcb) rfl rfl cxRcb_ok g1 ?_
    exact answerM_post g2
def canBig : RSpec := fun args H => match args with
  | [.ptr 0 0, .int .u64 x, .int .i64 n, .int .i64 r] => refM (fun _ _ _ _ _ => .req (isBase x && (decide (0 ≤ n) && (decide (n ≤ 8192) && r == 0))) (.leaf (.bool true))) H
  | _ => .fail
theorem canBig_ok : RSound Tryz.prog 49 canBig := by
  intro args H out h
  unfold canBig at h
  split at h
  rotate_left
  · cases h
  rename_i x n r
  obtain ⟨a, b, c, d, e, rfl, hl, h⟩ := refM_run h
  obtain ⟨h1, h⟩ := req_run h
  cases h
  simp only [Bool.and_eq_true, decide_eq_true_eq, beq_iff_eq] at h1
  obtain ⟨hx, h2, h3, rfl⟩ := h1
  exact cb_ok hx h2 h3 hl
noncomputable def cxRset : Cx := { P := Tryz.prog, n := Tryz.f25.ntmps, tab := [], mtab := [(50, putRf)], refs := [], keeps := [0, 1, 2, 6, 7, 13, 17], rtab := [(49, canBig)] }
noncomputable def cxRset0 : Cx := { cxRset with fuel := 1 }
theorem cxRset_ok : CxOk cxRset := ⟨.nil _, .cons putRf_ok (.nil _), .cons canBig_ok (.nil _), fun p h => by cases h⟩
noncomputable abbrev Brs : Code := bodyOf Tryz.f25
def rsS (x : Int) (l : List Int) (n : Nat) (a b c d e : List Int) : List O := refO (layL 1 x l n a) (layL 2 x l n b) (layL 16 x l n c) (layL 17 x l n d) (layL 32 x l n e)
def rsT (x : Int) (l sp : List Int) (fl : Fl) (i : Int) : T := [(0, .ptr 0 0), (1, .int .u64 x), (2, .sl (.int .u8) l sp fl), (7, .int .i64 i)]
def rsRound (x : Int) (l sp : List Int) (fl : Fl) (i : Nat) (a b c d e : List Int) : Tree St :=
  .br (decide ((i : Int) < l.length)) (.br (inside i l.length) (.br (lens5 a b c d e) (.br (usable (adr x i)) (.leaf (.normal, rsT x l sp fl (IntKind.wrap .i64 ((i : Int) + 1)),
      refO (setF 1 (adr x i) (l.getD i 0) a) (setF 2 (adr x i) (l.getD i 0) b) (setF 16 (adr x i) (l.getD i 0) c) (setF 17 (adr x i) (l.getD i 0) d) (setF 32 (adr x i) (l.getD i 0) e))) .fail) .fail) .fail)
    (.leaf (.exit 0, rsT x l sp fl i, refO a b c d e))
theorem rsRound_eq (x : Int) (l sp : List Int) (fl : Fl) (i : Nat) (a b c d e : List Int) :
    ((dcode cxRset (cin (cin (c2 (c1 (tailN 1 Brs))))) (rsT x l sp fl i) (refO a b c d e)).bind (rnd 7 [] [0, 1, 2, 7])).run = (rsRound x l sp fl i a b c d e).run :=
  (show _ = (rsRound x l sp fl i a b c d e).out by kernel_rfl).trans (Tree.out_run _)
theorem rs_head (x : Int) (l sp : List Int) (fl : Fl) (a b c d e : List Int) : ((dcode cxRset (headN 1 Brs) (initT 0 [.ptr 0 0, .int .u64 x, .sl (.int .u8) l sp fl]) (refO a b c d e)).bind (cutK [0, 1, 2])).run =
    cond (lens5 a b c d e) (cond (isBase x && (decide ((0 : Int) ≤ l.length) && (decide ((l.length : Int) ≤ 8192) && true))) (some (.normal, [(0, .ptr 0 0), (1, .int .u64 x), (2, .sl (.int .u8) l sp fl)], refO a b c d e)) none) none := by kernel_rfl
theorem rs_start (x : Int) (l sp : List Int) (fl : Fl) (H : List O) : ((dcode cxRset (c1 (c1 (tailN 1 Brs))) [(0, .ptr 0 0), (1, .int .u64 x), (2, .sl (.int .u8) l sp fl)] H).bind (cutK [0, 1, 2, 7])).run = some (.normal, rsT x l sp fl 0, H) := by kernel_rfl
theorem rs_end (H : List O) : ((dcode cxRset (tailN 2 Brs) [] H).bind (answerM Tryz.prog Tryz.f25.results.toList)).run = some (.ok (.int .i64 0) H) := by kernel_rfl
theorem rs_nil (x : Int) (a b c d e : List Int) : (mfun cxRset0 Tryz.f25 [.ptr 0 0, .int .u64 x, .val (.slice none 0 0)] (refO a b c d e)).fin = cond (lens5 a b c d e) (cond (isBase x && true) (some (.ok (.int .i64 0) (refO a b c d e))) none) none := by kernel_rfl
def rsSt (x : Int) (l sp : List Int) (fl : Fl) (a b c d e : List Int) (i : { i : Nat // i ≤ l.length }) : T × List O := (rsT x l sp fl i.1, rsS x l i.1 a b c d e)
set_option maxRecDepth 8000 in
theorem rs_ok {x : Int} {l : List Int} (sp : List Int) (fl : Fl) {a b c d e : List Int} (hx : isBase x = true) (hn : l.length ≤ 8192) (hb8 : l.all byteB = true) (hl : lens5 a b c d e = true) :
    MCall Tryz.prog 25 [.ptr 0 0, .int .u64 x, .sl (.int .u8) l sp fl] (refO a b c d e) (.ok (.int .i64 0) (rsS x l l.length a b c d e)) := by
  refine mcall_of' (c := Brs) (fn := Tryz.f25) (by kernel_rfl) (by kernel_rfl) (by kernel_rfl) (by kernel_rfl) ?_
  have hb : (isBase x && (decide ((0 : Int) ≤ l.length) && (decide ((l.length : Int) ≤ 8192) && true))) = true := by
    rw [hx, decide_eq_true (by omega), decide_eq_true (by omega)]
    rfl
  refine AWP_headK (cx := cxRset) rfl rfl cxRset_ok 1 [0, 1, 2] (by kernel_rfl) (by rw [← cutK_run, rs_head, hl, hb]; rfl) ?_
  have eb : tailN 1 Brs = .seq (.seq (c1 (c1 (tailN 1 Brs))) (.block 0 (.loop (cin (cin (c2 (c1 (tailN 1 Brs)))))))) (tailN 2 Brs) := by kernel_rfl
  rw [eb]
  obtain ⟨s, g1, g2⟩ := Option.map_eq_some_iff.1 ((cutK_run _ _).symm.trans (rs_start x l sp fl (refO a b c d e)))
  refine AWP_seq (AWP_seq (AWP_run (cx := cxRset) rfl rfl cxRset_ok g1 ?_))
  obtain ⟨ex, t, H⟩ := s
  simp only [Prod.mk.injEq] at g2
  obtain ⟨rfl, g2, rfl⟩ := g2
  refine AWP_block (AWP.less (s := rsT x l sp fl 0) (g2 ▸ TLe.keep _ _) ?_)
  refine AWP_roundsK (cx := cxRset) (P := Tryz.prog) (n := 30) rfl rfl cxRset_ok (rsSt x l sp fl a b c d e) (fun i => l.length - i.1) [] [0, 1, 2, 7] ?_ ⟨0, Nat.zero_le _⟩
  rintro ⟨i, hi⟩
  have hl' := lens5_layL x l hb8 hl i
  refine Tree.all_run_eq (rsRound_eq x l sp fl i _ _ _ _ _) ?_
  refine ⟨fun hlt => ?_, fun hge => ?_⟩
  · have hlt : i < l.length := Int.ofNat_lt.1 (of_decide_eq_true hlt)
    refine all_t (inside_of (Int.natCast_nonneg i) (Int.ofNat_lt.2 hlt)) (all_t hl' (all_t (usable_base hx (by omega)) ⟨⟨i + 1, hlt⟩, by show l.length - (i + 1) < l.length - i; omega, ?_, rfl⟩))
    rw [wrap_i64 (by omega) (by omega)]
    exact TLe.refl _
  · have hge : ¬ i < l.length := fun h => of_decide_eq_false hge (Int.ofNat_lt.2 h)
    have hi' : i = l.length := by omega
    subst hi'
    intro t _
    show AWP _ _ _ _ _ _
    refine AWP.less (s := []) (fun _ => .inr rfl) ?_
    obtain ⟨s, g1, g2⟩ := bind_run (rs_end (rsS x l l.length a b c d e))
    refine AWP_run (cx := cxRset) rfl rfl cxRset_ok g1 ?_
    exact answerM_post g2
def okLast : V → Bool
  | .rng .i64 0 5 => true
  | .int .i64 0 => true
  | _ => false
def refMW {α : Type} (f : List Int → List Int → List Int → List Int → List Int → Tree α) : List O → Tree α
  | .cells [.ref 1 3 0 5, v] t :: H => .req (okLast v) (refM f (.cells [.ref 1 3 0 5, .rng .i64 0 5] t :: H))
  | _ => .fail
theorem refMW_run {f : List Int → List Int → List Int → List Int → List Int → Tree Res} {H : List O} {out : Res} (h : (refMW f H).run = some out) :
    ∃ v a b c d e, H = refH v a b c d e ∧ okLast v = true ∧ lens5 a b c d e = true ∧ (f a b c d e).run = some out := by
  unfold refMW at h
  split at h
  rotate_left
  · cases h
  rename_i v t H
  obtain ⟨h1, h⟩ := req_run h
  obtain ⟨a, b, c, d, e, g1, g2, g3⟩ := refM_run h
  refine ⟨v, a, b, c, d, e, ?_, h1, g2, g3⟩
  unfold refO refH at g1
  simp only [List.cons.injEq, O.cells.injEq] at g1
  obtain ⟨⟨_, rfl⟩, rfl⟩ := g1
  rfl
theorem mcall_last {f : Nat} {args : List V} {v : V} {A B C D E : List Int} {o : V} {H' : List O} (hv : okLast v = true) (h : MCall Tryz.prog f args (refO A B C D E) (.ok o H')) : MCall Tryz.prog f args (refH v A B C D E) (.ok o H') := by
  unfold okLast at hv
  split at hv
  · exact h
  · exact mcall_in (A := []) (pre := [.ref 1 3 0 5]) (post := []) (lo := 0) (hi := 5) (by decide) (by decide) h
  · cases hv
def setRM : MSpec := fun args H => match args with
  | [.ptr 0 0, .int .u64 x, .sl (.int .u8) l _ _] => refMW (fun a b c d e => .req (isBase x && (decide (l.length ≤ 8192) && l.all byteB)) (.leaf (.ok (.int .i64 0) (refO (layL 1 x l l.length a) (layL 2 x l l.length b) (layL 16 x l l.length c) (layL 17 x l l.length d) (layL 32 x l l.length e))))) H
  | [.ptr 0 0, .int .u64 x, .val (.slice none 0 0)] => refMW (fun a b c d e => .req (isBase x) (.leaf (.ok (.int .i64 0) (refO a b c d e)))) H
  | _ => .fail
theorem setRM_ok : MSound Tryz.prog 25 setRM := by
  intro args H out h
  unfold setRM at h
  split at h
  · rename_i x l sp fl
    obtain ⟨v, a, b, c, d, e, rfl, hv, hl, h⟩ := refMW_run h
    obtain ⟨h1, h⟩ := req_run h
    cases h
    obtain ⟨hx, hn⟩ := Bool.and_eq_true_iff.1 h1
    obtain ⟨hn, h8⟩ := Bool.and_eq_true_iff.1 hn
    exact mcall_last hv (rs_ok sp fl hx (of_decide_eq_true hn) h8 hl)
  · rename_i x
    obtain ⟨v, a, b, c, d, e, rfl, hv, hl, h⟩ := refMW_run h
    obtain ⟨h1, h⟩ := req_run h
    cases h
    refine mcall_last hv (msound_fun (cx := cxRset0) (fn := Tryz.f25) cxRset_ok (by kernel_rfl) (by kernel_rfl) _ _ _ ?_)
    refine run_req (by kernel_rfl) ?_
    rw [← Tree.fin_run, rs_nil, hl, cond_true, h1]
    rfl
  · cases h
end Go.Ra

namespace Go.Ra
open Go Go.Ab Go.Proofs
noncomputable def memC : Tabs := { mtab := [(46, thereM), (24, setPM), (25, setRM)] }
theorem memC_ok : memC.Ok Tryz.prog := ⟨.nil _, .cons thereM_ok (.cons setPM_ok (.cons setRM_ok fun p h => by cases h)), .nil _, fun p h => by cases h⟩
noncomputable def memD_ps : List Fi := [⟨45, Tryz.f45, [0, 1, 4, 5, 6], [], 0, []⟩]
theorem memD_ps_ok : FisOk Tryz.prog memD_ps := ⟨⟨by kernel_rfl, by kernel_rfl⟩, trivial⟩
noncomputable def memD_ms : List Fi := [⟨21, Tryz.f21, [0], [], 0, []⟩, ⟨30, Tryz.f30, [0, 2], [], 0, []⟩, ⟨22, Tryz.f22, [0, 1, 2, 3, 8, 9, 10, 11, 12, 13, 14, 15, 22, 37, 52, 54, 78, 87], [], 4, []⟩, ⟨48, Tryz.f48, [0, 1, 4, 5, 30, 41, 53], [], 8, []⟩, ⟨23, Tryz.f23, [0, 1, 2, 3, 8, 9, 10, 11, 12, 13, 14, 15, 16, 33, 44, 53, 61, 76, 84, 88, 95], [103,105,106], 4, [103]⟩]
theorem memD_ms_ok : FisOk Tryz.prog memD_ms := ⟨⟨by kernel_rfl, by kernel_rfl⟩, ⟨by kernel_rfl, by kernel_rfl⟩, ⟨by kernel_rfl, by kernel_rfl⟩, ⟨by kernel_rfl, by kernel_rfl⟩, ⟨by kernel_rfl, by kernel_rfl⟩, trivial⟩
noncomputable def memD (d : Nat) : Tabs := deep Tryz.prog memC memD_ps memD_ms d
theorem memD_ok (d : Nat) : (memD d).Ok Tryz.prog := deep_ok memC_ok memD_ps_ok memD_ms_ok d
noncomputable def cxWd : Cx := { P := Tryz.prog, n := Tryz.f10.ntmps, tab := (memD 4).tab, mtab := (memD 4).mtab, rtab := (memD 4).rtab, refs := [], keeps := [0, 1, 4, 5, 6, 7] }
theorem cxWd_ok : CxOk cxWd := memD_ok 4
noncomputable abbrev Bwd : Code := bodyOf Tryz.f10
def wdPg (r : Int) (l : List Int) : O := .obj (.page 1 .u8 l) [.int .i64 r]
def wdHeap (A B C D E : List Int) : List O := [.obj (.map [1, 2, 16, 17, 32]) [.ptr 3 0, .ptr 4 0, .ptr 11 0, .ptr 12 0, .ptr 19 0], .cells [.bool true, .mp 0] 72, .cells [.ref 22 3 0 5, .int .i64 0] 58,
  wdPg 5 A, wdPg 5 B, newPg A, .cells (wRow 1 5 5) (95 + 4294967296), .dead, newPg B, .cells (wRow 2 5 8) (95 + 4294967296), .dead, wdPg 6 C, wdPg 6 D, newPg C, .cells (wRow 16 6 13) (95 + 4294967296), .dead, newPg D, .cells (wRow 17 6 16) (95 + 4294967296), .dead, wdPg 4 E, newPg E,
  .cells (wRow 32 4 20) (95 + 4294967296), .cells (wRow 1 5 5 ++ (wRow 2 5 8 ++ (wRow 16 6 13 ++ (wRow 17 6 16 ++ wRow 32 4 20)))) 0]
theorem wd_head (c d : V) : (dcode cxWd (headN 7 Bwd) (initT 0 [c, d]) []).run.map (fun s => (s.1, keep [0, 1, 6, 7] s.2.1, s.2.2)) =
    some (.normal, [(0, c), (1, d), (6, .ptr 1 0), (7, .ptr 2 0)], wdHeap zeros zeros zeros zeros zeros) := by kernel_rfl
def bothO (A B C D E : List Int) : List O := [.cells [.bool true, .mp 1] 72, .obj (.map [1, 2, 16, 17, 32]) [.ptr 2 0, .ptr 3 0, .ptr 4 0, .ptr 5 0, .ptr 6 0], wdPg 5 A, wdPg 5 B, wdPg 6 C, wdPg 6 D, wdPg 4 E,
  .cells [.ref 8 3 0 5, lastV] 58, .cells (wRow 1 5 9 ++ (wRow 2 5 10 ++ (wRow 16 6 11 ++ (wRow 17 6 12 ++ wRow 32 4 13)))) 0, newPg A, newPg B, newPg C, newPg D, newPg E]
def wdKeep : List Nat := [1, 0, 3, 4, 11, 12, 19, 2, 22, 5, 8, 13, 16, 20]
def wdK (k : Int) (l m P : List Int) : List Int := layL k 65536 m m.length (layL k 4096 l l.length P)
def wdL (l m A B C D E : List Int) : List O := bothO (wdK 1 l m A) (wdK 2 l m B) (wdK 16 l m C) (wdK 17 l m D) (wdK 32 l m E)
noncomputable def wdT (c d : V) (A B C D E : List Int) : Option Res := (((dcode cxWd (tailN 7 Bwd) [(0, c), (1, d), (6, .ptr 1 0), (7, .ptr 2 0)] (wdHeap A B C D E)).bind (answerM Tryz.prog Tryz.f10.results.toList)).bind (dropR 0 wdKeep)).fin
def setB (l : List Int) : Bool := decide (l.length ≤ 8192) && l.all byteB
def wdC (L n : Bool) (r : Option Res) : Option Res := cond (true && L) (cond (true && n) (cond (true && (true && (true && L))) (cond (true && n) r none) none) none) none
def wdN (L : Bool) (r : Option Res) : Option Res := cond (true && L) (cond (true && (true && (true && L))) r none) none
def wdS1 (l A B C D E : List Int) : Bool := lens5 (layL 1 4096 l l.length A) (layL 2 4096 l l.length B) (layL 16 4096 l l.length C) (layL 17 4096 l l.length D) (layL 32 4096 l l.length E)
def wdOk (l m A B C D E : List Int) : Option Res := some (.ok (.tup [.ptr 0 0, .ptr 7 0]) (wdL l m A B C D E))
theorem wd_ss (l sp m sq : List Int) (fl fm : Fl) (A B C D E : List Int) : wdT (.sl (.int .u8) l sp fl) (.sl (.int .u8) m sq fm) A B C D E =
    wdC (lens5 A B C D E) (setB l) (wdC (wdS1 l A B C D E) (setB m) (wdOk l m A B C D E)) := by kernel_rfl
theorem wd_ns (m sq : List Int) (fm : Fl) (A B C D E : List Int) : wdT (.val (.slice none 0 0)) (.sl (.int .u8) m sq fm) A B C D E =
    wdN (lens5 A B C D E) (wdC (lens5 A B C D E) (setB m) (wdOk [] m A B C D E)) := by kernel_rfl
theorem wd_sn (l sp : List Int) (fl : Fl) (A B C D E : List Int) : wdT (.sl (.int .u8) l sp fl) (.val (.slice none 0 0)) A B C D E =
    wdC (lens5 A B C D E) (setB l) (wdN (wdS1 l A B C D E) (wdOk l [] A B C D E)) := by kernel_rfl
theorem wd_nn (A B C D E : List Int) : wdT (.val (.slice none 0 0)) (.val (.slice none 0 0)) A B C D E =
    wdN (lens5 A B C D E) (wdN (lens5 A B C D E) (wdOk [] [] A B C D E)) := by kernel_rfl
def wdArg : V → Option (List Int)
  | .sl (.int .u8) l _ _ => some l
  | .val (.slice none 0 0) => some []
  | _ => none
theorem wdArg_spec {v : V} {l : List Int} (h : wdArg v = some l) : (∃ sp fl, v = .sl (.int .u8) l sp fl) ∨ (v = .val (.slice none 0 0) ∧ l = []) := by
  unfold wdArg at h
  split at h
  · cases h; exact .inl ⟨_, _, rfl⟩
  · cases h; exact .inr ⟨rfl, rfl⟩
  · cases h
theorem zeros_len : zeros.length = 4096 := List.length_replicate
theorem lens_zeros : lens5 zeros zeros zeros zeros zeros = true := by
  have h : pgB zeros = true := by
    unfold pgB
    rw [zeros_len, Bool.and_eq_true_iff]
    refine ⟨rfl, ?_⟩
    unfold zeros
    rw [List.all_replicate]
    rfl
  unfold lens5
  rw [h]
  rfl
theorem wd_run {c d : V} {l m : List Int} (hc : wdArg c = some l) (hd : wdArg d = some m) (h1 : setB l = true) (h2 : setB m = true) {A B C D E : List Int} (hl : lens5 A B C D E = true) :
    wdT c d A B C D E = wdOk l m A B C D E := by
  have hs : wdS1 l A B C D E = true := lens5_layL _ _ (Bool.and_eq_true_iff.1 h1).2 hl _
  rcases wdArg_spec hc with ⟨sp, fl, rfl⟩ | ⟨rfl, rfl⟩ <;> rcases wdArg_spec hd with ⟨sq, fm, rfl⟩ | ⟨rfl, rfl⟩
  · exact (wd_ss l sp m sq fl fm A B C D E).trans (by rw [hl, hs, h1, h2]; rfl)
  · exact (wd_sn l sp fl A B C D E).trans (by rw [hl, hs, h1]; rfl)
  · exact (wd_ns m sq fm A B C D E).trans (by rw [hl, h2]; rfl)
  · rw [wd_nn, hl]; rfl
def worldD : MSpec := fun args H => match args, H with
  | [c, d], [] => match wdArg c, wdArg d with
    | some l, some m => .req (setB l && setB m) (.leaf (.ok (.tup [.ptr 0 0, .ptr 7 0]) (wdL l m zeros zeros zeros zeros zeros)))
    | _, _ => .fail
  | _, _ => .fail
theorem worldD_ok : MSound Tryz.prog 10 worldD := by
  intro args H out h
  unfold worldD at h
  split at h
  rotate_left
  · cases h
  rename_i c d
  split at h
  rotate_left
  · cases h
  rename_i l m hc hd
  obtain ⟨h0, h⟩ := req_run h
  cases h
  obtain ⟨h1, h2⟩ := Bool.and_eq_true_iff.1 h0
  have e := wd_run hc hd h1 h2 lens_zeros
  unfold wdT at e
  rw [Tree.fin_run] at e
  obtain ⟨r0, e1, e2⟩ := bind_run e
  refine mcall_drop (H := []) (r := r0) (κ := wdKeep) ?_ e2
  obtain ⟨s, g1, g2⟩ := bind_run e1
  refine mcall_of' (c := Bwd) (fn := Tryz.f10) (by kernel_rfl) (by kernel_rfl) (by kernel_rfl) (by kernel_rfl) ?_
  refine AWP_headK (cx := cxWd) rfl rfl cxWd_ok 7 [0, 1, 6, 7] (by kernel_rfl) (wd_head c d) ?_
  exact AWP_run (cx := cxWd) rfl rfl cxWd_ok g1 (answerM_post g2)
theorem lens5_wd {l m : List Int} (hl : setB l = true) (hm : setB m = true) {A B C D E : List Int} (h : lens5 A B C D E = true) : lens5 (wdK 1 l m A) (wdK 2 l m B) (wdK 16 l m C) (wdK 17 l m D) (wdK 32 l m E) = true := lens5_layL _ _ (Bool.and_eq_true_iff.1 hm).2 (lens5_layL _ _ (Bool.and_eq_true_iff.1 hl).2 h _) _
end Go.Ra

namespace Go.Ra
open Go Go.Ab Go.Proofs
noncomputable def myB : Tabs := { mtab := [(40, countM), (41, rightsM), (42, bytesM)] }
theorem myB_ok : myB.Ok Tryz.prog := ⟨.nil _, .cons countM_ok (.cons rightsM_ok (.cons bytesM_ok fun p h => by cases h)), .nil _, fun p h => by cases h⟩
noncomputable def myT_ps : List Fi := []
theorem myT_ps_ok : FisOk Tryz.prog myT_ps := trivial
noncomputable def myT_ms : List Fi := [⟨19, Tryz.f19, [0, 1, 4, 5, 6, 7, 8, 16, 23, 40, 44, 62], [], 6, []⟩]
theorem myT_ms_ok : FisOk Tryz.prog myT_ms := ⟨⟨by kernel_rfl, by kernel_rfl⟩, trivial⟩
noncomputable def myT (d : Nat) : Tabs := deep Tryz.prog myB myT_ps myT_ms d
theorem myT_ok (d : Nat) : (myT d).Ok Tryz.prog := deep_ok myB_ok myT_ps_ok myT_ms_ok d
def bothA (A B C D E : List Int) : List O := [.cells [.bool true, .mp 2] 72, .obj (.map [1, 2, 16, 17, 32]) [.ptr 3 0, .ptr 4 0, .ptr 5 0, .ptr 6 0, .ptr 7 0], wdPg 5 A, wdPg 5 B, wdPg 6 C, wdPg 6 D, wdPg 4 E,
  .cells [.ref 9 3 0 5, lastV] 58, .cells (wRow 1 5 10 ++ (wRow 2 5 11 ++ (wRow 16 6 12 ++ (wRow 17 6 13 ++ wRow 32 4 14)))) 0, newPg A, newPg B, newPg C, newPg D, newPg E]
def cpuO (s : CpuT) : O := .cells (tabS s).l 26
def rnH (s t : CpuT) (A B C D E : List Int) : List O := cpuO s :: (bothA A B C D E ++ [cpuO t])
noncomputable def cxRn (f : OutFn) : Cx := { P := Tryz.prog, n := Tryz.f7.ntmps, tab := [(9, Go.Amd.begunS)], mtab := (11, runS f) :: (18, refS f) :: (10, worldD) :: (myT 1).mtab, rtab := (myT 1).rtab, still := [11, 18], refs := [], keeps := [0, 1, 2, 3, 4, 8, 9, 10, 11, 12, 13, 14, 15, 16, 17, 18, 20, 23, 37, 76] }
noncomputable abbrev Brn : Code := bodyOf Tryz.f7
abbrev insE : EC := .prod [.str, .int .i64, .int .i64, .int .i64, .int .i64, .int .i64]
abbrev insA (l : List insE.ty) (k : Int) : insE.ty := l.getD k.toNat insE.dflt
def rnT (l : List insE.ty) (n k : Int) : T := [(1, .sl insE l [] .may), (2, .int .i64 n), (4, .ptr 0 0), (9, .ptr 1 0), (10, .ptr 8 0), (11, .ptr 15 0), (12, .int .i64 k)]
def stopR (l : List insE.ty) (n k : Int) (s : CpuT) (o : Out) : Tree St := .leaf (.ret, rnT l n k, rnH s s o.A o.B o.C o.D o.E)
def rnRound (f : OutFn) (l : List insE.ty) (n k : Int) (s : CpuT) (A B C D E : List Int) : Tree St :=
  .br (decide (k < (l.length : Nat))) (.br (decide (k < 80)) (.br (inside k l.length) (.br (true && lens5 A B C D E) (.br (fineB (tabS s) && Go.Amd.i64r (insA l k).2.2.2.2.2) (.br (inside k l.length) (.br (true && (true && (true && lens5 A B C D E))) (.br (fineB (tabS s) && Go.Amd.i64r (insA l k).2.2.2.2.2)
    (let o := f (insA l k).1 (tabS s) (insA l k).2.1 (insA l k).2.2.1 (insA l k).2.2.2.1 (insA l k).2.2.2.2.1 (insA l k).2.2.2.2.2 n A B C D E
     .br (!(eqS (tabS o.s) (tabS o.s))) (stopR l n k s o) (.br (o.ev != o.ev) (stopR l n k s o) (.br (o.err != o.err) (stopR l n k s o) (.leaf (.normal, rnT l n (IntKind.wrap .i64 (k + 1)), rnH o.s o.s o.A o.B o.C o.D o.E))))) .fail) .fail) .fail) .fail) .fail) .fail)
    (.leaf (.exit 0, rnT l n k, rnH s s A B C D E))) (.leaf (.exit 0, rnT l n k, rnH s s A B C D E))
theorem rnRound_eq (f : OutFn) (l : List insE.ty) (n k : Int) (s : CpuT) (A B C D E : List Int) :
    ((dcode (cxRn f) (cin (cin (c2 (c1 (tailN 4 Brn))))) (rnT l n k) (rnH s s A B C D E)).bind (rnd 16 [] [1, 2, 4, 9, 10, 11, 12])).run = (rnRound f l n k s A B C D E).run :=
  (show _ = (rnRound f l n k s A B C D E).out by kernel_rfl).trans (Tree.out_run _)
def rnA (s : CpuT) (l : List insE.ty) (n : Int) (m : List Int) (t : T) : T := (0, .agg (tabS s).l) :: (1, .sl insE l [] .may) :: (2, .int .i64 n) :: (3, .sl (.int .u8) m [] .may) :: (4, .ptr 0 0) :: t
def rnHead (s : CpuT) (l : List insE.ty) (n : Int) (m : List Int) : Tree St :=
  .br (decide (8192 < ((m.length : Nat) : Int))) (.leaf (.ret, rnA s l n m [(8, .bool true), (20, .bool false), (23, .bool true)], [cpuO s])) (.br (true && setB m) (.leaf (.normal, rnA s l n m [(8, .bool false), (9, .ptr 1 0), (10, .ptr 8 0), (11, .ptr 15 0), (20, .bool false), (23, .bool false)],
    rnH s s (wdK 1 [] m zeros) (wdK 2 [] m zeros) (wdK 16 [] m zeros) (wdK 17 [] m zeros) (wdK 32 [] m zeros))) .fail)
theorem rn_head (f : OutFn) (s : CpuT) (l : List insE.ty) (n : Int) (m : List Int) : (dcode (cxRn f) (headN 4 Brn) (initT 0 [.agg (tabS s).l, .sl insE l [] .may, .int .i64 n, .sl (.int .u8) m [] .may]) []).run = (rnHead s l n m).run :=
  (show _ = (rnHead s l n m).out by kernel_rfl).trans (Tree.out_run _)
theorem rn_start (f : OutFn) (l : List insE.ty) (n : Int) (H : List O) : ((dcode (cxRn f) (c1 (c1 (tailN 4 Brn))) [(1, .sl insE l [] .may), (2, .int .i64 n), (4, .ptr 0 0), (9, .ptr 1 0), (10, .ptr 8 0), (11, .ptr 15 0)] H).bind (cutK [1, 2, 4, 9, 10, 11, 12])).run = some (.normal, rnT l n 0, H) := by kernel_rfl
noncomputable def rnEnd (f : OutFn) (s : CpuT) (A B C D E : List Int) : Option V := ((dcode (cxRn f) (tailN 5 Brn) [(9, .ptr 1 0), (10, .ptr 8 0)] (rnH s s A B C D E)).bind (answer Tryz.prog Tryz.f7.results.toList)).fin
def strP (l : List Int) : List UInt8 := (List.take 4096 (List.drop 0 l)).map fun n => UInt8.ofNat n.toNat
def pgOk (L : Bool) (A : List Int) (r : Option V) : Option V :=
  cond (true && L) (cond (true && L) (cond (true && (true && Nat.ble 4096 A.length)) (cond (true && (true && Nat.ble 4096 A.length)) (cond (!(strEq (strP A) (strP A))) (some (.bool false)) r) none) none) none) none
theorem rn_end (f : OutFn) (s : CpuT) (A B C D E : List Int) : rnEnd f s A B C D E =
    cond (true && lens5 A B C D E) (pgOk (lens5 A B C D E) A (pgOk (lens5 A B C D E) B (pgOk (lens5 A B C D E) C (pgOk (lens5 A B C D E) D (pgOk (lens5 A B C D E) E (some (.bool true))))))) none := by kernel_rfl
theorem answer_post {fn : Func} {s : St} {v : V} (h : (answer Tryz.prog fn.results.toList s).run = some v) : (s.1 = .ret ∨ s.1 = .normal) ∧ answerV Tryz.prog fn.results.toList s.2.2 s.2.1 = some v := by
  obtain ⟨e, t, H⟩ := s
  unfold answer at h
  split at h
  · rename_i heq
    cases heq
    split at h
    · rename_i v hv
      cases h
      exact ⟨.inl rfl, hv⟩
    · cases h
  · rename_i heq
    cases heq
    split at h
    · rename_i v hv
      cases h
      exact ⟨.inr rfl, hv⟩
    · cases h
  · cases h
def FOk (f : OutFn) : Prop := ∀ nm s a b c d m sz A B C D E, Fine s → lens5 A B C D E = true → Go.Amd.i64r m = true →
  Fine (f nm s a b c d m sz A B C D E).s ∧ lens5 (f nm s a b c d m sz A B C D E).A (f nm s a b c d m sz A B C D E).B (f nm s a b c d m sz A B C D E).C (f nm s a b c d m sz A B C D E).D (f nm s a b c d m sz A B C D E).E = true
structure RnSt where
  k : Nat
  s : CpuT
  A : List Int
  B : List Int
  C : List Int
  D : List Int
  E : List Int
  hk : k ≤ 80
  hs : Fine s
  hl : lens5 A B C D E = true
def rnSt (l : List insE.ty) (n : Int) (i : RnSt) : T × List O := (rnT l n i.k, rnH i.s i.s i.A i.B i.C i.D i.E)
theorem cxRn_ok {f : OutFn} (h1 : MSound Tryz.prog 11 (runS f)) (h2 : MSound Tryz.prog 18 (refS f)) : CxOk (cxRn f) :=
  ⟨.cons Go.Amd.begunS_ok (.nil _), .cons h1 (.cons h2 (.cons worldD_ok (myT_ok 1).2.1)), (myT_ok 1).2.2⟩
theorem pgOk_true {A : List Int} (hA : A.length = 4096) (r : Option V) : pgOk true A r = r := by
  unfold pgOk
  have e : strEq (strP A) (strP A) = true := beq_self_eq_true _
  rw [e, hA]
  rfl
theorem myEnd {A B C D E : List Int} (hl : lens5 A B C D E = true) : cond (true && lens5 A B C D E) (pgOk (lens5 A B C D E) A (pgOk (lens5 A B C D E) B (pgOk (lens5 A B C D E) C (pgOk (lens5 A B C D E) D (pgOk (lens5 A B C D E) E (some (.bool true))))))) none = some (V.bool true) := by
  obtain ⟨l1, l2, l3, l4, l5⟩ := lens5_spec hl
  rw [hl, pgOk_true l1, pgOk_true l2, pgOk_true l3, pgOk_true l4, pgOk_true l5]
  rfl
set_option maxRecDepth 8000 in
theorem runs_law {f : OutFn} (hf : FOk f) (h1 : MSound Tryz.prog 11 (runS f)) (h2 : MSound Tryz.prog 18 (refS f)) {s : CpuT} (hs : Fine s) (l : List insE.ty) (hi : ∀ k : Int, Go.Amd.i64r (insA l k).2.2.2.2.2 = true) (n : Int) (m : List Int) (hm : m.all byteB = true) :
    PCall Tryz.prog 7 [.agg s.l, .sl insE l [] .may, .int .i64 n, .sl (.int .u8) m [] .may] (.bool true) := by
  have hok := cxRn_ok h1 h2
  have hts : tabS s = s := cpu_tab hs.len
  rw [← hts]
  refine pcall_of' (c := Brn) (fn := Tryz.f7) (by kernel_rfl) (by kernel_rfl) (by kernel_rfl) (by kernel_rfl) ?_
  refine AWP_headE (cx := cxRn f) rfl rfl hok 4 (by kernel_rfl) (rn_head f s l n m) ?_
  refine ⟨fun _ => ⟨.inl rfl, by kernel_rfl⟩, fun hx => ?_⟩
  have hx := of_decide_eq_false hx
  have hm : setB m = true := by
    unfold setB
    rw [hm, decide_eq_true (by omega)]
    rfl
  refine all_t (by rw [Bool.true_and]; exact hm) ?_
  show AWP _ _ _ _ _ _
  refine AWP.less (s := [(1, .sl insE l [] .may), (2, .int .i64 n), (4, .ptr 0 0), (9, .ptr 1 0), (10, .ptr 8 0), (11, .ptr 15 0)]) (Fits.tle ⟨rfl, rfl, rfl, rfl, rfl, rfl, trivial⟩) ?_
  have eb : tailN 4 Brn = .seq (.seq (c1 (c1 (tailN 4 Brn))) (.block 0 (.loop (cin (cin (c2 (c1 (tailN 4 Brn)))))))) (tailN 5 Brn) := by kernel_rfl
  rw [eb]
  have hl := lens5_wd (l := []) rfl hm lens_zeros
  generalize wdK 1 [] m zeros = A at hl
  generalize wdK 2 [] m zeros = B at hl
  generalize wdK 16 [] m zeros = C at hl
  generalize wdK 17 [] m zeros = D at hl
  generalize wdK 32 [] m zeros = E at hl
  obtain ⟨r, g1, g2⟩ := Option.map_eq_some_iff.1 ((cutK_run _ _).symm.trans (rn_start f l n (rnH s s A B C D E)))
  refine AWP_seq (AWP_seq (AWP_run (cx := cxRn f) rfl rfl hok g1 ?_))
  obtain ⟨ex, t, H⟩ := r
  simp only [Prod.mk.injEq] at g2
  obtain ⟨rfl, g2, rfl⟩ := g2
  refine AWP_block (AWP.less (s := rnT l n 0) (g2 ▸ TLe.keep _ _) ?_)
  refine AWP_roundsK (cx := cxRn f) (P := Tryz.prog) (n := 82) rfl rfl hok (rnSt l n) (fun i => 80 - i.k) [] [1, 2, 4, 9, 10, 11, 12] ?_ ⟨0, s, A, B, C, D, E, by omega, hs, hl⟩
  rintro ⟨k, s, A, B, C, D, E, hk, hs, hl⟩
  refine Tree.all_run_eq (rnRound_eq f l n k s A B C D E) ?_
  have hts : tabS s = s := cpu_tab hs.len
  have hfb : (fineB (tabS s) && Go.Amd.i64r (insA l (k : Int)).2.2.2.2.2) = true := by rw [hts, fineB_of hs, hi]; rfl
  have hend : RoundK (rnSt l n) (fun i => 80 - i.k) [1, 2, 4, 9, 10, 11, 12] (blockQ 0 (seqQ (AWP Tryz.prog 82 (tailN 5 Brn) fun e t H => (e = .ret ∨ e = .normal) ∧ answerV Tryz.prog Tryz.f7.results.toList H t = some (.bool true)) fun e t H => (e = .ret ∨ e = .normal) ∧ answerV Tryz.prog Tryz.f7.results.toList H t = some (.bool true)))
      ⟨k, s, A, B, C, D, E, hk, hs, hl⟩ (.exit 0, rnT l n k, rnH s s A B C D E) := by
    intro t ht
    have ht : rnT l n k = keep [1, 2, 4, 9, 10, 11, 12] t := ht
    show AWP _ _ _ _ _ _
    refine AWP.less (s := rnT l n k) (ht ▸ TLe.keep _ _) ?_
    refine AWP.less (s := [(9, .ptr 1 0), (10, .ptr 8 0)]) (Fits.tle ⟨rfl, rfl, trivial⟩) ?_
    have he := (rn_end f s A B C D E).trans (myEnd hl)
    unfold rnEnd at he
    rw [Tree.fin_run] at he
    obtain ⟨r, q1, q2⟩ := bind_run he
    refine AWP_run (cx := cxRn f) rfl rfl hok q1 ?_
    exact answer_post q2
  refine ⟨fun hlt => ⟨fun hlt2 => ?_, fun _ => hend⟩, fun _ => hend⟩
  have hlt := of_decide_eq_true hlt
  have hlt2 := of_decide_eq_true hlt2
  have hin := inside_of (i := (k : Int)) (n := l.length) (by omega) hlt
  refine all_t hin (all_t (by rw [hl]; rfl) (all_t hfb (all_t hin (all_t (by rw [hl]; rfl) (all_t hfb ?_)))))
  refine all_f (by rw [eqS_self]; rfl) (all_f (bne_self_eq_false _) (all_f (bne_self_eq_false _) ?_))
  rw [hts]
  obtain ⟨f1, f2⟩ := hf (insA l k).1 s (insA l k).2.1 (insA l k).2.2.1 (insA l k).2.2.2.1 (insA l k).2.2.2.2.1 (insA l k).2.2.2.2.2 n A B C D E hs hl (hi _)
  refine ⟨⟨k + 1, _, _, _, _, _, _, by omega, f1, f2⟩, by show 80 - (k + 1) < 80 - k; omega, ?_, rfl⟩
  rw [wrap_i64 (by omega) (by omega)]
  exact TLe.refl _
end Go.Ra

namespace Go.Ra
open Go Go.Ab Go.Proofs
theorem outA_ok : FOk outA := fun nm s a b c d m sz A B C D E hs hl hm => by
  obtain ⟨h1, h2, _⟩ := outA_is nm hs a b c d m sz hl hm
  exact ⟨h1, h2⟩
theorem argR (x : EC.tys [cpuE, .sl insE, .int .i64, .sl (.int .u8)]) : argVs [cpuE, .sl insE, .int .i64, .sl (.int .u8)] x = [.agg (cpuA x.1).l, .sl insE (x.2.1.getD []) [] .may, .int .i64 x.2.2.1, .sl (.int .u8) (x.2.2.2.getD []) [] .may] := by kernel_rfl
theorem has_i64 {y : Int} (h : IntKind.i64.has y) : Go.Amd.i64r y = true := by
  have e1 : IntKind.i64.min = -9223372036854775808 ∧ IntKind.i64.max = 9223372036854775807 := ⟨rfl, rfl⟩
  unfold IntKind.has at h
  rw [e1.1, e1.2] at h
  simp only [Go.Amd.i64r, Bool.and_eq_true, decide_eq_true_eq]
  omega
theorem ins_ok {o : (EC.sl insE).ty} (h : okE (.sl insE) o) (k : Int) : Go.Amd.i64r (insA (o.getD []) k).2.2.2.2.2 = true := by
  cases o with
  | none => rfl
  | some l =>
    show Go.Amd.i64r (l.getD k.toNat insE.dflt).2.2.2.2.2 = true
    rw [List.getD_eq_getElem?_getD]
    cases hk : l[k.toNat]? with
    | none => rfl
    | some y => exact has_i64 (h.2 y (List.mem_of_getElem? hk)).2.2.2.2.2
theorem runs_call (x : EC.tys [cpuE, .sl insE, .int .i64, .sl (.int .u8)]) (h : okEs [cpuE, .sl insE, .int .i64, .sl (.int .u8)] x) : PCall Tryz.prog 7 (argVs [cpuE, .sl insE, .int .i64, .sl (.int .u8)] x) (.bool true) := by
  rw [argR]
  exact runs_law outA_ok runA_ok refA_ok (cpuA_fine h.1) _ (ins_ok h.2.1) _ _ (ok_bytes h.2.2.2)
end Go.Ra
