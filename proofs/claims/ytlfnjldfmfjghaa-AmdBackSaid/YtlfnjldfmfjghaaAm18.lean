/-
  The row whose prefixes and opcode were taken: its contract. Conditions: none.
-/
import Derived.Test.YtlfnjldfmfjghaaAm17
namespace Go.Amd
open Go Go.Ab Go.Proofs

section
variable {l sp : List Int} {fl : Fl} {k R : Int} {op : List Int} {fs has : Bool}

/-- Behind the first loop, where rows were found. -/
theorem chosen_tail {G : List RowT} {r0 : RowT} (hG : ∀ r ∈ r0 :: G, r ∈ rowsL) (hlen : (r0 :: G).length ≤ 58) (k0 : 0 ≤ k) (k1 : k < 1000000000) (hl : l.length < 1000000000) {res : Res}
    (hres : (Tree.br (modOf (formR r0)) (.br (decide ((l.length : Nat) ≤ k)) (.leaf (.pan (fltV 2) [wkO l sp fl k fs R has])) (fitT l sp fl (k + 1) R (l.getD k.toNat 0) fs has (r0 :: G)))
      (.leaf (.ok (.tup [.agg (rowL r0), .int .u8 0]) [wkO l sp fl k fs R has, rO r0]))).run = some res) :
    AWP Try.prog 65 T3 (chQ res) (t3S (.gro 2 rowE (r0 :: G))) (H3 l sp fl k R fs has (r0 :: G) zeroR) := by
  refine AWP_headE (cx := cxCh) rfl rfl cxCh_ok 1 (by kernel_rfl) (chT_eq l sp fl k R fs has (r0 :: G)) ?_
  have hpos : decide (0 < (((r0 :: G).length : Nat) : Int)) = true := decide_eq_true (by rw [List.length_cons]; omega)
  have hin : inside 0 (r0 :: G).length = true := inside_of (by omega) (by rw [List.length_cons]; omega)
  have h0 : rowAt (r0 :: G) 0 = r0 := rfl
  refine ⟨fun h => (by rw [hpos] at h; cases h), fun _ => all_t hin (all_t (cand_fine hG List.mem_cons_self) ⟨fun hm => all_t hin ?_, fun hm => ?_⟩)⟩
  · -- no ModRM
    have hm : modOf (formR r0) = false := by simpa [h0] using hm
    rw [hm] at hres
    simp only [Tree.run, cond_false, Option.some.injEq] at hres
    subst hres
    exact ⟨[1], (.ret, [(0, .ptr 0 0), (4, .ptr 1 0), (5, .int .u8 0), (6, .any), (39, .bool true)], [wkO l sp fl k fs R has, rO r0]), by kernel_rfl, .inl rfl, rfl, by kernel_rfl⟩
  · have hm : modOf (formR r0) = true := by simpa [h0] using hm
    rw [hm, br_run, cond_true] at hres
    show AWP _ _ _ _ _ _
    refine AWP.less (s := t3S (.gro 2 rowE (r0 :: G))) (Fits.tle ⟨rfl, rfl, rfl, rfl, trivial⟩) ?_
    refine AWP_headE (cx := cxCh) rfl rfl cxCh_ok 0 (by kernel_rfl) (chN_eq l sp fl k R fs has (r0 :: G)) ?_
    have w1 : IntKind.wrap .i64 (k + 1) = k + 1 := wrap_i64 (by omega) (by omega)
    have w2 : IntKind.wrap .i64 (IntKind.wrap .i64 (k + 1) - 1) = k := by rw [w1, wrap_i64 (by omega) (by omega)]; omega
    refine ⟨fun hs => ?_, fun hs => ?_⟩
    · rw [hs] at hres
      simp only [Tree.run, cond_true, Option.some.injEq] at hres
      subst hres
      exact ⟨[], (.panic (fltV 2), [(0, .ptr 0 0), (4, .any), (5, .int .u8 0), (6, .any), (43, .ptr 0 0)], [wkO l sp fl k fs R has]), by kernel_rfl, rfl, rfl⟩
    · rw [hs] at hres
      rw [br_run, cond_false] at hres
      have hk : k < (l.length : Int) := by have := of_decide_eq_false hs; omega
      rw [w2, w1]
      refine all_t (inside_of k0 hk) ?_
      show AWP _ _ _ _ _ _
      exact chosen_fit _ hG hlen hres

theorem filter_take {p : RowT → Bool} {i : Nat} (hi : i < rowsL.length) : (rowsL.take (i + 1)).filter p = (rowsL.take i).filter p ++ (cond (p (rowAt rowsL i)) [rowAt rowsL i] []) := by
  rw [List.take_add_one, List.filter_append]
  congr 1
  rw [List.getElem?_eq_getElem hi]
  have : rowAt rowsL i = rowsL[i] := getD_lt hi
  rw [this]
  cases h : p rowsL[i] <;> simp [h]

def slotG (G : List RowT) : V := match G with
  | [] => nilV
  | _ :: _ => .gro 2 rowE G
def tokG (G : List RowT) : List O := match G with
  | [] => []
  | _ :: _ => [.tok G.length 9]

/-- Where the first loop stands. -/
def chSt (l sp : List Int) (fl : Fl) (k R : Int) (op : List Int) (fs has : Bool) (j : { j : Nat // j ≤ 58 }) : T × List O :=
  (t1S op rowsL (slotG ((rowsL.take j.1).filter (cand op fs R has))) (j.1 : Int), [wkO l sp fl k fs R has, rO zeroR] ++ tokG ((rowsL.take j.1).filter (cand op fs R has)))

theorem chosen_ok (hop : opLen op = true) (k0 : 0 ≤ k) (k1 : k < 1000000000) (hl : l.length < 1000000000) {res : Res} (hres : (chosenT l sp fl k R op fs has).run = some res) :
    MCall Try.prog 53 [.ptr 0 0, opV op] [wkO l sp fl k fs R has] res := by
  refine mcall_of' (c := Bch) (fn := Try.f53) (by kernel_rfl) (by kernel_rfl) (by kernel_rfl) (by kernel_rfl) ?_
  refine AWP_scope ?_
  show AWP _ _ _ (chQ res) _ _
  have e : Bch = .seq (c1 Bch) (.seq (c1 (c2 Bch)) (.seq (.seq (c1 (c1 (c2 (c2 Bch)))) (.block 0 (.loop rnd1))) T3)) := by kernel_rfl
  rw [e]
  have hlen := rowsL_len
  refine AWP_seq (AWP_run (cx := cxCh) rfl rfl cxCh_ok (s := (.normal, [(0, .ptr 0 0), (1, opV op), (4, .ptr 1 0), (5, .int .u8 0)], [wkO l sp fl k fs R has, rO zeroR])) (by kernel_rfl) ?_)
  refine AWP_seq (AWP_run (cx := cxCh) rfl rfl cxCh_ok (s := (.normal, [(0, .ptr 0 0), (1, opV op), (4, .ptr 1 0), (5, .int .u8 0), (6, nilV)], [wkO l sp fl k fs R has, rO zeroR])) (by kernel_rfl) ?_)
  refine AWP_seq (AWP_seq (AWP_run (cx := cxCh) rfl rfl cxCh_ok (s := (.normal, t1S op rowsL nilV 0, [wkO l sp fl k fs R has, rO zeroR])) (by kernel_rfl) ?_))
  refine AWP_block ?_
  have hst : ([wkO l sp fl k fs R has, rO zeroR] : List O) = [wkO l sp fl k fs R has, rO zeroR] ++ tokG ((rowsL.take 0).filter (cand op fs R has)) := rfl
  refine AWP.less (s := t1S op rowsL (slotG ((rowsL.take 0).filter (cand op fs R has))) ((0 : Nat) : Int)) (Fits.tle ⟨rfl, rfl, rfl, rfl, rfl, rfl, rfl, rfl, trivial⟩) ?_
  rw [hst]
  refine AWP_rounds (cx := cxCh) (P := Try.prog) (n := 65) rfl rfl cxCh_ok (chSt l sp fl k R op fs has) (fun j => 58 - j.1) ?_ ⟨0, Nat.zero_le _⟩
  rintro ⟨j, hj⟩
  have step : ∀ hlt : j < rowsL.length, V.int .i64 (IntKind.wrap .i64 ((j : Int) + 1)) = V.int .i64 ((j + 1 : Nat) : Int) := fun hlt => by
    rw [wrap_i64 (by omega) (by omega)]
    rfl
  have hform : j < rowsL.length → formOk (rowAt rowsL j) = true := fun hlt => List.all_eq_true.1 rows_forms _ (by show rowsL.getD j zeroR ∈ rowsL; rw [getD_lt hlt]; exact List.getElem_mem hlt)
  have hmem : ∀ r ∈ (rowsL.take j).filter (cand op fs R has), r ∈ rowsL := fun r hr => List.mem_of_mem_take (List.mem_filter.1 hr).1
  have hle : ((rowsL.take j).filter (cand op fs R has)).length ≤ 58 := Nat.le_trans (List.length_filter_le _ _) (by rw [List.length_take]; omega)
  have hall : j = rowsL.length → (rowsL.take j).filter (cand op fs R has) = cands R op fs has := fun h => by rw [h, List.take_length]; rfl
  have hnext := fun hlt => filter_take (p := cand op fs R has) (i := j) hlt
  generalize hG : (rowsL.take j).filter (cand op fs R has) = G at hmem hle hall hnext
  have hS : chSt l sp fl k R op fs has ⟨j, hj⟩ = (t1S op rowsL (slotG G) (j : Int), [wkO l sp fl k fs R has, rO zeroR] ++ tokG G) := by unfold chSt; rw [hG]
  have hS1 : ∀ (h : j + 1 ≤ 58) (G' : List RowT), (rowsL.take (j + 1)).filter (cand op fs R has) = G' → chSt l sp fl k R op fs has ⟨j + 1, h⟩ = (t1S op rowsL (slotG G') ((j + 1 : Nat) : Int), [wkO l sp fl k fs R has, rO zeroR] ++ tokG G') := by
    intro h G' hn
    unfold chSt
    rw [hn]
  have hL : (chSt l sp fl k R op fs has ⟨j, hj⟩).2.length = ([wkO l sp fl k fs R has, rO zeroR] ++ tokG G).length := by rw [hS]
  cases G with
  | nil =>
    rw [hS]
    refine Tree.all_run_eq (chR1_eq l sp fl k R j op fs has rowsL) ?_
    refine ⟨fun hlt => ?_, fun hge => ?_⟩
    · have hlt : j < rowsL.length := Int.ofNat_lt.1 (of_decide_eq_true hlt)
      refine all_t (inside_of (Int.natCast_nonneg j) (Int.ofNat_lt.2 hlt)) (all_t hop (all_t (hform hlt) ⟨fun ho => all_t (hform hlt) ⟨fun hp => ?_, fun hp => ?_⟩, fun ho => ?_⟩))
      · have hn : (rowsL.take (j + 1)).filter (cand op fs R has) = [rowAt rowsL j] := by
          rw [hnext hlt, show cand op fs R has (rowAt rowsL j) = true from by unfold cand; rw [show opensF (rowAt rowsL j) op = true from ho]; exact hp]
          rfl
        refine ⟨[4], (.normal, [(0, .ptr 0 0), (1, opV op), (4, .ptr 1 0), (5, .int .u8 0), (6, .gro 2 rowE [rowAt rowsL j]), (8, .any), (12, .sl rowE rowsL [] .ro), (13, .int .i64 rowsL.length), (14, .int .i64 (IntKind.wrap .i64 ((j : Int) + 1))), (15, .bool true), (25, .bool true)], [wkO l sp fl k fs R has, rO zeroR, .tok 1 9]), (by rw [hL]; kernel_rfl),
          ⟨j + 1, by omega⟩, by show 58 - (j + 1) < 58 - j; omega, ?_, ?_⟩
        · rw [hS1 _ _ hn]
          exact Fits.tle ⟨rfl, rfl, rfl, rfl, rfl, rfl, rfl, step hlt, trivial⟩
        · rw [hS1 _ _ hn]
          rfl
      · have hn : (rowsL.take (j + 1)).filter (cand op fs R has) = [] := by
          rw [hnext hlt, show cand op fs R has (rowAt rowsL j) = false from by unfold cand; rw [show opensF (rowAt rowsL j) op = true from ho]; exact hp]
          rfl
        refine ⟨[], (.normal, [(0, .ptr 0 0), (1, opV op), (4, .ptr 1 0), (5, .int .u8 0), (6, nilV), (8, .any), (12, .sl rowE rowsL [] .ro), (13, .int .i64 rowsL.length), (14, .int .i64 (IntKind.wrap .i64 ((j : Int) + 1))), (15, .bool true), (25, .bool false)], [wkO l sp fl k fs R has, rO zeroR]), (by rw [hL]; kernel_rfl),
          ⟨j + 1, by omega⟩, by show 58 - (j + 1) < 58 - j; omega, ?_, ?_⟩
        · rw [hS1 _ _ hn]
          exact Fits.tle ⟨rfl, rfl, rfl, rfl, rfl, rfl, rfl, step hlt, trivial⟩
        · rw [hS1 _ _ hn]
          rfl
      · have hn : (rowsL.take (j + 1)).filter (cand op fs R has) = [] := by
          rw [hnext hlt, show cand op fs R has (rowAt rowsL j) = false from by unfold cand; rw [show opensF (rowAt rowsL j) op = false from ho]; rfl]
          rfl
        refine ⟨[], (.normal, [(0, .ptr 0 0), (1, opV op), (4, .ptr 1 0), (5, .int .u8 0), (6, nilV), (8, .any), (12, .sl rowE rowsL [] .ro), (13, .int .i64 rowsL.length), (14, .int .i64 (IntKind.wrap .i64 ((j : Int) + 1))), (15, .bool true), (25, .bool false)], [wkO l sp fl k fs R has, rO zeroR]), (by rw [hL]; kernel_rfl),
          ⟨j + 1, by omega⟩, by show 58 - (j + 1) < 58 - j; omega, ?_, ?_⟩
        · rw [hS1 _ _ hn]
          exact Fits.tle ⟨rfl, rfl, rfl, rfl, rfl, rfl, rfl, step hlt, trivial⟩
        · rw [hS1 _ _ hn]
          rfl
    · have hge : ¬ j < rowsL.length := fun h => of_decide_eq_false hge (Int.ofNat_lt.2 h)
      have hc := hall (by omega)
      unfold chosenT at hres
      rw [← hc] at hres
      simp only [Tree.run, Option.some.injEq] at hres
      subst hres
      refine ⟨[], (.exit 0, t1E op rowsL nilV (j : Int), [wkO l sp fl k fs R has, rO zeroR]), (by rw [hL]; kernel_rfl), ?_⟩
      show AWP _ _ _ _ _ _
      refine AWP.less (s := t3S nilV) (Fits.tle ⟨rfl, rfl, rfl, rfl, trivial⟩) ?_
      have e3 : T3 = .seq (c1 T3) (c2 T3) := by kernel_rfl
      rw [e3]
      refine AWP_seq (AWP_run (cx := cxCh) rfl rfl cxCh_ok (s := (.panic (fltV 22), [(0, .ptr 0 0), (4, .ptr 1 0), (5, .int .u8 0), (6, nilV), (31, nilV), (32, .int .i64 0), (33, .bool false)], [wkO l sp fl k fs R has, rO zeroR])) (by kernel_rfl) ?_)
      exact ⟨[], (.panic (fltV 22), [(0, .ptr 0 0), (4, .any), (5, .int .u8 0), (6, nilV), (31, nilV), (32, .int .i64 0), (33, .bool false)], [wkO l sp fl k fs R has]), by kernel_rfl, rfl, rfl⟩
  | cons g G =>
    rw [hS]
    refine Tree.all_run_eq (chR2_eq l sp fl k R j op fs has rowsL (g :: G)) ?_
    refine ⟨fun hlt => ?_, fun hge => ?_⟩
    · have hlt : j < rowsL.length := Int.ofNat_lt.1 (of_decide_eq_true hlt)
      refine all_t (inside_of (Int.natCast_nonneg j) (Int.ofNat_lt.2 hlt)) (all_t hop (all_t (hform hlt) ⟨fun ho => all_t (hform hlt) ⟨fun hp => ?_, fun hp => ?_⟩, fun ho => ?_⟩))
      · have hn : (rowsL.take (j + 1)).filter (cand op fs R has) = g :: G ++ [rowAt rowsL j] := by
          rw [hnext hlt, show cand op fs R has (rowAt rowsL j) = true from by unfold cand; rw [show opensF (rowAt rowsL j) op = true from ho]; exact hp]
          rfl
        have hroom : (decide ((g :: G).length = (g :: G).length) && roomy ((g :: G).length + 1) 80) = true := by
          rw [decide_eq_true rfl, Bool.true_and]
          exact decide_eq_true (by omega)
        refine all_t hroom ?_
        refine ⟨[], (.normal, [(0, .ptr 0 0), (1, opV op), (4, .ptr 1 0), (5, .int .u8 0), (6, .gro 2 rowE (g :: G ++ [rowAt rowsL j])), (8, .any), (12, .sl rowE rowsL [] .ro), (13, .int .i64 rowsL.length), (14, .int .i64 (IntKind.wrap .i64 ((j : Int) + 1))), (15, .bool true), (25, .bool true)], [wkO l sp fl k fs R has, rO zeroR, .tok ((g :: G).length + 1) 9]), (by rw [hL]; kernel_rfl),
          ⟨j + 1, by omega⟩, by show 58 - (j + 1) < 58 - j; omega, ?_, ?_⟩
        · rw [hS1 _ _ hn]
          exact Fits.tle ⟨rfl, rfl, rfl, rfl, rfl, rfl, rfl, step hlt, trivial⟩
        · rw [hS1 _ _ hn]
          show [wkO l sp fl k fs R has, rO zeroR, O.tok ((g :: G).length + 1) 9] = [wkO l sp fl k fs R has, rO zeroR, O.tok (g :: G ++ [rowAt rowsL j]).length 9]
          rw [List.length_append]
          rfl
      · have hn : (rowsL.take (j + 1)).filter (cand op fs R has) = g :: G := by
          rw [hnext hlt, show cand op fs R has (rowAt rowsL j) = false from by unfold cand; rw [show opensF (rowAt rowsL j) op = true from ho]; exact hp]
          exact List.append_nil _
        refine ⟨[], (.normal, [(0, .ptr 0 0), (1, opV op), (4, .ptr 1 0), (5, .int .u8 0), (6, .gro 2 rowE (g :: G)), (8, .any), (12, .sl rowE rowsL [] .ro), (13, .int .i64 rowsL.length), (14, .int .i64 (IntKind.wrap .i64 ((j : Int) + 1))), (15, .bool true), (25, .bool false)], [wkO l sp fl k fs R has, rO zeroR, .tok (g :: G).length 9]), (by rw [hL]; kernel_rfl),
          ⟨j + 1, by omega⟩, by show 58 - (j + 1) < 58 - j; omega, ?_, ?_⟩
        · rw [hS1 _ _ hn]
          exact Fits.tle ⟨rfl, rfl, rfl, rfl, rfl, rfl, rfl, step hlt, trivial⟩
        · rw [hS1 _ _ hn]
          rfl
      · have hn : (rowsL.take (j + 1)).filter (cand op fs R has) = g :: G := by
          rw [hnext hlt, show cand op fs R has (rowAt rowsL j) = false from by unfold cand; rw [show opensF (rowAt rowsL j) op = false from ho]; rfl]
          exact List.append_nil _
        refine ⟨[], (.normal, [(0, .ptr 0 0), (1, opV op), (4, .ptr 1 0), (5, .int .u8 0), (6, .gro 2 rowE (g :: G)), (8, .any), (12, .sl rowE rowsL [] .ro), (13, .int .i64 rowsL.length), (14, .int .i64 (IntKind.wrap .i64 ((j : Int) + 1))), (15, .bool true), (25, .bool false)], [wkO l sp fl k fs R has, rO zeroR, .tok (g :: G).length 9]), (by rw [hL]; kernel_rfl),
          ⟨j + 1, by omega⟩, by show 58 - (j + 1) < 58 - j; omega, ?_, ?_⟩
        · rw [hS1 _ _ hn]
          exact Fits.tle ⟨rfl, rfl, rfl, rfl, rfl, rfl, rfl, step hlt, trivial⟩
        · rw [hS1 _ _ hn]
          rfl
    · have hge : ¬ j < rowsL.length := fun h => of_decide_eq_false hge (Int.ofNat_lt.2 h)
      have hc := hall (by omega)
      unfold chosenT at hres
      rw [← hc] at hres
      refine ⟨[], (.exit 0, t1E op rowsL (.gro 2 rowE (g :: G)) (j : Int), [wkO l sp fl k fs R has, rO zeroR, .tok (g :: G).length 9]), (by rw [hL]; kernel_rfl), ?_⟩
      show AWP _ _ _ _ _ _
      refine AWP.less (s := t3S (.gro 2 rowE (g :: G))) (Fits.tle ⟨rfl, rfl, rfl, rfl, trivial⟩) ?_
      exact chosen_tail hmem hle k0 k1 hl hres

end
end Go.Amd
