/-
  The row whose prefixes and opcode were taken. Conditions: none.
-/
import Derived.Test.YtlfnjldfmfjghaaAm16
namespace Go.Amd
open Go Go.Ab Go.Proofs

noncomputable abbrev T3 : Code := c2 (c2 (c2 Bch))
noncomputable abbrev rnd2 : Code := cin (cin (c2 (c1 (tailN 2 T3))))
/-- What goes up, by its number. -/
abbrev fltV (e : Int) : V := .ifc 60 (.agg [.int .i64 e])

section
variable (l sp : List Int) (fl : Fl) (k R i c : Int) (op : List Int) (fs has : Bool) (G : List RowT)

abbrev t3S (g : V) : T := [(0, .ptr 0 0), (4, .ptr 1 0), (5, .int .u8 0), (6, g)]
abbrev H3 (r : RowT) : List O := [wkO l sp fl k fs R has, rO r, .tok G.length 9]
def chT : Tree St :=
  .br (!decide (0 < (G.length : Int))) (.leaf (.panic (fltV 22), [(0, .ptr 0 0), (4, .ptr 1 0), (5, .int .u8 0), (6, .gro 2 rowE G), (31, .gro 2 rowE G), (32, .int .i64 (G.length : Nat)), (33, .bool (decide (0 < (G.length : Int))))], H3 l sp fl k R fs has G zeroR))
    (.br (inside 0 G.length) (.br (formOk (rowAt G 0)) (.br (!modOf (formR (rowAt G 0))) (.br (inside 0 G.length) (.leaf (.ret, [(0, .ptr 0 0), (4, .ptr 1 0), (5, .int .u8 0), (6, .gro 2 rowE G), (39, .bool true)], H3 l sp fl k R fs has G (rowAt G 0))) .fail)
      (.leaf (.normal, [(0, .ptr 0 0), (4, .ptr 1 0), (5, .int .u8 0), (6, .gro 2 rowE G), (39, .bool false)], H3 l sp fl k R fs has G zeroR))) .fail) .fail)
theorem chT_eq : (dcode cxCh (headN 1 T3) (t3S (.gro 2 rowE G)) (H3 l sp fl k R fs has G zeroR)).run = (chT l sp fl k R fs has G).run :=
  (show _ = (chT l sp fl k R fs has G).out by kernel_rfl).trans (Tree.out_run _)
def chN : Tree St :=
  .br (decide ((l.length : Nat) ≤ k)) (.leaf (.panic (fltV 2), [(0, .ptr 0 0), (4, .ptr 1 0), (5, .int .u8 0), (6, .gro 2 rowE G), (43, .ptr 0 0)], H3 l sp fl k R fs has G zeroR))
    (.br (inside (IntKind.wrap .i64 (IntKind.wrap .i64 (k + 1) - 1)) l.length) (.leaf (.normal, [(0, .ptr 0 0), (4, .ptr 1 0), (5, .int .u8 0), (6, .gro 2 rowE G), (9, .int .u8 (l.getD (Int.toNat (IntKind.wrap .i64 (IntKind.wrap .i64 (k + 1) - 1))) 0))], H3 l sp fl (IntKind.wrap .i64 (k + 1)) R fs has G zeroR)) .fail)
theorem chN_eq : (dcode cxCh (headN 0 (tailN 1 T3)) (t3S (.gro 2 rowE G)) (H3 l sp fl k R fs has G zeroR)).run = (chN l sp fl k R fs has G).run :=
  (show _ = (chN l sp fl k R fs has G).out by kernel_rfl).trans (Tree.out_run _)
/-- Does a row have this ModRM? -/
def fitC (c : Int) (r : RowT) : Bool := fitF r (Int.fdiv c (2 ^ 6)) (and8 (Int.fdiv c (2 ^ 3)) 7) (and8 c 7)
abbrev t4S (j : Int) : T := [(0, .ptr 0 0), (4, .ptr 1 0), (5, .int .u8 0), (9, .int .u8 c), (45, .gro 2 rowE G), (46, .int .i64 (G.length : Nat)), (47, .int .i64 j)]
def chR3 : Tree St :=
  .br (decide (i < (G.length : Nat))) (.br (inside i G.length) (.br (formOk (rowAt G i.toNat)) (.br (fitC c (rowAt G i.toNat))
    (.leaf (.ret, [(0, .ptr 0 0), (4, .ptr 1 0), (5, .int .u8 c), (9, .int .u8 c), (11, .ptr 3 0), (45, .gro 2 rowE G), (46, .int .i64 (G.length : Nat)), (47, .int .i64 i), (48, .bool true), (59, .bool true)], H3 l sp fl k R fs has G (rowAt G i.toNat) ++ [rO (rowAt G i.toNat)]))
    (.leaf (.normal, [(0, .ptr 0 0), (4, .ptr 1 0), (5, .int .u8 0), (9, .int .u8 c), (11, .ptr 3 0), (45, .gro 2 rowE G), (46, .int .i64 (G.length : Nat)), (47, .int .i64 (IntKind.wrap .i64 (i + 1))), (48, .bool true), (59, .bool false)], H3 l sp fl k R fs has G zeroR ++ [rO (rowAt G i.toNat)]))) .fail) .fail)
    (.leaf (.exit 2, [(0, .ptr 0 0), (4, .ptr 1 0), (5, .int .u8 0), (9, .int .u8 c), (45, .gro 2 rowE G), (46, .int .i64 (G.length : Nat)), (47, .int .i64 i), (48, .bool false)], H3 l sp fl k R fs has G zeroR))
theorem chR3_eq : (dcode cxCh rnd2 (t4S c G i) (H3 l sp fl k R fs has G zeroR)).run = (chR3 l sp fl k R i c fs has G).run :=
  (show _ = (chR3 l sp fl k R i c fs has G).out by kernel_rfl).trans (Tree.out_run _)

/-- The first row that has this ModRM. -/
def fitT : Tree Res := match G.find? (fitC c) with
  | some r => .leaf (.ok (.tup [.agg (rowL r), .int .u8 c]) [wkO l sp fl k fs R has, rO r])
  | none => .leaf (.pan (fltV 22) [wkO l sp fl k fs R has])
/-- The rows that may be meant. -/
def cands : List RowT := rowsL.filter (cand op fs R has)
/-- The row of the opcode, and its ModRM. -/
def chosenT : Tree Res := match cands R op fs has with
  | [] => .leaf (.pan (fltV 22) [wkO l sp fl k fs R has])
  | r0 :: G => .br (modOf (formR r0)) (.br (decide ((l.length : Nat) ≤ k)) (.leaf (.pan (fltV 2) [wkO l sp fl k fs R has]))
      (fitT l sp fl (k + 1) R (l.getD k.toNat 0) fs has (r0 :: G)))
    (.leaf (.ok (.tup [.agg (rowL r0), .int .u8 0]) [wkO l sp fl k fs R has, rO r0]))

theorem cand_fine {r : RowT} {G : List RowT} (h : ∀ r ∈ G, r ∈ rowsL) (hr : r ∈ G) : formOk r = true := List.all_eq_true.1 rows_forms r (h r hr)

def chQ (r : Res) (e : AEx) (t : T) (H : List O) : Prop := ∃ κ s, dropS 1 κ (e, t, H) = some s ∧ MPost Try.prog Try.f53 r s.1 s.2.1 s.2.2

variable {l sp fl k R op fs has G}

/-- The second loop and what is behind it. -/
theorem chosen_fit (hG : ∀ r ∈ G, r ∈ rowsL) (hlen : G.length ≤ 58) {res : Res}
    (hres : (fitT l sp fl k R c fs has G).run = some res) :
    AWP Try.prog 65 (tailN 1 (c2 T3)) (chQ res) [(0, .ptr 0 0), (4, .ptr 1 0), (5, .int .u8 0), (6, .gro 2 rowE G), (9, .int .u8 c)] (H3 l sp fl k R fs has G zeroR) := by
  unfold fitT at hres
  have e : tailN 1 (c2 T3) = .seq (.seq (c1 (c1 (tailN 2 T3))) (.block 2 (.loop rnd2))) (c2 (tailN 2 T3)) := by kernel_rfl
  rw [e]
  refine AWP_seq (AWP_seq (AWP_run (cx := cxCh) rfl rfl cxCh_ok (s := (.normal, [(0, .ptr 0 0), (4, .ptr 1 0), (5, .int .u8 0), (6, .gro 2 rowE G), (9, .int .u8 c), (45, .gro 2 rowE G), (46, .int .i64 (G.length : Nat)), (47, .int .i64 0)], H3 l sp fl k R fs has G zeroR)) (by kernel_rfl) ?_))
  refine AWP_block ?_
  refine AWP.less (s := t4S c G ((0 : Nat) : Int)) (Fits.tle ⟨rfl, rfl, rfl, rfl, rfl, rfl, rfl, trivial⟩) ?_
  refine AWP_rounds (cx := cxCh) (P := Try.prog) (n := 65) rfl rfl cxCh_ok (fun j : { j : Nat // j ≤ G.length ∧ (G.take j).find? (fitC c) = none } => (t4S c G (j.1 : Int), H3 l sp fl k R fs has G zeroR)) (fun j => 58 - j.1) ?_ ⟨0, Nat.zero_le _, rfl⟩
  rintro ⟨j, hj, hnone⟩
  refine Tree.all_run_eq (chR3_eq l sp fl k R j c fs has G) ?_
  refine ⟨fun hlt => ⟨fun hin => ?_, fun hin => ?_⟩, fun hge => ?_⟩
  · have hlt : j < G.length := Int.ofNat_lt.1 (of_decide_eq_true hlt)
    have hmem : rowAt G j ∈ G := by
      show G.getD j zeroR ∈ G
      rw [getD_lt hlt]
      exact List.getElem_mem hlt
    refine all_t (cand_fine hG hmem) ⟨fun hp => ?_, fun hp => ?_⟩
    · have hf : G.find? (fitC c) = some (rowAt G j) := take_some hlt hnone hp
      rw [hf] at hres
      simp only [Tree.run, Option.some.injEq] at hres
      subst hres
      refine ⟨[], (.ret, [(0, .ptr 0 0), (4, .ptr 1 0), (5, .int .u8 c), (9, .int .u8 c), (11, .any), (45, .gro 2 rowE G), (46, .int .i64 (G.length : Nat)), (47, .int .i64 (j : Int)), (48, .bool true), (59, .bool true)], H3 l sp fl k R fs has G (rowAt G j)), by kernel_rfl, ?_⟩
      show chQ _ _ _ _
      exact ⟨[1], (.ret, [(0, .ptr 0 0), (4, .ptr 1 0), (5, .int .u8 c), (9, .int .u8 c), (11, .any), (45, .any), (46, .int .i64 (G.length : Nat)), (47, .int .i64 (j : Int)), (48, .bool true), (59, .bool true)], [wkO l sp fl k fs R has, rO (rowAt G j)]), by kernel_rfl, .inl rfl, rfl, by kernel_rfl⟩
    · have hn : (G.take (j + 1)).find? (fitC c) = none := take_none hlt hnone hp
      refine ⟨[], (.normal, [(0, .ptr 0 0), (4, .ptr 1 0), (5, .int .u8 0), (9, .int .u8 c), (11, .any), (45, .gro 2 rowE G), (46, .int .i64 (G.length : Nat)), (47, .int .i64 (IntKind.wrap .i64 ((j : Int) + 1))), (48, .bool true), (59, .bool false)], H3 l sp fl k R fs has G zeroR), by kernel_rfl,
        ⟨j + 1, hlt, hn⟩, by show 58 - (j + 1) < 58 - j; omega, Fits.tle ⟨rfl, rfl, rfl, rfl, rfl, rfl, ?_, trivial⟩, rfl⟩
      show V.int .i64 (IntKind.wrap .i64 ((j : Int) + 1)) = V.int .i64 ((j + 1 : Nat) : Int)
      rw [wrap_i64 (by omega) (by omega)]
      rfl
  · exfalso
    have hlt : j < G.length := Int.ofNat_lt.1 (of_decide_eq_true hlt)
    exact Bool.noConfusion ((inside_of (Int.natCast_nonneg j) (Int.ofNat_lt.2 hlt)).symm.trans hin)
  · have hge : ¬ j < G.length := fun h => of_decide_eq_false hge (Int.ofNat_lt.2 h)
    have hj' : j = G.length := by omega
    have hf : G.find? (fitC c) = none := by rw [← hnone, hj', List.take_length]
    rw [hf] at hres
    simp only [Tree.run, Option.some.injEq] at hres
    subst hres
    refine ⟨[], (.exit 2, [(0, .ptr 0 0), (4, .ptr 1 0), (5, .int .u8 0), (9, .int .u8 c), (45, .gro 2 rowE G), (46, .int .i64 (G.length : Nat)), (47, .int .i64 (j : Int)), (48, .bool false)], H3 l sp fl k R fs has G zeroR), by kernel_rfl, ?_⟩
    show AWP _ _ _ _ _ _
    refine AWP.less (s := [(0, .ptr 0 0), (4, .ptr 1 0), (5, .int .u8 0)]) (Fits.tle ⟨rfl, rfl, rfl, trivial⟩) ?_
    refine AWP_run (cx := cxCh) rfl rfl cxCh_ok (s := (.panic (fltV 22), [(0, .ptr 0 0), (4, .ptr 1 0), (5, .int .u8 0)], H3 l sp fl k R fs has G zeroR)) (by kernel_rfl) ?_
    exact ⟨[], (.panic (fltV 22), [(0, .ptr 0 0), (4, .any), (5, .int .u8 0)], [wkO l sp fl k fs R has]), by kernel_rfl, rfl, rfl⟩

end
end Go.Amd
