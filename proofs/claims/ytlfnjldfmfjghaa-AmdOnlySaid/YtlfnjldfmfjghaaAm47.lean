/-
  The law AmdOnly. Conditions: none.
-/
import Derived.Test.YtlfnjldfmfjghaaAmR
namespace Go.Amd
open Go Go.Ab Go.Proofs

/-- The context of foundry/foundrylaw12.AmdOnly. -/
noncomputable def cx7 : Cx := { P := Try.prog, n := 65, tab := [(9, begunS), (10, encodeS)], mtab := [], refs := [], keeps := [0, 1, 2, 3, 4, 5, 6, 7, 8, 9, 11, 27, 45] }
def minL (x y : List Int) : Int := if (y.length : Int) < (x.length : Int) then (y.length : Int) else (x.length : Int)
abbrev insOO (nm : List UInt8) (a b c d n : Int) : O := .cells [.str nm, .int .i64 a, .int .i64 b, .int .i64 c, .int .i64 d, .int .i64 n] 29
def onlyH (nm : List UInt8) (a b c d n : Int) (nm2 : List UInt8) (a2 b2 c2 d2 n2 : Int) : Tree St :=
  (.br (encE (nm, a, b, c, d, n) == 0) (.br (encE (nm2, a2, b2, c2, d2, n2) == 0) (.leaf (.normal, [(0, (.agg [(.str nm), (.int .i64 a), (.int .i64 b), (.int .i64 c), (.int .i64 d), (.int .i64 n)])), (1, (.agg [(.str nm2), (.int .i64 a2), (.int .i64 b2), (.int .i64 c2), (.int .i64 d2), (.int .i64 n2)])), (2, (.ptr 0 0)), (3, (.ptr 1 0)), (4, (.bool false)), (5, (.sl (.int .u8) ((encL (nm, a, b, c, d, n))) ([]) Fl.ro)), (6, (.int .i64 0)), (7, (.sl (.int .u8) ((encL (nm2, a2, b2, c2, d2, n2))) ([]) Fl.ro)), (8, (.int .i64 0)), (11, (.bool false)), (27, (.bool false))], [(.cells [(.str nm), (.int .i64 a), (.int .i64 b), (.int .i64 c), (.int .i64 d), (.int .i64 n)] 29), (.cells [(.str nm2), (.int .i64 a2), (.int .i64 b2), (.int .i64 c2), (.int .i64 d2), (.int .i64 n2)] 29)])) (.br (encE (nm2, a2, b2, c2, d2, n2) != 0) (.leaf (.ret, [(0, (.agg [(.str nm), (.int .i64 a), (.int .i64 b), (.int .i64 c), (.int .i64 d), (.int .i64 n)])), (1, (.agg [(.str nm2), (.int .i64 a2), (.int .i64 b2), (.int .i64 c2), (.int .i64 d2), (.int .i64 n2)])), (2, (.ptr 0 0)), (3, (.ptr 1 0)), (4, (.bool true)), (5, (.sl (.int .u8) ((encL (nm, a, b, c, d, n))) ([]) Fl.ro)), (6, (.int .i64 0)), (7, (.val (Go.Value.slice Option.none 0 0))), (8, (.int .i64 (encE (nm2, a2, b2, c2, d2, n2)))), (11, (.bool false)), (27, (.bool true))], [(.cells [(.str nm), (.int .i64 a), (.int .i64 b), (.int .i64 c), (.int .i64 d), (.int .i64 n)] 29), (.cells [(.str nm2), (.int .i64 a2), (.int .i64 b2), (.int .i64 c2), (.int .i64 d2), (.int .i64 n2)] 29)])) (.leaf (.normal, [(0, (.agg [(.str nm), (.int .i64 a), (.int .i64 b), (.int .i64 c), (.int .i64 d), (.int .i64 n)])), (1, (.agg [(.str nm2), (.int .i64 a2), (.int .i64 b2), (.int .i64 c2), (.int .i64 d2), (.int .i64 n2)])), (2, (.ptr 0 0)), (3, (.ptr 1 0)), (4, (.bool false)), (5, (.sl (.int .u8) ((encL (nm, a, b, c, d, n))) ([]) Fl.ro)), (6, (.int .i64 0)), (7, (.val (Go.Value.slice Option.none 0 0))), (8, (.int .i64 (encE (nm2, a2, b2, c2, d2, n2)))), (11, (.bool false)), (27, (.bool false))], [(.cells [(.str nm), (.int .i64 a), (.int .i64 b), (.int .i64 c), (.int .i64 d), (.int .i64 n)] 29), (.cells [(.str nm2), (.int .i64 a2), (.int .i64 b2), (.int .i64 c2), (.int .i64 d2), (.int .i64 n2)] 29)])))) (.br (encE (nm2, a2, b2, c2, d2, n2) == 0) (.br (encE (nm, a, b, c, d, n) != 0) (.leaf (.ret, [(0, (.agg [(.str nm), (.int .i64 a), (.int .i64 b), (.int .i64 c), (.int .i64 d), (.int .i64 n)])), (1, (.agg [(.str nm2), (.int .i64 a2), (.int .i64 b2), (.int .i64 c2), (.int .i64 d2), (.int .i64 n2)])), (2, (.ptr 0 0)), (3, (.ptr 1 0)), (4, (.bool true)), (5, (.val (Go.Value.slice Option.none 0 0))), (6, (.int .i64 (encE (nm, a, b, c, d, n)))), (7, (.sl (.int .u8) ((encL (nm2, a2, b2, c2, d2, n2))) ([]) Fl.ro)), (8, (.int .i64 0)), (11, (.bool false)), (27, (.bool true))], [(.cells [(.str nm), (.int .i64 a), (.int .i64 b), (.int .i64 c), (.int .i64 d), (.int .i64 n)] 29), (.cells [(.str nm2), (.int .i64 a2), (.int .i64 b2), (.int .i64 c2), (.int .i64 d2), (.int .i64 n2)] 29)])) (.leaf (.normal, [(0, (.agg [(.str nm), (.int .i64 a), (.int .i64 b), (.int .i64 c), (.int .i64 d), (.int .i64 n)])), (1, (.agg [(.str nm2), (.int .i64 a2), (.int .i64 b2), (.int .i64 c2), (.int .i64 d2), (.int .i64 n2)])), (2, (.ptr 0 0)), (3, (.ptr 1 0)), (4, (.bool false)), (5, (.val (Go.Value.slice Option.none 0 0))), (6, (.int .i64 (encE (nm, a, b, c, d, n)))), (7, (.sl (.int .u8) ((encL (nm2, a2, b2, c2, d2, n2))) ([]) Fl.ro)), (8, (.int .i64 0)), (11, (.bool false)), (27, (.bool false))], [(.cells [(.str nm), (.int .i64 a), (.int .i64 b), (.int .i64 c), (.int .i64 d), (.int .i64 n)] 29), (.cells [(.str nm2), (.int .i64 a2), (.int .i64 b2), (.int .i64 c2), (.int .i64 d2), (.int .i64 n2)] 29)]))) (.br (encE (nm, a, b, c, d, n) != 0) (.leaf (.ret, [(0, (.agg [(.str nm), (.int .i64 a), (.int .i64 b), (.int .i64 c), (.int .i64 d), (.int .i64 n)])), (1, (.agg [(.str nm2), (.int .i64 a2), (.int .i64 b2), (.int .i64 c2), (.int .i64 d2), (.int .i64 n2)])), (2, (.ptr 0 0)), (3, (.ptr 1 0)), (4, (.bool true)), (5, (.val (Go.Value.slice Option.none 0 0))), (6, (.int .i64 (encE (nm, a, b, c, d, n)))), (7, (.val (Go.Value.slice Option.none 0 0))), (8, (.int .i64 (encE (nm2, a2, b2, c2, d2, n2)))), (11, (.bool false)), (27, (.bool true))], [(.cells [(.str nm), (.int .i64 a), (.int .i64 b), (.int .i64 c), (.int .i64 d), (.int .i64 n)] 29), (.cells [(.str nm2), (.int .i64 a2), (.int .i64 b2), (.int .i64 c2), (.int .i64 d2), (.int .i64 n2)] 29)])) (.br (encE (nm2, a2, b2, c2, d2, n2) != 0) (.leaf (.ret, [(0, (.agg [(.str nm), (.int .i64 a), (.int .i64 b), (.int .i64 c), (.int .i64 d), (.int .i64 n)])), (1, (.agg [(.str nm2), (.int .i64 a2), (.int .i64 b2), (.int .i64 c2), (.int .i64 d2), (.int .i64 n2)])), (2, (.ptr 0 0)), (3, (.ptr 1 0)), (4, (.bool true)), (5, (.val (Go.Value.slice Option.none 0 0))), (6, (.int .i64 (encE (nm, a, b, c, d, n)))), (7, (.val (Go.Value.slice Option.none 0 0))), (8, (.int .i64 (encE (nm2, a2, b2, c2, d2, n2)))), (11, (.bool false)), (27, (.bool true))], [(.cells [(.str nm), (.int .i64 a), (.int .i64 b), (.int .i64 c), (.int .i64 d), (.int .i64 n)] 29), (.cells [(.str nm2), (.int .i64 a2), (.int .i64 b2), (.int .i64 c2), (.int .i64 d2), (.int .i64 n2)] 29)])) (.leaf (.normal, [(0, (.agg [(.str nm), (.int .i64 a), (.int .i64 b), (.int .i64 c), (.int .i64 d), (.int .i64 n)])), (1, (.agg [(.str nm2), (.int .i64 a2), (.int .i64 b2), (.int .i64 c2), (.int .i64 d2), (.int .i64 n2)])), (2, (.ptr 0 0)), (3, (.ptr 1 0)), (4, (.bool false)), (5, (.val (Go.Value.slice Option.none 0 0))), (6, (.int .i64 (encE (nm, a, b, c, d, n)))), (7, (.val (Go.Value.slice Option.none 0 0))), (8, (.int .i64 (encE (nm2, a2, b2, c2, d2, n2)))), (11, (.bool false)), (27, (.bool false))], [(.cells [(.str nm), (.int .i64 a), (.int .i64 b), (.int .i64 c), (.int .i64 d), (.int .i64 n)] 29), (.cells [(.str nm2), (.int .i64 a2), (.int .i64 b2), (.int .i64 c2), (.int .i64 d2), (.int .i64 n2)] 29)]))))))

theorem onlyH_eq (nm : List UInt8) (a b c d n : Int) (nm2 : List UInt8) (a2 b2 c2 d2 n2 : Int) : (dcode cx7 (headN 4 (bodyOf Try.f7)) (initT 0 [.agg [.str nm, .int .i64 a, .int .i64 b, .int .i64 c, .int .i64 d, .int .i64 n], .agg [.str nm2, .int .i64 a2, .int .i64 b2, .int .i64 c2, .int .i64 d2, .int .i64 n2]]) []).run = (onlyH nm a b c d n nm2 a2 b2 c2 d2 n2).run :=
  (show (dcode cx7 (headN 4 (bodyOf Try.f7)) (initT 0 [.agg [.str nm, .int .i64 a, .int .i64 b, .int .i64 c, .int .i64 d, .int .i64 n], .agg [.str nm2, .int .i64 a2, .int .i64 b2, .int .i64 c2, .int .i64 d2, .int .i64 n2]]) []).run = (onlyH nm a b c d n nm2 a2 b2 c2 d2 n2).out by kernel_rfl).trans (Tree.out_run _)

def onlyT (nm : List UInt8) (a b c d n : Int) (nm2 : List UInt8) (a2 b2 c2 d2 n2 : Int) (x y : List Int) : Tree St :=
  (.br (decide (10 < tI ↑(List.length x))) (.leaf (.ret, [(2, (.ptr 0 0)), (3, (.ptr 1 0)), (4, (.bool false)), (5, (.sl (.int .u8) (x) ([]) Fl.ro)), (7, (.sl (.int .u8) (y) ([]) Fl.ro)), (45, (.bool true))], [(.cells [(.str nm), (.int .i64 a), (.int .i64 b), (.int .i64 c), (.int .i64 d), (.int .i64 n)] 29), (.cells [(.str nm2), (.int .i64 a2), (.int .i64 b2), (.int .i64 c2), (.int .i64 d2), (.int .i64 n2)] 29)])) (.br (decide (10 < tI ↑(List.length y))) (.leaf (.ret, [(2, (.ptr 0 0)), (3, (.ptr 1 0)), (4, (.bool false)), (5, (.sl (.int .u8) (x) ([]) Fl.ro)), (7, (.sl (.int .u8) (y) ([]) Fl.ro)), (45, (.bool true))], [(.cells [(.str nm), (.int .i64 a), (.int .i64 b), (.int .i64 c), (.int .i64 d), (.int .i64 n)] 29), (.cells [(.str nm2), (.int .i64 a2), (.int .i64 b2), (.int .i64 c2), (.int .i64 d2), (.int .i64 n2)] 29)])) (.br (tI ↑(List.length x) == 0) (.leaf (.ret, [(2, (.ptr 0 0)), (3, (.ptr 1 0)), (4, (.bool false)), (5, (.sl (.int .u8) (x) ([]) Fl.ro)), (7, (.sl (.int .u8) (y) ([]) Fl.ro)), (45, (.bool true))], [(.cells [(.str nm), (.int .i64 a), (.int .i64 b), (.int .i64 c), (.int .i64 d), (.int .i64 n)] 29), (.cells [(.str nm2), (.int .i64 a2), (.int .i64 b2), (.int .i64 c2), (.int .i64 d2), (.int .i64 n2)] 29)])) (.br (tI ↑(List.length y) == 0) (.leaf (.ret, [(2, (.ptr 0 0)), (3, (.ptr 1 0)), (4, (.bool false)), (5, (.sl (.int .u8) (x) ([]) Fl.ro)), (7, (.sl (.int .u8) (y) ([]) Fl.ro)), (45, (.bool true))], [(.cells [(.str nm), (.int .i64 a), (.int .i64 b), (.int .i64 c), (.int .i64 d), (.int .i64 n)] 29), (.cells [(.str nm2), (.int .i64 a2), (.int .i64 b2), (.int .i64 c2), (.int .i64 d2), (.int .i64 n2)] 29)])) (.br (strEq nm nm2 && (a == a2 && (b == b2 && (c == c2 && (d == d2 && (n == n2 && true)))))) (.leaf (.ret, [(2, (.ptr 0 0)), (3, (.ptr 1 0)), (4, (.bool true)), (5, (.sl (.int .u8) (x) ([]) Fl.ro)), (7, (.sl (.int .u8) (y) ([]) Fl.ro)), (9, (.int .i64 (minL x y))), (45, (.bool false))], [(.cells [(.str nm), (.int .i64 a), (.int .i64 b), (.int .i64 c), (.int .i64 d), (.int .i64 n)] 29), (.cells [(.str nm2), (.int .i64 a2), (.int .i64 b2), (.int .i64 c2), (.int .i64 d2), (.int .i64 n2)] 29)])) (.br (true && decide (0 ≤ minL x y) && decide ((minL x y) ≤ ↑(List.length x + 0))) (.br (true && decide (0 ≤ minL x y) && decide ((minL x y) ≤ ↑(List.length y + 0))) (.leaf (.ret, [(2, (.ptr 0 0)), (3, (.ptr 1 0)), (4, (.bool (!strEq (List.map (fun n => UInt8.ofNat (Int.toNat n)) (sub (x ++ []) 0 (Int.toNat (minL x y)))) (List.map (fun n => UInt8.ofNat (Int.toNat n)) (sub (y ++ []) 0 (Int.toNat (minL x y))))))), (5, (.sl (.int .u8) (x) ([]) Fl.ro)), (7, (.sl (.int .u8) (y) ([]) Fl.ro)), (9, (.int .i64 (minL x y))), (45, (.bool false))], [(.cells [(.str nm), (.int .i64 a), (.int .i64 b), (.int .i64 c), (.int .i64 d), (.int .i64 n)] 29), (.cells [(.str nm2), (.int .i64 a2), (.int .i64 b2), (.int .i64 c2), (.int .i64 d2), (.int .i64 n2)] 29)])) .fail) .fail))))))

theorem onlyT_eq (nm : List UInt8) (a b c d n : Int) (nm2 : List UInt8) (a2 b2 c2 d2 n2 : Int) (x y : List Int) : (dcode cx7 (tailN 4 (bodyOf Try.f7)) [(2, .ptr 0 0), (3, .ptr 1 0), (5, .sl (.int .u8) x [] .ro), (7, .sl (.int .u8) y [] .ro)] [insOO nm a b c d n, insOO nm2 a2 b2 c2 d2 n2]).run = (onlyT nm a b c d n nm2 a2 b2 c2 d2 n2 x y).run :=
  (show (dcode cx7 (tailN 4 (bodyOf Try.f7)) [(2, .ptr 0 0), (3, .ptr 1 0), (5, .sl (.int .u8) x [] .ro), (7, .sl (.int .u8) y [] .ro)] [insOO nm a b c d n, insOO nm2 a2 b2 c2 d2 n2]).run = (onlyT nm a b c d n nm2 a2 b2 c2 d2 n2 x y).out by kernel_rfl).trans (Tree.out_run _)


theorem cxOn_ok : CxOk cx7 := cx1_ok (.cons begunS_ok (ok1 encodeS_ok)) (.nil _) rfl rfl

theorem sub_take {l : List Int} {m : Nat} : sub (l ++ []) 0 m = l.take m := by
  simp [sub]
theorem ins_ne {nm nm2 : List UInt8} {a b c d n a2 b2 c2 d2 n2 : Int} (h : (strEq nm nm2 && (a == a2 && (b == b2 && (c == c2 && (d == d2 && (n == n2 && true)))))) = false) : (nm, a, b, c, d, n) ≠ (nm2, a2, b2, c2, d2, n2) := by
  intro e
  simp only [Prod.mk.injEq] at e
  obtain ⟨rfl, rfl, rfl, rfl, rfl, rfl⟩ := e
  simp [strEq] at h

def onlyQ (e : AEx) (t : T) (H : List O) : Prop := (e = .ret ∨ e = .normal) ∧ answerV Try.prog Try.f7.results.toList H t = some (.bool true)
theorem ansOn {t : T} {H : List O} {x : Bool} (h : Ab.get 4 t = .bool x) : answerV Try.prog Try.f7.results.toList H t = some (.bool x) := by
  unfold answerV
  rw [show Try.f7.results.toList = [.tmp 4] from by kernel_rfl]
  simp [resV, h, V.pures?, V.pure?]

set_option maxRecDepth 8000 in
theorem only_tail {nm : List UInt8} {a b c d n : Int} {nm2 : List UInt8} {a2 b2 c2 d2 n2 : Int} (h1 : encE (nm, a, b, c, d, n) = 0) (h2 : encE (nm2, a2, b2, c2, d2, n2) = 0) :
    AWP Try.prog 65 (tailN 4 (bodyOf Try.f7)) onlyQ [(2, .ptr 0 0), (3, .ptr 1 0), (5, .sl (.int .u8) (encL (nm, a, b, c, d, n)) [] .ro), (7, .sl (.int .u8) (encL (nm2, a2, b2, c2, d2, n2)) [] .ro)] [insOO nm a b c d n, insOO nm2 a2 b2 c2 d2 n2] := by
  obtain ⟨x1, x2, x3⟩ := enc_bytes h1
  obtain ⟨y1, y2, y3⟩ := enc_bytes h2
  have hne := enc_only h1 h2 rfl
  have hinj := ins_ne (nm := nm) (nm2 := nm2) (a := a) (b := b) (c := c) (d := d) (n := n) (a2 := a2) (b2 := b2) (c2 := c2) (d2 := d2) (n2 := n2)
  generalize encL (nm, a, b, c, d, n) = x at *
  generalize encL (nm2, a2, b2, c2, d2, n2) = y at *
  refine AWP_code (cx := cx7) rfl rfl cxOn_ok _ _ _ _ (Tree.all_run_eq (onlyT_eq nm a b c d n nm2 a2 b2 c2 d2 n2 x y) ?_)
  have hm : minL x y = ((min x.length y.length : Nat) : Int) := by
    unfold minL
    split <;> omega
  refine all_f (decide_eq_false (by unfold tI; omega)) (all_f (decide_eq_false (by unfold tI; omega)) (all_f (beq_eq_false_iff_ne.2 (by unfold tI; omega)) (all_f (beq_eq_false_iff_ne.2 (by unfold tI; omega)) ⟨fun _ => ⟨.inl rfl, ansOn rfl⟩, fun he => ?_⟩)))
  refine all_t ?_ (all_t ?_ ⟨.inl rfl, (ansOn rfl).trans ?_⟩)
  · rw [hm]
    simp only [Bool.true_and, Bool.and_eq_true, decide_eq_true_eq]
    omega
  · rw [hm]
    simp only [Bool.true_and, Bool.and_eq_true, decide_eq_true_eq]
    omega
  · refine congrArg (fun b => some (V.bool b)) ?_
    rw [hm, Int.toNat_natCast, sub_take, sub_take]
    rw [Bool.not_eq_true']
    refine beq_eq_false_iff_ne.2 fun hb => hinj he (hne (u8_inj (fun c hc => x1 c (List.mem_of_mem_take hc)) (fun c hc => y1 c (List.mem_of_mem_take hc)) hb))

theorem only_ok (nm : List UInt8) (a b c d n : Int) (nm2 : List UInt8) (a2 b2 c2 d2 n2 : Int) : PCall Try.prog 7 [.agg [.str nm, .int .i64 a, .int .i64 b, .int .i64 c, .int .i64 d, .int .i64 n], .agg [.str nm2, .int .i64 a2, .int .i64 b2, .int .i64 c2, .int .i64 d2, .int .i64 n2]] (.bool true) := by
  refine pcall_of' (c := bodyOf Try.f7) (fn := Try.f7) (by kernel_rfl) (by kernel_rfl) (by kernel_rfl) (by kernel_rfl) ?_
  show AWP _ _ _ onlyQ _ _
  refine AWP_headE (cx := cx7) rfl rfl cxOn_ok 4 (by kernel_rfl) (onlyH_eq nm a b c d n nm2 a2 b2 c2 d2 n2) ?_
  have out : ∀ {t : T} {H : List O}, Ab.get 4 t = .bool true → onlyQ .ret t H := fun h => ⟨.inl rfl, ansOn h⟩
  have no : ∀ {i : InsT} {p : Prop}, (encE i == 0) = false → (encE i != 0) = false → p := by
    intro i p h1 h2
    unfold bne at h2
    rw [h1] at h2
    cases h2
  refine ⟨fun h1 => ⟨fun h2 => ?_, fun h2 => ⟨fun _ => out rfl, fun h3 => no h2 h3⟩⟩, fun h1 => ⟨fun h2 => ⟨fun _ => out rfl, fun h3 => no h1 h3⟩, fun h2 => ⟨fun _ => out rfl, fun h3 => no h1 h3⟩⟩⟩
  show AWP _ _ _ _ _ _
  exact AWP.less (s := [(2, .ptr 0 0), (3, .ptr 1 0), (5, .sl (.int .u8) (encL (nm, a, b, c, d, n)) [] .ro), (7, .sl (.int .u8) (encL (nm2, a2, b2, c2, d2, n2)) [] .ro)]) (Fits.tle ⟨rfl, rfl, rfl, rfl, trivial⟩) (only_tail (eq_of_beq h1) (eq_of_beq h2))

end Go.Amd
