/-
  find of riscv. Conditions: none.
-/
import Derived.Test.YtegieioiofggbaaRv1
namespace Go.Rv
open Go Go.Ab Go.Proofs
noncomputable def cxFind : Cx := { P := Try.prog, n := 19, tab := [(28, rowsS)], mtab := [], refs := [], keeps := [0, 2, 3, 5, 6, 7, 8, 9, 15] }
def findPre (nm : List UInt8) : Tree St :=
  (.leaf (.normal, [(0, (.str nm)), (2, (.ptr 0 0)), (3, (.bool false)), (6, (.sl (.prod [.str, (.int .i64), (.int .u32)]) Go.Rv.rowsL [] Fl.ro)), (7, (.int .i64 ↑64)), (8, (.int .i64 0))], [(.cells [(.str []), (.int .i64 0), (.int .u32 0)] 55)]))

theorem findPre_eq (nm : List UInt8) : (dcode cxFind (.seq (c1 (bodyOf Try.f22)) (c1 (c1 (c2 (bodyOf Try.f22))))) (initT 0 [.str nm]) []).run = (findPre nm).run := by kernel_rfl

def findRound (nm : List UInt8) (i : Int) (l : List rowE.ty) : Tree St :=
  (.br (decide (i < ↑(List.length l))) (.br (inside i (List.length l)) (.br (strEq (tS (Prod.fst (List.getD l (Int.toNat i) (EC.dflt Go.Rv.rowE)))) nm) (.leaf (.ret, [(0, (.str nm)), (2, (.ptr 0 0)), (3, (.bool true)), (5, (.ptr 1 0)), (6, (.sl (.prod [.str, (.int .i64), (.int .u32)]) l [] Fl.ro)), (7, (.int .i64 (↑(List.length l)))), (8, (.int .i64 i)), (9, (.bool true)), (15, (.bool true))], [(.cells [(.str (tS (Prod.fst (List.getD l (Int.toNat i) (EC.dflt Go.Rv.rowE))))), (.int .i64 (tI (Prod.fst (Prod.snd (List.getD l (Int.toNat i) (EC.dflt Go.Rv.rowE)))))), (.int .u32 (Prod.snd (Prod.snd (List.getD l (Int.toNat i) (EC.dflt Go.Rv.rowE)))))] 55), (.cells [(.str (tS (Prod.fst (List.getD l (Int.toNat i) (EC.dflt Go.Rv.rowE))))), (.int .i64 (tI (Prod.fst (Prod.snd (List.getD l (Int.toNat i) (EC.dflt Go.Rv.rowE)))))), (.int .u32 (Prod.snd (Prod.snd (List.getD l (Int.toNat i) (EC.dflt Go.Rv.rowE)))))] 55)])) (.leaf (.normal, [(0, (.str nm)), (2, (.ptr 0 0)), (3, (.bool false)), (5, (.ptr 1 0)), (6, (.sl (.prod [.str, (.int .i64), (.int .u32)]) l [] Fl.ro)), (7, (.int .i64 (↑(List.length l)))), (8, (.int .i64 (IntKind.wrap IntKind.i64 (i + 1)))), (9, (.bool true)), (15, (.bool false))], [(.cells [(.str []), (.int .i64 0), (.int .u32 0)] 55), (.cells [(.str (tS (Prod.fst (List.getD l (Int.toNat i) (EC.dflt Go.Rv.rowE))))), (.int .i64 (tI (Prod.fst (Prod.snd (List.getD l (Int.toNat i) (EC.dflt Go.Rv.rowE)))))), (.int .u32 (Prod.snd (Prod.snd (List.getD l (Int.toNat i) (EC.dflt Go.Rv.rowE)))))] 55)]))) .fail) (.leaf ((.exit 0), [(0, (.str nm)), (2, (.ptr 0 0)), (3, (.bool false)), (6, (.sl (.prod [.str, (.int .i64), (.int .u32)]) l [] Fl.ro)), (7, (.int .i64 (↑(List.length l)))), (8, (.int .i64 i)), (9, (.bool false))], [(.cells [(.str []), (.int .i64 0), (.int .u32 0)] 55)])))

theorem findRound_eq (nm : List UInt8) (i : Int) (l : List rowE.ty) : (dcode cxFind (cin (cin (c2 (c1 (c2 (bodyOf Try.f22)))))) [(0, .str nm), (2, .ptr 0 0), (3, .bool false), (6, .sl rowE l [] .ro), (7, .int .i64 l.length), (8, .int .i64 i)] [(.cells [.str [], .int .i64 0, .int .u32 0] 55)]).run = (findRound nm i l).run := by kernel_rfl

def findEnd (nm : List UInt8) : Tree St :=
  (.leaf (.ret, [(0, (.str nm)), (2, (.ptr 0 0)), (3, (.bool false))], [(.cells [(.str []), (.int .i64 0), (.int .u32 0)] 55)]))

theorem findEnd_eq (nm : List UInt8) : (dcode cxFind (c2 (c2 (bodyOf Try.f22))) [(0, .str nm), (2, .ptr 0 0), (3, .bool false)] [(.cells [.str [], .int .i64 0, .int .u32 0] 55)]).run = (findEnd nm).run := by kernel_rfl

theorem cxFind_ok : CxOk cxFind := ⟨.cons rowsS_ok (.nil _), .nil _⟩

def findL (nm : List UInt8) (l : List RowT) : Option RowT := l.find? fun r => strEq r.1 nm
def frow (nm : List UInt8) : RowT := (findL nm rowsL).getD ([], 0, 0)
def fok (nm : List UInt8) : Bool := (findL nm rowsL).isSome

def findS : Ab.Spec := fun args => match args with
  | [.str nm] => .leaf (.tup [.agg [.str (frow nm).1, .int .i64 (frow nm).2.1, .int .u32 (frow nm).2.2], .bool (fok nm)])
  | _ => .fail

def findSt (nm : List UInt8) (i : { i : Nat // i ≤ rowsL.length ∧ findL nm (rowsL.take i) = none }) : T × List O :=
  ([(0, .str nm), (2, .ptr 0 0), (3, .bool false), (6, .sl rowE rowsL [] .ro), (7, .int .i64 rowsL.length), (8, .int .i64 i.1)], [(.cells [.str [], .int .i64 0, .int .u32 0] 55)])

theorem rowsL_len : rowsL.length = 64 := by kernel_rfl

theorem find_ok (nm : List UInt8) : PCall Try.prog 22 [.str nm] (.tup [.agg [.str (frow nm).1, .int .i64 (frow nm).2.1, .int .u32 (frow nm).2.2], .bool (fok nm)]) := by
  refine pcall_of' (c := bodyOf Try.f22) (fn := Try.f22) (by kernel_rfl) (by kernel_rfl) (by kernel_rfl) (by kernel_rfl) ?_
  have e : bodyOf Try.f22 = .seq (c1 (bodyOf Try.f22)) (.seq (.seq (c1 (c1 (c2 (bodyOf Try.f22)))) (.block 0 (.loop (cin (cin (c2 (c1 (c2 (bodyOf Try.f22))))))))) (c2 (c2 (bodyOf Try.f22)))) := by kernel_rfl
  rw [e]
  generalize hQ : (fun e t H => (e = AEx.ret ∨ e = .normal) ∧ answerV Try.prog Try.f22.results.toList H t = some (.tup [.agg [.str (frow nm).1, .int .i64 (frow nm).2.1, .int .u32 (frow nm).2.2], .bool (fok nm)])) = Q
  have hlen := rowsL_len
  refine AWP_seq (AWP_run (cx := cxFind) rfl rfl cxFind_ok (s := (.normal, [(0, .str nm), (2, .ptr 0 0), (3, .bool false)], [(.cells [.str [], .int .i64 0, .int .u32 0] 55)])) (by kernel_rfl) ?_)
  refine AWP_seq (AWP_seq (AWP_run (cx := cxFind) rfl rfl cxFind_ok (s := (.normal, [(0, .str nm), (2, .ptr 0 0), (3, .bool false), (6, .sl rowE rowsL [] .ro), (7, .int .i64 64), (8, .int .i64 0)], [(.cells [.str [], .int .i64 0, .int .u32 0] 55)])) (by kernel_rfl) ?_))
  refine AWP_block ?_
  refine AWP.less (s := (findSt nm ⟨0, Nat.zero_le _, rfl⟩).1) (Fits.tle ⟨rfl, rfl, rfl, rfl, by kernel_rfl, rfl, trivial⟩) ?_
  refine AWP_rounds (cx := cxFind) (P := Try.prog) (n := 19) rfl rfl cxFind_ok (findSt nm) (fun i => 64 - i.1) ?_ ⟨0, Nat.zero_le _, rfl⟩
  rintro ⟨i, hi, hnone⟩
  refine Tree.all_run_eq (findRound_eq nm i rowsL) ?_
  refine ⟨fun hlt => ⟨fun hin => ⟨fun hp => ?_, fun hp => ?_⟩, fun hin => ?_⟩, fun hge => ?_⟩
  · -- found
    have hlt : i < rowsL.length := Int.ofNat_lt.1 (of_decide_eq_true hlt)
    have hf : findL nm rowsL = some (rowsL.getD i ([], 0, 0)) := take_some hlt hnone hp
    refine ⟨[], _, rfl, ?_⟩
    subst hQ
    refine ⟨.inl rfl, ?_⟩
    have h1 : frow nm = rowsL.getD i ([], 0, 0) := by unfold frow; rw [hf]; rfl
    have h2 : fok nm = true := by unfold fok; rw [hf]; rfl
    show answerV _ _ _ _ = some _
    rw [h1, h2]
    kernel_rfl
  · have hlt : i < rowsL.length := Int.ofNat_lt.1 (of_decide_eq_true hlt)
    have hf : findL nm (rowsL.take (i + 1)) = none := take_none hlt hnone hp
    refine ⟨[], _, rfl, ⟨i + 1, hlt, hf⟩, by show 64 - (i + 1) < 64 - i; omega, Fits.tle ⟨rfl, rfl, rfl, rfl, rfl, ?_, trivial⟩, rfl⟩
    show V.int .i64 (IntKind.wrap .i64 ((i : Int) + 1)) = V.int .i64 ((i + 1 : Nat) : Int)
    rw [wrap_i64 (by omega) (by omega)]
    rfl
  · exfalso
    have hlt : i < rowsL.length := Int.ofNat_lt.1 (of_decide_eq_true hlt)
    exact Bool.noConfusion ((inside_of (Int.natCast_nonneg i) (Int.ofNat_lt.2 hlt)).symm.trans hin)
  · have hge : ¬ ((i : Int) < rowsL.length) := of_decide_eq_false hge
    have hi' : i = rowsL.length := by omega
    refine ⟨[], _, rfl, ?_⟩
    show AWP _ _ _ _ _ _
    refine AWP.less (s := [(0, .str nm), (2, .ptr 0 0), (3, .bool false)]) (Fits.tle ⟨rfl, rfl, rfl, trivial⟩) ?_
    refine AWP_run (cx := cxFind) rfl rfl cxFind_ok (s := (.ret, [(0, .str nm), (2, .ptr 0 0), (3, .bool false)], [(.cells [.str [], .int .i64 0, .int .u32 0] 55)])) (by kernel_rfl) ?_
    subst hQ
    refine ⟨.inl rfl, ?_⟩
    have hf : findL nm rowsL = none := by rw [← hnone, hi', List.take_length]
    have h1 : frow nm = ([], 0, 0) := by unfold frow; rw [hf]; rfl
    have h2 : fok nm = false := by unfold fok; rw [hf]; rfl
    show answerV _ _ _ _ = some _
    rw [h1, h2]
    kernel_rfl

theorem findS_ok : Sound Try.prog 22 findS := by
  intro args out h
  unfold findS at h
  split at h
  rotate_left
  · cases h
  simp only [Tree.run, Option.some.injEq] at h
  subst h
  exact find_ok _

end Go.Rv
