/-
  Names, Decode, Num. Conditions: none.
-/
import Derived.Test.YtegieioiofggbaaRv6
namespace Go.Rv
open Go Go.Ab Go.Proofs

/-- The context of foundry/riscv.Names. -/
noncomputable def cx17 : Cx := { P := Try.prog, n := 17, tab := [(28, rowsS)], mtab := [], refs := [], keeps := [0, 1, 3, 4, 5, 6, 7] }
/-- The context of foundry/foundryref1.Num. -/
noncomputable def cx21 : Cx := { P := Try.prog, n := 21, tab := [], mtab := [], refs := [], keeps := [0, 2, 3, 4, 9] }
/-- The context of foundry/riscv.Decode. -/
noncomputable def cx14 : Cx := { P := Try.prog, n := 80, tab := [(28, rowsS), (29, readS), (24, wordS)], mtab := [], refs := [], keeps := [0, 1, 4, 5, 6, 7, 9, 10, 11, 21, 57, 58, 59, 60, 68, 76] }
def namesRound0 (l : List rowE.ty) (i : Int) : Tree St :=
  (.br (decide (i < ↑(List.length l))) (.br (inside i (List.length l)) (.leaf (.normal, [(1, (.gro 1 .str [tS (Prod.fst (List.getD l (Int.toNat i) (EC.dflt rowE)))])), (3, (.ptr 0 0)), (4, (.sl (.prod [.str, (.int .i64), (.int .u32)]) l [] Fl.ro)), (5, (.int .i64 (↑(List.length l)))), (6, (.int .i64 (IntKind.wrap IntKind.i64 (i + 1)))), (7, (.bool true))], [(.cells [(.str (tS (Prod.fst (List.getD l (Int.toNat i) (EC.dflt rowE))))), (.int .i64 (tI (Prod.fst (Prod.snd (List.getD l (Int.toNat i) (EC.dflt rowE)))))), (.int .u32 (Prod.snd (Prod.snd (List.getD l (Int.toNat i) (EC.dflt rowE)))))] 55), (.tok (List.length [tS (Prod.fst (List.getD l (Int.toNat i) (EC.dflt rowE)))]) 1)])) .fail) (.leaf ((.exit 0), [(1, (.val (Go.Value.slice Option.none 0 0))), (4, (.sl (.prod [.str, (.int .i64), (.int .u32)]) l [] Fl.ro)), (5, (.int .i64 (↑(List.length l)))), (6, (.int .i64 i)), (7, (.bool false))], [])))

theorem namesRound0_eq (l : List rowE.ty) (i : Int) : (dcode cx17 (cin (cin (c2 (c1 (c2 (c2 (bodyOf Try.f17))))))) [(1, nilV), (4, .sl rowE l [] .ro), (5, .int .i64 l.length), (6, .int .i64 i)] []).run = (namesRound0 l i).run :=
  (show (dcode cx17 (cin (cin (c2 (c1 (c2 (c2 (bodyOf Try.f17))))))) [(1, nilV), (4, .sl rowE l [] .ro), (5, .int .i64 l.length), (6, .int .i64 i)] []).run = (namesRound0 l i).out by kernel_rfl).trans (Tree.out_run _)

def namesRound1 (l : List rowE.ty) (i : Int) (m : List (List UInt8)) : Tree St :=
  (.br (decide (i < ↑(List.length l))) (.br (inside i (List.length l)) (.br (decide (List.length m = List.length m) && roomy (List.length m + List.length [tS (Prod.fst (List.getD l (Int.toNat i) (EC.dflt rowE)))]) 16) (.leaf (.normal, [(1, (.gro 0 .str (m ++ [tS (Prod.fst (List.getD l (Int.toNat i) (EC.dflt rowE)))]))), (3, (.ptr 1 0)), (4, (.sl (.prod [.str, (.int .i64), (.int .u32)]) l [] Fl.ro)), (5, (.int .i64 (↑(List.length l)))), (6, (.int .i64 (IntKind.wrap IntKind.i64 (i + 1)))), (7, (.bool true))], [(.tok (List.length m + List.length [tS (Prod.fst (List.getD l (Int.toNat i) (EC.dflt rowE)))]) 1), (.cells [(.str (tS (Prod.fst (List.getD l (Int.toNat i) (EC.dflt rowE))))), (.int .i64 (tI (Prod.fst (Prod.snd (List.getD l (Int.toNat i) (EC.dflt rowE)))))), (.int .u32 (Prod.snd (Prod.snd (List.getD l (Int.toNat i) (EC.dflt rowE)))))] 55)])) .fail) .fail) (.leaf ((.exit 0), [(1, (.gro 0 .str m)), (4, (.sl (.prod [.str, (.int .i64), (.int .u32)]) l [] Fl.ro)), (5, (.int .i64 (↑(List.length l)))), (6, (.int .i64 i)), (7, (.bool false))], [(.tok (List.length m) 1)])))

theorem namesRound1_eq (l : List rowE.ty) (i : Int) (m : List (List UInt8)) : (dcode cx17 (cin (cin (c2 (c1 (c2 (c2 (bodyOf Try.f17))))))) [(1, .gro 0 .str m), (4, .sl rowE l [] .ro), (5, .int .i64 l.length), (6, .int .i64 i)] [.tok m.length 1]).run = (namesRound1 l i m).run :=
  (show (dcode cx17 (cin (cin (c2 (c1 (c2 (c2 (bodyOf Try.f17))))))) [(1, .gro 0 .str m), (4, .sl rowE l [] .ro), (5, .int .i64 l.length), (6, .int .i64 i)] [.tok m.length 1]).run = (namesRound1 l i m).out by kernel_rfl).trans (Tree.out_run _)

def namesEnd (m : List (List UInt8)) : Tree St :=
  (.leaf (.ret, [(0, (.gro 0 .str m)), (1, (.gro 0 .str m))], [(.tok (List.length m) 1)]))

theorem namesEnd_eq (m : List (List UInt8)) : (dcode cx17 (c2 (c2 (c2 (bodyOf Try.f17)))) [(1, .gro 0 .str m)] [.tok m.length 1]).run = (namesEnd m).run :=
  (show (dcode cx17 (c2 (c2 (c2 (bodyOf Try.f17)))) [(1, .gro 0 .str m)] [.tok m.length 1]).run = (namesEnd m).out by kernel_rfl).trans (Tree.out_run _)

def numRound (l sp : List Int) (fl : Fl) (s i : Int) : Tree St :=
  (.br (decide (0 ≤ i)) (.br (inside i (List.length l)) (.leaf (.normal, [(0, (.sl (.int .u8) l sp fl)), (3, (.int .u64 (IntKind.wrap IntKind.u64 ↑(BitVec.toNat (BitVec.ofInt 64 (IntKind.wrap IntKind.u64 (s * 2 ^ 8)) ||| BitVec.ofInt 64 (IntKind.wrap IntKind.u64 (tI (List.getD l (Int.toNat i) (tI (EC.dflt (EC.int IntKind.u8))))))))))), (4, (.int .i64 (IntKind.wrap IntKind.i64 (i - 1)))), (9, (.bool true))], [])) .fail) (.leaf ((.exit 0), [(0, (.sl (.int .u8) l sp fl)), (3, (.int .u64 s)), (4, (.int .i64 i)), (9, (.bool false))], [])))

theorem numRound_eq (l sp : List Int) (fl : Fl) (s i : Int) : (dcode cx21 (cin (cin (c2 (c1 (c2 (c2 (bodyOf Try.f21))))))) [(0, .sl (.int .u8) l sp fl), (3, .int .u64 s), (4, .int .i64 i)] []).run = (numRound l sp fl s i).run :=
  (show (dcode cx21 (cin (cin (c2 (c1 (c2 (c2 (bodyOf Try.f21))))))) [(0, .sl (.int .u8) l sp fl), (3, .int .u64 s), (4, .int .i64 i)] []).run = (numRound l sp fl s i).out by kernel_rfl).trans (Tree.out_run _)

def numEnd (s : Int) : Tree St :=
  (.leaf (.ret, [(2, (.int .u64 s)), (3, (.int .u64 s))], []))

theorem numEnd_eq (s : Int) : (dcode cx21 (c2 (c2 (c2 (bodyOf Try.f21)))) [(3, .int .u64 s)] []).run = (numEnd s).run :=
  (show (dcode cx21 (c2 (c2 (c2 (bodyOf Try.f21)))) [(3, .int .u64 s)] []).run = (numEnd s).out by kernel_rfl).trans (Tree.out_run _)

def decodeRound (l : List rowE.ty) (w i : Int) : Tree St :=
  (.br (decide (i < ↑(List.length l))) (.br (inside i (List.length l)) (.br (IntKind.wrap IntKind.u32 ↑(BitVec.toNat (BitVec.ofInt 32 (Prod.snd (Prod.snd (List.getD l (Int.toNat i) (EC.dflt rowE)))) &&& BitVec.ofInt 32 127)) != IntKind.wrap IntKind.u32 ↑(BitVec.toNat (BitVec.ofInt 32 w &&& BitVec.ofInt 32 127))) (.leaf (.normal, [(4, (.ptr 0 0)), (5, (.int .i64 0)), (6, (.int .i64 0)), (7, (.int .u32 w)), (9, (.ptr 1 0)), (57, (.sl (.prod [.str, (.int .i64), (.int .u32)]) l [] Fl.ro)), (58, (.int .i64 (↑(List.length l)))), (59, (.int .i64 (IntKind.wrap IntKind.i64 (i + 1)))), (60, (.bool true)), (68, (.bool true))], [(.cells [(.str []), (.int .i64 0), (.int .i64 0), (.int .i64 0), (.int .i64 0), (.int .i64 0)] 29), (.cells [(.str (tS (Prod.fst (List.getD l (Int.toNat i) (EC.dflt rowE))))), (.int .i64 (tI (Prod.fst (Prod.snd (List.getD l (Int.toNat i) (EC.dflt rowE)))))), (.int .u32 (Prod.snd (Prod.snd (List.getD l (Int.toNat i) (EC.dflt rowE)))))] 55)])) (.br (wordF (tI (Prod.fst (Prod.snd (List.getD l (Int.toNat i) (EC.dflt rowE))))) (Prod.snd (Prod.snd (List.getD l (Int.toNat i) (EC.dflt rowE)))) (rdA (tI (Prod.fst (Prod.snd (List.getD l (Int.toNat i) (EC.dflt rowE))))) w) (rdB (tI (Prod.fst (Prod.snd (List.getD l (Int.toNat i) (EC.dflt rowE))))) w) (rdC (tI (Prod.fst (Prod.snd (List.getD l (Int.toNat i) (EC.dflt rowE))))) w) (numberF (tI (Prod.fst (Prod.snd (List.getD l (Int.toNat i) (EC.dflt rowE))))) w) == w) (.leaf (.ret, [(4, (.ptr 0 0)), (5, (.int .i64 4)), (6, (.int .i64 0)), (7, (.int .u32 w)), (9, (.ptr 1 0)), (10, (.ptr 2 0)), (57, (.sl (.prod [.str, (.int .i64), (.int .u32)]) l [] Fl.ro)), (58, (.int .i64 (↑(List.length l)))), (59, (.int .i64 i)), (60, (.bool true)), (68, (.bool false)), (76, (.bool true))], [(.cells [(.str (tS (Prod.fst (List.getD l (Int.toNat i) (EC.dflt rowE))))), (.int .i64 (rdA (tI (Prod.fst (Prod.snd (List.getD l (Int.toNat i) (EC.dflt rowE))))) w)), (.int .i64 (rdB (tI (Prod.fst (Prod.snd (List.getD l (Int.toNat i) (EC.dflt rowE))))) w)), (.int .i64 (rdC (tI (Prod.fst (Prod.snd (List.getD l (Int.toNat i) (EC.dflt rowE))))) w)), (.int .i64 0), (.int .i64 (numberF (tI (Prod.fst (Prod.snd (List.getD l (Int.toNat i) (EC.dflt rowE))))) w))] 29), (.cells [(.str (tS (Prod.fst (List.getD l (Int.toNat i) (EC.dflt rowE))))), (.int .i64 (tI (Prod.fst (Prod.snd (List.getD l (Int.toNat i) (EC.dflt rowE)))))), (.int .u32 (Prod.snd (Prod.snd (List.getD l (Int.toNat i) (EC.dflt rowE)))))] 55), (.cells [(.str (tS (Prod.fst (List.getD l (Int.toNat i) (EC.dflt rowE))))), (.int .i64 (rdA (tI (Prod.fst (Prod.snd (List.getD l (Int.toNat i) (EC.dflt rowE))))) w)), (.int .i64 (rdB (tI (Prod.fst (Prod.snd (List.getD l (Int.toNat i) (EC.dflt rowE))))) w)), (.int .i64 (rdC (tI (Prod.fst (Prod.snd (List.getD l (Int.toNat i) (EC.dflt rowE))))) w)), (.int .i64 0), (.int .i64 (numberF (tI (Prod.fst (Prod.snd (List.getD l (Int.toNat i) (EC.dflt rowE))))) w))] 29)])) (.leaf (.normal, [(4, (.ptr 0 0)), (5, (.int .i64 0)), (6, (.int .i64 0)), (7, (.int .u32 w)), (9, (.ptr 1 0)), (10, (.ptr 2 0)), (57, (.sl (.prod [.str, (.int .i64), (.int .u32)]) l [] Fl.ro)), (58, (.int .i64 (↑(List.length l)))), (59, (.int .i64 (IntKind.wrap IntKind.i64 (i + 1)))), (60, (.bool true)), (68, (.bool false)), (76, (.bool false))], [(.cells [(.str []), (.int .i64 0), (.int .i64 0), (.int .i64 0), (.int .i64 0), (.int .i64 0)] 29), (.cells [(.str (tS (Prod.fst (List.getD l (Int.toNat i) (EC.dflt rowE))))), (.int .i64 (tI (Prod.fst (Prod.snd (List.getD l (Int.toNat i) (EC.dflt rowE)))))), (.int .u32 (Prod.snd (Prod.snd (List.getD l (Int.toNat i) (EC.dflt rowE)))))] 55), (.cells [(.str (tS (Prod.fst (List.getD l (Int.toNat i) (EC.dflt rowE))))), (.int .i64 (rdA (tI (Prod.fst (Prod.snd (List.getD l (Int.toNat i) (EC.dflt rowE))))) w)), (.int .i64 (rdB (tI (Prod.fst (Prod.snd (List.getD l (Int.toNat i) (EC.dflt rowE))))) w)), (.int .i64 (rdC (tI (Prod.fst (Prod.snd (List.getD l (Int.toNat i) (EC.dflt rowE))))) w)), (.int .i64 0), (.int .i64 (numberF (tI (Prod.fst (Prod.snd (List.getD l (Int.toNat i) (EC.dflt rowE))))) w))] 29)])))) .fail) (.leaf ((.exit 1), [(4, (.ptr 0 0)), (5, (.int .i64 0)), (6, (.int .i64 0)), (7, (.int .u32 w)), (57, (.sl (.prod [.str, (.int .i64), (.int .u32)]) l [] Fl.ro)), (58, (.int .i64 (↑(List.length l)))), (59, (.int .i64 i)), (60, (.bool false))], [(.cells [(.str []), (.int .i64 0), (.int .i64 0), (.int .i64 0), (.int .i64 0), (.int .i64 0)] 29)])))

theorem decodeRound_eq (l : List rowE.ty) (w i : Int) : (dcode cx14 (cin (cin (c2 (c1 (c2 (c2 (c2 (bodyOf Try.f14)))))))) [(4, .ptr 0 0), (5, .int .i64 0), (6, .int .i64 0), (7, .int .u32 w), (57, .sl rowE l [] .ro), (58, .int .i64 l.length), (59, .int .i64 i)] [.cells [.str [], .int .i64 0, .int .i64 0, .int .i64 0, .int .i64 0, .int .i64 0] 29]).run = (decodeRound l w i).run :=
  (show (dcode cx14 (cin (cin (c2 (c1 (c2 (c2 (c2 (bodyOf Try.f14)))))))) [(4, .ptr 0 0), (5, .int .i64 0), (6, .int .i64 0), (7, .int .u32 w), (57, .sl rowE l [] .ro), (58, .int .i64 l.length), (59, .int .i64 i)] [.cells [.str [], .int .i64 0, .int .i64 0, .int .i64 0, .int .i64 0, .int .i64 0] 29]).run = (decodeRound l w i).out by kernel_rfl).trans (Tree.out_run _)

/-! Names. -/

def namesL : List (List UInt8) := rowsL.map (fun r => r.1)

def namesSt0 : T × List O := ([(1, nilV), (4, .sl rowE rowsL [] .ro), (5, .int .i64 rowsL.length), (6, .int .i64 (0 : Nat))], [])
def namesSt1 (i : Nat) : T × List O :=
  ([(1, .gro 0 .str ((rowsL.take i).map (fun r => r.1))), (4, .sl rowE rowsL [] .ro), (5, .int .i64 rowsL.length), (6, .int .i64 i)], [.tok ((rowsL.take i).map (fun r => r.1)).length 1])

inductive NamesI where
  | zero
  | more (i : Nat) (h : 1 ≤ i ∧ i ≤ rowsL.length)
def namesSt : NamesI → T × List O
  | .zero => namesSt0
  | .more i _ => namesSt1 i
def namesMu : NamesI → Nat
  | .zero => 64
  | .more i _ => 64 - i

theorem namesR0 : (dcode cx17 (cin (cin (c2 (c1 (c2 (c2 (bodyOf Try.f17))))))) namesSt0.1 namesSt0.2).run = (namesRound0 rowsL (0 : Nat)).run := namesRound0_eq rowsL (0 : Nat)
theorem namesR1 (i : Nat) : (dcode cx17 (cin (cin (c2 (c1 (c2 (c2 (bodyOf Try.f17))))))) (namesSt1 i).1 (namesSt1 i).2).run = (namesRound1 rowsL i ((rowsL.take i).map (fun r => r.1))).run :=
  (show (dcode cx17 (cin (cin (c2 (c1 (c2 (c2 (bodyOf Try.f17))))))) (namesSt1 i).1 (namesSt1 i).2).run = (namesRound1 rowsL i ((rowsL.take i).map (fun r => r.1))).out by kernel_rfl).trans (Tree.out_run _)

theorem cx17_ok : CxOk cx17 := cx1_ok (.cons rowsS_ok (.nil _)) (.nil _) rfl rfl

theorem take_map_succ {α β : Type} {l : List α} {i : Nat} {d : α} (f : α → β) (hi : i < l.length) : (l.take (i + 1)).map f = (l.take i).map f ++ [f (l.getD i d)] := by
  rw [List.take_add_one, List.getElem?_eq_getElem hi, getD_lt hi, List.map_append]
  rfl

set_option maxRecDepth 20000 in
theorem names_ok : PCall Try.prog 17 [] (.sl .str namesL [] .ro) := by
  refine pcall_of' (c := bodyOf Try.f17) (fn := Try.f17) (by kernel_rfl) (by kernel_rfl) (by kernel_rfl) (by kernel_rfl) ?_
  have e : bodyOf Try.f17 = .seq (c1 (bodyOf Try.f17)) (.seq (c1 (c2 (bodyOf Try.f17))) (.seq (.seq (c1 (c1 (c2 (c2 (bodyOf Try.f17))))) (.block 0 (.loop (cin (cin (c2 (c1 (c2 (c2 (bodyOf Try.f17)))))))))) (c2 (c2 (c2 (bodyOf Try.f17)))))) := by kernel_rfl
  rw [e]
  generalize hQ : (fun e t H => (e = AEx.ret ∨ e = .normal) ∧ answerV Try.prog Try.f17.results.toList H t = some (.sl .str namesL [] .ro)) = Q
  have hlen := rowsL_len
  refine AWP_seq (AWP_run (cx := cx17) rfl rfl cx17_ok (s := (.normal, [(0, nilV)], [])) (by kernel_rfl) ?_)
  refine AWP_seq (AWP_run (cx := cx17) rfl rfl cx17_ok (s := (.normal, [(0, nilV), (1, nilV)], [])) (by kernel_rfl) ?_)
  refine AWP_seq (AWP_seq (AWP_run (cx := cx17) rfl rfl cx17_ok (s := (.normal, [(0, nilV), (1, nilV), (4, .sl rowE rowsL [] .ro), (5, .int .i64 64), (6, .int .i64 0)], [])) (by kernel_rfl) ?_))
  refine AWP_block ?_
  refine AWP.less (s := (namesSt .zero).1) (Fits.tle ⟨rfl, rfl, by kernel_rfl, rfl, trivial⟩) ?_
  refine AWP_rounds (cx := cx17) (P := Try.prog) (n := 17) rfl rfl cx17_ok namesSt namesMu ?_ .zero
  intro x
  cases x with
  | zero =>
    refine Tree.all_run_eq namesR0 ?_
    refine ⟨fun hlt => ⟨fun hin => ?_, fun hin => Bool.noConfusion ((show inside ((0 : Nat) : Int) rowsL.length = true by kernel_rfl).symm.trans hin)⟩, fun hge => Bool.noConfusion ((show decide (((0 : Nat) : Int) < (rowsL.length : Int)) = true by kernel_rfl).symm.trans hge)⟩
    refine ⟨[1], _, rfl, ?_⟩
    exact ⟨.more 1 (by omega), by show 64 - 1 < 64; omega, Fits.tle ⟨by kernel_rfl, rfl, rfl, rfl, trivial⟩, by kernel_rfl⟩
  | more i hi =>
    refine Tree.all_run_eq (namesR1 i) ?_
    refine ⟨fun hlt => ⟨fun hin => ⟨fun hr => ?_, fun hr => ?_⟩, fun hin => ?_⟩, fun hge => ?_⟩
    · have hlt : i < rowsL.length := Int.ofNat_lt.1 (of_decide_eq_true hlt)
      refine ⟨[], _, rfl, NamesI.more (i + 1) ⟨by omega, hlt⟩, by show 64 - (i + 1) < 64 - i; omega, Fits.tle ⟨?_, rfl, rfl, ?_, trivial⟩, ?_⟩
      · have := take_map_succ (d := ([], 0, 0)) (fun r : RowT => r.1) hlt
        show V.gro 0 .str (_ ++ [_]) = V.gro 0 .str _
        exact congrArg (V.gro 0 .str) this.symm
      · show V.int .i64 (IntKind.wrap .i64 ((i : Int) + 1)) = V.int .i64 ((i + 1 : Nat) : Int)
        rw [wrap_i64 (by omega) (by omega)]
        rfl
      · have := take_map_succ (d := ([], 0, 0)) (fun r : RowT => r.1) hlt
        show [O.tok _ 1] = [O.tok ((rowsL.take (i + 1)).map (fun r => r.1)).length 1]
        rw [this, List.length_append]
        rfl
    · exfalso
      have : (decide (((rowsL.take i).map (fun r => r.1)).length = ((rowsL.take i).map (fun r => r.1)).length) && roomy (((rowsL.take i).map (fun r => r.1)).length + 1) 16) = true := by
        simp [roomy]; omega
      exact Bool.noConfusion (this.symm.trans hr)
    · exfalso
      have hlt : i < rowsL.length := Int.ofNat_lt.1 (of_decide_eq_true hlt)
      exact Bool.noConfusion ((inside_of (Int.natCast_nonneg i) (Int.ofNat_lt.2 hlt)).symm.trans hin)
    · have hge : ¬ i < rowsL.length := fun h => of_decide_eq_false hge (Int.ofNat_lt.2 h)
      have hi' : i = rowsL.length := by omega
      refine ⟨[], _, rfl, ?_⟩
      show AWP _ _ _ _ _ _
      have hm : (rowsL.take i).map (fun r => r.1) = namesL := by rw [hi', List.take_length]; rfl
      rw [hm]
      refine AWP.less (s := [(1, .gro 0 .str namesL)]) (Fits.tle ⟨rfl, trivial⟩) ?_
      refine AWP_run (cx := cx17) rfl rfl cx17_ok ((namesEnd_eq namesL).trans rfl) ?_
      subst hQ
      refine ⟨.inl rfl, ?_⟩
      show answerV _ _ _ _ = some _
      kernel_rfl

def namesS : Ab.Spec := fun args => match args with
  | [] => .leaf (.sl .str namesL [] .ro)
  | _ => .fail

theorem namesS_ok : Sound Try.prog 17 namesS := by
  intro args out h
  unfold namesS at h
  split at h
  rotate_left
  · cases h
  simp only [Tree.run, Option.some.injEq] at h
  subst h
  exact names_ok

/-! Num. -/

def numL : List Int → Int
  | [] => 0
  | b :: r => IntKind.wrap IntKind.u64 ↑(BitVec.toNat (BitVec.ofInt 64 (IntKind.wrap IntKind.u64 (numL r * 2 ^ 8)) ||| BitVec.ofInt 64 (IntKind.wrap IntKind.u64 b)))

def numSt (l sp : List Int) (fl : Fl) (j : { j : Nat // j ≤ l.length }) : T × List O :=
  ([(0, .sl (.int .u8) l sp fl), (3, .int .u64 (numL (l.drop (l.length - j.1)))), (4, .int .i64 ((l.length : Int) - 1 - j.1))], [])

theorem num_ok (l sp : List Int) (fl : Fl) (hl : l.length < 1000000000) : PCall Try.prog 21 [.sl (.int .u8) l sp fl] (.int .u64 (numL l)) := by
  refine pcall_of' (c := bodyOf Try.f21) (fn := Try.f21) (by kernel_rfl) (by kernel_rfl) (by kernel_rfl) (by kernel_rfl) ?_
  have e : bodyOf Try.f21 = .seq (c1 (bodyOf Try.f21)) (.seq (c1 (c2 (bodyOf Try.f21))) (.seq (.seq (c1 (c1 (c2 (c2 (bodyOf Try.f21))))) (.block 0 (.loop (cin (cin (c2 (c1 (c2 (c2 (bodyOf Try.f21)))))))))) (c2 (c2 (c2 (bodyOf Try.f21)))))) := by kernel_rfl
  rw [e]
  generalize hQ : (fun e t H => (e = AEx.ret ∨ e = .normal) ∧ answerV Try.prog Try.f21.results.toList H t = some (.int .u64 (numL l))) = Q
  have hok : CxOk cx21 := cx0_ok rfl rfl
  refine AWP_seq (AWP_run (cx := cx21) rfl rfl hok (s := (.normal, [(0, .sl (.int .u8) l sp fl), (2, .int .u64 0)], [])) (by kernel_rfl) ?_)
  refine AWP_seq (AWP_run (cx := cx21) rfl rfl hok (s := (.normal, [(0, .sl (.int .u8) l sp fl), (2, .int .u64 0), (3, .int .u64 0)], [])) (by kernel_rfl) ?_)
  refine AWP_seq (AWP_seq (AWP_run (cx := cx21) rfl rfl hok (s := (.normal, [(0, .sl (.int .u8) l sp fl), (2, .int .u64 0), (3, .int .u64 0), (4, .int .i64 (IntKind.wrap .i64 ((l.length : Int) - 1)))], [])) (by kernel_rfl) ?_))
  refine AWP_block ?_
  refine AWP.less (s := (numSt l sp fl ⟨0, Nat.zero_le _⟩).1) (Fits.tle ⟨rfl, ?_, ?_, trivial⟩) ?_
  · show V.int .u64 0 = V.int .u64 (numL (l.drop (l.length - 0)))
    rw [Nat.sub_zero, List.drop_length]
    rfl
  · show V.int .i64 _ = V.int .i64 ((l.length : Int) - 1 - (0 : Nat))
    rw [wrap_i64 (by omega) (by omega)]
    simp
  refine AWP_rounds (cx := cx21) (P := Try.prog) (n := 21) rfl rfl hok (numSt l sp fl) (fun j => l.length - j.1) ?_ ⟨0, Nat.zero_le _⟩
  rintro ⟨j, hj⟩
  refine Tree.all_run_eq (numRound_eq l sp fl (numL (l.drop (l.length - j))) ((l.length : Int) - 1 - j)) ?_
  refine ⟨fun hlt => ⟨fun hin => ?_, fun hin => ?_⟩, fun hge => ?_⟩
  · have hlt : (0 : Int) ≤ (l.length : Int) - 1 - j := of_decide_eq_true hlt
    refine ⟨[], _, rfl, ⟨j + 1, by omega⟩, by show l.length - (j + 1) < l.length - j; omega, Fits.tle ⟨rfl, ?_, ?_, trivial⟩, rfl⟩
    · have hk : l.length - (j + 1) < l.length := by omega
      have hd : l.drop (l.length - (j + 1)) = l.getD (l.length - (j + 1)) 0 :: l.drop (l.length - j) := by
        rw [List.drop_eq_getElem_cons hk, getD_lt hk]
        congr 2
        omega
      have ht : ((l.length : Int) - 1 - j).toNat = l.length - (j + 1) := by omega
      show V.int .u64 _ = V.int .u64 (numL (l.drop (l.length - (j + 1))))
      rw [hd, ht]
      rfl
    · show V.int .i64 _ = V.int .i64 ((l.length : Int) - 1 - (j + 1 : Nat))
      rw [wrap_i64 (by omega) (by omega)]
      congr 1
      omega
  · exfalso
    have hlt : (0 : Int) ≤ (l.length : Int) - 1 - j := of_decide_eq_true hlt
    exact Bool.noConfusion ((inside_of hlt (by omega)).symm.trans hin)
  · have hge : ¬ (0 : Int) ≤ (l.length : Int) - 1 - j := of_decide_eq_false hge
    have hj' : l.length - j = 0 := by omega
    refine ⟨[], _, rfl, ?_⟩
    show AWP _ _ _ _ _ _
    rw [hj', List.drop_zero]
    refine AWP.less (s := [(3, .int .u64 (numL l))]) (Fits.tle ⟨rfl, trivial⟩) ?_
    refine AWP_run (cx := cx21) rfl rfl hok ((numEnd_eq (numL l)).trans rfl) ?_
    subst hQ
    refine ⟨.inl rfl, ?_⟩
    show answerV _ _ _ _ = some _
    kernel_rfl

def numS : Ab.Spec := fun args => match args with
  | [.sl (.int .u8) l _ _] => .req (decide (l.length < 1000000000)) (.leaf (.int .u64 (numL l)))
  | _ => .fail

theorem numS_ok : Sound Try.prog 21 numS := by
  intro args out h
  unfold numS at h
  split at h
  rotate_left
  · cases h
  rename_i l sp fl
  obtain ⟨h1, h2⟩ := req_run h
  simp only [Tree.run, Option.some.injEq] at h2
  subst h2
  exact num_ok l sp fl (of_decide_eq_true h1)

end Go.Rv
