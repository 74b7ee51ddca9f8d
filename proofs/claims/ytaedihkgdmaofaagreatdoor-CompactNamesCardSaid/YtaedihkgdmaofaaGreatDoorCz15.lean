/-
  compact's Decode. Conditions: none.
-/
import Derived.Test.YtaedihkgdmaofaaGreatDoorCz14
namespace Go.Cmp
open Go Go.Ab Go.Proofs

/-- The context of foundry/compact.Decode. -/
noncomputable def cx10 : Cx := { P := Tryz.prog, n := 62, tab := [(14, rowsS), (23, opS), (24, readS)], mtab := [], refs := [], keeps := [0, 1, 4, 5, 6, 7, 9, 10, 11, 12, 22, 42, 43, 44, 45, 51, 58] }
def decodeRound (l : List rowE.ty) (w i : Int) : Tree St :=
  (.br (decide (i < ↑(List.length l))) (.br (inside i (List.length l)) (.br (isRowB (tS (Prod.fst (List.getD l (Int.toNat i) (EC.dflt rowE))), tS (Prod.fst (Prod.snd (List.getD l (Int.toNat i) (EC.dflt rowE)))), tI (Prod.fst (Prod.snd (Prod.snd (List.getD l (Int.toNat i) (EC.dflt rowE))))), tI (Prod.fst (Prod.snd (Prod.snd (Prod.snd (List.getD l (Int.toNat i) (EC.dflt rowE)))))), tI (Prod.fst (Prod.snd (Prod.snd (Prod.snd (Prod.snd (List.getD l (Int.toNat i) (EC.dflt rowE))))))), tS (Prod.fst (Prod.snd (Prod.snd (Prod.snd (Prod.snd (Prod.snd (List.getD l (Int.toNat i) (EC.dflt rowE)))))))), Prod.snd (Prod.snd (Prod.snd (Prod.snd (Prod.snd (Prod.snd (List.getD l (Int.toNat i) (EC.dflt rowE))))))))) (.br (!opF (tS (Prod.fst (List.getD l (Int.toNat i) (EC.dflt rowE))), tS (Prod.fst (Prod.snd (List.getD l (Int.toNat i) (EC.dflt rowE)))), tI (Prod.fst (Prod.snd (Prod.snd (List.getD l (Int.toNat i) (EC.dflt rowE))))), tI (Prod.fst (Prod.snd (Prod.snd (Prod.snd (List.getD l (Int.toNat i) (EC.dflt rowE)))))), tI (Prod.fst (Prod.snd (Prod.snd (Prod.snd (Prod.snd (List.getD l (Int.toNat i) (EC.dflt rowE))))))), tS (Prod.fst (Prod.snd (Prod.snd (Prod.snd (Prod.snd (Prod.snd (List.getD l (Int.toNat i) (EC.dflt rowE)))))))), Prod.snd (Prod.snd (Prod.snd (Prod.snd (Prod.snd (Prod.snd (List.getD l (Int.toNat i) (EC.dflt rowE)))))))) w) (.leaf (.normal, [(4, (.ptr 0 0)), (5, (.int .i64 0)), (6, (.int .i64 0)), (7, (.int .u16 w)), (9, (.ptr 1 0)), (42, (.sl (.prod [.str, .str, (.int .i64), (.int .i64), (.int .i64), .str, .str]) (l) ([]) Fl.full)), (43, (.int .i64 (↑(List.length l)))), (44, (.int .i64 (IntKind.wrap IntKind.i64 (i + 1)))), (45, (.bool true)), (51, (.bool true))], [(.cells [(.str []), (.int .i64 0), (.int .i64 0), (.int .i64 0), (.int .i64 0), (.int .i64 0)] 37), (.cells [(.str (tS (Prod.fst (List.getD l (Int.toNat i) (EC.dflt rowE))))), (.str (tS (Prod.fst (Prod.snd (List.getD l (Int.toNat i) (EC.dflt rowE)))))), (.int .i64 (tI (Prod.fst (Prod.snd (Prod.snd (List.getD l (Int.toNat i) (EC.dflt rowE))))))), (.int .i64 (tI (Prod.fst (Prod.snd (Prod.snd (Prod.snd (List.getD l (Int.toNat i) (EC.dflt rowE)))))))), (.int .i64 (tI (Prod.fst (Prod.snd (Prod.snd (Prod.snd (Prod.snd (List.getD l (Int.toNat i) (EC.dflt rowE))))))))), (.str (tS (Prod.fst (Prod.snd (Prod.snd (Prod.snd (Prod.snd (Prod.snd (List.getD l (Int.toNat i) (EC.dflt rowE)))))))))), (.str (Prod.snd (Prod.snd (Prod.snd (Prod.snd (Prod.snd (Prod.snd (List.getD l (Int.toNat i) (EC.dflt rowE)))))))))] 48)])) (.br (isRowB (tS (Prod.fst (List.getD l (Int.toNat i) (EC.dflt rowE))), tS (Prod.fst (Prod.snd (List.getD l (Int.toNat i) (EC.dflt rowE)))), tI (Prod.fst (Prod.snd (Prod.snd (List.getD l (Int.toNat i) (EC.dflt rowE))))), tI (Prod.fst (Prod.snd (Prod.snd (Prod.snd (List.getD l (Int.toNat i) (EC.dflt rowE)))))), tI (Prod.fst (Prod.snd (Prod.snd (Prod.snd (Prod.snd (List.getD l (Int.toNat i) (EC.dflt rowE))))))), tS (Prod.fst (Prod.snd (Prod.snd (Prod.snd (Prod.snd (Prod.snd (List.getD l (Int.toNat i) (EC.dflt rowE)))))))), Prod.snd (Prod.snd (Prod.snd (Prod.snd (Prod.snd (Prod.snd (List.getD l (Int.toNat i) (EC.dflt rowE))))))))) (.br (Prod.snd (readX (tS (Prod.fst (List.getD l (Int.toNat i) (EC.dflt rowE))), tS (Prod.fst (Prod.snd (List.getD l (Int.toNat i) (EC.dflt rowE)))), tI (Prod.fst (Prod.snd (Prod.snd (List.getD l (Int.toNat i) (EC.dflt rowE))))), tI (Prod.fst (Prod.snd (Prod.snd (Prod.snd (List.getD l (Int.toNat i) (EC.dflt rowE)))))), tI (Prod.fst (Prod.snd (Prod.snd (Prod.snd (Prod.snd (List.getD l (Int.toNat i) (EC.dflt rowE))))))), tS (Prod.fst (Prod.snd (Prod.snd (Prod.snd (Prod.snd (Prod.snd (List.getD l (Int.toNat i) (EC.dflt rowE)))))))), Prod.snd (Prod.snd (Prod.snd (Prod.snd (Prod.snd (Prod.snd (List.getD l (Int.toNat i) (EC.dflt rowE)))))))) w)) (.leaf (.ret, [(4, (.ptr 0 0)), (5, (.int .i64 2)), (6, (.int .i64 0)), (7, (.int .u16 w)), (9, (.ptr 1 0)), (10, (.ptr 2 0)), (11, (.bool (Prod.snd (readX (tS (Prod.fst (List.getD l (Int.toNat i) (EC.dflt rowE))), tS (Prod.fst (Prod.snd (List.getD l (Int.toNat i) (EC.dflt rowE)))), tI (Prod.fst (Prod.snd (Prod.snd (List.getD l (Int.toNat i) (EC.dflt rowE))))), tI (Prod.fst (Prod.snd (Prod.snd (Prod.snd (List.getD l (Int.toNat i) (EC.dflt rowE)))))), tI (Prod.fst (Prod.snd (Prod.snd (Prod.snd (Prod.snd (List.getD l (Int.toNat i) (EC.dflt rowE))))))), tS (Prod.fst (Prod.snd (Prod.snd (Prod.snd (Prod.snd (Prod.snd (List.getD l (Int.toNat i) (EC.dflt rowE)))))))), Prod.snd (Prod.snd (Prod.snd (Prod.snd (Prod.snd (Prod.snd (List.getD l (Int.toNat i) (EC.dflt rowE)))))))) w)))), (42, (.sl (.prod [.str, .str, (.int .i64), (.int .i64), (.int .i64), .str, .str]) (l) ([]) Fl.full)), (43, (.int .i64 (↑(List.length l)))), (44, (.int .i64 i)), (45, (.bool true)), (51, (.bool false)), (58, (.bool true))], [(.cells [(.str (Prod.fst (Prod.fst (readX (tS (Prod.fst (List.getD l (Int.toNat i) (EC.dflt rowE))), tS (Prod.fst (Prod.snd (List.getD l (Int.toNat i) (EC.dflt rowE)))), tI (Prod.fst (Prod.snd (Prod.snd (List.getD l (Int.toNat i) (EC.dflt rowE))))), tI (Prod.fst (Prod.snd (Prod.snd (Prod.snd (List.getD l (Int.toNat i) (EC.dflt rowE)))))), tI (Prod.fst (Prod.snd (Prod.snd (Prod.snd (Prod.snd (List.getD l (Int.toNat i) (EC.dflt rowE))))))), tS (Prod.fst (Prod.snd (Prod.snd (Prod.snd (Prod.snd (Prod.snd (List.getD l (Int.toNat i) (EC.dflt rowE)))))))), Prod.snd (Prod.snd (Prod.snd (Prod.snd (Prod.snd (Prod.snd (List.getD l (Int.toNat i) (EC.dflt rowE)))))))) w)))), (.int .i64 (Prod.fst (Prod.snd (Prod.fst (readX (tS (Prod.fst (List.getD l (Int.toNat i) (EC.dflt rowE))), tS (Prod.fst (Prod.snd (List.getD l (Int.toNat i) (EC.dflt rowE)))), tI (Prod.fst (Prod.snd (Prod.snd (List.getD l (Int.toNat i) (EC.dflt rowE))))), tI (Prod.fst (Prod.snd (Prod.snd (Prod.snd (List.getD l (Int.toNat i) (EC.dflt rowE)))))), tI (Prod.fst (Prod.snd (Prod.snd (Prod.snd (Prod.snd (List.getD l (Int.toNat i) (EC.dflt rowE))))))), tS (Prod.fst (Prod.snd (Prod.snd (Prod.snd (Prod.snd (Prod.snd (List.getD l (Int.toNat i) (EC.dflt rowE)))))))), Prod.snd (Prod.snd (Prod.snd (Prod.snd (Prod.snd (Prod.snd (List.getD l (Int.toNat i) (EC.dflt rowE)))))))) w))))), (.int .i64 (Prod.fst (Prod.snd (Prod.snd (Prod.fst (readX (tS (Prod.fst (List.getD l (Int.toNat i) (EC.dflt rowE))), tS (Prod.fst (Prod.snd (List.getD l (Int.toNat i) (EC.dflt rowE)))), tI (Prod.fst (Prod.snd (Prod.snd (List.getD l (Int.toNat i) (EC.dflt rowE))))), tI (Prod.fst (Prod.snd (Prod.snd (Prod.snd (List.getD l (Int.toNat i) (EC.dflt rowE)))))), tI (Prod.fst (Prod.snd (Prod.snd (Prod.snd (Prod.snd (List.getD l (Int.toNat i) (EC.dflt rowE))))))), tS (Prod.fst (Prod.snd (Prod.snd (Prod.snd (Prod.snd (Prod.snd (List.getD l (Int.toNat i) (EC.dflt rowE)))))))), Prod.snd (Prod.snd (Prod.snd (Prod.snd (Prod.snd (Prod.snd (List.getD l (Int.toNat i) (EC.dflt rowE)))))))) w)))))), (.int .i64 (Prod.fst (Prod.snd (Prod.snd (Prod.snd (Prod.fst (readX (tS (Prod.fst (List.getD l (Int.toNat i) (EC.dflt rowE))), tS (Prod.fst (Prod.snd (List.getD l (Int.toNat i) (EC.dflt rowE)))), tI (Prod.fst (Prod.snd (Prod.snd (List.getD l (Int.toNat i) (EC.dflt rowE))))), tI (Prod.fst (Prod.snd (Prod.snd (Prod.snd (List.getD l (Int.toNat i) (EC.dflt rowE)))))), tI (Prod.fst (Prod.snd (Prod.snd (Prod.snd (Prod.snd (List.getD l (Int.toNat i) (EC.dflt rowE))))))), tS (Prod.fst (Prod.snd (Prod.snd (Prod.snd (Prod.snd (Prod.snd (List.getD l (Int.toNat i) (EC.dflt rowE)))))))), Prod.snd (Prod.snd (Prod.snd (Prod.snd (Prod.snd (Prod.snd (List.getD l (Int.toNat i) (EC.dflt rowE)))))))) w))))))), (.int .i64 (Prod.fst (Prod.snd (Prod.snd (Prod.snd (Prod.snd (Prod.fst (readX (tS (Prod.fst (List.getD l (Int.toNat i) (EC.dflt rowE))), tS (Prod.fst (Prod.snd (List.getD l (Int.toNat i) (EC.dflt rowE)))), tI (Prod.fst (Prod.snd (Prod.snd (List.getD l (Int.toNat i) (EC.dflt rowE))))), tI (Prod.fst (Prod.snd (Prod.snd (Prod.snd (List.getD l (Int.toNat i) (EC.dflt rowE)))))), tI (Prod.fst (Prod.snd (Prod.snd (Prod.snd (Prod.snd (List.getD l (Int.toNat i) (EC.dflt rowE))))))), tS (Prod.fst (Prod.snd (Prod.snd (Prod.snd (Prod.snd (Prod.snd (List.getD l (Int.toNat i) (EC.dflt rowE)))))))), Prod.snd (Prod.snd (Prod.snd (Prod.snd (Prod.snd (Prod.snd (List.getD l (Int.toNat i) (EC.dflt rowE)))))))) w)))))))), (.int .i64 (Prod.snd (Prod.snd (Prod.snd (Prod.snd (Prod.snd (Prod.fst (readX (tS (Prod.fst (List.getD l (Int.toNat i) (EC.dflt rowE))), tS (Prod.fst (Prod.snd (List.getD l (Int.toNat i) (EC.dflt rowE)))), tI (Prod.fst (Prod.snd (Prod.snd (List.getD l (Int.toNat i) (EC.dflt rowE))))), tI (Prod.fst (Prod.snd (Prod.snd (Prod.snd (List.getD l (Int.toNat i) (EC.dflt rowE)))))), tI (Prod.fst (Prod.snd (Prod.snd (Prod.snd (Prod.snd (List.getD l (Int.toNat i) (EC.dflt rowE))))))), tS (Prod.fst (Prod.snd (Prod.snd (Prod.snd (Prod.snd (Prod.snd (List.getD l (Int.toNat i) (EC.dflt rowE)))))))), Prod.snd (Prod.snd (Prod.snd (Prod.snd (Prod.snd (Prod.snd (List.getD l (Int.toNat i) (EC.dflt rowE)))))))) w))))))))] 37), (.cells [(.str (tS (Prod.fst (List.getD l (Int.toNat i) (EC.dflt rowE))))), (.str (tS (Prod.fst (Prod.snd (List.getD l (Int.toNat i) (EC.dflt rowE)))))), (.int .i64 (tI (Prod.fst (Prod.snd (Prod.snd (List.getD l (Int.toNat i) (EC.dflt rowE))))))), (.int .i64 (tI (Prod.fst (Prod.snd (Prod.snd (Prod.snd (List.getD l (Int.toNat i) (EC.dflt rowE)))))))), (.int .i64 (tI (Prod.fst (Prod.snd (Prod.snd (Prod.snd (Prod.snd (List.getD l (Int.toNat i) (EC.dflt rowE))))))))), (.str (tS (Prod.fst (Prod.snd (Prod.snd (Prod.snd (Prod.snd (Prod.snd (List.getD l (Int.toNat i) (EC.dflt rowE)))))))))), (.str (Prod.snd (Prod.snd (Prod.snd (Prod.snd (Prod.snd (Prod.snd (List.getD l (Int.toNat i) (EC.dflt rowE)))))))))] 48), (.cells [(.str (Prod.fst (Prod.fst (readX (tS (Prod.fst (List.getD l (Int.toNat i) (EC.dflt rowE))), tS (Prod.fst (Prod.snd (List.getD l (Int.toNat i) (EC.dflt rowE)))), tI (Prod.fst (Prod.snd (Prod.snd (List.getD l (Int.toNat i) (EC.dflt rowE))))), tI (Prod.fst (Prod.snd (Prod.snd (Prod.snd (List.getD l (Int.toNat i) (EC.dflt rowE)))))), tI (Prod.fst (Prod.snd (Prod.snd (Prod.snd (Prod.snd (List.getD l (Int.toNat i) (EC.dflt rowE))))))), tS (Prod.fst (Prod.snd (Prod.snd (Prod.snd (Prod.snd (Prod.snd (List.getD l (Int.toNat i) (EC.dflt rowE)))))))), Prod.snd (Prod.snd (Prod.snd (Prod.snd (Prod.snd (Prod.snd (List.getD l (Int.toNat i) (EC.dflt rowE)))))))) w)))), (.int .i64 (Prod.fst (Prod.snd (Prod.fst (readX (tS (Prod.fst (List.getD l (Int.toNat i) (EC.dflt rowE))), tS (Prod.fst (Prod.snd (List.getD l (Int.toNat i) (EC.dflt rowE)))), tI (Prod.fst (Prod.snd (Prod.snd (List.getD l (Int.toNat i) (EC.dflt rowE))))), tI (Prod.fst (Prod.snd (Prod.snd (Prod.snd (List.getD l (Int.toNat i) (EC.dflt rowE)))))), tI (Prod.fst (Prod.snd (Prod.snd (Prod.snd (Prod.snd (List.getD l (Int.toNat i) (EC.dflt rowE))))))), tS (Prod.fst (Prod.snd (Prod.snd (Prod.snd (Prod.snd (Prod.snd (List.getD l (Int.toNat i) (EC.dflt rowE)))))))), Prod.snd (Prod.snd (Prod.snd (Prod.snd (Prod.snd (Prod.snd (List.getD l (Int.toNat i) (EC.dflt rowE)))))))) w))))), (.int .i64 (Prod.fst (Prod.snd (Prod.snd (Prod.fst (readX (tS (Prod.fst (List.getD l (Int.toNat i) (EC.dflt rowE))), tS (Prod.fst (Prod.snd (List.getD l (Int.toNat i) (EC.dflt rowE)))), tI (Prod.fst (Prod.snd (Prod.snd (List.getD l (Int.toNat i) (EC.dflt rowE))))), tI (Prod.fst (Prod.snd (Prod.snd (Prod.snd (List.getD l (Int.toNat i) (EC.dflt rowE)))))), tI (Prod.fst (Prod.snd (Prod.snd (Prod.snd (Prod.snd (List.getD l (Int.toNat i) (EC.dflt rowE))))))), tS (Prod.fst (Prod.snd (Prod.snd (Prod.snd (Prod.snd (Prod.snd (List.getD l (Int.toNat i) (EC.dflt rowE)))))))), Prod.snd (Prod.snd (Prod.snd (Prod.snd (Prod.snd (Prod.snd (List.getD l (Int.toNat i) (EC.dflt rowE)))))))) w)))))), (.int .i64 (Prod.fst (Prod.snd (Prod.snd (Prod.snd (Prod.fst (readX (tS (Prod.fst (List.getD l (Int.toNat i) (EC.dflt rowE))), tS (Prod.fst (Prod.snd (List.getD l (Int.toNat i) (EC.dflt rowE)))), tI (Prod.fst (Prod.snd (Prod.snd (List.getD l (Int.toNat i) (EC.dflt rowE))))), tI (Prod.fst (Prod.snd (Prod.snd (Prod.snd (List.getD l (Int.toNat i) (EC.dflt rowE)))))), tI (Prod.fst (Prod.snd (Prod.snd (Prod.snd (Prod.snd (List.getD l (Int.toNat i) (EC.dflt rowE))))))), tS (Prod.fst (Prod.snd (Prod.snd (Prod.snd (Prod.snd (Prod.snd (List.getD l (Int.toNat i) (EC.dflt rowE)))))))), Prod.snd (Prod.snd (Prod.snd (Prod.snd (Prod.snd (Prod.snd (List.getD l (Int.toNat i) (EC.dflt rowE)))))))) w))))))), (.int .i64 (Prod.fst (Prod.snd (Prod.snd (Prod.snd (Prod.snd (Prod.fst (readX (tS (Prod.fst (List.getD l (Int.toNat i) (EC.dflt rowE))), tS (Prod.fst (Prod.snd (List.getD l (Int.toNat i) (EC.dflt rowE)))), tI (Prod.fst (Prod.snd (Prod.snd (List.getD l (Int.toNat i) (EC.dflt rowE))))), tI (Prod.fst (Prod.snd (Prod.snd (Prod.snd (List.getD l (Int.toNat i) (EC.dflt rowE)))))), tI (Prod.fst (Prod.snd (Prod.snd (Prod.snd (Prod.snd (List.getD l (Int.toNat i) (EC.dflt rowE))))))), tS (Prod.fst (Prod.snd (Prod.snd (Prod.snd (Prod.snd (Prod.snd (List.getD l (Int.toNat i) (EC.dflt rowE)))))))), Prod.snd (Prod.snd (Prod.snd (Prod.snd (Prod.snd (Prod.snd (List.getD l (Int.toNat i) (EC.dflt rowE)))))))) w)))))))), (.int .i64 (Prod.snd (Prod.snd (Prod.snd (Prod.snd (Prod.snd (Prod.fst (readX (tS (Prod.fst (List.getD l (Int.toNat i) (EC.dflt rowE))), tS (Prod.fst (Prod.snd (List.getD l (Int.toNat i) (EC.dflt rowE)))), tI (Prod.fst (Prod.snd (Prod.snd (List.getD l (Int.toNat i) (EC.dflt rowE))))), tI (Prod.fst (Prod.snd (Prod.snd (Prod.snd (List.getD l (Int.toNat i) (EC.dflt rowE)))))), tI (Prod.fst (Prod.snd (Prod.snd (Prod.snd (Prod.snd (List.getD l (Int.toNat i) (EC.dflt rowE))))))), tS (Prod.fst (Prod.snd (Prod.snd (Prod.snd (Prod.snd (Prod.snd (List.getD l (Int.toNat i) (EC.dflt rowE)))))))), Prod.snd (Prod.snd (Prod.snd (Prod.snd (Prod.snd (Prod.snd (List.getD l (Int.toNat i) (EC.dflt rowE)))))))) w))))))))] 37)])) (.leaf (.normal, [(4, (.ptr 0 0)), (5, (.int .i64 0)), (6, (.int .i64 0)), (7, (.int .u16 w)), (9, (.ptr 1 0)), (10, (.ptr 2 0)), (11, (.bool (Prod.snd (readX (tS (Prod.fst (List.getD l (Int.toNat i) (EC.dflt rowE))), tS (Prod.fst (Prod.snd (List.getD l (Int.toNat i) (EC.dflt rowE)))), tI (Prod.fst (Prod.snd (Prod.snd (List.getD l (Int.toNat i) (EC.dflt rowE))))), tI (Prod.fst (Prod.snd (Prod.snd (Prod.snd (List.getD l (Int.toNat i) (EC.dflt rowE)))))), tI (Prod.fst (Prod.snd (Prod.snd (Prod.snd (Prod.snd (List.getD l (Int.toNat i) (EC.dflt rowE))))))), tS (Prod.fst (Prod.snd (Prod.snd (Prod.snd (Prod.snd (Prod.snd (List.getD l (Int.toNat i) (EC.dflt rowE)))))))), Prod.snd (Prod.snd (Prod.snd (Prod.snd (Prod.snd (Prod.snd (List.getD l (Int.toNat i) (EC.dflt rowE)))))))) w)))), (42, (.sl (.prod [.str, .str, (.int .i64), (.int .i64), (.int .i64), .str, .str]) (l) ([]) Fl.full)), (43, (.int .i64 (↑(List.length l)))), (44, (.int .i64 (IntKind.wrap IntKind.i64 (i + 1)))), (45, (.bool true)), (51, (.bool false)), (58, (.bool false))], [(.cells [(.str []), (.int .i64 0), (.int .i64 0), (.int .i64 0), (.int .i64 0), (.int .i64 0)] 37), (.cells [(.str (tS (Prod.fst (List.getD l (Int.toNat i) (EC.dflt rowE))))), (.str (tS (Prod.fst (Prod.snd (List.getD l (Int.toNat i) (EC.dflt rowE)))))), (.int .i64 (tI (Prod.fst (Prod.snd (Prod.snd (List.getD l (Int.toNat i) (EC.dflt rowE))))))), (.int .i64 (tI (Prod.fst (Prod.snd (Prod.snd (Prod.snd (List.getD l (Int.toNat i) (EC.dflt rowE)))))))), (.int .i64 (tI (Prod.fst (Prod.snd (Prod.snd (Prod.snd (Prod.snd (List.getD l (Int.toNat i) (EC.dflt rowE))))))))), (.str (tS (Prod.fst (Prod.snd (Prod.snd (Prod.snd (Prod.snd (Prod.snd (List.getD l (Int.toNat i) (EC.dflt rowE)))))))))), (.str (Prod.snd (Prod.snd (Prod.snd (Prod.snd (Prod.snd (Prod.snd (List.getD l (Int.toNat i) (EC.dflt rowE)))))))))] 48), (.cells [(.str (Prod.fst (Prod.fst (readX (tS (Prod.fst (List.getD l (Int.toNat i) (EC.dflt rowE))), tS (Prod.fst (Prod.snd (List.getD l (Int.toNat i) (EC.dflt rowE)))), tI (Prod.fst (Prod.snd (Prod.snd (List.getD l (Int.toNat i) (EC.dflt rowE))))), tI (Prod.fst (Prod.snd (Prod.snd (Prod.snd (List.getD l (Int.toNat i) (EC.dflt rowE)))))), tI (Prod.fst (Prod.snd (Prod.snd (Prod.snd (Prod.snd (List.getD l (Int.toNat i) (EC.dflt rowE))))))), tS (Prod.fst (Prod.snd (Prod.snd (Prod.snd (Prod.snd (Prod.snd (List.getD l (Int.toNat i) (EC.dflt rowE)))))))), Prod.snd (Prod.snd (Prod.snd (Prod.snd (Prod.snd (Prod.snd (List.getD l (Int.toNat i) (EC.dflt rowE)))))))) w)))), (.int .i64 (Prod.fst (Prod.snd (Prod.fst (readX (tS (Prod.fst (List.getD l (Int.toNat i) (EC.dflt rowE))), tS (Prod.fst (Prod.snd (List.getD l (Int.toNat i) (EC.dflt rowE)))), tI (Prod.fst (Prod.snd (Prod.snd (List.getD l (Int.toNat i) (EC.dflt rowE))))), tI (Prod.fst (Prod.snd (Prod.snd (Prod.snd (List.getD l (Int.toNat i) (EC.dflt rowE)))))), tI (Prod.fst (Prod.snd (Prod.snd (Prod.snd (Prod.snd (List.getD l (Int.toNat i) (EC.dflt rowE))))))), tS (Prod.fst (Prod.snd (Prod.snd (Prod.snd (Prod.snd (Prod.snd (List.getD l (Int.toNat i) (EC.dflt rowE)))))))), Prod.snd (Prod.snd (Prod.snd (Prod.snd (Prod.snd (Prod.snd (List.getD l (Int.toNat i) (EC.dflt rowE)))))))) w))))), (.int .i64 (Prod.fst (Prod.snd (Prod.snd (Prod.fst (readX (tS (Prod.fst (List.getD l (Int.toNat i) (EC.dflt rowE))), tS (Prod.fst (Prod.snd (List.getD l (Int.toNat i) (EC.dflt rowE)))), tI (Prod.fst (Prod.snd (Prod.snd (List.getD l (Int.toNat i) (EC.dflt rowE))))), tI (Prod.fst (Prod.snd (Prod.snd (Prod.snd (List.getD l (Int.toNat i) (EC.dflt rowE)))))), tI (Prod.fst (Prod.snd (Prod.snd (Prod.snd (Prod.snd (List.getD l (Int.toNat i) (EC.dflt rowE))))))), tS (Prod.fst (Prod.snd (Prod.snd (Prod.snd (Prod.snd (Prod.snd (List.getD l (Int.toNat i) (EC.dflt rowE)))))))), Prod.snd (Prod.snd (Prod.snd (Prod.snd (Prod.snd (Prod.snd (List.getD l (Int.toNat i) (EC.dflt rowE)))))))) w)))))), (.int .i64 (Prod.fst (Prod.snd (Prod.snd (Prod.snd (Prod.fst (readX (tS (Prod.fst (List.getD l (Int.toNat i) (EC.dflt rowE))), tS (Prod.fst (Prod.snd (List.getD l (Int.toNat i) (EC.dflt rowE)))), tI (Prod.fst (Prod.snd (Prod.snd (List.getD l (Int.toNat i) (EC.dflt rowE))))), tI (Prod.fst (Prod.snd (Prod.snd (Prod.snd (List.getD l (Int.toNat i) (EC.dflt rowE)))))), tI (Prod.fst (Prod.snd (Prod.snd (Prod.snd (Prod.snd (List.getD l (Int.toNat i) (EC.dflt rowE))))))), tS (Prod.fst (Prod.snd (Prod.snd (Prod.snd (Prod.snd (Prod.snd (List.getD l (Int.toNat i) (EC.dflt rowE)))))))), Prod.snd (Prod.snd (Prod.snd (Prod.snd (Prod.snd (Prod.snd (List.getD l (Int.toNat i) (EC.dflt rowE)))))))) w))))))), (.int .i64 (Prod.fst (Prod.snd (Prod.snd (Prod.snd (Prod.snd (Prod.fst (readX (tS (Prod.fst (List.getD l (Int.toNat i) (EC.dflt rowE))), tS (Prod.fst (Prod.snd (List.getD l (Int.toNat i) (EC.dflt rowE)))), tI (Prod.fst (Prod.snd (Prod.snd (List.getD l (Int.toNat i) (EC.dflt rowE))))), tI (Prod.fst (Prod.snd (Prod.snd (Prod.snd (List.getD l (Int.toNat i) (EC.dflt rowE)))))), tI (Prod.fst (Prod.snd (Prod.snd (Prod.snd (Prod.snd (List.getD l (Int.toNat i) (EC.dflt rowE))))))), tS (Prod.fst (Prod.snd (Prod.snd (Prod.snd (Prod.snd (Prod.snd (List.getD l (Int.toNat i) (EC.dflt rowE)))))))), Prod.snd (Prod.snd (Prod.snd (Prod.snd (Prod.snd (Prod.snd (List.getD l (Int.toNat i) (EC.dflt rowE)))))))) w)))))))), (.int .i64 (Prod.snd (Prod.snd (Prod.snd (Prod.snd (Prod.snd (Prod.fst (readX (tS (Prod.fst (List.getD l (Int.toNat i) (EC.dflt rowE))), tS (Prod.fst (Prod.snd (List.getD l (Int.toNat i) (EC.dflt rowE)))), tI (Prod.fst (Prod.snd (Prod.snd (List.getD l (Int.toNat i) (EC.dflt rowE))))), tI (Prod.fst (Prod.snd (Prod.snd (Prod.snd (List.getD l (Int.toNat i) (EC.dflt rowE)))))), tI (Prod.fst (Prod.snd (Prod.snd (Prod.snd (Prod.snd (List.getD l (Int.toNat i) (EC.dflt rowE))))))), tS (Prod.fst (Prod.snd (Prod.snd (Prod.snd (Prod.snd (Prod.snd (List.getD l (Int.toNat i) (EC.dflt rowE)))))))), Prod.snd (Prod.snd (Prod.snd (Prod.snd (Prod.snd (Prod.snd (List.getD l (Int.toNat i) (EC.dflt rowE)))))))) w))))))))] 37)]))) .fail)) .fail) .fail) (.leaf ((.exit 1), [(4, (.ptr 0 0)), (5, (.int .i64 0)), (6, (.int .i64 0)), (7, (.int .u16 w)), (42, (.sl (.prod [.str, .str, (.int .i64), (.int .i64), (.int .i64), .str, .str]) (l) ([]) Fl.full)), (43, (.int .i64 (↑(List.length l)))), (44, (.int .i64 i)), (45, (.bool false))], [(.cells [(.str []), (.int .i64 0), (.int .i64 0), (.int .i64 0), (.int .i64 0), (.int .i64 0)] 37)])))

theorem decodeRound_eq (l : List rowE.ty) (w i : Int) : (dcode cx10 (cin (cin (c2 (c1 (c2 (c2 (c2 (bodyOf Tryz.f10)))))))) [(4, .ptr 0 0), (5, .int .i64 0), (6, .int .i64 0), (7, .int .u16 w), (42, .sl rowE l [] .full), (43, .int .i64 l.length), (44, .int .i64 i)] [.cells [.str [], .int .i64 0, .int .i64 0, .int .i64 0, .int .i64 0, .int .i64 0] 37]).run = (decodeRound l w i).run :=
  (show (dcode cx10 (cin (cin (c2 (c1 (c2 (c2 (c2 (bodyOf Tryz.f10)))))))) [(4, .ptr 0 0), (5, .int .i64 0), (6, .int .i64 0), (7, .int .u16 w), (42, .sl rowE l [] .full), (43, .int .i64 l.length), (44, .int .i64 i)] [.cells [.str [], .int .i64 0, .int .i64 0, .int .i64 0, .int .i64 0, .int .i64 0] 37]).run = (decodeRound l w i).out by kernel_rfl).trans (Tree.out_run _)

def decodeB (l sp : List Int) (fl : Fl) (at_ : Int) : Tree St :=
  (.br (decide (at_ < 0)) (.leaf (.ret, [(0, (.sl (.int .u8) (l) (sp) fl)), (1, (.int .i64 at_)), (4, (.ptr 0 0)), (5, (.int .i64 0)), (6, (.int .i64 5)), (12, (.bool true))], [(.cells [(.str []), (.int .i64 0), (.int .i64 0), (.int .i64 0), (.int .i64 0), (.int .i64 0)] 37)])) (.br (decide (↑(List.length l) < at_)) (.leaf (.ret, [(0, (.sl (.int .u8) (l) (sp) fl)), (1, (.int .i64 at_)), (4, (.ptr 0 0)), (5, (.int .i64 0)), (6, (.int .i64 5)), (12, (.bool true))], [(.cells [(.str []), (.int .i64 0), (.int .i64 0), (.int .i64 0), (.int .i64 0), (.int .i64 0)] 37)])) (.br (decide (IntKind.wrap IntKind.i64 (↑(List.length l) - at_) < 2)) (.leaf (.ret, [(0, (.sl (.int .u8) (l) (sp) fl)), (1, (.int .i64 at_)), (4, (.ptr 0 0)), (5, (.int .i64 0)), (6, (.int .i64 2)), (12, (.bool false)), (22, (.bool true))], [(.cells [(.str []), (.int .i64 0), (.int .i64 0), (.int .i64 0), (.int .i64 0), (.int .i64 0)] 37)])) (.leaf (.normal, [(0, (.sl (.int .u8) (l) (sp) fl)), (1, (.int .i64 at_)), (4, (.ptr 0 0)), (5, (.int .i64 0)), (6, (.int .i64 0)), (12, (.bool false)), (22, (.bool false))], [(.cells [(.str []), (.int .i64 0), (.int .i64 0), (.int .i64 0), (.int .i64 0), (.int .i64 0)] 37)])))))

theorem decodeB_eq (l sp : List Int) (fl : Fl) (at_ : Int) : (dcode cx10 (c1 (c2 (bodyOf Tryz.f10))) [(0, .sl (.int .u8) l sp fl), (1, .int .i64 at_), (4, .ptr 0 0), (5, .int .i64 0), (6, .int .i64 0)] [.cells [.str [], .int .i64 0, .int .i64 0, .int .i64 0, .int .i64 0, .int .i64 0] 37]).run = (decodeB l sp fl at_).run :=
  (show (dcode cx10 (c1 (c2 (bodyOf Tryz.f10))) [(0, .sl (.int .u8) l sp fl), (1, .int .i64 at_), (4, .ptr 0 0), (5, .int .i64 0), (6, .int .i64 0)] [.cells [.str [], .int .i64 0, .int .i64 0, .int .i64 0, .int .i64 0, .int .i64 0] 37]).run = (decodeB l sp fl at_).out by kernel_rfl).trans (Tree.out_run _)

def decodeW (l sp : List Int) (fl : Fl) (at_ : Int) : Tree St :=
  (.br (inside at_ (List.length l)) (.br (inside (IntKind.wrap IntKind.i64 (at_ + 1)) (List.length l)) (.leaf (.normal, [(0, (.sl (.int .u8) (l) (sp) fl)), (1, (.int .i64 at_)), (4, (.ptr 0 0)), (5, (.int .i64 0)), (6, (.int .i64 0)), (7, (.int .u16 (IntKind.wrap IntKind.u16 ↑(BitVec.toNat (BitVec.ofInt 16 (IntKind.wrap IntKind.u16 (tI (List.getD l (Int.toNat at_) (tI (EC.dflt (EC.int IntKind.u8)))))) ||| BitVec.ofInt 16 (IntKind.wrap IntKind.u16 (IntKind.wrap IntKind.u16 (tI (List.getD l (Int.toNat (IntKind.wrap IntKind.i64 (at_ + 1))) (tI (EC.dflt (EC.int IntKind.u8))))) * 2 ^ 8)))))))], [(.cells [(.str []), (.int .i64 0), (.int .i64 0), (.int .i64 0), (.int .i64 0), (.int .i64 0)] 37)])) .fail) .fail)

theorem decodeW_eq (l sp : List Int) (fl : Fl) (at_ : Int) : (dcode cx10 (c1 (c2 (c2 (bodyOf Tryz.f10)))) [(0, .sl (.int .u8) l sp fl), (1, .int .i64 at_), (4, .ptr 0 0), (5, .int .i64 0), (6, .int .i64 0)] [.cells [.str [], .int .i64 0, .int .i64 0, .int .i64 0, .int .i64 0, .int .i64 0] 37]).run = (decodeW l sp fl at_).run :=
  (show (dcode cx10 (c1 (c2 (c2 (bodyOf Tryz.f10)))) [(0, .sl (.int .u8) l sp fl), (1, .int .i64 at_), (4, .ptr 0 0), (5, .int .i64 0), (6, .int .i64 0)] [.cells [.str [], .int .i64 0, .int .i64 0, .int .i64 0, .int .i64 0, .int .i64 0] 37]).run = (decodeW l sp fl at_).out by kernel_rfl).trans (Tree.out_run _)


theorem cx10_ok : CxOk cx10 := cx1_ok (.cons rowsS_ok (.cons opS_ok (ok1 readS_ok))) (fun p h => by cases h) rfl rfl

/-- Is the word this row's? -/
def dMatch (w : Int) (x : RowT) : Bool := opF x w && (readX x w).2
def drow (w : Int) : Option RowT := rowsL.find? (dMatch w)
def decI (w : Int) : InsT := match drow w with
  | some x => (readX x w).1
  | none => zeroI
def decOk (w : Int) : Bool := (drow w).isSome
def gb (l : List Int) (i : Int) : Int := IntKind.wrap .u16 (l.getD i.toNat 0)
def w2 (l : List Int) (at_ : Int) : Int := or16 (gb l at_) (u16 (gb l (IntKind.wrap .i64 (at_ + 1)) * 2 ^ 8))
abbrev insO (i : InsT) : O := .cells (insL i) 37
theorem rowsL_len : rowsL.length = 33 := by kernel_rfl

def decSt (w : Int) (i : { i : Nat // i ≤ rowsL.length ∧ (rowsL.take i).find? (dMatch w) = none }) : T × List O :=
  ([(4, .ptr 0 0), (5, .int .i64 0), (6, .int .i64 0), (7, .int .u16 w), (42, .sl rowE rowsL [] .full), (43, .int .i64 rowsL.length), (44, .int .i64 i.1)], [insO zeroI])

/-- What Decode answers behind its loop. -/
def decQ (w : Int) (e : AEx) (t : T) (H : List O) : Prop :=
  (e = .ret ∨ e = .normal) ∧ answerV Tryz.prog Tryz.f10.results.toList H t = some (.tup [insV (decI w), .int .i64 (cond (decOk w) 2 0), .int .i64 (cond (decOk w) 0 22)])

theorem getD_mem {x : RowT} {l : List RowT} {i : Nat} (h : i < l.length) : l.getD i x ∈ l := by
  rw [List.getD, List.getElem?_eq_getElem h]
  exact List.getElem_mem h

theorem decode_loop (w : Int) : AWP Tryz.prog 62 (c2 (c2 (c2 (bodyOf Tryz.f10)))) (decQ w) [(4, .ptr 0 0), (5, .int .i64 0), (6, .int .i64 0), (7, .int .u16 w)] [insO zeroI] := by
  have e : c2 (c2 (c2 (bodyOf Tryz.f10))) = .seq (.seq (c1 (c1 (c2 (c2 (c2 (bodyOf Tryz.f10)))))) (.block 1 (.loop (cin (cin (c2 (c1 (c2 (c2 (c2 (bodyOf Tryz.f10))))))))))) (c2 (c2 (c2 (c2 (bodyOf Tryz.f10))))) := by kernel_rfl
  rw [e]
  have hlen := rowsL_len
  refine AWP_seq (AWP_seq (AWP_run (cx := cx10) rfl rfl cx10_ok (s := (.normal, [(4, .ptr 0 0), (5, .int .i64 0), (6, .int .i64 0), (7, .int .u16 w), (42, .sl rowE rowsL [] .full), (43, .int .i64 33), (44, .int .i64 0)], [insO zeroI])) (by kernel_rfl) ?_))
  refine AWP_block ?_
  refine AWP.less (s := (decSt w ⟨0, Nat.zero_le _, rfl⟩).1) (Fits.tle ⟨rfl, rfl, rfl, rfl, rfl, by kernel_rfl, rfl, trivial⟩) ?_
  refine AWP_rounds (cx := cx10) (P := Tryz.prog) (n := 62) rfl rfl cx10_ok (decSt w) (fun i => 33 - i.1) ?_ ⟨0, Nat.zero_le _, rfl⟩
  rintro ⟨i, hi, hnone⟩
  refine Tree.all_run_eq (decodeRound_eq rowsL w i) ?_
  have next : ∀ (hlt : i < rowsL.length) (hp : dMatch w (rowsL.getD i zeroR) = false), (rowsL.take (i + 1)).find? (dMatch w) = none := fun hlt hp => take_none hlt hnone hp
  have step : ∀ (hlt : i < rowsL.length), V.int .i64 (IntKind.wrap .i64 ((i : Int) + 1)) = V.int .i64 ((i + 1 : Nat) : Int) := fun hlt => by
    rw [wrap_i64 (by omega) (by omega)]
    rfl
  refine ⟨fun hlt => ?_, fun hge => ?_⟩
  · have hlt : i < rowsL.length := Int.ofNat_lt.1 (of_decide_eq_true hlt)
    have hrow : isRowB (rowsL.getD i zeroR) = true := isRowB_of (getD_mem hlt)
    refine ⟨fun hin => ⟨fun _ => ⟨fun hm => ?_, fun hm => ⟨fun _ => ⟨fun hw => ?_, fun hw => ?_⟩, fun h => Bool.noConfusion (hrow.symm.trans h)⟩⟩, fun h => Bool.noConfusion (hrow.symm.trans h)⟩, fun hin => Bool.noConfusion ((inside_of (Int.natCast_nonneg i) (Int.ofNat_lt.2 hlt)).symm.trans hin)⟩
    · have hp : dMatch w (rowsL.getD i zeroR) = false := by
        unfold dMatch
        rw [show opF (rowsL.getD i zeroR) w = false from (Bool.not_eq_true' _).mp hm]
        rfl
      exact ⟨[], _, rfl, ⟨i + 1, hlt, next hlt hp⟩, by show 33 - (i + 1) < 33 - i; omega, Fits.tle ⟨rfl, rfl, rfl, rfl, rfl, rfl, step hlt, trivial⟩, rfl⟩
    · have hp : dMatch w (rowsL.getD i zeroR) = true := by
        unfold dMatch
        rw [show opF (rowsL.getD i zeroR) w = true from (Bool.not_eq_false' _).mp hm]
        exact hw
      have hf : drow w = some (rowsL.getD i zeroR) := take_some hlt hnone hp
      refine ⟨[], _, rfl, ?_⟩
      refine ⟨.inl rfl, ?_⟩
      have h1 : decI w = (readX (rowsL.getD i zeroR) w).1 := by unfold decI; rw [hf]
      have h2 : decOk w = true := by unfold decOk; rw [hf]; rfl
      show answerV _ _ _ _ = some _
      rw [h1, h2]
      kernel_rfl
    · have hp : dMatch w (rowsL.getD i zeroR) = false := by
        unfold dMatch
        rw [show opF (rowsL.getD i zeroR) w = true from (Bool.not_eq_false' _).mp hm]
        exact hw
      exact ⟨[], _, rfl, ⟨i + 1, hlt, next hlt hp⟩, by show 33 - (i + 1) < 33 - i; omega, Fits.tle ⟨rfl, rfl, rfl, rfl, rfl, rfl, step hlt, trivial⟩, rfl⟩
  · have hge : ¬ i < rowsL.length := fun h => of_decide_eq_false hge (Int.ofNat_lt.2 h)
    have hi' : i = rowsL.length := by omega
    refine ⟨[], _, rfl, ?_⟩
    show AWP _ _ _ _ _ _
    refine AWP.less (s := [(4, .ptr 0 0), (5, .int .i64 0), (6, .int .i64 0), (7, .int .u16 w)]) (Fits.tle ⟨rfl, rfl, rfl, rfl, trivial⟩) ?_
    refine AWP_run (cx := cx10) rfl rfl cx10_ok (s := (.ret, [(4, .ptr 0 0), (5, .int .i64 0), (6, .int .i64 22), (7, .int .u16 w)], [insO zeroI])) (by kernel_rfl) ?_
    refine ⟨.inl rfl, ?_⟩
    have hf : drow w = none := by unfold drow; rw [← hnone, hi', List.take_length]
    have h1 : decI w = zeroI := by unfold decI; rw [hf]
    have h2 : decOk w = false := by unfold decOk; rw [hf]; rfl
    show answerV _ _ _ _ = some _
    rw [h1, h2]
    kernel_rfl

def outOf (l : List Int) (at_ : Int) : Bool := decide (at_ < 0) || decide ((l.length : Int) < at_)
def shortOf (l : List Int) (at_ : Int) : Bool := decide (IntKind.wrap .i64 ((l.length : Int) - at_) < 2)
/-- What Decode answers. -/
def dI (l : List Int) (at_ : Int) : InsT := cond (outOf l at_ || shortOf l at_) zeroI (decI (w2 l at_))
def dN (l : List Int) (at_ : Int) : Int := cond (outOf l at_ || shortOf l at_) 0 (cond (decOk (w2 l at_)) 2 0)
def dE (l : List Int) (at_ : Int) : Int := cond (outOf l at_) 5 (cond (shortOf l at_) 2 (cond (decOk (w2 l at_)) 0 22))

set_option maxRecDepth 8000 in
theorem decode_ok (l sp : List Int) (fl : Fl) (at_ : Int) (hl : l.length < 1000000000) :
    PCall Tryz.prog 10 [.sl (.int .u8) l sp fl, .int .i64 at_] (.tup [insV (dI l at_), .int .i64 (dN l at_), .int .i64 (dE l at_)]) := by
  refine pcall_of' (c := bodyOf Tryz.f10) (fn := Tryz.f10) (by kernel_rfl) (by kernel_rfl) (by kernel_rfl) (by kernel_rfl) ?_
  have e : bodyOf Tryz.f10 = .seq (c1 (bodyOf Tryz.f10)) (.seq (c1 (c2 (bodyOf Tryz.f10))) (.seq (c1 (c2 (c2 (bodyOf Tryz.f10)))) (c2 (c2 (c2 (bodyOf Tryz.f10)))))) := by kernel_rfl
  rw [e]
  generalize hQ : (fun e t H => (e = AEx.ret ∨ e = .normal) ∧ answerV Tryz.prog Tryz.f10.results.toList H t = some (.tup [insV (dI l at_), .int .i64 (dN l at_), .int .i64 (dE l at_)])) = Q
  refine AWP_seq (AWP_run (cx := cx10) rfl rfl cx10_ok (s := (.normal, [(0, .sl (.int .u8) l sp fl), (1, .int .i64 at_), (4, .ptr 0 0), (5, .int .i64 0), (6, .int .i64 0)], [insO zeroI])) (by kernel_rfl) ?_)
  refine AWP_seq (AWP_code (cx := cx10) rfl rfl cx10_ok _ _ _ _ (Tree.all_run_eq (decodeB_eq l sp fl at_) ?_))
  have out1 : outOf l at_ = true → dI l at_ = zeroI ∧ dN l at_ = 0 ∧ dE l at_ = 5 := fun h => by simp [dI, dN, dE, h]
  refine ⟨fun h1 => ?_, fun h1 => ⟨fun h2 => ?_, fun h2 => ⟨fun h3 => ?_, fun h3 => ?_⟩⟩⟩
  · obtain ⟨a1, a2, a3⟩ := out1 (by unfold outOf; rw [h1]; rfl)
    subst hQ
    refine ⟨.inl rfl, ?_⟩
    show answerV _ _ _ _ = some _
    rw [a1, a2, a3]
    kernel_rfl
  · obtain ⟨a1, a2, a3⟩ := out1 (by unfold outOf; rw [h1, h2]; rfl)
    subst hQ
    refine ⟨.inl rfl, ?_⟩
    show answerV _ _ _ _ = some _
    rw [a1, a2, a3]
    kernel_rfl
  · have ho : outOf l at_ = false := by unfold outOf; rw [h1, h2]; rfl
    have hs : shortOf l at_ = true := h3
    have a1 : dI l at_ = zeroI := by simp [dI, ho, hs]
    have a2 : dN l at_ = 0 := by simp [dN, ho, hs]
    have a3 : dE l at_ = 2 := by simp [dE, ho, hs]
    subst hQ
    refine ⟨.inl rfl, ?_⟩
    show answerV _ _ _ _ = some _
    rw [a1, a2, a3]
    kernel_rfl
  · have ho : outOf l at_ = false := by unfold outOf; rw [h1, h2]; rfl
    have hs : shortOf l at_ = false := h3
    have a1 : dI l at_ = decI (w2 l at_) := by simp [dI, ho, hs]
    have a2 : dN l at_ = cond (decOk (w2 l at_)) 2 0 := by simp [dN, ho, hs]
    have a3 : dE l at_ = cond (decOk (w2 l at_)) 0 22 := by simp [dE, ho, hs]
    have g1 : ¬ at_ < 0 := of_decide_eq_false h1
    have g2 : ¬ (l.length : Int) < at_ := of_decide_eq_false h2
    have g3 : ¬ IntKind.wrap .i64 ((l.length : Int) - at_) < 2 := of_decide_eq_false h3
    rw [wrap_i64 (by omega) (by omega)] at g3
    show AWP _ _ _ _ _ _
    refine AWP.less (s := [(0, .sl (.int .u8) l sp fl), (1, .int .i64 at_), (4, .ptr 0 0), (5, .int .i64 0), (6, .int .i64 0)]) (Fits.tle ⟨rfl, rfl, rfl, rfl, rfl, trivial⟩) ?_
    refine AWP_seq (AWP_code (cx := cx10) rfl rfl cx10_ok _ _ _ _ (Tree.all_run_eq (decodeW_eq l sp fl at_) ?_))
    have i0 : inside at_ l.length = true := inside_of (by omega) (by omega)
    have i1 : inside (IntKind.wrap .i64 (at_ + 1)) l.length = true := by rw [wrap_i64 (by omega) (by omega)]; exact inside_of (by omega) (by omega)
    refine ⟨fun _ => ⟨fun _ => ?_, fun h => Bool.noConfusion (i1.symm.trans h)⟩, fun h => Bool.noConfusion (i0.symm.trans h)⟩
    show AWP _ _ _ _ _ _
    refine AWP.less (s := [(4, .ptr 0 0), (5, .int .i64 0), (6, .int .i64 0), (7, .int .u16 (w2 l at_))]) (Fits.tle ⟨rfl, rfl, rfl, by kernel_rfl, trivial⟩) ?_
    subst hQ
    rw [a1, a2, a3]
    exact decode_loop (w2 l at_)

def decodeS : Ab.Spec := fun args => match args with
  | [.sl (.int .u8) l _ _, .int .i64 at_] => .req (decide (l.length < 1000000000)) (.leaf (.tup [insV (dI l at_), .int .i64 (dN l at_), .int .i64 (dE l at_)]))
  | _ => .fail

theorem decodeS_ok : Sound Tryz.prog 10 decodeS := by
  intro args out h
  unfold decodeS at h
  split at h
  rotate_left
  · cases h
  rename_i l sp fl at_
  obtain ⟨h1, h2⟩ := req_run h
  simp only [Tree.run, Option.some.injEq] at h2
  subst h2
  exact decode_ok l sp fl at_ (of_decide_eq_true h1)


end Go.Cmp
