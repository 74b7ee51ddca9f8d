/-
  AmdBack: its call answers true. Conditions: none.
-/
import Derived.Test.YtlfnjldfmfjghaaAmS
namespace Go.Amd
open Go Go.Ab Go.Proofs

/-- The context of foundry/foundrylaw12.AmdBack. -/
noncomputable def cx5 : Cx := { P := Try.prog, n := 129, tab := [(9, begunS), (10, encodeS), (15, decodeT)], mtab := [], refs := [], keeps := [0, 1, 2, 3, 4, 8, 9, 10, 11, 12, 13, 14, 15, 18, 19, 20, 21, 22, 24, 32, 39, 66, 70, 87, 96] }
noncomputable abbrev B5 : Code := bodyOf Try.f5
/-- What is done where the instruction is encoded. -/
noncomputable def M5 : Code := match c2 (c1 (tailN 3 B5)) with
  | .cond _ a _ => a
  | c => c
noncomputable def L5 : Code := cin (cin (c2 (tailN 1 (c2 M5))))
abbrev insO5 (nm : List UInt8) (a b c d n : Int) : O := .cells [.str nm, .int .i64 a, .int .i64 b, .int .i64 c, .int .i64 d, .int .i64 n] 29
def backPre (nm : List UInt8) (a b c d n : Int) (p s : List Int) (at_ : Int) : Tree St :=
  (.br (decide (200 < tI ↑(List.length p))) (.leaf (.ret, [(0, (.agg [(.str nm), (.int .i64 a), (.int .i64 b), (.int .i64 c), (.int .i64 d), (.int .i64 n)])), (1, (.sl (.int .u8) (p) ([]) Fl.may)), (2, (.sl (.int .u8) (s) ([]) Fl.may)), (3, (.int .i64 at_)), (4, (.ptr 0 0)), (8, (.bool true)), (24, (.bool false)), (32, (.bool true))], [(.cells [(.str nm), (.int .i64 a), (.int .i64 b), (.int .i64 c), (.int .i64 d), (.int .i64 n)] 29)])) (.br (decide (200 < tI ↑(List.length s))) (.leaf (.ret, [(0, (.agg [(.str nm), (.int .i64 a), (.int .i64 b), (.int .i64 c), (.int .i64 d), (.int .i64 n)])), (1, (.sl (.int .u8) (p) ([]) Fl.may)), (2, (.sl (.int .u8) (s) ([]) Fl.may)), (3, (.int .i64 at_)), (4, (.ptr 0 0)), (8, (.bool true)), (24, (.bool false)), (32, (.bool true))], [(.cells [(.str nm), (.int .i64 a), (.int .i64 b), (.int .i64 c), (.int .i64 d), (.int .i64 n)] 29)])) (.br (encE (nm, a, b, c, d, n) == 0) (.leaf (.normal, [(0, (.agg [(.str nm), (.int .i64 a), (.int .i64 b), (.int .i64 c), (.int .i64 d), (.int .i64 n)])), (1, (.sl (.int .u8) (p) ([]) Fl.may)), (2, (.sl (.int .u8) (s) ([]) Fl.may)), (3, (.int .i64 at_)), (4, (.ptr 0 0)), (8, (.bool false)), (9, (.sl (.int .u8) ((encL (nm, a, b, c, d, n))) ([]) Fl.ro)), (10, (.int .i64 0)), (24, (.bool false)), (32, (.bool false))], [(.cells [(.str nm), (.int .i64 a), (.int .i64 b), (.int .i64 c), (.int .i64 d), (.int .i64 n)] 29)])) (.leaf (.normal, [(0, (.agg [(.str nm), (.int .i64 a), (.int .i64 b), (.int .i64 c), (.int .i64 d), (.int .i64 n)])), (1, (.sl (.int .u8) (p) ([]) Fl.may)), (2, (.sl (.int .u8) (s) ([]) Fl.may)), (3, (.int .i64 at_)), (4, (.ptr 0 0)), (8, (.bool false)), (9, (.val (Go.Value.slice Option.none 0 0))), (10, (.int .i64 (encE (nm, a, b, c, d, n)))), (24, (.bool false)), (32, (.bool false))], [(.cells [(.str nm), (.int .i64 a), (.int .i64 b), (.int .i64 c), (.int .i64 d), (.int .i64 n)] 29)])))))

theorem backPre_eq (nm : List UInt8) (a b c d n : Int) (p s : List Int) (at_ : Int) : (dcode cx5 (headN 3 B5) (initT 0 [.agg [.str nm, .int .i64 a, .int .i64 b, .int .i64 c, .int .i64 d, .int .i64 n], .sl (.int .u8) p [] .may, .sl (.int .u8) s [] .may, .int .i64 at_]) []).run = (backPre nm a b c d n p s at_).run :=
  (show (dcode cx5 (headN 3 B5) (initT 0 [.agg [.str nm, .int .i64 a, .int .i64 b, .int .i64 c, .int .i64 d, .int .i64 n], .sl (.int .u8) p [] .may, .sl (.int .u8) s [] .may, .int .i64 at_]) []).run = (backPre nm a b c d n p s at_).out by kernel_rfl).trans (Tree.out_run _)

def backApp (nm : List UInt8) (a b c d n : Int) (p s : List Int) (at_ : Int) (x : List Int) : Tree St :=
  (.br (List.isEmpty p) (.br (List.isEmpty x) (.br (List.isEmpty s) (.leaf (.normal, [(1, (.sl (.int .u8) (p) ([]) Fl.may)), (2, (.sl (.int .u8) (s) ([]) Fl.may)), (3, (.int .i64 at_)), (4, (.ptr 0 0)), (9, (.sl (.int .u8) (x) ([]) Fl.ro)), (11, (.val (Go.Value.slice Option.none 0 0)))], [(.cells [(.str nm), (.int .i64 a), (.int .i64 b), (.int .i64 c), (.int .i64 d), (.int .i64 n)] 29)])) (.br (roomy (List.length s) 1) (.leaf (.normal, [(1, (.sl (.int .u8) (p) ([]) Fl.may)), (2, (.sl (.int .u8) (s) ([]) Fl.may)), (3, (.int .i64 at_)), (4, (.ptr 0 0)), (9, (.sl (.int .u8) (x) ([]) Fl.ro)), (11, (.gro 1 (.int .u8) s))], [(.cells [(.str nm), (.int .i64 a), (.int .i64 b), (.int .i64 c), (.int .i64 d), (.int .i64 n)] 29), (.tok (List.length s) 1)])) .fail)) (.br (roomy (List.length x) 1) (.br (decide (List.length x = List.length x) && roomy (List.length x + List.length s) 1) (.leaf (.normal, [(1, (.sl (.int .u8) (p) ([]) Fl.may)), (2, (.sl (.int .u8) (s) ([]) Fl.may)), (3, (.int .i64 at_)), (4, (.ptr 0 0)), (9, (.sl (.int .u8) (x) ([]) Fl.ro)), (11, (.gro 1 (.int .u8) (x ++ s)))], [(.cells [(.str nm), (.int .i64 a), (.int .i64 b), (.int .i64 c), (.int .i64 d), (.int .i64 n)] 29), (.tok (List.length x + List.length s) 1)])) .fail) .fail)) (.br (roomy (List.length p) 1) (.br (decide (List.length p = List.length p) && roomy (List.length p + List.length x) 1) (.br (decide (List.length p + List.length x = List.length (p ++ x)) && roomy (List.length (p ++ x) + List.length s) 1) (.leaf (.normal, [(1, (.sl (.int .u8) (p) ([]) Fl.may)), (2, (.sl (.int .u8) (s) ([]) Fl.may)), (3, (.int .i64 at_)), (4, (.ptr 0 0)), (9, (.sl (.int .u8) (x) ([]) Fl.ro)), (11, (.gro 1 (.int .u8) (p ++ x ++ s)))], [(.cells [(.str nm), (.int .i64 a), (.int .i64 b), (.int .i64 c), (.int .i64 d), (.int .i64 n)] 29), (.tok (List.length (p ++ x) + List.length s) 1)])) .fail) .fail) .fail))

theorem backApp_eq (nm : List UInt8) (a b c d n : Int) (p s : List Int) (at_ : Int) (x : List Int) : (dcode cx5 (c1 M5) [(1, .sl (.int .u8) p [] .may), (2, .sl (.int .u8) s [] .may), (3, .int .i64 at_), (4, .ptr 0 0), (9, .sl (.int .u8) x [] .ro)] [insO5 nm a b c d n]).run = (backApp nm a b c d n p s at_ x).run :=
  (show (dcode cx5 (c1 M5) [(1, .sl (.int .u8) p [] .may), (2, .sl (.int .u8) s [] .may), (3, .int .i64 at_), (4, .ptr 0 0), (9, .sl (.int .u8) x [] .ro)] [insO5 nm a b c d n]).run = (backApp nm a b c d n p s at_ x).out by kernel_rfl).trans (Tree.out_run _)

def backUse (nm : List UInt8) (a b c d n : Int) (p s : List Int) (at_ : Int) (x : List Int) (l : List Int) : Tree St :=
  (.br (decide (List.length l < 1000000000)) (.br (bytesB l) (.br (dE l ↑(List.length p) != 0) (.leaf (.ret, [(1, (.sl (.int .u8) (p) ([]) Fl.may)), (2, (.sl (.int .u8) (s) ([]) Fl.may)), (3, (.int .i64 at_)), (4, (.ptr 0 0)), (8, (.bool false)), (9, (.sl (.int .u8) (x) ([]) Fl.ro)), (11, (.gro 1 (.int .u8) l)), (12, (.ptr 2 0)), (13, (.int .i64 (dN l ↑(List.length p)))), (14, (.int .i64 (dE l ↑(List.length p)))), (66, (.bool true))], [(.cells [(.str nm), (.int .i64 a), (.int .i64 b), (.int .i64 c), (.int .i64 d), (.int .i64 n)] 29), (.tok (List.length l) 1), (.cells [(.str (Prod.fst (dI l ↑(List.length p)))), (.int .i64 (Prod.fst (Prod.snd (dI l ↑(List.length p))))), (.int .i64 (Prod.fst (Prod.snd (Prod.snd (dI l ↑(List.length p)))))), (.int .i64 (Prod.fst (Prod.snd (Prod.snd (Prod.snd (dI l ↑(List.length p))))))), (.int .i64 (Prod.fst (Prod.snd (Prod.snd (Prod.snd (Prod.snd (dI l ↑(List.length p)))))))), (.int .i64 (Prod.snd (Prod.snd (Prod.snd (Prod.snd (Prod.snd (dI l ↑(List.length p))))))))] 29)])) (.br (!(strEq (Prod.fst (dI l ↑(List.length p))) nm && (Prod.fst (Prod.snd (dI l ↑(List.length p))) == a && (Prod.fst (Prod.snd (Prod.snd (dI l ↑(List.length p)))) == b && (Prod.fst (Prod.snd (Prod.snd (Prod.snd (dI l ↑(List.length p))))) == c && (Prod.fst (Prod.snd (Prod.snd (Prod.snd (Prod.snd (dI l ↑(List.length p)))))) == d && (Prod.snd (Prod.snd (Prod.snd (Prod.snd (Prod.snd (dI l ↑(List.length p)))))) == n && true))))))) (.leaf (.ret, [(1, (.sl (.int .u8) (p) ([]) Fl.may)), (2, (.sl (.int .u8) (s) ([]) Fl.may)), (3, (.int .i64 at_)), (4, (.ptr 0 0)), (8, (.bool false)), (9, (.sl (.int .u8) (x) ([]) Fl.ro)), (11, (.gro 1 (.int .u8) l)), (12, (.ptr 2 0)), (13, (.int .i64 (dN l ↑(List.length p)))), (14, (.int .i64 (dE l ↑(List.length p)))), (66, (.bool true))], [(.cells [(.str nm), (.int .i64 a), (.int .i64 b), (.int .i64 c), (.int .i64 d), (.int .i64 n)] 29), (.tok (List.length l) 1), (.cells [(.str (Prod.fst (dI l ↑(List.length p)))), (.int .i64 (Prod.fst (Prod.snd (dI l ↑(List.length p))))), (.int .i64 (Prod.fst (Prod.snd (Prod.snd (dI l ↑(List.length p)))))), (.int .i64 (Prod.fst (Prod.snd (Prod.snd (Prod.snd (dI l ↑(List.length p))))))), (.int .i64 (Prod.fst (Prod.snd (Prod.snd (Prod.snd (Prod.snd (dI l ↑(List.length p)))))))), (.int .i64 (Prod.snd (Prod.snd (Prod.snd (Prod.snd (Prod.snd (dI l ↑(List.length p))))))))] 29)])) (.br (dN l ↑(List.length p) != ↑(List.length x)) (.leaf (.ret, [(1, (.sl (.int .u8) (p) ([]) Fl.may)), (2, (.sl (.int .u8) (s) ([]) Fl.may)), (3, (.int .i64 at_)), (4, (.ptr 0 0)), (8, (.bool false)), (9, (.sl (.int .u8) (x) ([]) Fl.ro)), (11, (.gro 1 (.int .u8) l)), (12, (.ptr 2 0)), (13, (.int .i64 (dN l ↑(List.length p)))), (14, (.int .i64 (dE l ↑(List.length p)))), (66, (.bool true))], [(.cells [(.str nm), (.int .i64 a), (.int .i64 b), (.int .i64 c), (.int .i64 d), (.int .i64 n)] 29), (.tok (List.length l) 1), (.cells [(.str (Prod.fst (dI l ↑(List.length p)))), (.int .i64 (Prod.fst (Prod.snd (dI l ↑(List.length p))))), (.int .i64 (Prod.fst (Prod.snd (Prod.snd (dI l ↑(List.length p)))))), (.int .i64 (Prod.fst (Prod.snd (Prod.snd (Prod.snd (dI l ↑(List.length p))))))), (.int .i64 (Prod.fst (Prod.snd (Prod.snd (Prod.snd (Prod.snd (dI l ↑(List.length p)))))))), (.int .i64 (Prod.snd (Prod.snd (Prod.snd (Prod.snd (Prod.snd (dI l ↑(List.length p))))))))] 29)])) (.leaf (.normal, [(1, (.sl (.int .u8) (p) ([]) Fl.may)), (2, (.sl (.int .u8) (s) ([]) Fl.may)), (3, (.int .i64 at_)), (4, (.ptr 0 0)), (9, (.sl (.int .u8) (x) ([]) Fl.ro)), (11, (.gro 1 (.int .u8) l)), (12, (.ptr 2 0)), (13, (.int .i64 (dN l ↑(List.length p)))), (14, (.int .i64 (dE l ↑(List.length p)))), (66, (.bool false))], [(.cells [(.str nm), (.int .i64 a), (.int .i64 b), (.int .i64 c), (.int .i64 d), (.int .i64 n)] 29), (.tok (List.length l) 1), (.cells [(.str (Prod.fst (dI l ↑(List.length p)))), (.int .i64 (Prod.fst (Prod.snd (dI l ↑(List.length p))))), (.int .i64 (Prod.fst (Prod.snd (Prod.snd (dI l ↑(List.length p)))))), (.int .i64 (Prod.fst (Prod.snd (Prod.snd (Prod.snd (dI l ↑(List.length p))))))), (.int .i64 (Prod.fst (Prod.snd (Prod.snd (Prod.snd (Prod.snd (dI l ↑(List.length p)))))))), (.int .i64 (Prod.snd (Prod.snd (Prod.snd (Prod.snd (Prod.snd (dI l ↑(List.length p))))))))] 29)]))))) .fail) .fail)

theorem backUse_eq (nm : List UInt8) (a b c d n : Int) (p s : List Int) (at_ : Int) (x : List Int) (l : List Int) : (dcode cx5 (headN 1 (c2 M5)) [(1, .sl (.int .u8) p [] .may), (2, .sl (.int .u8) s [] .may), (3, .int .i64 at_), (4, .ptr 0 0), (9, .sl (.int .u8) x [] .ro), (11, .gro 1 (.int .u8) l)] [insO5 nm a b c d n, .tok l.length 1]).run = (backUse nm a b c d n p s at_ x l).run :=
  (show (dcode cx5 (headN 1 (c2 M5)) [(1, .sl (.int .u8) p [] .may), (2, .sl (.int .u8) s [] .may), (3, .int .i64 at_), (4, .ptr 0 0), (9, .sl (.int .u8) x [] .ro), (11, .gro 1 (.int .u8) l)] [insO5 nm a b c d n, .tok l.length 1]).run = (backUse nm a b c d n p s at_ x l).out by kernel_rfl).trans (Tree.out_run _)

def backRound (nm : List UInt8) (a b c d n : Int) (p s : List Int) (at_ : Int) (x : List Int) (l : List Int) (j : Int) : Tree St :=
  (.br (decide (j < ↑(List.length x))) (.br (true && decide (0 ≤ IntKind.wrap IntKind.i64 (↑(List.length p) + j)) && decide (IntKind.wrap IntKind.i64 (↑(List.length p) + j) ≤ ↑(List.length l))) (.br (decide (List.length (sub l 0 (Int.toNat (IntKind.wrap IntKind.i64 (↑(List.length p) + j)))) < 1000000000)) (.br (bytesB (sub l 0 (Int.toNat (IntKind.wrap IntKind.i64 (↑(List.length p) + j))))) (.br (dE (sub l 0 (Int.toNat (IntKind.wrap IntKind.i64 (↑(List.length p) + j)))) ↑(List.length p) != 2) (.leaf (.ret, [(1, (.sl (.int .u8) (p) ([]) Fl.may)), (2, (.sl (.int .u8) (s) ([]) Fl.may)), (3, (.int .i64 at_)), (8, (.bool false)), (9, (.sl (.int .u8) (x) ([]) Fl.ro)), (11, (.gro 1 (.int .u8) l)), (15, (.int .i64 j)), (18, (.int .i64 (dE (sub l 0 (Int.toNat (IntKind.wrap IntKind.i64 (↑(List.length p) + j)))) ↑(List.length p)))), (70, (.bool true)), (87, (.bool true))], [(.cells [(.str nm), (.int .i64 a), (.int .i64 b), (.int .i64 c), (.int .i64 d), (.int .i64 n)] 29), (.tok (List.length l) 1), (.cells [(.str nm), (.int .i64 a), (.int .i64 b), (.int .i64 c), (.int .i64 d), (.int .i64 n)] 29), (.cells [(.str (Prod.fst (dI (sub l 0 (Int.toNat (IntKind.wrap IntKind.i64 (↑(List.length p) + j)))) ↑(List.length p)))), (.int .i64 (Prod.fst (Prod.snd (dI (sub l 0 (Int.toNat (IntKind.wrap IntKind.i64 (↑(List.length p) + j)))) ↑(List.length p))))), (.int .i64 (Prod.fst (Prod.snd (Prod.snd (dI (sub l 0 (Int.toNat (IntKind.wrap IntKind.i64 (↑(List.length p) + j)))) ↑(List.length p)))))), (.int .i64 (Prod.fst (Prod.snd (Prod.snd (Prod.snd (dI (sub l 0 (Int.toNat (IntKind.wrap IntKind.i64 (↑(List.length p) + j)))) ↑(List.length p))))))), (.int .i64 (Prod.fst (Prod.snd (Prod.snd (Prod.snd (Prod.snd (dI (sub l 0 (Int.toNat (IntKind.wrap IntKind.i64 (↑(List.length p) + j)))) ↑(List.length p)))))))), (.int .i64 (Prod.snd (Prod.snd (Prod.snd (Prod.snd (Prod.snd (dI (sub l 0 (Int.toNat (IntKind.wrap IntKind.i64 (↑(List.length p) + j)))) ↑(List.length p))))))))] 29)])) (.leaf (.normal, [(1, (.sl (.int .u8) (p) ([]) Fl.may)), (2, (.sl (.int .u8) (s) ([]) Fl.may)), (3, (.int .i64 at_)), (9, (.sl (.int .u8) (x) ([]) Fl.ro)), (11, (.gro 1 (.int .u8) l)), (15, (.int .i64 (IntKind.wrap IntKind.i64 (j + 1)))), (18, (.int .i64 (dE (sub l 0 (Int.toNat (IntKind.wrap IntKind.i64 (↑(List.length p) + j)))) ↑(List.length p)))), (70, (.bool true)), (87, (.bool false))], [(.cells [(.str nm), (.int .i64 a), (.int .i64 b), (.int .i64 c), (.int .i64 d), (.int .i64 n)] 29), (.tok (List.length l) 1), (.cells [(.str nm), (.int .i64 a), (.int .i64 b), (.int .i64 c), (.int .i64 d), (.int .i64 n)] 29), (.cells [(.str (Prod.fst (dI (sub l 0 (Int.toNat (IntKind.wrap IntKind.i64 (↑(List.length p) + j)))) ↑(List.length p)))), (.int .i64 (Prod.fst (Prod.snd (dI (sub l 0 (Int.toNat (IntKind.wrap IntKind.i64 (↑(List.length p) + j)))) ↑(List.length p))))), (.int .i64 (Prod.fst (Prod.snd (Prod.snd (dI (sub l 0 (Int.toNat (IntKind.wrap IntKind.i64 (↑(List.length p) + j)))) ↑(List.length p)))))), (.int .i64 (Prod.fst (Prod.snd (Prod.snd (Prod.snd (dI (sub l 0 (Int.toNat (IntKind.wrap IntKind.i64 (↑(List.length p) + j)))) ↑(List.length p))))))), (.int .i64 (Prod.fst (Prod.snd (Prod.snd (Prod.snd (Prod.snd (dI (sub l 0 (Int.toNat (IntKind.wrap IntKind.i64 (↑(List.length p) + j)))) ↑(List.length p)))))))), (.int .i64 (Prod.snd (Prod.snd (Prod.snd (Prod.snd (Prod.snd (dI (sub l 0 (Int.toNat (IntKind.wrap IntKind.i64 (↑(List.length p) + j)))) ↑(List.length p))))))))] 29)]))) .fail) .fail) .fail) (.leaf ((.exit 0), [(1, (.sl (.int .u8) (p) ([]) Fl.may)), (2, (.sl (.int .u8) (s) ([]) Fl.may)), (3, (.int .i64 at_)), (9, (.sl (.int .u8) (x) ([]) Fl.ro)), (11, (.gro 1 (.int .u8) l)), (15, (.int .i64 j)), (70, (.bool false))], [(.cells [(.str nm), (.int .i64 a), (.int .i64 b), (.int .i64 c), (.int .i64 d), (.int .i64 n)] 29), (.tok (List.length l) 1), (.cells [(.str nm), (.int .i64 a), (.int .i64 b), (.int .i64 c), (.int .i64 d), (.int .i64 n)] 29)])))

theorem backRound_eq (nm : List UInt8) (a b c d n : Int) (p s : List Int) (at_ : Int) (x : List Int) (l : List Int) (j : Int) : (dcode cx5 L5 [(1, .sl (.int .u8) p [] .may), (2, .sl (.int .u8) s [] .may), (3, .int .i64 at_), (9, .sl (.int .u8) x [] .ro), (11, .gro 1 (.int .u8) l), (15, .int .i64 j)] [insO5 nm a b c d n, .tok l.length 1, insO5 nm a b c d n]).run = (backRound nm a b c d n p s at_ x l j).run :=
  (show (dcode cx5 L5 [(1, .sl (.int .u8) p [] .may), (2, .sl (.int .u8) s [] .may), (3, .int .i64 at_), (9, .sl (.int .u8) x [] .ro), (11, .gro 1 (.int .u8) l), (15, .int .i64 j)] [insO5 nm a b c d n, .tok l.length 1, insO5 nm a b c d n]).run = (backRound nm a b c d n p s at_ x l j).out by kernel_rfl).trans (Tree.out_run _)

def backEnd (nm : List UInt8) (a b c d n : Int) (s : List Int) (at_ : Int) : Tree St :=
  (.br (decide (List.length s < 1000000000)) (.br (bytesB s) (.br (dE s at_ != 0) (.br (strEq (Prod.fst (dI s at_)) [] && (Prod.fst (Prod.snd (dI s at_)) == 0 && (Prod.fst (Prod.snd (Prod.snd (dI s at_))) == 0 && (Prod.fst (Prod.snd (Prod.snd (Prod.snd (dI s at_)))) == 0 && (Prod.fst (Prod.snd (Prod.snd (Prod.snd (Prod.snd (dI s at_))))) == 0 && (Prod.snd (Prod.snd (Prod.snd (Prod.snd (Prod.snd (dI s at_))))) == 0 && true)))))) (.leaf (.ret, [(2, (.sl (.int .u8) (s) ([]) Fl.may)), (3, (.int .i64 at_)), (8, (.bool (dN s at_ == 0))), (10, (.int .i64 (dE s at_))), (19, (.ptr 1 0)), (20, (.int .i64 (dN s at_))), (96, (.bool true))], [(.cells [(.str nm), (.int .i64 a), (.int .i64 b), (.int .i64 c), (.int .i64 d), (.int .i64 n)] 29), (.cells [(.str (Prod.fst (dI s at_))), (.int .i64 (Prod.fst (Prod.snd (dI s at_)))), (.int .i64 (Prod.fst (Prod.snd (Prod.snd (dI s at_))))), (.int .i64 (Prod.fst (Prod.snd (Prod.snd (Prod.snd (dI s at_)))))), (.int .i64 (Prod.fst (Prod.snd (Prod.snd (Prod.snd (Prod.snd (dI s at_))))))), (.int .i64 (Prod.snd (Prod.snd (Prod.snd (Prod.snd (Prod.snd (dI s at_)))))))] 29)])) (.leaf (.ret, [(2, (.sl (.int .u8) (s) ([]) Fl.may)), (3, (.int .i64 at_)), (8, (.bool false)), (10, (.int .i64 (dE s at_))), (19, (.ptr 1 0)), (20, (.int .i64 (dN s at_))), (96, (.bool true))], [(.cells [(.str nm), (.int .i64 a), (.int .i64 b), (.int .i64 c), (.int .i64 d), (.int .i64 n)] 29), (.cells [(.str (Prod.fst (dI s at_))), (.int .i64 (Prod.fst (Prod.snd (dI s at_)))), (.int .i64 (Prod.fst (Prod.snd (Prod.snd (dI s at_))))), (.int .i64 (Prod.fst (Prod.snd (Prod.snd (Prod.snd (dI s at_)))))), (.int .i64 (Prod.fst (Prod.snd (Prod.snd (Prod.snd (Prod.snd (dI s at_))))))), (.int .i64 (Prod.snd (Prod.snd (Prod.snd (Prod.snd (Prod.snd (dI s at_)))))))] 29)]))) (.br (encE (Prod.fst (dI s at_), Prod.fst (Prod.snd (dI s at_)), Prod.fst (Prod.snd (Prod.snd (dI s at_))), Prod.fst (Prod.snd (Prod.snd (Prod.snd (dI s at_)))), Prod.fst (Prod.snd (Prod.snd (Prod.snd (Prod.snd (dI s at_))))), Prod.snd (Prod.snd (Prod.snd (Prod.snd (Prod.snd (dI s at_)))))) == 0) (.br (↑(List.length (encL (Prod.fst (dI s at_), Prod.fst (Prod.snd (dI s at_)), Prod.fst (Prod.snd (Prod.snd (dI s at_))), Prod.fst (Prod.snd (Prod.snd (Prod.snd (dI s at_)))), Prod.fst (Prod.snd (Prod.snd (Prod.snd (Prod.snd (dI s at_))))), Prod.snd (Prod.snd (Prod.snd (Prod.snd (Prod.snd (dI s at_)))))))) == dN s at_) (.br (decide (0 ≤ at_) && decide (at_ ≤ IntKind.wrap IntKind.i64 (at_ + dN s at_)) && decide (IntKind.wrap IntKind.i64 (at_ + dN s at_) ≤ ↑(List.length s + 0))) (.leaf (.ret, [(2, (.sl (.int .u8) (s) ([]) Fl.may)), (3, (.int .i64 at_)), (8, (.bool (strEq (List.map (fun n => UInt8.ofNat (Int.toNat n)) (encL (Prod.fst (dI s at_), Prod.fst (Prod.snd (dI s at_)), Prod.fst (Prod.snd (Prod.snd (dI s at_))), Prod.fst (Prod.snd (Prod.snd (Prod.snd (dI s at_)))), Prod.fst (Prod.snd (Prod.snd (Prod.snd (Prod.snd (dI s at_))))), Prod.snd (Prod.snd (Prod.snd (Prod.snd (Prod.snd (dI s at_)))))))) (List.map (fun n => UInt8.ofNat (Int.toNat n)) (sub (s ++ []) (Int.toNat at_) (Int.toNat (IntKind.wrap IntKind.i64 (at_ + dN s at_)))))))), (10, (.int .i64 (dE s at_))), (19, (.ptr 1 0)), (20, (.int .i64 (dN s at_))), (21, (.sl (.int .u8) ((encL (Prod.fst (dI s at_), Prod.fst (Prod.snd (dI s at_)), Prod.fst (Prod.snd (Prod.snd (dI s at_))), Prod.fst (Prod.snd (Prod.snd (Prod.snd (dI s at_)))), Prod.fst (Prod.snd (Prod.snd (Prod.snd (Prod.snd (dI s at_))))), Prod.snd (Prod.snd (Prod.snd (Prod.snd (Prod.snd (dI s at_)))))))) ([]) Fl.ro)), (22, (.int .i64 0)), (96, (.bool false))], [(.cells [(.str nm), (.int .i64 a), (.int .i64 b), (.int .i64 c), (.int .i64 d), (.int .i64 n)] 29), (.cells [(.str (Prod.fst (dI s at_))), (.int .i64 (Prod.fst (Prod.snd (dI s at_)))), (.int .i64 (Prod.fst (Prod.snd (Prod.snd (dI s at_))))), (.int .i64 (Prod.fst (Prod.snd (Prod.snd (Prod.snd (dI s at_)))))), (.int .i64 (Prod.fst (Prod.snd (Prod.snd (Prod.snd (Prod.snd (dI s at_))))))), (.int .i64 (Prod.snd (Prod.snd (Prod.snd (Prod.snd (Prod.snd (dI s at_)))))))] 29)])) .fail) (.leaf (.ret, [(2, (.sl (.int .u8) (s) ([]) Fl.may)), (3, (.int .i64 at_)), (8, (.bool false)), (10, (.int .i64 (dE s at_))), (19, (.ptr 1 0)), (20, (.int .i64 (dN s at_))), (21, (.sl (.int .u8) ((encL (Prod.fst (dI s at_), Prod.fst (Prod.snd (dI s at_)), Prod.fst (Prod.snd (Prod.snd (dI s at_))), Prod.fst (Prod.snd (Prod.snd (Prod.snd (dI s at_)))), Prod.fst (Prod.snd (Prod.snd (Prod.snd (Prod.snd (dI s at_))))), Prod.snd (Prod.snd (Prod.snd (Prod.snd (Prod.snd (dI s at_)))))))) ([]) Fl.ro)), (22, (.int .i64 0)), (96, (.bool false))], [(.cells [(.str nm), (.int .i64 a), (.int .i64 b), (.int .i64 c), (.int .i64 d), (.int .i64 n)] 29), (.cells [(.str (Prod.fst (dI s at_))), (.int .i64 (Prod.fst (Prod.snd (dI s at_)))), (.int .i64 (Prod.fst (Prod.snd (Prod.snd (dI s at_))))), (.int .i64 (Prod.fst (Prod.snd (Prod.snd (Prod.snd (dI s at_)))))), (.int .i64 (Prod.fst (Prod.snd (Prod.snd (Prod.snd (Prod.snd (dI s at_))))))), (.int .i64 (Prod.snd (Prod.snd (Prod.snd (Prod.snd (Prod.snd (dI s at_)))))))] 29)]))) (.br (encE (Prod.fst (dI s at_), Prod.fst (Prod.snd (dI s at_)), Prod.fst (Prod.snd (Prod.snd (dI s at_))), Prod.fst (Prod.snd (Prod.snd (Prod.snd (dI s at_)))), Prod.fst (Prod.snd (Prod.snd (Prod.snd (Prod.snd (dI s at_))))), Prod.snd (Prod.snd (Prod.snd (Prod.snd (Prod.snd (dI s at_)))))) == 0) (.br (↑0 == dN s at_) (.br (decide (0 ≤ at_) && decide (at_ ≤ IntKind.wrap IntKind.i64 (at_ + dN s at_)) && decide (IntKind.wrap IntKind.i64 (at_ + dN s at_) ≤ ↑(List.length s + 0))) (.leaf (.ret, [(2, (.sl (.int .u8) (s) ([]) Fl.may)), (3, (.int .i64 at_)), (8, (.bool (strEq (List.map (fun n => UInt8.ofNat (Int.toNat n)) []) (List.map (fun n => UInt8.ofNat (Int.toNat n)) (sub (s ++ []) (Int.toNat at_) (Int.toNat (IntKind.wrap IntKind.i64 (at_ + dN s at_)))))))), (10, (.int .i64 (dE s at_))), (19, (.ptr 1 0)), (20, (.int .i64 (dN s at_))), (21, (.val (Go.Value.slice Option.none 0 0))), (22, (.int .i64 (encE (Prod.fst (dI s at_), Prod.fst (Prod.snd (dI s at_)), Prod.fst (Prod.snd (Prod.snd (dI s at_))), Prod.fst (Prod.snd (Prod.snd (Prod.snd (dI s at_)))), Prod.fst (Prod.snd (Prod.snd (Prod.snd (Prod.snd (dI s at_))))), Prod.snd (Prod.snd (Prod.snd (Prod.snd (Prod.snd (dI s at_))))))))), (96, (.bool false))], [(.cells [(.str nm), (.int .i64 a), (.int .i64 b), (.int .i64 c), (.int .i64 d), (.int .i64 n)] 29), (.cells [(.str (Prod.fst (dI s at_))), (.int .i64 (Prod.fst (Prod.snd (dI s at_)))), (.int .i64 (Prod.fst (Prod.snd (Prod.snd (dI s at_))))), (.int .i64 (Prod.fst (Prod.snd (Prod.snd (Prod.snd (dI s at_)))))), (.int .i64 (Prod.fst (Prod.snd (Prod.snd (Prod.snd (Prod.snd (dI s at_))))))), (.int .i64 (Prod.snd (Prod.snd (Prod.snd (Prod.snd (Prod.snd (dI s at_)))))))] 29)])) .fail) (.leaf (.ret, [(2, (.sl (.int .u8) (s) ([]) Fl.may)), (3, (.int .i64 at_)), (8, (.bool false)), (10, (.int .i64 (dE s at_))), (19, (.ptr 1 0)), (20, (.int .i64 (dN s at_))), (21, (.val (Go.Value.slice Option.none 0 0))), (22, (.int .i64 (encE (Prod.fst (dI s at_), Prod.fst (Prod.snd (dI s at_)), Prod.fst (Prod.snd (Prod.snd (dI s at_))), Prod.fst (Prod.snd (Prod.snd (Prod.snd (dI s at_)))), Prod.fst (Prod.snd (Prod.snd (Prod.snd (Prod.snd (dI s at_))))), Prod.snd (Prod.snd (Prod.snd (Prod.snd (Prod.snd (dI s at_))))))))), (96, (.bool false))], [(.cells [(.str nm), (.int .i64 a), (.int .i64 b), (.int .i64 c), (.int .i64 d), (.int .i64 n)] 29), (.cells [(.str (Prod.fst (dI s at_))), (.int .i64 (Prod.fst (Prod.snd (dI s at_)))), (.int .i64 (Prod.fst (Prod.snd (Prod.snd (dI s at_))))), (.int .i64 (Prod.fst (Prod.snd (Prod.snd (Prod.snd (dI s at_)))))), (.int .i64 (Prod.fst (Prod.snd (Prod.snd (Prod.snd (Prod.snd (dI s at_))))))), (.int .i64 (Prod.snd (Prod.snd (Prod.snd (Prod.snd (Prod.snd (dI s at_)))))))] 29)]))) (.leaf (.ret, [(2, (.sl (.int .u8) (s) ([]) Fl.may)), (3, (.int .i64 at_)), (8, (.bool false)), (10, (.int .i64 (dE s at_))), (19, (.ptr 1 0)), (20, (.int .i64 (dN s at_))), (21, (.val (Go.Value.slice Option.none 0 0))), (22, (.int .i64 (encE (Prod.fst (dI s at_), Prod.fst (Prod.snd (dI s at_)), Prod.fst (Prod.snd (Prod.snd (dI s at_))), Prod.fst (Prod.snd (Prod.snd (Prod.snd (dI s at_)))), Prod.fst (Prod.snd (Prod.snd (Prod.snd (Prod.snd (dI s at_))))), Prod.snd (Prod.snd (Prod.snd (Prod.snd (Prod.snd (dI s at_))))))))), (96, (.bool false))], [(.cells [(.str nm), (.int .i64 a), (.int .i64 b), (.int .i64 c), (.int .i64 d), (.int .i64 n)] 29), (.cells [(.str (Prod.fst (dI s at_))), (.int .i64 (Prod.fst (Prod.snd (dI s at_)))), (.int .i64 (Prod.fst (Prod.snd (Prod.snd (dI s at_))))), (.int .i64 (Prod.fst (Prod.snd (Prod.snd (Prod.snd (dI s at_)))))), (.int .i64 (Prod.fst (Prod.snd (Prod.snd (Prod.snd (Prod.snd (dI s at_))))))), (.int .i64 (Prod.snd (Prod.snd (Prod.snd (Prod.snd (Prod.snd (dI s at_)))))))] 29)]))))) .fail) .fail)

theorem backEnd_eq (nm : List UInt8) (a b c d n : Int) (s : List Int) (at_ : Int) : (dcode cx5 (tailN 4 B5) [(2, .sl (.int .u8) s [] .may), (3, .int .i64 at_)] [insO5 nm a b c d n]).run = (backEnd nm a b c d n s at_).run :=
  (show (dcode cx5 (tailN 4 B5) [(2, .sl (.int .u8) s [] .may), (3, .int .i64 at_)] [insO5 nm a b c d n]).run = (backEnd nm a b c d n s at_).out by kernel_rfl).trans (Tree.out_run _)


theorem cx5_ok : CxOk cx5 := cx1_ok (.cons begunS_ok (.cons encodeS_ok (ok1 decodeT_ok))) (.nil _) rfl rfl

section
variable (nm : List UInt8) (a b c d n : Int) (p s : List Int) (at_ : Int)

def backQ (e : AEx) (t : T) (H : List O) : Prop := (e = .ret ∨ e = .normal) ∧ answerV Try.prog Try.f5.results.toList H t = some (.bool true)

theorem ans5 {t : T} {H : List O} {x : Bool} (h : Ab.get 8 t = .bool x) : answerV Try.prog Try.f5.results.toList H t = some (.bool x) := by
  unfold answerV
  rw [show Try.f5.results.toList = [.tmp 8] from by kernel_rfl]
  simp [resV, h, V.pures?, V.pure?]

set_option maxRecDepth 8000 in
theorem back_end (hs : AllB s) (ls : s.length ≤ 200) : AWP Try.prog 129 (tailN 4 B5) backQ [(2, .sl (.int .u8) s [] .may), (3, .int .i64 at_)] [insO5 nm a b c d n] := by
  refine AWP_code (cx := cx5) rfl rfl cx5_ok _ _ _ _ (Tree.all_run_eq (backEnd_eq nm a b c d n s at_) ?_)
  refine all_t (decide_eq_true (by omega)) (all_t (bytesB_iff hs) ⟨fun he => ?_, fun he => ?_⟩)
  · obtain ⟨e1, e2⟩ := dec_err he
    refine all_t (by rw [e1]; rfl) ⟨.inl rfl, ?_⟩
    refine (ans5 rfl).trans ?_
    rw [e2]
    rfl
  · obtain ⟨g1, g2, g3, g4, g5⟩ := dec_fine hs he
    have gl : ((encL (dI s at_)).length : Int) = dN s at_ := by
      rw [g5]
      unfold sub
      rw [List.length_drop, List.length_take]
      omega
    refine all_t (beq_iff_eq.2 g4) (all_t (beq_iff_eq.2 gl) (all_t ?_ ⟨.inl rfl, ?_⟩))
    · rw [wrap_i64 (by omega) (by omega)]
      simp only [Bool.and_eq_true, decide_eq_true_eq]
      omega
    · have hv : strEq (List.map (fun n => UInt8.ofNat (Int.toNat n)) (encL (dI s at_))) (List.map (fun n => UInt8.ofNat (Int.toNat n)) (sub (s ++ []) (Int.toNat at_) (Int.toNat (IntKind.wrap IntKind.i64 (at_ + dN s at_))))) = true := by
        rw [wrap_i64 (by omega) (by omega), List.append_nil, ← g5]
        exact beq_self_eq_true _
      exact (ans5 rfl).trans (congrArg (fun x => some (V.bool x)) hv)

set_option maxRecDepth 8000 in
theorem back_loop {x l : List Int} {Q : AEx → T → List O → Prop} (h : encE (nm, a, b, c, d, n) = 0) (hx : x = encL (nm, a, b, c, d, n)) (hl : l = p ++ x ++ s) (hp : AllB p) (hs : AllB s) (lp : p.length ≤ 200) (ls : s.length ≤ 200)
    (hQ : AWP Try.prog 129 (tailN 4 B5) Q [(2, .sl (.int .u8) s [] .may), (3, .int .i64 at_)] [insO5 nm a b c d n]) :
    AWP Try.prog 129 (tailN 1 (c2 M5)) (fun e t' H' => ∃ κ s', dropS 1 κ (e, t', H') = some s' ∧ seqQ (AWP Try.prog 129 (tailN 4 B5) Q) Q s'.1 s'.2.1 s'.2.2)
      [(1, .sl (.int .u8) p [] .may), (2, .sl (.int .u8) s [] .may), (3, .int .i64 at_), (9, .sl (.int .u8) x [] .ro), (11, .gro 1 (.int .u8) l)] [insO5 nm a b c d n, .tok l.length 1, insO5 nm a b c d n] := by
  have e : tailN 1 (c2 M5) = .seq (c1 (tailN 1 (c2 M5))) (.block 0 (.loop L5)) := by kernel_rfl
  rw [e]
  refine AWP_seq (AWP_run (cx := cx5) rfl rfl cx5_ok (s := (.normal, [(1, .sl (.int .u8) p [] .may), (2, .sl (.int .u8) s [] .may), (3, .int .i64 at_), (9, .sl (.int .u8) x [] .ro), (11, .gro 1 (.int .u8) l), (15, .int .i64 0)], [insO5 nm a b c d n, .tok l.length 1, insO5 nm a b c d n])) (by kernel_rfl) ?_)
  show AWP _ _ _ _ _ _
  refine AWP_block ?_
  obtain ⟨x1, x2, x3⟩ := enc_bytes h
  rw [← hx] at x1 x2 x3
  have hlen : l.length = p.length + x.length + s.length := by rw [hl, List.length_append, List.length_append]
  have hlb : AllB l := by rw [hl]; exact allB_app (allB_app hp x1) hs
  refine AWP_rounds (cx := cx5) (P := Try.prog) (n := 129) rfl rfl cx5_ok (fun j : { j : Nat // j ≤ x.length } => ([(1, .sl (.int .u8) p [] .may), (2, .sl (.int .u8) s [] .may), (3, .int .i64 at_), (9, .sl (.int .u8) x [] .ro), (11, .gro 1 (.int .u8) l), (15, .int .i64 (j.1 : Int))], [insO5 nm a b c d n, .tok l.length 1, insO5 nm a b c d n])) (fun j => x.length - j.1) ?_ ⟨0, Nat.zero_le _⟩
  rintro ⟨j, hj⟩
  refine Tree.all_run_eq (backRound_eq nm a b c d n p s at_ x l j) ?_
  refine ⟨fun hlt => ?_, fun hge => ?_⟩
  · have hlt : j < x.length := Int.ofNat_lt.1 (of_decide_eq_true hlt)
    have hw : IntKind.wrap IntKind.i64 ((p.length : Int) + (j : Int)) = ((p.length + j : Nat) : Int) := by rw [wrap_i64 (by omega) (by omega)]; omega
    have hc : dE (sub l 0 (p.length + j)) p.length = 2 := by
      rw [hl, hx]
      rw [hx] at hlt
      exact back_cut h hlt
    have hsl : (sub l 0 (p.length + j)).length ≤ 1000 := by
      unfold sub
      rw [List.length_drop, List.length_take]
      omega
    have hsb : AllB (sub l 0 (p.length + j)) := fun c hc => hlb c (List.mem_of_mem_take (List.mem_of_mem_drop hc))
    refine all_t ?_ (all_t ?_ (all_t ?_ (all_f ?_ ?_)))
    · rw [hw]
      simp only [Bool.true_and, Bool.and_eq_true, decide_eq_true_eq]
      omega
    · rw [hw, Int.toNat_natCast]
      exact decide_eq_true (by omega)
    · rw [hw, Int.toNat_natCast]
      exact bytesB_iff hsb
    · rw [hw, Int.toNat_natCast, hc]
      rfl
    · refine ⟨[], _, rfl, ?_⟩
      refine ⟨⟨j + 1, hlt⟩, by show x.length - (j + 1) < x.length - j; omega, Fits.tle ⟨rfl, rfl, rfl, rfl, rfl, ?_, trivial⟩, rfl⟩
      show V.int .i64 (IntKind.wrap .i64 ((j : Int) + 1)) = V.int .i64 ((j + 1 : Nat) : Int)
      rw [wrap_i64 (by omega) (by omega)]
      rfl
  · refine ⟨[], _, rfl, ?_⟩
    refine ⟨[], _, rfl, ?_⟩
    show AWP _ _ _ _ _ _
    exact AWP.less (s := [(2, .sl (.int .u8) s [] .may), (3, .int .i64 at_)]) (Fits.tle ⟨rfl, rfl, trivial⟩) hQ

set_option maxRecDepth 8000 in
theorem back_use {x l : List Int} {Q : AEx → T → List O → Prop} (h : encE (nm, a, b, c, d, n) = 0) (hx : x = encL (nm, a, b, c, d, n)) (hl : l = p ++ x ++ s) (hp : AllB p) (hs : AllB s) (lp : p.length ≤ 200) (ls : s.length ≤ 200)
    (hQ : AWP Try.prog 129 (tailN 4 B5) Q [(2, .sl (.int .u8) s [] .may), (3, .int .i64 at_)] [insO5 nm a b c d n]) :
    AWP Try.prog 129 (c2 M5) (fun e t' H' => ∃ κ s', dropS 1 κ (e, t', H') = some s' ∧ seqQ (AWP Try.prog 129 (tailN 4 B5) Q) Q s'.1 s'.2.1 s'.2.2)
      [(1, .sl (.int .u8) p [] .may), (2, .sl (.int .u8) s [] .may), (3, .int .i64 at_), (4, .ptr 0 0), (9, .sl (.int .u8) x [] .ro), (11, .gro 1 (.int .u8) l)] [insO5 nm a b c d n, .tok l.length 1] := by
  have loop := back_loop nm a b c d n p s at_ h hx hl hp hs lp ls hQ
  obtain ⟨x1, x2, x3⟩ := enc_bytes h
  obtain ⟨d1, d2, d3⟩ := back_dec (p := p) (s := s) h
  rw [← hx] at x1 x2 x3 d1 d2 d3
  rw [← hl] at d1 d2 d3
  have hlen : l.length = p.length + x.length + s.length := by rw [hl, List.length_append, List.length_append]
  have hlb : AllB l := by rw [hl]; exact allB_app (allB_app hp x1) hs
  clear hl hx
  refine AWP_headE (cx := cx5) rfl rfl cx5_ok 1 (by kernel_rfl) (backUse_eq nm a b c d n p s at_ x l) ?_
  have k1 : (dE l p.length != 0) = false := by rw [d1]; rfl
  have k3 : (dN l p.length != (x.length : Int)) = false := by rw [d3]; simp
  refine all_t (decide_eq_true (by omega)) (all_t (bytesB_iff hlb) (all_f k1 (all_f ?_ (all_f k3 ?_))))
  · rw [d2]
    simp [strEq]
  · rw [d2]
    show AWP _ _ _ _ _ _
    exact AWP.less (s := [(1, .sl (.int .u8) p [] .may), (2, .sl (.int .u8) s [] .may), (3, .int .i64 at_), (9, .sl (.int .u8) x [] .ro), (11, .gro 1 (.int .u8) l)]) (Fits.tle ⟨rfl, rfl, rfl, rfl, rfl, trivial⟩) loop

set_option maxRecDepth 8000 in
theorem back_mid (h : encE (nm, a, b, c, d, n) = 0) (hp : AllB p) (hs : AllB s) (lp : p.length ≤ 200) (ls : s.length ≤ 200) {Q : AEx → T → List O → Prop}
    (hQ : AWP Try.prog 129 (tailN 4 B5) Q [(2, .sl (.int .u8) s [] .may), (3, .int .i64 at_)] [insO5 nm a b c d n]) :
    AWP Try.prog 129 (tailN 3 B5) Q [(1, .sl (.int .u8) p [] .may), (2, .sl (.int .u8) s [] .may), (3, .int .i64 at_), (4, .ptr 0 0), (9, .sl (.int .u8) (encL (nm, a, b, c, d, n)) [] .ro), (10, .int .i64 0)] [insO5 nm a b c d n] := by
  obtain ⟨-, x2, x3⟩ := enc_bytes h
  have use := fun (x l : List Int) (hx : x = encL (nm, a, b, c, d, n)) (hl : l = p ++ x ++ s) => back_use nm a b c d n p s at_ h hx hl hp hs lp ls hQ
  generalize hx : encL (nm, a, b, c, d, n) = x at x2 x3 ⊢
  have use := fun l hl => use x l hx.symm hl
  have e : tailN 3 B5 = .seq (.seq (c1 (c1 (tailN 3 B5))) (.cond (.tmp 39) (.seq (c1 M5) (c2 M5)) .skip)) (tailN 4 B5) := by kernel_rfl
  rw [e]
  refine AWP_seq (AWP_scope (AWP_seq (AWP_run (cx := cx5) rfl rfl cx5_ok (s := (.normal, [(1, .sl (.int .u8) p [] .may), (2, .sl (.int .u8) s [] .may), (3, .int .i64 at_), (4, .ptr 0 0), (9, .sl (.int .u8) x [] .ro), (10, .int .i64 0), (39, .bool true)], [insO5 nm a b c d n])) (by kernel_rfl) ?_)))
  refine AWP_cond (b := true) rfl (fun _ => ?_) (fun h => by cases h)
  refine AWP.less (s := [(1, .sl (.int .u8) p [] .may), (2, .sl (.int .u8) s [] .may), (3, .int .i64 at_), (4, .ptr 0 0), (9, .sl (.int .u8) x [] .ro)]) (Fits.tle ⟨rfl, rfl, rfl, rfl, rfl, trivial⟩) ?_
  refine AWP_seq (AWP_code (cx := cx5) rfl rfl cx5_ok _ _ _ _ (Tree.all_run_eq (backApp_eq nm a b c d n p s at_ x) ?_))
  have room : ∀ {k : Nat}, k ≤ 1000 → roomy k 1 = true := fun hk => decide_eq_true (by omega)
  have cut : ∀ {t : T} {L : List Int} {k : Nat}, L = p ++ x ++ s → k = L.length → get 1 t = .sl (.int .u8) p [] .may → get 2 t = .sl (.int .u8) s [] .may → get 3 t = .int .i64 at_ → get 4 t = .ptr 0 0 →
      get 9 t = .sl (.int .u8) x [] .ro → get 11 t = .gro 1 (.int .u8) L →
      AWP Try.prog 129 (c2 M5) (fun e t' H' => ∃ κ s', dropS 1 κ (e, t', H') = some s' ∧ seqQ (AWP Try.prog 129 (tailN 4 B5) Q) Q s'.1 s'.2.1 s'.2.2) t [insO5 nm a b c d n, .tok k 1] := by
    intro t L k hL hk h1 h2 h3 h4 h5 h6
    subst hk
    exact AWP.less (s := [(1, .sl (.int .u8) p [] .may), (2, .sl (.int .u8) s [] .may), (3, .int .i64 at_), (4, .ptr 0 0), (9, .sl (.int .u8) x [] .ro), (11, .gro 1 (.int .u8) L)]) (Fits.tle ⟨h1, h2, h3, h4, h5, h6, trivial⟩) (use L hL)
  have hne : List.isEmpty x = false := by
    cases x with
    | nil => simp at x2
    | cons => rfl
  refine ⟨fun hn => all_f hne (all_t (room (by omega)) (all_t ?_ ?_)), fun hn => all_t (room (by omega)) (all_t ?_ (all_t ?_ ?_))⟩
  · simp only [Bool.and_eq_true, decide_eq_true_eq]
    exact ⟨trivial, room (by omega)⟩
  · have hnil : p = [] := List.isEmpty_iff.1 hn
    exact cut (L := x ++ s) (by rw [hnil]; rfl) List.length_append.symm rfl rfl rfl rfl rfl rfl
  · simp only [Bool.and_eq_true, decide_eq_true_eq]
    exact ⟨trivial, room (by omega)⟩
  · simp only [Bool.and_eq_true, decide_eq_true_eq, List.length_append]
    exact ⟨trivial, room (by omega)⟩
  · exact cut (L := p ++ x ++ s) rfl List.length_append.symm rfl rfl rfl rfl rfl rfl

set_option maxRecDepth 8000 in
theorem back_ok (hp : Go.Wd.Bytes p) (hs : Go.Wd.Bytes s) : PCall Try.prog 5 [.agg [.str nm, .int .i64 a, .int .i64 b, .int .i64 c, .int .i64 d, .int .i64 n], .sl (.int .u8) p [] .may, .sl (.int .u8) s [] .may, .int .i64 at_] (.bool true) := by
  have hp := allB_of hp
  have hs := allB_of hs
  refine pcall_of' (c := bodyOf Try.f5) (fn := Try.f5) (by kernel_rfl) (by kernel_rfl) (by kernel_rfl) (by kernel_rfl) ?_
  show AWP _ _ _ backQ _ _
  refine AWP_headE (cx := cx5) rfl rfl cx5_ok 3 (by kernel_rfl) (backPre_eq nm a b c d n p s at_) ?_
  refine ⟨fun _ => ⟨.inl rfl, ans5 rfl⟩, fun hx => ⟨fun _ => ⟨.inl rfl, ans5 rfl⟩, fun hy => ⟨fun h => ?_, fun h => ?_⟩⟩⟩
  · have lp : p.length ≤ 200 := by have : ¬ (200 : Int) < p.length := of_decide_eq_false hx; omega
    have ls : s.length ≤ 200 := by have : ¬ (200 : Int) < s.length := of_decide_eq_false hy; omega
    show AWP _ _ _ _ _ _
    exact AWP.less (s := [(1, .sl (.int .u8) p [] .may), (2, .sl (.int .u8) s [] .may), (3, .int .i64 at_), (4, .ptr 0 0), (9, .sl (.int .u8) (encL (nm, a, b, c, d, n)) [] .ro), (10, .int .i64 0)]) (Fits.tle ⟨rfl, rfl, rfl, rfl, rfl, rfl, trivial⟩) (back_mid nm a b c d n p s at_ (eq_of_beq h) hp hs lp ls (back_end nm a b c d n s at_ hs ls))
  · have ls : s.length ≤ 200 := by have : ¬ (200 : Int) < s.length := of_decide_eq_false hy; omega
    show AWP _ _ _ _ _ _
    have e : tailN 3 B5 = .seq (.seq (c1 (c1 (tailN 3 B5))) (.cond (.tmp 39) (.seq (c1 M5) (c2 M5)) .skip)) (tailN 4 B5) := by kernel_rfl
    rw [e]
    refine AWP.less (s := [(2, .sl (.int .u8) s [] .may), (3, .int .i64 at_), (10, .int .i64 (encE (nm, a, b, c, d, n)))]) (Fits.tle ⟨rfl, rfl, rfl, trivial⟩) ?_
    refine AWP_seq (AWP_seq (AWP_run (cx := cx5) rfl rfl cx5_ok (s := (.normal, [(2, .sl (.int .u8) s [] .may), (3, .int .i64 at_), (10, .int .i64 (encE (nm, a, b, c, d, n))), (39, .bool (encE (nm, a, b, c, d, n) == 0))], [insO5 nm a b c d n])) (by kernel_rfl) ?_))
    refine AWP_cond (b := encE (nm, a, b, c, d, n) == 0) rfl (fun h' => Bool.noConfusion (h.symm.trans h')) (fun _ => AWP_skip ?_)
    exact AWP.less (s := [(2, .sl (.int .u8) s [] .may), (3, .int .i64 at_)]) (Fits.tle ⟨rfl, rfl, trivial⟩) (back_end nm a b c d n s at_ hs ls)
end

end Go.Amd
