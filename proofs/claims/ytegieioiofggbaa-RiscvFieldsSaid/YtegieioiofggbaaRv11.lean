/-
  RiscvFields: its call answers true. Conditions: none.
-/
import Derived.Test.YtegieioiofggbaaAbYa
import Derived.Test.YtegieioiofggbaaRv9
import Derived.Test.YtegieioiofggbaaRv10
namespace Go.Rv
open Go Go.Ab Go.Proofs

/-- The context of foundry/foundrylaw8.RiscvFields. -/
noncomputable def cx7 : Cx := { P := Try.prog, n := 109, tab := [(8, begunS), (9, encodeS), (19, operandsS), (21, numS)], mtab := [], refs := [], keeps := [0, 1, 2, 3, 4, 8, 9, 10, 11, 12, 13, 14, 15, 16, 17, 18, 19, 21, 43, 56, 65, 71, 72, 77, 82, 107] }
noncomputable abbrev B7 : Code := bodyOf Try.f7
abbrev insO7 (nm : List UInt8) (a b c d n : Int) : O := .cells [.str nm, .int .i64 a, .int .i64 b, .int .i64 c, .int .i64 d, .int .i64 n] 29
def fieldsPre (nm : List UInt8) (a b c d n x y z : Int) : Tree St :=
  (.br (decide (x < 0)) (.leaf (.ret, [(0, (.agg [(.str nm), (.int .i64 a), (.int .i64 b), (.int .i64 c), (.int .i64 d), (.int .i64 n)])), (1, (.int .i64 x)), (2, (.int .i64 y)), (3, (.int .i64 z)), (4, (.ptr 0 0)), (8, (.bool true)), (21, (.bool false)), (43, (.bool true))], [(.cells [(.str nm), (.int .i64 a), (.int .i64 b), (.int .i64 c), (.int .i64 d), (.int .i64 n)] 29)])) (.br (decide (y < 0)) (.leaf (.ret, [(0, (.agg [(.str nm), (.int .i64 a), (.int .i64 b), (.int .i64 c), (.int .i64 d), (.int .i64 n)])), (1, (.int .i64 x)), (2, (.int .i64 y)), (3, (.int .i64 z)), (4, (.ptr 0 0)), (8, (.bool true)), (21, (.bool false)), (43, (.bool true))], [(.cells [(.str nm), (.int .i64 a), (.int .i64 b), (.int .i64 c), (.int .i64 d), (.int .i64 n)] 29)])) (.br (decide (z < 0)) (.leaf (.ret, [(0, (.agg [(.str nm), (.int .i64 a), (.int .i64 b), (.int .i64 c), (.int .i64 d), (.int .i64 n)])), (1, (.int .i64 x)), (2, (.int .i64 y)), (3, (.int .i64 z)), (4, (.ptr 0 0)), (8, (.bool true)), (21, (.bool false)), (43, (.bool true))], [(.cells [(.str nm), (.int .i64 a), (.int .i64 b), (.int .i64 c), (.int .i64 d), (.int .i64 n)] 29)])) (.br (decide (31 < x)) (.leaf (.ret, [(0, (.agg [(.str nm), (.int .i64 a), (.int .i64 b), (.int .i64 c), (.int .i64 d), (.int .i64 n)])), (1, (.int .i64 x)), (2, (.int .i64 y)), (3, (.int .i64 z)), (4, (.ptr 0 0)), (8, (.bool true)), (21, (.bool false)), (43, (.bool true))], [(.cells [(.str nm), (.int .i64 a), (.int .i64 b), (.int .i64 c), (.int .i64 d), (.int .i64 n)] 29)])) (.br (decide (31 < y)) (.leaf (.ret, [(0, (.agg [(.str nm), (.int .i64 a), (.int .i64 b), (.int .i64 c), (.int .i64 d), (.int .i64 n)])), (1, (.int .i64 x)), (2, (.int .i64 y)), (3, (.int .i64 z)), (4, (.ptr 0 0)), (8, (.bool true)), (21, (.bool false)), (43, (.bool true))], [(.cells [(.str nm), (.int .i64 a), (.int .i64 b), (.int .i64 c), (.int .i64 d), (.int .i64 n)] 29)])) (.br (decide (31 < z)) (.leaf (.ret, [(0, (.agg [(.str nm), (.int .i64 a), (.int .i64 b), (.int .i64 c), (.int .i64 d), (.int .i64 n)])), (1, (.int .i64 x)), (2, (.int .i64 y)), (3, (.int .i64 z)), (4, (.ptr 0 0)), (8, (.bool true)), (21, (.bool false)), (43, (.bool true))], [(.cells [(.str nm), (.int .i64 a), (.int .i64 b), (.int .i64 c), (.int .i64 d), (.int .i64 n)] 29)])) (.br (encE (nm, a, b, c, d, n) == 0) (.leaf (.normal, [(0, (.agg [(.str nm), (.int .i64 a), (.int .i64 b), (.int .i64 c), (.int .i64 d), (.int .i64 n)])), (1, (.int .i64 x)), (2, (.int .i64 y)), (3, (.int .i64 z)), (4, (.ptr 0 0)), (8, (.bool false)), (9, (.sl (.int .u8) (bytes4 (encW (nm, a, b, c, d, n))) [] Fl.full)), (10, (.int .i64 0)), (11, (.str (opsOf nm))), (12, (.bool (fok nm))), (21, (.bool false)), (43, (.bool false)), (56, (.bool false))], [(.cells [(.str nm), (.int .i64 a), (.int .i64 b), (.int .i64 c), (.int .i64 d), (.int .i64 n)] 29)])) (.br (encE (nm, a, b, c, d, n) != 0) (.leaf (.ret, [(0, (.agg [(.str nm), (.int .i64 a), (.int .i64 b), (.int .i64 c), (.int .i64 d), (.int .i64 n)])), (1, (.int .i64 x)), (2, (.int .i64 y)), (3, (.int .i64 z)), (4, (.ptr 0 0)), (8, (.bool true)), (9, (.val (Go.Value.slice Option.none 0 0))), (10, (.int .i64 (encE (nm, a, b, c, d, n)))), (11, (.str (opsOf nm))), (12, (.bool (fok nm))), (21, (.bool false)), (43, (.bool false)), (56, (.bool true))], [(.cells [(.str nm), (.int .i64 a), (.int .i64 b), (.int .i64 c), (.int .i64 d), (.int .i64 n)] 29)])) (.leaf (.normal, [(0, (.agg [(.str nm), (.int .i64 a), (.int .i64 b), (.int .i64 c), (.int .i64 d), (.int .i64 n)])), (1, (.int .i64 x)), (2, (.int .i64 y)), (3, (.int .i64 z)), (4, (.ptr 0 0)), (8, (.bool false)), (9, (.val (Go.Value.slice Option.none 0 0))), (10, (.int .i64 (encE (nm, a, b, c, d, n)))), (11, (.str (opsOf nm))), (12, (.bool (fok nm))), (21, (.bool false)), (43, (.bool false)), (56, (.bool false))], [(.cells [(.str nm), (.int .i64 a), (.int .i64 b), (.int .i64 c), (.int .i64 d), (.int .i64 n)] 29)]))))))))))

theorem fieldsPre_eq (nm : List UInt8) (a b c d n x y z : Int) : (dcode cx7 (headN 5 B7) (initT 0 [.agg [.str nm, .int .i64 a, .int .i64 b, .int .i64 c, .int .i64 d, .int .i64 n], .int .i64 x, .int .i64 y, .int .i64 z]) []).run = (fieldsPre nm a b c d n x y z).run :=
  (show (dcode cx7 (headN 5 B7) (initT 0 [.agg [.str nm, .int .i64 a, .int .i64 b, .int .i64 c, .int .i64 d, .int .i64 n], .int .i64 x, .int .i64 y, .int .i64 z]) []).run = (fieldsPre nm a b c d n x y z).out by kernel_rfl).trans (Tree.out_run _)

def fieldsNum (nm s : List UInt8) (ok : Bool) (a b c d n x y z : Int) (w : List Int) : Tree St :=
  (.br (decide (List.length w < 1000000000)) (.leaf (.normal, [(1, (.int .i64 x)), (2, (.int .i64 y)), (3, (.int .i64 z)), (4, (.ptr 0 0)), (11, (.str s)), (12, (.bool ok)), (9, (.sl (.int .u8) w [] Fl.full)), (13, (.int .u64 (numL w))), (14, (.int .i64 0))], [(.cells [(.str nm), (.int .i64 a), (.int .i64 b), (.int .i64 c), (.int .i64 d), (.int .i64 n)] 29)])) .fail)

theorem fieldsNum_eq (nm s : List UInt8) (ok : Bool) (a b c d n x y z : Int) (w : List Int) : (dcode cx7 (.seq (c1 (tailN 5 B7)) (c1 (c1 (tailN 6 B7)))) [(1, .int .i64 x), (2, .int .i64 y), (3, .int .i64 z), (4, .ptr 0 0), (11, .str s), (12, .bool ok), (9, .sl (.int .u8) w [] .full)] [insO7 nm a b c d n]).run = (fieldsNum nm s ok a b c d n x y z w).run :=
  (show (dcode cx7 (.seq (c1 (tailN 5 B7)) (c1 (c1 (tailN 6 B7)))) [(1, .int .i64 x), (2, .int .i64 y), (3, .int .i64 z), (4, .ptr 0 0), (11, .str s), (12, .bool ok), (9, .sl (.int .u8) w [] .full)] [insO7 nm a b c d n]).run = (fieldsNum nm s ok a b c d n x y z w).out by kernel_rfl).trans (Tree.out_run _)

def fieldsRound (nm s : List UInt8) (ok : Bool) (a b c d n x y z m k : Int) : Tree St :=
  (.br (decide (k < ↑(List.length s))) (.br (inside k (List.length s)) (.br (tI ↑(UInt8.toNat (List.getD s (Int.toNat k) 0)) == 65) (.br (encE (nm, x, b, c, d, n) == 0) (.br (numL (bytes4 (encW (nm, x, b, c, d, n))) != IntKind.wrap IntKind.u64 ↑(BitVec.toNat (BitVec.ofInt 64 (IntKind.wrap IntKind.u64 ↑(BitVec.toNat (BitVec.ofInt 64 m &&& ~~~BitVec.ofInt 64 (IntKind.wrap IntKind.u64 (31 * 2 ^ 7))))) ||| BitVec.ofInt 64 (IntKind.wrap IntKind.u64 (IntKind.wrap IntKind.u64 x * 2 ^ 7))))) (.leaf (.ret, [(1, (.int .i64 x)), (2, (.int .i64 y)), (3, (.int .i64 z)), (4, (.ptr 0 0)), (8, (.bool false)), (11, (.str s)), (12, (.bool ok)), (13, (.int .u64 m)), (14, (.int .i64 k)), (15, (.ptr 1 0)), (16, (.int .u64 7)), (17, (.int .i64 x)), (18, (.sl (.int .u8) (bytes4 (encW (nm, x, b, c, d, n))) [] Fl.full)), (19, (.int .i64 0)), (65, (.bool true)), (71, (.int .u8 (↑(UInt8.toNat (List.getD s (Int.toNat k) 0))))), (72, (.bool true)), (107, (.bool true))], [(.cells [(.str nm), (.int .i64 a), (.int .i64 b), (.int .i64 c), (.int .i64 d), (.int .i64 n)] 29), (.cells [(.str nm), (.int .i64 x), (.int .i64 b), (.int .i64 c), (.int .i64 d), (.int .i64 n)] 29)])) (.leaf (.normal, [(1, (.int .i64 x)), (2, (.int .i64 y)), (3, (.int .i64 z)), (4, (.ptr 0 0)), (11, (.str s)), (12, (.bool ok)), (13, (.int .u64 m)), (14, (.int .i64 (IntKind.wrap IntKind.i64 (k + 1)))), (15, (.ptr 1 0)), (16, (.int .u64 7)), (17, (.int .i64 x)), (18, (.sl (.int .u8) (bytes4 (encW (nm, x, b, c, d, n))) [] Fl.full)), (19, (.int .i64 0)), (65, (.bool true)), (71, (.int .u8 (↑(UInt8.toNat (List.getD s (Int.toNat k) 0))))), (72, (.bool true)), (107, (.bool false))], [(.cells [(.str nm), (.int .i64 a), (.int .i64 b), (.int .i64 c), (.int .i64 d), (.int .i64 n)] 29), (.cells [(.str nm), (.int .i64 x), (.int .i64 b), (.int .i64 c), (.int .i64 d), (.int .i64 n)] 29)]))) (.br (encE (nm, x, b, c, d, n) != 0) (.leaf (.ret, [(1, (.int .i64 x)), (2, (.int .i64 y)), (3, (.int .i64 z)), (4, (.ptr 0 0)), (8, (.bool false)), (11, (.str s)), (12, (.bool ok)), (13, (.int .u64 m)), (14, (.int .i64 k)), (15, (.ptr 1 0)), (16, (.int .u64 7)), (17, (.int .i64 x)), (18, (.val (Go.Value.slice Option.none 0 0))), (19, (.int .i64 (encE (nm, x, b, c, d, n)))), (65, (.bool true)), (71, (.int .u8 (↑(UInt8.toNat (List.getD s (Int.toNat k) 0))))), (72, (.bool true)), (107, (.bool true))], [(.cells [(.str nm), (.int .i64 a), (.int .i64 b), (.int .i64 c), (.int .i64 d), (.int .i64 n)] 29), (.cells [(.str nm), (.int .i64 x), (.int .i64 b), (.int .i64 c), (.int .i64 d), (.int .i64 n)] 29)])) .fail)) (.br (tI ↑(UInt8.toNat (List.getD s (Int.toNat k) 0)) == 66) (.br (encE (nm, a, y, c, d, n) == 0) (.br (numL (bytes4 (encW (nm, a, y, c, d, n))) != IntKind.wrap IntKind.u64 ↑(BitVec.toNat (BitVec.ofInt 64 (IntKind.wrap IntKind.u64 ↑(BitVec.toNat (BitVec.ofInt 64 m &&& ~~~BitVec.ofInt 64 (IntKind.wrap IntKind.u64 (31 * 2 ^ 15))))) ||| BitVec.ofInt 64 (IntKind.wrap IntKind.u64 (IntKind.wrap IntKind.u64 y * 2 ^ 15))))) (.leaf (.ret, [(1, (.int .i64 x)), (2, (.int .i64 y)), (3, (.int .i64 z)), (4, (.ptr 0 0)), (8, (.bool false)), (11, (.str s)), (12, (.bool ok)), (13, (.int .u64 m)), (14, (.int .i64 k)), (15, (.ptr 1 0)), (16, (.int .u64 15)), (17, (.int .i64 y)), (18, (.sl (.int .u8) (bytes4 (encW (nm, a, y, c, d, n))) [] Fl.full)), (19, (.int .i64 0)), (65, (.bool true)), (71, (.int .u8 (↑(UInt8.toNat (List.getD s (Int.toNat k) 0))))), (72, (.bool false)), (77, (.bool true)), (107, (.bool true))], [(.cells [(.str nm), (.int .i64 a), (.int .i64 b), (.int .i64 c), (.int .i64 d), (.int .i64 n)] 29), (.cells [(.str nm), (.int .i64 a), (.int .i64 y), (.int .i64 c), (.int .i64 d), (.int .i64 n)] 29)])) (.leaf (.normal, [(1, (.int .i64 x)), (2, (.int .i64 y)), (3, (.int .i64 z)), (4, (.ptr 0 0)), (11, (.str s)), (12, (.bool ok)), (13, (.int .u64 m)), (14, (.int .i64 (IntKind.wrap IntKind.i64 (k + 1)))), (15, (.ptr 1 0)), (16, (.int .u64 15)), (17, (.int .i64 y)), (18, (.sl (.int .u8) (bytes4 (encW (nm, a, y, c, d, n))) [] Fl.full)), (19, (.int .i64 0)), (65, (.bool true)), (71, (.int .u8 (↑(UInt8.toNat (List.getD s (Int.toNat k) 0))))), (72, (.bool false)), (77, (.bool true)), (107, (.bool false))], [(.cells [(.str nm), (.int .i64 a), (.int .i64 b), (.int .i64 c), (.int .i64 d), (.int .i64 n)] 29), (.cells [(.str nm), (.int .i64 a), (.int .i64 y), (.int .i64 c), (.int .i64 d), (.int .i64 n)] 29)]))) (.br (encE (nm, a, y, c, d, n) != 0) (.leaf (.ret, [(1, (.int .i64 x)), (2, (.int .i64 y)), (3, (.int .i64 z)), (4, (.ptr 0 0)), (8, (.bool false)), (11, (.str s)), (12, (.bool ok)), (13, (.int .u64 m)), (14, (.int .i64 k)), (15, (.ptr 1 0)), (16, (.int .u64 15)), (17, (.int .i64 y)), (18, (.val (Go.Value.slice Option.none 0 0))), (19, (.int .i64 (encE (nm, a, y, c, d, n)))), (65, (.bool true)), (71, (.int .u8 (↑(UInt8.toNat (List.getD s (Int.toNat k) 0))))), (72, (.bool false)), (77, (.bool true)), (107, (.bool true))], [(.cells [(.str nm), (.int .i64 a), (.int .i64 b), (.int .i64 c), (.int .i64 d), (.int .i64 n)] 29), (.cells [(.str nm), (.int .i64 a), (.int .i64 y), (.int .i64 c), (.int .i64 d), (.int .i64 n)] 29)])) .fail)) (.br (tI ↑(UInt8.toNat (List.getD s (Int.toNat k) 0)) == 67) (.br (encE (nm, a, b, z, d, n) == 0) (.br (numL (bytes4 (encW (nm, a, b, z, d, n))) != IntKind.wrap IntKind.u64 ↑(BitVec.toNat (BitVec.ofInt 64 (IntKind.wrap IntKind.u64 ↑(BitVec.toNat (BitVec.ofInt 64 m &&& ~~~BitVec.ofInt 64 (IntKind.wrap IntKind.u64 (31 * 2 ^ 20))))) ||| BitVec.ofInt 64 (IntKind.wrap IntKind.u64 (IntKind.wrap IntKind.u64 z * 2 ^ 20))))) (.leaf (.ret, [(1, (.int .i64 x)), (2, (.int .i64 y)), (3, (.int .i64 z)), (4, (.ptr 0 0)), (8, (.bool false)), (11, (.str s)), (12, (.bool ok)), (13, (.int .u64 m)), (14, (.int .i64 k)), (15, (.ptr 1 0)), (16, (.int .u64 20)), (17, (.int .i64 z)), (18, (.sl (.int .u8) (bytes4 (encW (nm, a, b, z, d, n))) [] Fl.full)), (19, (.int .i64 0)), (65, (.bool true)), (71, (.int .u8 (↑(UInt8.toNat (List.getD s (Int.toNat k) 0))))), (72, (.bool false)), (77, (.bool false)), (82, (.bool true)), (107, (.bool true))], [(.cells [(.str nm), (.int .i64 a), (.int .i64 b), (.int .i64 c), (.int .i64 d), (.int .i64 n)] 29), (.cells [(.str nm), (.int .i64 a), (.int .i64 b), (.int .i64 z), (.int .i64 d), (.int .i64 n)] 29)])) (.leaf (.normal, [(1, (.int .i64 x)), (2, (.int .i64 y)), (3, (.int .i64 z)), (4, (.ptr 0 0)), (11, (.str s)), (12, (.bool ok)), (13, (.int .u64 m)), (14, (.int .i64 (IntKind.wrap IntKind.i64 (k + 1)))), (15, (.ptr 1 0)), (16, (.int .u64 20)), (17, (.int .i64 z)), (18, (.sl (.int .u8) (bytes4 (encW (nm, a, b, z, d, n))) [] Fl.full)), (19, (.int .i64 0)), (65, (.bool true)), (71, (.int .u8 (↑(UInt8.toNat (List.getD s (Int.toNat k) 0))))), (72, (.bool false)), (77, (.bool false)), (82, (.bool true)), (107, (.bool false))], [(.cells [(.str nm), (.int .i64 a), (.int .i64 b), (.int .i64 c), (.int .i64 d), (.int .i64 n)] 29), (.cells [(.str nm), (.int .i64 a), (.int .i64 b), (.int .i64 z), (.int .i64 d), (.int .i64 n)] 29)]))) (.br (encE (nm, a, b, z, d, n) != 0) (.leaf (.ret, [(1, (.int .i64 x)), (2, (.int .i64 y)), (3, (.int .i64 z)), (4, (.ptr 0 0)), (8, (.bool false)), (11, (.str s)), (12, (.bool ok)), (13, (.int .u64 m)), (14, (.int .i64 k)), (15, (.ptr 1 0)), (16, (.int .u64 20)), (17, (.int .i64 z)), (18, (.val (Go.Value.slice Option.none 0 0))), (19, (.int .i64 (encE (nm, a, b, z, d, n)))), (65, (.bool true)), (71, (.int .u8 (↑(UInt8.toNat (List.getD s (Int.toNat k) 0))))), (72, (.bool false)), (77, (.bool false)), (82, (.bool true)), (107, (.bool true))], [(.cells [(.str nm), (.int .i64 a), (.int .i64 b), (.int .i64 c), (.int .i64 d), (.int .i64 n)] 29), (.cells [(.str nm), (.int .i64 a), (.int .i64 b), (.int .i64 z), (.int .i64 d), (.int .i64 n)] 29)])) .fail)) (.leaf (.normal, [(1, (.int .i64 x)), (2, (.int .i64 y)), (3, (.int .i64 z)), (4, (.ptr 0 0)), (11, (.str s)), (12, (.bool ok)), (13, (.int .u64 m)), (14, (.int .i64 (IntKind.wrap IntKind.i64 (k + 1)))), (15, (.ptr 1 0)), (16, (.int .u64 0)), (17, (.int .i64 0)), (65, (.bool true)), (71, (.int .u8 (↑(UInt8.toNat (List.getD s (Int.toNat k) 0))))), (72, (.bool false)), (77, (.bool false)), (82, (.bool false))], [(.cells [(.str nm), (.int .i64 a), (.int .i64 b), (.int .i64 c), (.int .i64 d), (.int .i64 n)] 29), (.cells [(.str nm), (.int .i64 a), (.int .i64 b), (.int .i64 c), (.int .i64 d), (.int .i64 n)] 29)]))))) .fail) (.leaf ((.exit 0), [(1, (.int .i64 x)), (2, (.int .i64 y)), (3, (.int .i64 z)), (4, (.ptr 0 0)), (11, (.str s)), (12, (.bool ok)), (13, (.int .u64 m)), (14, (.int .i64 k)), (65, (.bool false))], [(.cells [(.str nm), (.int .i64 a), (.int .i64 b), (.int .i64 c), (.int .i64 d), (.int .i64 n)] 29)])))

theorem fieldsRound_eq (nm s : List UInt8) (ok : Bool) (a b c d n x y z m k : Int) : (dcode cx7 (cin (cin (c2 (c1 (tailN 6 B7))))) [(1, .int .i64 x), (2, .int .i64 y), (3, .int .i64 z), (4, .ptr 0 0), (11, .str s), (12, .bool ok), (13, .int .u64 m), (14, .int .i64 k)] [insO7 nm a b c d n]).run = (fieldsRound nm s ok a b c d n x y z m k).run :=
  (show (dcode cx7 (cin (cin (c2 (c1 (tailN 6 B7))))) [(1, .int .i64 x), (2, .int .i64 y), (3, .int .i64 z), (4, .ptr 0 0), (11, .str s), (12, .bool ok), (13, .int .u64 m), (14, .int .i64 k)] [insO7 nm a b c d n]).run = (fieldsRound nm s ok a b c d n x y z m k).out by kernel_rfl).trans (Tree.out_run _)

def fieldsEnd (nm : List UInt8) (ok : Bool) (a b c d n : Int) : Tree St :=
  (.leaf (.ret, [(8, (.bool ok)), (12, (.bool ok))], [(.cells [(.str nm), (.int .i64 a), (.int .i64 b), (.int .i64 c), (.int .i64 d), (.int .i64 n)] 29)]))

theorem fieldsEnd_eq (nm : List UInt8) (ok : Bool) (a b c d n : Int) : (dcode cx7 (tailN 7 B7) [(12, .bool ok)] [insO7 nm a b c d n]).run = (fieldsEnd nm ok a b c d n).run :=
  (show (dcode cx7 (tailN 7 B7) [(12, .bool ok)] [insO7 nm a b c d n]).run = (fieldsEnd nm ok a b c d n).out by kernel_rfl).trans (Tree.out_run _)


theorem cx7_ok : CxOk cx7 := cx1_ok (.cons begunS_ok (.cons encodeS_ok (.cons operandsS_ok (.cons numS_ok (.nil _))))) (.nil _) rfl rfl

section
variable (nm : List UInt8) (a b c d n x y z : Int)

def fieldsSt (k : { k : Nat // k ≤ (opsOf nm).length }) : T × List O :=
  ([(1, .int .i64 x), (2, .int .i64 y), (3, .int .i64 z), (4, .ptr 0 0), (11, .str (opsOf nm)), (12, .bool (fok nm)), (13, .int .u64 (numL (bytes4 (encW (nm, a, b, c, d, n))))), (14, .int .i64 k.1)], [insO7 nm a b c d n])

def fieldsQ (e : AEx) (t : T) (H : List O) : Prop := (e = .ret ∨ e = .normal) ∧ answerV Try.prog Try.f7.results.toList H t = some (.bool true)

theorem ops_short (f : Int) : (opsF f).length ≤ 3 := by
  unfold opsF
  cases (f == 0) <;> cases (f == 1) <;> cases (f == 2) <;> cases (f == 3) <;> cases (f == 4) <;> cases (f == 5) <;> cases (f == 6) <;> cases (f == 7) <;> decide

theorem opsOf_short : (opsOf nm).length ≤ 3 := by
  unfold opsOf
  cases fok nm
  · exact Nat.zero_le _
  · exact ops_short _

theorem fields_loop (h : (encE (nm, a, b, c, d, n) == 0) = true) (hx : 0 ≤ x ∧ x < 32) (hy : 0 ≤ y ∧ y < 32) (hz : 0 ≤ z ∧ z < 32) :
    AWP Try.prog 109 (tailN 5 B7) fieldsQ [(1, .int .i64 x), (2, .int .i64 y), (3, .int .i64 z), (4, .ptr 0 0), (11, .str (opsOf nm)), (12, .bool (fok nm)), (9, .sl (.int .u8) (bytes4 (encW (nm, a, b, c, d, n))) [] .full)] [insO7 nm a b c d n] := by
  have e : tailN 5 B7 = .seq (c1 (tailN 5 B7)) (.seq (.seq (c1 (c1 (tailN 6 B7))) (.block 0 (.loop (cin (cin (c2 (c1 (tailN 6 B7)))))))) (tailN 7 B7)) := by kernel_rfl
  rw [e]
  have hshort := opsOf_short nm
  refine AWP_seq (AWP_run (cx := cx7) rfl rfl cx7_ok (s := (.normal, [(1, .int .i64 x), (2, .int .i64 y), (3, .int .i64 z), (4, .ptr 0 0), (11, .str (opsOf nm)), (12, .bool (fok nm)), (9, .sl (.int .u8) (bytes4 (encW (nm, a, b, c, d, n))) [] .full), (13, .int .u64 (numL (bytes4 (encW (nm, a, b, c, d, n)))))], [insO7 nm a b c d n])) (by kernel_rfl) ?_)
  refine AWP_seq (AWP_seq (AWP_run (cx := cx7) rfl rfl cx7_ok (s := (.normal, [(1, .int .i64 x), (2, .int .i64 y), (3, .int .i64 z), (4, .ptr 0 0), (11, .str (opsOf nm)), (12, .bool (fok nm)), (9, .sl (.int .u8) (bytes4 (encW (nm, a, b, c, d, n))) [] .full), (13, .int .u64 (numL (bytes4 (encW (nm, a, b, c, d, n))))), (14, .int .i64 0)], [insO7 nm a b c d n])) (by kernel_rfl) ?_))
  refine AWP_block ?_
  refine AWP.less (s := (fieldsSt nm a b c d n x y z ⟨0, Nat.zero_le _⟩).1) (Fits.tle ⟨rfl, rfl, rfl, rfl, rfl, rfl, rfl, rfl, trivial⟩) ?_
  refine AWP_rounds (cx := cx7) (P := Try.prog) (n := 109) rfl rfl cx7_ok (fieldsSt nm a b c d n x y z) (fun k => 3 - k.1) ?_ ⟨0, Nat.zero_le _⟩
  rintro ⟨k, hk⟩
  refine Tree.all_run_eq (fieldsRound_eq nm (opsOf nm) (fok nm) a b c d n x y z (numL (bytes4 (encW (nm, a, b, c, d, n)))) k) ?_
  have next : ∀ {t : T}, k < (opsOf nm).length → get 1 t = .int .i64 x → get 2 t = .int .i64 y → get 3 t = .int .i64 z → get 4 t = .ptr 0 0 → get 11 t = .str (opsOf nm) → get 12 t = .bool (fok nm) → get 13 t = .int .u64 (numL (bytes4 (encW (nm, a, b, c, d, n)))) →
      get 14 t = .int .i64 (IntKind.wrap .i64 ((k : Int) + 1)) → ∃ j : { k : Nat // k ≤ (opsOf nm).length }, 3 - j.1 < 3 - k ∧ TLe t (fieldsSt nm a b c d n x y z j).1 ∧ [insO7 nm a b c d n] = (fieldsSt nm a b c d n x y z j).2 := by
    intro t hlt h1 h2 h3 h4 h5 h6 h7 h8
    refine ⟨⟨k + 1, hlt⟩, by show 3 - (k + 1) < 3 - k; omega, Fits.tle ⟨h1, h2, h3, h4, h5, h6, h7, ?_, trivial⟩, rfl⟩
    rw [h8, wrap_i64 (by omega) (by omega)]
    rfl
  refine ⟨fun hlt => ⟨fun hin => ?_, fun hin => ?_⟩, fun hge => ?_⟩
  · have hlt : k < (opsOf nm).length := Int.ofNat_lt.1 (of_decide_eq_true hlt)
    obtain ⟨uA', uB', uC'⟩ := letter_uses h k hlt
    refine ⟨fun hl => ?_, fun _ => ⟨fun hl => ?_, fun _ => ⟨fun hl => ?_, fun _ => ?_⟩⟩⟩
    · obtain ⟨g1, g2⟩ := fields_A (x := x) h (uA' hl) hx.1 hx.2
      refine ⟨fun _ => ⟨fun hne => Bool.noConfusion (g2.symm.trans hne), fun _ => ?_⟩, fun hne => Bool.noConfusion (g1.symm.trans hne)⟩
      exact ⟨[], _, rfl, next hlt rfl rfl rfl rfl rfl rfl rfl rfl⟩
    · obtain ⟨g1, g2⟩ := fields_B (x := y) h (uB' hl) hy.1 hy.2
      refine ⟨fun _ => ⟨fun hne => Bool.noConfusion (g2.symm.trans hne), fun _ => ?_⟩, fun hne => Bool.noConfusion (g1.symm.trans hne)⟩
      exact ⟨[], _, rfl, next hlt rfl rfl rfl rfl rfl rfl rfl rfl⟩
    · obtain ⟨g1, g2⟩ := fields_C (x := z) h (uC' hl) hz.1 hz.2
      refine ⟨fun _ => ⟨fun hne => Bool.noConfusion (g2.symm.trans hne), fun _ => ?_⟩, fun hne => Bool.noConfusion (g1.symm.trans hne)⟩
      exact ⟨[], _, rfl, next hlt rfl rfl rfl rfl rfl rfl rfl rfl⟩
    · exact ⟨[], _, rfl, next hlt rfl rfl rfl rfl rfl rfl rfl rfl⟩
  · exfalso
    have hlt : k < (opsOf nm).length := Int.ofNat_lt.1 (of_decide_eq_true hlt)
    exact Bool.noConfusion ((inside_of (Int.natCast_nonneg k) (Int.ofNat_lt.2 hlt)).symm.trans hin)
  · refine ⟨[], _, rfl, ?_⟩
    show AWP _ _ _ _ _ _
    refine AWP.less (s := [(12, .bool (fok nm))]) (Fits.tle ⟨rfl, trivial⟩) ?_
    refine AWP_run (cx := cx7) rfl rfl cx7_ok (s := (.ret, [(8, .bool (fok nm)), (12, .bool (fok nm))], [insO7 nm a b c d n])) (by kernel_rfl) ?_
    refine ⟨.inl rfl, ?_⟩
    have hf : fok nm = true := (enc_ok h).1
    show answerV _ _ _ _ = some _
    rw [hf]
    kernel_rfl

theorem fields_ok : PCall Try.prog 7 [.agg [.str nm, .int .i64 a, .int .i64 b, .int .i64 c, .int .i64 d, .int .i64 n], .int .i64 x, .int .i64 y, .int .i64 z] (.bool true) := by
  refine pcall_of' (c := bodyOf Try.f7) (fn := Try.f7) (by kernel_rfl) (by kernel_rfl) (by kernel_rfl) (by kernel_rfl) ?_
  refine AWP_headE (cx := cx7) rfl rfl cx7_ok 5 (by kernel_rfl) (fieldsPre_eq nm a b c d n x y z) ?_
  have ret : ∀ {t : T} {H : List O}, answerV Try.prog Try.f7.results.toList H t = some (.bool true) → fieldsQ .ret t H := fun h => ⟨.inl rfl, h⟩
  refine ⟨fun _ => ret (by kernel_rfl), fun hx => ⟨fun _ => ret (by kernel_rfl), fun hy => ⟨fun _ => ret (by kernel_rfl), fun hz => ⟨fun _ => ret (by kernel_rfl), fun hx' => ⟨fun _ => ret (by kernel_rfl), fun hy' => ⟨fun _ => ret (by kernel_rfl), fun hz' => ⟨fun h => ?_, fun h => ⟨fun _ => ret (by kernel_rfl), fun h' => ?_⟩⟩⟩⟩⟩⟩⟩⟩
  · show AWP _ _ _ _ _ _
    refine AWP.less (s := [(1, .int .i64 x), (2, .int .i64 y), (3, .int .i64 z), (4, .ptr 0 0), (11, .str (opsOf nm)), (12, .bool (fok nm)), (9, .sl (.int .u8) (bytes4 (encW (nm, a, b, c, d, n))) [] .full)]) (Fits.tle ⟨rfl, rfl, rfl, rfl, rfl, rfl, rfl, trivial⟩) ?_
    have hx := of_decide_eq_false hx
    have hy := of_decide_eq_false hy
    have hz := of_decide_eq_false hz
    have hx' := of_decide_eq_false hx'
    have hy' := of_decide_eq_false hy'
    have hz' := of_decide_eq_false hz'
    exact fields_loop nm a b c d n x y z h ⟨by omega, by omega⟩ ⟨by omega, by omega⟩ ⟨by omega, by omega⟩
  · exfalso
    simp [bne, h] at h'
end

end Go.Rv
