/-
  The row whose prefixes and opcode were taken: the loops. Conditions: none.
-/
import Derived.Test.YtlfnjldfmfjghaaAm15
namespace Go.Amd
open Go Go.Ab Go.Proofs

def opLen : List Int → Bool
  | [_] => true
  | [_, _] => true
  | _ => false
def opensG : Ab.Spec := fun args => match args with
  | [.agg [.str nm, .int .i64 rex, .int .u16 op, .int .i64 f, .int .u8 dg, .bool cn, .int .i64 lo, .int .i64 hi, .str ops], .sl (.int .u8) l [] .full] =>
    .req (opLen l) (.req (formOk (nm, rex, op, f, dg, cn, lo, hi, ops)) (.leaf (.bool (opensF (nm, rex, op, f, dg, cn, lo, hi, ops) l))))
  | _ => .fail
theorem opensG_ok : Sound Try.prog 68 opensG := by
  intro args out h
  unfold opensG at h
  split at h
  rotate_left
  · cases h
  rename_i nm rex op f dg cn lo hi os l
  obtain ⟨h1, h⟩ := req_run h
  refine opensS_ok _ out ?_
  match l, h1, h with
  | [c], _, h => exact h
  | [c, e], _, h => exact h
  | [], h1, _ => cases h1
  | _ :: _ :: _ :: _, h1, _ => cases h1

noncomputable def cxCh : Cx := { P := Try.prog, n := 65, tab := [(31, rowsS), (68, opensG), (70, hasModS), (71, fitS)], mtab := [(69, prefS), (56, mustM), (57, nextM)], refs := [], keeps := [0, 1, 4, 5, 6, 8, 9, 11, 12, 13, 14, 15, 25, 39, 45, 46, 47, 48, 59] }
theorem cxCh_ok : CxOk cxCh := cx1_ok (.cons rowsS_ok (.cons opensG_ok (.cons hasModS_ok (ok1 fitS_ok)))) (.cons prefS_ok (.cons mustM_ok (.cons nextM_ok (.nil _)))) rfl rfl
noncomputable abbrev Bch : Code := bodyOf Try.f53
abbrev rO (r : RowT) : O := .cells (rowL r) 54
noncomputable abbrev rnd1 : Code := cin (cin (c2 (c1 (c2 (c2 Bch)))))
abbrev opV (op : List Int) : V := .sl (.int .u8) op [] .full
/-- Is a row one that the prefixes and the opcode open? -/
def cand (op : List Int) (fs : Bool) (R : Int) (has : Bool) (r : RowT) : Bool := cond (opensF r op) (prefF r fs R has) false

section
variable (l sp : List Int) (fl : Fl) (k R i : Int) (op : List Int) (fs has : Bool) (L G : List RowT)

abbrev t1A (g : V) (j : Int) (b : Bool) : T := [(0, .ptr 0 0), (1, opV op), (4, .ptr 1 0), (5, .int .u8 0), (6, g), (8, .ptr 2 0), (12, .sl rowE L [] .ro), (13, .int .i64 L.length), (14, .int .i64 j), (15, .bool true), (25, .bool b)]
abbrev t1G (g : V) (j : Int) (b : Bool) : T := [(0, .ptr 0 0), (1, opV op), (4, .ptr 1 0), (5, .int .u8 0), (6, g), (8, .ptr 3 0), (12, .sl rowE L [] .ro), (13, .int .i64 L.length), (14, .int .i64 j), (15, .bool true), (25, .bool b)]
abbrev t1E (g : V) (j : Int) : T := [(0, .ptr 0 0), (1, opV op), (4, .ptr 1 0), (5, .int .u8 0), (6, g), (12, .sl rowE L [] .ro), (13, .int .i64 L.length), (14, .int .i64 j), (15, .bool false)]
abbrev t1S (g : V) (j : Int) : T := [(0, .ptr 0 0), (1, opV op), (4, .ptr 1 0), (5, .int .u8 0), (6, g), (12, .sl rowE L [] .ro), (13, .int .i64 L.length), (14, .int .i64 j)]

def chR1 : Tree St :=
  .br (decide (i < (L.length : Nat))) (.br (inside i L.length) (.br (opLen op) (.br (formOk (rowAt L i.toNat)) (.br (opensF (rowAt L i.toNat) op) (.br (formOk (rowAt L i.toNat)) (.br (prefF (rowAt L i.toNat) fs R has)
    (.leaf (.normal, t1A op L (.gro 4 rowE [rowAt L i.toNat]) (IntKind.wrap .i64 (i + 1)) true, [wkO l sp fl k fs R has, rO zeroR, rO (rowAt L i.toNat), rO (rowAt L i.toNat), .tok 1 9]))
    (.leaf (.normal, t1A op L nilV (IntKind.wrap .i64 (i + 1)) false, [wkO l sp fl k fs R has, rO zeroR, rO (rowAt L i.toNat), rO (rowAt L i.toNat)]))) .fail)
    (.leaf (.normal, t1A op L nilV (IntKind.wrap .i64 (i + 1)) false, [wkO l sp fl k fs R has, rO zeroR, rO (rowAt L i.toNat)]))) .fail) .fail) .fail)
    (.leaf (.exit 0, t1E op L nilV i, [wkO l sp fl k fs R has, rO zeroR]))
theorem chR1_eq : (dcode cxCh rnd1 (t1S op L nilV i) [wkO l sp fl k fs R has, rO zeroR]).run = (chR1 l sp fl k R i op fs has L).run :=
  (show _ = (chR1 l sp fl k R i op fs has L).out by kernel_rfl).trans (Tree.out_run _)

def chR2 : Tree St :=
  .br (decide (i < (L.length : Nat))) (.br (inside i L.length) (.br (opLen op) (.br (formOk (rowAt L i.toNat)) (.br (opensF (rowAt L i.toNat) op) (.br (formOk (rowAt L i.toNat)) (.br (prefF (rowAt L i.toNat) fs R has)
    (.br (decide (G.length = G.length) && roomy (G.length + 1) 80) (.leaf (.normal, t1G op L (.gro 2 rowE (G ++ [rowAt L i.toNat])) (IntKind.wrap .i64 (i + 1)) true, [wkO l sp fl k fs R has, rO zeroR, .tok (G.length + 1) 9, rO (rowAt L i.toNat), rO (rowAt L i.toNat)])) .fail)
    (.leaf (.normal, t1G op L (.gro 2 rowE G) (IntKind.wrap .i64 (i + 1)) false, [wkO l sp fl k fs R has, rO zeroR, .tok G.length 9, rO (rowAt L i.toNat), rO (rowAt L i.toNat)]))) .fail)
    (.leaf (.normal, t1G op L (.gro 2 rowE G) (IntKind.wrap .i64 (i + 1)) false, [wkO l sp fl k fs R has, rO zeroR, .tok G.length 9, rO (rowAt L i.toNat)]))) .fail) .fail) .fail)
    (.leaf (.exit 0, t1E op L (.gro 2 rowE G) i, [wkO l sp fl k fs R has, rO zeroR, .tok G.length 9]))
theorem chR2_eq : (dcode cxCh rnd1 (t1S op L (.gro 2 rowE G) i) [wkO l sp fl k fs R has, rO zeroR, .tok G.length 9]).run = (chR2 l sp fl k R i op fs has L G).run :=
  (show _ = (chR2 l sp fl k R i op fs has L G).out by kernel_rfl).trans (Tree.out_run _)

end
end Go.Amd
