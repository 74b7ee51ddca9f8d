/-
  compact: what the document tries of a row. Conditions: none.
-/
import Derived.Test.YtaedihkgdmaofaaDoorCm32
import Derived.Test.YtaedihkgdmaofaaDoorCm12
namespace Go.Cmp
open Go Go.Ab Go.Proofs

noncomputable def cxTr : Cx := { P := Tryd.prog, n := 75, tab := (hasA 1).tab, mtab := [], refs := [], keeps := [0, 1, 2, 3, 4, 5, 6, 7, 8, 9, 23, 27, 35, 43, 51, 64], fuel := 5 }
theorem cxTr_ok : CxOk cxTr := cx1_ok (deep_ok (tabs_ok (.nil _) (fun p h => by cases h)) hasA_ps_ok hasA_ms_ok 1).1 (fun p h => by cases h) rfl rfl
/-- The a-th of a long one's registers. -/
def rgX (w : InsT) (a : Nat) : Int := cond (Nat.beq a 0) w.2.1 (cond (Nat.beq a 1) w.2.2.1 (cond (Nat.beq a 2) w.2.2.2.1 0))
def tryX (y : TabT) (w : InsT) (a b : Nat) : InsT :=
  (y.1, cond (y.2.2.1.contains 65) (rgX w a) 0, cond (y.2.2.1.contains 66) (rgX w b) 0, cond (y.2.2.1.contains 67) (cond (y.2.2.1.contains 66) (rgX w a) (rgX w b)) 0, 0, w.2.2.2.2.2)
def triedX (y : TabT) (w : InsT) : List InsT :=
  [tryX y w 0 0, tryX y w 0 1, tryX y w 0 2, tryX y w 0 3, tryX y w 1 0, tryX y w 1 1, tryX y w 1 2, tryX y w 1 3,
   tryX y w 2 0, tryX y w 2 1, tryX y w 2 2, tryX y w 2 3, tryX y w 3 0, tryX y w 3 1, tryX y w 3 2, tryX y w 3 3]
abbrev insEC : EC := .prod [.str, .int .i64, .int .i64, .int .i64, .int .i64, .int .i64]
noncomputable def trR (p : RowT × TabT) (w : InsT) : Option V := (dfun cxTr Tryd.f39 [.agg (tabLV p.2), insV w]).fin
def trO (p : RowT × TabT) (w : InsT) : Option V := some (.sl insEC (triedX p.2 w) [] .ro)
theorem tr_0 : (partT 0).map trR = (partT 0).map trO := by kernel_rfl
theorem tr_1 : (partT 1).map trR = (partT 1).map trO := by kernel_rfl
theorem tr_2 : (partT 2).map trR = (partT 2).map trO := by kernel_rfl
theorem tr_3 : (partT 3).map trR = (partT 3).map trO := by kernel_rfl
theorem tr_4 : (partT 4).map trR = (partT 4).map trO := by kernel_rfl
theorem tr_5 : (partT 5).map trR = (partT 5).map trO := by kernel_rfl
theorem tr_all {x : RowT} (hx : x ∈ rowsL) : trR (x, tabs x) = trO (x, tabs x) :=
  six_all (l := pairsT) pairsT_len (fun k hk => match k, hk with
    | 0, _ => tr_0
    | 1, _ => tr_1
    | 2, _ => tr_2
    | 3, _ => tr_3
    | 4, _ => tr_4
    | 5, _ => tr_5) (pairsT_mem hx)
def triedS : Ab.Spec := fun args => match args with
  | [.agg [.str nm, .str b, .str o, .bool s, .int .i64 lo, .int .i64 hi, .int .i64 by_, .bool z], .agg [.str wn, .int .i64 wa, .int .i64 wb, .int .i64 wc, .int .i64 wd, .int .i64 wi]] =>
    .req (isTabB (nm, b, o, s, lo, hi, by_, z)) (.leaf (.sl insEC (triedX (nm, b, o, s, lo, hi, by_, z) (wn, wa, wb, wc, wd, wi)) [] .ro))
  | _ => .fail
theorem triedS_ok : Sound Tryd.prog 39 triedS := by
  intro args out h
  unfold triedS at h
  split at h
  rotate_left
  · cases h
  rename_i nm b o s lo hi by_ z wn wa wb wc wd wi
  obtain ⟨h1, h⟩ := req_run h
  have h := leaf_out h
  subst h
  obtain ⟨hx, e⟩ := isTabB_to h1
  have hw := congrFun (tr_all hx) (wn, wa, wb, wc, wd, wi)
  unfold trR trO at hw
  simp only at hw e
  rw [← e] at hw
  exact pcall_fun' (cx := cxTr) (fn := Tryd.f39) cxTr_ok (by kernel_rfl) (by kernel_rfl) rfl ((Tree.fin_run _).symm.trans hw)

end Go.Cmp
