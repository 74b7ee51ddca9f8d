/-
  compact: Encode as its callers may write over what it answers; the document's Encode; Spoil. Conditions: none.
-/
import Derived.Test.YtaedihkgdmaofaaDoorEnE
import Derived.Test.YtaedihkgdmaofaaDoorAbYf
import Derived.Test.YtaedihkgdmaofaaDoorCm30
import Derived.Test.YtaedihkgdmaofaaDoorCm22
namespace Go.Cmp
open Go Go.Ab Go.Proofs

/-- A call run, and of what it made only some objects told; with its conditions. -/
noncomputable def mtree (cx : Cx) (fn : Func) (args : List V) (H : List O) (κ : List Nat) : Tree (V × List O) :=
  (dcode { cx with n := fn.ntmps } (bodyOf fn) (initT 0 args) H).bind fun s => match dropS H.length κ s with
    | some (.ret, t, H') => (match answerI cx.P fn.results.toList H' t with
      | some v => .leaf (v, H')
      | none => .fail)
    | _ => .fail
theorem mcall_tree {cx : Cx} {f : Nat} {fn : Func} {args : List V} {H H' : List O} {v : V} (κ : List Nat) (hT : CxOk cx) (hf : cx.P.funcs[f]? = some fn) (hb : fn.body = some (bodyOf fn))
    (hname : (fn.name == "runtime.NumGoroutine") = false) (hn : Nat.ble args.length fn.ntmps = true) (h : (mtree cx fn args H κ).fin = some (v, H')) : MCall cx.P f args H (.ok v H') := by
  rw [Tree.fin_run] at h
  unfold mtree at h
  obtain ⟨s, h1, h2⟩ := bind_run h
  refine mcall_funD κ hT hf hb hname hn ?_
  unfold mfunD
  rw [h1]
  simp only
  split at h2
  · rename_i t H2 hd
    rw [hd]
    split at h2
    · rename_i u hu
      have h2 := leaf_out h2
      cases h2
      simp only
      rw [hu]
      rfl
    · cases h2
  · cases h2

noncomputable def cxEm (p : RowT × List FldT) : Cx := { P := Tryd.prog, n := 39, tab := [(24, chkAt p.1), (25, fieldsL p.2)] ++ (valA 1).tab, mtab := [], refs := [38], keeps := [0, 1, 2, 3, 4, 5, 6, 8, 15, 18, 19, 20, 21], fuel := 12 }
theorem cxEm_ok (p : RowT × List FldT) : CxOk (cxEm p) := cx1_ok (.cons (chkAt_ok p.1) (.cons (fieldsL_ok p.2) (deep_ok (tabs_ok (.nil _) (fun p h => by cases h)) valA_ps_ok valA_ms_ok 1).1)) (fun p h => by cases h) rfl rfl
def encWL (fl : List FldT) (i : InsT) : Int := fl.foldl (fun w f => or16 (u16 (w * 2 ^ min f.1.toNat 16)) (valF f i)) 0
def bytesV (w : Int) : List V := [.int .u8 (u8w w), .int .u8 (u8w (Int.fdiv w (2 ^ 8)))]
noncomputable def emR (p : RowT × List FldT) (nm : List UInt8) (a b c d n : Int) : Option (V × List O) :=
  (mtree (cxEm p) Tryd.f10 [.agg [.str nm, .int .i64 a, .int .i64 b, .int .i64 c, .int .i64 d, .int .i64 n]] [] [2 + p.2.length]).fin
def emO (p : RowT × List FldT) (nm : List UInt8) (a b c d n : Int) : Option (V × List O) :=
  cond (isAt nm p.1) (cond (faultyF p.1 (nm, a, b, c, d, n) == 0) (cond (isRowB p.1) (some (.tup [.ref 0 1 0 2, .int .i64 0], [.cells (bytesV (encWL p.2 (nm, a, b, c, d, n))) 4294967301])) none) none) none
theorem em_0 : (partP 0).map emR = (partP 0).map emO := by kernel_rfl
theorem em_1 : (partP 1).map emR = (partP 1).map emO := by kernel_rfl
theorem em_2 : (partP 2).map emR = (partP 2).map emO := by kernel_rfl
theorem em_3 : (partP 3).map emR = (partP 3).map emO := by kernel_rfl
theorem em_4 : (partP 4).map emR = (partP 4).map emO := by kernel_rfl
theorem em_5 : (partP 5).map emR = (partP 5).map emO := by kernel_rfl
theorem em_all {x : RowT} (hx : x ∈ rowsL) : emR (x, flds x) = emO (x, flds x) :=
  six_all (l := pairsL) pairs_len (fun k hk => match k, hk with
    | 0, _ => em_0
    | 1, _ => em_1
    | 2, _ => em_2
    | 3, _ => em_3
    | 4, _ => em_4
    | 5, _ => em_5) (pairs_mem hx)
noncomputable def emN (nm : List UInt8) (a b c d n : Int) : Option (V × List O) :=
  (mtree { cxEx with refs := [38] } Tryd.f10 [.agg [.str nm, .int .i64 a, .int .i64 b, .int .i64 c, .int .i64 d, .int .i64 n]] [] []).fin
theorem emN_eq (nm : List UInt8) (a b c d n : Int) : emN nm a b c d n = cond (encE (nm, a, b, c, d, n) != 0) (cond (encE (nm, a, b, c, d, n) != 0) (some (.tup [nilV, .int .i64 (encE (nm, a, b, c, d, n))], [])) none) none := by kernel_rfl

end Go.Cmp
