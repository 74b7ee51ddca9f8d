/-
  compact's Operands, and the document's. Conditions: none.
-/
import Derived.Test.YtaedihkgdmaofaaGreatDoorCz13
import Derived.Test.YtaedihkgdmaofaaGreatDoorCz18
import Derived.Test.YtaedihkgdmaofaaGreatDoorCz26
namespace Go.Cmp
open Go Go.Ab Go.Proofs

/-! order -/

/-- The context of foundry/compact.order. -/
noncomputable def cx16 : Cx := { P := Tryz.prog, n := 9, tab := [], mtab := [], refs := [], keeps := [0, 2, 8] }
noncomputable def orderS : Ab.Spec := fun args => .req (Nat.ble args.length Tryz.f16.ntmps) (dfun cx16 Tryz.f16 args)
theorem orderS_ok : Sound Tryz.prog 16 orderS := sound_fun (cx := cx16) (fn := Tryz.f16) (cx0_ok rfl rfl) (by kernel_rfl) (by kernel_rfl)

/-! Operands: of each row -/

/-- The context of foundry/compact.Operands. -/
noncomputable def cx7 : Cx := { P := Tryz.prog, n := 60, tab := [(15, findS), (16, orderS), (17, hasS), (18, upS)], mtab := [], refs := [], keeps := [0, 2, 3, 4, 5, 6, 8, 10, 12, 19, 22, 23, 24, 33, 44, 54], fuel := 6 }
theorem cxOpd_ok : CxOk cx7 := cx1_ok (.cons findS_ok (.cons orderS_ok (.cons hasS_ok (ok1 upS_ok)))) (fun p h => by cases h) rfl rfl
noncomputable def opdR (p : RowT × TabT) : Option V := (dfun cx7 Tryz.f7 [.str p.1.1]).run
def opdO (p : RowT × TabT) : Option V := some (.tup [.str p.2.2.2.1, .bool true])
theorem opd_0 : (partT 0).map opdR = (partT 0).map opdO := by kernel_rfl
theorem opd_1 : (partT 1).map opdR = (partT 1).map opdO := by kernel_rfl
theorem opd_2 : (partT 2).map opdR = (partT 2).map opdO := by kernel_rfl
theorem opd_3 : (partT 3).map opdR = (partT 3).map opdO := by kernel_rfl
theorem opd_4 : (partT 4).map opdR = (partT 4).map opdO := by kernel_rfl
theorem opd_5 : (partT 5).map opdR = (partT 5).map opdO := by kernel_rfl
theorem opd_all {x : RowT} (hx : x ∈ rowsL) : opdR (x, tabs x) = opdO (x, tabs x) :=
  six_all (l := pairsT) pairsT_len (fun k hk => match k, hk with
    | 0, _ => opd_0
    | 1, _ => opd_1
    | 2, _ => opd_2
    | 3, _ => opd_3
    | 4, _ => opd_4
    | 5, _ => opd_5) (pairsT_mem hx)

/-! of no row -/

def findNo : Ab.Spec := fun args => match args with
  | [.str nm] => .req (!fok nm) (.leaf (.tup [.agg (rowL zeroR), .bool false]))
  | _ => .fail
theorem findNo_ok : Sound Tryz.prog 15 findNo := by
  intro args out h
  unfold findNo at h
  split at h
  rotate_left
  · cases h
  rename_i nm
  obtain ⟨h1, h⟩ := req_run h
  have h := leaf_out h
  subst h
  have h2 : findL nm = none := by
    unfold fok at h1
    cases hf : findL nm with
    | none => rfl
    | some x => rw [hf] at h1; cases h1
  have := find_ok nm
  unfold frow fok at this
  rw [h2] at this
  exact this
noncomputable def cxOpN : Cx := { P := Tryz.prog, n := Tryz.f7.ntmps, tab := [(15, findNo)], mtab := [], refs := [], keeps := [0, 2, 3, 4, 5, 6, 8, 10, 12, 19, 22, 23, 24, 33, 44, 54] }
theorem opdN_eq (nm : List UInt8) : (dfun cxOpN Tryz.f7 [.str nm]).fin = cond (!fok nm) (some (.tup [.str [], .bool false])) none := by kernel_rfl
def opdS : Ab.Spec := fun args => match args with
  | [.str nm] => .leaf (.tup [.str (ftab nm).2.2.1, .bool (fok nm)])
  | _ => .fail
theorem opdS_ok : Sound Tryz.prog 7 opdS := by
  intro args out h
  unfold opdS at h
  split at h
  rotate_left
  · cases h
  rename_i nm
  have h := leaf_out h
  subst h
  cases hf : fok nm
  · refine pcall_fun' (cx := cxOpN) (fn := Tryz.f7) (cx1_ok (ok1 findNo_ok) (fun p h => by cases h) rfl rfl) (by kernel_rfl) (by kernel_rfl) (by kernel_rfl) ((Tree.fin_run _).symm.trans ((opdN_eq nm).trans ?_))
    unfold ftab
    rw [hf]
    rfl
  · obtain ⟨h1, h2, -⟩ := frow_mem hf
    have e := opd_all h1
    unfold opdR opdO at e
    rw [h2] at e
    refine pcall_fun' (cx := cx7) (fn := Tryz.f7) cxOpd_ok (by kernel_rfl) (by kernel_rfl) (by kernel_rfl) (e.trans ?_)
    unfold ftab
    rw [hf]
    rfl

/-! The document's. -/

/-- The context of foundry/foundryref9.Operands. -/
noncomputable def cx8 : Cx := { P := Tryz.prog, n := 14, tab := [(19, findXS)], mtab := [], refs := [], keeps := [0, 2, 3, 4, 5] }
def opXR (nm : List UInt8) : Option V := some (.tup [.str (ftab nm).2.2.1, .bool (fok nm)])
theorem opX_eq (nm : List UInt8) : (dfun cx8 Tryz.f8 [.str nm]).fin = opXR nm := by kernel_rfl
theorem opXS_ok : Sound Tryz.prog 8 opdS := by
  intro args out h
  unfold opdS at h
  split at h
  rotate_left
  · cases h
  rename_i nm
  have h := leaf_out h
  subst h
  exact pcall_fun' (cx := cx8) (fn := Tryz.f8) (cx1_ok (ok1 findXS_ok) (fun p h => by cases h) rfl rfl) (by kernel_rfl) (by kernel_rfl) (by kernel_rfl) ((Tree.fin_run _).symm.trans (opX_eq nm))

end Go.Cmp
