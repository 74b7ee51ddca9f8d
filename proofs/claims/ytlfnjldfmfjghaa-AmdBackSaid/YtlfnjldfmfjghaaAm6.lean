/-
  An instruction's bytes: the evaluators. Conditions: none.
-/
import Derived.Test.YtlfnjldfmfjghaaAm5
namespace Go.Amd
open Go Go.Ab Go.Proofs

/-- The context of (*foundry/amd.code).imm. -/
noncomputable def cx39 : Cx := { P := Try.prog, n := 26, tab := [], mtab := [], refs := [], keeps := [0, 1, 2, 6, 7, 8, 9], fuel := 9 }
/-- The context of (*foundry/amd.code).modrm. -/
noncomputable def cx40 : Cx := { P := Try.prog, n := 43, tab := [], mtab := [], refs := [], keeps := [0, 1, 2, 3] }
/-- The context of (*foundry/amd.code).sib. -/
noncomputable def cx67 : Cx := { P := Try.prog, n := 54, tab := [], mtab := [], refs := [], keeps := [0, 1, 3, 4, 5, 9, 14], fuel := 5 }
noncomputable def immM : MSpec := fun args H => .req (Nat.ble args.length Try.f39.ntmps) (mfun cx39 Try.f39 args H)
theorem immM_ok : MSound Try.prog 39 immM := msound_fun (cx := cx39) (fn := Try.f39) (cx0_ok rfl rfl) (by kernel_rfl) (by kernel_rfl)
noncomputable def modrmM : MSpec := fun args H => .req (Nat.ble args.length Try.f40.ntmps) (mfun cx40 Try.f40 args H)
theorem modrmM_ok : MSound Try.prog 40 modrmM := msound_fun (cx := cx40) (fn := Try.f40) (cx0_ok rfl rfl) (by kernel_rfl) (by kernel_rfl)
noncomputable def sibM : MSpec := fun args H => .req (Nat.ble args.length Try.f67.ntmps) (mfun cx67 Try.f67 args H)
theorem sibM_ok : MSound Try.prog 67 sibM := msound_fun (cx := cx67) (fn := Try.f67) (cx0_ok rfl rfl) (by kernel_rfl) (by kernel_rfl)

/-- The context of (*foundry/amd.code).place. -/
noncomputable def cx42 : Cx := { P := Try.prog, n := 60, tab := [(41, fitsS)], mtab := [(39, immM), (40, modrmM), (67, sibM)], refs := [], keeps := [0, 1, 3, 4, 5, 8, 17, 27, 39] }
noncomputable def placeM : MSpec := fun args H => .req (Nat.ble args.length Try.f42.ntmps) (mfun cx42 Try.f42 args H)
theorem placeM_ok : MSound Try.prog 42 placeM := msound_fun (cx := cx42) (fn := Try.f42) (cx1_ok (ok1 fitsS_ok) (.cons immM_ok (.cons modrmM_ok (.cons sibM_ok (.nil _)))) rfl rfl) (by kernel_rfl) (by kernel_rfl)

/-- The context of (foundry/amd.row).whole. -/
noncomputable def cx43 : Cx := { P := Try.prog, n := 50, tab := [], mtab := [], refs := [], keeps := [0, 1, 2, 3, 6, 7, 10, 16, 33] }
noncomputable def wholeM : MSpec := fun args H => .req (Nat.ble args.length Try.f43.ntmps) (mfun cx43 Try.f43 args H)
theorem wholeM_ok : MSound Try.prog 43 wholeM := msound_fun (cx := cx43) (fn := Try.f43) (cx0_ok rfl rfl) (by kernel_rfl) (by kernel_rfl)

/-- The context of code: what it makes is written. -/
noncomputable def cxCode : Cx := { P := Try.prog, n := Try.f38.ntmps, tab := [], mtab := [], refs := [13, 17], keeps := [0, 1, 2, 5] }
noncomputable def codeM : MSpec := fun args H => .req (Nat.ble args.length Try.f38.ntmps) (mfun cxCode Try.f38 args H)
theorem codeM_ok : MSound Try.prog 38 codeM := msound_fun (cx := cxCode) (fn := Try.f38) (cx0_ok rfl rfl) (by kernel_rfl) (by kernel_rfl)

/-- The context of (foundry/amd.row).bytes. -/
noncomputable def cx24 : Cx := { P := Try.prog, n := 164, tab := [(41, fitsS)], mtab := [(38, codeM), (39, immM), (40, modrmM), (42, placeM), (43, wholeM)], refs := [], keeps := [0, 1, 2, 3, 4, 5, 6, 7, 18, 28, 29, 55, 60, 72, 80, 98, 108, 116, 124, 129, 148, 154] }
theorem cxBy_ok : CxOk cx24 := cx1_ok (ok1 fitsS_ok) (.cons codeM_ok (.cons immM_ok (.cons modrmM_ok (.cons placeM_ok (.cons wholeM_ok (.nil _)))))) rfl rfl

end Go.Amd
