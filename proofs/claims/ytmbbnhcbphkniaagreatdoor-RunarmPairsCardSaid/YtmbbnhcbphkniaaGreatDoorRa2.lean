/-
  runarm: its functions by their own texts. Conditions: none.
-/
import Derived.Test.YtmbbnhcbphkniaaGreatDoorBbYi
import Derived.Test.YtmbbnhcbphkniaaGreatDoorRa1
namespace Go.Ra
open Go Go.Ab Go.Proofs

/-! Functions that the model stands in for; a register looked at. -/

theorem add_ok : XSound Tryz.prog 110 add64S := add64S_ok (fn := Tryz.f110) (by kernel_rfl) (by kernel_rfl) (by kernel_rfl) (by rfl) (by rfl)
theorem sub_ok : XSound Tryz.prog 112 sub64S := sub64S_ok (fn := Tryz.f112) (by kernel_rfl) (by kernel_rfl) (by kernel_rfl) (by rfl) (by rfl)
/-- The context of (*foundry/runarm.stepper).reg. -/
noncomputable def cx52 : Cx := { P := Tryz.prog, n := 14, tab := [], mtab := [], refs := [], keeps := [0, 1, 4, 6] }
theorem reg_ok : RSound Tryz.prog 52 (qfun cx52 Tryz.f52) := qfun_ok (cx0_ok rfl rfl) (by kernel_rfl) (by kernel_rfl) (by kernel_rfl) (by kernel_rfl)
noncomputable def baseT : Tabs := { tab := [(107, rowsS), (110, add64S), (112, sub64S)], rtab := [(52, qfun cx52 Tryz.f52)] }
theorem baseT_ok : baseT.Ok Tryz.prog := ⟨.cons rowsS_ok (.consX add_ok (.consX sub_ok (.nil _))), (fun p h => by cases h), .cons reg_ok (.nil _), fun p h => by cases h⟩
noncomputable def runT_ps : List Fi := [⟨24, Tryz.f24, [0, 1, 2, 3, 4], [], 0, []⟩, ⟨49, Tryz.f49, [0, 2, 3, 5, 6, 7, 8, 9, 15], [], 60, []⟩, ⟨50, Tryz.f50, [0, 1, 2, 3, 4, 8, 9, 40, 50, 55, 70, 71, 88], [], 12, []⟩, ⟨108, Tryz.f108, [0, 1, 2, 4], [], 0, []⟩, ⟨33, Tryz.f33, [0, 2], [], 0, []⟩, ⟨56, Tryz.f56, [0, 1, 4, 6], [], 0, []⟩, ⟨57, Tryz.f57, [0, 1, 4, 5, 6, 8], [], 0, []⟩, ⟨58, Tryz.f58, [0, 1, 2, 3, 8, 9, 10, 11, 18, 30], [], 0, []⟩, ⟨60, Tryz.f60, [0, 2, 3, 4, 5, 6, 8, 10, 13, 16, 18, 20, 22], [], 0, []⟩, ⟨64, Tryz.f64, [0, 1, 4, 5, 6], [], 0, []⟩, ⟨11, Tryz.f11, [0, 1, 2, 4, 5, 6, 10, 15, 19, 24, 28, 33, 37, 42, 51, 60, 67, 74, 86], [], 0, []⟩]
theorem runT_ps_ok : FisOk Tryz.prog runT_ps := ⟨⟨by kernel_rfl, by kernel_rfl⟩, ⟨by kernel_rfl, by kernel_rfl⟩, ⟨by kernel_rfl, by kernel_rfl⟩, ⟨by kernel_rfl, by kernel_rfl⟩, ⟨by kernel_rfl, by kernel_rfl⟩, ⟨by kernel_rfl, by kernel_rfl⟩, ⟨by kernel_rfl, by kernel_rfl⟩, ⟨by kernel_rfl, by kernel_rfl⟩, ⟨by kernel_rfl, by kernel_rfl⟩, ⟨by kernel_rfl, by kernel_rfl⟩, ⟨by kernel_rfl, by kernel_rfl⟩, trivial⟩
noncomputable def runT_ms : List Fi := [⟨13, Tryz.f13, [0], [], 0, []⟩, ⟨14, Tryz.f14, [0, 1, 2, 3, 4, 5, 8, 9, 10, 11, 12, 13, 14, 18, 23, 40, 41, 55, 68, 75, 78, 86], [], 0, []⟩, ⟨18, Tryz.f18, [0, 1, 2, 4, 5, 6, 7, 8, 9, 10, 19, 28], [], 0, []⟩, ⟨19, Tryz.f19, [0, 1, 2, 6, 7, 8, 9, 15, 17, 18, 19, 33, 45], [], 12, []⟩, ⟨25, Tryz.f25, [0, 2, 3, 4, 13, 14, 25, 37, 58, 81, 104, 125, 146, 161, 176, 191, 205, 218], [], 0, []⟩, ⟨26, Tryz.f26, [0, 2, 3, 4, 5, 6, 25, 30, 39, 48, 58, 68, 77, 86, 95, 106, 120, 134, 143, 154, 164, 174, 186, 198], [], 0, []⟩, ⟨27, Tryz.f27, [0, 2, 3, 4, 5, 6, 7, 8, 9, 10, 11, 12, 25, 38, 45, 70, 74, 81, 94], [], 0, []⟩, ⟨28, Tryz.f28, [0, 2, 3, 4, 23, 24, 29, 37, 45, 49, 55, 59, 65, 69, 78], [], 0, []⟩, ⟨34, Tryz.f34, [0, 2], [], 0, []⟩, ⟨35, Tryz.f35, [0, 1, 2, 3, 8, 9, 10, 11, 12, 14, 27, 33, 53], [], 4, []⟩, ⟨36, Tryz.f36, [0, 1, 4], [], 0, []⟩, ⟨51, Tryz.f51, [0, 1, 2, 7], [], 0, []⟩, ⟨53, Tryz.f53, [0, 1, 2, 6, 7, 8], [], 0, []⟩, ⟨54, Tryz.f54, [0, 1, 2, 6, 7, 8], [], 0, []⟩, ⟨55, Tryz.f55, [0, 1, 4], [], 0, []⟩, ⟨59, Tryz.f59, [0, 1, 2, 6, 20, 30, 49], [], 0, []⟩, ⟨111, Tryz.f111, [0, 1], [], 0, []⟩, ⟨63, Tryz.f63, [0, 1], [], 0, []⟩]
theorem runT_ms_ok : FisOk Tryz.prog runT_ms := ⟨⟨by kernel_rfl, by kernel_rfl⟩, ⟨by kernel_rfl, by kernel_rfl⟩, ⟨by kernel_rfl, by kernel_rfl⟩, ⟨by kernel_rfl, by kernel_rfl⟩, ⟨by kernel_rfl, by kernel_rfl⟩, ⟨by kernel_rfl, by kernel_rfl⟩, ⟨by kernel_rfl, by kernel_rfl⟩, ⟨by kernel_rfl, by kernel_rfl⟩, ⟨by kernel_rfl, by kernel_rfl⟩, ⟨by kernel_rfl, by kernel_rfl⟩, ⟨by kernel_rfl, by kernel_rfl⟩, ⟨by kernel_rfl, by kernel_rfl⟩, ⟨by kernel_rfl, by kernel_rfl⟩, ⟨by kernel_rfl, by kernel_rfl⟩, ⟨by kernel_rfl, by kernel_rfl⟩, ⟨by kernel_rfl, by kernel_rfl⟩, ⟨by kernel_rfl, by kernel_rfl⟩, ⟨by kernel_rfl, by kernel_rfl⟩, trivial⟩
noncomputable def runT (d : Nat) : Tabs := deep Tryz.prog baseT runT_ps runT_ms d
theorem runT_ok (d : Nat) : (runT d).Ok Tryz.prog := deep_ok baseT_ok runT_ps_ok runT_ms_ok d

end Go.Ra
