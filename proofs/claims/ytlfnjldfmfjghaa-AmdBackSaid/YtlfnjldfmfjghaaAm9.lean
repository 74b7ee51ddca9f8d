/-
  Decode: the evaluators; begun. Conditions: none.
-/
import Derived.Test.YtlfnjldfmfjghaaAm8
namespace Go.Amd
open Go Go.Ab Go.Proofs

/-- The context of foundry/amd.must. -/
noncomputable def cx56 : Cx := { P := Try.prog, n := 6, tab := [], mtab := [], refs := [], keeps := [0, 3] }
noncomputable def mustM : MSpec := fun args H => .req (Nat.ble args.length Try.f56.ntmps) (mfun cx56 Try.f56 args H)
theorem mustM_ok : MSound Try.prog 56 mustM := msound_fun (cx := cx56) (fn := Try.f56) (cx1_ok (.nil _) (.nil _) rfl rfl) (by kernel_rfl) (by kernel_rfl)
/-- The context of (*foundry/amd.walker).next. -/
noncomputable def cx57 : Cx := { P := Try.prog, n := 33, tab := [], mtab := [], refs := [], keeps := [0, 2, 12] }
noncomputable def nextM : MSpec := fun args H => .req (Nat.ble args.length Try.f57.ntmps) (mfun cx57 Try.f57 args H)
theorem nextM_ok : MSound Try.prog 57 nextM := msound_fun (cx := cx57) (fn := Try.f57) (cx1_ok (.nil _) (.nil _) rfl rfl) (by kernel_rfl) (by kernel_rfl)
/-- The context of (*foundry/amd.walker).number. -/
noncomputable def cx72 : Cx := { P := Try.prog, n := 30, tab := [], mtab := [(57, nextM)], refs := [], keeps := [0, 1, 4, 5, 6, 7, 8, 9], fuel := 9 }
noncomputable def numberM : MSpec := fun args H => .req (Nat.ble args.length Try.f72.ntmps) (mfun cx72 Try.f72 args H)
theorem numberM_ok : MSound Try.prog 72 numberM := msound_fun (cx := cx72) (fn := Try.f72) (cx1_ok (.nil _) (.cons nextM_ok (.nil _)) rfl rfl) (by kernel_rfl) (by kernel_rfl)
/-- The context of (*foundry/amd.walker).bit. -/
noncomputable def cx54 : Cx := { P := Try.prog, n := 12, tab := [], mtab := [], refs := [], keeps := [0, 1, 4, 11] }
noncomputable def bitM : MSpec := fun args H => .req (Nat.ble args.length Try.f54.ntmps) (mfun cx54 Try.f54 args H)
theorem bitM_ok : MSound Try.prog 54 bitM := msound_fun (cx := cx54) (fn := Try.f54) (cx1_ok (.nil _) (.nil _) rfl rfl) (by kernel_rfl) (by kernel_rfl)
/-- The context of (*foundry/amd.walker).opcode. -/
noncomputable def cx52 : Cx := { P := Try.prog, n := 59, tab := [], mtab := [(56, mustM), (57, nextM)], refs := [], keeps := [0, 2, 3, 7, 19, 31] }
noncomputable def opcodeM : MSpec := fun args H => .req (Nat.ble args.length Try.f52.ntmps) (mfun cx52 Try.f52 args H)
theorem opcodeM_ok : MSound Try.prog 52 opcodeM := msound_fun (cx := cx52) (fn := Try.f52) (cx1_ok (.nil _) (.cons mustM_ok (.cons nextM_ok (.nil _))) rfl rfl) (by kernel_rfl) (by kernel_rfl)
/-- The context of (foundry/amd.row).opens. -/
noncomputable def cx68 : Cx := { P := Try.prog, n := 75, tab := [(37, conditionS)], mtab := [], refs := [], keeps := [0, 1, 2, 4, 5, 6, 29, 38, 48, 59] }
noncomputable def opensE : Ab.Spec := fun args => .req (Nat.ble args.length Try.f68.ntmps) (dfun cx68 Try.f68 args)
theorem opensE_ok : Sound Try.prog 68 opensE := sound_fun (cx := cx68) (fn := Try.f68) (cx1_ok (.cons conditionS_ok (.nil _)) (.nil _) rfl rfl) (by kernel_rfl) (by kernel_rfl)
/-- The context of (foundry/amd.row).prefixed. -/
noncomputable def cx69 : Cx := { P := Try.prog, n := 81, tab := [], mtab := [], refs := [], keeps := [0, 1, 2, 4, 5, 13, 15, 16, 20, 27, 36, 38, 39, 47] }
noncomputable def prefixedM : MSpec := fun args H => .req (Nat.ble args.length Try.f69.ntmps) (mfun cx69 Try.f69 args H)
theorem prefixedM_ok : MSound Try.prog 69 prefixedM := msound_fun (cx := cx69) (fn := Try.f69) (cx1_ok (.nil _) (.nil _) rfl rfl) (by kernel_rfl) (by kernel_rfl)
/-- The context of (foundry/amd.row).modrm. -/
noncomputable def cx70 : Cx := { P := Try.prog, n := 11, tab := [], mtab := [], refs := [], keeps := [0, 1, 2, 4, 5] }
noncomputable def hasModE : Ab.Spec := fun args => .req (Nat.ble args.length Try.f70.ntmps) (dfun cx70 Try.f70 args)
theorem hasModE_ok : Sound Try.prog 70 hasModE := sound_fun (cx := cx70) (fn := Try.f70) (cx1_ok (.nil _) (.nil _) rfl rfl) (by kernel_rfl) (by kernel_rfl)
/-- The context of (foundry/amd.row).fit. -/
noncomputable def cx71 : Cx := { P := Try.prog, n := 36, tab := [], mtab := [], refs := [], keeps := [0, 1, 2, 3, 4, 8, 10, 11, 15, 23] }
noncomputable def fitE : Ab.Spec := fun args => .req (Nat.ble args.length Try.f71.ntmps) (dfun cx71 Try.f71 args)
theorem fitE_ok : Sound Try.prog 71 fitE := sound_fun (cx := cx71) (fn := Try.f71) (cx1_ok (.nil _) (.nil _) rfl rfl) (by kernel_rfl) (by kernel_rfl)
/-- The context of (*foundry/amd.walker).chosen. -/
noncomputable def cx53 : Cx := { P := Try.prog, n := 65, tab := [(31, rowsS), (68, opensE), (70, hasModE), (71, fitE)], mtab := [(69, prefixedM), (56, mustM), (57, nextM)], refs := [], keeps := [0, 1, 4, 5, 6, 8, 9, 11, 12, 13, 14, 15, 25, 39, 45, 46, 47, 48, 59], fuel := 64 }
noncomputable def chosenM : MSpec := fun args H => .req (Nat.ble args.length Try.f53.ntmps) (mfun cx53 Try.f53 args H)
theorem chosenM_ok : MSound Try.prog 53 chosenM := msound_fun (cx := cx53) (fn := Try.f53) (cx1_ok (.cons rowsS_ok (.cons opensE_ok (.cons hasModE_ok (.cons fitE_ok (.nil _))))) (.cons prefixedM_ok (.cons mustM_ok (.cons nextM_ok (.nil _)))) rfl rfl) (by kernel_rfl) (by kernel_rfl)
/-- The context of (*foundry/amd.walker).sib. -/
noncomputable def cx73 : Cx := { P := Try.prog, n := 57, tab := [], mtab := [(57, nextM), (54, bitM), (56, mustM)], refs := [], keeps := [0, 1, 2, 6, 7, 8, 37] }
noncomputable def sibW : MSpec := fun args H => .req (Nat.ble args.length Try.f73.ntmps) (mfun cx73 Try.f73 args H)
theorem sibW_ok : MSound Try.prog 73 sibW := msound_fun (cx := cx73) (fn := Try.f73) (cx1_ok (.nil _) (.cons nextM_ok (.cons bitM_ok (.cons mustM_ok (.nil _)))) rfl rfl) (by kernel_rfl) (by kernel_rfl)
/-- The context of (*foundry/amd.walker).place. -/
noncomputable def cx55 : Cx := { P := Try.prog, n := 96, tab := [(41, fitsS)], mtab := [(72, numberM), (54, bitM), (56, mustM), (73, sibW)], refs := [], keeps := [0, 1, 2, 6, 7, 18, 48, 60, 61, 82] }
noncomputable def placeW : MSpec := fun args H => .req (Nat.ble args.length Try.f55.ntmps) (mfun cx55 Try.f55 args H)
theorem placeW_ok : MSound Try.prog 55 placeW := msound_fun (cx := cx55) (fn := Try.f55) (cx1_ok (.cons fitsS_ok (.nil _)) (.cons numberM_ok (.cons bitM_ok (.cons mustM_ok (.cons sibW_ok (.nil _))))) rfl rfl) (by kernel_rfl) (by kernel_rfl)
/-- The context of (*foundry/amd.walker).imm. -/
noncomputable def cx58 : Cx := { P := Try.prog, n := 40, tab := [(41, fitsS)], mtab := [(72, numberM), (56, mustM)], refs := [], keeps := [0, 1, 2, 4, 6, 7, 9, 10, 14, 20, 25, 30] }
noncomputable def immW : MSpec := fun args H => .req (Nat.ble args.length Try.f58.ntmps) (mfun cx58 Try.f58 args H)
theorem immW_ok : MSound Try.prog 58 immW := msound_fun (cx := cx58) (fn := Try.f58) (cx1_ok (.cons fitsS_ok (.nil _)) (.cons numberM_ok (.cons mustM_ok (.nil _))) rfl rfl) (by kernel_rfl) (by kernel_rfl)
/-- The context of (*foundry/amd.walker).all. -/
noncomputable def cx28 : Cx := { P := Try.prog, n := 115, tab := [(23, faultyS)], mtab := [(52, opcodeM), (53, chosenM), (54, bitM), (55, placeW), (57, nextM), (56, mustM), (58, immW)], refs := [], keeps := [0, 2, 3, 4, 5, 6, 7, 8, 9, 25, 50, 51, 67, 74, 80, 86, 93, 103] }
noncomputable def allM : MSpec := fun args H => .req (Nat.ble args.length Try.f28.ntmps) (mfun cx28 Try.f28 args H)
theorem allM_ok : MSound Try.prog 28 allM := msound_fun (cx := cx28) (fn := Try.f28) (cx1_ok (.cons faultyS_ok (.nil _)) (.cons opcodeM_ok (.cons chosenM_ok (.cons bitM_ok (.cons placeW_ok (.cons nextM_ok (.cons mustM_ok (.cons immW_ok (.nil _)))))))) rfl rfl) (by kernel_rfl) (by kernel_rfl)

/-- The context of foundry/amd.Decode. -/
noncomputable def cx15 : Cx := { P := Try.prog, n := 30, tab := [], mtab := [(28, allM)], refs := [], keeps := [0, 1, 4, 5, 6, 7, 15] }
/-- The context of foundry/amd.Decode in 1. -/
noncomputable def cx27 : Cx := { P := Try.prog, n := 15, tab := [], mtab := [], refs := [], keeps := [0, 1, 2, 4, 5, 6, 8, 10, 11] }
theorem cxDec_ok : CxOk cx15 := cx1_ok (.nil _) (.cons allM_ok (.nil _)) rfl rfl
noncomputable def decodeE : Ab.Spec := fun args => .req (Nat.ble args.length Try.f15.ntmps) ((dfunD cx15 cx27 Try.f15 27 Try.f27 args []).bind fun r => match r with
  | .ok v _ => .ofOption (V.pure? v)
  | _ => .fail)
theorem ofOption_run {α : Type} {o : Option α} {a : α} (h : (Tree.ofOption o).run = some a) : o = some a := by
  cases o with
  | none => cases h
  | some b => simpa [Tree.ofOption, Tree.run] using h
theorem decodeE_ok : Sound Try.prog 15 decodeE := by
  intro args out h
  unfold decodeE at h
  obtain ⟨h1, h⟩ := req_run h
  obtain ⟨r, h2, h3⟩ := bind_run h
  cases r with
  | ok v H' =>
    exact pcall_of_mcall (mcall_defer (cx := cx15) (cl := cx27) (fn := Try.f15) (fg := Try.f27) cxDec_ok (cx0_ok rfl rfl) rfl (by kernel_rfl) (by kernel_rfl) (by kernel_rfl) (by kernel_rfl) h1 h2) (ofOption_run h3)
  | pan v H' => cases h3

/-- The context of foundry/foundrylaw12.begun. -/
noncomputable def cx9 : Cx := { P := Try.prog, n := 77, tab := [(10, encodeS), (15, decodeE), (20, operandsS), (12, mayS), (18, namesS)], mtab := [], refs := [], keeps := [0, 1, 2, 3, 4, 5, 8, 9, 10] }
theorem begun_run : (dfun cx9 Try.f9 []).run = some (.bool true) := by kernel_rfl

def begunS : Ab.Spec := fun args => match args with
  | [] => .leaf (.bool true)
  | _ => .fail

theorem begunS_ok : Sound Try.prog 9 begunS := by
  intro args out h
  unfold begunS at h
  split at h
  rotate_left
  · cases h
  have h := leaf_out h
  subst h
  exact pcall_fun' (cx := cx9) (fn := Try.f9) (cx1_ok (.cons encodeS_ok (.cons decodeE_ok (.cons operandsS_ok (.cons mayS_ok (ok1 namesS_ok))))) (.nil _) rfl rfl) (by kernel_rfl) (by kernel_rfl) (by kernel_rfl) begun_run

end Go.Amd
