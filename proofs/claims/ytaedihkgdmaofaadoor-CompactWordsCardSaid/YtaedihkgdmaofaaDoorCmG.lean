/-
  compact: what the library's variables hold when a call begins. Conditions: none.
-/
import Derived.Test.YtaedihkgdmaofaaDoorTie
import Derived.Test.YtaedihkgdmaofaaDoorCards
import Derived.Test.YtaedihkgdmaofaaDoorEnE
import Derived.Test.YtaedihkgdmaofaaDoorCm1
import Derived.LaidHandle
import Derived.LaidMore
import Derived.MakeChecks
import Derived.Lib.LaidTab
import Derived.Stop.LaidErr
namespace Go.Proofs.YtaedihkgdmaofaaDoor
open Go Go.ChangeShapes Go.WideShapes Go.ChangeAt Go.RowKit

abbrev laidL : List (String × DataW Unit) :=
  [("math/bits.deBruijn32tab", Rows.laid_math_bits_deBruijn32tab), ("math/bits.deBruijn64tab", Rows.laid_math_bits_deBruijn64tab), ("internal/strconv.uint64pow10", Rows.laid_internal_strconv_uint64pow10),
   ("strconv.ErrRange", Rows.laid_strconv_ErrRange), ("strconv.ErrSyntax", Rows.laid_strconv_ErrSyntax), ("unicode.White_Space", Rows.laid_unicode_White_Space), ("strings.asciiSpace", Rows.laid_strings_asciiSpace)]

theorem door_met (os : Os) (args : Array Value) : laidMetH Tryd.prog laidL ((World.doorLaid Tryd.prog 400 os).forCall (fun _ _ => 0) ⟨#[], args, []⟩).memory :=
  laidMetH_of_parts3 (fuel := 8) (laidMet_of_run' 8 (by kernel_rfl) (by kernel_rfl)) (by kernel_rfl) (by kernel_rfl)

def asciiZ : List Int := (List.range 256).map fun i => cond (Nat.beq i 9 || (Nat.beq i 10 || (Nat.beq i 11 || (Nat.beq i 12 || (Nat.beq i 13 || Nat.beq i 32))))) 1 0
theorem ascii_tab : (Rows.laid_strings_asciiSpace : DataW Unit) = Lib.tabData .u8 asciiZ := by kernel_rfl
theorem ascii_val : Go.Cmp.asciiT = asciiZ.map (Ab.V.int .u8) := by kernel_rfl

theorem ascii_R {W : World} (h : Lib.TabIs Tryd.prog W "strings.asciiSpace" .u8 asciiZ) : Ab.R W (fun _ _ => False) [] (.pin Go.Cmp.asciiT) (.pointer (some ⟨0, 0, none⟩)) := by
  refine .pin _ _ 0 0 (fun k => .int .u8 (asciiZ.getD k 0)) (fun k hk => ⟨fun h => h, ?_⟩) (fun k v hv => ?_)
  · rw [ascii_val, List.length_map] at hk
    rw [Nat.zero_add]
    exact h.cell (by kernel_rfl) k hk
  · rw [ascii_val, List.getElem?_map] at hv
    cases hz : asciiZ[k]? with
    | none => rw [hz] at hv; cases hv
    | some z =>
      rw [hz] at hv
      simp only [Option.map_some, Option.some.injEq] at hv
      subst hv
      rw [List.getD, hz]
      exact .int _ _ _

theorem star : "*" ++ "errors.errorString" = "*errors.errorString" := by decide
theorem err_row (u : TypeId) (h : Tryd.prog.typeName? 3 u = some "*errors.errorString") : u = 177 :=
  typeName_ptr_named (nm := "errors.errorString") (by rw [star]; kernel_rfl) (by kernel_rfl) (by decide) u (by rw [star]; exact h)

theorem gs_of_laid {W : World} (h : laidMetH Tryd.prog laidL W) : Ab.Gs Tryd.prog W fun _ _ => False := by
  rw [MakeChecks.laidMetH_plain _ _ _ (by kernel_rfl)] at h
  have hs := h.tail.tail.tail.tail
  have ha := hs.tail.tail
  intro p hp
  rw [Go.Cmp.globs_eq] at hp
  rcases List.mem_cons.1 hp with rfl | hp
  · rw [ascii_tab] at ha
    exact ascii_R (Lib.tabIs_of_head (g := 0) (t := 124) (n := 256) (e := 5) (by kernel_rfl) (by kernel_rfl) (by kernel_rfl) (by kernel_rfl) (by kernel_rfl) (by kernel_rfl) ha)
  · rcases List.mem_cons.1 hp with rfl | hp
    · obtain ⟨a, s, hv, _⟩ := laid_sentinel hs (g := 3) (tp := 177) (ti := 87) (te := 179) (ts := 9) (f := { name := "s", type := 9, offset := 0, embedded := false, tag := "", pkgPath := "errors", byteOffset := 0 }) (ms := #[("Error", 193)]) (by kernel_rfl) (by kernel_rfl) (by kernel_rfl) err_row (by kernel_rfl) (by kernel_rfl) rfl rfl (by kernel_rfl) (by kernel_rfl) (by kernel_rfl)
      refine .pin _ _ 3 0 (fun _ => .iface 177 (.pointer (some a))) (fun k hk => ⟨fun h => h, ?_⟩) (fun k v hv => ?_)
      · have hk0 : k = 0 := by simpa using hk
        subst hk0
        have := World.var?_cell (show Tryd.prog.globalNamed "strconv.ErrSyntax" = some 3 by kernel_rfl) hv 0
        simpa using this
      · match k, hv with
        | 0, hv =>
          simp only [List.getElem?_cons_zero, Option.some.injEq] at hv
          subst hv
          exact .ifc _ _ _ _ (.any _ _)
        | k + 1, hv => simp at hv
    · cases hp

theorem own : ownKnob Tryd.prog.godebug = none := by kernel_rfl
theorem laidOut : laidOutB Tryd.prog = true := by kernel_rfl

end Go.Proofs.YtaedihkgdmaofaaDoor
