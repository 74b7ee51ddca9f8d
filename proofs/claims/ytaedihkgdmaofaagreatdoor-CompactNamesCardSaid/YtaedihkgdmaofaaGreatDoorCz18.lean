/-
  strings.ToUpper of plain text, by the shelf's contract. Conditions: none.
-/
import Derived.Shelf.Strings.OnBuilder
import Derived.Test.YtaedihkgdmaofaaGreatDoorCz1
namespace Go.Proofs
open Go.Shelf
def Tryz.lays158_ren : Go.Shelf.Ren := ⟨fun | 158 => 18 | 165 => 29 | 166 => 30 | 167 => 31 | 169 => 32 | 230 => 33 | 203 => 34 | 240 => 42 | 241 => 43 | 197 => 44 | 118 => 45 | 168 => 46 | 270 => 47 | 262 => 48 | 276 => 57 | 277 => 58 | 260 => 59 | 242 => 60 | 313 => 61 | 278 => 72 | 274 => 73 | 275 => 74 | n => n, fun | 9 => 9 | 4 => 4 | 3 => 3 | 5 => 5 | 72 => 72 | 0 => 0 | 76 => 76 | 75 => 75 | 107 => 81 | 70 => 70 | 20 => 20 | 37 => 32 | 127 => 95 | 21 => 21 | 105 => 96 | 164 => 108 | 162 => 114 | 203 => 112 | 119 => 104 | 46 => 64 | 139 => 131 | 138 => 130 | 51 => 119 | 160 => 132 | 208 => 154 | 206 => 152 | 80 => 79 | n => n, fun | 13 => 1 | 3 => 4 | 4 => 5 | n => n⟩
theorem Tryz.lays158 : Go.Proofs.Lays.n158 Tryz.prog Tryz.lays158_ren := {
  mixed := by kernel_rfl
  f118 := Tryz.func45.trans (congrArg some (by kernel_rfl))
  f158 := Tryz.func18.trans (congrArg some (by kernel_rfl))
  f165 := Tryz.func29.trans (congrArg some (by kernel_rfl))
  f166 := Tryz.func30.trans (congrArg some (by kernel_rfl))
  f167 := Tryz.func31.trans (congrArg some (by kernel_rfl))
  f168 := Tryz.func46.trans (congrArg some (by kernel_rfl))
  f169 := Tryz.func32.trans (congrArg some (by kernel_rfl))
  f197 := Tryz.func44.trans (congrArg some (by kernel_rfl))
  f203 := Tryz.func34.trans (congrArg some (by kernel_rfl))
  f230 := Tryz.func33.trans (congrArg some (by kernel_rfl))
  f240 := Tryz.func42.trans (congrArg some (by kernel_rfl))
  f241 := Tryz.func43.trans (congrArg some (by kernel_rfl))
  f242 := Tryz.func60.trans (congrArg some (by kernel_rfl))
  f260 := Tryz.func59.trans (congrArg some (by kernel_rfl))
  f262 := Tryz.func48.trans (congrArg some (by kernel_rfl))
  f270 := Tryz.func47.trans (congrArg some (by kernel_rfl))
  f274 := Tryz.func73.trans (congrArg some (by kernel_rfl))
  f275 := Tryz.func74.trans (congrArg some (by kernel_rfl))
  f276 := Tryz.func57.trans (congrArg some (by kernel_rfl))
  f277 := Tryz.func58.trans (congrArg some (by kernel_rfl))
  f278 := Tryz.func72.trans (congrArg some (by kernel_rfl))
  f313 := Tryz.func61.trans (congrArg some (by kernel_rfl))
  t0 := Tryz.underlying0
  a0 := Tryz.isAgg0
  z0 := Tryz.sizeOf0
  v0 := Tryz.zeroValue0
  t3 := Tryz.underlying3
  a3 := Tryz.isAgg3
  z3 := Tryz.sizeOf3
  v3 := Tryz.zeroValue3
  t4 := Tryz.underlying4
  a4 := Tryz.isAgg4
  z4 := Tryz.sizeOf4
  v4 := Tryz.zeroValue4
  t5 := Tryz.underlying5
  a5 := Tryz.isAgg5
  z5 := Tryz.sizeOf5
  v5 := Tryz.zeroValue5
  t9 := Tryz.underlying9
  a9 := Tryz.isAgg9
  z9 := Tryz.sizeOf9
  v9 := Tryz.zeroValue9
  t20 := Tryz.underlying20
  a20 := Tryz.isAgg20
  z20 := Tryz.sizeOf20
  v20 := Tryz.zeroValue20
  t21 := Tryz.underlying21
  a21 := Tryz.isAgg21
  z21 := Tryz.sizeOf21
  v21 := Tryz.zeroValue21
  t37 := Tryz.underlying32
  a37 := Tryz.isAgg32
  z37 := Tryz.sizeOf32
  v37 := Tryz.zeroValue32
  t46 := Tryz.underlying64
  a46 := Tryz.isAgg64
  z46 := Tryz.sizeOf64
  v46 := Tryz.zeroValue64
  t51 := Tryz.underlying119
  a51 := Tryz.isAgg119
  z51 := Tryz.sizeOf119
  v51 := Tryz.zeroValue119
  t70 := Tryz.underlying70
  a70 := Tryz.isAgg70
  z70 := Tryz.sizeOf70
  v70 := Tryz.zeroValue70
  t72 := Tryz.underlying72
  a72 := Tryz.isAgg72
  z72 := Tryz.sizeOf72
  v72 := Tryz.zeroValue72
  t75 := Tryz.underlying75
  a75 := Tryz.isAgg75
  z75 := Tryz.sizeOf75
  v75 := Tryz.zeroValue75
  t76 := Tryz.underlying76
  a76 := Tryz.isAgg76
  z76 := Tryz.sizeOf76
  v76 := Tryz.zeroValue76
  t105 := Tryz.underlying96
  a105 := Tryz.isAgg96
  z105 := Tryz.sizeOf96
  v105 := Tryz.zeroValue96
  t107 := Tryz.underlying81
  a107 := Tryz.isAgg81
  z107 := Tryz.sizeOf81
  v107 := Tryz.zeroValue81
  t119 := Tryz.underlying104
  a119 := Tryz.isAgg104
  z119 := Tryz.sizeOf104
  t127 := Tryz.underlying95
  a127 := Tryz.isAgg95
  z127 := Tryz.sizeOf95
  v127 := Tryz.zeroValue95
  t138 := Tryz.underlying130
  a138 := Tryz.isAgg130
  z138 := Tryz.sizeOf130
  v138 := Tryz.zeroValue130
  t139 := Tryz.underlying131
  a139 := Tryz.isAgg131
  z139 := Tryz.sizeOf131
  v139 := Tryz.zeroValue131
  t160 := Tryz.underlying132
  a160 := Tryz.isAgg132
  z160 := Tryz.sizeOf132
  v160 := Tryz.zeroValue132
  t162 := Tryz.underlying114
  a162 := Tryz.isAgg114
  z162 := Tryz.sizeOf114
  v162 := Tryz.zeroValue114
  t164 := Tryz.underlying108
  a164 := Tryz.isAgg108
  z164 := Tryz.sizeOf108
  v164 := Tryz.zeroValue108
  t203 := Tryz.underlying112
  a203 := Tryz.isAgg112
  z203 := Tryz.sizeOf112
  v203 := Tryz.zeroValue112
  t206 := Tryz.underlying152
  a206 := Tryz.isAgg152
  z206 := Tryz.sizeOf152
  v206 := Tryz.zeroValue152
  t208 := Tryz.underlying154
  a208 := Tryz.isAgg154
  z208 := Tryz.sizeOf154
  v208 := Tryz.zeroValue154
  g3 := by kernel_rfl
  g4 := by kernel_rfl
  g13 := by kernel_rfl }
theorem Tryz.Builder_Extra_158 : Builder.Extra Tryz.prog Tryz.lays158_ren := {
  sizeBuilder := by kernel_rfl
  liesBuilder := by kernel_rfl
  t5 := Tryz.underlying5
  a5 := Tryz.isAgg5
  z5 := Tryz.sizeOf5
  v5 := Tryz.zeroValue5
  infoByte := by kernel_rfl
  cellsByte := by kernel_rfl
  sizeByte := by kernel_rfl
  neB5 := by decide }
open Go.RowKit in
/-- strings.ToUpper: "ToUpper returns s with all Unicode letters mapped to their upper case.": ON ASCII TEXT OF AT MOST 2^47 BYTES. Below the heap's end the world is as it was: where a letter turns, the call makes a builder and its buffer. (LAID: no walk: one application.) -/
theorem Tryz.strings_ToUpper_ascii (s : ByteArray) (w : World) (hs : s.size ≤ 140737488355328) (hascii : ∀ (j : Nat) (b : UInt8), s.data.toList[j]? = some b → b.toNat < 128) :
    Calls Tryz.prog 18 #[.string s] w fun e w' => e = .returned (.string ⟨(Lib.toUpperA s.data.toList).toArray⟩) ∧ Below w.heap.size w w' := Any.strings_ToUpper_ascii Tryz.lays158 Tryz.Builder_Extra_158 s w hs hascii
end Go.Proofs
namespace Go.Cmp
open Go Go.Ab Go.Proofs

def upS : Ab.Spec := fun args => match args with
  | [.str s] => .req (s.all (fun b => decide (b.toNat < 128)) && decide (s.length ≤ 140737488355328)) (.leaf (.str (Lib.toUpperA s)))
  | _ => .fail
theorem step_below {E : Nat → Nat → Prop} {w w' : World} (h : RowKit.Below w.heap.size w w') : Step E [] [] w [] [] w' :=
  ⟨rel_nil _ _, h.os, h.tape, h.output, h.size, fun b hb => .inl (h.block b hb), fun b o ho => absurd ho (own_nil b o), LocLe.refl _⟩
theorem upS_ok : Sound Tryz.prog 18 upS := by
  intro args out h
  unfold upS at h
  split at h
  rotate_left
  · cases h
  rename_i s
  obtain ⟨h1, h⟩ := req_run h
  cases h
  simp only [Bool.and_eq_true, decide_eq_true_eq, List.all_eq_true] at h1
  refine ⟨⟨_, Tryz.func18, by decide, by rfl⟩, fun w E rargs hE hl hr => ?_⟩
  match rargs, hl with
  | [x], _ =>
    have hx := hr 0 _ x rfl rfl
    cases hx
    refine Calls.mono (Tryz.strings_ToUpper_ascii ⟨s.toArray⟩ w (by simpa [ByteArray.size] using h1.2) ?_) ?_
    · intro j b hj
      exact h1.1 b (List.mem_of_getElem? (by simpa using hj))
    · rintro e w' ⟨rfl, hb⟩
      refine ⟨_, rfl, step_below hb, ?_⟩
      simpa using R.str (w := w') (X := E) [] (Lib.toUpperA s)
end Go.Cmp
