/-
  this seat: the library's variables; how the dump's types are numbered. Conditions: none.
-/
import Derived.Shelf.Strings.OnBuilder
import Derived.Test.YtnhmelmmdcaldaaGreatDoorPk11
set_option linter.unusedVariables false
set_option linter.unusedSimpArgs false
namespace Go.Proofs
open Go.Shelf
def Tryz.lays158_ren : Go.Shelf.Ren := ⟨fun | 158 => 140 | 165 => 176 | 166 => 177 | 167 => 178 | 169 => 179 | 230 => 180 | 203 => 181 | 240 => 195 | 241 => 196 | 197 => 197 | 118 => 198 | 168 => 199 | 270 => 200 | 262 => 201 | 276 => 212 | 277 => 213 | 260 => 214 | 242 => 215 | 313 => 216 | 278 => 222 | 274 => 223 | 275 => 224 | n => n, fun | 9 => 9 | 4 => 4 | 3 => 3 | 5 => 5 | 72 => 243 | 0 => 0 | 76 => 222 | 75 => 149 | 107 => 248 | 70 => 241 | 20 => 20 | 37 => 45 | 127 => 154 | 21 => 21 | 105 => 262 | 164 => 281 | 162 => 287 | 203 => 285 | 119 => 254 | 46 => 41 | 139 => 304 | 138 => 303 | 51 => 128 | 160 => 305 | 208 => 316 | 206 => 314 | 80 => 246 | n => n, fun | 13 => 5 | 3 => 8 | 4 => 9 | n => n⟩
theorem Tryz.lays158 : Go.Proofs.Lays.n158 Tryz.prog Tryz.lays158_ren := {
  mixed := by kernel_rfl
  f118 := Tryz.func198.trans (congrArg some (by kernel_rfl))
  f158 := Tryz.func140.trans (congrArg some (by kernel_rfl))
  f165 := Tryz.func176.trans (congrArg some (by kernel_rfl))
  f166 := Tryz.func177.trans (congrArg some (by kernel_rfl))
  f167 := Tryz.func178.trans (congrArg some (by kernel_rfl))
  f168 := Tryz.func199.trans (congrArg some (by kernel_rfl))
  f169 := Tryz.func179.trans (congrArg some (by kernel_rfl))
  f197 := Tryz.func197.trans (congrArg some (by kernel_rfl))
  f203 := Tryz.func181.trans (congrArg some (by kernel_rfl))
  f230 := Tryz.func180.trans (congrArg some (by kernel_rfl))
  f240 := Tryz.func195.trans (congrArg some (by kernel_rfl))
  f241 := Tryz.func196.trans (congrArg some (by kernel_rfl))
  f242 := Tryz.func215.trans (congrArg some (by kernel_rfl))
  f260 := Tryz.func214.trans (congrArg some (by kernel_rfl))
  f262 := Tryz.func201.trans (congrArg some (by kernel_rfl))
  f270 := Tryz.func200.trans (congrArg some (by kernel_rfl))
  f274 := Tryz.func223.trans (congrArg some (by kernel_rfl))
  f275 := Tryz.func224.trans (congrArg some (by kernel_rfl))
  f276 := Tryz.func212.trans (congrArg some (by kernel_rfl))
  f277 := Tryz.func213.trans (congrArg some (by kernel_rfl))
  f278 := Tryz.func222.trans (congrArg some (by kernel_rfl))
  f313 := Tryz.func216.trans (congrArg some (by kernel_rfl))
  t0 := Tryz.underlying0
  a0 := Tryz.isAgg0
  z0 := Tryz.sizeOf0
  v0 := Tryz.zeroValue0
  t3 := Tryz.underlying3
  a3 := Tryz.isAgg3
  z3 := Tryz.sizeOf3
  v3 := Tryz.zeroValue3
  t4 := Tryz.underlying4
  a4 := Tryz.isAgg4
  z4 := Tryz.sizeOf4
  v4 := Tryz.zeroValue4
  t5 := Tryz.underlying5
  a5 := Tryz.isAgg5
  z5 := Tryz.sizeOf5
  v5 := Tryz.zeroValue5
  t9 := Tryz.underlying9
  a9 := Tryz.isAgg9
  z9 := Tryz.sizeOf9
  v9 := Tryz.zeroValue9
  t20 := Tryz.underlying20
  a20 := Tryz.isAgg20
  z20 := Tryz.sizeOf20
  v20 := Tryz.zeroValue20
  t21 := Tryz.underlying21
  a21 := Tryz.isAgg21
  z21 := Tryz.sizeOf21
  v21 := Tryz.zeroValue21
  t37 := Tryz.underlying45
  a37 := Tryz.isAgg45
  z37 := Tryz.sizeOf45
  v37 := Tryz.zeroValue45
  t46 := Tryz.underlying41
  a46 := Tryz.isAgg41
  z46 := Tryz.sizeOf41
  v46 := Tryz.zeroValue41
  t51 := Tryz.underlying128
  a51 := Tryz.isAgg128
  z51 := Tryz.sizeOf128
  v51 := Tryz.zeroValue128
  t70 := Tryz.underlying241
  a70 := Tryz.isAgg241
  z70 := Tryz.sizeOf241
  v70 := Tryz.zeroValue241
  t72 := Tryz.underlying243
  a72 := Tryz.isAgg243
  z72 := Tryz.sizeOf243
  v72 := Tryz.zeroValue243
  t75 := Tryz.underlying149
  a75 := Tryz.isAgg149
  z75 := Tryz.sizeOf149
  v75 := Tryz.zeroValue149
  t76 := Tryz.underlying222
  a76 := Tryz.isAgg222
  z76 := Tryz.sizeOf222
  v76 := Tryz.zeroValue222
  t105 := Tryz.underlying262
  a105 := Tryz.isAgg262
  z105 := Tryz.sizeOf262
  v105 := Tryz.zeroValue262
  t107 := Tryz.underlying248
  a107 := Tryz.isAgg248
  z107 := Tryz.sizeOf248
  v107 := Tryz.zeroValue248
  t119 := Tryz.underlying254
  a119 := Tryz.isAgg254
  z119 := Tryz.sizeOf254
  t127 := Tryz.underlying154
  a127 := Tryz.isAgg154
  z127 := Tryz.sizeOf154
  v127 := Tryz.zeroValue154
  t138 := Tryz.underlying303
  a138 := Tryz.isAgg303
  z138 := Tryz.sizeOf303
  v138 := Tryz.zeroValue303
  t139 := Tryz.underlying304
  a139 := Tryz.isAgg304
  z139 := Tryz.sizeOf304
  v139 := Tryz.zeroValue304
  t160 := Tryz.underlying305
  a160 := Tryz.isAgg305
  z160 := Tryz.sizeOf305
  v160 := Tryz.zeroValue305
  t162 := Tryz.underlying287
  a162 := Tryz.isAgg287
  z162 := Tryz.sizeOf287
  v162 := Tryz.zeroValue287
  t164 := Tryz.underlying281
  a164 := Tryz.isAgg281
  z164 := Tryz.sizeOf281
  v164 := Tryz.zeroValue281
  t203 := Tryz.underlying285
  a203 := Tryz.isAgg285
  z203 := Tryz.sizeOf285
  v203 := Tryz.zeroValue285
  t206 := Tryz.underlying314
  a206 := Tryz.isAgg314
  z206 := Tryz.sizeOf314
  v206 := Tryz.zeroValue314
  t208 := Tryz.underlying316
  a208 := Tryz.isAgg316
  z208 := Tryz.sizeOf316
  v208 := Tryz.zeroValue316
  g3 := by kernel_rfl
  g4 := by kernel_rfl
  g13 := by kernel_rfl }
end Go.Proofs
namespace Go.Ra
open Go Go.Ab Go.Proofs
def asciiT : List V := [.int .u8 0, .int .u8 0, .int .u8 0, .int .u8 0, .int .u8 0, .int .u8 0, .int .u8 0, .int .u8 0, .int .u8 0, .int .u8 1, .int .u8 1, .int .u8 1, .int .u8 1, .int .u8 1, .int .u8 0, .int .u8 0, .int .u8 0, .int .u8 0, .int .u8 0, .int .u8 0, .int .u8 0, .int .u8 0, .int .u8 0, .int .u8 0, .int .u8 0, .int .u8 0, .int .u8 0, .int .u8 0, .int .u8 0, .int .u8 0, .int .u8 0, .int .u8 0, .int .u8 1, .int .u8 0, .int .u8 0, .int .u8 0, .int .u8 0, .int .u8 0, .int .u8 0, .int .u8 0, .int .u8 0, .int .u8 0, .int .u8 0, .int .u8 0, .int .u8 0, .int .u8 0, .int .u8 0, .int .u8 0, .int .u8 0, .int .u8 0, .int .u8 0, .int .u8 0, .int .u8 0, .int .u8 0, .int .u8 0, .int .u8 0, .int .u8 0, .int .u8 0, .int .u8 0, .int .u8 0, .int .u8 0, .int .u8 0, .int .u8 0, .int .u8 0, .int .u8 0, .int .u8 0, .int .u8 0, .int .u8 0, .int .u8 0, .int .u8 0, .int .u8 0, .int .u8 0, .int .u8 0, .int .u8 0, .int .u8 0, .int .u8 0, .int .u8 0, .int .u8 0, .int .u8 0, .int .u8 0, .int .u8 0, .int .u8 0, .int .u8 0, .int .u8 0, .int .u8 0, .int .u8 0, .int .u8 0, .int .u8 0, .int .u8 0, .int .u8 0, .int .u8 0, .int .u8 0, .int .u8 0, .int .u8 0, .int .u8 0, .int .u8 0, .int .u8 0, .int .u8 0, .int .u8 0, .int .u8 0, .int .u8 0, .int .u8 0, .int .u8 0, .int .u8 0, .int .u8 0, .int .u8 0, .int .u8 0, .int .u8 0, .int .u8 0, .int .u8 0, .int .u8 0, .int .u8 0, .int .u8 0, .int .u8 0, .int .u8 0, .int .u8 0, .int .u8 0, .int .u8 0, .int .u8 0, .int .u8 0, .int .u8 0, .int .u8 0, .int .u8 0, .int .u8 0, .int .u8 0, .int .u8 0, .int .u8 0, .int .u8 0, .int .u8 0, .int .u8 0, .int .u8 0, .int .u8 0, .int .u8 0, .int .u8 0, .int .u8 0, .int .u8 0, .int .u8 0, .int .u8 0, .int .u8 0, .int .u8 0, .int .u8 0, .int .u8 0, .int .u8 0, .int .u8 0, .int .u8 0, .int .u8 0, .int .u8 0, .int .u8 0, .int .u8 0, .int .u8 0, .int .u8 0, .int .u8 0, .int .u8 0, .int .u8 0, .int .u8 0, .int .u8 0, .int .u8 0, .int .u8 0, .int .u8 0, .int .u8 0, .int .u8 0, .int .u8 0, .int .u8 0, .int .u8 0, .int .u8 0, .int .u8 0, .int .u8 0, .int .u8 0, .int .u8 0, .int .u8 0, .int .u8 0, .int .u8 0, .int .u8 0, .int .u8 0, .int .u8 0, .int .u8 0, .int .u8 0, .int .u8 0, .int .u8 0, .int .u8 0, .int .u8 0, .int .u8 0, .int .u8 0, .int .u8 0, .int .u8 0, .int .u8 0, .int .u8 0, .int .u8 0, .int .u8 0, .int .u8 0, .int .u8 0, .int .u8 0, .int .u8 0, .int .u8 0, .int .u8 0, .int .u8 0, .int .u8 0, .int .u8 0, .int .u8 0, .int .u8 0, .int .u8 0, .int .u8 0, .int .u8 0, .int .u8 0, .int .u8 0, .int .u8 0, .int .u8 0, .int .u8 0, .int .u8 0, .int .u8 0, .int .u8 0, .int .u8 0, .int .u8 0, .int .u8 0, .int .u8 0, .int .u8 0, .int .u8 0, .int .u8 0, .int .u8 0, .int .u8 0, .int .u8 0, .int .u8 0, .int .u8 0, .int .u8 0, .int .u8 0, .int .u8 0, .int .u8 0, .int .u8 0, .int .u8 0, .int .u8 0, .int .u8 0, .int .u8 0, .int .u8 0, .int .u8 0, .int .u8 0, .int .u8 0, .int .u8 0, .int .u8 0, .int .u8 0, .int .u8 0, .int .u8 0, .int .u8 0, .int .u8 0, .int .u8 0, .int .u8 0, .int .u8 0, .int .u8 0, .int .u8 0, .int .u8 0, .int .u8 0, .int .u8 0, .int .u8 0, .int .u8 0, .int .u8 0, .int .u8 0, .int .u8 0]
def globsL : List (Nat × List V) := [(3, asciiT), (6, [.ifc 310 .any])]
theorem globs_eq : globsOf Tryz.prog = globsL := by kernel_rfl
end Go.Ra
