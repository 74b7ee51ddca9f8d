/-
  runarm: the library's variables; how the dump's types are numbered. Conditions: none.
-/
import Derived.Shelf.Strings.OnBuilder
import Derived.Test.YtmbbnhcbphkniaaGreatDoorPk14
set_option linter.unusedVariables false
set_option linter.unusedSimpArgs false
namespace Go.Proofs
open Go.Shelf
def Tryz.lays158_ren : Go.Shelf.Ren := ⟨fun | 158 => 188 | 165 => 221 | 166 => 222 | 167 => 223 | 169 => 224 | 230 => 225 | 203 => 226 | 240 => 239 | 241 => 240 | 197 => 241 | 118 => 242 | 168 => 243 | 270 => 244 | 262 => 245 | 276 => 258 | 277 => 259 | 260 => 260 | 242 => 261 | 313 => 262 | 278 => 272 | 274 => 273 | 275 => 274 | n => n, fun | 9 => 9 | 4 => 4 | 3 => 3 | 5 => 5 | 72 => 279 | 0 => 0 | 76 => 258 | 75 => 257 | 107 => 284 | 70 => 277 | 20 => 20 | 37 => 46 | 127 => 187 | 21 => 21 | 105 => 297 | 164 => 316 | 162 => 322 | 203 => 320 | 119 => 289 | 46 => 36 | 139 => 340 | 138 => 339 | 51 => 99 | 160 => 341 | 208 => 354 | 206 => 352 | 80 => 282 | n => n, fun | 13 => 2 | 3 => 6 | 4 => 7 | n => n⟩
theorem Tryz.lays158 : Go.Proofs.Lays.n158 Tryz.prog Tryz.lays158_ren := {
  mixed := by kernel_rfl
  f118 := Tryz.func242.trans (congrArg some (by kernel_rfl))
  f158 := Tryz.func188.trans (congrArg some (by kernel_rfl))
  f165 := Tryz.func221.trans (congrArg some (by kernel_rfl))
  f166 := Tryz.func222.trans (congrArg some (by kernel_rfl))
  f167 := Tryz.func223.trans (congrArg some (by kernel_rfl))
  f168 := Tryz.func243.trans (congrArg some (by kernel_rfl))
  f169 := Tryz.func224.trans (congrArg some (by kernel_rfl))
  f197 := Tryz.func241.trans (congrArg some (by kernel_rfl))
  f203 := Tryz.func226.trans (congrArg some (by kernel_rfl))
  f230 := Tryz.func225.trans (congrArg some (by kernel_rfl))
  f240 := Tryz.func239.trans (congrArg some (by kernel_rfl))
  f241 := Tryz.func240.trans (congrArg some (by kernel_rfl))
  f242 := Tryz.func261.trans (congrArg some (by kernel_rfl))
  f260 := Tryz.func260.trans (congrArg some (by kernel_rfl))
  f262 := Tryz.func245.trans (congrArg some (by kernel_rfl))
  f270 := Tryz.func244.trans (congrArg some (by kernel_rfl))
  f274 := Tryz.func273.trans (congrArg some (by kernel_rfl))
  f275 := Tryz.func274.trans (congrArg some (by kernel_rfl))
  f276 := Tryz.func258.trans (congrArg some (by kernel_rfl))
  f277 := Tryz.func259.trans (congrArg some (by kernel_rfl))
  f278 := Tryz.func272.trans (congrArg some (by kernel_rfl))
  f313 := Tryz.func262.trans (congrArg some (by kernel_rfl))
  t0 := Tryz.underlying0
  a0 := Tryz.isAgg0
  z0 := Tryz.sizeOf0
  v0 := Tryz.zeroValue0
  t3 := Tryz.underlying3
  a3 := Tryz.isAgg3
  z3 := Tryz.sizeOf3
  v3 := Tryz.zeroValue3
  t4 := Tryz.underlying4
  a4 := Tryz.isAgg4
  z4 := Tryz.sizeOf4
  v4 := Tryz.zeroValue4
  t5 := Tryz.underlying5
  a5 := Tryz.isAgg5
  z5 := Tryz.sizeOf5
  v5 := Tryz.zeroValue5
  t9 := Tryz.underlying9
  a9 := Tryz.isAgg9
  z9 := Tryz.sizeOf9
  v9 := Tryz.zeroValue9
  t20 := Tryz.underlying20
  a20 := Tryz.isAgg20
  z20 := Tryz.sizeOf20
  v20 := Tryz.zeroValue20
  t21 := Tryz.underlying21
  a21 := Tryz.isAgg21
  z21 := Tryz.sizeOf21
  v21 := Tryz.zeroValue21
  t37 := Tryz.underlying46
  a37 := Tryz.isAgg46
  z37 := Tryz.sizeOf46
  v37 := Tryz.zeroValue46
  t46 := Tryz.underlying36
  a46 := Tryz.isAgg36
  z46 := Tryz.sizeOf36
  v46 := Tryz.zeroValue36
  t51 := Tryz.underlying99
  a51 := Tryz.isAgg99
  z51 := Tryz.sizeOf99
  v51 := Tryz.zeroValue99
  t70 := Tryz.underlying277
  a70 := Tryz.isAgg277
  z70 := Tryz.sizeOf277
  v70 := Tryz.zeroValue277
  t72 := Tryz.underlying279
  a72 := Tryz.isAgg279
  z72 := Tryz.sizeOf279
  v72 := Tryz.zeroValue279
  t75 := Tryz.underlying257
  a75 := Tryz.isAgg257
  z75 := Tryz.sizeOf257
  v75 := Tryz.zeroValue257
  t76 := Tryz.underlying258
  a76 := Tryz.isAgg258
  z76 := Tryz.sizeOf258
  v76 := Tryz.zeroValue258
  t105 := Tryz.underlying297
  a105 := Tryz.isAgg297
  z105 := Tryz.sizeOf297
  v105 := Tryz.zeroValue297
  t107 := Tryz.underlying284
  a107 := Tryz.isAgg284
  z107 := Tryz.sizeOf284
  v107 := Tryz.zeroValue284
  t119 := Tryz.underlying289
  a119 := Tryz.isAgg289
  z119 := Tryz.sizeOf289
  t127 := Tryz.underlying187
  a127 := Tryz.isAgg187
  z127 := Tryz.sizeOf187
  v127 := Tryz.zeroValue187
  t138 := Tryz.underlying339
  a138 := Tryz.isAgg339
  z138 := Tryz.sizeOf339
  v138 := Tryz.zeroValue339
  t139 := Tryz.underlying340
  a139 := Tryz.isAgg340
  z139 := Tryz.sizeOf340
  v139 := Tryz.zeroValue340
  t160 := Tryz.underlying341
  a160 := Tryz.isAgg341
  z160 := Tryz.sizeOf341
  v160 := Tryz.zeroValue341
  t162 := Tryz.underlying322
  a162 := Tryz.isAgg322
  z162 := Tryz.sizeOf322
  v162 := Tryz.zeroValue322
  t164 := Tryz.underlying316
  a164 := Tryz.isAgg316
  z164 := Tryz.sizeOf316
  v164 := Tryz.zeroValue316
  t203 := Tryz.underlying320
  a203 := Tryz.isAgg320
  z203 := Tryz.sizeOf320
  v203 := Tryz.zeroValue320
  t206 := Tryz.underlying352
  a206 := Tryz.isAgg352
  z206 := Tryz.sizeOf352
  v206 := Tryz.zeroValue352
  t208 := Tryz.underlying354
  a208 := Tryz.isAgg354
  z208 := Tryz.sizeOf354
  v208 := Tryz.zeroValue354
  g3 := by kernel_rfl
  g4 := by kernel_rfl
  g13 := by kernel_rfl }
end Go.Proofs
namespace Go.Ra
open Go Go.Ab Go.Proofs
def asciiT : List V := [.int .u8 0, .int .u8 0, .int .u8 0, .int .u8 0, .int .u8 0, .int .u8 0, .int .u8 0, .int .u8 0, .int .u8 0, .int .u8 1, .int .u8 1, .int .u8 1, .int .u8 1, .int .u8 1, .int .u8 0, .int .u8 0, .int .u8 0, .int .u8 0, .int .u8 0, .int .u8 0, .int .u8 0, .int .u8 0, .int .u8 0, .int .u8 0, .int .u8 0, .int .u8 0, .int .u8 0, .int .u8 0, .int .u8 0, .int .u8 0, .int .u8 0, .int .u8 0, .int .u8 1, .int .u8 0, .int .u8 0, .int .u8 0, .int .u8 0, .int .u8 0, .int .u8 0, .int .u8 0, .int .u8 0, .int .u8 0, .int .u8 0, .int .u8 0, .int .u8 0, .int .u8 0, .int .u8 0, .int .u8 0, .int .u8 0, .int .u8 0, .int .u8 0, .int .u8 0, .int .u8 0, .int .u8 0, .int .u8 0, .int .u8 0, .int .u8 0, .int .u8 0, .int .u8 0, .int .u8 0, .int .u8 0, .int .u8 0, .int .u8 0, .int .u8 0, .int .u8 0, .int .u8 0, .int .u8 0, .int .u8 0, .int .u8 0, .int .u8 0, .int .u8 0, .int .u8 0, .int .u8 0, .int .u8 0, .int .u8 0, .int .u8 0, .int .u8 0, .int .u8 0, .int .u8 0, .int .u8 0, .int .u8 0, .int .u8 0, .int .u8 0, .int .u8 0, .int .u8 0, .int .u8 0, .int .u8 0, .int .u8 0, .int .u8 0, .int .u8 0, .int .u8 0, .int .u8 0, .int .u8 0, .int .u8 0, .int .u8 0, .int .u8 0, .int .u8 0, .int .u8 0, .int .u8 0, .int .u8 0, .int .u8 0, .int .u8 0, .int .u8 0, .int .u8 0, .int .u8 0, .int .u8 0, .int .u8 0, .int .u8 0, .int .u8 0, .int .u8 0, .int .u8 0, .int .u8 0, .int .u8 0, .int .u8 0, .int .u8 0, .int .u8 0, .int .u8 0, .int .u8 0, .int .u8 0, .int .u8 0, .int .u8 0, .int .u8 0, .int .u8 0, .int .u8 0, .int .u8 0, .int .u8 0, .int .u8 0, .int .u8 0, .int .u8 0, .int .u8 0, .int .u8 0, .int .u8 0, .int .u8 0, .int .u8 0, .int .u8 0, .int .u8 0, .int .u8 0, .int .u8 0, .int .u8 0, .int .u8 0, .int .u8 0, .int .u8 0, .int .u8 0, .int .u8 0, .int .u8 0, .int .u8 0, .int .u8 0, .int .u8 0, .int .u8 0, .int .u8 0, .int .u8 0, .int .u8 0, .int .u8 0, .int .u8 0, .int .u8 0, .int .u8 0, .int .u8 0, .int .u8 0, .int .u8 0, .int .u8 0, .int .u8 0, .int .u8 0, .int .u8 0, .int .u8 0, .int .u8 0, .int .u8 0, .int .u8 0, .int .u8 0, .int .u8 0, .int .u8 0, .int .u8 0, .int .u8 0, .int .u8 0, .int .u8 0, .int .u8 0, .int .u8 0, .int .u8 0, .int .u8 0, .int .u8 0, .int .u8 0, .int .u8 0, .int .u8 0, .int .u8 0, .int .u8 0, .int .u8 0, .int .u8 0, .int .u8 0, .int .u8 0, .int .u8 0, .int .u8 0, .int .u8 0, .int .u8 0, .int .u8 0, .int .u8 0, .int .u8 0, .int .u8 0, .int .u8 0, .int .u8 0, .int .u8 0, .int .u8 0, .int .u8 0, .int .u8 0, .int .u8 0, .int .u8 0, .int .u8 0, .int .u8 0, .int .u8 0, .int .u8 0, .int .u8 0, .int .u8 0, .int .u8 0, .int .u8 0, .int .u8 0, .int .u8 0, .int .u8 0, .int .u8 0, .int .u8 0, .int .u8 0, .int .u8 0, .int .u8 0, .int .u8 0, .int .u8 0, .int .u8 0, .int .u8 0, .int .u8 0, .int .u8 0, .int .u8 0, .int .u8 0, .int .u8 0, .int .u8 0, .int .u8 0, .int .u8 0, .int .u8 0, .int .u8 0, .int .u8 0, .int .u8 0, .int .u8 0, .int .u8 0, .int .u8 0, .int .u8 0, .int .u8 0, .int .u8 0, .int .u8 0, .int .u8 0, .int .u8 0, .int .u8 0, .int .u8 0, .int .u8 0, .int .u8 0, .int .u8 0, .int .u8 0, .int .u8 0, .int .u8 0, .int .u8 0, .int .u8 0, .int .u8 0]
def globsL : List (Nat × List V) := [(0, asciiT), (4, [.ifc 348 .any])]
theorem globs_eq : globsOf Tryz.prog = globsL := by kernel_rfl
end Go.Ra
