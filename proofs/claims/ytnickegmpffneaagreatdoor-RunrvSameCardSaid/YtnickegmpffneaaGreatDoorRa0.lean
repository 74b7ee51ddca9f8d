/-
  this seat: the library's variables; how the dump's types are numbered. Conditions: none.
-/
import Derived.Shelf.Strings.OnBuilder
import Derived.Test.YtnickegmpffneaaGreatDoorRa1
set_option linter.unusedVariables false
set_option linter.unusedSimpArgs false
namespace Go.Proofs
open Go.Shelf
def Tryz.lays158_ren:Go.Shelf.Ren:=⟨fun | 158=>204 | 165=>238 | 166=>239 | 167=>240 | 169=>241 | 230=>242 | 203=>243 | 240=>257 | 241=>258 | 197=>259 | 118=>260 | 168=>261 | 270=>262 | 262=>263 | 276=>269 | 277=>270 | 260=>271 | 242=>272 | 313=>273 | 278=>275 | 274=>276 | 275=>277 | n=>n,fun | 9=>9 | 4=>4 | 3=>3 | 5=>5 | 72=>303 | 0=>0 | 76=>139 | 75=>138 | 107=>308 | 70=>301 | 20=>20 | 37=>37 | 127=>236 | 21=>21 | 105=>330 | 164=>343 | 162=>349 | 203=>347 | 119=>211 | 46=>100 | 139=>353 | 138=>352 | 51=>112 | 160=>354 | 208=>364 | 206=>362 | 80=>306 | n=>n,fun | 13=>5 | 3=>6 | 4=>7 | n=>n⟩
theorem Tryz.lays158:Go.Proofs.Lays.n158 Tryz.prog Tryz.lays158_ren:={
 mixed:=by kernel_rfl
 f118:=Tryz.func260.trans (congrArg some (by kernel_rfl))
 f158:=Tryz.func204.trans (congrArg some (by kernel_rfl))
 f165:=Tryz.func238.trans (congrArg some (by kernel_rfl))
 f166:=Tryz.func239.trans (congrArg some (by kernel_rfl))
 f167:=Tryz.func240.trans (congrArg some (by kernel_rfl))
 f168:=Tryz.func261.trans (congrArg some (by kernel_rfl))
 f169:=Tryz.func241.trans (congrArg some (by kernel_rfl))
 f197:=Tryz.func259.trans (congrArg some (by kernel_rfl))
 f203:=Tryz.func243.trans (congrArg some (by kernel_rfl))
 f230:=Tryz.func242.trans (congrArg some (by kernel_rfl))
 f240:=Tryz.func257.trans (congrArg some (by kernel_rfl))
 f241:=Tryz.func258.trans (congrArg some (by kernel_rfl))
 f242:=Tryz.func272.trans (congrArg some (by kernel_rfl))
 f260:=Tryz.func271.trans (congrArg some (by kernel_rfl))
 f262:=Tryz.func263.trans (congrArg some (by kernel_rfl))
 f270:=Tryz.func262.trans (congrArg some (by kernel_rfl))
 f274:=Tryz.func276.trans (congrArg some (by kernel_rfl))
 f275:=Tryz.func277.trans (congrArg some (by kernel_rfl))
 f276:=Tryz.func269.trans (congrArg some (by kernel_rfl))
 f277:=Tryz.func270.trans (congrArg some (by kernel_rfl))
 f278:=Tryz.func275.trans (congrArg some (by kernel_rfl))
 f313:=Tryz.func273.trans (congrArg some (by kernel_rfl))
 t0:=Tryz.underlying0
 a0:=Tryz.isAgg0
 z0:=Tryz.sizeOf0
 v0:=Tryz.zeroValue0
 t3:=Tryz.underlying3
 a3:=Tryz.isAgg3
 z3:=Tryz.sizeOf3
 v3:=Tryz.zeroValue3
 t4:=Tryz.underlying4
 a4:=Tryz.isAgg4
 z4:=Tryz.sizeOf4
 v4:=Tryz.zeroValue4
 t5:=Tryz.underlying5
 a5:=Tryz.isAgg5
 z5:=Tryz.sizeOf5
 v5:=Tryz.zeroValue5
 t9:=Tryz.underlying9
 a9:=Tryz.isAgg9
 z9:=Tryz.sizeOf9
 v9:=Tryz.zeroValue9
 t20:=Tryz.underlying20
 a20:=Tryz.isAgg20
 z20:=Tryz.sizeOf20
 v20:=Tryz.zeroValue20
 t21:=Tryz.underlying21
 a21:=Tryz.isAgg21
 z21:=Tryz.sizeOf21
 v21:=Tryz.zeroValue21
 t37:=Tryz.underlying37
 a37:=Tryz.isAgg37
 z37:=Tryz.sizeOf37
 v37:=Tryz.zeroValue37
 t46:=Tryz.underlying100
 a46:=Tryz.isAgg100
 z46:=Tryz.sizeOf100
 v46:=Tryz.zeroValue100
 t51:=Tryz.underlying112
 a51:=Tryz.isAgg112
 z51:=Tryz.sizeOf112
 v51:=Tryz.zeroValue112
 t70:=Tryz.underlying301
 a70:=Tryz.isAgg301
 z70:=Tryz.sizeOf301
 v70:=Tryz.zeroValue301
 t72:=Tryz.underlying303
 a72:=Tryz.isAgg303
 z72:=Tryz.sizeOf303
 v72:=Tryz.zeroValue303
 t75:=Tryz.underlying138
 a75:=Tryz.isAgg138
 z75:=Tryz.sizeOf138
 v75:=Tryz.zeroValue138
 t76:=Tryz.underlying139
 a76:=Tryz.isAgg139
 z76:=Tryz.sizeOf139
 v76:=Tryz.zeroValue139
 t105:=Tryz.underlying330
 a105:=Tryz.isAgg330
 z105:=Tryz.sizeOf330
 v105:=Tryz.zeroValue330
 t107:=Tryz.underlying308
 a107:=Tryz.isAgg308
 z107:=Tryz.sizeOf308
 v107:=Tryz.zeroValue308
 t119:=Tryz.underlying211
 a119:=Tryz.isAgg211
 z119:=Tryz.sizeOf211
 t127:=Tryz.underlying236
 a127:=Tryz.isAgg236
 z127:=Tryz.sizeOf236
 v127:=Tryz.zeroValue236
 t138:=Tryz.underlying352
 a138:=Tryz.isAgg352
 z138:=Tryz.sizeOf352
 v138:=Tryz.zeroValue352
 t139:=Tryz.underlying353
 a139:=Tryz.isAgg353
 z139:=Tryz.sizeOf353
 v139:=Tryz.zeroValue353
 t160:=Tryz.underlying354
 a160:=Tryz.isAgg354
 z160:=Tryz.sizeOf354
 v160:=Tryz.zeroValue354
 t162:=Tryz.underlying349
 a162:=Tryz.isAgg349
 z162:=Tryz.sizeOf349
 v162:=Tryz.zeroValue349
 t164:=Tryz.underlying343
 a164:=Tryz.isAgg343
 z164:=Tryz.sizeOf343
 v164:=Tryz.zeroValue343
 t203:=Tryz.underlying347
 a203:=Tryz.isAgg347
 z203:=Tryz.sizeOf347
 v203:=Tryz.zeroValue347
 t206:=Tryz.underlying362
 a206:=Tryz.isAgg362
 z206:=Tryz.sizeOf362
 v206:=Tryz.zeroValue362
 t208:=Tryz.underlying364
 a208:=Tryz.isAgg364
 z208:=Tryz.sizeOf364
 v208:=Tryz.zeroValue364
 g3:=by kernel_rfl
 g4:=by kernel_rfl
 g13:=by kernel_rfl }
end Go.Proofs
namespace Go.Ra
open Go Go.Ab Go.Proofs
def asciiT:List V:=[.int .u8 0,.int .u8 0,.int .u8 0,.int .u8 0,.int .u8 0,.int .u8 0,.int .u8 0,.int .u8 0,.int .u8 0,.int .u8 1,.int .u8 1,.int .u8 1,.int .u8 1,.int .u8 1,.int .u8 0,.int .u8 0,.int .u8 0,.int .u8 0,.int .u8 0,.int .u8 0,.int .u8 0,.int .u8 0,.int .u8 0,.int .u8 0,.int .u8 0,.int .u8 0,.int .u8 0,.int .u8 0,.int .u8 0,.int .u8 0,.int .u8 0,.int .u8 0,.int .u8 1,.int .u8 0,.int .u8 0,.int .u8 0,.int .u8 0,.int .u8 0,.int .u8 0,.int .u8 0,.int .u8 0,.int .u8 0,.int .u8 0,.int .u8 0,.int .u8 0,.int .u8 0,.int .u8 0,.int .u8 0,.int .u8 0,.int .u8 0,.int .u8 0,.int .u8 0,.int .u8 0,.int .u8 0,.int .u8 0,.int .u8 0,.int .u8 0,.int .u8 0,.int .u8 0,.int .u8 0,.int .u8 0,.int .u8 0,.int .u8 0,.int .u8 0,.int .u8 0,.int .u8 0,.int .u8 0,.int .u8 0,.int .u8 0,.int .u8 0,.int .u8 0,.int .u8 0,.int .u8 0,.int .u8 0,.int .u8 0,.int .u8 0,.int .u8 0,.int .u8 0,.int .u8 0,.int .u8 0,.int .u8 0,.int .u8 0,.int .u8 0,.int .u8 0,.int .u8 0,.int .u8 0,.int .u8 0,.int .u8 0,.int .u8 0,.int .u8 0,.int .u8 0,.int .u8 0,.int .u8 0,.int .u8 0,.int .u8 0,.int .u8 0,.int .u8 0,.int .u8 0,.int .u8 0,.int .u8 0,.int .u8 0,.int .u8 0,.int .u8 0,.int .u8 0,.int .u8 0,.int .u8 0,.int .u8 0,.int .u8 0,.int .u8 0,.int .u8 0,.int .u8 0,.int .u8 0,.int .u8 0,.int .u8 0,.int .u8 0,.int .u8 0,.int .u8 0,.int .u8 0,.int .u8 0,.int .u8 0,.int .u8 0,.int .u8 0,.int .u8 0,.int .u8 0,.int .u8 0,.int .u8 0,.int .u8 0,.int .u8 0,.int .u8 0,.int .u8 0,.int .u8 0,.int .u8 0,.int .u8 0,.int .u8 0,.int .u8 0,.int .u8 0,.int .u8 0,.int .u8 0,.int .u8 0,.int .u8 0,.int .u8 0,.int .u8 0,.int .u8 0,.int .u8 0,.int .u8 0,.int .u8 0,.int .u8 0,.int .u8 0,.int .u8 0,.int .u8 0,.int .u8 0,.int .u8 0,.int .u8 0,.int .u8 0,.int .u8 0,.int .u8 0,.int .u8 0,.int .u8 0,.int .u8 0,.int .u8 0,.int .u8 0,.int .u8 0,.int .u8 0,.int .u8 0,.int .u8 0,.int .u8 0,.int .u8 0,.int .u8 0,.int .u8 0,.int .u8 0,.int .u8 0,.int .u8 0,.int .u8 0,.int .u8 0,.int .u8 0,.int .u8 0,.int .u8 0,.int .u8 0,.int .u8 0,.int .u8 0,.int .u8 0,.int .u8 0,.int .u8 0,.int .u8 0,.int .u8 0,.int .u8 0,.int .u8 0,.int .u8 0,.int .u8 0,.int .u8 0,.int .u8 0,.int .u8 0,.int .u8 0,.int .u8 0,.int .u8 0,.int .u8 0,.int .u8 0,.int .u8 0,.int .u8 0,.int .u8 0,.int .u8 0,.int .u8 0,.int .u8 0,.int .u8 0,.int .u8 0,.int .u8 0,.int .u8 0,.int .u8 0,.int .u8 0,.int .u8 0,.int .u8 0,.int .u8 0,.int .u8 0,.int .u8 0,.int .u8 0,.int .u8 0,.int .u8 0,.int .u8 0,.int .u8 0,.int .u8 0,.int .u8 0,.int .u8 0,.int .u8 0,.int .u8 0,.int .u8 0,.int .u8 0,.int .u8 0,.int .u8 0,.int .u8 0,.int .u8 0,.int .u8 0,.int .u8 0,.int .u8 0,.int .u8 0,.int .u8 0,.int .u8 0,.int .u8 0,.int .u8 0,.int .u8 0,.int .u8 0,.int .u8 0,.int .u8 0,.int .u8 0,.int .u8 0,.int .u8 0,.int .u8 0,.int .u8 0,.int .u8 0,.int .u8 0,.int .u8 0,.int .u8 0,.int .u8 0,.int .u8 0,.int .u8 0,.int .u8 0,.int .u8 0]
def globsL:List (Nat × List V):=[(0,asciiT),(3,[.ifc 339 .any])]
theorem globs_eq:globsOf Tryz.prog=globsL:=by kernel_rfl
end Go.Ra
