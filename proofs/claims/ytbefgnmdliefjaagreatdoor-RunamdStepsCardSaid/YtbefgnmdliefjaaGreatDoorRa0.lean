/-
  this seat: the library's variables; how the dump's types are numbered. Conditions: none.
-/
import Derived.Shelf.Strings.OnBuilder
import Derived.Test.YtbefgnmdliefjaaGreatDoorPk12
set_option linter.unusedVariables false
set_option linter.unusedSimpArgs false
namespace Go.Proofs
open Go.Shelf
def Tryz.lays158_ren:Go.Shelf.Ren:=⟨fun | 158=>188 | 165=>232 | 166=>233 | 167=>234 | 169=>235 | 230=>236 | 203=>237 | 240=>255 | 241=>256 | 197=>257 | 118=>258 | 168=>259 | 270=>260 | 262=>261 | 276=>275 | 277=>276 | 260=>277 | 242=>278 | 313=>279 | 278=>285 | 274=>286 | 275=>287 | n=>n,fun | 9=>9 | 4=>4 | 3=>3 | 5=>5 | 72=>284 | 0=>0 | 76=>264 | 75=>248 | 107=>289 | 70=>282 | 20=>20 | 37=>43 | 127=>184 | 21=>21 | 105=>304 | 164=>325 | 162=>331 | 203=>329 | 119=>296 | 46=>41 | 139=>348 | 138=>347 | 51=>149 | 160=>349 | 208=>360 | 206=>358 | 80=>287 | n=>n,fun | 13=>5 | 3=>8 | 4=>9 | n=>n⟩
theorem Tryz.lays158:Go.Proofs.Lays.n158 Tryz.prog Tryz.lays158_ren:={
 mixed:=by kernel_rfl
 f118:=Tryz.func258.trans (congrArg some (by kernel_rfl))
 f158:=Tryz.func188.trans (congrArg some (by kernel_rfl))
 f165:=Tryz.func232.trans (congrArg some (by kernel_rfl))
 f166:=Tryz.func233.trans (congrArg some (by kernel_rfl))
 f167:=Tryz.func234.trans (congrArg some (by kernel_rfl))
 f168:=Tryz.func259.trans (congrArg some (by kernel_rfl))
 f169:=Tryz.func235.trans (congrArg some (by kernel_rfl))
 f197:=Tryz.func257.trans (congrArg some (by kernel_rfl))
 f203:=Tryz.func237.trans (congrArg some (by kernel_rfl))
 f230:=Tryz.func236.trans (congrArg some (by kernel_rfl))
 f240:=Tryz.func255.trans (congrArg some (by kernel_rfl))
 f241:=Tryz.func256.trans (congrArg some (by kernel_rfl))
 f242:=Tryz.func278.trans (congrArg some (by kernel_rfl))
 f260:=Tryz.func277.trans (congrArg some (by kernel_rfl))
 f262:=Tryz.func261.trans (congrArg some (by kernel_rfl))
 f270:=Tryz.func260.trans (congrArg some (by kernel_rfl))
 f274:=Tryz.func286.trans (congrArg some (by kernel_rfl))
 f275:=Tryz.func287.trans (congrArg some (by kernel_rfl))
 f276:=Tryz.func275.trans (congrArg some (by kernel_rfl))
 f277:=Tryz.func276.trans (congrArg some (by kernel_rfl))
 f278:=Tryz.func285.trans (congrArg some (by kernel_rfl))
 f313:=Tryz.func279.trans (congrArg some (by kernel_rfl))
 t0:=Tryz.underlying0
 a0:=Tryz.isAgg0
 z0:=Tryz.sizeOf0
 v0:=Tryz.zeroValue0
 t3:=Tryz.underlying3
 a3:=Tryz.isAgg3
 z3:=Tryz.sizeOf3
 v3:=Tryz.zeroValue3
 t4:=Tryz.underlying4
 a4:=Tryz.isAgg4
 z4:=Tryz.sizeOf4
 v4:=Tryz.zeroValue4
 t5:=Tryz.underlying5
 a5:=Tryz.isAgg5
 z5:=Tryz.sizeOf5
 v5:=Tryz.zeroValue5
 t9:=Tryz.underlying9
 a9:=Tryz.isAgg9
 z9:=Tryz.sizeOf9
 v9:=Tryz.zeroValue9
 t20:=Tryz.underlying20
 a20:=Tryz.isAgg20
 z20:=Tryz.sizeOf20
 v20:=Tryz.zeroValue20
 t21:=Tryz.underlying21
 a21:=Tryz.isAgg21
 z21:=Tryz.sizeOf21
 v21:=Tryz.zeroValue21
 t37:=Tryz.underlying43
 a37:=Tryz.isAgg43
 z37:=Tryz.sizeOf43
 v37:=Tryz.zeroValue43
 t46:=Tryz.underlying41
 a46:=Tryz.isAgg41
 z46:=Tryz.sizeOf41
 v46:=Tryz.zeroValue41
 t51:=Tryz.underlying149
 a51:=Tryz.isAgg149
 z51:=Tryz.sizeOf149
 v51:=Tryz.zeroValue149
 t70:=Tryz.underlying282
 a70:=Tryz.isAgg282
 z70:=Tryz.sizeOf282
 v70:=Tryz.zeroValue282
 t72:=Tryz.underlying284
 a72:=Tryz.isAgg284
 z72:=Tryz.sizeOf284
 v72:=Tryz.zeroValue284
 t75:=Tryz.underlying248
 a75:=Tryz.isAgg248
 z75:=Tryz.sizeOf248
 v75:=Tryz.zeroValue248
 t76:=Tryz.underlying264
 a76:=Tryz.isAgg264
 z76:=Tryz.sizeOf264
 v76:=Tryz.zeroValue264
 t105:=Tryz.underlying304
 a105:=Tryz.isAgg304
 z105:=Tryz.sizeOf304
 v105:=Tryz.zeroValue304
 t107:=Tryz.underlying289
 a107:=Tryz.isAgg289
 z107:=Tryz.sizeOf289
 v107:=Tryz.zeroValue289
 t119:=Tryz.underlying296
 a119:=Tryz.isAgg296
 z119:=Tryz.sizeOf296
 t127:=Tryz.underlying184
 a127:=Tryz.isAgg184
 z127:=Tryz.sizeOf184
 v127:=Tryz.zeroValue184
 t138:=Tryz.underlying347
 a138:=Tryz.isAgg347
 z138:=Tryz.sizeOf347
 v138:=Tryz.zeroValue347
 t139:=Tryz.underlying348
 a139:=Tryz.isAgg348
 z139:=Tryz.sizeOf348
 v139:=Tryz.zeroValue348
 t160:=Tryz.underlying349
 a160:=Tryz.isAgg349
 z160:=Tryz.sizeOf349
 v160:=Tryz.zeroValue349
 t162:=Tryz.underlying331
 a162:=Tryz.isAgg331
 z162:=Tryz.sizeOf331
 v162:=Tryz.zeroValue331
 t164:=Tryz.underlying325
 a164:=Tryz.isAgg325
 z164:=Tryz.sizeOf325
 v164:=Tryz.zeroValue325
 t203:=Tryz.underlying329
 a203:=Tryz.isAgg329
 z203:=Tryz.sizeOf329
 v203:=Tryz.zeroValue329
 t206:=Tryz.underlying358
 a206:=Tryz.isAgg358
 z206:=Tryz.sizeOf358
 v206:=Tryz.zeroValue358
 t208:=Tryz.underlying360
 a208:=Tryz.isAgg360
 z208:=Tryz.sizeOf360
 v208:=Tryz.zeroValue360
 g3:=by kernel_rfl
 g4:=by kernel_rfl
 g13:=by kernel_rfl }
end Go.Proofs
namespace Go.Ra
open Go Go.Ab Go.Proofs
def VJ:List V:=[.int .u8 0,.int .u8 0,.int .u8 0,.int .u8 0,.int .u8 0,.int .u8 0,.int .u8 0,.int .u8 0,.int .u8 0,.int .u8 1,.int .u8 1,.int .u8 1,.int .u8 1,.int .u8 1,.int .u8 0,.int .u8 0,.int .u8 0,.int .u8 0,.int .u8 0,.int .u8 0,.int .u8 0,.int .u8 0,.int .u8 0,.int .u8 0,.int .u8 0,.int .u8 0,.int .u8 0,.int .u8 0,.int .u8 0,.int .u8 0,.int .u8 0,.int .u8 0,.int .u8 1,.int .u8 0,.int .u8 0,.int .u8 0,.int .u8 0,.int .u8 0,.int .u8 0,.int .u8 0,.int .u8 0,.int .u8 0,.int .u8 0,.int .u8 0,.int .u8 0,.int .u8 0,.int .u8 0,.int .u8 0,.int .u8 0,.int .u8 0,.int .u8 0,.int .u8 0,.int .u8 0,.int .u8 0,.int .u8 0,.int .u8 0,.int .u8 0,.int .u8 0,.int .u8 0,.int .u8 0,.int .u8 0,.int .u8 0,.int .u8 0,.int .u8 0,.int .u8 0,.int .u8 0,.int .u8 0,.int .u8 0,.int .u8 0,.int .u8 0,.int .u8 0,.int .u8 0,.int .u8 0,.int .u8 0,.int .u8 0,.int .u8 0,.int .u8 0,.int .u8 0,.int .u8 0,.int .u8 0,.int .u8 0,.int .u8 0,.int .u8 0,.int .u8 0,.int .u8 0,.int .u8 0,.int .u8 0,.int .u8 0,.int .u8 0,.int .u8 0,.int .u8 0,.int .u8 0,.int .u8 0,.int .u8 0,.int .u8 0,.int .u8 0,.int .u8 0,.int .u8 0,.int .u8 0,.int .u8 0,.int .u8 0,.int .u8 0,.int .u8 0,.int .u8 0,.int .u8 0,.int .u8 0,.int .u8 0,.int .u8 0,.int .u8 0,.int .u8 0,.int .u8 0,.int .u8 0,.int .u8 0,.int .u8 0,.int .u8 0,.int .u8 0,.int .u8 0,.int .u8 0,.int .u8 0,.int .u8 0,.int .u8 0,.int .u8 0,.int .u8 0,.int .u8 0,.int .u8 0,.int .u8 0,.int .u8 0,.int .u8 0,.int .u8 0,.int .u8 0,.int .u8 0,.int .u8 0,.int .u8 0,.int .u8 0,.int .u8 0,.int .u8 0,.int .u8 0,.int .u8 0,.int .u8 0,.int .u8 0,.int .u8 0,.int .u8 0,.int .u8 0,.int .u8 0,.int .u8 0,.int .u8 0,.int .u8 0,.int .u8 0,.int .u8 0,.int .u8 0,.int .u8 0,.int .u8 0,.int .u8 0,.int .u8 0,.int .u8 0,.int .u8 0,.int .u8 0,.int .u8 0,.int .u8 0,.int .u8 0,.int .u8 0,.int .u8 0,.int .u8 0,.int .u8 0,.int .u8 0,.int .u8 0,.int .u8 0,.int .u8 0,.int .u8 0,.int .u8 0,.int .u8 0,.int .u8 0,.int .u8 0,.int .u8 0,.int .u8 0,.int .u8 0,.int .u8 0,.int .u8 0,.int .u8 0,.int .u8 0,.int .u8 0,.int .u8 0,.int .u8 0,.int .u8 0,.int .u8 0,.int .u8 0,.int .u8 0,.int .u8 0,.int .u8 0,.int .u8 0,.int .u8 0,.int .u8 0,.int .u8 0,.int .u8 0,.int .u8 0,.int .u8 0,.int .u8 0,.int .u8 0,.int .u8 0,.int .u8 0,.int .u8 0,.int .u8 0,.int .u8 0,.int .u8 0,.int .u8 0,.int .u8 0,.int .u8 0,.int .u8 0,.int .u8 0,.int .u8 0,.int .u8 0,.int .u8 0,.int .u8 0,.int .u8 0,.int .u8 0,.int .u8 0,.int .u8 0,.int .u8 0,.int .u8 0,.int .u8 0,.int .u8 0,.int .u8 0,.int .u8 0,.int .u8 0,.int .u8 0,.int .u8 0,.int .u8 0,.int .u8 0,.int .u8 0,.int .u8 0,.int .u8 0,.int .u8 0,.int .u8 0,.int .u8 0,.int .u8 0,.int .u8 0,.int .u8 0,.int .u8 0,.int .u8 0,.int .u8 0,.int .u8 0,.int .u8 0,.int .u8 0,.int .u8 0,.int .u8 0,.int .u8 0,.int .u8 0,.int .u8 0,.int .u8 0,.int .u8 0,.int .u8 0,.int .u8 0,.int .u8 0,.int .u8 0,.int .u8 0,.int .u8 0]
def afL:List (Nat × List V):=[(3,VJ),(6,[.ifc 354 .any])]
theorem a42:rN Tryz.prog=afL:=by kernel_rfl
end Go.Ra
