/-
  The document's memory: numbers loaded and stored; rights. Conditions: none.
-/
import Derived.Test.YtbefgnmdliefjaaGreatDoorPk11
import Derived.Test.YtbefgnmdliefjaaGreatDoorRf2
import Derived.Test.YtbefgnmdliefjaaGreatDoorPk10
import Derived.Test.YtbefgnmdliefjaaGreatDoorPk13
import Derived.Test.YtbefgnmdliefjaaGreatDoorPk16
import Derived.Test.YtbefgnmdliefjaaGreatDoorPk12
import Derived.Test.YtbefgnmdliefjaaGreatDoorPk14
set_option linter.unusedVariables false
set_option linter.unusedSimpArgs false
namespace Go.Ra
open Go Go.Ab Go.Proofs
def loadRf:RSpec:=fun args H=>match args with
 | [.ptr 0 0,.int .u64 x,.int .i64 n]=>refM (fun a b c d e=>.req (rng64 x && szB n) (.leaf (.tup [.int .u64 (cond (mayB x n 4) (ldN a b c d e x n.toNat 0) 0),.int .i64 (cond (mayB x n 4) 0 21)]))) H
 | _=>.fail
def storeRf:MSpec:=fun args H=>match args with
 | [.ptr 0 0,.int .u64 x,.int .i64 n,.int .u64 y]=>refM (fun a b c d e=>.req (rng64 x && szB n) (.leaf (.ok (.int .i64 (cond (mayB x n 2) 0 21)) (refO (stB 1 x n y a) (stB 2 x n y b) (stB 16 x n y c) (stB 17 x n y d) (stB 32 x n y e))))) H
 | _=>.fail
end Go.Ra

namespace Go.Ra
open Go Go.Ab Go.Proofs
def wdP (wd:Int→Int→Int × Int):Ab.Spec:=fun args=>match args with
 | [.int .u64 a,.int .u64 b]=>.leaf (.tup [.int .u64 (wd a b).1,.int .u64 (wd a b).2])
 | _=>.fail
def lgP (lg:Int→Int→Int→Int × Int):Ab.Spec:=fun args=>match args with
 | [.int .u64 h,.int .u64 l,.int .u64 b]=>.leaf (.tup [.int .u64 (lg h l b).1,.int .u64 (lg h l b).2])
 | _=>.fail
def ckP (ck:InsR→Int):Ab.Spec:=fun args=>match args with
 | [.agg [.str nm,.int .i64 a,.int .i64 b,.int .i64 c,.int .i64 d,.int .i64 m]]=>.leaf (.int .i64 (ck (nm,a,b,c,d,m)))
 | _=>.fail
def hfI (d:Int):Int:=wi (Int.tdiv d 2)
def hdF (z n c v:Bool) (d:Int):Bool:=
 cond (hfI d == 0) (cond (decide (0≤d)) (v == (d == 0)) false) (cond (hfI d == 1) (c == (d == 2)) (cond (hfI d == 2) (z == (d == 4)) (cond (hfI d == 3) (cond c (true == (d == 6)) (z == (d == 6)))
  (cond (hfI d == 4) (n == (d == 8)) (cond (hfI d == 6) ((!n == v) == (d == 12)) (cond (hfI d == 7) (cond z (true == (d == 14)) ((!n == v) == (d == 14))) false))))))
def hdS:Ab.Spec:=fun args=>match args with
 | [.agg cs,.int .i64 d]=>match cpuOf cs with
  | some s=>.leaf (.bool (hdF s.z s.n s.c s.v d))
  | none=>.fail
 | _=>.fail
noncomputable def cxPl:Cx:={ P:=Tryz.prog,n:=Tryz.f82.ntmps,tab:=[],mtab:=[],refs:=[],keeps:=[0,1,3,4,5,11,30],lz:=[25,38] }
section
variable (ck:InsR→Int) (wd:Int→Int→Int × Int) (lg:Int→Int→Int→Int × Int)
noncomputable def rgB:Tabs:={ tab:=[(35,ckP ck),(79,wdP wd),(129,lgP lg),(75,hdS)],mtab:=[(132,storeRf)],rtab:=[(130,loadRf),(82,qfunG cxPl Tryz.f82)],nums:=[82] }
noncomputable def rgT_ps:List Fi:=[⟨86,Tryz.f86,[0,2,3,4,8,14],[],12,[]⟩,⟨83,Tryz.f83,[0,1,4,5,6,13,20],[],0,[]⟩,⟨131,Tryz.f131,[0,2],[],0,[]⟩]
noncomputable def rgT_ms:List Fi:=[⟨36,Tryz.f36,[0,1,3,4,5,6,7,17,18,22,31,37,47,56,73],[],0,[45,64]⟩,⟨37,Tryz.f37,[0,1,3,4,5,6,8,9,10,20,21,32,48,88,97,113,118,130],[],0,[17,31,47,129]⟩,⟨38,Tryz.f38,[0,1,3,4,6,7,24,37,51,65,80,94,106,121,136,151,171,179,195],[],0,[18,23,36,50,64,79,93,105,118,133,148,170,189,194,207,215,221]⟩,⟨39,Tryz.f39,[0,1,3,4,5,6,7,8,9,25,30,61,71,92],[],0,[49,56,68,86,100]⟩,⟨78,Tryz.f78,[0,1,2,3,8,9,10,22,23,28,33,61],[],0,[]⟩,⟨87,Tryz.f87,[0,1,2,3,8,9,11,14,32,47],[],0,[]⟩,⟨80,Tryz.f80,[0,1,2,6,7,8,9,10,11,12,31,37,46,51,61,79,82,85],[],0,[]⟩,⟨85,Tryz.f85,[0,1,2,6,7,8,17,23],[],0,[]⟩,⟨76,Tryz.f76,[0,1],[],0,[]⟩,⟨77,Tryz.f77,[0,2,3],[],0,[]⟩,⟨81,Tryz.f81,[0,1,2,6,7,8],[],0,[]⟩,⟨84,Tryz.f84,[0,1,2,3,12],[],0,[]⟩,⟨127,Tryz.f127,[0,1],[],0,[]⟩,⟨128,Tryz.f128,[0,1,8],[],0,[]⟩]
noncomputable def rgT (d:Nat):Tabs:=deep Tryz.prog (rgB ck wd lg) rgT_ps rgT_ms d
noncomputable def cxRg:Cx:={ P:=Tryz.prog,n:=Tryz.f18.ntmps,tab:=(rgT ck wd lg 5).tab,mtab:=(rgT ck wd lg 5).mtab,rtab:=(rgT ck wd lg 5).rtab,refs:=[],keeps:=[0,1,2,3,4,5,8,9,10,11,12,13,14,20,24,42,48,58,62,73,80],lz:=[],nums:=(rgT ck wd lg 5).nums }
noncomputable def runR (nm:List UInt8):RunTy:=fun s a b c d m sz A B C D E=>(mfunR (cxRg ck wd lg) Tryz.f18 [] [.agg s.l,insV nm a b c d m,.int .i64 sz,.ptr 0 0] (refO A B C D E)).fin
end
end Go.Ra

namespace Go.Ra
open Go Go.Ab Go.Proofs
section
variable (ck:InsR→Int)
def topMD (nm:List UInt8) (K:RunTy):RunTy:=fun s a b c d m sz A B C D E =>
 cond (ck (nm,a,b,c,d,m) != 0) (errK s 22 (refO A B C D E)) (K s a b c d m sz A B C D E)
def topD (nm:List UInt8) (K:RunTy):RunTy:=fun s a b c d m sz A B C D E =>
 cond (decide (sz<1)) (errK s 1 (refO A B C D E)) (cond (decide (16<sz)) (errK s 1 (refO A B C D E)) (topMD ck nm K s a b c d m sz A B C D E))
end
def dcC (e:EnvR):List V:=e.s.l++[.int .u64 e.bk,.ptr 1 0,.int .i64 0]
def finG (s:CpuT) (to ev:Int) (H:List O):KS:=fun S=>match S.getD 40 .any with
 | .int _ er=>cond (er != 0) (errK s er H) (outK (.int .u64 to :: (S.drop 1).take 37) ev H)
 | _=>none
def oneD (f:EnvR→Int→List V→KS→Option Res) (nm:List UInt8):RunTy:=fun s a b c d m sz A B C D E =>
 inX a (dcC (envF s nm a b c d m sz A B C D E)) fun x=>f (envF s nm a b c d m sz A B C D E) x (dcC (envF s nm a b c d m sz A B C D E)) (finG s (wu (s.pc+wu sz)) 0 (refO A B C D E))
def floD (f:EnvR→List V→(Int→KS)→Option Res) (nm:List UInt8):RunTy:=fun s a b c d m sz A B C D E =>
 f (envF s nm a b c d m sz A B C D E) (dcC (envF s nm a b c d m sz A B C D E)) fun to=>finG s to 0 (refO A B C D E)
def onwD (f:EnvR→Int→List V→(List V→List O→Option Res)→Option Res) (nm:List UInt8):RunTy:=fun s a b c d m sz A B C D E =>
 inX a (dcC (envF s nm a b c d m sz A B C D E)) fun x=>f (envF s nm a b c d m sz A B C D E) x (dcC (envF s nm a b c d m sz A B C D E)) fun S H=>finG s (wu (s.pc+wu sz)) 0 H S
def flwD (f:EnvR→List V→(Int→List V→List O→Option Res)→Option Res) (nm:List UInt8):RunTy:=fun s a b c d m sz A B C D E =>
 f (envF s nm a b c d m sz A B C D E) (dcC (envF s nm a b c d m sz A B C D E)) fun to S H=>finG s to 0 H S
def setD (e:EnvR) (v:Int) (S:List V) (k:KS):Option Res:=inA e.a (putX e.a v S k)
def keptD (e:EnvR) (v:Int) (S:List V) (k:KS):Option Res:=setD e v S k
def lostD (_:EnvR) (_:Int) (S:List V) (k:KS):Option Res:=k S
def nzS (x:Int) (c v:Bool) (S:List V):List V:=(((S.set 35 (.bool c)).set 36 (.bool v)).set 34 (.bool (shrF x 63 == 1))).set 33 (.bool (x == 0))
def addD (a b:Int) (S:List V) (k:Int→KS):Option Res:=
 cond (shrF a 63 == shrF b 63) (k (wu (a+b)) (nzS (wu (a+b)) (decide (wu (a+b)<a)) (shrF (wu (a+b)) 63 != shrF a 63) S)) (k (wu (a+b)) (nzS (wu (a+b)) (decide (wu (a+b)<a)) false S))
def subD (a b:Int) (S:List V) (k:Int→KS):Option Res:=
 cond (shrF a 63 != shrF b 63) (k (wu (a - b)) (nzS (wu (a - b)) (decide (a<b)) (shrF (wu (a - b)) 63 != shrF a 63) S)) (k (wu (a - b)) (nzS (wu (a - b)) (decide (a<b)) false S))
def logD (f:Int→Int→Int) (a b:Int) (S:List V) (k:Int→KS):Option Res:=k (f a b) (nzS (f a b) false false S)
def loadD (e:EnvR) (at_ n:Int) (S:List V) (k:Int→KS):Option Res:=
 q (lens5 e.A e.B e.C e.D e.E) (q (rng64 at_ && true) (k (valLd e.A e.B e.C e.D e.E at_ n) (S.set 40 (.int .i64 (errLd at_ n)))))
def storeD (e:EnvR) (at_ n v:Int) (S:List V) (k:List V→List O→Option Res):Option Res:=
 q (lens5 e.A e.B e.C e.D e.E) (q (rng64 at_ && true) (k (S.set 40 (.int .i64 (errSt at_ n))) (refO (stB 1 at_ n v e.A) (stB 2 at_ n v e.B) (stB 16 at_ n v e.C) (stB 17 at_ n v e.D) (stB 32 at_ n v e.E))))
def pushD (e:EnvR) (v:Int) (S:List V) (k:List V→List O→Option Res):Option Res:=storeD e (wu (spF e - 8)) 8 v S fun T H=>k (T.set 5 (.int .u64 (wu (spF e - 8)))) H
def popD (e:EnvR) (S:List V) (k:Int→KS):Option Res:=loadD e (spF e) 8 S fun y T=>k y (T.set 5 (.int .u64 (wu (spF e+8))))
def x32 (x:Int):Int:=IntKind.wrap .u32 x
def s32w (x:Int):Int:=wi (IntKind.wrap .i32 (x32 x))
def wdD (x:Int):Int:=wu (s32w x)
def sysD (nm:List UInt8):RunTy:=fun s a b c d m sz A B C D E=>finG s (wu (s.pc+wu sz)) 1 (refO A B C D E) ((dcC (envF s nm a b c d m sz A B C D E)).set 2 (.int .u64 (wu (s.pc+wu sz))))
def udD (_:List UInt8):RunTy:=fun s _ _ _ _ _ _ A B C D E=>outK s.l 2 (refO A B C D E)
def imF (e:EnvR) (h l:Int) (S:List V) (k:KS):Option Res:=setD e l (setCV (h != wu (Int.fdiv (wi l) (2 ^ 63))) S) k
def imulD (wd:Int→Int→Int × Int) (e:EnvR) (x y:Int) (S:List V) (k:KS):Option Res:=
 cond (negB x) (cond (negB y) (imF e (wu (wu ((wd x y).1 - y) - x)) (wd x y).2 S k) (imF e (wu ((wd x y).1 - y)) (wd x y).2 S k)) (cond (negB y) (imF e (wu ((wd x y).1 - x)) (wd x y).2 S k) (imF e (wd x y).1 (wd x y).2 S k))
def failS (S:List V):List V:=S.set 40 (.int .i64 21)
def divD (lg:Int→Int→Int→Int × Int) (e:EnvR) (y:Int) (S:List V) (k:KS):Option Res:=
 cond (decide (y≤e.s.x.getD 2 0)) (k (failS S)) (k ((S.set 1 (.int .u64 (lg (e.s.x.getD 2 0) (e.s.x.getD 0 0) y).1)).set 3 (.int .u64 (lg (e.s.x.getD 2 0) (e.s.x.getD 0 0) y).2)))
def idD3 (neg:Bool) (qv r:Int) (S:List V) (k:KS):Option Res:=cond neg (k ((S.set 1 (.int .u64 qv)).set 3 (.int .u64 (wu (0 - r))))) (k ((S.set 1 (.int .u64 qv)).set 3 (.int .u64 r)))
def idD2 (neg mi:Bool) (qv r:Int) (S:List V) (k:KS):Option Res:=cond mi (idD3 neg (wu (0 - qv)) r S k) (idD3 neg qv r S k)
def idD1 (neg mi:Bool) (qv r:Int) (S:List V) (k:KS):Option Res:=
 cond mi (cond (decide (9223372036854775808<qv)) (k (failS S)) (cond (!mi) (cond (decide (9223372036854775808≤qv)) (k (failS S)) (idD2 neg mi qv r S k)) (idD2 neg mi qv r S k)))
  (cond (!mi) (cond (decide (9223372036854775808≤qv)) (k (failS S)) (idD2 neg mi qv r S k)) (idD2 neg mi qv r S k))
def idD0 (lg:Int→Int→Int→Int × Int) (neg:Bool) (h l y dv:Int) (S:List V) (k:KS):Option Res:=
 cond (decide (dv≤h)) (k (failS S)) (idD1 neg (!(neg == decide (wi y<0))) (lg h l dv).1 (lg h l dv).2 S k)
def idDY (lg:Int→Int→Int→Int × Int) (neg:Bool) (h l y:Int) (S:List V) (k:KS):Option Res:=cond (decide (wi y<0)) (idD0 lg neg h l y (wu (0 - y)) S k) (idD0 lg neg h l y y S k)
def idivD (lg:Int→Int→Int→Int × Int) (e:EnvR) (y:Int) (S:List V) (k:KS):Option Res:=
 let neg:=decide (wi (e.s.x.getD 2 0)<0)
 cond neg (cond (wu (0 - e.s.x.getD 0 0) == 0) (idDY lg neg (wu (notI (e.s.x.getD 2 0)+1)) (wu (0 - e.s.x.getD 0 0)) y S k) (idDY lg neg (notI (e.s.x.getD 2 0)) (wu (0 - e.s.x.getD 0 0)) y S k)) (idDY lg neg (e.s.x.getD 2 0) (e.s.x.getD 0 0) y S k)
def shlD (e:EnvR) (x n:Int) (S:List V) (k:KS):Option Res:=cond (n == 0) (setD e x S k) (q (decide (0≤n)) (q (decide (0≤wu (64 - n))) (setD e (shlF x n) (nzS (shlF x n) (andU (shrF x (wu (64 - n))) 1 == 1) false S) k)))
def shrD (e:EnvR) (x n:Int) (S:List V) (k:KS):Option Res:=cond (n == 0) (setD e x S k) (q (decide (0≤n)) (q (decide (0≤wu (n - 1))) (setD e (shrF x n) (nzS (shrF x n) (andU (shrF x (wu (n - 1))) 1 == 1) false S) k)))
def sarD (e:EnvR) (x n:Int) (S:List V) (k:KS):Option Res:=cond (n == 0) (setD e x S k) (q (decide (0≤n)) (q (decide (0≤wu (n - 1))) (setD e (wu (shrF (wi x) n)) (nzS (wu (shrF (wi x) n)) (andU (wu (shrF (wi x) (wu (n - 1)))) 1 == 1) false S) k)))
def rowsG (wd:Int→Int→Int × Int) (lg:Int→Int→Int→Int × Int):List (List UInt8 × RunTy):=[
 ([109,111,118,46,114,114],(oneD fun e _ S k=>inX e.b S fun y=>setD e y S k) [109,111,118,46,114,114]),
 ([109,111,118,46,114,105],(oneD fun e _ S k=>setD e (wu e.m) S k) [109,111,118,46,114,105]),
 ([109,111,118,46,114,115],(oneD fun e _ S k=>setD e (wu e.m) S k) [109,111,118,46,114,115]),
 ([109,111,118,46,114,109],(oneD fun e _ S k=>adK e S fun p=>loadD e p 8 S fun y U=>setD e y U k) [109,111,118,46,114,109]),
 ([109,111,118,108,46,114,109],(oneD fun e _ S k=>adK e S fun p=>loadD e p 4 S fun y U=>setD e y U k) [109,111,118,108,46,114,109]),
 ([109,111,118,115,108,46,114,109],(oneD fun e _ S k=>adK e S fun p=>loadD e p 4 S fun y U=>setD e (wdD y) U k) [109,111,118,115,108,46,114,109]),
 ([109,111,118,122,98,46,114,109],(oneD fun e _ S k=>adK e S fun p=>loadD e p 1 S fun y U=>setD e y U k) [109,111,118,122,98,46,114,109]),
 ([108,101,97],(oneD fun e _ S k=>adK e S fun p=>setD e p S k) [108,101,97]),
 ([109,111,118,46,109,114],(onwD fun e _ S k=>adK e S fun p=>inX e.a S fun y=>storeD e p 8 y S k) [109,111,118,46,109,114]),
 ([109,111,118,108,46,109,114],(onwD fun e _ S k=>adK e S fun p=>inX e.a S fun y=>storeD e p 4 y S k) [109,111,118,108,46,109,114]),
 ([109,111,118,98,46,109,114],(onwD fun e _ S k=>adK e S fun p=>inX e.a S fun y=>storeD e p 1 y S k) [109,111,118,98,46,109,114]),
 ([109,111,118,46,102,115],(oneD fun e _ S k=>loadD e (wu (e.s.th+wu e.m)) 8 S fun y U=>setD e y U k) [109,111,118,46,102,115]),
 ([97,100,100,46,114,114],(oneD fun e _ S k=>inX e.b S fun y=>inX e.a S fun x=>addD x y S fun v T=>keptD e v T k) [97,100,100,46,114,114]),
 ([111,114,46,114,114],(oneD fun e _ S k=>inX e.b S fun y=>inX e.a S fun x=>(logD orU) x y S fun v T=>keptD e v T k) [111,114,46,114,114]),
 ([97,110,100,46,114,114],(oneD fun e _ S k=>inX e.b S fun y=>inX e.a S fun x=>(logD andU) x y S fun v T=>keptD e v T k) [97,110,100,46,114,114]),
 ([115,117,98,46,114,114],(oneD fun e _ S k=>inX e.b S fun y=>inX e.a S fun x=>subD x y S fun v T=>keptD e v T k) [115,117,98,46,114,114]),
 ([120,111,114,46,114,114],(oneD fun e _ S k=>inX e.b S fun y=>inX e.a S fun x=>(logD xorU) x y S fun v T=>keptD e v T k) [120,111,114,46,114,114]),
 ([99,109,112,46,114,114],(oneD fun e _ S k=>inX e.b S fun y=>inX e.a S fun x=>subD x y S fun v T=>lostD e v T k) [99,109,112,46,114,114]),
 ([97,100,100,46,114,109],(oneD fun e _ S k=>adK e S fun p=>loadD e p 8 S fun y U=>inX e.a U fun x=>addD x y U fun v T=>keptD e v T k) [97,100,100,46,114,109]),
 ([111,114,46,114,109],(oneD fun e _ S k=>adK e S fun p=>loadD e p 8 S fun y U=>inX e.a U fun x=>(logD orU) x y U fun v T=>keptD e v T k) [111,114,46,114,109]),
 ([97,110,100,46,114,109],(oneD fun e _ S k=>adK e S fun p=>loadD e p 8 S fun y U=>inX e.a U fun x=>(logD andU) x y U fun v T=>keptD e v T k) [97,110,100,46,114,109]),
 ([115,117,98,46,114,109],(oneD fun e _ S k=>adK e S fun p=>loadD e p 8 S fun y U=>inX e.a U fun x=>subD x y U fun v T=>keptD e v T k) [115,117,98,46,114,109]),
 ([120,111,114,46,114,109],(oneD fun e _ S k=>adK e S fun p=>loadD e p 8 S fun y U=>inX e.a U fun x=>(logD xorU) x y U fun v T=>keptD e v T k) [120,111,114,46,114,109]),
 ([99,109,112,46,114,109],(oneD fun e _ S k=>adK e S fun p=>loadD e p 8 S fun y U=>inX e.a U fun x=>subD x y U fun v T=>lostD e v T k) [99,109,112,46,114,109]),
 ([97,100,100,46,114,105],(oneD fun e _ S k=>inX e.a S fun x=>addD x (wu e.m) S fun v T=>keptD e v T k) [97,100,100,46,114,105]),
 ([111,114,46,114,105],(oneD fun e _ S k=>inX e.a S fun x=>(logD orU) x (wu e.m) S fun v T=>keptD e v T k) [111,114,46,114,105]),
 ([97,110,100,46,114,105],(oneD fun e _ S k=>inX e.a S fun x=>(logD andU) x (wu e.m) S fun v T=>keptD e v T k) [97,110,100,46,114,105]),
 ([115,117,98,46,114,105],(oneD fun e _ S k=>inX e.a S fun x=>subD x (wu e.m) S fun v T=>keptD e v T k) [115,117,98,46,114,105]),
 ([120,111,114,46,114,105],(oneD fun e _ S k=>inX e.a S fun x=>(logD xorU) x (wu e.m) S fun v T=>keptD e v T k) [120,111,114,46,114,105]),
 ([99,109,112,46,114,105],(oneD fun e _ S k=>inX e.a S fun x=>subD x (wu e.m) S fun v T=>lostD e v T k) [99,109,112,46,114,105]),
 ([116,101,115,116,46,114,114],(oneD fun e _ S k=>inX e.b S fun y=>inX e.a S fun x=>(logD andU) x y S fun v T=>lostD e v T k) [116,101,115,116,46,114,114]),
 ([105,109,117,108,46,114,114],(oneD fun e _ S k=>inX e.a S fun x=>inX e.b S fun y=>imulD wd e x y S k) [105,109,117,108,46,114,114]),
 ([110,111,116],(oneD fun e x S k=>setD e (notI x) S k) [110,111,116]),
 ([110,101,103],(oneD fun e x S k=>subD 0 x S fun v T=>setD e v T k) [110,101,103]),
 ([109,117,108],(oneD fun e x S k=>k (setCV ((wd (e.s.x.getD 0 0) x).1 != 0) ((S.set 1 (.int .u64 (wd (e.s.x.getD 0 0) x).2)).set 3 (.int .u64 (wd (e.s.x.getD 0 0) x).1)))) [109,117,108]),
 ([100,105,118],(oneD fun e x S k=>divD lg e x S k) [100,105,118]),
 ([105,100,105,118],(oneD fun e x S k=>idivD lg e x S k) [105,100,105,118]),
 ([99,113,111],(oneD fun e _ S k=>k (S.set 3 (.int .u64 (wu (Int.fdiv (wi (e.s.x.getD 0 0)) (2 ^ 63)))))) [99,113,111]),
 ([115,104,108,46,114,105],(oneD fun e _ S k=>inX e.a S fun x=>shlD e x (wu e.m) S k) [115,104,108,46,114,105]),
 ([115,104,114,46,114,105],(oneD fun e _ S k=>inX e.a S fun x=>shrD e x (wu e.m) S k) [115,104,114,46,114,105]),
 ([115,97,114,46,114,105],(oneD fun e _ S k=>inX e.a S fun x=>sarD e x (wu e.m) S k) [115,97,114,46,114,105]),
 ([115,104,108,46,114,99],(oneD fun e _ S k=>inX e.a S fun x=>shlD e x (andU (e.s.x.getD 1 0) 63) S k) [115,104,108,46,114,99]),
 ([115,104,114,46,114,99],(oneD fun e _ S k=>inX e.a S fun x=>shrD e x (andU (e.s.x.getD 1 0) 63) S k) [115,104,114,46,114,99]),
 ([115,97,114,46,114,99],(oneD fun e _ S k=>inX e.a S fun x=>sarD e x (andU (e.s.x.getD 1 0) 63) S k) [115,97,114,46,114,99]),
 ([99,109,111,118],(oneD fun e _ S k=>cond (hdF e.s.z e.s.n e.s.c e.s.v e.d) (inX e.b S fun y=>setD e y S k) (k S)) [99,109,111,118]),
 ([112,117,115,104],(onwD fun e x S k=>pushD e x S k) [112,117,115,104]),
 ([112,111,112],(oneD fun e _ S k=>popD e S fun y U=>setD e y U k) [112,111,112]),
 ([99,97,108,108],(flwD fun e S k=>pushD e e.bk S (k (tgF e))) [99,97,108,108]),
 ([106,109,112],(floD fun e S k=>k (tgF e) S) [106,109,112]),
 ([106,109,112,46,115],(floD fun e S k=>k (tgF e) S) [106,109,112,46,115]),
 ([99,97,108,108,46,114],(flwD fun e S k=>inX e.a S fun y=>pushD e e.bk S (k y)) [99,97,108,108,46,114]),
 ([106,109,112,46,114],(floD fun e S k=>inX e.a S fun y=>k y S) [106,109,112,46,114]),
 ([106,99,99],(floD fun e S k=>cond (hdF e.s.z e.s.n e.s.c e.s.v e.d) (k (tgF e) S) (k e.bk S)) [106,99,99]),
 ([106,99,99,46,115],(floD fun e S k=>cond (hdF e.s.z e.s.n e.s.c e.s.v e.d) (k (tgF e) S) (k e.bk S)) [106,99,99,46,115]),
 ([114,101,116],(floD fun e S k=>popD e S fun y U=>k y U) [114,101,116]),
 ([115,121,115,99,97,108,108],(sysD) [115,121,115,99,97,108,108]),
 ([110,111,112],(oneD fun e _ S k=>k S) [110,111,112]),
 ([117,100,50],(udD) [117,100,50])]
def gE (ck:InsR→Int) (x:List UInt8 × RunTy):=W2 (topD ck x.1 x.2)
noncomputable def gO (ck:InsR→Int) (wd:Int→Int→Int × Int) (lg:Int→Int→Int→Int × Int) (x:List UInt8 × RunTy):=W1 (runR ck wd lg x.1)
end Go.Ra

namespace Go.Ra
open Go Go.Ab Go.Proofs Go.Amd
theorem faulty_ok {x:RowT} {i:InsT} (h:faultyF x i=0):okF x i.2.1 i.2.2.1 i.2.2.2.1 i.2.2.2.2.1=true:=by
 unfold faultyF tailF at h
 cases ho:okF x i.2.1 i.2.2.1 i.2.2.2.1 i.2.2.2.2.1
 ·rw [ho] at h; cases h
 ·rfl
theorem reg_rng {n:Int} {u:Bool} (h:regF n u=true):0≤n∧n<16:=by
 unfold regF at h
 by_cases h0:n=0
 ·omega
 have e:(n == 0)=false:=beq_eq_false_iff_ne.2 h0
 rw [e,cond_false] at h
 cases u
 ·cases h
 ·rw [cond_true] at h
  by_cases h1:0<n
  ·rw [decide_eq_true h1,cond_true] at h
   have:=of_decide_eq_true h
   omega
  ·rw [decide_eq_false h1] at h; cases h
theorem base_rng {b:Int} (h:baseF b=true):(0≤b∧b<16)∨b=17:=by
 unfold baseF at h
 by_cases h17:b=17
 ·exact .inr h17
 have e:(b == 17)=false:=beq_eq_false_iff_ne.2 h17
 rw [e] at h
 by_cases h0:0≤b
 ·by_cases h1:b≤15
  ·exact .inl ⟨h0,by omega⟩
  ·rw [decide_eq_true h0,decide_eq_false h1] at h; cases h
 ·rw [decide_eq_false h0] at h; cases h
theorem scale_rng {d:Int} (h:scaleF d=true):d=1∨d=2∨d=4∨d=8:=by
 unfold scaleF at h
 by_cases h1:d=1
 ·exact .inl h1
 by_cases h2:d=2
 ·exact .inr (.inl h2)
 by_cases h4:d=4
 ·exact .inr (.inr (.inl h4))
 by_cases h8:d=8
 ·exact .inr (.inr (.inr h8))
 simp [h1,h2,h4,h8] at h
theorem place_rng {b c d:Int} (h:placeF b c d=true) :
  (b=17∧c=16∧d=0)∨((0≤b∧b<16)∧c=16∧d=0)∨((0≤b∧b<16)∧(0≤c∧c<16)∧c ≠ 4∧(d=1∨d=2∨d=4∨d=8)):=by
 unfold placeF at h
 cases hc:(c == 16)
 ·rw [hc,cond_false] at h
  cases h1:baseF b
  ·rw [h1] at h; cases h
  rw [h1,cond_true] at h
  cases h2:(b != 17)
  ·rw [h2] at h; cases h
  rw [h2,cond_true] at h
  cases h3:decide (0≤c)
  ·rw [h3] at h; cases h
  rw [h3,cond_true] at h
  cases h4:decide (c≤15)
  ·rw [h4] at h; cases h
  rw [h4,cond_true] at h
  cases h5:(c != 4)
  ·rw [h5] at h; cases h
  rw [h5,cond_true] at h
  have h2:b ≠ 17:=by simpa using h2
  have h5:c ≠ 4:=by simpa using h5
  have h3:=of_decide_eq_true h3
  have h4:=of_decide_eq_true h4
  rcases base_rng h1 with hb | hb
  ·exact .inr (.inr ⟨hb,⟨h3,by omega⟩,h5,scale_rng h⟩)
  ·exact absurd hb h2
 ·rw [hc,cond_true] at h
  have hc:=eq_of_beq hc
  cases h1:baseF b
  ·rw [h1] at h; cases h
  rw [h1,cond_true] at h
  have hd:=eq_of_beq h
  rcases base_rng h1 with hb | hb
  ·exact .inr (.inl ⟨hb,hc,hd⟩)
  ·exact .inl ⟨hb,hc,hd⟩
theorem cond_rng {d:Int} (h:condF d=true):0≤d∧d<16:=by
 unfold condF at h
 by_cases h0:0≤d
 ·by_cases h9:d≤9
  ·omega
  ·rw [decide_eq_true h0,decide_eq_false h9] at h
   by_cases h12:12≤d
   ·rw [decide_eq_true h12] at h
    have:=of_decide_eq_true h
    omega
   ·rw [decide_eq_false h12] at h; cases h
 ·have h12:¬ 12≤d:=by omega
  rw [decide_eq_false h0,decide_eq_false h12] at h
  cases h
theorem ok_parts {x:RowT} {a b c d:Int} (h:okF x a b c d=true) :
  (uM x=true∧regF a (uA x)=true∧placeF b c d=true)∨(uM x=false∧regF a (uA x)=true∧regF b (uB x)=true∧c=0∧(d=0∨(condR x=true∧condF d=true))):=by
 unfold okF at h
 cases h0:uM x
 ·rw [h0,cond_false] at h
  cases h1:regF a (uA x)
  ·rw [h1] at h; cases h
  rw [h1,cond_true] at h
  cases h2:regF b (uB x)
  ·rw [h2] at h; cases h
  rw [h2,cond_true] at h
  cases h3:(c == 0)
  ·rw [h3] at h; cases h
  rw [h3,cond_true] at h
  refine .inr ⟨rfl,rfl,rfl,eq_of_beq h3,?_⟩
  cases h4:(d == 0)
  ·rw [h4,cond_false] at h
   cases h5:condR x
   ·rw [h5] at h; cases h
   ·rw [h5,cond_true] at h; exact .inr ⟨rfl,h⟩
  ·exact .inl (eq_of_beq h4)
 ·rw [h0,cond_true] at h
  cases h1:regF a (uA x)
  ·rw [h1] at h; cases h
  rw [h1,cond_true] at h
  exact .inl ⟨rfl,rfl,h⟩
theorem ok_imm {x:RowT} {i:InsT} (h:faultyF x i=0):(uI x=true→lowR x≤i.2.2.2.2.2∧i.2.2.2.2.2≤highR x)∧(uI x=false→i.2.2.2.2.2=0):=by
 have ho:=faulty_ok h
 unfold faultyF tailF at h
 rw [ho] at h
 simp only [Bool.not_true,cond_false] at h
 refine ⟨fun hu=>?_,fun hu=>?_⟩
 ·rw [hu,cond_true] at h
  by_cases h1:i.2.2.2.2.2<lowR x
  ·rw [decide_eq_true h1] at h; cases h
  ·by_cases h2:highR x<i.2.2.2.2.2
   ·rw [decide_eq_false h1,decide_eq_true h2] at h; cases h
   ·omega
 ·rw [hu,cond_false] at h
  cases hn:(i.2.2.2.2.2 != 0)
  ·simpa using hn
  ·rw [hn] at h; cases h
end Go.Ra

namespace Go.Ra
open Go Go.Ab Go.Proofs
abbrev W:={ t:CpuT // t.x.length=32 }
def putS (a v:Int) (s:CpuT):CpuT:={ s with x:=s.x.set a.toNat v }
def putW (a v:Int) (t:W):W:=⟨putS a v t.1,by show (t.1.x.set a.toNat v).length=32; rw [List.length_set]; exact t.2⟩
def flW (z n c v:Bool) (t:W):W:=⟨{ t.1 with z:=z,n:=n,c:=c,v:=v },t.2⟩
def cvW (b:Bool) (t:W):W:=⟨{ t.1 with c:=b,v:=b },t.2⟩
def zW (b:Bool) (t:W):W:=⟨{ t.1 with z:=b },t.2⟩
def nW (b:Bool) (t:W):W:=⟨{ t.1 with n:=b },t.2⟩
def cW (b:Bool) (t:W):W:=⟨{ t.1 with c:=b },t.2⟩
def vW (b:Bool) (t:W):W:=⟨{ t.1 with v:=b },t.2⟩
def regW (t:W) (a:Int):Int:=t.1.x.getD a.toNat 0
theorem l_eq (s:CpuT) (t:List V):s.l++t=[.int .u64 s.pc]++(s.x.map (V.int .u64)++([.bool s.z,.bool s.n,.bool s.c,.bool s.v,.int .u64 s.th]++t)):=by
 show (([.int .u64 s.pc]++s.x.map (V.int .u64))++[.bool s.z,.bool s.n,.bool s.c,.bool s.v,.int .u64 s.th])++t=_
 simp
theorem setI_cpu {s:CpuT} (hs:s.x.length=32) {n:Nat} (hn:n<32) (v:Int) (t:List V):setI .u64 (1+n) v 0 (s.l++t)=({ s with x:=s.x.set n v }:CpuT).l++t:=by
 rw [l_eq,l_eq,setI_append,setI_append,setI_out [.int .u64 s.pc] 0 (Or.inr (by simp)),setI_in s.x _ (by simp) (by simp [hs]; omega),setI_out _ _ (Or.inl (by simp [hs]; omega))]
 simp
theorem intAt_cpu {s:CpuT} (hs:s.x.length=32) {n:Nat} (hn:n<32) (t:List V):intAt (s.l++t) (1+n)=s.x.getD n 0:=by
 rw [l_eq,intAt_append (by simp),intAt_front (by simp [hs]; omega),intAt_map]
 simp
theorem isInt_cpu {s:CpuT} (hs:s.x.length=32) {n:Nat} (hn:n<32) (t:List V):isIntAt .u64 (s.l++t) (1+n)=true:=by
 rw [l_eq]
 exact isIntAt_row (by simp) (by simp [hs]; omega)
section
variable {a:Int} (ha:okReg a=true) (t:W) (T:List V)
include ha
theorem inA_R (k:Option Res):inA a k=k:=by
 obtain ⟨h0,h1⟩:=okReg_in ha
 unfold inA q
 rw [inside_of h0 (by omega)]
 rfl
theorem rdX_R (k:Int→Option Res):rdX a (t.1.l++T) k=k (regW t a):=by
 obtain ⟨h0,h1⟩:=okReg_in ha
 unfold rdX q regW
 rw [Nat.mul_one,isInt_cpu t.2 (by omega) T,intAt_cpu t.2 (by omega) T]
 rfl
theorem inX_R (k:Int→Option Res):inX a (t.1.l++T) k=k (regW t a):=by
 unfold inX
 rw [rdX_R ha t T]
 exact inA_R ha _
theorem putX_R (v:Int) (k:KS):putX a v (t.1.l++T) k=k ((putW a v t).1.l++T):=by
 obtain ⟨h0,h1⟩:=okReg_in ha
 unfold putX q
 rw [Nat.mul_one,isInt_cpu t.2 (by omega) T,setI_cpu t.2 (by omega)]
 rfl
theorem setD_R (e:EnvR) (he:e.a=a) (v:Int) (k:KS):setD e v (t.1.l++T) k=k ((putW a v t).1.l++T):=by
 unfold setD
 rw [he,inA_R ha,putX_R ha]
end
section
variable (t:W) (T:List V)
theorem set_cpu {n:Nat} (hn:n<32) (v:Int):(t.1.l++T).set (1+n) (.int .u64 v)=({ t.1 with x:=t.1.x.set n v }:CpuT).l++T:=by
 have e:(t.1.x.map (V.int .u64)).length=32:=by rw [List.length_map]; exact t.2
 rw [l_eq,l_eq,List.set_append_right _ _ (by simp),List.set_append_left _ _ (by simp [t.2]; omega)]
 simp [List.map_set]
theorem set1_R (v:Int):(t.1.l++T).set 1 (.int .u64 v)=(putW 0 v t).1.l++T:=set_cpu t T (n:=0) (by decide) v
theorem set2_R (v:Int):(t.1.l++T).set 2 (.int .u64 v)=(putW 1 v t).1.l++T:=set_cpu t T (n:=1) (by decide) v
theorem set3_R (v:Int):(t.1.l++T).set 3 (.int .u64 v)=(putW 2 v t).1.l++T:=set_cpu t T (n:=2) (by decide) v
theorem set5_R (v:Int):(t.1.l++T).set 5 (.int .u64 v)=(putW 4 v t).1.l++T:=set_cpu t T (n:=4) (by decide) v
theorem set_fl (j:Nat) (v:V):(t.1.l++T).set (33+j) v=[.int .u64 t.1.pc]++(t.1.x.map (V.int .u64)++((([V.bool t.1.z,V.bool t.1.n,V.bool t.1.c,V.bool t.1.v,V.int .u64 t.1.th]:List V)++T).set j v)):=by
 rw [l_eq,List.set_append_right _ _ (by simp; omega),List.set_append_right _ _ (by simp [t.2])]
 have e:33+j - [V.int IntKind.u64 t.1.pc].length - (t.1.x.map (V.int .u64)).length=j:=by
  rw [List.length_map,t.2,List.length_singleton]
  omega
 rw [e]
theorem setz_R (b:Bool):(t.1.l++T).set 33 (.bool b)=(zW b t).1.l++T:=by
 rw [show (33:Nat)=33+0 from rfl,set_fl,l_eq]
 rfl
theorem setn_R (b:Bool):(t.1.l++T).set 34 (.bool b)=(nW b t).1.l++T:=by
 rw [show (34:Nat)=33+1 from rfl,set_fl,l_eq]
 rfl
theorem setc_R (b:Bool):(t.1.l++T).set 35 (.bool b)=(cW b t).1.l++T:=by
 rw [show (35:Nat)=33+2 from rfl,set_fl,l_eq]
 rfl
theorem setv_R (b:Bool):(t.1.l++T).set 36 (.bool b)=(vW b t).1.l++T:=by
 rw [show (36:Nat)=33+3 from rfl,set_fl,l_eq]
 rfl
theorem sumS_R (x:Int) (v c:Bool):sumS x v c (t.1.l++T)=(flW (x == 0) (negB x) c v t).1.l++T:=by
 unfold sumS setZN
 rw [setz_R,setn_R,setv_R,setc_R]
 rfl
theorem nzS_R (x:Int) (c v:Bool):nzS x c v (t.1.l++T)=(flW (x == 0) (shrF x 63 == 1) c v t).1.l++T:=by
 unfold nzS
 rw [setc_R,setv_R,setn_R,setz_R]
 rfl
theorem setCV_R (b:Bool):setCV b (t.1.l++T)=(cvW b t).1.l++T:=by
 unfold setCV
 rw [setc_R,setv_R]
 rfl
end
def tlP (e:EnvR) (nx:Int):List V:=[.ptr 1 0,.str e.nm,.int .i64 e.a,.int .i64 e.b,.int .i64 e.c,.int .i64 e.d,.int .i64 e.m,.int .u64 nx,.int .u64 e.bk]
def tlD (e:EnvR) (er:Int):List V:=[.int .u64 e.bk,.ptr 1 0,.int .i64 er]
theorem l_len (t:W):t.1.l.length=38:=by
 have e:=l_eq t.1 []
 rw [List.append_nil,List.append_nil] at e
 rw [e]
 simp [t.2]
theorem drop_l (t:W) (T:List V):((t.1.l++T).drop 1).take 37=t.1.l.drop 1:=by
 have h:=l_len t
 rw [List.drop_append_of_le_length (by omega),List.take_append_of_le_length (by rw [List.length_drop]; omega),List.take_of_length_le (by rw [List.length_drop]; omega)]
theorem getD_tail (t:W) (T:List V) (j:Nat):(t.1.l++T).getD (38+j) .any=T.getD j .any:=by
 have h:=l_len t
 rw [List.getD_eq_getElem?_getD,List.getD_eq_getElem?_getD,List.getElem?_append_right (by omega)]
 rw [show 38+j - t.1.l.length=j by omega]
theorem set_tail (t:W) (T:List V) (j:Nat) (v:V):(t.1.l++T).set (38+j) v=t.1.l++T.set j v:=by
 have h:=l_len t
 rw [List.set_append_right _ _ (by omega),show 38+j - t.1.l.length=j by omega]
theorem set45_R (t:W) (e:EnvR) (nx v:Int):(t.1.l++tlP e nx).set 45 (.int .u64 v)=t.1.l++tlP e v:=set_tail t _ 7 _
theorem set40_R (t:W) (e:EnvR) (er v:Int):(t.1.l++tlD e er).set 40 (.int .i64 v)=t.1.l++tlD e v:=set_tail t _ 2 _
theorem failS_R (t:W) (e:EnvR) (er:Int):failS (t.1.l++tlD e er)=t.1.l++tlD e 21:=set40_R t e er 21
theorem finS_R (t:W) (e:EnvR) (nx:Int) (H:List O):finS H (t.1.l++tlP e nx)=outK ({ t.1 with pc:=nx }:CpuT).l 0 H:=by
 unfold finS
 rw [drop_l,show (45:Nat)=38+7 from rfl,getD_tail]
 rfl
theorem finG_R (t:W) (e:EnvR) (s:CpuT) (to ev er:Int) (H:List O):finG s to ev H (t.1.l++tlD e er)=cond (er != 0) (errK s er H) (outK ({ t.1 with pc:=to }:CpuT).l ev H):=by
 unfold finG
 rw [drop_l,show (40:Nat)=38+2 from rfl,getD_tail]
 rfl
theorem stC_eq (e:EnvR) (h:e.s.x.length=32):stC e=(⟨e.s,h⟩:W).1.l++tlP e e.bk:=rfl
theorem dcC_eq (e:EnvR) (h:e.s.x.length=32):dcC e=(⟨e.s,h⟩:W).1.l++tlD e 0:=rfl
def Both (s:CpuT) (r g:Option Res):Prop:=∃ (s' : CpuT) (ev err:Int) (A B C D E:List Int),Fine s' ∧ lens5 A B C D E=true∧(err ≠ 0→s' = s∧ev=0) ∧
 r=some (.ok (.tup [.agg s'.l,.int .i64 ev,.int .i64 err]) (memO A B C D E))∧g=some (.ok (.tup [.agg s'.l,.int .i64 ev,.int .i64 err]) (refO A B C D E))
theorem both_err {s:CpuT} (h:Fine s) (e:Int) {A B C D E:List Int} (hl:lens5 A B C D E=true):Both s (errK s e (memO A B C D E)) (errK s e (refO A B C D E)):=
 ⟨s,0,e,A,B,C,D,E,h,hl,fun _=>⟨rfl,rfl⟩,rfl,rfl⟩
theorem both_out {s s' : CpuT} (h' : Fine s') (ev:Int) {A B C D E:List Int} (hl:lens5 A B C D E=true):Both s (outK s'.l ev (memO A B C D E)) (outK s'.l ev (refO A B C D E)):=
 ⟨s',ev,0,A,B,C,D,E,h',hl,fun h=>absurd rfl h,rfl,rfl⟩
theorem getD_setR {l:List Int} {i j:Nat} {v:Int}:rng64 v=true→rng64 (l.getD j 0)=true→rng64 ((l.set i v).getD j 0)=true:=by
 intro hv hl
 rw [List.getD_eq_getElem?_getD,List.getElem?_set]
 split
 ·split
  ·exact hv
  ·rfl
 ·rw [← List.getD_eq_getElem?_getD]
  exact hl
theorem fine_put {t:W} (h:Fine t.1) (a:Int) {v:Int} (hv:rng64 v=true):Fine (putW a v t).1:=⟨(putW a v t).2,fun i=>getD_setR hv (h.rng i),h.pc⟩
theorem fine_fl {t:W} (h:Fine t.1) (z n c v:Bool):Fine (flW z n c v t).1:=⟨h.len,h.rng,h.pc⟩
theorem fine_cv {t:W} (h:Fine t.1) (b:Bool):Fine (cvW b t).1:=⟨h.len,h.rng,h.pc⟩
theorem fine_pc {t:W} (h:Fine t.1) {nx:Int} (hn:rng64 nx=true):Fine ({ t.1 with pc:=nx }:CpuT):=⟨h.len,h.rng,hn⟩
theorem rng_wu (x:Int):rng64 (wu x)=true:=by
 refine rng_of ?_ ?_ <;> rw [wu_mod] <;> omega
end Go.Ra

namespace Go.Ra
open Go Go.Ab Go.Proofs
def hb (x:Int):Bool:=decide (9223372036854775808≤x)
theorem negB_hb {x:Int} (h:rng64 x=true):negB x=hb x:=by
 obtain ⟨h0,h1⟩:=rng_spec h
 unfold negB hb
 rw [wi_def]
 by_cases g:9223372036854775808≤x
 ·rw [if_pos (by omega),decide_eq_true (by omega),decide_eq_true g]
 ·rw [if_neg (by omega),decide_eq_false (by omega),decide_eq_false g]
theorem sh63 {x:Int} (h:rng64 x=true):shrF x 63=cond (hb x) 1 0:=by
 obtain ⟨h0,h1⟩:=rng_spec h
 have e:shrF x 63=x / 9223372036854775808:=Int.fdiv_eq_ediv_of_nonneg _ (by decide)
 rw [e]
 unfold hb
 by_cases g:9223372036854775808≤x
 ·rw [decide_eq_true g]
  show x / 9223372036854775808=1
  omega
 ·rw [decide_eq_false g]
  show x / 9223372036854775808=0
  omega
theorem sh63_one {x:Int} (h:rng64 x=true):(shrF x 63 == 1)=hb x:=by
 rw [sh63 h]
 cases hb x <;> rfl
theorem sh63_eq {x y:Int} (h:rng64 x=true) (g:rng64 y=true):(shrF x 63 == shrF y 63)=(hb x == hb y):=by
 rw [sh63 h,sh63 g]
 cases hb x <;> cases hb y <;> rfl
theorem sh63_ne {x y:Int} (h:rng64 x=true) (g:rng64 y=true):(shrF x 63 != shrF y 63)=(hb x != hb y):=by
 rw [sh63 h,sh63 g]
 cases hb x <;> cases hb y <;> rfl
theorem bv_nat {x:Int} (h:rng64 x=true):((BitVec.ofInt 64 x).toNat:Int)=x:=by
 obtain ⟨h0,h1⟩:=rng_spec h
 rw [BitVec.toNat_ofInt]
 omega
theorem hb_bv (b:BitVec 64):hb (b.toNat:Int)=b.msb:=by
 unfold hb
 rw [BitVec.msb_eq_decide]
 exact decide_eq_decide.2 (by omega)
theorem hb_msb {x:Int} (h:rng64 x=true):hb x=(BitVec.ofInt 64 x).msb:=by
 rw [← hb_bv,bv_nat h]
theorem wu_bv (b:BitVec 64):IntKind.wrap .u64 ((b.toNat:Nat):Int)=b.toNat:=wu_cast b.isLt
theorem xorU_rng (a b:Int):rng64 (xorU a b)=true:=rng_wu _
theorem andU_rng (a b:Int):rng64 (andU a b)=true:=rng_wu _
theorem orU_rng (a b:Int):rng64 (orU a b)=true:=rng_wu _
theorem hb_xor {a b:Int} (ha:rng64 a=true) (hb' : rng64 b=true):hb (xorU a b)=(hb a != hb b):=by
 unfold xorU
 rw [wu_bv,hb_bv,BitVec.msb_xor,← hb_msb ha,← hb_msb hb']
theorem hb_and {a b:Int} (ha:rng64 a=true) (hb' : rng64 b=true):hb (andU a b)=(hb a && hb b):=by
 unfold andU
 rw [wu_bv,hb_bv,BitVec.msb_and,← hb_msb ha,← hb_msb hb']
def sumW (x y:Int) (t:W):W:=flW (wu (x+y) == 0) (hb (wu (x+y))) (decide (wu (x+y)<x)) (cond (hb x == hb y) (hb (wu (x+y)) != hb x) false) t
def subW (x y:Int) (t:W):W:=flW (wu (x - y) == 0) (hb (wu (x - y))) (decide (x<y)) (cond (hb x != hb y) (hb (wu (x - y)) != hb x) false) t
def logW (x:Int) (t:W):W:=flW (x == 0) (hb x) false false t
section
variable {x y:Int} (hx:rng64 x=true) (hy:rng64 y=true) (t:W) (T:List V)
include hx hy
theorem addK_R (k:Int→KS):addK x y (t.1.l++T) k=k (wu (x+y)) ((sumW x y t).1.l++T):=by
 obtain ⟨x0,x1⟩:=rng_spec hx
 obtain ⟨y0,y1⟩:=rng_spec hy
 unfold addK q
 have e:(x+y+0) % 18446744073709551616=wu (x+y):=by rw [wu_mod,Int.add_zero]
 rw [e,decide_eq_true x0,decide_eq_true y0,sumS_R,negB_hb (rng_wu _)]
 have hs:=rng_wu (x+y)
 have ev:decide (wi (andU (xorU x (wu (x+y))) (xorU y (wu (x+y))))<0)=cond (hb x == hb y) (hb (wu (x+y)) != hb x) false:=by
  refine (negB_hb (andU_rng _ _)).trans ?_
  rw [hb_and (xorU_rng _ _) (xorU_rng _ _),hb_xor hx hs,hb_xor hy hs]
  cases hb x <;> cases hb y <;> cases hb (wu (x+y)) <;> rfl
 have ec:((x+y+0) / 18446744073709551616 != 0)=decide (wu (x+y)<x):=by
  rw [wu_mod]
  by_cases g:18446744073709551616≤x+y
  ·rw [decide_eq_true (by omega),show (x+y+0) / 18446744073709551616=1 by omega]
   rfl
  ·rw [decide_eq_false (by omega),show (x+y+0) / 18446744073709551616=0 by omega]
   rfl
 rw [ev,ec]
 rfl
theorem addD_R (k:Int→KS):addD x y (t.1.l++T) k=k (wu (x+y)) ((sumW x y t).1.l++T):=by
 have hs:=rng_wu (x+y)
 unfold addD sumW
 rw [nzS_R,nzS_R,sh63_eq hx hy,sh63_ne hs hx,sh63_one hs]
 cases hb x == hb y <;> rfl
theorem subK_R (k:Int→KS):subK x y (t.1.l++T) k=k (wu (x - y)) ((subW x y t).1.l++T):=by
 obtain ⟨x0,x1⟩:=rng_spec hx
 obtain ⟨y0,y1⟩:=rng_spec hy
 unfold subK q
 have e:(x - y - 0) % 18446744073709551616=wu (x - y):=by rw [wu_mod,Int.sub_zero]
 rw [e,decide_eq_true x0,decide_eq_true y0,decide_eq_true x1,decide_eq_true y1,sumS_R,negB_hb (rng_wu _)]
 have hs:=rng_wu (x - y)
 have ev:decide (wi (andU (xorU x y) (xorU x (wu (x - y))))<0)=cond (hb x != hb y) (hb (wu (x - y)) != hb x) false:=by
  refine (negB_hb (andU_rng _ _)).trans ?_
  rw [hb_and (xorU_rng _ _) (xorU_rng _ _),hb_xor hx hy,hb_xor hx hs]
  cases hb x <;> cases hb y <;> cases hb (wu (x - y)) <;> rfl
 have ec:(cond (decide (x<y+0)) (1:Int) 0 != 0)=decide (x<y):=by
  rw [Int.add_zero]
  cases decide (x<y) <;> rfl
 rw [ev,ec]
 rfl
theorem subD_R (k:Int→KS):subD x y (t.1.l++T) k=k (wu (x - y)) ((subW x y t).1.l++T):=by
 have hs:=rng_wu (x - y)
 unfold subD subW
 rw [nzS_R,nzS_R,sh63_ne hx hy,sh63_ne hs hx,sh63_one hs]
 cases hb x != hb y <;> rfl
end
theorem logS_R {x:Int} (hx:rng64 x=true) (t:W) (T:List V):logS x (t.1.l++T)=(logW x t).1.l++T:=by
 unfold logS
 rw [sumS_R,negB_hb hx]
 rfl
theorem logD_R {f:Int→Int→Int} {x y:Int} (hf:rng64 (f x y)=true) (t:W) (T:List V) (k:Int→KS):logD f x y (t.1.l++T) k=k (f x y) ((logW (f x y) t).1.l++T):=by
 unfold logD
 rw [nzS_R,sh63_one hf]
 rfl
theorem and_low (y:Int) (w k:Nat) (hk:k≤w):((BitVec.ofInt w y &&& BitVec.ofInt w (2 ^ k - 1)).toNat:Int)=y % 2 ^ k:=by
 have e1:(BitVec.ofInt w (2 ^ k - 1)).toNat=2 ^ k - 1:=by
  rw [BitVec.toNat_ofInt]
  have hp:2 ^ k≤2 ^ w:=Nat.pow_le_pow_right (by decide) hk
  have h1:1≤2 ^ k:=Nat.one_le_two_pow
  have e:((2:Int) ^ k - 1)=((2 ^ k - 1:Nat):Int):=by
   rw [Int.ofNat_sub h1]
   simp
  rw [e]
  have e2:(((2 ^ w:Nat)):Int)=((2:Int) ^ w):=by simp
  rw [← Int.natCast_emod,Int.toNat_natCast,Nat.mod_eq_of_lt (by omega)]
 rw [BitVec.toNat_and,e1,Nat.and_two_pow_sub_one_eq_mod,BitVec.toNat_ofInt]
 have hp:(0:Int)<((2 ^ w:Nat):Int):=by
  have:0<2 ^ w:=Nat.two_pow_pos w
  omega
 have h0:=Int.emod_nonneg y (Int.ne_of_gt hp)
 rw [Int.natCast_emod,Int.toNat_of_nonneg h0]
 have e2:((2 ^ k:Nat):Int)=(2:Int) ^ k:=by simp
 rw [e2]
 refine Int.emod_emod_of_dvd y ?_
 rw [show ((2 ^ w:Nat):Int)=(2:Int) ^ w by simp]
 exact ⟨2 ^ (w - k),by rw [← Int.pow_add,Nat.add_sub_cancel' hk]⟩
theorem andU_1 (y:Int):andU y 1=y % 2:=by
 have h:=and_low y 64 1 (by decide)
 have e:andU y 1=wu ((BitVec.ofInt 64 y &&& BitVec.ofInt 64 (2 ^ 1 - 1)).toNat:Int):=rfl
 rw [e,h,wu_mod]
 omega
theorem andU_63 (y:Int):andU y 63=y % 64:=by
 have h:=and_low y 64 6 (by decide)
 have e:andU y 63=wu ((BitVec.ofInt 64 y &&& BitVec.ofInt 64 (2 ^ 6 - 1)).toNat:Int):=rfl
 rw [e,h,wu_mod]
 omega
theorem out_eq (y:Int):(andU y 1 != 0)=(andU y 1 == 1):=by
 rw [andU_1]
 rcases (by omega:y % 2=0∨y % 2=1) with h | h <;> rw [h] <;> rfl
theorem shr_rng {x:Int} (hx:rng64 x=true) (n:Int):rng64 (shrF x n)=true:=by
 obtain ⟨h0,h1⟩:=rng_spec hx
 unfold shrF
 have hp:(0:Int)<2 ^ (min n.toNat 64):=Int.pow_pos (by decide)
 rw [Int.fdiv_eq_ediv_of_nonneg _ (Int.le_of_lt hp)]
 have:=Int.ediv_le_self (2 ^ (min n.toNat 64)) h0
 exact rng_of (Int.ediv_nonneg h0 (Int.le_of_lt hp)) (by omega)
theorem sar_out {x n:Int} (hx:rng64 x=true) (h0:1≤n) (h1:n≤64):(andU (wu (shrF (wi x) (wu (n - 1)))) 1)=andU (shrF x (wu (n - 1))) 1:=by
 obtain ⟨x0,x1⟩:=rng_spec hx
 obtain ⟨m,hm⟩:=Int.eq_ofNat_of_zero_le (show 0≤n - 1 by omega)
 have em:wu (n - 1)=(m:Int):=by rw [hm]; exact wu_cast (by omega)
 have hm63:m≤63:=by omega
 rw [em,andU_1,andU_1]
 have e:∀ z:Int,shrF z (m:Int)=z / 2 ^ m:=fun z=>by
  unfold shrF
  rw [Int.toNat_natCast,Nat.min_eq_left (by omega),Int.fdiv_eq_ediv_of_nonneg _ (Int.le_of_lt (Int.pow_pos (by decide)))]
 rw [e,e,wu_mod]
 have ew:wi x / 2 ^ m % 2=x / 2 ^ m % 2:=by
  rw [wi_def,Int.emod_eq_of_lt x0 x1]
  split
  ·have hp:(0:Int)<2 ^ m:=Int.pow_pos (by decide)
   have e2:(18446744073709551616:Int)=2 ^ m*(2*2 ^ (63 - m)):=by
    have:(2:Int) ^ m*(2*2 ^ (63 - m))=2 ^ (m+(63 - m)+1):=by
     rw [Int.pow_succ,Int.pow_add,Int.mul_comm 2,Int.mul_assoc]
    rw [this,Nat.add_sub_cancel' hm63]
    rfl
   rw [e2,show x - 2 ^ m*(2*2 ^ (63 - m))=x+2 ^ m*(-(2*2 ^ (63 - m))) by rw [Int.mul_neg]; rfl,Int.add_mul_ediv_left _ _ (Int.ne_of_gt hp)]
   omega
  ·rfl
 omega
end Go.Ra

namespace Go.Ra
open Go Go.Ab Go.Proofs Go.Amd
def Alike (x:RowT) (r g:RunTy):Prop:=∀ s a b c d m sz A B C D E,Fine s→lens5 A B C D E=true→okF x a b c d=true→(uI x=true→lowR x≤m∧m≤highR x) →
 Both s (r s a b c d m sz A B C D E) (g s a b c d m sz A B C D E)
structure Hy (x:RowT) (e:EnvR):Prop where
 s:Fine e.s
 l:lens5 e.A e.B e.C e.D e.E=true
 ok:okF x e.a e.b e.c e.d=true
 im:uI x=true→lowR x≤e.m∧e.m≤highR x
 bk:rng64 e.bk=true
def wE {x:RowT} {e:EnvR} (h:Hy x e):W:=⟨e.s,h.s.len⟩
theorem okReg_of {n:Int} (h:0≤n∧n<16):okReg n=true:=by
 simp only [okReg,Bool.and_eq_true,decide_eq_true_eq]
 omega
section
variable {x:RowT} {e:EnvR} (h:Hy x e)
include h
theorem Hy.a:okReg e.a=true:=by
 rcases ok_parts h.ok with ⟨_,g,_⟩ | ⟨_,g,_⟩ <;> exact okReg_of (reg_rng g)
theorem Hy.b (hu:uM x=false):okReg e.b=true:=by
 rcases ok_parts h.ok with ⟨g,_,_⟩ | ⟨_,_,g,_⟩
 ·rw [hu] at g; cases g
 ·exact okReg_of (reg_rng g)
theorem Hy.p (hu:uM x=true):(e.b=17∨((e.b == 17)=false∧okReg e.b=true))∧(e.c=16∨((e.c != 16)=true∧okReg e.c=true)):=by
 rcases ok_parts h.ok with ⟨_,_,g⟩ | ⟨g,_⟩
 ·rcases place_rng g with ⟨h1,h2,_⟩ | ⟨h1,h2,_⟩ | ⟨h1,h2,_⟩
  ·exact ⟨.inl h1,.inl h2⟩
  ·exact ⟨.inr ⟨by rw [beq_eq_false_iff_ne]; omega,okReg_of h1⟩,.inl h2⟩
  ·exact ⟨.inr ⟨by rw [beq_eq_false_iff_ne]; omega,okReg_of h1⟩,.inr ⟨by rw [bne_iff_ne]; omega,okReg_of h2⟩⟩
 ·rw [hu] at g; cases g
theorem Hy.d (hu:uM x=false):0≤e.d∧e.d<16:=by
 rcases ok_parts h.ok with ⟨g,_⟩ | ⟨_,_,_,_,g⟩
 ·rw [hu] at g; cases g
 ·rcases g with g | ⟨_,g⟩
  ·omega
  ·exact cond_rng g
theorem Hy.r (n:Int):rng64 (regW (wE h) n)=true:=h.s.rng _
end
theorem nx_rng (s:CpuT) (sz:Int):rng64 (wu (s.pc+wu sz))=true:=rng_wu _
def Does (e:EnvR) (nx:Int) (r:(List V→Option Res)→Option Res) (g:(Int→List V→Option Res)→Option Res):Prop:=
 ∃ (t t' : W) (er:Int),(er=0∨er=21)∧(er=0→Fine t.1∧t' = t)∧(∀ k,r k=cond (er != 0) (faultK e) (k (t.1.l++tlP e nx)))∧(∀ k,g k=k nx (t'.1.l++tlD e er))
theorem does_both {e:EnvR} {nx:Int} {r g} (hs:Fine e.s) (hl:lens5 e.A e.B e.C e.D e.E=true) (hn:rng64 nx=true) (h:Does e nx r g) :
  Both e.s (r (finS (memO e.A e.B e.C e.D e.E))) (g fun to=>finG e.s to 0 (refO e.A e.B e.C e.D e.E)):=by
 obtain ⟨t,t',er,h1,h2,h3,h4⟩:=h
 rw [h3,h4,finS_R,finG_R]
 rcases h1 with rfl | rfl
 ·obtain ⟨f1,rfl⟩:=h2 rfl
  exact both_out (fine_pc f1 hn) 0 hl
 ·exact both_err hs 21 hl
theorem al_row {x:RowT} {f:BodyR} {g:EnvR→Int→List V→KS→Option Res} {nm:List UInt8}
  (h:∀ e (hy:Hy x e),Does e e.bk (f e ((wE hy).1.l++tlP e e.bk)) fun k=>g e (regW (wE hy) e.a) ((wE hy).1.l++tlD e 0) (k e.bk)):Alike x (mvR f nm) (oneD g nm):=by
 intro s a b c d m sz A B C D E hs hl ho hi
 have hy:Hy x (envF s nm a b c d m sz A B C D E):=⟨hs,hl,ho,hi,nx_rng _ _⟩
 have hb:=does_both hs hl (nx_rng s sz) (h _ hy)
 unfold mvR oneD
 rw [stC_eq _ hs.len,dcC_eq _ hs.len,inX_R (a:=a) hy.a]
 exact hb
theorem al_flow {x:RowT} {f:BodyR} {g:EnvR→List V→(Int→KS)→Option Res} {nm:List UInt8}
  (h:∀ e (hy:Hy x e),∃ nx,rng64 nx=true∧Does e nx (f e ((wE hy).1.l++tlP e e.bk)) (g e ((wE hy).1.l++tlD e 0))):Alike x (mvR f nm) (floD g nm):=by
 intro s a b c d m sz A B C D E hs hl ho hi
 have hy:Hy x (envF s nm a b c d m sz A B C D E):=⟨hs,hl,ho,hi,nx_rng _ _⟩
 obtain ⟨nx,hn,hd⟩:=h _ hy
 exact does_both hs hl hn hd
theorem does_ok {e:EnvR} {nx:Int} {r g} (t:W) (ht:Fine t.1) (h1:∀ k,r k=k (t.1.l++tlP e nx)) (h2:∀ k,g k=k nx (t.1.l++tlD e 0)):Does e nx r g:=
 ⟨t,t,0,.inl rfl,fun _=>⟨ht,rfl⟩,h1,h2⟩
theorem does_bad {e:EnvR} {nx:Int} {r g} (t:W) (h1:∀ k,r k=faultK e) (h2:∀ k,g k=k nx (t.1.l++tlD e 21)):Does e nx r g:=
 ⟨t,t,21,.inr rfl,fun h=>absurd h (by decide),h1,h2⟩
section
variable {x:RowT} {nm:List UInt8}
theorem al_movrr (hu:uM x=false):Alike x (mvR (preRr fun e S k=>inA e.a (inX e.b S fun y=>putX e.a y S k)) nm) (oneD (fun e _ S k=>inX e.b S fun y=>setD e y S k) nm):=
 al_row fun e hy=>does_ok (putW e.a (regW (wE hy) e.b) (wE hy)) (fine_put hy.s _ (hy.r _))
  (fun k=>by simp only [preRr,inX_R (hy.b hu),inA_R hy.a,putX_R hy.a]) (fun k=>by simp only [inX_R (hy.b hu),setD_R hy.a _ _ e rfl])
theorem al_movri {f:BodyR} (hf:∀ e S k,f e S k=inA e.a (putX e.a (wu e.m) S k)∨f e S k=inA e.a (inA e.a (putX e.a (wu e.m) S k))):Alike x (mvR f nm) (oneD (fun e _ S k=>setD e (wu e.m) S k) nm):=
 al_row fun e hy=>does_ok (putW e.a (wu e.m) (wE hy)) (fine_put hy.s _ (rng_wu _))
  (fun k=>by rcases hf e ((wE hy).1.l++tlP e e.bk) k with h | h <;> (rw [h]; simp only [inA_R hy.a,putX_R hy.a])) (fun k=>by simp only [setD_R hy.a _ _ e rfl])
theorem adK_R {e:EnvR} (hy:Hy x e) (hu:uM x=true):∃ p,rng64 p=true ∧ ∀ (T:List V) (k:Int→Option Res),adK e ((wE hy).1.l++T) k=k p:=by
 obtain ⟨h1,h2⟩:=hy.p hu
 have g2:∀ z,rng64 z=true → ∃ p,rng64 p=true ∧ ∀ (T:List V) (k:Int→Option Res),adK2 e ((wE hy).1.l++T) z k=k p:=by
  intro z hz
  unfold adK2
  rcases h2 with h2 | ⟨h2,h3⟩
  ·refine ⟨z,hz,fun T k=>?_⟩
   rw [h2]
   rfl
  ·refine ⟨wu (z+wu (regW (wE hy) e.c*wu e.d)),rng_wu _,fun T k=>?_⟩
   rw [h2,cond_true,inX_R h3]
 unfold adK
 rcases h1 with h1 | ⟨h1,h3⟩
 ·obtain ⟨p,hp,g⟩:=g2 _ (rng_wu (wu e.m+e.bk))
  refine ⟨p,hp,fun T k=>?_⟩
  rw [h1]
  exact g T k
 ·obtain ⟨p,hp,g⟩:=g2 _ (rng_wu (wu e.m+regW (wE hy) e.b))
  refine ⟨p,hp,fun T k=>?_⟩
  rw [h1,cond_false,inX_R h3]
  exact g T k
theorem rng_ldN {A B C D E:List Int} {x:Int}:∀ (n:Nat) (v:Int),rng64 v=true→rng64 (ldN A B C D E x n v)=true
 | 0,_,h=>h
 | n+1,v,_=>rng_ldN n _ (rng_wu _)
theorem valLd_rng (A B C D E:List Int) (x n:Int):rng64 (valLd A B C D E x n)=true:=by
 unfold valLd
 cases mayB x n 4
 ·rfl
 ·exact rng_ldN _ 0 rfl
theorem errLd_or (p n:Int):errLd p n=0∨errLd p n=21:=by
 unfold errLd
 cases mayB p n 4
 ·exact .inr rfl
 ·exact .inl rfl
theorem errSt_or (p n:Int):errSt p n=0∨errSt p n=21:=by
 unfold errSt
 cases mayB p n 2
 ·exact .inr rfl
 ·exact .inl rfl
theorem loadK_R {e:EnvR} (hl:lens5 e.A e.B e.C e.D e.E=true) {p:Int} (hp:rng64 p=true) (n:Int) (k:Int→Option Res):loadK e p n k=cond (errLd p n != 0) (faultK e) (k (valLd e.A e.B e.C e.D e.E p n)):=by
 unfold loadK q
 rw [hl,hp]
 rfl
theorem loadD_R {e:EnvR} (hl:lens5 e.A e.B e.C e.D e.E=true) {p:Int} (hp:rng64 p=true) (n:Int) (t:W) (er:Int) (k:Int→KS) :
  loadD e p n (t.1.l++tlD e er) k=k (valLd e.A e.B e.C e.D e.E p n) (t.1.l++tlD e (errLd p n)):=by
 unfold loadD q
 rw [hl,hp,set40_R]
 rfl
theorem does_ld {e:EnvR} {nx:Int} {r:(List V→Option Res)→Option Res} {g:(Int→List V→Option Res)→Option Res} (p n:Int) (t:W) (ht:Fine t.1) (h1:∀ k,r k=cond (errLd p n != 0) (faultK e) (k (t.1.l++tlP e nx))) (h2:∀ k,g k=k nx (t.1.l++tlD e (errLd p n))):Does e nx r g:=
 ⟨t,t,errLd p n,errLd_or _ _,fun _=>⟨ht,rfl⟩,h1,h2⟩
theorem al_ld (hu:uM x=true) (n:Int) {f g:Int→Int} (hg:∀ y,g y=f y) (hf:∀ y,rng64 y=true→rng64 (f y)=true) :
  Alike x (ldR n f nm) (oneD (fun e _ S k=>adK e S fun p=>loadD e p n S fun y U=>setD e (g y) U k) nm):=
 al_row fun e hy=>by
  obtain ⟨p,hp,ha⟩:=adK_R hy hu
  refine does_ld p n (putW e.a (f (valLd e.A e.B e.C e.D e.E p n)) (wE hy)) (fine_put hy.s _ (hf _ (valLd_rng _ _ _ _ _ _ _))) (fun k=>?_) (fun k=>?_)
  ·simp only [inA_R hy.a,ha,loadK_R hy.l hp,putX_R hy.a]
  ·simp only [ha,loadD_R hy.l hp,setD_R hy.a _ _ e rfl,hg]
theorem al_lea (hu:uM x=true):Alike x (mvR (fun e S k=>inA e.a (adK e S fun x=>putX e.a x S k)) nm) (oneD (fun e _ S k=>adK e S fun p=>setD e p S k) nm):=
 al_row fun e hy=>by
  obtain ⟨p,hp,ha⟩:=adK_R hy hu
  exact does_ok (putW e.a p (wE hy)) (fine_put hy.s _ hp) (fun k=>by simp only [inA_R hy.a,ha,putX_R hy.a]) (fun k=>by simp only [ha,setD_R hy.a _ _ e rfl])
theorem al_fs:Alike x (fsR nm) (oneD (fun e _ S k=>loadD e (wu (e.s.th+wu e.m)) 8 S fun y U=>setD e y U k) nm):=
 al_row fun e hy=>by
  refine does_ld (wu (e.s.th+wu e.m)) 8 (putW e.a (valLd e.A e.B e.C e.D e.E (wu (e.s.th+wu e.m)) 8) (wE hy)) (fine_put hy.s _ (valLd_rng _ _ _ _ _ _ _)) (fun k=>?_) (fun k=>?_)
  ·simp only [inA_R hy.a,loadK_R hy.l (rng_wu _),putX_R hy.a]
  ·simp only [loadD_R hy.l (rng_wu _),setD_R hy.a _ _ e rfl]
theorem hold_eq (z n c v:Bool) {d:Int} (h0:0≤d) (h1:d<16):holdsF z n c v d=hdF z n c v d:=by
 obtain ⟨m,rfl⟩:=Int.eq_ofNat_of_zero_le h0
 have hm:m<16:=by omega
 have key:∀ m:Fin 16,∀ z n c v:Bool,holdsF z n c v ((m.val:Nat):Int)=hdF z n c v ((m.val:Nat):Int):=by decide +kernel
 exact key ⟨m,hm⟩ z n c v
theorem al_cmov (hu:uM x=false):Alike x (mvR (fun e S k=>inA e.a (cond (holdsF e.s.z e.s.n e.s.c e.s.v e.d) (inX e.b S fun y=>putX e.a y S k) (k S))) nm) (oneD (fun e _ S k=>cond (hdF e.s.z e.s.n e.s.c e.s.v e.d) (inX e.b S fun y=>setD e y S k) (k S)) nm):=
 al_row fun e hy=>by
  have he:=hold_eq e.s.z e.s.n e.s.c e.s.v (hy.d hu).1 (hy.d hu).2
  cases hh:hdF e.s.z e.s.n e.s.c e.s.v e.d
  ·exact does_ok (wE hy) hy.s (fun k=>by simp only [he,hh,inA_R hy.a,cond_false]) (fun k=>by simp only [hh,cond_false])
  ·exact does_ok (putW e.a (regW (wE hy) e.b) (wE hy)) (fine_put hy.s _ (hy.r _)) (fun k=>by simp only [he,hh,inA_R hy.a,cond_true,inX_R (hy.b hu),putX_R hy.a]) (fun k=>by simp only [hh,cond_true,inX_R (hy.b hu),setD_R hy.a _ _ e rfl])
theorem al_cqo:Alike x (mvR (fun e S k=>inA e.a (k (S.set 3 (.int .u64 (wu (Int.fdiv (wi (e.s.x.getD 0 0)) (2 ^ 63))))))) nm) (oneD (fun e _ S k=>k (S.set 3 (.int .u64 (wu (Int.fdiv (wi (e.s.x.getD 0 0)) (2 ^ 63)))))) nm):=
 al_row fun e hy=>does_ok (putW 2 (wu (Int.fdiv (wi (e.s.x.getD 0 0)) (2 ^ 63))) (wE hy)) (fine_put hy.s _ (rng_wu _)) (fun k=>by simp only [inA_R hy.a,set3_R]) (fun k=>by simp only [set3_R])
theorem al_nop:Alike x (mvR (fun e S k=>inA e.a (inA e.a (k S))) nm) (oneD (fun _ _ S k=>k S) nm):=
 al_row fun e hy=>does_ok (wE hy) hy.s (fun k=>by simp only [inA_R hy.a]) (fun k=>rfl)
theorem notI_rng (x:Int):rng64 (notI x)=true:=rng_wu _
theorem al_not:Alike x (mvR (fun e S k=>inA e.a (inA e.a (rdX e.a S fun x=>putX e.a (notI x) S k))) nm) (oneD (fun e x S k=>setD e (notI x) S k) nm):=
 al_row fun e hy=>does_ok (putW e.a (notI (regW (wE hy) e.a)) (wE hy)) (fine_put hy.s _ (notI_rng _)) (fun k=>by simp only [inA_R hy.a,rdX_R hy.a,putX_R hy.a]) (fun k=>by simp only [setD_R hy.a _ _ e rfl])
theorem fine_sum {t:W} (h:Fine t.1) (a b:Int):Fine (sumW a b t).1:=fine_fl h _ _ _ _
theorem fine_sub {t:W} (h:Fine t.1) (a b:Int):Fine (subW a b t).1:=fine_fl h _ _ _ _
theorem fine_log {t:W} (h:Fine t.1) (a:Int):Fine (logW a t).1:=fine_fl h _ _ _ _
theorem al_neg:Alike x (mvR (fun e S k=>inA e.a (inA e.a (rdX e.a S fun x=>subK 0 x S fun y T=>putX e.a y T k))) nm) (oneD (fun e x S k=>subD 0 x S fun v T=>setD e v T k) nm):=
 al_row fun e hy=>does_ok (putW e.a (wu (0 - regW (wE hy) e.a)) (subW 0 (regW (wE hy) e.a) (wE hy))) (fine_put (fine_sub hy.s _ _) _ (rng_wu _))
  (fun k=>by simp only [inA_R hy.a,rdX_R hy.a,subK_R (x:=(0:Int)) rfl (hy.r _),putX_R hy.a]) (fun k=>by simp only [subD_R (x:=(0:Int)) rfl (hy.r _),setD_R hy.a _ _ e rfl])
structure TwoV (F:TwoR) (G:EnvR→Int→Int→List V→KS→Option Res):Prop where
 al:∀ (x:RowT) (e:EnvR) (hy:Hy x e) (y:Int),rng64 y=true → ∃ t:W,Fine t.1∧(∀ T k,F e y ((wE hy).1.l++T) k=k (t.1.l++T))∧(∀ T k,G e (regW (wE hy) e.a) y ((wE hy).1.l++T) k=k (t.1.l++T))
theorem two_add:TwoV addT (fun e x y S k=>addD x y S fun v T=>keptD e v T k):=⟨fun x e hy y h=>⟨putW e.a (wu (regW (wE hy) e.a+y)) (sumW (regW (wE hy) e.a) y (wE hy)),fine_put (fine_sum hy.s _ _) _ (rng_wu _),
 fun T k=>by simp only [addT,inA_R hy.a,rdX_R hy.a,addK_R (hy.r _) h,putX_R hy.a],fun T k=>by simp only [keptD,addD_R (hy.r _) h,setD_R hy.a _ _ e rfl]⟩⟩
theorem two_sub:TwoV subT (fun e x y S k=>subD x y S fun v T=>keptD e v T k):=⟨fun x e hy y h=>⟨putW e.a (wu (regW (wE hy) e.a - y)) (subW (regW (wE hy) e.a) y (wE hy)),fine_put (fine_sub hy.s _ _) _ (rng_wu _),
 fun T k=>by simp only [subT,inA_R hy.a,rdX_R hy.a,subK_R (hy.r _) h,putX_R hy.a],fun T k=>by simp only [keptD,subD_R (hy.r _) h,setD_R hy.a _ _ e rfl]⟩⟩
theorem two_cmp:TwoV cmpT (fun e x y S k=>subD x y S fun v T=>lostD e v T k):=⟨fun x e hy y h=>⟨subW (regW (wE hy) e.a) y (wE hy),fine_sub hy.s _ _,
 fun T k=>by simp only [cmpT,inA_R hy.a,rdX_R hy.a,subK_R (hy.r _) h],fun T k=>by simp only [lostD,subD_R (hy.r _) h]⟩⟩
theorem two_log {f:Int→Int→Int} (hf:∀ a b,rng64 (f a b)=true):TwoV (logT f) (fun e x y S k=>logD f x y S fun v T=>keptD e v T k):=⟨fun x e hy y h=>⟨putW e.a (f (regW (wE hy) e.a) y) (logW (f (regW (wE hy) e.a) y) (wE hy)),fine_put (fine_log hy.s _) _ (hf _ _),
 fun T k=>by simp only [logT,inA_R hy.a,rdX_R hy.a,logS_R (hf _ _),putX_R hy.a],fun T k=>by simp only [keptD,logD_R (hf _ _),setD_R hy.a _ _ e rfl]⟩⟩
theorem two_test:TwoV testT (fun e x y S k=>logD andU x y S fun v T=>lostD e v T k):=⟨fun x e hy y h=>⟨logW (andU (regW (wE hy) e.a) y) (wE hy),fine_log hy.s _,
 fun T k=>by simp only [testT,inA_R hy.a,rdX_R hy.a,logS_R (andU_rng _ _)],fun T k=>by simp only [lostD,logD_R (andU_rng _ _)]⟩⟩
variable {F:TwoR} {G:EnvR→Int→Int→List V→KS→Option Res} (hF:TwoV F G)
include hF
theorem al_rr (hu:uM x=false):Alike x (rrR F nm) (oneD (fun e _ S k=>inX e.b S fun y=>inX e.a S fun x=>G e x y S k) nm):=
 al_row fun e hy=>by
  obtain ⟨t,ht,h1,h2⟩:=hF.al x e hy (regW (wE hy) e.b) (hy.r _)
  exact does_ok t ht (fun k=>by simp only [inX_R (hy.b hu),h1]) (fun k=>by simp only [inX_R (hy.b hu),inX_R hy.a,h2])
theorem al_ri:Alike x (riR F nm) (oneD (fun e _ S k=>inX e.a S fun x=>G e x (wu e.m) S k) nm):=
 al_row fun e hy=>by
  obtain ⟨t,ht,h1,h2⟩:=hF.al x e hy (wu e.m) (rng_wu _)
  exact does_ok t ht (fun k=>by simp only [h1]) (fun k=>by simp only [inX_R hy.a,h2])
theorem al_rm (hu:uM x=true):Alike x (rmR F nm) (oneD (fun e _ S k=>adK e S fun p=>loadD e p 8 S fun y U=>inX e.a U fun x=>G e x y U k) nm):=
 al_row fun e hy=>by
  obtain ⟨p,hp,ha⟩:=adK_R hy hu
  obtain ⟨t,ht,h1,h2⟩:=hF.al x e hy (valLd e.A e.B e.C e.D e.E p 8) (valLd_rng _ _ _ _ _ _ _)
  exact does_ld p 8 t ht (fun k=>by simp only [ha,loadK_R hy.l hp,h1]) (fun k=>by simp only [ha,loadD_R hy.l hp,inX_R hy.a,h2])
end
end Go.Ra
