/-
  An instruction's bytes, as one list; Encode, May, Operands, Names. Conditions: none.
-/
import Derived.Test.YtbefgnmdliefjaaGreatDoorDm7
import Derived.Test.YtbefgnmdliefjaaGreatDoorPk11
import Derived.Test.YtbefgnmdliefjaaGreatDoorPk10
import Derived.Test.YtbefgnmdliefjaaGreatDoorPk14
import Derived.Test.YtbefgnmdliefjaaGreatDoorPk13
import Derived.Test.YtbefgnmdliefjaaGreatDoorPk12
open Go.IntKind (wrap i64 u64 u8)
open Go.Proofs.Tryz (prog)
open Bool renaming and_eq_true_iff→ZA0,and_eq_true→ZA2
open List renaming getD_eq_getElem?_getD→ZG0
open Nat renaming eq_of_beq_eq_true→ZG1
open Int renaming eq_ofNat_of_zero_le→ZI3
set_option linter.unusedVariables false
set_option linter.unusedSimpArgs false
namespace Go.Amd
open Go Go.Ab Go.Proofs
def tR (d:Int):Int:=cond (decide (1<d)) (cond (decide (2<d)) (cond (decide (4<d)) (cond (decide (8<d)) 4 3) 2) 1) 0
def gU (m a b c d:Int) (e:List Int):Int × List Int:=
 cond (cond (c==16) (cO b 7 != 4) false) (aS 0 a b,[aG m a b]++e)
  (jE (aS 0 a 4) (cond (c==16) 4 c) b,[aG m a 4]++[aG (tR d) (cond (c==16) 4 c) b]++e)
def dJ (a b c d n:Int):Int × List Int:=
 cond (b==17) (aS 0 a 5,[aG 0 a 5]++bV n)
  (cond (cond (n==0) (cO b 7 != 5) false) (gU 0 a b c d []) (cond (dC n) (gU 1 a b c d (dR n)) (gU 2 a b c d (bV n))))
def nT (f:Int):List Int:=cond (f==10) [100] []
def rF (f dg a b c d n:Int):Int:=
 cond (f==1) (bX 0 (gD a 1)) (cond (f==2) (bX 0 (gD a 1)) (cond (f==3) (aS 0 (wi dg) a) (cond (f==4) (aS 0 (wi dg) a) (cond (f==5) (aS 0 (wi dg) a) (cond (f==6) (aS 0 (wi dg) a)
  (cond (f==7) (aS 0 b a) (cond (f==8) (aS 0 a b) (cond (f==9) (dJ a b c d n).1 (cond (f==10) (aS 0 a 4) 0)))))))))
def XV (f dg a b c d n:Int):List Int:=
 cond (f==2) (qF n) (cond (f==3) [aG 3 (wi dg) a] (cond (f==4) ([aG 3 (wi dg) a]++bV n) (cond (f==5) ([aG 3 (wi dg) a]++dR n) (cond (f==6) ([aG 3 (wi dg) a]++cond (dC n) (dR n) (bV n))
  (cond (f==7) [aG 3 b a] (cond (f==8) [aG 3 a b] (cond (f==9) (dJ a b c d n).2 (cond (f==10) ([aG 0 a 4]++[37]++bV n) (cond (f==11) (bV n) (cond (f==12) (dR n) []))))))))))
def M0 (f:Int) (b:Bool) (l a d n:Int):Int:=
 cond (f==1) (w8 (l+w8 (cO a 7))) (cond (f==2) (w8 (l+w8 (cO a 7))) (cond (f==6) (cond (dC n) l 129) (cond b (w8 (l+w8 d)) l)))
def hY (a R:Int):List Int:=cond (a==0) (cond (R != 0) [bX 64 R] []) [bX 64 (cond (a==1) (bX R 8) R)]
def bY (a:Int):List Int:=cond (decide (255<a)) [w8 (Int.fdiv a (2 ^ 8))] []
def F9 (x:RowT) (i:aE):List Int:=
 nT (aA x)++hY x.2.1 (rF (aA x) x.2.2.2.2.1 i.2.1 i.2.2.1 i.2.2.2.1 i.2.2.2.2.1 i.2.2.2.2.2)++(bY x.2.2.1++[M0 (aA x) (bI x) (w8 x.2.2.1) i.2.1 i.2.2.2.2.1 i.2.2.2.2.2]) ++
  XV (aA x) x.2.2.2.2.1 i.2.1 i.2.2.1 i.2.2.2.1 i.2.2.2.2.1 i.2.2.2.2.2
noncomputable def ZH:Cx:={ P:=prog,n:=18,tab:=[(51,WU),(52,LB)],mtab:=[],refs:=[],keeps:=[0,1,2,3,4] }
def rowFine (x:RowT):Bool:=eO x&&kindOk x
theorem aXM:aD.all rowFine=true:=by kernel_rfl
theorem aXJ {nm:List UInt8} (h:fI nm=true):rowFine (dW nm)=true:=by
 unfold fI at h;unfold dW
 cases a:qW nm aD with
 | none=>rw [a] at h; cases h
 | some r=>exact List.all_eq_true.1 aXM r (List.mem_of_find?_eq_some a)
theorem aXY {nm:List UInt8} (h:fI nm=true):eO (dW nm)=true:=(ZA0.1 (aXJ h)).1
def cX (i:aE):Int:=cond (fI i.1) (c8 (dW i.1) i) 7
def iB (i:aE):List Int:=F9 (dW i.1) i
abbrev mZ:V:=.val (.slice none 0 0)
theorem iX {x:RowT} {i:aE} (h:c8 x i=0):okF x i.2.1 i.2.2.1 i.2.2.2.1 i.2.2.2.2.1=true:=by
 unfold c8 tU at h;cases a:okF x i.2.1 i.2.2.1 i.2.2.2.1 i.2.2.2.2.1
 ·rw [a] at h; cases h
 ·rfl
def YS (i:aE):Tree V:=.br (fI i.1) (.br (eO (dW i.1)) (.leaf (.bool (c8 (dW i.1) i==0))) .fail) (.leaf (.bool false))
theorem a7F (i:aE):(a7 ZH Tryz.f26 [.agg (N2 i)]).run=(YS i).run:=
 (show (a7 ZH Tryz.f26 [.agg (N2 i)]).run=(YS i).out by kernel_rfl).trans (Tree.out_run _)
def ZY:Ab.Spec:=fun args=>match args with
 | [.agg [.str nm,.int .i64 a,.int .i64 b,.int .i64 c,.int .i64 d,.int .i64 n]]=>.leaf (.bool (cX (nm,a,b,c,d,n)==0))
 | _=>.fail
theorem SO:Sound prog 26 ZY:=by
 intro args out h;unfold ZY at h;split at h;rotate_left
 ·cases h
 rename_i nm a b c d n;refine cE (cx:=ZH) (fn:=Tryz.f26) (bU (.cons a0K (dT aCL)) (.nil _) rfl rfl) (by kernel_rfl) (by kernel_rfl) (by kernel_rfl) ?_;refine (a7F (nm,a,b,c,d,n)).trans ?_;rw [<- h];unfold YS cX;simp only;cases e:(fI nm)
 ·rfl
 rw [aXY e];rfl
end Go.Amd

namespace Go.Amd
open Go Go.Ab Go.Proofs
theorem VO:vU prog 148 B0:=aYA (fn:=Tryz.f148) (by kernel_rfl) (by kernel_rfl) (by kernel_rfl) (by rfl) (by rfl)
theorem aLP:vU prog 147 GG:=aZ8 (fn:=Tryz.f147) (by kernel_rfl) (by kernel_rfl) (by kernel_rfl) (by rfl) (by rfl)
theorem aM2:vU prog 263 E9:=aU2 (fn:=Tryz.f263) (by kernel_rfl) (by kernel_rfl) (by kernel_rfl) (by kernel_rfl) (by kernel_rfl)
noncomputable def aN4:Tabs:={ tab:=[(26,ZY),(148,B0),(147,GG),(263,E9)] }
theorem a44:aN4.Ok prog:=⟨.cons SO (.consX VO (.consX aLP (.consX aM2 (.nil _)))),(fun p h=>by cases h),.nil _,fun p h=>by cases h⟩
noncomputable def aI1:List Fi:=[⟨97,Tryz.f97,[0,1,4,5,6],[],0,[]⟩,⟨143,Tryz.f143,[0,1,4,5,6,7,12],[],0,[]⟩,⟨200,Tryz.f200,[0,1,4,5,6,7,8,9,10,11,12,13,16,24,31,36,59,64,73,93,107,114,132,139],[],40,[]⟩,⟨239,Tryz.f239,[0,1,4],[],0,[]⟩,⟨12,Tryz.f12,[0,1,2,4,5,7,8,12,16,20,28,32,39],[],0,[]⟩,⟨152,Tryz.f152,[0,1,4,5,6,7,10],[],0,[]⟩,⟨29,Tryz.f29,[0,2],[],0,[]⟩,⟨45,Tryz.f45,[0,1,4,5,6],[],0,[]⟩]
theorem aUD:fY prog aI1:=⟨⟨by kernel_rfl,by kernel_rfl⟩,⟨by kernel_rfl,by kernel_rfl⟩,⟨by kernel_rfl,by kernel_rfl⟩,⟨by kernel_rfl,by kernel_rfl⟩,⟨by kernel_rfl,by kernel_rfl⟩,⟨by kernel_rfl,by kernel_rfl⟩,⟨by kernel_rfl,by kernel_rfl⟩,⟨by kernel_rfl,by kernel_rfl⟩,trivial⟩
noncomputable def aIW:List Fi:=[⟨21,Tryz.f21,[0],[],0,[]⟩,⟨15,Tryz.f15,[0,1,2,4,5,6,7,8,9,10,19,28],[],0,[]⟩,⟨16,Tryz.f16,[0,1,2,6,7,8,9,15,17,18,19,33,45],[],12,[]⟩,⟨30,Tryz.f30,[0,2],[],0,[]⟩,⟨31,Tryz.f31,[0,1,2,3,8,9,10,11,12,14,27,33,53],[],4,[]⟩,⟨33,Tryz.f33,[0,1,4],[],0,[]⟩,⟨146,Tryz.f146,[0,3],[],0,[]⟩,⟨28,Tryz.f28,[0,14],[],0,[]⟩,⟨53,Tryz.f53,[0,2,3,4,16,17,33,44,46,47],[],0,[]⟩,⟨98,Tryz.f98,[0,1,2,6,7,18,19,29,39,47,58,69,80],[],0,[]⟩,⟨102,Tryz.f102,[0,1,2,3,8,9,10,11],[],0,[]⟩,⟨149,Tryz.f149,[0,1],[],0,[]⟩,⟨144,Tryz.f144,[0,1,4],[],0,[]⟩]
theorem aUS:fY prog aIW:=⟨⟨by kernel_rfl,by kernel_rfl⟩,⟨by kernel_rfl,by kernel_rfl⟩,⟨by kernel_rfl,by kernel_rfl⟩,⟨by kernel_rfl,by kernel_rfl⟩,⟨by kernel_rfl,by kernel_rfl⟩,⟨by kernel_rfl,by kernel_rfl⟩,⟨by kernel_rfl,by kernel_rfl⟩,⟨by kernel_rfl,by kernel_rfl⟩,⟨by kernel_rfl,by kernel_rfl⟩,⟨by kernel_rfl,by kernel_rfl⟩,⟨by kernel_rfl,by kernel_rfl⟩,⟨by kernel_rfl,by kernel_rfl⟩,⟨by kernel_rfl,by kernel_rfl⟩,trivial⟩
noncomputable def runT (d:Nat):Tabs:=deep prog aN4 aI1 aIW d
theorem FQ (d:Nat):(runT d).Ok prog:=qN a44 aUD aUS d
noncomputable def WX:Cx:={ P:=prog,n:=Tryz.f11.ntmps,tab:=(runT 6).tab,mtab:=(runT 6).mtab,rtab:=(runT 6).rtab,refs:=[],keeps:=[0,1,2,3,4,5,8,9,10,11,12,13,21,39,40,57],nums:=(runT 6).nums }
noncomputable def zY:Cx:={ P:=prog,n:=14,tab:=[],mtab:=[],refs:=[],keeps:=[0,1,2,3,6,7,9,11,12] }
noncomputable def runM:MSpec:=fun args H=>.aF (Nat.ble args.length Tryz.f11.ntmps) (zU WX zY Tryz.f11 27 Tryz.f27 args H)
theorem a1K:aW WX:=FQ 6
theorem a74:bP prog 11 runM:=by
 intro args H r h;unfold runM at h;obtain ⟨a,h⟩:=aM h;exact P0 (cx:=WX) (cl:=zY) (fn:=Tryz.f11) (fg:=Tryz.f27) a1K (dO rfl rfl) rfl (by kernel_rfl) (by kernel_rfl) (by kernel_rfl) (by kernel_rfl) a h
end Go.Amd

namespace Go.Ra
open Go Go.Ab Go.Proofs
noncomputable def YA:Cx:={ P:=prog,n:=55,tab:=[],mtab:=[],refs:=[],keeps:=[0,1,2,4,5,7,8,12,16,20,28,32,39] }
def jB (d:Int):Int:=wrap .i64 ((BitVec.toNat (BitVec.ofInt 64 d &&& ~~~BitVec.ofInt 64 1):Nat):Int)
def kS (d:Int):Bool:=wrap .i64 ((BitVec.toNat (BitVec.ofInt 64 d &&& BitVec.ofInt 64 1):Nat):Int)==0
def bO (b:Bool):Option V:=some (.bool b)
def hoV (z n c v:Bool) (d:Int):Option V:=
 cond (jB d==0) (bO (v==kS d)) (cond (jB d==2) (bO (c==kS d)) (cond (jB d==4) (bO (z==kS d)) (cond (jB d==6) (cond c (bO (true==kS d)) (bO (z==kS d)))
  (cond (jB d==8) (bO (n==kS d)) (cond (jB d==12) (bO ((!n==v)==kS d)) (cond (jB d==14) (cond z (bO (true==kS d)) (bO ((!n==v)==kS d))) (bO false)))))))
def oF (z n c v:Bool) (d:Int):Bool:=
 cond (jB d==0) (v==kS d) (cond (jB d==2) (c==kS d) (cond (jB d==4) (z==kS d) (cond (jB d==6) (cond c (true==kS d) (z==kS d))
  (cond (jB d==8) (n==kS d) (cond (jB d==12) ((!n==v)==kS d) (cond (jB d==14) (cond z (true==kS d) ((!n==v)==kS d)) false))))))
theorem afA (z n c v:Bool) (d:Int):hoV z n c v d=some (.bool (oF z n c v d)):=by
 unfold hoV oF;cases jB d==0 <;> cases jB d==2 <;> cases jB d==4 <;> cases jB d==6 <;> cases jB d==8 <;> cases jB d==12 <;> cases jB d==14 <;> cases c <;> cases z <;> rfl
theorem ajL (p D E F G H I J K L M a b e f g h i j k l m o q r s t u w x y A B C:Int) (z n c v:Bool) (d:Int):(a7 YA Tryz.f12 [.agg (DN p [D,E,F,G,H,I,J,K,L,M,a,b,e,f,g,h,i,j,k,l,m,o,q,r,s,t,u,w,x,y,A,B] z n c v C),.int .i64 d]).fin=hoV z n c v d:=by kernel_rfl
def hoS:Ab.Spec:=fun args=>match args with
 | [.agg cs,.int .i64 d]=>match wF cs with
  | some s=>.leaf (.bool (oF s.z s.n s.c s.v d))
  | none=>.fail
 | _=>.fail
theorem aeF:Sound prog 12 hoS:=by
 intro args out h;unfold hoS at h;split at h;rotate_left
 ·cases h
 rename_i cs d;split at h;rotate_left
 ·cases h
 rename_i s a;cases h;obtain ⟨rfl,hl⟩:=A4 a;refine cE (cx:=YA) (fn:=Tryz.f12) (dO rfl rfl) (by kernel_rfl) (by kernel_rfl) (by kernel_rfl) ?_;rw [<- Tree.bJ,<- afA];have e:=ajL s.pc (s.x.getD 0 0) (s.x.getD 1 0) (s.x.getD 2 0) (s.x.getD 3 0) (s.x.getD 4 0) (s.x.getD 5 0) (s.x.getD 6 0) (s.x.getD 7 0) (s.x.getD 8 0) (s.x.getD 9 0) (s.x.getD 10 0) (s.x.getD 11 0) (s.x.getD 12 0) (s.x.getD 13 0) (s.x.getD 14 0) (s.x.getD 15 0) (s.x.getD 16 0) (s.x.getD 17 0) (s.x.getD 18 0) (s.x.getD 19 0) (s.x.getD 20 0) (s.x.getD 21 0) (s.x.getD 22 0) (s.x.getD 23 0) (s.x.getD 24 0) (s.x.getD 25 0) (s.x.getD 26 0) (s.x.getD 27 0) (s.x.getD 28 0) (s.x.getD 29 0) (s.x.getD 30 0) (s.x.getD 31 0) s.th s.z s.n s.c s.v d
 exact (congrArg (fun t:CpuT=>(a7 YA Tryz.f12 [.agg t.l,.int .i64 d]).fin) (qP hl)).symm.trans e
noncomputable def aNO:Cx:={ P:=prog,n:=24,tab:=[(148,B0)],mtab:=[],refs:=[],keeps:=[0,1,4,5,6,7,10] }
def kP (x:Int):Int:=wrap .u64 ((BitVec.toNat (BitVec.ofInt 64 (IntKind.max .u64) ^^^ BitVec.ofInt 64 x):Nat):Int)
def qV (c:Bool) (k:Option V):Option V:=cond c k none
theorem afO (h l:Int):(a7 aNO Tryz.f152 [.int .u64 h,.int .u64 l]).fin =
  cond (decide (0<=wi h)) (some (.tup [.int .u64 h,.int .u64 l,.bool false])) (qV (decide (0<=kP l)&&decide ((0:Int)<=1)&&decide ((0:Int)<=0)&&decide ((0:Int)<=1)) (some (.tup [.int .u64 (wu (kP h+(kP l+1+0) / 18446744073709551616)),.int .u64 ((kP l+1+0) % 18446744073709551616),.bool true]))):=by kernel_rfl
def kQ (h l:Int):Int:=cond (decide (0<=wi h)) h ((340282366920938463463374607431768211456 - (h*18446744073709551616+l)) / 18446744073709551616)
def m4 (h l:Int):Int:=cond (decide (0<=wi h)) l ((340282366920938463463374607431768211456 - (h*18446744073709551616+l)) % 18446744073709551616)
theorem TR {x:Int} (h:rng64 x=true):kP x=18446744073709551615 - x:=by
 simp only [rng64,ZA2,decide_eq_true_eq] at h;obtain ⟨m,rfl⟩:=ZI3 h.1
 have b:m<2 ^ 64:=by omega
 unfold kP
 have e:BitVec.ofInt 64 (IntKind.max u64)=BitVec.allOnes 64:=by decide
 have a:(BitVec.ofInt 64 (m:Int)).toNat=m:=by
  rw [BitVec.toNat_ofInt];omega
 rw [e,BitVec.allOnes_xor,BitVec.toNat_not,a];show wu _=_;rw [fS];omega
theorem dV {x:Int} (h:rng64 x=true):0<=x/\x<18446744073709551616:=by
 simpa only [rng64,ZA2,decide_eq_true_eq] using h
theorem vS {x:Int} (a:0<=x) (b:x<18446744073709551616):rng64 x=true:=by
 simp only [rng64,ZA2,decide_eq_true_eq];exact ⟨a,b⟩
theorem LS (y:Int):wi y=if 9223372036854775808<=y % 18446744073709551616 then y % 18446744073709551616 - 18446744073709551616 else y % 18446744073709551616:=by
 unfold wi wrap;simp [IntKind.bits,IntKind.signed]
def X8:Ab.Spec:=fun args=>match args with
 | [.int .u64 h,.int .u64 l]=>.aF (rng64 h&&rng64 l) (.leaf (.tup [.int .u64 (kQ h l),.int .u64 (m4 h l),.bool (!decide (0<=wi h))]))
 | _=>.fail
theorem a8A:Sound prog 152 X8:=by
 intro args out g;unfold X8 at g;split at g;rotate_left
 ·cases g
 rename_i h l;obtain ⟨e,g⟩:=aM g;cases g;obtain ⟨b,g2⟩:=ZA0.1 e;refine cE (cx:=aNO) (fn:=Tryz.f152) (bU (.consX Go.Amd.VO (.nil _)) (.nil _) rfl rfl) (by kernel_rfl) (by kernel_rfl) (by kernel_rfl) ?_;rw [<- Tree.bJ,afO];obtain ⟨f,a1⟩:=dV b;obtain ⟨i,b1⟩:=dV g2;unfold kQ m4;cases a:decide (0<=wi h)
 ·have a:=of_decide_eq_false a
  have j:9223372036854775808<=h:=by
   rw [LS] at a;split at a <;> omega
  rw [TR g2,TR b,decide_eq_true (by omega:(0:Int)<=18446744073709551615 - l)]
  have c:wu (18446744073709551615 - h+(18446744073709551615 - l+1+0) / 18446744073709551616)=(340282366920938463463374607431768211456 - (h*18446744073709551616+l)) / 18446744073709551616:=by
   rw [fS];omega
  have d:(18446744073709551615 - l+1+0) % 18446744073709551616=(340282366920938463463374607431768211456 - (h*18446744073709551616+l)) % 18446744073709551616:=by
   omega
  rw [c,d];rfl
 ·rfl
def OX (mb:bZ->Bool):Ab.Spec:=fun args=>match args with
 | [.agg [.str nm,.int .i64 a,.int .i64 b,.int .i64 c,.int .i64 d,.int .i64 m]]=>.leaf (.bool (mb (nm,a,b,c,d,m)))
 | _=>.fail
noncomputable def XN:Cx:={ P:=prog,n:=Tryz.f100.ntmps,tab:=[],mtab:=[],refs:=[],keeps:=[0,2,3,15,40],lz:=[32,51] }
theorem abI:nF prog 100 (HP XN Tryz.f100):=SV (cx:=XN) (fn:=Tryz.f100) (dO rfl rfl) (by kernel_rfl) (by kernel_rfl) (by kernel_rfl) (by kernel_rfl)
section
variable (mb:bZ->Bool)
noncomputable def ruB:Tabs:={ tab:=[(26,OX mb),(148,B0),(147,GG),(263,E9),(150,ZK),(151,VV),(12,hoS),(152,X8)],mtab:=[(145,WO),(13,UF)],rtab:=[(100,HP XN Tryz.f100)],nums:=[100] }
noncomputable def aKV:List Fi:=[⟨97,Tryz.f97,[0,1,4,5,6],[],0,[]⟩,⟨143,Tryz.f143,[0,1,4,5,6,7,12],[],0,[]⟩,⟨200,Tryz.f200,[0,1,4,5,6,7,8,9,10,11,12,13,16,24,31,36,59,64,73,93,107,114,132,139],[],40,[]⟩,⟨239,Tryz.f239,[0,1,4],[],0,[]⟩]
theorem aXD:fY prog aKV:=⟨⟨by kernel_rfl,by kernel_rfl⟩,⟨by kernel_rfl,by kernel_rfl⟩,⟨by kernel_rfl,by kernel_rfl⟩,⟨by kernel_rfl,by kernel_rfl⟩,trivial⟩
noncomputable def aLA:List Fi:=[⟨146,Tryz.f146,[0,3],[],0,[]⟩,⟨28,Tryz.f28,[0,14],[],0,[]⟩,⟨53,Tryz.f53,[0,2,3,4,16,17,33,44,46,47],[],0,[30]⟩,⟨98,Tryz.f98,[0,1,2,6,7,18,19,29,39,47,58,69,80],[],0,[7,17,21,23,24,28,31,33,34,38,42,43,49,51,52,57,60,62,63,68,71,73,74,79,83,84]⟩,⟨102,Tryz.f102,[0,1,2,3,8,9,10,11],[],0,[]⟩,⟨149,Tryz.f149,[0,1],[],0,[]⟩,⟨144,Tryz.f144,[0,1,4],[],0,[]⟩,⟨54,Tryz.f54,[0,2,3,4,17,18,30,38,46,54,65,73,79,88,97,106,121,129,140],[],0,[4,15,20,27,29,33,37,40,45,48,53,56,64,67,72,75,78,84,85,93,94,102,103,108,120,130,137,139]⟩,⟨55,Tryz.f55,[0,2,3,18,19,27,36,41,45,49,67,86,93],[],0,[3,13,21,22,23,26,29,31,32,35,89,90,95,98]⟩,⟨104,Tryz.f104,[0,2],[],0,[12]⟩,⟨105,Tryz.f105,[0,2,3,4,5,6,7,8,40,58,67],[],0,[18]⟩,⟨103,Tryz.f103,[0,2,3,4,5,6,7,13,83,89],[],0,[30,62,73,103]⟩,⟨106,Tryz.f106,[0,1,2,6,7,9,20,37,52],[],0,[6,19,21,22,28,29,30,36,39,40,46,47,51,54,55,61,62,66,68,69]⟩,⟨107,Tryz.f107,[0,1],[],0,[]⟩,⟨108,Tryz.f108,[0,2,3],[],0,[]⟩,⟨56,Tryz.f56,[0,2,3,4,18,19,31,51,58,67,72,85],[],0,[39,81]⟩,⟨99,Tryz.f99,[0,1,2,6,7,8],[],0,[]⟩,⟨101,Tryz.f101,[0,1,2,3],[],0,[]⟩]
theorem aXO:fY prog aLA:=⟨⟨by kernel_rfl,by kernel_rfl⟩,⟨by kernel_rfl,by kernel_rfl⟩,⟨by kernel_rfl,by kernel_rfl⟩,⟨by kernel_rfl,by kernel_rfl⟩,⟨by kernel_rfl,by kernel_rfl⟩,⟨by kernel_rfl,by kernel_rfl⟩,⟨by kernel_rfl,by kernel_rfl⟩,⟨by kernel_rfl,by kernel_rfl⟩,⟨by kernel_rfl,by kernel_rfl⟩,⟨by kernel_rfl,by kernel_rfl⟩,⟨by kernel_rfl,by kernel_rfl⟩,⟨by kernel_rfl,by kernel_rfl⟩,⟨by kernel_rfl,by kernel_rfl⟩,⟨by kernel_rfl,by kernel_rfl⟩,⟨by kernel_rfl,by kernel_rfl⟩,⟨by kernel_rfl,by kernel_rfl⟩,⟨by kernel_rfl,by kernel_rfl⟩,⟨by kernel_rfl,by kernel_rfl⟩,trivial⟩
noncomputable def AN (d:Nat):Tabs:=deep prog (ruB mb) aKV aLA d
noncomputable def F4:Cx:={ P:=prog,n:=Tryz.f11.ntmps,tab:=(AN mb 6).tab,mtab:=(AN mb 6).mtab,rtab:=(AN mb 6).rtab,refs:=[],keeps:=[0,1,2,3,4,5,8,9,10,11,12,13,21,39,40,57],lz:=[],nums:=(AN mb 6).nums }
noncomputable def zY:Cx:={ P:=prog,n:=14,tab:=[],mtab:=[],refs:=[],keeps:=[0,1,2,3,6,7,9,11,12] }
abbrev bR:=CpuT->Int->Int->Int->Int->Int->Int->List Int->List Int->List Int->List Int->List Int->Option Res
noncomputable def aP5 (nm:List UInt8):bR:=fun s a b c d m e A B C D E=>((zU (F4 mb) zY Tryz.f11 27 Tryz.f27 [.agg s.l,lV nm a b c d m,.int .i64 e,.ptr 0 0] (aR A B C D E)).bind (wQ 7 [])).fin
end
end Go.Ra

namespace Go.Ra
open Go Go.Ab Go.Proofs
def q (c:Bool) (k:Option Res):Option Res:=cond c k none
def j8 (s:CpuT) (e:Int) (H:List O):Option Res:=some (.ok (.tup [.agg s.l,.int .i64 0,.int .i64 e]) H)
def sN (L:List V) (a:Int) (H:List O):Option Res:=some (.ok (.tup [.agg L,.int .i64 a,.int .i64 0]) H)
def l8 (a b:Int):Int:=wrap .u64 (((BitVec.ofInt 64 a ||| BitVec.ofInt 64 b).toNat:Nat):Int)
def gB (a b:Int):Int:=wrap .u64 (((BitVec.ofInt 64 a ^^^ BitVec.ofInt 64 b).toNat:Nat):Int)
section
variable (mb:bZ->Bool)
def aO3 (nm:List UInt8) (K:bR):bR:=fun s a b c d m e A B C D E =>
 cond (!mb (nm,a,b,c,d,m)) (j8 s 22 (aR A B C D E)) (K s a b c d m e A B C D E)
def Y1 (nm:List UInt8) (K:bR):bR:=fun s a b c d m e A B C D E =>
 cond (decide (e<1)) (j8 s 1 (aR A B C D E)) (cond (decide (16<e)) (j8 s 1 (aR A B C D E)) (aO3 mb nm K s a b c d m e A B C D E))
end
structure EnvR where
 nm:List UInt8
 s:CpuT
 a:Int
 b:Int
 c:Int
 d:Int
 m:Int
 bk:Int
 A:List Int
 B:List Int
 C:List Int
 D:List Int
 E:List Int
def Z9 (e:EnvR):List V:=e.s.l++[.ptr 1 0,.str e.nm,.int .i64 e.a,.int .i64 e.b,.int .i64 e.c,.int .i64 e.d,.int .i64 e.m,.int .u64 e.bk,.int .u64 e.bk]
abbrev KS:=List V->Option Res
def aH (a:Int) (k:Option Res):Option Res:=q (inside a 32) k
def iI (a:Int) (S:List V) (k:Int->Option Res):Option Res:=q (n9 .u64 S (1+a.toNat*1)) (k (pJ S (1+a.toNat*1)))
def aL (b:Int) (S:List V) (k:Int->Option Res):Option Res:=q (inside b 32) (iI b S k)
def eF (a v:Int) (S:List V) (k:KS):Option Res:=q (n9 .u64 S (1+a.toNat*1)) (k (j9 .u64 (1+a.toNat*1) v 0 S))
def uE (H:List O):KS:=fun S=>sN (S.getD 45 .any :: (S.drop 1).take 37) 0 H
abbrev wR:=EnvR->List V->KS->Option Res
def eZ (s:CpuT) (nm:List UInt8) (a b c d m e:Int) (A B C D E:List Int):EnvR:=⟨nm,s,a,b,c,d,m,wu (s.pc+wu e),A,B,C,D,E⟩
def aZ (f:wR) (nm:List UInt8):bR:=fun s a b c d m e A B C D E =>
 f (eZ s nm a b c d m e A B C D E) (Z9 (eZ s nm a b c d m e A B C D E)) (uE (aR A B C D E))
def rT (e:EnvR):Option Res:=j8 e.s 21 (aR e.A e.B e.C e.D e.E)
def wG (f:wR):wR:=fun e S k=>aL e.b S fun _=>aH e.a (f e S k)
def sE (f:wR):wR:=fun e S k=>aH e.a (f e S k)
def aND (x:Int) (S:List V):List V:=(S.set 33 (.bool (x==0))).set 34 (.bool (decide (wi x<0)))
def DL (x:Int) (v c:Bool) (S:List V):List V:=((aND x S).set 36 (.bool v)).set 35 (.bool c)
def Y9 (a b:Int) (S:List V) (k:Int->KS):Option Res:=
 q (decide (0<=a)&&decide (0<=b)&&decide ((0:Int)<=0)&&decide ((0:Int)<=1))
  (k ((a+b+0) % 18446744073709551616) (DL ((a+b+0) % 18446744073709551616) (decide (wi (bG (gB a ((a+b+0) % 18446744073709551616)) (gB b ((a+b+0) % 18446744073709551616)))<0)) ((a+b+0) / 18446744073709551616 != 0) S))
def AH (a b:Int) (S:List V) (k:Int->KS):Option Res:=
 q (decide (0<=a)&&decide (0<=b)&&decide (a<18446744073709551616)&&decide (b<18446744073709551616)&&decide ((0:Int)<=0)&&decide ((0:Int)<=1))
  (k ((a - b - 0) % 18446744073709551616) (DL ((a - b - 0) % 18446744073709551616) (decide (wi (bG (gB a b) (gB a ((a - b - 0) % 18446744073709551616)))<0)) (cond (decide (a<b+0)) (1:Int) 0 != 0) S))
def OY (x:Int) (S:List V):List V:=DL x false false S
abbrev TwoR:=EnvR->Int->List V->KS->Option Res
def w9:TwoR:=fun e y S k=>aH e.a (iI e.a S fun x=>Y9 x y S fun v T=>eF e.a v T k)
def xB:TwoR:=fun e y S k=>aH e.a (iI e.a S fun x=>AH x y S fun v T=>eF e.a v T k)
def xF:TwoR:=fun e y S k=>aH e.a (iI e.a S fun x=>AH x y S fun _ T=>k T)
def jW (f:Int->Int->Int):TwoR:=fun e y S k=>aH e.a (iI e.a S fun x=>eF e.a (f x y) (OY (f x y) S) k)
def NG:TwoR:=fun e y S k=>aH e.a (iI e.a S fun x=>k (OY (bG x y) S))
def m5 (f:TwoR):List UInt8->bR:=aZ fun e S k=>aL e.b S fun y=>f e y S k
def o5 (f:TwoR):List UInt8->bR:=aZ fun e S k=>f e (wu e.m) S k
def OM (e:EnvR) (S:List V) (x:Int) (k:Int->Option Res):Option Res:=cond (e.c != 16) (aL e.c S fun y=>k (wu (x+wu (y*wu e.d)))) (k x)
def dB (e:EnvR) (S:List V) (k:Int->Option Res):Option Res:=cond (e.b==17) (OM e S (wu (wu e.m+e.bk)) k) (aL e.b S fun y=>OM e S (wu (wu e.m+y)) k)
def pI (at_ n:Int):Int:=cond (cM at_ n 4) 0 21
def oL (A B C D E:List Int) (at_ n:Int):Int:=cond (cM at_ n 4) (xI A B C D E at_ n.toNat 0) 0
def wC (at_ n:Int):Int:=cond (cM at_ n 2) 0 21
def CW (e:EnvR) (at_ n:Int) (k:Int->Option Res):Option Res:=
 q (lens5 e.A e.B e.C e.D e.E) (q (rng64 at_&&true) (cond (!(pI at_ n==0)) (rT e) (k (oL e.A e.B e.C e.D e.E at_ n))))
def GR (e:EnvR) (at_ n v:Int) (k:List O->Option Res):Option Res:=
 q (lens5 e.A e.B e.C e.D e.E) (q (rng64 at_&&true) (cond (!(wC at_ n==0)) (j8 e.s 21 (aR (b9 1 at_ n v e.A) (b9 2 at_ n v e.B) (b9 16 at_ n v e.C) (b9 17 at_ n v e.D) (b9 32 at_ n v e.E)))
  (k (aR (b9 1 at_ n v e.A) (b9 2 at_ n v e.B) (b9 16 at_ n v e.C) (b9 17 at_ n v e.D) (b9 32 at_ n v e.E)))))
def o6 (f:TwoR):List UInt8->bR:=aZ fun e S k=>dB e S fun x=>CW e x 8 fun y=>f e y S k
def uV (n:Int) (g:Int->Int):List UInt8->bR:=aZ fun e S k=>aH e.a (dB e S fun x=>CW e x n fun y=>eF e.a (g y) S k)
def fsR:List UInt8->bR:=aZ fun e S k=>aH e.a (CW e (wu (e.s.th+wu e.m)) 8 fun y=>eF e.a y S k)
def xO (f:EnvR->List V->(List V->List O->Option Res)->Option Res) (nm:List UInt8):bR:=fun s a b c d m e A B C D E =>
 f (eZ s nm a b c d m e A B C D E) (Z9 (eZ s nm a b c d m e A B C D E)) (fun S H=>uE H S)
def xQ (n:Int):List UInt8->bR:=xO fun e S k=>aH e.a (dB e S fun x=>iI e.a S fun y=>GR e x n y fun H=>k S H)
def iG (e:EnvR):Int:=e.s.x.getD 4 0
def CO (e:EnvR) (v:Int) (S:List V) (k:List V->List O->Option Res):Option Res:=GR e (wu (iG e - 8)) 8 v fun H=>k (S.set 5 (.int .u64 (wu (iG e - 8)))) H
def N6 (e:EnvR) (S:List V) (k:Int->KS):Option Res:=CW e (iG e) 8 fun y=>k y (S.set 5 (.int .u64 (wu (iG e+8))))
def NC:List UInt8->bR:=xO fun e S k=>aH e.a (aH e.a (iI e.a S fun y=>CO e y S k))
def YZ:List UInt8->bR:=aZ fun e S k=>aH e.a (aH e.a (N6 e S fun y T=>eF e.a y T k))
def gN (e:EnvR):Int:=wu (e.bk+wu e.m)
def lO:List UInt8->bR:=xO fun e S k=>aH e.a (aH e.a (CO e e.bk S fun T H=>k (T.set 45 (.int .u64 (gN e))) H))
def LV:List UInt8->bR:=xO fun e S k=>aH e.a (aH e.a (aL e.a S fun y=>CO e e.bk S fun T H=>k (T.set 45 (.int .u64 y)) H))
def YM:List UInt8->bR:=aZ fun e S k=>aH e.a (aH e.a (N6 e S fun y T=>k (T.set 45 (.int .u64 y))))
def YE (_:List UInt8):bR:=fun s _ _ _ _ _ a A B C D E=>sN (({ s with pc:=wu (s.pc+wu a),x:=s.x.set 1 (wu (s.pc+wu a)) }:CpuT).l) 1 (aR A B C D E)
def udR (_:List UInt8):bR:=fun s _ _ _ _ _ _ A B C D E=>sN s.l 2 (aR A B C D E)
def wT (b:Bool) (S:List V):List V:=(S.set 35 (.bool b)).set 36 (.bool b)
def OE (e:EnvR) (S:List V) (k:KS):Option Res:=aL e.a S fun y=>q (rng64 (e.s.x.getD 0 0)&&rng64 y)
 (k (wT (qX (e.s.x.getD 0 0) y != 0) ((S.set 1 (.int .u64 (wu (e.s.x.getD 0 0*y)))).set 3 (.int .u64 (qX (e.s.x.getD 0 0) y)))))
def qY (x:Int):Bool:=decide (wi x<0)
def D7 (e:EnvR) (low h:Int) (S:List V) (k:KS):Option Res:=aH e.a (eF e.a low S fun T=>k (wT (h != wu (Int.fdiv (wi low) (2 ^ 63))) T))
def ND (e:EnvR) (S:List V) (k:KS):Option Res:=aL e.a S fun x=>aL e.b S fun y=>q (rng64 x&&rng64 y)
 (cond (qY x) (cond (qY y) (D7 e (wu (x*y)) (wu (wu (qX x y - y) - x)) S k) (D7 e (wu (x*y)) (wu (qX x y - y)) S k)) (cond (qY y) (D7 e (wu (x*y)) (wu (qX x y - x)) S k) (D7 e (wu (x*y)) (qX x y) S k)))
def ZN:List UInt8->bR:=aZ fun e S k=>aH e.a (aH e.a (aL e.a S fun y=>cond (!decide (e.s.x.getD 2 0<y)) (rT e)
 (q (rng64 (e.s.x.getD 2 0)&&(rng64 (e.s.x.getD 0 0)&&(rng64 y&&decide (e.s.x.getD 2 0<y)))) (k ((S.set 1 (.int .u64 (nM (e.s.x.getD 2 0) (e.s.x.getD 0 0) y))).set 3 (.int .u64 (pF (e.s.x.getD 2 0) (e.s.x.getD 0 0) y)))))))
def PD (neg:Bool) (S:List V) (k:KS) (a r:Int):Option Res:=cond neg (k ((S.set 1 (.int .u64 a)).set 3 (.int .u64 (wu (0 - r))))) (k ((S.set 1 (.int .u64 a)).set 3 (.int .u64 r)))
def D9 (e:EnvR) (S:List V) (k:KS) (neg:Bool) (h l y a:Int):Option Res:=
 cond (!decide (h<a)) (rT e) (q (rng64 h&&(rng64 l&&(rng64 a&&decide (h<a))))
  (cond (!(neg==decide (wi y<0))) (cond (!decide (nM h l a<=9223372036854775808)) (rT e) (PD neg S k (wu (0 - nM h l a)) (pF h l a)))
   (cond (!decide (nM h l a<=9223372036854775807)) (rT e) (PD neg S k (nM h l a) (pF h l a)))))
def WH:List UInt8->bR:=aZ fun e S k=>aH e.a (aH e.a (aL e.a S fun y=>q (rng64 (e.s.x.getD 2 0)&&rng64 (e.s.x.getD 0 0))
 (cond (decide (wi y<0)) (D9 e S k (!decide (0<=wi (e.s.x.getD 2 0))) (kQ (e.s.x.getD 2 0) (e.s.x.getD 0 0)) (m4 (e.s.x.getD 2 0) (e.s.x.getD 0 0)) y (wu (0 - y)))
  (D9 e S k (!decide (0<=wi (e.s.x.getD 2 0))) (kQ (e.s.x.getD 2 0) (e.s.x.getD 0 0)) (m4 (e.s.x.getD 2 0) (e.s.x.getD 0 0)) y y))))
def IW (a out v:Int) (S:List V) (k:KS):Option Res:=eF a v S fun T=>iI a T fun x=>k (DL x false (out != 0) T)
def DQ (a n:Int) (S:List V) (k:KS):Option Res:=cond (n==0) (k S) (aH a (iI a S fun x=>q (decide (0<=wu (64 - n))) (iI a S fun b => q (decide (0<=n)) (IW a (bG (cV x (wu (64 - n))) 1) (HK b n) S k))))
def DS (a n:Int) (S:List V) (k:KS):Option Res:=cond (n==0) (k S) (aH a (iI a S fun x=>q (decide (0<=wu (n - 1))) (iI a S fun b => q (decide (0<=n)) (IW a (bG (cV x (wu (n - 1))) 1) (cV b n) S k))))
def DR (a n:Int) (S:List V) (k:KS):Option Res:=cond (n==0) (k S) (aH a (iI a S fun x=>q (decide (0<=wu (n - 1))) (iI a S fun b => q (decide (0<=n)) (IW a (bG (cV x (wu (n - 1))) 1) (wu (cV (wi b) n)) S k))))
def iP:List (List UInt8 × bR):=[
 ([109,111,118,46,114,114],(aZ (wG fun e S k=>aH e.a (aL e.b S fun y=>eF e.a y S k))) [109,111,118,46,114,114]),
 ([109,111,118,46,114,105],(aZ (sE fun e S k=>aH e.a (eF e.a (wu e.m) S k))) [109,111,118,46,114,105]),
 ([109,111,118,46,114,115],(aZ fun e S k=>aH e.a (eF e.a (wu e.m) S k)) [109,111,118,46,114,115]),
 ([109,111,118,46,114,109],(uV 8 fun x=>x) [109,111,118,46,114,109]),
 ([109,111,118,108,46,114,109],(uV 4 fun x=>x) [109,111,118,108,46,114,109]),
 ([109,111,118,115,108,46,114,109],(uV 4 fun x=>wu (wi (wrap .i32 x))) [109,111,118,115,108,46,114,109]),
 ([109,111,118,122,98,46,114,109],(uV 1 fun x=>x) [109,111,118,122,98,46,114,109]),
 ([108,101,97],(aZ fun e S k=>aH e.a (dB e S fun x=>eF e.a x S k)) [108,101,97]),
 ([109,111,118,46,109,114],(xQ 8) [109,111,118,46,109,114]),
 ([109,111,118,108,46,109,114],(xQ 4) [109,111,118,108,46,109,114]),
 ([109,111,118,98,46,109,114],(xQ 1) [109,111,118,98,46,109,114]),
 ([109,111,118,46,102,115],(fsR) [109,111,118,46,102,115]),
 ([97,100,100,46,114,114],(m5 w9) [97,100,100,46,114,114]),
 ([111,114,46,114,114],(m5 (jW l8)) [111,114,46,114,114]),
 ([97,110,100,46,114,114],(m5 (jW bG)) [97,110,100,46,114,114]),
 ([115,117,98,46,114,114],(m5 xB) [115,117,98,46,114,114]),
 ([120,111,114,46,114,114],(m5 (jW gB)) [120,111,114,46,114,114]),
 ([99,109,112,46,114,114],(m5 xF) [99,109,112,46,114,114]),
 ([97,100,100,46,114,109],(o6 w9) [97,100,100,46,114,109]),
 ([111,114,46,114,109],(o6 (jW l8)) [111,114,46,114,109]),
 ([97,110,100,46,114,109],(o6 (jW bG)) [97,110,100,46,114,109]),
 ([115,117,98,46,114,109],(o6 xB) [115,117,98,46,114,109]),
 ([120,111,114,46,114,109],(o6 (jW gB)) [120,111,114,46,114,109]),
 ([99,109,112,46,114,109],(o6 xF) [99,109,112,46,114,109]),
 ([97,100,100,46,114,105],(o5 w9) [97,100,100,46,114,105]),
 ([111,114,46,114,105],(o5 (jW l8)) [111,114,46,114,105]),
 ([97,110,100,46,114,105],(o5 (jW bG)) [97,110,100,46,114,105]),
 ([115,117,98,46,114,105],(o5 xB) [115,117,98,46,114,105]),
 ([120,111,114,46,114,105],(o5 (jW gB)) [120,111,114,46,114,105]),
 ([99,109,112,46,114,105],(o5 xF) [99,109,112,46,114,105]),
 ([116,101,115,116,46,114,114],(m5 NG) [116,101,115,116,46,114,114]),
 ([105,109,117,108,46,114,114],(aZ (wG fun e S k=>aH e.a (aH e.a (ND e S k)))) [105,109,117,108,46,114,114]),
 ([110,111,116],(aZ fun e S k=>aH e.a (aH e.a (iI e.a S fun x=>eF e.a (kP x) S k))) [110,111,116]),
 ([110,101,103],(aZ fun e S k=>aH e.a (aH e.a (iI e.a S fun x=>AH 0 x S fun y T=>eF e.a y T k))) [110,101,103]),
 ([109,117,108],(aZ fun e S k=>aH e.a (aH e.a (OE e S k))) [109,117,108]),
 ([100,105,118],(ZN) [100,105,118]),
 ([105,100,105,118],(WH) [105,100,105,118]),
 ([99,113,111],(aZ fun e S k=>aH e.a (k (S.set 3 (.int .u64 (wu (Int.fdiv (wi (e.s.x.getD 0 0)) (2 ^ 63))))))) [99,113,111]),
 ([115,104,108,46,114,105],(aZ (sE fun e S k=>aH e.a (aH e.a (DQ e.a (wu e.m) S k)))) [115,104,108,46,114,105]),
 ([115,104,114,46,114,105],(aZ (sE fun e S k=>aH e.a (aH e.a (DS e.a (wu e.m) S k)))) [115,104,114,46,114,105]),
 ([115,97,114,46,114,105],(aZ (sE fun e S k=>aH e.a (aH e.a (DR e.a (wu e.m) S k)))) [115,97,114,46,114,105]),
 ([115,104,108,46,114,99],(aZ fun e S k=>aH e.a (aH e.a (DQ e.a (bG (e.s.x.getD 1 0) 63) S k))) [115,104,108,46,114,99]),
 ([115,104,114,46,114,99],(aZ fun e S k=>aH e.a (aH e.a (DS e.a (bG (e.s.x.getD 1 0) 63) S k))) [115,104,114,46,114,99]),
 ([115,97,114,46,114,99],(aZ fun e S k=>aH e.a (aH e.a (DR e.a (bG (e.s.x.getD 1 0) 63) S k))) [115,97,114,46,114,99]),
 ([99,109,111,118],(aZ fun e S k=>aH e.a (cond (oF e.s.z e.s.n e.s.c e.s.v e.d) (aL e.b S fun y=>eF e.a y S k) (k S))) [99,109,111,118]),
 ([112,117,115,104],(NC) [112,117,115,104]),
 ([112,111,112],(YZ) [112,111,112]),
 ([99,97,108,108],(lO) [99,97,108,108]),
 ([106,109,112],(aZ fun e S k=>aH e.a (aH e.a (k (S.set 45 (.int .u64 (gN e)))))) [106,109,112]),
 ([106,109,112,46,115],(aZ fun e S k=>aH e.a (aH e.a (k (S.set 45 (.int .u64 (gN e)))))) [106,109,112,46,115]),
 ([99,97,108,108,46,114],(LV) [99,97,108,108,46,114]),
 ([106,109,112,46,114],(aZ fun e S k=>aH e.a (aH e.a (aL e.a S fun y=>k (S.set 45 (.int .u64 y))))) [106,109,112,46,114]),
 ([106,99,99],(aZ fun e S k=>aH e.a (aH e.a (cond (oF e.s.z e.s.n e.s.c e.s.v e.d) (k (S.set 45 (.int .u64 (gN e)))) (k S)))) [106,99,99]),
 ([106,99,99,46,115],(aZ fun e S k=>aH e.a (aH e.a (cond (oF e.s.z e.s.n e.s.c e.s.v e.d) (k (S.set 45 (.int .u64 (gN e)))) (k S)))) [106,99,99,46,115]),
 ([114,101,116],(YM) [114,101,116]),
 ([115,121,115,99,97,108,108],(YE) [115,121,115,99,97,108,108]),
 ([110,111,112],(aZ fun e S k=>aH e.a (aH e.a (k S))) [110,111,112]),
 ([117,100,50],(udR) [117,100,50])]
def W1 (g:bR) (p N O P Q R S T U V W e f h i j k l o q r s t u w x y F G H I J K M:Int) (z n c v:Bool) (a b c' d m L:Int) (A B C D E:List Int):Option Res:=
 g ⟨p,[N,O,P,Q,R,S,T,U,V,W,e,f,h,i,j,k,l,o,q,r,s,t,u,w,x,y,F,G,H,I,J,K],z,n,c,v,M⟩ a b c' d m L A B C D E
def W2 (g:bR) (p N O P Q R S T U V W e f h i j k l o q r s t u w x y F G H I J K M:Int) (z n c v:Bool) (a b c' d m L:Int) (A B C D E:List Int):Option Res:=
 g ⟨p,[N,O,P,Q,R,S,T,U,V,W,e,f,h,i,j,k,l,o,q,r,s,t,u,w,x,y,F,G,H,I,J,K],z,n,c,v,M⟩ a b c' d m L A B C D E
def rE (mb:bZ->Bool) (x:List UInt8 × bR):=W2 (Y1 mb x.1 x.2)
noncomputable def rO (mb:bZ->Bool) (x:List UInt8 × bR):=W1 (aP5 mb x.1)
end Go.Ra

namespace Go.Ra
open Go Go.Ab Go.Proofs
theorem J5 {l:List Int} {i j:Nat} {v:Int} (hi:i<l.length):(l.set i v).getD j 0=if j=i then v else l.getD j 0:=by
 rw [ZG0,List.getElem?_set,ZG0];by_cases h:i=j
 ·subst h
  rw [if_pos rfl,if_pos hi,if_pos rfl];rfl
 ·rw [if_neg h,if_neg fun e=>h e.symm]
theorem aEJ {x y:Int}:∀ (m i:Nat) {a b c d e:List Int},lens5 a b c d e=true->lens5 (kA 1 x y m i a) (kA 2 x y m i b) (kA 16 x y m i c) (kA 17 x y m i d) (kA 32 x y m i e)=true
 | 0,_,_,_,_,_,_,h=>h
 | m+1,i,_,_,_,_,_,h=>aEJ m (i+1) (JH h (a8 x i) (R1 y i))
theorem aJT (y:Int) (i:Nat):qD y i=y / 2 ^ (8*i) % 256:=by
 unfold qD;rw [Int.fdiv_eq_ediv_of_nonneg _ (Int.pow_nonneg (by decide))];rfl
end Go.Ra

namespace Go.Ra
open Go Go.Ab Go.Proofs
def HV (n r:Int) (id:Nat):List V:=[.int .u64 n,.int .i64 r,.ref id 1 0 4096]
def CN:List V:=HV 1 5 2++(HV 2 5 3++(HV 16 6 4++(HV 17 6 5++HV 32 4 6)))
def IJ (l:List Int):O:=.obj (.page 0 .u8 l) []
def w7 (l:V) (A B C D E:List Int):List O:=[.cells [.ref 1 3 0 5,l] 58,.cells CN 0,IJ A,IJ B,IJ C,IJ D,IJ E]
def X2:V:=.rng .i64 0 5
abbrev aO (A B C D E:List Int):List O:=w7 X2 A B C D E
def mX {α:Type} (f:List Int->List Int->List Int->List Int->List Int->Tree α):List O->Tree α
 | [.cells [.ref 1 3 0 5,.rng .i64 0 5] t,.cells [.int .u64 n1,.int .i64 r1,.ref 2 1 0 4096,.int .u64 n2,.int .i64 r2,.ref 3 1 0 4096,.int .u64 n3,.int .i64 r3,.ref 4 1 0 4096,.int .u64 n4,.int .i64 r4,.ref 5 1 0 4096,.int .u64 n5,.int .i64 r5,.ref 6 1 0 4096] u,
   .obj (.page 0 .u8 a) [],.obj (.page 0 .u8 b) [],.obj (.page 0 .u8 c) [],.obj (.page 0 .u8 d) [],.obj (.page 0 .u8 e) []] =>
  .aF (Nat.beq t 58&&(Nat.beq u 0&&([n1,r1,n2,r2,n3,r3,n4,r4,n5,r5]==[1,5,2,5,16,6,17,6,32,4]&&lens5 a b c d e))) (f a b c d e)
 | _=>.fail
theorem nZ {α:Type} {f:List Int->List Int->List Int->List Int->List Int->Tree α} {H:List O} {out:α} (h:(mX f H).run=some out) :
  ∃ a b c d e,H=aO a b c d e/\lens5 a b c d e=true/\(f a b c d e).run=some out:=by
 unfold mX at h;split at h;rotate_left
 ·cases h
 rename_i t l q m r n s o v p w u a b c d e;obtain ⟨k,h2⟩:=aM h;simp only [ZA2] at k;obtain ⟨i,j,g,g3⟩:=k;have i:=ZG1 i;have j:=ZG1 j;have g:=eq_of_beq g;simp only [List.cons.injEq,and_true] at g;obtain ⟨k1,k2,k3,k4,k5,k6,k7,k8,k9,k10⟩:=g;subst i j k1 k2 k3 k4 k5 k6 k7 k8 k9 k10;exact ⟨a,b,c,d,e,rfl,g3,h2⟩
noncomputable def aJG:Cx:={ P:=prog,n:=Tryz.f48.ntmps,tab:=[],mtab:=[],refs:=[],keeps:=[0,1,4,5,30,41,53],fuel:=8 }
noncomputable def aj3 (l:Nat) (A B C D E:List Int) (n:Int):Option Res:=(dF aJG Tryz.f48 [.ptr 0 0,.int .u64 n] (w7 (.int .i64 (l:Int)) A B C D E)).fin
def AT (i:Int) (A B C D E:List Int):Option Res:=some (.ok (.int .i64 i) (w7 (.int .i64 i) A B C D E))
def X0 (l:Nat) (A B C D E:List Int) (n:Int):Option Res:=
 cond ([(1:Int),2,16,17,32].getD l 0==n) (AT (l:Int) A B C D E) (cond ((1:Int)==n) (AT 0 A B C D E) (cond ((2:Int)==n) (AT 1 A B C D E) (cond ((16:Int)==n) (AT 2 A B C D E) (cond ((17:Int)==n) (AT 3 A B C D E) (cond ((32:Int)==n) (AT 4 A B C D E)
  (some (.ok (.int .i64 (-1)) (w7 (.int .i64 (l:Int)) A B C D E))))))))
theorem a0X:[0,1,2,3,4].map aj3=[0,1,2,3,4].map X0:=by kernel_rfl
def cD (n:Int):Int:=cond (n==1) 0 (cond (n==2) 1 (cond (n==16) 2 (cond (n==17) 3 (cond (n==32) 4 (-1)))))
theorem a1W (l:Nat) (a:l<5) (A B C D E:List Int) (n:Int):∃ l' : Int,0<=l' /\ l' < 5/\X0 l A B C D E n=some (.ok (.int .i64 (cD n)) (w7 (.int .i64 l') A B C D E)):=by
 have b:∀ k:Int,(k==n)=(n==k):=fun k=>by
  cases h:n==k
  ·simpa using fun e:k=n=>by simp [e] at h
  ·have:n=k:=by simpa using h
   simp [this]
 unfold X0 AT cD;rw [b,b,b,b,b,b];by_cases h1:n=1
 ·subst h1
  refine ⟨0,by omega,by omega,?_⟩
  match l,a with
  | 0,_ | 1,_ | 2,_ | 3,_ | 4,_=>rfl
 by_cases h2:n=2
 ·subst h2
  refine ⟨1,by omega,by omega,?_⟩
  match l,a with
  | 0,_ | 1,_ | 2,_ | 3,_ | 4,_=>rfl
 by_cases h3:n=16
 ·subst h3
  refine ⟨2,by omega,by omega,?_⟩
  match l,a with
  | 0,_ | 1,_ | 2,_ | 3,_ | 4,_=>rfl
 by_cases h4:n=17
 ·subst h4
  refine ⟨3,by omega,by omega,?_⟩
  match l,a with
  | 0,_ | 1,_ | 2,_ | 3,_ | 4,_=>rfl
 by_cases h5:n=32
 ·subst h5
  refine ⟨4,by omega,by omega,?_⟩
  match l,a with
  | 0,_ | 1,_ | 2,_ | 3,_ | 4,_=>rfl
 have e:∀ k:Int,n ≠ k->(n==k)=false:=fun k h=>by simpa using h
 rw [e 1 h1,e 2 h2,e 16 h3,e 17 h4,e 32 h5];refine ⟨(l:Int),by omega,by omega,?_⟩
 have:(n==[(1:Int),2,16,17,32].getD l 0)=false:=by
  match l,a with
  | 0,_=>exact e 1 h1
  | 1,_=>exact e 2 h2
  | 2,_=>exact e 16 h3
  | 3,_=>exact e 17 h4
  | 4,_=>exact e 32 h5
 rw [this];rfl
theorem aCV (A B C D E:List Int) (n:Int):dQ prog 48 [.ptr 0 0,.int .u64 n] (aO A B C D E) (.ok (.int .i64 (cD n)) (aO A B C D E)):=by
 refine aWZ (A:=[]) (pre:=[.ref 1 3 0 5]) (post:=[]) (k:=.i64) (lo:=0) (hi:=5) (by decide) fun l a c=>?_;obtain ⟨m,rfl⟩:=ZI3 a;obtain ⟨l',g0,g1,g2⟩:=a1W m (by omega) A B C D E n;refine ⟨l',g0,g1,?_⟩;refine fA (cx:=aJG) (fn:=Tryz.f48) (dO rfl rfl) (by kernel_rfl) (by kernel_rfl) _ _ _ ?_;refine nC (by kernel_rfl) ?_;rw [<- Tree.bJ]
 have b:m ∈ [0,1,2,3,4]:=by
  simp only [List.mem_cons,List.not_mem_nil,or_false];omega
 exact (congrFun (congrFun (congrFun (congrFun (congrFun (congrFun (List.map_inj_left.1 a0X m b) A) B) C) D) E) n).trans g2
def CS:RSpec:=fun args H=>match args with
 | [.ptr 0 0,.int .u64 n]=>mX (fun _ _ _ _ _=>.leaf (.int .i64 (cD n))) H
 | _=>.fail
theorem JW:nF prog 48 CS:=by
 intro args H v h;unfold CS at h;split at h;rotate_left
 ·cases h
 obtain ⟨a,b,c,d,e,rfl,_,h⟩:=nZ h;cases h;exact aCV _ _ _ _ _ _
def MA:RSpec:=fun args H=>match args with
 | [.ptr 0 0,.int .u64 n]=>mX (fun _ _ _ _ _=>.br (n==1) (.leaf (.int .i64 0)) (.br (n==2) (.leaf (.int .i64 1)) (.br (n==16) (.leaf (.int .i64 2)) (.br (n==17) (.leaf (.int .i64 3)) (.br (n==32) (.leaf (.int .i64 4)) .fail))))) H
 | _=>.fail
theorem aEX:nF prog 48 MA:=by
 intro args H v h;unfold MA at h;split at h;rotate_left
 ·cases h
 rename_i n;obtain ⟨a,b,c,d,e,rfl,_,h⟩:=nZ h;have g:=aCV a b c d e n
 have k:v = .int .i64 (cD n):=by
  unfold cD
  revert h
  simp only [Tree.run]
  cases n==1 <;> cases n==2 <;> cases n==16 <;> cases n==17 <;> cases n==32 <;> intro h <;> first | (cases h; rfl) | cases h
 rw [k];exact g
end Go.Ra
