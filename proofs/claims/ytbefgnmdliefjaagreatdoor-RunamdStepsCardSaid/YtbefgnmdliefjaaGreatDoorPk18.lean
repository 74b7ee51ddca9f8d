/-
  The document's memory: numbers loaded and stored; rights. Conditions: none.
-/
import Derived.Test.YtbefgnmdliefjaaGreatDoorPk11
import Derived.Test.YtbefgnmdliefjaaGreatDoorRf2
import Derived.Test.YtbefgnmdliefjaaGreatDoorPk13
import Derived.Test.YtbefgnmdliefjaaGreatDoorPk16
import Derived.Test.YtbefgnmdliefjaaGreatDoorPk12
import Derived.Test.YtbefgnmdliefjaaGreatDoorPk14
open Go.Proofs.Tryz (prog)
open Bool renaming and_eq_true_iff→ZA0,and_eq_true→ZA2,or_eq_true→ZA3
open List renaming mem_cons→ZE3,length_map→ZF0,length_drop→ZF1,getD_eq_getElem?_getD→ZG0
open Int renaming fdiv_eq_ediv_of_nonneg→ZI2,eq_ofNat_of_zero_le→ZI3,toNat_natCast→ZJ0
set_option linter.unusedVariables false
set_option linter.unusedSimpArgs false
namespace Go.Ra
open Go Go.Ab Go.Proofs
noncomputable def rfB:Tabs:={ rtab:=[(48,CS),(49,ZP),(133,M3)],mtab:=[(50,M5)] }
theorem aeQ:rfB.Ok prog:=⟨.nil _,.cons aGV (.nil _),.cons JW (.cons a64 (.cons aG5 (.nil _))),fun p h=>by cases h⟩
noncomputable def aJR:List Fi:=[⟨190,Tryz.f190,[0,2],[],0,[]⟩,⟨191,Tryz.f191,[0,2,3,4,9],[],9,[]⟩,⟨192,Tryz.f192,[0,1,4,5,6,9],[],9,[]⟩]
theorem aZA:fY prog aJR:=⟨⟨by kernel_rfl,by kernel_rfl⟩,⟨by kernel_rfl,by kernel_rfl⟩,⟨by kernel_rfl,by kernel_rfl⟩,trivial⟩
noncomputable def aKG:List Fi:=[⟨88,Tryz.f88,[0,1,2,6,7,8,11],[],9,[]⟩,⟨25,Tryz.f25,[0,1,2,6,7,13,17],[],9,[]⟩]
theorem aZM:fY prog aKG:=⟨⟨by kernel_rfl,by kernel_rfl⟩,⟨by kernel_rfl,by kernel_rfl⟩,trivial⟩
noncomputable def AP (d:Nat):Tabs:=deep prog rfB aJR aKG d
theorem aL7 (d:Nat):(AP d).Ok prog:=qN aeQ aZA aZM d
noncomputable def ZW:Cx:={ P:=prog,n:=Tryz.f130.ntmps,tab:=(AP 1).tab,mtab:=(AP 1).mtab,rtab:=(AP 1).rtab,refs:=[],keeps:=[0,1,2,6,7,10,15] }
noncomputable def YT:Cx:={ P:=prog,n:=Tryz.f132.ntmps,tab:=(AP 1).tab,mtab:=(AP 1).mtab,rtab:=(AP 1).rtab,refs:=[],keeps:=[0,1,2,3,8,11,16] }
theorem a7N:aW ZW:=aL7 1
theorem a8I:aW YT:=aL7 1
def NZ (L:Bool) (x:Int) (k:Option Res):Nat->Nat->Option Res
 | 0,_=>k
 | m+1,i=>cond L (cond (usable (a8 x i)) (NZ L x k m (i+1)) none) none
def aOP (n:Nat) (a b c d e:List Int) (x:Int):Option Res:=
 cond (lens5 a b c d e) (cond (rng64 x&&true) (cond (!cM x (n:Int) 4) (some (.ok (.tup [.int .u64 0,.int .i64 21]) (aO a b c d e))) (NZ (lens5 a b c d e) x (some (.ok (.tup [.int .u64 (xI a b c d e x n 0),.int .i64 0]) (aO a b c d e))) n 0)) none) none
noncomputable def ajY (n:Nat) (a b c d e:List Int) (x:Int):Option Res:=(wM ZW Tryz.f130 [] [.ptr 0 0,.int .u64 x,.int .i64 (n:Int)] (aO a b c d e)).fin
theorem a55:[1,2,4,8].map ajY=[1,2,4,8].map aOP:=by kernel_rfl
theorem aJK {x:Int} {k:Option Res}:∀ (m i:Nat),(∀ j,i<=j->j<i+m->usable (a8 x j)=true)->NZ true x k m i=k
 | 0,_,_=>rfl
 | m+1,i,h=>by
  unfold NZ;rw [h i (by omega) (by omega),cond_true,cond_true];exact aJK m (i+1) fun j a b=>h j (by omega) (by omega)
def VB:RSpec:=fun args H=>match args with
 | [.ptr 0 0,.int .u64 x,.int .i64 n]=>mX (fun a b c d e=>.aF (rng64 x&&EH n) (.leaf (.tup [.int .u64 (cond (cM x n 4) (xI a b c d e x n.toNat 0) 0),.int .i64 (cond (cM x n 4) 0 21)]))) H
 | _=>.fail
theorem aYO:nF prog 130 VB:=by
 intro args H out h;unfold VB at h;split at h;rotate_left
 ·cases h
 rename_i x n;obtain ⟨a,b,c,d,e,rfl,hl,h⟩:=nZ h;obtain ⟨g,h⟩:=aM h;cases h;obtain ⟨f,hn⟩:=ZA0.1 g;obtain ⟨m,hm,rfl⟩:=K4 hn;refine BQ (cx:=ZW) (fn:=Tryz.f130) [] a7N (by kernel_rfl) (by kernel_rfl) _ _ _ ?_;rw [<- Tree.bJ];refine (congrFun (congrFun (congrFun (congrFun (congrFun (congrFun (List.map_inj_left.1 a55 _ hm) a) b) c) d) e) x).trans ?_
 have i:1<=m/\m<=16:=by
  simp only [ZE3,List.not_mem_nil,or_false] at hm;omega
 unfold aOP;rw [hl,f];cases hb:cM x (m:Int) 4
 ·rfl
 ·rw [aJK m 0 fun j _ k=>JS f (by omega) (by omega) hb (by omega)]
  rfl
def uD:Nat->Int->Int
 | 0,y=>IntKind.wrap .u8 y
 | i+1,y=>uD i (Int.fdiv y (2 ^ 8))
def NL (x y:Int):Nat->Nat->List Int->List Int->List Int->List Int->List Int->Option Res
 | 0,_,a,b,c,d,e=>some (.ok (.int .i64 0) (aO a b c d e))
 | m+1,i,a,b,c,d,e=>cond (lens5 a b c d e) (cond (usable (a8 x i)) (NL x y m (i+1) (cP 1 (a8 x i) (uD i y) a) (cP 2 (a8 x i) (uD i y) b) (cP 16 (a8 x i) (uD i y) c) (cP 17 (a8 x i) (uD i y) d) (cP 32 (a8 x i) (uD i y) e)) none) none
def aO1 (n:Nat) (a b c d e:List Int) (x y:Int):Option Res:=
 cond (lens5 a b c d e) (cond (rng64 x&&true) (cond (!cM x (n:Int) 2) (some (.ok (.int .i64 21) (aO a b c d e)))
  (cond (lens5 a b c d e) (cond (rng64 x&&true) (cond (!cM x (n:Int) 0) (some (.ok (.int .i64 0) (aO a b c d e))) (NL x y n 0 a b c d e)) none) none)) none) none
noncomputable def ak0 (n:Nat) (a b c d e:List Int) (x y:Int):Option Res:=(wM YT Tryz.f132 [] [.ptr 0 0,.int .u64 x,.int .i64 (n:Int),.int .u64 y] (aO a b c d e)).fin
theorem a7Q:[1,2,4,8].map ak0=[1,2,4,8].map aO1:=by kernel_rfl
theorem aH5:∀ (i:Nat) (y:Int),uD i y=qD y i
 | 0,y=>by
  unfold uD qD;rw [Nat.mul_zero,Int.pow_zero,ZI2 _ (by decide),Int.ediv_one]
 | i+1,y=>by
  unfold uD;rw [aH5 i,aJT,aJT,ZI2 _ (by decide)]
  have e:(2:Int) ^ (8*(i+1))=2 ^ 8*2 ^ (8*i):=by
   rw [show 8*(i+1)=8+8*i by omega,Int.pow_add]
  rw [e,<- Int.ediv_ediv_of_nonneg (by decide)]
theorem aGZ {x y:Int}:∀ (m i:Nat) {a b c d e:List Int},lens5 a b c d e=true->(∀ j,i<=j->j<i+m->usable (a8 x j)=true) ->
  NL x y m i a b c d e=some (.ok (.int .i64 0) (aO (kA 1 x y m i a) (kA 2 x y m i b) (kA 16 x y m i c) (kA 17 x y m i d) (kA 32 x y m i e)))
 | 0,_,_,_,_,_,_,_,_=>rfl
 | m+1,i,a,b,c,d,e,hl,h=>by
  unfold NL kA;rw [hl,h i (by omega) (by omega),cond_true,cond_true,aH5];exact aGZ m (i+1) (JH hl _ (R1 _ _)) fun j f g=>h j (by omega) (by omega)
theorem a14 {x n r:Int} (h:cM x n r=true):cM x n 0=true:=by
 unfold cM at h ⊢;simp only [ZA2,ZA3] at h ⊢
 have a:∀ p,iH r p=true->iH 0 p=true:=fun p b=>by
  have:=MG b;simp only [iS,ZA3,beq_iff_eq] at this
  rcases this with h | h | h | h | h <;> subst h <;> rfl
 exact ⟨h.1,a _ h.2.1,h.2.2.imp id (a _)⟩
def TC:MSpec:=fun args H=>match args with
 | [.ptr 0 0,.int .u64 x,.int .i64 n,.int .u64 y]=>mX (fun a b c d e=>.aF (rng64 x&&EH n) (.leaf (.ok (.int .i64 (cond (cM x n 2) 0 21)) (aO (b9 1 x n y a) (b9 2 x n y b) (b9 16 x n y c) (b9 17 x n y d) (b9 32 x n y e))))) H
 | _=>.fail
theorem aUU:bP prog 132 TC:=by
 intro args H out h;unfold TC at h;split at h;rotate_left
 ·cases h
 rename_i x n y;obtain ⟨a,b,c,d,e,rfl,hl,h⟩:=nZ h;obtain ⟨g,h⟩:=aM h;cases h;obtain ⟨f,hn⟩:=ZA0.1 g;obtain ⟨m,hm,rfl⟩:=K4 hn;refine BQ (cx:=YT) (fn:=Tryz.f132) [] a8I (by kernel_rfl) (by kernel_rfl) _ _ _ ?_;rw [<- Tree.bJ];refine (congrFun (congrFun (congrFun (congrFun (congrFun (congrFun (congrFun (List.map_inj_left.1 a7Q _ hm) a) b) c) d) e) x) y).trans ?_
 have j:1<=m/\m<=16:=by
  simp only [ZE3,List.not_mem_nil,or_false] at hm;omega
 unfold aO1 b9;rw [hl,f];cases hb:cM x (m:Int) 2
 ·rfl
 ·rw [a14 hb]
  exact aGZ m 0 hl fun i _ hi=>JS f (by omega) (by omega) hb (by omega)
end Go.Ra

namespace Go.Ra
open Go Go.Ab Go.Proofs
def DW (wd:Int->Int->Int × Int):Ab.Spec:=fun args=>match args with
 | [.int .u64 a,.int .u64 b]=>.leaf (.tup [.int .u64 (wd a b).1,.int .u64 (wd a b).2])
 | _=>.fail
def DX (lg:Int->Int->Int->Int × Int):Ab.Spec:=fun args=>match args with
 | [.int .u64 h,.int .u64 l,.int .u64 b]=>.leaf (.tup [.int .u64 (lg h l b).1,.int .u64 (lg h l b).2])
 | _=>.fail
def sV (ck:bZ->Int):Ab.Spec:=fun args=>match args with
 | [.agg [.str nm,.int .i64 a,.int .i64 b,.int .i64 c,.int .i64 d,.int .i64 m]]=>.leaf (.int .i64 (ck (nm,a,b,c,d,m)))
 | _=>.fail
noncomputable def Y8:Cx:={ P:=prog,n:=74,tab:=[],mtab:=[],refs:=[],keeps:=[0,1,2,4,6,7,18,25,32,43,50,60] }
def jH (d:Int):Int:=wi (Int.tdiv d 2)
def hdV (z n c v:Bool) (d:Int):Option V:=
 cond (jH d==0) (cond (decide (0<=d)) (bO (v==(d==0))) (bO false)) (cond (jH d==1) (bO (c==(d==2))) (cond (jH d==2) (bO (z==(d==4))) (cond (jH d==3) (cond c (bO (true==(d==6))) (bO (z==(d==6))))
  (cond (jH d==4) (bO (n==(d==8))) (cond (jH d==6) (bO ((!n==v)==(d==12))) (cond (jH d==7) (cond z (bO (true==(d==14))) (bO ((!n==v)==(d==14)))) (bO false)))))))
def bY (z n c v:Bool) (d:Int):Bool:=
 cond (jH d==0) (cond (decide (0<=d)) (v==(d==0)) false) (cond (jH d==1) (c==(d==2)) (cond (jH d==2) (z==(d==4)) (cond (jH d==3) (cond c (true==(d==6)) (z==(d==6)))
  (cond (jH d==4) (n==(d==8)) (cond (jH d==6) ((!n==v)==(d==12)) (cond (jH d==7) (cond z (true==(d==14)) ((!n==v)==(d==14))) false))))))
theorem aaE (z n c v:Bool) (d:Int):hdV z n c v d=some (.bool (bY z n c v d)):=by
 unfold hdV bY;cases jH d==0 <;> cases decide (0<=d) <;> cases jH d==1 <;> cases jH d==2 <;> cases jH d==3 <;> cases jH d==4 <;> cases jH d==6 <;> cases jH d==7 <;> cases c <;> cases z <;> rfl
theorem ai9 (p D E F G H I J K L M a b e f g h i j k l m o q r s t u w x y A B C:Int) (z n c v:Bool) (d:Int):(a7 Y8 Tryz.f75 [.agg (DN p [D,E,F,G,H,I,J,K,L,M,a,b,e,f,g,h,i,j,k,l,m,o,q,r,s,t,u,w,x,y,A,B] z n c v C),.int .i64 d]).fin=hdV z n c v d:=by kernel_rfl
def hdS:Ab.Spec:=fun args=>match args with
 | [.agg cs,.int .i64 d]=>match wF cs with
  | some s=>.leaf (.bool (bY s.z s.n s.c s.v d))
  | none=>.fail
 | _=>.fail
theorem aa7:Sound prog 75 hdS:=by
 intro args out h;unfold hdS at h;split at h;rotate_left
 ·cases h
 rename_i cs d;split at h;rotate_left
 ·cases h
 rename_i s a;cases h;obtain ⟨rfl,hl⟩:=A4 a;refine cE (cx:=Y8) (fn:=Tryz.f75) (dO rfl rfl) (by kernel_rfl) (by kernel_rfl) (by kernel_rfl) ?_;rw [<- Tree.bJ,<- aaE];have e:=ai9 s.pc (s.x.getD 0 0) (s.x.getD 1 0) (s.x.getD 2 0) (s.x.getD 3 0) (s.x.getD 4 0) (s.x.getD 5 0) (s.x.getD 6 0) (s.x.getD 7 0) (s.x.getD 8 0) (s.x.getD 9 0) (s.x.getD 10 0) (s.x.getD 11 0) (s.x.getD 12 0) (s.x.getD 13 0) (s.x.getD 14 0) (s.x.getD 15 0) (s.x.getD 16 0) (s.x.getD 17 0) (s.x.getD 18 0) (s.x.getD 19 0) (s.x.getD 20 0) (s.x.getD 21 0) (s.x.getD 22 0) (s.x.getD 23 0) (s.x.getD 24 0) (s.x.getD 25 0) (s.x.getD 26 0) (s.x.getD 27 0) (s.x.getD 28 0) (s.x.getD 29 0) (s.x.getD 30 0) (s.x.getD 31 0) s.th s.z s.n s.c s.v d
 exact (congrArg (fun t:CpuT=>(a7 Y8 Tryz.f75 [.agg t.l,.int .i64 d]).fin) (qP hl)).symm.trans e
noncomputable def AE:Cx:={ P:=prog,n:=Tryz.f82.ntmps,tab:=[],mtab:=[],refs:=[],keeps:=[0,1,3,4,5,11,30],lz:=[25,38] }
theorem ahR:nF prog 82 (X3 AE Tryz.f82):=a4H (cx:=AE) (fn:=Tryz.f82) (dO rfl rfl) (by kernel_rfl) (by kernel_rfl) (by kernel_rfl) (by kernel_rfl)
section
variable (ck:bZ->Int) (wd:Int->Int->Int × Int) (lg:Int->Int->Int->Int × Int)
noncomputable def rgB:Tabs:={ tab:=[(35,sV ck),(79,DW wd),(129,DX lg),(75,hdS)],mtab:=[(132,TC)],rtab:=[(130,VB),(82,X3 AE Tryz.f82)],nums:=[82] }
noncomputable def aK8:List Fi:=[⟨86,Tryz.f86,[0,2,3,4,8,14],[],12,[]⟩,⟨83,Tryz.f83,[0,1,4,5,6,13,20],[],0,[]⟩,⟨131,Tryz.f131,[0,2],[],0,[]⟩]
theorem aWX:fY prog aK8:=⟨⟨by kernel_rfl,by kernel_rfl⟩,⟨by kernel_rfl,by kernel_rfl⟩,⟨by kernel_rfl,by kernel_rfl⟩,trivial⟩
noncomputable def aK5:List Fi:=[⟨36,Tryz.f36,[0,1,3,4,5,6,7,17,18,22,31,37,47,56,73],[],0,[45,64]⟩,⟨37,Tryz.f37,[0,1,3,4,5,6,8,9,10,20,21,32,48,88,97,113,118,130],[],0,[17,31,47,129]⟩,⟨38,Tryz.f38,[0,1,3,4,6,7,24,37,51,65,80,94,106,121,136,151,171,179,195],[],0,[18,23,36,50,64,79,93,105,118,133,148,170,189,194,207,215,221]⟩,⟨39,Tryz.f39,[0,1,3,4,5,6,7,8,9,25,30,61,71,92],[],0,[49,56,68,86,100]⟩,⟨78,Tryz.f78,[0,1,2,3,8,9,10,22,23,28,33,61],[],0,[]⟩,⟨87,Tryz.f87,[0,1,2,3,8,9,11,14,32,47],[],0,[]⟩,⟨80,Tryz.f80,[0,1,2,6,7,8,9,10,11,12,31,37,46,51,61,79,82,85],[],0,[]⟩,⟨85,Tryz.f85,[0,1,2,6,7,8,17,23],[],0,[]⟩,⟨76,Tryz.f76,[0,1],[],0,[]⟩,⟨77,Tryz.f77,[0,2,3],[],0,[]⟩,⟨81,Tryz.f81,[0,1,2,6,7,8],[],0,[]⟩,⟨84,Tryz.f84,[0,1,2,3,12],[],0,[]⟩,⟨127,Tryz.f127,[0,1],[],0,[]⟩,⟨128,Tryz.f128,[0,1,8],[],0,[]⟩]
theorem aXV:fY prog aK5:=⟨⟨by kernel_rfl,by kernel_rfl⟩,⟨by kernel_rfl,by kernel_rfl⟩,⟨by kernel_rfl,by kernel_rfl⟩,⟨by kernel_rfl,by kernel_rfl⟩,⟨by kernel_rfl,by kernel_rfl⟩,⟨by kernel_rfl,by kernel_rfl⟩,⟨by kernel_rfl,by kernel_rfl⟩,⟨by kernel_rfl,by kernel_rfl⟩,⟨by kernel_rfl,by kernel_rfl⟩,⟨by kernel_rfl,by kernel_rfl⟩,⟨by kernel_rfl,by kernel_rfl⟩,⟨by kernel_rfl,by kernel_rfl⟩,⟨by kernel_rfl,by kernel_rfl⟩,⟨by kernel_rfl,by kernel_rfl⟩,trivial⟩
noncomputable def EI (d:Nat):Tabs:=deep prog (rgB ck wd lg) aK8 aK5 d
noncomputable def OV:Cx:={ P:=prog,n:=Tryz.f18.ntmps,tab:=(EI ck wd lg 5).tab,mtab:=(EI ck wd lg 5).mtab,rtab:=(EI ck wd lg 5).rtab,refs:=[],keeps:=[0,1,2,3,4,5,8,9,10,11,12,13,14,20,24,42,48,58,62,73,80],lz:=[],nums:=(EI ck wd lg 5).nums }
noncomputable def aOW (nm:List UInt8):bR:=fun s a b c d m e A B C D E=>(wM (OV ck wd lg) Tryz.f18 [] [.agg s.l,lV nm a b c d m,.int .i64 e,.ptr 0 0] (aO A B C D E)).fin
end
end Go.Ra

namespace Go.Ra
open Go Go.Ab Go.Proofs
section
variable (ck:bZ->Int)
def aN0 (nm:List UInt8) (K:bR):bR:=fun s a b c d m e A B C D E =>
 cond (ck (nm,a,b,c,d,m) != 0) (j8 s 22 (aO A B C D E)) (K s a b c d m e A B C D E)
def YB (nm:List UInt8) (K:bR):bR:=fun s a b c d m e A B C D E =>
 cond (decide (e<1)) (j8 s 1 (aO A B C D E)) (cond (decide (16<e)) (j8 s 1 (aO A B C D E)) (aN0 ck nm K s a b c d m e A B C D E))
end
def xM (e:EnvR):List V:=e.s.l++[.int .u64 e.bk,.ptr 1 0,.int .i64 0]
def uK (s:CpuT) (to b:Int) (H:List O):KS:=fun S=>match S.getD 40 .any with
 | .int _ a=>cond (a != 0) (j8 s a H) (sN (.int .u64 to :: (S.drop 1).take 37) b H)
 | _=>none
def aN (f:EnvR->Int->List V->KS->Option Res) (nm:List UInt8):bR:=fun s a b c d m e A B C D E =>
 aL a (xM (eZ s nm a b c d m e A B C D E)) fun x=>f (eZ s nm a b c d m e A B C D E) x (xM (eZ s nm a b c d m e A B C D E)) (uK s (wu (s.pc+wu e)) 0 (aO A B C D E))
def kN (f:EnvR->List V->(Int->KS)->Option Res) (nm:List UInt8):bR:=fun s a b c d m e A B C D E =>
 f (eZ s nm a b c d m e A B C D E) (xM (eZ s nm a b c d m e A B C D E)) fun to=>uK s to 0 (aO A B C D E)
def pX (f:EnvR->Int->List V->(List V->List O->Option Res)->Option Res) (nm:List UInt8):bR:=fun s a b c d m e A B C D E =>
 aL a (xM (eZ s nm a b c d m e A B C D E)) fun x=>f (eZ s nm a b c d m e A B C D E) x (xM (eZ s nm a b c d m e A B C D E)) fun S H=>uK s (wu (s.pc+wu e)) 0 H S
def w5 (f:EnvR->List V->(Int->List V->List O->Option Res)->Option Res) (nm:List UInt8):bR:=fun s a b c d m e A B C D E =>
 f (eZ s nm a b c d m e A B C D E) (xM (eZ s nm a b c d m e A B C D E)) fun to S H=>uK s to 0 H S
def b6 (e:EnvR) (v:Int) (S:List V) (k:KS):Option Res:=aH e.a (eF e.a v S k)
def dP (e:EnvR) (v:Int) (S:List V) (k:KS):Option Res:=b6 e v S k
def pQ (_:EnvR) (_:Int) (S:List V) (k:KS):Option Res:=k S
def rH (x:Int) (c v:Bool) (S:List V):List V:=(((S.set 35 (.bool c)).set 36 (.bool v)).set 34 (.bool (cV x 63==1))).set 33 (.bool (x==0))
def uF (a b:Int) (S:List V) (k:Int->KS):Option Res:=
 cond (cV a 63==cV b 63) (k (wu (a+b)) (rH (wu (a+b)) (decide (wu (a+b)<a)) (cV (wu (a+b)) 63 != cV a 63) S)) (k (wu (a+b)) (rH (wu (a+b)) (decide (wu (a+b)<a)) false S))
def j7 (a b:Int) (S:List V) (k:Int->KS):Option Res:=
 cond (cV a 63 != cV b 63) (k (wu (a - b)) (rH (wu (a - b)) (decide (a<b)) (cV (wu (a - b)) 63 != cV a 63) S)) (k (wu (a - b)) (rH (wu (a - b)) (decide (a<b)) false S))
def gS (f:Int->Int->Int) (a b:Int) (S:List V) (k:Int->KS):Option Res:=k (f a b) (rH (f a b) false false S)
def fH (e:EnvR) (at_ n:Int) (S:List V) (k:Int->KS):Option Res:=
 q (lens5 e.A e.B e.C e.D e.E) (q (rng64 at_&&true) (k (oL e.A e.B e.C e.D e.E at_ n) (S.set 40 (.int .i64 (pI at_ n)))))
def r7 (e:EnvR) (at_ n v:Int) (S:List V) (k:List V->List O->Option Res):Option Res:=
 q (lens5 e.A e.B e.C e.D e.E) (q (rng64 at_&&true) (k (S.set 40 (.int .i64 (wC at_ n))) (aO (b9 1 at_ n v e.A) (b9 2 at_ n v e.B) (b9 16 at_ n v e.C) (b9 17 at_ n v e.D) (b9 32 at_ n v e.E))))
def qS (e:EnvR) (v:Int) (S:List V) (k:List V->List O->Option Res):Option Res:=r7 e (wu (iG e - 8)) 8 v S fun T H=>k (T.set 5 (.int .u64 (wu (iG e - 8)))) H
def wZ (e:EnvR) (S:List V) (k:Int->KS):Option Res:=fH e (iG e) 8 S fun y T=>k y (T.set 5 (.int .u64 (wu (iG e+8))))
def x32 (x:Int):Int:=IntKind.wrap .u32 x
def aPJ (x:Int):Int:=wi (IntKind.wrap .i32 (x32 x))
def IQ (x:Int):Int:=wu (aPJ x)
def OH (nm:List UInt8):bR:=fun s a b c d m e A B C D E=>uK s (wu (s.pc+wu e)) 1 (aO A B C D E) ((xM (eZ s nm a b c d m e A B C D E)).set 2 (.int .u64 (wu (s.pc+wu e))))
def udD (_:List UInt8):bR:=fun s _ _ _ _ _ _ A B C D E=>sN s.l 2 (aO A B C D E)
def EF (e:EnvR) (h l:Int) (S:List V) (k:KS):Option Res:=b6 e l (wT (h != wu (Int.fdiv (wi l) (2 ^ 63))) S) k
def MS (a:Int->Int->Int × Int) (e:EnvR) (x y:Int) (S:List V) (k:KS):Option Res:=
 cond (qY x) (cond (qY y) (EF e (wu (wu ((a x y).1 - y) - x)) (a x y).2 S k) (EF e (wu ((a x y).1 - y)) (a x y).2 S k)) (cond (qY y) (EF e (wu ((a x y).1 - x)) (a x y).2 S k) (EF e (a x y).1 (a x y).2 S k))
def C1 (S:List V):List V:=S.set 40 (.int .i64 21)
def OD (a:Int->Int->Int->Int × Int) (e:EnvR) (y:Int) (S:List V) (k:KS):Option Res:=
 cond (decide (y<=e.s.x.getD 2 0)) (k (C1 S)) (k ((S.set 1 (.int .u64 (a (e.s.x.getD 2 0) (e.s.x.getD 0 0) y).1)).set 3 (.int .u64 (a (e.s.x.getD 2 0) (e.s.x.getD 0 0) y).2)))
def OA (neg:Bool) (a r:Int) (S:List V) (k:KS):Option Res:=cond neg (k ((S.set 1 (.int .u64 a)).set 3 (.int .u64 (wu (0 - r))))) (k ((S.set 1 (.int .u64 a)).set 3 (.int .u64 r)))
def HF (neg b:Bool) (a r:Int) (S:List V) (k:KS):Option Res:=cond b (OA neg (wu (0 - a)) r S k) (OA neg a r S k)
def aOK (neg a:Bool) (b r:Int) (S:List V) (k:KS):Option Res:=
 cond a (cond (decide (9223372036854775808<b)) (k (C1 S)) (cond (!a) (cond (decide (9223372036854775808<=b)) (k (C1 S)) (HF neg a b r S k)) (HF neg a b r S k)))
  (cond (!a) (cond (decide (9223372036854775808<=b)) (k (C1 S)) (HF neg a b r S k)) (HF neg a b r S k))
def O0 (b:Int->Int->Int->Int × Int) (neg:Bool) (h l y a:Int) (S:List V) (k:KS):Option Res:=
 cond (decide (a<=h)) (k (C1 S)) (aOK neg (!(neg==decide (wi y<0))) (b h l a).1 (b h l a).2 S k)
def C5 (a:Int->Int->Int->Int × Int) (neg:Bool) (h l y:Int) (S:List V) (k:KS):Option Res:=cond (decide (wi y<0)) (O0 a neg h l y (wu (0 - y)) S k) (O0 a neg h l y y S k)
def G7 (a:Int->Int->Int->Int × Int) (e:EnvR) (y:Int) (S:List V) (k:KS):Option Res:=
 let neg:=decide (wi (e.s.x.getD 2 0)<0)
 cond neg (cond (wu (0 - e.s.x.getD 0 0)==0) (C5 a neg (wu (kP (e.s.x.getD 2 0)+1)) (wu (0 - e.s.x.getD 0 0)) y S k) (C5 a neg (kP (e.s.x.getD 2 0)) (wu (0 - e.s.x.getD 0 0)) y S k)) (C5 a neg (e.s.x.getD 2 0) (e.s.x.getD 0 0) y S k)
def DK (e:EnvR) (x n:Int) (S:List V) (k:KS):Option Res:=cond (n==0) (b6 e x S k) (q (decide (0<=n)) (q (decide (0<=wu (64 - n))) (b6 e (HK x n) (rH (HK x n) (bG (cV x (wu (64 - n))) 1==1) false S) k)))
def DB (e:EnvR) (x n:Int) (S:List V) (k:KS):Option Res:=cond (n==0) (b6 e x S k) (q (decide (0<=n)) (q (decide (0<=wu (n - 1))) (b6 e (cV x n) (rH (cV x n) (bG (cV x (wu (n - 1))) 1==1) false S) k)))
def DG (e:EnvR) (x n:Int) (S:List V) (k:KS):Option Res:=cond (n==0) (b6 e x S k) (q (decide (0<=n)) (q (decide (0<=wu (n - 1))) (b6 e (wu (cV (wi x) n)) (rH (wu (cV (wi x) n)) (bG (wu (cV (wi x) (wu (n - 1)))) 1==1) false S) k)))
def iR (f:Int->Int->Int × Int) (g:Int->Int->Int->Int × Int):List (List UInt8 × bR):=[
 ([109,111,118,46,114,114],(aN fun e _ S k=>aL e.b S fun y=>b6 e y S k) [109,111,118,46,114,114]),
 ([109,111,118,46,114,105],(aN fun e _ S k=>b6 e (wu e.m) S k) [109,111,118,46,114,105]),
 ([109,111,118,46,114,115],(aN fun e _ S k=>b6 e (wu e.m) S k) [109,111,118,46,114,115]),
 ([109,111,118,46,114,109],(aN fun e _ S k=>dB e S fun p=>fH e p 8 S fun y U=>b6 e y U k) [109,111,118,46,114,109]),
 ([109,111,118,108,46,114,109],(aN fun e _ S k=>dB e S fun p=>fH e p 4 S fun y U=>b6 e y U k) [109,111,118,108,46,114,109]),
 ([109,111,118,115,108,46,114,109],(aN fun e _ S k=>dB e S fun p=>fH e p 4 S fun y U=>b6 e (IQ y) U k) [109,111,118,115,108,46,114,109]),
 ([109,111,118,122,98,46,114,109],(aN fun e _ S k=>dB e S fun p=>fH e p 1 S fun y U=>b6 e y U k) [109,111,118,122,98,46,114,109]),
 ([108,101,97],(aN fun e _ S k=>dB e S fun p=>b6 e p S k) [108,101,97]),
 ([109,111,118,46,109,114],(pX fun e _ S k=>dB e S fun p=>aL e.a S fun y=>r7 e p 8 y S k) [109,111,118,46,109,114]),
 ([109,111,118,108,46,109,114],(pX fun e _ S k=>dB e S fun p=>aL e.a S fun y=>r7 e p 4 y S k) [109,111,118,108,46,109,114]),
 ([109,111,118,98,46,109,114],(pX fun e _ S k=>dB e S fun p=>aL e.a S fun y=>r7 e p 1 y S k) [109,111,118,98,46,109,114]),
 ([109,111,118,46,102,115],(aN fun e _ S k=>fH e (wu (e.s.th+wu e.m)) 8 S fun y U=>b6 e y U k) [109,111,118,46,102,115]),
 ([97,100,100,46,114,114],(aN fun e _ S k=>aL e.b S fun y=>aL e.a S fun x=>uF x y S fun v T=>dP e v T k) [97,100,100,46,114,114]),
 ([111,114,46,114,114],(aN fun e _ S k=>aL e.b S fun y=>aL e.a S fun x=>(gS l8) x y S fun v T=>dP e v T k) [111,114,46,114,114]),
 ([97,110,100,46,114,114],(aN fun e _ S k=>aL e.b S fun y=>aL e.a S fun x=>(gS bG) x y S fun v T=>dP e v T k) [97,110,100,46,114,114]),
 ([115,117,98,46,114,114],(aN fun e _ S k=>aL e.b S fun y=>aL e.a S fun x=>j7 x y S fun v T=>dP e v T k) [115,117,98,46,114,114]),
 ([120,111,114,46,114,114],(aN fun e _ S k=>aL e.b S fun y=>aL e.a S fun x=>(gS gB) x y S fun v T=>dP e v T k) [120,111,114,46,114,114]),
 ([99,109,112,46,114,114],(aN fun e _ S k=>aL e.b S fun y=>aL e.a S fun x=>j7 x y S fun v T=>pQ e v T k) [99,109,112,46,114,114]),
 ([97,100,100,46,114,109],(aN fun e _ S k=>dB e S fun p=>fH e p 8 S fun y U=>aL e.a U fun x=>uF x y U fun v T=>dP e v T k) [97,100,100,46,114,109]),
 ([111,114,46,114,109],(aN fun e _ S k=>dB e S fun p=>fH e p 8 S fun y U=>aL e.a U fun x=>(gS l8) x y U fun v T=>dP e v T k) [111,114,46,114,109]),
 ([97,110,100,46,114,109],(aN fun e _ S k=>dB e S fun p=>fH e p 8 S fun y U=>aL e.a U fun x=>(gS bG) x y U fun v T=>dP e v T k) [97,110,100,46,114,109]),
 ([115,117,98,46,114,109],(aN fun e _ S k=>dB e S fun p=>fH e p 8 S fun y U=>aL e.a U fun x=>j7 x y U fun v T=>dP e v T k) [115,117,98,46,114,109]),
 ([120,111,114,46,114,109],(aN fun e _ S k=>dB e S fun p=>fH e p 8 S fun y U=>aL e.a U fun x=>(gS gB) x y U fun v T=>dP e v T k) [120,111,114,46,114,109]),
 ([99,109,112,46,114,109],(aN fun e _ S k=>dB e S fun p=>fH e p 8 S fun y U=>aL e.a U fun x=>j7 x y U fun v T=>pQ e v T k) [99,109,112,46,114,109]),
 ([97,100,100,46,114,105],(aN fun e _ S k=>aL e.a S fun x=>uF x (wu e.m) S fun v T=>dP e v T k) [97,100,100,46,114,105]),
 ([111,114,46,114,105],(aN fun e _ S k=>aL e.a S fun x=>(gS l8) x (wu e.m) S fun v T=>dP e v T k) [111,114,46,114,105]),
 ([97,110,100,46,114,105],(aN fun e _ S k=>aL e.a S fun x=>(gS bG) x (wu e.m) S fun v T=>dP e v T k) [97,110,100,46,114,105]),
 ([115,117,98,46,114,105],(aN fun e _ S k=>aL e.a S fun x=>j7 x (wu e.m) S fun v T=>dP e v T k) [115,117,98,46,114,105]),
 ([120,111,114,46,114,105],(aN fun e _ S k=>aL e.a S fun x=>(gS gB) x (wu e.m) S fun v T=>dP e v T k) [120,111,114,46,114,105]),
 ([99,109,112,46,114,105],(aN fun e _ S k=>aL e.a S fun x=>j7 x (wu e.m) S fun v T=>pQ e v T k) [99,109,112,46,114,105]),
 ([116,101,115,116,46,114,114],(aN fun e _ S k=>aL e.b S fun y=>aL e.a S fun x=>(gS bG) x y S fun v T=>pQ e v T k) [116,101,115,116,46,114,114]),
 ([105,109,117,108,46,114,114],(aN fun e _ S k=>aL e.a S fun x=>aL e.b S fun y=>MS f e x y S k) [105,109,117,108,46,114,114]),
 ([110,111,116],(aN fun e x S k=>b6 e (kP x) S k) [110,111,116]),
 ([110,101,103],(aN fun e x S k=>j7 0 x S fun v T=>b6 e v T k) [110,101,103]),
 ([109,117,108],(aN fun e x S k=>k (wT ((f (e.s.x.getD 0 0) x).1 != 0) ((S.set 1 (.int .u64 (f (e.s.x.getD 0 0) x).2)).set 3 (.int .u64 (f (e.s.x.getD 0 0) x).1)))) [109,117,108]),
 ([100,105,118],(aN fun e x S k=>OD g e x S k) [100,105,118]),
 ([105,100,105,118],(aN fun e x S k=>G7 g e x S k) [105,100,105,118]),
 ([99,113,111],(aN fun e _ S k=>k (S.set 3 (.int .u64 (wu (Int.fdiv (wi (e.s.x.getD 0 0)) (2 ^ 63)))))) [99,113,111]),
 ([115,104,108,46,114,105],(aN fun e _ S k=>aL e.a S fun x=>DK e x (wu e.m) S k) [115,104,108,46,114,105]),
 ([115,104,114,46,114,105],(aN fun e _ S k=>aL e.a S fun x=>DB e x (wu e.m) S k) [115,104,114,46,114,105]),
 ([115,97,114,46,114,105],(aN fun e _ S k=>aL e.a S fun x=>DG e x (wu e.m) S k) [115,97,114,46,114,105]),
 ([115,104,108,46,114,99],(aN fun e _ S k=>aL e.a S fun x=>DK e x (bG (e.s.x.getD 1 0) 63) S k) [115,104,108,46,114,99]),
 ([115,104,114,46,114,99],(aN fun e _ S k=>aL e.a S fun x=>DB e x (bG (e.s.x.getD 1 0) 63) S k) [115,104,114,46,114,99]),
 ([115,97,114,46,114,99],(aN fun e _ S k=>aL e.a S fun x=>DG e x (bG (e.s.x.getD 1 0) 63) S k) [115,97,114,46,114,99]),
 ([99,109,111,118],(aN fun e _ S k=>cond (bY e.s.z e.s.n e.s.c e.s.v e.d) (aL e.b S fun y=>b6 e y S k) (k S)) [99,109,111,118]),
 ([112,117,115,104],(pX fun e x S k=>qS e x S k) [112,117,115,104]),
 ([112,111,112],(aN fun e _ S k=>wZ e S fun y U=>b6 e y U k) [112,111,112]),
 ([99,97,108,108],(w5 fun e S k=>qS e e.bk S (k (gN e))) [99,97,108,108]),
 ([106,109,112],(kN fun e S k=>k (gN e) S) [106,109,112]),
 ([106,109,112,46,115],(kN fun e S k=>k (gN e) S) [106,109,112,46,115]),
 ([99,97,108,108,46,114],(w5 fun e S k=>aL e.a S fun y=>qS e e.bk S (k y)) [99,97,108,108,46,114]),
 ([106,109,112,46,114],(kN fun e S k=>aL e.a S fun y=>k y S) [106,109,112,46,114]),
 ([106,99,99],(kN fun e S k=>cond (bY e.s.z e.s.n e.s.c e.s.v e.d) (k (gN e) S) (k e.bk S)) [106,99,99]),
 ([106,99,99,46,115],(kN fun e S k=>cond (bY e.s.z e.s.n e.s.c e.s.v e.d) (k (gN e) S) (k e.bk S)) [106,99,99,46,115]),
 ([114,101,116],(kN fun e S k=>wZ e S fun y U=>k y U) [114,101,116]),
 ([115,121,115,99,97,108,108],(OH) [115,121,115,99,97,108,108]),
 ([110,111,112],(aN fun e _ S k=>k S) [110,111,112]),
 ([117,100,50],(udD) [117,100,50])]
def gE (ck:bZ->Int) (x:List UInt8 × bR):=W2 (YB ck x.1 x.2)
noncomputable def gO (ck:bZ->Int) (b:Int->Int->Int × Int) (a:Int->Int->Int->Int × Int) (x:List UInt8 × bR):=W1 (aOW ck b a x.1)
end Go.Ra

namespace Go.Ra
open Go Go.Ab Go.Proofs Go.Amd
theorem iX {x:RowT} {i:aE} (h:c8 x i=0):okF x i.2.1 i.2.2.1 i.2.2.2.1 i.2.2.2.2.1=true:=by
 unfold c8 tU at h;cases a:okF x i.2.1 i.2.2.1 i.2.2.2.1 i.2.2.2.2.1
 ·rw [a] at h; cases h
 ·rfl
theorem oB {n:Int} {u:Bool} (h:cY n u=true):0<=n/\n<16:=by
 unfold cY at h;by_cases h0:n=0
 ·omega
 have e:(n==0)=false:=beq_eq_false_iff_ne.2 h0;rw [e,cond_false] at h;cases u
 ·cases h
 ·rw [cond_true] at h
  by_cases h1:0<n
  ·rw [decide_eq_true h1,cond_true] at h
   have:=of_decide_eq_true h;omega
  ·rw [decide_eq_false h1] at h; cases h
theorem R0 {n:Int} (h:cY n false=true):n=0:=by
 unfold cY at h;cases e:(n==0)
 ·rw [e] at h; cases h
 ·exact eq_of_beq e
theorem FL {b:Int} (h:pG b=true):(0<=b/\b<16)\/b=17:=by
 unfold pG at h;by_cases h17:b=17
 ·exact .inr h17
 have e:(b==17)=false:=beq_eq_false_iff_ne.2 h17;rw [e] at h;by_cases h0:0<=b
 ·by_cases h1:b<=15
  ·exact .inl ⟨h0,by omega⟩
  ·rw [decide_eq_true h0,decide_eq_false h1] at h; cases h
 ·rw [decide_eq_false h0] at h; cases h
theorem QN {d:Int} (h:vY d=true):d=1\/d=2\/d=4\/d=8:=by
 unfold vY at h;by_cases h1:d=1
 ·exact .inl h1
 by_cases h2:d=2
 ·exact .inr (.inl h2)
 by_cases h4:d=4
 ·exact .inr (.inr (.inl h4))
 by_cases h8:d=8
 ·exact .inr (.inr (.inr h8))
 simp [h1,h2,h4,h8] at h
theorem vE {b c d:Int} (h:jO b c d=true) :
  (b=17/\c=16/\d=0)\/((0<=b/\b<16)/\c=16/\d=0)\/((0<=b/\b<16)/\(0<=c/\c<16)/\c ≠ 4/\(d=1\/d=2\/d=4\/d=8)):=by
 unfold jO at h;cases e:(c==16)
 ·rw [e,cond_false] at h
  cases a:pG b
  ·rw [a] at h; cases h
  rw [a,cond_true] at h;cases f:(b != 17)
  ·rw [f] at h; cases h
  rw [f,cond_true] at h;cases g:decide (0<=c)
  ·rw [g] at h; cases h
  rw [g,cond_true] at h;cases j:decide (c<=15)
  ·rw [j] at h; cases h
  rw [j,cond_true] at h;cases i:(c != 4)
  ·rw [i] at h; cases h
  rw [i,cond_true] at h
  have f:b ≠ 17:=by simpa using f
  have i:c ≠ 4:=by simpa using i
  have g:=of_decide_eq_true g;have j:=of_decide_eq_true j
  rcases FL a with hb | hb
  ·exact .inr (.inr ⟨hb,⟨g,by omega⟩,i,QN h⟩)
  ·exact absurd hb f
 ·rw [e,cond_true] at h
  have e:=eq_of_beq e;cases a:pG b
  ·rw [a] at h; cases h
  rw [a,cond_true] at h;have k:=eq_of_beq h
  rcases FL a with hb | hb
  ·exact .inr (.inl ⟨hb,e,k⟩)
  ·exact .inl ⟨hb,e,k⟩
theorem KC {d:Int} (h:j6 d=true):0<=d/\d<16:=by
 unfold j6 at h;by_cases h0:0<=d
 ·by_cases h9:d<=9
  ·omega
  ·rw [decide_eq_true h0,decide_eq_false h9] at h
   by_cases a:12<=d
   ·rw [decide_eq_true a] at h
    have:=of_decide_eq_true h;omega
   ·rw [decide_eq_false a] at h; cases h
 ·have a:¬ 12<=d:=by omega
  rw [decide_eq_false h0,decide_eq_false a] at h;cases h
theorem mB {x:RowT} {a b c d:Int} (h:okF x a b c d=true) :
  (uM x=true/\cY a (uA x)=true/\jO b c d=true)\/(uM x=false/\cY a (uA x)=true/\cY b (uB x)=true/\c=0/\(d=0\/(bI x=true/\j6 d=true))):=by
 unfold okF at h;cases g:uM x
 ·rw [g,cond_false] at h
  cases e:cY a (uA x)
  ·rw [e] at h; cases h
  rw [e,cond_true] at h;cases i:cY b (uB x)
  ·rw [i] at h; cases h
  rw [i,cond_true] at h;cases f:(c==0)
  ·rw [f] at h; cases h
  rw [f,cond_true] at h;refine .inr ⟨rfl,rfl,rfl,eq_of_beq f,?_⟩;cases j:(d==0)
  ·rw [j,cond_false] at h
   cases k:bI x
   ·rw [k] at h; cases h
   ·rw [k,cond_true] at h; exact .inr ⟨rfl,h⟩
  ·exact .inl (eq_of_beq j)
 ·rw [g,cond_true] at h
  cases e:cY a (uA x)
  ·rw [e] at h; cases h
  rw [e,cond_true] at h;exact .inl ⟨rfl,rfl,h⟩
theorem lL {x:RowT} {i:aE} (h:c8 x i=0):(uI x=true->lowR x<=i.2.2.2.2.2/\i.2.2.2.2.2<=highR x)/\(uI x=false->i.2.2.2.2.2=0):=by
 have c:=iX h;unfold c8 tU at h;rw [c] at h;simp only [Bool.not_true,cond_false] at h;refine ⟨fun a=>?_,fun a=>?_⟩
 ·rw [a,cond_true] at h
  by_cases h1:i.2.2.2.2.2<lowR x
  ·rw [decide_eq_true h1] at h; cases h
  ·by_cases h2:highR x<i.2.2.2.2.2
   ·rw [decide_eq_false h1,decide_eq_true h2] at h; cases h
   ·omega
 ·rw [a,cond_false] at h
  cases b:(i.2.2.2.2.2 != 0)
  ·simpa using b
  ·rw [b] at h; cases h
end Go.Ra

namespace Go.Ra
open Go Go.Ab Go.Proofs
abbrev W:={ t:CpuT // t.x.length=32 }
def YO (a v:Int) (s:CpuT):CpuT:={ s with x:=s.x.set a.toNat v }
def dG (a v:Int) (t:W):W:=⟨YO a v t.1,by show (t.1.x.set a.toNat v).length=32; rw [List.length_set]; exact t.2⟩
def AO (z n c v:Bool) (t:W):W:=⟨{ t.1 with z:=z,n:=n,c:=c,v:=v },t.2⟩
def PU (b:Bool) (t:W):W:=⟨{ t.1 with c:=b,v:=b },t.2⟩
def zW (b:Bool) (t:W):W:=⟨{ t.1 with z:=b },t.2⟩
def nW (b:Bool) (t:W):W:=⟨{ t.1 with n:=b },t.2⟩
def cW (b:Bool) (t:W):W:=⟨{ t.1 with c:=b },t.2⟩
def vW (b:Bool) (t:W):W:=⟨{ t.1 with v:=b },t.2⟩
def regW (t:W) (a:Int):Int:=t.1.x.getD a.toNat 0
theorem pR (s:CpuT) (t:List V):s.l++t=[.int .u64 s.pc]++(s.x.map (V.int .u64)++([.bool s.z,.bool s.n,.bool s.c,.bool s.v,.int .u64 s.th]++t)):=by
 show (([.int .u64 s.pc]++s.x.map (V.int .u64))++[.bool s.z,.bool s.n,.bool s.c,.bool s.v,.int .u64 s.th])++t=_;simp
theorem a26 {s:CpuT} (b:s.x.length=32) {n:Nat} (c:n<32) (v:Int) (t:List V):j9 .u64 (1+n) v 0 (s.l++t)=({ s with x:=s.x.set n v }:CpuT).l++t:=by
 rw [pR,pR,P1,P1,KK [.int .u64 s.pc] 0 (Or.inr (by simp)),aI0 s.x _ (by simp) (by simp [b]; omega),KK _ _ (Or.inl (by simp [b]; omega))];simp
theorem aX0 {s:CpuT} (b:s.x.length=32) {n:Nat} (c:n<32) (t:List V):pJ (s.l++t) (1+n)=s.x.getD n 0:=by
 rw [pR,aRY (by simp),aSL (by simp [b]; omega),aFG];simp
theorem aF2 {s:CpuT} (b:s.x.length=32) {n:Nat} (c:n<32) (t:List V):n9 .u64 (s.l++t) (1+n)=true:=by
 rw [pR];exact aTA (by simp) (by simp [b]; omega)
section
variable {a:Int} (ha:oR a=true) (t:W) (T:List V)
include ha
theorem cT (k:Option Res):aH a k=k:=by
 obtain ⟨b,h1⟩:=FH ha;unfold aH q;rw [jI b (by omega)];rfl
theorem nO (k:Int->Option Res):iI a (t.1.l++T) k=k (regW t a):=by
 obtain ⟨b,h1⟩:=FH ha;unfold iI q regW;rw [Nat.mul_one,aF2 t.2 (by omega) T,aX0 t.2 (by omega) T];rfl
theorem fV (k:Int->Option Res):aL a (t.1.l++T) k=k (regW t a):=by
 unfold aL;rw [nO ha t T];exact cT ha _
theorem mJ (v:Int) (k:KS):eF a v (t.1.l++T) k=k ((dG a v t).1.l++T):=by
 obtain ⟨b,h1⟩:=FH ha;unfold eF q;rw [Nat.mul_one,aF2 t.2 (by omega) T,a26 t.2 (by omega)];rfl
theorem kZ (e:EnvR) (b:e.a=a) (v:Int) (k:KS):b6 e v (t.1.l++T) k=k ((dG a v t).1.l++T):=by
 unfold b6;rw [b,cT ha,mJ ha]
end
section
variable (t:W) (T:List V)
theorem K6 {n:Nat} (b:n<32) (v:Int):(t.1.l++T).set (1+n) (.int .u64 v)=({ t.1 with x:=t.1.x.set n v }:CpuT).l++T:=by
 have e:(t.1.x.map (V.int .u64)).length=32:=by rw [ZF0]; exact t.2
 rw [pR,pR,List.set_append_right _ _ (by simp),List.set_append_left _ _ (by simp [t.2]; omega)];simp [List.map_set]
theorem v8 (v:Int):(t.1.l++T).set 1 (.int .u64 v)=(dG 0 v t).1.l++T:=K6 t T (n:=0) (by decide) v
theorem ad3 (v:Int):(t.1.l++T).set 2 (.int .u64 v)=(dG 1 v t).1.l++T:=K6 t T (n:=1) (by decide) v
theorem r9 (v:Int):(t.1.l++T).set 3 (.int .u64 v)=(dG 2 v t).1.l++T:=K6 t T (n:=2) (by decide) v
theorem ML (v:Int):(t.1.l++T).set 5 (.int .u64 v)=(dG 4 v t).1.l++T:=K6 t T (n:=4) (by decide) v
theorem L9 (j:Nat) (v:V):(t.1.l++T).set (33+j) v=[.int .u64 t.1.pc]++(t.1.x.map (V.int .u64)++((([V.bool t.1.z,V.bool t.1.n,V.bool t.1.c,V.bool t.1.v,V.int .u64 t.1.th]:List V)++T).set j v)):=by
 rw [pR,List.set_append_right _ _ (by simp; omega),List.set_append_right _ _ (by simp [t.2])]
 have e:33+j - [V.int IntKind.u64 t.1.pc].length - (t.1.x.map (V.int .u64)).length=j:=by
  rw [ZF0,t.2,List.length_singleton];omega
 rw [e]
theorem aK6 (b:Bool):(t.1.l++T).set 33 (.bool b)=(zW b t).1.l++T:=by
 rw [show (33:Nat)=33+0 from rfl,L9,pR];rfl
theorem aKN (b:Bool):(t.1.l++T).set 34 (.bool b)=(nW b t).1.l++T:=by
 rw [show (34:Nat)=33+1 from rfl,L9,pR];rfl
theorem V7 (b:Bool):(t.1.l++T).set 35 (.bool b)=(cW b t).1.l++T:=by
 rw [show (35:Nat)=33+2 from rfl,L9,pR];rfl
theorem UJ (b:Bool):(t.1.l++T).set 36 (.bool b)=(vW b t).1.l++T:=by
 rw [show (36:Nat)=33+3 from rfl,L9,pR];rfl
theorem L7 (x:Int) (v c:Bool):DL x v c (t.1.l++T)=(AO (x==0) (qY x) c v t).1.l++T:=by
 unfold DL aND;rw [aK6,aKN,UJ,V7];rfl
theorem CR (x:Int) (c v:Bool):rH x c v (t.1.l++T)=(AO (x==0) (cV x 63==1) c v t).1.l++T:=by
 unfold rH;rw [V7,UJ,aKN,aK6];rfl
theorem KZ (b:Bool):wT b (t.1.l++T)=(PU b t).1.l++T:=by
 unfold wT;rw [V7,UJ];rfl
end
def gC (e:EnvR) (f:Int):List V:=[.ptr 1 0,.str e.nm,.int .i64 e.a,.int .i64 e.b,.int .i64 e.c,.int .i64 e.d,.int .i64 e.m,.int .u64 f,.int .u64 e.bk]
def iK (e:EnvR) (b:Int):List V:=[.int .u64 e.bk,.ptr 1 0,.int .i64 b]
theorem XM (t:W):t.1.l.length=38:=by
 have e:=pR t.1 [];rw [List.append_nil,List.append_nil] at e;rw [e];simp [t.2]
theorem aJU (t:W) (T:List V):((t.1.l++T).drop 1).take 37=t.1.l.drop 1:=by
 have h:=XM t;rw [List.drop_append_of_le_length (by omega),List.take_append_of_le_length (by rw [ZF1]; omega),List.take_of_length_le (by rw [ZF1]; omega)]
theorem aF6 (t:W) (T:List V) (j:Nat):(t.1.l++T).getD (38+j) .any=T.getD j .any:=by
 have h:=XM t;rw [ZG0,ZG0,List.getElem?_append_right (by omega)];rw [show 38+j - t.1.l.length=j by omega]
theorem set_tail (t:W) (T:List V) (j:Nat) (v:V):(t.1.l++T).set (38+j) v=t.1.l++T.set j v:=by
 have h:=XM t;rw [List.set_append_right _ _ (by omega),show 38+j - t.1.l.length=j by omega]
theorem BU (t:W) (e:EnvR) (b v:Int):(t.1.l++gC e b).set 45 (.int .u64 v)=t.1.l++gC e v:=set_tail t _ 7 _
theorem S2 (t:W) (e:EnvR) (b v:Int):(t.1.l++iK e b).set 40 (.int .i64 v)=t.1.l++iK e v:=set_tail t _ 2 _
theorem KX (t:W) (e:EnvR) (b:Int):C1 (t.1.l++iK e b)=t.1.l++iK e 21:=S2 t e b 21
theorem aLB (t:W) (e:EnvR) (b:Int) (H:List O):uE H (t.1.l++gC e b)=sN ({ t.1 with pc:=b }:CpuT).l 0 H:=by
 unfold uE;rw [aJU,show (45:Nat)=38+7 from rfl,aF6];rfl
theorem MN (t:W) (e:EnvR) (s:CpuT) (to c b:Int) (H:List O):uK s to c H (t.1.l++iK e b)=cond (b != 0) (j8 s b H) (sN ({ t.1 with pc:=to }:CpuT).l c H):=by
 unfold uK;rw [aJU,show (40:Nat)=38+2 from rfl,aF6];rfl
theorem GP (e:EnvR) (h:e.s.x.length=32):Z9 e=(⟨e.s,h⟩:W).1.l++gC e e.bk:=rfl
theorem B3 (e:EnvR) (h:e.s.x.length=32):xM e=(⟨e.s,h⟩:W).1.l++iK e 0:=rfl
def oV (s:CpuT) (r g:Option Res):Prop:=∃ (s' : CpuT) (b err:Int) (A B C D E:List Int),Fine s' /\ lens5 A B C D E=true/\(err ≠ 0->s' = s/\b=0) /\
 r=some (.ok (.tup [.agg s'.l,.int .i64 b,.int .i64 err]) (aR A B C D E))/\g=some (.ok (.tup [.agg s'.l,.int .i64 b,.int .i64 err]) (aO A B C D E))
theorem vM {s:CpuT} (h:Fine s) (e:Int) {A B C D E:List Int} (b:lens5 A B C D E=true):oV s (j8 s e (aR A B C D E)) (j8 s e (aO A B C D E)):=
 ⟨s,0,e,A,B,C,D,E,h,b,fun _=>⟨rfl,rfl⟩,rfl,rfl⟩
theorem KI {s s' : CpuT} (c : Fine s') (b:Int) {A B C D E:List Int} (d:lens5 A B C D E=true):oV s (sN s'.l b (aR A B C D E)) (sN s'.l b (aO A B C D E)):=
 ⟨s',b,0,A,B,C,D,E,c,d,fun h=>absurd rfl h,rfl,rfl⟩
theorem aZ6 {l:List Int} {i j:Nat} {v:Int}:rng64 v=true->rng64 (l.getD j 0)=true->rng64 ((l.set i v).getD j 0)=true:=by
 intro c b;rw [ZG0,List.getElem?_set];split
 ·split
  ·exact c
  ·rfl
 ·rw [<- ZG0]
  exact b
theorem fK {t:W} (h:Fine t.1) (a:Int) {v:Int} (b:rng64 v=true):Fine (dG a v t).1:=⟨(dG a v t).2,fun i=>aZ6 b (h.rng i),h.pc⟩
theorem KP {t:W} (h:Fine t.1) (z n c v:Bool):Fine (AO z n c v t).1:=⟨h.len,h.rng,h.pc⟩
theorem aHT {t:W} (h:Fine t.1) (b:Bool):Fine (PU b t).1:=⟨h.len,h.rng,h.pc⟩
theorem SW {t:W} (h:Fine t.1) {b:Int} (c:rng64 b=true):Fine ({ t.1 with pc:=b }:CpuT):=⟨h.len,h.rng,c⟩
theorem cJ (x:Int):rng64 (wu x)=true:=by
 refine vS ?_ ?_ <;> rw [fS] <;> omega
end Go.Ra

namespace Go.Ra
open Go Go.Ab Go.Proofs
def hb (x:Int):Bool:=decide (9223372036854775808<=x)
theorem BR {x:Int} (h:rng64 x=true):qY x=hb x:=by
 obtain ⟨a,h1⟩:=dV h;unfold qY hb;rw [LS];by_cases g:9223372036854775808<=x
 ·rw [if_pos (by omega),decide_eq_true (by omega),decide_eq_true g]
 ·rw [if_neg (by omega),decide_eq_false (by omega),decide_eq_false g]
theorem HL {x:Int} (h:rng64 x=true):cV x 63=cond (hb x) 1 0:=by
 obtain ⟨a,h1⟩:=dV h;have e:cV x 63=x / 9223372036854775808:=ZI2 _ (by decide);rw [e];unfold hb;by_cases g:9223372036854775808<=x
 ·rw [decide_eq_true g]
  show x / 9223372036854775808=1;omega
 ·rw [decide_eq_false g]
  show x / 9223372036854775808=0;omega
theorem FI {x:Int} (h:rng64 x=true):(cV x 63==1)=hb x:=by
 rw [HL h];cases hb x <;> rfl
theorem a7P {x y:Int} (h:rng64 x=true) (g:rng64 y=true):(cV x 63==cV y 63)=(hb x==hb y):=by
 rw [HL h,HL g];cases hb x <;> cases hb y <;> rfl
theorem T1 {x y:Int} (h:rng64 x=true) (g:rng64 y=true):(cV x 63 != cV y 63)=(hb x != hb y):=by
 rw [HL h,HL g];cases hb x <;> cases hb y <;> rfl
theorem aeC {x:Int} (h:rng64 x=true):((BitVec.ofInt 64 x).toNat:Int)=x:=by
 obtain ⟨a,h1⟩:=dV h;rw [BitVec.toNat_ofInt];omega
theorem W9 (b:BitVec 64):hb (b.toNat:Int)=b.msb:=by
 unfold hb;rw [BitVec.msb_eq_decide];exact decide_eq_decide.2 (by omega)
theorem L1 {x:Int} (h:rng64 x=true):hb x=(BitVec.ofInt 64 x).msb:=by
 rw [<- W9,aeC h]
theorem aMS (b:BitVec 64):IntKind.wrap .u64 ((b.toNat:Nat):Int)=b.toNat:=fQ b.isLt
theorem yO (a b:Int):rng64 (gB a b)=true:=cJ _
theorem vL (a b:Int):rng64 (bG a b)=true:=cJ _
theorem SS (a b:Int):rng64 (l8 a b)=true:=cJ _
theorem MB {a b:Int} (d:rng64 a=true) (c : rng64 b=true):hb (gB a b)=(hb a != hb b):=by
 unfold gB;rw [aMS,W9,BitVec.msb_xor,<- L1 d,<- L1 c]
theorem aKZ {a b:Int} (d:rng64 a=true) (c : rng64 b=true):hb (bG a b)=(hb a&&hb b):=by
 unfold bG;rw [aMS,W9,BitVec.msb_and,<- L1 d,<- L1 c]
def IE (x y:Int) (t:W):W:=AO (wu (x+y)==0) (hb (wu (x+y))) (decide (wu (x+y)<x)) (cond (hb x==hb y) (hb (wu (x+y)) != hb x) false) t
def AK (x y:Int) (t:W):W:=AO (wu (x - y)==0) (hb (wu (x - y))) (decide (x<y)) (cond (hb x != hb y) (hb (wu (x - y)) != hb x) false) t
def HD (x:Int) (t:W):W:=AO (x==0) (hb x) false false t
section
variable {x y:Int} (hx:rng64 x=true) (hy:rng64 y=true) (t:W) (T:List V)
include hx hy
theorem ab3 (k:Int->KS):Y9 x y (t.1.l++T) k=k (wu (x+y)) ((IE x y t).1.l++T):=by
 obtain ⟨d,x1⟩:=dV hx;obtain ⟨f,y1⟩:=dV hy;unfold Y9 q
 have e:(x+y+0) % 18446744073709551616=wu (x+y):=by rw [fS,Int.add_zero]
 rw [e,decide_eq_true d,decide_eq_true f,L7,BR (cJ _)];have a:=cJ (x+y)
 have c:decide (wi (bG (gB x (wu (x+y))) (gB y (wu (x+y))))<0)=cond (hb x==hb y) (hb (wu (x+y)) != hb x) false:=by
  refine (BR (vL _ _)).trans ?_;rw [aKZ (yO _ _) (yO _ _),MB hx a,MB hy a];cases hb x <;> cases hb y <;> cases hb (wu (x+y)) <;> rfl
 have b:((x+y+0) / 18446744073709551616 != 0)=decide (wu (x+y)<x):=by
  rw [fS];by_cases g:18446744073709551616<=x+y
  ·rw [decide_eq_true (by omega),show (x+y+0) / 18446744073709551616=1 by omega]
   rfl
  ·rw [decide_eq_false (by omega),show (x+y+0) / 18446744073709551616=0 by omega]
   rfl
 rw [c,b];rfl
theorem acC (k:Int->KS):uF x y (t.1.l++T) k=k (wu (x+y)) ((IE x y t).1.l++T):=by
 have a:=cJ (x+y);unfold uF IE;rw [CR,CR,a7P hx hy,T1 a hx,FI a];cases hb x==hb y <;> rfl
theorem UA (k:Int->KS):AH x y (t.1.l++T) k=k (wu (x - y)) ((AK x y t).1.l++T):=by
 obtain ⟨d,x1⟩:=dV hx;obtain ⟨f,y1⟩:=dV hy;unfold AH q
 have e:(x - y - 0) % 18446744073709551616=wu (x - y):=by rw [fS,Int.sub_zero]
 rw [e,decide_eq_true d,decide_eq_true f,decide_eq_true x1,decide_eq_true y1,L7,BR (cJ _)];have c:=cJ (x - y)
 have b:decide (wi (bG (gB x y) (gB x (wu (x - y))))<0)=cond (hb x != hb y) (hb (wu (x - y)) != hb x) false:=by
  refine (BR (vL _ _)).trans ?_;rw [aKZ (yO _ _) (yO _ _),MB hx hy,MB hx c];cases hb x <;> cases hb y <;> cases hb (wu (x - y)) <;> rfl
 have a:(cond (decide (x<y+0)) (1:Int) 0 != 0)=decide (x<y):=by
  rw [Int.add_zero];cases decide (x<y) <;> rfl
 rw [b,a];rfl
theorem WC (k:Int->KS):j7 x y (t.1.l++T) k=k (wu (x - y)) ((AK x y t).1.l++T):=by
 have a:=cJ (x - y);unfold j7 AK;rw [CR,CR,T1 hx hy,T1 a hx,FI a];cases hb x != hb y <;> rfl
end
theorem aM3 {x:Int} (hx:rng64 x=true) (t:W) (T:List V):OY x (t.1.l++T)=(HD x t).1.l++T:=by
 unfold OY;rw [L7,BR hx];rfl
theorem aK2 {f:Int->Int->Int} {x y:Int} (a:rng64 (f x y)=true) (t:W) (T:List V) (k:Int->KS):gS f x y (t.1.l++T) k=k (f x y) ((HD (f x y) t).1.l++T):=by
 unfold gS;rw [CR,FI a];rfl
theorem aHU (y:Int) (w k:Nat) (b:k<=w):((BitVec.ofInt w y &&& BitVec.ofInt w (2 ^ k - 1)).toNat:Int)=y % 2 ^ k:=by
 have d:(BitVec.ofInt w (2 ^ k - 1)).toNat=2 ^ k - 1:=by
  rw [BitVec.toNat_ofInt];have c:2 ^ k<=2 ^ w:=Nat.pow_le_pow_right (by decide) b;have g:1<=2 ^ k:=Nat.one_le_two_pow
  have e:((2:Int) ^ k - 1)=((2 ^ k - 1:Nat):Int):=by
   rw [Int.ofNat_sub g];simp
  rw [e]
  have a:(((2 ^ w:Nat)):Int)=((2:Int) ^ w):=by simp
  rw [<- Int.natCast_emod,ZJ0,Nat.mod_eq_of_lt (by omega)]
 rw [BitVec.toNat_and,d,Nat.and_two_pow_sub_one_eq_mod,BitVec.toNat_ofInt]
 have c:(0:Int)<((2 ^ w:Nat):Int):=by
  have:0<2 ^ w:=Nat.two_pow_pos w;omega
 have f:=Int.emod_nonneg y (Int.ne_of_gt c);rw [Int.natCast_emod,Int.toNat_of_nonneg f]
 have a:((2 ^ k:Nat):Int)=(2:Int) ^ k:=by simp
 rw [a];refine Int.emod_emod_of_dvd y ?_;rw [show ((2 ^ w:Nat):Int)=(2:Int) ^ w by simp];exact ⟨2 ^ (w - k),by rw [<- Int.pow_add,Nat.add_sub_cancel' b]⟩
theorem LQ (y:Int):bG y 1=y % 2:=by
 have h:=aHU y 64 1 (by decide);have e:bG y 1=wu ((BitVec.ofInt 64 y &&& BitVec.ofInt 64 (2 ^ 1 - 1)).toNat:Int):=rfl;rw [e,h,fS];omega
theorem a60 (y:Int):bG y 63=y % 64:=by
 have h:=aHU y 64 6 (by decide);have e:bG y 63=wu ((BitVec.ofInt 64 y &&& BitVec.ofInt 64 (2 ^ 6 - 1)).toNat:Int):=rfl;rw [e,h,fS];omega
theorem V6 (y:Int):(bG y 1 != 0)=(bG y 1==1):=by
 rw [LQ]
 rcases (by omega:y % 2=0\/y % 2=1) with h | h <;> rw [h] <;> rfl
theorem a8Q {x:Int} (hx:rng64 x=true) (n:Int):rng64 (cV x n)=true:=by
 obtain ⟨a,h1⟩:=dV hx;unfold cV;have b:(0:Int)<2 ^ (min n.toNat 64):=Int.pow_pos (by decide);rw [ZI2 _ (Int.le_of_lt b)];have:=Int.ediv_le_self (2 ^ (min n.toNat 64)) a;exact vS (Int.ediv_nonneg a (Int.le_of_lt b)) (by omega)
theorem a78 {x n:Int} (hx:rng64 x=true) (h:1<=n) (i:n<=64):(bG (wu (cV (wi x) (wu (n - 1)))) 1)=bG (cV x (wu (n - 1))) 1:=by
 obtain ⟨f,x1⟩:=dV hx;obtain ⟨m,hm⟩:=ZI3 (show 0<=n - 1 by omega)
 have c:wu (n - 1)=(m:Int):=by rw [hm]; exact fQ (by omega)
 have a:m<=63:=by omega
 rw [c,LQ,LQ]
 have e:∀ z:Int,cV z (m:Int)=z / 2 ^ m:=fun z=>by
  unfold cV;rw [ZJ0,Nat.min_eq_left (by omega),ZI2 _ (Int.le_of_lt (Int.pow_pos (by decide)))]
 rw [e,e,fS]
 have g:wi x / 2 ^ m % 2=x / 2 ^ m % 2:=by
  rw [LS,Int.emod_eq_of_lt f x1];split
  ·have d:(0:Int)<2 ^ m:=Int.pow_pos (by decide)
   have b:(18446744073709551616:Int)=2 ^ m*(2*2 ^ (63 - m)):=by
    have:(2:Int) ^ m*(2*2 ^ (63 - m))=2 ^ (m+(63 - m)+1):=by
     rw [Int.pow_succ,Int.pow_add,Int.mul_comm 2,Int.mul_assoc]
    rw [this,Nat.add_sub_cancel' a];rfl
   rw [b,show x - 2 ^ m*(2*2 ^ (63 - m))=x+2 ^ m*(-(2*2 ^ (63 - m))) by rw [Int.mul_neg]; rfl,Int.add_mul_ediv_left _ _ (Int.ne_of_gt d)];omega
  ·rfl
 omega
end Go.Ra

namespace Go.Ra
open Go Go.Ab Go.Proofs Go.Amd
def Alike (x:RowT) (r g:bR):Prop:=∀ s a b c d m f A B C D E,Fine s->lens5 A B C D E=true->okF x a b c d=true->(uI x=true->lowR x<=m/\m<=highR x) ->
 oV s (r s a b c d m f A B C D E) (g s a b c d m f A B C D E)
structure Hy (x:RowT) (e:EnvR):Prop where
 s:Fine e.s
 l:lens5 e.A e.B e.C e.D e.E=true
 ok:okF x e.a e.b e.c e.d=true
 im:uI x=true->lowR x<=e.m/\e.m<=highR x
 bk:rng64 e.bk=true
def wE {x:RowT} {e:EnvR} (h:Hy x e):W:=⟨e.s,h.s.len⟩
theorem FG {n:Int} (h:0<=n/\n<16):oR n=true:=by
 simp only [oR,ZA2,decide_eq_true_eq];omega
section
variable {x:RowT} {e:EnvR} (h:Hy x e)
include h
theorem Hy.a:oR e.a=true:=by
 rcases mB h.ok with ⟨_,g,_⟩ | ⟨_,g,_⟩ <;> exact FG (oB g)
theorem Hy.b (a:uM x=false):oR e.b=true:=by
 rcases mB h.ok with ⟨g,_,_⟩ | ⟨_,_,g,_⟩
 ·rw [a] at g; cases g
 ·exact FG (oB g)
theorem Hy.p (d:uM x=true):(e.b=17\/((e.b==17)=false/\oR e.b=true))/\(e.c=16\/((e.c != 16)=true/\oR e.c=true)):=by
 rcases mB h.ok with ⟨_,_,g⟩ | ⟨g,_⟩
 ·rcases vE g with ⟨a,h2,_⟩ | ⟨a,h2,_⟩ | ⟨a,h2,_⟩
  ·exact ⟨.inl a,.inl h2⟩
  ·exact ⟨.inr ⟨by rw [beq_eq_false_iff_ne]; omega,FG a⟩,.inl h2⟩
  ·exact ⟨.inr ⟨by rw [beq_eq_false_iff_ne]; omega,FG a⟩,.inr ⟨by rw [bne_iff_ne]; omega,FG h2⟩⟩
 ·rw [d] at g; cases g
theorem Hy.d (a:uM x=false):0<=e.d/\e.d<16:=by
 rcases mB h.ok with ⟨g,_⟩ | ⟨_,_,_,_,g⟩
 ·rw [a] at g; cases g
 ·rcases g with g | ⟨_,g⟩
  ·omega
  ·exact KC g
theorem Hy.r (n:Int):rng64 (regW (wE h) n)=true:=h.s.rng _
end
theorem rZ (s:CpuT) (a:Int):rng64 (wu (s.pc+wu a))=true:=cJ _
def p5 (e:EnvR) (b:Int) (r:(List V->Option Res)->Option Res) (g:(Int->List V->Option Res)->Option Res):Prop:=
 ∃ (t t' : W) (a:Int),(a=0\/a=21)/\(a=0->Fine t.1/\t' = t)/\(∀ k,r k=cond (a != 0) (rT e) (k (t.1.l++gC e b)))/\(∀ k,g k=k b (t'.1.l++iK e a))
theorem aF4 {e:EnvR} {b:Int} {r g} (f:Fine e.s) (a:lens5 e.A e.B e.C e.D e.E=true) (d:rng64 b=true) (h:p5 e b r g) :
  oV e.s (r (uE (aR e.A e.B e.C e.D e.E))) (g fun to=>uK e.s to 0 (aO e.A e.B e.C e.D e.E)):=by
 obtain ⟨t,t',er,c,h2,h3,h4⟩:=h;rw [h3,h4,aLB,MN]
 rcases c with rfl | rfl
 ·obtain ⟨f1,rfl⟩:=h2 rfl
  exact KI (SW f1 d) 0 a
 ·exact vM f 21 a
theorem jM {x:RowT} {f:wR} {g:EnvR->Int->List V->KS->Option Res} {nm:List UInt8}
  (h:∀ e (i:Hy x e),p5 e e.bk (f e ((wE i).1.l++gC e e.bk)) fun k=>g e (regW (wE i) e.a) ((wE i).1.l++iK e 0) (k e.bk)):Alike x (aZ f nm) (aN g nm):=by
 intro s a b c d m o A B C D E j n p hi;have i:Hy x (eZ s nm a b c d m o A B C D E):=⟨j,n,p,hi,rZ _ _⟩;have hb:=aF4 j n (rZ s o) (h _ i);unfold aZ aN;rw [GP _ j.len,B3 _ j.len,fV (a:=a) i.a];exact hb
theorem LC {x:RowT} {f:wR} {g:EnvR->List V->(Int->KS)->Option Res} {nm:List UInt8}
  (h:∀ e (i:Hy x e),∃ j,rng64 j=true/\p5 e j (f e ((wE i).1.l++gC e e.bk)) (g e ((wE i).1.l++iK e 0))):Alike x (aZ f nm) (kN g nm):=by
 intro s a b c d m p A B C D E n k o hi;have i:Hy x (eZ s nm a b c d m p A B C D E):=⟨n,k,o,hi,rZ _ _⟩;obtain ⟨j,hn,hd⟩:=h _ i;exact aF4 n k hn hd
theorem iM {e:EnvR} {a:Int} {r g} (t:W) (d:Fine t.1) (b:∀ k,r k=k (t.1.l++gC e a)) (c:∀ k,g k=k a (t.1.l++iK e 0)):p5 e a r g:=
 ⟨t,t,0,.inl rfl,fun _=>⟨d,rfl⟩,b,c⟩
theorem KA {e:EnvR} {a:Int} {r g} (t:W) (b:∀ k,r k=rT e) (c:∀ k,g k=k a (t.1.l++iK e 21)):p5 e a r g:=
 ⟨t,t,21,.inr rfl,fun h=>absurd h (by decide),b,c⟩
section
variable {x:RowT} {nm:List UInt8}
theorem a1Y (d:uM x=false):Alike x (aZ (wG fun e S k=>aH e.a (aL e.b S fun y=>eF e.a y S k)) nm) (aN (fun e _ S k=>aL e.b S fun y=>b6 e y S k) nm):=
 jM fun e c=>iM (dG e.a (regW (wE c) e.b) (wE c)) (fK c.s _ (c.r _))
  (fun k=>by simp only [wG,fV (c.b d),cT c.a,mJ c.a]) (fun k=>by simp only [fV (c.b d),kZ c.a _ _ e rfl])
theorem aGA {f:wR} (c:∀ e S k,f e S k=aH e.a (eF e.a (wu e.m) S k)\/f e S k=aH e.a (aH e.a (eF e.a (wu e.m) S k))):Alike x (aZ f nm) (aN (fun e _ S k=>b6 e (wu e.m) S k) nm):=
 jM fun e b=>iM (dG e.a (wu e.m) (wE b)) (fK b.s _ (cJ _))
  (fun k=>by rcases c e ((wE b).1.l++gC e e.bk) k with h | h <;> (rw [h]; simp only [cT b.a,mJ b.a])) (fun k=>by simp only [kZ b.a _ _ e rfl])
theorem MT {e:EnvR} (i:Hy x e) (n:uM x=true):∃ p,rng64 p=true /\ ∀ (T:List V) (k:Int->Option Res),dB e ((wE i).1.l++T) k=k p:=by
 obtain ⟨a,f⟩:=i.p n
 have j:∀ z,rng64 z=true -> ∃ p,rng64 p=true /\ ∀ (T:List V) (k:Int->Option Res),OM e ((wE i).1.l++T) z k=k p:=by
  intro z o;unfold OM
  rcases f with f | ⟨f,h3⟩
  ·refine ⟨z,o,fun T k=>?_⟩
   rw [f];rfl
  ·refine ⟨wu (z+wu (regW (wE i) e.c*wu e.d)),cJ _,fun T k=>?_⟩
   rw [f,cond_true,fV h3]
 unfold dB
 rcases a with a | ⟨a,h3⟩
 ·obtain ⟨p,hp,g⟩:=j _ (cJ (wu e.m+e.bk))
  refine ⟨p,hp,fun T k=>?_⟩;rw [a];exact g T k
 ·obtain ⟨p,hp,g⟩:=j _ (cJ (wu e.m+regW (wE i) e.b))
  refine ⟨p,hp,fun T k=>?_⟩;rw [a,cond_false,fV h3];exact g T k
theorem aHF {A B C D E:List Int} {x:Int}:∀ (n:Nat) (v:Int),rng64 v=true->rng64 (xI A B C D E x n v)=true
 | 0,_,h=>h
 | n+1,v,_=>aHF n _ (cJ _)
theorem E7 (A B C D E:List Int) (x n:Int):rng64 (oL A B C D E x n)=true:=by
 unfold oL;cases cM x n 4
 ·rfl
 ·exact aHF _ 0 rfl
theorem a2B (p n:Int):pI p n=0\/pI p n=21:=by
 unfold pI;cases cM p n 4
 ·exact .inr rfl
 ·exact .inl rfl
theorem a1L (p n:Int):wC p n=0\/wC p n=21:=by
 unfold wC;cases cM p n 2
 ·exact .inr rfl
 ·exact .inl rfl
theorem KV {e:EnvR} (a:lens5 e.A e.B e.C e.D e.E=true) {p:Int} (b:rng64 p=true) (n:Int) (k:Int->Option Res):CW e p n k=cond (pI p n != 0) (rT e) (k (oL e.A e.B e.C e.D e.E p n)):=by
 unfold CW q;rw [a,b];rfl
theorem K5 {e:EnvR} (b:lens5 e.A e.B e.C e.D e.E=true) {p:Int} (c:rng64 p=true) (n:Int) (t:W) (a:Int) (k:Int->KS) :
  fH e p n (t.1.l++iK e a) k=k (oL e.A e.B e.C e.D e.E p n) (t.1.l++iK e (pI p n)):=by
 unfold fH q;rw [b,c,S2];rfl
theorem FT {e:EnvR} {a:Int} {r:(List V->Option Res)->Option Res} {g:(Int->List V->Option Res)->Option Res} (p n:Int) (t:W) (d:Fine t.1) (b:∀ k,r k=cond (pI p n != 0) (rT e) (k (t.1.l++gC e a))) (c:∀ k,g k=k a (t.1.l++iK e (pI p n))):p5 e a r g:=
 ⟨t,t,pI p n,a2B _ _,fun _=>⟨d,rfl⟩,b,c⟩
theorem NQ (i:uM x=true) (n:Int) {f g:Int->Int} (d:∀ y,g y=f y) (c:∀ y,rng64 y=true->rng64 (f y)=true) :
  Alike x (uV n f nm) (aN (fun e _ S k=>dB e S fun p=>fH e p n S fun y U=>b6 e (g y) U k) nm):=
 jM fun e b=>by
  obtain ⟨p,hp,ha⟩:=MT b i;refine FT p n (dG e.a (f (oL e.A e.B e.C e.D e.E p n)) (wE b)) (fK b.s _ (c _ (E7 _ _ _ _ _ _ _))) (fun k=>?_) (fun k=>?_)
  ·simp only [cT b.a,ha,KV b.l hp,mJ b.a]
  ·simp only [ha,K5 b.l hp,kZ b.a _ _ e rfl,d]
theorem adM (c:uM x=true):Alike x (aZ (fun e S k=>aH e.a (dB e S fun x=>eF e.a x S k)) nm) (aN (fun e _ S k=>dB e S fun p=>b6 e p S k) nm):=
 jM fun e b=>by
  obtain ⟨p,hp,ha⟩:=MT b c;exact iM (dG e.a p (wE b)) (fK b.s _ hp) (fun k=>by simp only [cT b.a,ha,mJ b.a]) (fun k=>by simp only [ha,kZ b.a _ _ e rfl])
theorem ahT:Alike x (fsR nm) (aN (fun e _ S k=>fH e (wu (e.s.th+wu e.m)) 8 S fun y U=>b6 e y U k) nm):=
 jM fun e b=>by
  refine FT (wu (e.s.th+wu e.m)) 8 (dG e.a (oL e.A e.B e.C e.D e.E (wu (e.s.th+wu e.m)) 8) (wE b)) (fK b.s _ (E7 _ _ _ _ _ _ _)) (fun k=>?_) (fun k=>?_)
  ·simp only [cT b.a,KV b.l (cJ _),mJ b.a]
  ·simp only [K5 b.l (cJ _),kZ b.a _ _ e rfl]
theorem aHO (z n c v:Bool) {d:Int} (a:0<=d) (f:d<16):oF z n c v d=bY z n c v d:=by
 obtain ⟨m,rfl⟩:=ZI3 a
 have b:m<16:=by omega
 have key:∀ m:Fin 16,∀ z n c v:Bool,oF z n c v ((m.val:Nat):Int)=bY z n c v ((m.val:Nat):Int):=by decide +kernel
 exact key ⟨m,b⟩ z n c v
theorem a7U (i:uM x=false):Alike x (aZ (fun e S k=>aH e.a (cond (oF e.s.z e.s.n e.s.c e.s.v e.d) (aL e.b S fun y=>eF e.a y S k) (k S))) nm) (aN (fun e _ S k=>cond (bY e.s.z e.s.n e.s.c e.s.v e.d) (aL e.b S fun y=>b6 e y S k) (k S)) nm):=
 jM fun e f=>by
  have j:=aHO e.s.z e.s.n e.s.c e.s.v (f.d i).1 (f.d i).2;cases g:bY e.s.z e.s.n e.s.c e.s.v e.d
  ·exact iM (wE f) f.s (fun k=>by simp only [j,g,cT f.a,cond_false]) (fun k=>by simp only [g,cond_false])
  ·exact iM (dG e.a (regW (wE f) e.b) (wE f)) (fK f.s _ (f.r _)) (fun k=>by simp only [j,g,cT f.a,cond_true,fV (f.b i),mJ f.a]) (fun k=>by simp only [g,cond_true,fV (f.b i),kZ f.a _ _ e rfl])
theorem adW:Alike x (aZ (fun e S k=>aH e.a (k (S.set 3 (.int .u64 (wu (Int.fdiv (wi (e.s.x.getD 0 0)) (2 ^ 63))))))) nm) (aN (fun e _ S k=>k (S.set 3 (.int .u64 (wu (Int.fdiv (wi (e.s.x.getD 0 0)) (2 ^ 63)))))) nm):=
 jM fun e b=>iM (dG 2 (wu (Int.fdiv (wi (e.s.x.getD 0 0)) (2 ^ 63))) (wE b)) (fK b.s _ (cJ _)) (fun k=>by simp only [cT b.a,r9]) (fun k=>by simp only [r9])
theorem abU:Alike x (aZ (fun e S k=>aH e.a (aH e.a (k S))) nm) (aN (fun _ _ S k=>k S) nm):=
 jM fun e b=>iM (wE b) b.s (fun k=>by simp only [cT b.a]) (fun k=>rfl)
theorem a0U (x:Int):rng64 (kP x)=true:=cJ _
theorem aeN:Alike x (aZ (fun e S k=>aH e.a (aH e.a (iI e.a S fun x=>eF e.a (kP x) S k))) nm) (aN (fun e x S k=>b6 e (kP x) S k) nm):=
 jM fun e b=>iM (dG e.a (kP (regW (wE b) e.a)) (wE b)) (fK b.s _ (a0U _)) (fun k=>by simp only [cT b.a,nO b.a,mJ b.a]) (fun k=>by simp only [kZ b.a _ _ e rfl])
theorem a3M {t:W} (h:Fine t.1) (a b:Int):Fine (IE a b t).1:=KP h _ _ _ _
theorem R6 {t:W} (h:Fine t.1) (a b:Int):Fine (AK a b t).1:=KP h _ _ _ _
theorem aGJ {t:W} (h:Fine t.1) (a:Int):Fine (HD a t).1:=KP h _ _ _ _
theorem acW:Alike x (aZ (fun e S k=>aH e.a (aH e.a (iI e.a S fun x=>AH 0 x S fun y T=>eF e.a y T k))) nm) (aN (fun e x S k=>j7 0 x S fun v T=>b6 e v T k) nm):=
 jM fun e b=>iM (dG e.a (wu (0 - regW (wE b) e.a)) (AK 0 (regW (wE b) e.a) (wE b))) (fK (R6 b.s _ _) _ (cJ _))
  (fun k=>by simp only [cT b.a,nO b.a,UA (x:=(0:Int)) rfl (b.r _),mJ b.a]) (fun k=>by simp only [WC (x:=(0:Int)) rfl (b.r _),kZ b.a _ _ e rfl])
structure TwoV (F:TwoR) (G:EnvR->Int->Int->List V->KS->Option Res):Prop where
 al:∀ (x:RowT) (e:EnvR) (hy:Hy x e) (y:Int),rng64 y=true -> ∃ t:W,Fine t.1/\(∀ T k,F e y ((wE hy).1.l++T) k=k (t.1.l++T))/\(∀ T k,G e (regW (wE hy) e.a) y ((wE hy).1.l++T) k=k (t.1.l++T))
theorem TU:TwoV w9 (fun e x y S k=>uF x y S fun v T=>dP e v T k):=⟨fun x e b y h=>⟨dG e.a (wu (regW (wE b) e.a+y)) (IE (regW (wE b) e.a) y (wE b)),fK (a3M b.s _ _) _ (cJ _),
 fun T k=>by simp only [w9,cT b.a,nO b.a,ab3 (b.r _) h,mJ b.a],fun T k=>by simp only [dP,acC (b.r _) h,kZ b.a _ _ e rfl]⟩⟩
theorem SK:TwoV xB (fun e x y S k=>j7 x y S fun v T=>dP e v T k):=⟨fun x e b y h=>⟨dG e.a (wu (regW (wE b) e.a - y)) (AK (regW (wE b) e.a) y (wE b)),fK (R6 b.s _ _) _ (cJ _),
 fun T k=>by simp only [xB,cT b.a,nO b.a,UA (b.r _) h,mJ b.a],fun T k=>by simp only [dP,WC (b.r _) h,kZ b.a _ _ e rfl]⟩⟩
theorem SU:TwoV xF (fun e x y S k=>j7 x y S fun v T=>pQ e v T k):=⟨fun x e b y h=>⟨AK (regW (wE b) e.a) y (wE b),R6 b.s _ _,
 fun T k=>by simp only [xF,cT b.a,nO b.a,UA (b.r _) h],fun T k=>by simp only [pQ,WC (b.r _) h]⟩⟩
theorem tK {f:Int->Int->Int} (d:∀ a b,rng64 (f a b)=true):TwoV (jW f) (fun e x y S k=>gS f x y S fun v T=>dP e v T k):=⟨fun x e c y h=>⟨dG e.a (f (regW (wE c) e.a) y) (HD (f (regW (wE c) e.a) y) (wE c)),fK (aGJ c.s _) _ (d _ _),
 fun T k=>by simp only [jW,cT c.a,nO c.a,aM3 (d _ _),mJ c.a],fun T k=>by simp only [dP,aK2 (d _ _),kZ c.a _ _ e rfl]⟩⟩
theorem a3D:TwoV NG (fun e x y S k=>gS bG x y S fun v T=>pQ e v T k):=⟨fun x e b y h=>⟨HD (bG (regW (wE b) e.a) y) (wE b),aGJ b.s _,
 fun T k=>by simp only [NG,cT b.a,nO b.a,aM3 (vL _ _)],fun T k=>by simp only [pQ,aK2 (vL _ _)]⟩⟩
variable {F:TwoR} {G:EnvR->Int->Int->List V->KS->Option Res} (hF:TwoV F G)
include hF
theorem zQ (d:uM x=false):Alike x (m5 F nm) (aN (fun e _ S k=>aL e.b S fun y=>aL e.a S fun x=>G e x y S k) nm):=
 jM fun e c=>by
  obtain ⟨t,ht,h1,h2⟩:=hF.al x e c (regW (wE c) e.b) (c.r _);exact iM t ht (fun k=>by simp only [fV (c.b d),h1]) (fun k=>by simp only [fV (c.b d),fV c.a,h2])
theorem C0:Alike x (o5 F nm) (aN (fun e _ S k=>aL e.a S fun x=>G e x (wu e.m) S k) nm):=
 jM fun e b=>by
  obtain ⟨t,ht,h1,h2⟩:=hF.al x e b (wu e.m) (cJ _);exact iM t ht (fun k=>by simp only [h1]) (fun k=>by simp only [fV b.a,h2])
theorem CP (c:uM x=true):Alike x (o6 F nm) (aN (fun e _ S k=>dB e S fun p=>fH e p 8 S fun y U=>aL e.a U fun x=>G e x y U k) nm):=
 jM fun e b=>by
  obtain ⟨p,hp,ha⟩:=MT b c;obtain ⟨t,ht,h1,h2⟩:=hF.al x e b (oL e.A e.B e.C e.D e.E p 8) (E7 _ _ _ _ _ _ _);exact FT p 8 t ht (fun k=>by simp only [ha,KV b.l hp,h1]) (fun k=>by simp only [ha,K5 b.l hp,fV b.a,h2])
end
end Go.Ra
