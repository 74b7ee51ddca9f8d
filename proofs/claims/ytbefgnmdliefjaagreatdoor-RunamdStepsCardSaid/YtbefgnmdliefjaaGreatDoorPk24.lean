/-
  The document's Check of amd, form by form. Conditions: none.
-/
import Derived.Test.YtbefgnmdliefjaaGreatDoorPk23
import Derived.Test.YtbefgnmdliefjaaGreatDoorPk16
import Derived.Test.YtbefgnmdliefjaaGreatDoorPk11
import Derived.Test.YtbefgnmdliefjaaGreatDoorPk22
open Go.IntKind (wrap i64 u64)
open Go.Proofs.Tryz (prog)
open Bool renaming and_eq_true→ZA2
open List renaming mem_cons→ZE3
open Int renaming fdiv_eq_ediv_of_nonneg→ZI2
set_option linter.unusedVariables false
set_option linter.unusedSimpArgs false
namespace Go.Amd
open Go Go.Ab Go.Proofs
theorem aSP (nm:List UInt8) (a b c d n:Int):(K9 nm a b c d n).run=some (.bool (wA b c d)):=by
 unfold K9 wA;simp only [a6];cases b==17
 ·cases lW true b
  ·rfl
  ·cases c==4
   ·cases c==16
    ·cases lW true c
     ·rfl
     ·cases d==1 <;> cases d==2 <;> cases d==4 <;> rfl
    ·rfl
   ·rfl
 ·cases c==16 <;> rfl
def F3:Ab.Spec:=fun args=>match args with
 | [.agg [.str _,.int .i64 _,.int .i64 b,.int .i64 c,.int .i64 d,.int .i64 _]]=>.leaf (.bool (wA b c d))
 | _=>.fail
theorem aVP:Sound prog 71 F3:=by
 intro args out h;unfold F3 at h;split at h;rotate_left
 ·cases h
 rename_i nm a b c d n;cases h;exact cE (cx:=Y0) (fn:=Tryz.f71) (bU (dT aGO) (.nil _) rfl rfl) (by kernel_rfl) (by kernel_rfl) (by kernel_rfl) ((aW4 nm a b c d n).trans (aSP nm a b c d n))
def findF (q:List UInt8->Bool) (f:Int) (x:List UInt8) (a:List Int) (dg b:Int):Ab.Spec:=fun args=>match args with
 | [.str nm]=>.aF (q nm) (.leaf (.tup [.agg [.str x,.int .i64 f,.sl (.int .u8) a [] .ro,.int .i64 dg,.int .i64 b],.bool true]))
 | _=>.fail
noncomputable def aPC (q:List UInt8->Bool) (f:Int) (x:List UInt8) (a:List Int) (dg b:Int):Cx:={ P:=prog,n:=Tryz.f35.ntmps,tab:=[(69,findF q f x a dg b),(70,CV),(72,BY),(73,GA),(74,BT),(71,F3)],mtab:=[],refs:=[],keeps:=[0,1,2,3,4,5,6,7,8,16,52,79,93,94,97,98,100,110,120,127] }
noncomputable abbrev ckE (q:List UInt8->Bool) (f:Int) (x:List UInt8) (e:List Int) (dg g:Int) (nm:List UInt8) (a b c d n:Int):Tree V:=a7 (aPC q f x e dg g) Tryz.f35 [.agg [.str nm,.int .i64 a,.int .i64 b,.int .i64 c,.int .i64 d,.int .i64 n]]
def xL:Option V:=some (.int .i64 13)
def e3:Option V:=some (.int .i64 3)
def e0:Option V:=some (.int .i64 0)
def DF (f:Int):Bool:=!(f==9 || (f==13 || (f==14 || (f==15 || f==16))))
def DP (f:Int):Bool:=f==1 || (f==7 || f==11)
def C8 (f:Int):Bool:=f==11 || (f==15 || f==16)
def GZ (f:Int):Bool:=f==1 || (f==7 || (f==8 || (f==9 || (f==11 || f==12))))
def G9 (f:Int):Bool:=f==14 || f==16
def XG (f a b c d:Int) (k:Option V):Option V:=
 cond (lW (DF f) a) (cond (f==4) (cond (!wA b c d) xL k) (cond (lW (DP f) b) (cond (c==0) (cond (C8 f) (cond (!CG d) xL k) (cond (!(d==0)) xL k)) xL) xL)) xL
def WY (f n:Int):Option V:=
 cond (GZ f) (cond (n != 0) xL e0) (cond (f==2) e0 (cond (f==10) (cond (decide (0<=n)) (cond (!decide (n<=63)) e3 e0) e3) (cond (G9 f) (cond (!oK n) e3 e0) (cond (!tV n) e3 e0))))
def fB:List Int:=[1,2,3,4,5,6,7,8,9,10,11,12,13,14,15,16]
noncomputable def ckO (q:List UInt8->Bool) (f:Int) (x:List UInt8) (e:List Int) (dg g:Int) (nm:List UInt8) (a b c d n:Int):Option V:=(ckE q f x e dg g nm a b c d n).fin
def sV (q:List UInt8->Bool) (f:Int) (_:List UInt8) (_:List Int) (_ _:Int) (nm:List UInt8) (a b c d n:Int):Option V:=cond (q nm) (XG f a b c d (WY f n)) none
theorem afB (q:List UInt8->Bool):fB.map (ckO q)=fB.map (sV q):=by kernel_rfl
def EE (f a b c d:Int):Bool:=lW (DF f) a&&(cond (f==4) (wA b c d) (lW (DP f) b&&((c==0)&&cond (C8 f) (CG d) (d==0))))
def Z5 (f n:Int):Int:=cond (GZ f) (cond (n != 0) 13 0) (cond (f==2) 0 (cond (f==10) (cond (decide (0<=n)&&decide (n<=63)) 0 3) (cond (cond (G9 f) (oK n) (tV n)) 0 3)))
def HQ (f a b c d n:Int):Int:=cond (EE f a b c d) (Z5 f n) 13
theorem a0L (f a b c d n:Int):XG f a b c d (WY f n)=some (.int .i64 (HQ f a b c d n)):=by
 unfold XG WY HQ EE Z5 xL e3 e0;cases lW (DF f) a
 ·rfl
 cases f==4
 ·cases lW (DP f) b
  ·rfl
  cases c==0
  ·rfl
  cases C8 f
  ·cases d==0
   ·rfl
   cases GZ f
   ·cases f==2
    ·cases f==10
     ·cases G9 f
      ·cases tV n <;> rfl
      ·cases oK n <;> rfl
     ·cases decide (0<=n) <;> cases decide (n<=63) <;> rfl
    ·rfl
   ·cases n != 0 <;> rfl
  ·cases CG d
   ·rfl
   cases GZ f
   ·cases f==2
    ·cases f==10
     ·cases G9 f
      ·cases tV n <;> rfl
      ·cases oK n <;> rfl
     ·cases decide (0<=n) <;> cases decide (n<=63) <;> rfl
    ·rfl
   ·cases n != 0 <;> rfl
 ·cases wA b c d
  ·rfl
  cases GZ f
  ·cases f==2
   ·cases f==10
    ·cases G9 f
     ·cases tV n <;> rfl
     ·cases oK n <;> rfl
    ·cases decide (0<=n) <;> cases decide (n<=63) <;> rfl
   ·rfl
  ·cases n != 0 <;> rfl
theorem a0I:bN.all (fun x=>fB.contains x.2.1&&x.2.2.1.isSome)=true:=by kernel_rfl
theorem MH {y:gX} (c:y ∈ bN):∃ a,y.2.2.1=some a/\y.2.1 ∈ fB:=by
 have h:=List.all_eq_true.1 a0I _ c;obtain ⟨b,h2⟩:=Bool.and_eq_true_iff.1 h;obtain ⟨a,ho⟩:=Option.isSome_iff_exists.1 h2;exact ⟨a,ho,by simpa using b⟩
theorem aGX {y:gX} {a:List Int} (b:y.2.2.1=some a):Sound prog 69 (findF (fun nm=>sA nm y) y.2.1 y.1 a y.2.2.2.1 y.2.2.2.2):=by
 intro args out h;unfold findF at h;split at h;rotate_left
 ·cases h
 rename_i nm;refine aZX y _ _ ?_;rw [<- h];show (Tree.aF _ (.leaf (V.tup [.agg [.str y.1,.int .i64 y.2.1,slO y.2.2.1,.int .i64 y.2.2.2.1,.int .i64 y.2.2.2.2],.bool true]))).run=_;rw [b];rfl
noncomputable def aO9:Cx:={ P:=prog,n:=Tryz.f35.ntmps,tab:=[(69,T8),(70,CV),(72,BY),(73,GA),(74,BT),(71,F3)],mtab:=[],refs:=[],keeps:=[0,1,2,3,4,5,6,7,8,16,52,79,93,94,97,98,100,110,120,127] }
theorem a6M (nm:List UInt8) (a b c d n:Int):(a7 aO9 Tryz.f35 [.agg [.str nm,.int .i64 a,.int .i64 b,.int .i64 c,.int .i64 d,.int .i64 n]]).fin=cond (!kO nm) (some (.int .i64 7)) none:=by kernel_rfl
def rY (i:aE):Int:=cond (kO i.1) (HQ (jA i.1).2.1 i.2.1 i.2.2.1 i.2.2.2.1 i.2.2.2.2.1 i.2.2.2.2.2) 7
def UR:Ab.Spec:=fun args=>match args with
 | [.agg [.str nm,.int .i64 a,.int .i64 b,.int .i64 c,.int .i64 d,.int .i64 n]]=>.leaf (.int .i64 (rY (nm,a,b,c,d,n)))
 | _=>.fail
theorem aLW {s:Ab.Spec} (h:Sound prog 69 s):lA prog [(69,s),(70,CV),(72,BY),(73,GA),(74,BT),(71,F3)]:=
 .cons h (.cons aGO (.cons aDX (.cons aZJ (.cons aCT (dT aVP)))))
theorem aDS:Sound prog 35 UR:=by
 intro args out h;unfold UR at h;split at h;rotate_left
 ·cases h
 rename_i nm a b c d n;cases h;unfold rY;cases e:kO nm
 ·refine cE (cx:=aO9) (fn:=Tryz.f35) (bU (aLW a0D) (.nil _) rfl rfl) (by kernel_rfl) (by kernel_rfl) (by kernel_rfl) ?_
  rw [<- Tree.bJ,a6M,e];rfl
 ·obtain ⟨_,j,i⟩:=aKJ e
  obtain ⟨k,g,f⟩:=MH j;generalize jA nm=y at j i g f;refine cE (cx:=aPC (fun nm=>sA nm y) y.2.1 y.1 k y.2.2.2.1 y.2.2.2.2) (fn:=Tryz.f35) (bU (aLW (aGX g)) (.nil _) rfl rfl) (by kernel_rfl) (by kernel_rfl) (by kernel_rfl) ?_;rw [<- Tree.bJ];have key:=aYP (afB (fun nm=>sA nm y)) f;have k2:=congrFun (congrFun (congrFun (congrFun (congrFun (congrFun (congrFun (congrFun (congrFun (congrFun key y.1) k) y.2.2.2.1) y.2.2.2.2) nm) a) b) c) d) n
  unfold ckO sV at k2;refine k2.trans ?_;rw [a0L];show cond (sA nm y) _ none=_;rw [i];rfl
end Go.Amd

namespace Go.Amd
open Go Go.Ab Go.Proofs
theorem BE (u:Bool) (n:Int):lW u n=cY n u:=by
 unfold lW cY;by_cases h0:n=0
 ·subst h0
  cases u <;> rfl
 ·have e:(n==0)=false:=by simpa using h0
  rw [e];cases u
  ·rfl
  ·by_cases h1:0<n
   ·rw [decide_eq_true h1,decide_eq_true (show 0<=n by omega)]
    rfl
   ·rw [decide_eq_false h1,decide_eq_false (show ¬ 0<=n by omega)]
    rfl
theorem a08 (d:Int):CG d=j6 d:=rfl
theorem aVR (b c d:Int):wA b c d=jO b c d:=by
 unfold wA jO pG;rw [BE,BE];by_cases hb:b=17
 ·subst hb
  by_cases hc:c=16
  ·subst hc
   rfl
  ·have e:(c==16)=false:=by simpa using hc
   rw [e];rfl
 ·have e:(b==17)=false:=by simpa using hb
  have g:(b != 17)=true:=by simpa using hb
  have i:cY b true=cond (decide (0<=b)) (decide (b<=15)) false:=by
   rw [<- BE];rfl
  have h:cY c true=cond (decide (0<=c)) (decide (c<=15)) false:=by
   rw [<- BE];rfl
  rw [e,g,i,h];simp only [cond_false,cond_true];by_cases a:0<=b <;> by_cases f:b<=15
  all_goals
   first | rw [decide_eq_true a] | rw [decide_eq_false a]
   first | rw [decide_eq_true f] | rw [decide_eq_false f]
   simp only [cond_false,cond_true]
  ·by_cases hc:c=16
   ·subst hc
    rfl
   have e3:(c==16)=false:=by simpa using hc
   rw [e3];unfold vY bne;cases c==4 <;> cases decide (0<=c) <;> cases decide (c<=15) <;> rfl
  all_goals
   cases c==16 <;> rfl
theorem aZB (n:Int):tV n=(!decide (n < -2147483648)&&!decide (2147483647<n)):=by
 unfold tV;by_cases h0 : -2147483648<=n
 ·rw [decide_eq_true h0,decide_eq_false (show ¬ n < -2147483648 by omega)]
  by_cases h1:n<2147483648
  ·rw [decide_eq_true h1,decide_eq_false (show ¬ 2147483647<n by omega)]
   rfl
  ·rw [decide_eq_false h1,decide_eq_true (show 2147483647<n by omega)]
   rfl
 ·rw [decide_eq_false h0,decide_eq_true (show n < -2147483648 by omega)]
  rfl
theorem aDC (n:Int):oK n=(!decide (n < -128)&&!decide (127<n)):=by
 unfold oK;by_cases h0 : -128<=n
 ·rw [decide_eq_true h0,decide_eq_false (show ¬ n < -128 by omega)]
  by_cases h1:n<128
  ·rw [decide_eq_true h1,decide_eq_false (show ¬ 127<n by omega)]
   rfl
  ·rw [decide_eq_false h1,decide_eq_true (show 127<n by omega)]
   rfl
 ·rw [decide_eq_false h0,decide_eq_true (show n < -128 by omega)]
  rfl
def eG (n:Int):Bool:=decide (-9223372036854775808<=n)&&decide (n<=9223372036854775807)
theorem a2E (n lo hi:Int):cond (!decide (n<lo)&&!decide (hi<n)) (0:Int) 3=cond (decide (n<lo)) 3 (cond (decide (hi<n)) 3 0):=by
 cases decide (n<lo) <;> cases decide (hi<n) <;> rfl
def iH (m e g f:Bool) (a b c d:Int):Bool:=cond m (cond (cY a e) (jO b c d) false) (cond (cY a e) (cond (cY b g) (cond (c==0) (cond (d==0) true (cond f (j6 d) false)) false) false) false)
theorem adB (f a b c d:Int):EE f a b c d=iH (f==4) (DF f) (DP f) (C8 f) a b c d:=by
 unfold EE iH;rw [BE,BE,aVR,a08];by_cases hd:d=0
 ·subst hd
  cases f==4 <;> cases cY a (DF f) <;> cases cY b (DP f) <;> cases c==0 <;> cases C8 f <;> rfl
 ·have e:(d==0)=false:=by simpa using hd
  rw [e];cases f==4 <;> cases cY a (DF f) <;> cases cY b (DP f) <;> cases c==0 <;> cases C8 f <;> rfl
theorem a3Y {f:Int} (e:f ∈ fB) (nm:List UInt8) (g:Option (List Int)) (dg h a b c d:Int):okF (conv (nm,f,g,dg,h)) a b c d=EE f a b c d:=by
 rw [adB];simp only [fB,ZE3,List.not_mem_nil,or_false] at e
 rcases e with rfl | rfl | rfl | rfl | rfl | rfl | rfl | rfl | rfl | rfl | rfl | rfl | rfl | rfl | rfl | rfl <;> rfl
theorem a3T:∀ f ∈ fB,∀ (nm:List UInt8) (d:Option (List Int)) (dg e:Int) (i:aE),eG i.2.2.2.2.2=true->HQ f i.2.1 i.2.2.1 i.2.2.2.1 i.2.2.2.2.1 i.2.2.2.2.2=c8 (conv (nm,f,d,dg,e)) i:=by
 intro f b nm d dg e i c;unfold HQ
 have a:(decide (0<=i.2.2.2.2.2)&&decide (i.2.2.2.2.2<=63))=(!decide (i.2.2.2.2.2<0)&&!decide (63<i.2.2.2.2.2)):=by
  by_cases h0:0<=i.2.2.2.2.2
  ·rw [decide_eq_true h0,decide_eq_false (show ¬ i.2.2.2.2.2<0 by omega)]
   by_cases h1:i.2.2.2.2.2<=63
   ·rw [decide_eq_true h1,decide_eq_false (show ¬ 63<i.2.2.2.2.2 by omega)]
    rfl
   ·rw [decide_eq_false h1,decide_eq_true (show 63<i.2.2.2.2.2 by omega)]
    rfl
  ·rw [decide_eq_false h0,decide_eq_true (show i.2.2.2.2.2<0 by omega)]
   rfl
 have g:cond (decide (i.2.2.2.2.2 < -9223372036854775808)) (3:Int) (cond (decide (9223372036854775807<i.2.2.2.2.2)) 3 0)=0:=by
  unfold eG at c;simp only [ZA2,decide_eq_true_eq] at c;rw [decide_eq_false (by omega),decide_eq_false (by omega)];rfl
 unfold Z5;rw [aZB,aDC,a];unfold c8 tU;rw [a3Y b];generalize EE f i.2.1 i.2.2.1 i.2.2.2.1 i.2.2.2.2.1=o;cases o
 ·rfl
 simp only [fB,ZE3,List.not_mem_nil,or_false] at b
 rcases b with rfl | rfl | rfl | rfl | rfl | rfl | rfl | rfl | rfl | rfl | rfl | rfl | rfl | rfl | rfl | rfl
 all_goals
  first
   | rfl
   | exact g.symm
   | exact a2E _ _ _
theorem aG3 {i:aE} (c:eG i.2.2.2.2.2=true):rY i=cX i:=by
 unfold rY cX;rw [aLU];cases b:kO i.1
 ·rfl
 ·obtain ⟨a,h2⟩:=aHG b
  obtain ⟨d,ho,hm⟩:=MH h2;rw [a];exact a3T _ hm (jA i.1).1 (jA i.1).2.2.1 (jA i.1).2.2.2.1 (jA i.1).2.2.2.2 i c
end Go.Amd

namespace Go.Amd
open Go Go.Ab Go.Proofs
noncomputable def M8:Cx:={ P:=prog,n:=20,tab:=[],mtab:=[],refs:=[],keeps:=[0,1,4,5,6,9],fuel:=9 }
noncomputable def aME:Cx:={ P:=prog,n:=15,tab:=[],mtab:=[],refs:=[],keeps:=[0,1,4] }
def qH (n:Int):Int:=Int.fdiv n (2 ^ 8)
def u8 (n:Int):Int:=wrap .u8 n
def oZ (n:Int):List Int:=[u8 n,u8 (qH n),u8 (qH (qH n)),u8 (qH (qH (qH n)))]
def l7 (n:Int):List Int:=oZ n++oZ (qH (qH (qH (qH n))))
theorem a6L (n:Int):(a7 M8 Tryz.f192 [.int .u64 n,.int .i64 4]).fin=some (.sl (.int .u8) (oZ n) [] .ro):=by kernel_rfl
theorem a5P (n:Int):(a7 M8 Tryz.f192 [.int .u64 n,.int .i64 8]).fin=some (.sl (.int .u8) (l7 n) [] .ro):=by kernel_rfl
def YI:Ab.Spec:=fun args=>match args with
 | [.int .u64 n,.int .i64 4]=>.leaf (.sl (.int .u8) (oZ n) [] .ro)
 | [.int .u64 n,.int .i64 8]=>.leaf (.sl (.int .u8) (l7 n) [] .ro)
 | _=>.fail
theorem a7X:Sound prog 192 YI:=by
 intro args out h;unfold YI at h;split at h
 ·rename_i n
  cases h;refine cE (cx:=M8) (fn:=Tryz.f192) (dO rfl rfl) (by kernel_rfl) (by kernel_rfl) (by kernel_rfl) ?_;rw [<- Tree.bJ];exact a6L n
 ·rename_i n
  cases h;refine cE (cx:=M8) (fn:=Tryz.f192) (dO rfl rfl) (by kernel_rfl) (by kernel_rfl) (by kernel_rfl) ?_;rw [<- Tree.bJ];exact a5P n
 ·cases h
def gM (x:Int) (k:Nat):Int:=wrap .u8 (x*2 ^ k)
def gF (a b:Int):Int:=wrap .u8 (((BitVec.ofInt 8 a ||| BitVec.ofInt 8 b).toNat:Nat):Int)
def gL (r m:Int):Int:=gF (gF 192 (gM (u8 (Int.tmod r 8)) 3)) (u8 (Int.tmod m 8))
theorem ae2 (r m:Int):(a7 aME Tryz.f196 [.int .i64 r,.int .i64 m]).fin=some (.sl (.int .u8) [gL r m] [] .full):=by kernel_rfl
def YV:Ab.Spec:=fun args=>match args with
 | [.int .i64 r,.int .i64 m]=>.leaf (.sl (.int .u8) [gL r m] [] .full)
 | _=>.fail
theorem a6P:Sound prog 196 YV:=by
 intro args out h;unfold YV at h;split at h;rotate_left
 ·cases h
 rename_i r m;cases h;refine cE (cx:=aME) (fn:=Tryz.f196) (dO rfl rfl) (by kernel_rfl) (by kernel_rfl) (by kernel_rfl) ?_;rw [<- Tree.bJ];exact ae2 r m
section
variable (q:List UInt8->Bool) (f:Int) (x:List UInt8) (op:List Int) (dg rx:Int)
noncomputable def bdB:Tabs:={ tab:=[(69,findF q f x op dg rx),(192,YI),(196,YV),(74,BT)] }
end
section
variable (q:List UInt8->Bool) (f:Int) (x:List UInt8) (op:List Int) (dg rx:Int)
noncomputable def aKM:List Fi:=[]
theorem aWK:fY prog aKM:=trivial
noncomputable def aM5:List Fi:=[⟨197,Tryz.f197,[0,1,3,4,5,6,7,8,9,10,17,44,52,64,80,94],[],5,[]⟩]
theorem aY3:fY prog aM5:=⟨⟨by kernel_rfl,by kernel_rfl⟩,trivial⟩
noncomputable def bdT (d:Nat):Tabs:=deep prog (bdB q f x op dg rx) aKM aM5 d
noncomputable def uN:Cx:={ P:=prog,n:=Tryz.f137.ntmps,tab:=(bdT q f x op dg rx 1).tab,mtab:=(bdT q f x op dg rx 1).mtab,refs:=[17],keeps:=[0,1,2,3,5,6,7,8,25,40,41,63,103,131,155,174,188,214,233,244,269,294,344] }
end
noncomputable abbrev AS:Code:=cA Tryz.f137
noncomputable def WW:Array Oper:=y7 (c1 (aJ 1 AS))
def zI (nm:List UInt8) (a b c d n:Int):O:=.cells [.str nm,.int .i64 a,.int .i64 b,.int .i64 c,.int .i64 d,.int .i64 n] 36
def zT (f:Int) (x:List UInt8) (op:List Int) (dg rx:Int):O:=.cells [.str x,.int .i64 f,.sl (.int .u8) op [] .ro,.int .i64 dg,.int .i64 rx] 108
end Go.Amd

namespace Go.Amd
open Go Go.Ab Go.Proofs
def OJ (k:Nat) (a:Bool):O:=.cells [nilSl,.int .i64 0,.int .i64 0,.int .i64 0,.int .i64 0,.ref 2 1 0 k,nilSl,.bool a] 240
def PF (a:List Int):O:=.cells (a.map (V.int .u8)) 0
noncomputable abbrev cI (q:List UInt8->Bool) (f:Int) (e:List Int) (g:Int) (x:List UInt8) (dg:Int) (nm:List UInt8) (a b c d n:Int):Tree V:=
 (aK (uN q f x e dg g) (aJ 2 AS) [(1,.ptr 0 0),(3,.ptr 1 0),(5,.ptr 3 0)] [zI nm a b c d n,zT f x e dg g,PF e,OJ e.length (decide (0<g))]).bind (answer prog Tryz.f137.results.toList)
def UY (h:List UInt8) (c:Int) (d:List UInt8) (a b e f g o:Int):Tree V:=
 (.leaf (.sl (.int .u8) ([wrap IntKind.u8 (wrap i64 (wrap i64 (wrap i64 (wrap i64 (64+wrap i64 (8*1))+wrap i64 (4*wrap i64 (Int.tdiv b 8)))+wrap i64 (2*0))+wrap i64 (Int.tdiv a 8)))]++[o]++[gL b a]) ([]) Fl.ro))
theorem aZ1 (q:List UInt8->Bool) (x:List UInt8) (dg:Int) (nm:List UInt8) (a b c d n o:Int):(cI q 1 [o] 2 x dg nm a b c d n).run=(UY x dg nm a b c d n o).run:=
 (show (cI q 1 [o] 2 x dg nm a b c d n).run=(UY x dg nm a b c d n o).out by kernel_rfl).trans (Tree.out_run _)
def V3 (h:List UInt8) (c:Int) (e:List UInt8) (a b f d g o p:Int):Tree V:=
 (.leaf (.sl (.int .u8) ([wrap IntKind.u8 (wrap i64 (wrap i64 (wrap i64 (wrap i64 (64+wrap i64 (8*1))+wrap i64 (4*wrap i64 (Int.tdiv a 8)))+wrap i64 (2*0))+wrap i64 (Int.tdiv b 8)))]++[o,wrap IntKind.u8 (p+wrap IntKind.u8 d)]++[gL a b]) ([]) Fl.ro))
theorem aYW (q:List UInt8->Bool) (x:List UInt8) (dg:Int) (nm:List UInt8) (a b c d n o p:Int):(cI q 7 [o,p] 2 x dg nm a b c d n).run=(V3 x dg nm a b c d n o p).run:=
 (show (cI q 7 [o,p] 2 x dg nm a b c d n).run=(V3 x dg nm a b c d n o p).out by kernel_rfl).trans (Tree.out_run _)
def SH (h:List UInt8) (c:Int) (e:List UInt8) (a b f d g o p:Int):Tree V:=
 (.leaf (.sl (.int .u8) ([wrap IntKind.u8 (wrap i64 (wrap i64 (wrap i64 (wrap i64 (64+wrap i64 (8*1))+wrap i64 (4*wrap i64 (Int.tdiv a 8)))+wrap i64 (2*0))+wrap i64 (Int.tdiv b 8)))]++[o,wrap IntKind.u8 (p+wrap IntKind.u8 d)]++[gL a b]) ([]) Fl.ro))
theorem aV7 (q:List UInt8->Bool) (x:List UInt8) (dg:Int) (nm:List UInt8) (a b c d n o p:Int):(cI q 11 [o,p] 2 x dg nm a b c d n).run=(SH x dg nm a b c d n o p).run:=
 (show (cI q 11 [o,p] 2 x dg nm a b c d n).run=(SH x dg nm a b c d n o p).out by kernel_rfl).trans (Tree.out_run _)
def V4 (g:List UInt8) (b:Int) (c:List UInt8) (a d e f n o:Int):Tree V:=
 (.leaf (.sl (.int .u8) (([wrap IntKind.u8 (wrap i64 (wrap i64 (wrap i64 (wrap i64 (64+wrap i64 (8*1))+wrap i64 (4*0))+wrap i64 (2*0))+wrap i64 (Int.tdiv a 8)))]++[wrap IntKind.u8 (o+wrap IntKind.u8 (Int.tmod a 8))]++l7 (wrap u64 n))) ([]) Fl.ro))
theorem aYC (q:List UInt8->Bool) (x:List UInt8) (dg:Int) (nm:List UInt8) (a b c d n o:Int):(cI q 2 [o] 2 x dg nm a b c d n).run=(V4 x dg nm a b c d n o).run:=
 (show (cI q 2 [o] 2 x dg nm a b c d n).run=(V4 x dg nm a b c d n o).out by kernel_rfl).trans (Tree.out_run _)
def U0 (f:List UInt8) (dg:Int) (b:List UInt8) (a c d e n o:Int):Tree V:=
 (.leaf (.sl (.int .u8) (([wrap IntKind.u8 (wrap i64 (wrap i64 (wrap i64 (wrap i64 (64+wrap i64 (8*1))+wrap i64 (4*0))+wrap i64 (2*0))+wrap i64 (Int.tdiv a 8)))]++[o]++([gL dg a]++sub (l7 (wrap u64 n)++[]) 0 4))) ([]) Fl.ro))
theorem a06 (q:List UInt8->Bool) (x:List UInt8) (dg:Int) (nm:List UInt8) (a b c d n o:Int):(cI q 3 [o] 2 x dg nm a b c d n).run=(U0 x dg nm a b c d n o).run:=
 (show (cI q 3 [o] 2 x dg nm a b c d n).run=(U0 x dg nm a b c d n o).out by kernel_rfl).trans (Tree.out_run _)
def VD (g:List UInt8) (b:Int) (c:List UInt8) (a d e f n o:Int):Tree V:=
 (.leaf (.sl (.int .u8) (([100]++[wrap IntKind.u8 (wrap i64 (wrap i64 (wrap i64 (wrap i64 (64+wrap i64 (8*1))+wrap i64 (4*wrap i64 (Int.tdiv a 8)))+wrap i64 (2*0))+0))]++[o]++([wrap IntKind.u8 ↑(BitVec.toNat (BitVec.ofInt 8 (wrap IntKind.u8 (wrap IntKind.u8 (Int.tmod a 8)*2 ^ 3)) ||| BitVec.ofInt 8 4)),37]++sub (l7 (wrap u64 n)++[]) 0 4))) ([]) Fl.ro))
theorem aZR (q:List UInt8->Bool) (x:List UInt8) (dg:Int) (nm:List UInt8) (a b c d n o:Int):(cI q 5 [o] 2 x dg nm a b c d n).run=(VD x dg nm a b c d n o).run:=
 (show (cI q 5 [o] 2 x dg nm a b c d n).run=(VD x dg nm a b c d n o).out by kernel_rfl).trans (Tree.out_run _)
def LP (f:List UInt8) (dg:Int) (b:List UInt8) (a c d e n o:Int):Tree V:=
 (.br (oK n) (.leaf (.sl (.int .u8) (([wrap IntKind.u8 (wrap i64 (wrap i64 (wrap i64 (wrap i64 (64+wrap i64 (8*1))+wrap i64 (4*0))+wrap i64 (2*0))+wrap i64 (Int.tdiv a 8)))]++[o]++([gL dg a]++[tI (List.getD (l7 (wrap u64 n)) 0 (tI (EC.dflt (EC.int IntKind.u8))))]))) ([]) Fl.ro)) (.leaf (.sl (.int .u8) (([wrap IntKind.u8 (wrap i64 (wrap i64 (wrap i64 (wrap i64 (64+wrap i64 (8*1))+wrap i64 (4*0))+wrap i64 (2*0))+wrap i64 (Int.tdiv a 8)))]++[129]++([gL dg a]++sub (l7 (wrap u64 n)++[]) 0 4))) ([]) Fl.ro)))
theorem aY1 (q:List UInt8->Bool) (x:List UInt8) (dg:Int) (nm:List UInt8) (a b c d n o:Int):(cI q 6 [o] 2 x dg nm a b c d n).run=(LP x dg nm a b c d n o).run:=
 (show (cI q 6 [o] 2 x dg nm a b c d n).run=(LP x dg nm a b c d n o).out by kernel_rfl).trans (Tree.out_run _)
def UK (g:List UInt8) (dg:Int) (b:List UInt8) (a c d e f o:Int):Tree V:=
 (.leaf (.sl (.int .u8) ([wrap IntKind.u8 (wrap i64 (wrap i64 (wrap i64 (wrap i64 (64+wrap i64 (8*1))+wrap i64 (4*0))+wrap i64 (2*0))+wrap i64 (Int.tdiv a 8)))]++[o]++[gL dg a]) ([]) Fl.ro))
theorem aX5 (q:List UInt8->Bool) (x:List UInt8) (dg:Int) (nm:List UInt8) (a b c d n o:Int):(cI q 8 [o] 2 x dg nm a b c d n).run=(UK x dg nm a b c d n o).run:=
 (show (cI q 8 [o] 2 x dg nm a b c d n).run=(UK x dg nm a b c d n o).out by kernel_rfl).trans (Tree.out_run _)
def GL (g:List UInt8) (dg:Int) (b:List UInt8) (a c d e f o:Int):Tree V:=
 (.br (decide (0<wrap i64 (wrap i64 (0+0)+wrap i64 (Int.tdiv a 8)))) (.leaf (.sl (.int .u8) ([wrap IntKind.u8 (wrap i64 (wrap i64 (wrap i64 (wrap i64 (64+wrap i64 (8*0))+wrap i64 (4*0))+wrap i64 (2*0))+wrap i64 (Int.tdiv a 8)))]++[o]++[gL dg a]) ([]) Fl.ro)) (.leaf (.sl (.int .u8) ([o]++[gL dg a]) ([]) Fl.ro)))
theorem aYY (q:List UInt8->Bool) (x:List UInt8) (dg:Int) (nm:List UInt8) (a b c d n o:Int):(cI q 8 [o] 0 x dg nm a b c d n).run=(GL x dg nm a b c d n o).run:=
 (show (cI q 8 [o] 0 x dg nm a b c d n).run=(GL x dg nm a b c d n o).out by kernel_rfl).trans (Tree.out_run _)
def V1 (h:List UInt8) (a:Int) (b:List UInt8) (c d e f g o:Int):Tree V:=
 (.leaf (.sl (.int .u8) ([wrap IntKind.u8 (wrap i64 (wrap i64 (wrap i64 (wrap i64 (64+wrap i64 (8*1))+wrap i64 (4*0))+wrap i64 (2*0))+0))]++[o]++[]) ([]) Fl.ro))
theorem aX7 (q:List UInt8->Bool) (x:List UInt8) (dg:Int) (nm:List UInt8) (a b c d n o:Int):(cI q 9 [o] 2 x dg nm a b c d n).run=(V1 x dg nm a b c d n o).run:=
 (show (cI q 9 [o] 2 x dg nm a b c d n).run=(V1 x dg nm a b c d n o).out by kernel_rfl).trans (Tree.out_run _)
def VY (h:List UInt8) (a:Int) (b:List UInt8) (c d e f g o:Int):Tree V:=
 (.leaf (.sl (.int .u8) ([o]++[]) ([]) Fl.ro))
theorem aYX (q:List UInt8->Bool) (x:List UInt8) (dg:Int) (nm:List UInt8) (a b c d n o:Int):(cI q 9 [o] 0 x dg nm a b c d n).run=(VY x dg nm a b c d n o).run:=
 (show (cI q 9 [o] 0 x dg nm a b c d n).run=(VY x dg nm a b c d n o).out by kernel_rfl).trans (Tree.out_run _)
def U4 (h:List UInt8) (a:Int) (b:List UInt8) (c d e f g o p:Int):Tree V:=
 (.leaf (.sl (.int .u8) ([o,p]++[]) ([]) Fl.ro))
theorem aYD (q:List UInt8->Bool) (x:List UInt8) (dg:Int) (nm:List UInt8) (a b c d n o p:Int):(cI q 9 [o,p] 0 x dg nm a b c d n).run=(U4 x dg nm a b c d n o p).run:=
 (show (cI q 9 [o,p] 0 x dg nm a b c d n).run=(U4 x dg nm a b c d n o p).out by kernel_rfl).trans (Tree.out_run _)
def S5 (f:List UInt8) (dg:Int) (b:List UInt8) (a c d e n o:Int):Tree V:=
 (.leaf (.sl (.int .u8) (([wrap IntKind.u8 (wrap i64 (wrap i64 (wrap i64 (wrap i64 (64+wrap i64 (8*1))+wrap i64 (4*0))+wrap i64 (2*0))+wrap i64 (Int.tdiv a 8)))]++[o]++([gL dg a]++[tI (List.getD (l7 (wrap u64 n)) 0 (tI (EC.dflt (EC.int IntKind.u8))))]))) ([]) Fl.ro))
theorem aUX (q:List UInt8->Bool) (x:List UInt8) (dg:Int) (nm:List UInt8) (a b c d n o:Int):(cI q 10 [o] 2 x dg nm a b c d n).run=(S5 x dg nm a b c d n o).run:=
 (show (cI q 10 [o] 2 x dg nm a b c d n).run=(S5 x dg nm a b c d n o).out by kernel_rfl).trans (Tree.out_run _)
def FP (h:List UInt8) (b:Int) (c:List UInt8) (a d e f g o:Int):Tree V:=
 (.br (decide (0<wrap i64 (wrap i64 (0+0)+wrap i64 (Int.tdiv a 8)))) (.leaf (.sl (.int .u8) ([wrap IntKind.u8 (wrap i64 (wrap i64 (wrap i64 (wrap i64 (64+wrap i64 (8*0))+wrap i64 (4*0))+wrap i64 (2*0))+wrap i64 (Int.tdiv a 8)))]++[wrap IntKind.u8 (o+wrap IntKind.u8 (Int.tmod a 8))]++[]) ([]) Fl.ro)) (.leaf (.sl (.int .u8) ([wrap IntKind.u8 (o+wrap IntKind.u8 (Int.tmod a 8))]++[]) ([]) Fl.ro)))
theorem aW9 (q:List UInt8->Bool) (x:List UInt8) (dg:Int) (nm:List UInt8) (a b c d n o:Int):(cI q 12 [o] 0 x dg nm a b c d n).run=(FP x dg nm a b c d n o).run:=
 (show (cI q 12 [o] 0 x dg nm a b c d n).run=(FP x dg nm a b c d n o).out by kernel_rfl).trans (Tree.out_run _)
def TD (g:List UInt8) (a:Int) (b:List UInt8) (c e f d n o:Int):Tree V:=
 (.leaf (.sl (.int .u8) (([wrap IntKind.u8 (o+wrap IntKind.u8 d)]++sub (l7 (wrap u64 n)++[]) 0 4)) ([]) Fl.ro))
theorem aVA (q:List UInt8->Bool) (x:List UInt8) (dg:Int) (nm:List UInt8) (a b c d n o:Int):(cI q 13 [o] 0 x dg nm a b c d n).run=(TD x dg nm a b c d n o).run:=
 (show (cI q 13 [o] 0 x dg nm a b c d n).run=(TD x dg nm a b c d n o).out by kernel_rfl).trans (Tree.out_run _)
def TH (g:List UInt8) (a:Int) (b:List UInt8) (c e f d n o:Int):Tree V:=
 (.leaf (.sl (.int .u8) (([wrap IntKind.u8 (o+wrap IntKind.u8 d)]++sub (l7 (wrap u64 n)++[]) 0 1)) ([]) Fl.ro))
theorem aV9 (q:List UInt8->Bool) (x:List UInt8) (dg:Int) (nm:List UInt8) (a b c d n o:Int):(cI q 14 [o] 0 x dg nm a b c d n).run=(TH x dg nm a b c d n o).run:=
 (show (cI q 14 [o] 0 x dg nm a b c d n).run=(TH x dg nm a b c d n o).out by kernel_rfl).trans (Tree.out_run _)
def TF (g:List UInt8) (a:Int) (b:List UInt8) (c e f d n o p:Int):Tree V:=
 (.leaf (.sl (.int .u8) (([o,wrap IntKind.u8 (p+wrap IntKind.u8 d)]++sub (l7 (wrap u64 n)++[]) 0 4)) ([]) Fl.ro))
theorem aWC (q:List UInt8->Bool) (x:List UInt8) (dg:Int) (nm:List UInt8) (a b c d n o p:Int):(cI q 15 [o,p] 0 x dg nm a b c d n).run=(TF x dg nm a b c d n o p).run:=
 (show (cI q 15 [o,p] 0 x dg nm a b c d n).run=(TF x dg nm a b c d n o p).out by kernel_rfl).trans (Tree.out_run _)
def TP (g:List UInt8) (a:Int) (b:List UInt8) (c e f d n o:Int):Tree V:=
 (.leaf (.sl (.int .u8) (([wrap IntKind.u8 (o+wrap IntKind.u8 d)]++sub (l7 (wrap u64 n)++[]) 0 1)) ([]) Fl.ro))
theorem aU5 (q:List UInt8->Bool) (x:List UInt8) (dg:Int) (nm:List UInt8) (a b c d n o:Int):(cI q 16 [o] 0 x dg nm a b c d n).run=(TP x dg nm a b c d n o).run:=
 (show (cI q 16 [o] 0 x dg nm a b c d n).run=(TP x dg nm a b c d n o).out by kernel_rfl).trans (Tree.out_run _)
end Go.Amd

namespace Go.Amd
open Go Go.Ab Go.Proofs
def bK (l:List Int):V:=.sl (.int .u8) l [] .ro
theorem via {α:Type} {a b c d:α} (h1:a=b) (e:c=d) (h:b=c):a=d:=h1.trans (h.trans e)
def q8 (n:Int):Int:=wi (Int.tdiv n 8)
def eT (w r x b:Int):Int:=w8 (wi (wi (wi (wi (64+wi (8*w))+wi (4*r))+wi (2*x))+b))
def rW (R:Int):Int:=bX 64 (bX R 8)
def wY (a:Int):List Int:=cond (decide (0<wi (wi (0+0)+q8 a))) [eT 0 0 0 (q8 a)] []
theorem a1U:oW 16 16 (fun r b=>eT 1 (q8 r) 0 (q8 b)==rW (aS 0 r b)&&gL r b==aG 3 r b)=true:=by kernel_rfl
theorem a4N:gA 16 (fun a=>eT 1 0 0 (q8 a)==rW (bX 0 (gD a 1))&&(eT 1 (q8 a) 0 0==rW (aS 0 a 4)&&(wY a==hY 0 (bX 0 (gD a 1))&&(gF (gM (u8 (Int.tmod a 8)) 3) 4==aG 0 a 4&&w8 (Int.tmod a 8)==w8 (cO a 7)))))=true:=by kernel_rfl
theorem a23:oW 8 16 (fun g a=>eT 1 0 0 (q8 a)==rW (aS 0 (wi g) a)&&(wY a==hY 0 (aS 0 (wi g) a)&&gL g a==aG 3 (wi g) a))=true:=by kernel_rfl
abbrev iD (a:Int):Prop:=0<=a/\a<16
theorem DM {r b:Int} (e:iD r) (hb:iD b):eT 1 (q8 r) 0 (q8 b)=rW (aS 0 r b)/\gL r b=aG 3 r b:=by
 have:=oA a1U e.1 e.2 hb.1 hb.2;simpa only [ZA2,beq_iff_eq] using this
theorem DD {a:Int} (ha:iD a):eT 1 0 0 (q8 a)=rW (bX 0 (gD a 1))/\eT 1 (q8 a) 0 0=rW (aS 0 a 4)/\wY a=hY 0 (bX 0 (gD a 1))/\gF (gM (u8 (Int.tmod a 8)) 3) 4=aG 0 a 4/\w8 (Int.tmod a 8)=w8 (cO a 7):=by
 have:=fD a4N ha.1 ha.2;simpa only [ZA2,beq_iff_eq] using this
theorem sM {g a:Int} (hg:0<=g/\g<8) (ha:iD a):eT 1 0 0 (q8 a)=rW (aS 0 (wi g) a)/\wY a=hY 0 (aS 0 (wi g) a)/\gL g a=aG 3 (wi g) a:=by
 have:=oA a23 hg.1 hg.2 ha.1 ha.2;simpa only [ZA2,beq_iff_eq] using this
theorem kK {o:Int} (ho:aV o):w8 o=o:=by
 unfold w8;rw [Go.Wd.wrap_u8];exact Int.emod_eq_of_lt ho.1 ho.2
theorem lF {o:Int} (ho:aV o):bY o=[]:=by
 unfold bY;rw [decide_eq_false (by have:=ho.2; omega)];rfl
theorem qE {o p:Int} (h1:1<=o) (ho:aV o) (hp:aV p):bY (256*o+p)=[o]/\w8 (256*o+p)=p:=by
 obtain ⟨f,o1⟩:=ho;obtain ⟨g,p1⟩:=hp
 have e:w8 (Int.fdiv (256*o+p) (2 ^ 8))=o:=by
  unfold w8;rw [Go.Wd.wrap_u8,ZI2 _ (by decide)];omega
 refine ⟨?_,?_⟩
 ·unfold bY
  rw [decide_eq_true (by omega),e];rfl
 ·unfold w8
  rw [Go.Wd.wrap_u8];omega
theorem TX {o:Int} (ho:aV o):w8 (o+w8 0)=o:=by
 show w8 (o+0)=o;rw [Int.add_zero,kK ho]
theorem aeR (n:Int):qH n=n / 256:=by
 unfold qH;rw [ZI2 _ (by decide)];rfl
theorem ai5 (n:Int):u8 n=n % 256:=Go.Wd.wrap_u8 n
abbrev jF (n:Int):Int:=wrap .u64 n
theorem UL (n:Int):l7 (jF n)=qF n:=by
 show [_,_,_,_,_,_,_,_]=[_,_,_,_,_,_,_,_];simp only [aeR,ai5,wB,jF,Go.Wd.wrap_u64,List.cons.injEq,and_true];refine ⟨by omega,by omega,by omega,by omega,by omega,by omega,by omega,by omega⟩
theorem zC (n:Int):oZ (jF n)=bV n:=by
 have h:=UL n;have e:oZ (jF n)=(l7 (jF n)).take 4:=rfl;rw [e,h];rfl
theorem F6 (n:Int):[u8 (jF n)]=dR n:=by
 have h:=UL n;have e:[u8 (jF n)]=(l7 (jF n)).take 1:=rfl;rw [e,h];rfl
theorem aCQ (n:Int):oK n=dC n:=by
 rw [aDC];unfold dC;by_cases h0 : -128<=n
 ·rw [decide_eq_true h0,decide_eq_false (show ¬ n < -128 by omega)]
  by_cases h1:n<=127
  ·rw [decide_eq_true h1,decide_eq_false (show ¬ 127<n by omega)]
   rfl
  ·rw [decide_eq_false h1,decide_eq_true (show 127<n by omega)]
   rfl
 ·rw [decide_eq_false h0,decide_eq_true (show n < -128 by omega)]
  rfl
section
variable {x nm:List UInt8} {dg a b c d n o p:Int} (ha:iD a) (hb:iD b) (hg:0<=dg/\dg<8) (h1:1<=o) (ho:aV o) (hp:aV p)
abbrev bF (f:Int) (e:List Int) (g dg:Int) (nm:List UInt8) (a b c d n:Int):Option V:=some (bK (F9 (conv (nm,f,some e,dg,g)) (nm,a,b,c,d,n)))
include ha hb ho in
theorem k1:(UY x dg nm a b c d n o).run=bF 1 [o] 2 dg nm a b c d n:=by
 refine via (b:=some (bK ([eT 1 (q8 b) 0 (q8 a)]++[o]++[gL b a]))) (c:=some (bK ([]++[rW (aS 0 b a)]++(bY o++[w8 o])++[aG 3 b a]))) (by kernel_rfl) (by kernel_rfl) ?_;rw [(DM hb ha).1,(DM hb ha).2,lF ho,kK ho];rfl
include ha hb h1 ho hp in
theorem k7 (e:d=0):(V3 x dg nm a b c d n o p).run=bF 7 [o,p] 2 dg nm a b c d n:=by
 subst e;refine via (b:=some (bK ([eT 1 (q8 a) 0 (q8 b)]++[o,w8 (p+w8 0)]++[gL a b]))) (c:=some (bK ([]++[rW (aS 0 a b)]++(bY (256*o+p)++[w8 (256*o+p)])++[aG 3 a b]))) (by kernel_rfl) (by kernel_rfl) ?_;rw [(DM ha hb).1,(DM ha hb).2,(qE h1 ho hp).1,(qE h1 ho hp).2,TX hp];rfl
include ha hb h1 ho hp in
theorem k11:(SH x dg nm a b c d n o p).run=bF 11 [o,p] 2 dg nm a b c d n:=by
 refine via (b:=some (bK ([eT 1 (q8 a) 0 (q8 b)]++[o,w8 (p+w8 d)]++[gL a b]))) (c:=some (bK ([]++[rW (aS 0 a b)]++(bY (256*o+p)++[w8 (w8 (256*o+p)+w8 d)])++[aG 3 a b]))) (by kernel_rfl) (by kernel_rfl) ?_;rw [(DM ha hb).1,(DM ha hb).2,(qE h1 ho hp).1,(qE h1 ho hp).2];rfl
include ha ho in
theorem k2:(V4 x dg nm a b c d n o).run=bF 2 [o] 2 dg nm a b c d n:=by
 refine via (b:=some (bK ([eT 1 0 0 (q8 a)]++[w8 (o+w8 (Int.tmod a 8))]++l7 (jF n)))) (c:=some (bK ([]++[rW (bX 0 (gD a 1))]++(bY o++[w8 (w8 o+w8 (cO a 7))])++qF n))) (by kernel_rfl) (by kernel_rfl) ?_;rw [(DD ha).1,(DD ha).2.2.2.2,lF ho,kK ho,UL];rfl
include ha hg ho in
theorem k3:(U0 x dg nm a b c d n o).run=bF 3 [o] 2 dg nm a b c d n:=by
 refine via (b:=some (bK ([eT 1 0 0 (q8 a)]++[o]++([gL dg a]++oZ (jF n))))) (c:=some (bK ([]++[rW (aS 0 (wi dg) a)]++(bY o++[w8 o])++([aG 3 (wi dg) a]++bV n)))) (by kernel_rfl) (by kernel_rfl) ?_;rw [(sM hg ha).1,(sM hg ha).2.2,lF ho,kK ho,zC];rfl
include ha ho in
theorem k5:(VD x dg nm a b c d n o).run=bF 5 [o] 2 dg nm a b c d n:=by
 refine via (b:=some (bK ([100]++[eT 1 (q8 a) 0 0]++[o]++([gF (gM (u8 (Int.tmod a 8)) 3) 4,37]++oZ (jF n))))) (c:=some (bK ([100]++[rW (aS 0 a 4)]++(bY o++[w8 o])++([aG 0 a 4]++[37]++bV n)))) (by kernel_rfl) (by kernel_rfl) ?_;rw [(DD ha).2.1,(DD ha).2.2.2.1,lF ho,kK ho,zC];rfl
include ha hg ho in
theorem k6:(LP x dg nm a b c d n o).run=bF 6 [o] 2 dg nm a b c d n:=by
 refine via (b:=cond (oK n) (some (bK ([eT 1 0 0 (q8 a)]++[o]++([gL dg a]++[u8 (jF n)])))) (some (bK ([eT 1 0 0 (q8 a)]++[129]++([gL dg a]++oZ (jF n))))))
  (c:=some (bK ([]++[rW (aS 0 (wi dg) a)]++(bY o++[cond (dC n) (w8 o) 129])++([aG 3 (wi dg) a]++cond (dC n) (dR n) (bV n))))) (by unfold LP; rw [a6]; kernel_rfl) (by kernel_rfl) ?_
 rw [aCQ,(sM hg ha).1,(sM hg ha).2.2,lF ho,kK ho,zC,F6];cases dC n <;> rfl
include ha hg ho in
theorem k8:(UK x dg nm a b c d n o).run=bF 8 [o] 2 dg nm a b c d n:=by
 refine via (b:=some (bK ([eT 1 0 0 (q8 a)]++[o]++[gL dg a]))) (c:=some (bK ([]++[rW (aS 0 (wi dg) a)]++(bY o++[w8 o])++[aG 3 (wi dg) a]))) (by kernel_rfl) (by kernel_rfl) ?_;rw [(sM hg ha).1,(sM hg ha).2.2,lF ho,kK ho];rfl
include ha hg ho in
theorem k8s:(GL x dg nm a b c d n o).run=bF 8 [o] 0 dg nm a b c d n:=by
 have e:(GL x dg nm a b c d n o).run=some (bK (wY a++[o]++[gL dg a])):=by
  unfold GL;rw [a6];show cond (decide (0<wi (wi (0+0)+q8 a))) _ _=_;unfold wY;cases decide (0<wi (wi (0+0)+q8 a)) <;> rfl
 refine via (c:=some (bK ([]++hY 0 (aS 0 (wi dg) a)++(bY o++[w8 o])++[aG 3 (wi dg) a]))) e (by kernel_rfl) ?_;rw [(sM hg ha).2.1,(sM hg ha).2.2,lF ho,kK ho];rfl
include ho in
theorem k9:(V1 x dg nm a b c d n o).run=bF 9 [o] 2 dg nm a b c d n:=by
 refine via (b:=some (bK ([eT 1 0 0 0]++[o]++[]))) (c:=some (bK ([]++[rW 0]++(bY o++[w8 o])++[]))) (by kernel_rfl) (by kernel_rfl) ?_;rw [lF ho,kK ho];rfl
include ho in
theorem k9s:(VY x dg nm a b c d n o).run=bF 9 [o] 0 dg nm a b c d n:=by
 refine via (b:=some (bK ([o]++[]))) (c:=some (bK ([]++[]++(bY o++[w8 o])++[]))) (by kernel_rfl) (by kernel_rfl) ?_;rw [lF ho,kK ho];rfl
include h1 ho hp in
theorem k9t:(U4 x dg nm a b c d n o p).run=bF 9 [o,p] 0 dg nm a b c d n:=by
 refine via (b:=some (bK ([o,p]++[]))) (c:=some (bK ([]++[]++(bY (256*o+p)++[w8 (256*o+p)])++[]))) (by kernel_rfl) (by kernel_rfl) ?_;rw [(qE h1 ho hp).1,(qE h1 ho hp).2];rfl
include ha hg ho in
theorem k10:(S5 x dg nm a b c d n o).run=bF 10 [o] 2 dg nm a b c d n:=by
 refine via (b:=some (bK ([eT 1 0 0 (q8 a)]++[o]++([gL dg a]++[u8 (jF n)])))) (c:=some (bK ([]++[rW (aS 0 (wi dg) a)]++(bY o++[w8 o])++([aG 3 (wi dg) a]++dR n)))) (by kernel_rfl) (by kernel_rfl) ?_;rw [(sM hg ha).1,(sM hg ha).2.2,lF ho,kK ho,F6];rfl
include ha ho in
theorem k12:(FP x dg nm a b c d n o).run=bF 12 [o] 0 dg nm a b c d n:=by
 have e:(FP x dg nm a b c d n o).run=some (bK (wY a++[w8 (o+w8 (Int.tmod a 8))]++[])):=by
  unfold FP;rw [a6];show cond (decide (0<wi (wi (0+0)+q8 a))) _ _=_;unfold wY;cases decide (0<wi (wi (0+0)+q8 a)) <;> rfl
 refine via (c:=some (bK ([]++hY 0 (bX 0 (gD a 1))++(bY o++[w8 (w8 o+w8 (cO a 7))])++[]))) e (by kernel_rfl) ?_;rw [(DD ha).2.2.1,(DD ha).2.2.2.2,lF ho,kK ho];rfl
include ho in
theorem k13 (e:d=0):(TD x dg nm a b c d n o).run=bF 13 [o] 0 dg nm a b c d n:=by
 subst e;refine via (b:=some (bK ([w8 (o+w8 0)]++oZ (jF n)))) (c:=some (bK ([]++[]++(bY o++[w8 o])++bV n))) (by kernel_rfl) (by kernel_rfl) ?_;rw [TX ho,lF ho,kK ho,zC];rfl
include ho in
theorem k14 (e:d=0):(TH x dg nm a b c d n o).run=bF 14 [o] 0 dg nm a b c d n:=by
 subst e;refine via (b:=some (bK ([w8 (o+w8 0)]++[u8 (jF n)]))) (c:=some (bK ([]++[]++(bY o++[w8 o])++dR n))) (by kernel_rfl) (by kernel_rfl) ?_;rw [TX ho,lF ho,kK ho,F6];rfl
include h1 ho hp in
theorem k15:(TF x dg nm a b c d n o p).run=bF 15 [o,p] 0 dg nm a b c d n:=by
 refine via (b:=some (bK ([o,w8 (p+w8 d)]++oZ (jF n)))) (c:=some (bK ([]++[]++(bY (256*o+p)++[w8 (w8 (256*o+p)+w8 d)])++bV n))) (by kernel_rfl) (by kernel_rfl) ?_;rw [(qE h1 ho hp).1,(qE h1 ho hp).2,zC];rfl
include ho in
theorem k16:(TP x dg nm a b c d n o).run=bF 16 [o] 0 dg nm a b c d n:=by
 refine via (b:=some (bK ([w8 (o+w8 d)]++[u8 (jF n)]))) (c:=some (bK ([]++[]++(bY o++[w8 (w8 o+w8 d)])++dR n))) (by kernel_rfl) (by kernel_rfl) ?_;rw [lF ho,kK ho,F6];rfl
end
end Go.Amd

namespace Go.Amd
open Go Go.Ab Go.Proofs
def aB (l:List Int) (k:Int):Int:=l.getD k.toNat 0
def uZ:Ab.Spec:=fun args=>match args with
 | [.sl (.int .u8) l _ _,.int .i64 k]=>.aF (decide (0<=k)) (.leaf (.int .u8 (aB l k)))
 | _=>.fail
noncomputable def XJ:Cx:={ P:=prog,n:=13,tab:=[],mtab:=[],refs:=[],keeps:=[0,1,4,8] }
def PJ (l b:List Int) (a:Fl) (k:Int):Tree V:=
 (.br (decide (k < ↑(List.length l))) (.br (inside k (List.length l)) (.leaf (.int .u8 (tI (List.getD l (Int.toNat k) (tI (EC.dflt (EC.int IntKind.u8))))))) .fail) (.leaf (.int .u8 0)))
theorem abK (l sp:List Int) (fl:Fl) (k:Int):(a7 XJ Tryz.f134 [.sl (.int .u8) l sp fl,.int .i64 k]).run=(PJ l sp fl k).run:=
 (show (a7 XJ Tryz.f134 [.sl (.int .u8) l sp fl,.int .i64 k]).run=(PJ l sp fl k).out by kernel_rfl).trans (Tree.out_run _)
noncomputable def tW:Cx:={ P:=prog,n:=44,tab:=[(134,uZ)],mtab:=[],refs:=[],keeps:=[0,1,2,6,7,8,12,34],fuel:=10 }
def MU (l b:List Int) (a:Fl) (k:Int):Tree V:=
 (.br (decide (0<=wrap i64 (k+wrap i64 (1 - 1)))) (.br (decide (wrap u64 (1*2 ^ 7)<=wrap u64 ↑(BitVec.toNat (BitVec.ofInt 64 (wrap u64 (0*2 ^ 8)) ||| BitVec.ofInt 64 (wrap u64 (aB l (wrap i64 (k+wrap i64 (1 - 1))))))))) (.leaf (.int .i64 (wrap i64 (wrap i64 (wrap u64 ↑(BitVec.toNat (BitVec.ofInt 64 (wrap u64 (0*2 ^ 8)) ||| BitVec.ofInt 64 (wrap u64 (aB l (wrap i64 (k+wrap i64 (1 - 1)))))))) - wrap i64 (1*2 ^ 8))))) (.leaf (.int .i64 (wrap i64 (wrap u64 ↑(BitVec.toNat (BitVec.ofInt 64 (wrap u64 (0*2 ^ 8)) ||| BitVec.ofInt 64 (wrap u64 (aB l (wrap i64 (k+wrap i64 (1 - 1)))))))))))) .fail)
theorem a0J (l sp:List Int) (fl:Fl) (k:Int):(a7 tW Tryz.f194 [.sl (.int .u8) l sp fl,.int .i64 k,.int .i64 1]).run=(MU l sp fl k).run:=
 (show (a7 tW Tryz.f194 [.sl (.int .u8) l sp fl,.int .i64 k,.int .i64 1]).run=(MU l sp fl k).out by kernel_rfl).trans (Tree.out_run _)
def MV (l f:List Int) (e:Fl) (k:Int):Tree V:=
 let b:=(wrap u64 (wrap u64 ↑(BitVec.toNat (BitVec.ofInt 64 (wrap u64 (wrap u64 ↑(BitVec.toNat (BitVec.ofInt 64 (wrap u64 (wrap u64 ↑(BitVec.toNat (BitVec.ofInt 64 (wrap u64 (0*2 ^ 8)) ||| BitVec.ofInt 64 (wrap u64 (aB l (wrap i64 (k+wrap i64 (4 - 1)))))))*2 ^ 8)) ||| BitVec.ofInt 64 (wrap u64 (aB l (wrap i64 (k+wrap i64 (wrap i64 (4 - 1) - 1)))))))*2 ^ 8)) ||| BitVec.ofInt 64 (wrap u64 (aB l (wrap i64 (k+wrap i64 (wrap i64 (wrap i64 (4 - 1) - 1) - 1)))))))*2 ^ 8)); let c:=(wrap u64 (aB l (wrap i64 (k+wrap i64 (wrap i64 (wrap i64 (wrap i64 (4 - 1) - 1) - 1) - 1))))); let d:=(wrap u64 ↑(BitVec.toNat (BitVec.ofInt 64 b ||| BitVec.ofInt 64 c))); let a:=(wrap i64 (4 - 1) - 1); (.br (decide (0<=wrap i64 (k+wrap i64 (4 - 1)))) (.br (decide (0<=wrap i64 (k+wrap i64 a))) (.br (decide (0<=wrap i64 (k+wrap i64 (wrap i64 a - 1)))) (.br (decide (0<=wrap i64 (k+wrap i64 (wrap i64 (wrap i64 a - 1) - 1)))) (.br (decide (wrap u64 (1*2 ^ 31)<=wrap u64 ↑(BitVec.toNat (BitVec.ofInt 64 b ||| BitVec.ofInt 64 c)))) (.leaf (.int .i64 (wrap i64 (wrap i64 d - wrap i64 (1*2 ^ 32))))) (.leaf (.int .i64 (wrap i64 d)))) .fail) .fail) .fail) .fail)
theorem a2U (l sp:List Int) (fl:Fl) (k:Int):(a7 tW Tryz.f194 [.sl (.int .u8) l sp fl,.int .i64 k,.int .i64 4]).run=(MV l sp fl k).run:=
 (show (a7 tW Tryz.f194 [.sl (.int .u8) l sp fl,.int .i64 k,.int .i64 4]).run=(MV l sp fl k).out by kernel_rfl).trans (Tree.out_run _)
def NK (l e:List Int) (d:Fl) (k:Int):Tree V:=
 let a:=(wrap i64 (wrap i64 (wrap i64 (wrap i64 (8 - 1) - 1) - 1) - 1) - 1); let b:=(wrap i64 (wrap i64 (8 - 1) - 1) - 1); let c:=(wrap i64 (wrap i64 a - 1) - 1); (.br (decide (0<=wrap i64 (k+wrap i64 (8 - 1)))) (.br (decide (0<=wrap i64 (k+wrap i64 (wrap i64 (8 - 1) - 1)))) (.br (decide (0<=wrap i64 (k+wrap i64 b))) (.br (decide (0<=wrap i64 (k+wrap i64 (wrap i64 b - 1)))) (.br (decide (0<=wrap i64 (k+wrap i64 a))) (.br (decide (0<=wrap i64 (k+wrap i64 (wrap i64 a - 1)))) (.br (decide (0<=wrap i64 (k+wrap i64 c))) (.br (decide (0<=wrap i64 (k+wrap i64 (wrap i64 c - 1)))) (.leaf (.int .i64 (wrap i64 (wrap u64 ↑(BitVec.toNat (BitVec.ofInt 64 (wrap u64 (wrap u64 ↑(BitVec.toNat (BitVec.ofInt 64 (wrap u64 (wrap u64 ↑(BitVec.toNat (BitVec.ofInt 64 (wrap u64 (wrap u64 ↑(BitVec.toNat (BitVec.ofInt 64 (wrap u64 (wrap u64 ↑(BitVec.toNat (BitVec.ofInt 64 (wrap u64 (wrap u64 ↑(BitVec.toNat (BitVec.ofInt 64 (wrap u64 (wrap u64 ↑(BitVec.toNat (BitVec.ofInt 64 (wrap u64 (wrap u64 ↑(BitVec.toNat (BitVec.ofInt 64 (wrap u64 (0*2 ^ 8)) ||| BitVec.ofInt 64 (wrap u64 (aB l (wrap i64 (k+wrap i64 (8 - 1)))))))*2 ^ 8)) ||| BitVec.ofInt 64 (wrap u64 (aB l (wrap i64 (k+wrap i64 (wrap i64 (8 - 1) - 1)))))))*2 ^ 8)) ||| BitVec.ofInt 64 (wrap u64 (aB l (wrap i64 (k+wrap i64 b))))))*2 ^ 8)) ||| BitVec.ofInt 64 (wrap u64 (aB l (wrap i64 (k+wrap i64 (wrap i64 b - 1)))))))*2 ^ 8)) ||| BitVec.ofInt 64 (wrap u64 (aB l (wrap i64 (k+wrap i64 a))))))*2 ^ 8)) ||| BitVec.ofInt 64 (wrap u64 (aB l (wrap i64 (k+wrap i64 (wrap i64 a - 1)))))))*2 ^ 8)) ||| BitVec.ofInt 64 (wrap u64 (aB l (wrap i64 (k+wrap i64 c))))))*2 ^ 8)) ||| BitVec.ofInt 64 (wrap u64 (aB l (wrap i64 (k+wrap i64 (wrap i64 c - 1))))))))))) .fail) .fail) .fail) .fail) .fail) .fail) .fail) .fail)
theorem a4F (l sp:List Int) (fl:Fl) (k:Int):(a7 tW Tryz.f194 [.sl (.int .u8) l sp fl,.int .i64 k,.int .i64 8]).run=(NK l sp fl k).run:=
 (show (a7 tW Tryz.f194 [.sl (.int .u8) l sp fl,.int .i64 k,.int .i64 8]).run=(NK l sp fl k).out by kernel_rfl).trans (Tree.out_run _)
noncomputable def X6:Cx:={ P:=prog,n:=18,tab:=[],mtab:=[],refs:=[],keeps:=[0,2] }
def aL3 (r:Int):Tree V:=
 (.leaf (.sl (.int .i64) ([wrap i64 (wrap i64 (wrap IntKind.u8 ↑(BitVec.toNat (BitVec.ofInt 8 (Int.fdiv r (2 ^ 2)) &&& BitVec.ofInt 8 1)))*8),wrap i64 (wrap i64 (wrap IntKind.u8 ↑(BitVec.toNat (BitVec.ofInt 8 (Int.fdiv r (2 ^ 1)) &&& BitVec.ofInt 8 1)))*8),wrap i64 (wrap i64 (wrap IntKind.u8 ↑(BitVec.toNat (BitVec.ofInt 8 r &&& BitVec.ofInt 8 1)))*8)]) ([]) Fl.full))
theorem aXC (r:Int):(a7 X6 Tryz.f193 [.int .u8 r]).run=(aL3 r).run:=
 (show (a7 X6 Tryz.f193 [.int .u8 r]).run=(aL3 r).out by kernel_rfl).trans (Tree.out_run _)
theorem aj5 {l sp:List Int} {fl:Fl} {k:Int} (a:0<=k):(PJ l sp fl k).run=some (.int .u8 (aB l k)):=by
 unfold PJ aB;rw [a6,a6];by_cases hk:k<(l.length:Int)
 ·rw [decide_eq_true hk,jI a hk]
  rfl
 ·rw [decide_eq_false hk]
  show some (V.int .u8 0)=_
  have:l.getD k.toNat 0=0:=by simp only [List.getD]; rw [List.getElem?_eq_none (by omega)]; rfl
  rw [this]
theorem tP:Sound prog 134 uZ:=by
 intro args out h;unfold uZ at h;split at h;rotate_left
 ·cases h
 rename_i l sp fl k;obtain ⟨a,h⟩:=aM h;have h:=dU h;subst h;exact cE (cx:=XJ) (fn:=Tryz.f134) (dO rfl rfl) (by kernel_rfl) (by kernel_rfl) (by kernel_rfl) ((abK l sp fl k).trans (aj5 (of_decide_eq_true a)))
def cQ (n b:Int):Int:=jD (kB (n*2 ^ 8)) (kB b)
def EG (m t:Int) (n:Int):Int:=cond (decide (kB m<=n)) (wi (wi n - wi t)) (wi n)
def iL (l:List Int) (k:Int):Int:=EG (1*2 ^ 7) (1*2 ^ 8) (cQ 0 (aB l k))
def fJ (l:List Int) (k:Int):Int:=EG (1*2 ^ 31) (1*2 ^ 32) (cQ (cQ (cQ (cQ 0 (aB l (k+3))) (aB l (k+2))) (aB l (k+1))) (aB l k))
def u6 (l:List Int) (k:Int):Int:=wi (cQ (cQ (cQ (cQ (cQ (cQ (cQ (cQ 0 (aB l (k+7))) (aB l (k+6))) (aB l (k+5))) (aB l (k+4))) (aB l (k+3))) (aB l (k+2))) (aB l (k+1))) (aB l k))
def gK (k:Int):Bool:=decide (0<=k/\k<1000)
theorem wk {k j:Int} (a:0<=k) (b:k<1000) (c:0<=j) (d:j<10):wi (k+j)=k+j:=wrap_i64 (by omega) (by omega)
theorem acZ {l sp:List Int} {fl:Fl} {k:Int} (a:0<=k) (b:k<1000):(MU l sp fl k).run=some (.int .i64 (iL l k)):=by
 have e0:wi (k+0)=k:=by rw [wk a b (by decide) (by decide)]; omega
 unfold MU;rw [a6,a6];show cond (decide (0<=wi (k+0))) (cond (decide (kB (1*2 ^ 7)<=cQ 0 (aB l (wi (k+0))))) (some (V.int .i64 (wi (wi (cQ 0 (aB l (wi (k+0)))) - wi (1*2 ^ 8))))) (some (V.int .i64 (wi (cQ 0 (aB l (wi (k+0)))))))) none=_;rw [e0,decide_eq_true a,cond_true];unfold iL EG;cases decide (kB (1*2 ^ 7)<=cQ 0 (aB l k)) <;> rfl
theorem ac3 {l sp:List Int} {fl:Fl} {k:Int} (a:0<=k) (c:k<1000):(MV l sp fl k).run=some (.int .i64 (fJ l k)):=by
 have e0:wi (k+0)=k:=by rw [wk a c (by decide) (by decide)]; omega
 have d:wi (k+1)=k+1:=wk a c (by decide) (by decide);have e:wi (k+2)=k+2:=wk a c (by decide) (by decide);have e3:wi (k+3)=k+3:=wk a c (by decide) (by decide);unfold MV;rw [a6,a6,a6,a6,a6]
 refine Eq.trans (b:=(cond (decide (0<=wi (k+3))) (cond (decide (0<=wi (k+2))) (cond (decide (0<=wi (k+1))) (cond (decide (0<=wi (k+0)))
  (cond (decide (kB (1*2 ^ 31)<=cQ (cQ (cQ (cQ 0 (aB l (wi (k+3)))) (aB l (wi (k+2)))) (aB l (wi (k+1)))) (aB l (wi (k+0)))))
   (some (V.int .i64 (wi (wi (cQ (cQ (cQ (cQ 0 (aB l (wi (k+3)))) (aB l (wi (k+2)))) (aB l (wi (k+1)))) (aB l (wi (k+0)))) - wi (1*2 ^ 32)))))
   (some (V.int .i64 (wi (cQ (cQ (cQ (cQ 0 (aB l (wi (k+3)))) (aB l (wi (k+2)))) (aB l (wi (k+1)))) (aB l (wi (k+0)))))))) none) none) none) none)) (by kernel_rfl) ?_
 rw [e0,d,e,e3,decide_eq_true a,decide_eq_true (show 0<=k+1 by omega),decide_eq_true (show 0<=k+2 by omega),decide_eq_true (show 0<=k+3 by omega)];simp only [cond_true];unfold fJ EG;cases decide (kB (1*2 ^ 31)<=cQ (cQ (cQ (cQ 0 (aB l (k+3))) (aB l (k+2))) (aB l (k+1))) (aB l k)) <;> rfl
theorem af4 {l sp:List Int} {fl:Fl} {k:Int} (a:0<=k) (c:k<1000):(NK l sp fl k).run=some (.int .i64 (u6 l k)):=by
 have e0:wi (k+0)=k:=by rw [wk a c (by decide) (by decide)]; omega
 have d:wi (k+1)=k+1:=wk a c (by decide) (by decide);have e:wi (k+2)=k+2:=wk a c (by decide) (by decide);have e3:wi (k+3)=k+3:=wk a c (by decide) (by decide);have f:wi (k+4)=k+4:=wk a c (by decide) (by decide);have g:wi (k+5)=k+5:=wk a c (by decide) (by decide);have h:wi (k+6)=k+6:=wk a c (by decide) (by decide);have i:wi (k+7)=k+7:=wk a c (by decide) (by decide);unfold NK;rw [a6,a6,a6,a6,a6,a6,a6,a6]
 refine Eq.trans (b:=(cond (decide (0<=wi (k+7))) (cond (decide (0<=wi (k+6))) (cond (decide (0<=wi (k+5))) (cond (decide (0<=wi (k+4))) (cond (decide (0<=wi (k+3))) (cond (decide (0<=wi (k+2))) (cond (decide (0<=wi (k+1))) (cond (decide (0<=wi (k+0)))
  (some (V.int .i64 (wi (cQ (cQ (cQ (cQ (cQ (cQ (cQ (cQ 0 (aB l (wi (k+7)))) (aB l (wi (k+6)))) (aB l (wi (k+5)))) (aB l (wi (k+4)))) (aB l (wi (k+3)))) (aB l (wi (k+2)))) (aB l (wi (k+1)))) (aB l (wi (k+0))))))) none) none) none) none) none) none) none) none)) (by kernel_rfl) ?_
 rw [e0,d,e,e3,f,g,h,i,decide_eq_true a,decide_eq_true (show 0<=k+1 by omega),decide_eq_true (show 0<=k+2 by omega),decide_eq_true (show 0<=k+3 by omega),
  decide_eq_true (show 0<=k+4 by omega),decide_eq_true (show 0<=k+5 by omega),decide_eq_true (show 0<=k+6 by omega),decide_eq_true (show 0<=k+7 by omega)]
 rfl
def MW:Ab.Spec:=fun args=>match args with
 | [.sl (.int .u8) l _ _,.int .i64 k,.int .i64 1]=>.aF (gK k) (.leaf (.int .i64 (iL l k)))
 | [.sl (.int .u8) l _ _,.int .i64 k,.int .i64 4]=>.aF (gK k) (.leaf (.int .i64 (fJ l k)))
 | [.sl (.int .u8) l _ _,.int .i64 k,.int .i64 8]=>.aF (gK k) (.leaf (.int .i64 (u6 l k)))
 | _=>.fail
theorem aGW:Sound prog 194 MW:=by
 intro args out h;unfold MW at h;split at h
 ·rename_i l sp fl k
  obtain ⟨a,h⟩:=aM h;have h:=dU h;subst h;obtain ⟨b,k1⟩:0<=k/\k<1000:=of_decide_eq_true a;exact cE (cx:=tW) (fn:=Tryz.f194) (bU (dT tP) (.nil _) rfl rfl) (by kernel_rfl) (by kernel_rfl) (by kernel_rfl) ((a0J l sp fl k).trans (acZ b k1))
 ·rename_i l sp fl k
  obtain ⟨a,h⟩:=aM h;have h:=dU h;subst h;obtain ⟨b,k1⟩:0<=k/\k<1000:=of_decide_eq_true a;exact cE (cx:=tW) (fn:=Tryz.f194) (bU (dT tP) (.nil _) rfl rfl) (by kernel_rfl) (by kernel_rfl) (by kernel_rfl) ((a2U l sp fl k).trans (ac3 b k1))
 ·rename_i l sp fl k
  obtain ⟨a,h⟩:=aM h;have h:=dU h;subst h;obtain ⟨b,k1⟩:0<=k/\k<1000:=of_decide_eq_true a;exact cE (cx:=tW) (fn:=Tryz.f194) (bU (dT tP) (.nil _) rfl rfl) (by kernel_rfl) (by kernel_rfl) (by kernel_rfl) ((a4F l sp fl k).trans (af4 b k1))
 ·cases h
def b7 (r:Int) (j:Nat):Int:=wi (wi (aC (Int.fdiv r (2 ^ j)) 1)*8)
def fZ (r:Int):Int:=wi (wi (aC r 1)*8)
def MM:Ab.Spec:=fun args=>match args with
 | [.int .u8 r]=>.leaf (.sl (.int .i64) [b7 r 2,b7 r 1,fZ r] [] .full)
 | _=>.fail
theorem aES:Sound prog 193 MM:=by
 intro args out h;unfold MM at h;split at h;rotate_left
 ·cases h
 rename_i r;have h:=dU h;subst h;exact cE (cx:=X6) (fn:=Tryz.f193) (dO rfl rfl) (by kernel_rfl) (by kernel_rfl) (by kernel_rfl) (aXC r)
end Go.Amd
