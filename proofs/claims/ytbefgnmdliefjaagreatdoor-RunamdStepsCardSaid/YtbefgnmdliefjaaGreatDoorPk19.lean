/-
  runamd: rows alike: shifts, products, quotients, the stack, jumps. Conditions: none.
-/
import Derived.Test.YtbefgnmdliefjaaGreatDoorPk18
import Derived.Test.YtbefgnmdliefjaaGreatDoorPk14
import Derived.Test.YtbefgnmdliefjaaGreatDoorPk16
open Go.IntKind (wrap i64 u64 u8)
open Go.Proofs.Tryz (prog)
open List renaming getD_eq_getElem?_getD→ZG0
open Int renaming eq_ofNat_of_zero_le→ZI3,emod_nonneg→ZJ1
set_option linter.unusedVariables false
set_option linter.unusedSimpArgs false
namespace Go.Ra
open Go Go.Ab Go.Proofs Go.Amd
theorem a0B {x y:Int} (d:rng64 x=true) (e:rng64 y=true):rng64 (qX x y)=true:=by
 obtain ⟨f,x1⟩:=dV d;obtain ⟨c,y1⟩:=dV e;refine vS (Int.ediv_nonneg (Int.mul_nonneg f c) (by decide)) ?_;refine (Int.ediv_lt_iff_lt_mul (by decide)).2 ?_;have a:=Int.mul_le_mul_of_nonneg_right (show x<=18446744073709551615 by omega) c;have b:=Int.mul_le_mul_of_nonneg_left (show y<=18446744073709551615 by omega) (show (0:Int)<=18446744073709551615 by decide);omega
theorem aKB {h l y:Int} (a:rng64 h=true) (b:rng64 l=true) (d:rng64 y=true) (c:h<y):rng64 (nM h l y)=true/\rng64 (pF h l y)=true:=by
 obtain ⟨f,h1⟩:=dV a;obtain ⟨g,l1⟩:=dV b;obtain ⟨e,y1⟩:=dV d;unfold nM pF;constructor
 ·refine vS (Int.ediv_nonneg (by omega) e) ((Int.ediv_lt_iff_lt_mul (by omega)).2 ?_)
  have:=Int.mul_le_mul_of_nonneg_right (show h+1<=y by omega) (show (0:Int)<=18446744073709551616 by decide);rw [Int.mul_comm 18446744073709551616 y];omega
 ·have:=Int.emod_lt_of_pos (h*18446744073709551616+l) (show 0<y by omega)
  exact vS (ZJ1 _ (by omega)) (by omega)
def DJ (wd:Int->Int->Int × Int):Prop:=∀ x y,rng64 x=true->rng64 y=true->(wd x y).1=qX x y/\(wd x y).2=wu (x*y)
def DA (lg:Int->Int->Int->Int × Int):Prop:=∀ h l y,rng64 h=true->rng64 l=true->rng64 y=true->h<y->(lg h l y).1=nM h l y/\(lg h l y).2=pF h l y
theorem a3P {t:W} {a:Int} (b:oR a=true) (v:Int):regW (dG a v t) a=v:=by
 obtain ⟨c,h1⟩:=FH b;show (t.1.x.set a.toNat v).getD a.toNat 0=v;have d:=t.2;rw [ZG0,List.getElem?_set_self (by omega)];rfl
theorem Q1 {t:W} {a:Int} (b:oR a=true):dG a (regW t a) t=t:=by
 obtain ⟨c,h1⟩:=FH b;have d:=t.2;apply Subtype.ext;show YO a (t.1.x.getD a.toNat 0) t.1=t.1;unfold YO
 have e:t.1.x.set a.toNat (t.1.x.getD a.toNat 0)=t.1.x:=by
  rw [ZG0,List.getElem?_eq_getElem (show a.toNat<t.1.x.length by omega)];exact List.set_getElem_self _
 rw [e]
section
variable {x:RowT} {nm:List UInt8}
def D0 (a v:Int) (c:Bool) (t:W):W:=AO (v==0) (hb v) c false (dG a v t)
theorem WK {a:Int} (b:oR a=true) {v:Int} (c:rng64 v=true) (out:Int) (t:W) (T:List V) (k:KS):IW a out v (t.1.l++T) k=k ((D0 a v (out != 0) t).1.l++T):=by
 unfold IW;rw [mJ b,nO b,a3P b,L7,BR c];rfl
theorem XU {e:EnvR} {a:Int} (b:oR a=true) (d:e.a=a) {v:Int} (f:rng64 v=true) (c:Bool) (t:W) (T:List V) (k:KS):b6 e v (rH v c false (t.1.l++T)) k=k ((D0 a v c t).1.l++T):=by
 rw [CR,FI f,kZ b _ _ e d];rfl
theorem S4 {t:W} (h:Fine t.1) (a:Int) {v:Int} (b:rng64 v=true) (c:Bool):Fine (D0 a v c t).1:=KP (fK h a b) _ _ _ _
def IK (P:Int->Int->List V->KS->Option Res) (D:EnvR->Int->Int->List V->KS->Option Res):Prop:=
 ∀ (x:RowT) (e:EnvR) (b:Hy x e) (n:Int),rng64 n=true->n<=63 -> ∃ t:W,Fine t.1/\(∀ T k,P e.a n ((wE b).1.l++T) k=k (t.1.l++T))/\(∀ T k,D e (regW (wE b) e.a) n ((wE b).1.l++T) k=k (t.1.l++T))
theorem TT (x n:Int):rng64 (HK x n)=true:=cJ _
theorem qR (k:Option Res):q true k=k:=rfl
theorem aKH:IK DQ DK:=by
 intro x e b n f _;by_cases h0:n=0
 ·subst h0
  refine ⟨wE b,b.s,fun T k=>rfl,fun T k=>?_⟩;show b6 e _ _ k=_;rw [kZ b.a _ _ e rfl,Q1 b.a]
 ·have e0:(n==0)=false:=by simpa using h0
  have c:decide (0<=n)=true:=decide_eq_true (dV f).1;have d:decide (0<=wu (64 - n))=true:=decide_eq_true (dV (cJ _)).1;refine ⟨D0 e.a (HK (regW (wE b) e.a) n) (bG (cV (regW (wE b) e.a) (wu (64 - n))) 1==1) (wE b),S4 b.s _ (TT _ _) _,fun T k=>?_,fun T k=>?_⟩
  ·unfold DQ
   simp only [e0,cond_false,cT b.a,nO b.a,c,d,qR,WK b.a (TT _ _),V6]
  ·unfold DK
   simp only [e0,cond_false,c,d,qR,XU b.a rfl (TT _ _)]
theorem aL1:IK DS DB:=by
 intro x e b n g _;by_cases h0:n=0
 ·subst h0
  refine ⟨wE b,b.s,fun T k=>rfl,fun T k=>?_⟩;show b6 e _ _ k=_;rw [kZ b.a _ _ e rfl,Q1 b.a]
 ·have e0:(n==0)=false:=by simpa using h0
  have d:decide (0<=n)=true:=decide_eq_true (dV g).1;have f:decide (0<=wu (n - 1))=true:=decide_eq_true (dV (cJ _)).1;have c:=a8Q (b.r e.a) n;refine ⟨D0 e.a (cV (regW (wE b) e.a) n) (bG (cV (regW (wE b) e.a) (wu (n - 1))) 1==1) (wE b),S4 b.s _ c _,fun T k=>?_,fun T k=>?_⟩
  ·unfold DS
   simp only [e0,cond_false,cT b.a,nO b.a,d,f,qR,WK b.a c,V6]
  ·unfold DB
   simp only [e0,cond_false,d,f,qR,XU b.a rfl c]
theorem aL0:IK DR DG:=by
 intro x e b n g hle;by_cases h0:n=0
 ·subst h0
  refine ⟨wE b,b.s,fun T k=>rfl,fun T k=>?_⟩;show b6 e _ _ k=_;rw [kZ b.a _ _ e rfl,Q1 b.a]
 ·have e0:(n==0)=false:=by simpa using h0
  have h:=(dV g).1;have d:decide (0<=n)=true:=decide_eq_true h;have f:decide (0<=wu (n - 1))=true:=decide_eq_true (dV (cJ _)).1;have c:rng64 (wu (cV (wi (regW (wE b) e.a)) n))=true:=cJ _;refine ⟨D0 e.a (wu (cV (wi (regW (wE b) e.a)) n)) (bG (cV (regW (wE b) e.a) (wu (n - 1))) 1==1) (wE b),S4 b.s _ c _,fun T k=>?_,fun T k=>?_⟩
  ·unfold DR
   simp only [e0,cond_false,cT b.a,nO b.a,d,f,qR,WK b.a c,V6]
  ·unfold DG
   simp only [e0,cond_false,d,f,qR,a78 (b.r e.a) (show 1<=n by omega) (show n<=64 by omega),XU b.a rfl c]
theorem UO {P:Int->Int->List V->KS->Option Res} {D:EnvR->Int->Int->List V->KS->Option Res} (h:IK P D) (i:uI x=true) (g:lowR x=0) (c:highR x=63) :
  Alike x (aZ (sE fun e S k=>aH e.a (aH e.a (P e.a (wu e.m) S k))) nm) (aN (fun e _ S k=>aL e.a S fun x=>D e x (wu e.m) S k) nm):=
 jM fun e b=>by
  obtain ⟨f,g1⟩:=b.im i;rw [g] at f;rw [c] at g1
  have d:wu e.m=e.m:=by rw [fS]; omega
  obtain ⟨t,ht,c,h2⟩:=h x e b (wu e.m) (cJ _) (by rw [d]; exact g1);exact iM t ht (fun k=>by simp only [sE,cT b.a,c]) (fun k=>by simp only [fV b.a,h2])
theorem UH {P:Int->Int->List V->KS->Option Res} {D:EnvR->Int->Int->List V->KS->Option Res} (c:IK P D) :
  Alike x (aZ (fun e S k=>aH e.a (aH e.a (P e.a (bG (e.s.x.getD 1 0) 63) S k))) nm) (aN (fun e _ S k=>aL e.a S fun x=>D e x (bG (e.s.x.getD 1 0) 63) S k) nm):=
 jM fun e b=>by
  obtain ⟨t,ht,h1,h2⟩:=c x e b (bG (e.s.x.getD 1 0) 63) (vL _ _) (by rw [a60]; omega);exact iM t ht (fun k=>by simp only [cT b.a,h1]) (fun k=>by simp only [fV b.a,h2])
variable {wd:Int->Int->Int × Int} (hw:DJ wd)
include hw in
theorem aaL:Alike x (aZ (fun e S k=>aH e.a (aH e.a (OE e S k))) nm) (aN (fun e x S k=>k (wT ((wd (e.s.x.getD 0 0) x).1 != 0) ((S.set 1 (.int .u64 (wd (e.s.x.getD 0 0) x).2)).set 3 (.int .u64 (wd (e.s.x.getD 0 0) x).1)))) nm):=
 jM fun e b=>by
  have c:rng64 (e.s.x.getD 0 0)=true:=b.s.rng 0;obtain ⟨d,w2⟩:=hw _ _ c (b.r e.a)
  refine iM (PU (qX (e.s.x.getD 0 0) (regW (wE b) e.a) != 0) (dG 2 (qX (e.s.x.getD 0 0) (regW (wE b) e.a)) (dG 0 (wu (e.s.x.getD 0 0*regW (wE b) e.a)) (wE b))))
   (aHT (fK (fK b.s 0 (cJ _)) 2 (a0B c (b.r _))) _) (fun k=>?_) (fun k=>?_)
  ·unfold OE
   simp only [cT b.a,fV b.a,c,b.r,Bool.and_self,qR,v8,r9,KZ]
  ·simp only [d,w2,v8,r9,KZ]
include hw in
theorem a6O (i:uM x=false):Alike x (aZ (wG fun e S k=>aH e.a (aH e.a (ND e S k))) nm) (aN (fun e _ S k=>aL e.a S fun x=>aL e.b S fun y=>MS wd e x y S k) nm):=
 jM fun e c=>by
  obtain ⟨j,w2⟩:=hw _ _ (c.r e.a) (c.r e.b)
  have one:∀ h:Int,p5 e e.bk (D7 e (wu (regW (wE c) e.a*regW (wE c) e.b)) h ((wE c).1.l++gC e e.bk)) (fun k=>EF e h (wu (regW (wE c) e.a*regW (wE c) e.b)) ((wE c).1.l++iK e 0) (k e.bk)):=by
   intro h;refine iM (PU (h != wu (Int.fdiv (wi (wu (regW (wE c) e.a*regW (wE c) e.b))) (2 ^ 63))) (dG e.a (wu (regW (wE c) e.a*regW (wE c) e.b)) (wE c))) (aHT (fK c.s _ (cJ _)) _) (fun k=>?_) (fun k=>?_)
   ·unfold D7
    simp only [cT c.a,mJ c.a,KZ]
   ·unfold EF
    rw [KZ,kZ c.a _ _ e rfl];rfl
  have m:∀ {r f : (List V->Option Res)->Option Res} {g d : (Int->List V->Option Res)->Option Res},p5 e e.bk r g->(∀ k,f k=r k)->(∀ k,d k=g k)->p5 e e.bk f d := by
   rintro r f g d ⟨t,t',er,h1,h2,h3,h4⟩ e1 e2;exact ⟨t,t',er,h1,h2,fun k=>(e1 k).trans (h3 k),fun k=>(e2 k).trans (h4 k)⟩
  unfold wG ND MS;simp only [fV c.a,fV (c.b i),cT c.a,c.r,Bool.and_self,qR,j,w2];cases qY (regW (wE c) e.a) <;> cases qY (regW (wE c) e.b)
  ·exact one _
  ·exact one _
  ·exact one _
  ·exact one _
variable {lg:Int->Int->Int->Int × Int} (hg:DA lg)
include hg in
theorem aa8:Alike x (ZN nm) (aN (fun e x S k=>OD lg e x S k) nm):=
 jM fun e b=>by
  have c:rng64 (e.s.x.getD 0 0)=true:=b.s.rng 0;have d:rng64 (e.s.x.getD 2 0)=true:=b.s.rng 2;unfold OD;simp only [cT b.a,fV b.a];by_cases hlt:e.s.x.getD 2 0<regW (wE b) e.a
  ·obtain ⟨f,g2⟩:=hg _ _ _ d c (b.r e.a) hlt
   obtain ⟨g,r2⟩:=aKB d c (b.r e.a) hlt;refine iM (dG 2 (pF (e.s.x.getD 2 0) (e.s.x.getD 0 0) (regW (wE b) e.a)) (dG 0 (nM (e.s.x.getD 2 0) (e.s.x.getD 0 0) (regW (wE b) e.a)) (wE b))) (fK (fK b.s 0 g) 2 r2) (fun k=>?_) (fun k=>?_)
   ·simp only [decide_eq_true hlt,c,d,b.r,Bool.and_self,Bool.not_true,cond_false,qR,v8,r9]
   ·have:decide (regW (wE b) e.a<=e.s.x.getD 2 0)=false:=decide_eq_false (by omega)
    simp only [this,cond_false,f,g2,v8,r9]
  ·refine KA (wE b) (fun k=>?_) (fun k=>?_)
   ·simp only [decide_eq_false hlt,Bool.not_false,cond_true]
   ·have:decide (regW (wE b) e.a<=e.s.x.getD 2 0)=true:=decide_eq_true (by omega)
    simp only [this,cond_true,KX]
theorem a80 {h l:Int} (a:rng64 h=true) (b:rng64 l=true):rng64 (kQ h l)=true/\rng64 (m4 h l)=true /\
  (decide (wi h<0)=true->m4 h l=wu (0 - l)/\kQ h l=cond (wu (0 - l)==0) (wu (kP h+1)) (kP h))/\(decide (wi h<0)=false->m4 h l=l/\kQ h l=h):=by
 obtain ⟨c,h1⟩:=dV a;obtain ⟨f,l1⟩:=dV b;unfold kQ m4;by_cases g:wi h<0
 ·have d:9223372036854775808<=h:=by
   rw [LS] at g;split at g <;> omega
  rw [decide_eq_false (by omega:¬ 0<=wi h),decide_eq_true g,cond_false,cond_false];refine ⟨vS (by omega) (by omega),vS (by omega) (by omega),fun _=>⟨by rw [fS]; omega,?_⟩,fun e=>by cases e⟩;rw [TR a];by_cases hz:l=0
  ·subst hz
   show _=wu (18446744073709551615 - h+1);rw [fS];omega
  ·have:(wu (0 - l)==0)=false:=by
    rw [beq_eq_false_iff_ne,fS];omega
   rw [this,cond_false];omega
 ·rw [decide_eq_true (by omega:0<=wi h),decide_eq_false g]
  simp only [cond_true];exact ⟨a,b,by simp,by simp⟩
include hg in
theorem a8Z:Alike x (WH nm) (aN (fun e x S k=>G7 lg e x S k) nm):=
 jM fun e b=>by
  have n:rng64 (e.s.x.getD 0 0)=true:=b.s.rng 0;have o:rng64 (e.s.x.getD 2 0)=true:=b.s.rng 2;obtain ⟨m,ml,m1,m2⟩:=a80 o n;have j:rng64 (wu (0 - regW (wE b) e.a))=true:=cJ _
  have key:∀ (neg:Bool) (c:Int),rng64 c=true->p5 e e.bk (fun k=>D9 e ((wE b).1.l++gC e e.bk) k neg (kQ (e.s.x.getD 2 0) (e.s.x.getD 0 0)) (m4 (e.s.x.getD 2 0) (e.s.x.getD 0 0)) (regW (wE b) e.a) c)
    (fun k=>O0 lg neg (kQ (e.s.x.getD 2 0) (e.s.x.getD 0 0)) (m4 (e.s.x.getD 2 0) (e.s.x.getD 0 0)) (regW (wE b) e.a) c ((wE b).1.l++iK e 0) (k e.bk)):=by
   intro neg c i;unfold D9 O0;by_cases hlt:kQ (e.s.x.getD 2 0) (e.s.x.getD 0 0)<c;rotate_left
   ·refine KA (wE b) (fun k=>?_) (fun k=>?_)
    ·simp only [decide_eq_false hlt,Bool.not_false,cond_true]
    ·have:decide (c<=kQ (e.s.x.getD 2 0) (e.s.x.getD 0 0))=true:=decide_eq_true (by omega)
     simp only [this,cond_true,KX]
   have hle:decide (c<=kQ (e.s.x.getD 2 0) (e.s.x.getD 0 0))=false:=decide_eq_false (by omega);obtain ⟨h,g2⟩:=hg _ _ _ m ml i hlt;obtain ⟨w,r2⟩:=aKB m ml i hlt;simp only [decide_eq_true hlt,hle,m,ml,i,h,g2,Bool.and_self,Bool.not_true,cond_false,qR]
   generalize kQ (e.s.x.getD 2 0) (e.s.x.getD 0 0)=H at *
   generalize m4 (e.s.x.getD 2 0) (e.s.x.getD 0 0)=L at *
   generalize nM H L c=Q at *
   generalize pF H L c=R at *
   have fin:∀ f:Int,rng64 f=true->p5 e e.bk (fun k=>PD neg ((wE b).1.l++gC e e.bk) k f R) (fun k=>OA neg f R ((wE b).1.l++iK e 0) (k e.bk)):=by
    intro f d;unfold PD OA;cases neg
    ·exact iM (dG 2 R (dG 0 f (wE b))) (fK (fK b.s 0 d) 2 r2) (fun k=>by simp only [cond_false,v8,r9]) (fun k=>by simp only [cond_false,v8,r9])
    ·exact iM (dG 2 (wu (0 - R)) (dG 0 f (wE b))) (fK (fK b.s 0 d) 2 (cJ _)) (fun k=>by simp only [cond_true,v8,r9]) (fun k=>by simp only [cond_true,v8,r9])
   unfold aOK HF;cases (!(neg==decide (wi (regW (wE b) e.a)<0)))
   ·simp only [cond_false,cond_true,Bool.not_false]
    by_cases d:Q<=9223372036854775807
    ·have:decide (9223372036854775808<=Q)=false:=decide_eq_false (by omega)
     simp only [decide_eq_true d,this,Bool.not_true,cond_false];exact fin Q w
    ·refine KA (wE b) (fun k=>?_) (fun k=>?_)
     ·simp only [decide_eq_false d,Bool.not_false,cond_true]
     ·have:decide (9223372036854775808<=Q)=true:=decide_eq_true (by omega)
      simp only [this,cond_true,KX]
   ·simp only [cond_false,cond_true,Bool.not_true]
    by_cases d:Q<=9223372036854775808
    ·have:decide (9223372036854775808<Q)=false:=decide_eq_false (by omega)
     simp only [decide_eq_true d,this,Bool.not_true,cond_false];exact fin _ (cJ _)
    ·refine KA (wE b) (fun k=>?_) (fun k=>?_)
     ·simp only [decide_eq_false d,Bool.not_false,cond_true]
     ·have:decide (9223372036854775808<Q)=true:=decide_eq_true (by omega)
      simp only [this,cond_true,KX]
  have v:p5 e e.bk (fun k=>cond (decide (wi (regW (wE b) e.a)<0)) (D9 e ((wE b).1.l++gC e e.bk) k (!decide (0<=wi (e.s.x.getD 2 0))) (kQ (e.s.x.getD 2 0) (e.s.x.getD 0 0)) (m4 (e.s.x.getD 2 0) (e.s.x.getD 0 0)) (regW (wE b) e.a) (wu (0 - regW (wE b) e.a)))
     (D9 e ((wE b).1.l++gC e e.bk) k (!decide (0<=wi (e.s.x.getD 2 0))) (kQ (e.s.x.getD 2 0) (e.s.x.getD 0 0)) (m4 (e.s.x.getD 2 0) (e.s.x.getD 0 0)) (regW (wE b) e.a) (regW (wE b) e.a)))
    (fun k=>C5 lg (!decide (0<=wi (e.s.x.getD 2 0))) (kQ (e.s.x.getD 2 0) (e.s.x.getD 0 0)) (m4 (e.s.x.getD 2 0) (e.s.x.getD 0 0)) (regW (wE b) e.a) ((wE b).1.l++iK e 0) (k e.bk)):=by
   unfold C5;cases decide (wi (regW (wE b) e.a)<0)
   ·exact key _ _ (b.r _)
   ·exact key _ _ j
  have u:(!decide (0<=wi (e.s.x.getD 2 0)))=decide (wi (e.s.x.getD 2 0)<0):=by
   by_cases g:wi (e.s.x.getD 2 0)<0
   ·rw [decide_eq_true g,decide_eq_false (by omega)]; rfl
   ·rw [decide_eq_false g,decide_eq_true (by omega)]; rfl
  have q:∀ (S:List V) (k:KS),G7 lg e (regW (wE b) e.a) S k=C5 lg (!decide (0<=wi (e.s.x.getD 2 0))) (kQ (e.s.x.getD 2 0) (e.s.x.getD 0 0)) (m4 (e.s.x.getD 2 0) (e.s.x.getD 0 0)) (regW (wE b) e.a) S k:=by
   intro S k;rw [u];unfold G7;cases p:decide (wi (e.s.x.getD 2 0)<0)
   ·obtain ⟨h,g2⟩:=m2 p
    rw [h,g2];rfl
   ·obtain ⟨h,g2⟩:=m1 p
    rw [h,g2];cases wu (0 - e.s.x.getD 0 0)==0 <;> rfl
  obtain ⟨t,t',er,k1,k2,k3,k4⟩:=v;refine ⟨t,t',er,k1,k2,fun k=>?_,fun k=>?_⟩
  ·rw [<- k3]
   simp only [cT b.a,fV b.a,n,o,Bool.and_self,qR]
  ·exact (q _ _).trans (k4 k)
theorem a1S {f:EnvR->Int} (c:∀ (x:RowT) (e:EnvR) (b:Hy x e),rng64 (f e)=true):Alike x (aZ (fun e S k=>aH e.a (aH e.a (k (S.set 45 (.int .u64 (f e)))))) nm) (kN (fun e S k=>k (f e) S) nm):=
 LC fun e b=>⟨f e,c x e b,iM (wE b) b.s (fun k=>by simp only [cT b.a,BU]) (fun k=>rfl)⟩
theorem aL8:Alike x (aZ (fun e S k=>aH e.a (aH e.a (k (S.set 45 (.int .u64 (gN e)))))) nm) (kN (fun e S k=>k (gN e) S) nm):=a1S fun _ _ _=>cJ _
theorem aLH (h:uM x=false):Alike x (aZ (fun e S k=>aH e.a (aH e.a (cond (oF e.s.z e.s.n e.s.c e.s.v e.d) (k (S.set 45 (.int .u64 (gN e)))) (k S)))) nm) (kN (fun e S k=>cond (bY e.s.z e.s.n e.s.c e.s.v e.d) (k (gN e) S) (k e.bk S)) nm):=
 LC fun e b=>by
  have g:=aHO e.s.z e.s.n e.s.c e.s.v (b.d h).1 (b.d h).2;cases f:bY e.s.z e.s.n e.s.c e.s.v e.d
  ·exact ⟨e.bk,b.bk,iM (wE b) b.s (fun k=>by simp only [g,f,cT b.a,cond_false]) (fun k=>by simp only [f,cond_false])⟩
  ·exact ⟨gN e,cJ _,iM (wE b) b.s (fun k=>by simp only [g,f,cT b.a,cond_true,BU]) (fun k=>by simp only [f,cond_true])⟩
theorem a7A:Alike x (aZ (fun e S k=>aH e.a (aH e.a (aL e.a S fun y=>k (S.set 45 (.int .u64 y))))) nm) (kN (fun e S k=>aL e.a S fun y=>k y S) nm):=
 LC fun e b=>⟨regW (wE b) e.a,b.r _,iM (wE b) b.s (fun k=>by simp only [cT b.a,fV b.a,BU]) (fun k=>by simp only [fV b.a])⟩
theorem aLD {e:EnvR} (a:Hy x e):rng64 (iG e)=true:=a.s.rng 4
theorem aL6 {e:EnvR} (a:Hy x e) (T:List V) (k:Int->KS):N6 e ((wE a).1.l++T) k=cond (pI (iG e) 8 != 0) (rT e) (k (oL e.A e.B e.C e.D e.E (iG e) 8) ((dG 4 (wu (iG e+8)) (wE a)).1.l++T)):=by
 unfold N6;rw [KV a.l (aLD a),ML]
theorem aKD {e:EnvR} (a:Hy x e) (k:Int->KS):wZ e ((wE a).1.l++iK e 0) k=k (oL e.A e.B e.C e.D e.E (iG e) 8) ((dG 4 (wu (iG e+8)) (wE a)).1.l++iK e (pI (iG e) 8)):=by
 unfold wZ;rw [K5 a.l (aLD a),ML]
theorem ac9:Alike x (YZ nm) (aN (fun e _ S k=>wZ e S fun y U=>b6 e y U k) nm):=
 jM fun e b=>by
  refine FT (iG e) 8 (dG e.a (oL e.A e.B e.C e.D e.E (iG e) 8) (dG 4 (wu (iG e+8)) (wE b))) (fK (fK b.s 4 (cJ _)) _ (E7 _ _ _ _ _ _ _)) (fun k=>?_) (fun k=>?_)
  ·simp only [cT b.a,aL6 b,mJ b.a]
  ·simp only [aKD b,kZ b.a _ _ e rfl]
theorem abP:Alike x (YM nm) (kN (fun e S k=>wZ e S fun y U=>k y U) nm):=
 LC fun e b=>by
  refine ⟨oL e.A e.B e.C e.D e.E (iG e) 8,E7 _ _ _ _ _ _ _,FT (iG e) 8 (dG 4 (wu (iG e+8)) (wE b)) (fK b.s 4 (cJ _)) (fun k=>?_) (fun k=>?_)⟩
  ·simp only [cT b.a,aL6 b,BU]
  ·simp only [aKD b]
theorem a09 {A B C D E:List Int} (h:lens5 A B C D E=true) (x n y:Int):lens5 (b9 1 x n y A) (b9 2 x n y B) (b9 16 x n y C) (b9 17 x n y D) (b9 32 x n y E)=true:=by
 unfold b9;cases cM x n 2
 ·exact h
 ·exact aEJ _ _ h
theorem aDF {e:EnvR} (g:Fine e.s) (c:lens5 e.A e.B e.C e.D e.E=true) {p:Int} (f:rng64 p=true) (n v:Int) (t:W) (i:Fine t.1) {b:Int} (d:rng64 b=true) :
  oV e.s (GR e p n v fun H=>uE H (t.1.l++gC e b)) (cond (wC p n != 0) (j8 e.s (wC p n) (aO (b9 1 p n v e.A) (b9 2 p n v e.B) (b9 16 p n v e.C) (b9 17 p n v e.D) (b9 32 p n v e.E)))
   (sN ({ t.1 with pc:=b }:CpuT).l 0 (aO (b9 1 p n v e.A) (b9 2 p n v e.B) (b9 16 p n v e.C) (b9 17 p n v e.D) (b9 32 p n v e.E)))):=by
 have a := a09 c p n v;unfold GR q;rw [c,f];simp only [Bool.and_self,cond_true,aLB]
 rcases a1L p n with h | h
 ·rw [h]
  exact KI (SW i d) 0 a
 ·rw [h]
  exact vM g 21 a
theorem aFM {e:EnvR} (b:lens5 e.A e.B e.C e.D e.E=true) {p:Int} (c:rng64 p=true) (n v:Int) (t:W) (a:Int) (k:List V->List O->Option Res) :
  r7 e p n v (t.1.l++iK e a) k=k (t.1.l++iK e (wC p n)) (aO (b9 1 p n v e.A) (b9 2 p n v e.B) (b9 16 p n v e.C) (b9 17 p n v e.D) (b9 32 p n v e.E)):=by
 unfold r7 q;rw [b,c,S2];rfl
theorem XR (l:uM x=true) (n:Int):Alike x (xQ n nm) (pX (fun e _ S k=>dB e S fun p=>aL e.a S fun y=>r7 e p n y S k) nm):=by
 intro s a b c d m h A B C D E g i j hi;have f:Hy x (eZ s nm a b c d m h A B C D E):=⟨g,i,j,hi,rZ _ _⟩;obtain ⟨p,hp,hk⟩:=MT f l;have hb:=aDF (e:=eZ s nm a b c d m h A B C D E) g i hp n (regW (wE f) a) (wE f) g (rZ s h);unfold xQ xO pX;rw [GP _ g.len,B3 _ g.len,fV (a:=a) f.a];refine (congr (congrArg (oV s) ?_) ?_).mpr hb
 ·refine (cT f.a _).trans ((hk _ _).trans ?_)
  exact nO f.a (wE f) _ _
 ·refine (hk _ _).trans ((fV f.a (wE f) _ _).trans ((aFM i hp _ _ (wE f) 0 _).trans ?_))
  exact MN (wE f) (eZ s nm a b c d m h A B C D E) s _ 0 _ _
theorem QV {e:EnvR} (a:Hy x e) (v:Int) {b:Int} (c:rng64 b=true) :
  oV e.s (CO e v ((wE a).1.l++gC e e.bk) fun T H=>uE H (T.set 45 (.int .u64 b))) (qS e v ((wE a).1.l++iK e 0) fun T H=>uK e.s b 0 H T):=by
 have hb:=aDF a.s a.l (cJ (iG e - 8)) 8 v (dG 4 (wu (iG e - 8)) (wE a)) (fK a.s 4 (cJ _)) c;unfold CO qS;rw [aFM a.l (cJ _)];simp only [ML,BU,MN];exact hb
theorem aW6 {e:EnvR} (t:W):(t.1.l++gC e e.bk)=(t.1.l++gC e e.bk).set 45 (.int .u64 e.bk):=(BU t e e.bk e.bk).symm
theorem a5Z:Alike x (NC nm) (pX (fun e x S k=>qS e x S k) nm):=by
 intro s a b c d m g A B C D E h i j hi;have f:Hy x (eZ s nm a b c d m g A B C D E):=⟨h,i,j,hi,rZ _ _⟩;have hb:=QV f (regW (wE f) a) (rZ s g);unfold NC xO pX;rw [GP _ h.len,B3 _ h.len,fV (a:=a) f.a];refine (congrArg (fun r=>oV s r _) ?_).mpr hb;refine (cT f.a _).trans ((cT f.a _).trans ((nO f.a (wE f) _ _).trans ?_));unfold CO;refine congrArg (GR _ _ 8 _) (funext fun H=>?_);show uE H (((wE f).1.l++gC (eZ s nm a b c d m g A B C D E) (eZ s nm a b c d m g A B C D E).bk).set 5 _)=_
 rw [ML];exact congrArg (uE H) (aW6 _)
theorem a7C:Alike x (lO nm) (w5 (fun e S k=>qS e e.bk S (k (gN e))) nm):=by
 intro s a b c d m f A B C D E g i j hi;have h:Hy x (eZ s nm a b c d m f A B C D E):=⟨g,i,j,hi,rZ _ _⟩;have hb:=QV h (eZ s nm a b c d m f A B C D E).bk (cJ ((eZ s nm a b c d m f A B C D E).bk+wu (eZ s nm a b c d m f A B C D E).m));unfold lO xO w5;rw [GP _ g.len,B3 _ g.len];refine (congrArg (fun r=>oV s r _) ?_).mpr hb;exact (cT h.a _).trans (cT h.a _)
theorem a18:Alike x (LV nm) (w5 (fun e S k=>aL e.a S fun y=>qS e e.bk S (k y)) nm):=by
 intro s a b c d m h A B C D E g i j hi;have f:Hy x (eZ s nm a b c d m h A B C D E):=⟨g,i,j,hi,rZ _ _⟩;have hb:=QV f (eZ s nm a b c d m h A B C D E).bk (f.r a);unfold LV xO w5;rw [GP _ g.len,B3 _ g.len];refine (congr (congrArg (oV s) ?_) ?_).mpr hb
 ·exact (cT f.a _).trans ((cT f.a _).trans (fV f.a (wE f) _ _))
 ·exact fV f.a (wE f) _ _
theorem ab2:Alike x (YE nm) (OH nm):=by
 intro s a b c d m e A B C D E g f i hi;have h:Hy x (eZ s nm a b c d m e A B C D E):=⟨g,f,i,hi,rZ _ _⟩;unfold OH;rw [B3 _ g.len,ad3,MN];exact KI (s' := ({ (dG 1 (wu (s.pc+wu e)) (wE h)).1 with pc:=wu (s.pc+wu e) }:CpuT)) (SW (fK h.s 1 (cJ _)) (cJ _)) 1 f
theorem aj1:Alike x (udR nm) (udD nm):=by
 intro s a b c d m h A B C D E f e g hi;exact KI f 2 e
end
end Go.Ra

namespace Go.Ra
open Go Go.Ab Go.Proofs
noncomputable def pH:Cx:={ P:=prog,n:=43,tab:=[],mtab:=[],refs:=[],keeps:=[0,1,2,6,7,8,9,10,11,14,35] }
noncomputable abbrev o7:Code:=cA Tryz.f129
def aJD (l b a r i:Int):Tree St:=
 (.br (decide (0<=i)) (.br (decide (0<=wrap u64 i)) (.br (Int.fdiv r (2 ^ 63)==1) (.leaf (.normal,[(1,(.int .u64 l)),(2,(.int .u64 b)),(8,(.int .u64 (wrap u64 (wrap u64 (a*2 ^ 1)+1)))),(9,(.int .u64 (wrap u64 (wrap u64 ↑(BitVec.toNat (BitVec.ofInt 64 (wrap u64 (r*2 ^ 1)) ||| BitVec.ofInt 64 (wrap u64 ↑(BitVec.toNat (BitVec.ofInt 64 (Int.fdiv l (2 ^ Min.min (Int.toNat (wrap u64 i)) 64)) &&& BitVec.ofInt 64 1))))) - b)))),(10,(.int .i64 (wrap i64 (i - 1)))),(11,(.bool (Int.fdiv r (2 ^ 63)==1))),(14,(.bool true)),(35,(.bool true))],[])) (.br (decide (b<=wrap u64 ↑(BitVec.toNat (BitVec.ofInt 64 (wrap u64 (r*2 ^ 1)) ||| BitVec.ofInt 64 (wrap u64 ↑(BitVec.toNat (BitVec.ofInt 64 (Int.fdiv l (2 ^ Min.min (Int.toNat (wrap u64 i)) 64)) &&& BitVec.ofInt 64 1))))))) (.leaf (.normal,[(1,(.int .u64 l)),(2,(.int .u64 b)),(8,(.int .u64 (wrap u64 (wrap u64 (a*2 ^ 1)+1)))),(9,(.int .u64 (wrap u64 (wrap u64 ↑(BitVec.toNat (BitVec.ofInt 64 (wrap u64 (r*2 ^ 1)) ||| BitVec.ofInt 64 (wrap u64 ↑(BitVec.toNat (BitVec.ofInt 64 (Int.fdiv l (2 ^ Min.min (Int.toNat (wrap u64 i)) 64)) &&& BitVec.ofInt 64 1))))) - b)))),(10,(.int .i64 (wrap i64 (i - 1)))),(11,(.bool (Int.fdiv r (2 ^ 63)==1))),(14,(.bool true)),(35,(.bool true))],[])) (.leaf (.normal,[(1,(.int .u64 l)),(2,(.int .u64 b)),(8,(.int .u64 (wrap u64 (a*2 ^ 1)))),(9,(.int .u64 (wrap u64 ↑(BitVec.toNat (BitVec.ofInt 64 (wrap u64 (r*2 ^ 1)) ||| BitVec.ofInt 64 (wrap u64 ↑(BitVec.toNat (BitVec.ofInt 64 (Int.fdiv l (2 ^ Min.min (Int.toNat (wrap u64 i)) 64)) &&& BitVec.ofInt 64 1)))))))),(10,(.int .i64 (wrap i64 (i - 1)))),(11,(.bool (Int.fdiv r (2 ^ 63)==1))),(14,(.bool true)),(35,(.bool false))],[])))) .fail) (.leaf ((.exit 0),[(1,(.int .u64 l)),(2,(.int .u64 b)),(8,(.int .u64 a)),(9,(.int .u64 r)),(10,(.int .i64 i)),(14,(.bool false))],[])))
theorem aUZ (l b a r i:Int):(aK pH (cin (cin (c2 (c1 (aJ 2 o7))))) [(1,.int .u64 l),(2,.int .u64 b),(8,.int .u64 a),(9,.int .u64 r),(10,.int .i64 i)] []).run=(aJD l b a r i).run:=
 (show (aK pH (cin (cin (c2 (c1 (aJ 2 o7))))) [(1,.int .u64 l),(2,.int .u64 b),(8,.int .u64 a),(9,.int .u64 r),(10,.int .i64 i)] []).run=(aJD l b a r i).out by kernel_rfl).trans (Tree.out_run _)
def aNE (a r:Int):Tree St:=
 (.leaf (.ret,[(6,(.int .u64 a)),(7,(.int .u64 r)),(8,(.int .u64 a)),(9,(.int .u64 r))],[]))
theorem a2W (a r:Int):(aK pH (aJ 3 o7) [(8,.int .u64 a),(9,.int .u64 r)] []).run=(aNE a r).run:=
 (show (aK pH (aJ 3 o7) [(8,.int .u64 a),(9,.int .u64 r)] []).run=(aNE a r).out by kernel_rfl).trans (Tree.out_run _)
def aO5 (l i:Int):Int:=wu ((BitVec.toNat (BitVec.ofInt 64 (Int.fdiv l (2 ^ Min.min (Int.toNat (wu i)) 64)) &&& BitVec.ofInt 64 1):Nat):Int)
def qB (l r i:Int):Int:=wu ((BitVec.toNat (BitVec.ofInt 64 (wu (r*2 ^ 1)) ||| BitVec.ofInt 64 (aO5 l i)):Nat):Int)
def uQ (r:Int):Bool:=Int.fdiv r (2 ^ 63)==1
def y5 (l b i:Int) (p:Int × Int):Int × Int:=
 cond (uQ p.2) (wu (wu (p.1*2 ^ 1)+1),wu (qB l p.2 i - b)) (cond (decide (b<=qB l p.2 i)) (wu (wu (p.1*2 ^ 1)+1),wu (qB l p.2 i - b)) (wu (p.1*2 ^ 1),qB l p.2 i))
noncomputable def iF (h l b:Int) (k:Nat):Int × Int:=Nat.rec (motive:=fun _=>Int × Int) (0,h) (fun i p=>y5 l b (63 - (i:Int)) p) k
theorem R7 (h l b:Int) (k:Nat):iF h l b (k+1)=y5 l b (63 - (k:Int)) (iF h l b k):=rfl
noncomputable def N5 (h l b:Int) (k:{ k:Nat // k<=64 }):T × List O:=([(1,.int .u64 l),(2,.int .u64 b),(8,.int .u64 (iF h l b k.1).1),(9,.int .u64 (iF h l b k.1).2),(10,.int .i64 (63 - (k.1:Int)))],[])
def lgB (l b a r i:Int) (k:Tree St):Tree St:=.br (decide (0<=i)) (.br (decide (0<=wu i)) k .fail) (.leaf (.exit 0,[(1,.int .u64 l),(2,.int .u64 b),(8,.int .u64 a),(9,.int .u64 r),(10,.int .i64 i),(14,.bool false)],[]))
def lgL (l b i:Int) (p:Int × Int) (o c:Bool):Tree St:=.leaf (.normal,[(1,.int .u64 l),(2,.int .u64 b),(8,.int .u64 p.1),(9,.int .u64 p.2),(10,.int .i64 (wi (i - 1))),(11,.bool o),(14,.bool true),(35,.bool c)],[])
def lgH (l b a r i:Int):Tree St:=lgB l b a r i (.br (uQ r) (lgL l b i (wu (wu (a*2 ^ 1)+1),wu (qB l r i - b)) (uQ r) true)
 (.br (decide (b<=qB l r i)) (lgL l b i (wu (wu (a*2 ^ 1)+1),wu (qB l r i - b)) (uQ r) true) (lgL l b i (wu (a*2 ^ 1),qB l r i) (uQ r) false)))
theorem abE (l b a r i:Int):(aK pH (cin (cin (c2 (c1 (aJ 2 o7))))) [(1,.int .u64 l),(2,.int .u64 b),(8,.int .u64 a),(9,.int .u64 r),(10,.int .i64 i)] []).run=(lgH l b a r i).run:=aUZ l b a r i
theorem a5Q (h l b:Int):jS prog 129 [.int .u64 h,.int .u64 l,.int .u64 b] (.tup [.int .u64 (iF h l b 64).1,.int .u64 (iF h l b 64).2]):=by
 refine vG (c:=o7) (fn:=Tryz.f129) (by kernel_rfl) (by kernel_rfl) (by kernel_rfl) (by kernel_rfl) ?_
 have q:o7 = .seq (c1 o7) (.seq (c1 (aJ 0 o7)) (.seq (c1 (aJ 1 o7)) (.seq (.seq (c1 (c1 (aJ 2 o7))) (.block 0 (.loop (cin (cin (c2 (c1 (aJ 2 o7)))))))) (aJ 3 o7)))):=by kernel_rfl
 rw [q];generalize r:(fun e' t H=>(e' = AEx.ret\/e' = .normal)/\hD prog Tryz.f129.results.toList H t=some (.tup [.int .u64 (iF h l b 64).1,.int .u64 (iF h l b 64).2]))=Q;have a:aW pH:=dO rfl rfl;refine cL (dA (cx:=pH) rfl rfl a (s:=(.normal,[(0,.int .u64 h),(1,.int .u64 l),(2,.int .u64 b),(6,.int .u64 0),(7,.int .u64 0)],[])) (by kernel_rfl) ?_);refine cL (dA (cx:=pH) rfl rfl a (s:=(.normal,[(0,.int .u64 h),(1,.int .u64 l),(2,.int .u64 b),(6,.int .u64 0),(7,.int .u64 0),(8,.int .u64 0)],[])) (by kernel_rfl) ?_)
 refine cL (dA (cx:=pH) rfl rfl a (s:=(.normal,[(0,.int .u64 h),(1,.int .u64 l),(2,.int .u64 b),(6,.int .u64 0),(7,.int .u64 0),(8,.int .u64 0),(9,.int .u64 h)],[])) (by kernel_rfl) ?_);refine cL (cL (dA (cx:=pH) rfl rfl a (s:=(.normal,[(0,.int .u64 h),(1,.int .u64 l),(2,.int .u64 b),(6,.int .u64 0),(7,.int .u64 0),(8,.int .u64 0),(9,.int .u64 h),(10,.int .i64 63)],[])) (by kernel_rfl) ?_));refine mA ?_
 refine aI.less (s:=(N5 h l b ⟨0,Nat.zero_le _⟩).1) (Fits.tle ⟨rfl,rfl,rfl,rfl,rfl,trivial⟩) ?_;refine JU (N5 h l b) (fun i=>64 - i.1) (fun i=>kD (cx:=pH) rfl rfl a _ _ _ _ ?_) ⟨0,Nat.zero_le _⟩;obtain ⟨k,hk⟩:=i;refine Tree.all_run_eq (abE l b (iF h l b k).1 (iF h l b k).2 (63 - (k:Int))) ?_
 have next:∀ (p:Int × Int) (o c:Bool),(0:Int)<=63 - k->y5 l b (63 - (k:Int)) (iF h l b k)=p -> ∃ j:{ k:Nat // k<=64 },64 - j.1<64 - k /\
   dK [(1,V.int .u64 l),(2,V.int .u64 b),(8,V.int .u64 p.1),(9,V.int .u64 p.2),(10,V.int .i64 (wi (63 - (k:Int) - 1))),(11,V.bool o),(14,V.bool true),(35,V.bool c)] (N5 h l b j).1/\([]:List O)=(N5 h l b j).2:=by
  intro p o c u f;refine ⟨⟨k+1,by omega⟩,by show 64 - (k+1)<64 - k; omega,Fits.tle ⟨rfl,rfl,?_,?_,?_,trivial⟩,rfl⟩
  ·show V.int .u64 _=V.int .u64 (iF h l b (k+1)).1
   rw [R7,f]
  ·show V.int .u64 _=V.int .u64 (iF h l b (k+1)).2
   rw [R7,f]
  ·show V.int .i64 (wi (63 - (k:Int) - 1))=V.int .i64 (63 - ((k+1:Nat):Int))
   rw [B9 (by omega) (by omega)];exact congrArg (V.int .i64) (by omega)
 refine ⟨fun d=>⟨fun _=>⟨fun g=>?_,fun g=>⟨fun m=>?_,fun m=>?_⟩⟩,fun f=>?_⟩,fun e=>?_⟩
 ·refine next _ _ _ (of_decide_eq_true d) ?_
  unfold y5;rw [show uQ (iF h l b k).2=true from g];rfl
 ·refine next _ _ _ (of_decide_eq_true d) ?_
  unfold y5;rw [show uQ (iF h l b k).2=false from g,show decide (b<=qB l (iF h l b k).2 (63 - (k:Int)))=true from m];rfl
 ·refine next _ _ _ (of_decide_eq_true d) ?_
  unfold y5;rw [show uQ (iF h l b k).2=false from g,show decide (b<=qB l (iF h l b k).2 (63 - (k:Int)))=false from m];rfl
 ·exfalso
  have:(0:Int)<=wu (63 - (k:Int)):=by rw [fS]; omega
  exact absurd this (of_decide_eq_false f)
 ·have e:¬ (0:Int)<=63 - k:=of_decide_eq_false e
  have n : k=64:=by omega
  subst n;show aI _ _ _ _ _ _;refine aI.less (s:=[(8,.int .u64 (iF h l b 64).1),(9,.int .u64 (iF h l b 64).2)]) (Fits.tle ⟨rfl,rfl,trivial⟩) ?_;refine dA (cx:=pH) rfl rfl a ((a2W _ _).trans rfl) ?_;subst r;refine ⟨.inl rfl,?_⟩
  kernel_rfl
noncomputable def PA (h l b:Int):Int × Int:=iF h l b 64
theorem aa6:Sound prog 129 (DX PA):=by
 intro args out h;unfold DX at h;split at h;rotate_left
 ·cases h
 cases h;exact a5Q _ _ _
end Go.Ra

namespace Go.Ra
open Go Go.Ab Go.Proofs
theorem a5L {l:Int} (a:rng64 l=true) {k:Nat} (b:k<64):aO5 l (63 - (k:Int))=l / 2 ^ (63 - k) % 2:=by
 have e:Min.min (Int.toNat (wu (63 - (k:Int)))) 64=63 - k:=by
  rw [fS];omega
 obtain ⟨c,l1⟩:=dV a;show bG _ 1=_;rw [e,LQ,Int.fdiv_eq_ediv_of_nonneg _ (Int.le_of_lt (Int.pow_pos (by decide)))]
theorem ajH {l r:Int} (e:rng64 l=true) (f:rng64 r=true) {k:Nat} (d:k<64):qB l r (63 - (k:Int))=(2*r) % 18446744073709551616+l / 2 ^ (63 - k) % 2:=by
 unfold qB;rw [a5L e d];obtain ⟨r0,r1⟩:=dV f;obtain ⟨m,hm⟩:=ZI3 r0;obtain ⟨y,hy⟩:=ZI3 (show 0<=l / 2 ^ (63 - k) % 2 by omega);rw [hy]
 have g:y<2:=by omega
 subst hm
 have c:wu ((m:Int)*2 ^ 1)=((2*(m % 9223372036854775808):Nat):Int):=by
  rw [fS];omega
 rw [c,or_cast (by omega) (by omega)];have a:=Nat.two_pow_add_eq_or_of_lt (i:=1) (b:=y) (by omega) (m % 9223372036854775808);rw [Nat.pow_one] at a;rw [<- a];omega
theorem aaQ {r:Int} (a:rng64 r=true):uQ r=hb r:=FI a
theorem aXK {h l:Int} (f:rng64 l=true) {k:Nat} (e:k<64) :
  (h*18446744073709551616+l) / 2 ^ (63 - k)=2*((h*18446744073709551616+l) / 2 ^ (64 - k))+l / 2 ^ (63 - k) % 2:=by
 have a:(0:Int)<2 ^ (63 - k):=Int.pow_pos (by decide)
 have b:(2:Int) ^ (64 - k)=2 ^ (63 - k)*2:=by
  rw [show 64 - k=(63 - k)+1 by omega,Int.pow_succ]
 have c:(18446744073709551616:Int)=2 ^ (63 - k)*(2*2 ^ k):=by
  have:(2:Int) ^ (63 - k)*(2*2 ^ k)=2 ^ ((63 - k)+(k+1)):=by
   rw [Int.pow_add,Int.pow_succ,Int.mul_comm 2]
  rw [this,show (63 - k)+(k+1)=64 by omega];rfl
 have e3:(h*18446744073709551616+l) / 2 ^ (63 - k)=h*(2*2 ^ k)+l / 2 ^ (63 - k):=by
  rw [c,show h*(2 ^ (63 - k)*(2*2 ^ k))=2 ^ (63 - k)*(h*(2*2 ^ k)) by rw [Int.mul_left_comm],Int.add_comm,Int.add_mul_ediv_left _ _ (Int.ne_of_gt a),Int.add_comm]
 rw [b,<- Int.ediv_ediv_of_nonneg (Int.le_of_lt a),e3]
 have d:h*(2*2 ^ k)=2*(h*2 ^ k):=by rw [Int.mul_left_comm]
 rw [d];generalize h*2 ^ k=z;generalize l / 2 ^ (63 - k)=y;omega
theorem a2Q {n b bit:Int} (hb:0<b) (h:0<=n) (d:bit=0\/bit=1) :
  (b<=2*(n % b)+bit->(2*n+bit) / b=2*(n / b)+1/\(2*n+bit) % b=2*(n % b)+bit - b)/\(2*(n % b)+bit<b->(2*n+bit) / b=2*(n / b)/\(2*n+bit) % b=2*(n % b)+bit):=by
 have c:=Int.emod_add_mul_ediv n b;have f:=ZJ1 n (Int.ne_of_gt hb);have g:=Int.emod_lt_of_pos n hb;generalize n % b=r at c f g ⊢;generalize n / b=q at c ⊢;constructor
 ·intro hle
  have e:2*n+bit=(2*r+bit - b)+b*(2*q+1):=by
   rw [<- c,Int.mul_add b,Int.mul_one,Int.mul_left_comm b 2 q];omega
  rw [e,Int.add_mul_ediv_left _ _ (Int.ne_of_gt hb),Int.add_mul_emod_self_left,Int.ediv_eq_zero_of_lt (by omega) (by omega),Int.emod_eq_of_lt (by omega) (by omega)];exact ⟨by omega,rfl⟩
 ·intro a
  have e:2*n+bit=(2*r+bit)+b*(2*q):=by
   rw [<- c,Int.mul_left_comm b 2 q];omega
  rw [e,Int.add_mul_ediv_left _ _ (Int.ne_of_gt hb),Int.add_mul_emod_self_left,Int.ediv_eq_zero_of_lt (by omega) a,Int.emod_eq_of_lt (by omega) a];exact ⟨by omega,rfl⟩
theorem aJW {h l b:Int} (o:rng64 h=true) (i:rng64 l=true) (d : rng64 b=true) (a:h<b):∀ k,k<=64->(iF h l b k).1=(h*18446744073709551616+l) / 2 ^ (64 - k) / b/\(iF h l b k).2=(h*18446744073709551616+l) / 2 ^ (64 - k) % b
 | 0,_=>by
  obtain ⟨m,h1⟩:=dV o;obtain ⟨x,l1⟩:=dV i
  have e:(h*18446744073709551616+l) / 2 ^ (64 - 0)=h:=by
   show (h*18446744073709551616+l) / 18446744073709551616=h;omega
  rw [e,Int.ediv_eq_zero_of_lt m a,Int.emod_eq_of_lt m a];exact ⟨rfl,rfl⟩
 | k+1,hk=>by
  obtain ⟨w,i2⟩:=aJW o i d a k (by omega);obtain ⟨m,h1⟩:=dV o;obtain ⟨x,l1⟩:=dV i;obtain ⟨z,b1⟩:=dV d
  have g : k<64:=by omega
  have v:=aXK (h:=h) i g;have t:(0:Int)<2 ^ (64 - k):=Int.pow_pos (by decide);have j:0<=(h*18446744073709551616+l) / 2 ^ (64 - k):=Int.ediv_nonneg (by omega) (Int.le_of_lt t)
  have f:l / 2 ^ (63 - k) % 2=0\/l / 2 ^ (63 - k) % 2=1:=by omega
  have p:(h*18446744073709551616+l) / 2 ^ (63 - k) / b<18446744073709551616:=by
   refine (Int.ediv_lt_iff_lt_mul (by omega)).2 ?_;have:=Int.ediv_le_self (2 ^ (63 - k)) (show 0<=h*18446744073709551616+l by omega);have A:(h+1)*18446744073709551616<=b*18446744073709551616:=Int.mul_le_mul_of_nonneg_right (by omega) (by decide);rw [Int.mul_comm 18446744073709551616 b];omega
  have u:0<=(h*18446744073709551616+l) / 2 ^ (64 - k) / b:=Int.ediv_nonneg j (by omega);obtain ⟨d1,d2⟩:=a2Q (n:=(h*18446744073709551616+l) / 2 ^ (64 - k)) (b:=b) (bit:=l / 2 ^ (63 - k) % 2) (by omega) j f;have y:=ZJ1 ((h*18446744073709551616+l) / 2 ^ (64 - k)) (show b ≠ 0 by omega);have B:=Int.emod_lt_of_pos ((h*18446744073709551616+l) / 2 ^ (64 - k)) (show 0<b by omega);rw [R7,show 64 - (k+1)=63 - k by omega]
  rw [v] at p ⊢;unfold y5;rw [w,i2];have s:rng64 ((h*18446744073709551616+l) / 2 ^ (64 - k) % b)=true:=vS y (by omega);rw [aaQ s,ajH i s g]
  generalize (h*18446744073709551616+l) / 2 ^ (64 - k)=N at *
  generalize l / 2 ^ (63 - k) % 2=bit at *
  generalize N % b=r at *
  generalize N / b=q at *
  have sub:b<=2*r+bit->(wu (wu (q*2 ^ 1)+1),wu ((2*r) % 18446744073709551616+bit - b))=((2*N+bit) / b,(2*N+bit) % b):=by
   intro hle;obtain ⟨c,g2⟩:=d1 hle;rw [c] at p;rw [c,g2];refine Prod.ext ?_ ?_
   ·show wu (wu (q*2)+1)=_
    rw [fS,fS];omega
   ·show wu _=_
    rw [fS];omega
  unfold hb;by_cases ht:9223372036854775808<=r
  ·rw [decide_eq_true ht,cond_true,sub (by omega)]
   exact ⟨rfl,rfl⟩
  ·rw [decide_eq_false ht,cond_false]
   have e:(2*r) % 18446744073709551616=2*r:=by omega
   by_cases hle:b<=2*r+bit
   ·rw [e,decide_eq_true hle,cond_true,<- e,sub hle]
    exact ⟨rfl,rfl⟩
   ·rw [e,decide_eq_false hle,cond_false]
    obtain ⟨c,g2⟩:=d2 (by omega);rw [c] at p;rw [c,g2];refine ⟨?_,rfl⟩;show wu (q*2)=_;rw [fS];omega
theorem TA:DA PA:=by
 intro h l y c d f a;obtain ⟨b,g2⟩:=aJW c d f a 64 (Nat.le_refl _);have e:(h*18446744073709551616+l) / 2 ^ (64 - 64)=h*18446744073709551616+l:=Int.ediv_one _;rw [e] at b g2;exact ⟨b,g2⟩
end Go.Ra

namespace Go.Amd
open Go Go.Ab Go.Proofs
noncomputable def aMZ:Cx:={ P:=prog,n:=58,tab:=[],mtab:=[],refs:=[],keeps:=[0,1,2,3,4,5,12,13,14,18,31,47],fuel:=9 }
noncomputable def aKW:MSpec:=fun args H=>.aF (Nat.ble args.length Tryz.f189.ntmps) (dF aMZ Tryz.f189 args H)
theorem aWQ:bP prog 189 aKW:=fA (cx:=aMZ) (fn:=Tryz.f189) (dO rfl rfl) (by kernel_rfl) (by kernel_rfl)
noncomputable def aNA:Cx:={ P:=prog,n:=150,tab:=[],mtab:=[(189,aKW)],refs:=[],keeps:=[0,1] }
abbrev NF:EC:=.prod [.str,.int .i64,.sl (.int .u8),.int .i64,.int .i64]
abbrev gX:=List UInt8 × Int × Option (List Int) × Int × Int
@[irreducible] def bN:List gX:=[
 ([109,111,118,46,114,114],1,some [137],0,2),
 ([109,111,118,46,114,105],2,some [184],0,2),
 ([109,111,118,46,114,115],3,some [199],0,2),
 ([109,111,118,46,114,109],4,some [139],0,2),
 ([109,111,118,108,46,114,109],4,some [139],0,0),
 ([109,111,118,115,108,46,114,109],4,some [99],0,2),
 ([109,111,118,122,98,46,114,109],4,some [15,182],0,2),
 ([108,101,97],4,some [141],0,2),
 ([109,111,118,46,109,114],4,some [137],0,2),
 ([109,111,118,108,46,109,114],4,some [137],0,0),
 ([109,111,118,98,46,109,114],4,some [136],0,1),
 ([109,111,118,46,102,115],5,some [139],0,2),
 ([97,100,100,46,114,114],1,some [1],0,2),
 ([111,114,46,114,114],1,some [9],0,2),
 ([97,110,100,46,114,114],1,some [33],0,2),
 ([115,117,98,46,114,114],1,some [41],0,2),
 ([120,111,114,46,114,114],1,some [49],0,2),
 ([99,109,112,46,114,114],1,some [57],0,2),
 ([97,100,100,46,114,109],4,some [3],0,2),
 ([111,114,46,114,109],4,some [11],0,2),
 ([97,110,100,46,114,109],4,some [35],0,2),
 ([115,117,98,46,114,109],4,some [43],0,2),
 ([120,111,114,46,114,109],4,some [51],0,2),
 ([99,109,112,46,114,109],4,some [59],0,2),
 ([97,100,100,46,114,105],6,some [131],0,2),
 ([111,114,46,114,105],6,some [131],1,2),
 ([97,110,100,46,114,105],6,some [131],4,2),
 ([115,117,98,46,114,105],6,some [131],5,2),
 ([120,111,114,46,114,105],6,some [131],6,2),
 ([99,109,112,46,114,105],6,some [131],7,2),
 ([116,101,115,116,46,114,114],1,some [133],0,2),
 ([105,109,117,108,46,114,114],7,some [15,175],0,2),
 ([110,111,116],8,some [247],2,2),
 ([110,101,103],8,some [247],3,2),
 ([109,117,108],8,some [247],4,2),
 ([100,105,118],8,some [247],6,2),
 ([105,100,105,118],8,some [247],7,2),
 ([99,113,111],9,some [153],0,2),
 ([115,104,108,46,114,105],10,some [193],4,2),
 ([115,104,114,46,114,105],10,some [193],5,2),
 ([115,97,114,46,114,105],10,some [193],7,2),
 ([115,104,108,46,114,99],8,some [211],4,2),
 ([115,104,114,46,114,99],8,some [211],5,2),
 ([115,97,114,46,114,99],8,some [211],7,2),
 ([99,109,111,118],11,some [15,64],0,2),
 ([112,117,115,104],12,some [80],0,0),
 ([112,111,112],12,some [88],0,0),
 ([99,97,108,108],13,some [232],0,0),
 ([106,109,112],13,some [233],0,0),
 ([106,109,112,46,115],14,some [235],0,0),
 ([99,97,108,108,46,114],8,some [255],2,0),
 ([106,109,112,46,114],8,some [255],4,0),
 ([106,99,99],15,some [15,128],0,0),
 ([106,99,99,46,115],16,some [112],0,0),
 ([114,101,116],9,some [195],0,0),
 ([115,121,115,99,97,108,108],9,some [15,5],0,0),
 ([110,111,112],9,some [144],0,0),
 ([117,100,50],9,some [15,11],0,0)]
theorem aXF:(a7 aNA Tryz.f126 []).run=some (.sl NF bN [] .ro):=by kernel_rfl
def GK:Ab.Spec:=fun args=>match args with
 | []=>.leaf (.sl NF bN [] .ro)
 | _=>.fail
theorem Q3:Sound prog 126 GK:=by
 intro args out h;unfold GK at h;split at h;rotate_left
 ·cases h
 simp only [Tree.run,Option.some.injEq] at h;subst h;exact cE (cx:=aNA) (fn:=Tryz.f126) (bU (.nil _) (.cons aWQ (.nil _)) rfl rfl) (by kernel_rfl) (by kernel_rfl) (by kernel_rfl) aXF
noncomputable def ZZ:Cx:={ P:=prog,n:=25,tab:=[(126,GK)],mtab:=[],refs:=[],keeps:=[0,2,3,4,5,10,19],fuel:=60 }
theorem a8V:aW ZZ:=bU (.cons Q3 (.nil _)) (.nil _) rfl rfl
def zM:gX:=([],0,none,0,0)
def mM (nm:List UInt8) (l:List gX):Option gX:=l.find? fun r=>wL r.1 nm
def jA (nm:List UInt8):gX:=(mM nm bN).getD zM
def kO (nm:List UInt8):Bool:=(mM nm bN).isSome
def slO (o:Option (List Int)):V:=match o with
 | none=>nilSl
 | some l=>.sl (.int .u8) l [] .ro
def CM (r:gX):List V:=[.str r.1,.int .i64 r.2.1,slO r.2.2.1,.int .i64 r.2.2.2.1,.int .i64 r.2.2.2.2]
def Z3 (r:gX):V:=.agg (CM r)
def MJ (nm:List UInt8):List gX->Tree V
 | []=>.leaf (.tup [.agg (CM zM),.bool false])
 | r :: l=>.br (wL r.1 nm) (.leaf (.tup [.agg (CM r),.bool true])) (MJ nm l)
theorem aYM (nm:List UInt8):(a7 ZZ Tryz.f69 [.str nm]).out=(MJ nm bN).out:=by kernel_rfl
theorem aDD (nm:List UInt8):∀ l,(MJ nm l).run=some (.tup [.agg (CM ((mM nm l).getD zM)),.bool (mM nm l).isSome])
 | []=>rfl
 | r :: l=>by
  unfold MJ mM;rw [a6,List.find?_cons];cases wL r.1 nm
  ·exact aDD nm l
  ·rfl
theorem aGS (nm:List UInt8):jS prog 69 [.str nm] (.tup [Z3 (jA nm),.bool (kO nm)]):=
 cE (cx:=ZZ) (fn:=Tryz.f69) a8V (by kernel_rfl) (by kernel_rfl) (by kernel_rfl) ((Tree.out_run _).symm.trans ((aYM nm).trans ((Tree.out_run _).trans (aDD nm bN))))
end Go.Amd

namespace Go.Amd
open Go Go.Ab Go.Proofs
def afV (r:Int):Int:=cond (r==0) 0 (cond (r==2) 1 2)
def opC (o:Option (List Int)):Int:=match o with
 | some [a]=>a
 | some [a,b]=>256*a+b
 | _=>0
def XH (f:Int):Int:=([0,7,2,4,9,10,6,8,3,0,5,8,1,11,12,11,12]:List Int).getD f.toNat 0
def ahX (f:Int):Bool:=f==11 || f==15 || f==16
def aMH (f:Int):Bool:=f==3 || f==4 || f==5 || f==6 || f==13 || f==15
def aKP (f:Int):Bool:=f==14 || f==16
def ak9 (f:Int):Int:=cond (f==2) (-9223372036854775808) (cond (aMH f) (-2147483648) (cond (aKP f) (-128) 0))
def ajK (f:Int):Int:=cond (f==2) 9223372036854775807 (cond (aMH f) 2147483647 (cond (aKP f) 127 (cond (f==10) 63 0)))
def ak2 (f:Int):List UInt8:=
 cond (f==1 || f==7) [65,66] (cond (f==2 || f==3 || f==6 || f==10 || f==5) [65,105] (cond (f==4) [65,109] (cond (f==8 || f==12) [65] (cond (f==11) [65,66,99] (cond (f==13 || f==14) [106] (cond (f==15 || f==16) [99,106] []))))))
def conv (x:gX):RowT:=(x.1,afV x.2.2.2.2,opC x.2.2.1,XH x.2.1,x.2.2.2.1,ahX x.2.1,ak9 x.2.1,ajK x.2.1,ak2 x.2.1)
theorem aEP:bN.map conv=aD:=by kernel_rfl
theorem aEK (nm:List UInt8):qW nm aD=(mM nm bN).map conv:=by
 unfold qW mM;rw [<- aEP,List.find?_map];rfl
theorem aLU (nm:List UInt8):fI nm=kO nm:=by
 unfold fI kO;rw [aEK];cases mM nm bN <;> rfl
theorem aHG {nm:List UInt8} (h:kO nm=true):dW nm=conv (jA nm)/\jA nm ∈ bN:=by
 unfold kO at h;obtain ⟨r,hr⟩:=Option.isSome_iff_exists.1 h
 have a:jA nm=r:=by unfold jA; rw [hr]; rfl
 refine ⟨?_,by rw [a]; exact List.mem_of_find?_eq_some hr⟩;unfold dW;rw [aEK,hr,a];rfl
def sA (nm:List UInt8) (x:gX):Bool:=match mM nm bN with
 | some y=>y==x
 | none=>false
theorem a2P {nm:List UInt8} {x:gX} (h:sA nm x=true):mM nm bN=some x:=by
 unfold sA at h;cases a:mM nm bN
 ·rw [a] at h; cases h
 ·rw [a] at h; exact congrArg some (eq_of_beq h)
def findAt (x:gX):Ab.Spec:=fun args=>match args with
 | [.str nm]=>.aF (sA nm x) (.leaf (.tup [.agg (CM x),.bool true]))
 | _=>.fail
theorem aZX (x:gX):Sound prog 69 (findAt x):=by
 intro args out h;unfold findAt at h;split at h;rotate_left
 ·cases h
 rename_i nm;obtain ⟨a,h⟩:=aM h;have h:=dU h;subst h;have b:mM nm bN=some x:=a2P a;have:=aGS nm;unfold jA kO Z3 at this;rw [b] at this;exact this
def T8:Ab.Spec:=fun args=>match args with
 | [.str nm]=>.aF (!kO nm) (.leaf (.tup [.agg (CM zM),.bool false]))
 | _=>.fail
theorem a0D:Sound prog 69 T8:=by
 intro args out h;unfold T8 at h;split at h;rotate_left
 ·cases h
 rename_i nm;obtain ⟨b,h⟩:=aM h;have h:=dU h;subst h
 have a:kO nm=false:=by simpa using b
 have d:mM nm bN=none:=by
  unfold kO at a;cases c:mM nm bN
  ·rfl
  ·rw [c] at a; cases a
 have:=aGS nm;unfold jA kO Z3 at this;rw [d] at this;exact this
theorem aKJ {nm:List UInt8} (h:kO nm=true):mM nm bN=some (jA nm)/\jA nm ∈ bN/\sA nm (jA nm)=true:=by
 unfold kO at h;obtain ⟨r,hr⟩:=Option.isSome_iff_exists.1 h
 have a:jA nm=r:=by unfold jA; rw [hr]; rfl
 refine ⟨by rw [a]; exact hr,by rw [a]; exact List.mem_of_find?_eq_some hr,?_⟩;unfold sA;rw [hr,a];exact beq_self_eq_true _
theorem aYP {α β:Type} {f g:α->β} {l:List α} (h:l.map f=l.map g) {x:α} (a:x ∈ l):f x=g x:=List.map_inj_left.1 h x a
end Go.Amd

namespace Go.Amd
open Go Go.Ab Go.Proofs
noncomputable def aMG:Cx:={ P:=prog,n:=6,tab:=[],mtab:=[],refs:=[],keeps:=[0,3] }
noncomputable def zL:MSpec:=fun args H=>.aF (Nat.ble args.length Tryz.f163.ntmps) (dF aMG Tryz.f163 args H)
theorem BM:bP prog 163 zL:=fA (cx:=aMG) (fn:=Tryz.f163) (bU (.nil _) (.nil _) rfl rfl) (by kernel_rfl) (by kernel_rfl)
noncomputable def aMA:Cx:={ P:=prog,n:=33,tab:=[],mtab:=[],refs:=[],keeps:=[0,2,12] }
noncomputable def C4:MSpec:=fun args H=>.aF (Nat.ble args.length Tryz.f164.ntmps) (dF aMA Tryz.f164 args H)
theorem FA:bP prog 164 C4:=fA (cx:=aMA) (fn:=Tryz.f164) (bU (.nil _) (.nil _) rfl rfl) (by kernel_rfl) (by kernel_rfl)
noncomputable def aMO:Cx:={ P:=prog,n:=30,tab:=[],mtab:=[(164,C4)],refs:=[],keeps:=[0,1,4,5,6,7,8,9],fuel:=9 }
noncomputable def vN:MSpec:=fun args H=>.aF (Nat.ble args.length Tryz.f207.ntmps) (dF aMO Tryz.f207 args H)
theorem aVI:bP prog 207 vN:=fA (cx:=aMO) (fn:=Tryz.f207) (bU (.nil _) (.cons FA (.nil _)) rfl rfl) (by kernel_rfl) (by kernel_rfl)
noncomputable def aNN:Cx:={ P:=prog,n:=12,tab:=[],mtab:=[],refs:=[],keeps:=[0,1,4,11] }
noncomputable def aNX:Cx:={ P:=prog,n:=59,tab:=[],mtab:=[(163,zL),(164,C4)],refs:=[],keeps:=[0,2,3,7,19,31] }
noncomputable def HA:Cx:={ P:=prog,n:=75,tab:=[(96,JB)],mtab:=[],refs:=[],keeps:=[0,1,2,4,5,6,29,38,48,59] }
noncomputable def aMX:Cx:={ P:=prog,n:=81,tab:=[],mtab:=[],refs:=[],keeps:=[0,1,2,4,5,13,15,16,20,27,36,38,39,47] }
noncomputable def aNH:Cx:={ P:=prog,n:=11,tab:=[],mtab:=[],refs:=[],keeps:=[0,1,2,4,5] }
noncomputable def aML:Cx:={ P:=prog,n:=36,tab:=[],mtab:=[],refs:=[],keeps:=[0,1,2,3,4,8,10,11,15,23] }
noncomputable def aN2:Cx:={ P:=prog,n:=15,tab:=[],mtab:=[],refs:=[],keeps:=[0,1,2,4,5,6,8,10,11] }
theorem aBS {α:Type} {o:Option α} {a:α} (h:(Tree.ofOption o).run=some a):o=some a:=by
 cases o with
 | none=>cases h
 | some b=>simpa [Tree.ofOption,Tree.run] using h
end Go.Amd

namespace Go.Amd
open Go Go.Ab Go.Proofs
def aC (a b:Int):Int:=wrap .u8 ↑(BitVec.toNat (BitVec.ofInt 8 a &&& BitVec.ofInt 8 b))
def uH (x:RowT) (c:Int):Int:=w8 (c - w8 x.2.2.1)
def B4 (x:RowT) (c:Int) (a:Int):Tree V:=
 .br (bI x) (.br (decide (uH x c<16)) (tB (j6 (wi (uH x c)))) (tB false))
  (cond (aA x==1 || aA x==2) (tB (decide (uH x c<8))) (cond (aA x==6) (.br (a==131) (tB true) (tB (a==129))) (tB (uH x c==0))))
theorem aRE:forms.map (fun f nm a b dg d lo hi os c=>(a7 HA Tryz.f203 [.agg (eW (nm,a,b,f,dg,d,lo,hi,os)),.sl (.int .u8) ([c]:List Int) [] .full]).out) =
  forms.map (fun f nm a b dg d lo hi os c=>(Tree.br (!(false==decide (255<b))) (tB false) (B4 (nm,a,b,f,dg,d,lo,hi,os) c c)).out):=by kernel_rfl
theorem aRH:forms.map (fun f nm a b dg d lo hi os c e=>(a7 HA Tryz.f203 [.agg (eW (nm,a,b,f,dg,d,lo,hi,os)),.sl (.int .u8) ([c,e]:List Int) [] .full]).out) =
  forms.map (fun f nm a b dg d lo hi os c e=>(Tree.br (!(true==decide (255<b))) (tB false) (.br (c != w8 (Int.fdiv b (2 ^ 8))) (tB false) (B4 (nm,a,b,f,dg,d,lo,hi,os) e c))).out):=by kernel_rfl
abbrev aT (l sp:List Int) (fl:Fl) (k:Int) (fs:Bool) (R:Int) (has:Bool):O:=.cells [.sl (.int .u8) l sp fl,.int .i64 k,.bool fs,.int .u8 R,.bool has] 146
def tM (b:Bool) (H:List O):Tree Res:=.leaf (.ok (.bool b) H)
def nB (f:Int):Int:=cond (f==0 || f==11 || f==12) 7 (cond (f==1 || f==2 || f==3 || f==4 || f==5 || f==6) 6 (cond (f==7 || f==8) 2 0))
def XS (x:RowT) (fs:Bool) (R:Int) (has:Bool) (H:List O):Tree Res:=
 .br (!(fs==(aA x==10))) (tM false H) (.br (aC R (nB (aA x)) != 0) (tM false H)
  (.br (x.2.1==1) (tM (aC R 8 != 0) H) (.br (x.2.1==2) (.br has (tM (aC R 8==0) H) (tM false H)) (.br (aC R 8==0) (.br (!has) (tM true H) (tM (R != 0) H)) (tM false H)))))
theorem aWF:forms.map (fun f nm a c dg b lo hi os l sp fl k fs R has=>(dF aMX Tryz.f204 [.agg (eW (nm,a,c,f,dg,b,lo,hi,os)),.ptr 0 0] [aT l sp fl k fs R has]).out) =
  forms.map (fun f nm a c dg b lo hi os l sp fl k fs R has=>(XS (nm,a,c,f,dg,b,lo,hi,os) fs R has ([aT l sp fl k fs R has]++[.cells (eW (nm,a,c,f,dg,b,lo,hi,os)) 104])).out):=by kernel_rfl
def eD (f:Int):Bool:=!(f==0 || f==1 || f==2 || f==11 || f==12)
theorem aY8:forms.map (fun f nm a c dg b lo hi os=>(a7 aNH Tryz.f205 [.agg (eW (nm,a,c,f,dg,b,lo,hi,os))]).out) =
  forms.map (fun f _ _ _ _ _ _ _ _=>(tB (eD f)).out):=by kernel_rfl
def ZO (x:RowT) (m dg rm:Int):Tree V:=
 cond (aA x==9) (tB (m != 3)) (cond (aA x==10) (.br (m==0) (tB (rm==4)) (tB false)) (cond (aA x==7 || aA x==8) (tB (m==3)) (.br (m==3) (tB (dg==x.2.2.2.2.1)) (tB false))))
theorem aYE:forms.map (fun f nm a c dg b lo hi os m d rm=>(a7 aML Tryz.f206 [.agg (eW (nm,a,c,f,dg,b,lo,hi,os)),.int .u8 m,.int .u8 d,.int .u8 rm]).out) =
  forms.map (fun f nm a c dg b lo hi os m d rm=>(ZO (nm,a,c,f,dg,b,lo,hi,os) m d rm).out):=by kernel_rfl
end Go.Amd

namespace Go.Amd
open Go Go.Ab Go.Proofs
def II (x:RowT) (c a:Int):Bool:=
 cond (bI x) (cond (decide (uH x c<16)) (j6 (wi (uH x c))) false)
  (cond (aA x==1 || aA x==2) (decide (uH x c<8)) (cond (aA x==6) (cond (a==131) true (a==129)) (uH x c==0)))
def fE (x:RowT):List Int->Bool
 | [c]=>cond (decide (255<x.2.2.1)) false (II x c c)
 | [c,e]=>cond (decide (255<x.2.2.1)) (cond (c != w8 (Int.fdiv x.2.2.1 (2 ^ 8))) false (II x e c)) false
 | _=>false
theorem aCO (x:RowT) (c a:Int):(B4 x c a).run=some (.bool (II x c a)):=by
 unfold B4 II tB;rw [a6,a6];cases bI x
 ·cases (aA x==1 || aA x==2)
  ·cases (aA x==6)
   ·rfl
   ·cases (a==131) <;> rfl
  ·rfl
 ·cases decide (uH x c<16) <;> rfl
theorem aVJ (x:RowT) (c:Int):(Tree.br (!(false==decide (255<x.2.2.1))) (tB false) (B4 x c c)).run=some (.bool (fE x [c])):=by
 rw [a6,aCO];unfold fE;cases decide (255<x.2.2.1) <;> rfl
theorem aWB (x:RowT) (c e:Int):(Tree.br (!(true==decide (255<x.2.2.1))) (tB false) (.br (c != w8 (Int.fdiv x.2.2.1 (2 ^ 8))) (tB false) (B4 x e c))).run=some (.bool (fE x [c,e])):=by
 rw [a6,a6,aCO];show _=some (V.bool (cond (decide (255<x.2.2.1)) (cond (c != w8 (Int.fdiv x.2.2.1 (2 ^ 8))) false (II x e c)) false));cases decide (255<x.2.2.1)
 ·rfl
 ·cases (c != w8 (Int.fdiv x.2.2.1 (2 ^ 8))) <;> rfl
def aKQ:Ab.Spec:=fun args=>match args with
 | [.agg [.str nm,.int .i64 rex,.int .u16 op,.int .i64 f,.int .u8 dg,.bool cn,.int .i64 lo,.int .i64 hi,.str ops],.sl (.int .u8) [c] [] .full] =>
  .aF (eO (nm,rex,op,f,dg,cn,lo,hi,ops)) (.leaf (.bool (fE (nm,rex,op,f,dg,cn,lo,hi,ops) [c])))
 | [.agg [.str nm,.int .i64 rex,.int .u16 op,.int .i64 f,.int .u8 dg,.bool cn,.int .i64 lo,.int .i64 hi,.str ops],.sl (.int .u8) [c,e] [] .full] =>
  .aF (eO (nm,rex,op,f,dg,cn,lo,hi,ops)) (.leaf (.bool (fE (nm,rex,op,f,dg,cn,lo,hi,ops) [c,e])))
 | _=>.fail
theorem aIY:aW HA:=bU (dT aBK) (.nil _) rfl rfl
theorem aXU:Sound prog 203 aKQ:=by
 intro args out h;unfold aKQ at h;split at h
 ·rename_i nm a d f dg b lo hi os c
  obtain ⟨g,h⟩:=aM h;have h:=dU h;subst h;refine cE (cx:=HA) (fn:=Tryz.f203) aIY (by kernel_rfl) (by kernel_rfl) (by kernel_rfl) ?_;have e:=congrFun (congrFun (congrFun (congrFun (congrFun (congrFun (congrFun (congrFun (congrFun (BN aRE g) nm) a) d) dg) b) lo) hi) os) c;exact (Tree.out_run _).symm.trans (e.trans ((Tree.out_run _).trans (aVJ (nm,a,d,f,dg,b,lo,hi,os) c)))
 ·rename_i nm a d f dg b lo hi os c c2
  obtain ⟨g,h⟩:=aM h;have h:=dU h;subst h;refine cE (cx:=HA) (fn:=Tryz.f203) aIY (by kernel_rfl) (by kernel_rfl) (by kernel_rfl) ?_;have e:=congrFun (congrFun (congrFun (congrFun (congrFun (congrFun (congrFun (congrFun (congrFun (congrFun (BN aRH g) nm) a) d) dg) b) lo) hi) os) c) c2;exact (Tree.out_run _).symm.trans (e.trans ((Tree.out_run _).trans (aWB (nm,a,d,f,dg,b,lo,hi,os) c c2)))
 ·cases h
def nK (x:RowT) (fs:Bool) (R:Int) (has:Bool):Bool:=
 cond (!(fs==(aA x==10))) false (cond (aC R (nB (aA x)) != 0) false
  (cond (x.2.1==1) (aC R 8 != 0) (cond (x.2.1==2) (cond has (aC R 8==0) false) (cond (aC R 8==0) (cond (!has) true (R != 0)) false))))
theorem aZI (x:RowT) (fs:Bool) (R:Int) (has:Bool) (H:List O):(XS x fs R has H).run=some (.ok (.bool (nK x fs R has)) H):=by
 unfold XS nK tM;simp only [a6];cases (!(fs==(aA x==10))) <;> cases (aC R (nB (aA x)) != 0) <;> cases (x.2.1==1) <;> cases (x.2.1==2) <;> cases has <;> cases (aC R 8==0) <;> rfl
def X5:MSpec:=fun args H=>match args,H with
 | [.agg [.str nm,.int .i64 rex,.int .u16 op,.int .i64 f,.int .u8 dg,.bool cn,.int .i64 lo,.int .i64 hi,.str ops],.ptr 0 0],[.cells [.sl (.int .u8) l sp fl,.int .i64 k,.bool fs,.int .u8 R,.bool has] 146] =>
  .aF (eO (nm,rex,op,f,dg,cn,lo,hi,ops)) (.leaf (.ok (.bool (nK (nm,rex,op,f,dg,cn,lo,hi,ops) fs R has)) ([aT l sp fl k fs R has]++[.cells (eW (nm,rex,op,f,dg,cn,lo,hi,ops)) 104])))
 | _,_=>.fail
theorem a2O:bP prog 204 X5:=by
 intro args H r h;unfold X5 at h;split at h;rotate_left
 ·cases h
 rename_i nm a d f dg b lo hi os l sp fl k fs R has;obtain ⟨c,h⟩:=aM h;have h:=dU h;subst h;refine QA (cx:=aMX) (fn:=Tryz.f204) (bU (.nil _) (.nil _) rfl rfl) (by kernel_rfl) (by kernel_rfl) (by kernel_rfl) ?_;have e:=congrFun (congrFun (congrFun (congrFun (congrFun (congrFun (congrFun (congrFun (congrFun (congrFun (congrFun (congrFun (congrFun (congrFun (congrFun (BN aWF c) nm) a) d) dg) b) lo) hi) os) l) sp) fl) k) fs) R) has
 exact (Tree.out_run _).symm.trans (e.trans ((Tree.out_run _).trans (aZI _ _ _ _ _)))
def SG:Ab.Spec:=fun args=>match args with
 | [.agg [.str nm,.int .i64 rex,.int .u16 op,.int .i64 f,.int .u8 dg,.bool cn,.int .i64 lo,.int .i64 hi,.str ops]]=>.aF (eO (nm,rex,op,f,dg,cn,lo,hi,ops)) (.leaf (.bool (eD f)))
 | _=>.fail
theorem aVK:Sound prog 205 SG:=by
 intro args out h;unfold SG at h;split at h;rotate_left
 ·cases h
 rename_i nm a d f dg b lo hi os;obtain ⟨c,h⟩:=aM h;have h:=dU h;subst h;refine cE (cx:=aNH) (fn:=Tryz.f205) (bU (.nil _) (.nil _) rfl rfl) (by kernel_rfl) (by kernel_rfl) (by kernel_rfl) ?_;have e:=congrFun (congrFun (congrFun (congrFun (congrFun (congrFun (congrFun (congrFun (BN aY8 c) nm) a) d) dg) b) lo) hi) os;exact (Tree.out_run _).symm.trans (e.trans ((Tree.out_run _).trans rfl))
def mU (x:RowT) (m dg rm:Int):Bool:=
 cond (aA x==9) (m != 3) (cond (aA x==10) (cond (m==0) (rm==4) false) (cond (aA x==7 || aA x==8) (m==3) (cond (m==3) (dg==x.2.2.2.2.1) false)))
theorem a13 (x:RowT) (m dg rm:Int):(ZO x m dg rm).run=some (.bool (mU x m dg rm)):=by
 unfold ZO mU tB;cases (aA x==9) <;> cases (aA x==10) <;> cases (aA x==7 || aA x==8) <;> cases (m==0) <;> cases (m==3) <;> rfl
def YL:Ab.Spec:=fun args=>match args with
 | [.agg [.str nm,.int .i64 rex,.int .u16 op,.int .i64 f,.int .u8 dg,.bool cn,.int .i64 lo,.int .i64 hi,.str ops],.int .u8 m,.int .u8 d,.int .u8 rm] =>
  .aF (eO (nm,rex,op,f,dg,cn,lo,hi,ops)) (.leaf (.bool (mU (nm,rex,op,f,dg,cn,lo,hi,ops) m d rm)))
 | _=>.fail
theorem a99:Sound prog 206 YL:=by
 intro args out h;unfold YL at h;split at h;rotate_left
 ·cases h
 rename_i nm a g f dg b lo hi os m d rm;obtain ⟨c,h⟩:=aM h;have h:=dU h;subst h;refine cE (cx:=aML) (fn:=Tryz.f206) (bU (.nil _) (.nil _) rfl rfl) (by kernel_rfl) (by kernel_rfl) (by kernel_rfl) ?_;have e:=congrFun (congrFun (congrFun (congrFun (congrFun (congrFun (congrFun (congrFun (congrFun (congrFun (congrFun (BN aYE c) nm) a) g) dg) b) lo) hi) os) m) d) rm;exact (Tree.out_run _).symm.trans (e.trans ((Tree.out_run _).trans (a13 _ _ _ _)))
end Go.Amd
