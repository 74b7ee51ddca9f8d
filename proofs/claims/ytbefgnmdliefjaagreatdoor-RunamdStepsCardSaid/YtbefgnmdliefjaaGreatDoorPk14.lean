/-
  The program's memory: bytes set. Conditions: none.
-/
import Derived.Test.YtbefgnmdliefjaaGreatDoorPk13
import Derived.Test.YtbefgnmdliefjaaGreatDoorPk12
import Derived.Lib.Mul64
import Derived.Test.YtbefgnmdliefjaaGreatDoorPk10
import Derived.Test.YtbefgnmdliefjaaGreatDoorProg
import Derived.KernelRfl
open Go.Proofs.Tryz (prog)
open Bool renaming and_eq_true_iff→ZA0,and_eq_true→ZA2
open Option renaming map_eq_some_iff→ZH0
open Option.some renaming injEq→ZH3
open Int renaming eq_ofNat_of_zero_le→ZI3
set_option linter.unusedVariables false
set_option linter.unusedSimpArgs false
namespace Go.Ra
open Go Go.Ab Go.Proofs
noncomputable def sO:Cx:={ P:=prog,n:=34,tab:=[],mtab:=[(30,wD),(31,L6),(32,NX)],refs:=[],keeps:=[0,1,2,6,7,8,18,19,20,21,22] }
theorem FM:aW sO:=bU (.nil _) (.cons vH (.cons aFB (.cons aH8 fun p h=>by cases h))) rfl rfl
noncomputable def WV:Cx:={ sO with fuel:=1 }
noncomputable abbrev uS:Code:=cA Tryz.f24
def dX (k x:Int) (l:List Int):Nat->List Int->List Int
 | 0,P=>P
 | n+1,P=>cP k (a8 x n) (l.getD n 0) (dX k x l n P)
theorem aFD {l:List Int} (h:l.all jT=true) (n:Nat):jT (l.getD n 0)=true:=by
 rw [List.getD_eq_getElem?_getD]
 cases a:l[n]? with
 | none=>rfl
 | some v=>exact List.all_eq_true.1 h v (List.mem_of_getElem? a)
theorem A6 {a b c d e:List Int} (x:Int) (l:List Int) (hb:l.all jT=true) (h:lens5 a b c d e=true):∀ n,lens5 (dX 1 x l n a) (dX 2 x l n b) (dX 16 x l n c) (dX 17 x l n d) (dX 32 x l n e)=true
 | 0=>h
 | n+1=>JH (A6 x l hb h n) _ (aFD hb n)
theorem JO {x:Int} {j:Nat} (a:0<=x) (b:x+j<18446744073709551616):a8 x j=x+j:=by
 have e:a8 x j=(x+(j:Int) % 18446744073709551616) % 18446744073709551616:=rfl;rw [e];omega
theorem PZ {x:Int} (b:lK x=true) {i:Nat} (hi:i<8192):usable (a8 x i)=true:=by
 have b:x=4096\/x=65536:=by simpa [lK] using b
 have c:a8 x i=x+i:=JO (by omega) (by omega)
 have a:rng64 (x+i)=true:=by
  simp only [rng64,ZA2,decide_eq_true_eq];omega
 have d:aQ (x+i)=(x+i) / 4096:=pD a;unfold usable;rw [c,a,Bool.true_and]
 have:aQ (x+i)=1\/aQ (x+i)=2\/aQ (x+i)=16\/aQ (x+i)=17:=by omega
 rcases this with h | h | h | h <;> rw [h] <;> rfl
theorem cN {α:Type} {c:Bool} {x y:Tree α} {Q:α->Prop} (h:c=true) (a:x.all Q):(Tree.br c x y).all Q:=⟨fun _=>a,fun e=>Bool.noConfusion (h.symm.trans e)⟩
theorem zH {α:Type} {c:Bool} {x y:Tree α} {Q:α->Prop} (h:c=false) (a:y.all Q):(Tree.br c x y).all Q:=⟨fun e=>Bool.noConfusion (h.symm.trans e),fun _=>a⟩
def nR (ks:List Nat) (s:St):Tree St:=.leaf (s.1,bC ks s.2.1,s.2.2)
theorem qM (ks:List Nat) (x:Tree St):(x.bind (nR ks)).run=x.run.map (fun s=>(s.1,bC ks s.2.1,s.2.2)):=by
 induction x with
 | leaf b=>rfl
 | fail=>rfl
 | br c x y a d =>
  cases c
  ·exact d
  ·exact a
def DU (x:Int) (l sp:List Int) (fl:Fl) (i:Int):T:=[(0,.ptr 0 0),(1,.int .u64 x),(19,.sl (.int .u8) l sp fl),(20,.int .i64 l.length),(21,.int .i64 i)]
def psS (x:Int) (l:List Int) (n:Nat) (a b c d e:List Int):List O:=aR (dX 1 x l n a) (dX 2 x l n b) (dX 16 x l n c) (dX 17 x l n d) (dX 32 x l n e)
def aJL (x:Int) (l sp:List Int) (fl:Fl) (i:Nat) (a b c d e:List Int):Tree St:=
 .br (decide ((i:Int)<l.length)) (.br (inside i l.length) (.br (lens5 a b c d e) (.br (usable (a8 x i)) (.leaf (.normal,DU x l sp fl (IntKind.wrap .i64 ((i:Int)+1)),
   aR (cP 1 (a8 x i) (l.getD i 0) a) (cP 2 (a8 x i) (l.getD i 0) b) (cP 16 (a8 x i) (l.getD i 0) c) (cP 17 (a8 x i) (l.getD i 0) d) (cP 32 (a8 x i) (l.getD i 0) e))) .fail) .fail) .fail)
  (.leaf (.exit 0,DU x l sp fl i,aR a b c d e))
theorem aVO (x:Int) (l sp:List Int) (fl:Fl) (i:Nat) (a b c d e:List Int) :
  ((aK sO (cin (cin (c2 (c1 (aJ 1 uS))))) (DU x l sp fl i) (aR a b c d e)).bind (rD 7 [] [0,1,19,20,21])).run=(aJL x l sp fl i a b c d e).run:=
 (show _=(aJL x l sp fl i a b c d e).out by kernel_rfl).trans (Tree.out_run _)
theorem a6D (x:Int) (l sp:List Int) (fl:Fl) (a b c d e:List Int):((aK sO (eQ 1 uS) (dZ 0 [.ptr 0 0,.int .u64 x,.sl (.int .u8) l sp fl]) (aR a b c d e)).bind (nR [0,1,2])).run =
  cond (lens5 a b c d e) (cond (wK x l.length 0) (some (.normal,[(0,.ptr 0 0),(1,.int .u64 x),(2,.sl (.int .u8) l sp fl)],aR a b c d e)) none) none:=by kernel_rfl
theorem a1B (x:Int) (l sp:List Int) (fl:Fl) (H:List O):(aK sO (c1 (c1 (aJ 1 uS))) [(0,.ptr 0 0),(1,.int .u64 x),(2,.sl (.int .u8) l sp fl)] H).run.map (fun s=>(s.1,bC [0,1,19,20,21] s.2.1,s.2.2)) =
  some (.normal,DU x l sp fl 0,H):=by kernel_rfl
theorem ad6 (H:List O):((aK sO (aJ 2 uS) [] H).bind (iY prog Tryz.f24.results.toList)).run=some (.ok (.int .i64 0) H):=by kernel_rfl
theorem aaS (x:Int) (a b c d e:List Int):(dF WV Tryz.f24 [.ptr 0 0,.int .u64 x,.val (.slice none 0 0)] (aR a b c d e)).fin=cond (lens5 a b c d e) (some (.ok (.int .i64 0) (aR a b c d e))) none:=by kernel_rfl
def akT (x:Int) (l sp:List Int) (fl:Fl) (a b c d e:List Int) (i:{ i:Nat // i<=l.length }):T × List O:=(DU x l sp fl i.1,psS x l i.1 a b c d e)
theorem aiP {x:Int} {l:List Int} (sp:List Int) (fl:Fl) {a b c d e:List Int} (q:lK x=true) (u:l.length<=8192) (j:l.all jT=true) (p:lens5 a b c d e=true) :
  dQ prog 24 [.ptr 0 0,.int .u64 x,.sl (.int .u8) l sp fl] (aR a b c d e) (.ok (.int .i64 0) (psS x l l.length a b c d e)):=by
 refine rM (c:=uS) (fn:=Tryz.f24) (by kernel_rfl) (by kernel_rfl) (by kernel_rfl) (by kernel_rfl) ?_
 have hb:wK x l.length 0=true:=by
  unfold wK;cases o:((l.length:Int)==0)
  ·have o:¬ (l.length:Int)=0:=by simpa using o
   rw [q,decide_eq_true (by omega),decide_eq_true (by omega)];rfl
  ·rfl
 refine tF (cx:=sO) rfl rfl FM 1 [0,1,2] (by kernel_rfl) (by rw [<- qM,a6D,p,hb]; rfl) ?_
 have r:aJ 1 uS = .seq (.seq (c1 (c1 (aJ 1 uS))) (.block 0 (.loop (cin (cin (c2 (c1 (aJ 1 uS)))))))) (aJ 2 uS):=by kernel_rfl
 rw [r];obtain ⟨s,g1,g2⟩:=ZH0.1 (a1B x l sp fl (aR a b c d e));refine cL (cL (dA (cx:=sO) rfl rfl FM g1 ?_));obtain ⟨ex,t,H⟩:=s;simp only [Prod.mk.injEq] at g2;obtain ⟨rfl,g2,rfl⟩:=g2;refine mA (aI.less (s:=DU x l sp fl 0) (g2 ▸ dK.bC _ _) ?_);refine xX (cx:=sO) (P:=prog) (n:=34) rfl rfl FM (akT x l sp fl a b c d e) (fun i=>l.length - i.1) [] [0,1,19,20,21] ?_ ⟨0,Nat.zero_le _⟩;rintro ⟨i,hi⟩;have m := A6 x l j p i
 refine Tree.all_run_eq (aVO x l sp fl i _ _ _ _ _) ?_;refine ⟨fun f=>?_,fun g=>?_⟩
 ·have f:i<l.length:=Int.ofNat_lt.1 (of_decide_eq_true f)
  refine cN (jI (Int.natCast_nonneg i) (Int.ofNat_lt.2 f)) (cN m (cN (PZ q (by omega)) ⟨⟨i+1,f⟩,by show l.length - (i+1)<l.length - i; omega,?_,rfl⟩));rw [wrap_i64 (by omega) (by omega)];exact dK.refl _
 ·have g:¬ i<l.length:=fun h=>of_decide_eq_false g (Int.ofNat_lt.2 h)
  have k : i=l.length:=by omega
  subst k;intro t _;show aI _ _ _ _ _ _;refine aI.less (s:=[]) (fun _=>.inr rfl) ?_;obtain ⟨s,g1,g2⟩:=bD (ad6 (psS x l l.length a b c d e));refine dA (cx:=sO) rfl rfl FM g1 ?_;exact xU g2
def WG:MSpec:=fun args H=>match args with
 | [.ptr 0 0,.int .u64 x,.sl (.int .u8) l _ _]=>lT (fun a b c d e=>.aF (lK x&&(decide (l.length<=8192)&&l.all jT)) (.leaf (.ok (.int .i64 0) (aR (dX 1 x l l.length a) (dX 2 x l l.length b) (dX 16 x l l.length c) (dX 17 x l l.length d) (dX 32 x l l.length e))))) H
 | [.ptr 0 0,.int .u64 x,.val (.slice none 0 0)]=>lT (fun a b c d e=>.leaf (.ok (.int .i64 0) (aR a b c d e))) H
 | _=>.fail
theorem a47:aW WV:=FM
theorem a0V:bP prog 24 WG:=by
 intro args H out h;unfold WG at h;split at h
 ·rename_i x l sp fl
  obtain ⟨a,b,c,d,e,rfl,hl,h⟩:=m6 h;obtain ⟨g,h⟩:=aM h;cases h;obtain ⟨i,f⟩:=ZA0.1 g;obtain ⟨f,h8⟩:=ZA0.1 f;exact aiP sp fl i (of_decide_eq_true f) h8 hl
 ·rename_i x
  obtain ⟨a,b,c,d,e,rfl,hl,h⟩:=m6 h;cases h;refine fA (cx:=WV) (fn:=Tryz.f24) a47 (by kernel_rfl) (by kernel_rfl) _ _ _ ?_;refine nC (by kernel_rfl) ?_;rw [<- Tree.bJ,aaS,hl,cond_true]
 ·cases h
end Go.Ra

namespace Go.Ra
open Go Go.Ab Go.Proofs
def vI (y s:Int):Int:=wu (y*2 ^ Min.min (Int.toNat s) 64)
def O6 (h l s:Int):Int:=wu ((BitVec.toNat (BitVec.ofInt 64 (vI h s) ||| BitVec.ofInt 64 (Int.fdiv l (2 ^ Min.min (Int.toNat (wu (64 - s))) 64))):Nat):Int)
def loI (x:Int):Int:=wu ((BitVec.toNat (BitVec.ofInt 64 x &&& BitVec.ofInt 64 4294967295):Nat):Int)
def DY (x:Int):Int:=Int.fdiv x (2 ^ 32)
def qI (a b:Int):Int:=wu (Int.tdiv a b)
def rI (a b:Int):Int:=wu (a - wu (qI a b*b))
def mI (a b q v:Int):Int:=wu (wu (wu (a*4294967296)+b) - wu (q*v))
def aOB (h l y s:Int):Tree St:=
 .br (decide (0<=s)) (.br (decide (0<=s)) (.br (decide (0<=wu (64 - s))) (.br (decide (0<=s)) (.br (!decide (DY (vI y s)=0)) (.leaf (.normal,[(0,.int .u64 h),(1,.int .u64 l),(2,.int .u64 (vI y s)),(8,.int .u64 s),(9,.int .u64 (DY (vI y s))),(10,.int .u64 (loI (vI y s))),
  (11,.int .u64 (O6 h l s)),(12,.int .u64 (vI l s)),(13,.int .u64 (DY (vI l s))),(14,.int .u64 (loI (vI l s))),(15,.int .u64 (qI (O6 h l s) (DY (vI y s)))),(16,.int .u64 (rI (O6 h l s) (DY (vI y s))))],[])) .fail) .fail) .fail) .fail) .fail
theorem a7W (h l y s:Int):(aK iN (eQ 8 (aJ 4 iV)) [(0,.int .u64 h),(1,.int .u64 l),(2,.int .u64 y),(8,.int .u64 s)] []).run=(aOB h l y s).run:=a3F h l y s
def aPD (q v v1 v0 u2 u1 u0 s:Int):Tree St:=
 .br (!decide (v1=0)) (.leaf (.normal,[(2,.int .u64 v),(8,.int .u64 s),(9,.int .u64 v1),(10,.int .u64 v0),(11,.int .u64 u2),(13,.int .u64 u1),(14,.int .u64 u0),(15,.int .u64 q),(16,.int .u64 (rI (mI u2 u1 q v) v1)),(17,.int .u64 (mI u2 u1 q v)),(18,.int .u64 (qI (mI u2 u1 q v) v1))],[])) .fail
theorem a6V (q v v1 v0 u2 u1 u0 s:Int):(aK iN (eQ 2 (aJ 14 iV)) [(2,.int .u64 v),(8,.int .u64 s),(9,.int .u64 v1),(10,.int .u64 v0),(11,.int .u64 u2),(13,.int .u64 u1),(14,.int .u64 u0),(15,.int .u64 q)] []).run=(aPD q v v1 v0 u2 u1 u0 s).run:=a3S q v v1 v0 u2 u1 u0 s
def aP1 (c b v a u0 s:Int):Tree St:=
 .br (decide (0<=s)) (.leaf (.ret,[(2,.int .u64 v),(6,.int .u64 (wu (wu (c*4294967296)+b))),(7,.int .u64 (Int.fdiv (mI a u0 b v) (2 ^ Min.min (Int.toNat s) 64))),(8,.int .u64 s),(14,.int .u64 u0),(15,.int .u64 c),(17,.int .u64 a),(18,.int .u64 b)],[])) .fail
theorem a92 (c b v a u0 s:Int):(aK iN (aJ 18 iV) [(2,.int .u64 v),(8,.int .u64 s),(14,.int .u64 u0),(15,.int .u64 c),(17,.int .u64 a),(18,.int .u64 b)] []).run=(aP1 c b v a u0 s).run:=a30 c b v a u0 s
theorem aJP (x:Nat):DY (x:Int)=((x / 4294967296:Nat):Int):=A8 x 32
theorem aG6 (x:Nat):loI (x:Int)=((x % 4294967296:Nat):Int):=a8H x
theorem VH {x v:Nat} (h:x<18446744073709551616):qI (x:Int) (v:Int)=((x / v:Nat):Int):=by
 unfold qI;rw [aE8];exact fQ (by have:=Nat.div_le_self x v; omega)
theorem aLC {x v:Nat} (h:x<18446744073709551616):rI (x:Int) (v:Int)=((x % v:Nat):Int):=by
 unfold rI;rw [VH h];exact aXG h
theorem aPB {v:Nat}:v / 4294967296*4294967296+v % 4294967296=v:=by omega
theorem aO8 {u2 a:Nat}:u2*18446744073709551616+a=(u2*4294967296+a / 4294967296)*4294967296+a % 4294967296:=by omega
theorem agE {u2 a v:Nat} (h:u2*18446744073709551616+a<v*18446744073709551616):u2*4294967296+a / 4294967296<v*4294967296:=by
 rw [aO8] at h;refine Nat.lt_of_not_le fun g=>Nat.not_le.2 h ?_;have g:=Nat.mul_le_mul_right 4294967296 g;rw [Nat.mul_assoc v 4294967296 4294967296] at g;exact Nat.le_trans g (Nat.le_add_right _ _)
theorem afM {a u0 v:Nat} (h:a<v) (b:u0<4294967296):a*4294967296+u0<v*4294967296:=by omega
theorem ak6 {b a:Nat} (h:b*4294967296+a<18446744073709551616):wu (wu ((b:Int)*4294967296)+(a:Int))=((b*4294967296+a:Nat):Int):=by
 rw [fS,fS];omega
set_option maxRecDepth 8000 in
set_option maxHeartbeats 1000000 in
theorem a3L {v c u0 d s:Nat} (p:9223372036854775808<=v) (u:v<18446744073709551616) (g:u0<4294967296) (m:c<v) (w:s<=64) (o:d*4294967296+(c*4294967296+u0) / v<18446744073709551616) :
  aI prog 135 (aJ 2 (aJ 14 iV)) (fun e t H=>(e = .ret\/e = .normal)/\hD prog Tryz.f151.results.toList H t=some (.tup [.int .u64 ((d*4294967296+(c*4294967296+u0) / v:Nat):Int),.int .u64 (((c*4294967296+u0) % v / 2 ^ s:Nat):Int)]))
   [(2,.int .u64 v),(8,.int .u64 (s:Nat)),(9,.int .u64 ((v / 4294967296:Nat):Int)),(10,.int .u64 ((v % 4294967296:Nat):Int)),(14,.int .u64 (u0:Nat)),(15,.int .u64 (d:Nat)),(16,.int .u64 ((c % (v / 4294967296):Nat):Int)),(17,.int .u64 (c:Nat)),(18,.int .u64 ((c / (v / 4294967296):Nat):Int))] []:=by
 have f:aW iN:=bU (dT aKI) (.nil _) rfl rfl;have k:v / 4294967296*4294967296+v % 4294967296=v:=aPB;have j:decide ((0:Int)<=(s:Int))=true:=decide_eq_true (by omega)
 have h:aJ 2 (aJ 14 iV) = .seq (.block 2 (.loop (cin (cin (c1 (aJ 17 iV)))))) (aJ 18 iV):=by kernel_rfl
 rw [h];refine cL (mA ?_)
 refine aJ3 (cx:=iN) (P:=prog) (n:=135) rfl rfl f (st:=fun q r=>[(2,.int .u64 v),(8,.int .u64 (s:Nat)),(9,.int .u64 ((v / 4294967296:Nat):Int)),(10,.int .u64 ((v % 4294967296:Nat):Int)),(14,.int .u64 (u0:Nat)),(15,.int .u64 (d:Nat)),(16,.int .u64 r),(17,.int .u64 (c:Nat)),(18,.int .u64 q)])
  (ex:=2) (a:=113) (b:=120) (v1:=v / 4294967296) (v0:=v % 4294967296) (u2:=c) (u1:=u0) (by omega) (by omega) (by omega) g (by rw [k]; exact afM m g)
  (fun q r x=>Fits.tle ⟨rfl,rfl,rfl,rfl,rfl,rfl,rfl,rfl,rfl,trivial⟩) (fun q r=>abC _ _ _ _ _ _ _ q r) ?_
 intro r x;rw [k];show aI _ _ _ _ _ _
 refine aI.less (s:=[(2,.int .u64 v),(8,.int .u64 (s:Nat)),(14,.int .u64 (u0:Nat)),(15,.int .u64 (d:Nat)),(17,.int .u64 (c:Nat)),(18,.int .u64 (((c*4294967296+u0) / v:Nat):Int))])
  (Fits.tle ⟨rfl,rfl,rfl,rfl,rfl,rfl,trivial⟩) ?_
 have l:(aK iN (aJ 18 iV) [(2,.int .u64 v),(8,.int .u64 (s:Nat)),(14,.int .u64 (u0:Nat)),(15,.int .u64 (d:Nat)),(17,.int .u64 (c:Nat)),(18,.int .u64 (((c*4294967296+u0) / v:Nat):Int))] []).run=_:=(a92 _ _ _ _ _ _).trans (show _=some _ by unfold aP1; rw [j]; rfl);refine dA (cx:=iN) rfl rfl f l ?_;refine ⟨.inl rfl,?_⟩;have i:mI (c:Nat) (u0:Nat) (((c*4294967296+u0) / v:Nat):Int) (v:Nat)=(((c*4294967296+u0) % v:Nat):Int):=aDL (by omega) (by omega)
 refine Eq.trans (b:=some (V.tup [.int .u64 (wu (wu ((d:Nat)*4294967296)+(((c*4294967296+u0) / v:Nat):Int))),.int .u64 (Int.fdiv (mI (c:Nat) (u0:Nat) (((c*4294967296+u0) / v:Nat):Int) (v:Nat)) (2 ^ Min.min (Int.toNat (s:Nat)) 64))])) (by kernel_rfl) ?_;rw [i,RN (by omega),A8];rw [ak6 o]
set_option maxRecDepth 8000 in
set_option maxHeartbeats 1000000 in
theorem a0Z {h l y:Nat} (t:h<y) (w:y<2 ^ 64) (B:l<18446744073709551616):jS prog 151 [.int .u64 h,.int .u64 l,.int .u64 y] (.tup [.int .u64 (nM h l y),.int .u64 (pF h l y)]):=by
 have f:aW iN:=bU (dT aKI) (.nil _) rfl rfl;refine vG (c:=iV) (fn:=Tryz.f151) (by kernel_rfl) (by kernel_rfl) (by kernel_rfl) (by kernel_rfl) ?_;rw [a6B,a6W];refine yF (cx:=iN) rfl rfl f 4 (by kernel_rfl) (aZ5 h l y) ?_;refine zH (by rw [beq_eq_false_iff_ne]; omega) (zH (decide_eq_false (by omega)) ⟨fun k=>?_,fun k=>?_⟩)
 ·have k:(h:Int)=0:=eq_of_beq k
  have k:h=0:=by omega
  subst k
  have C:(!decide ((y:Int)=0))=true:=by rw [decide_eq_false (by omega)]; rfl
  refine cN C (cN C ⟨.inl rfl,?_⟩);refine Eq.trans (b:=some (V.tup [.int .u64 (wu (Int.tdiv (l:Int) (y:Int))),.int .u64 (Int.tmod (l:Int) (y:Int))])) (by kernel_rfl) ?_
  have E:wu (Int.tdiv (l:Int) (y:Int))=(((0*18446744073709551616+l) / y:Nat):Int):=by
   rw [aE8,Nat.zero_mul,Nat.zero_add];exact fQ (by have:=Nat.div_le_self l y; omega)
  have F:Int.tmod (l:Int) (y:Int)=(((0*18446744073709551616+l) % y:Nat):Int):=by
   rw [Int.tmod_eq_emod_of_nonneg (by omega),Nat.zero_mul,Nat.zero_add];rfl
  rw [E,F]
 refine cN (by simp only [rng64,ZA2,decide_eq_true_eq]; omega) ?_;show aI _ _ _ _ _ _
 have m:y ≠ 0:=by omega
 obtain ⟨N,b2,b3⟩:=aKE w m;have es:=ahN w;refine aI.less (s:=[(0,.int .u64 h),(1,.int .u64 l),(2,.int .u64 y),(8,.int .u64 (cK y:Nat))]) (Fits.tle ⟨rfl,rfl,rfl,congrArg (V.int .u64) es,trivial⟩) ?_;refine yF (cx:=iN) rfl rfl f 8 (by kernel_rfl) (a7W h l y (cK y:Nat)) ?_
 have A:vI (y:Int) (cK y:Nat)=((y*2 ^ cK y:Nat):Int):=by
  refine (RG (x:=y) (s:=cK y) (by omega)).trans ?_;rw [Nat.mod_eq_of_lt b3]
 have el:vI (l:Int) (cK y:Nat)=((G2 l (cK y):Nat):Int):=RG (x:=l) (s:=cK y) (by omega);obtain ⟨o,hu2⟩:=a6Q w m t B;have o:O6 (h:Int) (l:Int) (cK y:Nat)=((AB h l (cK y):Nat):Int):=o;have D:=afQ (h:=h) (l:=l) (s:=cK y) (by omega);have K:G2 l (cK y)<18446744073709551616:=Nat.mod_lt _ (by decide)
 have j:wu (64 - ((cK y:Nat):Int))=((64 - cK y:Nat):Int):=by
  rw [show (64:Int) - ((cK y:Nat):Int)=((64 - cK y:Nat):Int) by omega];exact fQ (by omega)
 have g:(h*18446744073709551616+l)*2 ^ cK y<y*2 ^ cK y*18446744073709551616:=by
  have J:h*18446744073709551616+l<y*18446744073709551616:=by
   have:(h+1)*18446744073709551616<=y*18446744073709551616:=Nat.mul_le_mul_right _ t;omega
  have:=Nat.mul_lt_mul_of_pos_right J (Nat.two_pow_pos (cK y));rw [Nat.mul_right_comm y] at this;exact this
 have e:=a3H (x:=h*18446744073709551616+l) (y:=y) (cK y) (by omega);rw [<- D] at g e;unfold aOB;rw [A,el,o,aJP,aJP,aG6,aG6,VH hu2,aLC hu2];have i:decide ((0:Int)<=((cK y:Nat):Int))=true:=decide_eq_true (by omega);refine cN i (cN i (cN (by rw [j]; exact decide_eq_true (by omega)) (cN i (cN (by rw [decide_eq_false (by omega)]; rfl) ?_))));show aI _ _ _ _ _ _;have p:=aiT t B;rw [<- e.1] at p ⊢;rw [<- e.2]
 clear e D es A el o j
 generalize O:cK y=s at *
 generalize AB h l s=u2 at *
 generalize G2 l s=d at *
 generalize y*2 ^ s=v at *
 have H:aJ 8 (aJ 4 iV) = .seq (.block 0 (.loop (cin (cin (c1 (aJ 13 iV)))))) (aJ 14 iV):=by kernel_rfl
 rw [H];have z:v / 4294967296*4294967296+v % 4294967296=v:=aPB;have G:u2*18446744073709551616+d=(u2*4294967296+d / 4294967296)*4294967296+d % 4294967296:=aO8;have u:u2*4294967296+d / 4294967296<v*4294967296:=agE g;rw [G] at p ⊢;obtain ⟨M,j2⟩:=a4W (v:=v) (x:=u2*4294967296+d / 4294967296) (u0:=d % 4294967296) (by omega);rw [<- M] at p ⊢;rw [<- j2];refine cL (mA ?_)
 refine aI.less (s:=[(2,.int .u64 v),(8,.int .u64 (s:Nat)),(9,.int .u64 ((v / 4294967296:Nat):Int)),(10,.int .u64 ((v % 4294967296:Nat):Int)),(11,.int .u64 (u2:Nat)),(13,.int .u64 ((d / 4294967296:Nat):Int)),(14,.int .u64 ((d % 4294967296:Nat):Int)),(15,.int .u64 ((u2 / (v / 4294967296):Nat):Int)),(16,.int .u64 ((u2 % (v / 4294967296):Nat):Int))])
  (Fits.tle ⟨rfl,rfl,rfl,rfl,rfl,rfl,rfl,rfl,rfl,trivial⟩) ?_
 refine aJ3 (cx:=iN) (P:=prog) (n:=135) rfl rfl f (st:=fun q r=>[(2,.int .u64 v),(8,.int .u64 (s:Nat)),(9,.int .u64 ((v / 4294967296:Nat):Int)),(10,.int .u64 ((v % 4294967296:Nat):Int)),(11,.int .u64 (u2:Nat)),(13,.int .u64 ((d / 4294967296:Nat):Int)),(14,.int .u64 ((d % 4294967296:Nat):Int)),(15,.int .u64 q),(16,.int .u64 r)])
  (ex:=0) (a:=78) (b:=85) (v1:=v / 4294967296) (v0:=v % 4294967296) (u2:=u2) (u1:=d / 4294967296) (by omega) (by omega) (by omega) (by omega) (by rw [z]; exact u)
  (fun q r x=>Fits.tle ⟨rfl,rfl,rfl,rfl,rfl,rfl,rfl,rfl,rfl,trivial⟩) (fun q r=>ad2 _ _ _ _ _ _ _ q r) ?_
 intro r x;rw [z];show aI _ _ _ _ _ _
 refine aI.less (s:=[(2,.int .u64 v),(8,.int .u64 (s:Nat)),(9,.int .u64 ((v / 4294967296:Nat):Int)),(10,.int .u64 ((v % 4294967296:Nat):Int)),(11,.int .u64 (u2:Nat)),(13,.int .u64 ((d / 4294967296:Nat):Int)),(14,.int .u64 ((d % 4294967296:Nat):Int)),(15,.int .u64 (((u2*4294967296+d / 4294967296) / v:Nat):Int))])
  (Fits.tle ⟨rfl,rfl,rfl,rfl,rfl,rfl,rfl,rfl,trivial⟩) ?_
 refine yF (cx:=iN) rfl rfl f 2 (by kernel_rfl) (a6V _ _ _ _ _ _ _ _) ?_;have I:mI (u2:Nat) ((d / 4294967296:Nat):Int) (((u2*4294967296+d / 4294967296) / v:Nat):Int) (v:Nat)=(((u2*4294967296+d / 4294967296) % v:Nat):Int):=aDL (by omega) (by omega);unfold aPD;have L:=Nat.mod_lt (u2*4294967296+d / 4294967296) (show 0<v by omega);rw [I,VH (by omega),aLC (by omega)];refine cN (by rw [decide_eq_false (by omega)]; rfl) ?_
 show aI _ _ _ _ _ _
 refine aI.less (s:=[(2,.int .u64 v),(8,.int .u64 (s:Nat)),(9,.int .u64 ((v / 4294967296:Nat):Int)),(10,.int .u64 ((v % 4294967296:Nat):Int)),(14,.int .u64 ((d % 4294967296:Nat):Int)),(15,.int .u64 (((u2*4294967296+d / 4294967296) / v:Nat):Int)),(16,.int .u64 (((u2*4294967296+d / 4294967296) % v % (v / 4294967296):Nat):Int)),(17,.int .u64 (((u2*4294967296+d / 4294967296) % v:Nat):Int)),(18,.int .u64 (((u2*4294967296+d / 4294967296) % v / (v / 4294967296):Nat):Int))])
  (Fits.tle ⟨rfl,rfl,rfl,rfl,rfl,rfl,rfl,rfl,rfl,trivial⟩) ?_
 exact a3L b2 b3 (by omega) L (by omega) p
def VV:Ab.Spec:=fun args=>match args with
 | [.int .u64 h,.int .u64 l,.int .u64 y]=>.aF (rng64 h&&(rng64 l&&(rng64 y&&decide (h<y)))) (.leaf (.tup [.int .u64 (nM h l y),.int .u64 (pF h l y)]))
 | _=>.fail
theorem a02:Sound prog 151 VV:=by
 intro args out g;unfold VV at g;split at g;rotate_left
 ·cases g
 rename_i h l y;obtain ⟨a,g⟩:=aM g;cases g;simp only [rng64,ZA2,decide_eq_true_eq] at a;obtain ⟨⟨b,a2⟩,⟨b1,b2⟩,⟨c1,c2⟩,d⟩:=a;obtain ⟨h,rfl⟩:=ZI3 b;obtain ⟨l,rfl⟩:=ZI3 b1;obtain ⟨y,rfl⟩:=ZI3 c1;exact a0Z (by omega) (by omega) (by omega)
end Go.Ra

namespace Go.Ra
open Go Go.Ab Go.Proofs
def HK (x c:Int):Int:=IntKind.wrap .u64 (x*2 ^ (min c.toNat 64))
def cV (x c:Int):Int:=Int.fdiv x (2 ^ (min c.toNat 64))
def bG (a b:Int):Int:=IntKind.wrap .u64 (((BitVec.ofInt 64 a &&& BitVec.ofInt 64 b).toNat:Nat):Int)
noncomputable def aNI:Cx:={ P:=prog,n:=51,tab:=[],mtab:=[],refs:=[],keeps:=[0,1,4,5,6,7,8,9,10,11,12,13] }
def vA (x:Int):Int:=Int.fdiv x (2 ^ 32)
def AJ (x:Int):Int:=bG x 4294967295
def O4 (a b:Int):Int:=wu (wu (vA a*AJ b)+vA (wu (AJ a*AJ b)))
def Y3 (a b:Int):Int:=wu (AJ (O4 a b)+wu (AJ a*vA b))
def mulC (a b:Int):Int:=wu (wu (wu (vA a*vA b)+vA (O4 a b))+vA (Y3 a b))
theorem mul_eq (a b:Int):(a7 aNI Tryz.f150 [.int .u64 a,.int .u64 b]).fin=some (.tup [.int .u64 (mulC a b),.int .u64 (wu (a*b))]):=by kernel_rfl
theorem JL (x:Nat):AJ (x:Int)=((x % 4294967296:Nat):Int):=by
 unfold AJ bG
 have a:(BitVec.ofInt 64 (x:Int)).toNat=x % 18446744073709551616:=by
  rw [BitVec.toNat_ofInt];omega
 rw [BitVec.toNat_and,a,show (BitVec.ofInt 64 4294967295).toNat=2 ^ 32 - 1 from by decide,Nat.and_two_pow_sub_one_eq_mod];show ((x % 18446744073709551616 % 2 ^ 32:Nat):Int) % 18446744073709551616=_;omega
theorem yJ (x:Nat):vA (x:Int)=((x / 4294967296:Nat):Int):=by
 unfold vA;rw [Int.fdiv_eq_ediv_of_nonneg _ (by decide)];rfl
theorem a8C {a b:Int} (d:rng64 a=true) (hb:rng64 b=true):mulC a b=a*b / 18446744073709551616:=by
 simp only [rng64,ZA2,decide_eq_true_eq] at d hb;obtain ⟨x,rfl⟩:=ZI3 d.1;obtain ⟨y,rfl⟩:=ZI3 hb.1;obtain ⟨f,b2,b3,e⟩:=Lib.mul64_hi x y (by omega) (by omega);have c1:=Lib.half_mul_le (a:=x / 4294967296) (b:=y / 4294967296) (by omega) (by omega);have c2:=Lib.half_mul_le (a:=x / 4294967296) (b:=y % 4294967296) (by omega) (by omega);have h:=Lib.half_mul_le (a:=x % 4294967296) (b:=y / 4294967296) (by omega) (by omega)
 have c:O4 x y=((x / 4294967296*(y % 4294967296)+x % 4294967296*(y % 4294967296) / 4294967296:Nat):Int):=by
  unfold O4;rw [JL,JL,yJ,<- Int.natCast_mul,<- Int.natCast_mul,fQ (by omega),fQ f,yJ,<- Int.natCast_add,fQ b2]
 have g:Y3 x y=(((x / 4294967296*(y % 4294967296)+x % 4294967296*(y % 4294967296) / 4294967296) % 4294967296+x % 4294967296*(y / 4294967296):Nat):Int):=by
  unfold Y3;rw [c,JL,JL,yJ,<- Int.natCast_mul,fQ (by omega),<- Int.natCast_add,fQ b3]
 unfold mulC;rw [c,g,yJ,yJ,yJ,yJ,<- Int.natCast_mul,fQ (by omega),<- Int.natCast_add,fQ (by omega),<- Int.natCast_add,fQ,e,Int.natCast_ediv,Int.natCast_mul]
 ·rfl
 ·rw [e]
  have:x*y / 18446744073709551616<18446744073709551616:=by
   rw [Nat.div_lt_iff_lt_mul (by decide)];exact Nat.mul_lt_mul'' (by omega) (by omega)
  omega
def qX (a b:Int):Int:=a*b / 18446744073709551616
def ZK:Ab.Spec:=fun args=>match args with
 | [.int .u64 a,.int .u64 b]=>.aF (rng64 a&&rng64 b) (.leaf (.tup [.int .u64 (qX a b),.int .u64 (wu (a*b))]))
 | _=>.fail
theorem a5K:Sound prog 150 ZK:=by
 intro args out h;unfold ZK at h;split at h;rotate_left
 ·cases h
 rename_i a b;obtain ⟨d,h⟩:=aM h;cases h;obtain ⟨c,g2⟩:=ZA0.1 d;refine cE (cx:=aNI) (fn:=Tryz.f150) (dO rfl rfl) (by kernel_rfl) (by kernel_rfl) (by kernel_rfl) ?_;rw [<- Tree.bJ,mul_eq,a8C c g2];rfl
end Go.Ra

namespace Go.Amd
open Go Go.Ab Go.Proofs
theorem dO {cx:Cx} (a:cx.tab=[]) (b:cx.mtab=[]) (c:cx.rtab=[]:=by rfl) (d:∀ p ∈ cx.globs,p ∈ rN cx.P:=by intro p h; cases h):aW cx:=by
 refine ⟨?_,?_,?_,d⟩
 ·rw [a]; exact .nil _
 ·rw [b]; exact .nil _
 ·rw [c]; exact .nil _
theorem bU {cx:Cx} {t:List (Nat × Ab.Spec)} {m:List (Nat × MSpec)} (f:lA cx.P t) (e:oI cx.P m) (a:cx.tab=t) (b:cx.mtab=m) (c:cx.rtab=[]:=by rfl) (d:∀ p ∈ cx.globs,p ∈ rN cx.P:=by intro p h; cases h):aW cx:=by
 refine ⟨?_,?_,?_,d⟩
 ·rw [a]; exact f
 ·rw [b]; exact e
 ·rw [c]; exact .nil _
theorem UC {cx:Cx} {t:List (Nat × Ab.Spec)} {m:List (Nat × MSpec)} {r:List (Nat × RSpec)} (g:lA cx.P t) (e:oI cx.P m) (f:rU cx.P r) (a:cx.tab=t) (b:cx.mtab=m) (c:cx.rtab=r) (d:∀ p ∈ cx.globs,p ∈ rN cx.P:=by intro p h; cases h):aW cx:=by
 refine ⟨?_,?_,?_,d⟩
 ·rw [a]; exact g
 ·rw [b]; exact e
 ·rw [c]; exact f
abbrev bM:EC:=.prod [.str,.int .i64,.int .u16,.int .i64,.int .u8,.bool,.int .i64,.int .i64,.str]
abbrev RowT:=List UInt8 × Int × Int × Int × Int × Bool × Int × Int × List UInt8
noncomputable def aNF:Cx:={ P:=prog,n:=32,tab:=[],mtab:=[],refs:=[],keeps:=[0,1,2,4,7,8,9,10,11],fuel:=10 }
noncomputable def NP:MSpec:=fun args H=>.aF (Nat.ble args.length Tryz.f199.ntmps) (dF aNF Tryz.f199 args H)
theorem RQ:bP prog 199 NP:=fA (cx:=aNF) (fn:=Tryz.f199) (dO rfl rfl) (by kernel_rfl) (by kernel_rfl)
noncomputable def sJ:Cx:={ P:=prog,n:=62,tab:=[],mtab:=[(199,NP)],refs:=[],keeps:=[0,2,3,4] }
noncomputable def aN7:Cx:={ P:=prog,n:=75,tab:=[],mtab:=[(199,NP)],refs:=[],keeps:=[0] }
noncomputable def aN8:Cx:={ P:=prog,n:=43,tab:=[],mtab:=[(199,NP)],refs:=[],keeps:=[0] }
def LY:List RowT:=[
 ([109,111,118,46,114,114],1,137,7,0,false,0,0,[65,66]),
 ([109,111,118,46,114,105],1,184,2,0,false,-9223372036854775808,9223372036854775807,[65,105]),
 ([109,111,118,46,114,115],1,199,4,0,false,-2147483648,2147483647,[65,105]),
 ([109,111,118,46,114,109],1,139,9,0,false,-2147483648,2147483647,[65,109]),
 ([109,111,118,108,46,114,109],0,139,9,0,false,-2147483648,2147483647,[65,109]),
 ([109,111,118,115,108,46,114,109],1,99,9,0,false,-2147483648,2147483647,[65,109]),
 ([109,111,118,122,98,46,114,109],1,4022,9,0,false,-2147483648,2147483647,[65,109]),
 ([108,101,97],1,141,9,0,false,-2147483648,2147483647,[65,109]),
 ([109,111,118,46,109,114],1,137,9,0,false,-2147483648,2147483647,[65,109]),
 ([109,111,118,108,46,109,114],0,137,9,0,false,-2147483648,2147483647,[65,109]),
 ([109,111,118,98,46,109,114],2,136,9,0,false,-2147483648,2147483647,[65,109]),
 ([109,111,118,46,102,115],1,139,10,0,false,-2147483648,2147483647,[65,105])]
@[irreducible] def aD:List RowT:=[
 ([109,111,118,46,114,114],1,137,7,0,false,0,0,[65,66]),
 ([109,111,118,46,114,105],1,184,2,0,false,-9223372036854775808,9223372036854775807,[65,105]),
 ([109,111,118,46,114,115],1,199,4,0,false,-2147483648,2147483647,[65,105]),
 ([109,111,118,46,114,109],1,139,9,0,false,-2147483648,2147483647,[65,109]),
 ([109,111,118,108,46,114,109],0,139,9,0,false,-2147483648,2147483647,[65,109]),
 ([109,111,118,115,108,46,114,109],1,99,9,0,false,-2147483648,2147483647,[65,109]),
 ([109,111,118,122,98,46,114,109],1,4022,9,0,false,-2147483648,2147483647,[65,109]),
 ([108,101,97],1,141,9,0,false,-2147483648,2147483647,[65,109]),
 ([109,111,118,46,109,114],1,137,9,0,false,-2147483648,2147483647,[65,109]),
 ([109,111,118,108,46,109,114],0,137,9,0,false,-2147483648,2147483647,[65,109]),
 ([109,111,118,98,46,109,114],2,136,9,0,false,-2147483648,2147483647,[65,109]),
 ([109,111,118,46,102,115],1,139,10,0,false,-2147483648,2147483647,[65,105]),
 ([97,100,100,46,114,114],1,1,7,0,false,0,0,[65,66]),
 ([111,114,46,114,114],1,9,7,0,false,0,0,[65,66]),
 ([97,110,100,46,114,114],1,33,7,0,false,0,0,[65,66]),
 ([115,117,98,46,114,114],1,41,7,0,false,0,0,[65,66]),
 ([120,111,114,46,114,114],1,49,7,0,false,0,0,[65,66]),
 ([99,109,112,46,114,114],1,57,7,0,false,0,0,[65,66]),
 ([97,100,100,46,114,109],1,3,9,0,false,-2147483648,2147483647,[65,109]),
 ([111,114,46,114,109],1,11,9,0,false,-2147483648,2147483647,[65,109]),
 ([97,110,100,46,114,109],1,35,9,0,false,-2147483648,2147483647,[65,109]),
 ([115,117,98,46,114,109],1,43,9,0,false,-2147483648,2147483647,[65,109]),
 ([120,111,114,46,114,109],1,51,9,0,false,-2147483648,2147483647,[65,109]),
 ([99,109,112,46,114,109],1,59,9,0,false,-2147483648,2147483647,[65,109]),
 ([97,100,100,46,114,105],1,131,6,0,false,-2147483648,2147483647,[65,105]),
 ([111,114,46,114,105],1,131,6,1,false,-2147483648,2147483647,[65,105]),
 ([97,110,100,46,114,105],1,131,6,4,false,-2147483648,2147483647,[65,105]),
 ([115,117,98,46,114,105],1,131,6,5,false,-2147483648,2147483647,[65,105]),
 ([120,111,114,46,114,105],1,131,6,6,false,-2147483648,2147483647,[65,105]),
 ([99,109,112,46,114,105],1,131,6,7,false,-2147483648,2147483647,[65,105]),
 ([116,101,115,116,46,114,114],1,133,7,0,false,0,0,[65,66]),
 ([105,109,117,108,46,114,114],1,4015,8,0,false,0,0,[65,66]),
 ([110,111,116],1,247,3,2,false,0,0,[65]),
 ([110,101,103],1,247,3,3,false,0,0,[65]),
 ([109,117,108],1,247,3,4,false,0,0,[65]),
 ([100,105,118],1,247,3,6,false,0,0,[65]),
 ([105,100,105,118],1,247,3,7,false,0,0,[65]),
 ([99,113,111],1,153,0,0,false,0,0,[]),
 ([115,104,108,46,114,105],1,193,5,4,false,0,63,[65,105]),
 ([115,104,114,46,114,105],1,193,5,5,false,0,63,[65,105]),
 ([115,97,114,46,114,105],1,193,5,7,false,0,63,[65,105]),
 ([115,104,108,46,114,99],1,211,3,4,false,0,0,[65]),
 ([115,104,114,46,114,99],1,211,3,5,false,0,0,[65]),
 ([115,97,114,46,114,99],1,211,3,7,false,0,0,[65]),
 ([99,109,111,118],1,3904,8,0,true,0,0,[65,66,99]),
 ([112,117,115,104],0,80,1,0,false,0,0,[65]),
 ([112,111,112],0,88,1,0,false,0,0,[65]),
 ([99,97,108,108],0,232,11,0,false,-2147483648,2147483647,[106]),
 ([106,109,112],0,233,11,0,false,-2147483648,2147483647,[106]),
 ([106,109,112,46,115],0,235,12,0,false,-128,127,[106]),
 ([99,97,108,108,46,114],0,255,3,2,false,0,0,[65]),
 ([106,109,112,46,114],0,255,3,4,false,0,0,[65]),
 ([106,99,99],0,3968,11,0,true,-2147483648,2147483647,[99,106]),
 ([106,99,99,46,115],0,112,12,0,true,-128,127,[99,106]),
 ([114,101,116],0,195,0,0,false,0,0,[]),
 ([115,121,115,99,97,108,108],0,3845,0,0,false,0,0,[]),
 ([110,111,112],0,144,0,0,false,0,0,[]),
 ([117,100,50],0,3851,0,0,false,0,0,[])]
def mvH:List O:=[.cells [.gro 1 bM []] 176,.tok 0 9]
noncomputable def aO6 (x:Option St):T × List O:=match x with
 | some (.normal,t,H)=>(t,H)
 | _=>([],[])
@[irreducible] noncomputable def AW:T × List O:=aO6 (aK sJ (eQ 3 (cA Tryz.f140)) [(0,.ptr 0 0)] mvH).run
theorem acA:(aK sJ (eQ 3 (cA Tryz.f140)) [(0,.ptr 0 0)] mvH).run=some (.normal,AW.1,AW.2):=by kernel_rfl
noncomputable def zV:Array Oper:=y7 (c1 (aJ 3 (cA Tryz.f140)))
@[irreducible] noncomputable def D1:T × List O:=aO6 (((sI sJ zV zV.size (Array.replicate zV.size false) AW).map (fun l=>l.map fun s=>iQ AW.2.length (sL [3,4] s.1) (.normal,s.1,s.2))).getD []).head?.join
set_option maxRecDepth 8000 in
theorem ab1:(sI sJ zV zV.size (Array.replicate zV.size false) (AW.1,AW.2)).map (fun l=>l.map fun s=>iQ AW.2.length (sL [3,4] s.1) (.normal,s.1,s.2))=some (List.replicate 30 (some (.normal,D1.1,D1.2))):=by kernel_rfl
@[irreducible] noncomputable def mvE:St:=((aK sJ (c2 (aJ 3 (cA Tryz.f140))) D1.1 D1.2).run).getD (.normal,[],[])
theorem ae4:(aK sJ (c2 (aJ 3 (cA Tryz.f140))) D1.1 D1.2).run=some mvE:=by kernel_rfl
theorem a94:(iQ 2 [] mvE).map (fun s=>(match s.1 with | .normal=>true | _=>false,s.2.2))=some (true,[.cells [.gro 1 bM LY] 176,.tok 12 9]):=by kernel_rfl
def VR:MSpec:=fun args H=>match args,H with
 | [.ptr 0 0],[.cells [.gro 1 (.prod [.str,.int .i64,.int .u16,.int .i64,.int .u8,.bool,.int .i64,.int .i64,.str]) []] 176,.tok 0 9]=>.leaf (.ok (.tup []) [.cells [.gro 1 bM LY] 176,.tok 12 9])
 | _,_=>.fail
theorem P5:aW sJ:=bU (.nil _) (.cons RQ (.nil _)) rfl rfl
set_option maxHeartbeats 2000000 in
set_option maxRecDepth 8000 in
theorem aXN:bP prog 140 VR:=by
 intro args H r h;unfold VR at h;split at h;rotate_left
 ·cases h
 simp only [Tree.run,ZH3] at h;subst h;refine rM (c:=cA Tryz.f140) (fn:=Tryz.f140) (by kernel_rfl) (by kernel_rfl) (by kernel_rfl) (by kernel_rfl) ?_;refine yG ?_;refine yM (cx:=sJ) rfl rfl P5 3 _ _ _ _ (by kernel_rfl) (Tree.gH acA ?_);show aI _ _ _ _ _ _
 have e:aJ 3 (cA Tryz.f140) = .seq (.region 4 zV true) (c2 (aJ 3 (cA Tryz.f140))):=by kernel_rfl
 rw [e];refine cL (aSI (cx:=sJ) [3,4] 30 rfl rfl P5 (by kernel_rfl) ab1 ?_);show aI _ _ _ _ _ _;refine dA (cx:=sJ) rfl rfl P5 ae4 ?_;obtain ⟨⟨ex,t,H⟩,h1,a⟩:=ZH0.1 a94;simp only [Prod.mk.injEq] at a;obtain ⟨a,rfl⟩:=a;refine ⟨[],_,h1,?_⟩
 cases ex with
 | normal =>
  show sC prog Tryz.f140 (.ok (.tup []) [.cells [.gro 1 bM LY] 176,.tok 12 9]) .normal t [.cells [.gro 1 bM LY] 176,.tok 12 9];unfold sC;exact ⟨.inr rfl,rfl,by kernel_rfl⟩
 | exit _=>cases a
 | ret=>cases a
 | panic _=>cases a
noncomputable def aMR:MSpec:=fun args H=>.aF (Nat.ble args.length Tryz.f141.ntmps) (dF aN7 Tryz.f141 args H)
theorem a0H:bP prog 141 aMR:=fA (cx:=aN7) (fn:=Tryz.f141) (bU (.nil _) (.cons RQ (.nil _)) rfl rfl) (by kernel_rfl) (by kernel_rfl)
noncomputable def aM0:MSpec:=fun args H=>.aF (Nat.ble args.length Tryz.f142.ntmps) (dF aN8 Tryz.f142 args H)
theorem aZZ:bP prog 142 aM0:=fA (cx:=aN8) (fn:=Tryz.f142) (bU (.nil _) (.cons RQ (.nil _)) rfl rfl) (by kernel_rfl) (by kernel_rfl)
noncomputable def aO4:Cx:={ P:=prog,n:=7,tab:=[],mtab:=[(140,VR),(141,aMR),(142,aM0)],refs:=[],keeps:=[0,1] }
def NB:Ab.Spec:=fun args=>match args with
 | []=>.leaf (.sl bM aD [] .ro)
 | _=>.fail
theorem a3C:(a7 aO4 Tryz.f92 []).run=some (.sl bM aD [] .ro):=by kernel_rfl
theorem aEL:aD.length=58:=by kernel_rfl
theorem aGR:Sound prog 92 NB:=by
 intro args out h;unfold NB at h;split at h;rotate_left
 ·cases h
 simp only [Tree.run,ZH3] at h;subst h;exact cE (cx:=aO4) (fn:=Tryz.f92) (bU (.nil _) (.cons aXN (.cons a0H (.cons aZZ (.nil _)))) rfl rfl) (by kernel_rfl) (by kernel_rfl) (by kernel_rfl) a3C
end Go.Amd

namespace Go.Amd
open Go Go.Ab Go.Proofs
def eW (r:RowT):List V:=[.str r.1,.int .i64 r.2.1,.int .u16 r.2.2.1,.int .i64 r.2.2.2.1,.int .u8 r.2.2.2.2.1,.bool r.2.2.2.2.2.1,.int .i64 r.2.2.2.2.2.2.1,.int .i64 r.2.2.2.2.2.2.2.1,.str r.2.2.2.2.2.2.2.2]
noncomputable def akP:Cx:={ P:=prog,n:=19,tab:=[(92,NB)],mtab:=[],refs:=[],keeps:=[0,2,3,5,6,7,8,9,15] }
noncomputable abbrev yZ:Cx:=akP
def bH:RowT:=([],0,0,0,0,false,0,0,[])
abbrev rowAt (l:List RowT) (i:Nat):RowT:=l.getD i bH
def aF8 (nm:List UInt8) (i:Int) (l:List RowT):Tree St:=
 (.br (decide (i<(l.length:Nat))) (.br (inside i l.length) (.br (wL (rowAt l i.toNat).1 nm)
  (.leaf (.ret,[(0,.str nm),(2,.ptr 0 0),(3,.bool true),(5,.ptr 1 0),(6,.sl bM l [] .ro),(7,.int .i64 (l.length:Nat)),(8,.int .i64 i),(9,.bool true),(15,.bool true)],[.cells (eW (rowAt l i.toNat)) 104,.cells (eW (rowAt l i.toNat)) 104]))
  (.leaf (.normal,[(0,.str nm),(2,.ptr 0 0),(3,.bool false),(5,.ptr 1 0),(6,.sl bM l [] .ro),(7,.int .i64 (l.length:Nat)),(8,.int .i64 (IntKind.wrap .i64 (i+1))),(9,.bool true),(15,.bool false)],[.cells (eW bH) 104,.cells (eW (rowAt l i.toNat)) 104]))) .fail)
  (.leaf (.exit 0,[(0,.str nm),(2,.ptr 0 0),(3,.bool false),(6,.sl bM l [] .ro),(7,.int .i64 (l.length:Nat)),(8,.int .i64 i),(9,.bool false)],[.cells (eW bH) 104])))
theorem aRA (nm:List UInt8) (i:Int) (l:List RowT):(aK yZ (cin (cin (c2 (c1 (c2 (cA Tryz.f51)))))) [(0,.str nm),(2,.ptr 0 0),(3,.bool false),(6,.sl bM l [] .ro),(7,.int .i64 l.length),(8,.int .i64 i)] [.cells (eW bH) 104]).run=(aF8 nm i l).run:=
 (show (aK yZ (cin (cin (c2 (c1 (c2 (cA Tryz.f51)))))) [(0,.str nm),(2,.ptr 0 0),(3,.bool false),(6,.sl bM l [] .ro),(7,.int .i64 l.length),(8,.int .i64 i)] [.cells (eW bH) 104]).run=(aF8 nm i l).out by kernel_rfl).trans (Tree.out_run _)
theorem JP:aW yZ:=bU (.cons aGR (.nil _)) (fun p h=>by cases h) rfl rfl
def qW (nm:List UInt8) (l:List RowT):Option RowT:=l.find? fun r=>wL r.1 nm
def dW (nm:List UInt8):RowT:=(qW nm aD).getD bH
def fI (nm:List UInt8):Bool:=(qW nm aD).isSome
def WU:Ab.Spec:=fun args=>match args with
 | [.str nm]=>.leaf (.tup [.agg (eW (dW nm)),.bool (fI nm)])
 | _=>.fail
def aKF (nm:List UInt8) (i:{ i:Nat // i<=aD.length/\qW nm (aD.take i)=none }):T × List O:=
 ([(0,.str nm),(2,.ptr 0 0),(3,.bool false),(6,.sl bM aD [] .ro),(7,.int .i64 aD.length),(8,.int .i64 i.1)],[.cells (eW bH) 104])
theorem a58 (nm:List UInt8):jS prog 51 [.str nm] (.tup [.agg (eW (dW nm)),.bool (fI nm)]):=by
 refine vG (c:=cA Tryz.f51) (fn:=Tryz.f51) (by kernel_rfl) (by kernel_rfl) (by kernel_rfl) (by kernel_rfl) ?_
 have e:cA Tryz.f51 = .seq (c1 (cA Tryz.f51)) (.seq (.seq (c1 (c1 (c2 (cA Tryz.f51)))) (.block 0 (.loop (cin (cin (c2 (c1 (c2 (cA Tryz.f51))))))))) (c2 (c2 (cA Tryz.f51)))):=by kernel_rfl
 rw [e];generalize hQ:(fun e t H=>(e=AEx.ret\/e = .normal)/\hD prog Tryz.f51.results.toList H t=some (.tup [.agg (eW (dW nm)),.bool (fI nm)]))=Q;have hlen:=aEL;refine cL (dA (cx:=yZ) rfl rfl JP (s:=(.normal,[(0,.str nm),(2,.ptr 0 0),(3,.bool false)],[.cells (eW bH) 104])) (by kernel_rfl) ?_);refine cL (cL (dA (cx:=yZ) rfl rfl JP (s:=(.normal,[(0,.str nm),(2,.ptr 0 0),(3,.bool false),(6,.sl bM aD [] .ro),(7,.int .i64 58),(8,.int .i64 0)],[.cells (eW bH) 104])) (by kernel_rfl) ?_))
 refine mA ?_;refine aI.less (s:=(aKF nm ⟨0,Nat.zero_le _,rfl⟩).1) (Fits.tle ⟨rfl,rfl,rfl,rfl,by kernel_rfl,rfl,trivial⟩) ?_;refine EP (cx:=yZ) (P:=prog) (n:=19) rfl rfl JP (aKF nm) (fun i=>58 - i.1) ?_ ⟨0,Nat.zero_le _,rfl⟩;rintro ⟨i,hi,hnone⟩;refine Tree.all_run_eq (aRA nm i aD) ?_;refine ⟨fun hlt=>⟨fun hin=>⟨fun hp=>?_,fun hp=>?_⟩,fun hin=>?_⟩,fun hge=>?_⟩
 ·-- found
  have hlt:i<aD.length:=Int.ofNat_lt.1 (of_decide_eq_true hlt);have hf:qW nm aD=some (aD.getD i bH):=aEE hlt hnone hp;refine ⟨[],_,rfl,?_⟩;subst hQ;refine ⟨.inl rfl,?_⟩
  have h1:dW nm=aD.getD i bH:=by unfold dW; rw [hf]; rfl
  have h2:fI nm=true:=by unfold fI; rw [hf]; rfl
  show hD _ _ _ _=some _;rw [h1,h2]
  kernel_rfl
 ·have hlt:i<aD.length:=Int.ofNat_lt.1 (of_decide_eq_true hlt)
  have hf:qW nm (aD.take (i+1))=none:=aDZ hlt hnone hp;refine ⟨[],_,rfl,⟨i+1,hlt,hf⟩,by show 58 - (i+1)<58 - i; omega,Fits.tle ⟨rfl,rfl,rfl,rfl,rfl,?_,trivial⟩,rfl⟩;show V.int .i64 (IntKind.wrap .i64 ((i:Int)+1))=V.int .i64 ((i+1:Nat):Int);rw [wrap_i64 (by omega) (by omega)];rfl
 ·exfalso
  have hlt:i<aD.length:=Int.ofNat_lt.1 (of_decide_eq_true hlt);exact Bool.noConfusion ((jI (Int.natCast_nonneg i) (Int.ofNat_lt.2 hlt)).symm.trans hin)
 ·have hge:¬ ((i:Int)<aD.length):=of_decide_eq_false hge
  have hi' : i=aD.length:=by omega
  refine ⟨[],_,rfl,?_⟩;show aI _ _ _ _ _ _;refine aI.less (s:=[(0,.str nm),(2,.ptr 0 0),(3,.bool false)]) (Fits.tle ⟨rfl,rfl,rfl,trivial⟩) ?_;refine dA (cx:=yZ) rfl rfl JP (s:=(.ret,[(0,.str nm),(2,.ptr 0 0),(3,.bool false)],[.cells (eW bH) 104])) (by kernel_rfl) ?_;subst hQ;refine ⟨.inl rfl,?_⟩
  have hf:qW nm aD=none:=by rw [<- hnone,hi',List.take_length]
  have h1:dW nm=bH:=by unfold dW; rw [hf]; rfl
  have h2:fI nm=false:=by unfold fI; rw [hf]; rfl
  show hD _ _ _ _=some _;rw [h1,h2]
  kernel_rfl
theorem a0K:Sound prog 51 WU:=by
 intro args out h;unfold WU at h;split at h;rotate_left
 ·cases h
 simp only [Tree.run,ZH3] at h;subst h;exact a58 _
end Go.Amd

namespace Go.Amd
open Go Go.Ab Go.Proofs
theorem dU {α:Type} {b o:α} (h:(Tree.leaf b).run=some o):o=b:=by simpa [Tree.run] using h.symm
theorem dT {P:Program} {f:Nat} {s:Ab.Spec} (h:Sound P f s):lA P [(f,s)]:=.cons h (.nil _)
theorem pS {α:Type} {c:Bool} {x y:Tree α} (h:c=true):(Tree.br c x y).run=x.run:=by rw [h]; rfl
theorem cN {α:Type} {c:Bool} {x y:Tree α} {Q:α->Prop} (h:c=true) (a:x.all Q):(Tree.br c x y).all Q:=⟨fun _=>a,fun e=>Bool.noConfusion (h.symm.trans e)⟩
abbrev aE:=List UInt8 × Int × Int × Int × Int × Int
def N2 (i:aE):List V:=[.str i.1,.int .i64 i.2.1,.int .i64 i.2.2.1,.int .i64 i.2.2.2.1,.int .i64 i.2.2.2.2.1,.int .i64 i.2.2.2.2.2]
abbrev lV (i:aE):V:=.agg (N2 i)
noncomputable def Y2:Cx:={ P:=prog,n:=18,tab:=[],mtab:=[],refs:=[],keeps:=[0,1,4] }
noncomputable def YK:Cx:={ P:=prog,n:=17,tab:=[],mtab:=[],refs:=[],keeps:=[0,2] }
noncomputable def YN:Cx:={ P:=prog,n:=67,tab:=[],mtab:=[],refs:=[],keeps:=[0,1,2,3,19] }
noncomputable def WJ:Cx:={ P:=prog,n:=9,tab:=[],mtab:=[],refs:=[],keeps:=[0,2] }
def YR (n:Int) (u:Bool):Tree V:=
 (.br (n==0) (.leaf (.bool true)) (.br u (.br (decide (0<n)) (.leaf (.bool (decide (n<=15)))) (.leaf (.bool false))) (.leaf (.bool false))))
theorem a8U (n:Int) (u:Bool):(a7 Y2 Tryz.f94 [.int .i64 n,.bool u]).run=(YR n u).run:=
 (show (a7 Y2 Tryz.f94 [.int .i64 n,.bool u]).run=(YR n u).out by kernel_rfl).trans (Tree.out_run _)
def WZ (n:Int):Tree V:=
 (.br (decide (0<=n)) (.br (decide (n<=9)) (.leaf (.bool true)) (.br (decide (12<=n)) (.leaf (.bool (decide (n<=15)))) (.leaf (.bool false)))) (.br (decide (12<=n)) (.leaf (.bool (decide (n<=15)))) (.leaf (.bool false))))
theorem a2F (n:Int):(a7 YK Tryz.f96 [.int .i64 n]).run=(WZ n).run:=
 (show (a7 YK Tryz.f96 [.int .i64 n]).run=(WZ n).out by kernel_rfl).trans (Tree.out_run _)
def WI (n:Int):Tree V:=
 (.br (decide (-128<=n)) (.leaf (.bool (decide (n<=127)))) (.leaf (.bool false)))
theorem a2M (n:Int):(a7 WJ Tryz.f156 [.int .i64 n]).run=(WI n).run:=
 (show (a7 WJ Tryz.f156 [.int .i64 n]).run=(WI n).out by kernel_rfl).trans (Tree.out_run _)
def cY (n:Int) (u:Bool):Bool:=cond (n==0) true (cond u (cond (decide (0<n)) (decide (n<=15)) false) false)
def j6 (n:Int):Bool:=cond (cond (decide (0<=n)) (decide (n<=9)) false) true (cond (decide (12<=n)) (decide (n<=15)) false)
def dC (n:Int):Bool:=cond (decide (-128<=n)) (decide (n<=127)) false
def pG (b:Int):Bool:=cond (cond (decide (0<=b)) (decide (b<=15)) false) true (b==17)
def vY (d:Int):Bool:=cond (d==1) true (cond (d==2) true (cond (d==4) true (d==8)))
def jO (b c d:Int):Bool:=cond (c==16) (cond (pG b) (d==0) false) (cond (pG b) (cond (b != 17) (cond (decide (0<=c)) (cond (decide (c<=15)) (cond (c != 4) (vY d) false) false) false) false) false)
def Q5:Ab.Spec:=fun args=>match args with
 | [.int .i64 n,.bool u]=>.leaf (.bool (cY n u))
 | _=>.fail
theorem aRO:Sound prog 94 Q5:=by
 intro args out h;unfold Q5 at h;split at h;rotate_left
 ·cases h
 rename_i n u;have h:=dU h;subst h;refine cE (cx:=Y2) (fn:=Tryz.f94) (dO rfl rfl) (by kernel_rfl) (by kernel_rfl) (by kernel_rfl) ((a8U n u).trans ?_);unfold YR cY;cases (n==0)
 ·cases u
  ·rfl
  ·cases decide (0<n) <;> rfl
 ·rfl
def JB:Ab.Spec:=fun args=>match args with
 | [.int .i64 n]=>.leaf (.bool (j6 n))
 | _=>.fail
theorem aBK:Sound prog 96 JB:=by
 intro args out h;unfold JB at h;split at h;rotate_left
 ·cases h
 rename_i n;have h:=dU h;subst h;refine cE (cx:=YK) (fn:=Tryz.f96) (dO rfl rfl) (by kernel_rfl) (by kernel_rfl) (by kernel_rfl) ((a2F n).trans ?_);unfold WZ j6;cases decide (0<=n) <;> cases decide (n<=9) <;> cases decide (12<=n) <;> rfl
def GX:Ab.Spec:=fun args=>match args with
 | [.int .i64 n]=>.leaf (.bool (dC n))
 | _=>.fail
theorem RH:Sound prog 156 GX:=by
 intro args out h;unfold GX at h;split at h;rotate_left
 ·cases h
 rename_i n;have h:=dU h;subst h;refine cE (cx:=WJ) (fn:=Tryz.f156) (dO rfl rfl) (by kernel_rfl) (by kernel_rfl) (by kernel_rfl) ((a2M n).trans ?_);unfold WI dC;cases decide (-128<=n) <;> rfl
def tB (b:Bool):Tree V:=.leaf (.bool b)
def aLI (d:Int):Tree V:=.br (d==1) (tB true) (.br (d==2) (tB true) (.br (d==4) (tB true) (tB (d==8))))
def GC (x:Bool) (b c d:Int):Tree V:=.br (c==16) (.br x (tB (d==0)) (tB false))
 (.br x (.br (b != 17) (.br (decide (0<=c)) (.br (decide (c<=15)) (.br (c != 4) (aLI d) (tB false)) (tB false)) (tB false)) (tB false)) (tB false))
def MD (b c d:Int):Tree V:=.br (decide (0<=b)) (.br (decide (b<=15)) (GC true b c d) (GC (b==17) b c d)) (GC (b==17) b c d)
theorem aZ4 (nm:List UInt8) (a b c d n:Int):(a7 YN Tryz.f95 [.agg [.str nm,.int .i64 a,.int .i64 b,.int .i64 c,.int .i64 d,.int .i64 n]]).run=(MD b c d).run:=
 (show (a7 YN Tryz.f95 [.agg [.str nm,.int .i64 a,.int .i64 b,.int .i64 c,.int .i64 d,.int .i64 n]]).run=(MD b c d).out by kernel_rfl).trans (Tree.out_run _)
theorem QI (x:Bool) (b c d:Int):(GC x b c d).run=some (.bool (cond (c==16) (cond x (d==0) false) (cond x (cond (b != 17) (cond (decide (0<=c)) (cond (decide (c<=15)) (cond (c != 4) (vY d) false) false) false) false) false))):=by
 unfold GC aLI vY tB;cases (c==16)
 ·cases x
  ·rfl
  ·cases (b != 17)
   ·rfl
   ·cases decide (0<=c)
    ·rfl
    ·cases decide (c<=15)
     ·rfl
     ·cases (c != 4)
      ·rfl
      ·cases (d==1) <;> cases (d==2) <;> cases (d==4) <;> rfl
 ·cases x <;> rfl
theorem aVE (b c d:Int):(MD b c d).run=some (.bool (jO b c d)):=by
 unfold MD jO pG;cases decide (0<=b)
 ·exact QI _ b c d
 ·cases decide (b<=15)
  ·exact QI _ b c d
  ·exact QI _ b c d
def U1:Ab.Spec:=fun args=>match args with
 | [.agg [.str _,.int .i64 _,.int .i64 b,.int .i64 c,.int .i64 d,.int .i64 _]]=>.leaf (.bool (jO b c d))
 | _=>.fail
theorem aWJ:Sound prog 95 U1:=by
 intro args out h;unfold U1 at h;split at h;rotate_left
 ·cases h
 rename_i nm a b c d n;have h:=dU h;subst h;exact cE (cx:=YN) (fn:=Tryz.f95) (dO rfl rfl) (by kernel_rfl) (by kernel_rfl) (by kernel_rfl) ((aZ4 nm a b c d n).trans (aVE b c d))
end Go.Amd

namespace Go.Amd
open Go Go.Ab Go.Proofs
noncomputable def aPG:Cx:={ P:=prog,n:=29,tab:=[],mtab:=[],refs:=[],keeps:=[0,1,2,3,4,5,7,8,11,17,20,22] }
noncomputable def aNU:Ab.Spec:=fun args=>.aF (Nat.ble args.length Tryz.f93.ntmps) (a7 aPG Tryz.f93 args)
theorem a3Q:Sound prog 93 aNU:=EZ (cx:=aPG) (fn:=Tryz.f93) (dO rfl rfl) (by kernel_rfl) (by kernel_rfl)
noncomputable def Z7:Cx:={ P:=prog,n:=81,tab:=[(93,aNU),(94,Q5),(95,U1),(96,JB)],mtab:=[],refs:=[],keeps:=[0,1,2,3,4,5,6,7,8,9,21,53,65] }
theorem a95:aW Z7:=bU (.cons a3Q (.cons aRO (.cons aWJ (dT aBK)))) (.nil _) rfl rfl
def aA (x:RowT):Int:=x.2.2.2.1
def bI (x:RowT):Bool:=x.2.2.2.2.2.1
def lowR (x:RowT):Int:=x.2.2.2.2.2.2.1
def highR (x:RowT):Int:=x.2.2.2.2.2.2.2.1
def uA (x:RowT):Bool:=!(aA x==0 || aA x==11 || aA x==12)
def uB (x:RowT):Bool:=aA x==7 || aA x==8
def uM (x:RowT):Bool:=aA x==9
def uI (x:RowT):Bool:=aA x==2 || aA x==4 || aA x==5 || aA x==6 || aA x==9 || aA x==10 || aA x==11 || aA x==12
def tE (n:Int):Tree V:=.leaf (.int .i64 n)
def sK (x:RowT) (o:Bool) (n:Int):Tree V:=
 .br (!o) (tE 13) (.br (uI x) (.br (decide (n<lowR x)) (tE 3) (.br (decide (highR x<n)) (tE 3) (tE 0))) (.br (n != 0) (tE 13) (tE 0)))
def SX (x:RowT) (a b c d n:Int):Tree V:=
 .br (uM x) (.br (cY a (uA x)) (sK x (jO b c d) n) (sK x false n))
  (.br (cY a (uA x)) (.br (cY b (uB x)) (.br (c==0) (.br (d==0) (sK x true n) (.br (bI x) (sK x (j6 d) n) (sK x false n))) (sK x false n)) (sK x false n)) (sK x false n))
def forms:List Int:=[0,1,2,3,4,5,6,7,8,9,10,11,12]
def eO (x:RowT):Bool:=forms.contains (aA x)
theorem vD:aD.all eO=true:=by kernel_rfl
theorem BN {β:Type} {f g:Int->β} (h:forms.map f=forms.map g) {x:RowT} (a:eO x=true):f (aA x)=g (aA x):=
 List.map_inj_left.1 h _ (by simpa [eO] using a)
theorem aRS:forms.map (fun f nm e h dg g lo hi ops i a b c d n=>(a7 Z7 Tryz.f52 [.agg (eW (nm,e,h,f,dg,g,lo,hi,ops)),.agg [.str i,.int .i64 a,.int .i64 b,.int .i64 c,.int .i64 d,.int .i64 n]]).out) =
  forms.map (fun f nm e h dg g lo hi ops _ a b c d n=>(SX (nm,e,h,f,dg,g,lo,hi,ops) a b c d n).out):=by kernel_rfl
end Go.Amd

namespace Go.Amd
open Go Go.Ab Go.Proofs
def tU (x:RowT) (o:Bool) (n:Int):Int:=cond (!o) 13 (cond (uI x) (cond (decide (n<lowR x)) 3 (cond (decide (highR x<n)) 3 0)) (cond (n != 0) 13 0))
def okF (x:RowT) (a b c d:Int):Bool:=
 cond (uM x) (cond (cY a (uA x)) (jO b c d) false) (cond (cY a (uA x)) (cond (cY b (uB x)) (cond (c==0) (cond (d==0) true (cond (bI x) (j6 d) false)) false) false) false)
def c8 (x:RowT) (i:aE):Int:=tU x (okF x i.2.1 i.2.2.1 i.2.2.2.1 i.2.2.2.2.1) i.2.2.2.2.2
theorem aYT (x:RowT) (o:Bool) (n:Int):(sK x o n).run=some (.int .i64 (tU x o n)):=by
 unfold sK tU tE;cases o
 ·rfl
 ·cases (uI x)
  ·cases (n != 0) <;> rfl
  ·cases decide (n<lowR x)
   ·cases decide (highR x<n) <;> rfl
   ·rfl
theorem aTZ (x:RowT) (a b c d n:Int):(SX x a b c d n).run=some (.int .i64 (tU x (okF x a b c d) n)):=by
 unfold SX okF;simp only [a6,aYT];cases (uM x) <;> cases cY a (uA x) <;> cases cY b (uB x) <;> cases (c==0) <;> cases (d==0) <;> cases bI x <;> rfl
def LB:Ab.Spec:=fun args=>match args with
 | [.agg [.str nm,.int .i64 rex,.int .u16 op,.int .i64 f,.int .u8 dg,.bool cn,.int .i64 lo,.int .i64 hi,.str ops],.agg [.str i,.int .i64 a,.int .i64 b,.int .i64 c,.int .i64 d,.int .i64 n]] =>
  .aF (eO (nm,rex,op,f,dg,cn,lo,hi,ops)) (.leaf (.int .i64 (c8 (nm,rex,op,f,dg,cn,lo,hi,ops) (i,a,b,c,d,n))))
 | _=>.fail
theorem aCL:Sound prog 52 LB:=by
 intro args out h;unfold LB at h;split at h;rotate_left
 ·cases h
 rename_i nm g k f dg j lo hi ops i a b c d n;obtain ⟨l,h⟩:=aM h;have h:=dU h;subst h;refine cE (cx:=Z7) (fn:=Tryz.f52) a95 (by kernel_rfl) (by kernel_rfl) (by kernel_rfl) ?_;have e:=congrFun (congrFun (congrFun (congrFun (congrFun (congrFun (congrFun (congrFun (congrFun (congrFun (congrFun (congrFun (congrFun (congrFun (BN aRS l) nm) g) k) dg) j) lo) hi) ops) i) a) b) c) d) n;exact (Tree.out_run _).symm.trans (e.trans ((Tree.out_run _).trans (aTZ (nm,g,k,f,dg,j,lo,hi,ops) a b c d n)))
end Go.Amd
