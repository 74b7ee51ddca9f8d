/-
  The document's product, by 64 rounds. Conditions: none.
-/
import Derived.Test.YtbefgnmdliefjaaGreatDoorPk19
open Go.IntKind (wrap i64 u64 u8)
open Int renaming fdiv_eq_ediv_of_nonneg→ZI2,eq_ofNat_of_zero_le→ZI3
set_option linter.unusedVariables false
set_option linter.unusedSimpArgs false
namespace Go.Ra
open Go Go.Ab Go.Proofs
noncomputable def sQ:Cx:={ P:=Tryz.prog,n:=36,tab:=[],mtab:=[],refs:=[],keeps:=[0,1,4,5,6,7,8,10,25,31] }
def aIH (a b h l i:Int):Tree St:=
 (.br (decide (0<=i)) (.br (decide (0<=wrap u64 i)) (.br (wrap u64 ↑(BitVec.toNat (BitVec.ofInt 64 (Int.fdiv b (2 ^ Min.min (Int.toNat (wrap u64 i)) 64)) &&& BitVec.ofInt 64 1))==1) (.br (decide (wrap u64 (wrap u64 (l*2 ^ 1)+a)<a)) (.leaf (.normal,[(0,(.int .u64 a)),(1,(.int .u64 b)),(6,(.int .u64 (wrap u64 (wrap u64 ↑(BitVec.toNat (BitVec.ofInt 64 (wrap u64 (h*2 ^ 1)) ||| BitVec.ofInt 64 (Int.fdiv l (2 ^ 63))))+1)))),(7,(.int .u64 (wrap u64 (wrap u64 (l*2 ^ 1)+a)))),(8,(.int .i64 (wrap i64 (i - 1)))),(10,(.bool true)),(25,(.bool true)),(31,(.bool true))],[])) (.leaf (.normal,[(0,(.int .u64 a)),(1,(.int .u64 b)),(6,(.int .u64 (wrap u64 ↑(BitVec.toNat (BitVec.ofInt 64 (wrap u64 (h*2 ^ 1)) ||| BitVec.ofInt 64 (Int.fdiv l (2 ^ 63))))))),(7,(.int .u64 (wrap u64 (wrap u64 (l*2 ^ 1)+a)))),(8,(.int .i64 (wrap i64 (i - 1)))),(10,(.bool true)),(25,(.bool true)),(31,(.bool false))],[]))) (.leaf (.normal,[(0,(.int .u64 a)),(1,(.int .u64 b)),(6,(.int .u64 (wrap u64 ↑(BitVec.toNat (BitVec.ofInt 64 (wrap u64 (h*2 ^ 1)) ||| BitVec.ofInt 64 (Int.fdiv l (2 ^ 63))))))),(7,(.int .u64 (wrap u64 (l*2 ^ 1)))),(8,(.int .i64 (wrap i64 (i - 1)))),(10,(.bool true)),(25,(.bool false))],[]))) .fail) (.leaf ((.exit 0),[(0,(.int .u64 a)),(1,(.int .u64 b)),(6,(.int .u64 h)),(7,(.int .u64 l)),(8,(.int .i64 i)),(10,(.bool false))],[])))
theorem aV2 (a b h l i:Int):(aK sQ (cin (cin (c2 (c1 (aJ 1 (cA Tryz.f79)))))) [(0,.int .u64 a),(1,.int .u64 b),(6,.int .u64 h),(7,.int .u64 l),(8,.int .i64 i)] []).run=(aIH a b h l i).run:=
 (show (aK sQ (cin (cin (c2 (c1 (aJ 1 (cA Tryz.f79)))))) [(0,.int .u64 a),(1,.int .u64 b),(6,.int .u64 h),(7,.int .u64 l),(8,.int .i64 i)] []).run=(aIH a b h l i).out by kernel_rfl).trans (Tree.out_run _)
def aNJ (h l:Int):Tree St:=
 (.leaf (.ret,[(4,(.int .u64 h)),(5,(.int .u64 l)),(6,(.int .u64 h)),(7,(.int .u64 l))],[]))
theorem a1Q (h l:Int):(aK sQ (aJ 2 (cA Tryz.f79)) [(6,.int .u64 h),(7,.int .u64 l)] []).run=(aNJ h l).run:=
 (show (aK sQ (aJ 2 (cA Tryz.f79)) [(6,.int .u64 h),(7,.int .u64 l)] []).run=(aNJ h l).out by kernel_rfl).trans (Tree.out_run _)
def xJ (h l:Int):Int:=wrap .u64 (((BitVec.ofInt 64 (wrap .u64 (h*2 ^ 1)) ||| BitVec.ofInt 64 (Int.fdiv l (2 ^ 63))).toNat:Nat):Int)
def p9 (l:Int):Int:=wrap .u64 (l*2 ^ 1)
def DT (b i:Int):Bool:=wrap .u64 (((BitVec.ofInt 64 (Int.fdiv b (2 ^ Min.min (Int.toNat (wrap .u64 i)) 64)) &&& BitVec.ofInt 64 1).toNat:Nat):Int)==1
def zJ (a b i:Int) (p:Int × Int):Int × Int:=
 cond (DT b i) (cond (decide (wrap .u64 (p9 p.2+a)<a)) (wrap .u64 (xJ p.1 p.2+1),wrap .u64 (p9 p.2+a)) (xJ p.1 p.2,wrap .u64 (p9 p.2+a))) (xJ p.1 p.2,p9 p.2)
noncomputable def wN (a b:Int) (k:Nat):Int × Int:=Nat.rec (motive:=fun _=>Int × Int) (0,0) (fun i p=>zJ a b (63 - (i:Int)) p) k
theorem FW (a b:Int) (k:Nat):wN a b (k+1)=zJ a b (63 - (k:Int)) (wN a b k):=rfl
noncomputable def wSt (a b:Int) (k:{ k:Nat // k<=64 }):T × List O:=([(0,.int .u64 a),(1,.int .u64 b),(6,.int .u64 (wN a b k.1).1),(7,.int .u64 (wN a b k.1).2),(8,.int .i64 (63 - (k.1:Int)))],[])
theorem a8G (a b:Int):jS Tryz.prog 79 [.int .u64 a,.int .u64 b] (.tup [.int .u64 (wN a b 64).1,.int .u64 (wN a b 64).2]):=by
 refine vG (c:=cA Tryz.f79) (fn:=Tryz.f79) (by kernel_rfl) (by kernel_rfl) (by kernel_rfl) (by kernel_rfl) ?_
 have m:cA Tryz.f79 = .seq (c1 (cA Tryz.f79)) (.seq (c1 (aJ 0 (cA Tryz.f79))) (.seq (.seq (c1 (c1 (aJ 1 (cA Tryz.f79)))) (.block 0 (.loop (cin (cin (c2 (c1 (aJ 1 (cA Tryz.f79))))))))) (aJ 2 (cA Tryz.f79)))):=by kernel_rfl
 rw [m];generalize o:(fun e' t H=>(e' = AEx.ret\/e' = .normal)/\hD Tryz.prog Tryz.f79.results.toList H t=some (.tup [.int .u64 (wN a b 64).1,.int .u64 (wN a b 64).2]))=Q;have f:aW sQ:=dO rfl rfl;refine cL (dA (cx:=sQ) rfl rfl f (s:=(.normal,[(0,.int .u64 a),(1,.int .u64 b),(4,.int .u64 0),(5,.int .u64 0)],[])) (by kernel_rfl) ?_);refine cL (dA (cx:=sQ) rfl rfl f (s:=(.normal,[(0,.int .u64 a),(1,.int .u64 b),(4,.int .u64 0),(5,.int .u64 0),(6,.int .u64 0),(7,.int .u64 0)],[])) (by kernel_rfl) ?_)
 refine cL (cL (dA (cx:=sQ) rfl rfl f (s:=(.normal,[(0,.int .u64 a),(1,.int .u64 b),(4,.int .u64 0),(5,.int .u64 0),(6,.int .u64 0),(7,.int .u64 0),(8,.int .i64 63)],[])) (by kernel_rfl) ?_));refine mA ?_;refine aI.less (s:=(wSt a b ⟨0,Nat.zero_le _⟩).1) (Fits.tle ⟨rfl,rfl,rfl,rfl,rfl,trivial⟩) ?_;refine EP (cx:=sQ) (P:=Tryz.prog) (n:=36) rfl rfl f (wSt a b) (fun i=>64 - i.1) ?_ ⟨0,Nat.zero_le _⟩;rintro ⟨k,hk⟩
 refine Tree.all_run_eq (aV2 a b (wN a b k).1 (wN a b k).2 (63 - (k:Int))) ?_
 have step:V.int .i64 (wrap .i64 (63 - (k:Int) - 1))=V.int .i64 (63 - ((k+1:Nat):Int)):=by
  rw [wrap_i64 (by omega) (by omega)];exact congrArg (V.int .i64) (by omega)
 refine ⟨fun d=>⟨fun l=>⟨fun hb=>⟨fun h=>?_,fun h=>?_⟩,fun hb=>?_⟩,fun l=>?_⟩,fun g=>?_⟩
 ·have d:(0:Int)<=63 - k:=of_decide_eq_true d
  have e:wN a b (k+1)=(wrap .u64 (xJ (wN a b k).1 (wN a b k).2+1),wrap .u64 (p9 (wN a b k).2+a)):=by
   rw [FW];unfold zJ;rw [show DT b (63 - (k:Int))=true from hb,cond_true,show decide (wrap .u64 (p9 (wN a b k).2+a)<a)=true from h,cond_true]
  refine ⟨[],_,rfl,⟨k+1,by omega⟩,by show 64 - (k+1)<64 - k; omega,Fits.tle ⟨rfl,rfl,?_,?_,step,trivial⟩,rfl⟩
  ·show V.int .u64 _=V.int .u64 (wN a b (k+1)).1
   rw [e];rfl
  ·show V.int .u64 _=V.int .u64 (wN a b (k+1)).2
   rw [e];rfl
 ·have d:(0:Int)<=63 - k:=of_decide_eq_true d
  have e:wN a b (k+1)=(xJ (wN a b k).1 (wN a b k).2,wrap .u64 (p9 (wN a b k).2+a)):=by
   rw [FW];unfold zJ;rw [show DT b (63 - (k:Int))=true from hb,cond_true,show decide (wrap .u64 (p9 (wN a b k).2+a)<a)=false from h,cond_false]
  refine ⟨[],_,rfl,⟨k+1,by omega⟩,by show 64 - (k+1)<64 - k; omega,Fits.tle ⟨rfl,rfl,?_,?_,step,trivial⟩,rfl⟩
  ·show V.int .u64 _=V.int .u64 (wN a b (k+1)).1
   rw [e];rfl
  ·show V.int .u64 _=V.int .u64 (wN a b (k+1)).2
   rw [e];rfl
 ·have d:(0:Int)<=63 - k:=of_decide_eq_true d
  have e:wN a b (k+1)=(xJ (wN a b k).1 (wN a b k).2,p9 (wN a b k).2):=by
   rw [FW];unfold zJ;rw [show DT b (63 - (k:Int))=false from hb,cond_false]
  refine ⟨[],_,rfl,⟨k+1,by omega⟩,by show 64 - (k+1)<64 - k; omega,Fits.tle ⟨rfl,rfl,?_,?_,step,trivial⟩,rfl⟩
  ·show V.int .u64 _=V.int .u64 (wN a b (k+1)).1
   rw [e];rfl
  ·show V.int .u64 _=V.int .u64 (wN a b (k+1)).2
   rw [e];rfl
 ·exfalso
  have:(0:Int)<=wrap u64 (63 - (k:Int)):=by show (0:Int)<=(63 - (k:Int)) % 18446744073709551616; omega
  exact absurd this (of_decide_eq_false l)
 ·have g:¬ (0:Int)<=63 - k:=of_decide_eq_false g
  have j : k=64:=by omega
  subst j;refine ⟨[],_,rfl,?_⟩;show aI _ _ _ _ _ _;refine aI.less (s:=[(6,.int .u64 (wN a b 64).1),(7,.int .u64 (wN a b 64).2)]) (Fits.tle ⟨rfl,rfl,trivial⟩) ?_;refine dA (cx:=sQ) rfl rfl f ((a1Q _ _).trans rfl) ?_;subst o;refine ⟨.inl rfl,?_⟩;show hD _ _ _ _=some _
  kernel_rfl
end Go.Ra

namespace Go.Ra
open Go Go.Ab Go.Proofs
noncomputable def PH (a b:Int):Int × Int:=wN a b 64
theorem aeE:Sound Tryz.prog 79 (DW PH):=by
 intro args out h;unfold DW at h;split at h;rotate_left
 ·cases h
 cases h;exact a8G _ _
theorem akZ {y:Int} (c:0<=y) (e:y<18446744073709551616):(((BitVec.ofInt 64 y &&& BitVec.ofInt 64 1).toNat:Nat):Int)=y % 2:=by
 obtain ⟨n,rfl⟩:=ZI3 c
 have d:n<2 ^ 64:=by omega
 rw [BitVec.toNat_and]
 have a:(BitVec.ofInt 64 (n:Int)).toNat=n:=by
  rw [BitVec.ofInt_natCast,BitVec.toNat_ofNat,Nat.mod_eq_of_lt d]
 have b:(BitVec.ofInt 64 1).toNat=1:=rfl;rw [a,b,Nat.and_one_is_mod];rfl
theorem zF (x:Int):wrap .u64 x=x % 18446744073709551616:=rfl
theorem aI3 {b:Int} (a:0<=b) (f:b<18446744073709551616) {k:Nat} (g:k<64):DT b (63 - (k:Int))=(b / 2 ^ (63 - k) % 2==1):=by
 have e:Min.min (Int.toNat (wrap .u64 (63 - (k:Int)))) 64=63 - k:=by
  rw [zF];omega
 have c:(0:Int)<=2 ^ (63 - k):=Int.le_of_lt (Int.pow_pos (by decide));have d:=Int.ediv_nonneg a c;have h:=Int.ediv_le_self (2 ^ (63 - k)) a;unfold DT;rw [e,ZI2 _ c,akZ d (by omega),zF]
 have:b / 2 ^ (63 - k) % 2 % 18446744073709551616=b / 2 ^ (63 - k) % 2:=by omega
 rw [this]
theorem aG7 {a q q' l bit:Int} (b:l=(a*q) % 18446744073709551616) (c:q' = 2*q+bit) (hb:bit=0\/bit=1):((l*2 ^ 1) % 18446744073709551616+a*bit) % 18446744073709551616=(a*q') % 18446744073709551616:=by
 subst b c
 have e:a*(2*q+bit)=(a*q)*2+a*bit:=by
  rw [Int.mul_add,Int.mul_comm 2 q,Int.mul_assoc]
 rw [e];generalize a*q=z;generalize a*bit=y;omega
theorem XZ {a b:Int} (d:0<=b) (f:b<18446744073709551616):∀ k,k<=64->(wN a b k).2=(a*(b / 2 ^ (64 - k))) % 18446744073709551616
 | 0,_=>by
  have e:b / 2 ^ (64 - 0)=0:=Int.ediv_eq_zero_of_lt d (by omega);rw [e,Int.mul_zero];rfl
 | k+1,hk=>by
  have c:=XZ (a:=a) d f k (by omega)
  have g:64 - (k+1)=63 - k:=by omega
  have i:64 - k=(63 - k)+1:=by omega
  rw [FW,g];rw [i,Int.pow_succ,<- Int.ediv_ediv_of_nonneg (Int.le_of_lt (Int.pow_pos (by decide)))] at c;have hb:=aI3 d f (k:=k) (by omega);generalize b / 2 ^ (63 - k)=q' at c hb;unfold zJ;rw [hb];cases h:q' % 2==1
  ·have h:=ne_of_beq_false h
   have:=aG7 (bit:=0) c (q' := q') (by omega) (.inl rfl);rw [Int.mul_zero,Int.add_zero] at this;rw [cond_false,<- this,p9,zF];omega
  ·have h:=eq_of_beq h
   have:=aG7 (bit:=1) c (q' := q') (by omega) (.inr rfl);rw [Int.mul_one] at this;rw [cond_true,<- this];cases decide (wrap .u64 (p9 (wN a b k).2+a)<a) <;> rfl
theorem or_bit {e c:Int} (d:0<=e) (h:e<18446744073709551616) (i:e % 2=0) (f:c=0\/c=1):wrap .u64 (((BitVec.ofInt 64 e ||| BitVec.ofInt 64 c).toNat:Nat):Int)=e+c:=by
 obtain ⟨n,rfl⟩:=ZI3 d
 have a:(BitVec.ofInt 64 (n:Int)).toNat=n:=by
  rw [BitVec.ofInt_natCast,BitVec.toNat_ofNat,Nat.mod_eq_of_lt (by omega)]
 have key:∀ m:Nat,m<2->(BitVec.ofInt 64 (n:Int) ||| BitVec.ofInt 64 (m:Int)).toNat=n+m:=by
  intro m g
  have b:(BitVec.ofInt 64 (m:Int)).toNat=m:=by
   rw [BitVec.ofInt_natCast,BitVec.toNat_ofNat,Nat.mod_eq_of_lt (by omega)]
  have e3:n=2 ^ 1*(n / 2):=by omega
  rw [BitVec.toNat_or,a,b,e3,<- Nat.two_pow_add_eq_or_of_lt (by simpa using g)]
 rw [zF]
 rcases f with rfl | rfl
 ·rw [show (0:Int)=((0:Nat):Int) from rfl,key 0 (by decide)]
  omega
 ·rw [show (1:Int)=((1:Nat):Int) from rfl,key 1 (by decide)]
  omega
theorem af5 {h l:Int} (b:0<=h) (c:h<9223372036854775808) (d:0<=l) (f:l<18446744073709551616):xJ h l=2*h+l / 9223372036854775808:=by
 unfold xJ
 have e:wrap .u64 (h*2 ^ 1)=2*h:=by
  rw [zF];show (h*2) % 18446744073709551616=_;omega
 have a:Int.fdiv l (2 ^ 63)=l / 9223372036854775808:=ZI2 _ (by decide);rw [e,a,or_bit (by omega) (by omega) (by omega) (by omega)]
theorem a5B {z a h l t u:Int} (g:z=18446744073709551616*h+l) (f:l*2=18446744073709551616*t+u) (u0:0<=u) (u1:u<18446744073709551616) (b:0<=a) (c:a<18446744073709551616) (hb:2*z+a<340282366920938463463374607431768211456) (d:0<=2*h+t) :
  cond (decide ((u+a) % 18446744073709551616<a)) ((2*h+t+1) % 18446744073709551616) (2*h+t)=(2*z+a) / 18446744073709551616:=by
 by_cases hc:18446744073709551616<=u+a
 ·have e:(u+a) % 18446744073709551616=u+a - 18446744073709551616:=by omega
  rw [e,decide_eq_true (by omega),cond_true];omega
 ·have e:(u+a) % 18446744073709551616=u+a:=by omega
  rw [e,decide_eq_false (by omega),cond_false];omega
theorem aNK {a b:Int} (c:0<=a) (o:a<18446744073709551616) (d:0<=b) (j:b<18446744073709551616):∀ k,k<=64->(wN a b k).1=(a*(b / 2 ^ (64 - k))) / 18446744073709551616
 | 0,_=>by
  have e:b / 2 ^ (64 - 0)=0:=Int.ediv_eq_zero_of_lt d (by omega);rw [e,Int.mul_zero];rfl
 | k+1,hk=>by
  have i:=aNK c o d j k (by omega);have lo:=XZ (a:=a) d j k (by omega)
  have q:64 - (k+1)=63 - k:=by omega
  have p:64 - k=(63 - k)+1:=by omega
  have m:0<=b / 2 ^ (64 - k)/\b / 2 ^ (64 - k)<9223372036854775808:=by
   refine ⟨Int.ediv_nonneg d (Int.le_of_lt (Int.pow_pos (by decide))),?_⟩;rw [p,Int.pow_succ,Int.mul_comm,<- Int.ediv_ediv_of_nonneg (by decide)];have:=Int.ediv_le_self (2 ^ (63 - k)) (show 0<=b / 2 by omega);omega
  rw [FW,q]
  have n:b / 2 ^ (64 - k)=b / 2 ^ (63 - k) / 2:=by
   rw [p,Int.pow_succ,<- Int.ediv_ediv_of_nonneg (Int.le_of_lt (Int.pow_pos (by decide)))]
  rw [n] at i lo m;have hb:=aI3 d j (k:=k) (by omega);generalize b / 2 ^ (63 - k)=q' at i lo hb m;have v:0<=a*(q' / 2):=Int.mul_nonneg c m.1
  have w:a*(q' / 2)<18446744073709551616*9223372036854775808:=by
   have x:=Int.mul_le_mul_of_nonneg_left (show q' / 2<=9223372036854775807 by omega) c;omega
  have f:a*q' = 2*(a*(q' / 2))+a*(q' % 2):=by
   have:q' = 2*(q' / 2)+q' % 2:=by omega
   calc a*q' = a*(2*(q' / 2)+q' % 2):=by rw [<- this]
    _=_:=by rw [Int.mul_add,Int.mul_left_comm]
  have g:a*q' < 340282366920938463463374607431768211456:=by
   have x:=Int.mul_le_mul_of_nonneg_left (show q' <= 18446744073709551615 by omega) c;omega
  have r:=af5 (h:=(wN a b k).1) (l:=(wN a b k).2) (by rw [i]; omega) (by rw [i]; omega) (by rw [lo]; omega) (by rw [lo]; omega);have s:p9 (wN a b k).2=(wN a b k).2*2 % 18446744073709551616:=rfl;unfold zJ;rw [f] at g;rw [hb,r,s,f]
  rw [i,lo] at *
  generalize a*(q' / 2)=z at *
  cases h:q' % 2==1
  ·have h:=ne_of_beq_false h
   have h:q' % 2=0:=by omega
   rw [h,Int.mul_zero,cond_false];show 2*(z / 18446744073709551616)+z % 18446744073709551616 / 9223372036854775808=_;omega
  ·have h:=eq_of_beq h
   rw [h,Int.mul_one] at g;rw [h,Int.mul_one,cond_true,zF,zF];have:=a5B (z:=z) (a:=a) (h:=z / 18446744073709551616) (l:=z % 18446744073709551616) (t:=z % 18446744073709551616 / 9223372036854775808) (u:=z % 18446744073709551616*2 % 18446744073709551616) (by omega) (by omega) (by omega) (by omega) c o (by omega) (by omega);rw [<- this];cases decide ((z % 18446744073709551616*2 % 18446744073709551616+a) % 18446744073709551616<a) <;> rfl
theorem RU:DJ PH:=by
 intro x y c d;obtain ⟨e,x1⟩:=dV c;obtain ⟨b,h1⟩:=dV d;have h:=XZ (a:=x) b h1 64 (Nat.le_refl _);have g:=aNK e x1 b h1 64 (Nat.le_refl _);rw [Nat.sub_self,Int.pow_zero,Int.ediv_one] at h g;exact ⟨g,h⟩
end Go.Ra
