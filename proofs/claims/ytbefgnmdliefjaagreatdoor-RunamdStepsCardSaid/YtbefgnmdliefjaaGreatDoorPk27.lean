/-
  What is read behind the opcode: form by form, without places. Conditions: none.
-/
import Derived.Test.YtbefgnmdliefjaaGreatDoorPk26
import Derived.Test.YtbefgnmdliefjaaGreatDoorPk23
import Derived.Test.YtbefgnmdliefjaaGreatDoorPk19
open Go.Proofs.Tryz (prog)
open Bool renaming and_eq_true_iff→ZA0
open List renaming length_cons→ZD3,all_eq_true→ZE1,mem_cons→ZE3,getD_eq_getElem?_getD→ZG0
set_option linter.unusedVariables false
set_option linter.unusedSimpArgs false
namespace Go.Amd
open Go Go.Ab Go.Proofs
def AD (x:RowT) (a:List Int) (c:Int):Bool:=
 !(fE x a) || (cond (aA x==1 || aA x==2) (cU x a==wi (aC c 7)) true&&(cond (bI x) (cU x a==wi (aC c 15)) true&&(cond (aA x==6) ((a.getD 0 0==131)==!(c==129)) true&&(a.length==cond (decide (255<x.2.2.1)) 2 1))))
theorem a1J:aD.all (fun x=>oW 16 16 fun a b=>AD x [16*a+b] (16*a+b)&&AD x [15,16*a+b] (16*a+b))=true:=by kernel_rfl
theorem aIN {x:RowT} (e:x ∈ aD) {c:Int} (d:aV c):AD x [c] c=true/\AD x [15,c] c=true:=by
 have h:=oA (ZE1.1 a1J x e) (a:=c / 16) (b:=c % 16) (by have:=d.1; omega) (by have:=d.2; omega) (by omega) (by omega);rw [show 16*(c / 16)+c % 16=c by omega] at h;exact ZA0.1 h
end Go.Amd

namespace Go.Amd
open Go Go.Ab Go.Proofs
theorem a9S {t:List Int} {k:Int} {K:Int->List Int->Int->aX} {p:aE × Int} (h:qU t k K = .ok p):∃ a b c d e f g i u j,t=a :: b :: c :: d :: e :: f :: g :: i :: u/\K (pK a b c d e f g i) u j = .ok p:=by
 unfold qU at h;obtain ⟨a,t1,e1,h1⟩:=mN h;obtain ⟨b,t2,e2,h2⟩:=mN h1;obtain ⟨c,t3,e3,h3⟩:=mN h2;obtain ⟨d,t4,e4,h4⟩:=mN h3;obtain ⟨e,t5,e5,h5⟩:=mN h4;obtain ⟨f,t6,e6,h6⟩:=mN h5;obtain ⟨g,t7,e7,h7⟩:=mN h6;obtain ⟨i,t8,e8,h8⟩:=mN h7;subst e8 e7 e6 e5 e4 e3 e2;exact ⟨a,b,c,d,e,f,g,i,t8,_,e1,h8⟩
abbrev aPI (r R:Int):Prop:=b7 r 2=cH R 4/\b7 r 1=cH R 2/\fZ r=cH R 1
section
variable {x:RowT} {l op t:List Int} {r R k c c0 n:Int} {i:aE} (hl:bE l) (k0:0<=k) (hb:aPI r R) (hc0:aB l (k - 1)=c0) (hp:l.drop k.toNat=t) (hm:l.drop k.toNat=c :: t)
include hb k0 hm in
theorem vX:kU l r k=aU c R:=by
 unfold kU aU;rw [(oS k0 hm).1,hb.2.2]
include hb k0 hm in
theorem B6:nS l r k=cC c R:=by
 unfold nS cC;rw [(oS k0 hm).1,hb.1]
include hb hc0 in
theorem aI2 (a:cU x op=wi (aC c0 7)):EL l r k=wi (cU x op+cH R 1):=by
 unfold EL;rw [hc0,hb.2.2,a]
include hc0 in
theorem SQ (a:cU x op=wi (aC c0 15)):xK l k=cU x op:=by
 unfold xK;rw [hc0,a]
theorem lI {a:Bool} {f:Int} (d:aA x=f) (e:bI x=a) {t' : List Int} {b c' : Int} (h:aY R x op c' t' b = .ok (i,n)):gP f R x op c' t' b (cond a (cU x op) 0) = .ok (i,n):=by
 rw [oH,d,e] at h;exact h
include hb k0 hm in
theorem akG (a:aA x=7) (b:bI x=false) (h:aY R x op c t (k+1) = .ok (i,n)):i=hZ x.1 (jP 1 l r k):=by
 rw [jN (show bA x (x.1,aU c R,cC c R,0,0,0) (k+1) = .ok (i,n) from lI a b h)];show _=(x.1,kU l r k,nS l r k,0,0,0);rw [vX k0 hb hm,B6 k0 hb hm]
include hb k0 hm in
theorem alC (a:aA x=8) (b:bI x=false) (h:aY R x op c t (k+1) = .ok (i,n)):i=hZ x.1 (jP 7 l r k):=by
 rw [jN (show bA x (x.1,cC c R,aU c R,0,0,0) (k+1) = .ok (i,n) from lI a b h)];show _=(x.1,nS l r k,kU l r k,0,0,0);rw [vX k0 hb hm,B6 k0 hb hm]
include hb k0 hm hc0 in
theorem agY (a:aA x=8) (b:bI x=true) (d:cU x op=wi (aC c0 15)) (h:aY R x op c t (k+1) = .ok (i,n)):i=hZ x.1 (jP 11 l r k):=by
 rw [jN (show bA x (x.1,cC c R,aU c R,0,cU x op,0) (k+1) = .ok (i,n) from lI a b h)];show _=(x.1,nS l r k,kU l r k,0,xK l k,0);rw [vX k0 hb hm,B6 k0 hb hm,SQ hc0 d]
include hb k0 hm in
theorem akO (a:aA x=3) (b:bI x=false) (h:aY R x op c t (k+1) = .ok (i,n)):i=hZ x.1 (jP 8 l r k):=by
 rw [jN (show bA x (x.1,aU c R,0,0,0,0) (k+1) = .ok (i,n) from lI a b h)];show _=(x.1,kU l r k,0,0,0,0);rw [vX k0 hb hm]
include hl hb k0 hm in
theorem akR (e:aA x=4) (f:bI x=false) (h:aY R x op c t (k+1) = .ok (i,n)):i=hZ x.1 (jP 3 l r k):=by
 obtain ⟨a,b,c',d,u,j,rfl,h'⟩:=yS (show fW t (k+1) (fun n _ k=>bA x (x.1,aU c R,0,0,0,n) k) = .ok (i,n) from lI e f h);rw [jN h'];show _=(x.1,kU l r k,0,0,0,fJ l (k+1));rw [vX k0 hb hm,zK hl (by omega) (oS k0 hm).2]
include hl hb k0 hm in
theorem ai6 (b:aA x=5) (d:bI x=false) (h:aY R x op c t (k+1) = .ok (i,n)):i=hZ x.1 (jP 10 l r k):=by
 obtain ⟨a,u,rfl,h'⟩:=FU (show kH t (k+1) (fun n _ k=>bA x (x.1,aU c R,0,0,0,n) k) = .ok (i,n) from lI b d h);rw [jN h'];show _=(x.1,kU l r k,0,0,0,iL l (k+1));rw [vX k0 hb hm,G6 hl (by omega) (oS k0 hm).2]
theorem ajT (a:aA x=0) (b:bI x=false) (h:aY R x op 0 t k = .ok (i,n)):i=hZ x.1 (jP 9 l r k):=by
 rw [jN (show bA x (x.1,0,0,0,0,0) k = .ok (i,n) from lI a b h)];rfl
include hb hc0 in
theorem aj7 (a:aA x=1) (b:bI x=false) (d:cU x op=wi (aC c0 7)) (h:aY R x op 0 t k = .ok (i,n)):i=hZ x.1 (jP 12 l r k):=by
 rw [jN (show bA x (x.1,wi (cU x op+cH R 1),0,0,0,0) k = .ok (i,n) from lI a b h)];show _=(x.1,EL l r k,0,0,0,0);rw [aI2 hb hc0 d]
include hl k0 hb hc0 hp in
theorem al5 (m:aA x=2) (o:bI x=false) (p:cU x op=wi (aC c0 7)) (h:aY R x op 0 t k = .ok (i,n)):i=hZ x.1 (jP 2 l r k):=by
 obtain ⟨a,b,c,d,e,f,g,q,u,j,rfl,h'⟩:=a9S (show qU t k (fun n _ k=>bA x (x.1,wi (cU x op+cH R 1),0,0,0,n) k) = .ok (i,n) from lI m o h);rw [jN h'];show _=(x.1,EL l r k,0,0,0,u6 l k);rw [aI2 hb hc0 p,ahG hl k0 hp]
include hl k0 hp in
theorem ah7 (e:aA x=11) (f:bI x=false) (h:aY R x op 0 t k = .ok (i,n)):i=hZ x.1 (jP 13 l r k):=by
 obtain ⟨a,b,c,d,u,j,rfl,h'⟩:=yS (show fW t k (fun n _ k=>bA x (x.1,0,0,0,0,n) k) = .ok (i,n) from lI e f h);rw [jN h'];show _=(x.1,0,0,0,0,fJ l k);rw [zK hl k0 hp]
include hl k0 hp in
theorem ahM (b:aA x=12) (d:bI x=false) (h:aY R x op 0 t k = .ok (i,n)):i=hZ x.1 (jP 14 l r k):=by
 obtain ⟨a,u,rfl,h'⟩:=FU (show kH t k (fun n _ k=>bA x (x.1,0,0,0,0,n) k) = .ok (i,n) from lI b d h);rw [jN h'];show _=(x.1,0,0,0,0,iL l k);rw [G6 hl k0 hp]
include hl k0 hp hc0 in
theorem ag0 (e:aA x=11) (f:bI x=true) (g:cU x op=wi (aC c0 15)) (h:aY R x op 0 t k = .ok (i,n)):i=hZ x.1 (jP 15 l r k):=by
 obtain ⟨a,b,c,d,u,j,rfl,h'⟩:=yS (show fW t k (fun n _ k=>bA x (x.1,0,0,0,cU x op,n) k) = .ok (i,n) from lI e f h);rw [jN h'];show _=(x.1,0,0,0,xK l k,fJ l k);rw [zK hl k0 hp,SQ hc0 g]
include hl k0 hp hc0 in
theorem ah1 (b:aA x=12) (d:bI x=true) (e:cU x op=wi (aC c0 15)) (h:aY R x op 0 t k = .ok (i,n)):i=hZ x.1 (jP 16 l r k):=by
 obtain ⟨a,u,rfl,h'⟩:=FU (show kH t k (fun n _ k=>bA x (x.1,0,0,0,cU x op,n) k) = .ok (i,n) from lI b d h);rw [jN h'];show _=(x.1,0,0,0,xK l k,iL l k);rw [G6 hl k0 hp,SQ hc0 e]
include hl hb k0 hm in
theorem ajX (g:aA x=10) (m:bI x=false) (h:aY R x op c t (k+1) = .ok (i,n)):i=hZ x.1 (jP 5 l r k):=by
 obtain ⟨e,t1,rfl,h'⟩:=mN (show iJ t (k+1) (fun e t k=>fT (e==37) k (fW t k fun n _ k=>bA x (x.1,cC c R,0,0,0,n) k)) = .ok (i,n) from lI g m h);obtain ⟨a,b,c',d,u,j,rfl,h''⟩:=yS (vP h');rw [jN h''];show _=(x.1,nS l r k,0,0,0,fJ l (k+2));have f:=(oS (show 0<=k+1 by omega) (oS k0 hm).2).2;rw [B6 k0 hb hm,zK hl (by omega) (show l.drop (k+2).toNat=_ by rw [show k+2=k+1+1 by omega]; exact f)]
include hl hb k0 hm hc0 in
theorem akI (f:aA x=6) (g:bI x=false) (m:(op.getD 0 0==131) = !(c0==129)) (h:aY R x op c t (k+1) = .ok (i,n)):i=hZ x.1 (jP 6 l r k):=by
 have h:=show cond (op.getD 0 0==131) (kH t (k+1) fun n _ k=>bA x (x.1,aU c R,0,0,0,n) k) (fW t (k+1) fun n _ k=>fT (!dC n) k (bA x (x.1,aU c R,0,0,0,n) k)) = .ok (i,n) from lI f g h
 show _=(x.1,kU l r k,0,0,0,HW l k);unfold HW;rw [vX k0 hb hm,hc0];rw [m] at h;cases e:c0==129
 ·rw [e] at h; simp only [Bool.not_false,Bool.not_true,cond_true,cond_false] at h
  obtain ⟨a,u,rfl,h'⟩:=FU h;rw [jN h',cond_false,G6 hl (by omega) (oS k0 hm).2]
 ·rw [e] at h; simp only [Bool.not_false,Bool.not_true,cond_true,cond_false] at h
  obtain ⟨a,b,c',d,u,j,rfl,h'⟩:=yS h;rw [jN (vP h'),cond_true,zK hl (by omega) (oS k0 hm).2]
end
end Go.Amd

namespace Go.Amd
open Go Go.Ab Go.Proofs
section
variable {x:RowT} {l op t:List Int} {r R k c n:Int} {i:aE} (hl:bE l)
include hl in
theorem UQ {b:Int} {f : Int} {K:Int->List Int->Int->aX} {p:aE × Int} (k0:0<=f) (q:l.drop f.toNat=t) (h:pT c b t f K = .ok p):∃ u j,K (AZ (bB c) l f) u j = .ok p:=by
 unfold pT at h;unfold AZ;cases g:bB c==1
 ·rw [g,cond_false] at h
  cases m:bB c==2
  ·rw [m,cond_false] at h
   exact ⟨_,_,h⟩
  ·rw [m,cond_true] at h
   obtain ⟨a,b,c',d,u,j,e,h'⟩:=yS h;rw [cond_false,cond_true,zK hl k0 (q.trans e)];exact ⟨_,_,vP h'⟩
 ·rw [g,cond_true] at h
  obtain ⟨a,u,e,h'⟩:=FU h;rw [cond_true,G6 hl k0 (q.trans e)];cases o:(oM a != 0)
  ·rw [o,cond_false] at h'
   exact ⟨_,_,vP h'⟩
  ·rw [o,cond_true] at h'
   exact ⟨_,_,h'⟩
variable (k0:0<=k) (hb:aPI r R) (hm:l.drop k.toNat=c :: t)
include hl hb k0 hm in
theorem al0 (C:aA x=9) (D:bI x=false) (h:aY R x op c t (k+1) = .ok (i,n)):i=hZ x.1 (v7 l r k):=by
 have h:=show nJ R c t (k+1) (fun b q d n _ k=>bA x (x.1,cC c R,b,q,d,n) k) = .ok (i,n) from lI C D h
 obtain ⟨w,ht⟩:=oS k0 hm;have g:aV c:=w ▸ mQ hl k;have o:kR c=aC c 7:=(kF g.1 g.2).2.2.2.trans (kF g.1 g.2).2.2.1.symm
 have base:oO R c t (k+1) (fun b q d n _ k=>bA x (x.1,cC c R,b,q,d,n) k) = .ok (i,n)->(aC c 7==4)=true\/(cond (bB c==0) (aC c 7==5) false)=false->i=hZ x.1 (v7 l r k):=by
  intro h v;unfold oO at h;unfold v7;rw [w,B6 k0 hb hm];rw [o] at h;cases s:(aC c 7==4)
  ·rw [s,cond_false] at h
   have p:(cond (bB c==0) (aC c 7==5) false)=false:=by
    rcases v with e | e
    ·rw [s] at e; cases e
    ·exact e
   obtain ⟨u,j,h'⟩:=UQ hl (by omega) ht (vP h);rw [cond_false,show (cond (Int.fdiv c (2 ^ 6)==0) (aC c 7==5) false)=false from p,cond_false,vX k0 hb hm,jN h',<- o];rfl
  ·rw [s,cond_true] at h
   obtain ⟨e,u,et,h'⟩:=mN h;have A:=ht.trans et;obtain ⟨B,hu⟩:=oS (show 0<=k+1 by omega) A;rw [show k+1+1=k+2 by omega] at hu h'
   have m:nL R c e u (k+2) (fun b q d n _ k=>bA x (x.1,cC c R,b,q,d,n) k) = .ok (i,n):=by
    cases f:(bB c != 0)
    ·rw [f] at h'; exact vP h'
    ·rw [f] at h'; exact h'
   have z:DZ e r=cD e R:=by unfold DZ cD; rw [hb.2.1]
   have y:PC e r=aU e R:=by unfold PC aU; rw [hb.2.2]
   rw [cond_true,B,z,y];unfold nL at m;cases hi:(cD e R==4)
   ·rw [hi,cond_false] at m
    obtain ⟨E,j,h3⟩:=UQ hl (by omega) hu m;rw [cond_false,jN h3];rfl
   ·rw [hi,cond_true] at m
    cases f:(bB e==0)
    ·rw [f] at m; cases m
    ·rw [f,cond_true] at m
     obtain ⟨E,j,h3⟩:=UQ hl (by omega) hu (vP m);rw [cond_true,jN h3];rfl
 unfold nJ at h;cases f:(bB c==0)
 ·rw [f,cond_false] at h
  exact base h (.inr (by rw [f]; rfl))
 ·rw [f,cond_true,o] at h
  cases p:(aC c 7==5)
  ·rw [p,cond_false] at h
   exact base h (.inr (by rw [f,p]; rfl))
  ·rw [p,cond_true] at h
   obtain ⟨a,b,c',d,u,j,e,h'⟩:=yS (vP h)
   have s:(aC c 7==4)=false:=by rw [eq_of_beq p]; rfl
   unfold v7;rw [w,B6 k0 hb hm,s,cond_false,show (cond (Int.fdiv c (2 ^ 6)==0) (aC c 7==5) false)=true by rw [show (Int.fdiv c (2 ^ 6)==0)=true from f,p]; rfl,cond_true,zK hl (by omega) (ht.trans e),jN h'];rfl
end
end Go.Amd

namespace Go.Amd
open Go Go.Ab Go.Proofs
theorem aJ7 {l P Q D:List Int} {a k:Int} (e:l=P++(Q++[a])++D) (b:k=((P++(Q++[a])).length:Int)):aB l (k - 1)=a:=by
 unfold aB
 have:(k - 1).toNat=(P++Q).length:=by
  rw [b];simp only [List.length_append,ZD3,List.length_nil];omega
 rw [this,e,show P++(Q++[a])++D=(P++Q)++a :: D by simp,ZG0,List.getElem?_append_right (Nat.le_refl _),Nat.sub_self];rfl
theorem a9E {x:RowT} {a:List Int} {b:Int} (h:AD x a b=true) (g:fE x a=true) :
  (aA x=1\/aA x=2->cU x a=wi (aC b 7))/\(bI x=true->cU x a=wi (aC b 15))/\(aA x=6->(a.getD 0 0==131) = !(b==129))/\a.length=cond (decide (255<x.2.2.1)) 2 1:=by
 unfold AD at h;rw [g] at h;have h:(cond (aA x==1 || aA x==2) (cU x a==wi (aC b 7)) true&&(cond (bI x) (cU x a==wi (aC b 15)) true&&(cond (aA x==6) ((a.getD 0 0==131)==!(b==129)) true&&(a.length==cond (decide (255<x.2.2.1)) 2 1))))=true:=h;obtain ⟨c,h⟩:=ZA0.1 h;obtain ⟨d,h⟩:=ZA0.1 h;obtain ⟨f,h4⟩:=ZA0.1 h;refine ⟨fun e=>?_,fun e=>?_,fun e=>?_,eq_of_beq h4⟩
 ·rcases e with e | e <;> rw [e] at c <;> exact eq_of_beq c
 ·rw [e] at d; exact eq_of_beq d
 ·rw [e] at f; exact eq_of_beq f
theorem a8K:bN.all (fun y=>iC y.2.2.1==cond (decide (255<(conv y).2.2.1)) 2 1)=true:=by kernel_rfl
set_option maxHeartbeats 4000000 in
theorem a6J {l:List Int} (a:bE l) {i:aE} {n:Int} (h:dH l = .ok (i,n)):∃ r k,nI l=rB l r k bN /\ ∃ y ∈ bN,gI l r k y=i:=by
 obtain ⟨p,k,fs,R,has,ho,x,hx,u⟩:=QR a h;refine ⟨z6 R has,k - p.length,a88 a ho,?_⟩;obtain ⟨s,hR,h0,-,k0,e1,e2⟩:=EV a ho;obtain ⟨b,hop,-⟩:=aFS hx;have hb:=a39 hR h0
 obtain ⟨j,hc0,hcb,hbc⟩:∃ j,aB l (k - 1)=j/\aV j/\AD x p j=true:=by
  rcases s with ⟨j,hcb,rfl⟩ | ⟨j,hcb,rfl⟩
  ·exact ⟨j,aJ7 (Q:=[]) e1 e2,hcb,(aIN b hcb).1⟩
  ·exact ⟨j,aJ7 (Q:=[15]) e1 e2,hcb,(aIN b hcb).2⟩
 obtain ⟨u1,u2,u3,u4⟩:=a9E hbc hop;rw [<- aEP] at b;obtain ⟨y,hy,rfl⟩:=List.mem_map.1 b;refine ⟨y,hy,?_⟩
 have hlen:k - p.length+iC y.2.2.1=k:=by
  have:=eq_of_beq (ZE1.1 a8K y hy);rw [this,<- u4];omega
 unfold gI;rw [hlen];obtain ⟨-,-,o⟩:=MH hy;obtain ⟨nm,f,op',dg,rx⟩:=y;simp only [fB,ZE3,List.not_mem_nil,or_false] at o
 have d:eD (XH f)=true -> ∃ c t,l.drop k.toNat=c :: t/\aY R (conv (nm,f,op',dg,rx)) p c t (k+1) = .ok (i,n):=by
  intro q
  rcases u with ⟨e,-⟩ | ⟨-,c,t,e,-,h⟩
  ·exact absurd (q.symm.trans e) (by decide)
  ·exact ⟨c,t,e,h⟩
 have m:eD (XH f)=false->aY R (conv (nm,f,op',dg,rx)) p 0 (l.drop k.toNat) k = .ok (i,n):=by
  intro q
  rcases u with ⟨-,h⟩ | ⟨e,-⟩
  ·exact h
  ·exact absurd (q.symm.trans e) (by decide)
 have g:∀ {f:Int},(f==4)=false->hZ nm (jP f l (z6 R has) k)=i->hZ nm (nH f l (z6 R has) k)=i:=by
  intro f e h;rw [<- h];unfold nH;rw [e];rfl
 rcases o with rfl | rfl | rfl | rfl | rfl | rfl | rfl | rfl | rfl | rfl | rfl | rfl | rfl | rfl | rfl | rfl
 ·obtain ⟨c,t,e,h⟩:=d rfl
  exact g rfl (akG k0 hb e rfl rfl h).symm
 ·exact g rfl (al5 a k0 hb hc0 rfl rfl rfl (u1 (.inr rfl)) (m rfl)).symm
 ·obtain ⟨c,t,e,h⟩:=d rfl
  exact g rfl (akR a k0 hb e rfl rfl h).symm
 ·obtain ⟨c,t,e,h⟩:=d rfl
  exact (al0 a k0 hb e rfl rfl h).symm
 ·obtain ⟨c,t,e,h⟩:=d rfl
  exact g rfl (ajX a k0 hb e rfl rfl h).symm
 ·obtain ⟨c,t,e,h⟩:=d rfl
  exact g rfl (akI a k0 hb hc0 e rfl rfl (u3 rfl) h).symm
 ·obtain ⟨c,t,e,h⟩:=d rfl
  exact g rfl (alC k0 hb e rfl rfl h).symm
 ·obtain ⟨c,t,e,h⟩:=d rfl
  exact g rfl (akO k0 hb e rfl rfl h).symm
 ·exact g rfl (ajT rfl rfl (m rfl)).symm
 ·obtain ⟨c,t,e,h⟩:=d rfl
  exact g rfl (ai6 a k0 hb e rfl rfl h).symm
 ·obtain ⟨c,t,e,h⟩:=d rfl
  exact g rfl (agY k0 hb hc0 e rfl rfl (u2 rfl) h).symm
 ·exact g rfl (aj7 hb hc0 rfl rfl (u1 (.inl rfl)) (m rfl)).symm
 ·exact g rfl (ah7 a k0 rfl rfl rfl (m rfl)).symm
 ·exact g rfl (ahM a k0 rfl rfl rfl (m rfl)).symm
 ·exact g rfl (ag0 a k0 hc0 rfl rfl rfl (u2 rfl) (m rfl)).symm
 ·exact g rfl (ah1 a k0 hc0 rfl rfl rfl (u2 rfl) (m rfl)).symm
theorem aFH {l:List Int} {r k:Int} {rows:List gX} {i:aE} (h:rB l r k rows=some i):oQ l i=1:=by
 unfold rB at h;obtain ⟨y,h1,rfl⟩:=Option.map_eq_some_iff.1 h;exact eq_of_beq (List.find?_some (p:=fun y=>oQ l (gI l r k y)==1) h1)
theorem aUV {l:List Int} {i:aE} (h:nI l=some i):oQ l i=1:=by
 unfold nI at h;cases b:(aB l 0==100) <;> rw [b] at h
 ·cases a:(Int.fdiv (aB l 0) (2 ^ 4)==4) <;> rw [a] at h <;> exact aFH h
 ·cases a:(Int.fdiv (aB l 1) (2 ^ 4)==4) <;> rw [a] at h <;> exact aFH h
def agL (e:Except Int (aE × Int)):Option aE:=match e with
 | .ok (i,_)=>some i
 | .error _=>none
theorem a4C {l:List Int} (f:bE l):nI l=agL (dH l):=by
 have key:∀ {i:aE},nI l=some i -> ∃ n,dH l = .ok (i,n):=by
  intro i h;obtain ⟨c,t,rfl⟩:=SC.1 (aUV h);exact ⟨_,a6S c t⟩
 cases b:dH l with
 | error e =>
  cases d:nI l with
  | none=>rfl
  | some i =>
   obtain ⟨n,h⟩:=key d;rw [b] at h;cases h
 | ok p =>
  obtain ⟨i,n⟩:=p;obtain ⟨r,k,d,y,hy,hg⟩:=a6J f b;obtain ⟨c,ht,-,-⟩:=S0 f b;have g:oQ l i=1:=SC.2 ⟨c,l.drop n.toNat,by rw [ht,List.take_append_drop]⟩
  cases a:nI l with
  | none =>
   exfalso
   rw [d] at a;unfold rB at a;have:=Option.map_eq_none_iff.1 a;have:=List.find?_eq_none.1 this y hy;rw [hg,g] at this;exact this rfl
  | some j =>
   obtain ⟨m,h⟩:=key a;rw [b] at h;cases h;rfl
end Go.Amd

namespace Go.Amd
open Go Go.Ab Go.Proofs
def tT (l:List Int):Bool:=l.all fun a=>decide (0<=a/\a<256)
theorem aXR {l:List Int} (h:tT l=true):bE l:=fun c a=>show 0<=c/\c<256 from of_decide_eq_true (ZE1.1 h c a)
theorem a4M {l:List Int} (h:bE l):tT l=true:=ZE1.2 fun c a=>decide_eq_true (p:=0<=c/\c<256) (h c a)
def xG (l:List Int):Bool:=match dH l with | .ok _=>true | .error _=>false
def iA (l:List Int):aE:=match dH l with | .ok p=>p.1 | .error _=>([],0,0,0,0,0)
def p6 (l:List Int):Int:=match dH l with | .ok p=>p.2 | .error _=>0
def OG (i:aE):V:=.agg [.str i.1,.int .i64 i.2.1,.int .i64 i.2.2.1,.int .i64 i.2.2.2.1,.int .i64 i.2.2.2.2.1,.int .i64 i.2.2.2.2.2]
theorem aVN {l:List Int} (a:bE l):VW l=some (whV (nI l)):=by
 have b:∀ y ∈ bN,1<=iC y.2.2.1/\iC y.2.2.1<=2:=fun y c=>of_decide_eq_true (ZE1.1 a3A y c);unfold VW nI;rw [F1 a (by decide) (by decide) bN b,F1 a (by decide) (by decide) bN b,F1 a (by decide) (by decide) bN b,F1 a (by decide) (by decide) bN b];cases (aB l 0==100)
 ·cases (Int.fdiv (aB l 0) (2 ^ 4)==4) <;> rfl
 ·cases (Int.fdiv (aB l 1) (2 ^ 4)==4) <;> rfl
theorem aeA {l:List Int} (a:bE l):whV (nI l) = .tup [OG (iA l),.int .i64 (p6 l),.bool (xG l)]:=by
 rw [a4C a];unfold iA p6 xG
 cases b:dH l with
 | error e=>rfl
 | ok p =>
  obtain ⟨i,n⟩:=p;obtain ⟨-,ht,h0,h1⟩:=S0 a b
  have:((iB i).length:Int)=n:=by rw [ht,List.length_take]; omega
  show V.tup [OG i,.int .i64 (iB i).length,.bool true]=V.tup [OG i,.int .i64 n,.bool true];rw [this]
def U7:Ab.Spec:=fun args=>match args with
 | [.sl (.int .u8) l _ _]=>.aF (tT l) (.leaf (.tup [.agg [.str (iA l).1,.int .i64 (iA l).2.1,.int .i64 (iA l).2.2.1,.int .i64 (iA l).2.2.2.1,.int .i64 (iA l).2.2.2.2.1,.int .i64 (iA l).2.2.2.2.2],.int .i64 (p6 l),.bool (xG l)]))
 | _=>.fail
theorem aY5:Sound prog 89 U7:=by
 intro args out h;unfold U7 at h;split at h;rotate_left
 ·cases h
 rename_i l sp fl;obtain ⟨b,h⟩:=aM h;have h:=dU h;subst h;have a:=aXR b
 exact cE (cx:=aP3) (fn:=Tryz.f89) (bU (.cons tP (.cons Q3 (.cons aX8 (.cons a3I (dT aEQ))))) (.nil _) rfl rfl) (by kernel_rfl) (by kernel_rfl) (by kernel_rfl)
  ((Tree.bJ _).symm.trans ((a1A l sp fl).trans ((aVN a).trans (congrArg some (aeA a)))))
end Go.Amd

namespace Go.Amd
open Go Go.Ab Go.Proofs
def eN (b:Bool):Option V:=some (.bool b)
theorem a0N:Sound prog 262 WN:=by
 intro args out h;unfold WN at h;split at h;rotate_left
 ·cases h
 rename_i l sp fl;have h:=dU h;subst h;refine cE (cx:=WR) (fn:=Tryz.f262) (bU (dT tP) (.nil _) rfl rfl) (by kernel_rfl) (by kernel_rfl) (by kernel_rfl) ((afG l sp fl).trans ?_);unfold roT lR;rw [a6,a6,a6];cases (aB l 0==100)
 ·cases (Int.fdiv (aB l 0) (2 ^ 4)==4) <;> rfl
 ·cases (Int.fdiv (aB l 1) (2 ^ 4)==4) <;> rfl
section
variable (l:List Int) (k:Int)
def sX:Int:=aC (Int.fdiv (lR l) (2 ^ 1)) 1
def pM:Int:=l.getD k.toNat 0
def iE:Int:=Int.fdiv (pM l k) (2 ^ 6)
def xA:Int:=aC (pM l k) 7
def j3:Int:=wi ((l.length:Nat) - k)
def plE (size:Int):Option V:=eN (decide (j3 l (wi (wi (k+1)+1))<size))
def plP (size:Int) (n:Bool):Option V:=cond n (cond (aC (pM l (wi (k+1))) 7 != 4) (eN false) (cond (Int.fdiv (pM l (wi (k+1))) (2 ^ 6) != 0) (eN false) (plE l k size))) (plE l k size)
def plR (size:Int) (n:Bool):Option V:=cond (iE l k==0) (cond (aC (pM l (wi (k+1))) 7==5) (eN false) (plP l k size n)) (plP l k size n)
def plS (size:Int):Option V:=cond (wi (k+1)==(l.length:Nat)) (eN true) (cond (inside (wi (k+1)) l.length) (cond (aC (Int.fdiv (pM l (wi (k+1))) (2 ^ 3)) 7==4) (plR l k size (sX l==0)) (plR l k size false)) none)
def PR (size:Int):Option V:=cond (xA l k != 4) (cond (sX l==0) (eN (decide (j3 l (wi (k+1))<size))) (eN false)) (plS l k size)
def IT (size:Int):Option V:=
 cond (iE l k==3) (eN false) (cond (iE l k==0) (cond (xA l k==5) (cond (aC (lR l) 3==0) (eN (decide (j3 l (wi (k+1))<4))) (eN false)) (PR l k size)) (PR l k size))
def plH:Option V:=cond (inside k l.length) (cond (iE l k==1) (cond (iE l k==2) (IT l k 4) (IT l k 1)) (cond (iE l k==2) (IT l k 4) (IT l k 0))) none
end
theorem adA (l sp:List Int) (fl:Fl) (k:Int):(a7 aMB Tryz.f238 [.sl (.int .u8) l sp fl,.int .i64 k]).fin=plH l k:=by kernel_rfl
end Go.Amd

namespace Go.Amd
open Go Go.Ab Go.Proofs
def IH (m:Int):Int:=cond (m==2) 4 (cond (m==1) 1 0)
def EA (t:List Int) (n:Int):Bool:=decide ((t.length:Int)<n)
def IB (x m size:Int):List Int->Bool
 | []=>true
 | e :: t=>cond (cond (cond (m==0) (aC e 7==5) false) true (cond (cond (aC (Int.fdiv e (2 ^ 3)) 7==4) (x==0) false) (cond (aC e 7 != 4) true (Int.fdiv e (2 ^ 6) != 0)) false)) false (EA t size)
def IV (r c:Int) (t:List Int):Bool:=
 cond (Int.fdiv c (2 ^ 6)==3) false (cond (cond (Int.fdiv c (2 ^ 6)==0) (aC c 7==5) false) (cond (aC r 3==0) (EA t 4) false)
  (cond (aC c 7 != 4) (cond (aC (Int.fdiv r (2 ^ 1)) 1==0) (EA t (IH (Int.fdiv c (2 ^ 6)))) false) (IB (aC (Int.fdiv r (2 ^ 1)) 1) (Int.fdiv c (2 ^ 6)) (IH (Int.fdiv c (2 ^ 6))) t)))
theorem RW {l:List Int} {k:Int} (k0:0<=k) (h:l.length<1000) (k1:k<=l.length):j3 l k=((l.drop k.toNat).length:Int):=by
 unfold j3;rw [List.length_drop];refine (wrap_i64 (n:=(l.length:Nat) - k) (by omega) (by omega)).trans (by omega)
theorem J1 {l:List Int} {k:Int} (k0:0<=k) (k1:k<l.length):l.drop k.toNat=l.getD k.toNat 0 :: l.drop (k+1).toNat:=by
 have h:k.toNat<l.length:=by omega
 rw [List.drop_eq_getElem_cons h,oD h,show (k+1).toNat=k.toNat+1 by omega]
section
variable {l:List Int} {k:Int} (k0:0<=k) (k1:k<l.length) (hl:l.length<1000)
include k0 k1 hl in
theorem a67 (size:Int):plS l k size=some (.bool (IB (sX l) (iE l k) size (l.drop (k+1).toNat))):=by
 have a:wi (k+1)=k+1:=wrap_i64 (n:=k+1) (by omega) (by omega);unfold plS;rw [a];by_cases h:k+1=(l.length:Int)
 ·rw [beq_iff_eq.2 h,show l.drop (k+1).toNat=[] from List.drop_eq_nil_iff.2 (by omega)]
  rfl
 ·have hb:(k+1==(l.length:Int))=false:=by simpa using h
  rw [hb,jI (by omega) (by omega),J1 (k:=k+1) (by omega) (by omega)];have b:wi (k+1+1)=k+1+1:=wrap_i64 (n:=k+1+1) (by omega) (by omega);have e3:=RW (l:=l) (k:=k+1+1) (by omega) hl (by omega);unfold plR plP plE pM IB;rw [a,b,e3];generalize l.getD (k+1).toNat 0=e;show _=some (V.bool (cond (cond (cond (iE l k==0) (aC e 7==5) false) true (cond (cond (aC (Int.fdiv e (2 ^ 3)) 7==4) (sX l==0) false) (cond (aC e 7 != 4) true (Int.fdiv e (2 ^ 6) != 0)) false)) false (EA (l.drop (k+1+1).toNat) size)))
  cases aC (Int.fdiv e (2 ^ 3)) 7==4 <;> cases iE l k==0 <;> cases aC e 7==5 <;> cases sX l==0 <;> cases aC e 7 != 4 <;> cases Int.fdiv e (2 ^ 6) != 0 <;> rfl
include k0 k1 hl in
theorem a7B:plH l k=some (.bool (IV (lR l) (l.getD k.toNat 0) (l.drop (k+1).toNat))):=by
 have a:wi (k+1)=k+1:=wrap_i64 (n:=k+1) (by omega) (by omega);have e3:=RW (l:=l) (k:=k+1) (by omega) hl (by omega);unfold plH;rw [jI k0 k1]
 have b:∀ size,PR l k size=some (.bool (cond (xA l k != 4) (cond (sX l==0) (EA (l.drop (k+1).toNat) size) false) (IB (sX l) (iE l k) size (l.drop (k+1).toNat)))):=by
  intro size;unfold PR;rw [a67 k0 k1 hl,a,e3];cases xA l k != 4 <;> cases sX l==0 <;> rfl
 unfold IT;simp only [b];rw [a,e3];unfold IV;show cond true (cond (iE l k==1) (cond (iE l k==2) _ _) (cond (iE l k==2) _ _)) none=some (V.bool (cond (iE l k==3) _ (cond (cond (iE l k==0) (xA l k==5) false) _ (cond (xA l k != 4) (cond (sX l==0) (EA _ (IH (iE l k))) false) (IB (sX l) (iE l k) (IH (iE l k)) _)))));rw [cond_true];unfold IH;by_cases h2:iE l k=2
 ·rw [h2]
  show cond false _ (cond true _ _)=_;cases xA l k==5 <;> cases aC (lR l) 3==0 <;> rfl
 ·rw [show (iE l k==2)=false by simpa using h2]
  cases iE l k==1 <;> cases iE l k==3 <;> cases iE l k==0 <;> cases xA l k==5 <;> cases aC (lR l) 3==0 <;> rfl
end
def S3:Ab.Spec:=fun args=>match args with
 | [.sl (.int .u8) l _ _,.int .i64 k]=>.aF (decide (0<=k/\k<l.length/\l.length<1000)) (.leaf (.bool (IV (lR l) (aB l k) (l.drop (k+1).toNat))))
 | _=>.fail
theorem aVL:Sound prog 238 S3:=by
 intro args out h;unfold S3 at h;split at h;rotate_left
 ·cases h
 rename_i l sp fl k;obtain ⟨a,h⟩:=aM h;have h:=dU h;subst h;obtain ⟨k0,k1,hl⟩:=of_decide_eq_true a;exact cE (cx:=aMB) (fn:=Tryz.f238) (bU (dT a0N) (.nil _) rfl rfl) (by kernel_rfl) (by kernel_rfl) (by kernel_rfl) ((Tree.bJ _).symm.trans ((adA l sp fl k).trans (a7B k0 k1 hl)))
noncomputable def aMK:Cx:={ P:=prog,n:=142,tab:=[(134,uZ),(238,S3)],mtab:=[],refs:=[],keeps:=[0,1,2,3,6,7,8,9,10,42,43,52,59,66,73,79,90,119,123,128,133] }
section
variable (dg:Int) (l:List Int) (k:Int)
def PK (K:Bool->Option V):Option V:=cond (j3 l k==0) (K true) (cond (Int.fdiv (aB l k) (2 ^ 6)==3) (K (wi (aC (Int.fdiv (aB l k) (2 ^ 3)) 7)==dg)) (K false))
def jZ (F:Bool->Bool->Option V):Option V:=cond (decide (0<=k)) (cond (j3 l k==0) (PK dg l k (F true)) (PK dg l k (F (Int.fdiv (aB l k) (2 ^ 6)==3)))) none
def sU (b:Bool) (n:Int):Option V:=cond b (eN (decide (j3 l k<n))) (eN false)
def IL (c:Bool):Option V:=cond c (eN (decide (j3 l k<6))) (eN false)
def gC (b:Bool):Option V:=cond b (cond (decide (j3 l k<2)) (IL l k true) (cond (decide (0<=wi (k+1))) (IL l k (aB l (wi (k+1))==37)) none)) (IL l k false)
def jY (f:Int):Bool->Bool->Option V:=fun d g =>
 cond (f==1) (sU l k d 1) (cond (f==7) (sU l k d 1) (cond (f==11) (sU l k d 1) (cond (f==8) (sU l k g 1) (cond (f==3) (sU l k g 5) (cond (f==10) (sU l k g 2)
  (cond (f==6) (cond (decide (0<=wi (k - 1))) (cond (aB l (wi (k - 1))==129) (sU l k g 5) (sU l k g 2)) none)
   (cond (f==5) (cond (j3 l k==0) (gC l k true) (cond (Int.fdiv (aB l k) (2 ^ 6)==0) (gC l k (aC (aB l k) 7==4)) (gC l k false)))
    (cond (f==2) (eN (decide (j3 l k<8))) (cond (f==13) (eN (decide (j3 l k<4))) (cond (f==15) (eN (decide (j3 l k<4))) (cond (f==14) (eN (decide (j3 l k<1))) (cond (f==16) (eN (decide (j3 l k<1)))
     (cond (f==4) (cond (j3 l k==0) (eN true) (cond (decide (0<=k/\k<l.length/\l.length<1000)) (eN (IV (lR l) (aB l k) (l.drop (k+1).toNat))) none)) (eN false))))))))))))))
end
end Go.Amd

namespace Go.Amd
open Go Go.Ab Go.Proofs
noncomputable abbrev lG (f:Int) (nm:List UInt8) (op:List Int) (dg rx:Int) (l sp:List Int) (fl:Fl) (k:Int):=(a7 aMK Tryz.f198 [.agg [.str nm,.int .i64 f,.sl (.int .u8) op [] .ro,.int .i64 dg,.int .i64 rx],.sl (.int .u8) l sp fl,.int .i64 k])
section
variable (nm:List UInt8) (op:List Int) (dg rx:Int) (l sp:List Int) (fl:Fl) (k:Int)
theorem ak7:(lG 1 nm op dg rx l sp fl k).fin=jZ dg l k (jY l k 1):=by kernel_rfl
theorem akS:(lG 2 nm op dg rx l sp fl k).fin=jZ dg l k (jY l k 2):=by kernel_rfl
theorem akH:(lG 3 nm op dg rx l sp fl k).fin=jZ dg l k (jY l k 3):=by kernel_rfl
theorem akY:(lG 4 nm op dg rx l sp fl k).fin=jZ dg l k (jY l k 4):=by kernel_rfl
theorem akC:(lG 5 nm op dg rx l sp fl k).fin=jZ dg l k (jY l k 5):=by kernel_rfl
theorem al4:(lG 6 nm op dg rx l sp fl k).fin=jZ dg l k (jY l k 6):=by kernel_rfl
theorem ajS:(lG 7 nm op dg rx l sp fl k).fin=jZ dg l k (jY l k 7):=by kernel_rfl
theorem ak5:(lG 8 nm op dg rx l sp fl k).fin=jZ dg l k (jY l k 8):=by kernel_rfl
theorem al3:(lG 9 nm op dg rx l sp fl k).fin=jZ dg l k (jY l k 9):=by kernel_rfl
theorem ah6:(lG 10 nm op dg rx l sp fl k).fin=jZ dg l k (jY l k 10):=by kernel_rfl
theorem aiH:(lG 11 nm op dg rx l sp fl k).fin=jZ dg l k (jY l k 11):=by kernel_rfl
theorem agA:(lG 12 nm op dg rx l sp fl k).fin=jZ dg l k (jY l k 12):=by kernel_rfl
theorem ahC:(lG 13 nm op dg rx l sp fl k).fin=jZ dg l k (jY l k 13):=by kernel_rfl
theorem aiE:(lG 14 nm op dg rx l sp fl k).fin=jZ dg l k (jY l k 14):=by kernel_rfl
theorem agM:(lG 15 nm op dg rx l sp fl k).fin=jZ dg l k (jY l k 15):=by kernel_rfl
theorem ahQ:(lG 16 nm op dg rx l sp fl k).fin=jZ dg l k (jY l k 16):=by kernel_rfl
end
def lD (t:List Int) (n:Int):Bool:=decide (((t.length:Nat):Int)+1<n)
def DH (dg c:Int):Bool:=cond (Int.fdiv c (2 ^ 6)==3) (aC (Int.fdiv c (2 ^ 3)) 7==dg) false
def and' (a b:Bool):Bool:=cond a b false
def IY (f dg r p:Int):List Int->Bool
 | []=>!(f==9 || f==12)
 | c :: t=>cond (f==1) (and' (Int.fdiv c (2 ^ 6)==3) (lD t 1)) (cond (f==7) (and' (Int.fdiv c (2 ^ 6)==3) (lD t 1)) (cond (f==11) (and' (Int.fdiv c (2 ^ 6)==3) (lD t 1)) (cond (f==8) (and' (DH dg c) (lD t 1)) (cond (f==3) (and' (DH dg c) (lD t 5))
  (cond (f==10) (and' (DH dg c) (lD t 2)) (cond (f==6) (cond (p==129) (and' (DH dg c) (lD t 5)) (and' (DH dg c) (lD t 2)))
   (cond (f==5) (and' (cond (Int.fdiv c (2 ^ 6)==0) (aC c 7==4) false) (cond (lD t 2) (lD t 6) (and' (t.headD 0==37) (lD t 6))))
    (cond (f==2) (lD t 8) (cond (f==13) (lD t 4) (cond (f==15) (lD t 4) (cond (f==14) (lD t 1) (cond (f==16) (lD t 1) (cond (f==4) (IV r c t) false)))))))))))))
theorem a52 (n:Int):wi (aC n 7)=aC n 7:=by
 have h:0<=aC n 7/\aC n 7<256:=by
  unfold aC;rw [Go.Wd.wrap_u8];omega
 exact wrap_i64 (by omega) (by omega)
section
variable {dg:Int} {l:List Int} {k:Int} (k0:1<=k) (k1:k<=l.length) (hl:l.length<1000)
include k0 k1 hl in
theorem a8N:∀ f ∈ fB,jZ dg l k (jY l k f)=some (.bool (IY f dg (lR l) (aB l (k - 1)) (l.drop k.toNat))):=by
 have e0:=RW (l:=l) (k:=k) (by omega) hl k1;have e:wi (k+1)=k+1:=wrap_i64 (n:=k+1) (by omega) (by omega);have g:wi (k - 1)=k - 1:=wrap_i64 (n:=k - 1) (by omega) (by omega);have c:decide (0<=k)=true:=decide_eq_true (by omega);have c1:decide (0<=k+1)=true:=decide_eq_true (by omega);have c2:decide (0<=k - 1)=true:=decide_eq_true (by omega);intro f b;by_cases hk:k<(l.length:Int)
 ·have m:=J1 (l:=l) (k:=k) (by omega) hk
  have e3:l.drop k.toNat=aB l k :: l.drop (k+1).toNat:=m
  have i:(l.drop (k+1).toNat).headD 0=aB l (k+1):=by
   unfold aB;by_cases h:k+1<(l.length:Int)
   ·rw [J1 (l:=l) (k:=k+1) (by omega) h]; rfl
   ·rw [List.drop_eq_nil_iff.2 (by omega),ZG0,List.getElem?_eq_none (by omega)]; rfl
  have j:decide (0<=k/\k<l.length/\l.length<1000)=true:=decide_eq_true ⟨by omega,hk,hl⟩
  have d:(j3 l k==0)=false:=by rw [e0,e3]; exact beq_false_of_ne (by simp only [ZD3]; omega)
  have a:j3 l k=((l.drop (k+1).toNat).length:Int)+1:=by rw [e0,e3]; simp
  unfold jZ PK;rw [c,d,e3];simp only [cond_true,cond_false,a52];unfold jY gC IL sU;rw [e,g,c1,c2,j,d,a];generalize o:l.drop (k+1).toNat=t at i ⊢;simp only [fB,ZE3,List.not_mem_nil,or_false] at b;rw [<- i];unfold IY DH and' lD
  rcases b with rfl | rfl | rfl | rfl | rfl | rfl | rfl | rfl | rfl | rfl | rfl | rfl | rfl | rfl | rfl | rfl
  ·show cond _ (cond _ _ _) (cond _ _ _)=some (V.bool (cond (Int.fdiv (aB l k) (2 ^ 6)==3) _ false))
   cases Int.fdiv (aB l k) (2 ^ 6)==3 <;> rfl
  ·cases Int.fdiv (aB l k) (2 ^ 6)==3 <;> rfl
  ·show cond _ (cond _ _ _) (cond _ _ _)=some (V.bool (cond (cond (Int.fdiv (aB l k) (2 ^ 6)==3) _ false) _ false))
   cases Int.fdiv (aB l k) (2 ^ 6)==3 <;> cases aC (Int.fdiv (aB l k) (2 ^ 3)) 7==dg <;> rfl
  ·cases Int.fdiv (aB l k) (2 ^ 6)==3 <;> rfl
  ·show cond _ (cond _ (cond _ _ _) (cond _ _ _)) _=some (V.bool (cond (cond (Int.fdiv (aB l k) (2 ^ 6)==0) (aC (aB l k) 7==4) false) (cond _ _ (cond (t.headD 0==37) _ false)) false))
   cases Int.fdiv (aB l k) (2 ^ 6)==3 <;> cases Int.fdiv (aB l k) (2 ^ 6)==0 <;> cases aC (aB l k) 7==4 <;> cases decide (((t.length:Nat):Int)+1<2) <;> cases t.headD 0==37 <;> rfl
  ·show cond _ (cond (aB l (k - 1)==129) _ _) (cond (aB l (k - 1)==129) _ _)=some (V.bool (cond (aB l (k - 1)==129) (cond (cond (Int.fdiv (aB l k) (2 ^ 6)==3) _ false) _ false) (cond (cond (Int.fdiv (aB l k) (2 ^ 6)==3) _ false) _ false)))
   cases Int.fdiv (aB l k) (2 ^ 6)==3 <;> cases aC (Int.fdiv (aB l k) (2 ^ 3)) 7==dg <;> cases aB l (k - 1)==129 <;> rfl
  ·show cond _ (cond _ _ _) (cond _ _ _)=some (V.bool (cond (Int.fdiv (aB l k) (2 ^ 6)==3) _ false))
   cases Int.fdiv (aB l k) (2 ^ 6)==3 <;> rfl
  ·show cond _ (cond _ _ _) (cond _ _ _)=some (V.bool (cond (cond (Int.fdiv (aB l k) (2 ^ 6)==3) _ false) _ false))
   cases Int.fdiv (aB l k) (2 ^ 6)==3 <;> cases aC (Int.fdiv (aB l k) (2 ^ 3)) 7==dg <;> rfl
  ·cases Int.fdiv (aB l k) (2 ^ 6)==3 <;> rfl
  ·show cond _ (cond _ _ _) (cond _ _ _)=some (V.bool (cond (cond (Int.fdiv (aB l k) (2 ^ 6)==3) _ false) _ false))
   cases Int.fdiv (aB l k) (2 ^ 6)==3 <;> cases aC (Int.fdiv (aB l k) (2 ^ 3)) 7==dg <;> rfl
  ·show cond _ (cond _ _ _) (cond _ _ _)=some (V.bool (cond (Int.fdiv (aB l k) (2 ^ 6)==3) _ false))
   cases Int.fdiv (aB l k) (2 ^ 6)==3 <;> rfl
  ·cases Int.fdiv (aB l k) (2 ^ 6)==3 <;> rfl
  ·cases Int.fdiv (aB l k) (2 ^ 6)==3 <;> rfl
  ·cases Int.fdiv (aB l k) (2 ^ 6)==3 <;> rfl
  ·cases Int.fdiv (aB l k) (2 ^ 6)==3 <;> rfl
  ·cases Int.fdiv (aB l k) (2 ^ 6)==3 <;> rfl
 ·have e3:l.drop k.toNat=[]:=List.drop_eq_nil_iff.2 (by omega)
  have a:j3 l k=0:=by rw [e0,e3]; rfl
  unfold jZ PK;rw [c,a,e3];unfold jY gC IL sU;rw [e,g,c1,c2,a];simp only [fB,ZE3,List.not_mem_nil,or_false] at b
  rcases b with rfl | rfl | rfl | rfl | rfl | rfl | rfl | rfl | rfl | rfl | rfl | rfl | rfl | rfl | rfl | rfl
  all_goals first
   | rfl
   | (cases aB l (k - 1)==129 <;> rfl)
end
def XQ:Ab.Spec:=fun args=>match args with
 | [.agg [.str _,.int .i64 f,.sl (.int .u8) _ [] .ro,.int .i64 dg,.int .i64 _],.sl (.int .u8) l _ _,.int .i64 k] =>
  .aF (fB.contains f) (.aF (decide (1<=k/\k<=l.length/\l.length<1000)) (.leaf (.bool (IY f dg (lR l) (aB l (k - 1)) (l.drop k.toNat)))))
 | _=>.fail
theorem ad9 {nm:List UInt8} {op:List Int} {dg rx:Int} {l sp:List Int} {fl:Fl} {k f:Int} (a:f ∈ fB):(lG f nm op dg rx l sp fl k).fin=jZ dg l k (jY l k f):=by
 simp only [fB,ZE3,List.not_mem_nil,or_false] at a
 rcases a with rfl | rfl | rfl | rfl | rfl | rfl | rfl | rfl | rfl | rfl | rfl | rfl | rfl | rfl | rfl | rfl
 ·exact ak7 nm op dg rx l sp fl k
 ·exact akS nm op dg rx l sp fl k
 ·exact akH nm op dg rx l sp fl k
 ·exact akY nm op dg rx l sp fl k
 ·exact akC nm op dg rx l sp fl k
 ·exact al4 nm op dg rx l sp fl k
 ·exact ajS nm op dg rx l sp fl k
 ·exact ak5 nm op dg rx l sp fl k
 ·exact al3 nm op dg rx l sp fl k
 ·exact ah6 nm op dg rx l sp fl k
 ·exact aiH nm op dg rx l sp fl k
 ·exact agA nm op dg rx l sp fl k
 ·exact ahC nm op dg rx l sp fl k
 ·exact aiE nm op dg rx l sp fl k
 ·exact agM nm op dg rx l sp fl k
 ·exact ahQ nm op dg rx l sp fl k
theorem a3B:Sound prog 198 XQ:=by
 intro args out h;unfold XQ at h;split at h;rotate_left
 ·cases h
 rename_i nm f op dg rx l sp fl k;obtain ⟨b,h⟩:=aM h;obtain ⟨c,h⟩:=aM h;have h:=dU h;subst h;obtain ⟨k0,k1,hl⟩:=of_decide_eq_true c
 have a:f ∈ fB:=by simpa using b
 exact cE (cx:=aMK) (fn:=Tryz.f198) (bU (.cons tP (dT aVL)) (.nil _) rfl rfl) (by kernel_rfl) (by kernel_rfl) (by kernel_rfl) ((Tree.bJ _).symm.trans ((ad9 a).trans (a8N k0 k1 hl f a)))
end Go.Amd

namespace Go.Amd
open Go Go.Ab Go.Proofs
def C9 (a b:Int):Int:=IntKind.wrap .u8 ↑(BitVec.toNat (BitVec.ofInt 8 a &&& ~~~(BitVec.ofInt 8 b)))
noncomputable def aNG:Cx:={ P:=prog,n:=90,tab:=[(72,BY),(198,XQ)],mtab:=[],refs:=[],keeps:=[0,1,2,3,6,7,8,9,14,20,31,45,66,69,83],fuel:=4 }
noncomputable abbrev dY (f:Int) (nm:List UInt8) (c:List Int) (dg rx:Int) (l sp:List Int) (fl:Fl) (k:Int):=(a7 aNG Tryz.f139 [.agg [.str nm,.int .i64 f,.sl (.int .u8) c [] .ro,.int .i64 dg,.int .i64 rx],.sl (.int .u8) l sp fl,.int .i64 k])
section
variable (dg:Int) (l:List Int)
def ocC (f:Int) (last:Bool) (c:Int) (K:Int->Option V):Option V:=
 cond (cond last (f==2 || f==12) false) (K (C9 c 7)) (cond (cond last (f==11 || f==15 || f==16) false) (cond (!(j6 (wi (aC c 15)))) (eN false) (K (C9 c 15)))
  (cond (f==6) (cond (c==129) (K 131) (K c)) (K c)))
def ocT (f k:Int):Option V:=cond (decide (1<=k/\k<=l.length/\l.length<1000)) (eN (IY f dg (lR l) (aB l (k - 1)) (l.drop k.toNat))) none
def dM (f:Int):List Int->Int->Option V
 | [],k=>ocT dg l f k
 | a :: d,k=>cond (k==(l.length:Nat)) (eN true) (cond (inside k l.length) (ocC f d.isEmpty (pM l k) fun c=>cond (c != a) (eN false) (dM f d (wi (k+1)))) none)
end
section
variable (nm:List UInt8) (a b dg rx:Int) (l sp:List Int) (fl:Fl) (k:Int)
theorem agN:(dY 1 nm [a] dg rx l sp fl k).fin=dM dg l 1 [a] k:=by kernel_rfl
theorem aiS:(dY 1 nm [a,b] dg rx l sp fl k).fin=dM dg l 1 [a,b] k:=by kernel_rfl
theorem aiR:(dY 2 nm [a] dg rx l sp fl k).fin=dM dg l 2 [a] k:=by kernel_rfl
theorem ah4:(dY 2 nm [a,b] dg rx l sp fl k).fin=dM dg l 2 [a,b] k:=by kernel_rfl
theorem ag7:(dY 3 nm [a] dg rx l sp fl k).fin=dM dg l 3 [a] k:=by kernel_rfl
theorem ai4:(dY 3 nm [a,b] dg rx l sp fl k).fin=dM dg l 3 [a,b] k:=by kernel_rfl
theorem agB:(dY 4 nm [a] dg rx l sp fl k).fin=dM dg l 4 [a] k:=by kernel_rfl
theorem aiF:(dY 4 nm [a,b] dg rx l sp fl k).fin=dM dg l 4 [a,b] k:=by kernel_rfl
theorem aiZ:(dY 5 nm [a] dg rx l sp fl k).fin=dM dg l 5 [a] k:=by kernel_rfl
theorem ag8:(dY 5 nm [a,b] dg rx l sp fl k).fin=dM dg l 5 [a,b] k:=by kernel_rfl
theorem aiO:(dY 6 nm [a] dg rx l sp fl k).fin=dM dg l 6 [a] k:=by kernel_rfl
theorem aiB:(dY 6 nm [a,b] dg rx l sp fl k).fin=dM dg l 6 [a,b] k:=by kernel_rfl
theorem agU:(dY 7 nm [a] dg rx l sp fl k).fin=dM dg l 7 [a] k:=by kernel_rfl
theorem agD:(dY 7 nm [a,b] dg rx l sp fl k).fin=dM dg l 7 [a,b] k:=by kernel_rfl
theorem aiV:(dY 8 nm [a] dg rx l sp fl k).fin=dM dg l 8 [a] k:=by kernel_rfl
theorem afX:(dY 8 nm [a,b] dg rx l sp fl k).fin=dM dg l 8 [a,b] k:=by kernel_rfl
theorem aj8:(dY 9 nm [a] dg rx l sp fl k).fin=dM dg l 9 [a] k:=by kernel_rfl
theorem aj2:(dY 9 nm [a,b] dg rx l sp fl k).fin=dM dg l 9 [a,b] k:=by kernel_rfl
theorem aaC:(dY 10 nm [a] dg rx l sp fl k).fin=dM dg l 10 [a] k:=by kernel_rfl
theorem aaJ:(dY 10 nm [a,b] dg rx l sp fl k).fin=dM dg l 10 [a,b] k:=by kernel_rfl
theorem ad4:(dY 11 nm [a] dg rx l sp fl k).fin=dM dg l 11 [a] k:=by kernel_rfl
theorem adP:(dY 11 nm [a,b] dg rx l sp fl k).fin=dM dg l 11 [a,b] k:=by kernel_rfl
theorem aa5:(dY 12 nm [a] dg rx l sp fl k).fin=dM dg l 12 [a] k:=by kernel_rfl
theorem aeH:(dY 12 nm [a,b] dg rx l sp fl k).fin=dM dg l 12 [a,b] k:=by kernel_rfl
theorem acD:(dY 13 nm [a] dg rx l sp fl k).fin=dM dg l 13 [a] k:=by kernel_rfl
theorem ad5:(dY 13 nm [a,b] dg rx l sp fl k).fin=dM dg l 13 [a,b] k:=by kernel_rfl
theorem abX:(dY 14 nm [a] dg rx l sp fl k).fin=dM dg l 14 [a] k:=by kernel_rfl
theorem ae1:(dY 14 nm [a,b] dg rx l sp fl k).fin=dM dg l 14 [a,b] k:=by kernel_rfl
theorem acF:(dY 15 nm [a] dg rx l sp fl k).fin=dM dg l 15 [a] k:=by kernel_rfl
theorem ac5:(dY 15 nm [a,b] dg rx l sp fl k).fin=dM dg l 15 [a,b] k:=by kernel_rfl
theorem afK:(dY 16 nm [a] dg rx l sp fl k).fin=dM dg l 16 [a] k:=by kernel_rfl
theorem aeB:(dY 16 nm [a,b] dg rx l sp fl k).fin=dM dg l 16 [a,b] k:=by kernel_rfl
end
end Go.Amd

namespace Go.Amd
open Go Go.Ab Go.Proofs
def ocB (f:Int) (last:Bool) (c a:Int):Bool:=
 cond (cond last (f==2 || f==12) false) (C9 c 7==a) (cond (cond last (f==11 || f==15 || f==16) false) (cond (j6 (wi (aC c 15))) (C9 c 15==a) false) (cond (cond (f==6) (c==129) false) (131==a) (c==a)))
def AQ (f dg r:Int):List Int->Int->List Int->Bool
 | [],p,t=>IY f dg r p t
 | _ :: _,_,[]=>true
 | a :: op,_,c :: t=>and' (ocB f op.isEmpty c a) (AQ f dg r op c t)
theorem a8T {f dg r a c p:Int} {op t:List Int} {last:Bool} {K:Option V} (b:K=some (.bool (AQ f dg r op p t))) :
  ocC f last c (fun c=>cond (c != a) (eN false) K)=some (.bool (and' (ocB f last c a) (AQ f dg r op p t))):=by
 unfold ocC ocB and';subst b;have d:∀ x y:Int,(x != y) = !(x==y):=fun _ _=>rfl;simp only [d];cases cond last (f==2 || f==12) false
 ·cases cond last (f==11 || f==15 || f==16) false
  ·cases f==6
   ·cases c==a <;> rfl
   ·cases c==129
    ·cases c==a <;> rfl
    ·cases (131:Int)==a <;> rfl
  ·cases j6 (wi (aC c 15))
   ·rfl
   ·cases C9 c 15==a <;> rfl
 ·cases C9 c 7==a <;> rfl
theorem aJH {l:List Int} {f dg:Int} (c:l.length<1000):∀ (op:List Int) (k:Int),0<=k->k<=l.length->(op=[]->1<=k)->dM dg l f op k=some (.bool (AQ f dg (lR l) op (aB l (k - 1)) (l.drop k.toNat)))
 | [],k,_,k1,h=>by
  unfold dM ocT;rw [decide_eq_true ⟨h rfl,k1,c⟩];rfl
 | a :: op,k,k0,k1,_=>by
  unfold dM;by_cases hk:k<(l.length:Int)
  ·have e:wi (k+1)=k+1:=wrap_i64 (n:=k+1) (by omega) (by omega)
   have b:(k==(l.length:Int))=false:=beq_false_of_ne (by omega);rw [b,jI k0 hk,J1 k0 hk,cond_false,cond_true];have d:=aJH c (f:=f) (dg:=dg) op (k+1) (by omega) (by omega) (fun _=>by omega);rw [show k+1 - 1=k by omega] at d;rw [e];exact a8T (p:=aB l k) d
  ·have b:(k==(l.length:Int))=true:=beq_iff_eq.2 (by omega)
   rw [b,show l.drop k.toNat=[] from List.drop_eq_nil_iff.2 (by omega)];rfl
def TB:Ab.Spec:=fun args=>match args with
 | [.agg [.str _,.int .i64 f,.sl (.int .u8) op [] .ro,.int .i64 dg,.int .i64 _],.sl (.int .u8) l _ _,.int .i64 k] =>
  .aF (fB.contains f) (.aF (op.length==1 || op.length==2) (.aF (decide (0<=k/\k<=l.length/\l.length<1000)) (.leaf (.bool (AQ f dg (lR l) op (aB l (k - 1)) (l.drop k.toNat))))))
 | _=>.fail
theorem aaN {nm:List UInt8} {op:List Int} {dg rx:Int} {l sp:List Int} {fl:Fl} {k f:Int} (c:f ∈ fB) (d:(op.length==1 || op.length==2)=true):(dY f nm op dg rx l sp fl k).fin=dM dg l f op k:=by
 simp only [fB,ZE3,List.not_mem_nil,or_false] at c
 match op,d with
 | [a],_ =>
  rcases c with rfl | rfl | rfl | rfl | rfl | rfl | rfl | rfl | rfl | rfl | rfl | rfl | rfl | rfl | rfl | rfl
  ·exact agN nm a dg rx l sp fl k
  ·exact aiR nm a dg rx l sp fl k
  ·exact ag7 nm a dg rx l sp fl k
  ·exact agB nm a dg rx l sp fl k
  ·exact aiZ nm a dg rx l sp fl k
  ·exact aiO nm a dg rx l sp fl k
  ·exact agU nm a dg rx l sp fl k
  ·exact aiV nm a dg rx l sp fl k
  ·exact aj8 nm a dg rx l sp fl k
  ·exact aaC nm a dg rx l sp fl k
  ·exact ad4 nm a dg rx l sp fl k
  ·exact aa5 nm a dg rx l sp fl k
  ·exact acD nm a dg rx l sp fl k
  ·exact abX nm a dg rx l sp fl k
  ·exact acF nm a dg rx l sp fl k
  ·exact afK nm a dg rx l sp fl k
 | [a,b],_ =>
  rcases c with rfl | rfl | rfl | rfl | rfl | rfl | rfl | rfl | rfl | rfl | rfl | rfl | rfl | rfl | rfl | rfl
  ·exact aiS nm a b dg rx l sp fl k
  ·exact ah4 nm a b dg rx l sp fl k
  ·exact ai4 nm a b dg rx l sp fl k
  ·exact aiF nm a b dg rx l sp fl k
  ·exact ag8 nm a b dg rx l sp fl k
  ·exact aiB nm a b dg rx l sp fl k
  ·exact agD nm a b dg rx l sp fl k
  ·exact afX nm a b dg rx l sp fl k
  ·exact aj2 nm a b dg rx l sp fl k
  ·exact aaJ nm a b dg rx l sp fl k
  ·exact adP nm a b dg rx l sp fl k
  ·exact aeH nm a b dg rx l sp fl k
  ·exact ad5 nm a b dg rx l sp fl k
  ·exact ae1 nm a b dg rx l sp fl k
  ·exact ac5 nm a b dg rx l sp fl k
  ·exact aeB nm a b dg rx l sp fl k
 | [],h=>cases h
 | _ :: _ :: _ :: _,h=>exact absurd h (by simp)
theorem aW5:Sound prog 139 TB:=by
 intro args out h;unfold TB at h;split at h;rotate_left
 ·cases h
 rename_i nm f op dg rx l sp fl k;obtain ⟨c,h⟩:=aM h;obtain ⟨b,h⟩:=aM h;obtain ⟨d,h⟩:=aM h;have h:=dU h;subst h;obtain ⟨g,k1,hl⟩:=of_decide_eq_true d
 have e:f ∈ fB:=by simpa using c
 have a:op=[]->1<=k:=by rintro rfl; cases b
 exact cE (cx:=aNG) (fn:=Tryz.f139) (bU (.cons aDX (dT a3B)) (.nil _) rfl rfl) (by kernel_rfl) (by kernel_rfl) (by kernel_rfl) ((Tree.bJ _).symm.trans ((aaN e b).trans (aJH hl op k g k1 a)))
noncomputable def aN3:Cx:={ P:=prog,n:=90,tab:=[],mtab:=[],refs:=[],keeps:=[0,1,2,4,5,6,7,8,12,33,37,61] }
noncomputable abbrev lC (f:Int) (nm:List UInt8) (op:List Int) (dg rx r:Int):=(a7 aN3 Tryz.f138 [.agg [.str nm,.int .i64 f,.sl (.int .u8) op [] .ro,.int .i64 dg,.int .i64 rx],.int .i64 r])
def XT (a b:Int):Int:=IntKind.wrap .i64 ↑(BitVec.toNat (BitVec.ofInt 64 a &&& ~~~(BitVec.ofInt 64 b)))
def XF (f:Int):Int:=cond (f==1 || f==7 || f==11 || f==4 || f==5) (cond (f==4) 7 (cond (f==5) 4 5)) (cond (f==9 || f==13 || f==14 || f==15 || f==16) 0 1)
def rdL (rx r:Int) (b:Bool):Option V:=cond b (cond (decide (0<rx)) (eN true) (eN (decide (0<cO r 7)))) (eN false)
def kT (f rx r:Int):Option V:=cond (decide (r<0)) (eN (rx==0)) (cond ((cO (Int.fdiv r (2 ^ 3)) 1==1)==(rx==2)) (rdL rx r (XT (cO r 7) (XF f)==0)) (rdL rx r false))
def IC (f rx r:Int):Bool:=cond (decide (r<0)) (rx==0) (cond ((cO (Int.fdiv r (2 ^ 3)) 1==1)==(rx==2)) (cond (XT (cO r 7) (XF f)==0) (cond (decide (0<rx)) true (decide (0<cO r 7))) false) false)
section
variable (nm:List UInt8) (op:List Int) (dg rx r:Int)
theorem akE:(lC 1 nm op dg rx r).fin=kT 1 rx r:=by kernel_rfl
theorem akK:(lC 2 nm op dg rx r).fin=kT 2 rx r:=by kernel_rfl
theorem akN:(lC 3 nm op dg rx r).fin=kT 3 rx r:=by kernel_rfl
theorem akM:(lC 4 nm op dg rx r).fin=kT 4 rx r:=by kernel_rfl
theorem akV:(lC 5 nm op dg rx r).fin=kT 5 rx r:=by kernel_rfl
theorem al8:(lC 6 nm op dg rx r).fin=kT 6 rx r:=by kernel_rfl
theorem alE:(lC 7 nm op dg rx r).fin=kT 7 rx r:=by kernel_rfl
theorem al9:(lC 8 nm op dg rx r).fin=kT 8 rx r:=by kernel_rfl
theorem ak1:(lC 9 nm op dg rx r).fin=kT 9 rx r:=by kernel_rfl
theorem ajQ:(lC 10 nm op dg rx r).fin=kT 10 rx r:=by kernel_rfl
theorem ah8:(lC 11 nm op dg rx r).fin=kT 11 rx r:=by kernel_rfl
theorem aiG:(lC 12 nm op dg rx r).fin=kT 12 rx r:=by kernel_rfl
theorem aiX:(lC 13 nm op dg rx r).fin=kT 13 rx r:=by kernel_rfl
theorem ai0:(lC 14 nm op dg rx r).fin=kT 14 rx r:=by kernel_rfl
theorem ai1:(lC 15 nm op dg rx r).fin=kT 15 rx r:=by kernel_rfl
theorem aj0:(lC 16 nm op dg rx r).fin=kT 16 rx r:=by kernel_rfl
end
theorem acI {nm:List UInt8} {op:List Int} {dg rx r f:Int} (a:f ∈ fB):(lC f nm op dg rx r).fin=kT f rx r:=by
 simp only [fB,ZE3,List.not_mem_nil,or_false] at a
 rcases a with rfl | rfl | rfl | rfl | rfl | rfl | rfl | rfl | rfl | rfl | rfl | rfl | rfl | rfl | rfl | rfl
 ·exact akE nm op dg rx r
 ·exact akK nm op dg rx r
 ·exact akN nm op dg rx r
 ·exact akM nm op dg rx r
 ·exact akV nm op dg rx r
 ·exact al8 nm op dg rx r
 ·exact alE nm op dg rx r
 ·exact al9 nm op dg rx r
 ·exact ak1 nm op dg rx r
 ·exact ajQ nm op dg rx r
 ·exact ah8 nm op dg rx r
 ·exact aiG nm op dg rx r
 ·exact aiX nm op dg rx r
 ·exact ai0 nm op dg rx r
 ·exact ai1 nm op dg rx r
 ·exact aj0 nm op dg rx r
def WA:Ab.Spec:=fun args=>match args with
 | [.agg [.str _,.int .i64 f,.sl (.int .u8) _ [] .ro,.int .i64 _,.int .i64 rx],.int .i64 r]=>.aF (fB.contains f) (.leaf (.bool (IC f rx r)))
 | _=>.fail
theorem a00:Sound prog 138 WA:=by
 intro args out h;unfold WA at h;split at h;rotate_left
 ·cases h
 rename_i nm f op dg rx r;obtain ⟨a,h⟩:=aM h;have h:=dU h;subst h
 have b:f ∈ fB:=by simpa using a
 refine cE (cx:=aN3) (fn:=Tryz.f138) (dO rfl rfl) (by kernel_rfl) (by kernel_rfl) (by kernel_rfl) ((Tree.bJ _).symm.trans ((acI b).trans ?_));unfold kT rdL IC;cases decide (r<0) <;> cases ((cO (Int.fdiv r (2 ^ 3)) 1==1)==(rx==2)) <;> cases XT (cO r 7) (XF f)==0 <;> cases decide (0<rx) <;> rfl
end Go.Amd

namespace Go.Amd
open Go Go.Ab Go.Proofs
noncomputable def uG:Cx:={ P:=prog,n:=61,tab:=[(134,uZ),(126,GK),(138,WA),(139,TB)],mtab:=[],refs:=[],keeps:=[0,2,3,4,5,6,7,11,15,21,33,60] }
noncomputable abbrev p7:Code:=cA Tryz.f90
noncomputable abbrev Rgo:Code:=cin (cin (c2 (c1 (aJ 7 p7))))
def opL:Option (List Int)->List Int
 | some l=>l
 | none=>[]
section
variable (l sp:List Int) (fl:Fl) (k r:Int) (fs:Bool) (j:Int)
def mW (x:Bool) (n:Int):T:=[(0,.sl (.int .u8) l sp fl),(2,.bool x),(3,.int .i64 k),(4,.bool fs),(5,.int .i64 r),(6,.sl NF bN [] .ro),(7,.int .i64 n)]
def goR (y:gX):Option St:=
 cond (fs==(y.2.1==5)) (cond (IC y.2.1 y.2.2.2.2 r) (cond (decide (0<=k/\k<=l.length/\l.length<1000)) (cond (AQ y.2.1 y.2.2.2.1 (lR l) (opL y.2.2.1) (aB l (k - 1)) (l.drop k.toNat))
  (some (.ret,mW l sp fl k r fs true j,[])) (some (.normal,mW l sp fl k r fs false (wi (j+1)),[]))) none) (some (.normal,mW l sp fl k r fs false (wi (j+1)),[]))) (some (.normal,mW l sp fl k r fs false (wi (j+1)),[]))
end
theorem a6N:(List.range 58).map (fun (j:Nat)=>fun (l sp:List Int) (fl:Fl) (k r:Int) (fs:Bool)=>((aK uG Rgo (mW l sp fl k r fs false (j:Int)) []).bind (rD 0 [] [0,2,3,4,5,6,7])).fin)
 = (List.range 58).map (fun (j:Nat)=>fun (l sp:List Int) (fl:Fl) (k r:Int) (fs:Bool)=>goR l sp fl k r fs (j:Int) (bN.getD j zM)):=by kernel_rfl
theorem abN (l sp:List Int) (fl:Fl) (k r:Int) (fs:Bool):((aK uG Rgo (mW l sp fl k r fs false 58) []).bind (rD 0 [] [0,2,3,4,5,6,7])).fin=some (.exit 0,mW l sp fl k r fs false 58,[]):=by kernel_rfl
section
variable (l sp:List Int) (fl:Fl)
def goN (k r:Int) (a b:Bool) (c:Bool):Option St:=some (.normal,[(0,.sl (.int .u8) l sp fl),(2,.bool false),(3,.int .i64 k),(4,.bool (aB l 0==100)),(5,.int .i64 r),(11,.bool a),(15,.bool b),(21,.bool c)],[])
def PL (k:Int) (a:Bool):Option St:=
 cond ((l.length:Nat)==k) (some (.ret,[(0,.sl (.int .u8) l sp fl),(2,.bool true),(3,.int .i64 k),(4,.bool (aB l 0==100)),(11,.bool a),(15,.bool true)],[]))
  (cond (inside k l.length) (cond (Int.fdiv (pM l k) (2 ^ 4)==4) (cond (inside k l.length) (goN l sp fl (wi (k+1)) (wi (pM l k)) a false true) none) (goN l sp fl k (-1) a false false)) none)
def aPL:Option St:=cond (aB l 0==100) (PL l sp fl 1 true) (PL l sp fl 0 false)
end
theorem a8J (l sp:List Int) (fl:Fl):(aK uG (eQ 6 p7) (dZ 0 [.sl (.int .u8) l sp fl]) []).fin=aPL l sp fl:=by kernel_rfl
end Go.Amd

namespace Go.Amd
open Go Go.Ab Go.Proofs
def qC (l:List Int) (k r:Int) (fs:Bool) (y:gX):Bool:=
 and' (fs==(y.2.1==5)) (and' (IC y.2.1 y.2.2.2.2 r) (AQ y.2.1 y.2.2.2.1 (lR l) (opL y.2.2.1) (aB l (k - 1)) (l.drop k.toNat)))
theorem acS {l sp:List Int} {fl:Fl} {k r:Int} {fs:Bool} {j:Int} {y:gX} (h:0<=k/\k<=l.length/\l.length<1000) :
  goR l sp fl k r fs j y=cond (qC l k r fs y) (some (.ret,mW l sp fl k r fs true j,[])) (some (.normal,mW l sp fl k r fs false (wi (j+1)),[])):=by
 unfold goR qC and';rw [decide_eq_true h];cases (fs==(y.2.1==5)) <;> cases IC y.2.1 y.2.2.2.2 r <;> rfl
theorem yU:aW uG:=bU (.cons tP (.cons Q3 (.cons a00 (dT aW5)))) (.nil _) rfl rfl
abbrev goQ (v:Bool) (e:AEx) (t:T) (H:List O):Prop:=(e = .ret\/e = .normal)/\hD prog Tryz.f90.results.toList H t=some (.bool v)
theorem T9 {t:T} {H:List O} {x:Bool} (h:Ab.get 2 t = .bool x):hD prog Tryz.f90.results.toList H t=some (.bool x):=by
 unfold hD;rw [show Tryz.f90.results.toList=[.tmp 2] from by kernel_rfl];simp [q6,h,V.pures?,V.pure?]
theorem aX9 {α:Type} {st:α->T × List O} {a:α->Nat} {ks:List Nat} {Q:AEx->T->List O->Prop} {i:α} {t:T} {H:List O} (j:α) (b:a j<a i) (c:dK t (st j).1) (d:H=(st j).2):rS st a ks Q i (.normal,t,H):=⟨j,b,c,d⟩
theorem aVM {α:Type} {st:α->T × List O} {a:α->Nat} {ks:List Nat} {Q:AEx->T->List O->Prop} {i:α} {t:T} {H:List O} (h:∀ t',t=bC ks t' -> Q .ret t' H):rS st a ks Q i (.ret,t,H):=h
theorem aT4 {α:Type} {st:α->T × List O} {a:α->Nat} {ks:List Nat} {Q:AEx->T->List O->Prop} {i:α} {n:Nat} {t:T} {H:List O} (h:∀ t',t=bC ks t' -> Q (.exit n) t' H):rS st a ks Q i (.exit n,t,H):=h
theorem aFR:bN.length=58:=by kernel_rfl
theorem any_none {α:Type} {p:α->Bool} {L:List α} {d:α} {j:Nat} (a:j<L.length) (h:(L.take j).any p=false):(L.take (j+1)).any p=p (L.getD j d):=by
 rw [List.take_succ_eq_append_getElem a,List.any_append,h,oD a];simp
section
variable {l sp:List Int} {fl:Fl} {k r:Int} {fs:Bool}
set_option maxRecDepth 8000 in
set_option maxHeartbeats 4000000 in
theorem aHZ (x:0<=k/\k<=l.length/\l.length<1000) :
  aI prog Tryz.f90.ntmps (aJ 6 p7) (goQ (bN.any (qC l k r fs))) [(0,.sl (.int .u8) l sp fl),(2,.bool false),(3,.int .i64 k),(4,.bool fs),(5,.int .i64 r)] []:=by
 refine tF (cx:=uG) rfl rfl yU 0 [0,2,3,4,5,6] (t' := [(0,.sl (.int .u8) l sp fl),(2,.bool false),(3,.int .i64 k),(4,.bool fs),(5,.int .i64 r),(6,.sl NF bN [] .ro)]) (H' := []) (by kernel_rfl) (by kernel_rfl) ?_
 have e:aJ 0 (aJ 6 p7) = .seq (.seq (c1 (c1 (aJ 7 p7))) (.block 0 (.loop Rgo))) (c2 (aJ 7 p7)):=by kernel_rfl
 rw [e];generalize h:goQ (bN.any (qC l k r fs))=Q;refine cL (cL (dA (cx:=uG) rfl rfl yU (s:=(.normal,mW l sp fl k r fs false ((0:Nat):Int),[])) (by kernel_rfl) ?_));show aI _ _ _ _ _ _;refine mA ?_;refine xX (cx:=uG) (P:=prog) (n:=Tryz.f90.ntmps) rfl rfl yU (fun j:{ j:Nat // j<=58/\(bN.take j).any (qC l k r fs)=false }=>(mW l sp fl k r fs false (j.1:Int),[])) (fun j=>58 - j.1) [] [0,2,3,4,5,6,7] ?_ ⟨0,Nat.zero_le _,rfl⟩
 rintro ⟨j,hj,hnone⟩;by_cases hlt:j<58
 ·have v:=List.map_inj_left.1 a6N j (List.mem_range.2 hlt)
  have w:=congrFun (congrFun (congrFun (congrFun (congrFun (congrFun v l) sp) fl) k) r) fs;have f:=(Tree.bJ _).symm.trans (w.trans (acS x))
  have hlen:j<bN.length:=by rw [aFR]; exact hlt
  have i:=any_none (d:=zM) hlen hnone;cases q:qC l k r fs (bN.getD j zM)
  ·rw [q] at f i
   refine Tree.gH (b:=(.normal,mW l sp fl k r fs false (wi ((j:Int)+1)),[])) f (aX9 ⟨j+1,hlt,i⟩ (by show 58 - (j+1)<58 - j; omega) ?_ rfl);refine Fits.tle ⟨rfl,rfl,rfl,rfl,rfl,rfl,?_,trivial⟩;show V.int .i64 (wi ((j:Int)+1))=V.int .i64 ((j+1:Nat):Int);rw [show wi ((j:Int)+1)=(j:Int)+1 from wrap_i64 (by omega) (by omega)];rfl
  ·rw [q] at f i
   have f:=f.trans (cond_true _ _);refine Tree.gH f ?_;generalize c : mW l sp fl k r fs true (j:Int)=u;refine aVM ?_;subst c;intro t o
   have a:bN.any (qC l k r fs)=true:=by
    rw [<- List.take_append_drop (j+1) bN,List.any_append,i];rfl
   rw [a] at h;subst h;refine ⟨.inl rfl,T9 ?_⟩;have p:Ab.get 2 (mW l sp fl k r fs true (j:Int)) = .bool true:=rfl
   rcases J9 o 2 with g | g
   ·exact g.symm.trans p
   ·rw [p] at g; cases g
 ·have m : j=58:=by omega
  subst m;refine Tree.gH ((Tree.bJ _).symm.trans (abN l sp fl k r fs)) ?_;generalize c : mW l sp fl k r fs false 58=u;refine aT4 ?_;subst c;intro t o
  have a:bN.any (qC l k r fs)=false:=by
   rw [<- hnone,List.take_of_length_le (by rw [aFR]; exact Nat.le_refl _)]
  show aI _ _ _ _ _ _;refine aI.less (s:=[(0,.sl (.int .u8) l sp fl)]) ?_ ?_
  ·intro d
   rcases J9 o d with g | g
   ·match d,g with
    | 0,g=>exact .inl g
    | d+1,_=>exact .inr rfl
   ·match d,g with
    | 0,g=>cases g
    | d+1,_=>exact .inr rfl
  refine dA (cx:=uG) rfl rfl yU (s:=(.ret,[(0,.sl (.int .u8) l sp fl),(2,.bool false)],[])) (by kernel_rfl) ?_;rw [a] at h;subst h;exact ⟨.inl rfl,T9 rfl⟩
end
def wH (l:List Int):Bool:=
 let fs:=aB l 0==100
 let k:=cond fs 1 0
 cond (((l.length:Nat):Int)==k) true (cond (Int.fdiv (aB l k) (2 ^ 4)==4) (bN.any (qC l (k+1) (wi (aB l k)) fs)) (bN.any (qC l k (-1) fs)))
theorem aLS {l sp:List Int} {fl:Fl} {k:Int} {a:Bool} (e:0<=k) (k1:k<=1) (k2:k<=l.length) (d:l.length<1000) {v:Bool}
  (h:(aK uG (eQ 6 p7) (dZ 0 [.sl (.int .u8) l sp fl]) []).fin=PL l sp fl k a)
  (b:v=cond (((l.length:Nat):Int)==k) true (cond (Int.fdiv (aB l k) (2 ^ 4)==4) (bN.any (qC l (k+1) (wi (aB l k)) (aB l 0==100))) (bN.any (qC l k (-1) (aB l 0==100))))) :
  aI prog Tryz.f90.ntmps p7 (goQ v) (dZ 0 [.sl (.int .u8) l sp fl]) []:=by
 have h:=(Tree.bJ _).symm.trans h;unfold PL goN at h;have f:wi (k+1)=k+1:=wrap_i64 (n:=k+1) (by omega) (by omega);have g:pM l k=aB l k:=rfl;rw [f,g] at h;by_cases hk:(l.length:Int)=k
 ·rw [beq_iff_eq.2 hk] at h b
  subst b;refine yM rfl rfl yU 6 p7 _ _ _ (by kernel_rfl) (Tree.gH h ?_);exact ⟨.inl rfl,T9 rfl⟩
 ·rw [beq_false_of_ne hk,jI e (by omega)] at h
  rw [beq_false_of_ne hk] at b;cases c:(Int.fdiv (aB l k) (2 ^ 4)==4)
  ·rw [c] at h b
   refine yM rfl rfl yU 6 p7 _ _ _ (by kernel_rfl) (Tree.gH h ?_);show aI _ _ _ _ _ _;rw [b];exact aI.less (s:=[(0,.sl (.int .u8) l sp fl),(2,.bool false),(3,.int .i64 k),(4,.bool (aB l 0==100)),(5,.int .i64 (-1))]) (Fits.tle ⟨rfl,rfl,rfl,rfl,rfl,trivial⟩) (aHZ ⟨e,k2,d⟩)
  ·rw [c] at h b
   refine yM rfl rfl yU 6 p7 _ _ _ (by kernel_rfl) (Tree.gH h ?_);show aI _ _ _ _ _ _;rw [b];exact aI.less (s:=[(0,.sl (.int .u8) l sp fl),(2,.bool false),(3,.int .i64 (k+1)),(4,.bool (aB l 0==100)),(5,.int .i64 (wi (aB l k)))]) (Fits.tle ⟨rfl,rfl,rfl,rfl,rfl,trivial⟩) (aHZ ⟨by omega,by omega,d⟩)
theorem a7D {l sp:List Int} {fl:Fl} (b:l.length<1000):jS prog 90 [.sl (.int .u8) l sp fl] (.bool (wH l)):=by
 refine vG (c:=p7) (fn:=Tryz.f90) (by kernel_rfl) (by kernel_rfl) (by kernel_rfl) (by kernel_rfl) ?_;have h:=a8J l sp fl;unfold aPL at h;cases a:(aB l 0==100)
 ·rw [a] at h
  refine aLS (k:=0) (by omega) (by omega) (by omega) b h ?_;unfold wH;rw [a];rfl
 ·rw [a] at h
  have d:1<=l.length:=by
   cases l with
   | nil=>exact absurd a (by decide)
   | cons c t=>simp
  refine aLS (k:=1) (by omega) (by omega) (by omega) b h ?_;unfold wH;rw [a];rfl
def XO:Ab.Spec:=fun args=>match args with
 | [.sl (.int .u8) l _ _]=>.aF (decide (l.length<1000)) (.leaf (.bool (wH l)))
 | _=>.fail
theorem a41:Sound prog 90 XO:=by
 intro args out h;unfold XO at h;split at h;rotate_left
 ·cases h
 rename_i l sp fl;obtain ⟨a,h⟩:=aM h;have h:=dU h;subst h;exact a7D (of_decide_eq_true a)
end Go.Amd
