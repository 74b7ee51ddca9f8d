/-
  Decoding an instruction's bytes comes to what stands behind its opcode. Conditions: none.
-/
import Derived.Test.YtbefgnmdliefjaaGreatDoorPk21
open Bool renaming and_eq_true_iff→ZA0,and_eq_true→ZA2
open List renaming length_cons→ZD3,length_append→ZE0,all_eq_true→ZE1,length_nil→ZE2,mem_cons→ZE3
open Int renaming toNat_natCast→ZJ0
set_option linter.unusedVariables false
set_option linter.unusedSimpArgs false
namespace Go.Amd
open Go Go.Ab Go.Proofs
def jR (x:RowT) (i:aE):List Int:=nT (aA x)++hY x.2.1 (rI x i)++bS x i
theorem JK {x:RowT} (e:x ∈ aD) (i:aE):eI x i=((jR x i).length:Int):=by
 obtain ⟨f,-,q3⟩:=GN e
 have c:((bS x i).length:Int)=cond (decide (255<x.2.2.1)) 2 1:=by
  unfold bS bY;cases decide (255<x.2.2.1) <;> rfl
 unfold eI pU oT jR;rw [ZE0,ZE0,Int.natCast_add,Int.natCast_add,c];by_cases h10:aA x=10
 ·obtain ⟨b,h2⟩:=q3 h10
  unfold nT hY;rw [h10,b,decide_eq_false (by omega)];rfl
 ·have d:(aA x==10)=false:=beq_eq_false_iff_ne.2 h10
  have a:((hY x.2.1 (rI x i)).length:Int)=cond (!(x.2.1==0&&rI x i==0)) 1 0:=by
   unfold hY
   rcases f with a | a | a
   ·rw [a]
    unfold bne;cases (rI x i==0) <;> rfl
   ·rw [a]; rfl
   ·rw [a]; rfl
  rw [a];unfold nT;rw [d];show _=(0:Int)+_+_;rw [Int.zero_add,cond_false]
theorem aWY {x:RowT} (a:x ∈ aD) {i:aE} (h:okF x i.2.1 i.2.2.1 i.2.2.2.1 i.2.2.2.2.1=true) (c:eD (aA x)=false) (t:List Int) :
  dH (jR x i++t)=pE (aY (cB x i) x (bS x i) 0 t (eI x i)):=by
 have g:eS (jR x i++t)=_:=taken a h t;have d:=m8 a h
 have f:(jR x i++t).drop (eI x i).toNat=t:=by
  rw [JK a,ZJ0,List.drop_left]
 have b:∃ G,gR (cB x i) (bS x i) (pU x) (oT x i)=x :: G:=by
  rcases (P7 (aIC a h) d.1 d.2 (aHV a h)).1 c with e | ⟨G,e,-⟩
  ·exact ⟨[],e⟩
  ·exact ⟨G,e⟩
 obtain ⟨G,b⟩:=b;unfold dH;rw [g]
 show (match gR (cB x i) (bS x i) (pU x) (oT x i) with
  | []=>(Except.error 22:Except Int (aE × Int))
  | r0 :: G=>cond (eD (aA r0)) (xC (cB x i) (bS x i) (eI x i) (r0 :: G) ((jR x i++t).drop (eI x i).toNat)) (pE (aY (cB x i) r0 (bS x i) 0 ((jR x i++t).drop (eI x i).toNat) (eI x i))))=_
 rw [b];show cond (eD (aA x)) _ (pE (aY (cB x i) x (bS x i) 0 ((jR x i++t).drop (eI x i).toNat) (eI x i)))=_;rw [c,f];rfl
theorem a7H {x:RowT} (a:x ∈ aD) {i:aE} (h:okF x i.2.1 i.2.2.1 i.2.2.2.1 i.2.2.2.2.1=true) (g:eD (aA x)=true) {c:Int} (e:cR c x=true) (t:List Int) :
  dH (jR x i++c :: t)=pE (aY (cB x i) x (bS x i) c t (eI x i+1)):=by
 have j:eS (jR x i++c :: t)=_:=taken a h (c :: t);have b:=m8 a h
 have d:(jR x i++c :: t).drop (eI x i).toNat=c :: t:=by
  rw [JK a,ZJ0,List.drop_left]
 obtain ⟨r0,G,hc,hm0,hG⟩:=(P7 (aIC a h) b.1 b.2 (aHV a h)).2 g;have f:=hG c e;unfold dH;rw [j]
 show (match gR (cB x i) (bS x i) (pU x) (oT x i) with
  | []=>(Except.error 22:Except Int (aE × Int))
  | r0 :: G=>cond (eD (aA r0)) (xC (cB x i) (bS x i) (eI x i) (r0 :: G) ((jR x i++c :: t).drop (eI x i).toNat)) (pE (aY (cB x i) r0 (bS x i) 0 ((jR x i++c :: t).drop (eI x i).toNat) (eI x i))))=_
 rw [hc];show cond (eD (aA r0)) (xC (cB x i) (bS x i) (eI x i) (r0 :: G) ((jR x i++c :: t).drop (eI x i).toNat)) _=_;rw [hm0,d]
 show (match (r0 :: G).find? (cR c) with
  | some y=>pE (aY (cB x i) y (bS x i) c t (eI x i+1))
  | none=>(Except.error 22:Except Int (aE × Int)))=_
 rw [f]
end Go.Amd

namespace Go.Amd
open Go Go.Ab Go.Proofs
theorem JZ {n:Int} (a : -128<=n) (b:n<128) (t:List Int) (k:Int) (K:Int->List Int->Int->aX):kH (dR n++t) k K=K n t (k+1):=by
 show K (oM (cS n 0)) t (k+1)=_;rw [a9M a b]
theorem BP {n:Int} (a : -2147483648<=n) (b:n<2147483648) (t:List Int) (k:Int) (K:Int->List Int->Int->aX):fW (bV n++t) k K=K n t (k+4):=by
 show K (pO (cS n 0) (cS n 8) (cS n 16) (cS n 24)) t (k+1+1+1+1)=_;rw [a7Y a b,show k+1+1+1+1=k+4 by omega]
theorem a4G {n:Int} (a : -9223372036854775808<=n) (b:n<9223372036854775808) (t:List Int) (k:Int) (K:Int->List Int->Int->aX):qU (qF n++t) k K=K n t (k+8):=by
 show K (pK (cS n 0) (cS n 8) (cS n 16) (cS n 24) (cS n 32) (cS n 40) (cS n 48) (cS n 56)) t (k+1+1+1+1+1+1+1+1)=_;rw [a6H a b,show k+1+1+1+1+1+1+1+1=k+8 by omega]
theorem m9 {x:RowT} {i:aE} (h:c8 x i=0) (k:Int):bA x i k = .ok (i,k):=by
 unfold bA;rw [h];rfl
theorem yQ {b:Bool} (h:b=true) (k:Int) (r:aX):fT b k r=r:=by
 rw [h]; rfl
theorem JT (n:Int):dC n=true ↔ -128<=n/\n<128:=by
 unfold dC;by_cases h0 : -128<=n
 ·by_cases h1:n<=127
  ·rw [decide_eq_true h0,decide_eq_true h1]
   exact ⟨fun _=>by omega,fun _=>rfl⟩
  ·rw [decide_eq_true h0,decide_eq_false h1]
   exact ⟨fun h=>(by cases h),fun h=>(by omega)⟩
 ·rw [decide_eq_false h0]
  exact ⟨fun h=>(by cases h),fun h=>(by omega)⟩
end Go.Amd

namespace Go.Amd
open Go Go.Ab Go.Proofs
def YP (x:RowT) (a d:Int):Bool:=
 cond (bI x) (wi (w8 (lQ (aA x) true (w8 x.2.2.1) a d false - w8 x.2.2.1))==d&&(!(aA x==1)&&(!(aA x==2)&&!(aA x==6)))) true &&
  cond (aA x==1 || aA x==2) (wi (w8 (lQ (aA x) (bI x) (w8 x.2.2.1) a d false - w8 x.2.2.1))==a % 8) true
theorem aHC:aD.all (fun x=>oW 16 16 fun a d=>YP x a d)=true:=by kernel_rfl
theorem aD5 {x:RowT} (a:x ∈ aD) {i:aE} (h:okF x i.2.1 i.2.2.1 i.2.2.2.1 i.2.2.2.2.1=true):XP (bS x i)=lP x i:=by
 rcases (F0 a h).2 with ⟨e,-⟩ | ⟨e,-⟩ <;> rw [e] <;> rfl
theorem a2I {x:RowT} (j:x ∈ aD) {i:aE} (h:okF x i.2.1 i.2.2.1 i.2.2.2.1 i.2.2.2.2.1=true) (d:0<=i.2.1/\i.2.1<16) (g:0<=i.2.2.2.2.1/\i.2.2.2.2.1<16) (f:bI x=true) (K:Int->aX) :
  mR x (bS x i) K=K i.2.2.2.2.1:=by
 have:=oA (ZE1.1 aHC x j) d.1 d.2 g.1 g.2;unfold YP at this;obtain ⟨a,-⟩:=ZA0.1 this;rw [f,cond_true] at a;obtain ⟨a,b⟩:=ZA0.1 a;obtain ⟨b,c⟩:=ZA0.1 b;obtain ⟨c,h4⟩:=ZA0.1 c
 have k:(aA x==6)=false:=by simpa using h4
 have e:lP x i=lQ (aA x) true (w8 x.2.2.1) i.2.1 i.2.2.2.2.1 false:=by
  unfold lP;rw [J2,f];unfold lQ;rw [k];rfl
 unfold mR;rw [aD5 j h,e,eq_of_beq a]
theorem aHH {x:RowT} (f:x ∈ aD) {i:aE} (h:okF x i.2.1 i.2.2.1 i.2.2.2.1 i.2.2.2.2.1=true) (b:0<=i.2.1/\i.2.1<16) (c:0<=i.2.2.2.2.1/\i.2.2.2.2.1<16) (d:aA x=1\/aA x=2) (K:Int->aX) :
  mR x (bS x i) K=K (i.2.1 % 8):=by
 have:=oA (ZE1.1 aHC x f) b.1 b.2 c.1 c.2;unfold YP at this;obtain ⟨-,h1⟩:=ZA0.1 this
 have a:(aA x==1 || aA x==2)=true:=by rcases d with e | e <;> rw [e] <;> rfl
 rw [a,cond_true] at h1
 have e:lP x i=lQ (aA x) (bI x) (w8 x.2.2.1) i.2.1 i.2.2.2.2.1 false:=by
  unfold lP;rw [J2];unfold lQ
  rcases d with e | e <;> rw [e] <;> rfl
 unfold mR;rw [aD5 f h,e,eq_of_beq h1]
end Go.Amd

namespace Go.Amd
open Go Go.Ab Go.Proofs
theorem QP {x:RowT} (a:x ∈ aD) {i:aE} (h:okF x i.2.1 i.2.2.1 i.2.2.2.1 i.2.2.2.2.1=true) :
  cH (cB x i) 4=8*(rI x i / 4 % 2)/\cH (cB x i) 2=8*(rI x i / 2 % 2)/\cH (cB x i) 1=8*(rI x i % 2):=by
 obtain ⟨r0,r1,-⟩:=F8 a h;obtain ⟨b,b2,b3⟩:=tQ (m8 a h).1 (m8 a h).2;rw [b,b2,b3];unfold cB;cases (x.2.1==1)
 ·rw [cond_false]; exact ⟨rfl,rfl,rfl⟩
 ·rw [cond_true]
  refine ⟨?_,?_,?_⟩ <;> omega
theorem KM {n:Int} (a:0<=n) (b:n<256):wi n=n:=by
 rw [qT];omega
theorem aGT {x:RowT} (d:x ∈ aD) {i:aE} (h:okF x i.2.1 i.2.2.1 i.2.2.2.1 i.2.2.2.2.1=true) (a:0<=i.2.1/\i.2.1<16) (b:aA x=1\/aA x=2) :
  wi (i.2.1 % 8+cH (cB x i) 1)=i.2.1:=by
 have c:rI x i=i.2.1 / 8:=by
  unfold rI
  rcases b with e | e <;> rw [e] <;> exact WM a.1 a.2
 rw [(QP d h).2.2,c,KM (by omega) (by omega)];omega
theorem RF {x:RowT} (a:x ∈ aD) {i:aE} (h:okF x i.2.1 i.2.2.1 i.2.2.2.1 i.2.2.2.2.1=true) {m p q:Int} (c:0<=m) (d:m<4) (e:0<=p) (f:p<16) (g:0<=q) (j:q<16) (l:rI x i % 2=q / 8) :
  aU (aG m p q) (cB x i)=q:=by
 have b:=kG c d e f g j;obtain ⟨k,b2,b3⟩:=tQ (m8 a h).1 (m8 a h).2;have hb:=(QP a h).2.2;rw [b3] at hb;rw [FO (by rw [b]; omega) (by rw [b]; omega) (m8 a h).1 (m8 a h).2,b];omega
theorem RX {x:RowT} (a:x ∈ aD) {i:aE} (h:okF x i.2.1 i.2.2.1 i.2.2.2.1 i.2.2.2.2.1=true) {m p q:Int} (d:0<=m) (e:m<4) (f:0<=p) (g:p<16) (j:0<=q) (k:q<16) (l:rI x i / 4 % 2=p / 8) :
  cC (aG m p q) (cB x i)=p:=by
 have b:=kG d e f g j k;obtain ⟨c,b2,b3⟩:=tQ (m8 a h).1 (m8 a h).2;have hb:=(QP a h).1;rw [c] at hb;rw [yR (by rw [b]; omega) (by rw [b]; omega) (m8 a h).1 (m8 a h).2,b];omega
end Go.Amd

namespace Go.Amd
open Go Go.Ab Go.Proofs
theorem r8 {x:RowT} {i:aE} (h:okF x i.2.1 i.2.2.1 i.2.2.2.1 i.2.2.2.2.1=true):(0<=i.2.1/\i.2.1<16)/\(0<=i.2.2.2.2.1/\i.2.2.2.2.1<16):=by
 rcases mB h with ⟨-,h2,b⟩ | ⟨-,h2,-,-,c⟩
 ·refine ⟨oB h2,?_⟩
  rcases vE b with ⟨-,-,a⟩ | ⟨-,-,a⟩ | ⟨-,-,-,a⟩ <;> omega
 ·refine ⟨oB h2,?_⟩
  rcases c with a | ⟨-,a⟩
  ·omega
  ·exact KC a
theorem pA {x:RowT} (l:x ∈ aD) {i:aE} (h:okF x i.2.1 i.2.2.1 i.2.2.2.1 i.2.2.2.2.1=true) (g:uM x=false) (c:Int) (t:List Int) (k:Int) :
  aY (cB x i) x (bS x i) c t k=gP (aA x) (cB x i) x (bS x i) c t k i.2.2.2.2.1:=by
 obtain ⟨j,hd⟩:=r8 h;unfold aY;cases b:bI x
 ·rw [cond_false]
  have d:i.2.2.2.2.1=0:=by
   rcases mB h with ⟨a,-⟩ | ⟨-,-,-,-,f⟩
   ·rw [g] at a; cases a
   ·rcases f with e | ⟨e,-⟩
    ·exact e
    ·rw [b] at e; cases e
  rw [d]
 ·rw [cond_true]
  exact a2I l h j hd b _
theorem mD {x:RowT} {i:aE} (h:okF x i.2.1 i.2.2.1 i.2.2.2.1 i.2.2.2.2.1=true) (c:uM x=false):(uA x=false->i.2.1=0)/\(uB x=false->i.2.2.1=0)/\i.2.2.2.1=0/\(0<=i.2.2.1/\i.2.2.1<16):=by
 rcases mB h with ⟨b,-⟩ | ⟨-,h2,h3,h4,-⟩
 ·rw [c] at b; cases b
 ·refine ⟨fun a=>?_,fun a=>?_,h4,oB h3⟩
  ·rw [a] at h2; exact R0 h2
  ·rw [a] at h3; exact R0 h3
theorem acO {x:RowT} (o:x ∈ aD) {i:aE} (m:x.1=i.1) (f:c8 x i=0) (e:aA x=0) (t:List Int) (k:Int) :
  aY (cB x i) x (bS x i) 0 t k = .ok (i,k):=by
 have h:=iX f
 have l:uM x=false:=by unfold uM; rw [e]; rfl
 obtain ⟨p,z2,z3,-⟩:=mD h l;have g:=p (by unfold uA; rw [e]; rfl);have j:=z2 (by unfold uB; rw [e]; rfl);have e3:=(lL f).2 (by unfold uI; rw [e]; rfl);obtain ⟨nm,a,b,c,d,n⟩:=i;simp only at m g j e3 z3;subst m g j e3 z3;rw [pA o h l,e];exact m9 f k
theorem aJM (R:Int) (x:RowT) (b:List Int) (c:Int) (t:List Int) (k d:Int):gP 1 R x b c t k d=mR x b fun a=>bA x (x.1,wi (a+cH R 1),0,0,d,0) k:=rfl
theorem afH {x:RowT} (g:x ∈ aD) {i:aE} (o:x.1=i.1) (f:c8 x i=0) (e:aA x=1) (t:List Int) (k:Int) :
  aY (cB x i) x (bS x i) 0 t k = .ok (i,k):=by
 have h:=iX f
 have l:uM x=false:=by unfold uM; rw [e]; rfl
 obtain ⟨m,hd⟩:=r8 h;obtain ⟨r,z2,z3,-⟩:=mD h l;have j:=z2 (by unfold uB; rw [e]; rfl);have e3:=(lL f).2 (by unfold uI; rw [e]; rfl);have p:=aGT g h m (.inl e);have q:=aHH g h m hd (.inl e);rw [pA g h l];obtain ⟨nm,a,b,c,d,n⟩:=i;simp only at o j e3 z3 p q ⊢;subst o j e3 z3;rw [e];rw [aJM,q,p];exact m9 f k
end Go.Amd

namespace Go.Amd
open Go Go.Ab Go.Proofs
def OK (x:RowT):Bool:=cond (aA x==5 || aA x==12) (decide (-128<=lowR x)&&decide (highR x<128)) (cond (aA x==2) (decide (-9223372036854775808<=lowR x)&&decide (highR x<9223372036854775808))
 (decide (-2147483648<=lowR x)&&decide (highR x<2147483648)))
theorem T2:aD.all OK=true:=by kernel_rfl
theorem aM8 {x:RowT} (c:x ∈ aD) (b:aA x=5\/aA x=12) : -128<=lowR x/\highR x<128:=by
 have:=ZE1.1 T2 x c;unfold OK at this
 have e:(aA x==5 || aA x==12)=true:=by rcases b with e | e <;> rw [e] <;> rfl
 rw [e,cond_true] at this;obtain ⟨a,h2⟩:=ZA0.1 this;exact ⟨of_decide_eq_true a,of_decide_eq_true h2⟩
theorem ajM {x:RowT} (c:x ∈ aD) (b:aA x=2) : -9223372036854775808<=lowR x/\highR x<9223372036854775808:=by
 have:=ZE1.1 T2 x c;unfold OK at this;rw [b] at this;obtain ⟨a,h2⟩:=ZA0.1 this;exact ⟨of_decide_eq_true a,of_decide_eq_true h2⟩
theorem G0 {x:RowT} (c:x ∈ aD) (b:aA x=4\/aA x=6\/aA x=9\/aA x=10\/aA x=11) : -2147483648<=lowR x/\highR x<2147483648:=by
 have:=ZE1.1 T2 x c;unfold OK at this
 have e:(aA x==5 || aA x==12)=false/\(aA x==2)=false:=by rcases b with e | e | e | e | e <;> rw [e] <;> exact ⟨rfl,rfl⟩
 rw [e.1,e.2] at this;obtain ⟨a,h2⟩:=ZA0.1 this;exact ⟨of_decide_eq_true a,of_decide_eq_true h2⟩
theorem a7E (R:Int) (x:RowT) (b:List Int) (c:Int) (t:List Int) (k d:Int):gP 2 R x b c t k d=mR x b fun a=>qU t k fun n _ k=>bA x (x.1,wi (a+cH R 1),0,0,d,n) k:=rfl
theorem aFI (R:Int) (x:RowT) (a:List Int) (c:Int) (t:List Int) (k d:Int):gP 11 R x a c t k d=fW t k fun n _ k=>bA x (x.1,0,0,0,d,n) k:=rfl
theorem aGB (R:Int) (x:RowT) (a:List Int) (c:Int) (t:List Int) (k d:Int):gP 12 R x a c t k d=kH t k fun n _ k=>bA x (x.1,0,0,0,d,n) k:=rfl
theorem aeX {x:RowT} (f:x ∈ aD) {i:aE} (o:x.1=i.1) (g:c8 x i=0) (e:aA x=2) (t:List Int) (k:Int) :
  aY (cB x i) x (bS x i) 0 (qF i.2.2.2.2.2++t) k = .ok (i,k+8):=by
 have h:=iX g
 have l:uM x=false:=by unfold uM; rw [e]; rfl
 obtain ⟨m,hd⟩:=r8 h;obtain ⟨r,z2,z3,-⟩:=mD h l;have j:=z2 (by unfold uB; rw [e]; rfl);have e3:=(lL g).1 (by unfold uI; rw [e]; rfl);have p:=aGT f h m (.inr e);have q:=aHH f h m hd (.inr e);have hi:=ajM f e;rw [pA f h l];obtain ⟨nm,a,b,c,d,n⟩:=i;simp only at o j e3 z3 p q ⊢;subst o j z3;rw [e,a7E,q,a4G (by omega) (by omega),p];exact m9 g (k+8)
theorem a9I {x:RowT} (o:x ∈ aD) {i:aE} (m:x.1=i.1) (f:c8 x i=0) (e:aA x=11) (t:List Int) (k:Int) :
  aY (cB x i) x (bS x i) 0 (bV i.2.2.2.2.2++t) k = .ok (i,k+4):=by
 have h:=iX f
 have l:uM x=false:=by unfold uM; rw [e]; rfl
 obtain ⟨p,z2,z3,-⟩:=mD h l;have g:=p (by unfold uA; rw [e]; rfl);have j:=z2 (by unfold uB; rw [e]; rfl);have e3:=(lL f).1 (by unfold uI; rw [e]; rfl);have hi:=G0 o (by omega);rw [pA o h l];obtain ⟨nm,a,b,c,d,n⟩:=i;simp only at m g j e3 z3 ⊢;subst m g j z3;rw [e,aFI,BP (by omega) (by omega)];exact m9 f (k+4)
theorem a9Y {x:RowT} (o:x ∈ aD) {i:aE} (m:x.1=i.1) (f:c8 x i=0) (e:aA x=12) (t:List Int) (k:Int) :
  aY (cB x i) x (bS x i) 0 (dR i.2.2.2.2.2++t) k = .ok (i,k+1):=by
 have h:=iX f
 have l:uM x=false:=by unfold uM; rw [e]; rfl
 obtain ⟨p,z2,z3,-⟩:=mD h l;have g:=p (by unfold uA; rw [e]; rfl);have j:=z2 (by unfold uB; rw [e]; rfl);have e3:=(lL f).1 (by unfold uI; rw [e]; rfl);have hi:=aM8 o (.inr e);rw [pA o h l];obtain ⟨nm,a,b,c,d,n⟩:=i;simp only at m g j e3 z3 ⊢;subst m g j z3;rw [e,aGB,JZ (by omega) (by omega)];exact m9 f (k+1)
end Go.Amd

namespace Go.Amd
open Go Go.Ab Go.Proofs
theorem CC {x:RowT} (c:x ∈ aD) {i:aE} (a:0<=i.2.1/\i.2.1<16) (b:aA x=3\/aA x=4\/aA x=5\/aA x=6):rI x i=i.2.1 / 8:=by
 obtain ⟨d0,d1,d2⟩:=B7 c
 have e:rI x i=aS 0 (wi x.2.2.2.2.1) i.2.1:=by
  unfold rI
  rcases b with e | e | e | e <;> rw [e] <;> rfl
 rw [e,d2,jL d0 (by omega) a.1 a.2];omega
theorem LJ {x:RowT} (b:x ∈ aD) {i:aE} (h:okF x i.2.1 i.2.2.1 i.2.2.2.1 i.2.2.2.2.1=true) (c:aA x=3\/aA x=4\/aA x=5\/aA x=6) :
  aU (aG 3 (wi x.2.2.2.2.1) i.2.1) (cB x i)=i.2.1:=by
 have a:=(r8 h).1;obtain ⟨d0,d1,d2⟩:=B7 b;rw [d2];refine RF b h (by decide) (by decide) d0 (by omega) a.1 a.2 ?_;rw [CC b a c];omega
theorem aI5 (R:Int) (x:RowT) (a:List Int) (c:Int) (t:List Int) (k d:Int):gP 3 R x a c t k d=bA x (x.1,aU c R,0,0,d,0) k:=rfl
theorem aIE (R:Int) (x:RowT) (a:List Int) (c:Int) (t:List Int) (k d:Int):gP 4 R x a c t k d=fW t k fun n _ k=>bA x (x.1,aU c R,0,0,d,n) k:=rfl
theorem aIX (R:Int) (x:RowT) (a:List Int) (c:Int) (t:List Int) (k d:Int):gP 5 R x a c t k d=kH t k fun n _ k=>bA x (x.1,aU c R,0,0,d,n) k:=rfl
theorem aIT (R:Int) (x:RowT) (a:List Int) (c:Int) (t:List Int) (k d:Int):gP 7 R x a c t k d=bA x (x.1,aU c R,cC c R,0,d,0) k:=rfl
theorem aIR (R:Int) (x:RowT) (a:List Int) (c:Int) (t:List Int) (k d:Int):gP 8 R x a c t k d=bA x (x.1,cC c R,aU c R,0,d,0) k:=rfl
theorem ae5 {x:RowT} (o:x ∈ aD) {i:aE} (m:x.1=i.1) (f:c8 x i=0) (e:aA x=3) (t:List Int) (k:Int) :
  aY (cB x i) x (bS x i) (aG 3 (wi x.2.2.2.2.1) i.2.1) (t) k = .ok (i,k):=by
 have h:=iX f
 have j:uM x=false:=by unfold uM; rw [e]; rfl
 obtain ⟨p,z2,z3,-⟩:=mD h j;have g:=z2 (by unfold uB; rw [e]; rfl);have e3:=(lL f).2 (by unfold uI; rw [e]; rfl);have l:=LJ o h (by omega);rw [pA o h j];obtain ⟨nm,a,b,c,d,n⟩:=i;simp only at m g e3 z3 l ⊢;subst m g e3 z3;rw [e,aI5,l];exact m9 f k
theorem acX {x:RowT} (g:x ∈ aD) {i:aE} (o:x.1=i.1) (f:c8 x i=0) (e:aA x=4) (t:List Int) (k:Int) :
  aY (cB x i) x (bS x i) (aG 3 (wi x.2.2.2.2.1) i.2.1) (bV i.2.2.2.2.2++t) k = .ok (i,k+4):=by
 have h:=iX f
 have l:uM x=false:=by unfold uM; rw [e]; rfl
 obtain ⟨p,z2,z3,-⟩:=mD h l;have j:=z2 (by unfold uB; rw [e]; rfl);have e3:=(lL f).1 (by unfold uI; rw [e]; rfl);have m:=LJ g h (by omega);have hi:=G0 g (by omega);rw [pA g h l];obtain ⟨nm,a,b,c,d,n⟩:=i;simp only at o j e3 z3 m ⊢;subst o j z3;rw [e,aIE,BP (by omega) (by omega),m];exact m9 f (k+4)
theorem aa9 {x:RowT} (g:x ∈ aD) {i:aE} (o:x.1=i.1) (f:c8 x i=0) (e:aA x=5) (t:List Int) (k:Int) :
  aY (cB x i) x (bS x i) (aG 3 (wi x.2.2.2.2.1) i.2.1) (dR i.2.2.2.2.2++t) k = .ok (i,k+1):=by
 have h:=iX f
 have l:uM x=false:=by unfold uM; rw [e]; rfl
 obtain ⟨p,z2,z3,-⟩:=mD h l;have j:=z2 (by unfold uB; rw [e]; rfl);have e3:=(lL f).1 (by unfold uI; rw [e]; rfl);have m:=LJ g h (by omega);have hi:=aM8 g (.inl e);rw [pA g h l];obtain ⟨nm,a,b,c,d,n⟩:=i;simp only at o j e3 z3 m ⊢;subst o j z3;rw [e,aIX,JZ (by omega) (by omega),m];exact m9 f (k+1)
theorem aaK {x:RowT} (j:x ∈ aD) {i:aE} (s:x.1=i.1) (g:c8 x i=0) (f:aA x=7) (t:List Int) (k:Int) :
  aY (cB x i) x (bS x i) (aG 3 i.2.2.1 i.2.1) t k = .ok (i,k):=by
 have h:=iX g
 have l:uM x=false:=by unfold uM; rw [f]; rfl
 have u:=(r8 h).1;obtain ⟨w,z2,z3,hb⟩:=mD h l;have e3:=(lL g).2 (by unfold uI; rw [f]; rfl)
 have v:rI x i=4*(i.2.2.1 / 8)+i.2.1 / 8:=by
  have e:rI x i=aS 0 i.2.2.1 i.2.1:=by
   unfold rI;rw [f]; rfl
  rw [e,jL (by omega) (by omega) (by omega) (by omega)]
 have o:=RF j h (m:=3) (p:=i.2.2.1) (q:=i.2.1) (by decide) (by decide) (by omega) (by omega) (by omega) (by omega) (by omega);have r:=RX j h (m:=3) (p:=i.2.2.1) (q:=i.2.1) (by decide) (by decide) (by omega) (by omega) (by omega) (by omega) (by omega);rw [pA j h l];obtain ⟨nm,a,b,c,d,n⟩:=i;simp only at s e3 z3 o r ⊢;subst s e3 z3;rw [f,aIT,o,r];exact m9 g k
theorem aeU {x:RowT} (j:x ∈ aD) {i:aE} (s:x.1=i.1) (g:c8 x i=0) (f:aA x=8) (t:List Int) (k:Int) :
  aY (cB x i) x (bS x i) (aG 3 i.2.1 i.2.2.1) t k = .ok (i,k):=by
 have h:=iX g
 have l:uM x=false:=by unfold uM; rw [f]; rfl
 have u:=(r8 h).1;obtain ⟨w,z2,z3,hb⟩:=mD h l;have e3:=(lL g).2 (by unfold uI; rw [f]; rfl)
 have v:rI x i=4*(i.2.1 / 8)+i.2.2.1 / 8:=by
  have e:rI x i=aS 0 i.2.1 i.2.2.1:=by
   unfold rI;rw [f]; rfl
  rw [e,jL (by omega) (by omega) (by omega) (by omega)]
 have o:=RF j h (m:=3) (p:=i.2.1) (q:=i.2.2.1) (by decide) (by decide) (by omega) (by omega) (by omega) (by omega) (by omega);have r:=RX j h (m:=3) (p:=i.2.1) (q:=i.2.2.1) (by decide) (by decide) (by omega) (by omega) (by omega) (by omega) (by omega);rw [pA j h l];obtain ⟨nm,a,b,c,d,n⟩:=i;simp only at s e3 z3 o r ⊢;subst s e3 z3;rw [f,aIR,r,o];exact m9 g k
end Go.Amd

namespace Go.Amd
open Go Go.Ab Go.Proofs
theorem a7I (R:Int) (x:RowT) (a:List Int) (c:Int) (t:List Int) (k d:Int):gP 6 R x a c t k d =
  cond (a.getD 0 0==131) (kH t k fun n _ k=>bA x (x.1,aU c R,0,0,d,n) k) (fW t k fun n _ k=>fT (!dC n) k (bA x (x.1,aU c R,0,0,d,n) k)):=rfl
theorem aFV (R:Int) (x:RowT) (a:List Int) (c:Int) (t:List Int) (k d:Int):gP 10 R x a c t k d =
  iJ t k fun e t k=>fT (e==37) k (fW t k fun n _ k=>bA x (x.1,cC c R,0,0,d,n) k):=rfl
theorem a0Y:aD.all (fun x=>cond (aA x==6) (w8 x.2.2.1==131&&decide (x.2.2.1<=255)) true)=true:=by kernel_rfl
theorem adL {x:RowT} (c:x ∈ aD) (b:aA x=6):w8 x.2.2.1=131/\x.2.2.1<=255:=by
 have:=ZE1.1 a0Y x c;rw [b] at this;obtain ⟨a,h2⟩:=ZA0.1 this;exact ⟨eq_of_beq a,of_decide_eq_true h2⟩
theorem a1H {x:RowT} (c:x ∈ aD) (i:aE) (a:aA x=6):bS x i=[cond (dC i.2.2.2.2.2) 131 129]:=by
 obtain ⟨b,h2⟩:=adL c a;unfold bS bY lP M0;rw [a,b,decide_eq_false (by omega)];rfl
theorem a65 {x:RowT} (j:x ∈ aD) {i:aE} (s:x.1=i.1) (g:c8 x i=0) (f:aA x=10) (t:List Int) (k:Int) :
  aY (cB x i) x (bS x i) (aG 0 i.2.1 4) (37 :: (bV i.2.2.2.2.2++t)) k = .ok (i,k+5):=by
 have h:=iX g
 have o:uM x=false:=by unfold uM; rw [f]; rfl
 have u:=(r8 h).1;obtain ⟨w,z2,z3,-⟩:=mD h o;have l:=z2 (by unfold uB; rw [f]; rfl);have e3:=(lL g).1 (by unfold uI; rw [f]; rfl);have hi:=G0 j (by omega)
 have v:rI x i=4*(i.2.1 / 8):=by
  have e:rI x i=aS 0 i.2.1 4:=by
   unfold rI;rw [f]; rfl
  rw [e,jL (by omega) (by omega) (by omega) (by omega)];omega
 have r:=RX j h (m:=0) (p:=i.2.1) (q:=4) (by decide) (by decide) (by omega) (by omega) (by omega) (by omega) (by omega);rw [pA j h o];obtain ⟨nm,a,b,c,d,n⟩:=i;simp only at s l e3 z3 r ⊢;subst s l z3;rw [f,aFV,r];show fT true (k+1) (fW (bV n++t) (k+1) fun n _ k=>bA x (x.1,a,0,0,d,n) k)=_;rw [yQ rfl,BP (by omega) (by omega),show k+1+4=k+5 by omega];exact m9 g (k+5)
end Go.Amd

namespace Go.Amd
open Go Go.Ab Go.Proofs
theorem a0S (R:Int) (x:RowT) (c:Int) (t:List Int) (k d:Int):gP 6 R x [131] c t k d=kH t k fun n _ k=>bA x (x.1,aU c R,0,0,d,n) k:=rfl
theorem a3R (R:Int) (x:RowT) (c:Int) (t:List Int) (k d:Int):gP 6 R x [129] c t k d=fW t k fun n _ k=>fT (!dC n) k (bA x (x.1,aU c R,0,0,d,n) k):=rfl
def qZ (n:Int):List Int:=cond (dC n) (dR n) (bV n)
theorem af7 {x:RowT} (j:x ∈ aD) {i:aE} (o:x.1=i.1) (f:c8 x i=0) (e:aA x=6) (t:List Int) (k:Int) :
  aY (cB x i) x (bS x i) (aG 3 (wi x.2.2.2.2.1) i.2.1) (qZ i.2.2.2.2.2++t) k = .ok (i,k+((qZ i.2.2.2.2.2).length:Int)):=by
 have h:=iX f
 have m:uM x=false:=by unfold uM; rw [e]; rfl
 obtain ⟨v,z2,z3,-⟩:=mD h m;have l:=z2 (by unfold uB; rw [e]; rfl);have e3:=(lL f).1 (by unfold uI; rw [e]; rfl);have hi:=G0 j (by omega);have g:=LJ j h (by omega);have q:=a1H j i e;rw [pA j h m,e,q];generalize u:aG 3 (wi x.2.2.2.2.1) i.2.1=c at g;obtain ⟨nm,a,b,cc,d,n⟩:=i;simp only at o l e3 z3 g ⊢;subst o l z3;unfold qZ;cases p:dC n
 ·have r:(!dC n)=true:=by rw [p]; rfl
  rw [cond_false,cond_false,a3R,g,BP (by omega) (by omega),yQ r];exact m9 f (k+4)
 ·have s:=(JT n).1 p
  rw [cond_true,cond_true,a0S,g,JZ (by omega) (by omega)];exact m9 f (k+1)
end Go.Amd

namespace Go.Amd
open Go Go.Ab Go.Proofs
theorem aEN:gA 16 (fun b=>cO b 7==b % 8&&(aC b 3==b % 4&&aC b 2==2*(b / 2 % 2)))=true:=by kernel_rfl
theorem pL {b:Int} (a:0<=b) (c:b<16):cO b 7=b % 8:=by
 have:=fD aEN a c;simp only [ZA2,beq_iff_eq] at this;exact this.1
theorem NN {b:Int} (a:0<=b) (c:b<16):aC b 3=b % 4/\aC b 2=2*(b / 2 % 2):=by
 have:=fD aEN a c;simp only [ZA2,beq_iff_eq] at this;exact this.2
theorem aHP:gA 256 (fun e=>cond (e / 64==0) (rA e==1) (cond (e / 64==1) (rA e==2) (cond (e / 64==2) (rA e==4) (rA e==8))))=true:=by kernel_rfl
theorem a7T {R p q r:Int} (a:p=0\/p=1) (b:q=0\/q=1) (c:r=0\/r=1) (h:R % 8=4*p+2*q+r):R / 4 % 2=p/\R / 2 % 2=q/\R % 2=r:=by
 rcases a with rfl | rfl <;> rcases b with rfl | rfl <;> rcases c with rfl | rfl <;> omega
def CD (b n mod:Int) (a:List Int):Prop:=
 (mod=0/\a=[]/\n=0/\b % 8 ≠ 5)\/(mod=1/\a=dR n/\(-128<=n/\n<128)/\(n=0->b % 8=5))\/(mod=2/\a=bV n/\dC n=false)
theorem QO {a b c d n:Int} (i:0<=b) (j:b<16):∃ mod f,CD b n mod f/\dJ a b c d n=gU mod a b c d f:=by
 have hb:(b==17)=false:=beq_eq_false_iff_ne.2 (by omega);unfold dJ;rw [hb,cond_false,pL i j];by_cases h0:n=0/\b % 8 ≠ 5
 ·have k:(n==0)=true:=by rw [h0.1]; rfl
  have l:(b % 8 != 5)=true:=by simpa using h0.2
  rw [k,l];exact ⟨0,[],.inl ⟨rfl,rfl,h0.1,h0.2⟩,rfl⟩
 ·have e:cond (n==0) (b % 8 != 5) false=false:=by
   cases g:(n==0)
   ·rfl
   ·rw [cond_true]
    have g:=eq_of_beq g;simp only [not_and,ne_eq,Decidable.not_not] at h0;simp [h0 g]
  rw [e,cond_false];cases h:dC n
  ·exact ⟨2,bV n,.inr (.inr ⟨rfl,rfl,h⟩),rfl⟩
  ·refine ⟨1,dR n,.inr (.inl ⟨rfl,rfl,(JT n).1 h,fun m=>?_⟩),rfl⟩
   by_cases hb5:b % 8=5
   ·exact hb5
   ·exact absurd ⟨m,hb5⟩ h0
theorem Q8 {b n mod:Int} {a:List Int} (h:CD b n mod a) (e:0<=b) (f:b<16) (i : -2147483648<=n) (j:n<2147483648) {c:Int} (g:bB c=mod) (t:List Int) (k:Int) (K:Int->List Int->Int->aX) :
  pT c b (a++t) k K=K n t (k+(a.length:Int)):=by
 unfold pT;rw [g]
 rcases h with ⟨rfl,rfl,rfl,-⟩ | ⟨rfl,rfl,hr,h5⟩ | ⟨rfl,rfl,hq⟩
 ·rw [show ((0:Int)==1)=false from rfl,cond_false,show ((0:Int)==2)=false from rfl,cond_false]
  show K 0 t k=K 0 t (k+0);rw [Int.add_zero]
 ·rw [show ((1:Int)==1)=true from rfl,cond_true,JZ hr.1 hr.2]
  cases d:(n != 0)
  ·have d:n=0:=by simpa using d
   rw [cond_false,pL e f,h5 d];exact yQ rfl _ _
  ·rfl
 ·rw [show ((2:Int)==1)=false from rfl,cond_false,show ((2:Int)==2)=true from rfl,cond_true,BP i j,hq]
  exact yQ rfl _ _
theorem aGY {m a b c d:Int} {imm:List Int} (a0:0<=a/\a<16) (b0:0<=b/\b<16) (m0:0<=m/\m<3) (hc:(c=16/\d=0)\/((0<=c/\c<16)/\c ≠ 4/\(d=1\/d=2\/d=4\/d=8))) {n:Int} (hmode:CD b n m imm) (n0 : -2147483648<=n) (n1:n<2147483648)
  {R:Int} (r0:0<=R) (r1:R<16) (hR:R % 8=(gU m a b c d imm).1) :
  ∃ e t,(gU m a b c d imm).2=e :: t/\aV e/\bB e=m/\cC e R=a /\ ∀ (rest:List Int) (k:Int) (K:j5),nJ R e (t++rest) k K=K b c d n rest (k+(t.length:Int)):=by
 have h05:m=0->b % 8 ≠ 5:=by
  intro hm
  rcases hmode with ⟨-,-,-,h⟩ | ⟨h,-⟩ | ⟨h,-⟩
  ·exact h
  ·omega
  ·omega
 by_cases hs:c=16/\b % 8 ≠ 4
 ·-- without SIB
  obtain ⟨hc16,hb4⟩:=hs
  have hd:d=0:=by rcases hc with ⟨-,h⟩ | ⟨h,-⟩ <;> omega
  subst hc16 hd
  have hb:(b % 8 != 4)=true:=by simpa using hb4
  have eP:gU m a b 16 0 imm=(aS 0 a b,aG m a b :: imm):=by
   unfold gU;rw [pL b0.1 b0.2,hb];rfl
  rw [eP] at hR ⊢;simp only at hR ⊢;rw [jL a0.1 a0.2 b0.1 b0.2] at hR;have hm:=kG m0.1 (show m<4 by omega) a0.1 a0.2 b0.1 b0.2
  have i0:aV (aG m a b):=by rw [hm]; exact ⟨by omega,by omega⟩
  obtain ⟨q1,q2,q3,q4⟩:=kF i0.1 i0.2
  have e1:bB (aG m a b)=m:=by rw [q1,hm]; omega
  have e2:kR (aG m a b)=b % 8:=by rw [q4,hm]; omega
  refine ⟨_,_,rfl,i0,e1,?_,?_⟩
  ·rw [yR i0.1 i0.2 r0 r1,hm]; omega
  ·intro rest k K
   have eb:(b % 8==4)=false:=beq_eq_false_iff_ne.2 hb4
   have key:oO R (aG m a b) (imm++rest) k K=K b 16 0 n rest (k+(imm.length:Int)):=by
    unfold oO;rw [e2,eb,cond_false,yQ (by rw [(NN r0 r1).2]; exact beq_iff_eq.2 (by omega)),(tQ r0 r1).2.2,KM (by omega) (by omega),show b % 8+8*(R % 2)=b by omega];exact Q8 hmode b0.1 b0.2 n0 n1 e1 rest k (K b 16 0)
   unfold nJ;rw [e1,e2];cases hz:(m==0)
   ·exact key
   ·have e5:(b % 8==5)=false:=beq_eq_false_iff_ne.2 (h05 (eq_of_beq hz))
    rw [e5];exact key
 ·-- with SIB
  obtain ⟨ix,s,hix0,hix1,hs0,hs1,eP,hcd⟩:∃ ix s:Int,0<=ix/\ix<16/\0<=s/\s<4/\gU m a b c d imm=(jE (aS 0 a 4) ix b,aG m a 4 :: aG s ix b :: imm)/\((ix=4/\c=16/\d=0/\s=0/\b % 8=4)\/(ix ≠ 4/\c=ix/\((s=0/\d=1)\/(s=1/\d=2)\/(s=2/\d=4)\/(s=3/\d=8)))):=by
   rcases hc with ⟨rfl,rfl⟩ | ⟨hc,h4,hd⟩
   ·have hb4:b % 8=4:=by
     by_cases h:b % 8=4
     ·exact h
     ·exact absurd ⟨rfl,h⟩ hs
    refine ⟨4,0,by omega,by omega,by omega,by omega,?_,.inl ⟨rfl,rfl,rfl,rfl,hb4⟩⟩;unfold gU;rw [pL b0.1 b0.2,hb4];rfl
   ·have e16:(c==16)=false:=beq_eq_false_iff_ne.2 (by omega)
    have e:∀ s,tR d=s->gU m a b c d imm=(jE (aS 0 a 4) c b,aG m a 4 :: aG s c b :: imm):=by
     intro s hs;unfold gU;rw [e16,hs];rfl
    rcases hd with rfl | rfl | rfl | rfl
    ·exact ⟨c,0,hc.1,hc.2,by omega,by omega,e 0 rfl,.inr ⟨h4,rfl,.inl ⟨rfl,rfl⟩⟩⟩
    ·exact ⟨c,1,hc.1,hc.2,by omega,by omega,e 1 rfl,.inr ⟨h4,rfl,.inr (.inl ⟨rfl,rfl⟩)⟩⟩
    ·exact ⟨c,2,hc.1,hc.2,by omega,by omega,e 2 rfl,.inr ⟨h4,rfl,.inr (.inr (.inl ⟨rfl,rfl⟩))⟩⟩
    ·exact ⟨c,3,hc.1,hc.2,by omega,by omega,e 3 rfl,.inr ⟨h4,rfl,.inr (.inr (.inr ⟨rfl,rfl⟩))⟩⟩
  rw [eP] at hR ⊢;simp only at hR ⊢;rw [yT a0.1 a0.2 hix0 hix1 b0.1 b0.2] at hR;have hm:=kG m0.1 (show m<4 by omega) a0.1 a0.2 (show (0:Int)<=4 by omega) (show (4:Int)<16 by omega)
  have i0:aV (aG m a 4):=by rw [hm]; exact ⟨by omega,by omega⟩
  obtain ⟨q1,q2,q3,q4⟩:=kF i0.1 i0.2
  have e1:bB (aG m a 4)=m:=by rw [q1,hm]; omega
  have e2:kR (aG m a 4)=4:=by rw [q4,hm]; omega
  have hsb:=kG hs0 hs1 hix0 hix1 b0.1 b0.2
  have j0:aV (aG s ix b):=by rw [hsb]; exact ⟨by omega,by omega⟩
  have f1:aU (aG s ix b) R=b:=by rw [FO j0.1 j0.2 r0 r1,hsb]; omega
  have f2:cD (aG s ix b) R=ix:=by rw [aJ1 j0.1 j0.2 r0 r1,hsb]; omega
  have f3:bB (aG s ix b)=s:=by rw [(kF j0.1 j0.2).1,hsb]; omega
  have f4:aG s ix b / 64=s:=by rw [hsb]; omega
  have g1:R / 4 % 2=a / 8:=(a7T (by omega) (by omega) (by omega) hR).1
  have g2:aG m a 4 / 8 % 8=a % 8:=by omega
  refine ⟨_,_,rfl,i0,e1,?_,?_⟩
  ·rw [yR i0.1 i0.2 r0 r1,g1,g2]; omega
  ·intro rest k K
   have key2:nL R (aG m a 4) (aG s ix b) (imm++rest) (k+1) K=K b c d n rest (k+1+(imm.length:Int)):=by
    unfold nL;rw [f1,f2,f3]
    rcases hcd with ⟨rfl,rfl,rfl,rfl,hb4⟩ | ⟨h4,rfl,hsd⟩
    ·show fT (cO b 7==4) (k+1) _=_
     rw [pL b0.1 b0.2,hb4];exact Q8 hmode b0.1 b0.2 n0 n1 e1 rest (k+1) (K b 16 0)
    ·have e4:(c==4)=false:=beq_eq_false_iff_ne.2 h4
     have hsc:=fD aHP j0.1 j0.2;rw [f4] at hsc
     have hd:rA (aG s c b)=d:=by
      rcases hsd with ⟨rfl,rfl⟩ | ⟨rfl,rfl⟩ | ⟨rfl,rfl⟩ | ⟨rfl,rfl⟩ <;> exact eq_of_beq hsc
     rw [e4,hd,cond_false];exact Q8 hmode b0.1 b0.2 n0 n1 e1 rest (k+1) (K b c d)
   have key:oO R (aG m a 4) (aG s ix b :: imm++rest) k K=K b c d n rest (k+1+(imm.length:Int)):=by
    unfold oO;rw [e2];show cond (bB (aG m a 4) != 0) (nL R (aG m a 4) (aG s ix b) (imm++rest) (k+1) K) (fT (cO (aU (aG s ix b) R) 7 != 5) (k+1) (nL R (aG m a 4) (aG s ix b) (imm++rest) (k+1) K))=_;rw [key2,e1,f1,pL b0.1 b0.2];cases hz:(m != 0)
    ·have hz:m=0:=by simpa using hz
     rw [cond_false,yQ (by simpa using h05 hz)]
    ·rfl
   have hlen:k+((aG s ix b :: imm).length:Int)=k+1+(imm.length:Int):=by simp only [ZD3]; omega
   rw [hlen];unfold nJ;rw [e1,e2];cases hz:(m==0)
   ·exact key
   ·exact key
theorem aVD {a b c d n:Int} (j:0<=a/\a<16) (w:jO b c d=true) (r : -2147483648<=n) (s:n<2147483648) {R:Int} (r0:0<=R) (p:R<16) (i:R % 8=(dJ a b c d n).1) :
  ∃ e t,(dJ a b c d n).2=e :: t/\aV e/\bB e ≠ 3/\cC e R=a /\ ∀ (rest:List Int) (k:Int) (K:j5),nJ R e (t++rest) k K=K b c d n rest (k+(t.length:Int)):=by
 rcases vE w with ⟨rfl,rfl,rfl⟩ | ⟨g,rfl,rfl⟩ | ⟨g,c0,c4,hd⟩
 ·have i:R % 8=aS 0 a 5:=i
  rw [jL j.1 j.2 (by omega) (by omega)] at i;have o:=kG (m:=0) (by omega) (by omega) j.1 j.2 (show (0:Int)<=5 by omega) (show (5:Int)<16 by omega)
  have l:aV (aG 0 a 5):=by rw [o]; exact ⟨by omega,by omega⟩
  obtain ⟨y,q2,q3,q4⟩:=kF l.1 l.2
  have u:bB (aG 0 a 5)=0:=by rw [y,o]; omega
  have v:kR (aG 0 a 5)=5:=by rw [q4,o]; omega
  refine ⟨aG 0 a 5,bV n,rfl,l,by rw [u]; decide,?_,?_⟩
  ·rw [yR l.1 l.2 r0 p,o]; omega
  ·intro rest k K
   unfold nJ;rw [u,v];show fT (aC R 3==0) k (fW (bV n++rest) k fun n t k=>K 17 16 0 n t k)=_;rw [yQ (by rw [(NN r0 p).1]; exact beq_iff_eq.2 (by omega)),BP r s];rfl
 ·obtain ⟨mod,imm,f,e⟩:=QO (a:=a) (c:=16) (d:=0) (n:=n) g.1 g.2
  have q:0<=mod/\mod<3:=by rcases f with ⟨h,-⟩ | ⟨h,-⟩ | ⟨h,-⟩ <;> omega
  rw [e] at i ⊢;obtain ⟨x,t,h1,h2,h3,h4,h5⟩:=aGY j g q (.inl ⟨rfl,rfl⟩) f r s r0 p i;exact ⟨x,t,h1,h2,by omega,h4,h5⟩
 ·obtain ⟨mod,imm,f,e⟩:=QO (a:=a) (c:=c) (d:=d) (n:=n) g.1 g.2
  have q:0<=mod/\mod<3:=by rcases f with ⟨h,-⟩ | ⟨h,-⟩ | ⟨h,-⟩ <;> omega
  rw [e] at i ⊢;obtain ⟨x,t,h1,h2,h3,h4,h5⟩:=aGY j g q (.inr ⟨c0,c4,hd⟩) f r s r0 p i;exact ⟨x,t,h1,h2,by omega,h4,h5⟩
end Go.Amd

namespace Go.Amd
open Go Go.Ab Go.Proofs
section
variable {x:RowT} {i:aE}
theorem oG {f:Int} (a:aA x=f):eR x i=XV f x.2.2.2.2.1 i.2.1 i.2.2.1 i.2.2.2.1 i.2.2.2.2.1 i.2.2.2.2.2:=by unfold eR; rw [a]
theorem U9 (a:aA x=0):eR x i=[]:=by rw [oG a]; rfl
theorem VP (a:aA x=1):eR x i=[]:=by rw [oG a]; rfl
theorem T6 (a:aA x=2):eR x i=qF i.2.2.2.2.2:=by rw [oG a]; rfl
theorem UB (a:aA x=3):eR x i=[aG 3 (wi x.2.2.2.2.1) i.2.1]:=by rw [oG a]; rfl
theorem UW (a:aA x=4):eR x i=aG 3 (wi x.2.2.2.2.1) i.2.1 :: bV i.2.2.2.2.2:=by rw [oG a]; rfl
theorem V0 (a:aA x=5):eR x i=aG 3 (wi x.2.2.2.2.1) i.2.1 :: dR i.2.2.2.2.2:=by rw [oG a]; rfl
theorem LN (a:aA x=6):eR x i=aG 3 (wi x.2.2.2.2.1) i.2.1 :: qZ i.2.2.2.2.2:=by rw [oG a]; rfl
theorem VC (a:aA x=7):eR x i=[aG 3 i.2.2.1 i.2.1]:=by rw [oG a]; rfl
theorem UG (a:aA x=8):eR x i=[aG 3 i.2.1 i.2.2.1]:=by rw [oG a]; rfl
theorem VL (a:aA x=9):eR x i=(dJ i.2.1 i.2.2.1 i.2.2.2.1 i.2.2.2.2.1 i.2.2.2.2.2).2:=by rw [oG a]; rfl
theorem TW (a:aA x=10):eR x i=aG 0 i.2.1 4 :: 37 :: bV i.2.2.2.2.2:=by rw [oG a]; rfl
theorem TJ (a:aA x=11):eR x i=bV i.2.2.2.2.2:=by rw [oG a]; rfl
theorem TG (a:aA x=12):eR x i=dR i.2.2.2.2.2:=by rw [oG a]; rfl
end
theorem VI {x:RowT} (d:x ∈ aD) (b:aA x=9):bI x=false:=by
 have c:aD.all (fun x=>!(aA x==9&&bI x))=true:=by kernel_rfl
 have:=ZE1.1 c x d;rw [b] at this;cases a:bI x
 ·rfl
 ·rw [a] at this; cases this
theorem aHJ (R:Int) (x:RowT) (e:List Int) (c:Int) (t:List Int) (k d:Int):gP 9 R x e c t k d=nJ R c t k fun b a d n _ k=>bA x (x.1,cC c R,b,a,d,n) k:=rfl
theorem ab7 {x:RowT} (j:x ∈ aD) {i:aE} (m:x.1=i.1) (l:c8 x i=0) (f:aA x=9) :
  ∃ e t,eR x i=e :: t/\cR e x=true /\ ∀ (rest:List Int) (k:Int),aY (cB x i) x (bS x i) e (t++rest) k = .ok (i,k+(t.length:Int)):=by
 have h:=iX l;have o:=(r8 h).1;have e3:=(lL l).1 (by unfold uI; rw [f]; rfl);have hi:=G0 j (by omega)
 have p:jO i.2.2.1 i.2.2.2.1 i.2.2.2.2.1=true:=by
  rcases mB h with ⟨-,-,h3⟩ | ⟨g,-⟩
  ·exact h3
  ·unfold uM at g; rw [f] at g; cases g
 have q:cB x i % 8=(dJ i.2.1 i.2.2.1 i.2.2.2.1 i.2.2.2.2.1 i.2.2.2.2.2).1:=by
  obtain ⟨r0,r1,-⟩:=F8 j h
  have e:rI x i=(dJ i.2.1 i.2.2.1 i.2.2.2.1 i.2.2.2.2.1 i.2.2.2.2.2).1:=by
   unfold rI;rw [f]; rfl
  rw [<- e];unfold cB;cases (x.2.1==1)
  ·rw [cond_false]; omega
  ·rw [cond_true]; omega
 obtain ⟨e,t,g,h2,h3,h4,h5⟩:=aVD o p (n:=i.2.2.2.2.2) (by omega) (by omega) (m8 j h).1 (m8 j h).2 q;refine ⟨e,t,(VL f).trans g,?_,?_⟩
 ·unfold cR mU
  rw [f];show (bB e != 3)=true;simpa using h3
 ·intro rest k
  unfold aY;rw [VI j f,cond_false,f,aHJ,h5,h4];obtain ⟨nm,a,b,c,d,n⟩:=i;simp only at m ⊢;subst m;exact m9 l _
theorem J3 {x:RowT} (f:x ∈ aD) {i:aE} (a:0<=i.2.1/\i.2.1<16) (b:aA x=3\/aA x=4\/aA x=5\/aA x=6):cR (aG 3 (wi x.2.2.2.2.1) i.2.1) x=true:=by
 obtain ⟨d0,d1,d2⟩:=B7 f;have h:=kG (m:=3) (by decide) (by decide) (show 0<=wi x.2.2.2.2.1 by omega) (show wi x.2.2.2.2.1<16 by omega) a.1 a.2;obtain ⟨g,q2,q3,q4⟩:=kF (c:=aG 3 (wi x.2.2.2.2.1) i.2.1) (by omega) (by omega)
 have d:pW (aA x)=true:=by unfold pW; rcases b with e | e | e | e <;> rw [e] <;> rfl
 unfold cR;rw [F2 d,show Int.fdiv (aG 3 (wi x.2.2.2.2.1) i.2.1) (2 ^ 6)=3 from g.trans (by omega),q2,show aG 3 (wi x.2.2.2.2.1) i.2.1 / 8 % 8=x.2.2.2.2.1 by omega];show (x.2.2.2.2.1==x.2.2.2.2.1)=true;exact beq_self_eq_true _
theorem aGE {x:RowT} {p q:Int} (a:0<=p/\p<16) (b:0<=q/\q<16) (d:aA x=7\/aA x=8):cR (aG 3 p q) x=true:=by
 have g:=kG (m:=3) (by decide) (by decide) a.1 a.2 b.1 b.2;obtain ⟨f,q2,q3,q4⟩:=kF (c:=aG 3 p q) (by omega) (by omega);have e:Int.fdiv (aG 3 p q) (2 ^ 6)=3:=f.trans (by omega);unfold cR mU;rw [e]
 rcases d with h | h <;> rw [h] <;> rfl
theorem a9X {x:RowT} {p:Int} (a:0<=p/\p<16) (d:aA x=10):cR (aG 0 p 4) x=true:=by
 have g:=kG (m:=0) (by decide) (by decide) a.1 a.2 (show (0:Int)<=4 by decide) (show (4:Int)<16 by decide);obtain ⟨f,q2,q3,q4⟩:=kF (c:=aG 0 p 4) (by omega) (by omega);have e:Int.fdiv (aG 0 p 4) (2 ^ 6)=0:=f.trans (by omega);have b:aC (aG 0 p 4) 7=4:=q3.trans (by omega);unfold cR mU;rw [e,b,d];rfl
theorem Q6 (i:aE):iB i=jR (dW i.1) i++eR (dW i.1) i:=aT1 _ _
theorem S8 {i:aE} (b:cX i=0):dW i.1 ∈ aD/\(dW i.1).1=i.1/\c8 (dW i.1) i=0:=by
 unfold cX at b;cases c:fI i.1
 ·rw [c] at b; cases b
 ·rw [c,cond_true] at b
  unfold fI at c
  cases a:qW i.1 aD with
  | none=>rw [a] at c; cases c
  | some r =>
   have e:dW i.1=r:=by unfold dW; rw [a]; rfl
   rw [e] at b ⊢;refine ⟨List.mem_of_find?_eq_some a,?_,b⟩;have:=List.find?_some a;simpa using this
theorem a6S {i:aE} (o:cX i=0) (rest:List Int):dH (iB i++rest) = .ok (i,((iB i).length:Int)):=by
 obtain ⟨b,f,d⟩:=S8 o;rw [Q6];generalize dW i.1=x at b f d;have h:=iX d;have g:=(r8 h).1
 have j:aA x ∈ forms:=by simpa [eO] using ZE1.1 vD x b
 have p:((jR x i++eR x i).length:Int)=eI x i+((eR x i).length:Int):=by rw [ZE0,JK b]; omega
 rw [p,List.append_assoc]
 have plain:∀ {t:List Int},eR x i=t->eD (aA x)=false->(∀ k,aY (cB x i) x (bS x i) 0 (t++rest) k = .ok (i,k+(t.length:Int)))->dH (jR x i++(eR x i++rest)) = .ok (i,eI x i+((eR x i).length:Int)):=by
  intro t e m l;rw [e,aWY b h m,l];rfl
 have a:∀ {c:Int} {t:List Int},eR x i=c :: t->eD (aA x)=true->cR c x=true->(∀ k,aY (cB x i) x (bS x i) c (t++rest) k = .ok (i,k+(t.length:Int)))->dH (jR x i++(eR x i++rest)) = .ok (i,eI x i+((eR x i).length:Int)):=by
  intro c t e m n l;rw [e,List.cons_append,a7H b h m n,l];show Except.ok (i,eI x i+1+(t.length:Int))=_;rw [ZD3,show eI x i+1+(t.length:Int)=eI x i+((t.length+1:Nat):Int) by omega]
 unfold forms at j;simp only [ZE3,List.not_mem_nil,or_false] at j
 rcases j with e | e | e | e | e | e | e | e | e | e | e | e | e
 ·exact plain (U9 e) (by rw [e]; rfl) fun k=>(acO b f d e rest k).trans (by rw [ZE2,show k+((0:Nat):Int)=k by omega])
 ·exact plain (VP e) (by rw [e]; rfl) fun k=>(afH b f d e rest k).trans (by rw [ZE2,show k+((0:Nat):Int)=k by omega])
 ·exact plain (T6 e) (by rw [e]; rfl) fun k=>aeX b f d e rest k
 ·exact a (UB e) (by rw [e]; rfl) (J3 b g (by omega)) fun k=>(ae5 b f d e rest k).trans (by rw [ZE2,show k+((0:Nat):Int)=k by omega])
 ·exact a (UW e) (by rw [e]; rfl) (J3 b g (by omega)) fun k=>acX b f d e rest k
 ·exact a (V0 e) (by rw [e]; rfl) (J3 b g (by omega)) fun k=>aa9 b f d e rest k
 ·exact a (LN e) (by rw [e]; rfl) (J3 b g (by omega)) fun k=>af7 b f d e rest k
 ·exact a (VC e) (by rw [e]; rfl) (aGE (mD h (by unfold uM; rw [e]; rfl)).2.2.2 g (.inl e)) fun k=>(aaK b f d e rest k).trans (by rw [ZE2,show k+((0:Nat):Int)=k by omega])
 ·exact a (UG e) (by rw [e]; rfl) (aGE g (mD h (by unfold uM; rw [e]; rfl)).2.2.2 (.inr e)) fun k=>(aeU b f d e rest k).trans (by rw [ZE2,show k+((0:Nat):Int)=k by omega])
 ·obtain ⟨c,t,h1,h2,h3⟩:=ab7 b f d e
  exact a h1 (by rw [e]; rfl) h2 fun k=>h3 rest k
 ·exact a (TW e) (by rw [e]; rfl) (a9X g e) fun k=>a65 b f d e rest k
 ·exact plain (TJ e) (by rw [e]; rfl) fun k=>a9I b f d e rest k
 ·exact plain (TG e) (by rw [e]; rfl) fun k=>a9Y b f d e rest k
end Go.Amd

namespace Go.Amd
open Go Go.Ab Go.Proofs
theorem zH {α:Type} {c:Bool} {x y:Tree α} {Q:α->Prop} (h:c=false) (a:y.all Q):(Tree.br c x y).all Q:=⟨fun e=>Bool.noConfusion (h.symm.trans e),fun _=>a⟩
theorem aPE (x:Int):aV (w8 x):=by
 unfold w8;rw [Go.Wd.wrap_u8];exact ⟨Int.emod_nonneg _ (by decide),Int.emod_lt_of_pos _ (by decide)⟩
def bE (l:List Int):Prop:=∀ c ∈ l,aV c
theorem jK:bE []:=fun c h=>by cases h
theorem gG {c:Int} {l:List Int} (h:aV c) (b:bE l):bE (c :: l):=fun d a=>by
 rcases ZE3.1 a with rfl | a
 ·exact h
 ·exact b d a
theorem yL {l m:List Int} (b:bE l) (c:bE m):bE (l++m):=fun d a=>(List.mem_append.1 a).elim (b d) (c d)
theorem M9 (n:Int):bE (dR n):=gG (fX n 0) jK
theorem CI (n:Int):bE (bV n):=gG (fX n 0) (gG (fX n 8) (gG (fX n 16) (gG (fX n 24) jK)))
theorem ahF (n:Int):bE (qF n):=gG (fX n 0) (gG (fX n 8) (gG (fX n 16) (gG (fX n 24) (gG (fX n 32) (gG (fX n 40) (gG (fX n 48) (gG (fX n 56) jK)))))))
theorem adN (n:Int):bE (qZ n):=by
 unfold qZ;cases dC n
 ·exact CI n
 ·exact M9 n
theorem aM9 (a b:Int):aV (bX a b):=aPE _
theorem GY (m a b:Int):aV (aG m a b):=aPE _
theorem abM {b n mod:Int} {a:List Int} (h:CD b n mod a):bE a/\a.length<=4:=by
 rcases h with ⟨-,rfl,-⟩ | ⟨-,rfl,-⟩ | ⟨-,rfl,-⟩
 ·exact ⟨jK,by simp⟩
 ·exact ⟨M9 n,by simp [dR]⟩
 ·exact ⟨CI n,by simp [bV]⟩
theorem aeK {a b c d n:Int} (i:jO b c d=true):bE (dJ a b c d n).2/\(dJ a b c d n).2.length<=6/\1<=(dJ a b c d n).2.length:=by
 have key:∀ {b c d:Int},0<=b->b<16->bE (dJ a b c d n).2/\(dJ a b c d n).2.length<=6/\1<=(dJ a b c d n).2.length:=by
  intro b c d f h;obtain ⟨mod,imm,hm,e⟩:=QO (a:=a) (c:=c) (d:=d) (n:=n) f h;obtain ⟨g,h2⟩:=abM hm;rw [e];unfold gU;cases cond (c==16) (cO b 7 != 4) false
  ·rw [cond_false]
   refine ⟨yL (yL (gG (GY _ _ _) jK) (gG (GY _ _ _) jK)) g,?_,?_⟩ <;> simp only [ZE0,ZD3,ZE2] <;> omega
  ·rw [cond_true]
   refine ⟨yL (gG (GY _ _ _) jK) g,?_,?_⟩ <;> simp only [ZE0,ZD3,ZE2] <;> omega
 rcases vE i with ⟨rfl,rfl,rfl⟩ | ⟨f,rfl,rfl⟩ | ⟨f,-,-,-⟩
 ·exact ⟨yL (gG (GY 0 a 5) jK) (CI n),show (1+4:Nat)<=6 by decide,show 1<=(1+4:Nat) by decide⟩
 ·exact key f.1 f.2
 ·exact key f.1 f.2
theorem abQ:aD.all (fun x=>cond (aA x==2) (decide (x.2.2.1<=255)) true)=true:=by kernel_rfl
theorem a9Z {x:RowT} (a:x ∈ aD) {i:aE} (h:okF x i.2.1 i.2.2.1 i.2.2.2.1 i.2.2.2.2.1=true):bE (jR x i):=by
 refine yL (yL ?_ ?_) ?_
 ·unfold nT
  cases (aA x==10)
  ·exact jK
  ·exact gG ⟨by decide,by decide⟩ jK
 ·unfold hY
  cases (x.2.1==0)
  ·exact gG (aM9 _ _) jK
  ·cases (rI x i != 0)
   ·exact jK
   ·exact gG (aM9 _ _) jK
 ·rcases (F0 a h).2 with ⟨e,-,hb⟩ | ⟨e,hb,-⟩
  ·rw [e]; exact gG hb jK
  ·rw [e]; exact gG ⟨by decide,by decide⟩ (gG hb jK)
theorem ae9 {x:RowT} (k:x ∈ aD) {i:aE} (f:c8 x i=0):bE (eR x i)/\((eR x i).length<=6\/(aA x=2/\(eR x i).length=8)):=by
 have h:=iX f
 have c:aA x ∈ forms:=by simpa [eO] using ZE1.1 vD x k
 unfold forms at c;simp only [ZE3,List.not_mem_nil,or_false] at c;have mr:∀ (m a b:Int) {l:List Int},bE l->bE (aG m a b :: l):=fun m a b _ g=>gG (GY m a b) g
 rcases c with e | e | e | e | e | e | e | e | e | e | e | e | e
 ·rw [U9 e]; exact ⟨jK,.inl (by decide)⟩
 ·rw [VP e]; exact ⟨jK,.inl (by decide)⟩
 ·rw [T6 e]; exact ⟨ahF _,.inr ⟨e,rfl⟩⟩
 ·rw [UB e]; exact ⟨mr _ _ _ jK,.inl (by simp)⟩
 ·rw [UW e]; exact ⟨mr _ _ _ (CI _),.inl (by simp [bV])⟩
 ·rw [V0 e]; exact ⟨mr _ _ _ (M9 _),.inl (by simp [dR])⟩
 ·rw [LN e]; refine ⟨mr _ _ _ (adN _),.inl ?_⟩
  unfold qZ;cases dC i.2.2.2.2.2 <;> simp [dR,bV]
 ·rw [VC e]; exact ⟨mr _ _ _ jK,.inl (by simp)⟩
 ·rw [UG e]; exact ⟨mr _ _ _ jK,.inl (by simp)⟩
 ·rw [VL e]
  have j:jO i.2.2.1 i.2.2.2.1 i.2.2.2.2.1=true:=by
   rcases mB h with ⟨-,-,h3⟩ | ⟨d,-⟩
   ·exact h3
   ·unfold uM at d; rw [e] at d; cases d
  obtain ⟨d,h2,-⟩:=aeK (a:=i.2.1) (n:=i.2.2.2.2.2) j;exact ⟨d,.inl h2⟩
 ·rw [TW e]; exact ⟨mr _ _ _ (gG ⟨by decide,by decide⟩ (CI _)),.inl (by simp [bV])⟩
 ·rw [TJ e]; exact ⟨CI _,.inl (by simp [bV])⟩
 ·rw [TG e]; exact ⟨M9 _,.inl (by simp [dR])⟩
theorem aZD {i:aE} (g:cX i=0):bE (iB i)/\1<=(iB i).length/\(iB i).length<=10:=by
 obtain ⟨a,j,b⟩:=S8 g;rw [Q6];generalize dW i.1=x at a j b;have h:=iX b;obtain ⟨t1,t2⟩:=ae9 a b;have k:=JK a i;have c:=(GN a).2.2;refine ⟨yL (a9Z a h) t1,?_,?_⟩
 ·rw [ZE0]
  have:1<=eI x i:=by
   unfold eI;cases pU x
   ·rw [cond_false]
    cases oT x i <;> cases decide (255<x.2.2.1) <;> decide
   ·rw [cond_true]; omega
  omega
 ·rw [ZE0]
  have f:eI x i<=3/\(aA x=2->eI x i<=2):=by
   unfold eI pU;by_cases e:aA x=10
   ·rw [e]; exact ⟨show (3:Int)<=3 by omega,fun h=>by omega⟩
   ·rw [beq_eq_false_iff_ne.2 e,cond_false]
    refine ⟨?_,fun d=>?_⟩
    ·cases oT x i <;> cases decide (255<x.2.2.1) <;> decide
    ·have:=ZE1.1 abQ x a
     rw [d] at this;have hle:x.2.2.1<=255:=of_decide_eq_true this;rw [decide_eq_false (by omega)];cases oT x i <;> decide
  rcases t2 with t2 | ⟨t2,t3⟩
  ·omega
  ·have:=f.2 t2
   omega
end Go.Amd
