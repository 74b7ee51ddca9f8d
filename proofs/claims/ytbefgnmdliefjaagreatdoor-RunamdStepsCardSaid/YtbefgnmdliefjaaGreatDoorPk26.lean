/-
  The document's build of amd is the program's: places. Conditions: none.
-/
import Derived.Test.YtbefgnmdliefjaaGreatDoorDn6
import Derived.Test.YtbefgnmdliefjaaGreatDoorPk24
import Derived.Test.YtbefgnmdliefjaaGreatDoorPk23
import Derived.Test.YtbefgnmdliefjaaGreatDoorPk21
open Go.IntKind (wrap i64 u64)
open Go.Proofs.Tryz (prog)
open Bool renaming and_eq_true_iff→ZA0,and_eq_true→ZA2
open List renaming length_cons→ZD3,length_nil→ZE2,mem_cons→ZE3
open Int renaming eq_ofNat_of_zero_le→ZI3
set_option linter.unusedVariables false
set_option linter.unusedSimpArgs false
namespace Go.Amd
open Go Go.Ab Go.Proofs
theorem adY:gA 4 (fun m=>oW 16 16 fun a b=>gF (gF (gM m 6) (gM (u8 (Int.tmod a 8)) 3)) (u8 (Int.tmod b 8))==aG m a b)=true:=by kernel_rfl
theorem N4 {m a b:Int} (e:0<=m/\m<4) (ha:iD a) (hb:iD b):gF (gF (gM m 6) (gM (u8 (Int.tmod a 8)) 3)) (u8 (Int.tmod b 8))=aG m a b:=
 eq_of_beq (oA (fD adY e.1 (show m<(4:Nat) by omega)) ha.1 ha.2 hb.1 hb.2)
theorem alA {m a:Int} (e:0<=m/\m<4) (ha:iD a):gF (gF (gM m 6) (gM (u8 (Int.tmod a 8)) 3)) 4=aG m a 4:=N4 e ha (b:=4) (by decide)
theorem afW {m b:Int} (e:0<=m/\m<4) (hb:iD b):gF (gF (gM m 6) (gM 4 3)) (u8 (Int.tmod b 8))=aG m 4 b:=N4 e (a:=4) (by decide) hb
theorem adE:gA 16 (fun a=>gF (gM (u8 (Int.tmod a 8)) 3) 5==aG 0 a 5&&(u8 (Int.tmod a 8)==cO a 7&&q8 a==a / 8))=true:=by kernel_rfl
theorem lU {a:Int} (ha:iD a):gF (gM (u8 (Int.tmod a 8)) 3) 5=aG 0 a 5/\u8 (Int.tmod a 8)=cO a 7/\q8 a=a / 8:=by
 have:=fD adE ha.1 ha.2;simpa only [ZA2,beq_iff_eq] using this
theorem acG:oW 2 2 (fun r x=>gA 2 fun b=>eT 1 r x b==rW (4*r+2*x+b)&&(eT 0 r x b==bX 64 (4*r+2*x+b)&&(cond (decide (0<wi (wi (r+x)+b))) [eT 0 r x b] []==hY 0 (4*r+2*x+b))))=true:=by kernel_rfl
abbrev qJ (a:Int):Prop:=0<=a/\a<2
theorem OU {r x b:Int} (e:qJ r) (f:qJ x) (hb:qJ b):eT 1 r x b=rW (4*r+2*x+b)/\eT 0 r x b=bX 64 (4*r+2*x+b)/\cond (decide (0<wi (wi (r+x)+b))) [eT 0 r x b] []=hY 0 (4*r+2*x+b):=by
 have:=fD (oA acG e.1 e.2 f.1 f.2) hb.1 hb.2;simpa only [ZA2,beq_iff_eq] using this
section
variable {K:Int->Int->List Int->Option V} {F:Int->List Int->Option V} {a b c d n:Int} (ha:iD a)
 (hK:∀ x y t,qJ x->qJ y->K x y t=F (4*(a / 8)+2*x+y) t)
include ha hK in
theorem TS (hb:iD b) (hp:(c=16/\d=0)\/(iD c/\(d=1\/d=2\/d=4\/d=8))) {m:Int} (z:0<=m/\m<3) (e:List Int) :
  HU K a b c d m e=F (gU m a b c d e).1 (gU m a b c d e).2:=by
 have i : 0<=m/\m<4:=⟨z.1,by omega⟩
 have h:qJ (q8 b):=by rw [(lU hb).2.2]; exact ⟨by omega,by omega⟩
 have k:∀ {x idx sc:Int},qJ x->(0<=sc/\sc<4)->gF (gF (gM sc 6) (gM idx 3)) (u8 (Int.tmod b 8))=aG sc (cond (c==16) 4 c) b->jE (aS 0 a 4) (cond (c==16) 4 c) b=4*(a / 8)+2*x+b / 8->tR d=sc ->
   CF K a b m e x idx sc=F (jE (aS 0 a 4) (cond (c==16) 4 c) b) ([aG m a 4]++[aG (tR d) (cond (c==16) 4 c) b]++e):=by
  intro x idx sc A B h1 v w;unfold CF;rw [hK _ _ _ A h,alA i ha,h1,v,w,(lU hb).2.2];rfl
 rcases hp with ⟨rfl,rfl⟩ | ⟨g,r⟩
 ·have s:=k (x:=0) (idx:=4) (sc:=0) (by decide) (by decide) (afW (by decide) hb) (by
   rw [show cond ((16:Int)==16) (4:Int) 16=4 from rfl,yT ha.1 ha.2 (by decide) (by decide) hb.1 hb.2]
   omega) rfl
  have e0:CA K a b 16 0 m e=CF K a b m e 0 4 0:=rfl
  have u:K 0 (q8 b) ([gF (gF (gM m 6) (gM (u8 (Int.tmod a 8)) 3)) (u8 (Int.tmod b 8))]++e)=F (aS 0 a b) ([aG m a b]++e):=by
   rw [hK _ _ _ (by decide) h,N4 i ha hb,jL ha.1 ha.2 hb.1 hb.2,(lU hb).2.2];congr 1;omega
  show cond (u8 (Int.tmod b 8) != 4) _ (CA K a b 16 0 m e)=_;rw [e0,s,u,(lU hb).2.1];unfold gU;rw [show ((16:Int)==16)=true from rfl,cond_true];cases cO b 7 != 4 <;> rfl
 ·have l:qJ (q8 c):=by rw [(lU g).2.2]; exact ⟨by omega,by omega⟩
  have f:(c==16)=false:=by have:=g.2; exact beq_eq_false_iff_ne.2 (by omega)
  have j:0<=tR d/\tR d<4:=by rcases r with rfl | rfl | rfl | rfl <;> decide
  have s:=k (x:=q8 c) (idx:=u8 (Int.tmod c 8)) (sc:=tR d) l j (by rw [f]; exact N4 j g hb) (by
   rw [f,cond_false,yT ha.1 ha.2 g.1 g.2 hb.1 hb.2,(lU g).2.2]) rfl
  have e0:CA K a b c d m e=CF K a b m e (q8 c) (u8 (Int.tmod c 8)) (tR d):=by
   unfold CA bne;rw [f]
   rcases r with rfl | rfl | rfl | rfl <;> kernel_rfl
  unfold HU gU;rw [f,cond_false,e0,s,f];rfl
include ha hK in
theorem L3 (hp:(b=17/\c=16/\d=0)\/(iD b/\((c=16/\d=0)\/(iD c/\(d=1\/d=2\/d=4\/d=8))))) :
  D2 K a b c d n=F (dJ a b c d n).1 (dJ a b c d n).2:=by
 rcases hp with ⟨rfl,rfl,rfl⟩ | ⟨hb,hp⟩
 ·show K 0 0 _=F (aS 0 a 5) ([aG 0 a 5]++bV n)
  rw [hK _ _ _ (by decide) (by decide),(lU ha).1,zC,jL ha.1 ha.2 (by decide) (by decide)];congr 1;omega
 ·have e:(b==17)=false:=by have:=hb.2; exact beq_eq_false_iff_ne.2 (by omega)
  have f:=TS ha hK hb hp (m:=0) (by decide) [];have g:=TS ha hK hb hp (m:=1) (by decide) (dR n);have h:=TS ha hK hb hp (m:=2) (by decide) (bV n);unfold D2 S9 dJ;rw [e,cond_false,cond_false,aCQ,zC,F6,f,g,h,(lU hb).2.1];cases (n==0)
  ·cases dC n <;> rfl
  ·cases (cO b 7 != 5)
   ·cases dC n <;> rfl
   ·rfl
end
section
variable {x nm:List UInt8} {q:List UInt8->Bool} {dg a b c d n o p:Int} (ha:iD a) (hp:(b=17/\c=16/\d=0)\/(iD b/\((c=16/\d=0)\/(iD c/\(d=1\/d=2\/d=4\/d=8))))) (h1:1<=o) (ho:aV o) (hpb:aV p)
include ha hp ho in
theorem agX:(cI q 4 [o] 2 x dg nm a b c d n).run=bF 4 [o] 2 dg nm a b c d n:=by
 have e:qJ (q8 a):=by rw [(lU ha).2.2]; exact ⟨by omega,by omega⟩
 rw [<- Tree.bJ,ahY];refine (L3 (F:=fun R t=>some (bK ([rW R]++[o]++t))) ha (fun x y t f g=>?_) hp).trans ?_
 ·show some (bK _)=some (bK _)
  rw [(OU e f g).1,(lU ha).2.2]
 refine Eq.trans (b:=some (bK ([]++[rW (dJ a b c d n).1]++(bY o++[w8 o])++(dJ a b c d n).2))) ?_ (by kernel_rfl);rw [lF ho,kK ho];rfl
include ha hp h1 ho hpb in
theorem agO:(cI q 4 [o,p] 2 x dg nm a b c d n).run=bF 4 [o,p] 2 dg nm a b c d n:=by
 have e:qJ (q8 a):=by rw [(lU ha).2.2]; exact ⟨by omega,by omega⟩
 rw [<- Tree.bJ,ajG];refine (L3 (F:=fun R t=>some (bK ([rW R]++[o,p]++t))) ha (fun x y t f g=>?_) hp).trans ?_
 ·show some (bK _)=some (bK _)
  rw [(OU e f g).1,(lU ha).2.2]
 refine Eq.trans (b:=some (bK ([]++[rW (dJ a b c d n).1]++(bY (256*o+p)++[w8 (256*o+p)])++(dJ a b c d n).2))) ?_ (by kernel_rfl);rw [(qE h1 ho hpb).1,(qE h1 ho hpb).2];rfl
include ha hp ho in
theorem aiN:(cI q 4 [o] 1 x dg nm a b c d n).run=bF 4 [o] 1 dg nm a b c d n:=by
 have e:qJ (q8 a):=by rw [(lU ha).2.2]; exact ⟨by omega,by omega⟩
 rw [<- Tree.bJ,ajJ];refine (L3 (F:=fun R t=>some (bK ([bX 64 R]++[o]++t))) ha (fun x y t f g=>?_) hp).trans ?_
 ·show some (bK _)=some (bK _)
  rw [(OU e f g).2.1,(lU ha).2.2]
 refine Eq.trans (b:=some (bK ([]++[bX 64 (dJ a b c d n).1]++(bY o++[w8 o])++(dJ a b c d n).2))) ?_ (by kernel_rfl);rw [lF ho,kK ho];rfl
include ha hp ho in
theorem ahW:(cI q 4 [o] 0 x dg nm a b c d n).run=bF 4 [o] 0 dg nm a b c d n:=by
 have e:qJ (q8 a):=by rw [(lU ha).2.2]; exact ⟨by omega,by omega⟩
 rw [<- Tree.bJ,afR];refine (L3 (F:=fun R t=>some (bK (hY 0 R++[o]++t))) ha (fun x y t f g=>?_) hp).trans ?_
 ·show _=some (bK _)
  rw [<- (lU ha).2.2,<- (OU e f g).2.2];show cond _ _ _=_;cases decide (0<wi (wi (q8 a+x)+y)) <;> rfl
 refine Eq.trans (b:=some (bK ([]++hY 0 (dJ a b c d n).1++(bY o++[w8 o])++(dJ a b c d n).2))) ?_ (by kernel_rfl);rw [lF ho,kK ho];rfl
end
end Go.Amd

namespace Go.Amd
open Go Go.Ab Go.Proofs
def nR (ks:List Nat) (s:St):Tree St:=.leaf (s.1,bC ks s.2.1,s.2.2)
theorem qM (ks:List Nat) (x:Tree St):(x.bind (nR ks)).run=x.run.map (fun s=>(s.1,bC ks s.2.1,s.2.2)):=by
 induction x with
 | leaf b=>rfl
 | fail=>rfl
 | br c x y e g =>
  cases c
  ·exact g
  ·exact e
section
variable {P:Program} {n:Nat} {Q:AEx->T->List O->Prop} {t:T} {H:List O} {cx:Cx} {ops:Array Oper}
theorem aC3 (κ keeps:List Nat) (k:Nat) (e:cx.P=P) (i:cx.n=n) (g:aW cx) {id:Nat} {t' : T} {H' : List O}
  (h:(vQ cx ops (t,H)).map (fun l=>l.map fun s=>(iQ H.length κ (.normal,bC keeps s.1,s.2)))=some (List.replicate k (some (.normal,t',H'))))
  (j:Q .normal t' H'):aI P n (.region id ops true) Q t H:=by
 obtain ⟨l,hl,h2⟩:=Option.map_eq_some_iff.1 h;refine yG (aI.keepQ keeps (aCB e i g hl fun s m=>⟨κ,(.normal,t',H'),?_,j⟩))
 have:iQ H.length κ (.normal,bC keeps s.1,s.2) ∈ List.replicate k (some ((.normal,t',H'):St)):=by rw [<- h2]; exact List.mem_map_of_mem m
 exact (List.mem_replicate.1 this).2
end
section
variable (q:List UInt8->Bool) (f:Int) (x:List UInt8) (dg rx:Int) (nm:List UInt8) (a b c d n:Int)
theorem a9C (e:List Int):((aK (uN q f x e dg rx) (eQ 1 AS) (dZ 0 [.agg [.str nm,.int .i64 a,.int .i64 b,.int .i64 c,.int .i64 d,.int .i64 n]]) []).bind (nR [1,3])).run=cond (q nm) (some (.normal,[(1,.ptr 0 0),(3,.ptr 1 0)],[zI nm a b c d n,zT f x e dg rx])) none:=by kernel_rfl
theorem ahK (o:Int):(vQ (uN q f x [o] dg rx) WW ([(1,.ptr 0 0),(3,.ptr 1 0)],[zI nm a b c d n,zT f x [o] dg rx])).map (fun l=>l.map fun s=>iQ 2 [2,3] (.normal,bC [1,3,5] s.1,s.2)) =
  some (List.replicate 2 (some (.normal,[(1,.ptr 0 0),(3,.ptr 1 0),(5,.ptr 3 0)],[zI nm a b c d n,zT f x [o] dg rx,PF [o],OJ 1 (decide (0<rx))]))):=by kernel_rfl
theorem ahI (o p:Int):(vQ (uN q f x [o,p] dg rx) WW ([(1,.ptr 0 0),(3,.ptr 1 0)],[zI nm a b c d n,zT f x [o,p] dg rx])).map (fun l=>l.map fun s=>iQ 2 [2,3] (.normal,bC [1,3,5] s.1,s.2)) =
  some (List.replicate 2 (some (.normal,[(1,.ptr 0 0),(3,.ptr 1 0),(5,.ptr 3 0)],[zI nm a b c d n,zT f x [o,p] dg rx,PF [o,p],OJ 2 (decide (0<rx))]))):=by kernel_rfl
end
theorem ahD:aJ 1 AS = .seq (.region 2 WW true) (aJ 2 AS):=by kernel_rfl
theorem adH {q:List UInt8->Bool} {f:Int} {x:List UInt8} {e:List Int} {dg rx:Int} (h:Sound prog 69 (findF q f x e dg rx)):aW (uN q f x e dg rx):=
 qN (T:=bdB q f x e dg rx) ⟨.cons h (.cons a7X (.cons a6P (dT aCT))),.nil _,.nil _,fun p h=>by cases h⟩ aWK aY3 1
theorem aZY {q:List UInt8->Bool} {f:Int} {x:List UInt8} {g:List Int} {dg rx:Int} (h:Sound prog 69 (findF q f x g dg rx)) {nm:List UInt8} {a b c d n:Int} (r:q nm=true) (m:(∃ o,g=[o]) \/ ∃ o p,g=[o,p]) {v:V}
  (u:(cI q f g rx x dg nm a b c d n).run=some v):jS prog 137 [.agg [.str nm,.int .i64 a,.int .i64 b,.int .i64 c,.int .i64 d,.int .i64 n]] v:=by
 have j:=adH h;refine vG (c:=AS) (fn:=Tryz.f137) (by kernel_rfl) (by kernel_rfl) (by kernel_rfl) (by kernel_rfl) ?_;refine tF (cx:=uN q f x g dg rx) rfl rfl j 1 [1,3] (by kernel_rfl) ((qM _ _).symm.trans ((a9C q f x dg rx nm a b c d n g).trans (by rw [r]; rfl))) ?_;rw [ahD]
 have fin:aI prog Tryz.f137.ntmps (aJ 2 AS) (fun e' t H=>(e' = AEx.ret\/e' = .normal)/\hD prog Tryz.f137.results.toList H t=some v) [(1,.ptr 0 0),(3,.ptr 1 0),(5,.ptr 3 0)] [zI nm a b c d n,zT f x g dg rx,PF g,OJ g.length (decide (0<rx))]:=by
  obtain ⟨s,h1,i⟩:=bD u;refine dA (cx:=uN q f x g dg rx) rfl rfl j h1 ?_;obtain ⟨e,t,H⟩:=s;unfold answer at i;split at i
  ·rename_i k
   cases k;split at i
   ·rename_i v l
    cases i;exact ⟨.inl rfl,l⟩
   ·cases i
  ·rename_i k
   cases k;split at i
   ·rename_i v l
    cases i;exact ⟨.inr rfl,l⟩
   ·cases i
  ·cases i
 rcases m with ⟨o,rfl⟩ | ⟨o,p,rfl⟩
 ·exact cL (aC3 (cx:=uN q f x [o] dg rx) [2,3] [1,3,5] 2 rfl rfl j (ahK q f x dg rx nm a b c d n o) fin)
 ·exact cL (aC3 (cx:=uN q f x [o,p] dg rx) [2,3] [1,3,5] 2 rfl rfl j (ahI q f x dg rx nm a b c d n o p) fin)
def ks1:List (Int × Int):=[(1,2),(2,2),(3,2),(5,2),(6,2),(8,2),(8,0),(9,2),(9,0),(10,2),(12,0),(13,0),(14,0),(16,0),(4,2),(4,1),(4,0)]
def ks2:List (Int × Int):=[(7,2),(11,2),(9,0),(15,0),(4,2)]
def M1 (f:Int) (e:Option (List Int)) (dg rx:Int):Bool:=match e with
 | some [o]=>ks1.contains (f,rx)&&(decide (0<=o/\o<256)&&decide (0<=dg/\dg<8))
 | some [o,p]=>ks2.contains (f,rx)&&(decide (1<=o/\o<256)&&decide (0<=p/\p<256))
 | _=>false
theorem aUW:bN.all (fun y=>M1 y.2.1 y.2.2.1 y.2.2.2.1 y.2.2.2.2)=true:=by kernel_rfl
theorem VZ {x:RowT} {a b c d:Int} (h:okF x a b c d=true) (i:uM x=false) (j:bI x=false):d=0:=by
 rcases mB h with ⟨g,-⟩ | ⟨-,-,-,-,e⟩
 ·rw [i] at g; cases g
 ·rcases e with e | ⟨e,-⟩
  ·exact e
  ·rw [j] at e; cases e
theorem NA {x:RowT} {a b c d:Int} (h:okF x a b c d=true) (i:uM x=true):(b=17/\c=16/\d=0)\/(iD b/\((c=16/\d=0)\/(iD c/\(d=1\/d=2\/d=4\/d=8)))):=by
 rcases mB h with ⟨-,-,g⟩ | ⟨e,-⟩
 ·rcases vE g with h | ⟨hb,hc,hd⟩ | ⟨hb,hc,-,hd⟩
  ·exact .inl h
  ·exact .inr ⟨hb,.inl ⟨hc,hd⟩⟩
  ·exact .inr ⟨hb,.inr ⟨hc,hd⟩⟩
 ·rw [i] at e; cases e
theorem a7S (q:List UInt8->Bool) {x nm:List UInt8} {f dg rx:Int} {m:List Int} (j:M1 f (some m) dg rx=true) {a b c d n:Int} (h:okF (conv (nm,f,some m,dg,rx)) a b c d=true) :
  ((∃ o,m=[o]) \/ ∃ o p,m=[o,p])/\(cI q f m rx x dg nm a b c d n).run=bF f m rx dg nm a b c d n:=by
 have k:iD a:=(r8 (i:=(nm,a,b,c,d,n)) h).1;have u:uM (conv (nm,f,some m,dg,rx))=false->iD b:=fun e=>(mD (i:=(nm,a,b,c,d,n)) h e).2.2.2
 match m,j,h,u with
 | [o],j,h,u =>
  refine ⟨.inl ⟨o,rfl⟩,?_⟩;unfold M1 at j;obtain ⟨l,j⟩:=ZA0.1 j;obtain ⟨g,r⟩:=ZA0.1 j;have g:0<=o/\o<256:=of_decide_eq_true g;have r:0<=dg/\dg<8:=of_decide_eq_true r
  have l:(f,rx) ∈ ks1:=by simpa using l
  simp only [ks1,ZE3,List.not_mem_nil,or_false,Prod.mk.injEq] at l
  rcases l with ⟨rfl,rfl⟩ | ⟨rfl,rfl⟩ | ⟨rfl,rfl⟩ | ⟨rfl,rfl⟩ | ⟨rfl,rfl⟩ | ⟨rfl,rfl⟩ | ⟨rfl,rfl⟩ | ⟨rfl,rfl⟩ | ⟨rfl,rfl⟩ | ⟨rfl,rfl⟩ | ⟨rfl,rfl⟩ | ⟨rfl,rfl⟩ | ⟨rfl,rfl⟩ | ⟨rfl,rfl⟩ | ⟨rfl,rfl⟩ | ⟨rfl,rfl⟩ | ⟨rfl,rfl⟩
  ·exact (aZ1 q x dg nm a b c d n o).trans (k1 k (u (by kernel_rfl)) g)
  ·exact (aYC q x dg nm a b c d n o).trans (k2 k g)
  ·exact (a06 q x dg nm a b c d n o).trans (k3 k r g)
  ·exact (aZR q x dg nm a b c d n o).trans (k5 k g)
  ·exact (aY1 q x dg nm a b c d n o).trans (k6 k r g)
  ·exact (aX5 q x dg nm a b c d n o).trans (k8 k r g)
  ·exact (aYY q x dg nm a b c d n o).trans (k8s k r g)
  ·exact (aX7 q x dg nm a b c d n o).trans (k9 g)
  ·exact (aYX q x dg nm a b c d n o).trans (k9s g)
  ·exact (aUX q x dg nm a b c d n o).trans (k10 k r g)
  ·exact (aW9 q x dg nm a b c d n o).trans (k12 k g)
  ·exact (aVA q x dg nm a b c d n o).trans (k13 g (VZ h (by kernel_rfl) (by kernel_rfl)))
  ·exact (aV9 q x dg nm a b c d n o).trans (k14 g (VZ h (by kernel_rfl) (by kernel_rfl)))
  ·exact (aU5 q x dg nm a b c d n o).trans (k16 g)
  ·exact agX k (NA h (by kernel_rfl)) g
  ·exact aiN k (NA h (by kernel_rfl)) g
  ·exact ahW k (NA h (by kernel_rfl)) g
 | [o,p],j,h,u =>
  refine ⟨.inr ⟨o,p,rfl⟩,?_⟩;unfold M1 at j;obtain ⟨l,j⟩:=ZA0.1 j;obtain ⟨g,s⟩:=ZA0.1 j;have w:1<=o/\o<256:=of_decide_eq_true g;have s:0<=p/\p<256:=of_decide_eq_true s;have v:1<=o:=w.1;have g:aV o:=⟨by omega,w.2⟩
  have l:(f,rx) ∈ ks2:=by simpa using l
  simp only [ks2,ZE3,List.not_mem_nil,or_false,Prod.mk.injEq] at l
  rcases l with ⟨rfl,rfl⟩ | ⟨rfl,rfl⟩ | ⟨rfl,rfl⟩ | ⟨rfl,rfl⟩ | ⟨rfl,rfl⟩
  ·exact (aYW q x dg nm a b c d n o p).trans (k7 k (u (by kernel_rfl)) v g s (VZ h (by kernel_rfl) (by kernel_rfl)))
  ·exact (aV7 q x dg nm a b c d n o p).trans (k11 k (u (by kernel_rfl)) v g s)
  ·exact (aYD q x dg nm a b c d n o p).trans (k9t v g s)
  ·exact (aWC q x dg nm a b c d n o p).trans (k15 v g s)
  ·exact agO k (NA h (by kernel_rfl)) v g s
 | [],j,_,_=>cases j
 | _ :: _ :: _ :: _,j,_,_=>cases j
def L8:Ab.Spec:=fun args=>match args with
 | [.agg [.str nm,.int .i64 a,.int .i64 b,.int .i64 c,.int .i64 d,.int .i64 n]]=>.aF (cX (nm,a,b,c,d,n)==0) (.leaf (bK (iB (nm,a,b,c,d,n))))
 | _=>.fail
theorem aEQ:Sound prog 137 L8:=by
 intro args out h;unfold L8 at h;split at h;rotate_left
 ·cases h
 rename_i nm a b c d n;obtain ⟨s,h⟩:=aM h;have h:=dU h;subst h;have g:cX (nm,a,b,c,d,n)=0:=eq_of_beq s
 have e:kO nm=true:=by
  cases u:kO nm
  ·exfalso
   unfold cX at g;rw [aLU,u] at g;cases g
  ·rfl
 obtain ⟨_,k,o⟩:=aKJ e;obtain ⟨l,-⟩:=aHG e;have i:=iX (S8 g).2.2;have el:iB (nm,a,b,c,d,n)=F9 (conv (jA nm)) (nm,a,b,c,d,n):=congrArg (fun r=>F9 r (nm,a,b,c,d,n)) l;rw [show dW (nm,a,b,c,d,n).1=conv (jA nm) from l] at i;have m:=List.all_eq_true.1 aUW _ k;obtain ⟨p,j,-⟩:=MH k;rw [el];generalize jA nm=y at k o i m j;obtain ⟨x,f,op',dg,rx⟩:=y;simp only at j;subst j;obtain ⟨v,hrun⟩:=a7S (fun nm=>sA nm (x,f,some p,dg,rx)) (x:=x) (nm:=nm) (n:=n) m i
 exact aZY (aGX (y:=(x,f,some p,dg,rx)) rfl) o v (hrun.trans rfl)
end Go.Amd

namespace Go.Amd
open Go Go.Ab Go.Proofs
noncomputable def aNW:Cx:={ P:=prog,n:=31,tab:=[(35,UR),(137,L8)],mtab:=[],refs:=[],keeps:=[0,1,3,4,5,6,9,15,21,30],fuel:=11 }
def AR (l w:List Int):Nat->Int->Option V
 | 0,_=>none
 | f+1,k=>cond (decide (k<(w.length:Int))) (cond (k==(l.length:Int)) (some (.int .i64 (-1))) (cond (inside k l.length) (cond (inside k w.length) (cond (l.getD k.toNat 0 != w.getD k.toNat 0) (some (.int .i64 0)) (AR l w f (wi (k+1)))) none) none)) (some (.int .i64 1))
theorem afS (l sp:List Int) (fl:Fl) (nm:List UInt8) (a b c d n:Int):(a7 aNW Tryz.f136 [.sl (.int .u8) l sp fl,.agg [.str nm,.int .i64 a,.int .i64 b,.int .i64 c,.int .i64 d,.int .i64 n]]).fin =
  cond (rY (nm,a,b,c,d,n) != 0) (some (.int .i64 0)) (cond (cX (nm,a,b,c,d,n)==0) (AR l (iB (nm,a,b,c,d,n)) 11 0) none):=by kernel_rfl
def xP:List Int->List Int->Int
 | _,[]=>1
 | [],_ :: _=>-1
 | x :: b,y :: w=>cond (x==y) (xP b w) 0
theorem aL5 (l w:List Int) (c:w.length<1000):∀ (f j:Nat),j<=l.length->j<=w.length->w.length<j+f->AR l w f (j:Int)=some (.int .i64 (xP (l.drop j) (w.drop j)))
 | 0,j,_,h2,h3=>absurd h3 (by omega)
 | f+1,j,h1,h2,h3=>by
  unfold AR;by_cases hj:j<w.length
  ·rw [decide_eq_true (show (j:Int)<(w.length:Int) by omega),cond_true,List.drop_eq_getElem_cons hj]
   by_cases he:j=l.length
   ·subst he
    rw [List.drop_length,show ((l.length:Int)==(l.length:Int))=true from beq_self_eq_true _];rfl
   ·have a:j<l.length:=by omega
    rw [show ((j:Int)==(l.length:Int))=false from beq_eq_false_iff_ne.2 (by omega),cond_false,jI (by omega) (by omega),cond_true,jI (by omega) (by omega),cond_true,Int.toNat_natCast,oD a,oD hj,List.drop_eq_getElem_cons a];unfold xP bne;have b:wi ((j:Int)+1)=((j+1:Nat):Int):=wrap_i64 (n:=(j:Int)+1) (by omega) (by omega);cases d:(l[j]==w[j])
    ·rfl
    ·show AR l w f (wi ((j:Int)+1))=_
     rw [b];exact aL5 l w c f (j+1) (by omega) (by omega) (by omega)
  ·rw [decide_eq_false (show ¬ (j:Int)<(w.length:Int) by omega),cond_false,List.drop_eq_nil_of_le (show w.length<=j by omega)]
   cases l.drop j <;> rfl
theorem aIG:∀ {b w:List Int},xP b w=1 -> ∃ t,b=w++t
 | b,[],_=>⟨b,rfl⟩
 | [],_ :: _,h=>by cases h
 | x :: b,y :: w,h=>by
  unfold xP at h;cases a:(x==y)
  ·rw [a] at h; cases h
  ·rw [a,cond_true] at h
   obtain ⟨t,ht⟩:=aIG h;exact ⟨t,by rw [eq_of_beq a,ht]; rfl⟩
theorem aI7:∀ (w t:List Int),xP (w++t) w=1
 | [],t=>by cases t <;> rfl
 | y :: w,t=>by
  show cond (y==y) (xP (w++t) w) 0=1;rw [beq_self_eq_true,cond_true];exact aI7 w t
def oQ (l:List Int) (i:aE):Int:=cond (cX i==0) (xP l (iB i)) 0
def XB:Ab.Spec:=fun args=>match args with
 | [.sl (.int .u8) l _ _,.agg [.str nm,.int .i64 a,.int .i64 b,.int .i64 c,.int .i64 d,.int .i64 n]]=>.aF (eG n) (.leaf (.int .i64 (oQ l (nm,a,b,c,d,n))))
 | _=>.fail
theorem ftO {l:List Int} {nm:List UInt8} {a b c d n:Int} (e:eG n=true) :
  cond (rY (nm,a,b,c,d,n) != 0) (some (.int .i64 0)) (cond (cX (nm,a,b,c,d,n)==0) (AR l (iB (nm,a,b,c,d,n)) 11 0) none)=some (V.int .i64 (oQ l (nm,a,b,c,d,n))):=by
 rw [aG3 (i:=(nm,a,b,c,d,n)) e];unfold oQ bne;cases f:(cX (nm,a,b,c,d,n)==0)
 ·rfl
 ·obtain ⟨-,-,h10⟩:=aZD (eq_of_beq f)
  show AR l _ 11 0=_;have:=aL5 l (iB (nm,a,b,c,d,n)) (by omega) 11 0 (Nat.zero_le _) (Nat.zero_le _) (by omega);simpa using this
theorem a3I:Sound prog 136 XB:=by
 intro args out h;unfold XB at h;split at h;rotate_left
 ·cases h
 rename_i l sp fl nm a b c d n;obtain ⟨e,h⟩:=aM h;have h:=dU h;subst h;exact cE (cx:=aNW) (fn:=Tryz.f136) (bU (.cons aDS (dT aEQ)) (.nil _) rfl rfl) (by kernel_rfl) (by kernel_rfl) (by kernel_rfl) ((Tree.bJ _).symm.trans ((afS l sp fl nm a b c d n).trans (ftO e)))
theorem SC {l:List Int} {i:aE}:oQ l i=1 ↔ cX i=0 /\ ∃ t,l=iB i++t:=by
 unfold oQ;constructor
 ·intro h
  cases a:(cX i==0)
  ·rw [a] at h; cases h
  ·rw [a] at h
   exact ⟨eq_of_beq a,aIG h⟩
 ·rintro ⟨a,t,rfl⟩
  rw [a];exact aI7 _ t
end Go.Amd

namespace Go.Amd
open Go Go.Ab Go.Proofs
noncomputable def aN1:Cx:={ P:=prog,n:=188,tab:=[(134,uZ),(194,MW),(193,MM)],mtab:=[],refs:=[],keeps:=[0,1,2,3,4,8,9,10,11,12,13,14,45,46,52,58,71,83,91,95,104,113,126,132,141,149,155,161,174] }
noncomputable abbrev eM (f:Int) (nm:List UInt8) (a:List Int) (dg b:Int) (l sp:List Int) (fl:Fl) (r k:Int):Tree V:=
 a7 aN1 Tryz.f135 [.agg [.str nm,.int .i64 f,.sl (.int .u8) a [] .ro,.int .i64 dg,.int .i64 b],.sl (.int .u8) l sp fl,.int .u8 r,.int .i64 k]
def gt1 (nm:List UInt8) (c:List Int) (a d:Int) (l e:List Int) (b:Fl) (r k:Int):Tree V:=
 (.br (decide (0<=k)) (.br (decide (0<=wrap i64 (k - 1))) (.leaf (.agg [(.str nm),(.int .i64 (wrap i64 (wrap i64 (wrap IntKind.u8 ↑(BitVec.toNat (BitVec.ofInt 8 (aB l k) &&& BitVec.ofInt 8 7)))+tI (List.getD [b7 r 2,b7 r 1,fZ r] 2 (tI (EC.dflt (EC.int i64))))))),(.int .i64 (wrap i64 (wrap i64 (wrap IntKind.u8 ↑(BitVec.toNat (BitVec.ofInt 8 (Int.fdiv (aB l k) (2 ^ 3)) &&& BitVec.ofInt 8 7)))+tI (List.getD [b7 r 2,b7 r 1,fZ r] 0 (tI (EC.dflt (EC.int i64))))))),(.int .i64 0),(.int .i64 0),(.int .i64 0)])) .fail) .fail)
theorem ad1 (nm:List UInt8) (a:List Int) (dg b:Int) (l sp:List Int) (fl:Fl) (r k:Int):(eM 1 nm a dg b l sp fl r k).run=(gt1 nm a dg b l sp fl r k).run:=
 (show (eM 1 nm a dg b l sp fl r k).run=(gt1 nm a dg b l sp fl r k).out by kernel_rfl).trans (Tree.out_run _)
def gt2 (nm:List UInt8) (c:List Int) (a d:Int) (l e:List Int) (b:Fl) (r k:Int):Tree V:=
 (.br (decide (0<=k)) (.br (decide (0<=wrap i64 (k - 1))) (.br (gK k) (.leaf (.agg [(.str nm),(.int .i64 (wrap i64 (wrap i64 (wrap IntKind.u8 ↑(BitVec.toNat (BitVec.ofInt 8 (aB l (wrap i64 (k - 1))) &&& BitVec.ofInt 8 7)))+tI (List.getD [b7 r 2,b7 r 1,fZ r] 2 (tI (EC.dflt (EC.int i64))))))),(.int .i64 0),(.int .i64 0),(.int .i64 0),(.int .i64 (u6 l k))])) .fail) .fail) .fail)
theorem afI (nm:List UInt8) (a:List Int) (dg b:Int) (l sp:List Int) (fl:Fl) (r k:Int):(eM 2 nm a dg b l sp fl r k).run=(gt2 nm a dg b l sp fl r k).run:=
 (show (eM 2 nm a dg b l sp fl r k).run=(gt2 nm a dg b l sp fl r k).out by kernel_rfl).trans (Tree.out_run _)
def gt3 (nm:List UInt8) (c:List Int) (a d:Int) (l e:List Int) (b:Fl) (r k:Int):Tree V:=
 (.br (decide (0<=k)) (.br (decide (0<=wrap i64 (k - 1))) (.br (gK (wrap i64 (k+1))) (.leaf (.agg [(.str nm),(.int .i64 (wrap i64 (wrap i64 (wrap IntKind.u8 ↑(BitVec.toNat (BitVec.ofInt 8 (aB l k) &&& BitVec.ofInt 8 7)))+tI (List.getD [b7 r 2,b7 r 1,fZ r] 2 (tI (EC.dflt (EC.int i64))))))),(.int .i64 0),(.int .i64 0),(.int .i64 0),(.int .i64 (fJ l (wrap i64 (k+1))))])) .fail) .fail) .fail)
theorem adJ (nm:List UInt8) (a:List Int) (dg b:Int) (l sp:List Int) (fl:Fl) (r k:Int):(eM 3 nm a dg b l sp fl r k).run=(gt3 nm a dg b l sp fl r k).run:=
 (show (eM 3 nm a dg b l sp fl r k).run=(gt3 nm a dg b l sp fl r k).out by kernel_rfl).trans (Tree.out_run _)
def gt5 (nm:List UInt8) (c:List Int) (a d:Int) (l e:List Int) (b:Fl) (r k:Int):Tree V:=
 (.br (decide (0<=k)) (.br (decide (0<=wrap i64 (k - 1))) (.br (gK (wrap i64 (k+2))) (.leaf (.agg [(.str nm),(.int .i64 (wrap i64 (wrap i64 (wrap IntKind.u8 ↑(BitVec.toNat (BitVec.ofInt 8 (Int.fdiv (aB l k) (2 ^ 3)) &&& BitVec.ofInt 8 7)))+tI (List.getD [b7 r 2,b7 r 1,fZ r] 0 (tI (EC.dflt (EC.int i64))))))),(.int .i64 0),(.int .i64 0),(.int .i64 0),(.int .i64 (fJ l (wrap i64 (k+2))))])) .fail) .fail) .fail)
theorem acY (nm:List UInt8) (a:List Int) (dg b:Int) (l sp:List Int) (fl:Fl) (r k:Int):(eM 5 nm a dg b l sp fl r k).run=(gt5 nm a dg b l sp fl r k).run:=
 (show (eM 5 nm a dg b l sp fl r k).run=(gt5 nm a dg b l sp fl r k).out by kernel_rfl).trans (Tree.out_run _)
def gt6 (nm:List UInt8) (c:List Int) (a d:Int) (l e:List Int) (b:Fl) (r k:Int):Tree V:=
 (.br (decide (0<=k)) (.br (decide (0<=wrap i64 (k - 1))) (.br (gK (wrap i64 (k+1))) (.br (decide (0<=wrap i64 (k - 1))) (.br (aB l (wrap i64 (k - 1))==129) (.br (gK (wrap i64 (k+1))) (.leaf (.agg [(.str nm),(.int .i64 (wrap i64 (wrap i64 (wrap IntKind.u8 ↑(BitVec.toNat (BitVec.ofInt 8 (aB l k) &&& BitVec.ofInt 8 7)))+tI (List.getD [b7 r 2,b7 r 1,fZ r] 2 (tI (EC.dflt (EC.int i64))))))),(.int .i64 0),(.int .i64 0),(.int .i64 0),(.int .i64 (fJ l (wrap i64 (k+1))))])) .fail) (.leaf (.agg [(.str nm),(.int .i64 (wrap i64 (wrap i64 (wrap IntKind.u8 ↑(BitVec.toNat (BitVec.ofInt 8 (aB l k) &&& BitVec.ofInt 8 7)))+tI (List.getD [b7 r 2,b7 r 1,fZ r] 2 (tI (EC.dflt (EC.int i64))))))),(.int .i64 0),(.int .i64 0),(.int .i64 0),(.int .i64 (iL l (wrap i64 (k+1))))]))) .fail) .fail) .fail) .fail)
theorem aeZ (nm:List UInt8) (a:List Int) (dg b:Int) (l sp:List Int) (fl:Fl) (r k:Int):(eM 6 nm a dg b l sp fl r k).run=(gt6 nm a dg b l sp fl r k).run:=
 (show (eM 6 nm a dg b l sp fl r k).run=(gt6 nm a dg b l sp fl r k).out by kernel_rfl).trans (Tree.out_run _)
def gt7 (nm:List UInt8) (c:List Int) (a d:Int) (l e:List Int) (b:Fl) (r k:Int):Tree V:=
 (.br (decide (0<=k)) (.br (decide (0<=wrap i64 (k - 1))) (.leaf (.agg [(.str nm),(.int .i64 (wrap i64 (wrap i64 (wrap IntKind.u8 ↑(BitVec.toNat (BitVec.ofInt 8 (Int.fdiv (aB l k) (2 ^ 3)) &&& BitVec.ofInt 8 7)))+tI (List.getD [b7 r 2,b7 r 1,fZ r] 0 (tI (EC.dflt (EC.int i64))))))),(.int .i64 (wrap i64 (wrap i64 (wrap IntKind.u8 ↑(BitVec.toNat (BitVec.ofInt 8 (aB l k) &&& BitVec.ofInt 8 7)))+tI (List.getD [b7 r 2,b7 r 1,fZ r] 2 (tI (EC.dflt (EC.int i64))))))),(.int .i64 0),(.int .i64 0),(.int .i64 0)])) .fail) .fail)
theorem acK (nm:List UInt8) (a:List Int) (dg b:Int) (l sp:List Int) (fl:Fl) (r k:Int):(eM 7 nm a dg b l sp fl r k).run=(gt7 nm a dg b l sp fl r k).run:=
 (show (eM 7 nm a dg b l sp fl r k).run=(gt7 nm a dg b l sp fl r k).out by kernel_rfl).trans (Tree.out_run _)
def gt8 (nm:List UInt8) (c:List Int) (a d:Int) (l e:List Int) (b:Fl) (r k:Int):Tree V:=
 (.br (decide (0<=k)) (.br (decide (0<=wrap i64 (k - 1))) (.leaf (.agg [(.str nm),(.int .i64 (wrap i64 (wrap i64 (wrap IntKind.u8 ↑(BitVec.toNat (BitVec.ofInt 8 (aB l k) &&& BitVec.ofInt 8 7)))+tI (List.getD [b7 r 2,b7 r 1,fZ r] 2 (tI (EC.dflt (EC.int i64))))))),(.int .i64 0),(.int .i64 0),(.int .i64 0),(.int .i64 0)])) .fail) .fail)
theorem ab4 (nm:List UInt8) (a:List Int) (dg b:Int) (l sp:List Int) (fl:Fl) (r k:Int):(eM 8 nm a dg b l sp fl r k).run=(gt8 nm a dg b l sp fl r k).run:=
 (show (eM 8 nm a dg b l sp fl r k).run=(gt8 nm a dg b l sp fl r k).out by kernel_rfl).trans (Tree.out_run _)
def gt9 (nm:List UInt8) (c:List Int) (a d:Int) (f e:List Int) (b:Fl) (g k:Int):Tree V:=
 (.br (decide (0<=k)) (.br (decide (0<=wrap i64 (k - 1))) (.leaf (.agg [(.str nm),(.int .i64 0),(.int .i64 0),(.int .i64 0),(.int .i64 0),(.int .i64 0)])) .fail) .fail)
theorem ac8 (nm:List UInt8) (a:List Int) (dg b:Int) (l sp:List Int) (fl:Fl) (r k:Int):(eM 9 nm a dg b l sp fl r k).run=(gt9 nm a dg b l sp fl r k).run:=
 (show (eM 9 nm a dg b l sp fl r k).run=(gt9 nm a dg b l sp fl r k).out by kernel_rfl).trans (Tree.out_run _)
def ZR (nm:List UInt8) (c:List Int) (a d:Int) (l e:List Int) (b:Fl) (r k:Int):Tree V:=
 (.br (decide (0<=k)) (.br (decide (0<=wrap i64 (k - 1))) (.br (gK (wrap i64 (k+1))) (.leaf (.agg [(.str nm),(.int .i64 (wrap i64 (wrap i64 (wrap IntKind.u8 ↑(BitVec.toNat (BitVec.ofInt 8 (aB l k) &&& BitVec.ofInt 8 7)))+tI (List.getD [b7 r 2,b7 r 1,fZ r] 2 (tI (EC.dflt (EC.int i64))))))),(.int .i64 0),(.int .i64 0),(.int .i64 0),(.int .i64 (iL l (wrap i64 (k+1))))])) .fail) .fail) .fail)
theorem a6T (nm:List UInt8) (a:List Int) (dg b:Int) (l sp:List Int) (fl:Fl) (r k:Int):(eM 10 nm a dg b l sp fl r k).run=(ZR nm a dg b l sp fl r k).run:=
 (show (eM 10 nm a dg b l sp fl r k).run=(ZR nm a dg b l sp fl r k).out by kernel_rfl).trans (Tree.out_run _)
def Y6 (nm:List UInt8) (c:List Int) (a d:Int) (l e:List Int) (b:Fl) (r k:Int):Tree V:=
 (.br (decide (0<=k)) (.br (decide (0<=wrap i64 (k - 1))) (.br (decide (0<=wrap i64 (k - 1))) (.leaf (.agg [(.str nm),(.int .i64 (wrap i64 (wrap i64 (wrap IntKind.u8 ↑(BitVec.toNat (BitVec.ofInt 8 (Int.fdiv (aB l k) (2 ^ 3)) &&& BitVec.ofInt 8 7)))+tI (List.getD [b7 r 2,b7 r 1,fZ r] 0 (tI (EC.dflt (EC.int i64))))))),(.int .i64 (wrap i64 (wrap i64 (wrap IntKind.u8 ↑(BitVec.toNat (BitVec.ofInt 8 (aB l k) &&& BitVec.ofInt 8 7)))+tI (List.getD [b7 r 2,b7 r 1,fZ r] 2 (tI (EC.dflt (EC.int i64))))))),(.int .i64 0),(.int .i64 (wrap i64 (wrap IntKind.u8 ↑(BitVec.toNat (BitVec.ofInt 8 (aB l (wrap i64 (k - 1))) &&& BitVec.ofInt 8 15))))),(.int .i64 0)])) .fail) .fail) .fail)
theorem a69 (nm:List UInt8) (a:List Int) (dg b:Int) (l sp:List Int) (fl:Fl) (r k:Int):(eM 11 nm a dg b l sp fl r k).run=(Y6 nm a dg b l sp fl r k).run:=
 (show (eM 11 nm a dg b l sp fl r k).run=(Y6 nm a dg b l sp fl r k).out by kernel_rfl).trans (Tree.out_run _)
def ZX (nm:List UInt8) (c:List Int) (a d:Int) (l e:List Int) (b:Fl) (r k:Int):Tree V:=
 (.br (decide (0<=k)) (.br (decide (0<=wrap i64 (k - 1))) (.leaf (.agg [(.str nm),(.int .i64 (wrap i64 (wrap i64 (wrap IntKind.u8 ↑(BitVec.toNat (BitVec.ofInt 8 (aB l (wrap i64 (k - 1))) &&& BitVec.ofInt 8 7)))+tI (List.getD [b7 r 2,b7 r 1,fZ r] 2 (tI (EC.dflt (EC.int i64))))))),(.int .i64 0),(.int .i64 0),(.int .i64 0),(.int .i64 0)])) .fail) .fail)
theorem a8S (nm:List UInt8) (a:List Int) (dg b:Int) (l sp:List Int) (fl:Fl) (r k:Int):(eM 12 nm a dg b l sp fl r k).run=(ZX nm a dg b l sp fl r k).run:=
 (show (eM 12 nm a dg b l sp fl r k).run=(ZX nm a dg b l sp fl r k).out by kernel_rfl).trans (Tree.out_run _)
def YJ (nm:List UInt8) (c:List Int) (a d:Int) (l e:List Int) (b:Fl) (f k:Int):Tree V:=
 (.br (decide (0<=k)) (.br (decide (0<=wrap i64 (k - 1))) (.br (gK k) (.leaf (.agg [(.str nm),(.int .i64 0),(.int .i64 0),(.int .i64 0),(.int .i64 0),(.int .i64 (fJ l k))])) .fail) .fail) .fail)
theorem a7J (nm:List UInt8) (a:List Int) (dg b:Int) (l sp:List Int) (fl:Fl) (r k:Int):(eM 13 nm a dg b l sp fl r k).run=(YJ nm a dg b l sp fl r k).run:=
 (show (eM 13 nm a dg b l sp fl r k).run=(YJ nm a dg b l sp fl r k).out by kernel_rfl).trans (Tree.out_run _)
def Y7 (nm:List UInt8) (c:List Int) (a d:Int) (l e:List Int) (b:Fl) (f k:Int):Tree V:=
 (.br (decide (0<=k)) (.br (decide (0<=wrap i64 (k - 1))) (.br (gK k) (.leaf (.agg [(.str nm),(.int .i64 0),(.int .i64 0),(.int .i64 0),(.int .i64 0),(.int .i64 (iL l k))])) .fail) .fail) .fail)
theorem a8L (nm:List UInt8) (a:List Int) (dg b:Int) (l sp:List Int) (fl:Fl) (r k:Int):(eM 14 nm a dg b l sp fl r k).run=(Y7 nm a dg b l sp fl r k).run:=
 (show (eM 14 nm a dg b l sp fl r k).run=(Y7 nm a dg b l sp fl r k).out by kernel_rfl).trans (Tree.out_run _)
def X9 (nm:List UInt8) (c:List Int) (a d:Int) (l e:List Int) (b:Fl) (f k:Int):Tree V:=
 (.br (decide (0<=k)) (.br (decide (0<=wrap i64 (k - 1))) (.br (decide (0<=wrap i64 (k - 1))) (.br (gK k) (.leaf (.agg [(.str nm),(.int .i64 0),(.int .i64 0),(.int .i64 0),(.int .i64 (wrap i64 (wrap IntKind.u8 ↑(BitVec.toNat (BitVec.ofInt 8 (aB l (wrap i64 (k - 1))) &&& BitVec.ofInt 8 15))))),(.int .i64 (fJ l k))])) .fail) .fail) .fail) .fail)
theorem a8W (nm:List UInt8) (a:List Int) (dg b:Int) (l sp:List Int) (fl:Fl) (r k:Int):(eM 15 nm a dg b l sp fl r k).run=(X9 nm a dg b l sp fl r k).run:=
 (show (eM 15 nm a dg b l sp fl r k).run=(X9 nm a dg b l sp fl r k).out by kernel_rfl).trans (Tree.out_run _)
def YQ (nm:List UInt8) (c:List Int) (a d:Int) (l e:List Int) (b:Fl) (f k:Int):Tree V:=
 (.br (decide (0<=k)) (.br (decide (0<=wrap i64 (k - 1))) (.br (decide (0<=wrap i64 (k - 1))) (.br (gK k) (.leaf (.agg [(.str nm),(.int .i64 0),(.int .i64 0),(.int .i64 0),(.int .i64 (wrap i64 (wrap IntKind.u8 ↑(BitVec.toNat (BitVec.ofInt 8 (aB l (wrap i64 (k - 1))) &&& BitVec.ofInt 8 15))))),(.int .i64 (iL l k))])) .fail) .fail) .fail) .fail)
theorem a6Z (nm:List UInt8) (a:List Int) (dg b:Int) (l sp:List Int) (fl:Fl) (r k:Int):(eM 16 nm a dg b l sp fl r k).run=(YQ nm a dg b l sp fl r k).run:=
 (show (eM 16 nm a dg b l sp fl r k).run=(YQ nm a dg b l sp fl r k).out by kernel_rfl).trans (Tree.out_run _)
end Go.Amd

namespace Go.Amd
open Go Go.Ab Go.Proofs
noncomputable def gmB:Tabs:={ tab:=[(134,uZ),(194,MW),(193,MM)] }
noncomputable def aKT:List Fi:=[]
theorem aYN:fY prog aKT:=trivial
noncomputable def aK3:List Fi:=[⟨195,Tryz.f195,[0,1,2,3,8,9,10,33,70,83,93,94,102],[],0,[]⟩]
theorem aZP:fY prog aK3:=⟨⟨by kernel_rfl,by kernel_rfl⟩,trivial⟩
noncomputable def gmT (d:Nat):Tabs:=deep prog gmB aKT aK3 d
noncomputable def YC:Cx:={ P:=prog,n:=Tryz.f135.ntmps,tab:=(gmT 1).tab,mtab:=(gmT 1).mtab,refs:=[],keeps:=[0,1,2,3,4,8,9,10,11,12,13,14,45,46,52,58,71,83,91,95,104,113,126,132,141,149,155,161,174] }
theorem a6K:aW YC:=qN (T:=gmB) ⟨.cons tP (.cons aGW (dT aES)),.nil _,.nil _,fun p h=>by cases h⟩ aYN aZP 1
noncomputable abbrev gmE (nm:List UInt8) (a:List Int) (dg b:Int) (l sp:List Int) (fl:Fl) (r k:Int):Tree V:=
 a7 YC Tryz.f135 [.agg [.str nm,.int .i64 4,.sl (.int .u8) a [] .ro,.int .i64 dg,.int .i64 b],.sl (.int .u8) l sp fl,.int .u8 r,.int .i64 k]
def gt4 (nm:List UInt8) (o:List Int) (m p:Int) (l q:List Int) (n:Fl) (r k:Int):Tree V:=
 let a:=(wrap i64 (wrap i64 (wrap IntKind.u8 ↑(BitVec.toNat (BitVec.ofInt 8 (Int.fdiv (aB l k) (2 ^ 3)) &&& BitVec.ofInt 8 7)))+tI (List.getD [b7 r 2,b7 r 1,fZ r] 0 (tI (EC.dflt (EC.int i64)))))); let e:=(wrap i64 (wrap i64 (wrap IntKind.u8 ↑(BitVec.toNat (BitVec.ofInt 8 (aB l (wrap i64 (k+1))) &&& BitVec.ofInt 8 7)))+tI (List.getD [b7 r 2,b7 r 1,fZ r] 2 (tI (EC.dflt (EC.int i64)))))); let f:=(wrap i64 (wrap i64 (wrap IntKind.u8 ↑(BitVec.toNat (BitVec.ofInt 8 (aB l k) &&& BitVec.ofInt 8 7)))+tI (List.getD [b7 r 2,b7 r 1,fZ r] 2 (tI (EC.dflt (EC.int i64)))))); let j:=(wrap i64 (wrap IntKind.u8 ↑(BitVec.toNat (BitVec.ofInt 8 (Int.fdiv (aB l (wrap i64 (k+1))) (2 ^ 3)) &&& BitVec.ofInt 8 7)))+tI (List.getD [b7 r 2,b7 r 1,fZ r] 1 (tI (EC.dflt (EC.int i64))))); let c:=(wrap i64 (wrap i64 (k+1)+1)); let b:=(wrap i64 (k+1)); let i:=(wrap i64 (1*2 ^ Min.min (Int.toNat (Int.fdiv (aB l b) (2 ^ 6))) 64)); let g:=(Int.fdiv (aB l k) (2 ^ 6)==2); let h:=(Int.fdiv (aB l k) (2 ^ 6)==1); let d:=(wrap i64 j); (.br (decide (0<=k)) (.br (decide (0<=wrap i64 (k - 1))) (.br (decide (0<=k)) (.br (wrap IntKind.u8 ↑(BitVec.toNat (BitVec.ofInt 8 (aB l k) &&& BitVec.ofInt 8 7))==4) (.br (decide (0<=wrap i64 (k+1))) (.br (decide (0<=Int.fdiv (aB l b) (2 ^ 6))) (.br (wrap i64 j==4) (.br h (.br (gK c) (.leaf (.agg [(.str nm),(.int .i64 a),(.int .i64 e),(.int .i64 16),(.int .i64 0),(.int .i64 (iL l c))])) .fail) (.br g (.br (gK c) (.leaf (.agg [(.str nm),(.int .i64 a),(.int .i64 e),(.int .i64 16),(.int .i64 0),(.int .i64 (fJ l c))])) .fail) (.leaf (.agg [(.str nm),(.int .i64 a),(.int .i64 e),(.int .i64 16),(.int .i64 0),(.int .i64 0)])))) (.br h (.br (gK c) (.leaf (.agg [(.str nm),(.int .i64 a),(.int .i64 e),(.int .i64 d),(.int .i64 i),(.int .i64 (iL l c))])) .fail) (.br g (.br (gK c) (.leaf (.agg [(.str nm),(.int .i64 a),(.int .i64 e),(.int .i64 d),(.int .i64 i),(.int .i64 (fJ l c))])) .fail) (.leaf (.agg [(.str nm),(.int .i64 a),(.int .i64 e),(.int .i64 d),(.int .i64 i),(.int .i64 0)]))))) .fail) .fail) (.br (Int.fdiv (aB l k) (2 ^ 6)==0) (.br (wrap IntKind.u8 ↑(BitVec.toNat (BitVec.ofInt 8 (aB l k) &&& BitVec.ofInt 8 7))==5) (.br (gK b) (.leaf (.agg [(.str nm),(.int .i64 a),(.int .i64 17),(.int .i64 16),(.int .i64 0),(.int .i64 (fJ l b))])) .fail) (.br h (.br (gK b) (.leaf (.agg [(.str nm),(.int .i64 a),(.int .i64 f),(.int .i64 16),(.int .i64 0),(.int .i64 (iL l b))])) .fail) (.br g (.br (gK b) (.leaf (.agg [(.str nm),(.int .i64 a),(.int .i64 f),(.int .i64 16),(.int .i64 0),(.int .i64 (fJ l b))])) .fail) (.leaf (.agg [(.str nm),(.int .i64 a),(.int .i64 f),(.int .i64 16),(.int .i64 0),(.int .i64 0)]))))) (.br h (.br (gK b) (.leaf (.agg [(.str nm),(.int .i64 a),(.int .i64 f),(.int .i64 16),(.int .i64 0),(.int .i64 (iL l b))])) .fail) (.br g (.br (gK b) (.leaf (.agg [(.str nm),(.int .i64 a),(.int .i64 f),(.int .i64 16),(.int .i64 0),(.int .i64 (fJ l b))])) .fail) (.leaf (.agg [(.str nm),(.int .i64 a),(.int .i64 f),(.int .i64 16),(.int .i64 0),(.int .i64 0)])))))) .fail) .fail) .fail)
theorem adG (nm:List UInt8) (a:List Int) (dg b:Int) (l sp:List Int) (fl:Fl) (r k:Int):(gmE nm a dg b l sp fl r k).run=(gt4 nm a dg b l sp fl r k).run:=
 (show (gmE nm a dg b l sp fl r k).run=(gt4 nm a dg b l sp fl r k).out by kernel_rfl).trans (Tree.out_run _)
end Go.Amd

namespace Go.Amd
open Go Go.Ab Go.Proofs
section
variable (l:List Int) (r k:Int)
def kU:Int:=wi (wi (aC (aB l k) 7)+fZ r)
def nS:Int:=wi (wi (aC (Int.fdiv (aB l k) (2 ^ 3)) 7)+b7 r 2)
def EL:Int:=wi (wi (aC (aB l (k - 1)) 7)+fZ r)
def xK:Int:=wi (aC (aB l (k - 1)) 15)
def HW:Int:=cond (aB l (k - 1)==129) (fJ l (k+1)) (iL l (k+1))
end
abbrev z8:=Int × Int × Int × Int × Int
def jP (f:Int) (l:List Int) (r k:Int):z8:=
 cond (f==1) (kU l r k,nS l r k,0,0,0) (cond (f==2) (EL l r k,0,0,0,u6 l k) (cond (f==3) (kU l r k,0,0,0,fJ l (k+1)) (cond (f==5) (nS l r k,0,0,0,fJ l (k+2))
  (cond (f==6) (kU l r k,0,0,0,HW l k) (cond (f==7) (nS l r k,kU l r k,0,0,0) (cond (f==8) (kU l r k,0,0,0,0) (cond (f==9) (0,0,0,0,0) (cond (f==10) (kU l r k,0,0,0,iL l (k+1))
   (cond (f==11) (nS l r k,kU l r k,0,xK l k,0) (cond (f==12) (EL l r k,0,0,0,0) (cond (f==13) (0,0,0,0,fJ l k) (cond (f==14) (0,0,0,0,iL l k) (cond (f==15) (0,0,0,xK l k,fJ l k) (0,0,0,xK l k,iL l k))))))))))))))
def wX (nm:List UInt8) (p:z8):V:=.agg [.str nm,.int .i64 p.1,.int .i64 p.2.1,.int .i64 p.2.2.1,.int .i64 p.2.2.2.1,.int .i64 p.2.2.2.2]
def UN:List Int:=[1,2,3,5,6,7,8,9,10,11,12,13,14,15,16]
section
variable {nm:List UInt8} {op:List Int} {dg rx:Int} {l sp:List Int} {fl:Fl} {r k:Int} (k0:1<=k) (k1:k<900)
include k0 k1 in
theorem reqs:decide (0<=k)=true/\wi (k - 1)=k - 1/\wi (k+1)=k+1/\wi (k+2)=k+2/\decide (0<=k - 1)=true/\gK k=true/\gK (k+1)=true/\gK (k+2)=true:=
 ⟨decide_eq_true (by omega),wrap_i64 (n:=k - 1) (by omega) (by omega),wrap_i64 (n:=k+1) (by omega) (by omega),wrap_i64 (n:=k+2) (by omega) (by omega),decide_eq_true (by omega),decide_eq_true (by omega),decide_eq_true (by omega),decide_eq_true (by omega)⟩
include k0 k1 in
theorem abB:∀ f ∈ UN,(eM f nm op dg rx l sp fl r k).run=some (wX nm (jP f l r k)):=by
 obtain ⟨e0,e1,e2,e3,e4,e5,e6,e7⟩:=reqs k0 k1;unfold wi at e1 e2 e3;intro f a;simp only [UN,ZE3,List.not_mem_nil,or_false] at a
 rcases a with rfl | rfl | rfl | rfl | rfl | rfl | rfl | rfl | rfl | rfl | rfl | rfl | rfl | rfl | rfl
 ·refine (ad1 nm op dg rx l sp fl r k).trans ?_
  unfold gt1;simp only [a6,e0,e1,e4,cond_true];rfl
 ·refine (afI nm op dg rx l sp fl r k).trans ?_
  unfold gt2;simp only [a6,e0,e1,e4,e5,cond_true];rfl
 ·refine (adJ nm op dg rx l sp fl r k).trans ?_
  unfold gt3;simp only [a6,e0,e1,e2,e4,e6,cond_true];rfl
 ·refine (acY nm op dg rx l sp fl r k).trans ?_
  unfold gt5;simp only [a6,e0,e1,e3,e4,e7,cond_true];rfl
 ·refine (aeZ nm op dg rx l sp fl r k).trans ?_
  unfold gt6;simp only [a6,e0,e1,e2,e4,e6,cond_true];show _=some (wX nm (kU l r k,0,0,0,HW l k));unfold HW;cases aB l (k - 1)==129 <;> rfl
 ·refine (acK nm op dg rx l sp fl r k).trans ?_
  unfold gt7;simp only [a6,e0,e1,e4,cond_true];rfl
 ·refine (ab4 nm op dg rx l sp fl r k).trans ?_
  unfold gt8;simp only [a6,e0,e1,e4,cond_true];rfl
 ·refine (ac8 nm op dg rx l sp fl r k).trans ?_
  unfold gt9;simp only [a6,e0,e1,e4,cond_true];rfl
 ·refine (a6T nm op dg rx l sp fl r k).trans ?_
  unfold ZR;simp only [a6,e0,e1,e2,e4,e6,cond_true];rfl
 ·refine (a69 nm op dg rx l sp fl r k).trans ?_
  unfold Y6;simp only [a6,e0,e1,e4,cond_true];rfl
 ·refine (a8S nm op dg rx l sp fl r k).trans ?_
  unfold ZX;simp only [a6,e0,e1,e4,cond_true];rfl
 ·refine (a7J nm op dg rx l sp fl r k).trans ?_
  unfold YJ;simp only [a6,e0,e1,e4,e5,cond_true];rfl
 ·refine (a8L nm op dg rx l sp fl r k).trans ?_
  unfold Y7;simp only [a6,e0,e1,e4,e5,cond_true];rfl
 ·refine (a8W nm op dg rx l sp fl r k).trans ?_
  unfold X9;simp only [a6,e0,e1,e4,e5,cond_true];rfl
 ·refine (a6Z nm op dg rx l sp fl r k).trans ?_
  unfold YQ;simp only [a6,e0,e1,e4,e5,cond_true];rfl
end
end Go.Amd

namespace Go.Amd
open Go Go.Ab Go.Proofs
def AZ (m:Int) (l:List Int) (k:Int):Int:=cond (m==1) (iL l k) (cond (m==2) (fJ l k) 0)
def PC (e r:Int):Int:=wi (wi (aC e 7)+fZ r)
def DZ (e r:Int):Int:=wi (wi (aC (Int.fdiv e (2 ^ 3)) 7)+b7 r 1)
def sbD (e:Int):Int:=wi (1*2 ^ Min.min (Int.toNat (Int.fdiv e (2 ^ 6))) 64)
def v7 (l:List Int) (r k:Int):z8:=
 cond (aC (aB l k) 7==4)
  (cond (DZ (aB l (k+1)) r==4) (nS l r k,PC (aB l (k+1)) r,16,0,AZ (Int.fdiv (aB l k) (2 ^ 6)) l (k+2)) (nS l r k,PC (aB l (k+1)) r,DZ (aB l (k+1)) r,sbD (aB l (k+1)),AZ (Int.fdiv (aB l k) (2 ^ 6)) l (k+2)))
  (cond (cond (Int.fdiv (aB l k) (2 ^ 6)==0) (aC (aB l k) 7==5) false) (nS l r k,17,16,0,fJ l (k+1)) (nS l r k,kU l r k,16,0,AZ (Int.fdiv (aB l k) (2 ^ 6)) l (k+1)))
section
variable {nm:List UInt8} {op:List Int} {dg rx:Int} {l sp:List Int} {fl:Fl} {r k:Int} (k0:1<=k) (k1:k<900) (he:0<=aB l (k+1))
include k0 k1 he in
theorem afD:(gmE nm op dg rx l sp fl r k).run=some (wX nm (v7 l r k)):=by
 obtain ⟨e0,e1,e2,e3,e4,e5,e6,e7⟩:=reqs k0 k1;have b:wi (k+1+1)=k+2:=(wrap_i64 (n:=k+1+1) (by omega) (by omega)).trans (by omega);have c:decide (0<=k+1)=true:=decide_eq_true (by omega)
 have a:decide (0<=Int.fdiv (aB l (k+1)) (2 ^ 6))=true:=decide_eq_true (by
  rw [Int.fdiv_eq_ediv_of_nonneg _ (by decide)]
  exact Int.ediv_nonneg he (by decide))
 unfold wi at e1 e2 e3 b;refine (adG nm op dg rx l sp fl r k).trans ?_;unfold gt4;simp only [a6,e0,e1,e2,e4,e6,e7,b,c,a,cond_true];show cond (aC (aB l k) 7==4) (cond (DZ (aB l (k+1)) r==4) _ _) _=_;unfold v7 AZ;cases aC (aB l k) 7==4
 ·show cond (Int.fdiv (aB l k) (2 ^ 6)==0) (cond (aC (aB l k) 7==5) _ _) _=_
  cases Int.fdiv (aB l k) (2 ^ 6)==0
  ·cases Int.fdiv (aB l k) (2 ^ 6)==1
   ·cases Int.fdiv (aB l k) (2 ^ 6)==2 <;> rfl
   ·rfl
  ·cases aC (aB l k) 7==5
   ·cases Int.fdiv (aB l k) (2 ^ 6)==1
    ·cases Int.fdiv (aB l k) (2 ^ 6)==2 <;> rfl
    ·rfl
   ·rfl
 ·cases DZ (aB l (k+1)) r==4
  ·cases Int.fdiv (aB l k) (2 ^ 6)==1
   ·cases Int.fdiv (aB l k) (2 ^ 6)==2 <;> rfl
   ·rfl
  ·cases Int.fdiv (aB l k) (2 ^ 6)==1
   ·cases Int.fdiv (aB l k) (2 ^ 6)==2 <;> rfl
   ·rfl
end
def nH (f:Int) (l:List Int) (r k:Int):z8:=cond (f==4) (v7 l r k) (jP f l r k)
theorem a4Q {f:Int} (h:fB.contains f=true):f=4\/(f ∈ UN/\(f==4)=false):=by
 have a:f ∈ fB:=by simpa using h
 simp only [fB,ZE3,List.not_mem_nil,or_false] at a
 rcases a with rfl | rfl | rfl | rfl | rfl | rfl | rfl | rfl | rfl | rfl | rfl | rfl | rfl | rfl | rfl | rfl
 all_goals first
  | exact .inl rfl
  | exact .inr ⟨by decide,by decide⟩
def UP:Ab.Spec:=fun args=>match args with
 | [.agg [.str nm,.int .i64 f,.sl (.int .u8) _ [] .ro,.int .i64 _,.int .i64 _],.sl (.int .u8) l _ _,.int .u8 r,.int .i64 k] =>
  .aF (fB.contains f) (.aF (decide (1<=k/\k<900)) (.aF (decide (0<=aB l (k+1))) (.leaf (wX nm (nH f l r k)))))
 | _=>.fail
theorem abJ {nm:List UInt8} {op:List Int} {dg rx f:Int} {l sp:List Int} {fl:Fl} {r k:Int} (a:fB.contains f=true) (b:decide (1<=k/\k<900)=true) (c:decide (0<=aB l (k+1))=true) :
  jS prog 135 [.agg [.str nm,.int .i64 f,.sl (.int .u8) op [] .ro,.int .i64 dg,.int .i64 rx],.sl (.int .u8) l sp fl,.int .u8 r,.int .i64 k] (wX nm (nH f l r k)):=by
 obtain ⟨k0,k1⟩:1<=k/\k<900:=of_decide_eq_true b
 rcases a4Q a with rfl | ⟨d,h4⟩
 ·exact cE (cx:=YC) (fn:=Tryz.f135) a6K (by kernel_rfl) (by kernel_rfl) (by kernel_rfl) (afD k0 k1 (of_decide_eq_true c))
 ·have e:nH f l r k=jP f l r k:=by unfold nH; rw [h4]; rfl
  rw [e];exact cE (cx:=aN1) (fn:=Tryz.f135) (bU (.cons tP (.cons aGW (dT aES))) (.nil _) rfl rfl) (by kernel_rfl) (by kernel_rfl) (by kernel_rfl) (abB k0 k1 f d)
theorem aX8:Sound prog 135 UP:=by
 intro args out h;unfold UP at h;split at h;rotate_left
 ·cases h
 rename_i nm f op dg rx l sp fl r k;obtain ⟨a,h⟩:=aM h;obtain ⟨b,h⟩:=aM h;obtain ⟨c,h⟩:=aM h;have h:=dU h;subst h;exact abJ a b c
end Go.Amd

namespace Go.Amd
open Go Go.Ab Go.Proofs
noncomputable def aP3:Cx:={ P:=prog,n:=54,tab:=[(134,uZ),(126,GK),(135,UP),(136,XB),(137,L8)],mtab:=[],refs:=[],keeps:=[0,2,3,4,5,6,7,8,9,12,17,27,48],fuel:=60 }
def hZ (nm:List UInt8) (p:z8):aE:=(nm,p.1,p.2.1,p.2.2.1,p.2.2.2.1,p.2.2.2.2)
def iC (o:Option (List Int)):Nat:=match o with
 | some l=>l.length
 | none=>0
def whR (l:List Int) (r k:Int) (y:gX) (next:Option V):Option V:=
 cond (decide (1<=wi (k+iC y.2.2.1)/\wi (k+iC y.2.2.1)<900)) (cond (decide (0<=aB l (wi (k+iC y.2.2.1)+1)))
  (cond (eG (nH y.2.1 l r (wi (k+iC y.2.2.1))).2.2.2.2) (cond (oQ l (hZ y.1 (nH y.2.1 l r (wi (k+iC y.2.2.1))))==1)
   (cond (cX (hZ y.1 (nH y.2.1 l r (wi (k+iC y.2.2.1))))==0) (some (.tup [wX y.1 (nH y.2.1 l r (wi (k+iC y.2.2.1))),.int .i64 (iB (hZ y.1 (nH y.2.1 l r (wi (k+iC y.2.2.1))))).length,.bool true])) none) next) none) none) none
def AU (l:List Int) (r k:Int):List gX->Option V
 | []=>some (.tup [wX [] (0,0,0,0,0),.int .i64 0,.bool false])
 | y :: t=>whR l r k y (AU l r k t)
end Go.Amd

namespace Go.Amd
open Go Go.Ab Go.Proofs
def VW (l:List Int):Option V:=
 cond (aB l 0==100) (cond (Int.fdiv (aB l 1) (2 ^ 4)==4) (AU l (aB l 1) 2 bN) (AU l 0 1 bN)) (cond (Int.fdiv (aB l 0) (2 ^ 4)==4) (AU l (aB l 0) 1 bN) (AU l 0 0 bN))
theorem a1A (l sp:List Int) (fl:Fl):(a7 aP3 Tryz.f89 [.sl (.int .u8) l sp fl]).fin=VW l:=by kernel_rfl
end Go.Amd

namespace Go.Amd
open Go Go.Ab Go.Proofs
theorem FN (n:Int):eG (wi n)=true:=by
 unfold eG;rw [qT,decide_eq_true (by omega),decide_eq_true (by omega)];rfl
def IN (p:z8):Bool:=eG p.2.2.2.2
theorem kC {b:Bool} {p q:z8} (a:IN p=true) (c:IN q=true):IN (cond b p q)=true:=by cases b <;> assumption
theorem EW {b:Bool} {x y:Int} (a:eG x=true) (c:eG y=true):eG (cond b x y)=true:=by cases b <;> assumption
theorem HS (l:List Int) (k:Int):eG (iL l k)=true:=EW (FN _) (FN _)
theorem AI (l:List Int) (k:Int):eG (fJ l k)=true:=EW (FN _) (FN _)
theorem al1 (l:List Int) (k:Int):eG (u6 l k)=true:=FN _
theorem ZI (m:Int) (l:List Int) (k:Int):eG (AZ m l k)=true:=EW (HS l k) (EW (AI l k) (by decide))
theorem BX:eG 0=true:=by decide
theorem a50 (f:Int) (l:List Int) (r k:Int):IN (nH f l r k)=true:=by
 unfold nH;refine kC ?_ ?_
 ·unfold v7
  exact kC (kC (ZI _ _ _) (ZI _ _ _)) (kC (AI _ _) (ZI _ _ _))
 ·unfold jP
  refine kC BX (kC (al1 _ _) (kC (AI _ _) (kC (AI _ _) (kC (EW (AI _ _) (HS _ _)) (kC BX (kC BX (kC BX (kC (HS _ _)
   (kC BX (kC BX (kC (AI _ _) (kC (HS _ _) (kC (AI _ _) (HS _ _))))))))))))))
theorem mQ {l:List Int} (a:bE l) (k:Int):0<=aB l k/\aB l k<256:=by
 unfold aB;by_cases h:k.toNat<l.length
 ·rw [oD h]
  exact a _ (List.getElem_mem h)
 ·have:l.getD k.toNat 0=0:=by simp only [List.getD]; rw [List.getElem?_eq_none (by omega)]; rfl
  rw [this];decide
def gI (l:List Int) (r k:Int) (y:gX):aE:=hZ y.1 (nH y.2.1 l r (k+iC y.2.2.1))
def whV (o:Option aE):V:=match o with
 | some i=>.tup [.agg [.str i.1,.int .i64 i.2.1,.int .i64 i.2.2.1,.int .i64 i.2.2.2.1,.int .i64 i.2.2.2.2.1,.int .i64 i.2.2.2.2.2],.int .i64 (iB i).length,.bool true]
 | none=>.tup [wX [] (0,0,0,0,0),.int .i64 0,.bool false]
def rB (l:List Int) (r k:Int) (rows:List gX):Option aE:=(rows.find? fun y=>oQ l (gI l r k y)==1).map (gI l r k)
theorem F1 {l:List Int} (b:bE l) {r k:Int} (g:0<=k) (k1:k<10):∀ rows:List gX,(∀ y ∈ rows,1<=iC y.2.2.1/\iC y.2.2.1<=2)->AU l r k rows=some (whV (rB l r k rows))
 | [],_=>rfl
 | y :: t,h=>by
  have f:=F1 b (r:=r) g k1 t fun z d=>h z (List.mem_cons_of_mem _ d);obtain ⟨i,h2⟩:=h y (List.mem_cons_self ..);have e:wi (k+iC y.2.2.1)=k+iC y.2.2.1:=wrap_i64 (n:=k+iC y.2.2.1) (by omega) (by omega);have a:=a50 y.2.1 l r (k+iC y.2.2.1);unfold IN at a;unfold AU whR;rw [e,decide_eq_true (show 1<=k+(iC y.2.2.1:Int)/\k+(iC y.2.2.1:Int)<900 by omega),decide_eq_true (mQ b _).1,a,f];simp only [cond_true];unfold rB
  rw [List.find?_cons];show cond (oQ l (gI l r k y)==1) (cond (cX (gI l r k y)==0) _ none) _=_;cases c:(oQ l (gI l r k y)==1)
  ·rfl
  ·rw [(SC.1 (eq_of_beq c)).1]
   rfl
theorem a3A:bN.all (fun y=>decide (1<=iC y.2.2.1/\iC y.2.2.1<=2))=true:=by kernel_rfl
end Go.Amd

namespace Go.Amd
open Go Go.Ab Go.Proofs
def nI (l:List Int):Option aE:=
 cond (aB l 0==100) (cond (Int.fdiv (aB l 1) (2 ^ 4)==4) (rB l (aB l 1) 2 bN) (rB l 0 1 bN)) (cond (Int.fdiv (aB l 0) (2 ^ 4)==4) (rB l (aB l 0) 1 bN) (rB l 0 0 bN))
theorem a6E:gA 16 (fun R=>Int.fdiv (64+R) (2 ^ 4)==4&&(b7 (64+R) 2==cH R 4&&(b7 (64+R) 1==cH R 2&&fZ (64+R)==cH R 1)))=true:=by kernel_rfl
theorem r64 {R:Int} (r0:0<=R/\R<16):Int.fdiv (64+R) (2 ^ 4)=4/\b7 (64+R) 2=cH R 4/\b7 (64+R) 1=cH R 2/\fZ (64+R)=cH R 1:=by
 have:=fD a6E r0.1 r0.2;simpa only [ZA2,beq_iff_eq] using this
theorem PI (c d:Int) (t:List Int):aB (c :: d :: t) 1=d:=rfl
def z6 (R:Int) (has:Bool):Int:=cond has (64+R) 0
theorem a39 {R:Int} {has:Bool} (r0:0<=R/\R<16) (h:has=false->R=0):b7 (z6 R has) 2=cH R 4/\b7 (z6 R has) 1=cH R 2/\fZ (z6 R has)=cH R 1:=by
 cases has
 ·rw [h rfl]
  exact ⟨by kernel_rfl,by kernel_rfl,by kernel_rfl⟩
 ·exact (r64 r0).2
theorem a88 {l b:List Int} {k:Int} {fs:Bool} {R:Int} {has:Bool} (f:bE l) (h:eS l = .ok (b,k,fs,R,has)):nI l=rB l (z6 R has) (k - b.length) bN:=by
 obtain ⟨j,hR,h0,hf,k0,e1,e2⟩:=EV f h;cases fs
 ·cases has
  ·have a:k - b.length=0:=by rw [e2]; simp
   rw [a]
   have key:(aB l 0==100)=false/\(Int.fdiv (aB l 0) (2 ^ 4)==4)=false:=by
    rcases VS f h with ⟨t,rfl,h2,h3,h4,h5,⟨c,rfl,g1,g2,g3⟩ | ⟨d,rfl⟩⟩ | ⟨r,t,-,g,-⟩ | ⟨r,c,t,-,-,g,-⟩
    ·exact ⟨g2,g3⟩
    ·exact ⟨by kernel_rfl,by kernel_rfl⟩
    ·omega
    ·exfalso
     rcases j with ⟨c,-,rfl⟩ | ⟨c,-,rfl⟩
     ·simp only [ZD3,ZE2] at a
      omega
     ·simp only [ZD3,ZE2] at a
      omega
   unfold nI;rw [key.1,key.2];rfl
  ·have a:k - b.length=1:=by rw [e2]; simp; omega
   rw [a]
   have e:aB l 0=64+R:=by rw [e1]; rfl
   unfold nI;rw [e,(r64 hR).1,show ((64+R:Int)==100)=false from beq_eq_false_iff_ne.2 (by omega)];rfl
 ·obtain ⟨rfl,-⟩:=hf rfl
  have a:k - b.length=2:=by rw [e2]; simp; omega
  rw [a]
  have e:aB l 0=100:=by rw [e1]; rfl
  have i:aB l 1=64+R:=by rw [e1]; rfl
  unfold nI;rw [e,i,(r64 hR).1];rfl
end Go.Amd

namespace Go.Amd
open Go Go.Ab Go.Proofs
theorem oJ {n b:Int} (f:0<=n) (g:n<2 ^ 56) (hb:aV b):cQ n b=n*256+b:=by
 obtain ⟨a,b1⟩:=hb;obtain ⟨N,rfl⟩:=ZI3 f;obtain ⟨B,rfl⟩:=ZI3 a
 have h:N<2 ^ 56:=by exact_mod_cast g
 have e:B<2 ^ 8:=by omega
 have c:kB ((N:Int)*2 ^ 8)=((N <<< 8:Nat):Int):=by
  unfold kB;rw [Go.Wd.wrap_u64,Nat.shiftLeft_eq];omega
 have d:kB (B:Int)=(B:Int):=by
  unfold kB;rw [Go.Wd.wrap_u64];omega
 unfold cQ;rw [c,d];show Go.Wd.jD _ _=_;rw [Go.Wd.aE0 (by rw [Nat.shiftLeft_eq]; omega) (by omega),<- Nat.shiftLeft_add_eq_or_of_lt e,Nat.shiftLeft_eq];omega
theorem adR {l:List Int} {k:Int} (a:aV (aB l k)):iL l k=oM (aB l k):=by
 unfold iL;rw [KQ a,oJ (by decide) (by decide) a];obtain ⟨d,a1⟩:=a
 have b:kB (1*2 ^ 7)=128:=by kernel_rfl
 have c:wi (1*2 ^ 8)=256:=by kernel_rfl
 unfold EG;rw [b,c];by_cases h:128<=0*256+aB l k
 ·rw [decide_eq_true h,cond_true,qT,qT]
  omega
 ·rw [decide_eq_false h,cond_false,qT]
  omega
theorem abZ {l:List Int} {k:Int} (e:aV (aB l k)) (hb:aV (aB l (k+1))) (i:aV (aB l (k+2))) (m:aV (aB l (k+3))):fJ l k=pO (aB l k) (aB l (k+1)) (aB l (k+2)) (aB l (k+3)):=by
 unfold fJ;rw [LA e hb i m]
 generalize aB l k=a at *
 generalize aB l (k+1)=b at *
 generalize aB l (k+2)=c at *
 generalize aB l (k+3)=d at *
 have f := e;have g := hb;have j := i;have n := m;obtain ⟨q,a1⟩:=f;obtain ⟨r,b1⟩:=g;obtain ⟨s,c1⟩:=j;obtain ⟨d0,d1⟩:=n;rw [oJ (by decide) (by decide) m,oJ (by omega) (by omega) i,oJ (by omega) (by omega) hb,oJ (by omega) (by omega) e]
 have o:kB (1*2 ^ 31)=2147483648:=by kernel_rfl
 have p:wi (1*2 ^ 32)=4294967296:=by kernel_rfl
 unfold EG;rw [o,p];by_cases h:2147483648<=(((0*256+d)*256+c)*256+b)*256+a
 ·rw [decide_eq_true h,cond_true,qT,qT]
  omega
 ·rw [decide_eq_false h,cond_false,qT]
  omega
theorem afF {l:List Int} {k:Int} (i:aV (aB l k)) (hb:aV (aB l (k+1))) (j:aV (aB l (k+2))) (m:aV (aB l (k+3))) (n:aV (aB l (k+4))) (o:aV (aB l (k+5))) (p:aV (aB l (k+6))) (q:aV (aB l (k+7))) :
  u6 l k=pK (aB l k) (aB l (k+1)) (aB l (k+2)) (aB l (k+3)) (aB l (k+4)) (aB l (k+5)) (aB l (k+6)) (aB l (k+7)):=by
 unfold u6;rw [SM i hb j m n o p q]
 generalize aB l k=a at *
 generalize aB l (k+1)=b at *
 generalize aB l (k+2)=c at *
 generalize aB l (k+3)=d at *
 generalize aB l (k+4)=e at *
 generalize aB l (k+5)=f at *
 generalize aB l (k+6)=g at *
 generalize aB l (k+7)=h at *
 have:=i.1; have:=i.2; have:=hb.1; have:=hb.2; have:=j.1; have:=j.2; have:=m.1; have:=m.2;have:=n.1; have:=n.2; have:=o.1; have:=o.2; have:=p.1; have:=p.2; have:=q.1; have:=q.2
 have r:((((((0*256+h)*256+g)*256+f)*256+e)*256+d)*256+c)*256+b<2 ^ 56:=by omega
 rw [oJ (by decide) (by decide) q,oJ (by omega) (by omega) p,oJ (by omega) (by omega) o,oJ (by omega) (by omega) n,oJ (by omega) (by omega) m,oJ (by omega) (by omega) j,oJ (by omega) (by omega) hb,oJ (by omega) (by omega) i,qT];omega
end Go.Amd

namespace Go.Amd
open Go Go.Ab Go.Proofs
theorem TQ {l t:List Int} {k:Int} (a:0<=k) (h:l.drop k.toNat=t) (j:Nat):aB l (k+j)=t.getD j 0:=by
 subst h;unfold aB;rw [show (k+(j:Int)).toNat=k.toNat+j by omega];simp only [List.getD,List.getElem?_drop]
theorem oS {l t:List Int} {k c:Int} (a:0<=k) (h:l.drop k.toNat=c :: t):aB l k=c/\l.drop (k+1).toNat=t:=by
 refine ⟨?_,?_⟩
 ·have:=TQ a h 0
  simpa using this
 ·rw [show (k+1).toNat=k.toNat+1 by omega,<- List.drop_drop,h]
  rfl
theorem G6 {l t:List Int} {k c:Int} (a:bE l) (b:0<=k) (h:l.drop k.toNat=c :: t):iL l k=oM c:=by
 rw [adR (mQ a k),(oS b h).1]
theorem zK {l t:List Int} {k a b c d:Int} (f:bE l) (g:0<=k) (h:l.drop k.toNat=a :: b :: c :: d :: t):fJ l k=pO a b c d:=by
 rw [abZ (mQ f _) (mQ f _) (mQ f _) (mQ f _),(oS g h).1];have e:=TQ g h;rw [show k+1=k+((1:Nat):Int) from rfl,show k+2=k+((2:Nat):Int) from rfl,show k+3=k+((3:Nat):Int) from rfl,e 1,e 2,e 3];rfl
theorem ahG {l t:List Int} {k a b c d e f g i:Int} (j:bE l) (m:0<=k) (h:l.drop k.toNat=a :: b :: c :: d :: e :: f :: g :: i :: t):u6 l k=pK a b c d e f g i:=by
 rw [afF (mQ j _) (mQ j _) (mQ j _) (mQ j _) (mQ j _) (mQ j _) (mQ j _) (mQ j _),(oS m h).1];have e:=TQ m h;rw [show k+1=k+((1:Nat):Int) from rfl,show k+2=k+((2:Nat):Int) from rfl,show k+3=k+((3:Nat):Int) from rfl,show k+4=k+((4:Nat):Int) from rfl,show k+5=k+((5:Nat):Int) from rfl,show k+6=k+((6:Nat):Int) from rfl,show k+7=k+((7:Nat):Int) from rfl,e 1,e 2,e 3,e 4,e 5,e 6,e 7];rfl
theorem mN {t:List Int} {k:Int} {K:Int->List Int->Int->aX} {p:aE × Int} (h:iJ t k K = .ok p):∃ c u,t=c :: u/\K c u (k+1) = .ok p:=by
 cases t with
 | nil=>cases h
 | cons c u=>exact ⟨c,u,rfl,h⟩
theorem FU {t:List Int} {k:Int} {K:Int->List Int->Int->aX} {p:aE × Int} (h:kH t k K = .ok p):∃ c u,t=c :: u/\K (oM c) u (k+1) = .ok p:=mN h
theorem yS {t:List Int} {k:Int} {K:Int->List Int->Int->aX} {p:aE × Int} (h:fW t k K = .ok p):∃ a b c d u j,t=a :: b :: c :: d :: u/\K (pO a b c d) u j = .ok p:=by
 unfold fW at h;obtain ⟨a,t1,e1,h1⟩:=mN h;obtain ⟨b,t2,e2,h2⟩:=mN h1;obtain ⟨c,t3,e3,h3⟩:=mN h2;obtain ⟨d,t4,e4,h4⟩:=mN h3;subst e4 e3 e2;exact ⟨a,b,c,d,t4,_,e1,h4⟩
theorem jN {x:RowT} {i j:aE} {k n:Int} (h:bA x i k = .ok (j,n)):j=i:=by
 unfold bA at h;cases a:(!(c8 x i==0))
 ·rw [a] at h; cases h; rfl
 ·rw [a] at h; cases h
theorem vP {b:Bool} {k:Int} {r:aX} {p:aE × Int} (h:fT b k r = .ok p):r = .ok p:=by
 unfold fT at h;cases b
 ·cases h
 ·exact h
end Go.Amd

namespace Go.Amd
open Go Go.Ab Go.Proofs
noncomputable def WR:Cx:={ P:=prog,n:=15,tab:=[(134,uZ)],mtab:=[],refs:=[],keeps:=[0,2,3,6,11] }
def roT (l b:List Int) (a:Fl):Tree V:=
 (.br (aB l 0==100) (.br (Int.fdiv (aB l 1) (2 ^ 4)==4) (.leaf (.int .u8 (aB l 1))) (.leaf (.int .u8 0))) (.br (Int.fdiv (aB l 0) (2 ^ 4)==4) (.leaf (.int .u8 (aB l 0))) (.leaf (.int .u8 0))))
theorem afG (l sp:List Int) (fl:Fl):(a7 WR Tryz.f262 [.sl (.int .u8) l sp fl]).run=(roT l sp fl).run:=
 (show (a7 WR Tryz.f262 [.sl (.int .u8) l sp fl]).run=(roT l sp fl).out by kernel_rfl).trans (Tree.out_run _)
def lR (l:List Int):Int:=cond (aB l 0==100) (cond (Int.fdiv (aB l 1) (2 ^ 4)==4) (aB l 1) 0) (cond (Int.fdiv (aB l 0) (2 ^ 4)==4) (aB l 0) 0)
def WN:Ab.Spec:=fun args=>match args with
 | [.sl (.int .u8) l _ _]=>.leaf (.int .u8 (lR l))
 | _=>.fail
noncomputable def aMB:Cx:={ P:=prog,n:=109,tab:=[(262,WN)],mtab:=[],refs:=[],keeps:=[0,1,4,5,6,7,8,9,10,11,12,26,28,31,34,52,68,102] }
end Go.Amd
