/-
  What is behind the opcode, plainly. Conditions: none.
-/
import Derived.Test.YtbefgnmdliefjaaGreatDoorPk20
open Go.Proofs.Tryz (prog)
open Bool renaming and_eq_true_iff→ZA0,or_eq_true_iff→ZA1,and_eq_true→ZA2,or_eq_true→ZA3
open List renaming mem_cons_self→ZD1,mem_cons_of_mem→ZD2,length_cons→ZD3,length_append→ZE0,all_eq_true→ZE1,mem_cons→ZE3
open Int renaming fdiv_eq_ediv_of_nonneg→ZI2,eq_ofNat_of_zero_le→ZI3,toNat_of_nonneg→ZJ2
set_option linter.unusedVariables false
set_option linter.unusedSimpArgs false
namespace Go.Amd
open Go Go.Ab Go.Proofs
abbrev aX:=Except (Int × Int) (aE × Int)
def iJ (t:List Int) (k:Int) (K:Int->List Int->Int->aX):aX:=match t with
 | []=>.error (2,k)
 | c :: t=>K c t (k+1)
def kH (t:List Int) (k:Int) (K:Int->List Int->Int->aX):aX:=iJ t k fun a t k=>K (oM a) t k
def fW (t:List Int) (k:Int) (K:Int->List Int->Int->aX):aX:=iJ t k fun a t k=>iJ t k fun b t k=>iJ t k fun c t k=>iJ t k fun d t k=>K (pO a b c d) t k
def qU (t:List Int) (k:Int) (K:Int->List Int->Int->aX):aX:=iJ t k fun a t k=>iJ t k fun b t k=>iJ t k fun c t k=>iJ t k fun d t k =>
 iJ t k fun e t k=>iJ t k fun f t k=>iJ t k fun g t k=>iJ t k fun h t k=>K (pK a b c d e f g h) t k
def bA (x:RowT) (i:aE) (k:Int):aX:=cond (!(c8 x i==0)) (.error (22,k)) (.ok (i,k))
def fT (b:Bool) (k:Int) (r:aX):aX:=cond (!b) (.error (22,k)) r
structure At (l:List Int) (k:Int) (t:List Int):Prop where
 at' : ∃ p:List Int,l=p++t/\k=(p.length:Int)
 fine:∀ x ∈ t,0<=x/\x<256
theorem At.next {l t:List Int} {k c:Int} (h:At l k (c :: t)):At l (k+1) t:=by
 obtain ⟨p,h1,h2⟩:=h.at';exact ⟨⟨p++[c],by rw [h1]; simp,by rw [h2,ZE0]; rfl⟩,fun x a=>h.fine x (ZD2 _ a)⟩
section
variable {l sp:List Int} {fl:Fl} {fs:Bool} {R:Int} {has:Bool}
def XK (l sp:List Int) (fl:Fl) (fs:Bool) (R:Int) (has:Bool):aX->Res
 | .ok (i,k)=>.ok (lV i) [aT l sp fl k fs R has,N0 i]
 | .error (e,k)=>.pan (gT e) [aT l sp fl k fs R has]
def fF (l sp:List Int) (fl:Fl) (fs:Bool) (R:Int) (has:Bool) (T:Tree Res) (r:aX):Prop:=T.run=some (XK l sp fl fs R has r)
abbrev CK (l sp:List Int) (fl:Fl) (fs:Bool) (R:Int) (has:Bool) (K:Int->Int->Tree Res) (Q:Int->List Int->Int->aX):Prop:=∀ (n k:Int) (t:List Int),At l k t->fF l sp fl fs R has (K n k) (Q n t k)
theorem mK (b:l.length<1000000000) {K:Int->Int->Tree Res} {Q:Int->List Int->Int->aX} (d:∀ (n k:Int) (t:List Int),0<=n->At l k t->fF l sp fl fs R has (K n k) (Q n t k)) {k:Int} {t:List Int} (a:At l k t) :
  fF l sp fl fs R has (fC l sp fl fs R has k K) (iJ t k Q):=by
 obtain ⟨p,e1,e2⟩:=a.at';unfold fF iJ;refine (zB e1 e2 b _ _).trans ?_
 cases t with
 | nil=>rfl
 | cons c t=>exact d c (k+1) t (a.fine c ZD1).1 a.next
theorem FC (c:l.length<1000000000) {K:Int->Int->Tree Res} {Q:Int->List Int->Int->aX} (d:CK l sp fl fs R has K Q) {k:Int} {t:List Int} (b:At l k t) :
  fF l sp fl fs R has (zS iT l sp fl fs R has k K) (kH t k Q):=
 mK c (fun a k t _ b=>d _ k t b) b
theorem yK (b:l.length<1000000000) {K:Int->Int->Tree Res} {Q:Int->List Int->Int->aX} (c:CK l sp fl fs R has K Q) {k:Int} {t:List Int} (a:At l k t) :
  fF l sp fl fs R has (sH iT l sp fl fs R has k K) (fW t k Q):=
 mK b (fun _ _ _ _ a=>mK b (fun _ _ _ _ a=>mK b (fun _ _ _ _ a=>mK b (fun _ k t _ a=>c _ k t a) a) a) a) a
theorem a3Z (b:l.length<1000000000) {K:Int->Int->Tree Res} {Q:Int->List Int->Int->aX} (c:CK l sp fl fs R has K Q) {k:Int} {t:List Int} (a:At l k t) :
  fF l sp fl fs R has (M6 iT l sp fl fs R has k K) (qU t k Q):=
 mK b (fun _ _ _ _ a=>mK b (fun _ _ _ _ a=>mK b (fun _ _ _ _ a=>mK b (fun _ _ _ _ a=>mK b (fun _ _ _ _ a=>mK b (fun _ _ _ _ a=>mK b (fun _ _ _ _ a=>mK b (fun _ k t _ a=>c _ k t a) a) a) a) a) a) a) a) a
theorem bJ {x:RowT} (e:eO x=true) (a b c d n k:Int):fF l sp fl fs R has (lB l sp fl fs R has x a b c d n k) (bA x (x.1,a,b,c,d,n) k):=by
 unfold fF bA;refine (pS e).trans ?_;rw [a6];cases (!(c8 x (x.1,a,b,c,d,n)==0)) <;> rfl
theorem qO {c:Bool} {X Y:Tree Res} {p q:aX} (a:fF l sp fl fs R has X p) (b:fF l sp fl fs R has Y q):fF l sp fl fs R has (.br c X Y) (cond c p q):=by
 unfold fF at a b ⊢;rw [a6,a,b];cases c <;> rfl
theorem aIO (e k:Int):fF l sp fl fs R has (lZ l sp fl fs R has e k) (.error (e,k)):=rfl
theorem vK {b:Bool} {k:Int} {Y:Tree Res} {q:aX} (a:fF l sp fl fs R has Y q):fF l sp fl fs R has (.br (!b) (lZ l sp fl fs R has 22 k) Y) (fT b k q):=
 qO (aIO 22 k) a
theorem RO {c:Bool} {X:Tree Res} {p:aX} (b:c=true) (a:fF l sp fl fs R has X p):fF l sp fl fs R has (.br c X .fail) p:=by
 unfold fF at a ⊢;rw [pS b];exact a
end
def XP (a:List Int):Int:=a.getD (MY a).toNat 0
def mR (x:RowT) (a:List Int) (K:Int->aX):aX:=K (wi (w8 (XP a - w8 x.2.2.1)))
def pT (c b:Int) (t:List Int) (k:Int) (K:Int->List Int->Int->aX):aX:=
 cond (bB c==1) (kH t k fun n t k=>cond (n != 0) (K n t k) (fT (cO b 7==5) k (K n t k))) (cond (bB c==2) (fW t k fun n t k=>fT (!dC n) k (K n t k)) (K 0 t k))
abbrev j5:=Int->Int->Int->Int->List Int->Int->aX
def nL (R c e:Int) (t:List Int) (k:Int) (K:j5):aX:=
 cond (cD e R==4) (cond (bB e==0) (fT (cO (aU e R) 7==4) k (pT c (aU e R) t k (K (aU e R) 16 0))) (.error (22,k))) (pT c (aU e R) t k (K (aU e R) (cD e R) (rA e)))
def HT (R c:Int) (t:List Int) (k:Int) (K:j5):aX:=
 iJ t k fun e t k=>cond (bB c != 0) (nL R c e t k K) (fT (cO (aU e R) 7 != 5) k (nL R c e t k K))
def oO (R c:Int) (t:List Int) (k:Int) (K:j5):aX:=
 cond (kR c==4) (HT R c t k K) (fT (aC R 2==0) k (pT c (wi (kR c+cH R 1)) t k (K (wi (kR c+cH R 1)) 16 0)))
def nJ (R c:Int) (t:List Int) (k:Int) (K:j5):aX:=
 cond (bB c==0) (cond (kR c==5) (fT (aC R 3==0) k (fW t k fun n t k=>K 17 16 0 n t k)) (oO R c t k K)) (oO R c t k K)
def gP (f R:Int) (x:RowT) (g:List Int) (c:Int) (t:List Int) (k d:Int):aX:=
 cond (f==0) (bA x (x.1,0,0,0,d,0) k)
 (cond (f==1) (mR x g fun a=>bA x (x.1,wi (a+cH R 1),0,0,d,0) k)
 (cond (f==2) (mR x g fun a=>qU t k fun n _ k=>bA x (x.1,wi (a+cH R 1),0,0,d,n) k)
 (cond (f==3) (bA x (x.1,aU c R,0,0,d,0) k)
 (cond (f==4) (fW t k fun n _ k=>bA x (x.1,aU c R,0,0,d,n) k)
 (cond (f==5) (kH t k fun n _ k=>bA x (x.1,aU c R,0,0,d,n) k)
 (cond (f==6) (cond (g.getD 0 0==131) (kH t k fun n _ k=>bA x (x.1,aU c R,0,0,d,n) k) (fW t k fun n _ k=>fT (!dC n) k (bA x (x.1,aU c R,0,0,d,n) k)))
 (cond (f==7) (bA x (x.1,aU c R,cC c R,0,d,0) k)
 (cond (f==8) (bA x (x.1,cC c R,aU c R,0,d,0) k)
 (cond (f==9) (nJ R c t k fun b h d n _ k=>bA x (x.1,cC c R,b,h,d,n) k)
 (cond (f==10) (iJ t k fun e t k=>fT (e==37) k (fW t k fun n _ k=>bA x (x.1,cC c R,0,0,d,n) k))
 (cond (f==11) (fW t k fun n _ k=>bA x (x.1,0,0,0,d,n) k)
 (kH t k fun n _ k=>bA x (x.1,0,0,0,d,n) k))))))))))))
def aY (R:Int) (x:RowT) (a:List Int) (c:Int) (t:List Int) (k:Int):aX:=
 cond (bI x) (mR x a fun d=>gP (aA x) R x a c t k d) (gP (aA x) R x a c t k 0)
section
variable {l sp:List Int} {fl:Fl} {fs:Bool} {R:Int} {has:Bool}
theorem aHL {a:List Int} (h:wU a=true):inside (MY a) a.length=true/\inside 0 a.length=true:=by
 match a,h with
 | [c],_=>exact ⟨rfl,rfl⟩
 | [c,e],_=>exact ⟨rfl,rfl⟩
 | [],h=>cases h
 | _ :: _ :: _ :: _,h=>cases h
theorem FF {x:RowT} {b:List Int} (h:wU b=true) {K:Int->Tree Res} {Q:Int->aX} (c:∀ a,fF l sp fl fs R has (K a) (Q a)):fF l sp fl fs R has (CY x b K) (mR x b Q):=
 RO (aHL h).1 (c _)
theorem TE (f:l.length<1000000000) {c b:Int} {K:Int->Int->Tree Res} {Q:Int->List Int->Int->aX} (e:CK l sp fl fs R has K Q) (g d:Int) {k:Int} {t:List Int} (a:At l k t) :
  fF l sp fl fs R has (NT iT l sp fl fs R has c b g d k K) (pT c b t k Q):=
 qO (FC f (fun n k t a=>qO (e n k t a) (vK (e n k t a))) a) (qO (yK f (fun n k t a=>vK (e n k t a)) a) (e 0 k t a))
theorem aTJ {c:Int} (h:0<=c):0<=bB c:=by
 unfold bB;rw [ZI2 _ (by decide)];exact Int.ediv_nonneg h (by decide)
theorem aFN (f:l.length<1000000000) {c e:Int} (i:0<=e) {K:Int->Int->Int->Int->Int->Tree Res} {Q:j5} (g:∀ b a d,CK l sp fl fs R has (K b a d) (Q b a d)) {k:Int} {t:List Int} (h:At l k t) :
  fF l sp fl fs R has (YX iT l sp fl fs R has c e k K) (nL R c e t k Q):=
 qO (qO (vK (TE f (g _ _ _) 16 0 h)) (aIO 22 k)) (RO (decide_eq_true (aTJ i)) (TE f (g _ _ _) _ _ h))
theorem a6A (e:l.length<1000000000) {c:Int} {K:Int->Int->Int->Int->Int->Tree Res} {Q:j5} (g:∀ b f d,CK l sp fl fs R has (K b f d) (Q b f d)) {k:Int} {t:List Int} (a:At l k t) :
  fF l sp fl fs R has (aOG iT l sp fl fs R has c k K) (HT R c t k Q):=
 mK e (fun _ _ _ h a=>qO (aFN e h g a) (vK (aFN e h g a))) a
theorem aGC (e:l.length<1000000000) {c:Int} {K:Int->Int->Int->Int->Int->Tree Res} {Q:j5} (f:∀ b a d,CK l sp fl fs R has (K b a d) (Q b a d)) {k:Int} {t:List Int} (g:At l k t) :
  fF l sp fl fs R has (W4 iT l sp fl fs R has c k K) (oO R c t k Q):=
 qO (a6A e f g) (vK (TE e (f _ _ _) 16 0 g))
theorem aXW (a:l.length<1000000000) {c:Int} {K:Int->Int->Int->Int->Int->Tree Res} {Q:j5} (e:∀ b g d,CK l sp fl fs R has (K b g d) (Q b g d)) {k:Int} {t:List Int} (f:At l k t) :
  fF l sp fl fs R has (aKA iT l sp fl fs R has c k K) (nJ R c t k Q):=
 qO (qO (vK (yK a (e 17 16 0) f)) (aGC a e f)) (aGC a e f)
theorem aY7:∀ p ∈ fL,∀ {x:RowT} {j:List Int} (_:aA x=p.1.1) (_:bI x=p.1.2) (_:eO x=true) (_:wU j=true) (f:l.length<1000000000) {c k:Int} {t:List Int} (_:At l k t),
  fF l sp fl fs R has (p.2 iT l sp fl fs R has x j c k) (aY R x j c t k):=by
 intro p m x j q o r h f c k t g;unfold fL at m;simp only [ZE3,List.not_mem_nil,or_false] at m;unfold aY;have fin:∀ a b i d n k,fF l sp fl fs R has (lB l sp fl fs R has x a b i d n k) (bA x (x.1,a,b,i,d,n) k):=fun a b i d n k=>bJ r a b i d n k
 rcases m with rfl | rfl | rfl | rfl | rfl | rfl | rfl | rfl | rfl | rfl | rfl | rfl | rfl | rfl | rfl | rfl
 all_goals
  simp only at q o;rw [q,o]
 ·exact fin 0 0 0 0 0 k
 ·exact FF (x:=x) h fun a=>fin _ 0 0 0 0 k
 ·exact FF (x:=x) h fun a=>a3Z f (fun n k _ _=>fin _ 0 0 0 n k) g
 ·exact fin _ 0 0 0 0 k
 ·exact yK f (fun n k _ _=>fin _ 0 0 0 n k) g
 ·exact FC f (fun n k _ _=>fin _ 0 0 0 n k) g
 ·exact RO (aHL h).2 (qO (FC f (fun n k _ _=>fin _ 0 0 0 n k) g) (yK f (fun n k _ _=>vK (fin _ 0 0 0 n k)) g))
 ·exact fin _ _ 0 0 0 k
 ·exact fin _ _ 0 0 0 k
 ·exact FF (x:=x) h fun d=>fin _ _ 0 d 0 k
 ·exact aXW f (fun b i d n k _ _=>fin _ b i d n k) g
 ·exact mK f (K:=fun e k=>.br (!(e==37)) (lZ l sp fl fs R has 22 k) (sH iT l sp fl fs R has k fun n k=>lB l sp fl fs R has x (cC c R) 0 0 0 n k)) (Q:=fun e t k=>fT (e==37) k (fW t k fun n _ k=>bA x (x.1,cC c R,0,0,0,n) k))
   (fun e k t _ g=>vK (yK f (fun n k _ _=>fin _ 0 0 0 n k) g)) g
 ·exact yK f (fun n k _ _=>fin 0 0 0 0 n k) g
 ·exact FF (x:=x) h fun d=>yK f (fun n k _ _=>fin 0 0 0 d n k) g
 ·exact FC f (fun n k _ _=>fin 0 0 0 0 n k) g
 ·exact FF (x:=x) h fun d=>FC f (fun n k _ _=>fin 0 0 0 d n k) g
end
end Go.Amd

namespace Go.Amd
open Go Go.Ab Go.Proofs
noncomputable def aOR (w0:WS) (a:Res):Cx:={ P:=prog,n:=Tryz.f111.ntmps,tab:=[],mtab:=[(159,HX w0 a)],refs:=[],keeps:=[0,2,3,4,5,6,7,8,9,25,50,51,67,74,80,86,93,103] }
noncomputable def aPF (w0 d:WS) (a:List Int) (b c:Res):Cx:={ P:=prog,n:=Tryz.f111.ntmps,tab:=[],mtab:=[(159,HX w0 b),(160,N3 d a c)],refs:=[],keeps:=[0,2,3,4,5,6,7,8,9,25,50,51,67,74,80,86,93,103] }
noncomputable def agT (l sp:List Int) (fl:Fl) (e k:Int) (fs:Bool) (R:Int) (has:Bool):Tree Res:=
 HE (aOR (qA l sp fl) (.pan (gT e) [aT l sp fl k fs R has])) Tryz.f111 [.ptr 0 0] [u7 (qA l sp fl)]
theorem a4I (l sp:List Int) (fl:Fl) (e k:Int) (fs:Bool) (R:Int) (has:Bool):(agT l sp fl e k fs R has).out=(Tree.br (sY (l,sp,fl,0,false,0,false) (qA l sp fl)) (lZ l sp fl fs R has e k) .fail).out:=by kernel_rfl
noncomputable def afU (l sp:List Int) (fl:Fl) (k1:Int) (fs:Bool) (R:Int) (has:Bool) (a:List Int) (e k:Int):Tree Res:=
 HE (aPF (qA l sp fl) (l,sp,fl,k1,fs,R,has) a (.ok (iW a) [aT l sp fl k1 fs R has]) (.pan (gT e) [aT l sp fl k fs R has])) Tryz.f111 [.ptr 0 0] [u7 (qA l sp fl)]
theorem a4E (l sp:List Int) (fl:Fl) (k1:Int) (fs:Bool) (R:Int) (has:Bool) (a:List Int) (e k:Int):(afU l sp fl k1 fs R has a e k).out =
  (Tree.br (sY (l,sp,fl,0,false,0,false) (qA l sp fl)) (.br (sY (l,sp,fl,k1,fs,R,has) (l,sp,fl,k1,fs,R,has)) (.br (IS a a) (lZ l sp fl fs R has e k) .fail) .fail) .fail).out:=by kernel_rfl
theorem BJ (w:WS):sY w w=true:=decide_eq_true rfl
theorem aG1 (l:List Int):IS l l=true:=decide_eq_true rfl
def aJI (x:RowT):Bool:=(fL.map (·.1)).contains (aA x,bI x)
theorem aST:aD.all aJI=true:=by kernel_rfl
theorem a10 {x:RowT} (h:x ∈ aD):∃ p ∈ fL,aA x=p.1.1/\bI x=p.1.2:=by
 have:=ZE1.1 aST x h;unfold aJI at this;simp only [List.contains_iff_mem,List.mem_map] at this;obtain ⟨p,h1,h2⟩:=this;exact ⟨p,h1,by rw [h2],by rw [h2]⟩
theorem aTO:((fL.drop 0).take 7++(fL.drop 7).take 4++(fL.drop 11).take 1++(fL.drop 12).take 4)=fL:=rfl
theorem aYQ {β:Type} {f g:(Int × Bool) × WL->β} (a:((fL.drop 0).take 7).map f=((fL.drop 0).take 7).map g) (b:((fL.drop 7).take 4).map f=((fL.drop 7).take 4).map g)
  (c:((fL.drop 11).take 1).map f=((fL.drop 11).take 1).map g) (d:((fL.drop 12).take 4).map f=((fL.drop 12).take 4).map g):fL.map f=fL.map g:=by
 rw [<- aTO];simp only [List.map_append,a,b,c,d]
theorem aEW {l:List Int} {m:List Int} {k:Int} {fs:Bool} {R:Int} {has:Bool} (h:eS l = .ok (m,k,fs,R,has)):wU m=true/\0<=k/\k<=(l.length:Int):=by
 have ok:∀ {o:List Int} {j:Int} {f:Bool} {r:Int} {b:Bool},(Except.ok (o,j,f,r,b):uW) = .ok (m,k,fs,R,has)->o=m/\j=k:=by
  intro o j f r b h;cases h;exact ⟨rfl,rfl⟩
 cases l with
 | nil=>cases h
 | cons c t =>
  unfold eS iU at h;simp only at h;cases n:(c==100)
  ·rw [n,cond_false] at h
   cases g:(jG c==4)
   ·rw [g,cond_false] at h
    cases a:(c != 15)
    ·rw [a,cond_false] at h
     cases t with
     | nil=>cases h
     | cons d t=>obtain ⟨rfl,rfl⟩:=ok h; exact ⟨rfl,by decide,by simp only [ZD3]; omega⟩
    ·rw [a,cond_true] at h
     obtain ⟨rfl,rfl⟩:=ok h;exact ⟨rfl,by decide,by simp only [ZD3]; omega⟩
   ·rw [g,cond_true] at h
    cases t with
    | nil=>cases h
    | cons d t =>
     simp only at h;unfold lY at h;cases a:(d != 15)
     ·rw [a,cond_false] at h
      cases p:(!(aC (aC c 15) 8 != 0))
      ·rw [p,cond_false] at h
       cases t with
       | nil=>cases h
       | cons e t=>obtain ⟨rfl,rfl⟩:=ok h; exact ⟨rfl,by decide,by simp only [ZD3]; omega⟩
      ·rw [p] at h; cases h
     ·rw [a,cond_true] at h
      obtain ⟨rfl,rfl⟩:=ok h;exact ⟨rfl,by decide,by simp only [ZD3]; omega⟩
  ·rw [n,cond_true] at h
   cases t with
   | nil=>cases h
   | cons d t =>
    simp only at h;unfold uC at h;cases i:(!(aC d 251==72))
    ·rw [i,cond_false] at h
     cases g:(jG d==4)
     ·rw [g,cond_false] at h
      cases a:(d != 15)
      ·rw [a] at h; cases h
      ·rw [a,cond_true] at h
       obtain ⟨rfl,rfl⟩:=ok h;exact ⟨rfl,by decide,by simp only [ZD3]; omega⟩
     ·rw [g,cond_true] at h
      cases t with
      | nil=>cases h
      | cons e t =>
       simp only at h;cases a:(e != 15)
       ·rw [a] at h; cases h
       ·rw [a,cond_true] at h
        obtain ⟨rfl,rfl⟩:=ok h;exact ⟨rfl,by decide,by simp only [ZD3]; omega⟩
    ·rw [i] at h; cases h
def pE:aX->Except Int (aE × Int)
 | .ok p=>.ok p
 | .error (e,_)=>.error e
def xC (R:Int) (a:List Int) (k:Int) (G:List RowT):List Int->Except Int (aE × Int)
 | []=>.error 2
 | c :: t=>match G.find? (cR c) with
  | some x=>pE (aY R x a c t (k+1))
  | none=>.error 22
def dH (l:List Int):Except Int (aE × Int):=match eS l with
 | .error (e,_)=>.error e
 | .ok (a,k,fs,R,has)=>match gR R a fs has with
  | []=>.error 22
  | r0 :: G=>cond (eD (aA r0)) (xC R a k (r0 :: G) (l.drop k.toNat)) (pE (aY R r0 a 0 (l.drop k.toNat) k))
def LZ (l sp:List Int) (fl:Fl) (res:Res):Except Int (aE × Int)->Prop
 | .ok (i,k)=>∃ fs R has,res = .ok (lV i) [aT l sp fl k fs R has,N0 i]
 | .error e=>∃ k fs R has,res = .pan (gT e) [aT l sp fl k fs R has]
theorem aU3 {l sp:List Int} {fl:Fl} {fs:Bool} {R:Int} {has:Bool} (r:aX):LZ l sp fl (XK l sp fl fs R has r) (pE r):=by
 cases r with
 | ok p=>exact ⟨fs,R,has,rfl⟩
 | error p=>exact ⟨p.2,fs,R,has,rfl⟩
section
variable {l sp:List Int} {fl:Fl}
abbrev K3 (l sp:List Int) (fl:Fl) (res:Res):Prop:=dQ prog 111 [.ptr 0 0] [aT l sp fl 0 false 0 false] res
theorem aVH (i:l.length<1000000000) {b:List Int} {k1 k c R:Int} {fs has:Bool} {x:RowT} (j:eS l = .ok (b,k1,fs,R,has)) (m:x ∈ aD)
  (h:dQ prog 160 [.ptr 0 0,iW b] [aT l sp fl k1 fs R has] (.ok (.tup [.agg (eW x),.int .u8 c]) [aT l sp fl k fs R has,rO x])) {t:List Int} (n:At l k t) :
  K3 l sp fl (XK l sp fl fs R has (aY R x b c t k)):=by
 have d:=aEY l sp fl i;rw [j] at d;obtain ⟨p,hp,hf,hc⟩:=a10 m;have a:eO x=true:=ZE1.1 vD x m;have g:=aY7 (sp:=sp) (fl:=fl) (fs:=fs) (R:=R) (has:=has) p hp hf hc a (aEW j).1 i (c:=c) n;obtain ⟨nm,rex,o16,f,dg,cn,lo,hi,os⟩:=x;simp only [aA,bI] at hf hc;subst hf;subst hc;have e:=congrFun (congrFun (congrFun (congrFun (congrFun (congrFun (congrFun (congrFun (congrFun (congrFun (congrFun (congrFun (congrFun (congrFun (congrFun (congrFun (congrFun (congrFun (List.map_inj_left.1 (aYQ aiY aiQ ag2 ag3) p hp) iT) l) sp) fl) k1) fs) R) has) nm) rex) o16) dg) lo) hi) os) b) c) k
 refine QD (cx:=XX iT (qA l sp fl) (l,sp,fl,k1,fs,R,has) b (.ok (iW b) [aT l sp fl k1 fs R has]) (.ok (.tup [.agg (eW (nm,rex,o16,p.1.1,dg,p.1.2,lo,hi,os)),.int .u8 c]) [aT l sp fl k fs R has,rO (nm,rex,o16,p.1.1,dg,p.1.2,lo,hi,os)])) (fn:=Tryz.f111)
  (a0Q d h) (by kernel_rfl) (by kernel_rfl) (by kernel_rfl) (by kernel_rfl) rfl ?_
 refine (Tree.out_run _).symm.trans (e.trans ((Tree.out_run _).trans ?_));unfold H8;rw [pS (BJ _),pS (BJ _),pS (aG1 _)];exact g
theorem af6 (n:l.length<1000000000) (hb:∀ x ∈ l,0<=x/\x<256):∃ res,LZ l sp fl res (dH l)/\K3 l sp fl res:=by
 have d:=aEY l sp fl n;unfold dH
 cases o:eS l with
 | error p =>
  obtain ⟨e,k,fs,R,has⟩:=p;rw [o] at d;refine ⟨.pan (gT e) [aT l sp fl k fs R has],⟨k,fs,R,has,rfl⟩,?_⟩;refine QD (cx:=aOR (qA l sp fl) (.pan (gT e) [aT l sp fl k fs R has])) (fn:=Tryz.f111) (bU (.nil _) (.cons (SJ d) (.nil _)) rfl rfl) (by kernel_rfl) (by kernel_rfl) (by kernel_rfl) (by kernel_rfl) rfl ?_;refine (Tree.out_run _).symm.trans ((a4I l sp fl e k fs R has).trans ((Tree.out_run _).trans ?_));rw [pS (BJ _)]
  rfl
 | ok p =>
  obtain ⟨f,k1,fs,R,has⟩:=p;rw [o] at d;obtain ⟨w,k0,k2⟩:=aEW o
  have pan:∀ e k,(BV l sp fl k1 R f fs has).run=some (.pan (gT e) [aT l sp fl k fs R has]) -> ∃ res,LZ l sp fl res (.error e)/\K3 l sp fl res:=by
   intro e k m;have q:=aEI (sp:=sp) (fl:=fl) w k0 (by omega) n m;refine ⟨.pan (gT e) [aT l sp fl k fs R has],⟨k,fs,R,has,rfl⟩,?_⟩
   refine QD (cx:=aPF (qA l sp fl) (l,sp,fl,k1,fs,R,has) f (.ok (iW f) [aT l sp fl k1 fs R has]) (.pan (gT e) [aT l sp fl k fs R has])) (fn:=Tryz.f111)
    (bU (.nil _) (.cons (SJ d) (.cons (aI8 q) (.nil _))) rfl rfl) (by kernel_rfl) (by kernel_rfl) (by kernel_rfl) (by kernel_rfl) rfl ?_
   refine (Tree.out_run _).symm.trans ((a4E l sp fl k1 fs R has f e k).trans ((Tree.out_run _).trans ?_));rw [pS (BJ _),pS (BJ _),pS (aG1 _)];rfl
  have PI:At l k1 (l.drop k1.toNat):=⟨⟨l.take k1.toNat,(List.take_append_drop _ _).symm,by rw [List.length_take]; omega⟩,fun x g=>hb x (List.mem_of_mem_drop g)⟩
  have a:∀ x c k t,x ∈ aD->At l k t->(BV l sp fl k1 R f fs has).run=some (.ok (.tup [.agg (eW x),.int .u8 c]) [aT l sp fl k fs R has,rO x]) -> ∃ res,LZ l sp fl res (pE (aY R x f c t k))/\K3 l sp fl res:=by
   intro x c k t g y m;exact ⟨_,aU3 _,aVH n o g (aEI (sp:=sp) (fl:=fl) w k0 (by omega) n m) y⟩
  simp only;unfold BV at pan a;have b:∀ r ∈ gR R f fs has,r ∈ aD:=fun r m=>(List.mem_filter.1 m).1
  cases u:gR R f fs has with
  | nil =>
   rw [u] at pan;exact pan 22 k1 rfl
  | cons r0 G =>
   rw [u] at pan a b;simp only at pan a ⊢;cases v:eD (aA r0)
   ·rw [v] at pan a
    exact a r0 0 k1 _ (b r0 ZD1) PI rfl
   ·rw [v] at pan a
    simp only [a6,cond_true] at pan a ⊢;generalize i:l.drop k1.toNat=t at PI
    cases t with
    | nil =>
     have hle:l.length<=k1.toNat:=List.drop_eq_nil_iff.1 i;have s:decide ((l.length:Nat)<=k1)=true:=decide_eq_true (by omega);exact pan 2 k1 (by rw [s]; rfl)
    | cons c t =>
     have j:k1.toNat<l.length:=by
      rcases Nat.lt_or_ge k1.toNat l.length with h | h
      ·exact h
      ·rw [List.drop_eq_nil_iff.2 h] at i; cases i
     have s:decide ((l.length:Nat)<=k1)=false:=decide_eq_false (by omega)
     have z:l.getD k1.toNat 0=c:=by
      rw [List.drop_eq_getElem_cons j] at i;rw [List.getD_eq_getElem?_getD,List.getElem?_eq_getElem j];exact (List.cons.inj i).1
     rw [s] at pan a;rw [z] at pan a;simp only [cond_false] at pan a;unfold nP at pan a;unfold xC;simp only
     cases g:(r0 :: G).find? (cR c) with
     | none =>
      rw [g] at pan;exact pan 22 (k1+1) rfl
     | some x =>
      rw [g] at a;exact a x c (k1+1) t (b x (List.mem_of_find?_eq_some g)) PI.next rfl
end
end Go.Amd

namespace Go.Amd
open Go Go.Ab Go.Proofs
def XC (w0:WS) (r:Res):MSpec:=fun args H=>match args,H with
 | [.ptr 0 0],[.cells [.sl (.int .u8) l sp fl,.int .i64 k,.bool fs,.int .u8 R,.bool has] 146]=>.aF (sY (l,sp,fl,k,fs,R,has) w0) (.leaf r)
 | _,_=>.fail
theorem a1I {w0:WS} {r:Res} (b:dQ prog 111 [.ptr 0 0] [u7 w0] r):bP prog 111 (XC w0 r):=by
 intro args H res h;unfold XC at h;split at h;rotate_left
 ·cases h
 obtain ⟨a,h⟩:=aM h;have h:=dU h;subst h;have a:=of_decide_eq_true a;subst a;exact b
noncomputable def cxD (w0:WS) (r:Res):Cx:={ P:=prog,n:=Tryz.f58.ntmps,tab:=[],mtab:=[(111,XC w0 r)],refs:=[],keeps:=[0,1,4,5,6,7,15] }
def agF (r:Res):Tree V:=match r with
 | .ok v _=>.ofOption (V.pure? v)
 | _=>.fail
noncomputable def NW (w0:WS) (r:Res) (l sp:List Int) (fl:Fl) (at_:Int):Tree V:=
 (zU (cxD w0 r) aN2 Tryz.f58 110 Tryz.f110 [.sl (.int .u8) l sp fl,.int .i64 at_] []).bind agF
def mS:aE:=([],0,0,0,0,0)
abbrev w6 (i:aE) (n e:Int):V:=.tup [lV i,.int .i64 n,.int .i64 e]
def N9 (w0:WS) (l sp:List Int) (fl:Fl) (at_:Int) (out:V):Tree V:=
 .br (decide (at_<0)) (.leaf (w6 mS 0 5)) (.br (decide ((l.length:Nat)<at_)) (.leaf (w6 mS 0 5))
  (.br (decide (0<=at_)&&decide (at_<=(l.length:Nat))) (.br (sY (l.drop at_.toNat,sp,fl,0,false,0,false) w0) (.leaf out) .fail) .fail))
theorem a8Y (w0:WS) (l sp l2 b:List Int) (fl a:Fl) (at_ k R:Int) (fs has:Bool) (i:aE) :
  (NW w0 (.ok (lV i) [aT l2 b a k fs R has,N0 i]) l sp fl at_).out=(N9 w0 l sp fl at_ (w6 i k 0)).out:=by kernel_rfl
theorem a7V (w0:WS) (l sp l2 b:List Int) (fl a:Fl) (at_ k R e:Int) (fs has:Bool) :
  (NW w0 (.pan (gT e) [aT l2 b a k fs R has]) l sp fl at_).out=(N9 w0 l sp fl at_ (w6 mS 0 e)).out:=by kernel_rfl
theorem a9U {w0:WS} {r:Res} (b:dQ prog 111 [.ptr 0 0] [u7 w0] r) {l sp:List Int} {fl:Fl} {at_:Int} {out:V} (h:(NW w0 r l sp fl at_).run=some out) :
  jS prog 58 [.sl (.int .u8) l sp fl,.int .i64 at_] out:=by
 unfold NW at h;obtain ⟨res,h2,a⟩:=bD h
 cases res with
 | ok v H' =>
  exact aQV (P0 (cx:=cxD w0 r) (cl:=aN2) (fn:=Tryz.f58) (fg:=Tryz.f110) (bU (.nil _) (.cons (a1I b) (.nil _)) rfl rfl) (dO rfl rfl) rfl (by kernel_rfl) (by kernel_rfl) (by kernel_rfl) (by kernel_rfl) (by kernel_rfl) h2) (aBS a)
 | pan v H' => cases a
def pP (l:List Int) (at_:Int):Bool:=decide (at_<0) || decide ((l.length:Int)<at_)
def alB:Except Int (aE × Int)->V
 | .ok (i,k)=>w6 i k 0
 | .error e=>w6 mS 0 e
def HM (l:List Int) (at_:Int):V:=cond (pP l at_) (w6 mS 0 5) (alB (dH (l.drop at_.toNat)))
theorem aY6 {l sp:List Int} {fl:Fl} {at_:Int} (c:l.length<1000000000) (hb:∀ x ∈ l,0<=x/\x<256):jS prog 58 [.sl (.int .u8) l sp fl,.int .i64 at_] (HM l at_):=by
 obtain ⟨res,hres,hall⟩:=af6 (l:=l.drop at_.toNat) (sp:=sp) (fl:=fl) (by rw [List.length_drop]; omega) (fun x b=>hb x (List.mem_of_mem_drop b));refine a9U (w0:=(l.drop at_.toNat,sp,fl,0,false,0,false)) hall ?_
 have run:∀ out,(N9 (l.drop at_.toNat,sp,fl,0,false,0,false) l sp fl at_ out).run=some (cond (pP l at_) (w6 mS 0 5) out):=by
  intro out;unfold N9 pP;rw [a6,a6];by_cases g1:at_<0
  ·rw [decide_eq_true g1]; rfl
  ·rw [decide_eq_false g1]
   by_cases g2:(l.length:Int)<at_
   ·rw [decide_eq_true g2]; rfl
   ·rw [decide_eq_false g2,cond_false,cond_false]
    refine (pS ?_).trans ((pS (BJ _)).trans rfl);rw [decide_eq_true (show 0<=at_ by omega),decide_eq_true (show at_<=(l.length:Int) by omega)];rfl
 unfold HM
 cases a:dH (l.drop at_.toNat) with
 | ok p =>
  obtain ⟨i,k⟩:=p;rw [a] at hres;obtain ⟨fs,R,has,rfl⟩:=hres;exact (Tree.out_run _).symm.trans ((a8Y _ l sp _ _ fl _ at_ k R fs has i).trans ((Tree.out_run _).trans (run _)))
 | error e =>
  rw [a] at hres;obtain ⟨k,fs,R,has,rfl⟩:=hres;exact (Tree.out_run _).symm.trans ((a7V _ l sp _ _ fl _ at_ k R e fs has).trans ((Tree.out_run _).trans (run _)))
def tO (l:List Int):Bool:=l.all fun x=>decide (0<=x)&&decide (x<256)
theorem QY {l:List Int} (h:tO l=true):∀ x ∈ l,0<=x/\x<256:=by
 intro x a;have:=ZE1.1 h x a;simpa using this
def aJ4:Ab.Spec:=fun args=>match args with
 | [.sl (.int .u8) l _ _,.int .i64 at_]=>.aF (decide (l.length<1000000000)) (.aF (tO l) (.leaf (HM l at_)))
 | _=>.fail
theorem aVG:Sound prog 58 aJ4:=by
 intro args out h;unfold aJ4 at h;split at h;rotate_left
 ·cases h
 rename_i l sp fl at_;obtain ⟨a,h⟩:=aM h;obtain ⟨b,h⟩:=aM h;have h:=dU h;subst h;exact aY6 (of_decide_eq_true a) (QY b)
end Go.Amd

namespace Go.Amd
open Go Go.Ab Go.Proofs
def gA (n:Nat) (p:Int->Bool):Bool:=(List.range n).all fun a=>p (a:Int)
def oW (n m:Nat) (p:Int->Int->Bool):Bool:=(List.range n).all fun a=>(List.range m).all fun b=>p (a:Int) (b:Int)
theorem fD {n:Nat} {p:Int->Bool} (h:gA n p=true) {a:Int} (b:0<=a) (c:a<n):p a=true:=by
 have:=ZE1.1 h a.toNat (List.mem_range.2 (by omega))
 rwa [ZJ2 b] at this
theorem oA {n m:Nat} {p:Int->Int->Bool} (h:oW n m p=true) {a b:Int} (c:0<=a) (e:a<n) (d:0<=b) (f:b<m):p a b=true:=by
 have:=ZE1.1 h a.toNat (List.mem_range.2 (by omega));have:=ZE1.1 this b.toNat (List.mem_range.2 (by omega))
 rwa [ZJ2 c,ZJ2 d] at this
theorem a0T:oW 16 16 (fun a b=>aS 0 a b==4*(a / 8)+b / 8)=true:=by kernel_rfl
theorem jL {a b:Int} (c:0<=a) (d:a<16) (e:0<=b) (f:b<16):aS 0 a b=4*(a / 8)+b / 8:=eq_of_beq (oA a0T c d e f)
theorem aa4:gA 16 (fun a=>bX 0 (gD a 1)==a / 8)=true:=by kernel_rfl
theorem WM {a:Int} (b:0<=a) (c:a<16):bX 0 (gD a 1)=a / 8:=eq_of_beq (fD aa4 b c)
theorem a3W:oW 16 16 (fun i b=>jE 0 i b==2*(i / 8)+b / 8&&jE 4 i b==4+2*(i / 8)+b / 8)=true:=by kernel_rfl
theorem yT {a i b:Int} (c:0<=a) (d:a<16) (j:0<=i) (k:i<16) (e:0<=b) (f:b<16):jE (aS 0 a 4) i b=4*(a / 8)+2*(i / 8)+b / 8:=by
 obtain ⟨g,h2⟩:=ZA0.1 (oA a3W j k e f);rw [jL c d (by decide) (by decide)]
 have:a / 8=0\/a / 8=1:=by omega
 rcases this with h | h
 ·rw [h]
  have:=eq_of_beq g;simpa using this
 ·rw [h]
  have:=eq_of_beq h2;simpa using this
theorem a97:gA 5 (fun m=>oW 16 16 fun a b=>aG m a b==(64*m+8*(a % 8)+b % 8) % 256)=true:=by kernel_rfl
theorem kG {m a b:Int} (g:0<=m) (h:m<4) (c:0<=a) (d:a<16) (e:0<=b) (f:b<16):aG m a b=64*m+8*(a % 8)+b % 8:=by
 have:=eq_of_beq (oA (fD a97 g (show m<(5:Nat) by omega)) c d e f);rw [this];omega
theorem a9T:gA 16 (fun R=>cH R 4==8*(R / 4 % 2)&&(cH R 2==8*(R / 2 % 2)&&(cH R 1==8*(R % 2))))=true:=by kernel_rfl
theorem tQ {R:Int} (r0:0<=R) (a:R<16):cH R 4=8*(R / 4 % 2)/\cH R 2=8*(R / 2 % 2)/\cH R 1=8*(R % 2):=by
 have:=fD a9T r0 a;simpa only [ZA2,beq_iff_eq] using this
theorem a4P:gA 256 (fun c=>bB c==c / 64&&(aC (Int.fdiv c (2 ^ 3)) 7==c / 8 % 8&&(aC c 7==c % 8&&kR c==c % 8)))=true:=by kernel_rfl
theorem kF {c:Int} (a:0<=c) (c1:c<256):bB c=c / 64/\aC (Int.fdiv c (2 ^ 3)) 7=c / 8 % 8/\aC c 7=c % 8/\kR c=c % 8:=by
 have:=fD a4P a c1;simpa only [ZA2,beq_iff_eq] using this
theorem yR {c R:Int} (a:0<=c) (c1:c<256) (r0:0<=R) (b:R<16):cC c R=c / 8 % 8+8*(R / 4 % 2):=by
 unfold cC wi;rw [(kF a c1).2.1,(tQ r0 b).1,wrap_i64 (n:=c / 8 % 8) (by omega) (by omega),wrap_i64 (by omega) (by omega)]
theorem FO {c R:Int} (a:0<=c) (c1:c<256) (r0:0<=R) (b:R<16):aU c R=c % 8+8*(R % 2):=by
 unfold aU wi;rw [(kF a c1).2.2.1,(tQ r0 b).2.2,wrap_i64 (n:=c % 8) (by omega) (by omega),wrap_i64 (by omega) (by omega)]
theorem aJ1 {c R:Int} (a:0<=c) (c1:c<256) (r0:0<=R) (b:R<16):cD c R=c / 8 % 8+8*(R / 2 % 2):=by
 unfold cD wi;rw [(kF a c1).2.1,(tQ r0 b).2.1,wrap_i64 (n:=c / 8 % 8) (by omega) (by omega),wrap_i64 (by omega) (by omega)]
end Go.Amd

namespace Go.Amd
open Go Go.Ab Go.Proofs
theorem acT {c:Int} {k:Nat} (b:0<=c) (c1:c<256) (d:k<=56):lE c k=c*2 ^ k:=by
 have f:(2:Int) ^ k<=2 ^ 56:=by
  have:=Nat.pow_le_pow_right (n:=2) (by decide) d
  exact_mod_cast this
 have a:(0:Int)<2 ^ k:=by
  have:=Nat.pow_pos (n:=k) (show 0<2 by decide)
  exact_mod_cast this
 have e:0<=c*2 ^ k:=Int.mul_nonneg b (Int.le_of_lt a);have g:c*2 ^ k<=255*2 ^ 56:=Int.mul_le_mul (by omega) f (Int.le_of_lt a) (by decide);unfold lE kB;rw [Go.Wd.wrap_u64,Go.Wd.wrap_u64,Int.emod_eq_of_lt b (by omega),Int.emod_eq_of_lt e (by omega)]
theorem qK {a c:Int} {k:Nat} (h:0<=a) (i:a<2 ^ k) (f:0<=c) (c1:c<256) (g:k<=56):jD a (lE c k)=a+c*2 ^ k:=by
 rw [acT f c1 g];obtain ⟨A,rfl⟩:=ZI3 h;obtain ⟨C,rfl⟩:=ZI3 f
 have j:A<2 ^ k:=by exact_mod_cast i
 have l:C<2 ^ 8:=by have:(C:Int)<256:=c1; omega
 have d:2 ^ k<=2 ^ 56:=Nat.pow_le_pow_right (by decide) g
 have b:C*2 ^ k<2 ^ 64:=by
  have:C*2 ^ k<=255*2 ^ 56:=Nat.mul_le_mul (by omega) d;omega
 have e:((C:Int)*2 ^ k)=((C <<< k:Nat):Int):=by rw [Nat.shiftLeft_eq]; push_cast; rfl
 have m:C <<< k<2 ^ 64:=by rw [Nat.shiftLeft_eq]; exact b
 show Go.Wd.jD (A:Int) _=_;rw [e,Go.Wd.aE0 (by omega) m,Go.Wd.a8E (Go.Wd.z7.low j) l]
 push_cast
 rfl
theorem qT (n:Int):wi n=(n+9223372036854775808) % 18446744073709551616 - 9223372036854775808:=by
 have h:IntKind.wrap .i64 n=if n % 18446744073709551616 ≥ 9223372036854775808 then n % 18446744073709551616 - 18446744073709551616 else n % 18446744073709551616:=by
  simp [IntKind.wrap,IntKind.bits,IntKind.signed]
 unfold wi;rw [h];split <;> omega
theorem wB (n:Int) (k:Nat):cS n k=n / 2 ^ k % 256:=by
 unfold cS w8;rw [Go.Wd.wrap_u8,ZI2 _ (Int.pow_nonneg (by decide))]
def aV (a:Int):Prop:=0<=a/\a<256
theorem a2H:gA 256 (fun a=>oM a==(a+128) % 256 - 128)=true:=by kernel_rfl
theorem KQ {a:Int} (h:aV a):oM a=(a+128) % 256 - 128:=eq_of_beq (fD a2H h.1 h.2)
theorem or0 {a:Int} (h:aV a):jD 0 (lE a 0)=a:=by
 rw [qK (by decide) (by decide) h.1 h.2 (by decide)];omega
theorem LA {a b c d:Int} (h:aV a) (hb:aV b) (i:aV c) (j:aV d):pO a b c d=(a+b*256+c*65536+d*16777216+2147483648) % 4294967296 - 2147483648:=by
 obtain ⟨e,a1⟩:=h;obtain ⟨f,b1⟩:=hb;obtain ⟨g,c1⟩:=i;obtain ⟨d0,d1⟩:=j;unfold pO;rw [or0 ⟨e,a1⟩,qK e (by omega) f b1 (by decide),qK (by omega) (by omega) g c1 (by decide),qK (by omega) (by omega) d0 d1 (by decide)];unfold H7 kB;rw [Go.Wd.wrap_u64,qT,ZI2 _ (by decide)];omega
theorem SM {a b c d e f g h:Int} (n:aV a) (hb:aV b) (o:aV c) (p:aV d) (q:aV e) (r:aV f) (s:aV g) (t:aV h) :
  pK a b c d e f g h=(a+b*2 ^ 8+c*2 ^ 16+d*2 ^ 24+e*2 ^ 32+f*2 ^ 40+g*2 ^ 48+h*2 ^ 56+9223372036854775808) % 18446744073709551616 - 9223372036854775808:=by
 obtain ⟨i,a1⟩:=n;obtain ⟨j,b1⟩:=hb;obtain ⟨k,c1⟩:=o;obtain ⟨d0,d1⟩:=p;obtain ⟨e0,e1⟩:=q;obtain ⟨f0,f1⟩:=r;obtain ⟨l,g1⟩:=s;obtain ⟨m,h1⟩:=t;unfold pK
 rw [or0 ⟨i,a1⟩,qK i (by omega) j b1 (by decide),qK (by omega) (by omega) k c1 (by decide),qK (by omega) (by omega) d0 d1 (by decide),qK (by omega) (by omega) e0 e1 (by decide),
  qK (by omega) (by omega) f0 f1 (by decide),qK (by omega) (by omega) l g1 (by decide),qK (by omega) (by omega) m h1 (by decide)]
 unfold H7 kB;rw [Go.Wd.wrap_u64,qT,ZI2 _ (by decide)];omega
theorem fX (n:Int) (k:Nat):aV (cS n k):=by
 rw [wB];exact ⟨Int.emod_nonneg _ (by decide),Int.emod_lt_of_pos _ (by decide)⟩
theorem a9M {n:Int} (a : -128<=n) (b:n<128):oM (cS n 0)=n:=by
 rw [KQ (fX n 0),wB];omega
theorem a7Y {n:Int} (a : -2147483648<=n) (b:n<2147483648):pO (cS n 0) (cS n 8) (cS n 16) (cS n 24)=n:=by
 rw [LA (fX n 0) (fX n 8) (fX n 16) (fX n 24)];simp only [wB];omega
theorem a6H {n:Int} (a : -9223372036854775808<=n) (b:n<9223372036854775808) :
  pK (cS n 0) (cS n 8) (cS n 16) (cS n 24) (cS n 32) (cS n 40) (cS n 48) (cS n 56)=n:=by
 rw [SM (fX n 0) (fX n 8) (fX n 16) (fX n 24) (fX n 32) (fX n 40) (fX n 48) (fX n 56)];simp only [wB];omega
theorem a9R {a:Int} (h:aV a):dR (oM a)=[a]:=by
 obtain ⟨b,a1⟩:=h;unfold dR;rw [wB,KQ ⟨b,a1⟩];congr 1;omega
theorem a8M {a b c d:Int} (e:aV a) (hb:aV b) (f:aV c) (g:aV d):bV (pO a b c d)=[a,b,c,d]:=by
 unfold bV;simp only [wB,LA e hb f g];obtain ⟨h,a1⟩:=e;obtain ⟨i,b1⟩:=hb;obtain ⟨j,c1⟩:=f;obtain ⟨d0,d1⟩:=g;congr 1
 ·omega
 congr 1
 ·omega
 congr 1
 ·omega
 congr 1;omega
theorem a61 {a b c d e f g h:Int} (i:aV a) (hb:aV b) (j:aV c) (k:aV d) (l:aV e) (m:aV f) (n:aV g) (o:aV h):qF (pK a b c d e f g h)=[a,b,c,d,e,f,g,h]:=by
 unfold qF;simp only [wB,SM i hb j k l m n o];obtain ⟨p,a1⟩:=i;obtain ⟨q,b1⟩:=hb;obtain ⟨r,c1⟩:=j;obtain ⟨d0,d1⟩:=k;obtain ⟨e0,e1⟩:=l;obtain ⟨f0,f1⟩:=m;obtain ⟨s,g1⟩:=n;obtain ⟨t,h1⟩:=o;congr 1
 ·omega
 congr 1
 ·omega
 congr 1
 ·omega
 congr 1
 ·omega
 congr 1
 ·omega
 congr 1
 ·omega
 congr 1
 ·omega
 congr 1;omega
end Go.Amd

namespace Go.Amd
open Go Go.Ab Go.Proofs
def pW (f:Int):Bool:=f==3 || f==4 || f==5 || f==6
def NM (x y:RowT):Bool:=(aA x==9&&(pW (aA y) || aA y==7 || aA y==8)) || ((aA y==9&&(pW (aA x) || aA x==7 || aA x==8)) || (pW (aA x)&&pW (aA y)&&!(x.2.2.2.2.1==y.2.2.2.2.1)))
def bools:List Bool:=[false,true]
def aLM (x y:RowT):Bool:=bools.all fun fs=>bools.all fun has=>gA 16 fun R=>!(nK x fs R has&&nK y fs R has)
def aKX (x y:RowT):Bool:=x==y || (aLM x y || (eD (aA x)&&(eD (aA y)&&NM x y)))
def KY (a:List Int):List RowT:=aD.filter fun x=>fE x a
def UZ (l:List RowT):Bool:=l.all fun x=>l.all fun y=>aKX x y
theorem aXE:gA 256 (fun c=>UZ (KY [c]))=true:=by kernel_rfl
theorem aYK:gA 256 (fun c=>UZ (KY [15,c]))=true:=by kernel_rfl
def uT (a:List Int):Prop:=(∃ c,aV c/\a=[c])\/(∃ c,aV c/\a=[15,c])
theorem aW2 {a:List Int} (h:uT a):UZ (KY a)=true:=by
 rcases h with ⟨c,h,rfl⟩ | ⟨c,h,rfl⟩
 ·exact fD aXE h.1 h.2
 ·exact fD aYK h.1 h.2
theorem aCJ {c:List Int} (h:uT c) {fs has:Bool} {R:Int} (r0:0<=R) (l:R<16) {x y:RowT} (i:x ∈ gR R c fs has) (j:y ∈ gR R c fs has) (e:x ≠ y) :
  eD (aA x)=true/\eD (aA y)=true/\NM x y=true:=by
 have get:∀ z ∈ gR R c fs has,z ∈ KY c/\nK z fs R has=true:=by
  intro z k;obtain ⟨d,a⟩:=List.mem_filter.1 k;unfold eE at a;cases f:fE z c
  ·rw [f] at a; cases a
  ·rw [f] at a
   exact ⟨List.mem_filter.2 ⟨d,f⟩,a⟩
 obtain ⟨m,x2⟩:=get x i;obtain ⟨n,y2⟩:=get y j;have:=ZE1.1 (ZE1.1 (aW2 h) x m) y n;unfold aKX at this
 rcases ZA1.1 this with h | h
 ·exact absurd (eq_of_beq h) e
 rcases ZA1.1 h with h | h
 ·exfalso
  unfold aLM at h
  have g:∀ b:Bool,b ∈ bools:=by intro b; cases b <;> simp [bools]
  have:=fD (ZE1.1 (ZE1.1 h fs (g fs)) has (g has)) r0 l;rw [x2,y2] at this;cases this
 ·obtain ⟨d,h⟩:=ZA0.1 h
  obtain ⟨a,h3⟩:=ZA0.1 h;exact ⟨d,a,h3⟩
theorem F2 {x:RowT} (h:pW (aA x)=true) (m d rm:Int):mU x m d rm=cond (m==3) (d==x.2.2.2.2.1) false:=by
 have key:∀ f:Int,pW f=true->(f==9)=false/\(f==10)=false/\(f==7 || f==8)=false:=by
  intro f a;unfold pW at a;simp only [ZA3,beq_iff_eq] at a
  rcases a with ((rfl | rfl) | rfl) | rfl <;> exact ⟨rfl,rfl,rfl⟩
 obtain ⟨b,h2,h3⟩:=key _ h;unfold mU;rw [b,h2,h3];rfl
theorem XI {x:RowT} (h:(pW (aA x) || aA x==7 || aA x==8)=true) {m d rm:Int} (a:mU x m d rm=true):m=3:=by
 rcases ZA1.1 h with h | h
 ·rcases ZA1.1 h with h | h
  ·rw [F2 h] at a
   cases b:(m==3)
   ·rw [b] at a; cases a
   ·exact eq_of_beq b
  ·have:=eq_of_beq h
   unfold mU at a;rw [this] at a;exact eq_of_beq a
 ·have:=eq_of_beq h
  unfold mU at a;rw [this] at a;exact eq_of_beq a
theorem WE {x:RowT} (h:(aA x==9)=true) {m d rm:Int} (a:mU x m d rm=true):m ≠ 3:=by
 unfold mU at a;rw [h] at a;simpa using a
theorem a4K {x y:RowT} (h:NM x y=true) (c:Int) (a:cR c x=true):cR c y=false:=by
 cases d:cR c y
 ·rfl
 exfalso
 unfold cR at a d;unfold NM at h
 rcases ZA1.1 h with h | h
 ·obtain ⟨b,h2⟩:=ZA0.1 h
  exact WE b a (XI h2 d)
 rcases ZA1.1 h with h | h
 ·obtain ⟨b,h2⟩:=ZA0.1 h
  exact WE b d (XI h2 a)
 ·obtain ⟨b,h3⟩:=ZA0.1 h
  obtain ⟨b,h2⟩:=ZA0.1 b;rw [F2 b] at a;rw [F2 h2] at d;cases e:(bB c==3)
  ·rw [show (Int.fdiv c (2 ^ 6)==3)=false from e] at a; cases a
  ·rw [show (Int.fdiv c (2 ^ 6)==3)=true from e] at a d
   have f:=eq_of_beq a;have g:=eq_of_beq d;rw [<- f,<- g] at h3;simp at h3
theorem P7 {d:List Int} (h:uT d) {fs has:Bool} {R:Int} (r0:0<=R) (n:R<16) {x:RowT} (e:x ∈ gR R d fs has) :
  (eD (aA x)=false->gR R d fs has=[x] \/ ∃ G,gR R d fs has=x :: G /\ ∀ y ∈ G,y=x) /\
  (eD (aA x)=true -> ∃ r0 G,gR R d fs has=r0 :: G/\eD (aA r0)=true /\ ∀ c,cR c x=true->(r0 :: G).find? (cR c)=some x):=by
 have f:=fun y (b:y ∈ gR R d fs has) (a:x ≠ y)=>aCJ h r0 n e b a
 cases k:gR R d fs has with
 | nil=>rw [k] at e; cases e
 | cons g G =>
  rw [k] at f e;refine ⟨fun j=>.inr ?_,fun j=>⟨g,G,rfl,?_,fun c l=>?_⟩⟩
  ·have same:∀ y ∈ g :: G,y=x:=by
    intro y b;by_cases a:x=y
    ·exact a.symm
    ·have:=(f y b a).1; rw [j] at this; cases this
   exact ⟨G,by rw [same g ZD1],fun y b=>same y (ZD2 _ b)⟩
  ·by_cases a:x=g
   ·rw [<- a]; exact j
   ·exact (f g ZD1 a).2.1
  ·cases i:(g :: G).find? (cR c) with
   | none=>exact absurd l (by simpa using List.find?_eq_none.1 i x e)
   | some y =>
    have b:=List.mem_of_find?_eq_some i;have m:=List.find?_some i;by_cases a:x=y
    ·rw [a]
    ·have:=a4K (f y b a).2.2 c l
     rw [this] at m;cases m
end Go.Amd

namespace Go.Amd
open Go Go.Ab Go.Proofs
theorem oB {n:Int} {u:Bool} (h:cY n u=true):0<=n/\n<16:=by
 unfold cY at h;by_cases h0:n=0
 ·omega
 have e:(n==0)=false:=beq_eq_false_iff_ne.2 h0;rw [e,cond_false] at h;cases u
 ·cases h
 ·rw [cond_true] at h
  by_cases h1:0<n
  ·rw [decide_eq_true h1,cond_true] at h
   have:=of_decide_eq_true h;omega
  ·rw [decide_eq_false h1] at h; cases h
theorem R0 {n:Int} (h:cY n false=true):n=0:=by
 unfold cY at h;cases e:(n==0)
 ·rw [e] at h; cases h
 ·exact eq_of_beq e
theorem FL {b:Int} (h:pG b=true):(0<=b/\b<16)\/b=17:=by
 unfold pG at h;by_cases h17:b=17
 ·exact .inr h17
 have e:(b==17)=false:=beq_eq_false_iff_ne.2 h17;rw [e] at h;by_cases h0:0<=b
 ·by_cases h1:b<=15
  ·exact .inl ⟨h0,by omega⟩
  ·rw [decide_eq_true h0,decide_eq_false h1] at h; cases h
 ·rw [decide_eq_false h0] at h; cases h
theorem QN {d:Int} (h:vY d=true):d=1\/d=2\/d=4\/d=8:=by
 unfold vY at h;by_cases h1:d=1
 ·exact .inl h1
 by_cases h2:d=2
 ·exact .inr (.inl h2)
 by_cases h4:d=4
 ·exact .inr (.inr (.inl h4))
 by_cases h8:d=8
 ·exact .inr (.inr (.inr h8))
 simp [h1,h2,h4,h8] at h
theorem vE {b c d:Int} (h:jO b c d=true) :
  (b=17/\c=16/\d=0)\/((0<=b/\b<16)/\c=16/\d=0)\/((0<=b/\b<16)/\(0<=c/\c<16)/\c ≠ 4/\(d=1\/d=2\/d=4\/d=8)):=by
 unfold jO at h;cases e:(c==16)
 ·rw [e,cond_false] at h
  cases a:pG b
  ·rw [a] at h; cases h
  rw [a,cond_true] at h;cases f:(b != 17)
  ·rw [f] at h; cases h
  rw [f,cond_true] at h;cases g:decide (0<=c)
  ·rw [g] at h; cases h
  rw [g,cond_true] at h;cases j:decide (c<=15)
  ·rw [j] at h; cases h
  rw [j,cond_true] at h;cases i:(c != 4)
  ·rw [i] at h; cases h
  rw [i,cond_true] at h
  have f:b ≠ 17:=by simpa using f
  have i:c ≠ 4:=by simpa using i
  have g:=of_decide_eq_true g;have j:=of_decide_eq_true j
  rcases FL a with hb | hb
  ·exact .inr (.inr ⟨hb,⟨g,by omega⟩,i,QN h⟩)
  ·exact absurd hb f
 ·rw [e,cond_true] at h
  have e:=eq_of_beq e;cases a:pG b
  ·rw [a] at h; cases h
  rw [a,cond_true] at h;have k:=eq_of_beq h
  rcases FL a with hb | hb
  ·exact .inr (.inl ⟨hb,e,k⟩)
  ·exact .inl ⟨hb,e,k⟩
theorem KC {d:Int} (h:j6 d=true):0<=d/\d<16:=by
 unfold j6 at h;by_cases h0:0<=d
 ·by_cases h9:d<=9
  ·omega
  ·rw [decide_eq_true h0,decide_eq_false h9] at h
   by_cases a:12<=d
   ·rw [decide_eq_true a] at h
    have:=of_decide_eq_true h;omega
   ·rw [decide_eq_false a] at h; cases h
 ·have a:¬ 12<=d:=by omega
  rw [decide_eq_false h0,decide_eq_false a] at h;cases h
theorem mB {x:RowT} {a b c d:Int} (h:okF x a b c d=true) :
  (uM x=true/\cY a (uA x)=true/\jO b c d=true)\/(uM x=false/\cY a (uA x)=true/\cY b (uB x)=true/\c=0/\(d=0\/(bI x=true/\j6 d=true))):=by
 unfold okF at h;cases g:uM x
 ·rw [g,cond_false] at h
  cases e:cY a (uA x)
  ·rw [e] at h; cases h
  rw [e,cond_true] at h;cases i:cY b (uB x)
  ·rw [i] at h; cases h
  rw [i,cond_true] at h;cases f:(c==0)
  ·rw [f] at h; cases h
  rw [f,cond_true] at h;refine .inr ⟨rfl,rfl,rfl,eq_of_beq f,?_⟩;cases j:(d==0)
  ·rw [j,cond_false] at h
   cases k:bI x
   ·rw [k] at h; cases h
   ·rw [k,cond_true] at h; exact .inr ⟨rfl,h⟩
  ·exact .inl (eq_of_beq j)
 ·rw [g,cond_true] at h
  cases e:cY a (uA x)
  ·rw [e] at h; cases h
  rw [e,cond_true] at h;exact .inl ⟨rfl,rfl,h⟩
theorem lL {x:RowT} {i:aE} (h:c8 x i=0):(uI x=true->lowR x<=i.2.2.2.2.2/\i.2.2.2.2.2<=highR x)/\(uI x=false->i.2.2.2.2.2=0):=by
 have c:=iX h;unfold c8 tU at h;rw [c] at h;simp only [Bool.not_true,cond_false] at h;refine ⟨fun a=>?_,fun a=>?_⟩
 ·rw [a,cond_true] at h
  by_cases h1:i.2.2.2.2.2<lowR x
  ·rw [decide_eq_true h1] at h; cases h
  ·by_cases h2:highR x<i.2.2.2.2.2
   ·rw [decide_eq_false h1,decide_eq_true h2] at h; cases h
   ·omega
 ·rw [a,cond_false] at h
  cases b:(i.2.2.2.2.2 != 0)
  ·simpa using b
  ·rw [b] at h; cases h
end Go.Amd

namespace Go.Amd
open Go Go.Ab Go.Proofs
def OR (c:Int):Prop:=(c==15)=false/\(c==100)=false/\(jG c==4)=false
theorem zE {a b:Int} (h:(a==b)=false):(a != b)=true:=by
 unfold bne;rw [h]; rfl
theorem aGK {c:Int} (h:OR c) (t:List Int):eS (c :: t) = .ok ([c],1,false,0,false):=by
 obtain ⟨a,h2,h3⟩:=h;show iU c t=_;unfold iU;rw [h2,h3,zE a];rfl
theorem aGM (d:Int) (t:List Int):eS (15 :: d :: t) = .ok ([15,d],2,false,0,false):=rfl
theorem a2G:gA 16 (fun r=>(64+r==100)==false&&(jG (64+r)==4&&aC (64+r) 15==r))=true:=by kernel_rfl
theorem aJJ {r:Int} (r0:0<=r) (c:r<16):(64+r==100)=false/\(jG (64+r)==4)=true/\aC (64+r) 15=r:=by
 have:=fD a2G r0 c;obtain ⟨b,a⟩:=ZA0.1 this;obtain ⟨a,h3⟩:=ZA0.1 a;exact ⟨eq_of_beq b,a,eq_of_beq h3⟩
theorem Q4 {c r:Int} (r0:0<=r) (b:r<16) (h:(c==15)=false) (t:List Int):eS ((64+r) :: c :: t) = .ok ([c],2,false,r,true):=by
 obtain ⟨a,h2,h3⟩:=aJJ r0 b;show iU (64+r) (c :: t)=_;unfold iU;rw [a,h2,h3,cond_false,cond_true];show lY r c t=_;unfold lY;rw [zE h];rfl
theorem a05 {d r:Int} (r0:0<=r) (b:r<16) (h:(aC r 8 != 0)=true) (t:List Int):eS ((64+r) :: 15 :: d :: t) = .ok ([15,d],3,false,r,true):=by
 obtain ⟨a,h2,h3⟩:=aJJ r0 b;show iU (64+r) (15 :: d :: t)=_;unfold iU;rw [a,h2,h3,cond_false,cond_true];show lY r 15 (d :: t)=_;unfold lY;rw [h];rfl
theorem a3G {d:Int} (h:(d==15)=false) (t:List Int):eS (100 :: 72 :: d :: t) = .ok ([d],3,true,8,true):=by
 show (cond (d != 15) (Except.ok ([d],3,true,aC 72 15,true)) (Except.error (22,3,true,aC 72 15,true)):uW)=_;rw [zE h];rfl
theorem a07 {d:Int} (h:(d==15)=false) (t:List Int):eS (100 :: 76 :: d :: t) = .ok ([d],3,true,12,true):=by
 show (cond (d != 15) (Except.ok ([d],3,true,aC 76 15,true)) (Except.error (22,3,true,aC 76 15,true)):uW)=_;rw [zE h];rfl
end Go.Amd

namespace Go.Amd
open Go Go.Ab Go.Proofs
def jV (f r:Int):Bool:=aC r (nB f)==0&&aC (8+r) (nB f)==0
theorem acH:gA 2 (fun r=>[1,2,3,4,5,6].all fun f=>jV f r)=true:=by kernel_rfl
theorem aeG:oW 2 2 (fun r q=>[7,8].all fun f=>jV f (4*q+r))=true:=by kernel_rfl
theorem adD:gA 8 (fun r=>[9,10].all fun f=>jV f r)=true:=by kernel_rfl
theorem VF:[0,11,12].all (fun f=>jV f 0)=true:=by kernel_rfl
theorem a5I:aD.all (fun x=>decide (0<=x.2.2.2.2.1)&&(decide (x.2.2.2.2.1<8)&&wi x.2.2.2.2.1==x.2.2.2.2.1))=true:=by kernel_rfl
theorem B7 {x:RowT} (a:x ∈ aD):0<=x.2.2.2.2.1/\x.2.2.2.2.1<8/\wi x.2.2.2.2.1=x.2.2.2.2.1:=by
 have:=ZE1.1 a5I x a;simp only [ZA2,decide_eq_true_eq,beq_iff_eq] at this;exact this
theorem BD {m a b c d:Int} {i:List Int} (f:0<=a/\a<16) (g:0<=b/\b<16) (j:0<=c/\c<=16):0<=(gU m a b c d i).1/\(gU m a b c d i).1<8:=by
 unfold gU;cases h:(c==16)
 ·rw [cond_false,cond_false,cond_false]
  have:c ≠ 16:=by
   intro e; rw [e] at h; cases h
  show 0<=jE (aS 0 a 4) c b/\jE (aS 0 a 4) c b<8;rw [yT f.1 f.2 j.1 (by omega) g.1 g.2];omega
 ·rw [cond_true,cond_true]
  cases (cO b 7 != 4)
  ·show 0<=jE (aS 0 a 4) 4 b/\jE (aS 0 a 4) 4 b<8
   rw [yT f.1 f.2 (by omega) (by omega) g.1 g.2];omega
  ·show 0<=aS 0 a b/\aS 0 a b<8
   rw [jL f.1 f.2 g.1 g.2];omega
theorem a4R {a b c d n:Int} (e:0<=a/\a<16) (h:jO b c d=true):0<=(dJ a b c d n).1/\(dJ a b c d n).1<8:=by
 unfold dJ
 rcases vE h with ⟨rfl,-,-⟩ | ⟨f,rfl,-⟩ | ⟨f,c0,-,-⟩
 ·show 0<=aS 0 a 5/\aS 0 a 5<8
  rw [jL e.1 e.2 (by omega) (by omega)];omega
 ·have hb:(b==17)=false:=beq_eq_false_iff_ne.2 (by omega)
  rw [hb,cond_false];cases cond (n==0) (cO b 7 != 5) false
  ·rw [cond_false]
   cases dC n
   ·exact BD e f (by omega)
   ·exact BD e f (by omega)
  ·exact BD e f (by omega)
 ·have hb:(b==17)=false:=beq_eq_false_iff_ne.2 (by omega)
  rw [hb,cond_false];cases cond (n==0) (cO b 7 != 5) false
  ·rw [cond_false]
   cases dC n
   ·exact BD e f (by omega)
   ·exact BD e f (by omega)
  ·exact BD e f (by omega)
def rI (x:RowT) (i:aE):Int:=rF (aA x) x.2.2.2.2.1 i.2.1 i.2.2.1 i.2.2.2.1 i.2.2.2.2.1 i.2.2.2.2.2
theorem aLQ {f dg a b c d n:Int} (i:f ∈ forms) (k:0<=dg/\dg<8/\wi dg=dg) (e:0<=a/\a<16) (o:f=9->jO b c d=true) (hb:f ≠ 9->0<=b/\b<16) :
  0<=rF f dg a b c d n/\rF f dg a b c d n<8/\jV f (rF f dg a b c d n)=true:=by
 have j:∀ f ∈ [1,2,3,4,5,6],jV f (a / 8)=true:=fun f i=>ZE1.1 (fD acH (a:=a / 8) (by omega) (by omega)) f i
 have l:∀ f ∈ [7,8],∀ p q:Int,0<=p->p<16->0<=q->q<16->jV f (4*(q / 8)+p / 8)=true:=fun f i p q t u v w =>
  ZE1.1 (oA aeG (a:=p / 8) (b:=q / 8) (by omega) (by omega) (by omega) (by omega)) f i
 have m:∀ f ∈ [9,10],∀ r:Int,0<=r->r<8->jV f r=true:=fun f i r r0 s=>ZE1.1 (fD adD r0 s) f i
 have d8:aS 0 (wi dg) a=a / 8:=by
  rw [k.2.2,jL k.1 (by omega) e.1 e.2];omega
 have hi:bX 0 (gD a 1)=a / 8:=WM e.1 e.2;unfold forms at i;simp only [ZE3,List.not_mem_nil,or_false] at i
 rcases i with rfl | rfl | rfl | rfl | rfl | rfl | rfl | rfl | rfl | rfl | rfl | rfl | rfl
 ·exact ⟨Int.le_refl _,(by decide:(0:Int)<8),ZE1.1 VF 0 (by simp)⟩
 ·show 0<=bX 0 (gD a 1)/\bX 0 (gD a 1)<8/\jV 1 (bX 0 (gD a 1))=true
  rw [hi]; exact ⟨by omega,by omega,j 1 (by simp)⟩
 ·show 0<=bX 0 (gD a 1)/\bX 0 (gD a 1)<8/\jV 2 (bX 0 (gD a 1))=true
  rw [hi]; exact ⟨by omega,by omega,j 2 (by simp)⟩
 ·show 0<=aS 0 (wi dg) a/\aS 0 (wi dg) a<8/\jV 3 (aS 0 (wi dg) a)=true
  rw [d8]; exact ⟨by omega,by omega,j 3 (by simp)⟩
 ·show 0<=aS 0 (wi dg) a/\aS 0 (wi dg) a<8/\jV 4 (aS 0 (wi dg) a)=true
  rw [d8]; exact ⟨by omega,by omega,j 4 (by simp)⟩
 ·show 0<=aS 0 (wi dg) a/\aS 0 (wi dg) a<8/\jV 5 (aS 0 (wi dg) a)=true
  rw [d8]; exact ⟨by omega,by omega,j 5 (by simp)⟩
 ·show 0<=aS 0 (wi dg) a/\aS 0 (wi dg) a<8/\jV 6 (aS 0 (wi dg) a)=true
  rw [d8]; exact ⟨by omega,by omega,j 6 (by simp)⟩
 ·have g:=hb (by decide)
  show 0<=aS 0 b a/\aS 0 b a<8/\jV 7 (aS 0 b a)=true;rw [jL g.1 g.2 e.1 e.2];exact ⟨by omega,by omega,l 7 (by simp) a b e.1 e.2 g.1 g.2⟩
 ·have g:=hb (by decide)
  show 0<=aS 0 a b/\aS 0 a b<8/\jV 8 (aS 0 a b)=true;rw [jL e.1 e.2 g.1 g.2];exact ⟨by omega,by omega,l 8 (by simp) b a g.1 g.2 e.1 e.2⟩
 ·have h:=a4R (n:=n) e (o rfl)
  show 0<=(dJ a b c d n).1/\(dJ a b c d n).1<8/\jV 9 (dJ a b c d n).1=true;exact ⟨h.1,h.2,m 9 (by simp) _ h.1 h.2⟩
 ·show 0<=aS 0 a 4/\aS 0 a 4<8/\jV 10 (aS 0 a 4)=true
  rw [jL e.1 e.2 (by omega) (by omega)];exact ⟨by omega,by omega,m 10 (by simp) _ (by omega) (by omega)⟩
 ·exact ⟨Int.le_refl _,(by decide:(0:Int)<8),ZE1.1 VF 11 (by simp)⟩
 ·exact ⟨Int.le_refl _,(by decide:(0:Int)<8),ZE1.1 VF 12 (by simp)⟩
theorem F8 {x:RowT} (b:x ∈ aD) {i:aE} (h:okF x i.2.1 i.2.2.1 i.2.2.2.1 i.2.2.2.2.1=true):0<=rI x i/\rI x i<8/\jV (aA x) (rI x i)=true:=by
 have c:aA x ∈ forms:=by simpa [eO] using ZE1.1 vD x b
 unfold rI
 rcases mB h with ⟨a,h2,h3⟩ | ⟨a,h2,h3,-,-⟩
 ·exact aLQ c (B7 b) (oB h2) (fun _=>h3) (fun e=>absurd (eq_of_beq a) e)
 ·refine aLQ c (B7 b) (oB h2) (fun d=>?_) (fun _=>oB h3)
  unfold uM at a;rw [d] at a;cases a
end Go.Amd

namespace Go.Amd
open Go Go.Ab Go.Proofs
def ZM (c:Int):Bool:=(c==15)==false&&((c==100)==false&&(jG c==4)==false)
theorem a9A {c:Int} (h:ZM c=true):OR c:=by
 unfold ZM at h;obtain ⟨a,h⟩:=ZA0.1 h;obtain ⟨b,h3⟩:=ZA0.1 h;exact ⟨eq_of_beq a,eq_of_beq b,eq_of_beq h3⟩
def lQ (f:Int) (b:Bool) (l a d:Int) (ft:Bool):Int:=
 cond (f==1) (w8 (l+w8 (cO a 7))) (cond (f==2) (w8 (l+w8 (cO a 7))) (cond (f==6) (cond ft l 129) (cond b (w8 (l+w8 d)) l)))
theorem J2 (f:Int) (b:Bool) (l a d n:Int):M0 f b l a d n=lQ f b l a d (dC n):=rfl
def NH (x:RowT) (c:Int):Bool:=
 fE x (bY x.2.2.1++[c])&&(decide (0<=c)&&(decide (c<256)&&cond (decide (255<x.2.2.1)) (bY x.2.2.1==[15]) (bY x.2.2.1==[]&&ZM c)))
def aMY (x:RowT) (a d:Int) (ft:Bool):Bool:=cond (bI x&&!(j6 d || d==0)) true (NH x (lQ (aA x) (bI x) (w8 x.2.2.1) a d ft))
theorem a1P:aD.all (fun x=>bools.all fun ft=>oW 16 16 fun a d=>aMY x a d ft)=true:=by kernel_rfl
def lP (x:RowT) (i:aE):Int:=M0 (aA x) (bI x) (w8 x.2.2.1) i.2.1 i.2.2.2.2.1 i.2.2.2.2.2
def bS (x:RowT) (i:aE):List Int:=bY x.2.2.1++[lP x i]
theorem aYR {x:RowT} (g:x ∈ aD) {i:aE} (h:okF x i.2.1 i.2.2.1 i.2.2.2.1 i.2.2.2.2.1=true):NH x (lP x i)=true:=by
 have m:∀ b:Bool,b ∈ bools:=by intro b; cases b <;> simp [bools]
 have key:=ZE1.1 (ZE1.1 a1P x g) (dC i.2.2.2.2.2) (m _)
 have fin:∀ (d:0<=i.2.1/\i.2.1<16) (d0:0<=i.2.2.2.2.1/\i.2.2.2.2.1<16) (c:(bI x&&!(j6 i.2.2.2.2.1 || i.2.2.2.2.1==0))=false),NH x (lP x i)=true:=by
  intro d d0 c;have:=oA key d.1 d.2 d0.1 d0.2;unfold aMY at this;rw [c] at this;exact this
 have j:aA x=9->bI x=false:=by
  intro l
  have n:aD.all (fun x=>!(aA x==9&&bI x))=true:=by kernel_rfl
  have:=ZE1.1 n x g;rw [l] at this;cases c:bI x
  ·rfl
  ·rw [c] at this; cases this
 rcases mB h with ⟨e,h2,f⟩ | ⟨e,h2,f,h4,k⟩
 ·refine fin (oB h2) ?_ ?_
  ·rcases vE f with ⟨-,-,a⟩ | ⟨-,-,a⟩ | ⟨-,-,-,a⟩ <;> omega
  ·rw [j (eq_of_beq e)]; rfl
 ·rcases k with a | ⟨c,a⟩
  ·refine fin (oB h2) (by omega) ?_
   rw [a];cases bI x <;> rfl
  ·refine fin (oB h2) (KC a) ?_
   rw [a];cases bI x <;> rfl
theorem F0 {x:RowT} (f:x ∈ aD) {i:aE} (h:okF x i.2.1 i.2.2.1 i.2.2.2.1 i.2.2.2.2.1=true) :
  fE x (bS x i)=true/\((bS x i=[lP x i]/\OR (lP x i)/\aV (lP x i))\/(bS x i=[15,lP x i]/\aV (lP x i)/\255<x.2.2.1)):=by
 have a:=aYR f h;unfold NH at a;obtain ⟨d,a⟩:=ZA0.1 a;obtain ⟨b,a⟩:=ZA0.1 a;obtain ⟨c,a⟩:=ZA0.1 a;refine ⟨d,?_⟩;unfold bS;cases hb:decide (255<x.2.2.1)
 ·rw [hb,cond_false] at a
  obtain ⟨e,h5⟩:=ZA0.1 a;rw [eq_of_beq e];exact .inl ⟨rfl,a9A h5,of_decide_eq_true b,of_decide_eq_true c⟩
 ·rw [hb,cond_true] at a
  rw [eq_of_beq a];exact .inr ⟨rfl,⟨of_decide_eq_true b,of_decide_eq_true c⟩,of_decide_eq_true hb⟩
theorem aIC {x:RowT} (a:x ∈ aD) {i:aE} (h:okF x i.2.1 i.2.2.1 i.2.2.2.1 i.2.2.2.2.1=true):uT (bS x i):=by
 rcases (F0 a h).2 with ⟨e,-,hb⟩ | ⟨e,hb,-⟩
 ·exact .inl ⟨_,hb,e⟩
 ·exact .inr ⟨_,hb,e⟩
end Go.Amd

namespace Go.Amd
open Go Go.Ab Go.Proofs
def cB (x:RowT) (i:aE):Int:=cond (x.2.1==1) (8+rI x i) (rI x i)
def oT (x:RowT) (i:aE):Bool:=!(x.2.1==0&&rI x i==0)
def pU (x:RowT):Bool:=aA x==10
def eI (x:RowT) (i:aE):Int:=cond (pU x) 3 (cond (oT x i) 1 0+cond (decide (255<x.2.2.1)) 2 1)
theorem a2Z:aD.all (fun x=>(x.2.1==0 || (x.2.1==1 || x.2.1==2))&&(cond (x.2.1==1 || decide (x.2.2.1<=255)) true (x.2.1==0&&(aA x==0 || (aA x==11 || aA x==12)))&&cond (aA x==10) (x.2.1==1&&decide (x.2.2.1<=255)) true))=true:=by kernel_rfl
theorem GN {x:RowT} (g:x ∈ aD):(x.2.1=0\/x.2.1=1\/x.2.1=2)/\(x.2.1 ≠ 1->255<x.2.2.1->x.2.1=0/\(aA x=0\/aA x=11\/aA x=12))/\(aA x=10->x.2.1=1/\x.2.2.1<=255):=by
 have:=ZE1.1 a2Z x g;obtain ⟨a,h⟩:=ZA0.1 this;obtain ⟨b,h3⟩:=ZA0.1 h;simp only [ZA3,beq_iff_eq] at a;refine ⟨a,fun f e=>?_,fun d=>?_⟩
 ·rw [beq_eq_false_iff_ne.2 f,decide_eq_false (Int.not_le.2 e)] at b
  simpa using b
 ·rw [d] at h3
  obtain ⟨c,h5⟩:=ZA0.1 h3;exact ⟨eq_of_beq c,of_decide_eq_true h5⟩
theorem LL {x:RowT} {i:aE} (h:aA x=0\/aA x=11\/aA x=12):rI x i=0:=by
 unfold rI
 rcases h with h | h | h <;> rw [h] <;> rfl
end Go.Amd

namespace Go.Amd
open Go Go.Ab Go.Proofs
theorem a8O:gA 8 (fun r=>bX r 8==8+r&&(bX 64 (8+r)==64+(8+r)&&(bX 64 r==64+r&&aC (8+r) 8 != 0)))=true:=by kernel_rfl
theorem U2 {r:Int} (r0:0<=r) (b:r<8):bX 64 (bX r 8)=64+(8+r)/\bX 64 r=64+r/\(aC (8+r) 8 != 0)=true:=by
 have:=fD a8O r0 b;simp only [ZA2,beq_iff_eq] at this;obtain ⟨a,h2,h3,h4⟩:=this;exact ⟨by rw [a,h2],h3,h4⟩
def eR (x:RowT) (i:aE):List Int:=XV (aA x) x.2.2.2.2.1 i.2.1 i.2.2.1 i.2.2.2.1 i.2.2.2.2.1 i.2.2.2.2.2
theorem aT1 (x:RowT) (i:aE):F9 x i=nT (aA x)++hY x.2.1 (rI x i)++bS x i++eR x i:=rfl
theorem I4 {x:RowT} {i:aE} {c:Int} (e:bS x i=[c]):decide (255<x.2.2.1)=false:=by
 cases hb:decide (255<x.2.2.1)
 ·rfl
 ·exfalso
  have a:=congrArg List.length e;unfold bS bY at a;rw [hb,cond_true,ZE0] at a;exact absurd a (by decide:(1+1:Nat) ≠ 1)
theorem taken {x:RowT} (l:x ∈ aD) {i:aE} (h:okF x i.2.1 i.2.2.1 i.2.2.2.1 i.2.2.2.2.1=true) (t:List Int) :
  eS (nT (aA x)++hY x.2.1 (rI x i)++bS x i++t) = .ok (bS x i,eI x i,pU x,cB x i,oT x i):=by
 obtain ⟨r0,r1,-⟩:=F8 l h;obtain ⟨o,q2,q3⟩:=GN l;obtain ⟨n,o2,o3⟩:=U2 r0 r1;have c:=(F0 l h).2;unfold eI pU cB oT
 rcases o with f | f | f
 ·have d:(aA x==10)=false:=beq_eq_false_iff_ne.2 (fun j=>by have:=(q3 j).1; omega)
  unfold nT;rw [d,f];by_cases b:rI x i=0
  ·rw [b]
   rcases c with ⟨e,h1,-⟩ | ⟨e,-,a⟩
   ·have a:=I4 e
    rw [e,a];exact aGK h1 t
   ·rw [e,decide_eq_true a]
    exact aGM _ t
  ·have g:(rI x i==0)=false:=beq_eq_false_iff_ne.2 b
   unfold hY;rw [zE g,g,o2]
   rcases c with ⟨e,h1,-⟩ | ⟨e,-,a⟩
   ·have a:=I4 e
    rw [e,a];exact Q4 r0 (by omega) h1.1 t
   ·exact absurd (LL (q2 (by omega) a).2) b
 ·unfold hY
  rw [f];show eS (nT (aA x)++[bX 64 (bX (rI x i) 8)]++bS x i++t)=_;rw [n];by_cases h10:aA x=10
  ·have a:decide (255<x.2.2.1)=false:=decide_eq_false (by have:=(q3 h10).2; omega)
   unfold nT;rw [h10,a]
   rcases c with ⟨e,h1,-⟩ | ⟨e,-,hl2⟩
   ·rw [e]
    have k:rI x i=0\/rI x i=4:=by
     have m:0<=i.2.1/\i.2.1<16:=by
      rcases mB h with ⟨-,h2,-⟩ | ⟨-,h2,-⟩ <;> exact oB h2
     have:rI x i=aS 0 i.2.1 4:=by
      unfold rI;rw [h10]; rfl
     rw [this,jL m.1 m.2 (by omega) (by omega)];omega
    rcases k with b | b
    ·rw [b]; exact a3G h1.1 t
    ·rw [b]; exact a07 h1.1 t
   ·have:=(q3 h10).2
    omega
  ·have d:(aA x==10)=false:=beq_eq_false_iff_ne.2 h10
   unfold nT;rw [d]
   rcases c with ⟨e,h1,-⟩ | ⟨e,-,a⟩
   ·have a:=I4 e
    rw [e,a];exact Q4 (r:=8+rI x i) (by omega) (by omega) h1.1 t
   ·rw [e,decide_eq_true a]
    exact a05 (r:=8+rI x i) (by omega) (by omega) o3 t
 ·have d:(aA x==10)=false:=beq_eq_false_iff_ne.2 (fun j=>by have:=(q3 j).1; omega)
  unfold nT hY;rw [d,f];show eS ([]++[bX 64 (rI x i)]++bS x i++t)=_;rw [o2]
  rcases c with ⟨e,h1,-⟩ | ⟨e,-,a⟩
  ·have a:=I4 e
   rw [e,a];exact Q4 r0 (by omega) h1.1 t
  ·have:=(q2 (by omega) a).1
   omega
end Go.Amd

namespace Go.Amd
open Go Go.Ab Go.Proofs
theorem a1G:gA 8 (fun r=>aC r 8==0&&!(8+r==0))=true:=by kernel_rfl
theorem a5N {r:Int} (r0:0<=r) (a:r<8):(aC r 8==0)=true:=(ZA0.1 (fD a1G r0 a)).1
theorem a54 {x:RowT} (b:x ∈ aD) {i:aE} (h:okF x i.2.1 i.2.2.1 i.2.2.2.1 i.2.2.2.2.1=true):nK x (pU x) (cB x i) (oT x i)=true:=by
 obtain ⟨r0,r1,rg⟩:=F8 b h;obtain ⟨f,-,-⟩:=GN b;obtain ⟨-,-,o3⟩:=U2 r0 r1;have b8:=a5N r0 r1;unfold jV at rg;obtain ⟨d,g2⟩:=ZA0.1 rg
 have c:(aC (rI x i) (nB (aA x)) != 0)=false:=by unfold bne; rw [d]; rfl
 have e:(aC (8+rI x i) (nB (aA x)) != 0)=false:=by unfold bne; rw [g2]; rfl
 have e0:(!((aA x==10)==(aA x==10)))=false:=by cases (aA x==10) <;> rfl
 unfold nK pU cB oT;rw [e0,cond_false]
 rcases f with a | a | a
 ·rw [a]
  show cond (aC (rI x i) (nB (aA x)) != 0) false (cond (aC (rI x i) 8==0) (cond (!!(rI x i==0)) true (rI x i != 0)) false)=true;rw [c,b8];unfold bne;cases (rI x i==0) <;> rfl
 ·rw [a]
  show cond (aC (8+rI x i) (nB (aA x)) != 0) false (aC (8+rI x i) 8 != 0)=true;rw [e];exact o3
 ·rw [a]
  show cond (aC (rI x i) (nB (aA x)) != 0) false (aC (rI x i) 8==0)=true;rw [c];exact b8
theorem aHV {x:RowT} (a:x ∈ aD) {i:aE} (h:okF x i.2.1 i.2.2.1 i.2.2.2.1 i.2.2.2.2.1=true):x ∈ gR (cB x i) (bS x i) (pU x) (oT x i):=by
 refine List.mem_filter.2 ⟨a,?_⟩;unfold eE;rw [(F0 a h).1];exact a54 a h
theorem m8 {x:RowT} (a:x ∈ aD) {i:aE} (h:okF x i.2.1 i.2.2.1 i.2.2.2.1 i.2.2.2.2.1=true):0<=cB x i/\cB x i<16:=by
 obtain ⟨r0,r1,-⟩:=F8 a h;unfold cB;cases (x.2.1==1)
 ·exact ⟨r0,by rw [cond_false]; omega⟩
 ·exact ⟨by rw [cond_true]; omega,by rw [cond_true]; omega⟩
end Go.Amd
