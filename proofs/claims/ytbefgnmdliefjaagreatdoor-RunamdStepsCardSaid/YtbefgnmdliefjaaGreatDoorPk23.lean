/-
  A front of what is decoded is too short. Conditions: none.
-/
import Derived.Test.YtbefgnmdliefjaaGreatDoorPk22
import Derived.Test.YtbefgnmdliefjaaGreatDoorPk19
import Derived.Test.YtbefgnmdliefjaaGreatDoorPk10
open Go.Proofs.Tryz (prog)
open Bool renaming and_eq_true_iff→ZA0
open List renaming mem_cons_self→ZD1,mem_cons_of_mem→ZD2,length_cons→ZD3,length_append→ZE0,all_eq_true→ZE1,length_nil→ZE2,length_drop→ZF1
set_option linter.unusedVariables false
set_option linter.unusedSimpArgs false
namespace Go.Amd
open Go Go.Ab Go.Proofs
def fN (F:List Int->Int->aX):Prop:=∀ (t:List Int) (k:Int) (i:aE) (m:Int),F t k = .ok (i,m) -> ∃ u:Nat,m=k+u/\u<=t.length /\ ∀ j<u,∃ s,F (t.take j) k = .error (2,s)
theorem m7 (x:RowT) (i:aE):fN fun _ k=>bA x i k:=by
 intro t k b m h;have h:bA x i k = .ok (b,m):=h;unfold bA at h;cases a:(!(c8 x i==0))
 ·rw [a,cond_false] at h
  have c:=Prod.mk.inj (Except.ok.inj h);exact ⟨0,by omega,by omega,fun j d=>by omega⟩
 ·rw [a,cond_true] at h; cases h
theorem vF {b:Bool} {F:List Int->Int->aX} (h:fN F):fN fun t k=>fT b k (F t k):=by
 intro t k i m a;cases b
 ·cases a
 ·exact h t k i m a
theorem gY {b:Bool} {F G:List Int->Int->aX} (h:fN F) (g:fN G):fN fun t k=>cond b (F t k) (G t k):=by
 cases b
 ·exact g
 ·exact h
theorem mE {K:Int->List Int->Int->aX} (h:∀ c,fN (K c)):fN fun t k=>iJ t k K:=by
 intro t k i m a
 cases t with
 | nil=>cases a
 | cons c t =>
  obtain ⟨u,h1,h2,h3⟩:=h c t (k+1) i m a;refine ⟨u+1,by omega,by simp only [ZD3]; omega,fun j b=>?_⟩
  cases j with
  | zero=>exact ⟨k,rfl⟩
  | succ j=>exact h3 j (by omega)
theorem JR {K:Int->List Int->Int->aX} (h:∀ c,fN (K c)):fN fun t k=>kH t k K:=mE fun _=>h _
theorem BA {K:Int->List Int->Int->aX} (h:∀ c,fN (K c)):fN fun t k=>fW t k K:=mE fun _=>mE fun _=>mE fun _=>mE fun _=>h _
theorem aZV {K:Int->List Int->Int->aX} (h:∀ c,fN (K c)):fN fun t k=>qU t k K:=
 mE fun _=>mE fun _=>mE fun _=>mE fun _=>mE fun _=>mE fun _=>mE fun _=>mE fun _=>h _
theorem a1N (e:Int):fN fun _ k=>.error (e,k):=fun t k i m h=>by cases h
theorem R3 (c b:Int) {K:Int->List Int->Int->aX} (h:∀ c,fN (K c)):fN fun t k=>pT c b t k K:=
 gY (JR fun n=>gY (h n) (vF (h n))) (gY (BA fun n=>vF (h n)) (h 0))
theorem aDQ (R c e:Int) {K:j5} (h:∀ b a d n,fN (K b a d n)):fN fun t k=>nL R c e t k K:=
 gY (gY (vF (R3 _ _ fun n=>h _ _ _ n)) (a1N 22)) (R3 _ _ fun n=>h _ _ _ n)
theorem a0O (R c:Int) {K:j5} (h:∀ b a d n,fN (K b a d n)):fN fun t k=>HT R c t k K:=
 mE fun e=>gY (aDQ R c e h) (vF (aDQ R c e h))
theorem aF9 (R c:Int) {K:j5} (h:∀ b a d n,fN (K b a d n)):fN fun t k=>oO R c t k K:=
 gY (a0O R c h) (vF (R3 _ _ fun n=>h _ _ _ n))
theorem aVB (R c:Int) {K:j5} (h:∀ b a d n,fN (K b a d n)):fN fun t k=>nJ R c t k K:=
 gY (gY (vF (BA fun n=>h _ _ _ n)) (aF9 R c h)) (aF9 R c h)
theorem aEZ (f R:Int) (x:RowT) (a:List Int) (c d:Int):fN fun t k=>gP f R x a c t k d:=by
 unfold gP mR
 refine gY (m7 x _) (gY (m7 x _) (gY (aZV fun n=>m7 x _) (gY (m7 x _) (gY (BA fun n=>m7 x _) (gY (JR fun n=>m7 x _)
  (gY (gY (JR fun n=>m7 x _) (BA fun n=>vF (m7 x _))) (gY (m7 x _) (gY (m7 x _) (gY (aVB R c fun b g d n=>m7 x _)
  (gY (mE fun e=>vF (BA fun n=>m7 x _)) (gY (BA fun n=>m7 x _) (JR fun n=>m7 x _))))))))))))
theorem aF3 (R:Int) (x:RowT) (a:List Int) (c:Int):fN fun t k=>aY R x a c t k:=by
 unfold aY mR;exact gY (aEZ _ R x a c _) (aEZ _ R x a c 0)
def agJ (l a:List Int) (k:Int) (fs:Bool) (R:Int) (has:Bool):Prop:=
 (∃ t,l=a++t/\k=(a.length:Int)/\fs=false/\R=0/\has=false/\((∃ c,a=[c]/\OR c)\/(∃ d,a=[15,d]))) \/
 (∃ r t,l=r :: a++t/\k=(a.length:Int)+1/\fs=false/\(r==100)=false/\(jG r==4)=true/\R=aC r 15/\has=true/\((∃ c,a=[c]/\(c==15)=false)\/(∃ d,a=[15,d]/\(aC R 8 != 0)=true))) \/
 (∃ r c t,l=100 :: r :: c :: t/\a=[c]/\k=3/\fs=true/\(aC r 251==72)=true/\(jG r==4)=true/\R=aC r 15/\has=true/\(c==15)=false)
theorem aKC:gA 256 (fun r=>cond (aC r 251==72) (jG r==4&&(aC r 15==8 || aC r 15==12)) true)=true:=by kernel_rfl
theorem UT {a b:Int} (h:(a != b)=true):(a==b)=false:=by
 unfold bne at h;cases hb:(a==b)
 ·rfl
 ·rw [hb] at h; cases h
theorem LO {a b:Int} (h:(a != b)=false):a=b:=by
 unfold bne at h;cases hb:(a==b)
 ·rw [hb] at h; cases h
 ·exact eq_of_beq hb
theorem VS {l n:List Int} {k:Int} {fs:Bool} {R:Int} {has:Bool} (u:bE l) (h:eS l = .ok (n,k,fs,R,has)):agJ l n k fs R has:=by
 have ok:∀ {o:List Int} {j:Int} {f:Bool} {r:Int} {b:Bool},(Except.ok (o,j,f,r,b):uW) = .ok (n,k,fs,R,has)->o=n/\j=k/\f=fs/\r=R/\b=has:=by
  intro o j f r b h;cases h;exact ⟨rfl,rfl,rfl,rfl,rfl⟩
 cases l with
 | nil=>cases h
 | cons c t =>
  unfold eS iU at h;simp only at h;cases m:(c==100)
  ·rw [m,cond_false] at h
   cases i:(jG c==4)
   ·rw [i,cond_false] at h
    cases a:(c != 15)
    ·rw [a,cond_false] at h
     cases t with
     | nil=>cases h
     | cons d t =>
      obtain ⟨rfl,rfl,rfl,rfl,rfl⟩:=ok h;have:=LO a;subst this;exact .inl ⟨t,rfl,rfl,rfl,rfl,rfl,.inr ⟨d,rfl⟩⟩
    ·rw [a,cond_true] at h
     obtain ⟨rfl,rfl,rfl,rfl,rfl⟩:=ok h;exact .inl ⟨t,rfl,rfl,rfl,rfl,rfl,.inl ⟨c,rfl,UT a,m,i⟩⟩
   ·rw [i,cond_true] at h
    cases t with
    | nil=>cases h
    | cons d t =>
     simp only at h;unfold lY at h;cases a:(d != 15)
     ·rw [a,cond_false] at h
      cases p:(!(aC (aC c 15) 8 != 0))
      ·rw [p,cond_false] at h
       cases t with
       | nil=>cases h
       | cons e t =>
        obtain ⟨rfl,rfl,rfl,rfl,rfl⟩:=ok h;have:=LO a;subst this;exact .inr (.inl ⟨c,t,rfl,rfl,rfl,m,i,rfl,rfl,.inr ⟨e,rfl,by simpa using p⟩⟩)
      ·rw [p] at h; cases h
     ·rw [a,cond_true] at h
      obtain ⟨rfl,rfl,rfl,rfl,rfl⟩:=ok h;exact .inr (.inl ⟨c,t,rfl,rfl,rfl,m,i,rfl,rfl,.inl ⟨d,rfl,UT a⟩⟩)
  ·rw [m,cond_true] at h
   have s:=eq_of_beq m;subst s
   cases t with
   | nil=>cases h
   | cons d t =>
    simp only at h;unfold uC at h;cases g:(!(aC d 251==72))
    ·rw [g,cond_false] at h
     have g:(aC d 251==72)=true:=by simpa using g
     have q:aV d:=u d (ZD2 _ ZD1)
     have i:(jG d==4)=true:=by
      have:=fD aKC q.1 q.2;rw [g,cond_true] at this;exact (ZA0.1 this).1
     rw [i,cond_true] at h
     cases t with
     | nil=>cases h
     | cons e t =>
      simp only at h;cases a:(e != 15)
      ·rw [a] at h; cases h
      ·rw [a,cond_true] at h
       obtain ⟨rfl,rfl,rfl,rfl,rfl⟩:=ok h;exact .inr (.inr ⟨d,e,t,rfl,rfl,rfl,rfl,g,i,rfl,rfl,UT a⟩)
    ·rw [g] at h; cases h
theorem a3V {l b:List Int} {k:Int} {fs:Bool} {R:Int} {has:Bool} (e:bE l) (h:eS l = .ok (b,k,fs,R,has)) (j:Nat) :
  (((j:Int)<k) -> ∃ s,eS (l.take j) = .error (2,s))/\(k<=(j:Int)->eS (l.take j) = .ok (b,k,fs,R,has)):=by
 rcases VS e h with ⟨t,rfl,rfl,rfl,rfl,rfl,⟨c,rfl,h1,h2,h3⟩ | ⟨d,rfl⟩⟩ | ⟨r,t,rfl,rfl,rfl,h100,h4,rfl,rfl,⟨c,rfl,h1⟩ | ⟨d,rfl,h8⟩⟩ | ⟨r,c,t,rfl,rfl,rfl,rfl,h48,h4,rfl,rfl,h15⟩
 ·match j with
  | 0=>exact ⟨fun _=>⟨_,rfl⟩,fun a=>absurd a (by simp only [ZD3,ZE2]; omega)⟩
  | j+1=>exact ⟨fun a=>absurd a (by simp only [ZD3,ZE2]; omega),fun _=>aGK ⟨h1,h2,h3⟩ _⟩
 ·match j with
  | 0=>exact ⟨fun _=>⟨_,rfl⟩,fun a=>absurd a (by simp only [ZD3,ZE2]; omega)⟩
  | 1=>exact ⟨fun _=>⟨_,rfl⟩,fun a=>absurd a (by simp only [ZD3,ZE2]; omega)⟩
  | j+2=>exact ⟨fun a=>absurd a (by simp only [ZD3,ZE2]; omega),fun _=>aGM d _⟩
 ·match j with
  | 0=>exact ⟨fun _=>⟨_,rfl⟩,fun a=>absurd a (by simp only [ZD3,ZE2]; omega)⟩
  | 1 =>
   refine ⟨fun _=>?_,fun a=>absurd a (by simp only [ZD3,ZE2]; omega)⟩;show ∃ s,iU r []=_;unfold iU;rw [h100,h4];exact ⟨_,rfl⟩
  | j+2 =>
   refine ⟨fun a=>absurd a (by simp only [ZD3,ZE2]; omega),fun _=>?_⟩;show iU r (c :: t.take j)=_;unfold iU;rw [h100,h4,cond_false,cond_true];show lY (aC r 15) c _=_;unfold lY;rw [zE h1];rfl
 ·match j with
  | 0=>exact ⟨fun _=>⟨_,rfl⟩,fun a=>absurd a (by simp only [ZD3,ZE2]; omega)⟩
  | 1 =>
   refine ⟨fun _=>?_,fun a=>absurd a (by simp only [ZD3,ZE2]; omega)⟩;show ∃ s,iU r []=_;unfold iU;rw [h100,h4];exact ⟨_,rfl⟩
  | 2 =>
   refine ⟨fun _=>?_,fun a=>absurd a (by simp only [ZD3,ZE2]; omega)⟩;show ∃ s,iU r [15]=_;unfold iU;rw [h100,h4,cond_false,cond_true];show ∃ s,lY (aC r 15) 15 []=_;unfold lY;rw [h8];exact ⟨_,rfl⟩
  | j+3 =>
   refine ⟨fun a=>absurd a (by simp only [ZD3,ZE2]; omega),fun _=>?_⟩;show iU r (15 :: d :: t.take j)=_;unfold iU;rw [h100,h4,cond_false,cond_true];show lY (aC r 15) 15 (d :: _)=_;unfold lY;rw [h8];rfl
 ·match j with
  | 0=>exact ⟨fun _=>⟨_,rfl⟩,fun a=>absurd a (by omega)⟩
  | 1=>exact ⟨fun _=>⟨_,rfl⟩,fun a=>absurd a (by omega)⟩
  | 2 =>
   refine ⟨fun _=>?_,fun a=>absurd a (by omega)⟩;show ∃ s,uC r []=_;unfold uC;rw [h48,h4];exact ⟨_,rfl⟩
  | j+3 =>
   refine ⟨fun a=>absurd a (by omega),fun _=>?_⟩;show uC r (c :: t.take j)=_;unfold uC;rw [h48,h4];show cond (c != 15) _ _=_;rw [zE h15];rfl
theorem a1X:gA 256 (fun r=>cond (jG r==4) (r==64+aC r 15&&(decide (0<=aC r 15)&&decide (aC r 15<16))) true)=true:=by kernel_rfl
theorem TY {r:Int} (a:aV r) (h:(jG r==4)=true):r=64+aC r 15/\0<=aC r 15/\aC r 15<16:=by
 have:=fD a1X a.1 a.2;rw [h,cond_true] at this;simp only [Bool.and_eq_true,beq_iff_eq,decide_eq_true_eq] at this;exact this
theorem EV {l g:List Int} {k:Int} {fs:Bool} {R:Int} {has:Bool} (a:bE l) (h:eS l = .ok (g,k,fs,R,has)) :
  uT g/\(0<=R/\R<16)/\(has=false->R=0)/\(fs=true->has=true/\(R=8\/R=12))/\0<=k/\l=(cond fs [100] []++cond has [64+R] []++g)++l.drop k.toNat/\k=((cond fs [100] []++cond has [64+R] []++g).length:Int):=by
 have b:∀ {c:Int} {t:List Int},bE (c :: t)->aV c:=fun h=>h _ ZD1;have f:∀ {c:Int} {t:List Int},bE (c :: t)->bE t:=fun h d j=>h d (ZD2 _ j)
 rcases VS a h with ⟨t,rfl,rfl,rfl,rfl,rfl,⟨c,rfl,h1,h2,h3⟩ | ⟨d,rfl⟩⟩ | ⟨r,t,rfl,rfl,rfl,h100,h4,rfl,rfl,⟨c,rfl,h1⟩ | ⟨d,rfl,h8⟩⟩ | ⟨r,c,t,rfl,rfl,rfl,rfl,h48,h4,rfl,rfl,h15⟩
 ·exact ⟨.inl ⟨c,b a,rfl⟩,by decide,fun _=>rfl,(fun h=>by cases h),by simp only [ZD3,ZE2]; omega,rfl,rfl⟩
 ·exact ⟨.inr ⟨d,b (f a),rfl⟩,by decide,fun _=>rfl,(fun h=>by cases h),by simp only [ZD3,ZE2]; omega,rfl,rfl⟩
 ·obtain ⟨e,e0,e1⟩:=TY (b a) h4
  refine ⟨.inl ⟨c,b (f a),rfl⟩,⟨e0,e1⟩,(fun h=>by cases h),(fun h=>by cases h),by simp only [ZD3,ZE2]; omega,?_,rfl⟩;rw [<- e]; rfl
 ·obtain ⟨e,e0,e1⟩:=TY (b a) h4
  refine ⟨.inr ⟨d,b (f (f a)),rfl⟩,⟨e0,e1⟩,(fun h=>by cases h),(fun h=>by cases h),by simp only [ZD3,ZE2]; omega,?_,rfl⟩;rw [<- e]; rfl
 ·obtain ⟨e,e0,e1⟩:=TY (b (f a)) h4
  have i:aC r 15=8\/aC r 15=12:=by
   have:=fD aKC (b (f a)).1 (b (f a)).2;rw [h48,cond_true] at this;simpa using (ZA0.1 this).2
  refine ⟨.inl ⟨c,b (f (f a)),rfl⟩,⟨e0,e1⟩,(fun h=>by cases h),fun _=>⟨rfl,i⟩,by decide,?_,rfl⟩;rw [<- e]; rfl
theorem aE1 {r:aX} {p:aE × Int} (h:pE r = .ok p):r = .ok p:=by
 cases r with
 | ok q=>exact congrArg Except.ok (Except.ok.inj h)
 | error q=>cases h
theorem QR {l:List Int} (q:bE l) {i:aE} {n:Int} (h:dH l = .ok (i,n)):∃ d k fs R has,eS l = .ok (d,k,fs,R,has) /\ ∃ x,x ∈ gR R d fs has /\
  ((eD (aA x)=false/\aY R x d 0 (l.drop k.toNat) k = .ok (i,n))\/(eD (aA x)=true /\ ∃ c t,l.drop k.toNat=c :: t/\cR c x=true/\aY R x d c t (k+1) = .ok (i,n))):=by
 unfold dH at h
 cases m:eS l with
 | error p=>rw [m] at h; cases h
 | ok p =>
  obtain ⟨d,k,fs,R,has⟩:=p;rw [m] at h;simp only at h;refine ⟨d,k,fs,R,has,rfl,?_⟩
  cases j:gR R d fs has with
  | nil=>rw [j] at h; cases h
  | cons r0 G =>
   rw [j] at h;simp only at h
   have b:∀ y ∈ r0 :: G,y ∈ gR R d fs has:=fun y r=>by rw [j]; exact r
   cases f:eD (aA r0)
   ·rw [f,cond_false] at h
    exact ⟨r0,ZD1,.inl ⟨f,aE1 h⟩⟩
   ·rw [f,cond_true] at h
    cases o:l.drop k.toNat with
    | nil=>rw [o] at h; cases h
    | cons c t =>
     rw [o] at h;unfold xC at h;simp only at h
     cases g:(r0 :: G).find? (cR c) with
     | none=>rw [g] at h; cases h
     | some x =>
      rw [g] at h
      have e:cR c x=true:=by
       have:=List.find?_some g;exact this
      have a:=List.mem_of_find?_eq_some g;refine ⟨x,a,.inr ⟨?_,c,t,rfl,e,aE1 h⟩⟩;obtain ⟨s,s2,-⟩:=EV q m;by_cases hne:r0=x
      ·rw [<- hne]; exact f
      ·exact (aCJ s s2.1 s2.2 (b r0 ZD1) (b x a) hne).2.1
theorem aFS {b:List Int} {fs has:Bool} {R:Int} {x:RowT} (h:x ∈ gR R b fs has):x ∈ aD/\fE x b=true/\nK x fs R has=true:=by
 obtain ⟨d,a⟩:=List.mem_filter.1 h;unfold eE at a;cases c:fE x b
 ·rw [c] at a; cases a
 ·rw [c] at a; exact ⟨d,rfl,a⟩
theorem aY0 {l:List Int} (o:bE l) {i:aE} {n:Int} (h:dH l = .ok (i,n)):0<=n/\n<=(l.length:Int) /\ ∀ j:Nat,(j:Int)<n->dH (l.take j) = .error 2:=by
 obtain ⟨f,k,fs,R,has,ho,x,hx,d⟩:=QR o h;obtain ⟨w,s2,-,-,k0,e1,e2⟩:=EV o ho
 have y:k<=(l.length:Int):=by
  rw [e1,ZE0];omega
 have r:((l.drop k.toNat).length:Int)=(l.length:Int) - k:=by rw [ZF1]; omega
 have p:=a3V o ho
 have early:∀ j:Nat,(j:Int)<k->dH (l.take j) = .error 2:=by
  intro j m;obtain ⟨s,hs⟩:=(p j).1 m;unfold dH;rw [hs]
 have a:=P7 w s2.1 s2.2 hx
 rcases d with ⟨g,d⟩ | ⟨g,c,t,hd,hf,d⟩
 ·obtain ⟨u,h1,h2,h3⟩:=aF3 R x f 0 _ _ _ _ d
  refine ⟨by omega,by omega,fun j m=>?_⟩;by_cases hjk:(j:Int)<k
  ·exact early j hjk
  obtain ⟨s,hs⟩:=h3 (j - k.toNat) (by omega)
  have b:∃ G,gR R f fs has=x :: G:=by
   rcases a.1 g with e | ⟨G,e,-⟩
   ·exact ⟨[],e⟩
   ·exact ⟨G,e⟩
  obtain ⟨G,b⟩:=b;unfold dH;rw [(p j).2 (by omega)];simp only;rw [b];simp only;rw [g,cond_false,List.drop_take,show aY R x f 0 (List.take (j - k.toNat) (List.drop k.toNat l)) k = .error (2,s) from hs];rfl
 ·obtain ⟨u,h1,h2,h3⟩:=aF3 R x f c _ _ _ _ d
  have q:((l.drop k.toNat).length:Int)=(t.length:Int)+1:=by rw [hd,ZD3]; omega
  refine ⟨by omega,by omega,fun j m=>?_⟩;by_cases hjk:(j:Int)<k
  ·exact early j hjk
  obtain ⟨r0,G,b,hm0,hG⟩:=a.2 g;have v:=hG c hf;unfold dH;rw [(p j).2 (by omega)];simp only;rw [b];simp only;rw [hm0,cond_true,List.drop_take,hd];by_cases hj0:j - k.toNat=0
  ·rw [hj0]; rfl
  ·obtain ⟨s,hs⟩:=h3 (j - k.toNat - 1) (by omega)
   rw [show j - k.toNat=(j - k.toNat - 1)+1 by omega,List.take_succ_cons];unfold xC;simp only;rw [v];simp only;rw [show aY R x f c (List.take (j - k.toNat - 1) t) (k+1) = .error (2,s) from hs];rfl
end Go.Amd

namespace Go.Amd
open Go Go.Ab Go.Proofs
theorem mF {t:List Int} {k:Int} {K:Int->List Int->Int->aX} {p:aE × Int} (h:iJ t k K = .ok p):∃ c t',t=c :: t' /\ K c t' (k+1) = .ok p:=by
 cases t with
 | nil=>cases h
 | cons c t=>exact ⟨c,t,rfl,h⟩
theorem tG {b:Bool} {k:Int} {r:aX} {p:aE × Int} (h:fT b k r = .ok p):b=true/\r = .ok p:=by
 cases b
 ·cases h
 ·exact ⟨rfl,h⟩
theorem nE {x:RowT} {i c : aE} {k m:Int} (h:bA x i k = .ok (c,m)):c = i/\m=k/\c8 x i=0:=by
 unfold bA at h;cases a:(!(c8 x i==0))
 ·rw [a,cond_false] at h
  have b:=Prod.mk.inj (Except.ok.inj h);refine ⟨b.1.symm,b.2.symm,by simpa using a⟩
 ·rw [a,cond_true] at h; cases h
theorem lH {c:Int} {t:List Int} (h:bE (c :: t)):aV c/\bE t:=⟨h _ ZD1,fun d a=>h d (ZD2 _ a)⟩
theorem J0 {t:List Int} (b:bE t) {k:Int} {K:Int->List Int->Int->aX} {p:aE × Int} (h:kH t k K = .ok p) :
  ∃ n rest,t=dR n++rest/\bE rest/\(-128<=n/\n<128)/\K n rest (k+1) = .ok p:=by
 obtain ⟨a,t,rfl,h⟩:=mF h;obtain ⟨c,b⟩:=lH b;refine ⟨oM a,t,by rw [a9R c]; rfl,b,?_,h⟩;rw [KQ c];omega
theorem BL {t:List Int} (i:bE t) {k:Int} {K:Int->List Int->Int->aX} {p:aE × Int} (h:fW t k K = .ok p) :
  ∃ n rest,t=bV n++rest/\bE rest/\(-2147483648<=n/\n<2147483648)/\K n rest (k+4) = .ok p:=by
 obtain ⟨a,t0,e0,g0⟩:=mF h;subst e0;obtain ⟨e,ht0⟩:=lH i;obtain ⟨b,t1,e1,g1⟩:=mF g0;subst e1;obtain ⟨hb,ht1⟩:=lH ht0;obtain ⟨c,t2,e2,g2⟩:=mF g1;subst e2;obtain ⟨f,ht2⟩:=lH ht1;obtain ⟨d,t3,e3,g3⟩:=mF g2;subst e3;obtain ⟨g,ht3⟩:=lH ht2;rw [show k+1+1+1+1=k+4 by omega] at g3;refine ⟨pO a b c d,t3,by rw [a8M e hb f g]; rfl,ht3,?_,g3⟩;rw [LA e hb f g];omega
theorem a27 {t:List Int} (u:bE t) {k:Int} {K:Int->List Int->Int->aX} {p:aE × Int} (h:qU t k K = .ok p) :
  ∃ n rest,t=qF n++rest/\bE rest/\K n rest (k+8) = .ok p:=by
 obtain ⟨a,t0,e0,g0⟩:=mF h;subst e0;obtain ⟨l,ht0⟩:=lH u;obtain ⟨b,t1,e1,g1⟩:=mF g0;subst e1;obtain ⟨hb,ht1⟩:=lH ht0;obtain ⟨c,t2,e2,g2⟩:=mF g1;subst e2;obtain ⟨m,ht2⟩:=lH ht1;obtain ⟨d,t3,e3,g3⟩:=mF g2;subst e3;obtain ⟨o,ht3⟩:=lH ht2;obtain ⟨e,t4,e4,g4⟩:=mF g3;subst e4;obtain ⟨q,ht4⟩:=lH ht3;obtain ⟨f,t5,e5,g5⟩:=mF g4;subst e5;obtain ⟨r,ht5⟩:=lH ht4;obtain ⟨g,t6,e6,g6⟩:=mF g5;subst e6;obtain ⟨i,ht6⟩:=lH ht5;obtain ⟨j,t7,e7,g7⟩:=mF g6
 subst e7;obtain ⟨s,ht7⟩:=lH ht6;rw [show k+1+1+1+1+1+1+1+1=k+8 by omega] at g7;exact ⟨pK a b c d e f g j,t7,by rw [a61 l hb m o q r i s]; rfl,ht7,g7⟩
theorem aXL:gA 16 (fun R=>R % 8==4*(R / 4 % 2)+2*(R / 2 % 2)+R % 2)=true:=by kernel_rfl
theorem aNP {R:Int} (r0:0<=R) (a:R<16):R % 8=4*(R / 4 % 2)+2*(R / 2 % 2)+R % 2:=eq_of_beq (fD aXL r0 a)
theorem Q7 {a b c d n mod:Int} {f:List Int} (j:0<=b) (k:b<16) (h:CD b n mod f):dJ a b c d n=gU mod a b c d f:=by
 have hb:(b==17)=false:=beq_eq_false_iff_ne.2 (by omega);unfold dJ;rw [hb,cond_false,pL j k]
 rcases h with ⟨rfl,rfl,rfl,h5⟩ | ⟨rfl,rfl,hr,h5⟩ | ⟨rfl,rfl,i⟩
 ·have e:(b % 8 != 5)=true:=by simpa using h5
  rw [e];rfl
 ·have e:cond (n==0) (b % 8 != 5) false=false:=by
   cases g:(n==0)
   ·rfl
   ·rw [cond_true,h5 (eq_of_beq g)]
    rfl
  rw [e,cond_false,(JT n).2 hr,cond_true]
 ·have e:(n==0)=false:=by
   cases g:(n==0)
   ·rfl
   ·rw [eq_of_beq g] at i; cases i
  rw [e,cond_false,cond_false,i,cond_false]
theorem SD {b c:Int} (j:0<=b) (l:b<16) (g:aV c) (q:bB c ≠ 3) (f:bB c=0->b % 8 ≠ 5) {t:List Int} (i:bE t) {k:Int} {K:Int->List Int->Int->aX} {p:aE × Int} (h:pT c b t k K = .ok p) :
  ∃ n a rest,t=a++rest/\bE rest/\CD b n (bB c) a/\K n rest (k+(a.length:Int)) = .ok p:=by
 have r:=(kF g.1 g.2).1;obtain ⟨o,c1⟩:=g;unfold pT at h;by_cases e1:bB c=1
 ·rw [e1,show ((1:Int)==1)=true from rfl,cond_true] at h
  obtain ⟨n,rest,e,hr,hn,h⟩:=J0 i h;refine ⟨n,dR n,rest,e,hr,.inr (.inl ⟨e1,rfl,hn,fun d=>?_⟩),?_⟩
  ·have e0:(n != 0)=false:=by rw [d]; rfl
   rw [e0,cond_false] at h;have:=(tG h).1;rw [pL j l] at this;exact eq_of_beq this
  ·cases d:(n != 0)
   ·rw [d,cond_false] at h; exact (tG h).2
   ·rw [d,cond_true] at h; exact h
 ·rw [beq_eq_false_iff_ne.2 e1,cond_false] at h
  by_cases e2:bB c=2
  ·rw [e2,show ((2:Int)==2)=true from rfl,cond_true] at h
   obtain ⟨n,rest,e,hr,hn,h⟩:=BL i h;obtain ⟨m,q2⟩:=tG h;exact ⟨n,bV n,rest,e,hr,.inr (.inr ⟨e2,rfl,by simpa using m⟩),q2⟩
  ·rw [beq_eq_false_iff_ne.2 e2,cond_false] at h
   have e0:bB c=0:=by omega
   refine ⟨0,[],t,rfl,i,.inl ⟨e0,rfl,rfl,f e0⟩,?_⟩;show K 0 t (k+0)=_;rw [Int.add_zero];exact h
theorem aZ2 {R c:Int} (r0:0<=R) (z:R<16) (E:aV c) (I:bB c ≠ 3) {t:List Int} (B:bE t) {k:Int} {K:j5} {p:aE × Int} (h:nJ R c t k K = .ok p) :
  ∃ b C d n used rest,t=used++rest/\dJ (cC c R) b C d n=(R % 8,c :: used)/\K b C d n rest (k+(used.length:Int)) = .ok p:=by
 have N:=kF E.1 E.2;have s:=yR E.1 E.2 r0 z;obtain ⟨F,c1⟩:=E
 have l:0<=cC c R:=by rw [s]; omega
 have o:cC c R<16:=by rw [s]; omega
 generalize cC c R=a at *
 have base:(bB c=0->kR c ≠ 5)->oO R c t k K = .ok p -> ∃ b C d n used rest,t=used++rest/\dJ a b C d n=(R % 8,c :: used)/\K b C d n rest (k+(used.length:Int)) = .ok p:=by
  clear h
  intro S h;unfold oO at h;by_cases e4:kR c=4
  ·rw [e4,show ((4:Int)==4)=true from rfl,cond_true] at h
   unfold HT at h;have P:=mF h
   clear h
   obtain ⟨e,t,rfl,h⟩:=P;obtain ⟨w,B⟩:=lH B;have M:=FO w.1 w.2 r0 z;have O:=aJ1 w.1 w.2 r0 z;have J:=(kF w.1 w.2).1;obtain ⟨e0,e1⟩:=w
   have g:0<=aU e R:=by rw [M]; omega
   have i:aU e R<16:=by rw [M]; omega
   have key:(bB c=0->aU e R % 8 ≠ 5)/\nL R c e t (k+1) K = .ok p:=by
    by_cases e0:bB c=0
    ·rw [e0] at h
     obtain ⟨j,q2⟩:=tG (h:fT (cO (aU e R) 7 != 5) (k+1) (nL R c e t (k+1) K) = .ok p);rw [pL g i] at j;exact ⟨fun _=>by simpa using j,q2⟩
    ·have:(bB c != 0)=true:=by simpa using e0
     rw [this,cond_true] at h;exact ⟨fun h=>absurd h e0,h⟩
   obtain ⟨D,h⟩:=key;unfold nL at h;by_cases ei:cD e R=4
   ·rw [ei,show ((4:Int)==4)=true from rfl,cond_true] at h
    by_cases em:bB e=0
    ·rw [em,show ((0:Int)==0)=true from rfl,cond_true] at h
     obtain ⟨j,q2⟩:=tG h;rw [pL g i] at j;have j:=eq_of_beq j;obtain ⟨n,f,rest,f1,f2,f3,f4⟩:=SD g i ⟨F,c1⟩ I D B q2;refine ⟨aU e R,16,0,n,e :: f,rest,by rw [f1]; rfl,?_,?_⟩
     ·rw [Q7 g i f3]
      have x:=kG (m:=bB c) (by omega) (by omega) l o (show (0:Int)<=4 by omega) (show (4:Int)<16 by omega);have L:=kG (m:=0) (by omega) (by omega) (show (0:Int)<=4 by omega) (show (4:Int)<16 by omega) g i;have y:=yT l o (show (0:Int)<=4 by omega) (show (4:Int)<16 by omega) g i
      have u:aG (bB c) a 4=c:=by rw [x]; omega
      have H:aG 0 4 (aU e R)=e:=by rw [L]; omega
      have v:jE (aS 0 a 4) 4 (aU e R)=R % 8:=by rw [y]; omega
      unfold gU;rw [pL g i,j];show (jE (aS 0 a 4) 4 (aU e R),[aG (bB c) a 4]++[aG 0 4 (aU e R)]++f)=_;rw [u,H,v];rfl
     ·rw [show k+((e :: f).length:Int)=k+1+(f.length:Int) by simp only [ZD3]; omega]
      exact f4
    ·rw [beq_eq_false_iff_ne.2 em,cond_false] at h; cases h
   ·rw [beq_eq_false_iff_ne.2 ei,cond_false] at h
    obtain ⟨n,f,rest,f1,f2,f3,f4⟩:=SD g i ⟨F,c1⟩ I D B h
    have q:0<=cD e R:=by rw [O]; omega
    have r:cD e R<16:=by rw [O]; omega
    refine ⟨aU e R,cD e R,rA e,n,e :: f,rest,by rw [f1]; rfl,?_,?_⟩
    ·rw [Q7 g i f3]
     have T:tR (rA e)=bB e:=by
      have:=fD aHP e0 e1
      have A:e / 64=0\/e / 64=1\/e / 64=2\/e / 64=3:=by omega
      rw [J]
      rcases A with A | A | A | A <;> rw [A] at this ⊢ <;> rw [eq_of_beq (this:(rA e==_)=true)] <;> rfl
     have x:=kG (m:=bB c) (by omega) (by omega) l o (show (0:Int)<=4 by omega) (show (4:Int)<16 by omega);have L:=kG (m:=bB e) (by omega) (by omega) q r g i;have y:=yT l o q r g i
     have U:a / 8=R / 4 % 2:=by omega
     have V:cD e R / 8=R / 2 % 2:=by omega
     have W:aU e R / 8=R % 2:=by omega
     have u:aG (bB c) a 4=c:=by rw [x]; omega
     have H:aG (bB e) (cD e R) (aU e R)=e:=by rw [L,show cD e R % 8=e / 8 % 8 by omega,show aU e R % 8=e % 8 by omega]; omega
     have v:jE (aS 0 a 4) (cD e R) (aU e R)=R % 8:=by rw [y,U,V,W,aNP r0 z]
     have G:(cD e R==16)=false:=beq_eq_false_iff_ne.2 (by omega);unfold gU;rw [G,T];show (jE (aS 0 a 4) (cD e R) (aU e R),[aG (bB c) a 4]++[aG (bB e) (cD e R) (aU e R)]++f)=_;rw [u,H,v];rfl
    ·rw [show k+((e :: f).length:Int)=k+1+(f.length:Int) by simp only [ZD3]; omega]
     exact f4
  ·rw [beq_eq_false_iff_ne.2 e4,cond_false] at h
   obtain ⟨j,q2⟩:=tG h;rw [(NN r0 z).2] at j;have j:=eq_of_beq j
   have hb:wi (kR c+cH R 1)=c % 8+8*(R % 2):=by
    rw [N.2.2.2,(tQ r0 z).2.2,KM (by omega) (by omega)]
   have g:0<=c % 8+8*(R % 2):=by omega
   have i:c % 8+8*(R % 2)<16:=by omega
   rw [hb] at q2;obtain ⟨n,f,rest,f1,f2,f3,f4⟩:=SD g i ⟨F,c1⟩ I (fun e0=>by have:=S e0; omega) B q2;refine ⟨_,16,0,n,f,rest,f1,?_,f4⟩;rw [Q7 g i f3];have x:=kG (m:=bB c) (by omega) (by omega) l o g i;have y:=jL l o g i
   have u:aG (bB c) a (c % 8+8*(R % 2))=c:=by rw [x]; omega
   have v:aS 0 a (c % 8+8*(R % 2))=R % 8:=by rw [y]; omega
   have Q:((c % 8+8*(R % 2)) % 8 != 4)=true:=by
    rw [N.2.2.2] at e4;simpa using (show (c % 8+8*(R % 2)) % 8 ≠ 4 by omega)
   unfold gU;rw [pL g i,Q];show (aS 0 a _,[aG (bB c) a _]++f)=_;rw [u,v];rfl
 unfold nJ at h;by_cases em:bB c=0
 ·rw [em,show ((0:Int)==0)=true from rfl,cond_true] at h
  by_cases e5:kR c=5
  ·rw [e5,show ((5:Int)==5)=true from rfl,cond_true] at h
   obtain ⟨j,q2⟩:=tG h;rw [(NN r0 z).1] at j;have j:=eq_of_beq j;obtain ⟨n,rest,f1,f2,f3,f4⟩:=BL B q2;refine ⟨17,16,0,n,bV n,rest,f1,?_,f4⟩;have x:=kG (m:=0) (by omega) (by omega) l o (show (0:Int)<=5 by omega) (show (5:Int)<16 by omega);have y:=jL l o (show (0:Int)<=5 by omega) (show (5:Int)<16 by omega)
   have u:aG 0 a 5=c:=by rw [x]; omega
   have v:aS 0 a 5=R % 8:=by rw [y]; omega
   show (aS 0 a 5,[aG 0 a 5]++bV n)=_;rw [u,v];rfl
  ·rw [beq_eq_false_iff_ne.2 e5,cond_false] at h
   exact base (fun _=>e5) h
 ·rw [beq_eq_false_iff_ne.2 em,cond_false] at h
  exact base (fun e=>absurd e em) h
end Go.Amd

namespace Go.Amd
open Go Go.Ab Go.Proofs
def cU (x:RowT) (op:List Int):Int:=wi (w8 (XP op - w8 x.2.2.1))
def CQ (x:RowT) (op:List Int) (h:Int):Bool:=
 bY x.2.2.1++[lQ (aA x) (bI x) (w8 x.2.2.1) (cU x op+8*h) (cond (bI x) (cU x op) 0) (op.getD 0 0==131)]==op &&
  cond (aA x==1 || aA x==2) (decide (0<=cU x op)&&decide (cU x op<8)) true
def CU (x:RowT) (op:List Int):Bool:=cond (fE x op) (CQ x op 0&&CQ x op 1) true
theorem aWL:aD.all (fun x=>oW 16 16 fun a b=>CU x [16*a+b]&&CU x [15,16*a+b])=true:=by kernel_rfl
theorem aFT {x:RowT} (hx:x ∈ aD) {c:Int} (d:aV c):CU x [c]=true/\CU x [15,c]=true:=by
 obtain ⟨e,c1⟩:=d;have:=oA (ZE1.1 aWL x hx) (a:=c / 16) (b:=c % 16) (by omega) (by omega) (by omega) (by omega);rw [show 16*(c / 16)+c % 16=c by omega] at this;exact ZA0.1 this
theorem aJA {f:Int} (e:f ≠ 1) (g:f ≠ 2) (c:Bool) (l a b d:Int) (ft:Bool):lQ f c l a d ft=lQ f c l b d ft:=by
 unfold lQ;rw [beq_eq_false_iff_ne.2 e,beq_eq_false_iff_ne.2 g];simp only [cond_false]
theorem a9B {f:Int} (e:f ≠ 6) (b:Bool) (l a d:Int) (ft c:Bool):lQ f b l a d ft=lQ f b l a d c:=by
 unfold lQ;rw [beq_eq_false_iff_ne.2 e];rfl
theorem RD {x:RowT} (hx:x ∈ aD) {op:List Int} (hb:uT op) (ho:fE x op=true) {h:Int} (a:h=0\/h=1):CQ x op h=true:=by
 have key:CU x op=true:=by
  rcases hb with ⟨c,hc,rfl⟩ | ⟨c,hc,rfl⟩
  ·exact (aFT hx hc).1
  ·exact (aFT hx hc).2
 unfold CU at key;rw [ho,cond_true] at key;obtain ⟨b,k1⟩:=ZA0.1 key
 rcases a with rfl | rfl
 ·exact b
 ·exact k1
theorem a1F {x:RowT} (hx:x ∈ aD) {op:List Int} (hb:uT op) (ho:fE x op=true) (a:aA x=1\/aA x=2):0<=cU x op/\cU x op<8:=by
 have:=RD hx hb ho (h:=0) (.inl rfl);unfold CQ at this
 have e:(aA x==1 || aA x==2)=true:=by rcases a with e | e <;> rw [e] <;> rfl
 rw [e,cond_true] at this;have:=(ZA0.1 this).2;simpa using this
theorem n7 {x:RowT} (hx:x ∈ aD) {op:List Int} (hb:uT op) (ho:fE x op=true) {h:Int} (e:h=0\/h=1) {i:aE} (b:aA x=1\/aA x=2->i.2.1=cU x op+8*h)
  (d:i.2.2.2.2.1=cond (bI x) (cU x op) 0) (a:aA x=6->dC i.2.2.2.2.2=(op.getD 0 0==131)):bS x i=op:=by
 have:=RD hx hb ho e;unfold CQ at this;have:=eq_of_beq (ZA0.1 this).1;unfold bS lP;rw [J2,d];refine Eq.trans ?_ this;refine congrArg (fun c=>bY x.2.2.1++[c]) ?_;by_cases h6:aA x=6
 ·rw [a h6]
  exact aJA (by omega) (by omega) _ _ _ _ _ _
 ·rw [a9B h6 _ _ _ _ (dC i.2.2.2.2.2) (op.getD 0 0==131)]
  by_cases h12:aA x=1\/aA x=2
  ·rw [b h12]
  ·exact aJA (by omega) (by omega) _ _ _ _ _ _
def ED (f R:Int):Bool:=cond (aC R (nB f) != 0) true (cond (f==0 || f==11 || f==12) (R % 8==0) (cond (f==7 || f==8) (R / 2 % 2==0) (cond (f==9 || f==10) true (R % 8==R % 2))))
theorem a9N:forms.all (fun f=>gA 16 fun R=>ED f R)=true:=by kernel_rfl
def ak4 (R:Int):Bool:=cond (aC R 8 != 0) (R==8+R % 8) (R==R % 8)&&((aC R 8==0)==!(aC R 8 != 0))
theorem a4J:gA 16 ak4=true:=by kernel_rfl
theorem a1M {x:RowT} (hx:x ∈ aD) {fs has:Bool} {R:Int} (r0:0<=R) (r1:R<16) (g:has=false->R=0) (h:nK x fs R has=true) :
  fs=(aA x==10)/\ED (aA x) R=true/\aC R (nB (aA x))=0/\hY x.2.1 (R % 8)=cond has [64+R] []:=by
 have f:aA x ∈ forms:=by simpa [eO] using ZE1.1 vD x hx
 have hu:=fD (ZE1.1 a9N _ f) r0 r1;unfold nK at h;cases b:(!(fs==(aA x==10)))
 ·rw [b,cond_false] at h
  have b:fs=(aA x==10):=by simpa using b
  cases d:(aC R (nB (aA x)) != 0)
  ·rw [d,cond_false] at h
   refine ⟨b,hu,LO d,?_⟩;obtain ⟨c1,c2⟩:=ZA0.1 (fD a4J r0 r1);have c2:=eq_of_beq c2;obtain ⟨i,o2,-⟩:=U2 (r:=R % 8) (by omega) (by omega);unfold hY
   rcases (GN hx).1 with c | c | c
   ·rw [c] at h ⊢
    have h:cond (aC R 8==0) (cond (!has) true (R != 0)) false=true:=h;cases e:(aC R 8==0)
    ·rw [e] at h; cases h
    ·rw [e] at c2
     have a : (aC R 8 != 0)=false:=by simpa using c2.symm
     rw [a,cond_false] at c1;have c1:=eq_of_beq c1;rw [e,cond_true] at h;rw [show ((0:Int)==0)=true from rfl,cond_true,o2,<- c1];cases has
     ·rw [g rfl]; rfl
     ·have h:(R != 0)=true:=h
      rw [h,cond_true]
   ·rw [c] at h ⊢
    have h:(aC R 8 != 0)=true:=h;rw [h,cond_true] at c1;have c1:=eq_of_beq c1;show [bX 64 (bX (R % 8) 8)]=_;rw [i,<- c1];cases has
    ·have:=g rfl; omega
    ·rfl
   ·rw [c] at h ⊢
    have h:cond has (aC R 8==0) false=true:=h;cases has
    ·cases h
    ·rw [cond_true] at h
     rw [h] at c2
     have a : (aC R 8 != 0)=false:=by simpa using c2.symm
     rw [a,cond_false] at c1;have c1:=eq_of_beq c1;show [bX 64 (R % 8)]=_;rw [o2,<- c1];rfl
  ·rw [d] at h; cases h
 ·rw [b] at h; cases h
theorem oH (R:Int) (x:RowT) (op:List Int) (c:Int) (t:List Int) (k:Int):aY R x op c t k=gP (aA x) R x op c t k (cond (bI x) (cU x op) 0):=by
 unfold aY mR cU;cases bI x <;> rfl
theorem a0P (R:Int) (x:RowT) (op:List Int) (c:Int) (t:List Int) (k d:Int):gP 2 R x op c t k d=qU t k fun n _ k=>bA x (x.1,wi (cU x op+cH R 1),0,0,d,n) k:=rfl
theorem aHR (l a d:Int) (ft:Bool):lQ 9 false l a d ft=l:=rfl
def l9 (x:RowT) (op:List Int) (R:Int) (pre t:List Int) (k:Int) (i:aE) (n:Int):Prop:=
 i.1=x.1/\c8 x i=0/\rI x i=R % 8/\bS x i=op /\ ∃ used rest,t=used++rest/\n=k+(used.length:Int)/\eR x i=pre++used
section
variable {x:RowT} (hx:x ∈ aD) {op:List Int} (hb:uT op) (ho:fE x op=true) {R:Int} (r0:0<=R) (r1:R<16) (hu:ED (aA x) R=true) (hz:aC R (nB (aA x))=0)
include hx hb ho r0 r1 hu hz
omit hx hb ho r0 r1 in
theorem Y5 (a:aA x=0\/aA x=11\/aA x=12):R % 8=0:=by
 have h:=hu;unfold ED at h;rw [hz] at h
 rcases a with e | e | e <;> rw [e] at h <;> exact eq_of_beq h
omit hx hb ho r0 r1 in
theorem aP2 (a:aA x=1\/aA x=2\/aA x=3\/aA x=4\/aA x=5\/aA x=6):R % 8=R % 2:=by
 have h:=hu;unfold ED at h;rw [hz] at h
 rcases a with e | e | e | e | e | e <;> rw [e] at h <;> exact eq_of_beq h
omit hx hb ho r0 r1 in
theorem akU (a:aA x=7\/aA x=8):R / 2 % 2=0:=by
 have h:=hu;unfold ED at h;rw [hz] at h
 rcases a with e | e <;> rw [e] at h <;> exact eq_of_beq h
omit r0 r1 in
theorem ag1 (a:aA x=0) {t:List Int} {k:Int} {i:aE} {n:Int} (h:aY R x op 0 t k = .ok (i,n)):l9 x op R [] t k i n:=by
 rw [oH,a] at h;obtain ⟨rfl,rfl,he⟩:=nE (h:bA x _ k=_);exact ⟨rfl,he,(LL (.inl a)).trans (Y5 hu hz (.inl a)).symm,n7 hx hb ho (.inl rfl) (fun e=>by omega) rfl (fun e=>by omega),[],t,rfl,by simp,(U9 a).trans rfl⟩
theorem aHE (a:aA x=1\/aA x=2):wi (cU x op+cH R 1)=cU x op+8*(R % 2)/\0<=cU x op+8*(R % 2)/\cU x op+8*(R % 2)<16/\bX 0 (gD (cU x op+8*(R % 2)) 1)=R % 8:=by
 have b:=a1F hx hb ho a;have e:=aP2 hu hz (by omega);rw [(tQ r0 r1).2.2,KM (by omega) (by omega)];refine ⟨rfl,by omega,by omega,?_⟩;rw [WM (by omega) (by omega),e];omega
theorem aiW (a:aA x=1) {t:List Int} {k:Int} {i:aE} {n:Int} (h:aY R x op 0 t k = .ok (i,n)):l9 x op R [] t k i n:=by
 obtain ⟨b,g2,g3,g4⟩:=aHE hx hb ho r0 r1 hu hz (.inl a);rw [oH,a,aJM] at h;obtain ⟨rfl,rfl,he⟩:=nE (h:bA x (x.1,wi (cU x op+cH R 1),0,0,_,0) k=_);refine ⟨rfl,he,?_,n7 hx hb ho (h:=R % 2) (by omega) (fun _=>b) rfl (fun e=>by omega),[],t,rfl,by simp,(VP a).trans rfl⟩;unfold rI;rw [a];show bX 0 (gD (wi (cU x op+cH R 1)) 1)=R % 8;rw [b,g4]
theorem agP (a:aA x=2) {t:List Int} (c:bE t) {k:Int} {i:aE} {n:Int} (h:aY R x op 0 t k = .ok (i,n)):l9 x op R [] t k i n:=by
 obtain ⟨b,g2,g3,g4⟩:=aHE hx hb ho r0 r1 hu hz (.inr a);rw [oH,a,a0P] at h;obtain ⟨m,rest,e,hr,h⟩:=a27 c h;obtain ⟨rfl,rfl,he⟩:=nE h;refine ⟨rfl,he,?_,n7 hx hb ho (h:=R % 2) (by omega) (fun _=>b) rfl (fun e=>by omega),qF m,rest,e,rfl,(T6 a).trans rfl⟩;unfold rI;rw [a];show bX 0 (gD (wi (cU x op+cH R 1)) 1)=R % 8;rw [b,g4]
omit r0 r1 in
theorem aaD (a:aA x=11) {t:List Int} (b:bE t) {k:Int} {i:aE} {n:Int} (h:aY R x op 0 t k = .ok (i,n)):l9 x op R [] t k i n:=by
 rw [oH,a,aFI] at h;obtain ⟨m,rest,e,hr,-,h⟩:=BL b h;obtain ⟨rfl,rfl,he⟩:=nE h;exact ⟨rfl,he,(LL (.inr (.inl a))).trans (Y5 hu hz (by omega)).symm,n7 hx hb ho (.inl rfl) (fun e=>by omega) rfl (fun e=>by omega),bV m,rest,e,rfl,(TJ a).trans rfl⟩
omit r0 r1 in
theorem abA (a:aA x=12) {t:List Int} (b:bE t) {k:Int} {i:aE} {n:Int} (h:aY R x op 0 t k = .ok (i,n)):l9 x op R [] t k i n:=by
 rw [oH,a,aGB] at h;obtain ⟨m,rest,e,hr,-,h⟩:=J0 b h;obtain ⟨rfl,rfl,he⟩:=nE h;exact ⟨rfl,he,(LL (.inr (.inr a))).trans (Y5 hu hz (by omega)).symm,n7 hx hb ho (.inl rfl) (fun e=>by omega) rfl (fun e=>by omega),dR m,rest,e,rfl,(TG a).trans rfl⟩
omit hb ho in
theorem K8 {c:Int} (b:aV c) (a:cR c x=true) (g:aA x=3\/aA x=4\/aA x=5\/aA x=6):(0<=aU c R/\aU c R<16)/\aG 3 (wi x.2.2.2.2.1) (aU c R)=c/\aU c R / 8=R % 8:=by
 obtain ⟨d0,d1,d2⟩:=B7 hx;have i:=FO b.1 b.2 r0 r1;obtain ⟨k,q2,q3,q4⟩:=kF b.1 b.2;have e:=aP2 hu hz (by omega)
 have h:pW (aA x)=true:=by unfold pW; rcases g with e | e | e | e <;> rw [e] <;> rfl
 obtain ⟨l,c1⟩:=b;unfold cR at a;rw [F2 h,q2] at a;cases d:(Int.fdiv c (2 ^ 6)==3)
 ·rw [d] at a; cases a
 ·rw [d,cond_true] at a
  have d:c / 64=3:=k.symm.trans (eq_of_beq d);have f:=eq_of_beq a;have j:=kG (m:=3) (by decide) (by decide) (show 0<=wi x.2.2.2.2.1 by omega) (show wi x.2.2.2.2.1<16 by omega) (show 0<=aU c R by omega) (show aU c R<16 by omega);refine ⟨by omega,?_,by omega⟩;rw [j,d2,<- f,i];omega
theorem afY (b:aA x=3) {c:Int} (f:aV c) (a:cR c x=true) {t:List Int} {k:Int} {i:aE} {n:Int} (h:aY R x op c t k = .ok (i,n)):l9 x op R [c] t k i n:=by
 obtain ⟨d,g2,g3⟩:=K8 hx r0 r1 hu hz f a (by omega);rw [oH,b,aI5] at h;obtain ⟨rfl,rfl,he⟩:=nE h;refine ⟨rfl,he,(CC hx d (by omega)).trans g3,n7 hx hb ho (.inl rfl) (fun e=>by omega) rfl (fun e=>by omega),[],t,rfl,by simp,(UB b).trans ?_⟩;show [aG 3 (wi x.2.2.2.2.1) (aU c R)]=_;rw [g2]; rfl
theorem ahB (b:aA x=4) {c:Int} (f:aV c) (a:cR c x=true) {t:List Int} (g:bE t) {k:Int} {i:aE} {n:Int} (h:aY R x op c t k = .ok (i,n)):l9 x op R [c] t k i n:=by
 obtain ⟨d,g2,g3⟩:=K8 hx r0 r1 hu hz f a (by omega);rw [oH,b,aIE] at h;obtain ⟨m,rest,e,hr,-,h⟩:=BL g h;obtain ⟨rfl,rfl,he⟩:=nE h;refine ⟨rfl,he,(CC hx d (by omega)).trans g3,n7 hx hb ho (.inl rfl) (fun e=>by omega) rfl (fun e=>by omega),bV m,rest,e,rfl,(UW b).trans ?_⟩;show aG 3 (wi x.2.2.2.2.1) (aU c R) :: bV m=_;rw [g2]; rfl
theorem ahL (b:aA x=5) {c:Int} (f:aV c) (a:cR c x=true) {t:List Int} (g:bE t) {k:Int} {i:aE} {n:Int} (h:aY R x op c t k = .ok (i,n)):l9 x op R [c] t k i n:=by
 obtain ⟨d,g2,g3⟩:=K8 hx r0 r1 hu hz f a (by omega);rw [oH,b,aIX] at h;obtain ⟨m,rest,e,hr,-,h⟩:=J0 g h;obtain ⟨rfl,rfl,he⟩:=nE h;refine ⟨rfl,he,(CC hx d (by omega)).trans g3,n7 hx hb ho (.inl rfl) (fun e=>by omega) rfl (fun e=>by omega),dR m,rest,e,rfl,(V0 b).trans ?_⟩;show aG 3 (wi x.2.2.2.2.1) (aU c R) :: dR m=_;rw [g2]; rfl
theorem agK (d:aA x=6) {c:Int} (j:aV c) (b:cR c x=true) {t:List Int} (g:bE t) {k:Int} {i:aE} {n:Int} (h:aY R x op c t k = .ok (i,n)):l9 x op R [c] t k i n:=by
 obtain ⟨f,g2,g3⟩:=K8 hx r0 r1 hu hz j b (by omega);rw [oH,d,a7I] at h;cases a:(op.getD 0 0==131)
 ·rw [a,cond_false] at h
  obtain ⟨m,rest,e,hr,-,h⟩:=BL g h;obtain ⟨q,h⟩:=tG h
  have q:dC m=false:=by simpa using q
  obtain ⟨rfl,rfl,he⟩:=nE h;refine ⟨rfl,he,(CC hx f (by omega)).trans g3,n7 hx hb ho (.inl rfl) (fun e=>by omega) rfl (fun e=>q.trans a.symm),bV m,rest,e,rfl,(LN d).trans ?_⟩;show aG 3 (wi x.2.2.2.2.1) (aU c R) :: qZ m=_;unfold qZ;rw [g2,q]; rfl
 ·rw [a,cond_true] at h
  obtain ⟨m,rest,e,hr,hm,h⟩:=J0 g h;have q:dC m=true:=(JT m).2 hm;obtain ⟨rfl,rfl,he⟩:=nE h;refine ⟨rfl,he,(CC hx f (by omega)).trans g3,n7 hx hb ho (.inl rfl) (fun e=>by omega) rfl (fun e=>q.trans a.symm),dR m,rest,e,rfl,(LN d).trans ?_⟩;show aG 3 (wi x.2.2.2.2.1) (aU c R) :: qZ m=_;unfold qZ;rw [g2,q]; rfl
omit hx hb ho in
theorem aJ0 {c:Int} (a:aV c) (b:cR c x=true) (g:aA x=7\/aA x=8):aG 3 (cC c R) (aU c R)=c/\aS 0 (cC c R) (aU c R)=R % 8:=by
 have j:=FO a.1 a.2 r0 r1;have k:=yR a.1 a.2 r0 r1;obtain ⟨l,q2,q3,q4⟩:=kF a.1 a.2;have e:=akU hu hz g;have i:bB c=3:=XI (x:=x) (by rcases g with e | e <;> rw [e] <;> rfl) b;obtain ⟨h,c1⟩:=a
 have d:0<=aU c R/\aU c R<16:=by omega
 have f:0<=cC c R/\cC c R<16:=by omega
 refine ⟨?_,?_⟩
 ·rw [kG (by decide) (by decide) f.1 f.2 d.1 d.2,show cC c R % 8=c / 8 % 8 by omega,show aU c R % 8=c % 8 by omega]
  omega
 ·rw [jL f.1 f.2 d.1 d.2,show cC c R / 8=R / 4 % 2 by omega,show aU c R / 8=R % 2 by omega,aNP r0 r1,e]
  omega
theorem ahV (b:aA x=7) {c:Int} (f:aV c) (a:cR c x=true) {t:List Int} {k:Int} {i:aE} {n:Int} (h:aY R x op c t k = .ok (i,n)):l9 x op R [c] t k i n:=by
 obtain ⟨d,g2⟩:=aJ0 r0 r1 hu hz f a (.inl b);rw [oH,b,aIT] at h;obtain ⟨rfl,rfl,he⟩:=nE h;refine ⟨rfl,he,?_,n7 hx hb ho (.inl rfl) (fun e=>by omega) rfl (fun e=>by omega),[],t,rfl,by simp,(VC b).trans ?_⟩
 ·unfold rI
  rw [b];exact g2
 ·show [aG 3 (cC c R) (aU c R)]=_
  rw [d]; rfl
theorem ah2 (b:aA x=8) {c:Int} (f:aV c) (a:cR c x=true) {t:List Int} {k:Int} {i:aE} {n:Int} (h:aY R x op c t k = .ok (i,n)):l9 x op R [c] t k i n:=by
 obtain ⟨d,g2⟩:=aJ0 r0 r1 hu hz f a (.inr b);rw [oH,b,aIR] at h;obtain ⟨rfl,rfl,he⟩:=nE h;refine ⟨rfl,he,?_,n7 hx hb ho (.inl rfl) (fun e=>by omega) rfl (fun e=>by omega),[],t,rfl,by simp,(UG b).trans ?_⟩
 ·unfold rI
  rw [b];exact g2
 ·show [aG 3 (cC c R) (aU c R)]=_
  rw [d]; rfl
omit hu hz in
theorem ai8 (a:aA x=9) {c:Int} (j:aV c) (e:cR c x=true) {t:List Int} (l:bE t) {k:Int} {i:aE} {n:Int} (h:aY R x op c t k = .ok (i,n)):l9 x op R [c] t k i n:=by
 have g:bB c ≠ 3:=WE (x:=x) (by rw [a]; rfl) e;unfold aY at h;rw [VI hx a,cond_false,a,aHJ] at h;obtain ⟨b,cc,d,m,used,rest,e1,e2,h⟩:=aZ2 r0 r1 j g l h;obtain ⟨rfl,rfl,he⟩:=nE h;have o:d=cond (bI x) (cU x op) 0\/True:=.inr trivial;refine ⟨rfl,he,?_,?_,used,rest,e1,rfl,(VL a).trans ?_⟩
 ·unfold rI
  rw [a];show (dJ (cC c R) b cc d m).1=_;rw [e2]
 ·have f:=RD hx hb ho (h:=0) (.inl rfl)
  unfold CQ at f;have f:=eq_of_beq (ZA0.1 f).1;unfold bS lP;rw [J2];refine Eq.trans ?_ f;rw [VI hx a,a,aHR,aHR]
 ·show (dJ (cC c R) b cc d m).2=_
  rw [e2]; rfl
omit hu hz in
theorem ac2 (p:R=8\/R=12) (g:aA x=10) {c:Int} (d:aV c) (a:cR c x=true) {t:List Int} (l:bE t) {k:Int} {i:aE} {n:Int} (h:aY R x op c t k = .ok (i,n)):l9 x op R [c] t k i n:=by
 have q:=yR d.1 d.2 r0 r1;obtain ⟨r,q2,q3,q4⟩:=kF d.1 d.2
 have a:c / 64=0/\c % 8=4:=by
  unfold cR mU at a;rw [g] at a;have a:cond (bB c==0) (aC c 7==4) false=true:=a;cases f:(bB c==0)
  ·rw [f] at a; cases a
  ·rw [f,cond_true] at a
   have f:=eq_of_beq f;have a:=eq_of_beq a;omega
 obtain ⟨o,c1⟩:=d
 have j:0<=cC c R/\cC c R<16:=by omega
 rw [oH,g,aFV] at h;obtain ⟨e,t2,et,h2⟩:=mF h;obtain ⟨b,h3⟩:=tG h2;have b:=eq_of_beq b;subst b;rw [et] at l;obtain ⟨m,rest,e1,hr,-,h4⟩:=BL (lH l).2 h3;obtain ⟨rfl,rfl,he⟩:=nE h4;refine ⟨rfl,he,?_,n7 hx hb ho (.inl rfl) (fun e=>by omega) rfl (fun e=>by omega),37 :: bV m,rest,by rw [et,e1]; rfl,?_,(TW g).trans ?_⟩
 ·unfold rI
  rw [g];show aS 0 (cC c R) 4=_;rw [jL j.1 j.2 (by decide) (by decide)];omega
 ·simp only [ZD3]
  show k+1+4=_;have:(bV m).length=4:=rfl;omega
 ·show aG 0 (cC c R) 4 :: 37 :: bV m=_
  rw [kG (by decide) (by decide) j.1 j.2 (by decide) (by decide),show 64*0+8*(cC c R % 8)+4 % 8=c by omega];rfl
end
theorem aVU:aD.all (fun x=>fI x.1&&dW x.1==x)=true:=by kernel_rfl
theorem S0 {l:List Int} (r:bE l) {i:aE} {n:Int} (h:dH l = .ok (i,n)):cX i=0/\iB i=l.take n.toNat/\0<=n/\n<=(l.length:Int):=by
 obtain ⟨A,n1,-⟩:=aY0 r h;obtain ⟨op,k,fs,R,has,hop,x,hx,b⟩:=QR r h;obtain ⟨g,s2,s3,s4,k0,e1,e2⟩:=EV r hop;obtain ⟨hx,ho,hp⟩:=aFS hx;obtain ⟨w,p2,p3,p4⟩:=a1M hx s2.1 s2.2 s3 hp;have a:bE (l.drop k.toNat):=fun c j=>r c (List.mem_of_mem_drop j)
 have fin:∀ {pre t:List Int} {v : Int},l.drop k.toNat=pre++t->v = k+(pre.length:Int)->l9 x op R pre t v i n->cX i=0/\iB i=l.take n.toNat/\0<=n/\n<=(l.length:Int):=by
  intro pre t v q B ⟨f1,f2,f3,f4,used,rest,f5,f6,f7⟩;have z:=ZE1.1 aVU x hx;obtain ⟨y,o⟩:=ZA0.1 z;have o:=eq_of_beq o;rw [<- f1] at y o;refine ⟨?_,?_,A,n1⟩
  ·unfold cX
   rw [y,o,f2]; rfl
  ·rw [Q6,o]
   unfold jR;rw [f3,f4,f7]
   have s:nT (aA x)=cond fs [100] []:=by unfold nT; rw [w]
   rw [s,p4]
   have u:l=(cond fs [100] []++cond has [64+R] []++op++(pre++used))++rest:=by
    rw [List.append_assoc,List.append_assoc pre,<- f5,<- q];exact e1
   have hlen:n.toNat=(cond fs [100] []++cond has [64+R] []++op++(pre++used)).length:=by
    have e3:(pre++used).length=pre.length+used.length:=ZE0;rw [ZE0];omega
   rw [hlen];exact (congrArg (List.take _) u |>.trans List.take_left).symm
 have m:aA x ∈ forms:=by simpa [eO] using ZE1.1 vD x hx
 unfold forms at m;simp only [List.mem_cons,List.not_mem_nil,or_false] at m
 rcases b with ⟨p,b⟩ | ⟨p,c,t,q,hf,b⟩
 ·have d:l9 x op R [] (l.drop k.toNat) k i n->_:=fin rfl (by simp)
  have no:∀ {f:Int},aA x=f->eD f=true->cX i=0/\iB i=l.take n.toNat/\0<=n/\n<=(l.length:Int):=fun e h=>by
   rw [e,h] at p; cases p
  rcases m with e | e | e | e | e | e | e | e | e | e | e | e | e
  ·exact d (ag1 hx g ho p2 p3 e b)
  ·exact d (aiW hx g ho s2.1 s2.2 p2 p3 e b)
  ·exact d (agP hx g ho s2.1 s2.2 p2 p3 e a b)
  ·exact no e rfl
  ·exact no e rfl
  ·exact no e rfl
  ·exact no e rfl
  ·exact no e rfl
  ·exact no e rfl
  ·exact no e rfl
  ·exact no e rfl
  ·exact d (aaD hx g ho p2 p3 e a b)
  ·exact d (abA hx g ho p2 p3 e a b)
 ·have d:l9 x op R [c] t (k+1) i n->_:=fin q (by simp)
  rw [q] at a;obtain ⟨j,ht⟩:=lH a
  have no:∀ {f:Int},aA x=f->eD f=false->cX i=0/\iB i=l.take n.toNat/\0<=n/\n<=(l.length:Int):=fun e h=>by
   rw [e,h] at p; cases p
  rcases m with e | e | e | e | e | e | e | e | e | e | e | e | e
  ·exact no e rfl
  ·exact no e rfl
  ·exact no e rfl
  ·exact d (afY hx g ho s2.1 s2.2 p2 p3 e j hf b)
  ·exact d (ahB hx g ho s2.1 s2.2 p2 p3 e j hf ht b)
  ·exact d (ahL hx g ho s2.1 s2.2 p2 p3 e j hf ht b)
  ·exact d (agK hx g ho s2.1 s2.2 p2 p3 e j hf ht b)
  ·exact d (ahV hx g ho s2.1 s2.2 p2 p3 e j hf b)
  ·exact d (ah2 hx g ho s2.1 s2.2 p2 p3 e j hf b)
  ·exact d (ai8 hx g ho s2.1 s2.2 e j hf ht b)
  ·refine d (ac2 hx g ho s2.1 s2.2 ?_ e j hf ht b)
   rw [e] at w;exact (s4 w).2
  ·exact no e rfl
  ·exact no e rfl
end Go.Amd

namespace Go.Amd
open Go Go.Ab Go.Proofs
def dI (l:List Int) (at_:Int):aE:=cond (pP l at_) mS (match dH (l.drop at_.toNat) with | .ok (i,_)=>i | .error _=>mS)
def dN (l:List Int) (at_:Int):Int:=cond (pP l at_) 0 (match dH (l.drop at_.toNat) with | .ok (_,n)=>n | .error _=>0)
def dE (l:List Int) (at_:Int):Int:=cond (pP l at_) 5 (match dH (l.drop at_.toNat) with | .ok _=>0 | .error e=>e)
theorem a6Y (l:List Int) (at_:Int):HM l at_ = .tup [lV (dI l at_),.int .i64 (dN l at_),.int .i64 (dE l at_)]:=by
 unfold HM dI dN dE;cases pP l at_
 ·simp only [cond_false]
  cases dH (l.drop at_.toNat) <;> rfl
 ·rfl
def TV:Ab.Spec:=fun args=>match args with
 | [.sl (.int .u8) l _ _,.int .i64 at_]=>.aF (decide (l.length<1000000000)) (.aF (tO l) (.leaf (.tup [lV (dI l at_),.int .i64 (dN l at_),.int .i64 (dE l at_)])))
 | _=>.fail
theorem aVC:Sound prog 58 TV:=by
 intro args out h;refine aVG args out ?_;unfold TV at h;split at h;rotate_left
 ·cases h
 exact Eq.trans (congrArg (fun v=>(Tree.aF _ (Tree.aF _ (Tree.leaf v))).run) (a6Y _ _)) h
theorem a8P {l:List Int} {at_:Int} (h:(dE l at_ != 0)=true):dI l at_=mS/\dN l at_=0:=by
 unfold dE at h;unfold dI dN;cases b:pP l at_
 ·rw [b,cond_false] at h
  rw [cond_false,cond_false]
  cases a:dH (l.drop at_.toNat) with
  | ok p=>rw [a] at h; cases h
  | error e=>exact ⟨rfl,rfl⟩
 ·exact ⟨rfl,rfl⟩
def fO (F:List Int->Int->aX):Prop:=∀ (t:List Int) (k e m:Int),F t k = .error (e,m)->e ≠ 0
theorem nD (x:RowT) (i:aE):fO fun _ k=>bA x i k:=by
 intro t k e m h;have h:bA x i k = .error (e,m):=h;unfold bA at h;cases a:(!(c8 x i==0))
 ·rw [a] at h; cases h
 ·rw [a,cond_true] at h; cases h; decide
theorem vJ {b:Bool} {F:List Int->Int->aX} (h:fO F):fO fun t k=>fT b k (F t k):=by
 intro t k e m a;cases b
 ·cases a; decide
 ·exact h t k e m a
theorem gZ {b:Bool} {F G:List Int->Int->aX} (h:fO F) (g:fO G):fO fun t k=>cond b (F t k) (G t k):=by
 cases b
 ·exact g
 ·exact h
theorem mH {K:Int->List Int->Int->aX} (h:∀ c,fO (K c)):fO fun t k=>iJ t k K:=by
 intro t k e m a
 cases t with
 | nil=>cases a; decide
 | cons c t=>exact h c t (k+1) e m a
theorem J4 {K:Int->List Int->Int->aX} (h:∀ c,fO (K c)):fO fun t k=>kH t k K:=mH fun _=>h _
theorem BK {K:Int->List Int->Int->aX} (h:∀ c,fO (K c)):fO fun t k=>fW t k K:=mH fun _=>mH fun _=>mH fun _=>mH fun _=>h _
theorem a2V {K:Int->List Int->Int->aX} (h:∀ c,fO (K c)):fO fun t k=>qU t k K:=
 mH fun _=>mH fun _=>mH fun _=>mH fun _=>mH fun _=>mH fun _=>mH fun _=>mH fun _=>h _
theorem aaA:fO fun _ k=>.error (22,k):=fun t k e m h=>by cases h; decide
theorem SN (c b:Int) {K:Int->List Int->Int->aX} (h:∀ c,fO (K c)):fO fun t k=>pT c b t k K:=
 gZ (J4 fun n=>gZ (h n) (vJ (h n))) (gZ (BK fun n=>vJ (h n)) (h 0))
theorem aGL (R c e:Int) {K:j5} (h:∀ b a d n,fO (K b a d n)):fO fun t k=>nL R c e t k K:=
 gZ (gZ (vJ (SN _ _ fun n=>h _ _ _ n)) aaA) (SN _ _ fun n=>h _ _ _ n)
theorem a8B (R c:Int) {K:j5} (h:∀ b a d n,fO (K b a d n)):fO fun t k=>HT R c t k K:=
 mH fun e=>gZ (aGL R c e h) (vJ (aGL R c e h))
theorem aGG (R c:Int) {K:j5} (h:∀ b a d n,fO (K b a d n)):fO fun t k=>oO R c t k K:=
 gZ (a8B R c h) (vJ (SN _ _ fun n=>h _ _ _ n))
theorem aYU (R c:Int) {K:j5} (h:∀ b a d n,fO (K b a d n)):fO fun t k=>nJ R c t k K:=
 gZ (gZ (vJ (BK fun n=>h _ _ _ n)) (aGG R c h)) (aGG R c h)
theorem aGI (f R:Int) (x:RowT) (a:List Int) (c d:Int):fO fun t k=>gP f R x a c t k d:=by
 unfold gP mR
 refine gZ (nD x _) (gZ (nD x _) (gZ (a2V fun n=>nD x _) (gZ (nD x _) (gZ (BK fun n=>nD x _) (gZ (J4 fun n=>nD x _)
  (gZ (gZ (J4 fun n=>nD x _) (BK fun n=>vJ (nD x _))) (gZ (nD x _) (gZ (nD x _) (gZ (aYU R c fun b g d n=>nD x _)
  (gZ (mH fun e=>vJ (BK fun n=>nD x _)) (gZ (BK fun n=>nD x _) (J4 fun n=>nD x _))))))))))))
theorem aFQ (R:Int) (x:RowT) (a:List Int) (c:Int):fO fun t k=>aY R x a c t k:=by
 unfold aY mR;exact gZ (aGI _ R x a c _) (aGI _ R x a c 0)
theorem a5U {l:List Int} {e:Int} {s:Int × Bool × Int × Bool} (h:eS l = .error (e,s)):e ≠ 0:=by
 cases l with
 | nil=>cases h; decide
 | cons c t =>
  unfold eS iU at h;simp only at h;cases g:(c==100)
  ·rw [g,cond_false] at h
   cases b:(jG c==4)
   ·rw [b,cond_false] at h
    cases a:(c != 15)
    ·rw [a,cond_false] at h
     cases t with
     | nil=>cases h; decide
     | cons d t=>cases h
    ·rw [a] at h; cases h
   ·rw [b,cond_true] at h
    cases t with
    | nil=>cases h; decide
    | cons d t =>
     simp only at h;unfold lY at h;cases a:(d != 15)
     ·rw [a,cond_false] at h
      cases j:(!(aC (aC c 15) 8 != 0))
      ·rw [j,cond_false] at h
       cases t with
       | nil=>cases h; decide
       | cons e t=>cases h
      ·rw [j,cond_true] at h; cases h; decide
     ·rw [a] at h; cases h
  ·rw [g,cond_true] at h
   cases t with
   | nil=>cases h; decide
   | cons d t =>
    simp only at h;unfold uC at h;cases f:(!(aC d 251==72))
    ·rw [f,cond_false] at h
     cases b:(jG d==4)
     ·rw [b,cond_false] at h
      cases a:(d != 15)
      ·rw [a,cond_false] at h; cases h; decide
      ·rw [a] at h; cases h
     ·rw [b,cond_true] at h
      cases t with
      | nil=>cases h; decide
      | cons e t =>
       simp only at h;cases a:(e != 15)
       ·rw [a,cond_false] at h; cases h; decide
       ·rw [a] at h; cases h
    ·rw [f,cond_true] at h; cases h; decide
theorem aF0 {r:aX} {e:Int} (h:pE r = .error e):∃ m,r = .error (e,m):=by
 cases r with
 | ok p=>cases h
 | error q =>
  refine ⟨q.2,?_⟩;rw [<- Except.error.inj h]
theorem aJE (l:List Int):dH l ≠ .error 0:=by
 intro h;unfold dH at h
 cases a:eS l with
 | error p =>
  obtain ⟨e,s⟩:=p;rw [a] at h;exact a5U a (Except.error.inj h)
 | ok p =>
  obtain ⟨b,k,fs,R,has⟩:=p;rw [a] at h;simp only at h
  cases d:gR R b fs has with
  | nil=>rw [d] at h; exact absurd (Except.error.inj h) (by decide)
  | cons r0 G =>
   rw [d] at h;simp only at h;cases g:eD (aA r0)
   ·rw [g,cond_false] at h
    obtain ⟨m,h⟩:=aF0 h;exact aFQ R r0 b 0 _ _ _ _ h rfl
   ·rw [g,cond_true] at h
    cases f:l.drop k.toNat with
    | nil=>rw [f] at h; exact absurd (Except.error.inj h) (by decide)
    | cons c t =>
     rw [f] at h;unfold xC at h;simp only at h
     cases j:(r0 :: G).find? (cR c) with
     | none=>rw [j] at h; exact absurd (Except.error.inj h) (by decide)
     | some x =>
      rw [j] at h;obtain ⟨m,h⟩:=aF0 h;exact aFQ R x b c _ _ _ _ h rfl
theorem a2S {l:List Int} {at_:Int} (hb:bE l) (h:(dE l at_ != 0)=false) :
  0<=at_/\0<=dN l at_/\at_+dN l at_<=l.length/\cX (dI l at_)=0/\iB (dI l at_)=sub l at_.toNat (at_+dN l at_).toNat:=by
 have h:=LO h;unfold dE at h;unfold dI dN;cases b:pP l at_
 ·rw [b,cond_false] at h
  rw [cond_false,cond_false]
  have g:0<=at_/\at_<=l.length:=by
   simp only [pP,Bool.or_eq_false_iff,decide_eq_false_iff_not] at b;omega
  cases a:dH (l.drop at_.toNat) with
  | ok p =>
   obtain ⟨i,n⟩:=p;obtain ⟨d,e2,e3,e4⟩:=S0 (fun c f=>hb c (List.mem_of_mem_drop f)) a;rw [ZF1] at e4;refine ⟨g.1,e3,by show at_+n<=_; omega,d,?_⟩;show iB i=sub l at_.toNat (at_+n).toNat;rw [e2];unfold sub;rw [List.drop_take];congr 1;omega
  | error e =>
   rw [a] at h;have h:e=0:=h;rw [h] at a;exact absurd a (aJE _)
 ·rw [b,cond_true] at h; cases h
section
variable {i:aE} {p s:List Int}
end
end Go.Amd

namespace Go.Amd
open Go Go.Ab Go.Proofs
def bO (b:Bool):Option V:=some (.bool b)
noncomputable def aOE:Cx:={ P:=prog,n:=15,tab:=[],mtab:=[],refs:=[],keeps:=[0,1,4,6] }
noncomputable def aOV:Cx:={ P:=prog,n:=17,tab:=[],mtab:=[],refs:=[],keeps:=[0,2] }
noncomputable def aON:Cx:={ P:=prog,n:=9,tab:=[],mtab:=[],refs:=[],keeps:=[0,2] }
noncomputable def aO7:Cx:={ P:=prog,n:=9,tab:=[],mtab:=[],refs:=[],keeps:=[0,2] }
def lW (u:Bool) (n:Int):Bool:=cond u (cond (decide (0<=n)) (decide (n<=15)) false) (n==0)
def CG (d:Int):Bool:=cond (cond (decide (0<=d)) (decide (d<=9)) false) true (cond (decide (12<=d)) (decide (d<=15)) false)
def tV (n:Int):Bool:=cond (decide (-2147483648<=n)) (decide (n<2147483648)) false
def oK (n:Int):Bool:=cond (decide (-128<=n)) (decide (n<128)) false
theorem a4Z (u:Bool) (n:Int):(a7 aOE Tryz.f70 [.bool u,.int .i64 n]).fin=cond (!u) (bO (n==0)) (cond (decide (0<=n)) (bO (decide (n<=15))) (bO false)):=by kernel_rfl
theorem a38 (d:Int):(a7 aOV Tryz.f72 [.int .i64 d]).fin=cond (decide (0<=d)) (cond (decide (d<=9)) (bO true) (cond (decide (12<=d)) (bO (decide (d<=15))) (bO false))) (cond (decide (12<=d)) (bO (decide (d<=15))) (bO false)):=by kernel_rfl
theorem a0W (n:Int):(a7 aON Tryz.f73 [.int .i64 n]).fin=cond (decide (-2147483648<=n)) (bO (decide (n<2147483648))) (bO false):=by kernel_rfl
theorem aYI (n:Int):(a7 aO7 Tryz.f74 [.int .i64 n]).fin=cond (decide (-128<=n)) (bO (decide (n<128))) (bO false):=by kernel_rfl
def CV:Ab.Spec:=fun args=>match args with
 | [.bool u,.int .i64 n]=>.leaf (.bool (lW u n))
 | _=>.fail
def BY:Ab.Spec:=fun args=>match args with
 | [.int .i64 d]=>.leaf (.bool (CG d))
 | _=>.fail
def GA:Ab.Spec:=fun args=>match args with
 | [.int .i64 n]=>.leaf (.bool (tV n))
 | _=>.fail
def BT:Ab.Spec:=fun args=>match args with
 | [.int .i64 n]=>.leaf (.bool (oK n))
 | _=>.fail
theorem aGO:Sound prog 70 CV:=by
 intro args out h;unfold CV at h;split at h;rotate_left
 ·cases h
 rename_i u n;cases h;refine cE (cx:=aOE) (fn:=Tryz.f70) (dO rfl rfl) (by kernel_rfl) (by kernel_rfl) (by kernel_rfl) ?_;rw [<- Tree.bJ,a4Z];unfold lW;cases u <;> cases decide (0<=n) <;> rfl
theorem aDX:Sound prog 72 BY:=by
 intro args out h;unfold BY at h;split at h;rotate_left
 ·cases h
 rename_i d;cases h;refine cE (cx:=aOV) (fn:=Tryz.f72) (dO rfl rfl) (by kernel_rfl) (by kernel_rfl) (by kernel_rfl) ?_;rw [<- Tree.bJ,a38];unfold CG;cases decide (0<=d) <;> cases decide (d<=9) <;> cases decide (12<=d) <;> rfl
theorem aZJ:Sound prog 73 GA:=by
 intro args out h;unfold GA at h;split at h;rotate_left
 ·cases h
 rename_i n;cases h;refine cE (cx:=aON) (fn:=Tryz.f73) (dO rfl rfl) (by kernel_rfl) (by kernel_rfl) (by kernel_rfl) ?_;rw [<- Tree.bJ,a0W];unfold tV;cases decide (-2147483648<=n) <;> rfl
theorem aCT:Sound prog 74 BT:=by
 intro args out h;unfold BT at h;split at h;rotate_left
 ·cases h
 rename_i n;cases h;refine cE (cx:=aO7) (fn:=Tryz.f74) (dO rfl rfl) (by kernel_rfl) (by kernel_rfl) (by kernel_rfl) ?_;rw [<- Tree.bJ,aYI];unfold oK;cases decide (-128<=n) <;> rfl
noncomputable def Y0:Cx:={ P:=prog,n:=52,tab:=[(70,CV)],mtab:=[],refs:=[],keeps:=[0,1,2,5,22,25] }
def wA (b c d:Int):Bool:=cond (b==17) (cond (c==16) (d==0) false) (cond (lW true b) (cond (c==4) false (cond (c==16) (d==0) (cond (lW true c) (cond (d==1) true (cond (d==2) true (cond (d==4) true (d==8)))) false))) false)
def K9 (a:List UInt8) (e b c d f:Int):Tree V:=
 (.br (b==17) (.br (c==16) (.leaf (.bool (d==0))) (.leaf (.bool false))) (.br (!lW true b) (.leaf (.bool false)) (.br (c==4) (.leaf (.bool false)) (.br (c==16) (.leaf (.bool (d==0))) (.br (lW true c) (.br (d==1) (.leaf (.bool true)) (.br (d==2) (.leaf (.bool true)) (.br (d==4) (.leaf (.bool true)) (.leaf (.bool (d==8)))))) (.leaf (.bool false)))))))
theorem aW4 (nm:List UInt8) (a b c d n:Int):(a7 Y0 Tryz.f71 [.agg [.str nm,.int .i64 a,.int .i64 b,.int .i64 c,.int .i64 d,.int .i64 n]]).run=(K9 nm a b c d n).run:=
 (show (a7 Y0 Tryz.f71 [.agg [.str nm,.int .i64 a,.int .i64 b,.int .i64 c,.int .i64 d,.int .i64 n]]).run=(K9 nm a b c d n).out by kernel_rfl).trans (Tree.out_run _)
end Go.Amd
