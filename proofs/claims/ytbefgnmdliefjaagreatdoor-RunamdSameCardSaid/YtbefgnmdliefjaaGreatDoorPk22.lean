/-
  What is decoded was encoded so: form by form. Conditions: none.
-/
import Derived.Test.YtbefgnmdliefjaaGreatDoorPk21
import Derived.Test.YtbefgnmdliefjaaGreatDoorPk19
import Derived.Test.YtbefgnmdliefjaaGreatDoorPk10
import Derived.Test.YtbefgnmdliefjaaGreatDoorPk16
import Derived.Test.YtbefgnmdliefjaaGreatDoorPk11
set_option linter.unusedVariables false
set_option linter.unusedSimpArgs false
namespace Go.Amd
open Go Go.Ab Go.Proofs
def restN (x:RowT) (op:List Int):Int:=wi (w8 (lastB op - w8 x.2.2.1))
def headK (x:RowT) (op:List Int) (h:Int):Bool:=
 hdF x.2.2.1++[lastG (formR x) (condR x) (w8 x.2.2.1) (restN x op+8*h) (cond (condR x) (restN x op) 0) (op.getD 0 0 == 131)] == op &&
  cond (formR x == 1 || formR x == 2) (decide (0≤restN x op) && decide (restN x op<8)) true
def headC (x:RowT) (op:List Int):Bool:=cond (opensF x op) (headK x op 0 && headK x op 1) true
theorem headC_all:rowsL.all (fun x=>all2 16 16 fun a b=>headC x [16*a+b] && headC x [15,16*a+b])=true:=by kernel_rfl
theorem headC_of {x:RowT} (hx:x ∈ rowsL) {c:Int} (hc:IsB c):headC x [c]=true∧headC x [15,c]=true:=by
 obtain ⟨c0,c1⟩:=hc
 have:=all2_of (List.all_eq_true.1 headC_all x hx) (a:=c / 16) (b:=c % 16) (by omega) (by omega) (by omega) (by omega)
 rw [show 16*(c / 16)+c % 16=c by omega] at this
 exact Bool.and_eq_true_iff.1 this
theorem lastG_a {f:Int} (h1:f ≠ 1) (h2:f ≠ 2) (cn:Bool) (l a b d:Int) (ft:Bool):lastG f cn l a d ft=lastG f cn l b d ft:=by
 unfold lastG
 rw [beq_eq_false_iff_ne.2 h1,beq_eq_false_iff_ne.2 h2]
 simp only [cond_false]
theorem lastG_f {f:Int} (h6:f ≠ 6) (cn:Bool) (l a d:Int) (ft fu:Bool):lastG f cn l a d ft=lastG f cn l a d fu:=by
 unfold lastG
 rw [beq_eq_false_iff_ne.2 h6]
 rfl
theorem head_get {x:RowT} (hx:x ∈ rowsL) {op:List Int} (hb:OpB op) (ho:opensF x op=true) {h:Int} (hh:h=0∨h=1):headK x op h=true:=by
 have key:headC x op=true:=by
  rcases hb with ⟨c,hc,rfl⟩ | ⟨c,hc,rfl⟩
  ·exact (headC_of hx hc).1
  ·exact (headC_of hx hc).2
 unfold headC at key
 rw [ho,cond_true] at key
 obtain ⟨k0,k1⟩:=Bool.and_eq_true_iff.1 key
 rcases hh with rfl | rfl
 ·exact k0
 ·exact k1
theorem head_rng {x:RowT} (hx:x ∈ rowsL) {op:List Int} (hb:OpB op) (ho:opensF x op=true) (hf:formR x=1∨formR x=2):0≤restN x op∧restN x op<8:=by
 have:=head_get hx hb ho (h:=0) (.inl rfl)
 unfold headK at this
 have e:(formR x == 1 || formR x == 2)=true:=by rcases hf with e | e <;> rw [e] <;> rfl
 rw [e,cond_true] at this
 have:=(Bool.and_eq_true_iff.1 this).2
 simpa using this
theorem head_fwd {x:RowT} (hx:x ∈ rowsL) {op:List Int} (hb:OpB op) (ho:opensF x op=true) {h:Int} (hh:h=0∨h=1) {i:InsT} (ha:formR x=1∨formR x=2→i.2.1=restN x op+8*h)
  (hd:i.2.2.2.2.1=cond (condR x) (restN x op) 0) (hft:formR x=6→fitsF i.2.2.2.2.2=(op.getD 0 0 == 131)):headI x i=op:=by
 have:=head_get hx hb ho hh
 unfold headK at this
 have:=eq_of_beq (Bool.and_eq_true_iff.1 this).1
 unfold headI lastO
 rw [lastF_eq,hd]
 refine Eq.trans ?_ this
 refine congrArg (fun c=>hdF x.2.2.1++[c]) ?_
 by_cases h6:formR x=6
 ·rw [hft h6]
  exact lastG_a (by omega) (by omega) _ _ _ _ _ _
 ·rw [lastG_f h6 _ _ _ _ (fitsF i.2.2.2.2.2) (op.getD 0 0 == 131)]
  by_cases h12:formR x=1∨formR x=2
  ·rw [ha h12]
  ·exact lastG_a (by omega) (by omega) _ _ _ _ _ _
def unC (f R:Int):Bool:=cond (and8 R (unusedF f) != 0) true (cond (f == 0 || f == 11 || f == 12) (R % 8 == 0) (cond (f == 7 || f == 8) (R / 2 % 2 == 0) (cond (f == 9 || f == 10) true (R % 8 == R % 2))))
theorem unC_all:forms.all (fun f=>all1 16 fun R=>unC f R)=true:=by kernel_rfl
def rexC (R:Int):Bool:=cond (and8 R 8 != 0) (R == 8+R % 8) (R == R % 8) && ((and8 R 8 == 0) == !(and8 R 8 != 0))
theorem rexC_all:all1 16 rexC=true:=by kernel_rfl
theorem pref_fwd {x:RowT} (hx:x ∈ rowsL) {fs has:Bool} {R:Int} (r0:0≤R) (r1:R<16) (h0:has=false→R=0) (h:prefF x fs R has=true) :
  fs=(formR x == 10)∧unC (formR x) R=true∧and8 R (unusedF (formR x))=0∧rexL x.2.1 (R % 8)=cond has [64+R] []:=by
 have hfm:formR x ∈ forms:=by simpa [formOk] using List.all_eq_true.1 rows_forms x hx
 have hu:=all1_of (List.all_eq_true.1 unC_all _ hfm) r0 r1
 unfold prefF at h
 cases e1:(!(fs == (formR x == 10)))
 ·rw [e1,cond_false] at h
  have e1:fs=(formR x == 10):=by simpa using e1
  cases e2:(and8 R (unusedF (formR x)) != 0)
  ·rw [e2,cond_false] at h
   refine ⟨e1,hu,bne_tt e2,?_⟩
   obtain ⟨c1,c2⟩:=Bool.and_eq_true_iff.1 (all1_of rexC_all r0 r1)
   have c2:=eq_of_beq c2
   obtain ⟨o1,o2,-⟩:=or8_of (r:=R % 8) (by omega) (by omega)
   unfold rexL
   rcases (rex_of hx).1 with hr | hr | hr
   ·rw [hr] at h ⊢
    have h:cond (and8 R 8 == 0) (cond (!has) true (R != 0)) false=true:=h
    cases e8:(and8 R 8 == 0)
    ·rw [e8] at h; cases h
    ·rw [e8] at c2
     have e8' : (and8 R 8 != 0)=false:=by simpa using c2.symm
     rw [e8',cond_false] at c1
     have c1:=eq_of_beq c1
     rw [e8,cond_true] at h
     rw [show ((0:Int) == 0)=true from rfl,cond_true,o2,← c1]
     cases has
     ·rw [h0 rfl]; rfl
     ·have h:(R != 0)=true:=h
      rw [h,cond_true]
   ·rw [hr] at h ⊢
    have h:(and8 R 8 != 0)=true:=h
    rw [h,cond_true] at c1
    have c1:=eq_of_beq c1
    show [or8 64 (or8 (R % 8) 8)]=_
    rw [o1,← c1]
    cases has
    ·have:=h0 rfl; omega
    ·rfl
   ·rw [hr] at h ⊢
    have h:cond has (and8 R 8 == 0) false=true:=h
    cases has
    ·cases h
    ·rw [cond_true] at h
     rw [h] at c2
     have e8' : (and8 R 8 != 0)=false:=by simpa using c2.symm
     rw [e8',cond_false] at c1
     have c1:=eq_of_beq c1
     show [or8 64 (R % 8)]=_
     rw [o2,← c1]
     rfl
  ·rw [e2] at h; cases h
 ·rw [e1] at h; cases h
theorem rest_e (R:Int) (x:RowT) (op:List Int) (c:Int) (t:List Int) (k:Int):restQ R x op c t k=formQ (formR x) R x op c t k (cond (condR x) (restN x op) 0):=by
 unfold restQ lastQ restN
 cases condR x <;> rfl
theorem formQ_2' (R:Int) (x:RowT) (op:List Int) (c:Int) (t:List Int) (k d:Int):formQ 2 R x op c t k d=num8Q t k fun n _ k=>finQ x (x.1,wi (restN x op+bitF R 1),0,0,d,n) k:=rfl
theorem lastG_9 (l a d:Int) (ft:Bool):lastG 9 false l a d ft=l:=rfl
def Fwd (x:RowT) (op:List Int) (R:Int) (pre t:List Int) (k:Int) (i:InsT) (n:Int):Prop:=
 i.1=x.1∧faultyF x i=0∧rI x i=R % 8∧headI x i=op ∧ ∃ used rest,t=used++rest∧n=k+(used.length:Int)∧tailI x i=pre++used
section
variable {x:RowT} (hx:x ∈ rowsL) {op:List Int} (hb:OpB op) (ho:opensF x op=true) {R:Int} (r0:0≤R) (r1:R<16) (hu:unC (formR x) R=true) (hz:and8 R (unusedF (formR x))=0)
include hx hb ho r0 r1 hu hz
omit hx hb ho r0 r1 in
theorem un_0 (hf:formR x=0∨formR x=11∨formR x=12):R % 8=0:=by
 have h:=hu
 unfold unC at h
 rw [hz] at h
 rcases hf with e | e | e <;> rw [e] at h <;> exact eq_of_beq h
omit hx hb ho r0 r1 in
theorem un_1 (hf:formR x=1∨formR x=2∨formR x=3∨formR x=4∨formR x=5∨formR x=6):R % 8=R % 2:=by
 have h:=hu
 unfold unC at h
 rw [hz] at h
 rcases hf with e | e | e | e | e | e <;> rw [e] at h <;> exact eq_of_beq h
omit hx hb ho r0 r1 in
theorem un_7 (hf:formR x=7∨formR x=8):R / 2 % 2=0:=by
 have h:=hu
 unfold unC at h
 rw [hz] at h
 rcases hf with e | e <;> rw [e] at h <;> exact eq_of_beq h
omit r0 r1 in
theorem fwd_0 (hf:formR x=0) {t:List Int} {k:Int} {i:InsT} {n:Int} (h:restQ R x op 0 t k = .ok (i,n)):Fwd x op R [] t k i n:=by
 rw [rest_e,hf] at h
 obtain ⟨rfl,rfl,he⟩:=fin_fwd (h:finQ x _ k=_)
 exact ⟨rfl,he,(rI_none (.inl hf)).trans (un_0 hu hz (.inl hf)).symm,head_fwd hx hb ho (.inl rfl) (fun e=>by omega) rfl (fun e=>by omega),[],t,rfl,by simp,(tail_0 hf).trans rfl⟩
theorem reg_fwd (hf:formR x=1∨formR x=2):wi (restN x op+bitF R 1)=restN x op+8*(R % 2)∧0≤restN x op+8*(R % 2)∧restN x op+8*(R % 2)<16∧or8 0 (hi4 (restN x op+8*(R % 2)) 1)=R % 8:=by
 have hn:=head_rng hx hb ho hf
 have e:=un_1 hu hz (by omega)
 rw [(bit_eq r0 r1).2.2,wi_small (by omega) (by omega)]
 refine ⟨rfl,by omega,by omega,?_⟩
 rw [hi_eq (by omega) (by omega),e]
 omega
theorem fwd_1 (hf:formR x=1) {t:List Int} {k:Int} {i:InsT} {n:Int} (h:restQ R x op 0 t k = .ok (i,n)):Fwd x op R [] t k i n:=by
 obtain ⟨g1,g2,g3,g4⟩:=reg_fwd hx hb ho r0 r1 hu hz (.inl hf)
 rw [rest_e,hf,formQ_1] at h
 obtain ⟨rfl,rfl,he⟩:=fin_fwd (h:finQ x (x.1,wi (restN x op+bitF R 1),0,0,_,0) k=_)
 refine ⟨rfl,he,?_,head_fwd hx hb ho (h:=R % 2) (by omega) (fun _=>g1) rfl (fun e=>by omega),[],t,rfl,by simp,(tail_1 hf).trans rfl⟩
 unfold rI
 rw [hf]
 show or8 0 (hi4 (wi (restN x op+bitF R 1)) 1)=R % 8
 rw [g1,g4]
theorem fwd_2 (hf:formR x=2) {t:List Int} (ht:AllB t) {k:Int} {i:InsT} {n:Int} (h:restQ R x op 0 t k = .ok (i,n)):Fwd x op R [] t k i n:=by
 obtain ⟨g1,g2,g3,g4⟩:=reg_fwd hx hb ho r0 r1 hu hz (.inr hf)
 rw [rest_e,hf,formQ_2'] at h
 obtain ⟨m,rest,e,hr,h⟩:=num8_fwd ht h
 obtain ⟨rfl,rfl,he⟩:=fin_fwd h
 refine ⟨rfl,he,?_,head_fwd hx hb ho (h:=R % 2) (by omega) (fun _=>g1) rfl (fun e=>by omega),im8 m,rest,e,rfl,(tail_2 hf).trans rfl⟩
 unfold rI
 rw [hf]
 show or8 0 (hi4 (wi (restN x op+bitF R 1)) 1)=R % 8
 rw [g1,g4]
omit r0 r1 in
theorem fwd_11 (hf:formR x=11) {t:List Int} (ht:AllB t) {k:Int} {i:InsT} {n:Int} (h:restQ R x op 0 t k = .ok (i,n)):Fwd x op R [] t k i n:=by
 rw [rest_e,hf,formQ_11] at h
 obtain ⟨m,rest,e,hr,-,h⟩:=num4_fwd ht h
 obtain ⟨rfl,rfl,he⟩:=fin_fwd h
 exact ⟨rfl,he,(rI_none (.inr (.inl hf))).trans (un_0 hu hz (by omega)).symm,head_fwd hx hb ho (.inl rfl) (fun e=>by omega) rfl (fun e=>by omega),im4 m,rest,e,rfl,(tail_11 hf).trans rfl⟩
omit r0 r1 in
theorem fwd_12 (hf:formR x=12) {t:List Int} (ht:AllB t) {k:Int} {i:InsT} {n:Int} (h:restQ R x op 0 t k = .ok (i,n)):Fwd x op R [] t k i n:=by
 rw [rest_e,hf,formQ_12] at h
 obtain ⟨m,rest,e,hr,-,h⟩:=num1_fwd ht h
 obtain ⟨rfl,rfl,he⟩:=fin_fwd h
 exact ⟨rfl,he,(rI_none (.inr (.inr hf))).trans (un_0 hu hz (by omega)).symm,head_fwd hx hb ho (.inl rfl) (fun e=>by omega) rfl (fun e=>by omega),im1 m,rest,e,rfl,(tail_12 hf).trans rfl⟩
omit hb ho in
theorem grp_fwd {c:Int} (hc:IsB c) (hfit:fitC c x=true) (hf:formR x=3∨formR x=4∨formR x=5∨formR x=6):(0≤lowF c R∧lowF c R<16)∧mrB 3 (wi x.2.2.2.2.1) (lowF c R)=c∧lowF c R / 8=R % 8:=by
 obtain ⟨d0,d1,d2⟩:=dg_rng hx
 have hl:=lowF_eq hc.1 hc.2 r0 r1
 obtain ⟨q1,q2,q3,q4⟩:=byte_eq hc.1 hc.2
 have e:=un_1 hu hz (by omega)
 have hg:grpF (formR x)=true:=by unfold grpF; rcases hf with e | e | e | e <;> rw [e] <;> rfl
 obtain ⟨c0,c1⟩:=hc
 unfold fitC at hfit
 rw [fit_grp hg,q2] at hfit
 cases h3:(Int.fdiv c (2 ^ 6) == 3)
 ·rw [h3] at hfit; cases hfit
 ·rw [h3,cond_true] at hfit
  have h3:c / 64=3:=q1.symm.trans (eq_of_beq h3)
  have hdg:=eq_of_beq hfit
  have hm:=mrB_eq (m:=3) (by decide) (by decide) (show 0≤wi x.2.2.2.2.1 by omega) (show wi x.2.2.2.2.1<16 by omega) (show 0≤lowF c R by omega) (show lowF c R<16 by omega)
  refine ⟨by omega,?_,by omega⟩
  rw [hm,d2,← hdg,hl]
  omega
theorem fwd_3 (hf:formR x=3) {c:Int} (hc:IsB c) (hfit:fitC c x=true) {t:List Int} {k:Int} {i:InsT} {n:Int} (h:restQ R x op c t k = .ok (i,n)):Fwd x op R [c] t k i n:=by
 obtain ⟨g1,g2,g3⟩:=grp_fwd hx r0 r1 hu hz hc hfit (by omega)
 rw [rest_e,hf,formQ_3] at h
 obtain ⟨rfl,rfl,he⟩:=fin_fwd h
 refine ⟨rfl,he,(rI_grp hx g1 (by omega)).trans g3,head_fwd hx hb ho (.inl rfl) (fun e=>by omega) rfl (fun e=>by omega),[],t,rfl,by simp,(tail_3 hf).trans ?_⟩
 show [mrB 3 (wi x.2.2.2.2.1) (lowF c R)]=_
 rw [g2]; rfl
theorem fwd_4 (hf:formR x=4) {c:Int} (hc:IsB c) (hfit:fitC c x=true) {t:List Int} (ht:AllB t) {k:Int} {i:InsT} {n:Int} (h:restQ R x op c t k = .ok (i,n)):Fwd x op R [c] t k i n:=by
 obtain ⟨g1,g2,g3⟩:=grp_fwd hx r0 r1 hu hz hc hfit (by omega)
 rw [rest_e,hf,formQ_4] at h
 obtain ⟨m,rest,e,hr,-,h⟩:=num4_fwd ht h
 obtain ⟨rfl,rfl,he⟩:=fin_fwd h
 refine ⟨rfl,he,(rI_grp hx g1 (by omega)).trans g3,head_fwd hx hb ho (.inl rfl) (fun e=>by omega) rfl (fun e=>by omega),im4 m,rest,e,rfl,(tail_4 hf).trans ?_⟩
 show mrB 3 (wi x.2.2.2.2.1) (lowF c R) :: im4 m=_
 rw [g2]; rfl
theorem fwd_5 (hf:formR x=5) {c:Int} (hc:IsB c) (hfit:fitC c x=true) {t:List Int} (ht:AllB t) {k:Int} {i:InsT} {n:Int} (h:restQ R x op c t k = .ok (i,n)):Fwd x op R [c] t k i n:=by
 obtain ⟨g1,g2,g3⟩:=grp_fwd hx r0 r1 hu hz hc hfit (by omega)
 rw [rest_e,hf,formQ_5] at h
 obtain ⟨m,rest,e,hr,-,h⟩:=num1_fwd ht h
 obtain ⟨rfl,rfl,he⟩:=fin_fwd h
 refine ⟨rfl,he,(rI_grp hx g1 (by omega)).trans g3,head_fwd hx hb ho (.inl rfl) (fun e=>by omega) rfl (fun e=>by omega),im1 m,rest,e,rfl,(tail_5 hf).trans ?_⟩
 show mrB 3 (wi x.2.2.2.2.1) (lowF c R) :: im1 m=_
 rw [g2]; rfl
theorem fwd_6 (hf:formR x=6) {c:Int} (hc:IsB c) (hfit:fitC c x=true) {t:List Int} (ht:AllB t) {k:Int} {i:InsT} {n:Int} (h:restQ R x op c t k = .ok (i,n)):Fwd x op R [c] t k i n:=by
 obtain ⟨g1,g2,g3⟩:=grp_fwd hx r0 r1 hu hz hc hfit (by omega)
 rw [rest_e,hf,formQ_6] at h
 cases hop:(op.getD 0 0 == 131)
 ·rw [hop,cond_false] at h
  obtain ⟨m,rest,e,hr,-,h⟩:=num4_fwd ht h
  obtain ⟨q,h⟩:=must_fwd h
  have q:fitsF m=false:=by simpa using q
  obtain ⟨rfl,rfl,he⟩:=fin_fwd h
  refine ⟨rfl,he,(rI_grp hx g1 (by omega)).trans g3,head_fwd hx hb ho (.inl rfl) (fun e=>by omega) rfl (fun e=>q.trans hop.symm),im4 m,rest,e,rfl,(tail_6 hf).trans ?_⟩
  show mrB 3 (wi x.2.2.2.2.1) (lowF c R) :: immS m=_
  unfold immS
  rw [g2,q]; rfl
 ·rw [hop,cond_true] at h
  obtain ⟨m,rest,e,hr,hm,h⟩:=num1_fwd ht h
  have q:fitsF m=true:=(fitsF_iff m).2 hm
  obtain ⟨rfl,rfl,he⟩:=fin_fwd h
  refine ⟨rfl,he,(rI_grp hx g1 (by omega)).trans g3,head_fwd hx hb ho (.inl rfl) (fun e=>by omega) rfl (fun e=>q.trans hop.symm),im1 m,rest,e,rfl,(tail_6 hf).trans ?_⟩
  show mrB 3 (wi x.2.2.2.2.1) (lowF c R) :: immS m=_
  unfold immS
  rw [g2,q]; rfl
omit hx hb ho in
theorem two_fwd {c:Int} (hc:IsB c) (hfit:fitC c x=true) (hf:formR x=7∨formR x=8):mrB 3 (midF c R) (lowF c R)=c∧rexM 0 (midF c R) (lowF c R)=R % 8:=by
 have hl:=lowF_eq hc.1 hc.2 r0 r1
 have hm:=midF_eq hc.1 hc.2 r0 r1
 obtain ⟨q1,q2,q3,q4⟩:=byte_eq hc.1 hc.2
 have e:=un_7 hu hz hf
 have h3:modF c=3:=fit_3 (x:=x) (by rcases hf with e | e <;> rw [e] <;> rfl) hfit
 obtain ⟨c0,c1⟩:=hc
 have l0:0≤lowF c R∧lowF c R<16:=by omega
 have m0:0≤midF c R∧midF c R<16:=by omega
 refine ⟨?_,?_⟩
 ·rw [mrB_eq (by decide) (by decide) m0.1 m0.2 l0.1 l0.2,show midF c R % 8=c / 8 % 8 by omega,show lowF c R % 8=c % 8 by omega]
  omega
 ·rw [rexM_eq m0.1 m0.2 l0.1 l0.2,show midF c R / 8=R / 4 % 2 by omega,show lowF c R / 8=R % 2 by omega,bits8 r0 r1,e]
  omega
theorem fwd_7 (hf:formR x=7) {c:Int} (hc:IsB c) (hfit:fitC c x=true) {t:List Int} {k:Int} {i:InsT} {n:Int} (h:restQ R x op c t k = .ok (i,n)):Fwd x op R [c] t k i n:=by
 obtain ⟨g1,g2⟩:=two_fwd r0 r1 hu hz hc hfit (.inl hf)
 rw [rest_e,hf,formQ_7] at h
 obtain ⟨rfl,rfl,he⟩:=fin_fwd h
 refine ⟨rfl,he,?_,head_fwd hx hb ho (.inl rfl) (fun e=>by omega) rfl (fun e=>by omega),[],t,rfl,by simp,(tail_7 hf).trans ?_⟩
 ·unfold rI
  rw [hf]
  exact g2
 ·show [mrB 3 (midF c R) (lowF c R)]=_
  rw [g1]; rfl
theorem fwd_8 (hf:formR x=8) {c:Int} (hc:IsB c) (hfit:fitC c x=true) {t:List Int} {k:Int} {i:InsT} {n:Int} (h:restQ R x op c t k = .ok (i,n)):Fwd x op R [c] t k i n:=by
 obtain ⟨g1,g2⟩:=two_fwd r0 r1 hu hz hc hfit (.inr hf)
 rw [rest_e,hf,formQ_8] at h
 obtain ⟨rfl,rfl,he⟩:=fin_fwd h
 refine ⟨rfl,he,?_,head_fwd hx hb ho (.inl rfl) (fun e=>by omega) rfl (fun e=>by omega),[],t,rfl,by simp,(tail_8 hf).trans ?_⟩
 ·unfold rI
  rw [hf]
  exact g2
 ·show [mrB 3 (midF c R) (lowF c R)]=_
  rw [g1]; rfl
omit hu hz in
theorem fwd_9 (hf:formR x=9) {c:Int} (hc:IsB c) (hfit:fitC c x=true) {t:List Int} (ht:AllB t) {k:Int} {i:InsT} {n:Int} (h:restQ R x op c t k = .ok (i,n)):Fwd x op R [c] t k i n:=by
 have h3:modF c ≠ 3:=fit_9 (x:=x) (by rw [hf]; rfl) hfit
 unfold restQ at h
 rw [cond_9 hx hf,cond_false,hf,formQ_9] at h
 obtain ⟨b,cc,d,m,used,rest,e1,e2,h⟩:=place_fwd r0 r1 hc h3 ht h
 obtain ⟨rfl,rfl,he⟩:=fin_fwd h
 have hd:d=cond (condR x) (restN x op) 0∨True:=.inr trivial
 refine ⟨rfl,he,?_,?_,used,rest,e1,rfl,(tail_9 hf).trans ?_⟩
 ·unfold rI
  rw [hf]
  show (memP (midF c R) b cc d m).1=_
  rw [e2]
 ·have hh:=head_get hx hb ho (h:=0) (.inl rfl)
  unfold headK at hh
  have hh:=eq_of_beq (Bool.and_eq_true_iff.1 hh).1
  unfold headI lastO
  rw [lastF_eq]
  refine Eq.trans ?_ hh
  rw [cond_9 hx hf,hf,lastG_9,lastG_9]
 ·show (memP (midF c R) b cc d m).2=_
  rw [e2]; rfl
omit hu hz in
theorem fwd_10 (hR:R=8∨R=12) (hf:formR x=10) {c:Int} (hc:IsB c) (hfit:fitC c x=true) {t:List Int} (ht:AllB t) {k:Int} {i:InsT} {n:Int} (h:restQ R x op c t k = .ok (i,n)):Fwd x op R [c] t k i n:=by
 have hm:=midF_eq hc.1 hc.2 r0 r1
 obtain ⟨q1,q2,q3,q4⟩:=byte_eq hc.1 hc.2
 have hfit:c / 64=0∧c % 8=4:=by
  unfold fitC fitF at hfit
  rw [hf] at hfit
  have hfit:cond (modF c == 0) (and8 c 7 == 4) false=true:=hfit
  cases h0:(modF c == 0)
  ·rw [h0] at hfit; cases hfit
  ·rw [h0,cond_true] at hfit
   have h0:=eq_of_beq h0
   have hfit:=eq_of_beq hfit
   omega
 obtain ⟨c0,c1⟩:=hc
 have m0:0≤midF c R∧midF c R<16:=by omega
 rw [rest_e,hf,formQ_10] at h
 obtain ⟨e,t2,et,h2⟩:=nxQ_fwd h
 obtain ⟨h37,h3⟩:=must_fwd h2
 have h37:=eq_of_beq h37
 subst h37
 rw [et] at ht
 obtain ⟨m,rest,e1,hr,-,h4⟩:=num4_fwd (allB_hd ht).2 h3
 obtain ⟨rfl,rfl,he⟩:=fin_fwd h4
 refine ⟨rfl,he,?_,head_fwd hx hb ho (.inl rfl) (fun e=>by omega) rfl (fun e=>by omega),37 :: im4 m,rest,by rw [et,e1]; rfl,?_,(tail_10 hf).trans ?_⟩
 ·unfold rI
  rw [hf]
  show rexM 0 (midF c R) 4=_
  rw [rexM_eq m0.1 m0.2 (by decide) (by decide)]
  omega
 ·simp only [List.length_cons]
  show k+1+4=_
  have:(im4 m).length=4:=rfl
  omega
 ·show mrB 0 (midF c R) 4 :: 37 :: im4 m=_
  rw [mrB_eq (by decide) (by decide) m0.1 m0.2 (by decide) (by decide),show 64*0+8*(midF c R % 8)+4 % 8=c by omega]
  rfl
end
theorem rows_named:rowsL.all (fun x=>fok x.1 && frow x.1 == x)=true:=by kernel_rfl
theorem enc_dec {l:List Int} (hl:AllB l) {i:InsT} {n:Int} (h:decQ l = .ok (i,n)):encE i=0∧encL i=l.take n.toNat∧0≤n∧n≤(l.length:Int):=by
 obtain ⟨n0,n1,-⟩:=dec_short hl h
 obtain ⟨op,k,fs,R,has,hop,x,hx,hr⟩:=dec_parts hl h
 obtain ⟨s1,s2,s3,s4,k0,e1,e2⟩:=opc_split hl hop
 obtain ⟨hx,ho,hp⟩:=cands_of hx
 obtain ⟨p1,p2,p3,p4⟩:=pref_fwd hx s2.1 s2.2 s3 hp
 have hrest:AllB (l.drop k.toNat):=fun c hc=>hl c (List.mem_of_mem_drop hc)
 have fin:∀ {pre t:List Int} {k' : Int},l.drop k.toNat=pre++t→k' = k+(pre.length:Int)→Fwd x op R pre t k' i n→encE i=0∧encL i=l.take n.toNat∧0≤n∧n≤(l.length:Int):=by
  intro pre t k' hd hk ⟨f1,f2,f3,f4,used,rest,f5,f6,f7⟩
  have hn:=List.all_eq_true.1 rows_named x hx
  obtain ⟨g1,g2⟩:=Bool.and_eq_true_iff.1 hn
  have g2:=eq_of_beq g2
  rw [← f1] at g1 g2
  refine ⟨?_,?_,n0,n1⟩
  ·unfold encE
   rw [g1,g2,f2]; rfl
  ·rw [enc_split,g2]
   unfold frontI
   rw [f3,f4,f7]
   have hfs:fsF (formR x)=cond fs [100] []:=by unfold fsF; rw [p1]
   rw [hfs,p4]
   have hl2:l=(cond fs [100] []++cond has [64+R] []++op++(pre++used))++rest:=by
    rw [List.append_assoc,List.append_assoc pre,← f5,← hd]
    exact e1
   have hlen:n.toNat=(cond fs [100] []++cond has [64+R] []++op++(pre++used)).length:=by
    have e3:(pre++used).length=pre.length+used.length:=List.length_append
    rw [List.length_append]
    omega
   rw [hlen]
   exact (congrArg (List.take _) hl2 |>.trans List.take_left).symm
 have hfm:formR x ∈ forms:=by simpa [formOk] using List.all_eq_true.1 rows_forms x hx
 unfold forms at hfm
 simp only [List.mem_cons,List.not_mem_nil,or_false] at hfm
 rcases hr with ⟨hm,hr⟩ | ⟨hm,c,t,hd,hf,hr⟩
 ·have go:Fwd x op R [] (l.drop k.toNat) k i n→_:=fin rfl (by simp)
  have no:∀ {f:Int},formR x=f→modOf f=true→encE i=0∧encL i=l.take n.toNat∧0≤n∧n≤(l.length:Int):=fun e h=>by
   rw [e,h] at hm; cases hm
  rcases hfm with e | e | e | e | e | e | e | e | e | e | e | e | e
  ·exact go (fwd_0 hx s1 ho p2 p3 e hr)
  ·exact go (fwd_1 hx s1 ho s2.1 s2.2 p2 p3 e hr)
  ·exact go (fwd_2 hx s1 ho s2.1 s2.2 p2 p3 e hrest hr)
  ·exact no e rfl
  ·exact no e rfl
  ·exact no e rfl
  ·exact no e rfl
  ·exact no e rfl
  ·exact no e rfl
  ·exact no e rfl
  ·exact no e rfl
  ·exact go (fwd_11 hx s1 ho p2 p3 e hrest hr)
  ·exact go (fwd_12 hx s1 ho p2 p3 e hrest hr)
 ·have go:Fwd x op R [c] t (k+1) i n→_:=fin hd (by simp)
  rw [hd] at hrest
  obtain ⟨hc,ht⟩:=allB_hd hrest
  have no:∀ {f:Int},formR x=f→modOf f=false→encE i=0∧encL i=l.take n.toNat∧0≤n∧n≤(l.length:Int):=fun e h=>by
   rw [e,h] at hm; cases hm
  rcases hfm with e | e | e | e | e | e | e | e | e | e | e | e | e
  ·exact no e rfl
  ·exact no e rfl
  ·exact no e rfl
  ·exact go (fwd_3 hx s1 ho s2.1 s2.2 p2 p3 e hc hf hr)
  ·exact go (fwd_4 hx s1 ho s2.1 s2.2 p2 p3 e hc hf ht hr)
  ·exact go (fwd_5 hx s1 ho s2.1 s2.2 p2 p3 e hc hf ht hr)
  ·exact go (fwd_6 hx s1 ho s2.1 s2.2 p2 p3 e hc hf ht hr)
  ·exact go (fwd_7 hx s1 ho s2.1 s2.2 p2 p3 e hc hf hr)
  ·exact go (fwd_8 hx s1 ho s2.1 s2.2 p2 p3 e hc hf hr)
  ·exact go (fwd_9 hx s1 ho s2.1 s2.2 e hc hf ht hr)
  ·refine go (fwd_10 hx s1 ho s2.1 s2.2 ?_ e hc hf ht hr)
   rw [e] at p1
   exact (s4 p1).2
  ·exact no e rfl
  ·exact no e rfl
end Go.Amd

namespace Go.Amd
open Go Go.Ab Go.Proofs
def dI (l:List Int) (at_:Int):InsT:=cond (outOf l at_) zeroI (match decQ (l.drop at_.toNat) with | .ok (i,_)=>i | .error _=>zeroI)
def dN (l:List Int) (at_:Int):Int:=cond (outOf l at_) 0 (match decQ (l.drop at_.toNat) with | .ok (_,n)=>n | .error _=>0)
def dE (l:List Int) (at_:Int):Int:=cond (outOf l at_) 5 (match decQ (l.drop at_.toNat) with | .ok _=>0 | .error e=>e)
theorem decV_eq (l:List Int) (at_:Int):decV l at_ = .tup [insV (dI l at_),.int .i64 (dN l at_),.int .i64 (dE l at_)]:=by
 unfold decV dI dN dE
 cases outOf l at_
 ·simp only [cond_false]
  cases decQ (l.drop at_.toNat) <;> rfl
 ·rfl
def decodeT:Ab.Spec:=fun args=>match args with
 | [.sl (.int .u8) l _ _,.int .i64 at_]=>.req (decide (l.length<1000000000)) (.req (bytesB l) (.leaf (.tup [insV (dI l at_),.int .i64 (dN l at_),.int .i64 (dE l at_)])))
 | _=>.fail
theorem decodeT_ok:Sound Tryz.prog 58 decodeT:=by
 intro args out h
 refine decodeS_ok args out ?_
 unfold decodeT at h
 split at h
 rotate_left
 ·cases h
 exact Eq.trans (congrArg (fun v=>(Tree.req _ (Tree.req _ (Tree.leaf v))).run) (decV_eq _ _)) h
theorem dec_err {l:List Int} {at_:Int} (h:(dE l at_ != 0)=true):dI l at_=zeroI∧dN l at_=0:=by
 unfold dE at h
 unfold dI dN
 cases ho:outOf l at_
 ·rw [ho,cond_false] at h
  rw [cond_false,cond_false]
  cases hd:decQ (l.drop at_.toNat) with
  | ok p=>rw [hd] at h; cases h
  | error e=>exact ⟨rfl,rfl⟩
 ·exact ⟨rfl,rfl⟩
def ErrP (F:List Int→Int→RestR):Prop:=∀ (t:List Int) (k e m:Int),F t k = .error (e,m)→e ≠ 0
theorem err_fin (x:RowT) (i:InsT):ErrP fun _ k=>finQ x i k:=by
 intro t k e m h
 have h:finQ x i k = .error (e,m):=h
 unfold finQ at h
 cases hc:(!(faultyF x i == 0))
 ·rw [hc] at h; cases h
 ·rw [hc,cond_true] at h; cases h; decide
theorem err_must {b:Bool} {F:List Int→Int→RestR} (h:ErrP F):ErrP fun t k=>mustQ b k (F t k):=by
 intro t k e m he
 cases b
 ·cases he; decide
 ·exact h t k e m he
theorem err_cond {b:Bool} {F G:List Int→Int→RestR} (h:ErrP F) (g:ErrP G):ErrP fun t k=>cond b (F t k) (G t k):=by
 cases b
 ·exact g
 ·exact h
theorem err_nx {K:Int→List Int→Int→RestR} (h:∀ c,ErrP (K c)):ErrP fun t k=>nxQ t k K:=by
 intro t k e m he
 cases t with
 | nil=>cases he; decide
 | cons c t=>exact h c t (k+1) e m he
theorem err_num1 {K:Int→List Int→Int→RestR} (h:∀ c,ErrP (K c)):ErrP fun t k=>num1Q t k K:=err_nx fun _=>h _
theorem err_num4 {K:Int→List Int→Int→RestR} (h:∀ c,ErrP (K c)):ErrP fun t k=>num4Q t k K:=err_nx fun _=>err_nx fun _=>err_nx fun _=>err_nx fun _=>h _
theorem err_num8 {K:Int→List Int→Int→RestR} (h:∀ c,ErrP (K c)):ErrP fun t k=>num8Q t k K:=
 err_nx fun _=>err_nx fun _=>err_nx fun _=>err_nx fun _=>err_nx fun _=>err_nx fun _=>err_nx fun _=>err_nx fun _=>h _
theorem err_22:ErrP fun _ k=>.error (22,k):=fun t k e m h=>by cases h; decide
theorem err_mod (c b:Int) {K:Int→List Int→Int→RestR} (h:∀ c,ErrP (K c)):ErrP fun t k=>modQ c b t k K:=
 err_cond (err_num1 fun n=>err_cond (h n) (err_must (h n))) (err_cond (err_num4 fun n=>err_must (h n)) (h 0))
theorem err_sib2 (R c e:Int) {K:PlaceK} (h:∀ b cc d n,ErrP (K b cc d n)):ErrP fun t k=>sibQ2 R c e t k K:=
 err_cond (err_cond (err_must (err_mod _ _ fun n=>h _ _ _ n)) err_22) (err_mod _ _ fun n=>h _ _ _ n)
theorem err_sib (R c:Int) {K:PlaceK} (h:∀ b cc d n,ErrP (K b cc d n)):ErrP fun t k=>sibQ R c t k K:=
 err_nx fun e=>err_cond (err_sib2 R c e h) (err_must (err_sib2 R c e h))
theorem err_base (R c:Int) {K:PlaceK} (h:∀ b cc d n,ErrP (K b cc d n)):ErrP fun t k=>baseQ R c t k K:=
 err_cond (err_sib R c h) (err_must (err_mod _ _ fun n=>h _ _ _ n))
theorem err_place (R c:Int) {K:PlaceK} (h:∀ b cc d n,ErrP (K b cc d n)):ErrP fun t k=>placeQ R c t k K:=
 err_cond (err_cond (err_must (err_num4 fun n=>h _ _ _ n)) (err_base R c h)) (err_base R c h)
theorem err_form (f R:Int) (x:RowT) (op:List Int) (c d:Int):ErrP fun t k=>formQ f R x op c t k d:=by
 unfold formQ lastQ
 refine err_cond (err_fin x _) (err_cond (err_fin x _) (err_cond (err_num8 fun n=>err_fin x _) (err_cond (err_fin x _) (err_cond (err_num4 fun n=>err_fin x _) (err_cond (err_num1 fun n=>err_fin x _)
  (err_cond (err_cond (err_num1 fun n=>err_fin x _) (err_num4 fun n=>err_must (err_fin x _))) (err_cond (err_fin x _) (err_cond (err_fin x _) (err_cond (err_place R c fun b cc d n=>err_fin x _)
  (err_cond (err_nx fun e=>err_must (err_num4 fun n=>err_fin x _)) (err_cond (err_num4 fun n=>err_fin x _) (err_num1 fun n=>err_fin x _))))))))))))
theorem err_rest (R:Int) (x:RowT) (op:List Int) (c:Int):ErrP fun t k=>restQ R x op c t k:=by
 unfold restQ lastQ
 exact err_cond (err_form _ R x op c _) (err_form _ R x op c 0)
theorem err_opc {l:List Int} {e:Int} {s:Int × Bool × Int × Bool} (h:opcP l = .error (e,s)):e ≠ 0:=by
 cases l with
 | nil=>cases h; decide
 | cons c t =>
  unfold opcP opc0 at h
  simp only at h
  cases h0:(c == 100)
  ·rw [h0,cond_false] at h
   cases h4:(sh4 c == 4)
   ·rw [h4,cond_false] at h
    cases h15:(c != 15)
    ·rw [h15,cond_false] at h
     cases t with
     | nil=>cases h; decide
     | cons d t=>cases h
    ·rw [h15] at h; cases h
   ·rw [h4,cond_true] at h
    cases t with
    | nil=>cases h; decide
    | cons d t =>
     simp only at h
     unfold opc2 at h
     cases h15:(d != 15)
     ·rw [h15,cond_false] at h
      cases h8:(!(and8 (and8 c 15) 8 != 0))
      ·rw [h8,cond_false] at h
       cases t with
       | nil=>cases h; decide
       | cons e t=>cases h
      ·rw [h8,cond_true] at h; cases h; decide
     ·rw [h15] at h; cases h
  ·rw [h0,cond_true] at h
   cases t with
   | nil=>cases h; decide
   | cons d t =>
    simp only at h
    unfold opc1 at h
    cases h48:(!(and8 d 251 == 72))
    ·rw [h48,cond_false] at h
     cases h4:(sh4 d == 4)
     ·rw [h4,cond_false] at h
      cases h15:(d != 15)
      ·rw [h15,cond_false] at h; cases h; decide
      ·rw [h15] at h; cases h
     ·rw [h4,cond_true] at h
      cases t with
      | nil=>cases h; decide
      | cons e t =>
       simp only at h
       cases h15:(e != 15)
       ·rw [h15,cond_false] at h; cases h; decide
       ·rw [h15] at h; cases h
    ·rw [h48,cond_true] at h; cases h; decide
theorem plain_err {r:RestR} {e:Int} (h:plainR r = .error e):∃ m,r = .error (e,m):=by
 cases r with
 | ok p=>cases h
 | error q =>
  refine ⟨q.2,?_⟩
  rw [← Except.error.inj h]
theorem dec_no0 (l:List Int):decQ l ≠ .error 0:=by
 intro h
 unfold decQ at h
 cases ho:opcP l with
 | error p =>
  obtain ⟨e,s⟩:=p
  rw [ho] at h
  exact err_opc ho (Except.error.inj h)
 | ok p =>
  obtain ⟨op,k,fs,R,has⟩:=p
  rw [ho] at h
  simp only at h
  cases hc:cands R op fs has with
  | nil=>rw [hc] at h; exact absurd (Except.error.inj h) (by decide)
  | cons r0 G =>
   rw [hc] at h
   simp only at h
   cases hm:modOf (formR r0)
   ·rw [hm,cond_false] at h
    obtain ⟨m,h⟩:=plain_err h
    exact err_rest R r0 op 0 _ _ _ _ h rfl
   ·rw [hm,cond_true] at h
    cases hd:l.drop k.toNat with
    | nil=>rw [hd] at h; exact absurd (Except.error.inj h) (by decide)
    | cons c t =>
     rw [hd] at h
     unfold decC at h
     simp only at h
     cases hx:(r0 :: G).find? (fitC c) with
     | none=>rw [hx] at h; exact absurd (Except.error.inj h) (by decide)
     | some x =>
      rw [hx] at h
      obtain ⟨m,h⟩:=plain_err h
      exact err_rest R x op c _ _ _ _ h rfl
theorem dec_fine {l:List Int} {at_:Int} (hb:AllB l) (h:(dE l at_ != 0)=false) :
  0≤at_∧0≤dN l at_∧at_+dN l at_≤l.length∧encE (dI l at_)=0∧encL (dI l at_)=sub l at_.toNat (at_+dN l at_).toNat:=by
 have h:=bne_tt h
 unfold dE at h
 unfold dI dN
 cases ho:outOf l at_
 ·rw [ho,cond_false] at h
  rw [cond_false,cond_false]
  have g:0≤at_∧at_≤l.length:=by
   simp only [outOf,Bool.or_eq_false_iff,decide_eq_false_iff_not] at ho
   omega
  cases hd:decQ (l.drop at_.toNat) with
  | ok p =>
   obtain ⟨i,n⟩:=p
   obtain ⟨e1,e2,e3,e4⟩:=enc_dec (fun c hc=>hb c (List.mem_of_mem_drop hc)) hd
   rw [List.length_drop] at e4
   refine ⟨g.1,e3,by show at_+n≤_; omega,e1,?_⟩
   show encL i=sub l at_.toNat (at_+n).toNat
   rw [e2]
   unfold sub
   rw [List.drop_take]
   congr 1
   omega
  | error e =>
   rw [hd] at h
   have h:e=0:=h
   rw [h] at hd
   exact absurd hd (dec_no0 _)
 ·rw [ho,cond_true] at h; cases h
section
variable {i:InsT} {p s:List Int}
end
end Go.Amd

namespace Go.Amd
open Go Go.Ab Go.Proofs
def bO (b:Bool):Option V:=some (.bool b)
def regX (u:Bool) (n:Int):Bool:=cond u (cond (decide (0≤n)) (decide (n≤15)) false) (n == 0)
def condX (d:Int):Bool:=cond (cond (decide (0≤d)) (decide (d≤9)) false) true (cond (decide (12≤d)) (decide (d≤15)) false)
def longX (n:Int):Bool:=cond (decide (-2147483648≤n)) (decide (n<2147483648)) false
def shortX (n:Int):Bool:=cond (decide (-128≤n)) (decide (n<128)) false
def placeX (b c d:Int):Bool:=cond (b == 17) (cond (c == 16) (d == 0) false) (cond (regX true b) (cond (c == 4) false (cond (c == 16) (d == 0) (cond (regX true c) (cond (d == 1) true (cond (d == 2) true (cond (d == 4) true (d == 8)))) false))) false)
end Go.Amd

namespace Go.Amd
open Go Go.Ab Go.Proofs
def e13:Option V:=some (.int .i64 13)
def e3:Option V:=some (.int .i64 3)
def e0:Option V:=some (.int .i64 0)
def hasA (f:Int):Bool:=!(f == 9 || (f == 13 || (f == 14 || (f == 15 || f == 16))))
def twoX (f:Int):Bool:=f == 1 || (f == 7 || f == 11)
def cndX (f:Int):Bool:=f == 11 || (f == 15 || f == 16)
def noneX (f:Int):Bool:=f == 1 || (f == 7 || (f == 8 || (f == 9 || (f == 11 || f == 12))))
def shrtX (f:Int):Bool:=f == 14 || f == 16
def goodK (f a b c d:Int) (k:Option V):Option V:=
 cond (regX (hasA f) a) (cond (f == 4) (cond (!placeX b c d) e13 k) (cond (regX (twoX f) b) (cond (c == 0) (cond (cndX f) (cond (!condX d) e13 k) (cond (!(d == 0)) e13 k)) e13) e13)) e13
def tailK (f n:Int):Option V:=
 cond (noneX f) (cond (n != 0) e13 e0) (cond (f == 2) e0 (cond (f == 10) (cond (decide (0≤n)) (cond (!decide (n≤63)) e3 e0) e3) (cond (shrtX f) (cond (!shortX n) e3 e0) (cond (!longX n) e3 e0))))
def formsX:List Int:=[1,2,3,4,5,6,7,8,9,10,11,12,13,14,15,16]
def ckP (q:List UInt8→Bool) (f:Int) (_:List UInt8) (_:List Int) (_ _:Int) (nm:List UInt8) (a b c d n:Int):Option V:=cond (q nm) (goodK f a b c d (tailK f n)) none
def okX (f a b c d:Int):Bool:=regX (hasA f) a && (cond (f == 4) (placeX b c d) (regX (twoX f) b && ((c == 0) && cond (cndX f) (condX d) (d == 0))))
def numX (f n:Int):Int:=cond (noneX f) (cond (n != 0) 13 0) (cond (f == 2) 0 (cond (f == 10) (cond (decide (0≤n) && decide (n≤63)) 0 3) (cond (cond (shrtX f) (shortX n) (longX n)) 0 3)))
def chkX (f a b c d n:Int):Int:=cond (okX f a b c d) (numX f n) 13
theorem formX_in:rowsX.all (fun x=>formsX.contains x.2.1 && x.2.2.1.isSome)=true:=by kernel_rfl
theorem row_op {y:RowX} (hy:y ∈ rowsX):∃ op,y.2.2.1=some op∧y.2.1 ∈ formsX:=by
 have h:=List.all_eq_true.1 formX_in _ hy
 obtain ⟨h1,h2⟩:=Bool.and_eq_true_iff.1 h
 obtain ⟨op,ho⟩:=Option.isSome_iff_exists.1 h2
 exact ⟨op,ho,by simpa using h1⟩
def checkX (i:InsT):Int:=cond (fokX i.1) (chkX (frowX i.1).2.1 i.2.1 i.2.2.1 i.2.2.2.1 i.2.2.2.2.1 i.2.2.2.2.2) 7
end Go.Amd

namespace Go.Amd
open Go Go.Ab Go.Proofs
theorem regX_eq' (u:Bool) (n:Int):regX u n=regF n u:=by
 unfold regX regF
 by_cases h0:n=0
 ·subst h0
  cases u <;> rfl
 ·have e:(n == 0)=false:=by simpa using h0
  rw [e]
  cases u
  ·rfl
  ·by_cases h1:0<n
   ·rw [decide_eq_true h1,decide_eq_true (show 0≤n by omega)]
    rfl
   ·rw [decide_eq_false h1,decide_eq_false (show ¬ 0≤n by omega)]
    rfl
theorem condX_eq' (d:Int):condX d=condF d:=rfl
theorem placeX_eq' (b c d:Int):placeX b c d=placeF b c d:=by
 unfold placeX placeF baseF
 rw [regX_eq',regX_eq']
 by_cases hb:b=17
 ·subst hb
  by_cases hc:c=16
  ·subst hc
   rfl
  ·have e:(c == 16)=false:=by simpa using hc
   rw [e]
   rfl
 ·have e:(b == 17)=false:=by simpa using hb
  have e2:(b != 17)=true:=by simpa using hb
  have er:regF b true=cond (decide (0≤b)) (decide (b≤15)) false:=by
   rw [← regX_eq']
   rfl
  have ec:regF c true=cond (decide (0≤c)) (decide (c≤15)) false:=by
   rw [← regX_eq']
   rfl
  rw [e,e2,er,ec]
  simp only [cond_false,cond_true]
  by_cases h0:0≤b <;> by_cases h1:b≤15
  all_goals
   first | rw [decide_eq_true h0] | rw [decide_eq_false h0]
   first | rw [decide_eq_true h1] | rw [decide_eq_false h1]
   simp only [cond_false,cond_true]
  ·by_cases hc:c=16
   ·subst hc
    rfl
   have e3:(c == 16)=false:=by simpa using hc
   rw [e3]
   unfold scaleF bne
   cases c == 4 <;> cases decide (0≤c) <;> cases decide (c≤15) <;> rfl
  all_goals
   cases c == 16 <;> rfl
theorem longX_eq' (n:Int):longX n=(!decide (n < -2147483648) && !decide (2147483647<n)):=by
 unfold longX
 by_cases h0 : -2147483648≤n
 ·rw [decide_eq_true h0,decide_eq_false (show ¬ n < -2147483648 by omega)]
  by_cases h1:n<2147483648
  ·rw [decide_eq_true h1,decide_eq_false (show ¬ 2147483647<n by omega)]
   rfl
  ·rw [decide_eq_false h1,decide_eq_true (show 2147483647<n by omega)]
   rfl
 ·rw [decide_eq_false h0,decide_eq_true (show n < -2147483648 by omega)]
  rfl
theorem shortX_eq' (n:Int):shortX n=(!decide (n < -128) && !decide (127<n)):=by
 unfold shortX
 by_cases h0 : -128≤n
 ·rw [decide_eq_true h0,decide_eq_false (show ¬ n < -128 by omega)]
  by_cases h1:n<128
  ·rw [decide_eq_true h1,decide_eq_false (show ¬ 127<n by omega)]
   rfl
  ·rw [decide_eq_false h1,decide_eq_true (show 127<n by omega)]
   rfl
 ·rw [decide_eq_false h0,decide_eq_true (show n < -128 by omega)]
  rfl
def i64r (n:Int):Bool:=decide (-9223372036854775808≤n) && decide (n≤9223372036854775807)
theorem range_eq (n lo hi:Int):cond (!decide (n<lo) && !decide (hi<n)) (0:Int) 3=cond (decide (n<lo)) 3 (cond (decide (hi<n)) 3 0):=by
 cases decide (n<lo) <;> cases decide (hi<n) <;> rfl
def okP (m hA hB cn:Bool) (a b c d:Int):Bool:=cond m (cond (regF a hA) (placeF b c d) false) (cond (regF a hA) (cond (regF b hB) (cond (c == 0) (cond (d == 0) true (cond cn (condF d) false)) false) false) false)
theorem okX_eq (f a b c d:Int):okX f a b c d=okP (f == 4) (hasA f) (twoX f) (cndX f) a b c d:=by
 unfold okX okP
 rw [regX_eq',regX_eq',placeX_eq',condX_eq']
 by_cases hd:d=0
 ·subst hd
  cases f == 4 <;> cases regF a (hasA f) <;> cases regF b (twoX f) <;> cases c == 0 <;> cases cndX f <;> rfl
 ·have e:(d == 0)=false:=by simpa using hd
  rw [e]
  cases f == 4 <;> cases regF a (hasA f) <;> cases regF b (twoX f) <;> cases c == 0 <;> cases cndX f <;> rfl
theorem okF_conv {f:Int} (hf:f ∈ formsX) (nm:List UInt8) (op:Option (List Int)) (dg rx a b c d:Int):okF (conv (nm,f,op,dg,rx)) a b c d=okX f a b c d:=by
 rw [okX_eq]
 simp only [formsX,List.mem_cons,List.not_mem_nil,or_false] at hf
 rcases hf with rfl | rfl | rfl | rfl | rfl | rfl | rfl | rfl | rfl | rfl | rfl | rfl | rfl | rfl | rfl | rfl <;> rfl
theorem chk_form:∀ f ∈ formsX,∀ (nm:List UInt8) (op:Option (List Int)) (dg rx:Int) (i:InsT),i64r i.2.2.2.2.2=true→chkX f i.2.1 i.2.2.1 i.2.2.2.1 i.2.2.2.2.1 i.2.2.2.2.2=faultyF (conv (nm,f,op,dg,rx)) i:=by
 intro f hf nm op dg rx i hn
 unfold chkX
 have h63:(decide (0≤i.2.2.2.2.2) && decide (i.2.2.2.2.2≤63))=(!decide (i.2.2.2.2.2<0) && !decide (63<i.2.2.2.2.2)):=by
  by_cases h0:0≤i.2.2.2.2.2
  ·rw [decide_eq_true h0,decide_eq_false (show ¬ i.2.2.2.2.2<0 by omega)]
   by_cases h1:i.2.2.2.2.2≤63
   ·rw [decide_eq_true h1,decide_eq_false (show ¬ 63<i.2.2.2.2.2 by omega)]
    rfl
   ·rw [decide_eq_false h1,decide_eq_true (show 63<i.2.2.2.2.2 by omega)]
    rfl
  ·rw [decide_eq_false h0,decide_eq_true (show i.2.2.2.2.2<0 by omega)]
   rfl
 have hw:cond (decide (i.2.2.2.2.2 < -9223372036854775808)) (3:Int) (cond (decide (9223372036854775807<i.2.2.2.2.2)) 3 0)=0:=by
  unfold i64r at hn
  simp only [Bool.and_eq_true,decide_eq_true_eq] at hn
  rw [decide_eq_false (by omega),decide_eq_false (by omega)]
  rfl
 unfold numX
 rw [longX_eq',shortX_eq',h63]
 unfold faultyF tailF
 rw [okF_conv hf]
 generalize okX f i.2.1 i.2.2.1 i.2.2.2.1 i.2.2.2.2.1=o
 cases o
 ·rfl
 simp only [formsX,List.mem_cons,List.not_mem_nil,or_false] at hf
 rcases hf with rfl | rfl | rfl | rfl | rfl | rfl | rfl | rfl | rfl | rfl | rfl | rfl | rfl | rfl | rfl | rfl
 all_goals
  first
   | rfl
   | exact hw.symm
   | exact range_eq _ _ _
theorem check_eq {i:InsT} (hn:i64r i.2.2.2.2.2=true):checkX i=encE i:=by
 unfold checkX encE
 rw [fok_eq]
 cases hf:fokX i.1
 ·rfl
 ·obtain ⟨h1,h2⟩:=frow_eq hf
  obtain ⟨op,ho,hm⟩:=row_op h2
  rw [h1]
  exact chk_form _ hm (frowX i.1).1 (frowX i.1).2.2.1 (frowX i.1).2.2.2.1 (frowX i.1).2.2.2.2 i hn
end Go.Amd

namespace Go.Amd
open Go Go.Ab Go.Proofs
def sh8 (n:Int):Int:=Int.fdiv n (2 ^ 8)
def u8 (n:Int):Int:=IntKind.wrap .u8 n
def fx4 (n:Int):List Int:=[u8 n,u8 (sh8 n),u8 (sh8 (sh8 n)),u8 (sh8 (sh8 (sh8 n)))]
def fx8 (n:Int):List Int:=fx4 n++fx4 (sh8 (sh8 (sh8 (sh8 n))))
def sl8 (x:Int) (k:Nat):Int:=IntKind.wrap .u8 (x*2 ^ k)
def orB (a b:Int):Int:=IntKind.wrap .u8 (((BitVec.ofInt 8 a ||| BitVec.ofInt 8 b).toNat:Nat):Int)
def dirB (r m:Int):Int:=orB (orB 192 (sl8 (u8 (Int.tmod r 8)) 3)) (u8 (Int.tmod m 8))
section
variable (q:List UInt8→Bool) (f:Int) (x:List UInt8) (op:List Int) (dg rx:Int)
end
section
variable (q:List UInt8→Bool) (f:Int) (x:List UInt8) (op:List Int) (dg rx:Int)
end
end Go.Amd

namespace Go.Amd
open Go Go.Ab Go.Proofs
def bt1_12 (_x:List UInt8) (_dg:Int) (_nm:List UInt8) (a b _c _d _n o:Int):Tree V:=
 (.leaf (.sl (.int .u8) ([IntKind.wrap IntKind.u8 (IntKind.wrap IntKind.i64 (IntKind.wrap IntKind.i64 (IntKind.wrap IntKind.i64 (IntKind.wrap IntKind.i64 (64+IntKind.wrap IntKind.i64 (8*1))+IntKind.wrap IntKind.i64 (4*IntKind.wrap IntKind.i64 (Int.tdiv b 8)))+IntKind.wrap IntKind.i64 (2*0))+IntKind.wrap IntKind.i64 (Int.tdiv a 8)))]++[o]++[dirB b a]) ([]) Fl.ro))
def bt7_22 (_x:List UInt8) (_dg:Int) (_nm:List UInt8) (a b _c d _n o p:Int):Tree V:=
 (.leaf (.sl (.int .u8) ([IntKind.wrap IntKind.u8 (IntKind.wrap IntKind.i64 (IntKind.wrap IntKind.i64 (IntKind.wrap IntKind.i64 (IntKind.wrap IntKind.i64 (64+IntKind.wrap IntKind.i64 (8*1))+IntKind.wrap IntKind.i64 (4*IntKind.wrap IntKind.i64 (Int.tdiv a 8)))+IntKind.wrap IntKind.i64 (2*0))+IntKind.wrap IntKind.i64 (Int.tdiv b 8)))]++[o,IntKind.wrap IntKind.u8 (p+IntKind.wrap IntKind.u8 d)]++[dirB a b]) ([]) Fl.ro))
def bt2_12 (_x:List UInt8) (_dg:Int) (_nm:List UInt8) (a _b _c _d n o:Int):Tree V:=
 (.leaf (.sl (.int .u8) (([IntKind.wrap IntKind.u8 (IntKind.wrap IntKind.i64 (IntKind.wrap IntKind.i64 (IntKind.wrap IntKind.i64 (IntKind.wrap IntKind.i64 (64+IntKind.wrap IntKind.i64 (8*1))+IntKind.wrap IntKind.i64 (4*0))+IntKind.wrap IntKind.i64 (2*0))+IntKind.wrap IntKind.i64 (Int.tdiv a 8)))]++[IntKind.wrap IntKind.u8 (o+IntKind.wrap IntKind.u8 (Int.tmod a 8))]++fx8 (IntKind.wrap IntKind.u64 n))) ([]) Fl.ro))
def bt3_12 (_x:List UInt8) (dg:Int) (_nm:List UInt8) (a _b _c _d n o:Int):Tree V:=
 (.leaf (.sl (.int .u8) (([IntKind.wrap IntKind.u8 (IntKind.wrap IntKind.i64 (IntKind.wrap IntKind.i64 (IntKind.wrap IntKind.i64 (IntKind.wrap IntKind.i64 (64+IntKind.wrap IntKind.i64 (8*1))+IntKind.wrap IntKind.i64 (4*0))+IntKind.wrap IntKind.i64 (2*0))+IntKind.wrap IntKind.i64 (Int.tdiv a 8)))]++[o]++([dirB dg a]++sub (fx8 (IntKind.wrap IntKind.u64 n)++[]) 0 4))) ([]) Fl.ro))
def bt5_12 (_x:List UInt8) (_dg:Int) (_nm:List UInt8) (a _b _c _d n o:Int):Tree V:=
 (.leaf (.sl (.int .u8) (([100]++[IntKind.wrap IntKind.u8 (IntKind.wrap IntKind.i64 (IntKind.wrap IntKind.i64 (IntKind.wrap IntKind.i64 (IntKind.wrap IntKind.i64 (64+IntKind.wrap IntKind.i64 (8*1))+IntKind.wrap IntKind.i64 (4*IntKind.wrap IntKind.i64 (Int.tdiv a 8)))+IntKind.wrap IntKind.i64 (2*0))+0))]++[o]++([IntKind.wrap IntKind.u8 ↑(BitVec.toNat (BitVec.ofInt 8 (IntKind.wrap IntKind.u8 (IntKind.wrap IntKind.u8 (Int.tmod a 8)*2 ^ 3)) ||| BitVec.ofInt 8 4)),37]++sub (fx8 (IntKind.wrap IntKind.u64 n)++[]) 0 4))) ([]) Fl.ro))
def bt6_12 (_x:List UInt8) (dg:Int) (_nm:List UInt8) (a _b _c _d n o:Int):Tree V:=
 (.br (shortX n) (.leaf (.sl (.int .u8) (([IntKind.wrap IntKind.u8 (IntKind.wrap IntKind.i64 (IntKind.wrap IntKind.i64 (IntKind.wrap IntKind.i64 (IntKind.wrap IntKind.i64 (64+IntKind.wrap IntKind.i64 (8*1))+IntKind.wrap IntKind.i64 (4*0))+IntKind.wrap IntKind.i64 (2*0))+IntKind.wrap IntKind.i64 (Int.tdiv a 8)))]++[o]++([dirB dg a]++[tI (List.getD (fx8 (IntKind.wrap IntKind.u64 n)) 0 (tI (EC.dflt (EC.int IntKind.u8))))]))) ([]) Fl.ro)) (.leaf (.sl (.int .u8) (([IntKind.wrap IntKind.u8 (IntKind.wrap IntKind.i64 (IntKind.wrap IntKind.i64 (IntKind.wrap IntKind.i64 (IntKind.wrap IntKind.i64 (64+IntKind.wrap IntKind.i64 (8*1))+IntKind.wrap IntKind.i64 (4*0))+IntKind.wrap IntKind.i64 (2*0))+IntKind.wrap IntKind.i64 (Int.tdiv a 8)))]++[129]++([dirB dg a]++sub (fx8 (IntKind.wrap IntKind.u64 n)++[]) 0 4))) ([]) Fl.ro)))
def bt8_12 (_x:List UInt8) (dg:Int) (_nm:List UInt8) (a _b _c _d _n o:Int):Tree V:=
 (.leaf (.sl (.int .u8) ([IntKind.wrap IntKind.u8 (IntKind.wrap IntKind.i64 (IntKind.wrap IntKind.i64 (IntKind.wrap IntKind.i64 (IntKind.wrap IntKind.i64 (64+IntKind.wrap IntKind.i64 (8*1))+IntKind.wrap IntKind.i64 (4*0))+IntKind.wrap IntKind.i64 (2*0))+IntKind.wrap IntKind.i64 (Int.tdiv a 8)))]++[o]++[dirB dg a]) ([]) Fl.ro))
def bt9_12 (_x:List UInt8) (_dg:Int) (_nm:List UInt8) (_a _b _c _d _n o:Int):Tree V:=
 (.leaf (.sl (.int .u8) ([IntKind.wrap IntKind.u8 (IntKind.wrap IntKind.i64 (IntKind.wrap IntKind.i64 (IntKind.wrap IntKind.i64 (IntKind.wrap IntKind.i64 (64+IntKind.wrap IntKind.i64 (8*1))+IntKind.wrap IntKind.i64 (4*0))+IntKind.wrap IntKind.i64 (2*0))+0))]++[o]++[]) ([]) Fl.ro))
def bt10_12 (_x:List UInt8) (dg:Int) (_nm:List UInt8) (a _b _c _d n o:Int):Tree V:=
 (.leaf (.sl (.int .u8) (([IntKind.wrap IntKind.u8 (IntKind.wrap IntKind.i64 (IntKind.wrap IntKind.i64 (IntKind.wrap IntKind.i64 (IntKind.wrap IntKind.i64 (64+IntKind.wrap IntKind.i64 (8*1))+IntKind.wrap IntKind.i64 (4*0))+IntKind.wrap IntKind.i64 (2*0))+IntKind.wrap IntKind.i64 (Int.tdiv a 8)))]++[o]++([dirB dg a]++[tI (List.getD (fx8 (IntKind.wrap IntKind.u64 n)) 0 (tI (EC.dflt (EC.int IntKind.u8))))]))) ([]) Fl.ro))
end Go.Amd

namespace Go.Amd
open Go Go.Ab Go.Proofs
def slB (l:List Int):V:=.sl (.int .u8) l [] .ro
theorem via {α:Type} {a b c d:α} (h1:a=b) (h2:c=d) (h:b=c):a=d:=h1.trans (h.trans h2)
def q8 (n:Int):Int:=wi (Int.tdiv n 8)
def rexD (w r x b:Int):Int:=w8 (wi (wi (wi (wi (64+wi (8*w))+wi (4*r))+wi (2*x))+b))
def rW (R:Int):Int:=or8 64 (or8 R 8)
def rex0 (a:Int):List Int:=cond (decide (0<wi (wi (0+0)+q8 a))) [rexD 0 0 0 (q8 a)] []
theorem rex2_all:all2 16 16 (fun r b=>rexD 1 (q8 r) 0 (q8 b) == rW (rexM 0 r b) && dirB r b == mrB 3 r b)=true:=by kernel_rfl
theorem rex1_all:all1 16 (fun a=>rexD 1 0 0 (q8 a) == rW (or8 0 (hi4 a 1)) && (rexD 1 (q8 a) 0 0 == rW (rexM 0 a 4) && (rex0 a == rexL 0 (or8 0 (hi4 a 1)) && (orB (sl8 (u8 (Int.tmod a 8)) 3) 4 == mrB 0 a 4 && w8 (Int.tmod a 8) == w8 (andi a 7)))))=true:=by kernel_rfl
theorem rexg_all:all2 8 16 (fun g a=>rexD 1 0 0 (q8 a) == rW (rexM 0 (wi g) a) && (rex0 a == rexL 0 (rexM 0 (wi g) a) && dirB g a == mrB 3 (wi g) a))=true:=by kernel_rfl
abbrev Reg (a:Int):Prop:=0≤a∧a<16
theorem rex2 {r b:Int} (hr:Reg r) (hb:Reg b):rexD 1 (q8 r) 0 (q8 b)=rW (rexM 0 r b)∧dirB r b=mrB 3 r b:=by
 have:=all2_of rex2_all hr.1 hr.2 hb.1 hb.2
 simpa only [Bool.and_eq_true,beq_iff_eq] using this
theorem rex1 {a:Int} (ha:Reg a):rexD 1 0 0 (q8 a)=rW (or8 0 (hi4 a 1))∧rexD 1 (q8 a) 0 0=rW (rexM 0 a 4)∧rex0 a=rexL 0 (or8 0 (hi4 a 1))∧orB (sl8 (u8 (Int.tmod a 8)) 3) 4=mrB 0 a 4∧w8 (Int.tmod a 8)=w8 (andi a 7):=by
 have:=all1_of rex1_all ha.1 ha.2
 simpa only [Bool.and_eq_true,beq_iff_eq] using this
theorem rexg {g a:Int} (hg:0≤g∧g<8) (ha:Reg a):rexD 1 0 0 (q8 a)=rW (rexM 0 (wi g) a)∧rex0 a=rexL 0 (rexM 0 (wi g) a)∧dirB g a=mrB 3 (wi g) a:=by
 have:=all2_of rexg_all hg.1 hg.2 ha.1 ha.2
 simpa only [Bool.and_eq_true,beq_iff_eq] using this
theorem w8_in {o:Int} (ho:IsB o):w8 o=o:=by
 unfold w8
 rw [Go.Wd.wrap_u8]
 exact Int.emod_eq_of_lt ho.1 ho.2
theorem hd1 {o:Int} (ho:IsB o):hdF o=[]:=by
 unfold hdF
 rw [decide_eq_false (by have:=ho.2; omega)]
 rfl
theorem hd2 {o p:Int} (h1:1≤o) (ho:IsB o) (hp:IsB p):hdF (256*o+p)=[o]∧w8 (256*o+p)=p:=by
 obtain ⟨o0,o1⟩:=ho
 obtain ⟨p0,p1⟩:=hp
 have e:w8 (Int.fdiv (256*o+p) (2 ^ 8))=o:=by
  unfold w8
  rw [Go.Wd.wrap_u8,Int.fdiv_eq_ediv_of_nonneg _ (by decide)]
  omega
 refine ⟨?_,?_⟩
 ·unfold hdF
  rw [decide_eq_true (by omega),e]
  rfl
 ·unfold w8
  rw [Go.Wd.wrap_u8]
  omega
theorem w8_add0 {o:Int} (ho:IsB o):w8 (o+w8 0)=o:=by
 show w8 (o+0)=o
 rw [Int.add_zero,w8_in ho]
theorem sh8_eq (n:Int):sh8 n=n / 256:=by
 unfold sh8
 rw [Int.fdiv_eq_ediv_of_nonneg _ (by decide)]
 rfl
theorem u8_eq (n:Int):u8 n=n % 256:=Go.Wd.wrap_u8 n
abbrev N64 (n:Int):Int:=IntKind.wrap .u64 n
theorem fx8_im (n:Int):fx8 (N64 n)=im8 n:=by
 show [_,_,_,_,_,_,_,_]=[_,_,_,_,_,_,_,_]
 simp only [sh8_eq,u8_eq,imB_eq,N64,Go.Wd.wrap_u64,List.cons.injEq,and_true]
 refine ⟨by omega,by omega,by omega,by omega,by omega,by omega,by omega,by omega⟩
theorem fx4_im (n:Int):fx4 (N64 n)=im4 n:=by
 have h:=fx8_im n
 have e:fx4 (N64 n)=(fx8 (N64 n)).take 4:=rfl
 rw [e,h]
 rfl
theorem fx1_im (n:Int):[u8 (N64 n)]=im1 n:=by
 have h:=fx8_im n
 have e:[u8 (N64 n)]=(fx8 (N64 n)).take 1:=rfl
 rw [e,h]
 rfl
theorem short_fits (n:Int):shortX n=fitsF n:=by
 rw [shortX_eq']
 unfold fitsF
 by_cases h0 : -128≤n
 ·rw [decide_eq_true h0,decide_eq_false (show ¬ n < -128 by omega)]
  by_cases h1:n≤127
  ·rw [decide_eq_true h1,decide_eq_false (show ¬ 127<n by omega)]
   rfl
  ·rw [decide_eq_false h1,decide_eq_true (show 127<n by omega)]
   rfl
 ·rw [decide_eq_false h0,decide_eq_true (show n < -128 by omega)]
  rfl
section
variable {x nm:List UInt8} {dg a b c d n o p:Int} (ha:Reg a) (hb:Reg b) (hg:0≤dg∧dg<8) (h1:1≤o) (ho:IsB o) (hp:IsB p)
abbrev bF (f:Int) (op:List Int) (rx dg:Int) (nm:List UInt8) (a b c d n:Int):Option V:=some (slB (bytesF (conv (nm,f,some op,dg,rx)) (nm,a,b,c,d,n)))
include ha hb ho in
theorem k1:(bt1_12 x dg nm a b c d n o).run=bF 1 [o] 2 dg nm a b c d n:=by
 refine via (b:=some (slB ([rexD 1 (q8 b) 0 (q8 a)]++[o]++[dirB b a]))) (c:=some (slB ([]++[rW (rexM 0 b a)]++(hdF o++[w8 o])++[mrB 3 b a]))) (by kernel_rfl) (by kernel_rfl) ?_
 rw [(rex2 hb ha).1,(rex2 hb ha).2,hd1 ho,w8_in ho]
 rfl
include ha hb h1 ho hp in
theorem k7 (hd:d=0):(bt7_22 x dg nm a b c d n o p).run=bF 7 [o,p] 2 dg nm a b c d n:=by
 subst hd
 refine via (b:=some (slB ([rexD 1 (q8 a) 0 (q8 b)]++[o,w8 (p+w8 0)]++[dirB a b]))) (c:=some (slB ([]++[rW (rexM 0 a b)]++(hdF (256*o+p)++[w8 (256*o+p)])++[mrB 3 a b]))) (by kernel_rfl) (by kernel_rfl) ?_
 rw [(rex2 ha hb).1,(rex2 ha hb).2,(hd2 h1 ho hp).1,(hd2 h1 ho hp).2,w8_add0 hp]
 rfl
include ha ho in
theorem k2:(bt2_12 x dg nm a b c d n o).run=bF 2 [o] 2 dg nm a b c d n:=by
 refine via (b:=some (slB ([rexD 1 0 0 (q8 a)]++[w8 (o+w8 (Int.tmod a 8))]++fx8 (N64 n)))) (c:=some (slB ([]++[rW (or8 0 (hi4 a 1))]++(hdF o++[w8 (w8 o+w8 (andi a 7))])++im8 n))) (by kernel_rfl) (by kernel_rfl) ?_
 rw [(rex1 ha).1,(rex1 ha).2.2.2.2,hd1 ho,w8_in ho,fx8_im]
 rfl
include ha hg ho in
theorem k3:(bt3_12 x dg nm a b c d n o).run=bF 3 [o] 2 dg nm a b c d n:=by
 refine via (b:=some (slB ([rexD 1 0 0 (q8 a)]++[o]++([dirB dg a]++fx4 (N64 n))))) (c:=some (slB ([]++[rW (rexM 0 (wi dg) a)]++(hdF o++[w8 o])++([mrB 3 (wi dg) a]++im4 n)))) (by kernel_rfl) (by kernel_rfl) ?_
 rw [(rexg hg ha).1,(rexg hg ha).2.2,hd1 ho,w8_in ho,fx4_im]
 rfl
include ha ho in
theorem k5:(bt5_12 x dg nm a b c d n o).run=bF 5 [o] 2 dg nm a b c d n:=by
 refine via (b:=some (slB ([100]++[rexD 1 (q8 a) 0 0]++[o]++([orB (sl8 (u8 (Int.tmod a 8)) 3) 4,37]++fx4 (N64 n))))) (c:=some (slB ([100]++[rW (rexM 0 a 4)]++(hdF o++[w8 o])++([mrB 0 a 4]++[37]++im4 n)))) (by kernel_rfl) (by kernel_rfl) ?_
 rw [(rex1 ha).2.1,(rex1 ha).2.2.2.1,hd1 ho,w8_in ho,fx4_im]
 rfl
include ha hg ho in
theorem k6:(bt6_12 x dg nm a b c d n o).run=bF 6 [o] 2 dg nm a b c d n:=by
 refine via (b:=cond (shortX n) (some (slB ([rexD 1 0 0 (q8 a)]++[o]++([dirB dg a]++[u8 (N64 n)])))) (some (slB ([rexD 1 0 0 (q8 a)]++[129]++([dirB dg a]++fx4 (N64 n))))))
  (c:=some (slB ([]++[rW (rexM 0 (wi dg) a)]++(hdF o++[cond (fitsF n) (w8 o) 129])++([mrB 3 (wi dg) a]++cond (fitsF n) (im1 n) (im4 n))))) (by unfold bt6_12; rw [br_run]; kernel_rfl) (by kernel_rfl) ?_
 rw [short_fits,(rexg hg ha).1,(rexg hg ha).2.2,hd1 ho,w8_in ho,fx4_im,fx1_im]
 cases fitsF n <;> rfl
include ha hg ho in
theorem k8:(bt8_12 x dg nm a b c d n o).run=bF 8 [o] 2 dg nm a b c d n:=by
 refine via (b:=some (slB ([rexD 1 0 0 (q8 a)]++[o]++[dirB dg a]))) (c:=some (slB ([]++[rW (rexM 0 (wi dg) a)]++(hdF o++[w8 o])++[mrB 3 (wi dg) a]))) (by kernel_rfl) (by kernel_rfl) ?_
 rw [(rexg hg ha).1,(rexg hg ha).2.2,hd1 ho,w8_in ho]
 rfl
include ho in
theorem k9:(bt9_12 x dg nm a b c d n o).run=bF 9 [o] 2 dg nm a b c d n:=by
 refine via (b:=some (slB ([rexD 1 0 0 0]++[o]++[]))) (c:=some (slB ([]++[rW 0]++(hdF o++[w8 o])++[]))) (by kernel_rfl) (by kernel_rfl) ?_
 rw [hd1 ho,w8_in ho]
 rfl
include ha hg ho in
theorem k10:(bt10_12 x dg nm a b c d n o).run=bF 10 [o] 2 dg nm a b c d n:=by
 refine via (b:=some (slB ([rexD 1 0 0 (q8 a)]++[o]++([dirB dg a]++[u8 (N64 n)])))) (c:=some (slB ([]++[rW (rexM 0 (wi dg) a)]++(hdF o++[w8 o])++([mrB 3 (wi dg) a]++im1 n)))) (by kernel_rfl) (by kernel_rfl) ?_
 rw [(rexg hg ha).1,(rexg hg ha).2.2,hd1 ho,w8_in ho,fx1_im]
 rfl
end
end Go.Amd

namespace Go.Amd
open Go Go.Ab Go.Proofs
def atX (l:List Int) (k:Int):Int:=l.getD k.toNat 0
def hiX (r:Int) (j:Nat):Int:=wi (wi (and8 (Int.fdiv r (2 ^ j)) 1)*8)
def hi0X (r:Int):Int:=wi (wi (and8 r 1)*8)
end Go.Amd

namespace Go.Amd
open Go Go.Ab Go.Proofs
def cutK (ks:List Nat) (s:St):Tree St:=.leaf (s.1,keep ks s.2.1,s.2.2)
theorem cutK_run (ks:List Nat) (x:Tree St):(x.bind (cutK ks)).run=x.run.map (fun s=>(s.1,keep ks s.2.1,s.2.2)):=by
 induction x with
 | leaf b=>rfl
 | fail=>rfl
 | br c x y h1 h2 =>
  cases c
  ·exact h2
  ·exact h1
section
variable {P:Program} {n:Nat} {Q:AEx→T→List O→Prop} {t:T} {H:List O} {cx:Cx} {ops:Array Oper}
end
section
variable (q:List UInt8→Bool) (f:Int) (x:List UInt8) (dg rx:Int) (nm:List UInt8) (a b c d n:Int)
end
end Go.Amd

namespace Go.Amd
open Go Go.Ab Go.Proofs
theorem at0 (c:Int) (t:List Int):atX (c :: t) 0=c:=rfl
theorem at1 (c d:Int) (t:List Int):atX (c :: d :: t) 1=d:=rfl
end Go.Amd

namespace Go.Amd
open Go Go.Ab Go.Proofs
abbrev Bits (r R:Int):Prop:=hiX r 2=bitF R 4∧hiX r 1=bitF R 2∧hi0X r=bitF R 1
section
variable {x:RowT} {l op t:List Int} {r R k c c0 n:Int} {i:InsT} (hl:AllB l) (k0:0≤k) (hb:Bits r R) (hc0:atX l (k - 1)=c0) (hp:l.drop k.toNat=t) (hm:l.drop k.toNat=c :: t)
end
end Go.Amd

namespace Go.Amd
open Go Go.Ab Go.Proofs
def bO' (b:Bool):Option V:=some (.bool b)
section
variable (l:List Int) (k:Int)
def lfX:Int:=wi ((l.length:Nat) - k)
end
end Go.Amd

namespace Go.Amd
open Go Go.Ab Go.Proofs
section
variable {l:List Int} {k:Int} (k0:0≤k) (k1:k<l.length) (hl:l.length<1000)
end
section
variable (dg:Int) (l:List Int) (k:Int)
def tlQ (c:Bool):Option V:=cond c (bO' (decide (lfX l k<6))) (bO' false)
def tlP (b:Bool):Option V:=cond b (cond (decide (lfX l k<2)) (tlQ l k true) (cond (decide (0≤wi (k+1))) (tlQ l k (atX l (wi (k+1)) == 37)) none)) (tlQ l k false)
end
end Go.Amd

namespace Go.Amd
open Go Go.Ab Go.Proofs
def opL:Option (List Int)→List Int
 | some l=>l
 | none=>[]
section
variable (l sp:List Int) (fl:Fl) (k r:Int) (fs:Bool) (j:Int)
end
section
variable (l sp:List Int) (fl:Fl)
end
end Go.Amd

namespace Go.Amd
open Go Go.Ab Go.Proofs
def sh2:RestR→Bool
 | .error (e,_)=>e == 2
 | .ok _=>false
end Go.Amd

namespace Go.Amd
open Go Go.Ab Go.Proofs
def two (y:RowX):Bool:=match opL y.2.2.1 with
 | [_,_]=>true
 | _=>false
end Go.Amd

namespace Go.Amd
open Go Go.Ab Go.Proofs
theorem e2:((2:Int) == 2)=true:=rfl
end Go.Amd

namespace Go.Amd
open Go Go.Ab Go.Proofs
noncomputable def cxB:Cx:={ P:=Tryz.prog,n:=Tryz.f9.ntmps,tab:=(runT 6).tab,mtab:=(11,runM) :: (runT 6).mtab,rtab:=(runT 6).rtab,refs:=[],keeps:=[0,1,2,3,4,7],nums:=(runT 6).nums }
theorem cxB_ok:CxOk cxB:=⟨(runT_ok 6).1,.cons runM_ok (runT_ok 6).2.1,(runT_ok 6).2.2.1,(runT_ok 6).2.2.2⟩
noncomputable abbrev B10:Code:=bodyOf Tryz.f9
noncomputable def bgOps3:Array Oper:=regOps (c1 (tailN 3 B10))
noncomputable def bgOps4:Array Oper:=regOps (c1 (tailN 4 B10))
theorem bg_eq3:tailN 3 B10 = .seq (.region 4 bgOps3 true) (tailN 4 B10):=by kernel_rfl
theorem bg_eq4:tailN 4 B10 = .seq (.region 5 bgOps4 true) (tailN 5 B10):=by kernel_rfl
def cpuL (pc:Int) (x:List Int) (z n c v:Bool) (th:Int):List V:=(.int .u64 pc :: x.map (V.int .u64))++[.bool z,.bool n,.bool c,.bool v,.int .u64 th]
def bgC:O:=.cells (cpuL 0 (9223372036854775808 :: 0 :: 0 :: 9223372036854775808 :: List.replicate 28 0) false false false false 0) 26
def bgD:O:=.cells (cpuL 3 (0 :: 0 :: 0 :: 9223372036854775808 :: List.replicate 28 0) true false true true 0) 26
theorem bg_head:(dcode cxB (headN 3 B10) (initT 0 []) []).run.map (fun s=>(s.1,keep [1] s.2.1,s.2.2))=some (.normal,[(1,.ptr 0 0)],[bgC]):=by kernel_rfl
theorem bg_r3:(allOrds cxB bgOps3 ([(1,.ptr 0 0)],[bgC])).map (fun l=>l.map fun s=>dropS 1 (ordK [2] s.1) (.normal,keep [1,2,3,4] s.1,s.2)) =
  some (List.replicate 7 (some (.normal,[(1,.ptr 0 0),(2,.ptr 1 0),(3,.int .i64 0),(4,.int .i64 0)],[bgC,bgD]))):=by kernel_rfl
theorem bg_r4:(allOrds cxB bgOps4 ([(1,.ptr 0 0),(2,.ptr 1 0),(3,.int .i64 0),(4,.int .i64 0)],[bgC,bgD])).map (fun l=>l.map fun s=>dropS 2 (ordK [] s.1) (.normal,keep [2,3,4,7] s.1,s.2)) =
  some (List.replicate 7 (some (.normal,[(2,.ptr 1 0),(3,.int .i64 0),(4,.int .i64 0),(7,.int .i64 21)],[bgC,bgD]))):=by kernel_rfl
theorem bg_tail:((dcode cxB (tailN 5 B10) [(2,.ptr 1 0),(3,.int .i64 0),(4,.int .i64 0),(7,.int .i64 21)] [bgC,bgD]).bind (answer Tryz.prog Tryz.f9.results.toList)).run=some (.bool true):=by kernel_rfl
def begunS:Ab.Spec:=fun args=>match args with
 | []=>.leaf (.bool true)
 | _=>.fail
theorem begunS_ok:Sound Tryz.prog 9 begunS:=by
 intro args out h
 unfold begunS at h
 split at h
 rotate_left
 ·cases h
 cases h
 refine pcall_of' (c:=B10) (fn:=Tryz.f9) (by kernel_rfl) (by kernel_rfl) (by kernel_rfl) (by kernel_rfl) ?_
 refine AWP_headK (cx:=cxB) rfl rfl cxB_ok 3 [1] (by kernel_rfl) bg_head ?_
 rw [bg_eq3]
 refine AWP_seq (AWP_ordersPK (cx:=cxB) [2] [1,2,3,4] 7 rfl rfl cxB_ok bg_r3 ?_)
 show AWP _ _ _ _ _ _
 rw [bg_eq4]
 refine AWP_seq (AWP_ordersPK (cx:=cxB) [] [2,3,4,7] 7 rfl rfl cxB_ok bg_r4 ?_)
 show AWP _ _ _ _ _ _
 obtain ⟨s,h1,h2⟩:=bind_run bg_tail
 refine AWP_run (cx:=cxB) rfl rfl cxB_ok h1 ?_
 obtain ⟨e,t,H⟩:=s
 unfold answer at h2
 split at h2
 ·rename_i heq
  cases heq
  split at h2
  ·rename_i v hv
   cases h2
   exact ⟨.inl rfl,hv⟩
  ·cases h2
 ·rename_i heq
  cases heq
  split at h2
  ·rename_i v hv
   cases h2
   exact ⟨.inr rfl,hv⟩
  ·cases h2
 ·cases h2
end Go.Amd
