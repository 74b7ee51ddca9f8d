/-
  Decoding of what was encoded, encoding of what was decoded. Conditions: none.
-/
import Derived.Test.YtnickegmpffneaaGreatDoorPk45
import Derived.Test.YtnickegmpffneaaGreatDoorPk41
import Derived.Test.YtnickegmpffneaaGreatDoorPk44
import Derived.Test.YtnickegmpffneaaGreatDoorPk10
set_option linter.unusedVariables false
set_option linter.unusedSimpArgs false
namespace Go.Rj
open Go Go.Ab
def Bytes (l:List Int):Prop:=∀ b ∈ l,0≤b∧b<256
theorem bytes_getD {l:List Int} (h:Bytes l) (k:Nat):0≤l.getD k 0∧l.getD k 0<256:=by
 by_cases hk:k<l.length
 ·rw [getD_lt hk]; exact h _ (List.getElem_mem hk)
 ·simp [List.getD,hk]
def sum4 (l:List Int) (k:Nat):Int:=l.getD k 0+256*l.getD (k+1) 0+65536*l.getD (k+2) 0+16777216*l.getD (k+3) 0
theorem word4 {a b c d:Int} (ha:0≤a∧a<256) (hb:0≤b∧b<256) (hc:0≤c∧c<256) (hd:0≤d∧d<256) :
  or32 (or32 (or32 (IntKind.wrap .u32 a) (shl32 (IntKind.wrap .u32 b) 8)) (shl32 (IntKind.wrap .u32 c) 16)) (shl32 (IntKind.wrap .u32 d) 24)=a+256*b+65536*c+16777216*d:=by
 have ea:IntKind.wrap .u32 a=((a.toNat:Nat):Int):=by rw [wrap_u32]; omega
 have eb:shl32 (IntKind.wrap .u32 b) 8=((b.toNat <<< 8:Nat):Int):=by unfold shl32; rw [wrap_u32,wrap_u32,Nat.shiftLeft_eq]; omega
 have ec:shl32 (IntKind.wrap .u32 c) 16=((c.toNat <<< 16:Nat):Int):=by unfold shl32; rw [wrap_u32,wrap_u32,Nat.shiftLeft_eq]; omega
 have ed:shl32 (IntKind.wrap .u32 d) 24=((d.toNat <<< 24:Nat):Int):=by unfold shl32; rw [wrap_u32,wrap_u32,Nat.shiftLeft_eq]; omega
 have lb:b.toNat <<< 8<2 ^ 32:=by rw [Nat.shiftLeft_eq]; omega
 have lc:c.toNat <<< 16<2 ^ 32:=by rw [Nat.shiftLeft_eq]; omega
 have ld:d.toNat <<< 24<2 ^ 32:=by rw [Nat.shiftLeft_eq]; omega
 have la:a.toNat<2 ^ 32:=by omega
 rw [ea,eb,ec,ed]
 rw [or32_nat (a:=(a.toNat:Int)) (by omega) (by omega) (by omega) (by omega)]
 simp only [Int.toNat_natCast]
 have l1:a.toNat ||| b.toNat <<< 8<2 ^ 32:=Nat.or_lt_two_pow la lb
 rw [or32_nat (a:=((a.toNat ||| b.toNat <<< 8:Nat):Int)) (by omega) (by omega) (by omega) (by omega)]
 simp only [Int.toNat_natCast]
 have l2:a.toNat ||| b.toNat <<< 8 ||| c.toNat <<< 16<2 ^ 32:=Nat.or_lt_two_pow l1 lc
 rw [or32_nat (by omega) (by omega) (by omega) (by omega)]
 simp only [Int.toNat_natCast]
 have s:=orF_sum [(b.toNat,8,8),(c.toNat,16,8),(d.toNat,24,8)] a.toNat (by
  intro g hg
  rcases List.mem_cons.1 hg with rfl | hg
  ·exact ⟨by show b.toNat<256; omega,.low (by show a.toNat<256; omega)⟩
  rcases List.mem_cons.1 hg with rfl | hg
  ·exact ⟨by show c.toNat<256; omega,.low (by show a.toNat<65536; omega)⟩
  rcases List.mem_cons.1 hg with rfl | hg
  ·exact ⟨by show d.toNat<256; omega,.low (by show a.toNat<16777216; omega)⟩
  cases hg) rfl
 simp only [orF,sumF] at s
 rw [s]
 omega
theorem w4_sum {l:List Int} {at_:Int} (h:Bytes l) (h0:0≤at_) (h1:at_+4≤l.length) (hl:l.length<1000000000):w4 l at_=sum4 l at_.toNat:=by
 unfold w4 sum4 gb
 rw [wrap_i64 (n:=at_+1) (by omega) (by omega),wrap_i64 (n:=at_+2) (by omega) (by omega),wrap_i64 (n:=at_+3) (by omega) (by omega)]
 rw [show (at_+1).toNat=at_.toNat+1 from by omega,show (at_+2).toNat=at_.toNat+2 from by omega,show (at_+3).toNat=at_.toNat+3 from by omega]
 exact word4 (bytes_getD h _) (bytes_getD h _) (bytes_getD h _) (bytes_getD h _)
theorem sum4_rng {l:List Int} (h:Bytes l) (k:Nat):0≤sum4 l k∧sum4 l k<4294967296:=by
 have h0:=bytes_getD h k
 have h1:=bytes_getD h (k+1)
 have h2:=bytes_getD h (k+2)
 have h3:=bytes_getD h (k+3)
 unfold sum4
 omega
theorem orF_out:∀ {fs:List Fd} {x:Nat},(∀ f ∈ fs,f.1<2 ^ f.2.2) → ∀ j,(maskFd fs).testBit j=false→(orF x fs).testBit j=x.testBit j
 | [],x,_,j,_=>rfl
 | f :: r,x,hs,j,hm=>by
  simp only [maskFd,Nat.testBit_or,Bool.or_eq_false_iff,Nat.testBit_shiftLeft,Nat.testBit_two_pow_sub_one] at hm
  simp only [orF]
  rw [orF_out (fun g hg=>hs g (List.mem_cons_of_mem _ hg)) j hm.2,Nat.testBit_or,Nat.testBit_shiftLeft]
  by_cases h1:f.2.1≤j
  ·have h2:¬ j - f.2.1<f.2.2:=by
    have:=hm.1
    simpa [h1] using this
   have:f.1.testBit (j - f.2.1)=false:=Nat.testBit_lt_two_pow (Nat.lt_of_lt_of_le (hs f List.mem_cons_self) (Nat.pow_le_pow_right (by omega) (by omega)))
   simp [this]
  ·simp [h1]
def rowApart (r s:RowT):Bool:=strEq r.1 s.1 || !(Nat.beq ((r.2.2.toNat ^^^ s.2.2.toNat) &&& (4294967295 ^^^ (maskF r.2.1 ||| maskF s.2.1))) 0)
theorem rows_apart:rowsL.all (fun r=>rowsL.all (rowApart r))=true:=by kernel_rfl
def rowOwn (r:RowT):Bool:=fok r.1 && (strEq (frow r.1).1 r.1 && (decide ((frow r.1).2.1=r.2.1) && decide ((frow r.1).2.2=r.2.2)))
theorem rows_own:rowsL.all rowOwn=true:=by kernel_rfl
theorem row_own {r:RowT} (hr:r ∈ rowsL):fok r.1=true∧frow r.1=r:=by
 have h:=List.all_eq_true.1 rows_own _ hr
 simp only [rowOwn,Bool.and_eq_true,decide_eq_true_eq] at h
 obtain ⟨h1,h2,h3,h4⟩:=h
 exact ⟨h1,Prod.ext (eq_of_beq h2) (Prod.ext h3 h4)⟩
section
variable {r s:RowT} {a b c n a' b' c' n' : Int}
theorem word_only (hr:r ∈ rowsL) (hs:s ∈ rowsL) (ha:regOk a (uA r.2.1)=true) (hb:regOk b (uB r.2.1)=true) (hc:regOk c (uC r.2.1)=true)
  (ha' : regOk a' (uA s.2.1)=true) (hb' : regOk b' (uB s.2.1)=true) (hc' : regOk c' (uC s.2.1)=true) (h:wordF r.2.1 r.2.2 a b c n=wordF s.2.1 s.2.2 a' b' c' n'):r=s:=by
 obtain ⟨⟨r0,r1⟩,_,_,_,f0,f8⟩:=row_off (List.all_eq_true.1 rows_fine _ hr)
 obtain ⟨⟨s0,s1⟩,_,_,_,g0,g8⟩:=row_off (List.all_eq_true.1 rows_fine _ hs)
 obtain ⟨e1,_⟩:=word_sum (n:=n) hr ha hb hc
 obtain ⟨e2,_⟩:=word_sum (n:=n') hs ha' hb' hc'
 obtain ⟨F,C⟩:=word_fine (n:=n) hr ha hb hc
 obtain ⟨F',C'⟩:=word_fine (n:=n') hs ha' hb' hc'
 rw [← orF_sum _ _ F C] at e1
 rw [← orF_sum _ _ F' C'] at e2
 rw [e1,e2] at h
 have h:=Int.ofNat_inj.1 h
 have hp:=List.all_eq_true.1 (List.all_eq_true.1 rows_apart _ hr) _ hs
 simp only [rowApart,Bool.or_eq_true,Bool.not_eq_true'] at hp
 rcases hp with hp | hp
 ·have hn:r.1=s.1:=eq_of_beq hp
  rw [← (row_own hr).2,← (row_own hs).2,hn]
 ·exfalso
  have hz:(r.2.2.toNat ^^^ s.2.2.toNat) &&& (4294967295 ^^^ (maskF r.2.1 ||| maskF s.2.1))=0:=by
   apply Nat.eq_of_testBit_eq
   intro j
   rw [Nat.testBit_and,Nat.testBit_xor,Nat.testBit_xor,Nat.testBit_or,Nat.zero_testBit]
   by_cases hj:j<32
   ·have h32:Nat.testBit 4294967295 j=true:=by
     rw [show (4294967295:Nat)=2 ^ 32 - 1 from rfl,Nat.testBit_two_pow_sub_one]
     simpa using hj
    rw [h32]
    cases h1:(maskF r.2.1).testBit j
    ·cases h2:(maskF s.2.1).testBit j
     ·have o1:=orF_out (x:=r.2.2.toNat) (fun f hf=>(F f hf).1) j (by rw [maskFd_shape (fd_shape _ _ _ _ _ f0 f8)]; exact h1)
      have o2:=orF_out (x:=s.2.2.toNat) (fun f hf=>(F' f hf).1) j (by rw [maskFd_shape (fd_shape _ _ _ _ _ g0 g8)]; exact h2)
      rw [← o1,← o2,h]
      simp
     ·simp
    ·simp
   ·have b1:r.2.2.toNat.testBit j=false:=Nat.testBit_lt_two_pow (Nat.lt_of_lt_of_le (show r.2.2.toNat<2 ^ 32 by omega) (Nat.pow_le_pow_right (by omega) (by omega)))
    have b2:s.2.2.toNat.testBit j=false:=Nat.testBit_lt_two_pow (Nat.lt_of_lt_of_le (show s.2.2.toNat<2 ^ 32 by omega) (Nat.pow_le_pow_right (by omega) (by omega)))
    simp [b1,b2]
  rw [hz] at hp
  simp at hp
end
theorem fld_eq {w:Nat} (hw:w<2 ^ 32) (k:Nat):fld (w:Int) k=((w / 2 ^ k % 32:Nat):Int):=by
 unfold fld
 have hp:(0:Int)<2 ^ k:=Int.pow_pos (by omega)
 have e:((2:Int) ^ k)=((2 ^ k:Nat):Int):=by simp
 rw [Int.fdiv_eq_ediv_of_nonneg _ (by omega),e,← Int.natCast_ediv]
 have hq:w / 2 ^ k<2 ^ 32:=Nat.lt_of_le_of_lt (Nat.div_le_self _ _) hw
 generalize w / 2 ^ k=q at hq
 rw [BitVec.toNat_and,ofInt32_toNat (by omega) (by omega),ofInt32_toNat (by omega) (by omega),Int.toNat_natCast]
 rw [show Int.toNat 31=2 ^ 5 - 1 from rfl,Nat.and_two_pow_sub_one_eq_mod,wrap_u32,wrap_i64 (by omega) (by omega)]
 omega
theorem fld_ok {w:Nat} (hw:w<2 ^ 32) (k:Nat) (u:Bool):regOk (cond u (fld (w:Int) k) 0) u=true:=by
 cases u
 ·rfl
 ·exact regOk_used (by show 0≤fld _ _; rw [fld_eq hw]; omega) (by show fld _ _<32; rw [fld_eq hw]; omega)
theorem num_rng (f:Int) {w:Nat} (hw:w<2 ^ 32) (f0:0≤f) (f8:f≤8) :
  (((bnd f).1 == (bnd f).2.1 && numberF f w != 0)=false)∧¬ numberF f w<(bnd f).1∧¬ (bnd f).2.1<numberF f w∧Int.tmod (numberF f w) (bnd f).2.2=0:=by
 rw [numberF_eq f w hw f0 f8]
 have one:∀ x:Int,Int.tmod x 1=0:=Int.tmod_one
 rcases form_cases f0 f8 with h | h | h | h | h | h | h | h | h <;> subst h
 ·rw [nG0,show bnd 0=(0,0,1) from rfl]; decide
 ·rw [nG1,show bnd 1=(-2048,2047,1) from rfl]
  refine ⟨rfl,?_,?_,one _⟩ <;> (unfold sgn; simp only; omega)
 ·rw [nG2,show bnd 2=(0,63,1) from rfl]
  have:=partN_lt w 20 6
  exact ⟨rfl,by simp only; omega,by simp only; omega,one _⟩
 ·rw [nG3,show bnd 3=(0,31,1) from rfl]
  have:=partN_lt w 20 5
  exact ⟨rfl,by simp only; omega,by simp only; omega,one _⟩
 ·rw [nG4,show bnd 4=(-2048,2047,1) from rfl]
  refine ⟨rfl,?_,?_,one _⟩ <;> (unfold sgn; simp only; omega)
 ·rw [nG5,show bnd 5=(-4096,4094,2) from rfl]
  have e:sumF (numFd 5 w)=partN w 8 4*2+(partN w 25 6*32+(partN w 7 1*2048+(partN w 31 1*4096+0))):=rfl
  rw [e]
  refine ⟨rfl,?_,?_,?_⟩
  ·unfold sgn; simp only; omega
  ·unfold sgn; simp only; omega
  ·refine Int.tmod_eq_zero_of_dvd ?_
   unfold sgn
   simp only
   omega
 ·rw [nG6,show bnd 6=(-524288,524287,1) from rfl]
  refine ⟨rfl,?_,?_,one _⟩ <;> (unfold sgn; simp only; omega)
 ·rw [nG7,show bnd 7=(-1048576,1048574,2) from rfl]
  have e:sumF (numFd 7 w)=partN w 21 10*2+(partN w 20 1*2048+(partN w 12 8*4096+(partN w 31 1*1048576+0))):=rfl
  rw [e]
  refine ⟨rfl,?_,?_,?_⟩
  ·unfold sgn; simp only; omega
  ·unfold sgn; simp only; omega
  ·refine Int.tmod_eq_zero_of_dvd ?_
   unfold sgn
   simp only
   omega
 ·rw [nG8,show bnd 8=(0,0,1) from rfl]; decide
theorem faulty_all {f a b c d n:Int} (h:faultyF f a b c d n=0) :
  d=0∧((bnd f).1 == (bnd f).2.1 && n != 0)=false∧¬ n<(bnd f).1∧¬ (bnd f).2.1<n∧Int.tmod n (bnd f).2.2=0:=by
 obtain ⟨h1,h2,h3⟩:=faulty_regs h
 unfold faultyF at h
 rw [h1,h2,h3] at h
 simp only [Bool.not_true,cond_false] at h
 cases e1:(d != 0)
 ·rw [e1] at h
  cases e2:((bnd f).1 == (bnd f).2.1 && n != 0)
  ·rw [e2] at h
   cases e3:decide (n<(bnd f).1)
   ·rw [e3] at h
    cases e4:decide ((bnd f).2.1<n)
    ·rw [e4] at h
     cases e5:(Int.tmod n (bnd f).2.2 != 0)
     ·exact ⟨by simpa using e1,rfl,of_decide_eq_false e3,of_decide_eq_false e4,by simpa using e5⟩
     ·rw [e5] at h; simp at h
    ·rw [e4] at h; simp at h
   ·rw [e3] at h; simp at h
  ·rw [e2] at h; simp at h
 ·rw [e1] at h; simp at h
theorem faulty_mk {f a b c n:Int} (ha:regOk a (uA f)=true) (hb:regOk b (uB f)=true) (hc:regOk c (uC f)=true)
  (h:((bnd f).1 == (bnd f).2.1 && n != 0)=false∧¬ n<(bnd f).1∧¬ (bnd f).2.1<n∧Int.tmod n (bnd f).2.2=0):faultyF f a b c 0 n=0:=by
 obtain ⟨h1,h2,h3,h4⟩:=h
 unfold faultyF
 rw [ha,hb,hc,h1,decide_eq_false h2,decide_eq_false h3,h4]
 rfl
theorem reg_get {r:RowT} (hr:r ∈ rowsL) {a b c n:Int} (ha:regOk a (uA r.2.1)=true) (hb:regOk b (uB r.2.1)=true) (hc:regOk c (uC r.2.1)=true) :
  rdA r.2.1 (wordF r.2.1 r.2.2 a b c n)=a∧rdB r.2.1 (wordF r.2.1 r.2.2 a b c n)=b∧rdC r.2.1 (wordF r.2.1 r.2.2 a b c n)=c:=by
 obtain ⟨e1,e2⟩:=word_sum (n:=n) hr ha hb hc
 obtain ⟨F,C⟩:=word_fine (n:=n) hr ha hb hc
 rw [← orF_sum _ _ F C] at e1 e2
 have key:∀ {x:Int} {u:Bool} {k:Nat},regOk x u=true→regFd u x k ∈ wordFd r.2.1 a b c n→cond u (fld (wordF r.2.1 r.2.2 a b c n) k) 0=x:=by
  intro x u k hx hm
  obtain ⟨x0,x1⟩:=regOk_rng hx
  cases u
  ·have:x=0:=by
    unfold regOk at hx
    simpa using hx
   rw [this]; rfl
  ·have g:=orF_get F C _ hm
   show fld (wordF r.2.1 r.2.2 a b c n) k=x
   rw [e1,fld_eq e2]
   have g:orF r.2.2.toNat (wordFd r.2.1 a b c n) / 2 ^ k % 32=x.toNat:=g
   rw [g]
   omega
 refine ⟨key ha ?_,key hb ?_,key hc ?_⟩ <;> simp [wordFd]
theorem num_get {r:RowT} (hr:r ∈ rowsL) {a b c n:Int} (ha:regOk a (uA r.2.1)=true) (hb:regOk b (uB r.2.1)=true) (hc:regOk c (uC r.2.1)=true)
  (h:((bnd r.2.1).1 == (bnd r.2.1).2.1 && n != 0)=false∧¬ n<(bnd r.2.1).1∧¬ (bnd r.2.1).2.1<n∧Int.tmod n (bnd r.2.1).2.2=0) :
  numberF r.2.1 (wordF r.2.1 r.2.2 a b c n)=n:=by
 obtain ⟨e1,e2⟩:=word_sum (n:=n) hr ha hb hc
 obtain ⟨F,C⟩:=word_fine (n:=n) hr ha hb hc
 obtain ⟨_,_,_,_,f0,f8⟩:=row_off (List.all_eq_true.1 rows_fine _ hr)
 rw [← orF_sum _ _ F C] at e1 e2
 obtain ⟨h1,h2,h3,h4⟩:=h
 rw [e1,numberF_eq _ _ e2 f0 f8]
 have get:∀ {p k b' : Nat},(p,k,b') ∈ immFd r.2.1 n→orF r.2.2.toNat (wordFd r.2.1 a b c n) / 2 ^ k % 2 ^ b' = p:=by
  intro p k b' hm
  exact orF_get F C (p,k,b') (by simp [wordFd,hm])
 generalize orF r.2.2.toNat (wordFd r.2.1 a b c n)=w at get e2
 generalize r.2.1=f at get f0 f8 h1 h2 h3 h4
 clear e1 F C ha hb hc hr
 have pn:=fun fr bi=>partN_nat w (fr:=fr) (bi:=bi) e2
 rcases form_cases f0 f8 with h | h | h | h | h | h | h | h | h <;> subst h
 ·rw [nG0]
  exact (by simpa [show bnd 0=(0,0,1) from rfl] using h1:n=0).symm
 ·have g:=get (p:=partN n 0 12) (k:=20) (b' := 12) (by exact List.mem_cons_self)
  have i:=partN_int n (fr:=0) (bi:=12) (by omega)
  rw [show bnd 1=(-2048,2047,1) from rfl] at h2 h3
  simp only at h2 h3
  rw [nG1]; unfold sgn; omega
 ·have g:=get (p:=partN n 0 6) (k:=20) (b' := 6) (by exact List.mem_cons_self)
  have i:=partN_int n (fr:=0) (bi:=6) (by omega)
  rw [show bnd 2=(0,63,1) from rfl] at h2 h3
  simp only at h2 h3
  rw [nG2,pn]; omega
 ·have g:=get (p:=partN n 0 6) (k:=20) (b' := 6) (by exact List.mem_cons_self)
  have i:=partN_int n (fr:=0) (bi:=6) (by omega)
  rw [show bnd 3=(0,31,1) from rfl] at h2 h3
  simp only at h2 h3
  rw [nG3,pn]; omega
 ·have g:=get (p:=partN n 0 5) (k:=7) (b' := 5) (by exact List.mem_cons_self)
  have g2:=get (p:=partN n 5 7) (k:=25) (b' := 7) (by exact List.mem_cons_of_mem _ List.mem_cons_self)
  have i:=partN_int n (fr:=0) (bi:=5) (by omega)
  have i2:=partN_int n (fr:=5) (bi:=7) (by omega)
  rw [show bnd 4=(-2048,2047,1) from rfl] at h2 h3
  simp only at h2 h3
  have e:sumF (numFd 4 w)=partN w 7 5*1+(partN w 25 7*32+0):=rfl
  rw [nG4,e,pn,pn]; unfold sgn; omega
 ·have g:=get (p:=partN n 1 4) (k:=8) (b' := 4) (by exact List.mem_cons_self)
  have g2:=get (p:=partN n 5 6) (k:=25) (b' := 6) (by exact List.mem_cons_of_mem _ List.mem_cons_self)
  have g3:=get (p:=partN n 11 1) (k:=7) (b' := 1) (by exact List.mem_cons_of_mem _ (List.mem_cons_of_mem _ List.mem_cons_self))
  have g4:=get (p:=partN n 12 1) (k:=31) (b' := 1) (by exact List.mem_cons_of_mem _ (List.mem_cons_of_mem _ (List.mem_cons_of_mem _ List.mem_cons_self)))
  have i:=partN_int n (fr:=1) (bi:=4) (by omega)
  have i2:=partN_int n (fr:=5) (bi:=6) (by omega)
  have i3:=partN_int n (fr:=11) (bi:=1) (by omega)
  have i4:=partN_int n (fr:=12) (bi:=1) (by omega)
  rw [show bnd 5=(-4096,4094,2) from rfl] at h2 h3 h4
  simp only at h2 h3 h4
  have h4:=Int.dvd_of_tmod_eq_zero h4
  have e:sumF (numFd 5 w)=partN w 8 4*2+(partN w 25 6*32+(partN w 7 1*2048+(partN w 31 1*4096+0))):=rfl
  rw [nG5,e,pn,pn,pn,pn,g,g2,g3,g4]
  have k:((partN n 1 4*2+(partN n 5 6*32+(partN n 11 1*2048+(partN n 12 1*4096+0))):Nat):Int)=n % 8192:=by
   clear g g2 g3 g4 e get pn
   simp only [Int.natCast_add,Int.natCast_mul,i,i2,i3,i4]
   clear i i2 i3 i4 f0 f8 e2
   simp only [Int.reducePow,Int.cast_ofNat_Int]
   omega
  rw [k]; unfold sgn; omega
 ·have g:=get (p:=partN n 0 20) (k:=12) (b' := 20) (by exact List.mem_cons_self)
  have i:=partN_int n (fr:=0) (bi:=20) (by omega)
  rw [show bnd 6=(-524288,524287,1) from rfl] at h2 h3
  simp only at h2 h3
  rw [nG6]; unfold sgn; omega
 ·have g:=get (p:=partN n 1 10) (k:=21) (b' := 10) (by exact List.mem_cons_self)
  have g2:=get (p:=partN n 11 1) (k:=20) (b' := 1) (by exact List.mem_cons_of_mem _ List.mem_cons_self)
  have g3:=get (p:=partN n 12 8) (k:=12) (b' := 8) (by exact List.mem_cons_of_mem _ (List.mem_cons_of_mem _ List.mem_cons_self))
  have g4:=get (p:=partN n 20 1) (k:=31) (b' := 1) (by exact List.mem_cons_of_mem _ (List.mem_cons_of_mem _ (List.mem_cons_of_mem _ List.mem_cons_self)))
  have i:=partN_int n (fr:=1) (bi:=10) (by omega)
  have i2:=partN_int n (fr:=11) (bi:=1) (by omega)
  have i3:=partN_int n (fr:=12) (bi:=8) (by omega)
  have i4:=partN_int n (fr:=20) (bi:=1) (by omega)
  rw [show bnd 7=(-1048576,1048574,2) from rfl] at h2 h3 h4
  simp only at h2 h3 h4
  have h4:=Int.dvd_of_tmod_eq_zero h4
  have e:sumF (numFd 7 w)=partN w 21 10*2+(partN w 20 1*2048+(partN w 12 8*4096+(partN w 31 1*1048576+0))):=rfl
  rw [nG7,e,pn,pn,pn,pn,g,g2,g3,g4]
  have k:((partN n 1 10*2+(partN n 11 1*2048+(partN n 12 8*4096+(partN n 20 1*1048576+0))):Nat):Int)=n % 2097152:=by
   clear g g2 g3 g4 e get pn
   simp only [Int.natCast_add,Int.natCast_mul,i,i2,i3,i4]
   clear i i2 i3 i4 f0 f8 e2
   simp only [Int.reducePow,Int.cast_ofNat_Int]
   omega
  rw [k]; unfold sgn; omega
 ·rw [nG8]
  exact (by simpa [show bnd 8=(0,0,1) from rfl] using h1:n=0).symm
theorem code_low {r:RowT} (hr:r ∈ rowsL) {a b c n:Int} (ha:regOk a (uA r.2.1)=true) (hb:regOk b (uB r.2.1)=true) (hc:regOk c (uC r.2.1)=true) :
  (and32 r.2.2 127 != and32 (wordF r.2.1 r.2.2 a b c n) 127)=false:=by
 obtain ⟨e1,e2⟩:=word_sum (n:=n) hr ha hb hc
 obtain ⟨⟨w0,w1⟩,_,_,_,f0,f8⟩:=row_off (List.all_eq_true.1 rows_fine _ hr)
 have low:∀ {x:Int},0≤x→x<4294967296→and32 x 127=x % 128:=by
  intro x x0 x1
  unfold and32
  rw [BitVec.toNat_and,ofInt32_toNat x0 x1,ofInt32_toNat (by omega) (by omega),show Int.toNat 127=2 ^ 7 - 1 from rfl,Nat.and_two_pow_sub_one_eq_mod,wrap_u32]
  omega
 rw [low w0 w1,low (by omega) (by omega),e1]
 have hs:sumF (wordFd r.2.1 a b c n) % 128=0:=by
  have reg:∀ (u:Bool) (x:Int) (k:Nat),7≤k→(regFd u x k).1*2 ^ (regFd u x k).2.1 % 128=0:=by
   intro u x k hk
   cases u
   ·simp [regFd]
   ·show x.toNat*2 ^ k % 128=0
    have:2 ^ k=128*2 ^ (k - 7):=by rw [show (128:Nat)=2 ^ 7 from rfl,← Nat.pow_add]; congr 1; omega
    rw [this,Nat.mul_left_comm]
    exact Nat.mul_mod_right _ _
  have r1:=reg (uA r.2.1) a 7 (by omega)
  have r2:=reg (uB r.2.1) b 15 (by omega)
  have r3:=reg (uC r.2.1) c 20 (by omega)
  have im:sumF (immFd r.2.1 n) % 128=0:=by
   generalize r.2.1=f at f0 f8
   rcases form_cases f0 f8 with h | h | h | h | h | h | h | h | h <;> subst h
   ·rfl
   ·show (partN n 0 12*1048576+0) % 128=0; omega
   ·show (partN n 0 6*1048576+0) % 128=0; omega
   ·show (partN n 0 6*1048576+0) % 128=0; omega
   ·show (partN n 0 5*128+(partN n 5 7*33554432+0)) % 128=0; omega
   ·show (partN n 1 4*256+(partN n 5 6*33554432+(partN n 11 1*128+(partN n 12 1*2147483648+0)))) % 128=0; omega
   ·show (partN n 0 20*4096+0) % 128=0; omega
   ·show (partN n 1 10*2097152+(partN n 11 1*1048576+(partN n 12 8*4096+(partN n 20 1*2147483648+0)))) % 128=0; omega
   ·rfl
  simp only [wordFd,sumF]
  omega
 have:r.2.2 % 128=((r.2.2.toNat+sumF (wordFd r.2.1 a b c n):Nat):Int) % 128:=by omega
 rw [this]
 exact bne_self_eq_false _
theorem dec_enc {i:InsT} (h:(encE i == 0)=true):decOk (encW i)=true∧decI (encW i)=i:=by
 obtain ⟨hf,hz⟩:=enc_ok h
 obtain ⟨g1,g2,g3⟩:=faulty_regs hz
 obtain ⟨d0,hn⟩:=faulty_all hz
 have hr:=frow_mem hf
 obtain ⟨o1,o2⟩:=row_own hr
 have hname:(frow i.1).1=i.1:=by
  unfold fok at hf
  obtain ⟨r,hr'⟩:=Option.isSome_iff_exists.1 hf
  have:frow i.1=r:=by unfold frow; rw [hr']; rfl
  rw [this]
  exact eq_of_beq (by simpa using List.find?_some hr' : strEq r.1 i.1=true)
 obtain ⟨r1,r2,r3⟩:=reg_get (n:=i.2.2.2.2.2) hr g1 g2 g3
 have r4:=num_get hr g1 g2 g3 hn
 have hread:readF (encW i) (frow i.1)=i:=by
  unfold readF encW
  rw [r1,r2,r3,r4,hname]
  obtain ⟨nm,a,b,c,d,n⟩:=i
  simp only at d0
  rw [d0]
 have hmatch:dMatch (encW i) (frow i.1)=true:=by
  unfold dMatch encW
  rw [code_low hr g1 g2 g3,r1,r2,r3,r4]
  exact beq_self_eq_true _
 obtain ⟨e1,e2⟩:=word_sum (n:=i.2.2.2.2.2) hr g1 g2 g3
 have hv:(encW i)=((encW i).toNat:Nat)∧(encW i).toNat<2 ^ 32:=by
  unfold encW
  rw [e1]
  exact ⟨by rw [Int.toNat_natCast],by rw [Int.toNat_natCast]; exact e2⟩
 have only:∀ s ∈ rowsL,dMatch (encW i) s=true→s=frow i.1:=by
  intro s hs hd
  have hw:wordF s.2.1 s.2.2 (rdA s.2.1 (encW i)) (rdB s.2.1 (encW i)) (rdC s.2.1 (encW i)) (numberF s.2.1 (encW i))=encW i:=by
   unfold dMatch at hd
   cases hx:(and32 s.2.2 127 != and32 (encW i) 127)
   ·rw [hx] at hd; exact eq_of_beq hd
   ·rw [hx] at hd; cases hd
  have k1:regOk (rdA s.2.1 (encW i)) (uA s.2.1)=true:=by rw [hv.1]; exact fld_ok hv.2 7 _
  have k2:regOk (rdB s.2.1 (encW i)) (uB s.2.1)=true:=by rw [hv.1]; exact fld_ok hv.2 15 _
  have k3:regOk (rdC s.2.1 (encW i)) (uC s.2.1)=true:=by rw [hv.1]; exact fld_ok hv.2 20 _
  exact word_only hs hr k1 k2 k3 g1 g2 g3 hw
 have hfind:drow (encW i)=some (frow i.1):=by
  unfold drow
  cases hd:rowsL.find? (dMatch (encW i)) with
  | none=>exact absurd hmatch (List.find?_eq_none.1 hd _ hr)
  | some s=>rw [only s (List.mem_of_find?_eq_some hd) (by simpa using List.find?_some hd)]
 exact ⟨by unfold decOk; rw [hfind]; rfl,by unfold decI; rw [hfind]; exact hread⟩
end Go.Rj

namespace Go.Rj
open Go Go.Ab Go.Proofs Go.Ra
noncomputable def cx168:Cx:={ P:=Tryz.prog,n:=51,tab:=[],mtab:=[],refs:=[],keeps:=[0,1,2,3,4,5,12,13,14,18,31,40],fuel:=20 }
noncomputable def rows34S:MSpec:=fun args H=>.req (Nat.ble args.length Tryz.f168.ntmps) (mfun cx168 Tryz.f168 args H)
theorem rows34S_ok:MSound Tryz.prog 168 rows34S:=msound_fun (cx:=cx168) (fn:=Tryz.f168) (cx0_ok rfl rfl) (by kernel_rfl) (by kernel_rfl)
noncomputable def cx108:Cx:={ P:=Tryz.prog,n:=55,tab:=[],mtab:=[(168,rows34S)],refs:=[],keeps:=[0,1] }
abbrev rowXE:EC:=.prod [.int .u8,.str,.int .u32,.int .u32,.int .u32]
abbrev RowX:=Int × List UInt8 × Int × Int × Int
@[irreducible] def rowsX:List RowX:=[
 (82,[97,100,100],51,0,0),
 (82,[115,117,98],51,0,32),
 (82,[115,108,108],51,1,0),
 (82,[115,108,116],51,2,0),
 (82,[115,108,116,117],51,3,0),
 (82,[120,111,114],51,4,0),
 (82,[115,114,108],51,5,0),
 (82,[115,114,97],51,5,32),
 (82,[111,114],51,6,0),
 (82,[97,110,100],51,7,0),
 (82,[109,117,108],51,0,1),
 (82,[109,117,108,104],51,1,1),
 (82,[109,117,108,104,115,117],51,2,1),
 (82,[109,117,108,104,117],51,3,1),
 (82,[100,105,118],51,4,1),
 (82,[100,105,118,117],51,5,1),
 (82,[114,101,109],51,6,1),
 (82,[114,101,109,117],51,7,1),
 (82,[97,100,100,119],59,0,0),
 (82,[115,117,98,119],59,0,32),
 (82,[115,108,108,119],59,1,0),
 (82,[115,114,108,119],59,5,0),
 (82,[115,114,97,119],59,5,32),
 (82,[109,117,108,119],59,0,1),
 (82,[100,105,118,119],59,4,1),
 (82,[100,105,118,117,119],59,5,1),
 (82,[114,101,109,119],59,6,1),
 (82,[114,101,109,117,119],59,7,1),
 (73,[97,100,100,105],19,0,0),
 (73,[115,108,116,105],19,2,0),
 (73,[115,108,116,105,117],19,3,0),
 (73,[120,111,114,105],19,4,0),
 (73,[111,114,105],19,6,0),
 (73,[97,110,100,105],19,7,0),
 (73,[97,100,100,105,119],27,0,0),
 (73,[108,98],3,0,0),
 (73,[108,104],3,1,0),
 (73,[108,119],3,2,0),
 (73,[108,100],3,3,0),
 (73,[108,98,117],3,4,0),
 (73,[108,104,117],3,5,0),
 (73,[108,119,117],3,6,0),
 (73,[106,97,108,114],103,0,0),
 (104,[115,108,108,105],19,1,0),
 (104,[115,114,108,105],19,5,0),
 (104,[115,114,97,105],19,5,32),
 (119,[115,108,108,105,119],27,1,0),
 (119,[115,114,108,105,119],27,5,0),
 (119,[115,114,97,105,119],27,5,32),
 (83,[115,98],35,0,0),
 (83,[115,104],35,1,0),
 (83,[115,119],35,2,0),
 (83,[115,100],35,3,0),
 (66,[98,101,113],99,0,0),
 (66,[98,110,101],99,1,0),
 (66,[98,108,116],99,4,0),
 (66,[98,103,101],99,5,0),
 (66,[98,108,116,117],99,6,0),
 (66,[98,103,101,117],99,7,0),
 (85,[108,117,105],55,0,0),
 (85,[97,117,105,112,99],23,0,0),
 (74,[106,97,108],111,0,0),
 (120,[101,99,97,108,108],115,0,0),
 (120,[101,98,114,101,97,107],1048691,0,0)]
theorem table_run:(dfun cx108 Tryz.f108 []).run=some (.sl rowXE rowsX [] .ro):=by kernel_rfl
def tableS:Ab.Spec:=fun args=>match args with
 | []=>.leaf (.sl rowXE rowsX [] .ro)
 | _=>.fail
theorem tableS_ok:Sound Tryz.prog 108 tableS:=by
 intro args out h
 unfold tableS at h
 split at h
 rotate_left
 ·cases h
 simp only [Tree.run,Option.some.injEq] at h
 subst h
 exact pcall_fun' (cx:=cx108) (fn:=Tryz.f108) (cx1_ok (.nil _) (.cons rows34S_ok (.nil _)) rfl rfl) (by kernel_rfl) (by kernel_rfl) (by kernel_rfl) table_run
theorem rowsX_len:rowsX.length=64:=by kernel_rfl
end Go.Rj

namespace Go.Rj
open Go Go.Ab Go.Proofs Go.Ra
set_option maxRecDepth 2000
noncomputable def cx110:Cx:={ P:=Tryz.prog,n:=14,tab:=[],mtab:=[],refs:=[],keeps:=[0,1,2,6] }
noncomputable def cx215:Cx:={ P:=Tryz.prog,n:=17,tab:=[],mtab:=[],refs:=[],keeps:=[0,2] }
noncomputable def cx95:Cx:={ P:=Tryz.prog,n:=19,tab:=[],mtab:=[],refs:=[],keeps:=[0,2,3,4,5,6,9,11,13,15,17] }
noncomputable def cx96:Cx:={ P:=Tryz.prog,n:=17,tab:=[],mtab:=[],refs:=[],keeps:=[0,1,4,5,9,16] }
def bitsT (n fr si:Int):Tree V:=
 (.br (decide (0≤fr)) (.br (decide (0≤si)) (.leaf (.int .u32 (IntKind.wrap IntKind.u32 ↑(BitVec.toNat (BitVec.ofInt 32 (Int.fdiv n (2 ^ Min.min (Int.toNat fr) 32)) &&& BitVec.ofInt 32 (IntKind.wrap IntKind.u32 (IntKind.wrap IntKind.u32 (1*2 ^ Min.min (Int.toNat si) 32) - 1))))))) .fail) .fail)
theorem bitsT_eq (n fr si:Int):(dfun cx110 Tryz.f110 [.int .u32 n,.int .u64 fr,.int .u64 si]).run=(bitsT n fr si).run:=
 (show (dfun cx110 Tryz.f110 [.int .u32 n,.int .u64 fr,.int .u64 si]).run=(bitsT n fr si).out by kernel_rfl).trans (Tree.out_run _)
def sizedT (n:Int):Tree V:=
 (.br (n == 1) (.leaf (.bool true)) (.br (n == 2) (.leaf (.bool true)) (.br (n == 4) (.leaf (.bool true)) (.leaf (.bool (n == 8))))))
theorem sizedT_eq (n:Int):(dfun cx215 Tryz.f215 [.int .i64 n]).run=(sizedT n).run:=
 (show (dfun cx215 Tryz.f215 [.int .i64 n]).run=(sizedT n).out by kernel_rfl).trans (Tree.out_run _)
def boundsXT (f:Int):Tree V:=
 (.br (f == 73) (.leaf (.tup [(.int .i64 (-2048)),(.int .i64 2047),(.int .i64 1)])) (.br (f == 83) (.leaf (.tup [(.int .i64 (-2048)),(.int .i64 2047),(.int .i64 1)])) (.br (f == 104) (.leaf (.tup [(.int .i64 0),(.int .i64 63),(.int .i64 1)])) (.br (f == 119) (.leaf (.tup [(.int .i64 0),(.int .i64 31),(.int .i64 1)])) (.br (f == 66) (.leaf (.tup [(.int .i64 (-4096)),(.int .i64 4094),(.int .i64 2)])) (.br (f == 85) (.leaf (.tup [(.int .i64 (-524288)),(.int .i64 524287),(.int .i64 1)])) (.br (f == 74) (.leaf (.tup [(.int .i64 (-1048576)),(.int .i64 1048574),(.int .i64 2)])) (.leaf (.tup [(.int .i64 0),(.int .i64 0),(.int .i64 1)])))))))))
theorem boundsXT_eq (f:Int):(dfun cx95 Tryz.f95 [.int .u8 f]).run=(boundsXT f).run:=
 (show (dfun cx95 Tryz.f95 [.int .u8 f]).run=(boundsXT f).out by kernel_rfl).trans (Tree.out_run _)
def hasRound (s:List UInt8) (c k:Int):Tree St:=
 (.br (decide (k < ↑(List.length s))) (.br (inside k (List.length s)) (.br (↑(UInt8.toNat (List.getD s (Int.toNat k) 0)) == c) (.leaf (.ret,[(0,(.str s)),(1,(.int .u8 c)),(4,(.bool true)),(5,(.int .i64 k)),(9,(.bool true)),(16,(.bool true))],[])) (.leaf (.normal,[(0,(.str s)),(1,(.int .u8 c)),(5,(.int .i64 (IntKind.wrap IntKind.i64 (k+1)))),(9,(.bool true)),(16,(.bool false))],[]))) .fail) (.leaf ((.exit 0),[(0,(.str s)),(1,(.int .u8 c)),(5,(.int .i64 k)),(9,(.bool false))],[])))
theorem hasRound_eq (s:List UInt8) (c k:Int):(dcode cx96 (cin (cin (c2 (c1 (tailN 0 (bodyOf Tryz.f96)))))) [(0,.str s),(1,.int .u8 c),(5,.int .i64 k)] []).run=(hasRound s c k).run:=
 (show (dcode cx96 (cin (cin (c2 (c1 (tailN 0 (bodyOf Tryz.f96)))))) [(0,.str s),(1,.int .u8 c),(5,.int .i64 k)] []).run=(hasRound s c k).out by kernel_rfl).trans (Tree.out_run _)
def bitX (n fr si:Int):Int:=IntKind.wrap IntKind.u32 ↑(BitVec.toNat (BitVec.ofInt 32 (Int.fdiv n (2 ^ Min.min (Int.toNat fr) 32)) &&& BitVec.ofInt 32 (IntKind.wrap IntKind.u32 (IntKind.wrap IntKind.u32 (1*2 ^ Min.min (Int.toNat si) 32) - 1))))
def bitsS:Ab.Spec:=fun args=>match args with
 | [.int .u32 n,.int .u64 fr,.int .u64 si]=>.req (decide (0≤fr)) (.req (decide (0≤si)) (.leaf (.int .u32 (bitX n fr si))))
 | _=>.fail
theorem bitsS_ok:Sound Tryz.prog 110 bitsS:=by
 intro args out h
 unfold bitsS at h
 split at h
 rotate_left
 ·cases h
 refine pcall_fun' (cx:=cx110) (fn:=Tryz.f110) (cx0_ok rfl rfl) (by kernel_rfl) (by kernel_rfl) (by kernel_rfl) ?_
 rw [bitsT_eq]
 exact h
def sizedX (n:Int):Bool:=cond (n == 1) true (cond (n == 2) true (cond (n == 4) true (n == 8)))
def sizedS:Ab.Spec:=fun args=>match args with
 | [.int .i64 n]=>.leaf (.bool (sizedX n))
 | _=>.fail
theorem sizedS_ok:Sound Tryz.prog 215 sizedS:=by
 intro args out h
 unfold sizedS at h
 split at h
 rotate_left
 ·cases h
 rename_i n
 refine pcall_fun' (cx:=cx215) (fn:=Tryz.f215) (cx0_ok rfl rfl) (by kernel_rfl) (by kernel_rfl) (by kernel_rfl) ?_
 rw [sizedT_eq,← h]
 unfold sizedT sizedX
 cases (n == 1) <;> cases (n == 2) <;> cases (n == 4) <;> rfl
def bndX (f:Int):Int × Int × Int:=
 cond (f == 73) (-2048,2047,1) (cond (f == 83) (-2048,2047,1) (cond (f == 104) (0,63,1) (cond (f == 119) (0,31,1) (cond (f == 66) (-4096,4094,2)
  (cond (f == 85) (-524288,524287,1) (cond (f == 74) (-1048576,1048574,2) (0,0,1)))))))
def boundsXS:Ab.Spec:=fun args=>match args with
 | [.int .u8 f]=>.leaf (.tup [.int .i64 (bndX f).1,.int .i64 (bndX f).2.1,.int .i64 (bndX f).2.2])
 | _=>.fail
theorem boundsXS_ok:Sound Tryz.prog 95 boundsXS:=by
 intro args out h
 unfold boundsXS at h
 split at h
 rotate_left
 ·cases h
 rename_i f
 refine pcall_fun' (cx:=cx95) (fn:=Tryz.f95) (cx0_ok rfl rfl) (by kernel_rfl) (by kernel_rfl) (by kernel_rfl) ?_
 rw [boundsXT_eq,← h]
 unfold boundsXT bndX
 cases (f == 73)
 rotate_left
 ·kernel_rfl
 cases (f == 83)
 rotate_left
 ·kernel_rfl
 cases (f == 104)
 rotate_left
 ·kernel_rfl
 cases (f == 119)
 rotate_left
 ·kernel_rfl
 cases (f == 66)
 rotate_left
 ·kernel_rfl
 cases (f == 85)
 rotate_left
 ·kernel_rfl
 cases (f == 74) <;> kernel_rfl
def isL (c:Int) (b:UInt8):Bool:=((UInt8.toNat b:Nat):Int) == c
def hasX (s:List UInt8) (c:Int):Bool:=s.any (isL c)
theorem any_take_succ {α:Type} {p:α→Bool} {l:List α} {i:Nat} {d:α} (hi:i<l.length):(l.take (i+1)).any p=((l.take i).any p || p (l.getD i d)):=by
 rw [List.take_add_one,List.getElem?_eq_getElem hi,getD_lt hi,List.any_append]
 simp
def hasSt (s:List UInt8) (c:Int) (i:{ i:Nat // i≤s.length∧(s.take i).any (isL c)=false }):T × List O:=([(0,.str s),(1,.int .u8 c),(5,.int .i64 i.1)],[])
theorem has_ok (s:List UInt8) (c:Int) (hl:s.length<1000000000):PCall Tryz.prog 96 [.str s,.int .u8 c] (.bool (hasX s c)):=by
 refine pcall_of' (c:=bodyOf Tryz.f96) (fn:=Tryz.f96) (by kernel_rfl) (by kernel_rfl) (by kernel_rfl) (by kernel_rfl) ?_
 have e:bodyOf Tryz.f96 = .seq (c1 (bodyOf Tryz.f96)) (.seq (.seq (c1 (c1 (tailN 0 (bodyOf Tryz.f96)))) (.block 0 (.loop (cin (cin (c2 (c1 (tailN 0 (bodyOf Tryz.f96)))))))))  (tailN 1 (bodyOf Tryz.f96))):=by kernel_rfl
 rw [e]
 generalize hQ:(fun e t H=>(e=AEx.ret∨e = .normal)∧answerV Tryz.prog Tryz.f96.results.toList H t=some (.bool (hasX s c)))=Q
 have hok:CxOk cx96:=cx0_ok rfl rfl
 refine AWP_seq (AWP_run (cx:=cx96) rfl rfl hok (s:=(.normal,[(0,.str s),(1,.int .u8 c),(4,.bool false)],[])) (by kernel_rfl) ?_)
 refine AWP_seq (AWP_seq (AWP_run (cx:=cx96) rfl rfl hok (s:=(.normal,[(0,.str s),(1,.int .u8 c),(4,.bool false),(5,.int .i64 0)],[])) (by kernel_rfl) ?_))
 refine AWP_block ?_
 refine AWP.less (s:=(hasSt s c ⟨0,Nat.zero_le _,rfl⟩).1) (Fits.tle ⟨rfl,rfl,rfl,trivial⟩) ?_
 refine AWP_rounds (cx:=cx96) (P:=Tryz.prog) (n:=17) rfl rfl hok (hasSt s c) (fun i=>s.length - i.1) ?_ ⟨0,Nat.zero_le _,rfl⟩
 rintro ⟨i,hi,hnone⟩
 refine Tree.all_run_eq (hasRound_eq s c i) ?_
 refine ⟨fun hlt=>⟨fun hin=>⟨fun hm=>?_,fun hm=>?_⟩,fun hin=>?_⟩,fun hge=>?_⟩
 ·have hlt:i<s.length:=Int.ofNat_lt.1 (of_decide_eq_true hlt)
  refine ⟨[],_,rfl,?_⟩
  subst hQ
  refine ⟨.inl rfl,?_⟩
  have h1:hasX s c=true:=by
   unfold hasX
   rw [List.any_eq_true]
   exact ⟨s.getD i 0,by rw [getD_lt hlt]; exact List.getElem_mem hlt,hm⟩
  show answerV _ _ _ _=some _
  rw [h1]
  kernel_rfl
 ·have hlt:i<s.length:=Int.ofNat_lt.1 (of_decide_eq_true hlt)
  have hn:(s.take (i+1)).any (isL c)=false:=by
   rw [any_take_succ (d:=0) hlt,hnone,Bool.false_or]
   exact hm
  refine ⟨[],_,rfl,⟨i+1,hlt,hn⟩,by show s.length - (i+1)<s.length - i; omega,Fits.tle ⟨rfl,rfl,?_,trivial⟩,rfl⟩
  show V.int .i64 (IntKind.wrap .i64 ((i:Int)+1))=V.int .i64 ((i+1:Nat):Int)
  rw [wrap_i64 (by omega) (by omega)]
  rfl
 ·exfalso
  have hlt:i<s.length:=Int.ofNat_lt.1 (of_decide_eq_true hlt)
  exact Bool.noConfusion ((inside_of (Int.natCast_nonneg i) (Int.ofNat_lt.2 hlt)).symm.trans hin)
 ·have hge:¬ i<s.length:=fun h=>of_decide_eq_false hge (Int.ofNat_lt.2 h)
  have hi' : i=s.length:=by omega
  refine ⟨[],_,rfl,?_⟩
  show AWP _ _ _ _ _ _
  refine AWP.less (s:=[]) (Fits.tle trivial) ?_
  refine AWP_run (cx:=cx96) rfl rfl hok (s:=(.ret,[(4,.bool false)],[])) (by kernel_rfl) ?_
  subst hQ
  refine ⟨.inl rfl,?_⟩
  have h1:hasX s c=false:=by unfold hasX; rw [← hnone,hi',List.take_length]
  show answerV _ _ _ _=some _
  rw [h1]
  kernel_rfl
def hasS:Ab.Spec:=fun args=>match args with
 | [.str s,.int .u8 c]=>.req (decide (s.length<1000000000)) (.leaf (.bool (hasX s c)))
 | _=>.fail
set_option maxRecDepth 2000 in
theorem hasS_ok:Sound Tryz.prog 96 hasS:=by
 intro args out h
 unfold hasS at h
 split at h
 rotate_left
 ·cases h
 obtain ⟨h1,h2⟩:=req_run h
 simp only [Tree.run,Option.some.injEq] at h2
 subst h2
 exact has_ok _ _ (of_decide_eq_true h1)
end Go.Rj

namespace Go.Rj
open Go Go.Ab Go.Proofs Go.Ra
set_option maxRecDepth 2000
noncomputable def cx169:Cx:={ P:=Tryz.prog,n:=20,tab:=[(110,bitsS)],mtab:=[],refs:=[],keeps:=[0,1,4,5,14] }
noncomputable def cx94:Cx:={ P:=Tryz.prog,n:=19,tab:=[(96,hasS)],mtab:=[],refs:=[],keeps:=[0,1,2,6,10] }
def signedXT (n si:Int):Tree V:=
 (.br (decide (0≤si)) (.br (decide (0≤IntKind.wrap IntKind.u64 (si - 1))) (.br (decide (IntKind.wrap IntKind.i64 (1*2 ^ Min.min (Int.toNat (IntKind.wrap IntKind.u64 (si - 1))) 64)≤IntKind.wrap IntKind.i64 (Go.Rj.bitX n 0 si))) (.br (decide (0≤si)) (.leaf (.int .i64 (IntKind.wrap IntKind.i64 (IntKind.wrap IntKind.i64 (Go.Rj.bitX n 0 si) - IntKind.wrap IntKind.i64 (1*2 ^ Min.min (Int.toNat si) 64))))) .fail) (.leaf (.int .i64 (IntKind.wrap IntKind.i64 (Go.Rj.bitX n 0 si))))) .fail) .fail)
theorem signedXT_eq (n si:Int):(dfun cx169 Tryz.f169 [.int .u32 n,.int .u64 si]).run=(signedXT n si).run:=
 (show (dfun cx169 Tryz.f169 [.int .u32 n,.int .u64 si]).run=(signedXT n si).out by kernel_rfl).trans (Tree.out_run _)
def regT (s:List UInt8) (c n:Int):Tree V:=
 (.br (decide (List.length s<1000000000)) (.br (!Go.Rj.hasX s c) (.leaf (.bool (n == 0))) (.br (decide (0≤n)) (.leaf (.bool (decide (n≤31)))) (.leaf (.bool false)))) .fail)
theorem regT_eq (s:List UInt8) (c n:Int):(dfun cx94 Tryz.f94 [.str s,.int .u8 c,.int .i64 n]).run=(regT s c n).run:=
 (show (dfun cx94 Tryz.f94 [.str s,.int .u8 c,.int .i64 n]).run=(regT s c n).out by kernel_rfl).trans (Tree.out_run _)
noncomputable def cx164:Cx:={ P:=Tryz.prog,n:=39,tab:=[(215,sizedS),(156,numS)],mtab:=[],refs:=[],keeps:=[0,1,2,3,8,9,10,13,21,27,34] }
def getT (l sp:List Int) (_fl:Fl) (at_:Int):Tree V:=
 (.br (decide (at_<0)) (.leaf (.tup [(.int .u64 0),(.int .i64 5)])) (.br (decide (↑(List.length l)<at_)) (.leaf (.tup [(.int .u64 0),(.int .i64 5)])) (.br (decide (IntKind.wrap IntKind.i64 (↑(List.length l) - at_)<4)) (.leaf (.tup [(.int .u64 0),(.int .i64 2)])) (.br (decide (0≤at_) && decide (at_≤IntKind.wrap IntKind.i64 (at_+4)) && decide (IntKind.wrap IntKind.i64 (at_+4) ≤ ↑(List.length l+List.length sp))) (.br (decide (List.length (sub (l++sp) (Int.toNat at_) (Int.toNat (IntKind.wrap IntKind.i64 (at_+4))))<1000000000)) (.leaf (.tup [(.int .u64 (Go.Rj.numL (sub (l++sp) (Int.toNat at_) (Int.toNat (IntKind.wrap IntKind.i64 (at_+4)))))),(.int .i64 0)])) .fail) .fail))))
theorem getT_eq (l sp:List Int) (fl:Fl) (at_:Int):(dfun cx164 Tryz.f164 [.sl (.int .u8) l sp fl,.int .i64 at_,.int .i64 4,.bool false]).run=(getT l sp fl at_).run:=
 (show (dfun cx164 Tryz.f164 [.sl (.int .u8) l sp fl,.int .i64 at_,.int .i64 4,.bool false]).run=(getT l sp fl at_).out by kernel_rfl).trans (Tree.out_run _)
noncomputable def cx92:Cx:={ P:=Tryz.prog,n:=25,tab:=[(108,tableS)],mtab:=[],refs:=[],keeps:=[0,2,3,4,5,10,19] }
def findXRound (nm:List UInt8) (i:Int) (l:List rowXE.ty):Tree St:=
 (.br (decide (i < ↑(List.length l))) (.br (inside i (List.length l)) (.br (strEq (tS (Prod.fst (Prod.snd (List.getD l (Int.toNat i) (EC.dflt Go.Rj.rowXE))))) nm) (.br (inside i (List.length l)) (.leaf (.ret,[(0,(.str nm)),(2,(.ptr 0 0)),(3,(.bool true)),(4,(.sl (.prod [(.int .u8),.str,(.int .u32),(.int .u32),(.int .u32)]) (l) ([]) Fl.ro)),(5,(.int .i64 i)),(10,(.bool true)),(19,(.bool true))],[(.cells [(.int .u8 (tI (Prod.fst (List.getD l (Int.toNat i) (EC.dflt Go.Rj.rowXE))))),(.str (tS (Prod.fst (Prod.snd (List.getD l (Int.toNat i) (EC.dflt Go.Rj.rowXE)))))),(.int .u32 (tI (Prod.fst (Prod.snd (Prod.snd (List.getD l (Int.toNat i) (EC.dflt Go.Rj.rowXE))))))),(.int .u32 (tI (Prod.fst (Prod.snd (Prod.snd (Prod.snd (List.getD l (Int.toNat i) (EC.dflt Go.Rj.rowXE)))))))),(.int .u32 (Prod.snd (Prod.snd (Prod.snd (Prod.snd (List.getD l (Int.toNat i) (EC.dflt Go.Rj.rowXE)))))))] 145)])) .fail) (.leaf (.normal,[(0,(.str nm)),(2,(.ptr 0 0)),(4,(.sl (.prod [(.int .u8),.str,(.int .u32),(.int .u32),(.int .u32)]) (l) ([]) Fl.ro)),(5,(.int .i64 (IntKind.wrap IntKind.i64 (i+1)))),(10,(.bool true)),(19,(.bool false))],[(.cells [(.int .u8 0),(.str []),(.int .u32 0),(.int .u32 0),(.int .u32 0)] 145)]))) .fail) (.leaf ((.exit 0),[(0,(.str nm)),(2,(.ptr 0 0)),(4,(.sl (.prod [(.int .u8),.str,(.int .u32),(.int .u32),(.int .u32)]) (l) ([]) Fl.ro)),(5,(.int .i64 i)),(10,(.bool false))],[(.cells [(.int .u8 0),(.str []),(.int .u32 0),(.int .u32 0),(.int .u32 0)] 145)])))
theorem findXRound_eq (nm:List UInt8) (i:Int) (l:List rowXE.ty):(dcode cx92 (cin (cin (c2 (c1 (tailN 1 (bodyOf Tryz.f92)))))) [(0,.str nm),(2,.ptr 0 0),(4,.sl rowXE l [] .ro),(5,.int .i64 i)] [(.cells [.int .u8 0,.str [],.int .u32 0,.int .u32 0,.int .u32 0] 145)]).run=(findXRound nm i l).run:=
 (show (dcode cx92 (cin (cin (c2 (c1 (tailN 1 (bodyOf Tryz.f92)))))) [(0,.str nm),(2,.ptr 0 0),(4,.sl rowXE l [] .ro),(5,.int .i64 i)] [(.cells [.int .u8 0,.str [],.int .u32 0,.int .u32 0,.int .u32 0] 145)]).run=(findXRound nm i l).out by kernel_rfl).trans (Tree.out_run _)
def findXEnd (nm:List UInt8):Tree St:=
 (.leaf (.ret,[(0,(.str nm)),(2,(.ptr 0 0)),(3,(.bool false))],[(.cells [(.int .u8 0),(.str []),(.int .u32 0),(.int .u32 0),(.int .u32 0)] 145)]))
theorem findXEnd_eq (nm:List UInt8):(dcode cx92 (tailN 2 (bodyOf Tryz.f92)) [(0,.str nm),(2,.ptr 0 0)] [(.cells [.int .u8 0,.str [],.int .u32 0,.int .u32 0,.int .u32 0] 145)]).run=(findXEnd nm).run:=
 (show (dcode cx92 (tailN 2 (bodyOf Tryz.f92)) [(0,.str nm),(2,.ptr 0 0)] [(.cells [.int .u8 0,.str [],.int .u32 0,.int .u32 0,.int .u32 0] 145)]).run=(findXEnd nm).out by kernel_rfl).trans (Tree.out_run _)
def signX (n si:Int):Int:=
 cond (decide (IntKind.wrap IntKind.i64 (1*2 ^ Min.min (Int.toNat (IntKind.wrap IntKind.u64 (si - 1))) 64)≤IntKind.wrap IntKind.i64 (bitX n 0 si)))
  (IntKind.wrap IntKind.i64 (IntKind.wrap IntKind.i64 (bitX n 0 si) - IntKind.wrap IntKind.i64 (1*2 ^ Min.min (Int.toNat si) 64))) (IntKind.wrap IntKind.i64 (bitX n 0 si))
def signedXS:Ab.Spec:=fun args=>match args with
 | [.int .u32 n,.int .u64 si]=>.req (decide (0≤si)) (.req (decide (0≤IntKind.wrap IntKind.u64 (si - 1))) (.leaf (.int .i64 (signX n si))))
 | _=>.fail
theorem signedXS_ok:Sound Tryz.prog 169 signedXS:=by
 intro args out h
 unfold signedXS at h
 split at h
 rotate_left
 ·cases h
 rename_i n si
 obtain ⟨h1,h⟩:=req_run h
 obtain ⟨h2,h⟩:=req_run h
 refine pcall_fun' (cx:=cx169) (fn:=Tryz.f169) (cx1_ok (.cons bitsS_ok (.nil _)) (.nil _) rfl rfl) (by kernel_rfl) (by kernel_rfl) (by kernel_rfl) ?_
 rw [signedXT_eq,← h]
 unfold signedXT signX
 rw [h1,h2]
 generalize decide (IntKind.wrap IntKind.i64 (1*2 ^ Min.min (Int.toNat (IntKind.wrap IntKind.u64 (si - 1))) 64)≤IntKind.wrap IntKind.i64 (bitX n 0 si))=e
 cases e <;> rfl
def regX (s:List UInt8) (c n:Int):Bool:=cond (!hasX s c) (n == 0) (cond (decide (0≤n)) (decide (n≤31)) false)
def regS:Ab.Spec:=fun args=>match args with
 | [.str s,.int .u8 c,.int .i64 n]=>.req (decide (s.length<1000000000)) (.leaf (.bool (regX s c n)))
 | _=>.fail
theorem regS_ok:Sound Tryz.prog 94 regS:=by
 intro args out h
 unfold regS at h
 split at h
 rotate_left
 ·cases h
 rename_i s c n
 obtain ⟨h1,h⟩:=req_run h
 refine pcall_fun' (cx:=cx94) (fn:=Tryz.f94) (cx1_ok (.cons hasS_ok (.nil _)) (.nil _) rfl rfl) (by kernel_rfl) (by kernel_rfl) (by kernel_rfl) ?_
 rw [regT_eq,← h]
 unfold regT regX
 rw [h1]
 cases (!hasX s c)
 ·cases decide (0≤n) <;> rfl
 ·rfl
def uE (l:List Int) (at_:Int):Int:=cond (outOf l at_) 5 (cond (shortOf l at_) 2 0)
def uV (l:List Int) (at_:Int):Int:=cond (outOf l at_) 0 (cond (shortOf l at_) 0 (numL (sub l at_.toNat (at_.toNat+4))))
theorem sub_left {l s:List Int} {a b:Nat} (h:b≤l.length):sub (l++s) a b=sub l a b:=by
 simp only [sub]
 rw [List.take_append_of_le_length h]
def getS:Ab.Spec:=fun args=>match args with
 | [.sl (.int .u8) l _ _,.int .i64 at_,.int .i64 si,.bool big]=>.req (decide (si=4)) (.req (!big) (.req (decide (l.length<1000000000)) (.leaf (.tup [.int .u64 (uV l at_),.int .i64 (uE l at_)]))))
 | _=>.fail
theorem get_ok (l sp:List Int) (fl:Fl) (at_:Int) (h3:l.length<1000000000):PCall Tryz.prog 164 [.sl (.int .u8) l sp fl,.int .i64 at_,.int .i64 4,.bool false] (.tup [.int .u64 (uV l at_),.int .i64 (uE l at_)]):=by
 refine pcall_fun' (cx:=cx164) (fn:=Tryz.f164) (cx1_ok (.cons sizedS_ok (.cons numS_ok (.nil _))) (.nil _) rfl rfl) (by kernel_rfl) (by kernel_rfl) (by kernel_rfl) ?_
 refine (getT_eq l sp fl at_).trans ?_
 unfold getT uV uE outOf shortOf
 cases g1:decide (at_<0)
 rotate_left
 ·rfl
 cases g2:decide ((l.length:Int)<at_)
 rotate_left
 ·rfl
 cases g3:decide (IntKind.wrap IntKind.i64 ((l.length:Int) - at_)<4)
 rotate_left
 ·rfl
 have g1:=of_decide_eq_false g1
 have g2:=of_decide_eq_false g2
 have g3:=of_decide_eq_false g3
 rw [wrap_i64 (by omega) (by omega)] at g3
 have e:IntKind.wrap IntKind.i64 (at_+4)=at_+4:=wrap_i64 (by omega) (by omega)
 rw [e,show (at_+4).toNat=at_.toNat+4 from by omega,sub_left (by omega)]
 have c1:(decide (0≤at_) && decide (at_≤at_+4) && decide (at_+4≤((l.length+sp.length:Nat):Int)))=true:=by
  simp only [Bool.and_eq_true,decide_eq_true_eq]
  omega
 have c2:decide ((sub l at_.toNat (at_.toNat+4)).length<1000000000)=true:=by
  refine decide_eq_true ?_
  simp only [sub,List.length_drop,List.length_take]
  omega
 rw [c1,c2]
 rfl
theorem getS_ok:Sound Tryz.prog 164 getS:=by
 intro args out h
 unfold getS at h
 split at h
 rotate_left
 ·cases h
 rename_i l sp fl at_ si big
 obtain ⟨h1,ha⟩:=req_run h
 obtain ⟨h2,hb⟩:=req_run ha
 obtain ⟨h3,hc⟩:=req_run hb
 have h1:=of_decide_eq_true h1
 have h2:big=false:=by simpa using h2
 simp only [Tree.run,Option.some.injEq] at hc
 subst hc
 subst h1
 subst h2
 exact get_ok l sp fl at_ (of_decide_eq_true h3)
noncomputable def cx103:Cx:={ P:=Tryz.prog,n:=14,tab:=[(164,getS)],mtab:=[],refs:=[],keeps:=[0,1,2,6,7] }
def uS:Ab.Spec:=fun args=>match args with
 | [.sl (.int .u8) l _ _,.int .i64 at_,.int .i64 si]=>.req (decide (si=4)) (.req (decide (l.length<1000000000)) (.leaf (.tup [.int .u64 (uV l at_),.int .i64 (uE l at_)])))
 | _=>.fail
def uT (l _sp:List Int) (_fl:Fl) (at_ si:Int):Tree V:=
 (.br (decide (si=4)) (.br (decide (List.length l<1000000000)) (.leaf (.tup [(.int .u64 (Go.Rj.uV l at_)),(.int .i64 (Go.Rj.uE l at_))])) .fail) .fail)
theorem uT_eq (l sp:List Int) (fl:Fl) (at_ si:Int):(dfun cx103 Tryz.f103 [.sl (.int .u8) l sp fl,.int .i64 at_,.int .i64 si]).run=(uT l sp fl at_ si).run:=
 (show (dfun cx103 Tryz.f103 [.sl (.int .u8) l sp fl,.int .i64 at_,.int .i64 si]).run=(uT l sp fl at_ si).out by kernel_rfl).trans (Tree.out_run _)
theorem u_ok (l sp:List Int) (fl:Fl) (at_ si:Int) (h1:decide (si=4)=true) (h2:decide (l.length<1000000000)=true):PCall Tryz.prog 103 [.sl (.int .u8) l sp fl,.int .i64 at_,.int .i64 si] (.tup [.int .u64 (uV l at_),.int .i64 (uE l at_)]):=by
 refine pcall_fun' (cx:=cx103) (fn:=Tryz.f103) (cx1_ok (.cons getS_ok (.nil _)) (.nil _) rfl rfl) (by kernel_rfl) (by kernel_rfl) (by kernel_rfl) ?_
 refine (uT_eq l sp fl at_ si).trans ?_
 unfold uT
 rw [h1,h2]
 rfl
theorem uS_ok:Sound Tryz.prog 103 uS:=by
 intro args out h
 unfold uS at h
 split at h
 rotate_left
 ·cases h
 rename_i l sp fl at_ si
 obtain ⟨h1,ha⟩:=req_run h
 obtain ⟨h2,hc⟩:=req_run ha
 simp only [Tree.run,Option.some.injEq] at hc
 subst hc
 exact u_ok l sp fl at_ si h1 h2
theorem cx92_ok:CxOk cx92:=cx1_ok (.cons tableS_ok (.nil _)) (.nil _) rfl rfl
def findLX (nm:List UInt8) (l:List RowX):Option RowX:=l.find? fun r=>strEq r.2.1 nm
def frowX (nm:List UInt8):RowX:=(findLX nm rowsX).getD (0,[],0,0,0)
def fokX (nm:List UInt8):Bool:=(findLX nm rowsX).isSome
def rowV (r:RowX):V:=.agg [.int .u8 r.1,.str r.2.1,.int .u32 r.2.2.1,.int .u32 r.2.2.2.1,.int .u32 r.2.2.2.2]
def findXS:Ab.Spec:=fun args=>match args with
 | [.str nm]=>.leaf (.tup [.agg [.int .u8 (frowX nm).1,.str (frowX nm).2.1,.int .u32 (frowX nm).2.2.1,.int .u32 (frowX nm).2.2.2.1,.int .u32 (frowX nm).2.2.2.2],.bool (fokX nm)])
 | _=>.fail
def findXSt (nm:List UInt8) (i:{ i:Nat // i≤rowsX.length∧findLX nm (rowsX.take i)=none }):T × List O:=
 ([(0,.str nm),(2,.ptr 0 0),(4,.sl rowXE rowsX [] .ro),(5,.int .i64 i.1)],[(.cells [.int .u8 0,.str [],.int .u32 0,.int .u32 0,.int .u32 0] 145)])
theorem findX_ok (nm:List UInt8):PCall Tryz.prog 92 [.str nm] (.tup [rowV (frowX nm),.bool (fokX nm)]):=by
 refine pcall_of' (c:=bodyOf Tryz.f92) (fn:=Tryz.f92) (by kernel_rfl) (by kernel_rfl) (by kernel_rfl) (by kernel_rfl) ?_
 have e:bodyOf Tryz.f92 = .seq (c1 (bodyOf Tryz.f92)) (.seq (c1 (tailN 0 (bodyOf Tryz.f92))) (.seq (.seq (c1 (c1 (tailN 1 (bodyOf Tryz.f92)))) (.block 0 (.loop (cin (cin (c2 (c1 (tailN 1 (bodyOf Tryz.f92))))))))) (tailN 2 (bodyOf Tryz.f92)))):=by kernel_rfl
 rw [e]
 generalize hQ:(fun e t H=>(e=AEx.ret∨e = .normal)∧answerV Tryz.prog Tryz.f92.results.toList H t=some (.tup [rowV (frowX nm),.bool (fokX nm)]))=Q
 have hlen:=rowsX_len
 refine AWP_seq (AWP_run (cx:=cx92) rfl rfl cx92_ok (s:=(.normal,[(0,.str nm),(2,.ptr 0 0),(3,.bool false)],[(.cells [.int .u8 0,.str [],.int .u32 0,.int .u32 0,.int .u32 0] 145)])) (by kernel_rfl) ?_)
 refine AWP_seq (AWP_run (cx:=cx92) rfl rfl cx92_ok (s:=(.normal,[(0,.str nm),(2,.ptr 0 0),(3,.bool false),(4,.sl rowXE rowsX [] .ro)],[(.cells [.int .u8 0,.str [],.int .u32 0,.int .u32 0,.int .u32 0] 145)])) (by kernel_rfl) ?_)
 refine AWP_seq (AWP_seq (AWP_run (cx:=cx92) rfl rfl cx92_ok (s:=(.normal,[(0,.str nm),(2,.ptr 0 0),(3,.bool false),(4,.sl rowXE rowsX [] .ro),(5,.int .i64 0)],[(.cells [.int .u8 0,.str [],.int .u32 0,.int .u32 0,.int .u32 0] 145)])) (by kernel_rfl) ?_))
 refine AWP_block ?_
 refine AWP.less (s:=(findXSt nm ⟨0,Nat.zero_le _,rfl⟩).1) (Fits.tle ⟨rfl,rfl,rfl,rfl,trivial⟩) ?_
 refine AWP_rounds (cx:=cx92) (P:=Tryz.prog) (n:=25) rfl rfl cx92_ok (findXSt nm) (fun i=>64 - i.1) ?_ ⟨0,Nat.zero_le _,rfl⟩
 rintro ⟨i,hi,hnone⟩
 refine Tree.all_run_eq (findXRound_eq nm i rowsX) ?_
 refine ⟨fun hlt=>⟨fun hin=>⟨fun hp=>⟨fun hin2=>?_,fun hin2=>Bool.noConfusion (hin.symm.trans hin2)⟩,fun hp=>?_⟩,fun hin=>?_⟩,fun hge=>?_⟩
 ·have hlt:i<rowsX.length:=Int.ofNat_lt.1 (of_decide_eq_true hlt)
  have hf:findLX nm rowsX=some (rowsX.getD i (0,[],0,0,0)):=take_some hlt hnone hp
  refine ⟨[],_,rfl,?_⟩
  subst hQ
  refine ⟨.inl rfl,?_⟩
  have h1:frowX nm=rowsX.getD i (0,[],0,0,0):=by unfold frowX; rw [hf]; rfl
  have h2:fokX nm=true:=by unfold fokX; rw [hf]; rfl
  show answerV _ _ _ _=some _
  rw [h1,h2]
  kernel_rfl
 ·have hlt:i<rowsX.length:=Int.ofNat_lt.1 (of_decide_eq_true hlt)
  have hf:findLX nm (rowsX.take (i+1))=none:=take_none hlt hnone hp
  refine ⟨[],_,rfl,⟨i+1,hlt,hf⟩,by show 64 - (i+1)<64 - i; omega,Fits.tle ⟨rfl,rfl,rfl,?_,trivial⟩,rfl⟩
  show V.int .i64 (IntKind.wrap .i64 ((i:Int)+1))=V.int .i64 ((i+1:Nat):Int)
  rw [wrap_i64 (by omega) (by omega)]
  rfl
 ·exfalso
  have hlt:i<rowsX.length:=Int.ofNat_lt.1 (of_decide_eq_true hlt)
  exact Bool.noConfusion ((inside_of (Int.natCast_nonneg i) (Int.ofNat_lt.2 hlt)).symm.trans hin)
 ·have hge:¬ ((i:Int)<rowsX.length):=of_decide_eq_false hge
  have hi' : i=rowsX.length:=by omega
  refine ⟨[],_,rfl,?_⟩
  show AWP _ _ _ _ _ _
  refine AWP.less (s:=[(0,.str nm),(2,.ptr 0 0)]) (Fits.tle ⟨rfl,rfl,trivial⟩) ?_
  refine AWP_run (cx:=cx92) rfl rfl cx92_ok (findXEnd_eq nm) ?_
  subst hQ
  refine ⟨.inl rfl,?_⟩
  have hf:findLX nm rowsX=none:=by rw [← hnone,hi',List.take_length]
  have h1:frowX nm=(0,[],0,0,0):=by unfold frowX; rw [hf]; rfl
  have h2:fokX nm=false:=by unfold fokX; rw [hf]; rfl
  show answerV _ _ _ _=some _
  rw [h1,h2]
  kernel_rfl
theorem findXS_ok:Sound Tryz.prog 92 findXS:=by
 intro args out h
 unfold findXS at h
 split at h
 rotate_left
 ·cases h
 simp only [Tree.run,Option.some.injEq] at h
 subst h
 exact findX_ok _
end Go.Rj
