/-
  The document's product, by 64 rounds. Conditions: none.
-/
import Derived.Test.YtbefgnmdliefjaaGreatDoorPk19
set_option linter.unusedVariables false
set_option linter.unusedSimpArgs false
namespace Go.Ra
open Go Go.Ab Go.Proofs
def hiS (h l:Int):Int:=IntKind.wrap .u64 (((BitVec.ofInt 64 (IntKind.wrap .u64 (h*2 ^ 1)) ||| BitVec.ofInt 64 (Int.fdiv l (2 ^ 63))).toNat:Nat):Int)
def loS (l:Int):Int:=IntKind.wrap .u64 (l*2 ^ 1)
def bitB (b i:Int):Bool:=IntKind.wrap .u64 (((BitVec.ofInt 64 (Int.fdiv b (2 ^ Min.min (Int.toNat (IntKind.wrap .u64 i)) 64)) &&& BitVec.ofInt 64 1).toNat:Nat):Int) == 1
def wStep (a b i:Int) (p:Int × Int):Int × Int:=
 cond (bitB b i) (cond (decide (IntKind.wrap .u64 (loS p.2+a)<a)) (IntKind.wrap .u64 (hiS p.1 p.2+1),IntKind.wrap .u64 (loS p.2+a)) (hiS p.1 p.2,IntKind.wrap .u64 (loS p.2+a))) (hiS p.1 p.2,loS p.2)
noncomputable def wN (a b:Int) (k:Nat):Int × Int:=Nat.rec (motive:=fun _=>Int × Int) (0,0) (fun i p=>wStep a b (63 - (i:Int)) p) k
theorem wN_succ (a b:Int) (k:Nat):wN a b (k+1)=wStep a b (63 - (k:Int)) (wN a b k):=rfl
end Go.Ra

namespace Go.Ra
open Go Go.Ab Go.Proofs
noncomputable def wdF (a b:Int):Int × Int:=wN a b 64
theorem bit1 {y:Int} (h0:0≤y) (h1:y<18446744073709551616):(((BitVec.ofInt 64 y &&& BitVec.ofInt 64 1).toNat:Nat):Int)=y % 2:=by
 obtain ⟨n,rfl⟩:=Int.eq_ofNat_of_zero_le h0
 have hn:n<2 ^ 64:=by omega
 rw [BitVec.toNat_and]
 have e1:(BitVec.ofInt 64 (n:Int)).toNat=n:=by
  rw [BitVec.ofInt_natCast,BitVec.toNat_ofNat,Nat.mod_eq_of_lt hn]
 have e2:(BitVec.ofInt 64 1).toNat=1:=rfl
 rw [e1,e2,Nat.and_one_is_mod]
 rfl
theorem wr_def (x:Int):IntKind.wrap .u64 x=x % 18446744073709551616:=rfl
theorem bitB_eq {b:Int} (h0:0≤b) (h1:b<18446744073709551616) {k:Nat} (hk:k<64):bitB b (63 - (k:Int))=(b / 2 ^ (63 - k) % 2 == 1):=by
 have e:Min.min (Int.toNat (IntKind.wrap .u64 (63 - (k:Int)))) 64=63 - k:=by
  rw [wr_def]
  omega
 have hp:(0:Int)≤2 ^ (63 - k):=Int.le_of_lt (Int.pow_pos (by decide))
 have n0:=Int.ediv_nonneg h0 hp
 have n1:=Int.ediv_le_self (2 ^ (63 - k)) h0
 unfold bitB
 rw [e,Int.fdiv_eq_ediv_of_nonneg _ hp,bit1 n0 (by omega),wr_def]
 have:b / 2 ^ (63 - k) % 2 % 18446744073709551616=b / 2 ^ (63 - k) % 2:=by omega
 rw [this]
theorem step_mod {a q q' l bit:Int} (hl:l=(a*q) % 18446744073709551616) (hq:q' = 2*q+bit) (hb:bit=0∨bit=1):((l*2 ^ 1) % 18446744073709551616+a*bit) % 18446744073709551616=(a*q') % 18446744073709551616:=by
 subst hl hq
 have e:a*(2*q+bit)=(a*q)*2+a*bit:=by
  rw [Int.mul_add,Int.mul_comm 2 q,Int.mul_assoc]
 rw [e]
 generalize a*q=z
 generalize a*bit=y
 omega
theorem wN_lo {a b:Int} (h0:0≤b) (h1:b<18446744073709551616):∀ k,k≤64→(wN a b k).2=(a*(b / 2 ^ (64 - k))) % 18446744073709551616
 | 0,_=>by
  have e:b / 2 ^ (64 - 0)=0:=Int.ediv_eq_zero_of_lt h0 (by omega)
  rw [e,Int.mul_zero]
  rfl
 | k+1,hk=>by
  have ih:=wN_lo (a:=a) h0 h1 k (by omega)
  have e1:64 - (k+1)=63 - k:=by omega
  have e2:64 - k=(63 - k)+1:=by omega
  rw [wN_succ,e1]
  rw [e2,Int.pow_succ,← Int.ediv_ediv_of_nonneg (Int.le_of_lt (Int.pow_pos (by decide)))] at ih
  have hb:=bitB_eq h0 h1 (k:=k) (by omega)
  generalize b / 2 ^ (63 - k)=q' at ih hb
  unfold wStep
  rw [hb]
  cases h:q' % 2 == 1
  ·have h:=ne_of_beq_false h
   have:=step_mod (bit:=0) ih (q' := q') (by omega) (.inl rfl)
   rw [Int.mul_zero,Int.add_zero] at this
   rw [cond_false,← this,loS,wr_def]
   omega
  ·have h:=eq_of_beq h
   have:=step_mod (bit:=1) ih (q' := q') (by omega) (.inr rfl)
   rw [Int.mul_one] at this
   rw [cond_true,← this]
   cases decide (IntKind.wrap .u64 (loS (wN a b k).2+a)<a) <;> rfl
theorem or_bit {e c:Int} (h0:0≤e) (h1:e<18446744073709551616) (he:e % 2=0) (hc:c=0∨c=1):IntKind.wrap .u64 (((BitVec.ofInt 64 e ||| BitVec.ofInt 64 c).toNat:Nat):Int)=e+c:=by
 obtain ⟨n,rfl⟩:=Int.eq_ofNat_of_zero_le h0
 have e1:(BitVec.ofInt 64 (n:Int)).toNat=n:=by
  rw [BitVec.ofInt_natCast,BitVec.toNat_ofNat,Nat.mod_eq_of_lt (by omega)]
 have key:∀ m:Nat,m<2→(BitVec.ofInt 64 (n:Int) ||| BitVec.ofInt 64 (m:Int)).toNat=n+m:=by
  intro m hm
  have e2:(BitVec.ofInt 64 (m:Int)).toNat=m:=by
   rw [BitVec.ofInt_natCast,BitVec.toNat_ofNat,Nat.mod_eq_of_lt (by omega)]
  have e3:n=2 ^ 1*(n / 2):=by omega
  rw [BitVec.toNat_or,e1,e2,e3,← Nat.two_pow_add_eq_or_of_lt (by simpa using hm)]
 rw [wr_def]
 rcases hc with rfl | rfl
 ·rw [show (0:Int)=((0:Nat):Int) from rfl,key 0 (by decide)]
  omega
 ·rw [show (1:Int)=((1:Nat):Int) from rfl,key 1 (by decide)]
  omega
theorem hiS_eq {h l:Int} (h0:0≤h) (h1:h<9223372036854775808) (l0:0≤l) (l1:l<18446744073709551616):hiS h l=2*h+l / 9223372036854775808:=by
 unfold hiS
 have e:IntKind.wrap .u64 (h*2 ^ 1)=2*h:=by
  rw [wr_def]
  show (h*2) % 18446744073709551616=_
  omega
 have e2:Int.fdiv l (2 ^ 63)=l / 9223372036854775808:=Int.fdiv_eq_ediv_of_nonneg _ (by decide)
 rw [e,e2,or_bit (by omega) (by omega) (by omega) (by omega)]
theorem step_hi {z a h l t u:Int} (hz:z=18446744073709551616*h+l) (hl:l*2=18446744073709551616*t+u) (u0:0≤u) (u1:u<18446744073709551616) (a0:0≤a) (a1:a<18446744073709551616) (hb:2*z+a<340282366920938463463374607431768211456) (h0:0≤2*h+t) :
  cond (decide ((u+a) % 18446744073709551616<a)) ((2*h+t+1) % 18446744073709551616) (2*h+t)=(2*z+a) / 18446744073709551616:=by
 by_cases hc:18446744073709551616≤u+a
 ·have e:(u+a) % 18446744073709551616=u+a - 18446744073709551616:=by omega
  rw [e,decide_eq_true (by omega),cond_true]
  omega
 ·have e:(u+a) % 18446744073709551616=u+a:=by omega
  rw [e,decide_eq_false (by omega),cond_false]
  omega
theorem wN_hi {a b:Int} (a0:0≤a) (a1:a<18446744073709551616) (h0:0≤b) (h1:b<18446744073709551616):∀ k,k≤64→(wN a b k).1=(a*(b / 2 ^ (64 - k))) / 18446744073709551616
 | 0,_=>by
  have e:b / 2 ^ (64 - 0)=0:=Int.ediv_eq_zero_of_lt h0 (by omega)
  rw [e,Int.mul_zero]
  rfl
 | k+1,hk=>by
  have ih:=wN_hi a0 a1 h0 h1 k (by omega)
  have lo:=wN_lo (a:=a) h0 h1 k (by omega)
  have e1:64 - (k+1)=63 - k:=by omega
  have e2:64 - k=(63 - k)+1:=by omega
  have hq:0≤b / 2 ^ (64 - k)∧b / 2 ^ (64 - k)<9223372036854775808:=by
   refine ⟨Int.ediv_nonneg h0 (Int.le_of_lt (Int.pow_pos (by decide))),?_⟩
   rw [e2,Int.pow_succ,Int.mul_comm,← Int.ediv_ediv_of_nonneg (by decide)]
   have:=Int.ediv_le_self (2 ^ (63 - k)) (show 0≤b / 2 by omega)
   omega
  rw [wN_succ,e1]
  have hqq:b / 2 ^ (64 - k)=b / 2 ^ (63 - k) / 2:=by
   rw [e2,Int.pow_succ,← Int.ediv_ediv_of_nonneg (Int.le_of_lt (Int.pow_pos (by decide)))]
  rw [hqq] at ih lo hq
  have hb:=bitB_eq h0 h1 (k:=k) (by omega)
  generalize b / 2 ^ (63 - k)=q' at ih lo hb hq
  have hz0:0≤a*(q' / 2):=Int.mul_nonneg a0 hq.1
  have hz1:a*(q' / 2)<18446744073709551616*9223372036854775808:=by
   have x1:=Int.mul_le_mul_of_nonneg_left (show q' / 2≤9223372036854775807 by omega) a0
   omega
  have hz2:a*q' = 2*(a*(q' / 2))+a*(q' % 2):=by
   have:q' = 2*(q' / 2)+q' % 2:=by omega
   calc a*q' = a*(2*(q' / 2)+q' % 2):=by rw [← this]
    _=_:=by rw [Int.mul_add,Int.mul_left_comm]
  have hz3:a*q' < 340282366920938463463374607431768211456:=by
   have x1:=Int.mul_le_mul_of_nonneg_left (show q' ≤ 18446744073709551615 by omega) a0
   omega
  have hh:=hiS_eq (h:=(wN a b k).1) (l:=(wN a b k).2) (by rw [ih]; omega) (by rw [ih]; omega) (by rw [lo]; omega) (by rw [lo]; omega)
  have hl:loS (wN a b k).2=(wN a b k).2*2 % 18446744073709551616:=rfl
  unfold wStep
  rw [hz2] at hz3
  rw [hb,hh,hl,hz2]
  rw [ih,lo] at *
  generalize a*(q' / 2)=z at *
  cases h:q' % 2 == 1
  ·have h:=ne_of_beq_false h
   have h:q' % 2=0:=by omega
   rw [h,Int.mul_zero,cond_false]
   show 2*(z / 18446744073709551616)+z % 18446744073709551616 / 9223372036854775808=_
   omega
  ·have h:=eq_of_beq h
   rw [h,Int.mul_one] at hz3
   rw [h,Int.mul_one,cond_true,wr_def,wr_def]
   have:=step_hi (z:=z) (a:=a) (h:=z / 18446744073709551616) (l:=z % 18446744073709551616) (t:=z % 18446744073709551616 / 9223372036854775808) (u:=z % 18446744073709551616*2 % 18446744073709551616) (by omega) (by omega) (by omega) (by omega) a0 a1 (by omega) (by omega)
   rw [← this]
   cases decide ((z % 18446744073709551616*2 % 18446744073709551616+a) % 18446744073709551616<a) <;> rfl
theorem wdF_wide:WdOk wdF:=by
 intro x y hx hy
 obtain ⟨x0,x1⟩:=rng_spec hx
 obtain ⟨h0,h1⟩:=rng_spec hy
 have h:=wN_lo (a:=x) h0 h1 64 (Nat.le_refl _)
 have g:=wN_hi x0 x1 h0 h1 64 (Nat.le_refl _)
 rw [Nat.sub_self,Int.pow_zero,Int.ediv_one] at h g
 exact ⟨g,h⟩
end Go.Ra
