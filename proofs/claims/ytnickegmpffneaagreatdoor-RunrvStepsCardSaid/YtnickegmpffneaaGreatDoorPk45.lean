/-
  Bits of words: or, parts, bytes. Conditions: none.
-/
import Derived.Test.YtnickegmpffneaaGreatDoorPk44
set_option linter.unusedVariables false
set_option linter.unusedSimpArgs false
namespace Go.Rj
open Go Go.Ab
structure Off (w:Int) (lo hi:Nat):Prop where
 pos:0≤w
 lt:w<4294967296
 bits:∀ j,lo≤j→j<hi→w.toNat.testBit j=false
theorem wrap_u32 (n:Int):IntKind.wrap .u32 n=n % 4294967296:=by
 simp [IntKind.wrap,IntKind.bits,IntKind.signed]
theorem wrap_u64 (n:Int):IntKind.wrap .u64 n=n % 18446744073709551616:=by
 simp [IntKind.wrap,IntKind.bits,IntKind.signed]
theorem wrap_u8 (n:Int):IntKind.wrap .u8 n=n % 256:=by
 simp [IntKind.wrap,IntKind.bits,IntKind.signed]
theorem ofInt32_toNat {a:Int} (h0:0≤a) (h1:a<4294967296):(BitVec.ofInt 32 a).toNat=a.toNat:=by
 rw [BitVec.toNat_ofInt]
 have:((2 ^ 32:Nat):Int)=4294967296:=rfl
 rw [this,Int.emod_eq_of_lt h0 h1]
theorem or32_nat {a b:Int} (ha:0≤a) (ha' : a<4294967296) (hb:0≤b) (hb' : b<4294967296):or32 a b=((a.toNat ||| b.toNat:Nat):Int):=by
 unfold or32
 rw [wrap_u32,BitVec.toNat_or,ofInt32_toNat ha ha',ofInt32_toNat hb hb']
 have:a.toNat ||| b.toNat<2 ^ 32:=Nat.or_lt_two_pow (by omega) (by omega)
 omega
theorem Off.or {a b:Int} {lo hi:Nat} (ha:Off a lo hi) (hb:Off b lo hi):Off (or32 a b) lo hi:=by
 have e:=or32_nat ha.pos ha.lt hb.pos hb.lt
 have hl:a.toNat ||| b.toNat<2 ^ 32:=Nat.or_lt_two_pow (by have:=ha.lt; have:=ha.pos; omega) (by have:=hb.lt; have:=hb.pos; omega)
 refine ⟨by rw [e]; omega,by rw [e]; omega,fun j h1 h2=>?_⟩
 rw [e,Int.toNat_natCast,Nat.testBit_or,ha.bits j h1 h2,hb.bits j h1 h2]
 rfl
theorem Off.zero (lo hi:Nat):Off 0 lo hi:=⟨by omega,by omega,fun j _ _=>by simp⟩
def partN (n:Int) (fr bi:Nat):Nat:=((Int.fdiv n (2 ^ fr)) % 4294967296).toNat % 2 ^ bi
theorem partN_lt (n:Int) (fr bi:Nat):partN n fr bi<2 ^ bi:=Nat.mod_lt _ (Nat.two_pow_pos bi)
theorem part_eq (n:Int) {fr bi at_:Nat} (h1:fr≤64) (h2:at_+bi≤32) (h3:bi<32):partF n fr bi at_=((partN n fr bi <<< at_:Nat):Int):=by
 unfold partF
 have e1:Min.min (Int.toNat (fr:Int)) 64=fr:=by rw [Int.toNat_natCast]; omega
 have e2:Min.min (Int.toNat (bi:Int)) 32=bi:=by rw [Int.toNat_natCast]; omega
 have e3:Min.min (Int.toNat (at_:Int)) 32=at_:=by rw [Int.toNat_natCast]; omega
 rw [e1,e2,e3]
 have hp:(0:Nat)<2 ^ bi:=Nat.two_pow_pos bi
 have hb:(2:Nat) ^ bi<4294967296:=by
  have:=Nat.pow_lt_pow_right (a:=2) (by omega) h3
  simpa using this
 have hb' : ((2:Int) ^ bi)=((2 ^ bi:Nat):Int):=by simp
 have m1:IntKind.wrap .u32 (IntKind.wrap .u32 (1*2 ^ bi) - 1)=((2 ^ bi - 1:Nat):Int):=by
  rw [wrap_u32,wrap_u32,Int.one_mul,hb']
  omega
 rw [m1,wrap_u32,wrap_u32,wrap_u32,BitVec.toNat_and,ofInt32_toNat (by omega) (by omega),ofInt32_toNat (by omega) (by omega),Int.toNat_natCast,Nat.and_two_pow_sub_one_eq_mod]
 have hl:=partN_lt n fr bi
 unfold partN at hl ⊢
 generalize (n.fdiv (2 ^ fr) % 4294967296).toNat % 2 ^ bi=p at hl ⊢
 have hp2:p*2 ^ at_<4294967296:=by
  have h:=Nat.mul_lt_mul_of_pos_right hl (Nat.two_pow_pos at_)
  rw [← Nat.pow_add] at h
  have:(2:Nat) ^ (bi+at_)≤2 ^ 32:=Nat.pow_le_pow_right (by omega) (by omega)
  omega
 rw [Nat.shiftLeft_eq]
 have hat:((2:Int) ^ at_)=((2 ^ at_:Nat):Int):=by simp
 have hp3:(p:Int) % 4294967296=p:=by
  have:p<4294967296:=by omega
  omega
 rw [hat,hp3,← Int.natCast_mul]
 omega
theorem part_off (n:Int) {fr bi at_ lo hi:Nat} (h1:fr≤64) (h2:at_+bi≤32) (h3:bi<32) (h4:hi≤at_∨at_+bi≤lo):Off (partF n fr bi at_) lo hi:=by
 rw [part_eq n h1 h2 h3]
 have hl:=partN_lt n fr bi
 have hs:partN n fr bi <<< at_<2 ^ 32:=by
  rw [Nat.shiftLeft_eq]
  have h:=Nat.mul_lt_mul_of_pos_right hl (Nat.two_pow_pos at_)
  rw [← Nat.pow_add] at h
  have:(2:Nat) ^ (bi+at_)≤2 ^ 32:=Nat.pow_le_pow_right (by omega) (by omega)
  omega
 refine ⟨Int.natCast_nonneg _,by omega,fun j g1 g2=>?_⟩
 rw [Int.toNat_natCast,Nat.testBit_shiftLeft]
 rcases h4 with h4 | h4
 ·have:¬ at_≤j:=by omega
  simp [this]
 ·have:partN n fr bi<2 ^ (j - at_):=Nat.lt_of_lt_of_le hl (Nat.pow_le_pow_right (by omega) (by omega))
  simp [Nat.testBit_lt_two_pow this]
def rowFine (r:RowT):Bool:=
 decide (0≤r.2.2) && (decide (r.2.2<4294967296) && ((!uA r.2.1 || Nat.beq (r.2.2.toNat &&& (31 <<< 7)) 0) && ((!uB r.2.1 || Nat.beq (r.2.2.toNat &&& (31 <<< 15)) 0) && ((!uC r.2.1 || Nat.beq (r.2.2.toNat &&& (31 <<< 20)) 0)
  && (decide (0≤r.2.1) && decide (r.2.1≤8))))))
theorem rows_fine:rowsL.all rowFine=true:=by kernel_rfl
theorem off_of_mask {w:Int} {k:Nat} (h0:0≤w) (h1:w<4294967296) (h:w.toNat &&& (31 <<< k)=0):Off w k (k+5):=by
 refine ⟨h0,h1,fun j g1 g2=>?_⟩
 have:=congrArg (fun n=>Nat.testBit n j) h
 simp only [Nat.testBit_and,Nat.zero_testBit,Nat.testBit_shiftLeft] at this
 have hj:j - k=0∨j - k=1∨j - k=2∨j - k=3∨j - k=4:=by omega
 have hm:Nat.testBit 31 (j - k)=true:=by rcases hj with h | h | h | h | h <;> rw [h] <;> rfl
 simpa [hm,g1] using this
theorem row_off {r:RowT} (h:rowFine r=true):(0≤r.2.2∧r.2.2<4294967296)∧(uA r.2.1=true→Off r.2.2 7 12)∧(uB r.2.1=true→Off r.2.2 15 20)∧(uC r.2.1=true→Off r.2.2 20 25)∧0≤r.2.1∧r.2.1≤8:=by
 simp only [rowFine,Bool.and_eq_true,decide_eq_true_eq,Bool.or_eq_true,Bool.not_eq_true'] at h
 obtain ⟨h0,h1,h2,h3,h4,h5,h6⟩:=h
 refine ⟨⟨h0,h1⟩,fun h=>?_,fun h=>?_,fun h=>?_,h5,h6⟩
 ·rcases h2 with h2 | h2
  ·rw [h] at h2; cases h2
  ·exact off_of_mask (k:=7) h0 h1 (Nat.eq_of_beq_eq_true h2)
 ·rcases h3 with h3 | h3
  ·rw [h] at h3; cases h3
  ·exact off_of_mask (k:=15) h0 h1 (Nat.eq_of_beq_eq_true h3)
 ·rcases h4 with h4 | h4
  ·rw [h] at h4; cases h4
  ·exact off_of_mask (k:=20) h0 h1 (Nat.eq_of_beq_eq_true h4)
theorem form_cases {f:Int} (h0:0≤f) (h8:f≤8):f=0∨f=1∨f=2∨f=3∨f=4∨f=5∨f=6∨f=7∨f=8:=by omega
theorem imm_rng (f n:Int) (h0:0≤f) (h8:f≤8):0≤immF f n∧immF f n<4294967296:=by
 have key:Off (immF f n) 0 0:=by
  rcases form_cases h0 h8 with h | h | h | h | h | h | h | h | h <;> subst h
  ·exact .zero _ _
  ·exact part_off n (fr:=0) (bi:=12) (at_:=20) (by omega) (by omega) (by omega) (by omega)
  ·exact part_off n (fr:=0) (bi:=6) (at_:=20) (by omega) (by omega) (by omega) (by omega)
  ·exact part_off n (fr:=0) (bi:=6) (at_:=20) (by omega) (by omega) (by omega) (by omega)
  ·exact .or (part_off n (fr:=0) (bi:=5) (at_:=7) (by omega) (by omega) (by omega) (by omega)) (part_off n (fr:=5) (bi:=7) (at_:=25) (by omega) (by omega) (by omega) (by omega))
  ·exact .or (.or (.or (part_off n (fr:=1) (bi:=4) (at_:=8) (by omega) (by omega) (by omega) (by omega)) (part_off n (fr:=5) (bi:=6) (at_:=25) (by omega) (by omega) (by omega) (by omega)))
    (part_off n (fr:=11) (bi:=1) (at_:=7) (by omega) (by omega) (by omega) (by omega))) (part_off n (fr:=12) (bi:=1) (at_:=31) (by omega) (by omega) (by omega) (by omega))
  ·exact part_off n (fr:=0) (bi:=20) (at_:=12) (by omega) (by omega) (by omega) (by omega)
  ·exact .or (.or (.or (part_off n (fr:=1) (bi:=10) (at_:=21) (by omega) (by omega) (by omega) (by omega)) (part_off n (fr:=11) (bi:=1) (at_:=20) (by omega) (by omega) (by omega) (by omega)))
    (part_off n (fr:=12) (bi:=8) (at_:=12) (by omega) (by omega) (by omega) (by omega))) (part_off n (fr:=20) (bi:=1) (at_:=31) (by omega) (by omega) (by omega) (by omega))
  ·exact .zero _ _
 exact ⟨key.pos,key.lt⟩
end Go.Rj

namespace Go.Rj
open Go Go.Ab
theorem ofInt64_toNat {a:Int} (h0:0≤a) (h1:a<18446744073709551616):(BitVec.ofInt 64 a).toNat=a.toNat:=by
 rw [BitVec.toNat_ofInt]
 have:((2 ^ 64:Nat):Int)=18446744073709551616:=rfl
 rw [this,Int.emod_eq_of_lt h0 h1]
theorem num_step {a b:Int} (ha:0≤a) (ha' : a<72057594037927936) (hb:0≤b) (hb' : b<256) :
  IntKind.wrap IntKind.u64 ↑(BitVec.toNat (BitVec.ofInt 64 (IntKind.wrap IntKind.u64 (a*2 ^ 8)) ||| BitVec.ofInt 64 (IntKind.wrap IntKind.u64 b)))=a*256+b:=by
 rw [wrap_u64,wrap_u64,wrap_u64,BitVec.toNat_or,ofInt64_toNat (by omega) (by omega),ofInt64_toNat (by omega) (by omega)]
 have e1:(a*2 ^ 8 % 18446744073709551616).toNat=2 ^ 8*a.toNat:=by omega
 have e2:(b % 18446744073709551616).toNat=b.toNat:=by omega
 rw [e1,e2,← Nat.two_pow_add_eq_or_of_lt (by omega) a.toNat]
 omega
theorem nat_shift {a:Int} {k:Nat} (h0:0≤a) (h1:a<32) (hk:k≤27):shl32 (IntKind.wrap .u32 a) k=((a.toNat <<< k:Nat):Int):=by
 unfold shl32
 rw [wrap_u32,wrap_u32,Nat.shiftLeft_eq]
 have hp:(2:Nat) ^ k≤2 ^ 27:=Nat.pow_le_pow_right (by omega) hk
 have he:((2:Int) ^ k)=((2 ^ k:Nat):Int):=by simp
 rw [he]
 have ha:a % 4294967296=(a.toNat:Int):=by omega
 rw [ha,← Int.natCast_mul]
 have:a.toNat*2 ^ k<4294967296:=by
  have:a.toNat*2 ^ k≤31*2 ^ 27:=Nat.mul_le_mul (by omega) hp
  omega
 omega
theorem shift_lt {a k:Nat} (h1:a<32) (hk:k≤27):a <<< k<2 ^ 32:=by
 rw [Nat.shiftLeft_eq]
 have hp:(2:Nat) ^ k≤2 ^ 27:=Nat.pow_le_pow_right (by omega) hk
 have:a*2 ^ k≤31*2 ^ 27:=Nat.mul_le_mul (by omega) hp
 omega
def wordN (f rw a b c n:Int):Nat:=(((rw.toNat ||| a.toNat <<< 7) ||| b.toNat <<< 15) ||| c.toNat <<< 20) ||| (immF f n).toNat
structure Regs (a b c:Int):Prop where
 a0:0≤a
 a1:a<32
 b0:0≤b
 b1:b<32
 c0:0≤c
 c1:c<32
theorem word_nat {f rw a b c n:Int} (hr0:0≤rw) (hr1:rw<4294967296) (f0:0≤f) (f8:f≤8) (g:Regs a b c):wordF f rw a b c n=(wordN f rw a b c n:Int)∧wordN f rw a b c n<2 ^ 32:=by
 obtain ⟨i0,i1⟩:=imm_rng f n f0 f8
 have hA:=shift_lt (a:=a.toNat) (k:=7) (by have:=g.a1; omega) (by omega)
 have hB:=shift_lt (a:=b.toNat) (k:=15) (by have:=g.b1; omega) (by omega)
 have hC:=shift_lt (a:=c.toNat) (k:=20) (by have:=g.c1; omega) (by omega)
 have hR:rw.toNat<2 ^ 32:=by omega
 have hI:(immF f n).toNat<2 ^ 32:=by omega
 have h1:rw.toNat ||| a.toNat <<< 7<2 ^ 32:=Nat.or_lt_two_pow hR hA
 have h2:(rw.toNat ||| a.toNat <<< 7) ||| b.toNat <<< 15<2 ^ 32:=Nat.or_lt_two_pow h1 hB
 have h3:((rw.toNat ||| a.toNat <<< 7) ||| b.toNat <<< 15) ||| c.toNat <<< 20<2 ^ 32:=Nat.or_lt_two_pow h2 hC
 have h4:(((rw.toNat ||| a.toNat <<< 7) ||| b.toNat <<< 15) ||| c.toNat <<< 20) ||| (immF f n).toNat<2 ^ 32:=Nat.or_lt_two_pow h3 hI
 refine ⟨?_,h4⟩
 unfold wordF wordN
 rw [nat_shift g.a0 g.a1 (by omega),nat_shift g.b0 g.b1 (by omega),nat_shift g.c0 g.c1 (by omega)]
 rw [or32_nat (a:=rw) (b:=((a.toNat <<< 7:Nat):Int)) hr0 hr1 (by omega) (by omega)]
 simp only [Int.toNat_natCast]
 rw [or32_nat (b:=((b.toNat <<< 15:Nat):Int)) (by omega) (by omega) (by omega) (by omega)]
 simp only [Int.toNat_natCast]
 rw [or32_nat (b:=((c.toNat <<< 20:Nat):Int)) (by omega) (by omega) (by omega) (by omega)]
 simp only [Int.toNat_natCast]
 rw [or32_nat (by omega) (by omega) i0 i1]
 simp only [Int.toNat_natCast]
section
variable {f rw a b c n x:Int}
end
theorem regOk_rng {n:Int} {u:Bool} (h:regOk n u=true):0≤n∧n<32:=by
 unfold regOk at h
 simp only [Bool.or_eq_true,Bool.and_eq_true,beq_iff_eq,decide_eq_true_eq] at h
 omega
theorem regOk_used {n:Int} (h0:0≤n) (h1:n<32):regOk n true=true:=by
 unfold regOk
 simp only [Bool.true_and,Bool.or_eq_true,Bool.and_eq_true,beq_iff_eq,decide_eq_true_eq]
 omega
theorem faulty_regs {f a b c d n:Int} (h:faultyF f a b c d n=0):regOk a (uA f)=true∧regOk b (uB f)=true∧regOk c (uC f)=true:=by
 unfold faultyF at h
 cases h1:regOk a (uA f)
 ·rw [h1] at h; simp at h
 cases h2:regOk b (uB f)
 ·rw [h1,h2] at h; simp at h
 cases h3:regOk c (uC f)
 ·rw [h1,h2,h3] at h; simp at h
 exact ⟨rfl,rfl,rfl⟩
theorem frow_mem {nm:List UInt8} (h:fok nm=true):frow nm ∈ rowsL:=by
 unfold fok at h
 obtain ⟨r,hr⟩:=Option.isSome_iff_exists.1 h
 unfold frow
 rw [hr]
 exact List.mem_of_find?_eq_some hr
theorem enc_ok {i:InsT} (h:(encE i == 0)=true):fok i.1=true∧faultyF (frow i.1).2.1 i.2.1 i.2.2.1 i.2.2.2.1 i.2.2.2.2.1 i.2.2.2.2.2=0:=by
 have h:=eq_of_beq h
 unfold encE at h
 cases hf:fok i.1
 ·rw [hf] at h; cases h
 ·rw [hf] at h
  exact ⟨rfl,h⟩
theorem enc_mk {nm:List UInt8} {a b c d n:Int} (h:fok nm=true) (h' : faultyF (frow nm).2.1 a b c d n=0):(encE (nm,a,b,c,d,n) == 0)=true:=by
 unfold encE
 simp only [h,cond_true,h']
 rfl
section
variable {nm:List UInt8} {a b c d n x:Int} (h:(encE (nm,a,b,c,d,n) == 0)=true)
include h
theorem enc_regs:Regs a b c:=by
 obtain ⟨_,h2⟩:=enc_ok h
 obtain ⟨g1,g2,g3⟩:=faulty_regs h2
 obtain ⟨a0,a1⟩:=regOk_rng g1
 obtain ⟨b0,b1⟩:=regOk_rng g2
 obtain ⟨c0,c1⟩:=regOk_rng g3
 exact ⟨a0,a1,b0,b1,c0,c1⟩
theorem enc_row:(0≤(frow nm).2.2∧(frow nm).2.2<4294967296)∧(uA (frow nm).2.1=true→Off (frow nm).2.2 7 12)∧(uB (frow nm).2.1=true→Off (frow nm).2.2 15 20)∧(uC (frow nm).2.1=true→Off (frow nm).2.2 20 25) ∧
  0≤(frow nm).2.1∧(frow nm).2.1≤8:=
 row_off (List.all_eq_true.1 rows_fine _ (frow_mem (enc_ok h).1))
theorem encW_rng:0≤encW (nm,a,b,c,d,n)∧encW (nm,a,b,c,d,n)<4294967296:=by
 obtain ⟨⟨w0,w1⟩,_,_,_,f0,f8⟩:=enc_row h
 obtain ⟨e,l⟩:=word_nat (n:=n) w0 w1 f0 f8 (enc_regs h)
 show 0≤wordF _ _ _ _ _ _∧wordF _ _ _ _ _ _<_
 simp only at e ⊢
 rw [e]
 omega
end
end Go.Rj

namespace Go.Rj
open Go Go.Ab
theorem or_disj:∀ (x y:Nat),x &&& y=0→x ||| y=x+y:=by
 intro x
 induction x using Nat.strongRecOn with
 | ind x ih =>
  intro y h
  by_cases hx:x=0
  ·subst hx; simp
  ·have h1:=ih (x / 2) (by omega) (y / 2) (by rw [← Nat.and_div_two,h])
   have e1:(x ||| y) / 2=x / 2 ||| y / 2:=Nat.or_div_two
   have b1:Nat.testBit (x &&& y) 0=false:=by rw [h]; rfl
   have b2:Nat.testBit (x ||| y) 0=(Nat.testBit x 0 || Nat.testBit y 0):=Nat.testBit_or x y 0
   rw [Nat.testBit_and] at b1
   simp only [Nat.testBit_zero] at b1 b2
   rw [h1] at e1
   generalize x ||| y=z at e1 b2 ⊢
   have hxm:x % 2=0∨x % 2=1:=by omega
   have hym:y % 2=0∨y % 2=1:=by omega
   rcases hxm with hxm | hxm <;> rcases hym with hym | hym <;> simp [hxm,hym] at b1 b2 <;> omega
def OffN (x lo hi:Nat):Prop:=∀ j,lo≤j→j<hi→x.testBit j=false
theorem or_step {x p k b:Nat} (h:OffN x k (k+b)) (hp:p<2 ^ b):x ||| p <<< k=x+p <<< k:=by
 refine or_disj _ _ ?_
 apply Nat.eq_of_testBit_eq
 intro j
 rw [Nat.testBit_and,Nat.testBit_shiftLeft,Nat.zero_testBit]
 by_cases h1:k≤j
 ·by_cases h2:j<k+b
  ·rw [h j h1 h2]; rfl
  ·have:p.testBit (j - k)=false:=Nat.testBit_lt_two_pow (Nat.lt_of_lt_of_le hp (Nat.pow_le_pow_right (by omega) (by omega)))
   rw [this]; simp
 ·simp [h1]
abbrev Fd:=Nat × Nat × Nat
def orF:Nat→List Fd→Nat
 | x,[]=>x
 | x,f :: r=>orF (x ||| f.1 <<< f.2.1) r
def sumF:List Fd→Nat
 | []=>0
 | f :: r=>f.1*2 ^ f.2.1+sumF r
def clear1 (k b:Nat):List Fd→Bool
 | []=>true
 | f :: r=>(Nat.ble (k+b) f.2.1 || (Nat.ble (f.2.1+f.2.2) k || (Nat.beq b 0 || Nat.beq f.2.2 0))) && clear1 k b r
def clearF:List Fd→Bool
 | []=>true
 | f :: r=>clear1 f.2.1 f.2.2 r && clearF r
def Fine (x:Nat) (fs:List Fd):Prop:=∀ f ∈ fs,f.1<2 ^ f.2.2∧OffN x f.2.1 (f.2.1+f.2.2)
theorem clear1_spec {k b:Nat}:∀ {r:List Fd},clear1 k b r=true → ∀ f ∈ r,k+b≤f.2.1∨f.2.1+f.2.2≤k∨b=0∨f.2.2=0
 | [],_,f,hf=>by cases hf
 | g :: r,h,f,hf=>by
  simp only [clear1,Bool.and_eq_true,Bool.or_eq_true] at h
  rcases List.mem_cons.1 hf with rfl | hf
  ·rcases h.1 with h | h | h | h
   ·exact .inl (Nat.le_of_ble_eq_true h)
   ·exact .inr (.inl (Nat.le_of_ble_eq_true h))
   ·exact .inr (.inr (.inl (Nat.eq_of_beq_eq_true h)))
   ·exact .inr (.inr (.inr (Nat.eq_of_beq_eq_true h)))
  ·exact clear1_spec h.2 f hf
theorem orF_sum:∀ (fs:List Fd) (x:Nat),Fine x fs→clearF fs=true→orF x fs=x+sumF fs
 | [],x,_,_=>rfl
 | f :: r,x,h,hc=>by
  simp only [clearF,Bool.and_eq_true] at hc
  obtain ⟨h1,h2⟩:=h f List.mem_cons_self
  have e:=or_step h2 h1
  simp only [orF,sumF]
  rw [orF_sum r (x ||| f.1 <<< f.2.1) ?_ hc.2,e,Nat.shiftLeft_eq]
  ·omega
  ·intro g hg
   obtain ⟨g1,g2⟩:=h g (List.mem_cons_of_mem _ hg)
   refine ⟨g1,fun j j1 j2=>?_⟩
   rw [Nat.testBit_or,g2 j j1 j2,Nat.testBit_shiftLeft,Bool.false_or]
   rcases clear1_spec hc.1 g hg with h | h | h | h
   ·have:f.1.testBit (j - f.2.1)=false:=Nat.testBit_lt_two_pow (Nat.lt_of_lt_of_le h1 (Nat.pow_le_pow_right (by omega) (by omega)))
    simp [this]
   ·have:¬ f.2.1≤j:=by omega
    simp [this]
   ·rw [h] at h1
    have:f.1=0:=by simpa using h1
    simp [this]
   ·omega
theorem OffN.zero (lo hi:Nat):OffN 0 lo hi:=fun j _ _=>Nat.zero_testBit j
theorem OffN.low {x lo hi:Nat} (h:x<2 ^ lo):OffN x lo hi:=fun j h1 _=>Nat.testBit_lt_two_pow (Nat.lt_of_lt_of_le h (Nat.pow_le_pow_right (by omega) h1))
def immFd (f n:Int):List Fd:=
 cond (f == 1) [(partN n 0 12,20,12)] (cond (f == 2) [(partN n 0 6,20,6)] (cond (f == 3) [(partN n 0 6,20,6)] (cond (f == 4) [(partN n 0 5,7,5),(partN n 5 7,25,7)]
  (cond (f == 5) [(partN n 1 4,8,4),(partN n 5 6,25,6),(partN n 11 1,7,1),(partN n 12 1,31,1)] (cond (f == 6) [(partN n 0 20,12,20)]
   (cond (f == 7) [(partN n 1 10,21,10),(partN n 11 1,20,1),(partN n 12 8,12,8),(partN n 20 1,31,1)] []))))))
theorem orF_append:∀ (fs:List Fd) (x y:Nat),orF (x ||| y) fs=x ||| orF y fs
 | [],x,y=>rfl
 | f :: r,x,y=>by
  simp only [orF]
  rw [Nat.or_assoc,orF_append r]
theorem imm_orF (f n:Int) (f0:0≤f) (f8:f≤8):(immF f n).toNat=orF 0 (immFd f n):=by
 have z:∀ p:Nat,0 ||| p=p:=Nat.zero_or
 have orN:∀ {a b:Nat},a<2 ^ 32→b<2 ^ 32→or32 (a:Int) (b:Int)=((a ||| b:Nat):Int)∧a ||| b<2 ^ 32:=by
  intro a b ha hb
  refine ⟨?_,Nat.or_lt_two_pow ha hb⟩
  rw [or32_nat (by omega) (by omega) (by omega) (by omega)]
  simp only [Int.toNat_natCast]
 have pl:∀ {fr bi at_:Nat},at_+bi≤32→partN n fr bi <<< at_<2 ^ 32:=by
  intro fr bi at_ h
  rw [Nat.shiftLeft_eq]
  have h1:=Nat.mul_lt_mul_of_pos_right (partN_lt n fr bi) (Nat.two_pow_pos at_)
  rw [← Nat.pow_add] at h1
  have:(2:Nat) ^ (bi+at_)≤2 ^ 32:=Nat.pow_le_pow_right (by omega) (by omega)
  omega
 rcases form_cases f0 f8 with h | h | h | h | h | h | h | h | h <;> subst h
 ·rfl
 ·show (partF n 0 12 20).toNat=0 ||| _
  have e:=part_eq n (fr:=0) (bi:=12) (at_:=20) (by omega) (by omega) (by omega)
  rw [z,show partF n 0 12 20=_ from e,Int.toNat_natCast]
 ·show (partF n 0 6 20).toNat=0 ||| _
  have e:=part_eq n (fr:=0) (bi:=6) (at_:=20) (by omega) (by omega) (by omega)
  rw [z,show partF n 0 6 20=_ from e,Int.toNat_natCast]
 ·show (partF n 0 6 20).toNat=0 ||| _
  have e:=part_eq n (fr:=0) (bi:=6) (at_:=20) (by omega) (by omega) (by omega)
  rw [z,show partF n 0 6 20=_ from e,Int.toNat_natCast]
 ·show (or32 (partF n 0 5 7) (partF n 5 7 25)).toNat=(0 ||| _) ||| _
  have e1:=part_eq n (fr:=0) (bi:=5) (at_:=7) (by omega) (by omega) (by omega)
  have e2:=part_eq n (fr:=5) (bi:=7) (at_:=25) (by omega) (by omega) (by omega)
  rw [z,show partF n 0 5 7=_ from e1,show partF n 5 7 25=_ from e2,(orN (pl (by omega)) (pl (by omega))).1,Int.toNat_natCast]
 ·show (or32 (or32 (or32 (partF n 1 4 8) (partF n 5 6 25)) (partF n 11 1 7)) (partF n 12 1 31)).toNat=(((0 ||| _) ||| _) ||| _) ||| _
  have e1:=part_eq n (fr:=1) (bi:=4) (at_:=8) (by omega) (by omega) (by omega)
  have e2:=part_eq n (fr:=5) (bi:=6) (at_:=25) (by omega) (by omega) (by omega)
  have e3:=part_eq n (fr:=11) (bi:=1) (at_:=7) (by omega) (by omega) (by omega)
  have e4:=part_eq n (fr:=12) (bi:=1) (at_:=31) (by omega) (by omega) (by omega)
  have o1:=orN (pl (fr:=1) (bi:=4) (at_:=8) (by omega)) (pl (fr:=5) (bi:=6) (at_:=25) (by omega))
  have o2:=orN o1.2 (pl (fr:=11) (bi:=1) (at_:=7) (by omega))
  have o3:=orN o2.2 (pl (fr:=12) (bi:=1) (at_:=31) (by omega))
  rw [z,show partF n 1 4 8=_ from e1,show partF n 5 6 25=_ from e2,show partF n 11 1 7=_ from e3,show partF n 12 1 31=_ from e4,o1.1,o2.1,o3.1,Int.toNat_natCast]
 ·show (partF n 0 20 12).toNat=0 ||| _
  have e:=part_eq n (fr:=0) (bi:=20) (at_:=12) (by omega) (by omega) (by omega)
  rw [z,show partF n 0 20 12=_ from e,Int.toNat_natCast]
 ·show (or32 (or32 (or32 (partF n 1 10 21) (partF n 11 1 20)) (partF n 12 8 12)) (partF n 20 1 31)).toNat=(((0 ||| _) ||| _) ||| _) ||| _
  have e1:=part_eq n (fr:=1) (bi:=10) (at_:=21) (by omega) (by omega) (by omega)
  have e2:=part_eq n (fr:=11) (bi:=1) (at_:=20) (by omega) (by omega) (by omega)
  have e3:=part_eq n (fr:=12) (bi:=8) (at_:=12) (by omega) (by omega) (by omega)
  have e4:=part_eq n (fr:=20) (bi:=1) (at_:=31) (by omega) (by omega) (by omega)
  have o1:=orN (pl (fr:=1) (bi:=10) (at_:=21) (by omega)) (pl (fr:=11) (bi:=1) (at_:=20) (by omega))
  have o2:=orN o1.2 (pl (fr:=12) (bi:=8) (at_:=12) (by omega))
  have o3:=orN o2.2 (pl (fr:=20) (bi:=1) (at_:=31) (by omega))
  rw [z,show partF n 1 10 21=_ from e1,show partF n 11 1 20=_ from e2,show partF n 12 8 12=_ from e3,show partF n 20 1 31=_ from e4,o1.1,o2.1,o3.1,Int.toNat_natCast]
 ·rfl
def regFd (u:Bool) (a:Int) (k:Nat):Fd:=cond u (a.toNat,k,5) (0,k,0)
def wordFd (f a b c n:Int):List Fd:=regFd (uA f) a 7 :: regFd (uB f) b 15 :: regFd (uC f) c 20 :: immFd f n
theorem regOk_fd {a:Int} {u:Bool} {k:Nat} (h:regOk a u=true):a.toNat <<< k=(regFd u a k).1 <<< (regFd u a k).2.1∧(regFd u a k).1<2 ^ (regFd u a k).2.2:=by
 obtain ⟨h0,h1⟩:=regOk_rng h
 cases u
 ·have:a=0:=by
   unfold regOk at h
   simpa using h
  subst this
  exact ⟨rfl,Nat.zero_lt_one⟩
 ·refine ⟨rfl,?_⟩
  show a.toNat<2 ^ 5
  omega
theorem word_orF {f rw a b c n:Int} (f0:0≤f) (f8:f≤8) (ha:regOk a (uA f)=true) (hb:regOk b (uB f)=true) (hc:regOk c (uC f)=true):wordN f rw a b c n=orF rw.toNat (wordFd f a b c n):=by
 unfold wordN wordFd
 simp only [orF]
 rw [imm_orF f n f0 f8,← orF_append,Nat.or_zero,(regOk_fd (k:=7) ha).1,(regOk_fd (k:=15) hb).1,(regOk_fd (k:=20) hc).1]
def maskFd:List Fd→Nat
 | []=>0
 | f :: r=>((2 ^ f.2.2 - 1) <<< f.2.1) ||| maskFd r
def maskF (f:Int):Nat:=maskFd (wordFd f 0 0 0 0)
def rowFree (r:RowT):Bool:=Nat.beq (r.2.2.toNat &&& maskF r.2.1) 0 && clearF (wordFd r.2.1 0 0 0 0)
theorem rows_free:rowsL.all rowFree=true:=by kernel_rfl
theorem fd_shape (f a b c n:Int) (f0:0≤f) (f8:f≤8):(wordFd f a b c n).map Prod.snd=(wordFd f 0 0 0 0).map Prod.snd:=by
 rcases form_cases f0 f8 with h | h | h | h | h | h | h | h | h <;> subst h <;> rfl
theorem clear1_shape {k b:Nat}:∀ {r s:List Fd},r.map Prod.snd=s.map Prod.snd→clear1 k b r=clear1 k b s
 | [],[],_=>rfl
 | [],_ :: _,h=>by simp at h
 | _ :: _,[],h=>by simp at h
 | f :: r,g :: s,h=>by
  simp only [List.map_cons,List.cons.injEq] at h
  simp only [clear1,h.1,clear1_shape h.2]
theorem clearF_shape:∀ {r s:List Fd},r.map Prod.snd=s.map Prod.snd→clearF r=clearF s
 | [],[],_=>rfl
 | [],_ :: _,h=>by simp at h
 | _ :: _,[],h=>by simp at h
 | f :: r,g :: s,h=>by
  have h' := h
  simp only [List.map_cons,List.cons.injEq] at h
  simp only [clearF,h.1,clear1_shape h.2,clearF_shape h.2]
theorem maskFd_shape:∀ {r s:List Fd},r.map Prod.snd=s.map Prod.snd→maskFd r=maskFd s
 | [],[],_=>rfl
 | [],_ :: _,h=>by simp at h
 | _ :: _,[],h=>by simp at h
 | f :: r,g :: s,h=>by
  simp only [List.map_cons,List.cons.injEq] at h
  simp only [maskFd,h.1,maskFd_shape h.2]
theorem off_mask {x k b:Nat} (h:x &&& ((2 ^ b - 1) <<< k)=0):OffN x k (k+b):=by
 intro j h1 h2
 have:=congrArg (fun n=>Nat.testBit n j) h
 simp only [Nat.testBit_and,Nat.zero_testBit,Nat.testBit_shiftLeft,Nat.testBit_two_pow_sub_one] at this
 have hj:j - k<b:=by omega
 simpa [h1,hj] using this
theorem and_or_zero {x y z:Nat} (h:x &&& (y ||| z)=0):x &&& y=0∧x &&& z=0:=by
 rw [Nat.and_or_distrib_left] at h
 exact ⟨Nat.eq_zero_of_le_zero (h ▸ Nat.left_le_or),Nat.eq_zero_of_le_zero (h ▸ Nat.right_le_or)⟩
theorem fine_mask {x:Nat}:∀ {fs:List Fd},x &&& maskFd fs=0 → ∀ f ∈ fs,OffN x f.2.1 (f.2.1+f.2.2)
 | [],_,f,hf=>by cases hf
 | g :: r,h,f,hf=>by
  obtain ⟨h1,h2⟩:=and_or_zero (show x &&& (((2 ^ g.2.2 - 1) <<< g.2.1) ||| maskFd r)=0 from h)
  rcases List.mem_cons.1 hf with rfl | hf
  ·exact off_mask h1
  ·exact fine_mask h2 f hf
theorem imm_small (f n:Int) (f0:0≤f) (f8:f≤8):∀ g ∈ immFd f n,g.1<2 ^ g.2.2:=by
 rcases form_cases f0 f8 with h | h | h | h | h | h | h | h | h <;> subst h <;> intro g hg <;>
  simp only [immFd,cond_true,cond_false,beq_self_eq_true,show ((2:Int) == 1)=false from rfl,show ((3:Int) == 1)=false from rfl,show ((3:Int) == 2)=false from rfl,show ((0:Int) == 1)=false from rfl,
   show ((0:Int) == 2)=false from rfl,show ((0:Int) == 3)=false from rfl,show ((0:Int) == 4)=false from rfl,show ((0:Int) == 5)=false from rfl,show ((0:Int) == 6)=false from rfl,show ((0:Int) == 7)=false from rfl,
   show ((4:Int) == 1)=false from rfl,show ((4:Int) == 2)=false from rfl,show ((4:Int) == 3)=false from rfl,show ((5:Int) == 1)=false from rfl,show ((5:Int) == 2)=false from rfl,show ((5:Int) == 3)=false from rfl,show ((5:Int) == 4)=false from rfl,
   show ((6:Int) == 1)=false from rfl,show ((6:Int) == 2)=false from rfl,show ((6:Int) == 3)=false from rfl,show ((6:Int) == 4)=false from rfl,show ((6:Int) == 5)=false from rfl,
   show ((7:Int) == 1)=false from rfl,show ((7:Int) == 2)=false from rfl,show ((7:Int) == 3)=false from rfl,show ((7:Int) == 4)=false from rfl,show ((7:Int) == 5)=false from rfl,show ((7:Int) == 6)=false from rfl,
   show ((8:Int) == 1)=false from rfl,show ((8:Int) == 2)=false from rfl,show ((8:Int) == 3)=false from rfl,show ((8:Int) == 4)=false from rfl,show ((8:Int) == 5)=false from rfl,show ((8:Int) == 6)=false from rfl,show ((8:Int) == 7)=false from rfl,
   List.mem_cons,List.not_mem_nil,or_false] at hg
 ·subst hg; exact partN_lt _ _ _
 ·subst hg; exact partN_lt _ _ _
 ·subst hg; exact partN_lt _ _ _
 ·rcases hg with rfl | rfl <;> exact partN_lt _ _ _
 ·rcases hg with rfl | rfl | rfl | rfl <;> exact partN_lt _ _ _
 ·subst hg; exact partN_lt _ _ _
 ·rcases hg with rfl | rfl | rfl | rfl <;> exact partN_lt _ _ _
theorem word_fine {r:RowT} (hr:r ∈ rowsL) {a b c n:Int} (ha:regOk a (uA r.2.1)=true) (hb:regOk b (uB r.2.1)=true) (hc:regOk c (uC r.2.1)=true) :
  Fine r.2.2.toNat (wordFd r.2.1 a b c n)∧clearF (wordFd r.2.1 a b c n)=true:=by
 obtain ⟨_,_,_,_,f0,f8⟩:=row_off (List.all_eq_true.1 rows_fine _ hr)
 have hfree:=List.all_eq_true.1 rows_free _ hr
 simp only [rowFree,Bool.and_eq_true] at hfree
 have sh:=fd_shape r.2.1 a b c n f0 f8
 refine ⟨fun g hg=>⟨?_,?_⟩,by rw [clearF_shape sh]; exact hfree.2⟩
 ·unfold wordFd at hg
  simp only [List.mem_cons] at hg
  rcases hg with rfl | rfl | rfl | hg
  ·exact (regOk_fd (k:=7) ha).2
  ·exact (regOk_fd (k:=15) hb).2
  ·exact (regOk_fd (k:=20) hc).2
  ·exact imm_small _ _ f0 f8 g hg
 ·refine fine_mask ?_ g hg
  rw [maskFd_shape sh]
  exact Nat.eq_of_beq_eq_true hfree.1
theorem word_sum {r:RowT} (hr:r ∈ rowsL) {a b c n:Int} (ha:regOk a (uA r.2.1)=true) (hb:regOk b (uB r.2.1)=true) (hc:regOk c (uC r.2.1)=true) :
  wordF r.2.1 r.2.2 a b c n=((r.2.2.toNat+sumF (wordFd r.2.1 a b c n):Nat):Int)∧r.2.2.toNat+sumF (wordFd r.2.1 a b c n)<2 ^ 32:=by
 obtain ⟨⟨w0,w1⟩,_,_,_,f0,f8⟩:=row_off (List.all_eq_true.1 rows_fine _ hr)
 obtain ⟨a0,a1⟩:=regOk_rng ha
 obtain ⟨b0,b1⟩:=regOk_rng hb
 obtain ⟨c0,c1⟩:=regOk_rng hc
 obtain ⟨e1,e2⟩:=word_nat (n:=n) w0 w1 f0 f8 ⟨a0,a1,b0,b1,c0,c1⟩
 obtain ⟨g1,g2⟩:=word_fine (n:=n) hr ha hb hc
 rw [word_orF f0 f8 ha hb hc,orF_sum _ _ g1 g2] at e1 e2
 exact ⟨e1,e2⟩
end Go.Rj

namespace Go.Rj
open Go Go.Ab
theorem fine_next {x:Nat} {f:Fd} {r:List Fd} (h:Fine x (f :: r)) (hc:clear1 f.2.1 f.2.2 r=true):Fine (x ||| f.1 <<< f.2.1) r:=by
 obtain ⟨h1,h2⟩:=h f List.mem_cons_self
 intro g hg
 obtain ⟨g1,g2⟩:=h g (List.mem_cons_of_mem _ hg)
 refine ⟨g1,fun j j1 j2=>?_⟩
 rw [Nat.testBit_or,g2 j j1 j2,Nat.testBit_shiftLeft,Bool.false_or]
 rcases clear1_spec hc g hg with h | h | h | h
 ·have:f.1.testBit (j - f.2.1)=false:=Nat.testBit_lt_two_pow (Nat.lt_of_lt_of_le h1 (Nat.pow_le_pow_right (by omega) (by omega)))
  simp [this]
 ·have:¬ f.2.1≤j:=by omega
  simp [this]
 ·rw [h] at h1
  have:f.1=0:=by simpa using h1
  simp [this]
 ·omega
theorem orF_keep {k b:Nat}:∀ {r:List Fd} {y:Nat},clear1 k b r=true→(∀ f ∈ r,f.1<2 ^ f.2.2) → ∀ j,k≤j→j<k+b→(orF y r).testBit j=y.testBit j
 | [],y,_,_,j,_,_=>rfl
 | f :: r,y,hc,hs,j,h1,h2=>by
  have hsp:=clear1_spec hc f List.mem_cons_self
  simp only [clear1,Bool.and_eq_true] at hc
  simp only [orF]
  rw [orF_keep hc.2 (fun g hg=>hs g (List.mem_cons_of_mem _ hg)) j h1 h2,Nat.testBit_or,Nat.testBit_shiftLeft]
  have hf:=hs f List.mem_cons_self
  rcases hsp with h | h | h | h
  ·have:¬ f.2.1≤j:=by omega
   simp [this]
  ·have:f.1.testBit (j - f.2.1)=false:=Nat.testBit_lt_two_pow (Nat.lt_of_lt_of_le hf (Nat.pow_le_pow_right (by omega) (by omega)))
   simp [this]
  ·omega
  ·rw [h] at hf
   have:f.1=0:=by simpa using hf
   simp [this]
theorem orF_get:∀ {fs:List Fd} {x:Nat},Fine x fs→clearF fs=true → ∀ g ∈ fs,orF x fs / 2 ^ g.2.1 % 2 ^ g.2.2=g.1
 | [],x,_,_,g,hg=>by cases hg
 | f :: r,x,h,hc,g,hg=>by
  simp only [clearF,Bool.and_eq_true] at hc
  simp only [orF]
  rcases List.mem_cons.1 hg with rfl | hg
  ·obtain ⟨h1,h2⟩:=h g List.mem_cons_self
   apply Nat.eq_of_testBit_eq
   intro j
   rw [Nat.testBit_mod_two_pow,Nat.testBit_div_two_pow]
   by_cases hj:j<g.2.2
   ·rw [orF_keep hc.1 (fun f hf=>(h f (List.mem_cons_of_mem _ hf)).1) _ (by omega) (by omega),Nat.testBit_or,h2 _ (by omega) (by omega),Nat.testBit_shiftLeft]
    have e:j+g.2.1 - g.2.1=j:=by omega
    simp [hj,e]
   ·have:g.1.testBit j=false:=Nat.testBit_lt_two_pow (Nat.lt_of_lt_of_le h1 (Nat.pow_le_pow_right (by omega) (by omega)))
    simp [hj,this]
  ·exact orF_get (fine_next h hc.1) hc.2 g hg
theorem partN_int (n:Int) {fr bi:Nat} (h:bi≤32):((partN n fr bi:Nat):Int)=n / 2 ^ fr % 2 ^ bi:=by
 unfold partN
 have hp:(0:Int)<2 ^ fr:=Int.pow_pos (by omega)
 rw [Int.fdiv_eq_ediv_of_nonneg n (by omega)]
 generalize n / 2 ^ fr=q
 have hb:(2:Int) ^ bi ∣ 4294967296:=by
  have:(4294967296:Int)=2 ^ bi*2 ^ (32 - bi):=by rw [← Int.pow_add]; rw [show bi+(32 - bi)=32 from by omega]; rfl
  rw [this]
  exact Int.dvd_mul_right _ _
 have e:((2 ^ bi:Nat):Int)=2 ^ bi:=by simp
 rw [Int.natCast_emod,e,Int.toNat_of_nonneg (Int.emod_nonneg _ (by omega)),Int.emod_emod_of_dvd _ hb]
theorem partN_nat (w:Nat) {fr bi:Nat} (hw:w<2 ^ 32):partN (w:Int) fr bi=w / 2 ^ fr % 2 ^ bi:=by
 unfold partN
 have hp:(0:Int)<2 ^ fr:=Int.pow_pos (by omega)
 rw [Int.fdiv_eq_ediv_of_nonneg _ (by omega)]
 have e:((2:Int) ^ fr)=((2 ^ fr:Nat):Int):=by simp
 rw [e,← Int.natCast_ediv]
 have:w / 2 ^ fr<4294967296:=Nat.lt_of_le_of_lt (Nat.div_le_self _ _) hw
 generalize w / 2 ^ fr=q at this ⊢
 have:((q:Int) % 4294967296).toNat=q:=by omega
 rw [this]
theorem at_part {w:Nat} (hw:w<2 ^ 32) {fr bi at_:Nat} (h1:fr≤32):atF fr bi at_ (w:Int)=partF (w:Int) fr bi at_:=by
 unfold atF partF
 have e1:Min.min (Int.toNat (fr:Int)) 64=fr:=by rw [Int.toNat_natCast]; omega
 have e2:Min.min (Int.toNat (fr:Int)) 32=fr:=by rw [Int.toNat_natCast]; omega
 rw [e1,e2]
 have hp:(0:Int)<2 ^ fr:=Int.pow_pos (by omega)
 have:IntKind.wrap IntKind.u32 (Int.fdiv (w:Int) (2 ^ fr))=Int.fdiv (w:Int) (2 ^ fr):=by
  rw [Int.fdiv_eq_ediv_of_nonneg _ (by omega),wrap_u32]
  have e:((2:Int) ^ fr)=((2 ^ fr:Nat):Int):=by simp
  rw [e,← Int.natCast_ediv]
  have:w / 2 ^ fr<4294967296:=Nat.lt_of_le_of_lt (Nat.div_le_self _ _) hw
  generalize w / 2 ^ fr=q at this ⊢
  omega
 rw [this]
theorem at_eq {w:Nat} (hw:w<2 ^ 32) {fr bi at_:Nat} (h1:fr≤32) (h2:at_+bi≤32) (h3:bi<32):atF fr bi at_ (w:Int)=((partN (w:Int) fr bi <<< at_:Nat):Int):=by
 rw [at_part hw h1,part_eq _ (by omega) h2 h3]
def sgn (b:Nat) (x:Int):Int:=if x % 2 ^ b<2 ^ (b - 1) then x % 2 ^ b else x % 2 ^ b - 2 ^ b
theorem wrap_i32 (n:Int):IntKind.wrap .i32 n=(n+2147483648) % 4294967296 - 2147483648:=by
 simp [IntKind.wrap,IntKind.bits,IntKind.signed]
 omega
theorem signed12 (x:Int):signedF x 12=sgn 12 x:=by
 unfold signedF
 rw [show Min.min (Int.toNat (IntKind.wrap IntKind.i64 (32 - 12))) 32=20 from by decide,Int.fdiv_eq_ediv_of_nonneg _ (by decide),wrap_u32,wrap_i32,wrap_i64 (by omega) (by omega)]
 unfold sgn
 omega
theorem signed13 (x:Int):signedF x 13=sgn 13 x:=by
 unfold signedF
 rw [show Min.min (Int.toNat (IntKind.wrap IntKind.i64 (32 - 13))) 32=19 from by decide,Int.fdiv_eq_ediv_of_nonneg _ (by decide),wrap_u32,wrap_i32,wrap_i64 (by omega) (by omega)]
 unfold sgn
 omega
theorem signed20 (x:Int):signedF x 20=sgn 20 x:=by
 unfold signedF
 rw [show Min.min (Int.toNat (IntKind.wrap IntKind.i64 (32 - 20))) 32=12 from by decide,Int.fdiv_eq_ediv_of_nonneg _ (by decide),wrap_u32,wrap_i32,wrap_i64 (by omega) (by omega)]
 unfold sgn
 omega
theorem signed21 (x:Int):signedF x 21=sgn 21 x:=by
 unfold signedF
 rw [show Min.min (Int.toNat (IntKind.wrap IntKind.i64 (32 - 21))) 32=11 from by decide,Int.fdiv_eq_ediv_of_nonneg _ (by decide),wrap_u32,wrap_i32,wrap_i64 (by omega) (by omega)]
 unfold sgn
 omega
def numFd (f:Int) (w:Nat):List Fd:=
 cond (f == 4) [(partN w 7 5,0,5),(partN w 25 7,5,7)] (cond (f == 5) [(partN w 8 4,1,4),(partN w 25 6,5,6),(partN w 7 1,11,1),(partN w 31 1,12,1)]
  (cond (f == 7) [(partN w 21 10,1,10),(partN w 20 1,11,1),(partN w 12 8,12,8),(partN w 31 1,20,1)] []))
def numG (f:Int) (w:Nat):Int:=
 cond (f == 1) (sgn 12 (w / 1048576)) (cond (f == 2) (partN w 20 6) (cond (f == 3) (partN w 20 5) (cond (f == 4) (sgn 12 (sumF (numFd 4 w)))
  (cond (f == 5) (sgn 13 (sumF (numFd 5 w))) (cond (f == 6) (sgn 20 (w / 4096)) (cond (f == 7) (sgn 21 (sumF (numFd 7 w))) 0))))))
section
variable (w:Int)
theorem nF0:numberF 0 w=0:=by unfold numberF; rw [show ((0:Int) == 1)=false from rfl,cond_false,show ((0:Int) == 2)=false from rfl,cond_false,show ((0:Int) == 3)=false from rfl,cond_false,show ((0:Int) == 4)=false from rfl,cond_false,show ((0:Int) == 5)=false from rfl,cond_false,show ((0:Int) == 6)=false from rfl,cond_false,show ((0:Int) == 7)=false from rfl,cond_false]
theorem nF8:numberF 8 w=0:=by unfold numberF; rw [show ((8:Int) == 1)=false from rfl,cond_false,show ((8:Int) == 2)=false from rfl,cond_false,show ((8:Int) == 3)=false from rfl,cond_false,show ((8:Int) == 4)=false from rfl,cond_false,show ((8:Int) == 5)=false from rfl,cond_false,show ((8:Int) == 6)=false from rfl,cond_false,show ((8:Int) == 7)=false from rfl,cond_false]
theorem nF1:numberF 1 w=signedF (Int.fdiv w (2 ^ 20)) 12:=by unfold numberF; rw [show ((1:Int) == 1)=true from rfl,cond_true]
theorem nF2:numberF 2 w=IntKind.wrap .i64 (atF 20 6 0 w):=by unfold numberF; rw [show ((2:Int) == 1)=false from rfl,cond_false,show ((2:Int) == 2)=true from rfl,cond_true]
theorem nF3:numberF 3 w=IntKind.wrap .i64 (atF 20 5 0 w):=by unfold numberF; rw [show ((3:Int) == 1)=false from rfl,cond_false,show ((3:Int) == 2)=false from rfl,cond_false,show ((3:Int) == 3)=true from rfl,cond_true]
theorem nF4:numberF 4 w=signedF (or32 (atF 7 5 0 w) (atF 25 7 5 w)) 12:=by unfold numberF; rw [show ((4:Int) == 1)=false from rfl,cond_false,show ((4:Int) == 2)=false from rfl,cond_false,show ((4:Int) == 3)=false from rfl,cond_false,show ((4:Int) == 4)=true from rfl,cond_true]
theorem nF5:numberF 5 w=signedF (or32 (or32 (or32 (atF 8 4 1 w) (atF 25 6 5 w)) (atF 7 1 11 w)) (atF 31 1 12 w)) 13:=by unfold numberF; rw [show ((5:Int) == 1)=false from rfl,cond_false,show ((5:Int) == 2)=false from rfl,cond_false,show ((5:Int) == 3)=false from rfl,cond_false,show ((5:Int) == 4)=false from rfl,cond_false,show ((5:Int) == 5)=true from rfl,cond_true]
theorem nF6:numberF 6 w=signedF (Int.fdiv w (2 ^ 12)) 20:=by unfold numberF; rw [show ((6:Int) == 1)=false from rfl,cond_false,show ((6:Int) == 2)=false from rfl,cond_false,show ((6:Int) == 3)=false from rfl,cond_false,show ((6:Int) == 4)=false from rfl,cond_false,show ((6:Int) == 5)=false from rfl,cond_false,show ((6:Int) == 6)=true from rfl,cond_true]
theorem nF7:numberF 7 w=signedF (or32 (or32 (or32 (atF 21 10 1 w) (atF 20 1 11 w)) (atF 12 8 12 w)) (atF 31 1 20 w)) 21:=by unfold numberF; rw [show ((7:Int) == 1)=false from rfl,cond_false,show ((7:Int) == 2)=false from rfl,cond_false,show ((7:Int) == 3)=false from rfl,cond_false,show ((7:Int) == 4)=false from rfl,cond_false,show ((7:Int) == 5)=false from rfl,cond_false,show ((7:Int) == 6)=false from rfl,cond_false,show ((7:Int) == 7)=true from rfl,cond_true]
end
section
variable (w:Nat)
theorem nG0:numG 0 w=0:=by unfold numG; rw [show ((0:Int) == 1)=false from rfl,cond_false,show ((0:Int) == 2)=false from rfl,cond_false,show ((0:Int) == 3)=false from rfl,cond_false,show ((0:Int) == 4)=false from rfl,cond_false,show ((0:Int) == 5)=false from rfl,cond_false,show ((0:Int) == 6)=false from rfl,cond_false,show ((0:Int) == 7)=false from rfl,cond_false]
theorem nG8:numG 8 w=0:=by unfold numG; rw [show ((8:Int) == 1)=false from rfl,cond_false,show ((8:Int) == 2)=false from rfl,cond_false,show ((8:Int) == 3)=false from rfl,cond_false,show ((8:Int) == 4)=false from rfl,cond_false,show ((8:Int) == 5)=false from rfl,cond_false,show ((8:Int) == 6)=false from rfl,cond_false,show ((8:Int) == 7)=false from rfl,cond_false]
theorem nG1:numG 1 w=sgn 12 (w / 1048576):=by unfold numG; rw [show ((1:Int) == 1)=true from rfl,cond_true]
theorem nG2:numG 2 w=(partN w 20 6:Int):=by unfold numG; rw [show ((2:Int) == 1)=false from rfl,cond_false,show ((2:Int) == 2)=true from rfl,cond_true]
theorem nG3:numG 3 w=(partN w 20 5:Int):=by unfold numG; rw [show ((3:Int) == 1)=false from rfl,cond_false,show ((3:Int) == 2)=false from rfl,cond_false,show ((3:Int) == 3)=true from rfl,cond_true]
theorem nG4:numG 4 w=sgn 12 (sumF (numFd 4 w)):=by unfold numG; rw [show ((4:Int) == 1)=false from rfl,cond_false,show ((4:Int) == 2)=false from rfl,cond_false,show ((4:Int) == 3)=false from rfl,cond_false,show ((4:Int) == 4)=true from rfl,cond_true]
theorem nG5:numG 5 w=sgn 13 (sumF (numFd 5 w)):=by unfold numG; rw [show ((5:Int) == 1)=false from rfl,cond_false,show ((5:Int) == 2)=false from rfl,cond_false,show ((5:Int) == 3)=false from rfl,cond_false,show ((5:Int) == 4)=false from rfl,cond_false,show ((5:Int) == 5)=true from rfl,cond_true]
theorem nG6:numG 6 w=sgn 20 (w / 4096):=by unfold numG; rw [show ((6:Int) == 1)=false from rfl,cond_false,show ((6:Int) == 2)=false from rfl,cond_false,show ((6:Int) == 3)=false from rfl,cond_false,show ((6:Int) == 4)=false from rfl,cond_false,show ((6:Int) == 5)=false from rfl,cond_false,show ((6:Int) == 6)=true from rfl,cond_true]
theorem nG7:numG 7 w=sgn 21 (sumF (numFd 7 w)):=by unfold numG; rw [show ((7:Int) == 1)=false from rfl,cond_false,show ((7:Int) == 2)=false from rfl,cond_false,show ((7:Int) == 3)=false from rfl,cond_false,show ((7:Int) == 4)=false from rfl,cond_false,show ((7:Int) == 5)=false from rfl,cond_false,show ((7:Int) == 6)=false from rfl,cond_false,show ((7:Int) == 7)=true from rfl,cond_true]
end
theorem numberF_eq (f:Int) (w:Nat) (hw:w<2 ^ 32) (f0:0≤f) (f8:f≤8):numberF f w=numG f w:=by
 have orN:∀ {a b:Nat},a<2 ^ 32→b<2 ^ 32→or32 (a:Int) (b:Int)=((a ||| b:Nat):Int)∧a ||| b<2 ^ 32:=by
  intro a b ha hb
  refine ⟨?_,Nat.or_lt_two_pow ha hb⟩
  rw [or32_nat (by omega) (by omega) (by omega) (by omega)]
  simp only [Int.toNat_natCast]
 have pl:∀ {fr bi at_:Nat},at_+bi≤32→partN w fr bi <<< at_<2 ^ 32:=by
  intro fr bi at_ h
  rw [Nat.shiftLeft_eq]
  have h1:=Nat.mul_lt_mul_of_pos_right (partN_lt w fr bi) (Nat.two_pow_pos at_)
  rw [← Nat.pow_add] at h1
  have:(2:Nat) ^ (bi+at_)≤2 ^ 32:=Nat.pow_le_pow_right (by omega) (by omega)
  omega
 have fz:∀ {fs:List Fd},(∀ g ∈ fs,g.1<2 ^ g.2.2)→Fine 0 fs:=fun h g hg=>⟨h g hg,.zero _ _⟩
 rcases form_cases f0 f8 with h | h | h | h | h | h | h | h | h <;> subst h
 ·rw [nF0,nG0]
 ·rw [nF1,nG1,signed12,Int.fdiv_eq_ediv_of_nonneg _ (by decide)]
  rfl
 ·rw [nF2,nG2,show atF 20 6 0 (w:Int)=_ from at_eq hw (fr:=20) (bi:=6) (at_:=0) (by omega) (by omega) (by omega),Nat.shiftLeft_zero,wrap_i64 (by omega) (by have:=partN_lt w 20 6; omega)]
 ·rw [nF3,nG3,show atF 20 5 0 (w:Int)=_ from at_eq hw (fr:=20) (bi:=5) (at_:=0) (by omega) (by omega) (by omega),Nat.shiftLeft_zero,wrap_i64 (by omega) (by have:=partN_lt w 20 5; omega)]
 ·rw [nF4,nG4]
  have e1:=at_eq hw (fr:=7) (bi:=5) (at_:=0) (by omega) (by omega) (by omega)
  have e2:=at_eq hw (fr:=25) (bi:=7) (at_:=5) (by omega) (by omega) (by omega)
  rw [signed12,show atF 7 5 0 (w:Int)=_ from e1,show atF 25 7 5 (w:Int)=_ from e2,(orN (pl (by omega)) (pl (by omega))).1]
  have s := orF_sum (numFd 4 w) 0 (fz (by intro g hg; rcases List.mem_cons.1 hg with rfl | hg; · exact partN_lt _ _ _
                                          rcases List.mem_cons.1 hg with rfl | hg; · exact partN_lt _ _ _
                                          cases hg)) rfl
  have s' : partN w 7 5 <<< 0 ||| partN w 25 7 <<< 5=orF 0 (numFd 4 w):=by
   show _=(0 ||| _) ||| _
   rw [Nat.zero_or]
  rw [s',s,Nat.zero_add]
 ·rw [nF5,nG5]
  have e1:=at_eq hw (fr:=8) (bi:=4) (at_:=1) (by omega) (by omega) (by omega)
  have e2:=at_eq hw (fr:=25) (bi:=6) (at_:=5) (by omega) (by omega) (by omega)
  have e3:=at_eq hw (fr:=7) (bi:=1) (at_:=11) (by omega) (by omega) (by omega)
  have e4:=at_eq hw (fr:=31) (bi:=1) (at_:=12) (by omega) (by omega) (by omega)
  have o1:=orN (pl (fr:=8) (bi:=4) (at_:=1) (by omega)) (pl (fr:=25) (bi:=6) (at_:=5) (by omega))
  have o2:=orN o1.2 (pl (fr:=7) (bi:=1) (at_:=11) (by omega))
  have o3:=orN o2.2 (pl (fr:=31) (bi:=1) (at_:=12) (by omega))
  rw [signed13,show atF 8 4 1 (w:Int)=_ from e1,show atF 25 6 5 (w:Int)=_ from e2,show atF 7 1 11 (w:Int)=_ from e3,show atF 31 1 12 (w:Int)=_ from e4,o1.1,o2.1,o3.1]
  have s := orF_sum (numFd 5 w) 0 (fz (by intro g hg; rcases List.mem_cons.1 hg with rfl | hg; · exact partN_lt _ _ _
                                          rcases List.mem_cons.1 hg with rfl | hg; · exact partN_lt _ _ _
                                          rcases List.mem_cons.1 hg with rfl | hg; · exact partN_lt _ _ _
                                          rcases List.mem_cons.1 hg with rfl | hg; · exact partN_lt _ _ _
                                          cases hg)) rfl
  have s' : ((partN w 8 4 <<< 1 ||| partN w 25 6 <<< 5) ||| partN w 7 1 <<< 11) ||| partN w 31 1 <<< 12=orF 0 (numFd 5 w):=by
   show _=(((0 ||| _) ||| _) ||| _) ||| _
   rw [Nat.zero_or]
  rw [s',s,Nat.zero_add]
 ·rw [nF6,nG6,signed20,Int.fdiv_eq_ediv_of_nonneg _ (by decide)]
  rfl
 ·rw [nF7,nG7]
  have e1:=at_eq hw (fr:=21) (bi:=10) (at_:=1) (by omega) (by omega) (by omega)
  have e2:=at_eq hw (fr:=20) (bi:=1) (at_:=11) (by omega) (by omega) (by omega)
  have e3:=at_eq hw (fr:=12) (bi:=8) (at_:=12) (by omega) (by omega) (by omega)
  have e4:=at_eq hw (fr:=31) (bi:=1) (at_:=20) (by omega) (by omega) (by omega)
  have o1:=orN (pl (fr:=21) (bi:=10) (at_:=1) (by omega)) (pl (fr:=20) (bi:=1) (at_:=11) (by omega))
  have o2:=orN o1.2 (pl (fr:=12) (bi:=8) (at_:=12) (by omega))
  have o3:=orN o2.2 (pl (fr:=31) (bi:=1) (at_:=20) (by omega))
  rw [signed21,show atF 21 10 1 (w:Int)=_ from e1,show atF 20 1 11 (w:Int)=_ from e2,show atF 12 8 12 (w:Int)=_ from e3,show atF 31 1 20 (w:Int)=_ from e4,o1.1,o2.1,o3.1]
  have s := orF_sum (numFd 7 w) 0 (fz (by intro g hg; rcases List.mem_cons.1 hg with rfl | hg; · exact partN_lt _ _ _
                                          rcases List.mem_cons.1 hg with rfl | hg; · exact partN_lt _ _ _
                                          rcases List.mem_cons.1 hg with rfl | hg; · exact partN_lt _ _ _
                                          rcases List.mem_cons.1 hg with rfl | hg; · exact partN_lt _ _ _
                                          cases hg)) rfl
  have s' : ((partN w 21 10 <<< 1 ||| partN w 20 1 <<< 11) ||| partN w 12 8 <<< 12) ||| partN w 31 1 <<< 20=orF 0 (numFd 7 w):=by
   show _=(((0 ||| _) ||| _) ||| _) ||| _
   rw [Nat.zero_or]
  rw [s',s,Nat.zero_add]
 ·rw [nF8,nG8]
end Go.Rj
