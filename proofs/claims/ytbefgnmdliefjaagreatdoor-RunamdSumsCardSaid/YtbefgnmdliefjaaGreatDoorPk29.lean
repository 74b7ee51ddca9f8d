/-
  The document's quotient and rest are the quotient and the rest. Conditions: none.
-/
import Derived.Test.YtbefgnmdliefjaaGreatDoorPk28
import Derived.Test.YtbefgnmdliefjaaGreatDoorPk22
import Derived.Test.YtbefgnmdliefjaaGreatDoorPk16
import Derived.Test.YtbefgnmdliefjaaGreatDoorPk24
import Derived.Test.YtbefgnmdliefjaaGreatDoorPk17
set_option linter.unusedVariables false
set_option linter.unusedSimpArgs false
namespace Go.Ra
open Go Go.Ab Go.Proofs
theorem bitI_eq {l:Int} (hl:rng64 l=true) {k:Nat} (hk:k<64):bitI l (63 - (k:Int))=l / 2 ^ (63 - k) % 2:=by
 have e:Min.min (Int.toNat (wu (63 - (k:Int)))) 64=63 - k:=by
  rw [wu_mod]
  omega
 obtain ⟨l0,l1⟩:=rng_spec hl
 show andU _ 1=_
 rw [e,andU_1,Int.fdiv_eq_ediv_of_nonneg _ (Int.le_of_lt (Int.pow_pos (by decide)))]
theorem r2_eq {l r:Int} (hl:rng64 l=true) (hr:rng64 r=true) {k:Nat} (hk:k<64):r2I l r (63 - (k:Int))=(2*r) % 18446744073709551616+l / 2 ^ (63 - k) % 2:=by
 unfold r2I
 rw [bitI_eq hl hk]
 obtain ⟨r0,r1⟩:=rng_spec hr
 obtain ⟨m,hm⟩:=Int.eq_ofNat_of_zero_le r0
 obtain ⟨y,hy⟩:=Int.eq_ofNat_of_zero_le (show 0≤l / 2 ^ (63 - k) % 2 by omega)
 rw [hy]
 have hy2:y<2:=by omega
 subst hm
 have e1:wu ((m:Int)*2 ^ 1)=((2*(m % 9223372036854775808):Nat):Int):=by
  rw [wu_mod]
  omega
 rw [e1,or_cast (by omega) (by omega)]
 have e2:=Nat.two_pow_add_eq_or_of_lt (i:=1) (b:=y) (by omega) (m % 9223372036854775808)
 rw [Nat.pow_one] at e2
 rw [← e2]
 omega
theorem top_eq {r:Int} (hr:rng64 r=true):topI r=hb r:=sh63_one hr
theorem half_step {h l:Int} (hl:rng64 l=true) {k:Nat} (hk:k<64) :
  (h*18446744073709551616+l) / 2 ^ (63 - k)=2*((h*18446744073709551616+l) / 2 ^ (64 - k))+l / 2 ^ (63 - k) % 2:=by
 have hp:(0:Int)<2 ^ (63 - k):=Int.pow_pos (by decide)
 have e1:(2:Int) ^ (64 - k)=2 ^ (63 - k)*2:=by
  rw [show 64 - k=(63 - k)+1 by omega,Int.pow_succ]
 have e2:(18446744073709551616:Int)=2 ^ (63 - k)*(2*2 ^ k):=by
  have:(2:Int) ^ (63 - k)*(2*2 ^ k)=2 ^ ((63 - k)+(k+1)):=by
   rw [Int.pow_add,Int.pow_succ,Int.mul_comm 2]
  rw [this,show (63 - k)+(k+1)=64 by omega]
  rfl
 have e3:(h*18446744073709551616+l) / 2 ^ (63 - k)=h*(2*2 ^ k)+l / 2 ^ (63 - k):=by
  rw [e2,show h*(2 ^ (63 - k)*(2*2 ^ k))=2 ^ (63 - k)*(h*(2*2 ^ k)) by rw [Int.mul_left_comm],Int.add_comm,Int.add_mul_ediv_left _ _ (Int.ne_of_gt hp),Int.add_comm]
 rw [e1,← Int.ediv_ediv_of_nonneg (Int.le_of_lt hp),e3]
 have e4:h*(2*2 ^ k)=2*(h*2 ^ k):=by rw [Int.mul_left_comm]
 rw [e4]
 generalize h*2 ^ k=z
 generalize l / 2 ^ (63 - k)=y
 omega
theorem div_step {n b bit:Int} (hb:0<b) (h0:0≤n) (hbit:bit=0∨bit=1) :
  (b≤2*(n % b)+bit→(2*n+bit) / b=2*(n / b)+1∧(2*n+bit) % b=2*(n % b)+bit - b)∧(2*(n % b)+bit<b→(2*n+bit) / b=2*(n / b)∧(2*n+bit) % b=2*(n % b)+bit):=by
 have hn:=Int.emod_add_mul_ediv n b
 have m0:=Int.emod_nonneg n (Int.ne_of_gt hb)
 have m1:=Int.emod_lt_of_pos n hb
 generalize n % b=r at hn m0 m1 ⊢
 generalize n / b=q at hn ⊢
 constructor
 ·intro hle
  have e:2*n+bit=(2*r+bit - b)+b*(2*q+1):=by
   rw [← hn,Int.mul_add b,Int.mul_one,Int.mul_left_comm b 2 q]
   omega
  rw [e,Int.add_mul_ediv_left _ _ (Int.ne_of_gt hb),Int.add_mul_emod_self_left,Int.ediv_eq_zero_of_lt (by omega) (by omega),Int.emod_eq_of_lt (by omega) (by omega)]
  exact ⟨by omega,rfl⟩
 ·intro hlt
  have e:2*n+bit=(2*r+bit)+b*(2*q):=by
   rw [← hn,Int.mul_left_comm b 2 q]
   omega
  rw [e,Int.add_mul_ediv_left _ _ (Int.ne_of_gt hb),Int.add_mul_emod_self_left,Int.ediv_eq_zero_of_lt (by omega) hlt,Int.emod_eq_of_lt (by omega) hlt]
  exact ⟨by omega,rfl⟩
theorem lgN_eq {h l b:Int} (hh:rng64 h=true) (hl:rng64 l=true) (hb' : rng64 b=true) (hlt:h<b):∀ k,k≤64→(lgN h l b k).1=(h*18446744073709551616+l) / 2 ^ (64 - k) / b∧(lgN h l b k).2=(h*18446744073709551616+l) / 2 ^ (64 - k) % b
 | 0,_=>by
  obtain ⟨h0,h1⟩:=rng_spec hh
  obtain ⟨l0,l1⟩:=rng_spec hl
  have e:(h*18446744073709551616+l) / 2 ^ (64 - 0)=h:=by
   show (h*18446744073709551616+l) / 18446744073709551616=h
   omega
  rw [e,Int.ediv_eq_zero_of_lt h0 hlt,Int.emod_eq_of_lt h0 hlt]
  exact ⟨rfl,rfl⟩
 | k+1,hk=>by
  obtain ⟨i1,i2⟩:=lgN_eq hh hl hb' hlt k (by omega)
  obtain ⟨h0,h1⟩:=rng_spec hh
  obtain ⟨l0,l1⟩:=rng_spec hl
  obtain ⟨b0,b1⟩:=rng_spec hb'
  have hk' : k<64:=by omega
  have hs:=half_step (h:=h) hl hk'
  have hp:(0:Int)<2 ^ (64 - k):=Int.pow_pos (by decide)
  have hn0:0≤(h*18446744073709551616+l) / 2 ^ (64 - k):=Int.ediv_nonneg (by omega) (Int.le_of_lt hp)
  have hbit:l / 2 ^ (63 - k) % 2=0∨l / 2 ^ (63 - k) % 2=1:=by omega
  have hq:(h*18446744073709551616+l) / 2 ^ (63 - k) / b<18446744073709551616:=by
   refine (Int.ediv_lt_iff_lt_mul (by omega)).2 ?_
   have:=Int.ediv_le_self (2 ^ (63 - k)) (show 0≤h*18446744073709551616+l by omega)
   have h3:(h+1)*18446744073709551616≤b*18446744073709551616:=Int.mul_le_mul_of_nonneg_right (by omega) (by decide)
   rw [Int.mul_comm 18446744073709551616 b]
   omega
  have hq0:0≤(h*18446744073709551616+l) / 2 ^ (64 - k) / b:=Int.ediv_nonneg hn0 (by omega)
  obtain ⟨d1,d2⟩:=div_step (n:=(h*18446744073709551616+l) / 2 ^ (64 - k)) (b:=b) (bit:=l / 2 ^ (63 - k) % 2) (by omega) hn0 hbit
  have m0:=Int.emod_nonneg ((h*18446744073709551616+l) / 2 ^ (64 - k)) (show b ≠ 0 by omega)
  have m1:=Int.emod_lt_of_pos ((h*18446744073709551616+l) / 2 ^ (64 - k)) (show 0<b by omega)
  rw [lgN_succ,show 64 - (k+1)=63 - k by omega]
  rw [hs] at hq ⊢
  unfold lgStep
  rw [i1,i2]
  have hr:rng64 ((h*18446744073709551616+l) / 2 ^ (64 - k) % b)=true:=rng_of m0 (by omega)
  rw [top_eq hr,r2_eq hl hr hk']
  generalize (h*18446744073709551616+l) / 2 ^ (64 - k)=N at *
  generalize l / 2 ^ (63 - k) % 2=bit at *
  generalize N % b=r at *
  generalize N / b=qv at *
  have sub:b≤2*r+bit→(wu (wu (qv*2 ^ 1)+1),wu ((2*r) % 18446744073709551616+bit - b))=((2*N+bit) / b,(2*N+bit) % b):=by
   intro hle
   obtain ⟨g1,g2⟩:=d1 hle
   rw [g1] at hq
   rw [g1,g2]
   refine Prod.ext ?_ ?_
   ·show wu (wu (qv*2)+1)=_
    rw [wu_mod,wu_mod]
    omega
   ·show wu _=_
    rw [wu_mod]
    omega
  unfold hb
  by_cases ht:9223372036854775808≤r
  ·rw [decide_eq_true ht,cond_true,sub (by omega)]
   exact ⟨rfl,rfl⟩
  ·rw [decide_eq_false ht,cond_false]
   have e:(2*r) % 18446744073709551616=2*r:=by omega
   by_cases hle:b≤2*r+bit
   ·rw [e,decide_eq_true hle,cond_true,← e,sub hle]
    exact ⟨rfl,rfl⟩
   ·rw [e,decide_eq_false hle,cond_false]
    obtain ⟨g1,g2⟩:=d2 (by omega)
    rw [g1] at hq
    rw [g1,g2]
    refine ⟨?_,rfl⟩
    show wu (qv*2)=_
    rw [wu_mod]
    omega
theorem lgF_all:LgOk lgF:=by
 intro h l y hh hl hy hlt
 obtain ⟨g1,g2⟩:=lgN_eq hh hl hy hlt 64 (Nat.le_refl _)
 have e:(h*18446744073709551616+l) / 2 ^ (64 - 64)=h*18446744073709551616+l:=Int.ediv_one _
 rw [e] at g1 g2
 exact ⟨g1,g2⟩
end Go.Ra

namespace Go.Amd
open Go Go.Ab Go.Proofs
abbrev RowX:=List UInt8 × Int × Option (List Int) × Int × Int
@[irreducible] def rowsX:List RowX:=[
 ([109,111,118,46,114,114],1,some [137],0,2),
 ([109,111,118,46,114,105],2,some [184],0,2),
 ([109,111,118,46,114,115],3,some [199],0,2),
 ([109,111,118,46,114,109],4,some [139],0,2),
 ([109,111,118,108,46,114,109],4,some [139],0,0),
 ([109,111,118,115,108,46,114,109],4,some [99],0,2),
 ([109,111,118,122,98,46,114,109],4,some [15,182],0,2),
 ([108,101,97],4,some [141],0,2),
 ([109,111,118,46,109,114],4,some [137],0,2),
 ([109,111,118,108,46,109,114],4,some [137],0,0),
 ([109,111,118,98,46,109,114],4,some [136],0,1),
 ([109,111,118,46,102,115],5,some [139],0,2),
 ([97,100,100,46,114,114],1,some [1],0,2),
 ([111,114,46,114,114],1,some [9],0,2),
 ([97,110,100,46,114,114],1,some [33],0,2),
 ([115,117,98,46,114,114],1,some [41],0,2),
 ([120,111,114,46,114,114],1,some [49],0,2),
 ([99,109,112,46,114,114],1,some [57],0,2),
 ([97,100,100,46,114,109],4,some [3],0,2),
 ([111,114,46,114,109],4,some [11],0,2),
 ([97,110,100,46,114,109],4,some [35],0,2),
 ([115,117,98,46,114,109],4,some [43],0,2),
 ([120,111,114,46,114,109],4,some [51],0,2),
 ([99,109,112,46,114,109],4,some [59],0,2),
 ([97,100,100,46,114,105],6,some [131],0,2),
 ([111,114,46,114,105],6,some [131],1,2),
 ([97,110,100,46,114,105],6,some [131],4,2),
 ([115,117,98,46,114,105],6,some [131],5,2),
 ([120,111,114,46,114,105],6,some [131],6,2),
 ([99,109,112,46,114,105],6,some [131],7,2),
 ([116,101,115,116,46,114,114],1,some [133],0,2),
 ([105,109,117,108,46,114,114],7,some [15,175],0,2),
 ([110,111,116],8,some [247],2,2),
 ([110,101,103],8,some [247],3,2),
 ([109,117,108],8,some [247],4,2),
 ([100,105,118],8,some [247],6,2),
 ([105,100,105,118],8,some [247],7,2),
 ([99,113,111],9,some [153],0,2),
 ([115,104,108,46,114,105],10,some [193],4,2),
 ([115,104,114,46,114,105],10,some [193],5,2),
 ([115,97,114,46,114,105],10,some [193],7,2),
 ([115,104,108,46,114,99],8,some [211],4,2),
 ([115,104,114,46,114,99],8,some [211],5,2),
 ([115,97,114,46,114,99],8,some [211],7,2),
 ([99,109,111,118],11,some [15,64],0,2),
 ([112,117,115,104],12,some [80],0,0),
 ([112,111,112],12,some [88],0,0),
 ([99,97,108,108],13,some [232],0,0),
 ([106,109,112],13,some [233],0,0),
 ([106,109,112,46,115],14,some [235],0,0),
 ([99,97,108,108,46,114],8,some [255],2,0),
 ([106,109,112,46,114],8,some [255],4,0),
 ([106,99,99],15,some [15,128],0,0),
 ([106,99,99,46,115],16,some [112],0,0),
 ([114,101,116],9,some [195],0,0),
 ([115,121,115,99,97,108,108],9,some [15,5],0,0),
 ([110,111,112],9,some [144],0,0),
 ([117,100,50],9,some [15,11],0,0)]
def zeroX:RowX:=([],0,none,0,0)
def findLX (nm:List UInt8) (l:List RowX):Option RowX:=l.find? fun r=>strEq r.1 nm
def frowX (nm:List UInt8):RowX:=(findLX nm rowsX).getD zeroX
def fokX (nm:List UInt8):Bool:=(findLX nm rowsX).isSome
end Go.Amd

namespace Go.Amd
open Go Go.Ab Go.Proofs
def prefC (r:Int):Int:=cond (r == 0) 0 (cond (r == 2) 1 2)
def opC (o:Option (List Int)):Int:=match o with
 | some [a]=>a
 | some [a,b]=>256*a+b
 | _=>0
def formC (f:Int):Int:=([0,7,2,4,9,10,6,8,3,0,5,8,1,11,12,11,12]:List Int).getD f.toNat 0
def condC (f:Int):Bool:=f == 11 || f == 15 || f == 16
def longC (f:Int):Bool:=f == 3 || f == 4 || f == 5 || f == 6 || f == 13 || f == 15
def shortC (f:Int):Bool:=f == 14 || f == 16
def lowC (f:Int):Int:=cond (f == 2) (-9223372036854775808) (cond (longC f) (-2147483648) (cond (shortC f) (-128) 0))
def highC (f:Int):Int:=cond (f == 2) 9223372036854775807 (cond (longC f) 2147483647 (cond (shortC f) 127 (cond (f == 10) 63 0)))
def opsC (f:Int):List UInt8:=
 cond (f == 1 || f == 7) [65,66] (cond (f == 2 || f == 3 || f == 6 || f == 10 || f == 5) [65,105] (cond (f == 4) [65,109] (cond (f == 8 || f == 12) [65] (cond (f == 11) [65,66,99] (cond (f == 13 || f == 14) [106] (cond (f == 15 || f == 16) [99,106] []))))))
def conv (x:RowX):RowT:=(x.1,prefC x.2.2.2.2,opC x.2.2.1,formC x.2.1,x.2.2.2.1,condC x.2.1,lowC x.2.1,highC x.2.1,opsC x.2.1)
theorem rows_conv:rowsX.map conv=rowsL:=by kernel_rfl
theorem find_conv (nm:List UInt8):findL nm rowsL=(findLX nm rowsX).map conv:=by
 unfold findL findLX
 rw [← rows_conv,List.find?_map]
 rfl
theorem fok_eq (nm:List UInt8):fok nm=fokX nm:=by
 unfold fok fokX
 rw [find_conv]
 cases findLX nm rowsX <;> rfl
theorem frow_eq {nm:List UInt8} (h:fokX nm=true):frow nm=conv (frowX nm)∧frowX nm ∈ rowsX:=by
 unfold fokX at h
 obtain ⟨r,hr⟩:=Option.isSome_iff_exists.1 h
 have h1:frowX nm=r:=by unfold frowX; rw [hr]; rfl
 refine ⟨?_,by rw [h1]; exact List.mem_of_find?_eq_some hr⟩
 unfold frow
 rw [find_conv,hr,h1]
 rfl
end Go.Amd

namespace Go.Amd
open Go Go.Ab Go.Proofs
def bO (b:Bool):Option V:=some (.bool b)
def regX (u:Bool) (n:Int):Bool:=cond u (cond (decide (0≤n)) (decide (n≤15)) false) (n == 0)
def condX (d:Int):Bool:=cond (cond (decide (0≤d)) (decide (d≤9)) false) true (cond (decide (12≤d)) (decide (d≤15)) false)
def longX (n:Int):Bool:=cond (decide (-2147483648≤n)) (decide (n<2147483648)) false
def shortX (n:Int):Bool:=cond (decide (-128≤n)) (decide (n<128)) false
def placeX (b c d:Int):Bool:=cond (b == 17) (cond (c == 16) (d == 0) false) (cond (regX true b) (cond (c == 4) false (cond (c == 16) (d == 0) (cond (regX true c) (cond (d == 1) true (cond (d == 2) true (cond (d == 4) true (d == 8)))) false))) false)
end Go.Amd

namespace Go.Amd
open Go Go.Ab Go.Proofs
def e13:Option V:=some (.int .i64 13)
def e3:Option V:=some (.int .i64 3)
def e0:Option V:=some (.int .i64 0)
def hasA (f:Int):Bool:=!(f == 9 || (f == 13 || (f == 14 || (f == 15 || f == 16))))
def twoX (f:Int):Bool:=f == 1 || (f == 7 || f == 11)
def cndX (f:Int):Bool:=f == 11 || (f == 15 || f == 16)
def noneX (f:Int):Bool:=f == 1 || (f == 7 || (f == 8 || (f == 9 || (f == 11 || f == 12))))
def shrtX (f:Int):Bool:=f == 14 || f == 16
def goodK (f a b c d:Int) (k:Option V):Option V:=
 cond (regX (hasA f) a) (cond (f == 4) (cond (!placeX b c d) e13 k) (cond (regX (twoX f) b) (cond (c == 0) (cond (cndX f) (cond (!condX d) e13 k) (cond (!(d == 0)) e13 k)) e13) e13)) e13
def tailK (f n:Int):Option V:=
 cond (noneX f) (cond (n != 0) e13 e0) (cond (f == 2) e0 (cond (f == 10) (cond (decide (0≤n)) (cond (!decide (n≤63)) e3 e0) e3) (cond (shrtX f) (cond (!shortX n) e3 e0) (cond (!longX n) e3 e0))))
def formsX:List Int:=[1,2,3,4,5,6,7,8,9,10,11,12,13,14,15,16]
def ckP (q:List UInt8→Bool) (f:Int) (_:List UInt8) (_:List Int) (_ _:Int) (nm:List UInt8) (a b c d n:Int):Option V:=cond (q nm) (goodK f a b c d (tailK f n)) none
def okX (f a b c d:Int):Bool:=regX (hasA f) a && (cond (f == 4) (placeX b c d) (regX (twoX f) b && ((c == 0) && cond (cndX f) (condX d) (d == 0))))
def numX (f n:Int):Int:=cond (noneX f) (cond (n != 0) 13 0) (cond (f == 2) 0 (cond (f == 10) (cond (decide (0≤n) && decide (n≤63)) 0 3) (cond (cond (shrtX f) (shortX n) (longX n)) 0 3)))
def chkX (f a b c d n:Int):Int:=cond (okX f a b c d) (numX f n) 13
theorem formX_in:rowsX.all (fun x=>formsX.contains x.2.1 && x.2.2.1.isSome)=true:=by kernel_rfl
theorem row_op {y:RowX} (hy:y ∈ rowsX):∃ op,y.2.2.1=some op∧y.2.1 ∈ formsX:=by
 have h:=List.all_eq_true.1 formX_in _ hy
 obtain ⟨h1,h2⟩:=Bool.and_eq_true_iff.1 h
 obtain ⟨op,ho⟩:=Option.isSome_iff_exists.1 h2
 exact ⟨op,ho,by simpa using h1⟩
def checkX (i:InsT):Int:=cond (fokX i.1) (chkX (frowX i.1).2.1 i.2.1 i.2.2.1 i.2.2.2.1 i.2.2.2.2.1 i.2.2.2.2.2) 7
end Go.Amd

namespace Go.Amd
open Go Go.Ab Go.Proofs
theorem regX_eq' (u:Bool) (n:Int):regX u n=regF n u:=by
 unfold regX regF
 by_cases h0:n=0
 ·subst h0
  cases u <;> rfl
 ·have e:(n == 0)=false:=by simpa using h0
  rw [e]
  cases u
  ·rfl
  ·by_cases h1:0<n
   ·rw [decide_eq_true h1,decide_eq_true (show 0≤n by omega)]
    rfl
   ·rw [decide_eq_false h1,decide_eq_false (show ¬ 0≤n by omega)]
    rfl
theorem condX_eq' (d:Int):condX d=condF d:=rfl
theorem placeX_eq' (b c d:Int):placeX b c d=placeF b c d:=by
 unfold placeX placeF baseF
 rw [regX_eq',regX_eq']
 by_cases hb:b=17
 ·subst hb
  by_cases hc:c=16
  ·subst hc
   rfl
  ·have e:(c == 16)=false:=by simpa using hc
   rw [e]
   rfl
 ·have e:(b == 17)=false:=by simpa using hb
  have e2:(b != 17)=true:=by simpa using hb
  have er:regF b true=cond (decide (0≤b)) (decide (b≤15)) false:=by
   rw [← regX_eq']
   rfl
  have ec:regF c true=cond (decide (0≤c)) (decide (c≤15)) false:=by
   rw [← regX_eq']
   rfl
  rw [e,e2,er,ec]
  simp only [cond_false,cond_true]
  by_cases h0:0≤b <;> by_cases h1:b≤15
  all_goals
   first | rw [decide_eq_true h0] | rw [decide_eq_false h0]
   first | rw [decide_eq_true h1] | rw [decide_eq_false h1]
   simp only [cond_false,cond_true]
  ·by_cases hc:c=16
   ·subst hc
    rfl
   have e3:(c == 16)=false:=by simpa using hc
   rw [e3]
   unfold scaleF bne
   cases c == 4 <;> cases decide (0≤c) <;> cases decide (c≤15) <;> rfl
  all_goals
   cases c == 16 <;> rfl
theorem longX_eq' (n:Int):longX n=(!decide (n < -2147483648) && !decide (2147483647<n)):=by
 unfold longX
 by_cases h0 : -2147483648≤n
 ·rw [decide_eq_true h0,decide_eq_false (show ¬ n < -2147483648 by omega)]
  by_cases h1:n<2147483648
  ·rw [decide_eq_true h1,decide_eq_false (show ¬ 2147483647<n by omega)]
   rfl
  ·rw [decide_eq_false h1,decide_eq_true (show 2147483647<n by omega)]
   rfl
 ·rw [decide_eq_false h0,decide_eq_true (show n < -2147483648 by omega)]
  rfl
theorem shortX_eq' (n:Int):shortX n=(!decide (n < -128) && !decide (127<n)):=by
 unfold shortX
 by_cases h0 : -128≤n
 ·rw [decide_eq_true h0,decide_eq_false (show ¬ n < -128 by omega)]
  by_cases h1:n<128
  ·rw [decide_eq_true h1,decide_eq_false (show ¬ 127<n by omega)]
   rfl
  ·rw [decide_eq_false h1,decide_eq_true (show 127<n by omega)]
   rfl
 ·rw [decide_eq_false h0,decide_eq_true (show n < -128 by omega)]
  rfl
def i64r (n:Int):Bool:=decide (-9223372036854775808≤n) && decide (n≤9223372036854775807)
theorem range_eq (n lo hi:Int):cond (!decide (n<lo) && !decide (hi<n)) (0:Int) 3=cond (decide (n<lo)) 3 (cond (decide (hi<n)) 3 0):=by
 cases decide (n<lo) <;> cases decide (hi<n) <;> rfl
def okP (m hA hB cn:Bool) (a b c d:Int):Bool:=cond m (cond (regF a hA) (placeF b c d) false) (cond (regF a hA) (cond (regF b hB) (cond (c == 0) (cond (d == 0) true (cond cn (condF d) false)) false) false) false)
theorem okX_eq (f a b c d:Int):okX f a b c d=okP (f == 4) (hasA f) (twoX f) (cndX f) a b c d:=by
 unfold okX okP
 rw [regX_eq',regX_eq',placeX_eq',condX_eq']
 by_cases hd:d=0
 ·subst hd
  cases f == 4 <;> cases regF a (hasA f) <;> cases regF b (twoX f) <;> cases c == 0 <;> cases cndX f <;> rfl
 ·have e:(d == 0)=false:=by simpa using hd
  rw [e]
  cases f == 4 <;> cases regF a (hasA f) <;> cases regF b (twoX f) <;> cases c == 0 <;> cases cndX f <;> rfl
theorem okF_conv {f:Int} (hf:f ∈ formsX) (nm:List UInt8) (op:Option (List Int)) (dg rx a b c d:Int):okF (conv (nm,f,op,dg,rx)) a b c d=okX f a b c d:=by
 rw [okX_eq]
 simp only [formsX,List.mem_cons,List.not_mem_nil,or_false] at hf
 rcases hf with rfl | rfl | rfl | rfl | rfl | rfl | rfl | rfl | rfl | rfl | rfl | rfl | rfl | rfl | rfl | rfl <;> rfl
theorem chk_form:∀ f ∈ formsX,∀ (nm:List UInt8) (op:Option (List Int)) (dg rx:Int) (i:InsT),i64r i.2.2.2.2.2=true→chkX f i.2.1 i.2.2.1 i.2.2.2.1 i.2.2.2.2.1 i.2.2.2.2.2=faultyF (conv (nm,f,op,dg,rx)) i:=by
 intro f hf nm op dg rx i hn
 unfold chkX
 have h63:(decide (0≤i.2.2.2.2.2) && decide (i.2.2.2.2.2≤63))=(!decide (i.2.2.2.2.2<0) && !decide (63<i.2.2.2.2.2)):=by
  by_cases h0:0≤i.2.2.2.2.2
  ·rw [decide_eq_true h0,decide_eq_false (show ¬ i.2.2.2.2.2<0 by omega)]
   by_cases h1:i.2.2.2.2.2≤63
   ·rw [decide_eq_true h1,decide_eq_false (show ¬ 63<i.2.2.2.2.2 by omega)]
    rfl
   ·rw [decide_eq_false h1,decide_eq_true (show 63<i.2.2.2.2.2 by omega)]
    rfl
  ·rw [decide_eq_false h0,decide_eq_true (show i.2.2.2.2.2<0 by omega)]
   rfl
 have hw:cond (decide (i.2.2.2.2.2 < -9223372036854775808)) (3:Int) (cond (decide (9223372036854775807<i.2.2.2.2.2)) 3 0)=0:=by
  unfold i64r at hn
  simp only [Bool.and_eq_true,decide_eq_true_eq] at hn
  rw [decide_eq_false (by omega),decide_eq_false (by omega)]
  rfl
 unfold numX
 rw [longX_eq',shortX_eq',h63]
 unfold faultyF tailF
 rw [okF_conv hf]
 generalize okX f i.2.1 i.2.2.1 i.2.2.2.1 i.2.2.2.2.1=o
 cases o
 ·rfl
 simp only [formsX,List.mem_cons,List.not_mem_nil,or_false] at hf
 rcases hf with rfl | rfl | rfl | rfl | rfl | rfl | rfl | rfl | rfl | rfl | rfl | rfl | rfl | rfl | rfl | rfl
 all_goals
  first
   | rfl
   | exact hw.symm
   | exact range_eq _ _ _
theorem check_eq {i:InsT} (hn:i64r i.2.2.2.2.2=true):checkX i=encE i:=by
 unfold checkX encE
 rw [fok_eq]
 cases hf:fokX i.1
 ·rfl
 ·obtain ⟨h1,h2⟩:=frow_eq hf
  obtain ⟨op,ho,hm⟩:=row_op h2
  rw [h1]
  exact chk_form _ hm (frowX i.1).1 (frowX i.1).2.2.1 (frowX i.1).2.2.2.1 (frowX i.1).2.2.2.2 i hn
end Go.Amd

namespace Go.Amd
open Go Go.Ab Go.Proofs
noncomputable def cxB:Cx:={ P:=Tryz.prog,n:=Tryz.f9.ntmps,tab:=(runT 6).tab,mtab:=(11,runM) :: (runT 6).mtab,rtab:=(runT 6).rtab,refs:=[],keeps:=[0,1,2,3,4,7],nums:=(runT 6).nums }
theorem cxB_ok:CxOk cxB:=⟨(runT_ok 6).1,.cons runM_ok (runT_ok 6).2.1,(runT_ok 6).2.2.1,(runT_ok 6).2.2.2⟩
noncomputable abbrev B10:Code:=bodyOf Tryz.f9
noncomputable def bgOps3:Array Oper:=regOps (c1 (tailN 3 B10))
noncomputable def bgOps4:Array Oper:=regOps (c1 (tailN 4 B10))
theorem bg_eq3:tailN 3 B10 = .seq (.region 4 bgOps3 true) (tailN 4 B10):=by kernel_rfl
theorem bg_eq4:tailN 4 B10 = .seq (.region 5 bgOps4 true) (tailN 5 B10):=by kernel_rfl
def cpuL (pc:Int) (x:List Int) (z n c v:Bool) (th:Int):List V:=(.int .u64 pc :: x.map (V.int .u64))++[.bool z,.bool n,.bool c,.bool v,.int .u64 th]
def bgC:O:=.cells (cpuL 0 (9223372036854775808 :: 0 :: 0 :: 9223372036854775808 :: List.replicate 28 0) false false false false 0) 26
def bgD:O:=.cells (cpuL 3 (0 :: 0 :: 0 :: 9223372036854775808 :: List.replicate 28 0) true false true true 0) 26
theorem bg_head:(dcode cxB (headN 3 B10) (initT 0 []) []).run.map (fun s=>(s.1,keep [1] s.2.1,s.2.2))=some (.normal,[(1,.ptr 0 0)],[bgC]):=by kernel_rfl
theorem bg_r3:(allOrds cxB bgOps3 ([(1,.ptr 0 0)],[bgC])).map (fun l=>l.map fun s=>dropS 1 (ordK [2] s.1) (.normal,keep [1,2,3,4] s.1,s.2)) =
  some (List.replicate 7 (some (.normal,[(1,.ptr 0 0),(2,.ptr 1 0),(3,.int .i64 0),(4,.int .i64 0)],[bgC,bgD]))):=by kernel_rfl
theorem bg_r4:(allOrds cxB bgOps4 ([(1,.ptr 0 0),(2,.ptr 1 0),(3,.int .i64 0),(4,.int .i64 0)],[bgC,bgD])).map (fun l=>l.map fun s=>dropS 2 (ordK [] s.1) (.normal,keep [2,3,4,7] s.1,s.2)) =
  some (List.replicate 7 (some (.normal,[(2,.ptr 1 0),(3,.int .i64 0),(4,.int .i64 0),(7,.int .i64 21)],[bgC,bgD]))):=by kernel_rfl
theorem bg_tail:((dcode cxB (tailN 5 B10) [(2,.ptr 1 0),(3,.int .i64 0),(4,.int .i64 0),(7,.int .i64 21)] [bgC,bgD]).bind (answer Tryz.prog Tryz.f9.results.toList)).run=some (.bool true):=by kernel_rfl
def begunS:Ab.Spec:=fun args=>match args with
 | []=>.leaf (.bool true)
 | _=>.fail
theorem begunS_ok:Sound Tryz.prog 9 begunS:=by
 intro args out h
 unfold begunS at h
 split at h
 rotate_left
 ·cases h
 cases h
 refine pcall_of' (c:=B10) (fn:=Tryz.f9) (by kernel_rfl) (by kernel_rfl) (by kernel_rfl) (by kernel_rfl) ?_
 refine AWP_headK (cx:=cxB) rfl rfl cxB_ok 3 [1] (by kernel_rfl) bg_head ?_
 rw [bg_eq3]
 refine AWP_seq (AWP_ordersPK (cx:=cxB) [2] [1,2,3,4] 7 rfl rfl cxB_ok bg_r3 ?_)
 show AWP _ _ _ _ _ _
 rw [bg_eq4]
 refine AWP_seq (AWP_ordersPK (cx:=cxB) [] [2,3,4,7] 7 rfl rfl cxB_ok bg_r4 ?_)
 show AWP _ _ _ _ _ _
 obtain ⟨s,h1,h2⟩:=bind_run bg_tail
 refine AWP_run (cx:=cxB) rfl rfl cxB_ok h1 ?_
 obtain ⟨e,t,H⟩:=s
 unfold answer at h2
 split at h2
 ·rename_i heq
  cases heq
  split at h2
  ·rename_i v hv
   cases h2
   exact ⟨.inl rfl,hv⟩
  ·cases h2
 ·rename_i heq
  cases heq
  split at h2
  ·rename_i v hv
   cases h2
   exact ⟨.inr rfl,hv⟩
  ·cases h2
 ·cases h2
end Go.Amd
