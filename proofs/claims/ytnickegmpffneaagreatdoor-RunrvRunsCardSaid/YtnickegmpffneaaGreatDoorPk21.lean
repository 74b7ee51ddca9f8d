/-
  compact: what the document reads in a word. Conditions: none.
-/
import Derived.Test.YtnickegmpffneaaGreatDoorCm28
import Derived.Test.YtnickegmpffneaaGreatDoorPk18
import Derived.Test.YtnickegmpffneaaGreatDoorPk19
set_option linter.unusedVariables false
set_option linter.unusedSimpArgs false
namespace Go.Cmp
open Go Go.Ab Go.Proofs
noncomputable def cxReX:Cx:={ P:=Tryz.prog,n:=116,tab:=(hasA 1).tab,mtab:=[],refs:=[16],keeps:=[0,1,2,4,5,6,7,8,9,10,11,12,18,37,55,69,71,79,96],fuel:=18 }
theorem cxReX_ok:CxOk cxReX:=cx1_ok (deep_ok (tabs_ok (.nil _) (fun p h=>by cases h)) hasA_ps_ok hasA_ms_ok 1).1 (fun p h=>by cases h) rfl rfl
def bitK (w:Int) (k:Nat):Int:=i64 (and16 (Int.fdiv w (2 ^ (15 - k))) 1)
def dbl (r w:Int) (k:Nat):Int:=i64 (i64 (2*r)+bitK w k)
def redX (w:Int):List UInt8→Nat→Int→Int→Int→Int→Int→Int × Int × Int × Int × Int
 | [],_,a,b,c,n,top=>(a,b,c,n,top)
 | ch :: r,k,a,b,c,n,top =>
  cond (ch == 97) (redX w r (k+1) (dbl a w k) b c n top)
  (cond (ch == 98) (redX w r (k+1) a (dbl b w k) c n top)
  (cond (ch == 99) (redX w r (k+1) a b (dbl c w k) n top)
  (cond (Nat.ble 65 ch.toNat && Nat.ble ch.toNat 76) (redX w r (k+1) a b c (or64 n (i64 (bitK w k*2 ^ (ch.toNat - 65)))) (max top (ch.toNat - 65)))
  (redX w r (k+1) a b c n top))))
def upX (y:TabT) (ch:UInt8) (r:Int):Int:=cond (y.2.2.2.1 && y.2.2.1.contains ch) (i64 (r+8)) r
def rdX1 (y:TabT) (q:Int × Int × Int × Int × Int):Option V:=
 let m (n:Int):Option V:=some (insV (y.1,upX y 65 q.1,upX y 66 q.2.1,upX y 67 q.2.2.1,0,n))
 cond (decide (y.2.2.2.2.1<0)) (cond (decide (i64 (1*2 ^ q.2.2.2.2.toNat)≤q.2.2.2.1)) (m (i64 (q.2.2.2.1 - i64 (2*2 ^ q.2.2.2.2.toNat)))) (m q.2.2.2.1)) (m q.2.2.2.1)
noncomputable def reR (p:RowT × TabT) (w:Int):Option V:=(dfun cxReX Tryz.f105 [.agg (tabLV p.2),.int .u16 w]).fin
def reO (p:RowT × TabT) (w:Int):Option V:=rdX1 p.2 (redX w p.2.2.1 0 0 0 0 0 0)
end Go.Cmp

namespace Go.Cmp
open Go Go.Ab
def bt (n:Int) (k:Nat):Int:=n / 2 ^ k % 2
theorem bt_rng (n:Int) (k:Nat):0≤bt n k∧bt n k≤1:=by
 unfold bt
 generalize n / 2 ^ k=q
 omega
theorem bt_top (n:Int) (m:Nat):n % 2 ^ (m+1)=bt n m*2 ^ m+n % 2 ^ m:=by
 have p:=pow_pos' m
 have h1:=Int.mul_ediv_add_emod n (2 ^ m)
 have h2:=Int.mul_ediv_add_emod (n / 2 ^ m) 2
 obtain ⟨b0,b1⟩:=bt_rng n m
 have r0:=Int.emod_nonneg n (Int.ne_of_gt p)
 have r1:=Int.emod_lt_of_pos n p
 have hb:bt n m=n / 2 ^ m % 2:=rfl
 rw [← hb] at h2
 generalize bt n m=b at *
 generalize n % 2 ^ m=r at *
 generalize n / 2 ^ m=q at *
 generalize q / 2=s at *
 rw [Int.pow_succ]
 generalize (2:Int) ^ m=P at *
 have e:n=(b*P+r)+(P*2)*s:=by
  rw [← h1,← h2,Int.mul_add,Int.mul_comm P b,Int.mul_assoc P 2 s]
  omega
 have hb2:0≤b*P:=Int.mul_nonneg b0 (Int.le_of_lt p)
 have hb3:b*P≤1*P:=Int.mul_le_mul_of_nonneg_right b1 (Int.le_of_lt p)
 rw [e,Int.add_mul_emod_self_left,Int.emod_eq_of_lt (by omega) (by omega)]
theorem up_eq (w v:Int) (m:Nat):(2*w+bt v m)*2 ^ m+v % 2 ^ m=w*2 ^ (m+1)+v % 2 ^ (m+1):=by
 rw [bt_top,Int.add_mul,Int.pow_succ]
 have:2*w*2 ^ m=w*(2 ^ m*2):=by rw [Int.mul_comm 2 w,Int.mul_assoc,Int.mul_comm 2]
 omega
theorem stepW_eq {w b:Int} (h0:0≤w) (h1:w<32768) (b0:0≤b) (b1:b≤1):stepW w b=2*w+b:=by
 unfold stepW u16
 rw [wrap_u16,wrap_u16,wrap_u16]
 omega
theorem step_room {w b:Int} {m:Nat} (h0:0≤w) (h1:(w+1)*2 ^ (m+1)≤65536) (b0:0≤b) (b1:b≤1):w<32768∧(2*w+b+1)*2 ^ m≤65536:=by
 have p:=pow_pos' m
 rw [Int.pow_succ] at h1
 have e:(w+1)*(2 ^ m*2)=(2*w+2)*2 ^ m:=by
  rw [Int.mul_comm ((2:Int) ^ m) 2,← Int.mul_assoc,Int.add_mul,Int.mul_comm w 2]
  rfl
 rw [e] at h1
 have h2:(2*w+b+1)*2 ^ m≤(2*w+2)*2 ^ m:=Int.mul_le_mul_of_nonneg_right (by omega) (Int.le_of_lt p)
 have h3:(2*w+2)*1≤(2*w+2)*2 ^ m:=Int.mul_le_mul_of_nonneg_left (by omega) (by omega)
 omega
theorem wrap_u64 (n:Int):IntKind.wrap .u64 n=n % 18446744073709551616:=by
 simp [IntKind.wrap,IntKind.bits,IntKind.signed]
theorem and_one (x:Int):((BitVec.toNat (BitVec.ofInt 64 x &&& BitVec.ofInt 64 1):Nat):Int)=x % 2:=by
 rw [BitVec.toNat_and,BitVec.toNat_ofInt,show (BitVec.ofInt 64 1).toNat=1 from rfl,Nat.and_one_is_mod]
 omega
theorem and64_one (x:Int):and64 x 1=x % 2:=by
 unfold and64
 rw [and_one,wrap_i64 (by omega) (by omega)]
theorem andU_one (x:Int):andU64 x 1=x % 2:=by
 unfold andU64
 rw [and_one,wrap_u64]
 omega
theorem bitR_long (n:Int) (k:Nat):bitR false n k=bt n k:=by
 unfold bitR bt
 rw [cond_false,and64_one,Int.fdiv_eq_ediv_of_nonneg _ (Int.le_of_lt (pow_pos' _))]
theorem bitR_short {n:Int} {k:Nat} (h1:8≤n) (h2:n≤15) (hk:k<3):bitR true n k=bt n k:=by
 unfold bitR bt
 rw [cond_true,and64_one,Int.fdiv_eq_ediv_of_nonneg _ (Int.le_of_lt (pow_pos' _)),i64_of (by omega) (by omega)]
 match k,hk with
 | 0,_=>omega
 | 1,_=>omega
 | 2,_=>omega
theorem bitI_eq (n:Int) {k:Nat} (hk:k<12):bitI n k=bt n k:=by
 unfold bitI bt
 rw [andU_one,Int.fdiv_eq_ediv_of_nonneg _ (Int.le_of_lt (pow_pos' _)),wrap_u64]
 unfold i64
 rw [wrap_i64 (by omega) (by omega)]
 match k,hk with
 | 0,_=>omega
 | 1,_=>omega
 | 2,_=>omega
 | 3,_=>omega
 | 4,_=>omega
 | 5,_=>omega
 | 6,_=>omega
 | 7,_=>omega
 | 8,_=>omega
 | 9,_=>omega
 | 10,_=>omega
 | 11,_=>omega
def ltS (low:Nat):Nat→List UInt8
 | 0=>[]
 | m+1=>UInt8.ofNat (65+(low+m)) :: ltS low m
def ltG (v:Nat):Nat→List UInt8
 | 0=>[]
 | m+1=>UInt8.ofNat (48+v / 2 ^ m % 2) :: ltG v m
def letF (f:FldT):List UInt8:=
 cond (f.2.1 == 0) (ltG f.2.2.1.toNat (wd f)) (cond (f.2.1 == 115) (ltS f.2.2.2.1.toNat (wd f)) (List.replicate (wd f) (UInt8.ofNat f.2.1.toNat)))
def kOk (s:Bool) (f:FldT):Bool:=
 (f.2.1 == 0) || ((f.2.1 == 115 && Nat.ble (f.2.2.2.1.toNat+wd f) 12) || ((f.2.1 == 97 || (f.2.1 == 98 || f.2.1 == 99)) && (f.2.2.2.2 == s && wd f == cond s 3 5)))
def fine3 (p:RowT × List FldT × TabT):Bool:=p.2.1.flatMap letF == p.2.2.2.1 && p.2.1.all (kOk p.2.2.2.2.2.1)
def pairs3:List (RowT × List FldT × TabT):=rowsL.zip ((fldL.map (·.2)).zip tabL)
theorem pairs3_eq:(rowsL.map fun x=>(x,flds x,tabs x))=pairs3:=by kernel_rfl
theorem fine3_all:pairs3.all fine3=true:=by kernel_rfl
theorem row_let {x:RowT} (hx:x ∈ rowsL):(flds x).flatMap letF=(tabs x).2.1∧(flds x).all (kOk (tabs x).2.2.2.1)=true:=by
 have hm:(x,flds x,tabs x) ∈ pairs3:=by
  rw [← pairs3_eq]
  exact List.mem_map_of_mem hx
 have h:=List.all_eq_true.1 fine3_all _ hm
 unfold fine3 at h
 rw [Bool.and_eq_true] at h
 exact ⟨eq_of_beq h.1,h.2⟩
section
variable (s:Bool) (a b c n:Int) (r:List UInt8)
abbrev szR (s:Bool):Nat:=cond s 3 5
theorem wx_a (hb:∀ k,k<szR s→bitR s a k=bt a k) (sb sc:Nat):∀ (m:Nat) (w:Int),m≤szR s→0≤w→(w+1)*2 ^ m≤65536 →
  wordX s a b c n (List.replicate m 97++r) w (szR s - m) sb sc=wordX s a b c n r (w*2 ^ m+a % 2 ^ m) (szR s) sb sc
 | 0,w,_,_,_=>by
  rw [show w*2 ^ 0+a % 2 ^ 0=w by omega]
  rfl
 | m+1,w,hm,h0,h1=>by
  obtain ⟨b0,b1⟩:=bt_rng a m
  obtain ⟨g1,g2⟩:=step_room h0 h1 b0 b1
  show wordX s a b c n (List.replicate m 97++r) (stepW w (bitR s a (szR s - 1 - (szR s - (m+1))))) (szR s - (m+1)+1) sb sc=_
  rw [show szR s - 1 - (szR s - (m+1))=m by omega,show szR s - (m+1)+1=szR s - m by omega,hb m (by omega),stepW_eq h0 g1 b0 b1,
   wx_a hb sb sc m _ (by omega) (by omega) g2,up_eq]
theorem wx_b (hb:∀ k,k<szR s→bitR s b k=bt b k) (sa sc:Nat):∀ (m:Nat) (w:Int),m≤szR s→0≤w→(w+1)*2 ^ m≤65536 →
  wordX s a b c n (List.replicate m 98++r) w sa (szR s - m) sc=wordX s a b c n r (w*2 ^ m+b % 2 ^ m) sa (szR s) sc
 | 0,w,_,_,_=>by
  rw [show w*2 ^ 0+b % 2 ^ 0=w by omega]
  rfl
 | m+1,w,hm,h0,h1=>by
  obtain ⟨b0,b1⟩:=bt_rng b m
  obtain ⟨g1,g2⟩:=step_room h0 h1 b0 b1
  show wordX s a b c n (List.replicate m 98++r) (stepW w (bitR s b (szR s - 1 - (szR s - (m+1))))) sa (szR s - (m+1)+1) sc=_
  rw [show szR s - 1 - (szR s - (m+1))=m by omega,show szR s - (m+1)+1=szR s - m by omega,hb m (by omega),stepW_eq h0 g1 b0 b1,
   wx_b hb sa sc m _ (by omega) (by omega) g2,up_eq]
theorem wx_c (hb:∀ k,k<szR s→bitR s c k=bt c k) (sa sb:Nat):∀ (m:Nat) (w:Int),m≤szR s→0≤w→(w+1)*2 ^ m≤65536 →
  wordX s a b c n (List.replicate m 99++r) w sa sb (szR s - m)=wordX s a b c n r (w*2 ^ m+c % 2 ^ m) sa sb (szR s)
 | 0,w,_,_,_=>by
  rw [show w*2 ^ 0+c % 2 ^ 0=w by omega]
  rfl
 | m+1,w,hm,h0,h1=>by
  obtain ⟨b0,b1⟩:=bt_rng c m
  obtain ⟨g1,g2⟩:=step_room h0 h1 b0 b1
  show wordX s a b c n (List.replicate m 99++r) (stepW w (bitR s c (szR s - 1 - (szR s - (m+1))))) sa sb (szR s - (m+1)+1)=_
  rw [show szR s - 1 - (szR s - (m+1))=m by omega,show szR s - (m+1)+1=szR s - m by omega,hb m (by omega),stepW_eq h0 g1 b0 b1,
   wx_c hb sa sb m _ (by omega) (by omega) g2,up_eq]
variable (sa sb sc:Nat)
theorem wx_let {j:Nat} (hj:j<12) (w:Int):wordX s a b c n (UInt8.ofNat (65+j) :: r) w sa sb sc=wordX s a b c n r (stepW w (bitI n j)) sa sb sc:=
 match j,hj with
 | 0,_=>rfl
 | 1,_=>rfl
 | 2,_=>rfl
 | 3,_=>rfl
 | 4,_=>rfl
 | 5,_=>rfl
 | 6,_=>rfl
 | 7,_=>rfl
 | 8,_=>rfl
 | 9,_=>rfl
 | 10,_=>rfl
 | 11,_=>rfl
theorem wx_s (low:Nat):∀ (m:Nat) (w:Int),low+m≤12→0≤w→(w+1)*2 ^ m≤65536 →
  wordX s a b c n (ltS low m++r) w sa sb sc=wordX s a b c n r (w*2 ^ m+n / 2 ^ low % 2 ^ m) sa sb sc
 | 0,w,_,_,_=>by
  rw [show w*2 ^ 0+n / 2 ^ low % 2 ^ 0=w by omega]
  rfl
 | m+1,w,hm,h0,h1=>by
  obtain ⟨b0,b1⟩:=bt_rng (n / 2 ^ low) m
  obtain ⟨g1,g2⟩:=step_room h0 h1 b0 b1
  have e:bt n (low+m)=bt (n / 2 ^ low) m:=by
   unfold bt
   rw [Nat.add_comm,div_pow]
  show wordX s a b c n (UInt8.ofNat (65+(low+m)) :: (ltS low m++r)) w sa sb sc=_
  rw [wx_let s a b c n _ sa sb sc (by omega),bitI_eq n (by omega),e,stepW_eq h0 g1 b0 b1,wx_s low m _ (by omega) (by omega) g2,up_eq]
theorem wx_g (v:Nat):∀ (m:Nat) (w:Int),0≤w→(w+1)*2 ^ m≤65536 →
  wordX s a b c n (ltG v m++r) w sa sb sc=wordX s a b c n r (w*2 ^ m+(v:Int) % 2 ^ m) sa sb sc
 | 0,w,_,_=>by
  rw [show w*2 ^ 0+(v:Int) % 2 ^ 0=w by omega]
  rfl
 | m+1,w,h0,h1=>by
  obtain ⟨b0,b1⟩:=bt_rng (v:Int) m
  obtain ⟨g1,g2⟩:=step_room h0 h1 b0 b1
  have e:((v / 2 ^ m % 2:Nat):Int)=bt v m:=by
   unfold bt
   simp
  have hs:wordX s a b c n (UInt8.ofNat (48+v / 2 ^ m % 2) :: (ltG v m++r)) w sa sb sc=wordX s a b c n (ltG v m++r) (stepW w (bt v m)) sa sb sc:=by
   rw [← e]
   have:v / 2 ^ m % 2=0∨v / 2 ^ m % 2=1:=by omega
   rcases this with h | h <;> rw [h] <;> rfl
  show wordX s a b c n (UInt8.ofNat (48+v / 2 ^ m % 2) :: (ltG v m++r)) w sa sb sc=_
  rw [hs,stepW_eq h0 g1 b0 b1,wx_g v m _ (by omega) g2,up_eq]
end
def cnt (c:Int) (fs:List FldT):Nat:=(fs.filter fun f=>f.2.1 == c).length
theorem cnt_cons (c:Int) (f:FldT) (r:List FldT):cnt c (f :: r)=cond (f.2.1 == c) 1 0+cnt c r:=by
 unfold cnt
 rw [List.filter_cons]
 cases h:(f.2.1 == c)
 ·simp
 ·simp [Nat.add_comm]
theorem room_of {w:Int} {k m:Nat} (h1:w<2 ^ k) (hk:k+m≤16):(w+1)*2 ^ m≤65536∧(w*2 ^ m+2 ^ m≤2 ^ (k+m)):=by
 have p:=pow_pos' m
 have h2:(w+1)*2 ^ m≤2 ^ k*2 ^ m:=Int.mul_le_mul_of_nonneg_right (by omega) (Int.le_of_lt p)
 rw [← Int.pow_add] at h2
 have a3:(2:Int) ^ (k+m)≤2 ^ 16:=by
  have:=Nat.pow_le_pow_right (n:=2) (by omega) hk
  have e:∀ j:Nat,((2:Int) ^ j)=((2 ^ j:Nat):Int):=fun j=>by simp
  rw [e,e]
  omega
 refine ⟨Int.le_trans h2 a3,?_⟩
 rw [Int.add_mul,Int.one_mul] at h2
 exact h2
theorem wx_fields (s:Bool) (i:InsT):∀ (fs:List FldT) (w:Int) (k sa sb sc:Nat),fs.all fOk=true→fs.all (kOk s)=true→0≤w→w<2 ^ k→k+sumB fs≤16 →
  (cnt 97 fs ≠ 0→cnt 97 fs≤1∧sa=0 ∧ ∀ k,k<szR s→bitR s i.2.1 k=bt i.2.1 k)→(cnt 98 fs ≠ 0→cnt 98 fs≤1∧sb=0 ∧ ∀ k,k<szR s→bitR s i.2.2.1 k=bt i.2.2.1 k) →
  (cnt 99 fs ≠ 0→cnt 99 fs≤1∧sc=0 ∧ ∀ k,k<szR s→bitR s i.2.2.2.1 k=bt i.2.2.2.1 k) →
  wordX s i.2.1 i.2.2.1 i.2.2.2.1 i.2.2.2.2.2 (fs.flatMap letF) w sa sb sc=catF fs (fs.map fun f=>valF f i) w
 | [],w,k,sa,sb,sc,_,_,_,_,_,_,_,_=>rfl
 | f :: r,w,k,sa,sb,sc,hf,hk,h0,h1,hs,ha,hb,hc=>by
  rw [List.all_cons,Bool.and_eq_true] at hf hk
  have hsum:sumB (f :: r)=wd f+sumB r:=rfl
  obtain ⟨r1,r2⟩:=room_of (m:=wd f) h1 (by omega)
  obtain ⟨v0,v1⟩:=valF_rng hf.1 i
  have p:=pow_pos' (wd f)
  have n0:0≤w*2 ^ wd f+valF f i:=by
   have:=Int.mul_nonneg h0 (Int.le_of_lt p)
   omega
  have hval:=valF_of hf.1 i
  rw [cnt_cons] at ha hb hc
  rw [List.flatMap_cons]
  show _=catF r (r.map fun f=>valF f i) (w*2 ^ wd f+valF f i)
  have next:=fun sa sb sc ha hb hc=>wx_fields s i r (w*2 ^ wd f+valF f i) (k+wd f) sa sb sc hf.2 hk.2 n0 (by omega) (by omega) ha hb hc
  obtain ⟨_,g1,g2⟩:=fOk_spec hf.1
  have kk:=hk.1
  unfold kOk at kk
  generalize r.flatMap letF=T at next ⊢
  unfold letF
  by_cases e0:f.2.1=0
  ·rw [show (f.2.1 == 0)=true from beq_iff_eq.2 e0,cond_true] at hval
   rw [show (f.2.1 == 0)=true from beq_iff_eq.2 e0,cond_true,wx_g _ _ _ _ _ _ _ _ _ _ _ w h0 r1]
   have hv:((f.2.2.1.toNat:Nat):Int) % 2 ^ wd f=valF f i:=by
    rw [hval,Int.toNat_of_nonneg g1,Int.emod_eq_of_lt g1 g2]
   rw [hv]
   rw [e0] at ha hb hc
   refine next sa sb sc (fun h=>?_) (fun h=>?_) (fun h=>?_)
   ·have:=ha (by simpa using h); simpa using this
   ·have:=hb (by simpa using h); simpa using this
   ·have:=hc (by simpa using h); simpa using this
  rw [show (f.2.1 == 0)=false from beq_eq_false_iff_ne.2 e0] at hval kk ⊢
  rw [cond_false] at hval ⊢
  by_cases e1:f.2.1=115
  ·rw [show (f.2.1 == 115)=true from beq_iff_eq.2 e1,cond_true]
   rw [e1] at kk
   have hlow:f.2.2.2.1.toNat+wd f≤12:=by simpa using kk
   rw [wx_s _ _ _ _ _ _ _ _ _ _ _ w hlow h0 r1]
   have hv:i.2.2.2.2.2 / 2 ^ f.2.2.2.1.toNat % 2 ^ wd f=valF f i:=by
    rw [hval]
    unfold srcF
    rw [e1,show ((115:Int) == 97)=false from rfl,show ((115:Int) == 98)=false from rfl,show ((115:Int) == 99)=false from rfl,cond_false,cond_false,cond_false,
     Nat.min_eq_left (by omega),Int.fdiv_eq_ediv_of_nonneg _ (Int.le_of_lt (pow_pos' _))]
   rw [hv]
   rw [e1] at ha hb hc
   refine next sa sb sc (fun h=>?_) (fun h=>?_) (fun h=>?_)
   ·have:=ha (by simpa using h); simpa using this
   ·have:=hb (by simpa using h); simpa using this
   ·have:=hc (by simpa using h); simpa using this
  rw [show (f.2.1 == 115)=false from beq_eq_false_iff_ne.2 e1] at kk ⊢
  rw [cond_false]
  simp only [Bool.false_and,Bool.false_or,Bool.and_eq_true,Bool.or_eq_true,beq_iff_eq] at kk
  obtain ⟨kk,k1,k2⟩:=kk
  have hw:wd f=szR s:=k2
  rcases kk with e | e | e
  ·rw [e] at ha hb hc
   obtain ⟨c1,c2,c3⟩:=ha (by simp)
   have c4:cnt 97 r=0:=by simp at c1; omega
   rw [e,show UInt8.ofNat ((97:Int).toNat)=97 from rfl,hw,c2]
   rw [hw] at r1
   have:=wx_a s i.2.1 i.2.2.1 i.2.2.2.1 i.2.2.2.2.2 T c3 sb sc (szR s) w (Nat.le_refl _) h0 r1
   rw [Nat.sub_self] at this
   rw [this]
   have hv:i.2.1 % 2 ^ szR s=valF f i:=by
    rw [hval,hw]
    unfold srcF
    rw [e,show ((97:Int) == 97)=true from rfl,cond_true]
   rw [hw] at next
   rw [hv]
   refine next (szR s) sb sc (fun h=>?_) (fun h=>?_) (fun h=>?_)
   ·exact absurd c4 h
   ·have:=hb (by simpa using h); simpa using this
   ·have:=hc (by simpa using h); simpa using this
  ·rw [e] at ha hb hc
   obtain ⟨c1,c2,c3⟩:=hb (by simp)
   have c4:cnt 98 r=0:=by simp at c1; omega
   rw [e,show UInt8.ofNat ((98:Int).toNat)=98 from rfl,hw,c2]
   rw [hw] at r1
   have:=wx_b s i.2.1 i.2.2.1 i.2.2.2.1 i.2.2.2.2.2 T c3 sa sc (szR s) w (Nat.le_refl _) h0 r1
   rw [Nat.sub_self] at this
   rw [this]
   have hv:i.2.2.1 % 2 ^ szR s=valF f i:=by
    rw [hval,hw]
    unfold srcF
    rw [e,show ((98:Int) == 97)=false from rfl,show ((98:Int) == 98)=true from rfl,cond_false,cond_true]
   rw [hw] at next
   rw [hv]
   refine next sa (szR s) sc (fun h=>?_) (fun h=>?_) (fun h=>?_)
   ·have:=ha (by simpa using h); simpa using this
   ·exact absurd c4 h
   ·have:=hc (by simpa using h); simpa using this
  ·rw [e] at ha hb hc
   obtain ⟨c1,c2,c3⟩:=hc (by simp)
   have c4:cnt 99 r=0:=by simp at c1; omega
   rw [e,show UInt8.ofNat ((99:Int).toNat)=99 from rfl,hw,c2]
   rw [hw] at r1
   have:=wx_c s i.2.1 i.2.2.1 i.2.2.2.1 i.2.2.2.2.2 T c3 sa sb (szR s) w (Nat.le_refl _) h0 r1
   rw [Nat.sub_self] at this
   rw [this]
   have hv:i.2.2.2.1 % 2 ^ szR s=valF f i:=by
    rw [hval,hw]
    unfold srcF
    rw [e,show ((99:Int) == 97)=false from rfl,show ((99:Int) == 98)=false from rfl,show ((99:Int) == 99)=true from rfl,cond_false,cond_false,cond_true]
   rw [hw] at next
   rw [hv]
   refine next sa sb (szR s) (fun h=>?_) (fun h=>?_) (fun h=>?_)
   ·have:=ha (by simpa using h); simpa using this
   ·have:=hb (by simpa using h); simpa using this
   ·exact absurd c4 h
theorem cnt_has {x:RowT} {c:Int} (h:cnt c (flds x) ≠ 0):(hasF x c).2=true:=by
 rw [hasF_any]
 cases hh:(flds x).any fun f=>f.2.1 == c
 ·exfalso
  refine h ?_
  unfold cnt
  rw [List.length_eq_zero_iff,List.filter_eq_nil_iff]
  exact List.any_eq_false.1 hh
 ·rfl
theorem tab_short {x:RowT} (hx:x ∈ rowsL) {c:Int} (hc:c=97∨c=98∨c=99) (h:(hasF x c).2=true):(hasF x c).1=(tabs x).2.2.2.1:=by
 rw [hasF_any,List.any_eq_true] at h
 obtain ⟨f,hf,he⟩:=h
 have he:=eq_of_beq he
 have h1:=((row_ch hx hc).1 f hf he).1
 have h2:=List.all_eq_true.1 (row_let hx).2 f hf
 unfold kOk at h2
 rw [← h1]
 rcases hc with rfl | rfl | rfl <;> rw [he] at h2 <;> simp at h2 <;> exact h2.1
theorem reg_bits {x:RowT} (hx:x ∈ rowsL) {c n:Int} (hc:c=97∨c=98∨c=99) (hr:regF x c n=true) (h:cnt c (flds x) ≠ 0):cnt c (flds x)≤1∧0=0 ∧ ∀ k,k<szR (tabs x).2.2.2.1→bitR (tabs x).2.2.2.1 n k=bt n k:=by
 refine ⟨(row_ch hx hc).2,rfl,fun k hk=>?_⟩
 have h2:=cnt_has h
 have h3:=tab_short hx hc h2
 unfold regF at hr
 rw [h2,cond_true,h3] at hr
 cases hs:(tabs x).2.2.2.1
 ·exact bitR_long n k
 ·rw [hs,cond_true] at hr
  rw [hs] at hk
  simp only [Bool.and_eq_true,decide_eq_true_eq] at hr
  exact bitR_short hr.1 hr.2 hk
theorem wdX_eq {x:RowT} (hx:x ∈ rowsL) {i:InsT} (h:faultyF x i=0):wdX (tabs x) i.2.1 i.2.2.1 i.2.2.2.1 i.2.2.2.2.2=encW x i:=by
 obtain ⟨h1,h2,h3,_⟩:=faulty_parts h
 obtain ⟨f1,f2⟩:=row_fine hx
 obtain ⟨l1,l2⟩:=row_let hx
 rw [encW_cat hx]
 unfold wdX
 rw [← l1]
 exact wx_fields _ i (flds x) 0 0 0 0 0 f1 l2 (by omega) (by decide) (by omega) (reg_bits hx (.inl rfl) h1) (reg_bits hx (.inr (.inl rfl)) h2) (reg_bits hx (.inr (.inr rfl)) h3)
end Go.Cmp

namespace Go.Cmp
open Go Go.Ab
theorem bitK_eq {w:Int} (w0:0≤w) (w1:w<65536) (k:Nat):bitK w k=bt w (15 - k):=by
 unfold bitK
 have e:=bitW_eq w0 w1 (15 - k)
 unfold bitW at e
 rw [e]
 obtain ⟨n,rfl⟩:=Int.eq_ofNat_of_zero_le w0
 unfold bt
 rw [show ((n:Int)).toNat=n from rfl,Nat.testBit_eq_decide_div_mod_eq]
 have e2:((n:Int) / 2 ^ (15 - k) % 2)=((n / 2 ^ (15 - k) % 2:Nat):Int):=by simp
 rw [e2]
 have:n / 2 ^ (15 - k) % 2=0∨n / 2 ^ (15 - k) % 2=1:=by omega
 rcases this with h | h <;> rw [h] <;> rfl
theorem or64_cast {a b:Nat} (ha:a<2 ^ 12) (hb:b<2 ^ 12):or64 (a:Int) (b:Int)=((a ||| b:Nat):Int):=by
 unfold or64
 have hc:∀ m:Nat,m<2 ^ 12→(BitVec.ofInt 64 (m:Int)).toNat=m:=fun m hm=>by
  rw [BitVec.toNat_ofInt]
  omega
 rw [BitVec.toNat_or,hc a ha,hc b hb]
 have:a ||| b<2 ^ 12:=Nat.or_lt_two_pow ha hb
 rw [wrap_i64 (by omega) (by omega)]
theorem dbl_eq {w a:Int} (w0:0≤w) (w1:w<65536) {k:Nat} (h0:0≤a) (h1:a<32768):dbl a w k=2*a+bt w (15 - k):=by
 obtain ⟨b0,b1⟩:=bt_rng w (15 - k)
 unfold dbl
 rw [bitK_eq w0 w1,i64_of (n:=2*a) (by omega) (by omega),i64_of (by omega) (by omega)]
theorem bt_shift (w:Int) (e m:Nat):bt w (e+m)=bt (w / 2 ^ e) m:=by
 unfold bt
 rw [Nat.add_comm,div_pow]
section
variable {w:Int} (w0:0≤w) (w1:w<65536) (r:List UInt8)
include w0 w1 in
theorem rx_a (b c n top:Int) (E:Nat):∀ (m k:Nat) (a:Int),E+m+k=16→0≤a→(a+1)*2 ^ m≤65536 →
  redX w (List.replicate m 97++r) k a b c n top=redX w r (k+m) (a*2 ^ m+w / 2 ^ E % 2 ^ m) b c n top
 | 0,k,a,_,_,_=>by
  rw [show a*2 ^ 0+w / 2 ^ E % 2 ^ 0=a by omega]
  rfl
 | m+1,k,a,hk,h0,h1=>by
  obtain ⟨b0,b1⟩:=bt_rng (w / 2 ^ E) m
  obtain ⟨g1,g2⟩:=step_room h0 h1 b0 b1
  show redX w (List.replicate m 97++r) (k+1) (dbl a w k) b c n top=_
  rw [dbl_eq w0 w1 h0 g1,show 15 - k=E+m by omega,bt_shift,rx_a b c n top E m (k+1) _ (by omega) (by omega) g2,up_eq,show k+1+m=k+(m+1) by omega]
include w0 w1 in
theorem rx_b (a c n top:Int) (E:Nat):∀ (m k:Nat) (b:Int),E+m+k=16→0≤b→(b+1)*2 ^ m≤65536 →
  redX w (List.replicate m 98++r) k a b c n top=redX w r (k+m) a (b*2 ^ m+w / 2 ^ E % 2 ^ m) c n top
 | 0,k,b,_,_,_=>by
  rw [show b*2 ^ 0+w / 2 ^ E % 2 ^ 0=b by omega]
  rfl
 | m+1,k,b,hk,h0,h1=>by
  obtain ⟨b0,b1⟩:=bt_rng (w / 2 ^ E) m
  obtain ⟨g1,g2⟩:=step_room h0 h1 b0 b1
  show redX w (List.replicate m 98++r) (k+1) a (dbl b w k) c n top=_
  rw [dbl_eq w0 w1 h0 g1,show 15 - k=E+m by omega,bt_shift,rx_b a c n top E m (k+1) _ (by omega) (by omega) g2,up_eq,show k+1+m=k+(m+1) by omega]
include w0 w1 in
theorem rx_c (a b n top:Int) (E:Nat):∀ (m k:Nat) (c:Int),E+m+k=16→0≤c→(c+1)*2 ^ m≤65536 →
  redX w (List.replicate m 99++r) k a b c n top=redX w r (k+m) a b (c*2 ^ m+w / 2 ^ E % 2 ^ m) n top
 | 0,k,c,_,_,_=>by
  rw [show c*2 ^ 0+w / 2 ^ E % 2 ^ 0=c by omega]
  rfl
 | m+1,k,c,hk,h0,h1=>by
  obtain ⟨b0,b1⟩:=bt_rng (w / 2 ^ E) m
  obtain ⟨g1,g2⟩:=step_room h0 h1 b0 b1
  show redX w (List.replicate m 99++r) (k+1) a b (dbl c w k) n top=_
  rw [dbl_eq w0 w1 h0 g1,show 15 - k=E+m by omega,bt_shift,rx_c a b n top E m (k+1) _ (by omega) (by omega) g2,up_eq,show k+1+m=k+(m+1) by omega]
omit w1 w0 in
theorem rx_let {j:Nat} (hj:j<12) (k:Nat) (a b c n top:Int):redX w (UInt8.ofNat (65+j) :: r) k a b c n top=redX w r (k+1) a b c (or64 n (i64 (bitK w k*2 ^ j))) (max top (j:Nat)):=
 match j,hj with
 | 0,_=>rfl
 | 1,_=>rfl
 | 2,_=>rfl
 | 3,_=>rfl
 | 4,_=>rfl
 | 5,_=>rfl
 | 6,_=>rfl
 | 7,_=>rfl
 | 8,_=>rfl
 | 9,_=>rfl
 | 10,_=>rfl
 | 11,_=>rfl
theorem or_top {N b R low m:Nat} (hN:N<2 ^ 12) (hb:b≤1) (hR:R<2 ^ m) (hl:low+(m+1)≤12) :
  or64 (or64 (N:Int) ((b*2 ^ (low+m):Nat):Int)) ((R*2 ^ low:Nat):Int)=or64 (N:Int) (((b*2 ^ m+R)*2 ^ low:Nat):Int)∧(N ||| (b*2 ^ (low+m)))<2 ^ 12∧or64 (N:Int) ((b*2 ^ (low+m):Nat):Int)=((N ||| (b*2 ^ (low+m)):Nat):Int):=by
 have p1:2 ^ (low+m)*2≤2 ^ 12:=by
  rw [← Nat.pow_succ]
  exact Nat.pow_le_pow_right (by omega) (by omega)
 have h1:b*2 ^ (low+m)<2 ^ 12:=by
  have:b*2 ^ (low+m)≤1*2 ^ (low+m):=Nat.mul_le_mul_right _ hb
  have:=Nat.two_pow_pos (low+m)
  omega
 have h3:b*2 ^ m+R<2 ^ (m+1):=by
  have:b*2 ^ m≤1*2 ^ m:=Nat.mul_le_mul_right _ hb
  rw [Nat.pow_succ]
  omega
 have pl:=Nat.two_pow_pos low
 have h4:(b*2 ^ m+R)*2 ^ low<2 ^ 12:=by
  have h5:(b*2 ^ m+R)*2 ^ low<2 ^ (m+1)*2 ^ low:=Nat.mul_lt_mul_of_pos_right h3 pl
  rw [← Nat.pow_add] at h5
  exact Nat.lt_of_lt_of_le h5 (Nat.pow_le_pow_right (by omega) (by omega))
 have h2:R*2 ^ low<2 ^ 12:=Nat.lt_of_le_of_lt (Nat.mul_le_mul_right _ (by omega)) h4
 have h6:N ||| b*2 ^ (low+m)<2 ^ 12:=Nat.or_lt_two_pow hN h1
 refine ⟨?_,h6,or64_cast hN h1⟩
 rw [or64_cast hN h1,or64_cast h6 h2,or64_cast hN h4]
 congr 1
 rw [Nat.or_assoc]
 congr 1
 rw [← Nat.shiftLeft_eq R low,← Nat.shiftLeft_eq _ low,← Nat.shiftLeft_eq b m,Nat.shiftLeft_add_eq_or_of_lt hR,Nat.shiftLeft_or_distrib,← Nat.shiftLeft_add,Nat.shiftLeft_eq b,Nat.add_comm m low]
include w0 w1 in
theorem rx_s (a b c:Int) (low E:Nat):∀ (m k N:Nat) (top:Int),low+m≤12→E+m+k=16→N<2 ^ 12 →
  redX w (ltS low m++r) k a b c (N:Int) top=redX w r (k+m) a b c (or64 (N:Int) (i64 (w / 2 ^ E % 2 ^ m*2 ^ low))) (cond (Nat.ble m 0) top (max top ((low+m:Nat) - 1)))
 | 0,k,N,top,_,_,hN=>by
  have e:i64 (w / 2 ^ E % 2 ^ 0*2 ^ low)=((0:Nat):Int):=by
   rw [show w / 2 ^ E % 2 ^ 0=0 by omega,Int.zero_mul]
   rfl
  rw [e,or64_cast hN (by decide),Nat.or_zero]
  rfl
 | m+1,k,N,top,hl,hk,hN=>by
  obtain ⟨b0,b1⟩:=bt_rng (w / 2 ^ E) m
  have p:=pow_pos' m
  have q0:=Int.emod_nonneg (w / 2 ^ E) (Int.ne_of_gt p)
  have q1:=Int.emod_lt_of_pos (w / 2 ^ E) p
  have ht:=bt_top (w / 2 ^ E) m
  have ih:=rx_s a b c low E m (k+1)
  show redX w (UInt8.ofNat (65+(low+m)) :: (ltS low m++r)) k a b c (N:Int) top=_
  rw [rx_let _ (by omega),bitK_eq w0 w1,show 15 - k=E+m by omega,bt_shift,ht]
  obtain ⟨B,hB⟩:=Int.eq_ofNat_of_zero_le b0
  obtain ⟨R,hR⟩:=Int.eq_ofNat_of_zero_le q0
  rw [hB] at b1 ⊢
  rw [hR] at q1 ih ⊢
  have hR1:R<2 ^ m:=by
   have e2:((2:Int) ^ m)=((2 ^ m:Nat):Int):=by simp
   omega
  obtain ⟨o1,o2,o3⟩:=or_top (low:=low) hN (by omega:B≤1) hR1 hl
  have pw:∀ j:Nat,((2:Int) ^ j)=((2 ^ j:Nat):Int):=fun j=>by simp
  have small:∀ {v j:Nat},v<2 ^ j→j+low≤12→i64 ((v:Int)*2 ^ low)=((v*2 ^ low:Nat):Int):=by
   intro v j hv hj
   have h5:v*2 ^ low<2 ^ j*2 ^ low:=Nat.mul_lt_mul_of_pos_right hv (Nat.two_pow_pos low)
   rw [← Nat.pow_add] at h5
   have h6:=Nat.lt_of_lt_of_le h5 (Nat.pow_le_pow_right (n:=2) (by omega) hj)
   rw [pw,show ((v:Int)*((2 ^ low:Nat):Int))=((v*2 ^ low:Nat):Int) by simp,i64_of (by omega) (by omega)]
  have hBm:B*2 ^ (low+m)<2 ^ 12:=by
   have p1:2 ^ (low+m)*2≤2 ^ 12:=by
    rw [← Nat.pow_succ]
    exact Nat.pow_le_pow_right (by omega) (by omega)
   have:B*2 ^ (low+m)≤1*2 ^ (low+m):=Nat.mul_le_mul_right _ (by omega)
   have:=Nat.two_pow_pos (low+m)
   omega
  have e1:i64 ((B:Int)*2 ^ (low+m))=((B*2 ^ (low+m):Nat):Int):=by
   rw [pw,show ((B:Int)*((2 ^ (low+m):Nat):Int))=((B*2 ^ (low+m):Nat):Int) by simp,i64_of (by omega) (by omega)]
  have h3:B*2 ^ m+R<2 ^ (m+1):=by
   have:B*2 ^ m≤1*2 ^ m:=Nat.mul_le_mul_right _ (by omega)
   rw [Nat.pow_succ]
   omega
  have e3:i64 (((B:Int)*2 ^ m+(R:Int))*2 ^ low)=(((B*2 ^ m+R)*2 ^ low:Nat):Int):=by
   rw [← small h3 (by omega),pw m]
   congr 2
  rw [e1,e3]
  rw [small hR1 (by omega)] at ih
  rw [o3,ih _ _ (by omega) (by omega) o2,← o3,o1,show k+1+m=k+(m+1) by omega]
  congr 1
  cases m with
  | zero =>
   show max top ((low+0:Nat):Int)=max top (((low+(0+1):Nat):Int) - 1)
   omega
  | succ q =>
   show max (max top ((low+(q+1):Nat):Int)) ((low+(q+1):Nat) - 1:Int)=max top ((low+(q+1+1):Nat) - 1:Int)
   omega
omit w1 w0 in
theorem rx_g (a b c n top:Int) (v:Nat):∀ (m k:Nat),redX w (ltG v m++r) k a b c n top=redX w r (k+m) a b c n top
 | 0,_=>rfl
 | m+1,k=>by
  have hs:redX w (UInt8.ofNat (48+v / 2 ^ m % 2) :: (ltG v m++r)) k a b c n top=redX w (ltG v m++r) (k+1) a b c n top:=by
   have:v / 2 ^ m % 2=0∨v / 2 ^ m % 2=1:=by omega
   rcases this with h | h <;> rw [h] <;> rfl
  show redX w (UInt8.ofNat (48+v / 2 ^ m % 2) :: (ltG v m++r)) k a b c n top=_
  rw [hs,rx_g a b c n top v m (k+1),show k+1+m=k+(m+1) by omega]
end
def rawL (c:Int):List FldT→List Int→Int→Int
 | f :: fs,v :: vs,a=>rawL c fs vs (cond (f.2.1 == c) v a)
 | _,_,a=>a
def numL:List FldT→List Int→Int × Int→Int × Int
 | f :: fs,v :: vs,p=>numL fs vs (cond (f.2.1 == 115) (or64 p.1 (i64 (v*2 ^ f.2.2.2.1.toNat)),max p.2 ((f.2.2.2.1.toNat+wd f:Nat) - 1)) p)
 | _,_,p=>p
theorem red_fields (s:Bool) {w:Int} (w0:0≤w) (w1:w<65536):∀ (fs:List FldT) (k:Nat) (a b c:Int) (N:Nat) (top:Int),fs.all fOk=true→fs.all (kOk s)=true→sumB fs+k=16→N<2 ^ 12 →
  (cnt 97 fs ≠ 0→cnt 97 fs≤1∧a=0)→(cnt 98 fs ≠ 0→cnt 98 fs≤1∧b=0)→(cnt 99 fs ≠ 0→cnt 99 fs≤1∧c=0) →
  redX w (fs.flatMap letF) k a b c (N:Int) top=(rawL 97 fs (takesF w fs) a,rawL 98 fs (takesF w fs) b,rawL 99 fs (takesF w fs) c,(numL fs (takesF w fs) ((N:Int),top)).1,(numL fs (takesF w fs) ((N:Int),top)).2)
 | [],k,a,b,c,N,top,_,_,_,_,_,_,_=>rfl
 | f :: r,k,a,b,c,N,top,hf,hk,hs,hN,ha,hb,hc=>by
  rw [List.all_cons,Bool.and_eq_true] at hf hk
  have hsum:sumB (f :: r)=wd f+sumB r:=rfl
  obtain ⟨⟨_,f2,f3⟩,g1,g2⟩:=fOk_spec hf.1
  have p:=pow_pos' (wd f)
  rw [cnt_cons] at ha hb hc
  rw [List.flatMap_cons,show takesF w (f :: r)=w / 2 ^ sumB r % 2 ^ wd f :: takesF w r from rfl]
  show _=(rawL 97 r (takesF w r) (cond (f.2.1 == 97) (w / 2 ^ sumB r % 2 ^ wd f) a),rawL 98 r (takesF w r) (cond (f.2.1 == 98) (w / 2 ^ sumB r % 2 ^ wd f) b),rawL 99 r (takesF w r) (cond (f.2.1 == 99) (w / 2 ^ sumB r % 2 ^ wd f) c),
   (numL r (takesF w r) (cond (f.2.1 == 115) (or64 (N:Int) (i64 (w / 2 ^ sumB r % 2 ^ wd f*2 ^ f.2.2.2.1.toNat)),max top ((f.2.2.2.1.toNat+wd f:Nat) - 1)) ((N:Int),top))).1,
   (numL r (takesF w r) (cond (f.2.1 == 115) (or64 (N:Int) (i64 (w / 2 ^ sumB r % 2 ^ wd f*2 ^ f.2.2.2.1.toNat)),max top ((f.2.2.2.1.toNat+wd f:Nat) - 1)) ((N:Int),top))).2)
  have next:=fun a b c N top hN ha hb hc=>red_fields s w0 w1 r (k+wd f) a b c N top hf.2 hk.2 (by omega) hN ha hb hc
  have kk:=hk.1
  unfold kOk at kk
  generalize r.flatMap letF=T at next ⊢
  unfold letF
  by_cases e0:f.2.1=0
  ·rw [e0] at ha hb hc ⊢
   rw [show ((0:Int) == 0)=true from rfl,cond_true,rx_g]
   refine next a b c N top hN (fun h=>?_) (fun h=>?_) (fun h=>?_)
   ·have:=ha (by simpa using h); simpa using this
   ·have:=hb (by simpa using h); simpa using this
   ·have:=hc (by simpa using h); simpa using this
  rw [show (f.2.1 == 0)=false from beq_eq_false_iff_ne.2 e0] at kk ⊢
  rw [cond_false]
  by_cases e1:f.2.1=115
  ·rw [e1] at kk ha hb hc ⊢
   have hlow:f.2.2.2.1.toNat+wd f≤12:=by simpa using kk
   rw [show ((115:Int) == 115)=true from rfl,cond_true,rx_s w0 w1 _ a b c f.2.2.2.1.toNat (sumB r) (wd f) k N top hlow (by omega) hN]
   have q0:=Int.emod_nonneg (w / 2 ^ sumB r) (Int.ne_of_gt p)
   have q1:=Int.emod_lt_of_pos (w / 2 ^ sumB r) p
   obtain ⟨R,hR⟩:=Int.eq_ofNat_of_zero_le q0
   have hor:∃ N' : Nat,N' < 2 ^ 12∧or64 (N:Int) (i64 (w / 2 ^ sumB r % 2 ^ wd f*2 ^ f.2.2.2.1.toNat))=(N' : Int):=by
    have pw:∀ j:Nat,((2:Int) ^ j)=((2 ^ j:Nat):Int):=fun j=>by simp
    rw [hR,pw] at q1
    have h5:R*2 ^ f.2.2.2.1.toNat<2 ^ wd f*2 ^ f.2.2.2.1.toNat:=Nat.mul_lt_mul_of_pos_right (by omega) (Nat.two_pow_pos _)
    rw [← Nat.pow_add] at h5
    have h6:=Nat.lt_of_lt_of_le h5 (Nat.pow_le_pow_right (n:=2) (by omega) (show wd f+f.2.2.2.1.toNat≤12 by omega))
    have e5:i64 ((R:Int)*2 ^ f.2.2.2.1.toNat)=((R*2 ^ f.2.2.2.1.toNat:Nat):Int):=by
     rw [pw,show ((R:Int)*((2 ^ f.2.2.2.1.toNat:Nat):Int))=((R*2 ^ f.2.2.2.1.toNat:Nat):Int) by simp,i64_of (by omega) (by omega)]
    rw [hR]
    refine ⟨_,Nat.or_lt_two_pow hN h6,?_⟩
    rw [e5,or64_cast hN h6]
   obtain ⟨N',hN',eN⟩:=hor
   have hb0:Nat.ble (wd f) 0=false:=by
    cases h:wd f with
    | zero=>omega
    | succ q=>rfl
   rw [eN,hb0]
   refine next a b c N' _ hN' (fun h=>?_) (fun h=>?_) (fun h=>?_)
   ·have:=ha (by simpa using h); simpa using this
   ·have:=hb (by simpa using h); simpa using this
   ·have:=hc (by simpa using h); simpa using this
  rw [show (f.2.1 == 115)=false from beq_eq_false_iff_ne.2 e1] at kk ⊢
  rw [cond_false]
  simp only [Bool.false_and,Bool.false_or,Bool.and_eq_true,Bool.or_eq_true,beq_iff_eq] at kk
  obtain ⟨kk,k1,k2⟩:=kk
  rcases kk with e | e | e
  ·rw [e] at ha hb hc ⊢
   obtain ⟨c1,c2⟩:=ha (by simp)
   have c4:cnt 97 r=0:=by simp at c1; omega
   have p5:(2:Int) ^ wd f≤65536:=by
    rw [k2]
    cases s <;> decide
   rw [show UInt8.ofNat ((97:Int).toNat)=97 from rfl,c2,rx_a w0 w1 _ b c N top (sumB r) (wd f) k 0 (by omega) (by omega) (by omega),show (0:Int)*2 ^ wd f+w / 2 ^ sumB r % 2 ^ wd f=w / 2 ^ sumB r % 2 ^ wd f by rw [Int.zero_mul,Int.zero_add]]
   refine next (w / 2 ^ sumB r % 2 ^ wd f) b c N top hN (fun h=>?_) (fun h=>?_) (fun h=>?_)
   ·exact absurd c4 h
   ·have:=hb (by simpa using h); simpa using this
   ·have:=hc (by simpa using h); simpa using this
  ·rw [e] at ha hb hc ⊢
   obtain ⟨c1,c2⟩:=hb (by simp)
   have c4:cnt 98 r=0:=by simp at c1; omega
   have p5:(2:Int) ^ wd f≤65536:=by
    rw [k2]
    cases s <;> decide
   rw [show UInt8.ofNat ((98:Int).toNat)=98 from rfl,c2,rx_b w0 w1 _ a c N top (sumB r) (wd f) k 0 (by omega) (by omega) (by omega),show (0:Int)*2 ^ wd f+w / 2 ^ sumB r % 2 ^ wd f=w / 2 ^ sumB r % 2 ^ wd f by rw [Int.zero_mul,Int.zero_add]]
   refine next a (w / 2 ^ sumB r % 2 ^ wd f) c N top hN (fun h=>?_) (fun h=>?_) (fun h=>?_)
   ·have:=ha (by simpa using h); simpa using this
   ·exact absurd c4 h
   ·have:=hc (by simpa using h); simpa using this
  ·rw [e] at ha hb hc ⊢
   obtain ⟨c1,c2⟩:=hc (by simp)
   have c4:cnt 99 r=0:=by simp at c1; omega
   have p5:(2:Int) ^ wd f≤65536:=by
    rw [k2]
    cases s <;> decide
   rw [show UInt8.ofNat ((99:Int).toNat)=99 from rfl,c2,rx_c w0 w1 _ a b N top (sumB r) (wd f) k 0 (by omega) (by omega) (by omega),show (0:Int)*2 ^ wd f+w / 2 ^ sumB r % 2 ^ wd f=w / 2 ^ sumB r % 2 ^ wd f by rw [Int.zero_mul,Int.zero_add]]
   refine next a b (w / 2 ^ sumB r % 2 ^ wd f) N top hN (fun h=>?_) (fun h=>?_) (fun h=>?_)
   ·have:=ha (by simpa using h); simpa using this
   ·have:=hb (by simpa using h); simpa using this
   ·exact absurd c4 h
def sh (s:Bool) (v:Int):Int:=cond s (i64 (i64 v+8)) (i64 v)
theorem rawL_none (c:Int):∀ (fs:List FldT) (vs:List Int) (acc:Int),(fs.any fun f=>f.2.1 == c)=false→rawL c fs vs acc=acc
 | [],_,acc,_=>rfl
 | f :: fs,[],acc,_=>rfl
 | f :: fs,v :: vs,acc,h=>by
  rw [List.any_cons,Bool.or_eq_false_iff] at h
  show rawL c fs vs (cond (f.2.1 == c) v acc)=acc
  rw [h.1]
  exact rawL_none c fs vs acc h.2
theorem reg_raw (c:Int) (s:Bool):∀ (fs:List FldT) (vs:List Int) (acc acc0:Int),fs.length=vs.length→(∀ f ∈ fs,f.2.1=c→f.2.2.2.2=s) →
  regL c fs vs acc=cond (fs.any fun f=>f.2.1 == c) (sh s (rawL c fs vs acc0)) acc
 | [],[],acc,acc0,_,_=>rfl
 | f :: fs,v :: vs,acc,acc0,hl,h=>by
  show regL c fs vs (cond (f.2.1 == c) (shV f v) acc)=cond ((f :: fs).any fun f=>f.2.1 == c) (sh s (rawL c fs vs (cond (f.2.1 == c) v acc0))) acc
  rw [List.any_cons]
  have hl' : fs.length=vs.length:=by simpa using hl
  have h' : ∀ f ∈ fs,f.2.1=c→f.2.2.2.2=s:=fun g hg=>h g (List.mem_cons_of_mem _ hg)
  cases he:(f.2.1 == c)
  ·exact reg_raw c s fs vs acc acc0 hl' h'
  ·rw [Bool.true_or,cond_true,cond_true,cond_true,reg_raw c s fs vs (shV f v) v hl' h']
   have hs:shV f v=sh s v:=by
    unfold shV sh
    rw [h f List.mem_cons_self (eq_of_beq he)]
   cases ha:fs.any fun f=>f.2.1 == c
   ·rw [rawL_none c fs vs v ha,cond_false,hs]
   ·rfl
theorem takes_len (w:Int):∀ fs:List FldT,fs.length=(takesF w fs).length
 | []=>rfl
 | _ :: r=>congrArg (· + 1) (takes_len w r)
theorem raw_rng (c:Int) {w:Int}:∀ (fs:List FldT) (acc:Int),fs.all fOk=true→0≤acc→acc<32→0≤rawL c fs (takesF w fs) acc∧rawL c fs (takesF w fs) acc<32
 | [],acc,_,h0,h1=>⟨h0,h1⟩
 | f :: r,acc,hf,h0,h1=>by
  rw [List.all_cons,Bool.and_eq_true] at hf
  obtain ⟨⟨_,f2,f3⟩,_,_⟩:=fOk_spec hf.1
  show 0≤rawL c r (takesF w r) (cond (f.2.1 == c) (w / 2 ^ sumB r % 2 ^ wd f) acc)∧rawL c r (takesF w r) (cond (f.2.1 == c) (w / 2 ^ sumB r % 2 ^ wd f) acc)<32
  have p:=pow_pos' (wd f)
  have q0:=Int.emod_nonneg (w / 2 ^ sumB r) (Int.ne_of_gt p)
  have q1:=Int.emod_lt_of_pos (w / 2 ^ sumB r) p
  have p2:(2:Int) ^ wd f≤32:=by
   have h2:=Nat.pow_le_pow_right (n:=2) (by omega) f3
   have e:((2:Int) ^ wd f)=((2 ^ wd f:Nat):Int):=by simp
   omega
  cases (f.2.1 == c)
  ·exact raw_rng c r acc hf.2 h0 h1
  ·exact raw_rng c r _ hf.2 q0 (by show w / 2 ^ sumB r % 2 ^ wd f<32; omega)
theorem num_imm (s:Bool):∀ (fs:List FldT) (vs:List Int) (n t t' : Int),fs.all (kOk s)=true→(∀ f ∈ fs,f.2.1=115→f.2.2.2.2=false∧0≤f.2.2.2.1)→fs.all fOk=true→InR fs vs→(t' = t+1∨(t' = 0∧t=0)) →
  (immL fs vs (n,t')).1=(numL fs vs (n,t)).1∧((immL fs vs (n,t')).2=(numL fs vs (n,t)).2+1∨((immL fs vs (n,t')).2=0∧(numL fs vs (n,t)).2=0∧(fs.any fun f=>f.2.1 == 115)=false∧t' = 0))
 | [],[],n,t,t',_,_,_,_,ht=>⟨rfl,by
   rcases ht with h | h
   ·exact .inl h
   ·exact .inr ⟨h.1,h.2,rfl,h.1⟩⟩
 | f :: fs,v :: vs,n,t,t',hk,hs,hf,hi,ht=>by
  rw [List.all_cons,Bool.and_eq_true] at hk hf
  obtain ⟨⟨v0,v1⟩,hi⟩:=hi
  obtain ⟨⟨f1,f2,f3⟩,_,_⟩:=fOk_spec hf.1
  have hs' : ∀ f ∈ fs,f.2.1=115→f.2.2.2.2=false∧0≤f.2.2.2.1:=fun g hg=>hs g (List.mem_cons_of_mem _ hg)
  rw [immL_cons,List.any_cons]
  show (immL fs vs _).1=(numL fs vs (cond (f.2.1 == 115) (or64 n (i64 (v*2 ^ f.2.2.2.1.toNat)),max t ((f.2.2.2.1.toNat+wd f:Nat) - 1)) (n,t))).1∧((immL fs vs _).2=(numL fs vs (cond (f.2.1 == 115) (or64 n (i64 (v*2 ^ f.2.2.2.1.toNat)),max t ((f.2.2.2.1.toNat+wd f:Nat) - 1)) (n,t))).2+1 ∨
   (_∧(numL fs vs (cond (f.2.1 == 115) (or64 n (i64 (v*2 ^ f.2.2.2.1.toNat)),max t ((f.2.2.2.1.toNat+wd f:Nat) - 1)) (n,t))).2=0∧_∧_))
  have kk:=hk.1
  unfold kOk at kk
  by_cases e1:f.2.1=115
  ·obtain ⟨s1,s2⟩:=hs f List.mem_cons_self e1
   have hN:isN f=true:=by unfold isN; rw [e1]; rfl
   have hlow:f.2.2.2.1.toNat+wd f≤12:=by rw [e1] at kk; simpa using kk
   have p2:(2:Int) ^ wd f≤32:=by
    have h2:=Nat.pow_le_pow_right (n:=2) (by omega) f3
    have e:((2:Int) ^ wd f)=((2 ^ wd f:Nat):Int):=by simp
    omega
   have hv:shV f v=v:=by
    unfold shV
    rw [s1,cond_false,i64_of (by omega) (by omega)]
   rw [hN,cond_true,hv,show (f.2.1 == 115)=true from beq_iff_eq.2 e1,cond_true,Nat.min_eq_left (by omega)]
   have:=num_imm s fs vs (or64 n (i64 (v*2 ^ f.2.2.2.1.toNat))) (max t ((f.2.2.2.1.toNat+wd f:Nat) - 1)) (max t' (f.2.2.2.1+f.1)) hk.2 hs' hf.2 hi (.inl (by omega))
   refine ⟨this.1,this.2.imp id fun h=>?_⟩
   exfalso
   have:=h.2.2.2
   omega
  ·have hN:isN f=false:=by
    unfold isN
    rw [show (f.2.1 == 115)=false from beq_eq_false_iff_ne.2 e1] at kk
    by_cases e0:f.2.1=0
    ·rw [e0]; rfl
    simp only [Bool.false_and,Bool.false_or,Bool.and_eq_true,Bool.or_eq_true,beq_iff_eq] at kk
    rcases kk with h | ⟨h,_⟩
    ·exact absurd h e0
    ·rcases h with h | h | h <;> rw [h] <;> rfl
   rw [hN,cond_false,show (f.2.1 == 115)=false from beq_eq_false_iff_ne.2 e1,cond_false,Bool.false_or]
   exact num_imm s fs vs n t t' hk.2 hs' hf.2 hi ht
theorem num_rng {w:Int} (s:Bool):∀ (fs:List FldT) (N:Nat) (t:Int),fs.all (kOk s)=true→fs.all fOk=true→N<2 ^ 12→0≤t→t<12 →
  0≤(numL fs (takesF w fs) ((N:Int),t)).1∧(numL fs (takesF w fs) ((N:Int),t)).1<2 ^ 12∧0≤(numL fs (takesF w fs) ((N:Int),t)).2∧(numL fs (takesF w fs) ((N:Int),t)).2<12
 | [],N,t,_,_,hN,t0,t1=>⟨by show 0≤(N:Int); omega,by show (N:Int)<2 ^ 12; omega,t0,t1⟩
 | f :: r,N,t,hk,hf,hN,t0,t1=>by
  rw [List.all_cons,Bool.and_eq_true] at hk hf
  obtain ⟨⟨f1,f2,f3⟩,_,_⟩:=fOk_spec hf.1
  have p:=pow_pos' (wd f)
  have q0:=Int.emod_nonneg (w / 2 ^ sumB r) (Int.ne_of_gt p)
  have q1:=Int.emod_lt_of_pos (w / 2 ^ sumB r) p
  have kk:=hk.1
  unfold kOk at kk
  show 0≤(numL r (takesF w r) (cond (f.2.1 == 115) (or64 (N:Int) (i64 (w / 2 ^ sumB r % 2 ^ wd f*2 ^ f.2.2.2.1.toNat)),max t ((f.2.2.2.1.toNat+wd f:Nat) - 1)) ((N:Int),t))).1∧(numL r (takesF w r) (cond (f.2.1 == 115) (or64 (N:Int) (i64 (w / 2 ^ sumB r % 2 ^ wd f*2 ^ f.2.2.2.1.toNat)),max t ((f.2.2.2.1.toNat+wd f:Nat) - 1)) ((N:Int),t))).1<2 ^ 12 ∧
   0≤(numL r (takesF w r) (cond (f.2.1 == 115) (or64 (N:Int) (i64 (w / 2 ^ sumB r % 2 ^ wd f*2 ^ f.2.2.2.1.toNat)),max t ((f.2.2.2.1.toNat+wd f:Nat) - 1)) ((N:Int),t))).2∧(numL r (takesF w r) (cond (f.2.1 == 115) (or64 (N:Int) (i64 (w / 2 ^ sumB r % 2 ^ wd f*2 ^ f.2.2.2.1.toNat)),max t ((f.2.2.2.1.toNat+wd f:Nat) - 1)) ((N:Int),t))).2<12
  by_cases e1:f.2.1=115
  ·have hlow:f.2.2.2.1.toNat+wd f≤12:=by rw [e1] at kk; simpa using kk
   rw [show (f.2.1 == 115)=true from beq_iff_eq.2 e1,cond_true]
   obtain ⟨R,hR⟩:=Int.eq_ofNat_of_zero_le q0
   have pw:∀ j:Nat,((2:Int) ^ j)=((2 ^ j:Nat):Int):=fun j=>by simp
   rw [hR,pw] at q1
   have h5:R*2 ^ f.2.2.2.1.toNat<2 ^ wd f*2 ^ f.2.2.2.1.toNat:=Nat.mul_lt_mul_of_pos_right (by omega) (Nat.two_pow_pos _)
   rw [← Nat.pow_add] at h5
   have h6:=Nat.lt_of_lt_of_le h5 (Nat.pow_le_pow_right (n:=2) (by omega) (show wd f+f.2.2.2.1.toNat≤12 by omega))
   have e5:i64 ((R:Int)*2 ^ f.2.2.2.1.toNat)=((R*2 ^ f.2.2.2.1.toNat:Nat):Int):=by
    rw [pw,show ((R:Int)*((2 ^ f.2.2.2.1.toNat:Nat):Int))=((R*2 ^ f.2.2.2.1.toNat:Nat):Int) by simp,i64_of (by omega) (by omega)]
   rw [hR,e5,or64_cast hN h6]
   exact num_rng s r _ _ hk.2 hf.2 (Nat.or_lt_two_pow hN h6) (by omega) (by omega)
  ·rw [show (f.2.1 == 115)=false from beq_eq_false_iff_ne.2 e1,cond_false]
   exact num_rng s r N t hk.2 hf.2 hN t0 t1
def fine4 (p:RowT × List FldT × TabT):Bool:=
 (p.2.1.all fun f=>!(f.2.1 == 115) || (!f.2.2.2.2 && decide (0≤f.2.2.2.1))) && ((p.2.2.2.2.1.contains 65 == p.2.1.any fun f=>f.2.1 == 97) && ((p.2.2.2.2.1.contains 66 == p.2.1.any fun f=>f.2.1 == 98) && ((p.2.2.2.2.1.contains 67 == p.2.1.any fun f=>f.2.1 == 99) &&
  ((!decide (p.1.2.2.1<0) || p.2.1.any fun f=>f.2.1 == 115) && (p.2.2.2.2.2.2.1 == p.1.2.2.1 && p.2.2.1 == p.1.1)))))
theorem fine4_all:pairs3.all fine4=true:=by kernel_rfl
def rdI (x:RowT) (w:Int):InsT:=insA x (flds x) (takesF w (flds x)) 0 0 0 (0,0)
theorem up_reg {x:RowT} (hx:x ∈ rowsL) {w:Int} {c:Int} (hc:c=97∨c=98∨c=99) {ch:UInt8} (hh:(tabs x).2.2.1.contains ch=(flds x).any fun f=>f.2.1 == c) :
  upX (tabs x) ch (rawL c (flds x) (takesF w (flds x)) 0)=regL c (flds x) (takesF w (flds x)) 0:=by
 obtain ⟨f1,_⟩:=row_fine hx
 obtain ⟨r0,r1⟩:=raw_rng c (w:=w) (flds x) 0 f1 (by omega) (by omega)
 have hsh:∀ f ∈ flds x,f.2.1=c→f.2.2.2.2=(tabs x).2.2.2.1:=fun f hf he=>by
  have h2:(hasF x c).2=true:=by
   rw [hasF_any,List.any_eq_true]
   exact ⟨f,hf,beq_iff_eq.2 he⟩
  rw [← tab_short hx hc h2]
  exact ((row_ch hx hc).1 f hf he).1
 rw [reg_raw c _ (flds x) (takesF w (flds x)) 0 0 (takes_len w _) hsh]
 unfold upX
 rw [hh]
 cases ha:(flds x).any fun f=>f.2.1 == c
 ·rw [Bool.and_false,cond_false,cond_false,rawL_none c _ _ _ ha]
 ·rw [Bool.and_true,cond_true]
  unfold sh
  cases (tabs x).2.2.2.1
  ·rw [cond_false,cond_false,i64_of (by omega) (by omega)]
  ·rw [cond_true,cond_true,i64_of (n:=rawL c (flds x) (takesF w (flds x)) 0) (by omega) (by omega)]
theorem rdX1_eq {x:RowT} (hx:x ∈ rowsL) {w:Int} (w0:0≤w) (w1:w<65536):rdX1 (tabs x) (redX w (tabs x).2.1 0 0 0 0 0 0)=some (insV (rdI x w)):=by
 obtain ⟨f1,f2⟩:=row_fine hx
 obtain ⟨l1,l2⟩:=row_let hx
 have hm:(x,flds x,tabs x) ∈ pairs3:=by
  rw [← pairs3_eq]
  exact List.mem_map_of_mem hx
 have h4:=List.all_eq_true.1 fine4_all _ hm
 unfold fine4 at h4
 simp only [Bool.and_eq_true] at h4
 obtain ⟨c1,c2,c3,c4,c5,c6,c7⟩:=h4
 have cn:∀ c,(c=97∨c=98∨c=99)→(cnt c (flds x) ≠ 0→cnt c (flds x)≤1∧(0:Int)=0):=fun c hc _=>⟨(row_ch hx hc).2,rfl⟩
 have hr:=red_fields (tabs x).2.2.2.1 w0 w1 (flds x) 0 0 0 0 0 0 f1 l2 (by omega) (by decide) (cn 97 (.inl rfl)) (cn 98 (.inr (.inl rfl))) (cn 99 (.inr (.inr rfl)))
 rw [l1] at hr
 have hr:redX w (tabs x).2.1 0 0 0 0 0 0=_:=hr
 rw [hr]
 obtain ⟨n1,n2⟩:=num_imm (tabs x).2.2.2.1 (flds x) (takesF w (flds x)) ((0:Nat):Int) 0 0 l2 (fun f hf he=>by
  have:=List.all_eq_true.1 c1 f hf
  rw [he] at this
  simpa using this) f1 (takes_in w _) (.inr ⟨rfl,rfl⟩)
 obtain ⟨g1,g2,g3,g4⟩:=num_rng (w:=w) (tabs x).2.2.2.1 (flds x) 0 0 l2 f1 (by decide) (by omega) (by omega)
 have u1:=up_reg hx (w:=w) (.inl rfl) (eq_of_beq c2)
 have u2:=up_reg hx (w:=w) (.inr (.inl rfl)) (eq_of_beq c3)
 have u3:=up_reg hx (w:=w) (.inr (.inr rfl)) (eq_of_beq c4)
 have e6:=eq_of_beq c6
 have e7:=eq_of_beq c7
 unfold rdX1 rdI insA signI
 simp only
 rw [u1,u2,u3,e7]
 rw [e6]
 have hz:((0:Nat):Int)=0:=rfl
 rw [hz] at n1 n2 g1 g2 g3 g4 ⊢
 rw [n1]
 cases hlo:decide (x.2.2.1<0)
 ·rfl
 ·rw [hlo] at c5
  simp only [Bool.not_true,Bool.false_or] at c5
  have ht:(immL (flds x) (takesF w (flds x)) (0,0)).2=(numL (flds x) (takesF w (flds x)) (0,0)).2+1:=by
   rcases n2 with h | h
   ·exact h
   ·rw [c5] at h; exact Bool.noConfusion h.2.2.1
  rw [ht]
  generalize (numL (flds x) (takesF w (flds x)) (0,0)).1=n at *
  generalize (numL (flds x) (takesF w (flds x)) (0,0)).2=t at *
  clear n1 n2 hr ht u1 u2 u3
  obtain ⟨T,rfl⟩:=Int.eq_ofNat_of_zero_le g3
  rw [show (((T:Nat):Int)+1 - 1).toNat=T by omega,show (((T:Nat):Int)+1).toNat=T+1 by omega,show (((T:Nat):Int)).toNat=T from rfl,Nat.min_eq_left (by omega),Nat.min_eq_left (by omega),Int.fdiv_eq_ediv_of_nonneg _ (Int.le_of_lt (pow_pos' _))]
  have p:=pow_pos' T
  have p2:(2:Int) ^ T≤2048:=by
   have h2:=Nat.pow_le_pow_right (n:=2) (by omega) (show T≤11 by omega)
   have e:((2:Int) ^ T)=((2 ^ T:Nat):Int):=by simp
   omega
  rw [Int.pow_succ]
  generalize (2:Int) ^ T=P at *
  have e1:i64 (1*P)=P:=by rw [Int.one_mul,i64_of (by omega) (by omega)]
  have e2:i64 (2*P)=2*P:=i64_of (by omega) (by omega)
  have e3:i64 (1*(P*2))=2*P:=by rw [Int.one_mul,Int.mul_comm,i64_of (by omega) (by omega)]
  rw [e1,e2,e3]
  by_cases hn:P≤n
  ·have hd:(n / P != 0)=true:=by
    have:1≤n / P:=Int.le_ediv_of_mul_le p (by omega)
    exact bne_iff_ne.2 (by omega)
   rw [hd,decide_eq_true hn]
   rfl
  ·have hd:(n / P != 0)=false:=by
    rw [Int.ediv_eq_zero_of_lt g1 (by omega)]
    rfl
   rw [hd,decide_eq_false hn]
   rfl
def matchX (w:Int) (x:RowT):Bool:=faultyF x (rdI x w) == 0 && encW x (rdI x w) == w
theorem matchX_read {x:RowT} (hx:x ∈ rowsL) {w:Int} (w0:0≤w) (w1:w<65536) (h:matchX w x=true):(readX x w).2=true:=by
 unfold matchX at h
 rw [Bool.and_eq_true] at h
 obtain ⟨h1,h2⟩:=h
 have h2:=eq_of_beq h2
 have ht:=takes_enc hx (rdI x w)
 rw [h2] at ht
 have hg:=giv_back (rdI x w) (row_gi hx)
 rw [← ht] at hg
 rw [readX_parts hx w0 w1,hg]
 exact h1
theorem matchX_eq {x:RowT} (hx:x ∈ rowsL) {w:Int} (w0:0≤w) (w1:w<65536):matchX w x=dMatch w x∧(dMatch w x=true→rdI x w=(readX x w).1):=by
 have key:dMatch w x=true→matchX w x=true∧rdI x w=(readX x w).1:=by
  intro h
  unfold dMatch at h
  rw [Bool.and_eq_true] at h
  obtain ⟨_,s2,s3,_⟩:=read_spec hx w0 w1 h.2
  have he:=enc_read hx w0 w1 h.2
  have e:rdI x w=(readX x w).1:=s2.symm
  refine ⟨?_,e⟩
  unfold matchX
  rw [e,s3,he]
  simp
 refine ⟨?_,fun h=>(key h).2⟩
 cases hm:dMatch w x
 ·cases hX:matchX w x
  ·rfl
  ·rw [match_of hx w0 w1 (matchX_read hx w0 w1 hX)] at hm
   cases hm
 ·exact (key hm).1
theorem rdI_name (x:RowT) (w:Int):(rdI x w).1=x.1:=rfl
end Go.Cmp
