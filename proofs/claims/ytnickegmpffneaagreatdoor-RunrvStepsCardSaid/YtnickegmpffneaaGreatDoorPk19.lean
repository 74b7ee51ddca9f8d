/-
  compact's words, plainly: what was read is encoded as the word; no word has two rows. Conditions: none.
-/
import Derived.Test.YtnickegmpffneaaGreatDoorPk18
import Derived.Test.YtnickegmpffneaaGreatDoorPk16
import Derived.Test.YtnickegmpffneaaGreatDoorPk10
import Derived.Test.YtnickegmpffneaaGreatDoorCm13
set_option linter.unusedVariables false
set_option linter.unusedSimpArgs false
namespace Go.Cmp
open Go Go.Ab
theorem map_of_zip {g:FldT→Int}:∀ {fs:List FldT} {vs:List Int},InR fs vs→(∀ p ∈ fs.zip vs,g p.1=p.2)→fs.map g=vs
 | [],[],_,_=>rfl
 | f :: fs,v :: vs,h,hz=>by
  rw [List.map_cons,map_of_zip h.2 (fun p hp=>hz p (List.mem_cons_of_mem _ hp)),hz (f,v) List.mem_cons_self]
theorem zip_in:∀ {fs:List FldT} {vs:List Int},InR fs vs → ∀ p ∈ fs.zip vs,p.1 ∈ fs∧0≤p.2∧p.2<2 ^ wd p.1
 | [],[],_,p,hp=>by cases hp
 | f :: fs,v :: vs,h,p,hp=>by
  rcases List.mem_cons.1 hp with rfl | hp
  ·exact ⟨List.mem_cons_self,h.1⟩
  ·obtain ⟨h1,h2⟩:=zip_in h.2 p hp
   exact ⟨List.mem_cons_of_mem _ h1,h2⟩
theorem giv_mem:∀ {fs:List FldT} {vs:List Int},InR fs vs→givL fs vs=true → ∀ p ∈ fs.zip vs,p.1.2.1=0→shV p.1 p.2=i64 p.1.2.2.1
 | [],[],_,_,p,hp,_=>by cases hp
 | f :: fs,v :: vs,h,hg,p,hp,h0=>by
  have hg:(cond (f.2.1 == 0) (shV f v == i64 f.2.2.1) true && givL fs vs)=true:=hg
  rw [Bool.and_eq_true] at hg
  rcases List.mem_cons.1 hp with rfl | hp
  ·have h0:f.2.1=0:=h0
   rw [h0] at hg
   exact eq_of_beq hg.1
  ·exact giv_mem h.2 hg.2 p hp h0
theorem regL_none (c:Int):∀ (fs:List FldT) (vs:List Int) (acc:Int),(fs.filter fun f=>f.2.1 == c)=[]→regL c fs vs acc=acc
 | [],_,acc,_=>rfl
 | f :: fs,[],acc,_=>rfl
 | f :: fs,v :: vs,acc,h=>by
  show regL c fs vs (cond (f.2.1 == c) (shV f v) acc)=acc
  rw [List.filter_cons] at h
  cases he:(f.2.1 == c)
  ·rw [he] at h
   exact regL_none c fs vs acc h
  ·rw [he] at h
   cases h
theorem regL_uniq (c:Int):∀ {fs:List FldT} {vs:List Int} {acc:Int},InR fs vs→(fs.filter fun f=>f.2.1 == c).length≤1 → ∀ p ∈ fs.zip vs,p.1.2.1=c→regL c fs vs acc=shV p.1 p.2
 | [],[],_,_,_,p,hp,_=>by cases hp
 | f :: fs,v :: vs,acc,h,hu,p,hp,he=>by
  show regL c fs vs (cond (f.2.1 == c) (shV f v) acc)=_
  rw [List.filter_cons] at hu
  rcases List.mem_cons.1 hp with rfl | hp
  ·have hb:(f.2.1 == c)=true:=beq_iff_eq.2 he
   rw [hb] at hu ⊢
   have hz:(fs.filter fun f=>f.2.1 == c)=[]:=List.length_eq_zero_iff.1 (by simpa using hu)
   exact regL_none c fs vs _ hz
  ·refine regL_uniq c h.2 ?_ p hp he
   cases hb:(f.2.1 == c)
   ·rw [hb] at hu; exact hu
   ·rw [hb,if_pos rfl,List.length_cons] at hu
    omega
def prodL:List FldT→List (List Int)
 | []=>[[]]
 | f :: r=>cond (isN f) ((List.range (2 ^ wd f)).flatMap fun v:Nat=>(prodL r).map ((v:Int) :: ·)) ((prodL r).map (0 :: ·))
def zeroed:List FldT→List Int→List Int
 | f :: fs,v :: vs=>cond (isN f) v 0 :: zeroed fs vs
 | _,_=>[]
theorem zeroed_mem:∀ {fs:List FldT} {vs:List Int},InR fs vs→zeroed fs vs ∈ prodL fs
 | [],[],_=>List.mem_cons_self
 | f :: fs,v :: vs,h=>by
  have ih:=zeroed_mem h.2
  unfold zeroed prodL
  cases isN f
  ·exact List.mem_map_of_mem ih
  ·refine List.mem_flatMap.2 ⟨v.toNat,List.mem_range.2 ?_,?_⟩
   ·have e:((2:Int) ^ wd f)=((2 ^ wd f:Nat):Int):=by simp
    have h1:=h.1
    omega
   ·rw [Int.toNat_of_nonneg h.1.1]
    exact List.mem_map_of_mem ih
theorem imm_zeroed (fs:List FldT):∀ {vs:List Int} {p:Int × Int},InR fs vs→immL fs vs p=immL fs (zeroed fs vs) p:=by
 induction fs with
 | nil =>
  intro vs p h
  cases vs with
  | nil=>rfl
  | cons v vs=>exact h.elim
 | cons f r ih =>
  intro vs p h
  cases vs with
  | nil=>exact h.elim
  | cons v vs =>
   rw [show zeroed (f :: r) (v :: vs)=cond (isN f) v 0 :: zeroed r vs from rfl,immL_cons,immL_cons,ih h.2]
   cases isN f
   ·rw [cond_false,cond_false]
   ·rw [cond_true,cond_true,cond_true]
theorem zip_zeroed:∀ {fs:List FldT} {vs:List Int},InR fs vs → ∀ p ∈ fs.zip vs,isN p.1=true→p ∈ fs.zip (zeroed fs vs)
 | [],[],_,p,hp,_=>by cases hp
 | f :: fs,v :: vs,h,p,hp,hn=>by
  rcases List.mem_cons.1 hp with rfl | hp
  ·have hn:isN f=true:=hn
   show (f,v) ∈ (f,cond (isN f) v 0) :: fs.zip (zeroed fs vs)
   rw [hn]
   exact List.mem_cons_self
  ·exact List.mem_cons_of_mem _ (zip_zeroed h.2 p hp hn)
def sameN (n:Int) (q:FldT × Int):Bool:=!isN q.1 || valF q.1 (immI n) == q.2
def ammOk (p:RowT × List FldT):Bool:=(prodL p.2).all fun vs=>(p.2.zip vs).all (sameN (sgnX p.1 (immL p.2 vs (0,0))))
theorem amm_0:(partP 0).all ammOk=true:=by kernel_rfl
theorem amm_1:(partP 1).all ammOk=true:=by kernel_rfl
theorem amm_2:(partP 2).all ammOk=true:=by kernel_rfl
theorem amm_3:(partP 3).all ammOk=true:=by kernel_rfl
theorem amm_4:(partP 4).all ammOk=true:=by kernel_rfl
theorem amm_5:(partP 5).all ammOk=true:=by kernel_rfl
theorem amm_all {x:RowT} (hx:x ∈ rowsL):ammOk (x,flds x)=true:=
 six_all (l:=pairsL) (f:=ammOk) (g:=fun _=>true) pairs_len (fun k hk=>match k,hk with
  | 0,_=>all_map amm_0
  | 1,_=>all_map amm_1
  | 2,_=>all_map amm_2
  | 3,_=>all_map amm_3
  | 4,_=>all_map amm_4
  | 5,_=>all_map amm_5) (pairs_mem hx)
section
variable {x:RowT} {w:Int}
theorem vals_back (hx:x ∈ rowsL) {vs:List Int} (hv:InR (flds x) vs) (hg:givL (flds x) vs=true) :
  ((flds x).map fun f=>valF f (insA x (flds x) vs 0 0 0 (0,0)))=vs:=by
 obtain ⟨hok,_⟩:=row_fine hx
 refine map_of_zip hv fun p hp=>?_
 obtain ⟨hm,v0,v1⟩:=zip_in hv p hp
 have hf:=List.all_eq_true.1 hok _ hm
 obtain ⟨⟨f1,f2,f3⟩,g0,g1⟩:=fOk_spec hf
 have hp5:((2:Int) ^ wd p.1)≤32:=by
  have:=Nat.pow_le_pow_right (n:=2) (by omega) f3
  have e:((2:Int) ^ wd p.1)=((2 ^ wd p.1:Nat):Int):=by simp
  omega
 have reg:∀ c:Int,c=97∨c=98∨c=99→p.1.2.1=c→(∀ f:FldT,f.2.1=c→srcF f (insA x (flds x) vs 0 0 0 (0,0))=regL c (flds x) vs 0)→valF p.1 (insA x (flds x) vs 0 0 0 (0,0))=p.2:=by
  intro c hc he hs
  obtain ⟨hk,hu⟩:=row_ch hx hc
  obtain ⟨k1,k2⟩:=hk _ hm he
  have hc0:(p.1.2.1 == 0)=false:=by
   rw [he]
   rcases hc with rfl | rfl | rfl <;> rfl
  rw [valF_of hf,hc0,cond_false,hs _ he,regL_uniq c hv hu p hp he,k2]
  rw [k2] at v1
  unfold shV
  cases hsh:p.1.2.2.2.2
  ·rw [hsh] at v1
   have v1:p.2<32:=v1
   show i64 p.2 % 2 ^ 5=p.2
   rw [show ((2:Int) ^ 5)=32 from rfl,i64_of (by omega) (by omega)]
   omega
  ·rw [hsh] at v1
   have v1:p.2<8:=v1
   show i64 (i64 p.2+8) % 2 ^ 3=p.2
   rw [show ((2:Int) ^ 3)=8 from rfl,i64_of (n:=p.2) (by omega) (by omega),i64_of (by omega) (by omega)]
   omega
 cases h0:(p.1.2.1 == 0)
 ·cases h1:(p.1.2.1 == 97)
  ·cases h2:(p.1.2.1 == 98)
   ·cases h3:(p.1.2.1 == 99)
    ·have hn:isN p.1=true:=by unfold isN; rw [h0,h1,h2,h3]; rfl
     have ha:=List.all_eq_true.1 (List.all_eq_true.1 (amm_all hx) _ (zeroed_mem hv)) p (zip_zeroed hv p hp hn)
     unfold sameN at ha
     rw [hn,← imm_zeroed _ hv] at ha
     rw [valF_imm hn]
     exact eq_of_beq ha
    ·exact reg 99 (.inr (.inr rfl)) (eq_of_beq h3) fun f he=>by unfold srcF; rw [he]; rfl
   ·exact reg 98 (.inr (.inl rfl)) (eq_of_beq h2) fun f he=>by unfold srcF; rw [he]; rfl
  ·exact reg 97 (.inl rfl) (eq_of_beq h1) fun f he=>by unfold srcF; rw [he]; rfl
 ·have e0:p.1.2.1=0:=eq_of_beq h0
  have hs:=giv_mem hv hg p hp e0
  unfold shV at hs
  rw [row_gi hx _ hm e0,cond_false,i64_of (by omega) (by omega),i64_of (by omega) (by omega)] at hs
  unfold valF
  rw [h0,hs]
  rfl
theorem read_spec (hx:x ∈ rowsL) (w0:0≤w) (w1:w<65536) (h:(readX x w).2=true) :
  givL (flds x) (takesF w (flds x))=true∧(readX x w).1=insA x (flds x) (takesF w (flds x)) 0 0 0 (0,0)∧faultyF x (readX x w).1=0∧(readX x w).1.1=x.1:=by
 rw [readX_parts hx w0 w1] at h ⊢
 cases hg:givL (flds x) (takesF w (flds x))
 ·rw [hg] at h; cases h
 ·rw [hg,cond_true] at h
  exact ⟨rfl,rfl,eq_of_beq h,rfl⟩
theorem enc_read (hx:x ∈ rowsL) (w0:0≤w) (w1:w<65536) (h:(readX x w).2=true):encW x (readX x w).1=w:=by
 obtain ⟨hg,hi,_,_⟩:=read_spec hx w0 w1 h
 have hc:=cat_takes w (flds x)
 rw [(row_fine hx).2,Int.ediv_eq_zero_of_lt w0 (by omega)] at hc
 rw [encW_cat hx,hi,vals_back hx (takes_in w _) hg,hc]
end
def places:List FldT→List (FldT × Nat)
 | []=>[]
 | f :: r=>(f,sumB r) :: places r
theorem places_zip (w:Int):∀ {fs:List FldT} {p:FldT × Nat},p ∈ places fs→(p.1,w / 2 ^ p.2 % 2 ^ wd p.1) ∈ fs.zip (takesF w fs)∧p.1 ∈ fs
 | f :: r,p,h=>by
  rcases List.mem_cons.1 h with rfl | h
  ·exact ⟨List.mem_cons_self,List.mem_cons_self⟩
  ·obtain ⟨h1,h2⟩:=places_zip w h
   exact ⟨List.mem_cons_of_mem _ h1,List.mem_cons_of_mem _ h2⟩
def bitsOff (a b:FldT × Nat):Bool:=
 a.1.2.1 == 0 && (b.1.2.1 == 0 && (List.range 16).any fun k=>Nat.ble a.2 k && (Nat.blt k (a.2+wd a.1) && (Nat.ble b.2 k && (Nat.blt k (b.2+wd b.1) && (a.1.2.2.1.toNat.testBit (k - a.2) != b.1.2.2.1.toNat.testBit (k - b.2))))))
def regOff (y:RowT) (a b:FldT × Nat):Bool:=
 a.1.2.1 == 0 && ((b.1.2.1 == 97 || (b.1.2.1 == 98 || b.1.2.1 == 99)) && (a.2 == b.2 && (wd a.1 == wd b.1 && !regF y b.1.2.1 (shV b.1 a.1.2.2.1))))
def apart (p q:RowT × List FldT):Bool:=
 (places p.2).any (fun a=>(places q.2).any fun b=>bitsOff a b || (regOff q.1 a b || regOff p.1 b a))
def apartOk (p:RowT × List FldT):Bool:=pairsL.all fun q=>strEq p.1.1 q.1.1 || apart p q
theorem apart_all:pairsL.all apartOk=true:=by kernel_rfl
theorem testBit_part {n l b g k:Nat} (h:n / 2 ^ l % 2 ^ b=g) (h1:l≤k) (h2:k<l+b):g.testBit (k - l)=n.testBit k:=by
 subst h
 rw [Nat.testBit_mod_two_pow,Nat.testBit_div_two_pow,show k - l+l=k by omega,decide_eq_true (show k - l<b by omega),Bool.true_and]
theorem given_nat {w:Int} (w0:0≤w) {l b:Nat} {g:Int} (h:w / 2 ^ l % 2 ^ b=g):w.toNat / 2 ^ l % 2 ^ b=g.toNat:=by
 obtain ⟨n,rfl⟩:=Int.eq_ofNat_of_zero_le w0
 subst h
 have e:∀ j:Nat,((2:Int) ^ j)=((2 ^ j:Nat):Int):=fun j=>by simp
 rw [e,e,← Int.natCast_ediv,← Int.natCast_emod,Int.toNat_natCast,Int.toNat_natCast]
section
variable {x y:RowT} {w:Int}
theorem given_at (hx:x ∈ rowsL) (w0:0≤w) (w1:w<65536) (h:(readX x w).2=true) {p:FldT × Nat} (hp:p ∈ places (flds x)) (h0:p.1.2.1=0) :
  w / 2 ^ p.2 % 2 ^ wd p.1=p.1.2.2.1:=by
 obtain ⟨hg,_⟩:=read_spec hx w0 w1 h
 obtain ⟨hz,hm⟩:=places_zip w hp
 have hs:=giv_mem (takes_in w _) hg _ hz h0
 obtain ⟨⟨f1,f2,f3⟩,g0,g1⟩:=fOk_spec (List.all_eq_true.1 (row_fine hx).1 _ hm)
 have hp5:((2:Int) ^ wd p.1)≤32:=by
  have:=Nat.pow_le_pow_right (n:=2) (by omega) f3
  have e:((2:Int) ^ wd p.1)=((2 ^ wd p.1:Nat):Int):=by simp
  omega
 obtain ⟨_,v0,v1⟩:=zip_in (takes_in w (flds x)) _ hz
 simp only at hs v0 v1
 unfold shV at hs
 rw [row_gi hx _ hm h0,cond_false,i64_of (by omega) (by omega),i64_of (by omega) (by omega)] at hs
 exact hs
theorem reg_off (hx:x ∈ rowsL) (hy:y ∈ rowsL) (w0:0≤w) (w1:w<65536) (h:(readX x w).2=true) (h' : (readX y w).2=true) {a b:FldT × Nat} (ha:a ∈ places (flds x)) (hb:b ∈ places (flds y)) :
  regOff y a b=false:=by
 cases ho:regOff y a b
 ·rfl
 ·exfalso
  unfold regOff at ho
  simp only [Bool.and_eq_true,Bool.or_eq_true,beq_iff_eq,Bool.not_eq_true'] at ho
  obtain ⟨a0,hc,e1,e2,hr⟩:=ho
  have hg:=given_at hx w0 w1 h ha a0
  obtain ⟨_,hi,hf,_⟩:=read_spec hy w0 w1 h'
  obtain ⟨r1,r2,r3,_⟩:=faulty_parts hf
  rw [hi] at r1 r2 r3
  obtain ⟨hz,hm⟩:=places_zip w hb
  obtain ⟨_,hu⟩:=row_ch hy hc
  have hv:=regL_uniq (acc:=0) b.1.2.1 (takes_in w _) hu _ hz rfl
  simp only at hv
  rw [← e1,← e2,hg] at hv
  have hreg:regF y b.1.2.1 (regL b.1.2.1 (flds y) (takesF w (flds y)) 0)=true:=by
   rcases hc with hc | hc | hc
   ·rw [hc]; exact r1
   ·rw [hc]; exact r2
   ·rw [hc]; exact r3
  rw [hv,hr] at hreg
  cases hreg
theorem row_names (hx:x ∈ rowsL):frow x.1=x∧fok x.1=true:=by
 have h:rowsL.map (fun x=>frow x.1)=rowsL.map (fun x=>x):=by kernel_rfl
 have h2:rowsL.map (fun x=>fok x.1)=rowsL.map (fun _=>true):=by kernel_rfl
 exact ⟨List.map_inj_left.1 h _ hx,List.map_inj_left.1 h2 _ hx⟩
theorem one_row (hx:x ∈ rowsL) (hy:y ∈ rowsL) (w0:0≤w) (w1:w<65536) (h:(readX x w).2=true) (h' : (readX y w).2=true):x=y:=by
 have ha:=List.all_eq_true.1 (List.all_eq_true.1 apart_all _ (pairs_mem hx)) _ (pairs_mem hy)
 rw [Bool.or_eq_true] at ha
 rcases ha with ha | ha
 ·have e:x.1=y.1:=eq_of_beq ha
  rw [← (row_names hx).1,← (row_names hy).1,e]
 ·exfalso
  obtain ⟨a,ha,hb⟩:=List.any_eq_true.1 ha
  obtain ⟨b,hb,ho⟩:=List.any_eq_true.1 hb
  have ha:a ∈ places (flds x):=ha
  have hb:b ∈ places (flds y):=hb
  rw [reg_off hx hy w0 w1 h h' ha hb,reg_off hy hx w0 w1 h' h hb ha,Bool.or_false,Bool.or_false] at ho
  unfold bitsOff at ho
  simp only [Bool.and_eq_true,beq_iff_eq,List.any_eq_true,Nat.ble_eq,Nat.blt_eq] at ho
  obtain ⟨a0,b0,k,_,k1,k2,k3,k4,hne⟩:=ho
  have g1:=testBit_part (given_nat w0 (given_at hx w0 w1 h ha a0)) k1 k2
  have g2:=testBit_part (given_nat w0 (given_at hy w0 w1 h' hb b0)) k3 k4
  rw [g1,g2] at hne
  simp at hne
end
end Go.Cmp

namespace Go.Cmp
open Go Go.Ab
def bitIs (fs:List FldT) (k:Nat) (v:Int):Bool:=
 (places fs).any fun a=>a.1.2.1 == 0 && (Nat.ble a.2 k && (Nat.blt k (a.2+wd a.1) && v == cond (a.1.2.2.1.toNat.testBit (k - a.2)) 1 0))
def opOk (p:RowT × List FldT):Bool:=
 bitIs p.2 15 (bitX p.1 0) && (bitIs p.2 14 (bitX p.1 1) && (bitIs p.2 13 (bitX p.1 2) && (bitIs p.2 1 (bitX p.1 (p.1.2.1.length - 2)) && bitIs p.2 0 (bitX p.1 (p.1.2.1.length - 1)))))
theorem opOk_all:pairsL.all opOk=true:=by kernel_rfl
theorem bitW_eq {w:Int} (w0:0≤w) (w1:w<65536) (k:Nat):bitW w k=cond (w.toNat.testBit k) 1 0:=by
 obtain ⟨n,rfl⟩:=Int.eq_ofNat_of_zero_le w0
 unfold bitW
 have e:((2:Int) ^ k)=((2 ^ k:Nat):Int):=by simp
 rw [Int.fdiv_eq_ediv_of_nonneg _ (Int.le_of_lt (pow_pos' _)),e,← Int.natCast_ediv]
 have hl:n / 2 ^ k<2 ^ 16:=Nat.lt_of_le_of_lt (Nat.div_le_self _ _) (by omega)
 have h1:=and16_cast hl (show 1<2 ^ 16 by decide)
 rw [show ((1:Nat):Int)=1 from rfl] at h1
 rw [h1,Nat.and_one_is_mod,Int.toNat_natCast,Nat.testBit_eq_decide_div_mod_eq]
 by_cases h:n / 2 ^ k % 2=1
 ·rw [decide_eq_true h,h]; rfl
 ·rw [decide_eq_false h,show n / 2 ^ k % 2=0 by omega]; rfl
theorem bitW_zero {w:Int}:and16 w 1=bitW w 0:=by
 unfold bitW
 rw [Int.fdiv_eq_ediv_of_nonneg _ (Int.le_of_lt (pow_pos' _)),Int.pow_zero,Int.ediv_one]
section
variable {x:RowT} {w:Int}
theorem bit_of (hx:x ∈ rowsL) (w0:0≤w) (w1:w<65536) (h:(readX x w).2=true) {k:Nat} {v:Int} (hb:bitIs (flds x) k v=true):v=bitW w k:=by
 obtain ⟨a,ha,hc⟩:=List.any_eq_true.1 hb
 simp only [Bool.and_eq_true,beq_iff_eq,Nat.ble_eq,Nat.blt_eq] at hc
 obtain ⟨a0,k1,k2,hv⟩:=hc
 rw [hv,bitW_eq w0 w1,testBit_part (given_nat w0 (given_at hx w0 w1 h ha a0)) k1 k2]
theorem op_of (hx:x ∈ rowsL) (w0:0≤w) (w1:w<65536) (h:(readX x w).2=true):opF x w=true:=by
 have ho:=List.all_eq_true.1 opOk_all _ (pairs_mem hx)
 unfold opOk at ho
 simp only [Bool.and_eq_true] at ho
 obtain ⟨h1,h2,h3,h4,h5⟩:=ho
 unfold opF
 rw [bit_of hx w0 w1 h h1,bit_of hx w0 w1 h h2,bit_of hx w0 w1 h h3,bit_of hx w0 w1 h h4,bit_of hx w0 w1 h h5,bitW_zero]
 simp only [beq_self_eq_true,Bool.and_self]
theorem match_of (hx:x ∈ rowsL) (w0:0≤w) (w1:w<65536) (h:(readX x w).2=true):dMatch w x=true:=by
 unfold dMatch
 rw [op_of hx w0 w1 h,h]
 rfl
theorem drow_of (hx:x ∈ rowsL) (w0:0≤w) (w1:w<65536) (h:(readX x w).2=true):drow w=some x:=by
 have hm:=match_of hx w0 w1 h
 unfold drow
 cases hd:rowsL.find? (dMatch w) with
 | none =>
  have:=List.find?_eq_none.1 hd x hx
  exact absurd hm this
 | some y =>
  have hy:=List.mem_of_find?_eq_some hd
  have hp:=List.find?_some hd
  have hp:(readX y w).2=true:=by
   unfold dMatch at hp
   rw [Bool.and_eq_true] at hp
   exact hp.2
  rw [one_row hx hy w0 w1 h hp]
end
theorem dec_enc {i:InsT} (h:encE i=0):decOk (encW (frow i.1) i)=true∧decI (encW (frow i.1) i)=i:=by
 obtain ⟨h1,h2⟩:=enc_parts h
 obtain ⟨hx,hn,_⟩:=frow_mem h1
 obtain ⟨w0,w1⟩:=encW_rng hx i
 have hr:=read_enc hx h2 hn.symm
 have hd:=drow_of hx w0 w1 (by rw [hr])
 unfold decOk decI
 rw [hd]
 refine ⟨rfl,?_⟩
 show (readX (frow i.1) (encW (frow i.1) i)).1=i
 rw [hr]
def Bytes (l:List Int):Prop:=∀ b ∈ l,0≤b∧b<256
theorem getD_lt {l:List Int} {k:Nat} (h:k<l.length):l.getD k 0=l[k]:=by
 rw [List.getD,List.getElem?_eq_getElem h]
 rfl
theorem bytes_getD {l:List Int} (h:Bytes l) (k:Nat):0≤l.getD k 0∧l.getD k 0<256:=by
 by_cases hk:k<l.length
 ·rw [getD_lt hk]; exact h _ (List.getElem_mem hk)
 ·simp [List.getD,hk]
def sum2 (l:List Int) (k:Nat):Int:=l.getD k 0+256*l.getD (k+1) 0
theorem word2 {a b:Int} (ha:0≤a∧a<256) (hb:0≤b∧b<256):or16 (IntKind.wrap .u16 a) (u16 (IntKind.wrap .u16 b*2 ^ 8))=a+256*b:=by
 obtain ⟨n,rfl⟩:=Int.eq_ofNat_of_zero_le ha.1
 obtain ⟨m,rfl⟩:=Int.eq_ofNat_of_zero_le hb.1
 unfold u16
 rw [wrap_u16,wrap_u16,wrap_u16,Int.emod_eq_of_lt ha.1 (by omega),Int.emod_eq_of_lt hb.1 (by omega),Int.emod_eq_of_lt (by omega) (by omega)]
 have e:(m:Int)*(2:Int) ^ (8:Nat)=((m <<< 8:Nat):Int):=by rw [Nat.shiftLeft_eq]; simp
 rw [e,or16_cast (by omega) (by rw [Nat.shiftLeft_eq]; omega),Nat.or_comm,← Nat.shiftLeft_add_eq_or_of_lt (show n<2 ^ 8 by omega),Nat.shiftLeft_eq]
 omega
theorem w2_sum {l:List Int} {at_:Int} (h:Bytes l) (h0:0≤at_) (h1:at_+2≤l.length) (hl:l.length<1000000000):w2 l at_=sum2 l at_.toNat:=by
 unfold w2 sum2 gb
 rw [wrap_i64 (n:=at_+1) (by omega) (by omega),show (at_+1).toNat=at_.toNat+1 from by omega]
 exact word2 (bytes_getD h _) (bytes_getD h _)
theorem sum2_rng {l:List Int} (h:Bytes l) (k:Nat):0≤sum2 l k∧sum2 l k<65536:=by
 have h0:=bytes_getD h k
 have h1:=bytes_getD h (k+1)
 unfold sum2
 omega
theorem bytes2_eq (w:Int):bytes2 w=[w % 256,w / 256 % 256]:=by
 unfold bytes2 u8w
 rw [wrap_u8,wrap_u8,Int.fdiv_eq_ediv_of_nonneg _ (by decide)]
 rfl
theorem bytes2_bytes (w:Int):Bytes (bytes2 w):=by
 rw [bytes2_eq]
 intro b hb
 simp only [List.mem_cons,List.not_mem_nil,or_false] at hb
 omega
theorem sum2_bytes2 {p s:List Int} {w:Int} (h0:0≤w) (h1:w<65536):sum2 (p++bytes2 w++s) p.length=w:=by
 have g:∀ k,k<2→(p++bytes2 w++s).getD (p.length+k) 0=(bytes2 w).getD k 0:=by
  intro k hk
  have hl:(bytes2 w).length=2:=rfl
  simp only [List.getD,List.append_assoc]
  rw [List.getElem?_append_right (by omega),show p.length+k - p.length=k from by omega,List.getElem?_append_left (by omega)]
 unfold sum2
 have g0:=g 0 (by omega)
 rw [Nat.add_zero] at g0
 rw [g0,g 1 (by omega),bytes2_eq]
 show w % 256+256*(w / 256 % 256)=w
 omega
theorem sub2 {l:List Int} {k:Nat} (h:k+2≤l.length):sub l k (k+2)=[l.getD k 0,l.getD (k+1) 0]:=by
 have e:sub l k (k+2)=(l.drop k).take 2:=by
  simp only [sub,List.drop_take]
  congr 1
  omega
 rw [e,List.drop_eq_getElem_cons (by omega),List.drop_eq_getElem_cons (by omega)]
 rw [getD_lt (by omega),getD_lt (by omega)]
 rfl
section
variable {i:InsT} {p s:List Int}
theorem bytes_all (i:InsT) (hp:Bytes p) (hs:Bytes s):Bytes (p++encL i++s):=by
 have hw:=bytes2_bytes (encW (frow i.1) i)
 intro x hx
 rcases List.mem_append.1 hx with hx | hx
 ·rcases List.mem_append.1 hx with hx | hx
  ·exact hp x hx
  ·exact hw x hx
 ·exact hs x hx
theorem len_all (i:InsT) (p s:List Int):(p++encL i++s).length=p.length+2+s.length:=by
 simp [encL,bytes2]
 omega
theorem back_dec (h:(encE i == 0)=true) (hp:Bytes p) (hs:Bytes s) (lp:p.length≤200) (ls:s.length≤200) :
  dE (p++encL i++s) p.length=0∧dI (p++encL i++s) p.length=i∧dN (p++encL i++s) p.length=2:=by
 have h:=eq_of_beq h
 have hlen:=len_all i p s
 have hb:=bytes_all i hp hs
 have ho:outOf (p++encL i++s) p.length=false:=by
  simp only [outOf,Bool.or_eq_false_iff,decide_eq_false_iff_not]
  omega
 have hsh:shortOf (p++encL i++s) p.length=false:=by
  simp only [shortOf,decide_eq_false_iff_not]
  rw [wrap_i64 (by omega) (by omega)]
  omega
 have hw:w2 (p++encL i++s) p.length=encW (frow i.1) i:=by
  rw [w2_sum hb (by omega) (by omega) (by omega),Int.toNat_natCast]
  obtain ⟨h1,h2⟩:=enc_parts h
  obtain ⟨w0,w1⟩:=encW_rng (frow_mem h1).1 i
  exact sum2_bytes2 w0 w1
 obtain ⟨d1,d2⟩:=dec_enc h
 refine ⟨?_,?_,?_⟩
 ·unfold dE; rw [ho,hsh,hw,d1]; rfl
 ·unfold dI; rw [ho,hsh,hw,d2]; rfl
 ·unfold dN; rw [ho,hsh,hw,d1]; rfl
end
end Go.Cmp

namespace Go.Cmp
open Go Go.Ab Go.Proofs
abbrev tabE:EC:=.prod [.str,.str,.str,.bool,.int .i64,.int .i64,.int .i64,.bool]
abbrev TabT:=List UInt8 × List UInt8 × List UInt8 × Bool × Int × Int × Int × Bool
abbrev tabLV (y:TabT):List V:=[.str y.1,.str y.2.1,.str y.2.2.1,.bool y.2.2.2.1,.int .i64 y.2.2.2.2.1,.int .i64 y.2.2.2.2.2.1,.int .i64 y.2.2.2.2.2.2.1,.bool y.2.2.2.2.2.2.2]
def tabL:List TabT:=[
 ([99,46,97,100,100,105,52,115,112,110],[48,48,48,70,69,74,73,72,71,67,68,97,97,97,48,48],[65,105],true,4,1020,4,false),
 ([99,46,108,119],[48,49,48,70,69,68,98,98,98,67,71,97,97,97,48,48],[65,66,105],true,0,124,4,true),
 ([99,46,108,100],[48,49,49,70,69,68,98,98,98,72,71,97,97,97,48,48],[65,66,105],true,0,248,8,true),
 ([99,46,115,119],[49,49,48,70,69,68,98,98,98,67,71,99,99,99,48,48],[67,66,105],true,0,124,4,true),
 ([99,46,115,100],[49,49,49,70,69,68,98,98,98,72,71,99,99,99,48,48],[67,66,105],true,0,248,8,true),
 ([99,46,110,111,112],[48,48,48,48,48,48,48,48,48,48,48,48,48,48,48,49],[],false,0,0,1,true),
 ([99,46,97,100,100,105],[48,48,48,70,97,97,97,97,97,69,68,67,66,65,48,49],[65,105],false,-32,31,1,false),
 ([99,46,97,100,100,105,119],[48,48,49,70,97,97,97,97,97,69,68,67,66,65,48,49],[65,105],false,-32,31,1,true),
 ([99,46,108,105],[48,49,48,70,97,97,97,97,97,69,68,67,66,65,48,49],[65,105],false,-32,31,1,true),
 ([99,46,97,100,100,105,49,54,115,112],[48,49,49,74,48,48,48,49,48,69,71,73,72,70,48,49],[105],false,-512,496,16,false),
 ([99,46,108,117,105],[48,49,49,70,97,97,97,97,97,69,68,67,66,65,48,49],[65,105],false,-32,31,1,false),
 ([99,46,115,114,108,105],[49,48,48,70,48,48,97,97,97,69,68,67,66,65,48,49],[65,105],true,1,63,1,false),
 ([99,46,115,114,97,105],[49,48,48,70,48,49,97,97,97,69,68,67,66,65,48,49],[65,105],true,1,63,1,false),
 ([99,46,97,110,100,105],[49,48,48,70,49,48,97,97,97,69,68,67,66,65,48,49],[65,105],true,-32,31,1,true),
 ([99,46,115,117,98],[49,48,48,48,49,49,97,97,97,48,48,99,99,99,48,49],[65,67],true,0,0,1,true),
 ([99,46,120,111,114],[49,48,48,48,49,49,97,97,97,48,49,99,99,99,48,49],[65,67],true,0,0,1,true),
 ([99,46,111,114],[49,48,48,48,49,49,97,97,97,49,48,99,99,99,48,49],[65,67],true,0,0,1,true),
 ([99,46,97,110,100],[49,48,48,48,49,49,97,97,97,49,49,99,99,99,48,49],[65,67],true,0,0,1,true),
 ([99,46,115,117,98,119],[49,48,48,49,49,49,97,97,97,48,48,99,99,99,48,49],[65,67],true,0,0,1,true),
 ([99,46,97,100,100,119],[49,48,48,49,49,49,97,97,97,48,49,99,99,99,48,49],[65,67],true,0,0,1,true),
 ([99,46,106],[49,48,49,76,69,74,73,75,71,72,68,67,66,70,48,49],[106],false,-2048,2046,2,true),
 ([99,46,98,101,113,122],[49,49,48,73,69,68,98,98,98,72,71,67,66,70,48,49],[66,106],true,-256,254,2,true),
 ([99,46,98,110,101,122],[49,49,49,73,69,68,98,98,98,72,71,67,66,70,48,49],[66,106],true,-256,254,2,true),
 ([99,46,115,108,108,105],[48,48,48,70,97,97,97,97,97,69,68,67,66,65,49,48],[65,105],false,1,63,1,false),
 ([99,46,108,119,115,112],[48,49,48,70,97,97,97,97,97,69,68,67,72,71,49,48],[65,105],false,0,252,4,true),
 ([99,46,108,100,115,112],[48,49,49,70,97,97,97,97,97,69,68,73,72,71,49,48],[65,105],false,0,504,8,true),
 ([99,46,106,114],[49,48,48,48,98,98,98,98,98,48,48,48,48,48,49,48],[66],false,0,0,1,true),
 ([99,46,106,97,108,114],[49,48,48,49,98,98,98,98,98,48,48,48,48,48,49,48],[66],false,0,0,1,true),
 ([99,46,109,118],[49,48,48,48,97,97,97,97,97,99,99,99,99,99,49,48],[65,67],false,0,0,1,true),
 ([99,46,97,100,100],[49,48,48,49,97,97,97,97,97,99,99,99,99,99,49,48],[65,67],false,0,0,1,true),
 ([99,46,101,98,114,101,97,107],[49,48,48,49,48,48,48,48,48,48,48,48,48,48,49,48],[],false,0,0,1,true),
 ([99,46,115,119,115,112],[49,49,48,70,69,68,67,72,71,99,99,99,99,99,49,48],[67,105],false,0,252,4,true),
 ([99,46,115,100,115,112],[49,49,49,70,69,68,73,72,71,99,99,99,99,99,49,48],[67,105],false,0,504,8,true)]
noncomputable def cx104:Cx:={ P:=Tryz.prog,n:=35,tab:=[],mtab:=[],refs:=[],keeps:=[0] }
theorem table_run:(dfun cx104 Tryz.f104 []).run=some (.sl tabE tabL [] .full):=by kernel_rfl
def tableS:Ab.Spec:=fun args=>match args with
 | []=>.leaf (.sl tabE tabL [] .full)
 | _=>.fail
theorem tableS_ok:Sound Tryz.prog 104 tableS:=by
 intro args out h
 unfold tableS at h
 split at h
 rotate_left
 ·cases h
 cases h
 exact pcall_fun' (cx:=cx104) (fn:=Tryz.f104) (cx0_ok rfl rfl) (by kernel_rfl) (by kernel_rfl) (by kernel_rfl) table_run
def zeroT:TabT:=([],[],[],false,0,0,0,false)
def tabs (x:RowT):TabT:=(tabL.find? fun y=>y.1 == x.1).getD zeroT
def pairsT:List (RowT × TabT):=rowsL.zip tabL
theorem pairsT_eq:(rowsL.map fun x=>(x,tabs x))=pairsT:=by kernel_rfl
theorem pairsT_mem {x:RowT} (hx:x ∈ rowsL):(x,tabs x) ∈ pairsT:=by
 rw [← pairsT_eq]
 exact List.mem_map_of_mem hx
theorem pairsT_len:pairsT.length≤36:=by
 have h:rowsL.length=33:=by kernel_rfl
 rw [← pairsT_eq,List.length_map]
 omega
theorem tabL_eq:tabL=rowsL.map tabs:=by kernel_rfl
theorem tabs_name {x:RowT} (hx:x ∈ rowsL):(tabs x).1=x.1:=by
 have h:rowsL.map (fun x=>(tabs x).1)=rowsL.map (fun x=>x.1):=by kernel_rfl
 exact List.map_inj_left.1 h _ hx
def partT (k:Nat):List (RowT × TabT):=(pairsT.drop (6*k)).take 6
noncomputable def cx166:Cx:={ P:=Tryz.prog,n:=25,tab:=[(104,tableS)],mtab:=[],refs:=[],keeps:=[0,2,3,4,5,10,19],fuel:=36 }
theorem cxFX_ok:CxOk cx166:=cx1_ok (ok1 tableS_ok) (fun p h=>by cases h) rfl rfl
def chainX (nm:List UInt8):List TabT→Option V
 | []=>some (.tup [.agg (tabLV zeroT),.bool false])
 | y :: r=>cond (strEq y.1 nm) (some (.tup [.agg (tabLV y),.bool true])) (chainX nm r)
theorem findX_eq (nm:List UInt8):(dfun cx166 Tryz.f166 [.str nm]).fin=chainX nm tabL:=by kernel_rfl
def ftab (nm:List UInt8):TabT:=cond (fok nm) (tabs (frow nm)) zeroT
theorem chainX_eq (nm:List UInt8):∀ (l:List RowT),(∀ x ∈ l,(tabs x).1=x.1) →
  chainX nm (l.map tabs)=match l.find? (fun r=>strEq r.1 nm) with
   | some x=>some (.tup [.agg (tabLV (tabs x)),.bool true])
   | none=>some (.tup [.agg (tabLV zeroT),.bool false])
 | [],_=>rfl
 | x :: r,h=>by
  rw [List.map_cons]
  unfold chainX
  rw [h x List.mem_cons_self,chainX_eq nm r (fun z hz=>h z (List.mem_cons_of_mem _ hz)),List.find?_cons]
  cases strEq x.1 nm <;> rfl
def findXS:Ab.Spec:=fun args=>match args with
 | [.str nm]=>.leaf (.tup [.agg (tabLV (ftab nm)),.bool (fok nm)])
 | _=>.fail
theorem findXS_ok:Sound Tryz.prog 166 findXS:=by
 intro args out h
 unfold findXS at h
 split at h
 rotate_left
 ·cases h
 rename_i nm
 have h:=leaf_out h
 subst h
 refine pcall_fun' (cx:=cx166) (fn:=Tryz.f166) cxFX_ok (by kernel_rfl) (by kernel_rfl) (by kernel_rfl) ((Tree.fin_run _).symm.trans ((findX_eq nm).trans ?_))
 rw [tabL_eq,chainX_eq nm rowsL (fun x hx=>tabs_name hx)]
 unfold ftab fok frow findL
 cases rowsL.find? (fun r=>strEq r.1 nm) <;> rfl
def findAtX (p:RowT × TabT):Ab.Spec:=fun args=>match args with
 | [.str nm]=>.req (isAt nm p.1) (.leaf (.tup [.agg (tabLV p.2),.bool true]))
 | _=>.fail
theorem isAt_frow {nm:List UInt8} {x:RowT} (h:isAt nm x=true):frow nm=x∧fok nm=true:=by
 have hf:=isAt_eq h
 exact ⟨by unfold frow; rw [hf]; rfl,by unfold fok; rw [hf]; rfl⟩
theorem findAtX_ok (x:RowT):Sound Tryz.prog 166 (findAtX (x,tabs x)):=by
 intro args out h
 refine findXS_ok args out ?_
 unfold findAtX at h
 split at h
 rotate_left
 ·cases h
 obtain ⟨h1,h⟩:=req_run h
 have h:=leaf_out h
 subst h
 obtain ⟨e1,e2⟩:=isAt_frow h1
 unfold findXS ftab
 simp only
 rw [e1,e2]
 rfl
end Go.Cmp

namespace Go.Cmp
open Go Go.Ab Go.Proofs
noncomputable def hasA_ps:List Fi:=[⟨165,Tryz.f165,[0,1,4,5,9,16],[],18,[]⟩]
theorem hasA_ps_ok:FisOk Tryz.prog hasA_ps:=⟨⟨by kernel_rfl,by kernel_rfl⟩,trivial⟩
noncomputable def hasA_ms:List Fi:=[]
theorem hasA_ms_ok:FisOk Tryz.prog hasA_ms:=trivial
noncomputable def hasA (d:Nat):Tabs:=deep Tryz.prog {} hasA_ps hasA_ms d
noncomputable def cxRX:Cx:={ P:=Tryz.prog,n:=49,tab:=(hasA 1).tab,mtab:=[],refs:=[],keeps:=[0,1,2,3,6,11,15,36] }
theorem cxRX_ok:CxOk cxRX:=cx1_ok (deep_ok (tabs_ok (.nil _) (fun p h=>by cases h)) hasA_ps_ok hasA_ms_ok 1).1 (fun p h=>by cases h) rfl rfl
def bO (b:Bool):Option V:=some (.bool b)
def restX (x:RowT) (w n:Int):Option V:=cond (decide (0<n)) (bO true) (bO (!bars x (UInt8.ofNat (w - 32).toNat)))
def regX (x:RowT) (w n:Int):Option V:=
 cond (hasF x w).2 (cond (hasF x w).1 (cond (decide (8≤n)) (bO (decide (n≤15))) (bO false))
  (cond (decide (n<0)) (bO false) (cond (decide (31<n)) (bO false) (cond (bars x 50) (cond (n == 2) (bO false) (restX x w n)) (restX x w n))))) (bO (n == 0))
noncomputable def rxR (p:RowT × TabT) (n:Int):List (Option V):=regs3.map fun w=>(dfun cxRX Tryz.f167 [.agg (tabLV p.2),.int .u8 (w - 32),.int .i64 n]).fin
def rxO (p:RowT × TabT) (n:Int):List (Option V):=regs3.map fun w=>regX p.1 w n
theorem rx_0:(partT 0).map rxR=(partT 0).map rxO:=by kernel_rfl
theorem rx_1:(partT 1).map rxR=(partT 1).map rxO:=by kernel_rfl
theorem rx_2:(partT 2).map rxR=(partT 2).map rxO:=by kernel_rfl
theorem rx_3:(partT 3).map rxR=(partT 3).map rxO:=by kernel_rfl
theorem rx_4:(partT 4).map rxR=(partT 4).map rxO:=by kernel_rfl
theorem rx_5:(partT 5).map rxR=(partT 5).map rxO:=by kernel_rfl
theorem rx_all {x:RowT} (hx:x ∈ rowsL):rxR (x,tabs x)=rxO (x,tabs x):=
 six_all (l:=pairsT) pairsT_len (fun k hk=>match k,hk with
  | 0,_=>rx_0
  | 1,_=>rx_1
  | 2,_=>rx_2
  | 3,_=>rx_3
  | 4,_=>rx_4
  | 5,_=>rx_5) (pairsT_mem hx)
theorem bar2 {x:RowT} (hx:x ∈ rowsL) {w:Int} (hw:w ∈ regs3):(bars x 50 && (hasF x w).2)=true→w=97:=by
 have h:rowsL.map (fun x=>regs3.map fun w=>!(bars x 50 && (hasF x w).2) || w == 97)=rowsL.map (fun _=>regs3.map fun _=>true):=by kernel_rfl
 have h2:=List.map_inj_left.1 (List.map_inj_left.1 h _ hx) _ hw
 intro hb
 rw [hb] at h2
 simpa using h2
theorem regX_eq {x:RowT} (hx:x ∈ rowsL) {w:Int} (hw:w ∈ regs3) (n:Int):regX x w n=bO (regF x w n):=by
 have hb:=bar2 hx hw
 unfold regX regF restX
 cases h2:(hasF x w).2
 ·rfl
 cases h1:(hasF x w).1
 ·rw [h2,Bool.and_true] at hb
  simp only [cond_true,cond_false]
  by_cases n0:n<0
  ·rw [decide_eq_true n0,decide_eq_false (by omega:¬ 0≤n)]; rfl
  by_cases n31:31<n
  ·rw [decide_eq_false n0,decide_eq_true n31,decide_eq_false (by omega:¬ n<32),Bool.false_and,Bool.and_false]; rfl
  rw [decide_eq_false n0,decide_eq_false n31,decide_eq_true (by omega:0≤n),decide_eq_true (by omega:n<32)]
  simp only [cond_false,Bool.true_and]
  have hz:decide (0<n)=(n != 0):=by
   by_cases h:n=0
   ·subst h; rfl
   ·rw [decide_eq_true (by omega:0<n)]; exact (bne_iff_ne.2 h).symm
  rw [hz]
  cases hbar:bars x 50
  ·cases (n != 0) <;> cases (!bars x (UInt8.ofNat (w - 32).toNat)) <;> cases (n != 2) <;> cases (w == 97) <;> rfl
  ·have hw97:=hb hbar
   subst hw97
   unfold bne
   cases (n == 2) <;> cases (n == 0) <;> cases (!bars x (UInt8.ofNat ((97:Int) - 32).toNat)) <;> rfl
 ·simp only [cond_true]
  cases decide (8≤n) <;> rfl
def isDoc (p:RowT × TabT) (y:TabT):Bool:=strEq y.1 p.2.1 && (strEq y.2.1 p.2.2.1 && (strEq y.2.2.1 p.2.2.2.1 && (y.2.2.2.1 == p.2.2.2.2.1 && (y.2.2.2.2.1 == p.2.2.2.2.2.1 && (y.2.2.2.2.2.1 == p.2.2.2.2.2.2.1 && (y.2.2.2.2.2.2.1 == p.2.2.2.2.2.2.2.1 && y.2.2.2.2.2.2.2 == p.2.2.2.2.2.2.2.2))))))
theorem isDoc_eq {p:RowT × TabT} {y:TabT} (h:isDoc p y=true):y=p.2:=by
 unfold isDoc at h
 simp only [strEq,Bool.and_eq_true,beq_iff_eq] at h
 obtain ⟨h1,h2,h3,h4,h5,h6,h7,h8⟩:=h
 exact Prod.ext h1 (Prod.ext h2 (Prod.ext h3 (Prod.ext h4 (Prod.ext h5 (Prod.ext h6 (Prod.ext h7 h8))))))
def regAtX (p:RowT × TabT):Ab.Spec:=fun args=>match args with
 | [.agg [.str nm,.str b,.str o,.bool s,.int .i64 lo,.int .i64 hi,.int .i64 by_,.bool z],.int .u8 c,.int .i64 n]=>.req (isDoc p (nm,b,o,s,lo,hi,by_,z)) (.req (regs3.contains (c+32)) (.leaf (.bool (regF p.1 (c+32) n))))
 | _=>.fail
theorem regAtX_ok {x:RowT} (hx:x ∈ rowsL):Sound Tryz.prog 167 (regAtX (x,tabs x)):=by
 intro args out h
 unfold regAtX at h
 split at h
 rotate_left
 ·cases h
 rename_i nm b o s lo hi by_ z c n
 obtain ⟨h1,h⟩:=req_run h
 obtain ⟨h2,h⟩:=req_run h
 have h:=leaf_out h
 subst h
 have e:=isDoc_eq h1
 have hm:c+32 ∈ regs3:=by simpa using h2
 have hw:=List.map_inj_left.1 (congrFun (rx_all hx) n) _ hm
 rw [regX_eq hx hm] at hw
 rw [Int.add_sub_cancel,show tabLV (x,tabs x).2=tabLV (nm,b,o,s,lo,hi,by_,z) from congrArg tabLV e.symm] at hw
 exact pcall_fun' (cx:=cxRX) (fn:=Tryz.f167) cxRX_ok (by kernel_rfl) (by kernel_rfl) rfl ((Tree.fin_run _).symm.trans hw)
noncomputable def cxCX (p:RowT × TabT):Cx:={ P:=Tryz.prog,n:=78,tab:=[(166,findAtX p),(167,regAtX p)]++(hasA 1).tab,mtab:=[],refs:=[],keeps:=[0,1,2,3,4,12,36,46,49,71,77] }
theorem cxCX_ok {x:RowT} (hx:x ∈ rowsL):CxOk (cxCX (x,tabs x)):=
 cx1_ok (.cons (findAtX_ok x) (.cons (regAtX_ok hx) (deep_ok (tabs_ok (.nil _) (fun p h=>by cases h)) hasA_ps_ok hasA_ms_ok 1).1)) (fun p h=>by cases h) rfl rfl
def iO (n:Int):Option V:=some (.int .i64 n)
def byX (x:RowT) (n:Int):Option V:=cond (Int.tmod n x.2.2.2.2.1 != 0) (iO 10) (iO 0)
def rngX (p:RowT × TabT) (n:Int):Option V:=cond (decide (n<p.1.2.2.1)) (iO 3) (cond (decide (p.1.2.2.2.1<n)) (iO 3) (cond (n == 0) (cond p.2.2.2.2.2.2.2.2 (byX p.1 n) (iO 3)) (byX p.1 n)))
def ckO (p:RowT × TabT) (nm:List UInt8) (a b c d n:Int):Option V:=
 cond (isAt nm p.1) (cond (!regF p.1 97 a) (iO 13) (cond (!regF p.1 98 b) (iO 13) (cond (!regF p.1 99 c) (iO 13) (cond (d != 0) (iO 13) (cond (hasF p.1 115).2 (rngX p n) (cond (n != 0) (iO 13) (iO 0))))))) none
noncomputable def ckR (p:RowT × TabT) (nm:List UInt8) (a b c d n:Int):Option V:=(dfun (cxCX p) Tryz.f106 [.agg [.str nm,.int .i64 a,.int .i64 b,.int .i64 c,.int .i64 d,.int .i64 n]]).fin
theorem ck_0:(partT 0).map ckR=(partT 0).map ckO:=by kernel_rfl
theorem ck_1:(partT 1).map ckR=(partT 1).map ckO:=by kernel_rfl
theorem ck_2:(partT 2).map ckR=(partT 2).map ckO:=by kernel_rfl
theorem ck_3:(partT 3).map ckR=(partT 3).map ckO:=by kernel_rfl
theorem ck_4:(partT 4).map ckR=(partT 4).map ckO:=by kernel_rfl
theorem ck_5:(partT 5).map ckR=(partT 5).map ckO:=by kernel_rfl
theorem ck_all {x:RowT} (hx:x ∈ rowsL):ckR (x,tabs x)=ckO (x,tabs x):=
 six_all (l:=pairsT) pairsT_len (fun k hk=>match k,hk with
  | 0,_=>ck_0
  | 1,_=>ck_1
  | 2,_=>ck_2
  | 3,_=>ck_3
  | 4,_=>ck_4
  | 5,_=>ck_5) (pairsT_mem hx)
theorem zero_ok {x:RowT} (hx:x ∈ rowsL):bars x 115 = !(tabs x).2.2.2.2.2.2.2∨0<x.2.2.1:=by
 have h:rowsL.map (fun x=>(bars x 115 == !(tabs x).2.2.2.2.2.2.2) || decide (0<x.2.2.1))=rowsL.map (fun _=>true):=by kernel_rfl
 have h:=List.map_inj_left.1 h _ hx
 rw [Bool.or_eq_true] at h
 rcases h with h | h
 ·exact .inl (eq_of_beq h)
 ·exact .inr (of_decide_eq_true h)
theorem rngX_eq {x:RowT} (hx:x ∈ rowsL) (n:Int):rngX (x,tabs x) n=iO (rngF x n):=by
 unfold rngX rngF byX
 simp only
 by_cases h1:n<x.2.2.1
 ·rw [decide_eq_true h1]; rfl
 by_cases h2:x.2.2.2.1<n
 ·rw [decide_eq_false h1,decide_eq_true h2]; rfl
 rw [decide_eq_false h1,decide_eq_false h2]
 simp only [cond_false]
 rcases zero_ok hx with hz | hz
 ·rw [hz]
  cases (n == 0) <;> cases (tabs x).2.2.2.2.2.2.2 <;> cases (Int.tmod n x.2.2.2.2.1 != 0) <;> rfl
 ·have hn:(n == 0)=false:=beq_eq_false_iff_ne.2 (by omega)
  rw [hn]
  cases (Int.tmod n x.2.2.2.2.1 != 0) <;> rfl
theorem none_ok {x:RowT} (hx:x ∈ rowsL) (h:(hasF x 115).2=false):rngF x 0=0:=by
 have hc:rowsL.map (fun x=>(hasF x 115).2 || rngF x 0 == 0)=rowsL.map (fun _=>true):=by kernel_rfl
 have hc:=List.map_inj_left.1 hc _ hx
 rw [h,Bool.false_or] at hc
 exact eq_of_beq hc
theorem ckO_eq {x:RowT} (hx:x ∈ rowsL) {nm:List UInt8} (hn:isAt nm x=true) (a b c d n:Int):ckO (x,tabs x) nm a b c d n=iO (faultyF x (nm,a,b,c,d,n)):=by
 unfold ckO faultyF
 simp only
 rw [hn,cond_true,rngX_eq hx]
 cases regF x 97 a
 ·rfl
 cases regF x 98 b
 ·rfl
 cases regF x 99 c
 ·rfl
 unfold bne
 cases (d == 0)
 ·rfl
 cases h:(hasF x 115).2
 ·cases h0:(n == 0)
  ·rfl
  ·rw [eq_of_beq h0,none_ok hx h]
   rfl
 ·rfl
def zeroRow:Ab.Spec:=fun args=>match args with
 | [.str nm]=>.req (!fok nm) (.leaf (.tup [.agg (tabLV zeroT),.bool false]))
 | _=>.fail
theorem zeroRow_ok:Sound Tryz.prog 166 zeroRow:=by
 intro args out h
 refine findXS_ok args out ?_
 unfold zeroRow at h
 split at h
 rotate_left
 ·cases h
 obtain ⟨h1,h⟩:=req_run h
 have h:=leaf_out h
 subst h
 have h1:fok _=false:=(Bool.not_eq_true' _).mp h1
 unfold findXS ftab
 simp only
 rw [h1]
 rfl
noncomputable def cxCN:Cx:={ P:=Tryz.prog,n:=78,tab:=[(166,zeroRow)],mtab:=[],refs:=[],keeps:=[0,1,2,3,4,12,36,46,49,71,77] }
theorem ckN_eq (nm:List UInt8) (a b c d n:Int):(dfun cxCN Tryz.f106 [.agg [.str nm,.int .i64 a,.int .i64 b,.int .i64 c,.int .i64 d,.int .i64 n]]).fin=cond (!fok nm) (iO 7) none:=by kernel_rfl
def checkXS:Ab.Spec:=fun args=>match args with
 | [.agg [.str nm,.int .i64 a,.int .i64 b,.int .i64 c,.int .i64 d,.int .i64 n]]=>.leaf (.int .i64 (encE (nm,a,b,c,d,n)))
 | _=>.fail
theorem checkXS_ok:Sound Tryz.prog 106 checkXS:=by
 intro args out h
 unfold checkXS at h
 split at h
 rotate_left
 ·cases h
 rename_i nm a b c d n
 have h:=leaf_out h
 subst h
 unfold encE
 cases hf:fok nm
 ·refine pcall_fun' (cx:=cxCN) (fn:=Tryz.f106) (cx1_ok (ok1 zeroRow_ok) (fun p h=>by cases h) rfl rfl) (by kernel_rfl) (by kernel_rfl) rfl ((Tree.fin_run _).symm.trans ((ckN_eq nm a b c d n).trans ?_))
  rw [hf]
  rfl
 ·obtain ⟨hx,hn,_⟩:=frow_mem hf
  have hw:=congrFun (congrFun (congrFun (congrFun (congrFun (congrFun (ck_all hx) nm) a) b) c) d) n
  rw [ckO_eq hx (isAt_row hf)] at hw
  exact pcall_fun' (cx:=cxCX (frow nm,tabs (frow nm))) (fn:=Tryz.f106) (cxCX_ok hx) (by kernel_rfl) (by kernel_rfl) rfl ((Tree.fin_run _).symm.trans hw)
end Go.Cmp
