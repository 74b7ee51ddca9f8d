/-
  runamd: the law Signed, evaluated. Conditions: none.
-/
import Derived.Test.YtbefgnmdliefjaaGreatDoorPk41
import Derived.Test.YtbefgnmdliefjaaGreatDoorPk29
import Derived.Test.YtbefgnmdliefjaaGreatDoorPk19
set_option linter.unusedVariables false
set_option linter.unusedSimpArgs false
namespace Go.Ra
open Go Go.Ab Go.Proofs
noncomputable def cxSg (f:OutFn):Cx:={ P:=Tryz.prog,n:=Tryz.f5.ntmps,tab:=[(9,Go.Amd.begunS)],mtab:=[(11,runS f),(10,worldD)],still:=[11],refs:=[],keeps:=[0,1,4,5,7,8,10,11,13,15,55,65] }
theorem cxSg_ok {f:OutFn} (h:MSound Tryz.prog 11 (runS f)):CxOk (cxSg f):=⟨.cons Go.Amd.begunS_ok (.nil _),.cons h (.cons worldD_ok fun p h=>by cases h),.nil _,fun p h=>by cases h⟩
noncomputable abbrev Bsg:Code:=bodyOf Tryz.f5
def sgS (a b:Int):CpuT:=⟨0,[wu a,0,0,wu b,0,0,0,0,0,0,0,0,0,0,0,0,0,0,0,0,0,0,0,0,0,0,0,0,0,0,0,0],true,false,false,false,0⟩
def sgT (a b:Int):T:=[(0,.int .i64 a),(1,.int .i64 b),(5,.ptr 0 0),(7,.ptr 14 0)]
def sgH (a b:Int) (A B C D E:List Int):List O:=bothO A B C D E++[.cells (sgS a b).l 26]
theorem sg_head (f:OutFn) (a b:Int):(dcode (cxSg f) (headN 6 Bsg) (initT 0 [.int .i64 a,.int .i64 b]) []).run.map (fun s=>(s.1,keep [0,1,5,7] s.2.1,s.2.2)) =
  some (.normal,sgT a b,sgH a b (wdK 1 [] [] zeros) (wdK 2 [] [] zeros) (wdK 16 [] [] zeros) (wdK 17 [] [] zeros) (wdK 32 [] [] zeros)):=by kernel_rfl
def noV:Option V:=some (.bool false)
def rcV (f:OutFn) (nm:List UInt8) (s:CpuT) (a b c d m sz:Int) (A B C D E:List Int) (k:Out→Option V):Option V:=
 cond (true && lens5 A B C D E) (cond (fineB s && Go.Amd.i64r m) (k (f nm s a b c d m sz A B C D E)) none) none
def q0 (b:Int) (k:Option V):Option V:=cond (!decide (b=0)) k none
def sgEnd (a b:Int) (d:Out):Option V:=
 cond (d.err == 0) (q0 b (cond (wi (d.s.x.getD 0 0) == wi (Int.tdiv a b)) (q0 b (cond (wi (d.s.x.getD 2 0) == Int.tmod a b) (bO d.s.z) noV)) noV)) noV
def sgBad (q d:Out):Option V:=cond (d.err == 21) (bO (eqS (tabS d.s) (tabS q.s))) noV
def sgX (f:OutFn) (a b:Int) (A B C D E:List Int):Option V:=
 rcV f [99,113,111] (sgS a b) 0 0 0 0 0 2 A B C D E fun q=>rcV f [105,100,105,118] (tabS q.s) 3 0 0 0 0 3 q.A q.B q.C q.D q.E fun d =>
  cond (q.err != 0) noV (cond (q.s.x.getD 2 0 != wu (Int.fdiv a (2 ^ 63))) noV
   (cond (b == 0) (sgBad q d) (cond (a == -9223372036854775808) (cond (b == -1) (sgBad q d) (sgEnd a b d)) (sgEnd a b d))))
noncomputable def sgE (f:OutFn) (a b:Int) (A B C D E:List Int):Option V:=((dcode (cxSg f) (tailN 6 Bsg) (sgT a b) (sgH a b A B C D E)).bind (answer Tryz.prog Tryz.f5.results.toList)).fin
theorem sg_eq (f:OutFn) (a b:Int) (A B C D E:List Int):sgE f a b A B C D E=sgX f a b A B C D E:=by kernel_rfl
end Go.Ra

namespace Go.Ra
open Go Go.Ab Go.Proofs Go.Amd
theorem row_cqo (s:CpuT) (hs:Fine s) (A B C D E:List Int) (sz:Int) (nm:List UInt8) :
  mvR (fun e S k=>inA e.a (k (S.set 3 (.int .u64 (wu (Int.fdiv (wi (e.s.x.getD 0 0)) (2 ^ 63))))))) nm s 0 0 0 0 0 sz A B C D E=outK ({ (putW 2 (wu (Int.fdiv (wi (s.x.getD 0 0)) (2 ^ 63))) ⟨s,hs.len⟩).1 with pc:=wu (s.pc+wu sz) }:CpuT).l 0 (memO A B C D E):=by
 unfold mvR
 rw [stC_eq _ hs.len]
 refine (inA_R rfl _).trans ?_
 show finS (memO A B C D E) (((⟨s,hs.len⟩:W).1.l++tlP _ _).set 3 (.int .u64 (wu (Int.fdiv (wi (s.x.getD 0 0)) (2 ^ 63)))))=_
 rw [set3_R]
 exact finS_R _ _ _ _
theorem idK_fault {e:EnvR} {S:List V} {k:KS} {neg:Bool} {h l y dv:Int} (g:¬ h<dv):idK e S k neg h l y dv=faultK e:=by
 unfold idK
 rw [decide_eq_false g]
 rfl
theorem idK_R {e:EnvR} {S:List V} {k:KS} {neg:Bool} {h l y dv:Int} (hh:rng64 h=true) (hl:rng64 l=true) (hd:rng64 dv=true) (g:h<dv)
  (hq:dq128 h l dv≤9223372036854775807∨(neg == decide (wi y<0))=false∧dq128 h l dv≤9223372036854775808) :
  idK e S k neg h l y dv=idE neg S k (cond (neg == decide (wi y<0)) (dq128 h l dv) (wu (0 - dq128 h l dv))) (dr128 h l dv):=by
 unfold idK q
 rw [decide_eq_true g,hh,hl,hd]
 simp only [Bool.and_self,Bool.not_true,cond_false,cond_true]
 rcases hq with hq | ⟨h1,hq⟩
 ·rw [decide_eq_true hq,decide_eq_true (show dq128 h l dv≤9223372036854775808 by omega)]
  cases neg == decide (wi y<0) <;> rfl
 ·rw [h1,decide_eq_true hq]
  rfl
theorem idE_R {neg:Bool} {t:W} {T:List V} {k:KS} {qv r:Int}:idE neg (t.1.l++T) k qv r=k ((putW 2 (cond neg (wu (0 - r)) r) (putW 0 qv t)).1.l++T):=by
 unfold idE
 cases neg
 ·simp only [cond_false,set1_R,set3_R]
 ·simp only [cond_true,set1_R,set3_R]
def bad2 (a b:Int):Bool:=b == 0 || (a == -9223372036854775808 && b == -1)
theorem i64_spec {x:Int} (h:i64r x=true) : -9223372036854775808≤x∧x≤9223372036854775807:=by
 simpa only [i64r,Bool.and_eq_true,decide_eq_true_eq] using h
theorem wi_wu {x:Int} (h:i64r x=true):wi (wu x)=x:=by
 obtain ⟨h0,h1⟩:=i64_spec h
 rw [wi_def,wu_mod]
 split <;> omega
theorem fdiv63 {x:Int} (h:i64r x=true):Int.fdiv x (2 ^ 63)=cond (decide (x<0)) (-1) 0:=by
 obtain ⟨h0,h1⟩:=i64_spec h
 rw [Int.fdiv_eq_ediv_of_nonneg _ (by decide)]
 show x / 9223372036854775808=_
 by_cases g:x<0
 ·rw [decide_eq_true g]
  show _=(-1:Int)
  omega
 ·rw [decide_eq_false g]
  show _=(0:Int)
  omega
theorem row_idiv (s:CpuT) (hs:Fine s) (A B C D E:List Int) {r sz a b:Int} (hr:okReg r=true) (nm:List UInt8) (ha:i64r a=true) (hb:i64r b=true) (e0:s.x.getD 0 0=wu a) (e2:s.x.getD 2 0=wu (Int.fdiv a (2 ^ 63))) (e3:s.x.getD r.toNat 0=wu b) :
  idivR nm s r 0 0 0 0 sz A B C D E=cond (bad2 a b) (errK s 21 (memO A B C D E)) (outK ({ (putW 2 (wu (Int.tmod a b)) (putW 0 (wu (Int.tdiv a b)) ⟨s,hs.len⟩)).1 with pc:=wu (s.pc+wu sz) }:CpuT).l 0 (memO A B C D E)):=by
 obtain ⟨a0,a1⟩:=i64_spec ha
 obtain ⟨b0,b1⟩:=i64_spec hb
 unfold idivR mvR
 rw [stC_eq _ hs.len]
 refine (inA_R hr _).trans ((inA_R hr _).trans ((inX_R hr ⟨s,hs.len⟩ _ _).trans ?_))
 show q (rng64 (s.x.getD 2 0) && rng64 (s.x.getD 0 0)) (cond (decide (wi (s.x.getD r.toNat 0)<0))
  (idK (envF s nm r 0 0 0 0 sz A B C D E) _ (finS (memO A B C D E)) (!decide (0≤wi (s.x.getD 2 0))) (magH (s.x.getD 2 0) (s.x.getD 0 0)) (magL (s.x.getD 2 0) (s.x.getD 0 0)) (s.x.getD r.toNat 0) (wu (0 - s.x.getD r.toNat 0)))
  (idK (envF s nm r 0 0 0 0 sz A B C D E) _ (finS (memO A B C D E)) (!decide (0≤wi (s.x.getD 2 0))) (magH (s.x.getD 2 0) (s.x.getD 0 0)) (magL (s.x.getD 2 0) (s.x.getD 0 0)) (s.x.getD r.toNat 0) (s.x.getD r.toNat 0)))=_
 rw [e0,e2,e3,wi_wu hb,rng_wu,rng_wu]
 have hn:(!decide (0≤wi (wu (Int.fdiv a (2 ^ 63)))))=decide (a<0):=by
  rw [fdiv63 ha]
  by_cases g:a<0
  ·rw [decide_eq_true g]
   rfl
  ·rw [decide_eq_false g]
   rfl
 have hH:magH (wu (Int.fdiv a (2 ^ 63))) (wu a)=0:=by
  unfold magH
  rw [fdiv63 ha]
  by_cases g:a<0
  ·rw [decide_eq_true g]
   show (340282366920938463463374607431768211456 - (18446744073709551615*18446744073709551616+wu a)) / 18446744073709551616=0
   rw [wu_mod]
   omega
  ·rw [decide_eq_false g]
   rfl
 have hL:magL (wu (Int.fdiv a (2 ^ 63))) (wu a)=cond (decide (a<0)) (-a) a:=by
  unfold magL
  rw [fdiv63 ha]
  by_cases g:a<0
  ·rw [decide_eq_true g]
   show (340282366920938463463374607431768211456 - (18446744073709551615*18446744073709551616+wu a)) % 18446744073709551616 = -a
   rw [wu_mod]
   omega
  ·rw [decide_eq_false g]
   show wu a=a
   rw [wu_mod]
   omega
 have hdv:cond (decide (b<0)) (wu (0 - wu b)) (wu b)=cond (decide (b<0)) (-b) b:=by
  by_cases g:b<0
  ·rw [decide_eq_true g]
   show wu (0 - wu b) = -b
   rw [wu_mod,wu_mod]
   omega
  ·rw [decide_eq_false g]
   show wu b=b
   rw [wu_mod]
   omega
 rw [hn,hH,hL]
 have key:∀ dv,dv=cond (decide (b<0)) (-b) b→idK (envF s nm r 0 0 0 0 sz A B C D E) ((⟨s,hs.len⟩:W).1.l++tlP (envF s nm r 0 0 0 0 sz A B C D E) (envF s nm r 0 0 0 0 sz A B C D E).bk) (finS (memO A B C D E)) (decide (a<0)) 0 (cond (decide (a<0)) (-a) a) (wu b) dv =
   cond (bad2 a b) (errK s 21 (memO A B C D E)) (outK ({ (putW 2 (wu (Int.tmod a b)) (putW 0 (wu (Int.tdiv a b)) ⟨s,hs.len⟩)).1 with pc:=wu (s.pc+wu sz) }:CpuT).l 0 (memO A B C D E)):=by
  intro dv hd
  by_cases hb0:b=0
  ·subst hb0
   have:dv=0:=hd
   subst this
   rw [idK_fault (by decide)]
   rfl
  have dpos:0<dv:=by
   rw [hd]
   by_cases g:b<0
   ·rw [decide_eq_true g]; show 0 < -b; omega
   ·rw [decide_eq_false g]; show 0<b; omega
  have dle:dv≤9223372036854775808:=by
   rw [hd]
   by_cases g:b<0
   ·rw [decide_eq_true g]; show -b≤_; omega
   ·rw [decide_eq_false g]; show b≤_; omega
  obtain ⟨L,hLd⟩:∃ L,L=cond (decide (a<0)) (-a) a:=⟨_,rfl⟩
  have l0:0≤L:=by
   rw [hLd]
   by_cases g:a<0
   ·rw [decide_eq_true g]; show 0 ≤ -a; omega
   ·rw [decide_eq_false g]; show 0≤a; omega
  have l1:L≤9223372036854775808:=by
   rw [hLd]
   by_cases g:a<0
   ·rw [decide_eq_true g]; show -a≤_; omega
   ·rw [decide_eq_false g]; show a≤_; omega
  rw [← hLd]
  have eq:dq128 0 L dv=L / dv:=by unfold dq128; rw [Int.zero_mul,Int.zero_add]
  have er:dr128 0 L dv=L % dv:=by unfold dr128; rw [Int.zero_mul,Int.zero_add]
  have q0:0≤L / dv:=Int.ediv_nonneg l0 (by omega)
  have q1:L / dv≤L:=Int.ediv_le_self dv l0
  have r0:0≤L % dv:=Int.emod_nonneg _ (by omega)
  have r1:L % dv<dv:=Int.emod_lt_of_pos _ dpos
  by_cases hbad:a = -9223372036854775808∧b = -1
  ·obtain ⟨rfl,rfl⟩:=hbad
   have e1:dv=1:=hd
   have e2:L=9223372036854775808:=hLd
   subst e1 e2
   have hf:bad2 (-9223372036854775808) (-1)=true:=rfl
   rw [hf]
   rfl
  have hbd:bad2 a b=false:=by
   unfold bad2
   rw [beq_false_of_ne hb0,Bool.false_or]
   cases g:(a == -9223372036854775808 && b == -1)
   ·rfl
   ·simp only [Bool.and_eq_true,beq_iff_eq] at g
    exact absurd g hbad
  rw [hbd,cond_false]
  have hlim:L / dv≤9223372036854775807∨(decide (a<0) == decide (wi (wu b)<0))=false∧L / dv≤9223372036854775808:=by
   rw [wi_wu hb]
   by_cases g:L / dv≤9223372036854775807
   ·exact .inl g
   ·refine .inr ⟨?_,by omega⟩
    have hL63:L=9223372036854775808:=by omega
    have hd1:dv=1:=by
     by_cases h1:dv=1
     ·exact h1
     ·have:L / dv<9223372036854775808:=(Int.ediv_lt_iff_lt_mul dpos).2 (by omega)
      omega
    have ea:a<0:=by
     by_cases h1:a<0
     ·exact h1
     ·rw [decide_eq_false h1] at hLd
      have:L=a:=hLd
      omega
    have ea2:a = -9223372036854775808:=by
     rw [decide_eq_true ea] at hLd
     have:L = -a:=hLd
     omega
    have eb:¬ b<0:=fun h1=>by
     rw [decide_eq_true h1] at hd
     have:dv = -b:=hd
     exact hbad ⟨ea2,by omega⟩
    rw [decide_eq_true ea,decide_eq_false eb]
    rfl
  rw [idK_R rfl (rng_of l0 (by omega)) (rng_of (by omega) (by omega)) dpos (by rw [eq]; exact hlim),idE_R,eq,er,finS_R,wi_wu hb]
  have t1:cond (decide (a<0) == decide (b<0)) (L / dv) (wu (0 - L / dv))=wu (Int.tdiv a b):=by
   by_cases ga:a<0
   ·by_cases gb:b<0
    ·rw [decide_eq_true ga] at hLd ⊢
     rw [decide_eq_true gb] at hd ⊢
     have e1:L = -a:=hLd
     have e2:dv = -b:=hd
     have:Int.tdiv a b=L / dv:=by rw [← Int.tdiv_eq_ediv_of_nonneg l0,e1,e2,Int.neg_tdiv,Int.tdiv_neg,Int.neg_neg]
     rw [this]
     show L / dv=wu (L / dv)
     rw [wu_mod]
     omega
    ·rw [decide_eq_true ga] at hLd ⊢
     rw [decide_eq_false gb] at hd ⊢
     have e1:L = -a:=hLd
     have e2:dv=b:=hd
     have:Int.tdiv a b = -(L / dv):=by rw [← Int.tdiv_eq_ediv_of_nonneg l0,e1,e2,Int.neg_tdiv,Int.neg_neg]
     rw [this]
     show wu (0 - L / dv)=wu (-(L / dv))
     rw [Int.zero_sub]
   ·by_cases gb:b<0
    ·rw [decide_eq_false ga] at hLd ⊢
     rw [decide_eq_true gb] at hd ⊢
     have e1:L=a:=hLd
     have e2:dv = -b:=hd
     have:Int.tdiv a b = -(L / dv):=by rw [← Int.tdiv_eq_ediv_of_nonneg l0,e1,e2,Int.tdiv_neg,Int.neg_neg]
     rw [this]
     show wu (0 - L / dv)=wu (-(L / dv))
     rw [Int.zero_sub]
    ·rw [decide_eq_false ga] at hLd ⊢
     rw [decide_eq_false gb] at hd ⊢
     have e1:L=a:=hLd
     have e2:dv=b:=hd
     have:Int.tdiv a b=L / dv:=by rw [← Int.tdiv_eq_ediv_of_nonneg l0,e1,e2]
     rw [this]
     show L / dv=wu (L / dv)
     rw [wu_mod]
     omega
  have t2:cond (decide (a<0)) (wu (0 - L % dv)) (L % dv)=wu (Int.tmod a b):=by
   have hm:Int.tmod a b=cond (decide (a<0)) (-(L % dv)) (L % dv):=by
    by_cases ga:a<0
    ·rw [decide_eq_true ga] at hLd ⊢
     have e1:L = -a:=hLd
     show _ = -(L % dv)
     rw [← Int.tmod_eq_emod_of_nonneg l0,e1]
     by_cases gb:b<0
     ·rw [decide_eq_true gb] at hd
      have e2:dv = -b:=hd
      rw [e2,Int.tmod_neg,Int.neg_tmod,Int.neg_neg]
     ·rw [decide_eq_false gb] at hd
      have e2:dv=b:=hd
      rw [e2,Int.neg_tmod,Int.neg_neg]
    ·rw [decide_eq_false ga] at hLd ⊢
     have e1:L=a:=hLd
     show _=L % dv
     rw [← Int.tmod_eq_emod_of_nonneg l0,e1]
     by_cases gb:b<0
     ·rw [decide_eq_true gb] at hd
      have e2:dv = -b:=hd
      rw [e2,Int.tmod_neg]
     ·rw [decide_eq_false gb] at hd
      have e2:dv=b:=hd
      rw [e2]
   rw [hm]
   cases decide (a<0)
   ·show L % dv=wu (L % dv)
    rw [wu_mod]
    omega
   ·show wu (0 - L % dv)=wu (-(L % dv))
    rw [Int.zero_sub]
  rw [t1,t2]
  rfl
 show cond (decide (b<0)) _ _=_
 by_cases gb:b<0
 ·rw [decide_eq_true gb] at hdv ⊢
  exact key _ (by rw [decide_eq_true gb]; exact hdv)
 ·rw [decide_eq_false gb] at hdv ⊢
  exact key _ (by rw [decide_eq_false gb]; exact hdv)
end Go.Ra

namespace Go.Ra
open Go Go.Ab Go.Proofs
theorem answer_post {fn:Func} {s:St} {v:V} (h:(answer Tryz.prog fn.results.toList s).run=some v):(s.1 = .ret∨s.1 = .normal)∧answerV Tryz.prog fn.results.toList s.2.2 s.2.1=some v:=by
 obtain ⟨e,t,H⟩:=s
 unfold answer at h
 split at h
 ·rename_i heq
  cases heq
  split at h
  ·rename_i v hv
   cases h
   exact ⟨.inl rfl,hv⟩
  ·cases h
 ·rename_i heq
  cases heq
  split at h
  ·rename_i v hv
   cases h
   exact ⟨.inr rfl,hv⟩
  ·cases h
 ·cases h
structure RnSt where
 k:Nat
 s:CpuT
 A:List Int
 B:List Int
 C:List Int
 D:List Int
 E:List Int
 hk:k≤80
 hs:Fine s
 hl:lens5 A B C D E=true
end Go.Ra

namespace Go.Ra
open Go Go.Ab Go.Proofs Go.Amd
theorem wi_wu2 (x:Int):wi (wu x)=wi x:=by
 rw [wi_def,wi_def,wu_mod,Int.emod_emod_of_dvd _ (Int.dvd_refl _)]
theorem tmod_rng {a b:Int} (ha:i64r a=true) (hb:i64r b=true) (h0:b ≠ 0):i64r (Int.tmod a b)=true:=by
 obtain ⟨a0,a1⟩:=i64_spec ha
 obtain ⟨b0,b1⟩:=i64_spec hb
 have pos:∀ x:Int,0≤x→0≤Int.tmod x b∧Int.tmod x b≤9223372036854775807:=by
  intro x hx
  rw [Int.tmod_eq_emod_of_nonneg hx]
  refine ⟨Int.emod_nonneg _ h0,?_⟩
  by_cases g:b<0
  ·rw [← Int.emod_neg]
   have:=Int.emod_lt_of_pos x (show 0 < -b by omega)
   omega
  ·have:=Int.emod_lt_of_pos x (show 0<b by omega)
   omega
 simp only [i64r,Bool.and_eq_true,decide_eq_true_eq]
 by_cases g:0≤a
 ·have:=pos a g
  omega
 ·have:=pos (-a) (by omega)
  rw [Int.neg_tmod] at this
  omega
theorem fine_sg (a b:Int):Fine (sgS a b):=by
 refine fine_of rfl ?_
 unfold fineB sgS
 simp only [List.all_cons,List.all_nil,rng_wu]
 rfl
def sgQ (a b:Int):CpuT:={ (putW 2 (wu (Int.fdiv a (2 ^ 63))) ⟨sgS a b,rfl⟩).1 with pc:=wu (0+wu 2) }
theorem fine_q (a b:Int):Fine (sgQ a b):=fine_pc (fine_put (t:=⟨sgS a b,rfl⟩) (fine_sg a b) 2 (rng_wu _)) (rng_wu _)
def sgD (a b:Int):CpuT:={ (putW 2 (wu (Int.tmod a b)) (putW 0 (wu (Int.tdiv a b)) ⟨sgQ a b,(fine_q a b).len⟩)).1 with pc:=wu (wu (0+wu 2)+wu 3) }
theorem out_cqo {a b:Int} (ha:i64r a=true) {A B C D E:List Int} (hl:lens5 A B C D E=true):outA [99,113,111] (sgS a b) 0 0 0 0 0 2 A B C D E=⟨sgQ a b,0,0,A,B,C,D,E⟩:=by
 refine outA_ok1 (row:=mvR (fun e S k=>inA e.a (k (S.set 3 (.int .u64 (wu (Int.fdiv (wi (e.s.x.getD 0 0)) (2 ^ 63))))))) [99,113,111]) 37 (by kernel_rfl) (by kernel_rfl) (fine_sg a b) (by decide) (by decide) (by kernel_rfl) hl rfl (fine_q a b).len ?_
 refine (row_cqo (sgS a b) (fine_sg a b) A B C D E 2 _).trans ?_
 have e:wi ((sgS a b).x.getD 0 0)=a:=wi_wu ha
 rw [e]
 rfl
theorem out_idiv {a b:Int} (ha:i64r a=true) (hb:i64r b=true) {A B C D E:List Int} (hl:lens5 A B C D E=true) :
  outA [105,100,105,118] (sgQ a b) 3 0 0 0 0 3 A B C D E=cond (bad2 a b) ⟨sgQ a b,0,21,A,B,C,D,E⟩ ⟨sgD a b,0,0,A,B,C,D,E⟩:=by
 have hr:=row_idiv (sgQ a b) (fine_q a b) A B C D E (r:=3) (sz:=3) rfl [105,100,105,118] ha hb rfl rfl rfl
 cases hbad:bad2 a b
 ·rw [hbad,cond_false] at hr
  rw [cond_false]
  exact outA_ok1 36 (by kernel_rfl) (by kernel_rfl) (fine_q a b) (by decide) (by decide) (by kernel_rfl) hl rfl (t:=sgD a b) (by
   show (((sgQ a b).x.set _ _).set _ _).length=32
   rw [List.length_set,List.length_set]
   exact (fine_q a b).len) hr
 ·rw [hbad,cond_true] at hr
  rw [cond_true]
  exact outA_bad1 36 (by kernel_rfl) (by kernel_rfl) (fine_q a b) (by decide) (by decide) (by kernel_rfl) hl rfl hr
theorem rcV_eq {f:OutFn} {nm:List UInt8} {s:CpuT} {a b c d m sz:Int} {A B C D E:List Int} {k:Out→Option V} (hl:lens5 A B C D E=true) (hs:Fine s) (hm:i64r m=true):rcV f nm s a b c d m sz A B C D E k=k (f nm s a b c d m sz A B C D E):=by
 unfold rcV
 rw [hl,fineB_of hs,hm]
 rfl
theorem sgX_true {a b:Int} (ha:i64r a=true) (hb:i64r b=true) {A B C D E:List Int} (hl:lens5 A B C D E=true):sgX outA a b A B C D E=some (.bool true):=by
 unfold sgX
 rw [rcV_eq hl (fine_sg a b) rfl,out_cqo ha hl]
 have et:tabS (sgQ a b)=sgQ a b:=cpu_tab (fine_q a b).len
 show rcV outA _ (tabS (sgQ a b)) 3 0 0 0 0 3 A B C D E _=_
 rw [et,rcV_eq hl (fine_q a b) rfl,out_idiv ha hb hl]
 show cond ((0:Int) != 0) noV (cond (wu (Int.fdiv a (2 ^ 63)) != wu (Int.fdiv a (2 ^ 63))) noV _)=_
 rw [bne_self_eq_false,bne_self_eq_false,cond_false,cond_false]
 have hbad:∀ d:Out,d=⟨sgQ a b,0,21,A,B,C,D,E⟩→sgBad ⟨sgQ a b,0,0,A,B,C,D,E⟩ d=some (.bool true):=by
  rintro d rfl
  unfold sgBad
  show cond ((21:Int) == 21) (bO (eqS (tabS (sgQ a b)) (tabS (sgQ a b)))) noV=_
  rw [eqS_self]
  rfl
 have hend:∀ d:Out,b ≠ 0→d=⟨sgD a b,0,0,A,B,C,D,E⟩→sgEnd a b d=some (.bool true):=by
  rintro d h0 rfl
  unfold sgEnd q0
  rw [decide_eq_false h0]
  show cond (wi (wu (Int.tdiv a b)) == wi (Int.tdiv a b)) (cond (wi (wu (Int.tmod a b)) == Int.tmod a b) (bO true) noV) noV=_
  rw [wi_wu2,wi_wu (tmod_rng ha hb h0),beq_self_eq_true,beq_self_eq_true]
  rfl
 by_cases h0:b=0
 ·have e1:bad2 a b=true:=by unfold bad2; rw [h0]; rfl
  have e2:(b == 0)=true:=by rw [h0]; rfl
  rw [e1,e2,cond_true,cond_true]
  exact hbad _ rfl
 ·have e2:(b == 0)=false:=beq_false_of_ne h0
  rw [e2,cond_false]
  unfold bad2
  rw [e2,Bool.false_or]
  cases h1:(a == -9223372036854775808)
  ·rw [Bool.false_and,cond_false,cond_false]
   exact hend _ h0 rfl
  ·rw [Bool.true_and,cond_true]
   cases h2:(b == -1)
   ·rw [cond_false,cond_false]
    exact hend _ h0 rfl
   ·rw [cond_true,cond_true]
    exact hbad _ rfl
set_option maxRecDepth 8000 in
theorem signed_law {a b:Int} (ha:i64r a=true) (hb:i64r b=true):PCall Tryz.prog 5 [.int .i64 a,.int .i64 b] (.bool true):=by
 have hok:=cxSg_ok runA_ok
 refine pcall_of' (c:=Bsg) (fn:=Tryz.f5) (by kernel_rfl) (by kernel_rfl) (by kernel_rfl) (by kernel_rfl) ?_
 refine AWP_headK (cx:=cxSg outA) rfl rfl hok 6 [0,1,5,7] (by kernel_rfl) (sg_head outA a b) ?_
 show AWP _ _ _ _ _ _
 have hl:=lens5_wd (l:=[]) (m:=[]) rfl rfl lens_zeros
 generalize wdK 1 [] [] zeros=A at hl
 generalize wdK 2 [] [] zeros=B at hl
 generalize wdK 16 [] [] zeros=C at hl
 generalize wdK 17 [] [] zeros=D at hl
 generalize wdK 32 [] [] zeros=E at hl
 have he:=(sg_eq outA a b A B C D E).trans (sgX_true ha hb hl)
 unfold sgE at he
 rw [Tree.fin_run] at he
 obtain ⟨r,q1,q2⟩:=bind_run he
 refine AWP_run (cx:=cxSg outA) rfl rfl hok q1 ?_
 exact answer_post q2
theorem has_i64' {y:Int} (h:IntKind.i64.has y):i64r y=true:=by
 have e1:IntKind.i64.min = -9223372036854775808∧IntKind.i64.max=9223372036854775807:=⟨rfl,rfl⟩
 unfold IntKind.has at h
 rw [e1.1,e1.2] at h
 simp only [i64r,Bool.and_eq_true,decide_eq_true_eq]
 omega
theorem signed_call (x:EC.tys [.int .i64,.int .i64]) (h:okEs [.int .i64,.int .i64] x):PCall Tryz.prog 5 (argVs [.int .i64,.int .i64] x) (.bool true):=
 signed_law (has_i64' h.1) (has_i64' h.2)
end Go.Ra

namespace Go.Ra
open Go Go.Ab Go.Proofs
noncomputable def cxPc (f:OutFn):Cx:={ P:=Tryz.prog,n:=Tryz.f4.ntmps,tab:=[(9,Go.Amd.begunS)],mtab:=[(11,runS f),(10,worldD),(13,storeM)],still:=[11],refs:=[],keeps:=[0,1,2,3,4,5,12,13,14,16,17,19,20,22,23,25,26,27,29,31,57,151,163],lz:=[66,70,176] }
theorem cxPc_ok {f:OutFn} (h:MSound Tryz.prog 11 (runS f)):CxOk (cxPc f):=⟨.cons Go.Amd.begunS_ok (.nil _),.cons h (.cons worldD_ok (.cons storeM_ok fun p h=>by cases h)),.nil _,fun p h=>by cases h⟩
noncomputable abbrev Bpc:Code:=bodyOf Tryz.f4
def scF (d:Int):Int:=wi (1*2 ^ Min.min (Int.toNat (Int.tmod d 4)) 64)
def plL (b c x y d n:Int) (o:Bool):T:=[(0,.int .i64 b),(1,.int .i64 c),(2,.int .u64 x),(3,.int .u64 y),(4,.int .u8 d),(5,.int .i32 n),(12,.bool o),(13,.int .i64 (scF d)),(31,.bool false),(57,.bool o)]
def plR (b c x y d n:Int):Tree St:=.leaf (.ret,plL b c x y d n true,[])
def plH (b c x y d n:Int):Tree St:=.br (decide (0≤Int.tmod d 4)) (.br (decide (b<0)) (plR b c x y d n) (.br (decide (15<b)) (plR b c x y d n) (.br (decide (c<0)) (plR b c x y d n) (.br (decide (15<c)) (plR b c x y d n)
 (.br (c == 4) (plR b c x y d n) (.br (b == c) (plR b c x y d n) (.leaf (.normal,plL b c x y d n false,[])))))))) .fail
theorem pl_head (f:OutFn) (b c x y d n:Int):(dcode (cxPc f) (headN 3 Bpc) (initT 0 [.int .i64 b,.int .i64 c,.int .u64 x,.int .u64 y,.int .u8 d,.int .i32 n]) []).run=(plH b c x y d n).run:=
 (show _=(plH b c x y d n).out by kernel_rfl).trans (Tree.out_run _)
def plT0 (b c x y sc n:Int):T:=[(0,.int .i64 b),(1,.int .i64 c),(2,.int .u64 x),(3,.int .u64 y),(5,.int .i32 n),(13,.int .i64 sc)]
def plT (b c x y sc n:Int):T:=[(0,.int .i64 b),(1,.int .i64 c),(2,.int .u64 x),(3,.int .u64 y),(5,.int .i32 n),(13,.int .i64 sc),(14,.ptr 0 0)]
theorem pl_world (f:OutFn) (b c x y sc n:Int):(dcode (cxPc f) (headN 0 (tailN 3 Bpc)) (plT0 b c x y sc n) []).run.map (fun s=>(s.1,keep [0,1,2,3,5,13,14] s.2.1,s.2.2)) =
  some (.normal,plT b c x y sc n,bothO (wdK 1 [] [] zeros) (wdK 2 [] [] zeros) (wdK 16 [] [] zeros) (wdK 17 [] [] zeros) (wdK 32 [] [] zeros)):=by kernel_rfl
def plZ:CpuT:=⟨4096,[0,0,0,0,0,0,0,0,0,0,0,0,0,0,0,0,0,0,0,0,0,0,0,0,0,0,0,0,0,0,0,0],false,false,false,false,0⟩
def pK (b v:Int) (K:List V):List V:=setI .u64 (1+b.toNat*1) v 0 K
def pQ (b:Int) (K:List V) (k:Option V):Option V:=cond (inside b 32) (cond (isIntAt .u64 K (1+b.toNat*1)) k none) none
def cpuC (K:List V):CpuT:=(cpuOf K).getD plZ
def plX3 (f:OutFn) (b c x y sc n at_:Int) (K:List V) (A B C D E:List Int):Option V:=
 pQ b K (rcV f [109,111,118,46,114,109] (cpuC (pK b (wu (wu (at_ - wu (y*wu sc)) - wu (wi n))) K)) 9 b c sc (wi n) 8 A B C D E fun v=>cond (v.err == 0) (bO (v.s.x.getD 9 0 == xorU x y)) noV)
def plX2 (f:OutFn) (b c x y sc n at_:Int) (K:List V) (A B C D E:List Int):Option V:=
 cond (true && lens5 A B C D E) (cond (rng64 at_ && szB 8) (cond ((cond (mayB at_ 8 2) (0:Int) 21) != 0) noV
  (plX3 f b c x y sc n at_ K (stB 1 at_ 8 (xorU x y) A) (stB 2 at_ 8 (xorU x y) B) (stB 16 at_ 8 (xorU x y) C) (stB 17 at_ 8 (xorU x y) D) (stB 32 at_ 8 (xorU x y) E))) none) none
def plX1 (f:OutFn) (b c x y sc n:Int) (K:List V) (A B C D E:List Int):Option V:=
 rcV f [108,101,97] (cpuC K) 2 b c sc (wi n) 8 A B C D E fun l=>rcV f [108,101,97] (cpuC K) 2 b 16 0 (wi n) 8 l.A l.B l.C l.D l.E fun m=>rcV f [108,101,97] (cpuC K) 2 17 16 0 (wi n) 8 m.A m.B m.C m.D m.E fun r =>
  cond (l.err != 0) noV (cond (m.err != 0) noV (cond (r.err != 0) noV (cond (l.s.x.getD 2 0 != wu (wu (x+wu (y*wu sc))+wu (wi n))) noV (cond (m.s.x.getD 2 0 != wu (x+wu (wi n))) noV (cond (r.s.x.getD 2 0 != wu (4104+wu (wi n))) noV
   (plX2 f b c x y sc n (wu (65536+Int.tmod (l.s.x.getD 2 0) 8184)) K r.A r.B r.C r.D r.E))))))
def plX (f:OutFn) (b c x y sc n:Int) (A B C D E:List Int):Option V:=
 pQ b plZ.l (pQ c (pK b x plZ.l) (plX1 f b c x y sc n (pK c y (pK b x plZ.l)) A B C D E))
noncomputable def plE (f:OutFn) (b c x y sc n:Int) (A B C D E:List Int):Option V:=((dcode (cxPc f) (tailN 0 (tailN 3 Bpc)) (plT b c x y sc n) (bothO A B C D E)).bind (answer Tryz.prog Tryz.f4.results.toList)).fin
theorem pl_eq (f:OutFn) (b c x y sc n:Int) (A B C D E:List Int):plE f b c x y sc n A B C D E=plX f b c x y sc n A B C D E:=by kernel_rfl
end Go.Ra

namespace Go.Ra
open Go Go.Ab Go.Proofs Go.Amd
theorem enc_mem {nm:List UInt8} (hf:fok nm=true) (h1:uM (frow nm)=true) (h2:uI (frow nm)=true) (lo:lowR (frow nm) = -2147483648) (hi:highR (frow nm)=2147483647) {a b c d m:Int} (ha:regF a (uA (frow nm))=true) (hp:placeF b c d=true)
  (m0 : -2147483648≤m) (m1:m≤2147483647):encE (nm,a,b,c,d,m)=0:=by
 unfold encE
 simp only [hf,cond_true]
 unfold faultyF tailF okF
 simp only [h1,h2,lo,hi,ha,hp,cond_true,Bool.not_true,cond_false]
 rw [decide_eq_false (by omega),decide_eq_false (by omega)]
 rfl
theorem may_data {x r:Int} (h0:65536≤x) (h1:x≤73720) (hr:r=2∨r=4):mayB x 8 r=true:=by
 have hx:rng64 x=true:=rng_of (by omega) (by omega)
 have he:endF x 8=x+7:=by
  have e:endF x 8=((x+8 % 18446744073709551616) % 18446744073709551616 - 1) % 18446744073709551616:=rfl
  rw [e]
  omega
 have ok:∀ k:Int,(k=16∨k=17)→okP r k=true:=by
  rintro k (rfl | rfl) <;> rcases hr with rfl | rfl <;> rfl
 unfold mayB
 rw [he,decide_eq_true (by omega),pgF_eq hx,pgF_eq (rng_of (by omega) (by omega):rng64 (x+7)=true),ok _ (by omega),ok ((x+7) / 4096) (by omega),Bool.or_true]
 rfl
section
variable {s:CpuT} (hs:Fine s) (A B C D E:List Int) {b c d m sz:Int} (nm:List UInt8)
theorem adK_1 {e:EnvR} (h17:(e.b == 17)=false) (hb:okReg e.b=true) (h16:(e.c != 16)=true) (hc:okReg e.c=true) (t:W) (T:List V) (k:Int→Option Res):adK e (t.1.l++T) k=k (wu (wu (wu e.m+regW t e.b)+wu (regW t e.c*wu e.d))):=by
 unfold adK adK2
 rw [h17,cond_false,inX_R hb,h16,cond_true,inX_R hc]
theorem adK_2 {e:EnvR} (h17:(e.b == 17)=false) (hb:okReg e.b=true) (h16:e.c=16) (t:W) (T:List V) (k:Int→Option Res):adK e (t.1.l++T) k=k (wu (wu e.m+regW t e.b)):=by
 unfold adK adK2
 rw [h17,cond_false,inX_R hb,h16]
 rfl
theorem adK_3 {e:EnvR} (h17:e.b=17) (h16:e.c=16) (S:List V) (k:Int→Option Res):adK e S k=k (wu (wu e.m+e.bk)):=by
 unfold adK adK2
 rw [h17,h16]
 rfl
include hs
theorem row_lea {p:Int} (ha:∀ (T:List V) (k:Int→Option Res),adK (envF s nm 2 b c d m sz A B C D E) ((⟨s,hs.len⟩:W).1.l++T) k=k p) :
  mvR (fun e S k=>inA e.a (adK e S fun x=>putX e.a x S k)) nm s 2 b c d m sz A B C D E=outK ({ (putW 2 p ⟨s,hs.len⟩).1 with pc:=wu (s.pc+wu sz) }:CpuT).l 0 (memO A B C D E):=by
 unfold mvR
 rw [stC_eq _ hs.len]
 refine (inA_R rfl _).trans ((ha _ _).trans ?_)
 refine (putX_R rfl ⟨s,hs.len⟩ _ _ _).trans ?_
 exact finS_R _ _ _ _
theorem row_ld8 (hl:lens5 A B C D E=true) {p:Int} (hp:rng64 p=true) (hm:mayB p 8 4=true) (ha:∀ (T:List V) (k:Int→Option Res),adK (envF s nm 9 b c d m sz A B C D E) ((⟨s,hs.len⟩:W).1.l++T) k=k p) :
  ldR 8 (fun x=>x) nm s 9 b c d m sz A B C D E=outK ({ (putW 9 (valLd A B C D E p 8) ⟨s,hs.len⟩).1 with pc:=wu (s.pc+wu sz) }:CpuT).l 0 (memO A B C D E):=by
 unfold ldR mvR
 rw [stC_eq _ hs.len]
 refine (inA_R rfl _).trans ((ha _ _).trans ((loadK_R (e:=envF s nm 9 b c d m sz A B C D E) hl hp 8 _).trans ?_))
 have e0:(errLd p 8 != 0)=false:=by
  unfold errLd
  rw [hm]
  rfl
 rw [e0,cond_false]
 refine (putX_R rfl ⟨s,hs.len⟩ _ _ _).trans ?_
 exact finS_R _ _ _ _
end
theorem pK_R {b:Int} (hb:okReg b=true) (v:Int) (t:W):pK b v t.1.l=(putW b v t).1.l:=by
 obtain ⟨h0,h1⟩:=okReg_in hb
 have h:=setI_cpu t.2 (n:=b.toNat) (by omega) v []
 simp only [List.append_nil] at h
 unfold pK
 rw [Nat.mul_one]
 exact h
theorem pQ_R {b:Int} (hb:okReg b=true) (t:W) (k:Option V):pQ b t.1.l k=k:=by
 obtain ⟨h0,h1⟩:=okReg_in hb
 have h:=isInt_cpu t.2 (n:=b.toNat) (by omega) []
 rw [List.append_nil] at h
 unfold pQ
 rw [inside_of h0 (by omega),Nat.mul_one,h]
 rfl
theorem cpuC_R (t:W):cpuC t.1.l=t.1:=by
 unfold cpuC
 rw [cpuOf_l t.2]
 rfl
theorem regW_ne {t:W} {a b:Int} (ha:okReg a=true) (hb:okReg b=true) (h:a ≠ b) (v:Int):regW (putW a v t) b=regW t b:=by
 obtain ⟨a0,a1⟩:=okReg_in ha
 obtain ⟨b0,b1⟩:=okReg_in hb
 show (t.1.x.set a.toNat v).getD b.toNat 0=t.1.x.getD b.toNat 0
 rw [List.getD_eq_getElem?_getD,List.getElem?_set_ne (by omega),← List.getD_eq_getElem?_getD]
abbrev wZ:W:=⟨plZ,rfl⟩
theorem fine_Z:Fine wZ.1:=fine_of rfl rfl
theorem i32_rng {n:Int} (h:IntKind.i32.has n) : -2147483648≤n∧n≤2147483647:=h
theorem sc_or {d:Int} (h0:0≤d):scF d=1∨scF d=2∨scF d=4∨scF d=8:=by
 unfold scF
 rw [Int.tmod_eq_emod_of_nonneg h0]
 have h:d % 4=0∨d % 4=1∨d % 4=2∨d % 4=3:=by omega
 rcases h with h | h | h | h <;> rw [h]
 ·exact .inl rfl
 ·exact .inr (.inl rfl)
 ·exact .inr (.inr (.inl rfl))
 ·exact .inr (.inr (.inr rfl))
set_option maxHeartbeats 1000000 in
theorem plX_true {b c x y sc n:Int} (b0:0≤b) (b1:b≤15) (c0:0≤c) (c1:c≤15) (c4:c ≠ 4) (hbc:b ≠ c) (hx:rng64 x=true) (hy:rng64 y=true) (n0 : -2147483648≤n) (n1:n≤2147483647) (hsc:sc=1∨sc=2∨sc=4∨sc=8)
  {A B C D E:List Int} (hl:lens5 A B C D E=true):plX outA b c x y sc n A B C D E=some (.bool true):=by
 have hb:okReg b=true:=okReg_of ⟨b0,by omega⟩
 have hc:okReg c=true:=okReg_of ⟨c0,by omega⟩
 have hn:wi n=n:=wi_mid (by omega) (by omega)
 have hm:i64r n=true:=by simp only [i64r,Bool.and_eq_true,decide_eq_true_eq]; omega
 have b17:(b == 17)=false:=by rw [beq_eq_false_iff_ne]; omega
 have c16:(c != 16)=true:=by rw [bne_iff_ne]; omega
 have hpl:placeF b c sc=true:=by
  unfold placeF baseF scaleF
  have e1:(c == 16)=false:=by rw [beq_eq_false_iff_ne]; omega
  have e2:(b != 17)=true:=by rw [bne_iff_ne]; omega
  have e3:(c != 4)=true:=by rw [bne_iff_ne]; exact c4
  rw [e1,e2,e3,b17,decide_eq_true b0,decide_eq_true b1,decide_eq_true c0,decide_eq_true c1]
  rcases hsc with rfl | rfl | rfl | rfl <;> rfl
 have hpl2:placeF b 16 0=true:=by
  unfold placeF baseF
  rw [b17,decide_eq_true b0,decide_eq_true b1]
  rfl
 unfold plX
 rw [pQ_R hb wZ,pK_R hb x wZ,pQ_R hc,pK_R hc]
 generalize ht:putW c y (putW b x wZ)=t
 have hf:Fine t.1:=by
  rw [← ht]
  exact fine_put (fine_put fine_Z b hx) c hy
 have rb:regW t b=x:=by
  rw [← ht,regW_ne hc hb (fun h=>hbc h.symm),regW_put hb]
 have rc:regW t c=y:=by
  rw [← ht,regW_put hc]
 have hpc:t.1.pc=4096:=by rw [← ht]; rfl
 unfold plX1
 rw [cpuC_R,hn,rcV_eq hl hf hm]
 have o1:outA [108,101,97] t.1 2 b c sc n 8 A B C D E=_:=outA_ok1 (row:=mvR (fun e S k=>inA e.a (adK e S fun x=>putX e.a x S k)) [108,101,97]) 7 (by kernel_rfl) (by kernel_rfl) hf (by decide) (by decide) (enc_mem (by kernel_rfl) (by kernel_rfl) (by kernel_rfl) (by kernel_rfl) (by kernel_rfl) (by kernel_rfl) hpl n0 n1) hl hm
  (t:={ (putW 2 (wu (wu (wu n+regW t b)+wu (regW t c*wu sc))) t).1 with pc:=wu (t.1.pc+wu 8) }) (putW 2 _ t).2 (row_lea hf A B C D E _ fun T k=>adK_1 (e:=envF t.1 _ 2 b c sc n 8 A B C D E) b17 hb c16 hc t T k)
 have o2:outA [108,101,97] t.1 2 b 16 0 n 8 A B C D E=_:=outA_ok1 (row:=mvR (fun e S k=>inA e.a (adK e S fun x=>putX e.a x S k)) [108,101,97]) 7 (by kernel_rfl) (by kernel_rfl) hf (by decide) (by decide) (enc_mem (by kernel_rfl) (by kernel_rfl) (by kernel_rfl) (by kernel_rfl) (by kernel_rfl) (by kernel_rfl) hpl2 n0 n1) hl hm
  (t:={ (putW 2 (wu (wu n+regW t b)) t).1 with pc:=wu (t.1.pc+wu 8) }) (putW 2 _ t).2 (row_lea hf A B C D E _ fun T k=>adK_2 (e:=envF t.1 _ 2 b 16 0 n 8 A B C D E) b17 hb rfl t T k)
 have o3:outA [108,101,97] t.1 2 17 16 0 n 8 A B C D E=_:=outA_ok1 (row:=mvR (fun e S k=>inA e.a (adK e S fun x=>putX e.a x S k)) [108,101,97]) 7 (by kernel_rfl) (by kernel_rfl) hf (by decide) (by decide) (enc_mem (by kernel_rfl) (by kernel_rfl) (by kernel_rfl) (by kernel_rfl) (by kernel_rfl) (by kernel_rfl) (by kernel_rfl) n0 n1) hl hm
  (t:={ (putW 2 (wu (wu n+wu (t.1.pc+wu 8))) t).1 with pc:=wu (t.1.pc+wu 8) }) (putW 2 _ t).2 (row_lea hf A B C D E _ fun T k=>adK_3 (e:=envF t.1 _ 2 17 16 0 n 8 A B C D E) rfl rfl _ k)
 rw [o1]
 show rcV outA _ t.1 2 b 16 0 n 8 A B C D E _=_
 rw [rcV_eq hl hf hm,o2]
 show rcV outA _ t.1 2 17 16 0 n 8 A B C D E _=_
 rw [rcV_eq hl hf hm,o3]
 have g2:∀ v:Int,({ (putW 2 v t).1 with pc:=wu (t.1.pc+wu 8) }:CpuT).x.getD 2 0=v:=fun v=>regW_put (t:=t) (a:=2) rfl v
 show cond ((0:Int) != 0) noV (cond ((0:Int) != 0) noV (cond ((0:Int) != 0) noV (cond (({ (putW 2 (wu (wu (wu n+regW t b)+wu (regW t c*wu sc))) t).1 with pc:=wu (t.1.pc+wu 8) }:CpuT).x.getD 2 0 != wu (wu (x+wu (y*wu sc))+wu n)) noV
  (cond (({ (putW 2 (wu (wu n+regW t b)) t).1 with pc:=wu (t.1.pc+wu 8) }:CpuT).x.getD 2 0 != wu (x+wu n)) noV (cond (({ (putW 2 (wu (wu n+wu (t.1.pc+wu 8))) t).1 with pc:=wu (t.1.pc+wu 8) }:CpuT).x.getD 2 0 != wu (4104+wu n)) noV
   (plX2 outA b c x y sc n (wu (65536+Int.tmod (({ (putW 2 (wu (wu (wu n+regW t b)+wu (regW t c*wu sc))) t).1 with pc:=wu (t.1.pc+wu 8) }:CpuT).x.getD 2 0) 8184)) t.1.l A B C D E))))))=_
 rw [g2,g2,g2,rb,rc,hpc]
 have q1:wu (wu (wu n+x)+wu (y*wu sc))=wu (wu (x+wu (y*wu sc))+wu n):=by
  generalize y*wu sc=z
  simp only [wu_mod]
  omega
 have q2:wu (wu n+x)=wu (x+wu n):=by rw [Int.add_comm]
 have q3:wu (wu n+wu (4096+wu 8))=wu (4104+wu n):=by
  have:wu (4096+wu 8)=4104:=rfl
  rw [this,Int.add_comm]
 rw [q1,q2,q3]
 simp only [bne_self_eq_false,cond_false]
 have hat:0≤Int.tmod (wu (wu (x+wu (y*wu sc))+wu n)) 8184∧Int.tmod (wu (wu (x+wu (y*wu sc))+wu n)) 8184<8184:=by
  have:=(rng_spec (rng_wu (wu (x+wu (y*wu sc))+wu n))).1
  rw [Int.tmod_eq_emod_of_nonneg this]
  omega
 generalize Int.tmod (wu (wu (x+wu (y*wu sc))+wu n)) 8184=r at hat
 have ea:wu (65536+r)=65536+r:=by rw [wu_mod]; omega
 rw [ea]
 generalize hp:65536+r=p
 have p0:65536≤p:=by omega
 have p1:p≤73720:=by omega
 have hpr:rng64 p=true:=rng_of (by omega) (by omega)
 have m2:=may_data p0 p1 (.inl rfl)
 have m4:=may_data p0 p1 (.inr rfl)
 have hl' := lens5_stB hl p 8 (xorU x y)
 have hv:=ld_st hl hpr (xorU_rng x y) m2 m4
 unfold plX2
 rw [hl,hpr,m2]
 show plX3 outA b c x y sc n p t.1.l (stB 1 p 8 (xorU x y) A) (stB 2 p 8 (xorU x y) B) (stB 16 p 8 (xorU x y) C) (stB 17 p 8 (xorU x y) D) (stB 32 p 8 (xorU x y) E)=_
 generalize stB 1 p 8 (xorU x y) A=A' at hl' hv ⊢
 generalize stB 2 p 8 (xorU x y) B=B' at hl' hv ⊢
 generalize stB 16 p 8 (xorU x y) C=C' at hl' hv ⊢
 generalize stB 17 p 8 (xorU x y) D=D' at hl' hv ⊢
 generalize stB 32 p 8 (xorU x y) E=E' at hl' hv ⊢
 unfold plX3
 rw [pQ_R hb t,pK_R hb,cpuC_R,hn]
 generalize hu:putW b (wu (wu (p - wu (y*wu sc)) - wu n)) t=u
 have hfu:Fine u.1:=by
  rw [← hu]
  exact fine_put hf b (rng_wu _)
 have ub:regW u b=wu (wu (p - wu (y*wu sc)) - wu n):=by
  rw [← hu,regW_put hb]
 have uc:regW u c=y:=by
  rw [← hu,regW_ne hb hc hbc,rc]
 have ead:wu (wu (wu n+regW u b)+wu (regW u c*wu sc))=p:=by
  rw [ub,uc]
  generalize y*wu sc=z
  simp only [wu_mod]
  omega
 have o4:outA [109,111,118,46,114,109] u.1 9 b c sc n 8 A' B' C' D' E' = _:=outA_ok1 (row:=ldR 8 (fun x=>x) [109,111,118,46,114,109]) 3 (by kernel_rfl) (by kernel_rfl) hfu (by decide) (by decide) (enc_mem (by kernel_rfl) (by kernel_rfl) (by kernel_rfl) (by kernel_rfl) (by kernel_rfl) (by kernel_rfl) hpl n0 n1) hl' hm
  (t:={ (putW 9 (valLd A' B' C' D' E' p 8) u).1 with pc:=wu (u.1.pc+wu 8) }) (putW 9 _ u).2 (row_ld8 hfu A' B' C' D' E' _ hl' hpr m4 fun T k=>(adK_1 (e:=envF u.1 _ 9 b c sc n 8 A' B' C' D' E') b17 hb c16 hc u T k).trans (congrArg k ead))
 rw [rcV_eq hl' hfu hm,o4]
 have g9:∀ v:Int,({ (putW 9 v u).1 with pc:=wu (u.1.pc+wu 8) }:CpuT).x.getD 9 0=v:=fun v=>regW_put (t:=u) (a:=9) rfl v
 show cond ((0:Int) == 0) (bO (({ (putW 9 (valLd A' B' C' D' E' p 8) u).1 with pc:=wu (u.1.pc+wu 8) }:CpuT).x.getD 9 0 == xorU x y)) noV=_
 rw [g9,hv,beq_self_eq_true,beq_self_eq_true]
 rfl
set_option maxRecDepth 8000 in
theorem places_law {b c x y d n:Int} (hx:rng64 x=true) (hy:rng64 y=true) (hd:0≤d) (n0 : -2147483648≤n) (n1:n≤2147483647) :
  PCall Tryz.prog 4 [.int .i64 b,.int .i64 c,.int .u64 x,.int .u64 y,.int .u8 d,.int .i32 n] (.bool true):=by
 have hok:=cxPc_ok runA_ok
 refine pcall_of' (c:=Bpc) (fn:=Tryz.f4) (by kernel_rfl) (by kernel_rfl) (by kernel_rfl) (by kernel_rfl) ?_
 refine AWP_headE (cx:=cxPc outA) rfl rfl hok 3 (by kernel_rfl) (pl_head outA b c x y d n) ?_
 have hd4:decide (0≤Int.tmod d 4)=true:=by
  rw [Int.tmod_eq_emod_of_nonneg hd]
  exact decide_eq_true (by omega)
 have hret:∀ (h:True),(plR b c x y d n).all (fun s=>seqQ (AWP Tryz.prog Tryz.f4.ntmps (tailN 3 Bpc) fun e t H=>(e = .ret∨e = .normal)∧answerV Tryz.prog Tryz.f4.results.toList H t=some (.bool true)) (fun e t H=>(e = .ret∨e = .normal)∧answerV Tryz.prog Tryz.f4.results.toList H t=some (.bool true)) s.1 s.2.1 s.2.2):=
  fun _=>⟨.inl rfl,by kernel_rfl⟩
 refine all_t hd4 ⟨fun _=>hret trivial,fun hb0=>⟨fun _=>hret trivial,fun hb1=>⟨fun _=>hret trivial,fun hc0=>⟨fun _=>hret trivial,fun hc1=>⟨fun _=>hret trivial,fun hc4=>⟨fun _=>hret trivial,fun hbc=>?_⟩⟩⟩⟩⟩⟩
 have hb0:=of_decide_eq_false hb0
 have hb1:=of_decide_eq_false hb1
 have hc0:=of_decide_eq_false hc0
 have hc1:=of_decide_eq_false hc1
 have hc4:c ≠ 4:=beq_eq_false_iff_ne.1 hc4
 have hbc:b ≠ c:=beq_eq_false_iff_ne.1 hbc
 show AWP _ _ _ _ _ _
 refine AWP.less (s:=plT0 b c x y (scF d) n) (Fits.tle ⟨rfl,rfl,rfl,rfl,rfl,rfl,trivial⟩) ?_
 refine AWP_headK (cx:=cxPc outA) rfl rfl hok 0 [0,1,2,3,5,13,14] (by kernel_rfl) (pl_world outA b c x y (scF d) n) ?_
 show AWP _ _ _ _ _ _
 have hl:=lens5_wd (l:=[]) (m:=[]) rfl rfl lens_zeros
 generalize wdK 1 [] [] zeros=A at hl
 generalize wdK 2 [] [] zeros=B at hl
 generalize wdK 16 [] [] zeros=C at hl
 generalize wdK 17 [] [] zeros=D at hl
 generalize wdK 32 [] [] zeros=E at hl
 have he:=(pl_eq outA b c x y (scF d) n A B C D E).trans (plX_true (by omega) (by omega) (by omega) (by omega) hc4 hbc hx hy n0 n1 (sc_or hd) hl)
 unfold plE at he
 rw [Tree.fin_run] at he
 obtain ⟨r,q1,q2⟩:=bind_run he
 refine AWP_run (cx:=cxPc outA) rfl rfl hok q1 ?_
 exact answer_post q2
theorem places_call (x:EC.tys [.int .i64,.int .i64,.int .u64,.int .u64,.int .u8,.int .i32]) (h:okEs [.int .i64,.int .i64,.int .u64,.int .u64,.int .u8,.int .i32] x) :
  PCall Tryz.prog 4 (argVs [.int .i64,.int .i64,.int .u64,.int .u64,.int .u8,.int .i32] x) (.bool true):=by
 obtain ⟨_,_,h3,h4,h5,h6⟩:=h
 have h5:(0:Int)≤x.2.2.2.2.1:=h5.1
 exact places_law (has_rng h3) (has_rng h4) h5 (i32_rng h6).1 (i32_rng h6).2
end Go.Ra
