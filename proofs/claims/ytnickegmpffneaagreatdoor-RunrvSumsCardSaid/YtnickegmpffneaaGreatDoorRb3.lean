/-
  runrv: the law Sums. Conditions: none.
-/
import Derived.Test.YtnickegmpffneaaGreatDoorPk41
import Derived.Test.YtnickegmpffneaaGreatDoorRb2
import Derived.Test.YtnickegmpffneaaGreatDoorPk35
import Derived.Test.YtnickegmpffneaaGreatDoorPk12
set_option linter.unusedVariables false
set_option linter.unusedSimpArgs false
namespace Go.Ra
open Go Go.Ab Go.Proofs
noncomputable def suB:Tabs:={ tab:=[(8,begunS)],mtab:=[(10,sumM)] }
theorem suB_ok:suB.Ok Tryz.prog:=⟨ok1 begunS_ok,.cons sumM_ok (fun p h=>by cases h),.nil _,fun p h=>by cases h⟩
noncomputable def suT_ps:List Fi:=[]
theorem suT_ps_ok:FisOk Tryz.prog suT_ps:=trivial
noncomputable def suT_ms:List Fi:=[⟨9,Tryz.f9,[0],[],0,[]⟩]
theorem suT_ms_ok:FisOk Tryz.prog suT_ms:=⟨⟨by kernel_rfl,by kernel_rfl⟩,trivial⟩
noncomputable def suT (d:Nat):Tabs:=deep Tryz.prog suB suT_ps suT_ms d
noncomputable def cxSu:Cx:={ P:=Tryz.prog,n:=Tryz.f3.ntmps,tab:=(suT 1).tab,mtab:=(suT 1).mtab,refs:=[],keeps:=[0,1,4,5,6,7,8,9,11,12,14,16,28,76,120],fuel:=9,still:=[10] }
theorem cxSu_ok:CxOk cxSu:=deep_ok suB_ok suT_ps_ok suT_ms_ok 1
def suNo:Option V:=some (.bool false)
def suMid (a b Q R:Int) (k:Option V):Option V:=
 (cond ((wu (wu (Q*b)+R)) != (a)) (cond ((b) != (0)) suNo (cond ((b) != (0)) (cond (decide ((b)≤(R))) suNo (cond ((b) == (0)) (cond ((Q) != (18446744073709551615)) suNo (cond ((R) != (a)) suNo k)) k)) (cond ((b) == (0)) (cond ((Q) != (18446744073709551615)) suNo (cond ((R) != (a)) suNo k)) k))) (cond ((b) != (0)) (cond (decide ((b)≤(R))) suNo (cond ((b) == (0)) (cond ((Q) != (18446744073709551615)) suNo (cond ((R) != (a)) suNo k)) k)) (cond ((b) == (0)) (cond ((Q) != (18446744073709551615)) suNo (cond ((R) != (a)) suNo k)) k)))
def suEnd (a b D M S B P H:Int):Option V:=
 (cond ((wu (wu (D*b)+M)) == (a)) (cond ((wu (S - b)) == (a)) (cond ((wu (B+b)) == (a)) (cond ((P) == (wu (a*b))) (cond (decide ((4294967296)≤(b))) (some (.bool (true))) (cond (decide ((4294967296)≤(a))) (some (.bool (true))) (some (.bool ((H) == (0)))))) (some (.bool (false)))) (some (.bool (false)))) (some (.bool (false)))) (some (.bool (false))))
def rqN (c:Bool) (k:Option V):Nat→Option V
 | 0=>k
 | n+1=>cond c (rqN c k n) none
def suX (a b:Int):Option V:=
 rqN (rng64 a && rng64 b) (suMid a b (uqF a b) (urF a b) (suEnd a b (dqF (wi a) (wi b)) (drF (wi a) (wi b)) (wu (a+b)) (wu (a - b)) (wu (a*b)) (mulHi a b))) 16
theorem su_eq (a b:Int):(dfun cxSu Tryz.f3 [.int .u64 a,.int .u64 b]).fin=suX a b:=by kernel_rfl
theorem tdiv_pos {a b:Int} (a0:0≤a):Int.tdiv a b=a / b:=Int.tdiv_eq_ediv_of_nonneg a0
theorem tmod_pos {a b:Int} (a0:0≤a):Int.tmod a b=a % b:=Int.tmod_eq_emod_of_nonneg a0
theorem wi_cong (x:Int):wi x % 18446744073709551616=x % 18446744073709551616:=by
 rw [wi_def]
 split <;> omega
theorem mul_cong {x y z w:Int} (h:x % 18446744073709551616=z % 18446744073709551616) (g:y % 18446744073709551616=w % 18446744073709551616):(x*y) % 18446744073709551616=(z*w) % 18446744073709551616:=by
 rw [Int.mul_emod,h,g,← Int.mul_emod]
theorem add_cong {x y z w:Int} (h:x % 18446744073709551616=z % 18446744073709551616) (g:y % 18446744073709551616=w % 18446744073709551616):(x+y) % 18446744073709551616=(z+w) % 18446744073709551616:=by
 rw [Int.add_emod,h,g,← Int.add_emod]
theorem mod_mod (x:Int):x % 18446744073709551616 % 18446744073709551616=x % 18446744073709551616:=Int.emod_emod_of_dvd _ (Int.dvd_refl _)
theorem signed_back {a b:Int} (ha:rng64 a=true):wu (wu (dqF (wi a) (wi b)*b)+drF (wi a) (wi b))=a:=by
 have key:(wu (dqF (wi a) (wi b)*b)+drF (wi a) (wi b)) % 18446744073709551616=wi a % 18446744073709551616:=by
  have hb:=wi_cong b
  unfold dqF drF
  by_cases h0:wi b=0
  ·rw [h0]
   rw [h0] at hb
   show (wu (18446744073709551615*b)+wu (wi a)) % 18446744073709551616=_
   have e:wu (18446744073709551615*b)=0:=by
    rw [wu_def]
    omega
   rw [e,wu_def]
   omega
  have e0:(wi b == 0)=false:=by simpa using h0
  rw [e0,cond_false,cond_false]
  by_cases h1:wi b = -1
  ·rw [h1]
   rw [h1] at hb
   show (wu (wu (wi (0 - wi a))*b)+0) % 18446744073709551616=_
   have e:(wu (wi (0 - wi a))*b) % 18446744073709551616=((0 - wi a)*(-1)) % 18446744073709551616:=by
    refine mul_cong ?_ (by omega)
    rw [wu_def,mod_mod,wi_cong]
   rw [wu_def,e]
   omega
  ·have e1:(wi b == -1)=false:=by simpa using h1
   rw [e1,cond_false,cond_false]
   have e:(wu (wi (Int.tdiv (wi a) (wi b)))*b) % 18446744073709551616=(Int.tdiv (wi a) (wi b)*wi b) % 18446744073709551616:=by
    refine mul_cong ?_ hb.symm
    rw [wu_def,mod_mod,wi_cong]
   have e2:(wu (wu (wi (Int.tdiv (wi a) (wi b)))*b)+wu (Int.tmod (wi a) (wi b))) % 18446744073709551616=(Int.tdiv (wi a) (wi b)*wi b+Int.tmod (wi a) (wi b)) % 18446744073709551616:=by
    refine add_cong ?_ ?_
    ·rw [wu_def,mod_mod,e]
    ·rw [wu_def,mod_mod]
   rw [e2,Int.add_comm,Int.mul_comm,Int.tmod_add_mul_tdiv]
 show (wu (dqF (wi a) (wi b)*b)+drF (wi a) (wi b)) % 18446744073709551616=a
 rw [key,wi_cong]
 obtain ⟨h0,h1⟩:=rng_spec ha
 omega
theorem suEnd_true {a b:Int} (ha:rng64 a=true) (hb:rng64 b=true):suEnd a b (dqF (wi a) (wi b)) (drF (wi a) (wi b)) (wu (a+b)) (wu (a - b)) (wu (a*b)) (mulHi a b)=some (.bool true):=by
 obtain ⟨a0,a1⟩:=rng_spec ha
 obtain ⟨b0,b1⟩:=rng_spec hb
 have e1:wu (wu (a+b) - b)=a:=by simp only [wu_def]; omega
 have e2:wu (wu (a - b)+b)=a:=by simp only [wu_def]; omega
 unfold suEnd
 rw [signed_back ha,e1,e2]
 simp only [beq_self_eq_true,cond_true]
 by_cases h1:4294967296≤b
 ·rw [decide_eq_true h1]
  rfl
 by_cases h2:4294967296≤a
 ·rw [decide_eq_false h1,decide_eq_true h2]
  rfl
 have e3:mulHi a b=0:=by
  unfold mulHi
  refine Int.ediv_eq_zero_of_lt (Int.mul_nonneg a0 b0) ?_
  have x1:=Int.mul_le_mul_of_nonneg_left (show b≤4294967295 by omega) a0
  omega
 rw [decide_eq_false h1,decide_eq_false h2,e3]
 rfl
theorem suMid_true {a b:Int} (ha:rng64 a=true) (hb:rng64 b=true) (k:Option V):suMid a b (uqF a b) (urF a b) k=k:=by
 obtain ⟨a0,a1⟩:=rng_spec ha
 obtain ⟨b0,b1⟩:=rng_spec hb
 unfold suMid uqF urF
 by_cases h0:b=0
 ·subst h0
  have e:(a != a)=false:=bne_self_eq_false a
  have e2:(wu (wu (18446744073709551615*0)+a))=a:=by
   show wu (0+a)=a
   rw [Int.zero_add,wu_rng ha]
  show cond (wu (wu (18446744073709551615*0)+a) != a) _ _=k
  rw [e2,e]
  show cond (a != a) suNo k=k
  rw [e]
  rfl
 ·have e0:(b == 0)=false:=by simpa using h0
  have e1:(b != 0)=true:=by simpa using h0
  rw [e0,e1]
  simp only [cond_false,cond_true]
  have hq:wu (wu (wu (Int.tdiv a b)*b)+Int.tmod a b)=a:=by
   rw [tdiv_pos a0,tmod_pos a0]
   have q0:0≤a / b:=Int.ediv_nonneg a0 b0
   have q1:a / b≤a:=Int.ediv_le_self b a0
   have e3:wu (a / b)=a / b:=wu_rng (rng_of q0 (by omega))
   have r0:=Int.emod_nonneg a h0
   have em:=Int.emod_add_mul_ediv a b
   rw [e3,Int.mul_comm (a / b) b]
   have e4:wu (b*(a / b))=b*(a / b):=wu_rng (rng_of (Int.mul_nonneg b0 q0) (by omega))
   rw [e4,show b*(a / b)+a % b=a by omega,wu_rng ha]
  have hr:decide (b≤Int.tmod a b)=false:=by
   rw [tmod_pos a0]
   have:=Int.emod_lt_of_pos a (show 0<b by omega)
   exact decide_eq_false (by omega)
  rw [hq,bne_self_eq_false,hr]
  rfl
theorem suX_true {a b:Int} (ha:rng64 a=true) (hb:rng64 b=true):suX a b=some (.bool true):=by
 unfold suX
 rw [ha,hb,suMid_true ha hb,suEnd_true ha hb]
 rfl
theorem sums_call (x:EC.tys [.int .u64,.int .u64]) (h:okEs [.int .u64,.int .u64] x):PCall Tryz.prog 3 (argVs [.int .u64,.int .u64] x) (.bool true):=by
 have h1:rng64 x.1=true:=has_rng h.1
 have h2:rng64 x.2=true:=has_rng h.2
 refine pcall_fun' (cx:=cxSu) (fn:=Tryz.f3) cxSu_ok (by kernel_rfl) (by kernel_rfl) (by kernel_rfl) ?_
 rw [← Tree.fin_run]
 exact (su_eq x.1 x.2).trans (suX_true h1 h2)
end Go.Ra
