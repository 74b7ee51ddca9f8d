/-
  runamd: rows alike: shifts, products, quotients, the stack, jumps. Conditions: none.
-/
import Derived.Test.YtbefgnmdliefjaaGreatDoorPk18
import Derived.Test.YtbefgnmdliefjaaGreatDoorPk14
import Derived.Test.YtbefgnmdliefjaaGreatDoorPk16
set_option linter.unusedVariables false
set_option linter.unusedSimpArgs false
namespace Go.Ra
open Go Go.Ab Go.Proofs Go.Amd
theorem mulHi_rng {x y:Int} (hx:rng64 x=true) (hy:rng64 y=true):rng64 (mulHi x y)=true:=by
 obtain ⟨x0,x1⟩:=rng_spec hx
 obtain ⟨y0,y1⟩:=rng_spec hy
 refine rng_of (Int.ediv_nonneg (Int.mul_nonneg x0 y0) (by decide)) ?_
 refine (Int.ediv_lt_iff_lt_mul (by decide)).2 ?_
 have a:=Int.mul_le_mul_of_nonneg_right (show x≤18446744073709551615 by omega) y0
 have b:=Int.mul_le_mul_of_nonneg_left (show y≤18446744073709551615 by omega) (show (0:Int)≤18446744073709551615 by decide)
 omega
theorem dq_rng {h l y:Int} (hh:rng64 h=true) (hl:rng64 l=true) (hy:rng64 y=true) (hlt:h<y):rng64 (dq128 h l y)=true∧rng64 (dr128 h l y)=true:=by
 obtain ⟨h0,h1⟩:=rng_spec hh
 obtain ⟨l0,l1⟩:=rng_spec hl
 obtain ⟨y0,y1⟩:=rng_spec hy
 unfold dq128 dr128
 constructor
 ·refine rng_of (Int.ediv_nonneg (by omega) y0) ((Int.ediv_lt_iff_lt_mul (by omega)).2 ?_)
  have:=Int.mul_le_mul_of_nonneg_right (show h+1≤y by omega) (show (0:Int)≤18446744073709551616 by decide)
  rw [Int.mul_comm 18446744073709551616 y]
  omega
 ·have:=Int.emod_lt_of_pos (h*18446744073709551616+l) (show 0<y by omega)
  exact rng_of (Int.emod_nonneg _ (by omega)) (by omega)
def WdOk (wd:Int→Int→Int × Int):Prop:=∀ x y,rng64 x=true→rng64 y=true→(wd x y).1=mulHi x y∧(wd x y).2=wu (x*y)
def LgOk (lg:Int→Int→Int→Int × Int):Prop:=∀ h l y,rng64 h=true→rng64 l=true→rng64 y=true→h<y→(lg h l y).1=dq128 h l y∧(lg h l y).2=dr128 h l y
theorem regW_put {t:W} {a:Int} (ha:okReg a=true) (v:Int):regW (putW a v t) a=v:=by
 obtain ⟨h0,h1⟩:=okReg_in ha
 show (t.1.x.set a.toNat v).getD a.toNat 0=v
 have hl:=t.2
 rw [List.getD_eq_getElem?_getD,List.getElem?_set_self (by omega)]
 rfl
theorem putW_self {t:W} {a:Int} (ha:okReg a=true):putW a (regW t a) t=t:=by
 obtain ⟨h0,h1⟩:=okReg_in ha
 have hl:=t.2
 apply Subtype.ext
 show putS a (t.1.x.getD a.toNat 0) t.1=t.1
 unfold putS
 have e:t.1.x.set a.toNat (t.1.x.getD a.toNat 0)=t.1.x:=by
  rw [List.getD_eq_getElem?_getD,List.getElem?_eq_getElem (show a.toNat<t.1.x.length by omega)]
  exact List.set_getElem_self _
 rw [e]
section
variable {x:RowT} {nm:List UInt8}
def shW (a v:Int) (c:Bool) (t:W):W:=flW (v == 0) (hb v) c false (putW a v t)
theorem shE_R {a:Int} (ha:okReg a=true) {v:Int} (hv:rng64 v=true) (out:Int) (t:W) (T:List V) (k:KS):shE a out v (t.1.l++T) k=k ((shW a v (out != 0) t).1.l++T):=by
 unfold shE
 rw [putX_R ha,rdX_R ha,regW_put ha,sumS_R,negB_hb hv]
 rfl
theorem shD_R {e:EnvR} {a:Int} (ha:okReg a=true) (he:e.a=a) {v:Int} (hv:rng64 v=true) (c:Bool) (t:W) (T:List V) (k:KS):setD e v (nzS v c false (t.1.l++T)) k=k ((shW a v c t).1.l++T):=by
 rw [nzS_R,sh63_one hv,setD_R ha _ _ e he]
 rfl
theorem fine_sh {t:W} (h:Fine t.1) (a:Int) {v:Int} (hv:rng64 v=true) (c:Bool):Fine (shW a v c t).1:=fine_fl (fine_put h a hv) _ _ _ _
def ShV (P:Int→Int→List V→KS→Option Res) (D:EnvR→Int→Int→List V→KS→Option Res):Prop:=
 ∀ (x:RowT) (e:EnvR) (hy:Hy x e) (n:Int),rng64 n=true→n≤63 → ∃ t:W,Fine t.1∧(∀ T k,P e.a n ((wE hy).1.l++T) k=k (t.1.l++T))∧(∀ T k,D e (regW (wE hy) e.a) n ((wE hy).1.l++T) k=k (t.1.l++T))
theorem shl_rng (x n:Int):rng64 (shlF x n)=true:=rng_wu _
theorem q_true (k:Option Res):q true k=k:=rfl
theorem sh_shl:ShV shlK shlD:=by
 intro x e hy n hn _
 by_cases h0:n=0
 ·subst h0
  refine ⟨wE hy,hy.s,fun T k=>rfl,fun T k=>?_⟩
  show setD e _ _ k=_
  rw [setD_R hy.a _ _ e rfl,putW_self hy.a]
 ·have e0:(n == 0)=false:=by simpa using h0
  have e1:decide (0≤n)=true:=decide_eq_true (rng_spec hn).1
  have e2:decide (0≤wu (64 - n))=true:=decide_eq_true (rng_spec (rng_wu _)).1
  refine ⟨shW e.a (shlF (regW (wE hy) e.a) n) (andU (shrF (regW (wE hy) e.a) (wu (64 - n))) 1 == 1) (wE hy),fine_sh hy.s _ (shl_rng _ _) _,fun T k=>?_,fun T k=>?_⟩
  ·unfold shlK
   simp only [e0,cond_false,inA_R hy.a,rdX_R hy.a,e1,e2,q_true,shE_R hy.a (shl_rng _ _),out_eq]
  ·unfold shlD
   simp only [e0,cond_false,e1,e2,q_true,shD_R hy.a rfl (shl_rng _ _)]
theorem sh_shr:ShV shrK shrD:=by
 intro x e hy n hn _
 by_cases h0:n=0
 ·subst h0
  refine ⟨wE hy,hy.s,fun T k=>rfl,fun T k=>?_⟩
  show setD e _ _ k=_
  rw [setD_R hy.a _ _ e rfl,putW_self hy.a]
 ·have e0:(n == 0)=false:=by simpa using h0
  have e1:decide (0≤n)=true:=decide_eq_true (rng_spec hn).1
  have e2:decide (0≤wu (n - 1))=true:=decide_eq_true (rng_spec (rng_wu _)).1
  have hr:=shr_rng (hy.r e.a) n
  refine ⟨shW e.a (shrF (regW (wE hy) e.a) n) (andU (shrF (regW (wE hy) e.a) (wu (n - 1))) 1 == 1) (wE hy),fine_sh hy.s _ hr _,fun T k=>?_,fun T k=>?_⟩
  ·unfold shrK
   simp only [e0,cond_false,inA_R hy.a,rdX_R hy.a,e1,e2,q_true,shE_R hy.a hr,out_eq]
  ·unfold shrD
   simp only [e0,cond_false,e1,e2,q_true,shD_R hy.a rfl hr]
theorem sh_sar:ShV sarK sarD:=by
 intro x e hy n hn hle
 by_cases h0:n=0
 ·subst h0
  refine ⟨wE hy,hy.s,fun T k=>rfl,fun T k=>?_⟩
  show setD e _ _ k=_
  rw [setD_R hy.a _ _ e rfl,putW_self hy.a]
 ·have e0:(n == 0)=false:=by simpa using h0
  have n0:=(rng_spec hn).1
  have e1:decide (0≤n)=true:=decide_eq_true n0
  have e2:decide (0≤wu (n - 1))=true:=decide_eq_true (rng_spec (rng_wu _)).1
  have hr:rng64 (wu (shrF (wi (regW (wE hy) e.a)) n))=true:=rng_wu _
  refine ⟨shW e.a (wu (shrF (wi (regW (wE hy) e.a)) n)) (andU (shrF (regW (wE hy) e.a) (wu (n - 1))) 1 == 1) (wE hy),fine_sh hy.s _ hr _,fun T k=>?_,fun T k=>?_⟩
  ·unfold sarK
   simp only [e0,cond_false,inA_R hy.a,rdX_R hy.a,e1,e2,q_true,shE_R hy.a hr,out_eq]
  ·unfold sarD
   simp only [e0,cond_false,e1,e2,q_true,sar_out (hy.r e.a) (show 1≤n by omega) (show n≤64 by omega),shD_R hy.a rfl hr]
theorem al_shi {P:Int→Int→List V→KS→Option Res} {D:EnvR→Int→Int→List V→KS→Option Res} (hP:ShV P D) (hu:uI x=true) (h0:lowR x=0) (h1:highR x=63) :
  Alike x (mvR (preRi fun e S k=>inA e.a (inA e.a (P e.a (wu e.m) S k))) nm) (oneD (fun e _ S k=>inX e.a S fun x=>D e x (wu e.m) S k) nm):=
 al_row fun e hy=>by
  obtain ⟨g0,g1⟩:=hy.im hu
  rw [h0] at g0
  rw [h1] at g1
  have em:wu e.m=e.m:=by rw [wu_mod]; omega
  obtain ⟨t,ht,h1,h2⟩:=hP x e hy (wu e.m) (rng_wu _) (by rw [em]; exact g1)
  exact does_ok t ht (fun k=>by simp only [preRi,inA_R hy.a,h1]) (fun k=>by simp only [inX_R hy.a,h2])
theorem al_shc {P:Int→Int→List V→KS→Option Res} {D:EnvR→Int→Int→List V→KS→Option Res} (hP:ShV P D) :
  Alike x (mvR (fun e S k=>inA e.a (inA e.a (P e.a (andU (e.s.x.getD 1 0) 63) S k))) nm) (oneD (fun e _ S k=>inX e.a S fun x=>D e x (andU (e.s.x.getD 1 0) 63) S k) nm):=
 al_row fun e hy=>by
  obtain ⟨t,ht,h1,h2⟩:=hP x e hy (andU (e.s.x.getD 1 0) 63) (andU_rng _ _) (by rw [andU_63]; omega)
  exact does_ok t ht (fun k=>by simp only [inA_R hy.a,h1]) (fun k=>by simp only [inX_R hy.a,h2])
variable {wd:Int→Int→Int × Int} (hw:WdOk wd)
include hw in
theorem al_mul:Alike x (mvR (fun e S k=>inA e.a (inA e.a (mulK e S k))) nm) (oneD (fun e x S k=>k (setCV ((wd (e.s.x.getD 0 0) x).1 != 0) ((S.set 1 (.int .u64 (wd (e.s.x.getD 0 0) x).2)).set 3 (.int .u64 (wd (e.s.x.getD 0 0) x).1)))) nm):=
 al_row fun e hy=>by
  have h0:rng64 (e.s.x.getD 0 0)=true:=hy.s.rng 0
  obtain ⟨w1,w2⟩:=hw _ _ h0 (hy.r e.a)
  refine does_ok (cvW (mulHi (e.s.x.getD 0 0) (regW (wE hy) e.a) != 0) (putW 2 (mulHi (e.s.x.getD 0 0) (regW (wE hy) e.a)) (putW 0 (wu (e.s.x.getD 0 0*regW (wE hy) e.a)) (wE hy))))
   (fine_cv (fine_put (fine_put hy.s 0 (rng_wu _)) 2 (mulHi_rng h0 (hy.r _))) _) (fun k=>?_) (fun k=>?_)
  ·unfold mulK
   simp only [inA_R hy.a,inX_R hy.a,h0,hy.r,Bool.and_self,q_true,set1_R,set3_R,setCV_R]
  ·simp only [w1,w2,set1_R,set3_R,setCV_R]
include hw in
theorem al_imul (hu:uM x=false):Alike x (mvR (preRr fun e S k=>inA e.a (inA e.a (imulK e S k))) nm) (oneD (fun e _ S k=>inX e.a S fun x=>inX e.b S fun y=>imulD wd e x y S k) nm):=
 al_row fun e hy=>by
  obtain ⟨w1,w2⟩:=hw _ _ (hy.r e.a) (hy.r e.b)
  have one:∀ h:Int,Does e e.bk (imE e (wu (regW (wE hy) e.a*regW (wE hy) e.b)) h ((wE hy).1.l++tlP e e.bk)) (fun k=>imF e h (wu (regW (wE hy) e.a*regW (wE hy) e.b)) ((wE hy).1.l++tlD e 0) (k e.bk)):=by
   intro h
   refine does_ok (cvW (h != wu (Int.fdiv (wi (wu (regW (wE hy) e.a*regW (wE hy) e.b))) (2 ^ 63))) (putW e.a (wu (regW (wE hy) e.a*regW (wE hy) e.b)) (wE hy))) (fine_cv (fine_put hy.s _ (rng_wu _)) _) (fun k=>?_) (fun k=>?_)
   ·unfold imE
    simp only [inA_R hy.a,putX_R hy.a,setCV_R]
   ·unfold imF
    rw [setCV_R,setD_R hy.a _ _ e rfl]
    rfl
  have tr:∀ {r r' : (List V→Option Res)→Option Res} {g g' : (Int→List V→Option Res)→Option Res},Does e e.bk r g→(∀ k,r' k=r k)→(∀ k,g' k=g k)→Does e e.bk r' g' := by
   rintro r r' g g' ⟨t,t',er,h1,h2,h3,h4⟩ e1 e2
   exact ⟨t,t',er,h1,h2,fun k=>(e1 k).trans (h3 k),fun k=>(e2 k).trans (h4 k)⟩
  unfold preRr imulK imulD
  simp only [inX_R hy.a,inX_R (hy.b hu),inA_R hy.a,hy.r,Bool.and_self,q_true,w1,w2]
  cases negB (regW (wE hy) e.a) <;> cases negB (regW (wE hy) e.b)
  ·exact one _
  ·exact one _
  ·exact one _
  ·exact one _
variable {lg:Int→Int→Int→Int × Int} (hg:LgOk lg)
include hg in
theorem al_div:Alike x (divR nm) (oneD (fun e x S k=>divD lg e x S k) nm):=
 al_row fun e hy=>by
  have h0:rng64 (e.s.x.getD 0 0)=true:=hy.s.rng 0
  have h2:rng64 (e.s.x.getD 2 0)=true:=hy.s.rng 2
  unfold divD
  simp only [inA_R hy.a,inX_R hy.a]
  by_cases hlt:e.s.x.getD 2 0<regW (wE hy) e.a
  ·obtain ⟨g1,g2⟩:=hg _ _ _ h2 h0 (hy.r e.a) hlt
   obtain ⟨r1,r2⟩:=dq_rng h2 h0 (hy.r e.a) hlt
   refine does_ok (putW 2 (dr128 (e.s.x.getD 2 0) (e.s.x.getD 0 0) (regW (wE hy) e.a)) (putW 0 (dq128 (e.s.x.getD 2 0) (e.s.x.getD 0 0) (regW (wE hy) e.a)) (wE hy))) (fine_put (fine_put hy.s 0 r1) 2 r2) (fun k=>?_) (fun k=>?_)
   ·simp only [decide_eq_true hlt,h0,h2,hy.r,Bool.and_self,Bool.not_true,cond_false,q_true,set1_R,set3_R]
   ·have:decide (regW (wE hy) e.a≤e.s.x.getD 2 0)=false:=decide_eq_false (by omega)
    simp only [this,cond_false,g1,g2,set1_R,set3_R]
  ·refine does_bad (wE hy) (fun k=>?_) (fun k=>?_)
   ·simp only [decide_eq_false hlt,Bool.not_false,cond_true]
   ·have:decide (regW (wE hy) e.a≤e.s.x.getD 2 0)=true:=decide_eq_true (by omega)
    simp only [this,cond_true,failS_R]
theorem mag_doc {h l:Int} (hh:rng64 h=true) (hl:rng64 l=true):rng64 (magH h l)=true∧rng64 (magL h l)=true ∧
  (decide (wi h<0)=true→magL h l=wu (0 - l)∧magH h l=cond (wu (0 - l) == 0) (wu (notI h+1)) (notI h))∧(decide (wi h<0)=false→magL h l=l∧magH h l=h):=by
 obtain ⟨h0,h1⟩:=rng_spec hh
 obtain ⟨l0,l1⟩:=rng_spec hl
 unfold magH magL
 by_cases g:wi h<0
 ·have h2:9223372036854775808≤h:=by
   rw [wi_def] at g
   split at g <;> omega
  rw [decide_eq_false (by omega:¬ 0≤wi h),decide_eq_true g,cond_false,cond_false]
  refine ⟨rng_of (by omega) (by omega),rng_of (by omega) (by omega),fun _=>⟨by rw [wu_mod]; omega,?_⟩,fun e=>by cases e⟩
  rw [notI_eq hh]
  by_cases hz:l=0
  ·subst hz
   show _=wu (18446744073709551615 - h+1)
   rw [wu_mod]
   omega
  ·have:(wu (0 - l) == 0)=false:=by
    rw [beq_eq_false_iff_ne,wu_mod]
    omega
   rw [this,cond_false]
   omega
 ·rw [decide_eq_true (by omega:0≤wi h),decide_eq_false g]
  simp only [cond_true]
  exact ⟨hh,hl,by simp,by simp⟩
include hg in
theorem al_idiv:Alike x (idivR nm) (oneD (fun e x S k=>idivD lg e x S k) nm):=
 al_row fun e hy=>by
  have h0:rng64 (e.s.x.getD 0 0)=true:=hy.s.rng 0
  have h2:rng64 (e.s.x.getD 2 0)=true:=hy.s.rng 2
  obtain ⟨mh,ml,m1,m2⟩:=mag_doc h2 h0
  have hny:rng64 (wu (0 - regW (wE hy) e.a))=true:=rng_wu _
  have key:∀ (neg:Bool) (dv:Int),rng64 dv=true→Does e e.bk (fun k=>idK e ((wE hy).1.l++tlP e e.bk) k neg (magH (e.s.x.getD 2 0) (e.s.x.getD 0 0)) (magL (e.s.x.getD 2 0) (e.s.x.getD 0 0)) (regW (wE hy) e.a) dv)
    (fun k=>idD0 lg neg (magH (e.s.x.getD 2 0) (e.s.x.getD 0 0)) (magL (e.s.x.getD 2 0) (e.s.x.getD 0 0)) (regW (wE hy) e.a) dv ((wE hy).1.l++tlD e 0) (k e.bk)):=by
   intro neg dv hd
   unfold idK idD0
   by_cases hlt:magH (e.s.x.getD 2 0) (e.s.x.getD 0 0)<dv
   rotate_left
   ·refine does_bad (wE hy) (fun k=>?_) (fun k=>?_)
    ·simp only [decide_eq_false hlt,Bool.not_false,cond_true]
    ·have:decide (dv≤magH (e.s.x.getD 2 0) (e.s.x.getD 0 0))=true:=decide_eq_true (by omega)
     simp only [this,cond_true,failS_R]
   have hle:decide (dv≤magH (e.s.x.getD 2 0) (e.s.x.getD 0 0))=false:=decide_eq_false (by omega)
   obtain ⟨g1,g2⟩:=hg _ _ _ mh ml hd hlt
   obtain ⟨r1,r2⟩:=dq_rng mh ml hd hlt
   simp only [decide_eq_true hlt,hle,mh,ml,hd,g1,g2,Bool.and_self,Bool.not_true,cond_false,q_true]
   generalize magH (e.s.x.getD 2 0) (e.s.x.getD 0 0)=H at *
   generalize magL (e.s.x.getD 2 0) (e.s.x.getD 0 0)=L at *
   generalize dq128 H L dv=Q at *
   generalize dr128 H L dv=R at *
   have fin:∀ qv:Int,rng64 qv=true→Does e e.bk (fun k=>idE neg ((wE hy).1.l++tlP e e.bk) k qv R) (fun k=>idD3 neg qv R ((wE hy).1.l++tlD e 0) (k e.bk)):=by
    intro qv hq
    unfold idE idD3
    cases neg
    ·exact does_ok (putW 2 R (putW 0 qv (wE hy))) (fine_put (fine_put hy.s 0 hq) 2 r2) (fun k=>by simp only [cond_false,set1_R,set3_R]) (fun k=>by simp only [cond_false,set1_R,set3_R])
    ·exact does_ok (putW 2 (wu (0 - R)) (putW 0 qv (wE hy))) (fine_put (fine_put hy.s 0 hq) 2 (rng_wu _)) (fun k=>by simp only [cond_true,set1_R,set3_R]) (fun k=>by simp only [cond_true,set1_R,set3_R])
   unfold idD1 idD2
   cases (!(neg == decide (wi (regW (wE hy) e.a)<0)))
   ·simp only [cond_false,cond_true,Bool.not_false]
    by_cases hq:Q≤9223372036854775807
    ·have:decide (9223372036854775808≤Q)=false:=decide_eq_false (by omega)
     simp only [decide_eq_true hq,this,Bool.not_true,cond_false]
     exact fin Q r1
    ·refine does_bad (wE hy) (fun k=>?_) (fun k=>?_)
     ·simp only [decide_eq_false hq,Bool.not_false,cond_true]
     ·have:decide (9223372036854775808≤Q)=true:=decide_eq_true (by omega)
      simp only [this,cond_true,failS_R]
   ·simp only [cond_false,cond_true,Bool.not_true]
    by_cases hq:Q≤9223372036854775808
    ·have:decide (9223372036854775808<Q)=false:=decide_eq_false (by omega)
     simp only [decide_eq_true hq,this,Bool.not_true,cond_false]
     exact fin _ (rng_wu _)
    ·refine does_bad (wE hy) (fun k=>?_) (fun k=>?_)
     ·simp only [decide_eq_false hq,Bool.not_false,cond_true]
     ·have:decide (9223372036854775808<Q)=true:=decide_eq_true (by omega)
      simp only [this,cond_true,failS_R]
  have kd:Does e e.bk (fun k=>cond (decide (wi (regW (wE hy) e.a)<0)) (idK e ((wE hy).1.l++tlP e e.bk) k (!decide (0≤wi (e.s.x.getD 2 0))) (magH (e.s.x.getD 2 0) (e.s.x.getD 0 0)) (magL (e.s.x.getD 2 0) (e.s.x.getD 0 0)) (regW (wE hy) e.a) (wu (0 - regW (wE hy) e.a)))
     (idK e ((wE hy).1.l++tlP e e.bk) k (!decide (0≤wi (e.s.x.getD 2 0))) (magH (e.s.x.getD 2 0) (e.s.x.getD 0 0)) (magL (e.s.x.getD 2 0) (e.s.x.getD 0 0)) (regW (wE hy) e.a) (regW (wE hy) e.a)))
    (fun k=>idDY lg (!decide (0≤wi (e.s.x.getD 2 0))) (magH (e.s.x.getD 2 0) (e.s.x.getD 0 0)) (magL (e.s.x.getD 2 0) (e.s.x.getD 0 0)) (regW (wE hy) e.a) ((wE hy).1.l++tlD e 0) (k e.bk)):=by
   unfold idDY
   cases decide (wi (regW (wE hy) e.a)<0)
   ·exact key _ _ (hy.r _)
   ·exact key _ _ hny
  have en:(!decide (0≤wi (e.s.x.getD 2 0)))=decide (wi (e.s.x.getD 2 0)<0):=by
   by_cases g:wi (e.s.x.getD 2 0)<0
   ·rw [decide_eq_true g,decide_eq_false (by omega)]; rfl
   ·rw [decide_eq_false g,decide_eq_true (by omega)]; rfl
  have ed:∀ (S:List V) (k:KS),idivD lg e (regW (wE hy) e.a) S k=idDY lg (!decide (0≤wi (e.s.x.getD 2 0))) (magH (e.s.x.getD 2 0) (e.s.x.getD 0 0)) (magL (e.s.x.getD 2 0) (e.s.x.getD 0 0)) (regW (wE hy) e.a) S k:=by
   intro S k
   rw [en]
   unfold idivD
   cases hn:decide (wi (e.s.x.getD 2 0)<0)
   ·obtain ⟨g1,g2⟩:=m2 hn
    rw [g1,g2]
    rfl
   ·obtain ⟨g1,g2⟩:=m1 hn
    rw [g1,g2]
    cases wu (0 - e.s.x.getD 0 0) == 0 <;> rfl
  obtain ⟨t,t',er,k1,k2,k3,k4⟩:=kd
  refine ⟨t,t',er,k1,k2,fun k=>?_,fun k=>?_⟩
  ·rw [← k3]
   simp only [inA_R hy.a,inX_R hy.a,h0,h2,Bool.and_self,q_true]
  ·exact (ed _ _).trans (k4 k)
theorem al_flow1 {f:EnvR→Int} (hf:∀ (x:RowT) (e:EnvR) (hy:Hy x e),rng64 (f e)=true):Alike x (mvR (fun e S k=>inA e.a (inA e.a (k (S.set 45 (.int .u64 (f e)))))) nm) (floD (fun e S k=>k (f e) S) nm):=
 al_flow fun e hy=>⟨f e,hf x e hy,does_ok (wE hy) hy.s (fun k=>by simp only [inA_R hy.a,set45_R]) (fun k=>rfl)⟩
theorem al_jmp:Alike x (mvR (fun e S k=>inA e.a (inA e.a (k (S.set 45 (.int .u64 (tgF e)))))) nm) (floD (fun e S k=>k (tgF e) S) nm):=al_flow1 fun _ _ _=>rng_wu _
theorem al_jcc (hu:uM x=false):Alike x (mvR (fun e S k=>inA e.a (inA e.a (cond (holdsF e.s.z e.s.n e.s.c e.s.v e.d) (k (S.set 45 (.int .u64 (tgF e)))) (k S)))) nm) (floD (fun e S k=>cond (hdF e.s.z e.s.n e.s.c e.s.v e.d) (k (tgF e) S) (k e.bk S)) nm):=
 al_flow fun e hy=>by
  have he:=hold_eq e.s.z e.s.n e.s.c e.s.v (hy.d hu).1 (hy.d hu).2
  cases hh:hdF e.s.z e.s.n e.s.c e.s.v e.d
  ·exact ⟨e.bk,hy.bk,does_ok (wE hy) hy.s (fun k=>by simp only [he,hh,inA_R hy.a,cond_false]) (fun k=>by simp only [hh,cond_false])⟩
  ·exact ⟨tgF e,rng_wu _,does_ok (wE hy) hy.s (fun k=>by simp only [he,hh,inA_R hy.a,cond_true,set45_R]) (fun k=>by simp only [hh,cond_true])⟩
theorem al_jmpr:Alike x (mvR (fun e S k=>inA e.a (inA e.a (inX e.a S fun y=>k (S.set 45 (.int .u64 y))))) nm) (floD (fun e S k=>inX e.a S fun y=>k y S) nm):=
 al_flow fun e hy=>⟨regW (wE hy) e.a,hy.r _,does_ok (wE hy) hy.s (fun k=>by simp only [inA_R hy.a,inX_R hy.a,set45_R]) (fun k=>by simp only [inX_R hy.a])⟩
theorem spF_eq {e:EnvR} (hy:Hy x e):rng64 (spF e)=true:=hy.s.rng 4
theorem popK_R {e:EnvR} (hy:Hy x e) (T:List V) (k:Int→KS):popK e ((wE hy).1.l++T) k=cond (errLd (spF e) 8 != 0) (faultK e) (k (valLd e.A e.B e.C e.D e.E (spF e) 8) ((putW 4 (wu (spF e+8)) (wE hy)).1.l++T)):=by
 unfold popK
 rw [loadK_R hy.l (spF_eq hy),set5_R]
theorem popD_R {e:EnvR} (hy:Hy x e) (k:Int→KS):popD e ((wE hy).1.l++tlD e 0) k=k (valLd e.A e.B e.C e.D e.E (spF e) 8) ((putW 4 (wu (spF e+8)) (wE hy)).1.l++tlD e (errLd (spF e) 8)):=by
 unfold popD
 rw [loadD_R hy.l (spF_eq hy),set5_R]
theorem al_pop:Alike x (popR nm) (oneD (fun e _ S k=>popD e S fun y U=>setD e y U k) nm):=
 al_row fun e hy=>by
  refine does_ld (spF e) 8 (putW e.a (valLd e.A e.B e.C e.D e.E (spF e) 8) (putW 4 (wu (spF e+8)) (wE hy))) (fine_put (fine_put hy.s 4 (rng_wu _)) _ (valLd_rng _ _ _ _ _ _ _)) (fun k=>?_) (fun k=>?_)
  ·simp only [inA_R hy.a,popK_R hy,putX_R hy.a]
  ·simp only [popD_R hy,setD_R hy.a _ _ e rfl]
theorem al_ret:Alike x (retR nm) (floD (fun e S k=>popD e S fun y U=>k y U) nm):=
 al_flow fun e hy=>by
  refine ⟨valLd e.A e.B e.C e.D e.E (spF e) 8,valLd_rng _ _ _ _ _ _ _,does_ld (spF e) 8 (putW 4 (wu (spF e+8)) (wE hy)) (fine_put hy.s 4 (rng_wu _)) (fun k=>?_) (fun k=>?_)⟩
  ·simp only [inA_R hy.a,popK_R hy,set45_R]
  ·simp only [popD_R hy]
theorem lens5_stB {A B C D E:List Int} (h:lens5 A B C D E=true) (x n y:Int):lens5 (stB 1 x n y A) (stB 2 x n y B) (stB 16 x n y C) (stB 17 x n y D) (stB 32 x n y E)=true:=by
 unfold stB
 cases mayB x n 2
 ·exact h
 ·exact lens5_stN _ _ h
theorem store_both {e:EnvR} (hs:Fine e.s) (hl:lens5 e.A e.B e.C e.D e.E=true) {p:Int} (hp:rng64 p=true) (n v:Int) (t:W) (ht:Fine t.1) {nx:Int} (hn:rng64 nx=true) :
  Both e.s (storeK e p n v fun H=>finS H (t.1.l++tlP e nx)) (cond (errSt p n != 0) (errK e.s (errSt p n) (refO (stB 1 p n v e.A) (stB 2 p n v e.B) (stB 16 p n v e.C) (stB 17 p n v e.D) (stB 32 p n v e.E)))
   (outK ({ t.1 with pc:=nx }:CpuT).l 0 (refO (stB 1 p n v e.A) (stB 2 p n v e.B) (stB 16 p n v e.C) (stB 17 p n v e.D) (stB 32 p n v e.E)))):=by
 have hl' := lens5_stB hl p n v
 unfold storeK q
 rw [hl,hp]
 simp only [Bool.and_self,cond_true,finS_R]
 rcases errSt_or p n with h | h
 ·rw [h]
  exact both_out (fine_pc ht hn) 0 hl'
 ·rw [h]
  exact both_err hs 21 hl'
theorem storeD_R {e:EnvR} (hl:lens5 e.A e.B e.C e.D e.E=true) {p:Int} (hp:rng64 p=true) (n v:Int) (t:W) (er:Int) (k:List V→List O→Option Res) :
  storeD e p n v (t.1.l++tlD e er) k=k (t.1.l++tlD e (errSt p n)) (refO (stB 1 p n v e.A) (stB 2 p n v e.B) (stB 16 p n v e.C) (stB 17 p n v e.D) (stB 32 p n v e.E)):=by
 unfold storeD q
 rw [hl,hp,set40_R]
 rfl
theorem al_st (hu:uM x=true) (n:Int):Alike x (stR n nm) (onwD (fun e _ S k=>adK e S fun p=>inX e.a S fun y=>storeD e p n y S k) nm):=by
 intro s a b c d m sz A B C D E hs hl ho hi
 have hy:Hy x (envF s nm a b c d m sz A B C D E):=⟨hs,hl,ho,hi,nx_rng _ _⟩
 obtain ⟨p,hp,hk⟩:=adK_R hy hu
 have hb:=store_both (e:=envF s nm a b c d m sz A B C D E) hs hl hp n (regW (wE hy) a) (wE hy) hs (nx_rng s sz)
 unfold stR mwR onwD
 rw [stC_eq _ hs.len,dcC_eq _ hs.len,inX_R (a:=a) hy.a]
 refine (congr (congrArg (Both s) ?_) ?_).mpr hb
 ·refine (inA_R hy.a _).trans ((hk _ _).trans ?_)
  exact rdX_R hy.a (wE hy) _ _
 ·refine (hk _ _).trans ((inX_R hy.a (wE hy) _ _).trans ((storeD_R hl hp _ _ (wE hy) 0 _).trans ?_))
  exact finG_R (wE hy) (envF s nm a b c d m sz A B C D E) s _ 0 _ _
theorem push_both {e:EnvR} (hy:Hy x e) (v:Int) {nx:Int} (hn:rng64 nx=true) :
  Both e.s (pushK e v ((wE hy).1.l++tlP e e.bk) fun T H=>finS H (T.set 45 (.int .u64 nx))) (pushD e v ((wE hy).1.l++tlD e 0) fun T H=>finG e.s nx 0 H T):=by
 have hb:=store_both hy.s hy.l (rng_wu (spF e - 8)) 8 v (putW 4 (wu (spF e - 8)) (wE hy)) (fine_put hy.s 4 (rng_wu _)) hn
 unfold pushK pushD
 rw [storeD_R hy.l (rng_wu _)]
 simp only [set5_R,set45_R,finG_R]
 exact hb
theorem set45_same {e:EnvR} (t:W):(t.1.l++tlP e e.bk)=(t.1.l++tlP e e.bk).set 45 (.int .u64 e.bk):=(set45_R t e e.bk e.bk).symm
theorem al_push:Alike x (pushR nm) (onwD (fun e x S k=>pushD e x S k) nm):=by
 intro s a b c d m sz A B C D E hs hl ho hi
 have hy:Hy x (envF s nm a b c d m sz A B C D E):=⟨hs,hl,ho,hi,nx_rng _ _⟩
 have hb:=push_both hy (regW (wE hy) a) (nx_rng s sz)
 unfold pushR mwR onwD
 rw [stC_eq _ hs.len,dcC_eq _ hs.len,inX_R (a:=a) hy.a]
 refine (congrArg (fun r=>Both s r _) ?_).mpr hb
 refine (inA_R hy.a _).trans ((inA_R hy.a _).trans ((rdX_R hy.a (wE hy) _ _).trans ?_))
 unfold pushK
 refine congrArg (storeK _ _ 8 _) (funext fun H=>?_)
 show finS H (((wE hy).1.l++tlP (envF s nm a b c d m sz A B C D E) (envF s nm a b c d m sz A B C D E).bk).set 5 _)=_
 rw [set5_R]
 exact congrArg (finS H) (set45_same _)
theorem al_call:Alike x (callR nm) (flwD (fun e S k=>pushD e e.bk S (k (tgF e))) nm):=by
 intro s a b c d m sz A B C D E hs hl ho hi
 have hy:Hy x (envF s nm a b c d m sz A B C D E):=⟨hs,hl,ho,hi,nx_rng _ _⟩
 have hb:=push_both hy (envF s nm a b c d m sz A B C D E).bk (rng_wu ((envF s nm a b c d m sz A B C D E).bk+wu (envF s nm a b c d m sz A B C D E).m))
 unfold callR mwR flwD
 rw [stC_eq _ hs.len,dcC_eq _ hs.len]
 refine (congrArg (fun r=>Both s r _) ?_).mpr hb
 exact (inA_R hy.a _).trans (inA_R hy.a _)
theorem al_callr:Alike x (callrR nm) (flwD (fun e S k=>inX e.a S fun y=>pushD e e.bk S (k y)) nm):=by
 intro s a b c d m sz A B C D E hs hl ho hi
 have hy:Hy x (envF s nm a b c d m sz A B C D E):=⟨hs,hl,ho,hi,nx_rng _ _⟩
 have hb:=push_both hy (envF s nm a b c d m sz A B C D E).bk (hy.r a)
 unfold callrR mwR flwD
 rw [stC_eq _ hs.len,dcC_eq _ hs.len]
 refine (congr (congrArg (Both s) ?_) ?_).mpr hb
 ·exact (inA_R hy.a _).trans ((inA_R hy.a _).trans (inX_R hy.a (wE hy) _ _))
 ·exact inX_R hy.a (wE hy) _ _
theorem al_sys:Alike x (sysR nm) (sysD nm):=by
 intro s a b c d m sz A B C D E hs hl ho hi
 have hy:Hy x (envF s nm a b c d m sz A B C D E):=⟨hs,hl,ho,hi,nx_rng _ _⟩
 unfold sysD
 rw [dcC_eq _ hs.len,set2_R,finG_R]
 exact both_out (s' := ({ (putW 1 (wu (s.pc+wu sz)) (wE hy)).1 with pc:=wu (s.pc+wu sz) }:CpuT)) (fine_pc (fine_put hy.s 1 (rng_wu _)) (rng_wu _)) 1 hl
theorem al_ud:Alike x (udR nm) (udD nm):=by
 intro s a b c d m sz A B C D E hs hl ho hi
 exact both_out hs 2 hl
end
end Go.Ra

namespace Go.Ra
open Go Go.Ab Go.Proofs
def bitI (l i:Int):Int:=wu ((BitVec.toNat (BitVec.ofInt 64 (Int.fdiv l (2 ^ Min.min (Int.toNat (wu i)) 64)) &&& BitVec.ofInt 64 1):Nat):Int)
def r2I (l r i:Int):Int:=wu ((BitVec.toNat (BitVec.ofInt 64 (wu (r*2 ^ 1)) ||| BitVec.ofInt 64 (bitI l i)):Nat):Int)
def topI (r:Int):Bool:=Int.fdiv r (2 ^ 63) == 1
def lgStep (l b i:Int) (p:Int × Int):Int × Int:=
 cond (topI p.2) (wu (wu (p.1*2 ^ 1)+1),wu (r2I l p.2 i - b)) (cond (decide (b≤r2I l p.2 i)) (wu (wu (p.1*2 ^ 1)+1),wu (r2I l p.2 i - b)) (wu (p.1*2 ^ 1),r2I l p.2 i))
noncomputable def lgN (h l b:Int) (k:Nat):Int × Int:=Nat.rec (motive:=fun _=>Int × Int) (0,h) (fun i p=>lgStep l b (63 - (i:Int)) p) k
theorem lgN_succ (h l b:Int) (k:Nat):lgN h l b (k+1)=lgStep l b (63 - (k:Int)) (lgN h l b k):=rfl
noncomputable def lgF (h l b:Int):Int × Int:=lgN h l b 64
end Go.Ra

namespace Go.Ra
open Go Go.Ab Go.Proofs
theorem bitI_eq {l:Int} (hl:rng64 l=true) {k:Nat} (hk:k<64):bitI l (63 - (k:Int))=l / 2 ^ (63 - k) % 2:=by
 have e:Min.min (Int.toNat (wu (63 - (k:Int)))) 64=63 - k:=by
  rw [wu_mod]
  omega
 obtain ⟨l0,l1⟩:=rng_spec hl
 show andU _ 1=_
 rw [e,andU_1,Int.fdiv_eq_ediv_of_nonneg _ (Int.le_of_lt (Int.pow_pos (by decide)))]
theorem r2_eq {l r:Int} (hl:rng64 l=true) (hr:rng64 r=true) {k:Nat} (hk:k<64):r2I l r (63 - (k:Int))=(2*r) % 18446744073709551616+l / 2 ^ (63 - k) % 2:=by
 unfold r2I
 rw [bitI_eq hl hk]
 obtain ⟨r0,r1⟩:=rng_spec hr
 obtain ⟨m,hm⟩:=Int.eq_ofNat_of_zero_le r0
 obtain ⟨y,hy⟩:=Int.eq_ofNat_of_zero_le (show 0≤l / 2 ^ (63 - k) % 2 by omega)
 rw [hy]
 have hy2:y<2:=by omega
 subst hm
 have e1:wu ((m:Int)*2 ^ 1)=((2*(m % 9223372036854775808):Nat):Int):=by
  rw [wu_mod]
  omega
 rw [e1,or_cast (by omega) (by omega)]
 have e2:=Nat.two_pow_add_eq_or_of_lt (i:=1) (b:=y) (by omega) (m % 9223372036854775808)
 rw [Nat.pow_one] at e2
 rw [← e2]
 omega
theorem top_eq {r:Int} (hr:rng64 r=true):topI r=hb r:=sh63_one hr
theorem half_step {h l:Int} (hl:rng64 l=true) {k:Nat} (hk:k<64) :
  (h*18446744073709551616+l) / 2 ^ (63 - k)=2*((h*18446744073709551616+l) / 2 ^ (64 - k))+l / 2 ^ (63 - k) % 2:=by
 have hp:(0:Int)<2 ^ (63 - k):=Int.pow_pos (by decide)
 have e1:(2:Int) ^ (64 - k)=2 ^ (63 - k)*2:=by
  rw [show 64 - k=(63 - k)+1 by omega,Int.pow_succ]
 have e2:(18446744073709551616:Int)=2 ^ (63 - k)*(2*2 ^ k):=by
  have:(2:Int) ^ (63 - k)*(2*2 ^ k)=2 ^ ((63 - k)+(k+1)):=by
   rw [Int.pow_add,Int.pow_succ,Int.mul_comm 2]
  rw [this,show (63 - k)+(k+1)=64 by omega]
  rfl
 have e3:(h*18446744073709551616+l) / 2 ^ (63 - k)=h*(2*2 ^ k)+l / 2 ^ (63 - k):=by
  rw [e2,show h*(2 ^ (63 - k)*(2*2 ^ k))=2 ^ (63 - k)*(h*(2*2 ^ k)) by rw [Int.mul_left_comm],Int.add_comm,Int.add_mul_ediv_left _ _ (Int.ne_of_gt hp),Int.add_comm]
 rw [e1,← Int.ediv_ediv_of_nonneg (Int.le_of_lt hp),e3]
 have e4:h*(2*2 ^ k)=2*(h*2 ^ k):=by rw [Int.mul_left_comm]
 rw [e4]
 generalize h*2 ^ k=z
 generalize l / 2 ^ (63 - k)=y
 omega
theorem div_step {n b bit:Int} (hb:0<b) (h0:0≤n) (hbit:bit=0∨bit=1) :
  (b≤2*(n % b)+bit→(2*n+bit) / b=2*(n / b)+1∧(2*n+bit) % b=2*(n % b)+bit - b)∧(2*(n % b)+bit<b→(2*n+bit) / b=2*(n / b)∧(2*n+bit) % b=2*(n % b)+bit):=by
 have hn:=Int.emod_add_mul_ediv n b
 have m0:=Int.emod_nonneg n (Int.ne_of_gt hb)
 have m1:=Int.emod_lt_of_pos n hb
 generalize n % b=r at hn m0 m1 ⊢
 generalize n / b=q at hn ⊢
 constructor
 ·intro hle
  have e:2*n+bit=(2*r+bit - b)+b*(2*q+1):=by
   rw [← hn,Int.mul_add b,Int.mul_one,Int.mul_left_comm b 2 q]
   omega
  rw [e,Int.add_mul_ediv_left _ _ (Int.ne_of_gt hb),Int.add_mul_emod_self_left,Int.ediv_eq_zero_of_lt (by omega) (by omega),Int.emod_eq_of_lt (by omega) (by omega)]
  exact ⟨by omega,rfl⟩
 ·intro hlt
  have e:2*n+bit=(2*r+bit)+b*(2*q):=by
   rw [← hn,Int.mul_left_comm b 2 q]
   omega
  rw [e,Int.add_mul_ediv_left _ _ (Int.ne_of_gt hb),Int.add_mul_emod_self_left,Int.ediv_eq_zero_of_lt (by omega) hlt,Int.emod_eq_of_lt (by omega) hlt]
  exact ⟨by omega,rfl⟩
theorem lgN_eq {h l b:Int} (hh:rng64 h=true) (hl:rng64 l=true) (hb' : rng64 b=true) (hlt:h<b):∀ k,k≤64→(lgN h l b k).1=(h*18446744073709551616+l) / 2 ^ (64 - k) / b∧(lgN h l b k).2=(h*18446744073709551616+l) / 2 ^ (64 - k) % b
 | 0,_=>by
  obtain ⟨h0,h1⟩:=rng_spec hh
  obtain ⟨l0,l1⟩:=rng_spec hl
  have e:(h*18446744073709551616+l) / 2 ^ (64 - 0)=h:=by
   show (h*18446744073709551616+l) / 18446744073709551616=h
   omega
  rw [e,Int.ediv_eq_zero_of_lt h0 hlt,Int.emod_eq_of_lt h0 hlt]
  exact ⟨rfl,rfl⟩
 | k+1,hk=>by
  obtain ⟨i1,i2⟩:=lgN_eq hh hl hb' hlt k (by omega)
  obtain ⟨h0,h1⟩:=rng_spec hh
  obtain ⟨l0,l1⟩:=rng_spec hl
  obtain ⟨b0,b1⟩:=rng_spec hb'
  have hk' : k<64:=by omega
  have hs:=half_step (h:=h) hl hk'
  have hp:(0:Int)<2 ^ (64 - k):=Int.pow_pos (by decide)
  have hn0:0≤(h*18446744073709551616+l) / 2 ^ (64 - k):=Int.ediv_nonneg (by omega) (Int.le_of_lt hp)
  have hbit:l / 2 ^ (63 - k) % 2=0∨l / 2 ^ (63 - k) % 2=1:=by omega
  have hq:(h*18446744073709551616+l) / 2 ^ (63 - k) / b<18446744073709551616:=by
   refine (Int.ediv_lt_iff_lt_mul (by omega)).2 ?_
   have:=Int.ediv_le_self (2 ^ (63 - k)) (show 0≤h*18446744073709551616+l by omega)
   have h3:(h+1)*18446744073709551616≤b*18446744073709551616:=Int.mul_le_mul_of_nonneg_right (by omega) (by decide)
   rw [Int.mul_comm 18446744073709551616 b]
   omega
  have hq0:0≤(h*18446744073709551616+l) / 2 ^ (64 - k) / b:=Int.ediv_nonneg hn0 (by omega)
  obtain ⟨d1,d2⟩:=div_step (n:=(h*18446744073709551616+l) / 2 ^ (64 - k)) (b:=b) (bit:=l / 2 ^ (63 - k) % 2) (by omega) hn0 hbit
  have m0:=Int.emod_nonneg ((h*18446744073709551616+l) / 2 ^ (64 - k)) (show b ≠ 0 by omega)
  have m1:=Int.emod_lt_of_pos ((h*18446744073709551616+l) / 2 ^ (64 - k)) (show 0<b by omega)
  rw [lgN_succ,show 64 - (k+1)=63 - k by omega]
  rw [hs] at hq ⊢
  unfold lgStep
  rw [i1,i2]
  have hr:rng64 ((h*18446744073709551616+l) / 2 ^ (64 - k) % b)=true:=rng_of m0 (by omega)
  rw [top_eq hr,r2_eq hl hr hk']
  generalize (h*18446744073709551616+l) / 2 ^ (64 - k)=N at *
  generalize l / 2 ^ (63 - k) % 2=bit at *
  generalize N % b=r at *
  generalize N / b=qv at *
  have sub:b≤2*r+bit→(wu (wu (qv*2 ^ 1)+1),wu ((2*r) % 18446744073709551616+bit - b))=((2*N+bit) / b,(2*N+bit) % b):=by
   intro hle
   obtain ⟨g1,g2⟩:=d1 hle
   rw [g1] at hq
   rw [g1,g2]
   refine Prod.ext ?_ ?_
   ·show wu (wu (qv*2)+1)=_
    rw [wu_mod,wu_mod]
    omega
   ·show wu _=_
    rw [wu_mod]
    omega
  unfold hb
  by_cases ht:9223372036854775808≤r
  ·rw [decide_eq_true ht,cond_true,sub (by omega)]
   exact ⟨rfl,rfl⟩
  ·rw [decide_eq_false ht,cond_false]
   have e:(2*r) % 18446744073709551616=2*r:=by omega
   by_cases hle:b≤2*r+bit
   ·rw [e,decide_eq_true hle,cond_true,← e,sub hle]
    exact ⟨rfl,rfl⟩
   ·rw [e,decide_eq_false hle,cond_false]
    obtain ⟨g1,g2⟩:=d2 (by omega)
    rw [g1] at hq
    rw [g1,g2]
    refine ⟨?_,rfl⟩
    show wu (qv*2)=_
    rw [wu_mod]
    omega
theorem lgF_all:LgOk lgF:=by
 intro h l y hh hl hy hlt
 obtain ⟨g1,g2⟩:=lgN_eq hh hl hy hlt 64 (Nat.le_refl _)
 have e:(h*18446744073709551616+l) / 2 ^ (64 - 64)=h*18446744073709551616+l:=Int.ediv_one _
 rw [e] at g1 g2
 exact ⟨g1,g2⟩
end Go.Ra

namespace Go.Amd
open Go Go.Ab Go.Proofs
abbrev RowX:=List UInt8 × Int × Option (List Int) × Int × Int
@[irreducible] def rowsX:List RowX:=[
 ([109,111,118,46,114,114],1,some [137],0,2),
 ([109,111,118,46,114,105],2,some [184],0,2),
 ([109,111,118,46,114,115],3,some [199],0,2),
 ([109,111,118,46,114,109],4,some [139],0,2),
 ([109,111,118,108,46,114,109],4,some [139],0,0),
 ([109,111,118,115,108,46,114,109],4,some [99],0,2),
 ([109,111,118,122,98,46,114,109],4,some [15,182],0,2),
 ([108,101,97],4,some [141],0,2),
 ([109,111,118,46,109,114],4,some [137],0,2),
 ([109,111,118,108,46,109,114],4,some [137],0,0),
 ([109,111,118,98,46,109,114],4,some [136],0,1),
 ([109,111,118,46,102,115],5,some [139],0,2),
 ([97,100,100,46,114,114],1,some [1],0,2),
 ([111,114,46,114,114],1,some [9],0,2),
 ([97,110,100,46,114,114],1,some [33],0,2),
 ([115,117,98,46,114,114],1,some [41],0,2),
 ([120,111,114,46,114,114],1,some [49],0,2),
 ([99,109,112,46,114,114],1,some [57],0,2),
 ([97,100,100,46,114,109],4,some [3],0,2),
 ([111,114,46,114,109],4,some [11],0,2),
 ([97,110,100,46,114,109],4,some [35],0,2),
 ([115,117,98,46,114,109],4,some [43],0,2),
 ([120,111,114,46,114,109],4,some [51],0,2),
 ([99,109,112,46,114,109],4,some [59],0,2),
 ([97,100,100,46,114,105],6,some [131],0,2),
 ([111,114,46,114,105],6,some [131],1,2),
 ([97,110,100,46,114,105],6,some [131],4,2),
 ([115,117,98,46,114,105],6,some [131],5,2),
 ([120,111,114,46,114,105],6,some [131],6,2),
 ([99,109,112,46,114,105],6,some [131],7,2),
 ([116,101,115,116,46,114,114],1,some [133],0,2),
 ([105,109,117,108,46,114,114],7,some [15,175],0,2),
 ([110,111,116],8,some [247],2,2),
 ([110,101,103],8,some [247],3,2),
 ([109,117,108],8,some [247],4,2),
 ([100,105,118],8,some [247],6,2),
 ([105,100,105,118],8,some [247],7,2),
 ([99,113,111],9,some [153],0,2),
 ([115,104,108,46,114,105],10,some [193],4,2),
 ([115,104,114,46,114,105],10,some [193],5,2),
 ([115,97,114,46,114,105],10,some [193],7,2),
 ([115,104,108,46,114,99],8,some [211],4,2),
 ([115,104,114,46,114,99],8,some [211],5,2),
 ([115,97,114,46,114,99],8,some [211],7,2),
 ([99,109,111,118],11,some [15,64],0,2),
 ([112,117,115,104],12,some [80],0,0),
 ([112,111,112],12,some [88],0,0),
 ([99,97,108,108],13,some [232],0,0),
 ([106,109,112],13,some [233],0,0),
 ([106,109,112,46,115],14,some [235],0,0),
 ([99,97,108,108,46,114],8,some [255],2,0),
 ([106,109,112,46,114],8,some [255],4,0),
 ([106,99,99],15,some [15,128],0,0),
 ([106,99,99,46,115],16,some [112],0,0),
 ([114,101,116],9,some [195],0,0),
 ([115,121,115,99,97,108,108],9,some [15,5],0,0),
 ([110,111,112],9,some [144],0,0),
 ([117,100,50],9,some [15,11],0,0)]
def zeroX:RowX:=([],0,none,0,0)
def findLX (nm:List UInt8) (l:List RowX):Option RowX:=l.find? fun r=>strEq r.1 nm
def frowX (nm:List UInt8):RowX:=(findLX nm rowsX).getD zeroX
def fokX (nm:List UInt8):Bool:=(findLX nm rowsX).isSome
end Go.Amd

namespace Go.Amd
open Go Go.Ab Go.Proofs
def prefC (r:Int):Int:=cond (r == 0) 0 (cond (r == 2) 1 2)
def opC (o:Option (List Int)):Int:=match o with
 | some [a]=>a
 | some [a,b]=>256*a+b
 | _=>0
def formC (f:Int):Int:=([0,7,2,4,9,10,6,8,3,0,5,8,1,11,12,11,12]:List Int).getD f.toNat 0
def condC (f:Int):Bool:=f == 11 || f == 15 || f == 16
def longC (f:Int):Bool:=f == 3 || f == 4 || f == 5 || f == 6 || f == 13 || f == 15
def shortC (f:Int):Bool:=f == 14 || f == 16
def lowC (f:Int):Int:=cond (f == 2) (-9223372036854775808) (cond (longC f) (-2147483648) (cond (shortC f) (-128) 0))
def highC (f:Int):Int:=cond (f == 2) 9223372036854775807 (cond (longC f) 2147483647 (cond (shortC f) 127 (cond (f == 10) 63 0)))
def opsC (f:Int):List UInt8:=
 cond (f == 1 || f == 7) [65,66] (cond (f == 2 || f == 3 || f == 6 || f == 10 || f == 5) [65,105] (cond (f == 4) [65,109] (cond (f == 8 || f == 12) [65] (cond (f == 11) [65,66,99] (cond (f == 13 || f == 14) [106] (cond (f == 15 || f == 16) [99,106] []))))))
def conv (x:RowX):RowT:=(x.1,prefC x.2.2.2.2,opC x.2.2.1,formC x.2.1,x.2.2.2.1,condC x.2.1,lowC x.2.1,highC x.2.1,opsC x.2.1)
theorem rows_conv:rowsX.map conv=rowsL:=by kernel_rfl
theorem find_conv (nm:List UInt8):findL nm rowsL=(findLX nm rowsX).map conv:=by
 unfold findL findLX
 rw [← rows_conv,List.find?_map]
 rfl
theorem fok_eq (nm:List UInt8):fok nm=fokX nm:=by
 unfold fok fokX
 rw [find_conv]
 cases findLX nm rowsX <;> rfl
theorem frow_eq {nm:List UInt8} (h:fokX nm=true):frow nm=conv (frowX nm)∧frowX nm ∈ rowsX:=by
 unfold fokX at h
 obtain ⟨r,hr⟩:=Option.isSome_iff_exists.1 h
 have h1:frowX nm=r:=by unfold frowX; rw [hr]; rfl
 refine ⟨?_,by rw [h1]; exact List.mem_of_find?_eq_some hr⟩
 unfold frow
 rw [find_conv,hr,h1]
 rfl
end Go.Amd

namespace Go.Amd
open Go Go.Ab Go.Proofs
noncomputable def cx163:Cx:={ P:=Tryz.prog,n:=6,tab:=[],mtab:=[],refs:=[],keeps:=[0,3] }
noncomputable def mustM:MSpec:=fun args H=>.req (Nat.ble args.length Tryz.f163.ntmps) (mfun cx163 Tryz.f163 args H)
theorem mustM_ok:MSound Tryz.prog 163 mustM:=msound_fun (cx:=cx163) (fn:=Tryz.f163) (cx1_ok (.nil _) (.nil _) rfl rfl) (by kernel_rfl) (by kernel_rfl)
noncomputable def cx164:Cx:={ P:=Tryz.prog,n:=33,tab:=[],mtab:=[],refs:=[],keeps:=[0,2,12] }
noncomputable def nextM:MSpec:=fun args H=>.req (Nat.ble args.length Tryz.f164.ntmps) (mfun cx164 Tryz.f164 args H)
theorem nextM_ok:MSound Tryz.prog 164 nextM:=msound_fun (cx:=cx164) (fn:=Tryz.f164) (cx1_ok (.nil _) (.nil _) rfl rfl) (by kernel_rfl) (by kernel_rfl)
noncomputable def cx207:Cx:={ P:=Tryz.prog,n:=30,tab:=[],mtab:=[(164,nextM)],refs:=[],keeps:=[0,1,4,5,6,7,8,9],fuel:=9 }
noncomputable def numberM:MSpec:=fun args H=>.req (Nat.ble args.length Tryz.f207.ntmps) (mfun cx207 Tryz.f207 args H)
theorem numberM_ok:MSound Tryz.prog 207 numberM:=msound_fun (cx:=cx207) (fn:=Tryz.f207) (cx1_ok (.nil _) (.cons nextM_ok (.nil _)) rfl rfl) (by kernel_rfl) (by kernel_rfl)
noncomputable def cx161:Cx:={ P:=Tryz.prog,n:=12,tab:=[],mtab:=[],refs:=[],keeps:=[0,1,4,11] }
noncomputable def cx159:Cx:={ P:=Tryz.prog,n:=59,tab:=[],mtab:=[(163,mustM),(164,nextM)],refs:=[],keeps:=[0,2,3,7,19,31] }
noncomputable def cx203:Cx:={ P:=Tryz.prog,n:=75,tab:=[(96,conditionS)],mtab:=[],refs:=[],keeps:=[0,1,2,4,5,6,29,38,48,59] }
noncomputable def cx204:Cx:={ P:=Tryz.prog,n:=81,tab:=[],mtab:=[],refs:=[],keeps:=[0,1,2,4,5,13,15,16,20,27,36,38,39,47] }
noncomputable def cx205:Cx:={ P:=Tryz.prog,n:=11,tab:=[],mtab:=[],refs:=[],keeps:=[0,1,2,4,5] }
noncomputable def cx206:Cx:={ P:=Tryz.prog,n:=36,tab:=[],mtab:=[],refs:=[],keeps:=[0,1,2,3,4,8,10,11,15,23] }
noncomputable def cx110:Cx:={ P:=Tryz.prog,n:=15,tab:=[],mtab:=[],refs:=[],keeps:=[0,1,2,4,5,6,8,10,11] }
theorem ofOption_run {α:Type} {o:Option α} {a:α} (h:(Tree.ofOption o).run=some a):o=some a:=by
 cases o with
 | none=>cases h
 | some b=>simpa [Tree.ofOption,Tree.run] using h
end Go.Amd

namespace Go.Amd
open Go Go.Ab Go.Proofs
def and8 (a b:Int):Int:=IntKind.wrap .u8 ↑(BitVec.toNat (BitVec.ofInt 8 a &&& BitVec.ofInt 8 b))
def nthB (x:RowT) (c:Int):Int:=w8 (c - w8 x.2.2.1)
def opensH (x:RowT) (c:Int) (c0:Int):Tree V:=
 .br (condR x) (.br (decide (nthB x c<16)) (tB (condF (wi (nthB x c)))) (tB false))
  (cond (formR x == 1 || formR x == 2) (tB (decide (nthB x c<8))) (cond (formR x == 6) (.br (c0 == 131) (tB true) (tB (c0 == 129))) (tB (nthB x c == 0))))
theorem opens1_forms:forms.map (fun f nm rex op dg cn lo hi os c=>(dfun cx203 Tryz.f203 [.agg (rowL (nm,rex,op,f,dg,cn,lo,hi,os)),.sl (.int .u8) ([c]:List Int) [] .full]).out) =
  forms.map (fun f nm rex op dg cn lo hi os c=>(Tree.br (!(false == decide (255<op))) (tB false) (opensH (nm,rex,op,f,dg,cn,lo,hi,os) c c)).out):=by kernel_rfl
theorem opens2_forms:forms.map (fun f nm rex op dg cn lo hi os c e=>(dfun cx203 Tryz.f203 [.agg (rowL (nm,rex,op,f,dg,cn,lo,hi,os)),.sl (.int .u8) ([c,e]:List Int) [] .full]).out) =
  forms.map (fun f nm rex op dg cn lo hi os c e=>(Tree.br (!(true == decide (255<op))) (tB false) (.br (c != w8 (Int.fdiv op (2 ^ 8))) (tB false) (opensH (nm,rex,op,f,dg,cn,lo,hi,os) e c))).out):=by kernel_rfl
abbrev wkO (l sp:List Int) (fl:Fl) (k:Int) (fs:Bool) (R:Int) (has:Bool):O:=.cells [.sl (.int .u8) l sp fl,.int .i64 k,.bool fs,.int .u8 R,.bool has] 146
def tM (b:Bool) (H:List O):Tree Res:=.leaf (.ok (.bool b) H)
def unusedF (f:Int):Int:=cond (f == 0 || f == 11 || f == 12) 7 (cond (f == 1 || f == 2 || f == 3 || f == 4 || f == 5 || f == 6) 6 (cond (f == 7 || f == 8) 2 0))
def prefH (x:RowT) (fs:Bool) (R:Int) (has:Bool) (H:List O):Tree Res:=
 .br (!(fs == (formR x == 10))) (tM false H) (.br (and8 R (unusedF (formR x)) != 0) (tM false H)
  (.br (x.2.1 == 1) (tM (and8 R 8 != 0) H) (.br (x.2.1 == 2) (.br has (tM (and8 R 8 == 0) H) (tM false H)) (.br (and8 R 8 == 0) (.br (!has) (tM true H) (tM (R != 0) H)) (tM false H)))))
theorem pref_forms:forms.map (fun f nm rex op dg cn lo hi os l sp fl k fs R has=>(mfun cx204 Tryz.f204 [.agg (rowL (nm,rex,op,f,dg,cn,lo,hi,os)),.ptr 0 0] [wkO l sp fl k fs R has]).out) =
  forms.map (fun f nm rex op dg cn lo hi os l sp fl k fs R has=>(prefH (nm,rex,op,f,dg,cn,lo,hi,os) fs R has ([wkO l sp fl k fs R has]++[.cells (rowL (nm,rex,op,f,dg,cn,lo,hi,os)) 104])).out):=by kernel_rfl
def modOf (f:Int):Bool:=!(f == 0 || f == 1 || f == 2 || f == 11 || f == 12)
theorem mod_forms:forms.map (fun f nm rex op dg cn lo hi os=>(dfun cx205 Tryz.f205 [.agg (rowL (nm,rex,op,f,dg,cn,lo,hi,os))]).out) =
  forms.map (fun f _ _ _ _ _ _ _ _=>(tB (modOf f)).out):=by kernel_rfl
def fitH (x:RowT) (m dg rm:Int):Tree V:=
 cond (formR x == 9) (tB (m != 3)) (cond (formR x == 10) (.br (m == 0) (tB (rm == 4)) (tB false)) (cond (formR x == 7 || formR x == 8) (tB (m == 3)) (.br (m == 3) (tB (dg == x.2.2.2.2.1)) (tB false))))
theorem fit_forms:forms.map (fun f nm rex op dg cn lo hi os m d rm=>(dfun cx206 Tryz.f206 [.agg (rowL (nm,rex,op,f,dg,cn,lo,hi,os)),.int .u8 m,.int .u8 d,.int .u8 rm]).out) =
  forms.map (fun f nm rex op dg cn lo hi os m d rm=>(fitH (nm,rex,op,f,dg,cn,lo,hi,os) m d rm).out):=by kernel_rfl
end Go.Amd

namespace Go.Amd
open Go Go.Ab Go.Proofs
def opF (x:RowT) (c c0:Int):Bool:=
 cond (condR x) (cond (decide (nthB x c<16)) (condF (wi (nthB x c))) false)
  (cond (formR x == 1 || formR x == 2) (decide (nthB x c<8)) (cond (formR x == 6) (cond (c0 == 131) true (c0 == 129)) (nthB x c == 0)))
def opensF (x:RowT):List Int→Bool
 | [c]=>cond (decide (255<x.2.2.1)) false (opF x c c)
 | [c,e]=>cond (decide (255<x.2.2.1)) (cond (c != w8 (Int.fdiv x.2.2.1 (2 ^ 8))) false (opF x e c)) false
 | _=>false
theorem opensH_run (x:RowT) (c c0:Int):(opensH x c c0).run=some (.bool (opF x c c0)):=by
 unfold opensH opF tB
 rw [br_run,br_run]
 cases condR x
 ·cases (formR x == 1 || formR x == 2)
  ·cases (formR x == 6)
   ·rfl
   ·cases (c0 == 131) <;> rfl
  ·rfl
 ·cases decide (nthB x c<16) <;> rfl
theorem opens1_run (x:RowT) (c:Int):(Tree.br (!(false == decide (255<x.2.2.1))) (tB false) (opensH x c c)).run=some (.bool (opensF x [c])):=by
 rw [br_run,opensH_run]
 unfold opensF
 cases decide (255<x.2.2.1) <;> rfl
theorem opens2_run (x:RowT) (c e:Int):(Tree.br (!(true == decide (255<x.2.2.1))) (tB false) (.br (c != w8 (Int.fdiv x.2.2.1 (2 ^ 8))) (tB false) (opensH x e c))).run=some (.bool (opensF x [c,e])):=by
 rw [br_run,br_run,opensH_run]
 show _=some (V.bool (cond (decide (255<x.2.2.1)) (cond (c != w8 (Int.fdiv x.2.2.1 (2 ^ 8))) false (opF x e c)) false))
 cases decide (255<x.2.2.1)
 ·rfl
 ·cases (c != w8 (Int.fdiv x.2.2.1 (2 ^ 8))) <;> rfl
def opensS:Ab.Spec:=fun args=>match args with
 | [.agg [.str nm,.int .i64 rex,.int .u16 op,.int .i64 f,.int .u8 dg,.bool cn,.int .i64 lo,.int .i64 hi,.str ops],.sl (.int .u8) [c] [] .full] =>
  .req (formOk (nm,rex,op,f,dg,cn,lo,hi,ops)) (.leaf (.bool (opensF (nm,rex,op,f,dg,cn,lo,hi,ops) [c])))
 | [.agg [.str nm,.int .i64 rex,.int .u16 op,.int .i64 f,.int .u8 dg,.bool cn,.int .i64 lo,.int .i64 hi,.str ops],.sl (.int .u8) [c,e] [] .full] =>
  .req (formOk (nm,rex,op,f,dg,cn,lo,hi,ops)) (.leaf (.bool (opensF (nm,rex,op,f,dg,cn,lo,hi,ops) [c,e])))
 | _=>.fail
theorem cxOp_ok:CxOk cx203:=cx1_ok (ok1 conditionS_ok) (.nil _) rfl rfl
theorem opensS_ok:Sound Tryz.prog 203 opensS:=by
 intro args out h
 unfold opensS at h
 split at h
 ·rename_i nm rex op f dg cn lo hi os c
  obtain ⟨h1,h⟩:=req_run h
  have h:=leaf_out h
  subst h
  refine pcall_fun' (cx:=cx203) (fn:=Tryz.f203) cxOp_ok (by kernel_rfl) (by kernel_rfl) (by kernel_rfl) ?_
  have e:=congrFun (congrFun (congrFun (congrFun (congrFun (congrFun (congrFun (congrFun (congrFun (forms_of opens1_forms h1) nm) rex) op) dg) cn) lo) hi) os) c
  exact (Tree.out_run _).symm.trans (e.trans ((Tree.out_run _).trans (opens1_run (nm,rex,op,f,dg,cn,lo,hi,os) c)))
 ·rename_i nm rex op f dg cn lo hi os c c2
  obtain ⟨h1,h⟩:=req_run h
  have h:=leaf_out h
  subst h
  refine pcall_fun' (cx:=cx203) (fn:=Tryz.f203) cxOp_ok (by kernel_rfl) (by kernel_rfl) (by kernel_rfl) ?_
  have e:=congrFun (congrFun (congrFun (congrFun (congrFun (congrFun (congrFun (congrFun (congrFun (congrFun (forms_of opens2_forms h1) nm) rex) op) dg) cn) lo) hi) os) c) c2
  exact (Tree.out_run _).symm.trans (e.trans ((Tree.out_run _).trans (opens2_run (nm,rex,op,f,dg,cn,lo,hi,os) c c2)))
 ·cases h
def prefF (x:RowT) (fs:Bool) (R:Int) (has:Bool):Bool:=
 cond (!(fs == (formR x == 10))) false (cond (and8 R (unusedF (formR x)) != 0) false
  (cond (x.2.1 == 1) (and8 R 8 != 0) (cond (x.2.1 == 2) (cond has (and8 R 8 == 0) false) (cond (and8 R 8 == 0) (cond (!has) true (R != 0)) false))))
theorem prefH_run (x:RowT) (fs:Bool) (R:Int) (has:Bool) (H:List O):(prefH x fs R has H).run=some (.ok (.bool (prefF x fs R has)) H):=by
 unfold prefH prefF tM
 simp only [br_run]
 cases (!(fs == (formR x == 10))) <;> cases (and8 R (unusedF (formR x)) != 0) <;> cases (x.2.1 == 1) <;> cases (x.2.1 == 2) <;> cases has <;> cases (and8 R 8 == 0) <;> rfl
def prefS:MSpec:=fun args H=>match args,H with
 | [.agg [.str nm,.int .i64 rex,.int .u16 op,.int .i64 f,.int .u8 dg,.bool cn,.int .i64 lo,.int .i64 hi,.str ops],.ptr 0 0],[.cells [.sl (.int .u8) l sp fl,.int .i64 k,.bool fs,.int .u8 R,.bool has] 146] =>
  .req (formOk (nm,rex,op,f,dg,cn,lo,hi,ops)) (.leaf (.ok (.bool (prefF (nm,rex,op,f,dg,cn,lo,hi,ops) fs R has)) ([wkO l sp fl k fs R has]++[.cells (rowL (nm,rex,op,f,dg,cn,lo,hi,ops)) 104])))
 | _,_=>.fail
theorem prefS_ok:MSound Tryz.prog 204 prefS:=by
 intro args H r h
 unfold prefS at h
 split at h
 rotate_left
 ·cases h
 rename_i nm rex op f dg cn lo hi os l sp fl k fs R has
 obtain ⟨h1,h⟩:=req_run h
 have h:=leaf_out h
 subst h
 refine mcall_fun' (cx:=cx204) (fn:=Tryz.f204) (cx1_ok (.nil _) (.nil _) rfl rfl) (by kernel_rfl) (by kernel_rfl) (by kernel_rfl) ?_
 have e:=congrFun (congrFun (congrFun (congrFun (congrFun (congrFun (congrFun (congrFun (congrFun (congrFun (congrFun (congrFun (congrFun (congrFun (congrFun (forms_of pref_forms h1) nm) rex) op) dg) cn) lo) hi) os) l) sp) fl) k) fs) R) has
 exact (Tree.out_run _).symm.trans (e.trans ((Tree.out_run _).trans (prefH_run _ _ _ _ _)))
def hasModS:Ab.Spec:=fun args=>match args with
 | [.agg [.str nm,.int .i64 rex,.int .u16 op,.int .i64 f,.int .u8 dg,.bool cn,.int .i64 lo,.int .i64 hi,.str ops]]=>.req (formOk (nm,rex,op,f,dg,cn,lo,hi,ops)) (.leaf (.bool (modOf f)))
 | _=>.fail
theorem hasModS_ok:Sound Tryz.prog 205 hasModS:=by
 intro args out h
 unfold hasModS at h
 split at h
 rotate_left
 ·cases h
 rename_i nm rex op f dg cn lo hi os
 obtain ⟨h1,h⟩:=req_run h
 have h:=leaf_out h
 subst h
 refine pcall_fun' (cx:=cx205) (fn:=Tryz.f205) (cx1_ok (.nil _) (.nil _) rfl rfl) (by kernel_rfl) (by kernel_rfl) (by kernel_rfl) ?_
 have e:=congrFun (congrFun (congrFun (congrFun (congrFun (congrFun (congrFun (congrFun (forms_of mod_forms h1) nm) rex) op) dg) cn) lo) hi) os
 exact (Tree.out_run _).symm.trans (e.trans ((Tree.out_run _).trans rfl))
def fitF (x:RowT) (m dg rm:Int):Bool:=
 cond (formR x == 9) (m != 3) (cond (formR x == 10) (cond (m == 0) (rm == 4) false) (cond (formR x == 7 || formR x == 8) (m == 3) (cond (m == 3) (dg == x.2.2.2.2.1) false)))
theorem fitH_run (x:RowT) (m dg rm:Int):(fitH x m dg rm).run=some (.bool (fitF x m dg rm)):=by
 unfold fitH fitF tB
 cases (formR x == 9) <;> cases (formR x == 10) <;> cases (formR x == 7 || formR x == 8) <;> cases (m == 0) <;> cases (m == 3) <;> rfl
def fitS:Ab.Spec:=fun args=>match args with
 | [.agg [.str nm,.int .i64 rex,.int .u16 op,.int .i64 f,.int .u8 dg,.bool cn,.int .i64 lo,.int .i64 hi,.str ops],.int .u8 m,.int .u8 d,.int .u8 rm] =>
  .req (formOk (nm,rex,op,f,dg,cn,lo,hi,ops)) (.leaf (.bool (fitF (nm,rex,op,f,dg,cn,lo,hi,ops) m d rm)))
 | _=>.fail
theorem fitS_ok:Sound Tryz.prog 206 fitS:=by
 intro args out h
 unfold fitS at h
 split at h
 rotate_left
 ·cases h
 rename_i nm rex op f dg cn lo hi os m d rm
 obtain ⟨h1,h⟩:=req_run h
 have h:=leaf_out h
 subst h
 refine pcall_fun' (cx:=cx206) (fn:=Tryz.f206) (cx1_ok (.nil _) (.nil _) rfl rfl) (by kernel_rfl) (by kernel_rfl) (by kernel_rfl) ?_
 have e:=congrFun (congrFun (congrFun (congrFun (congrFun (congrFun (congrFun (congrFun (congrFun (congrFun (congrFun (forms_of fit_forms h1) nm) rex) op) dg) cn) lo) hi) os) m) d) rm
 exact (Tree.out_run _).symm.trans (e.trans ((Tree.out_run _).trans (fitH_run _ _ _ _)))
end Go.Amd

namespace Go.Amd
open Go Go.Ab Go.Proofs
def opLen:List Int→Bool
 | [_]=>true
 | [_,_]=>true
 | _=>false
def opensG:Ab.Spec:=fun args=>match args with
 | [.agg [.str nm,.int .i64 rex,.int .u16 op,.int .i64 f,.int .u8 dg,.bool cn,.int .i64 lo,.int .i64 hi,.str ops],.sl (.int .u8) l [] .full] =>
  .req (opLen l) (.req (formOk (nm,rex,op,f,dg,cn,lo,hi,ops)) (.leaf (.bool (opensF (nm,rex,op,f,dg,cn,lo,hi,ops) l))))
 | _=>.fail
theorem opensG_ok:Sound Tryz.prog 203 opensG:=by
 intro args out h
 unfold opensG at h
 split at h
 rotate_left
 ·cases h
 rename_i nm rex op f dg cn lo hi os l
 obtain ⟨h1,h⟩:=req_run h
 refine opensS_ok _ out ?_
 match l,h1,h with
 | [c],_,h=>exact h
 | [c,e],_,h=>exact h
 | [],h1,_=>cases h1
 | _ :: _ :: _ :: _,h1,_=>cases h1
noncomputable def cxCh:Cx:={ P:=Tryz.prog,n:=65,tab:=[(92,rowsS),(203,opensG),(205,hasModS),(206,fitS)],mtab:=[(204,prefS),(163,mustM),(164,nextM)],refs:=[],keeps:=[0,1,4,5,6,8,9,11,12,13,14,15,25,39,45,46,47,48,59] }
theorem cxCh_ok:CxOk cxCh:=cx1_ok (.cons rowsS_ok (.cons opensG_ok (.cons hasModS_ok (ok1 fitS_ok)))) (.cons prefS_ok (.cons mustM_ok (.cons nextM_ok (.nil _)))) rfl rfl
noncomputable abbrev Bch:Code:=bodyOf Tryz.f160
abbrev rO (r:RowT):O:=.cells (rowL r) 104
noncomputable abbrev rnd1:Code:=cin (cin (c2 (c1 (c2 (c2 Bch)))))
abbrev opV (op:List Int):V:=.sl (.int .u8) op [] .full
def cand (op:List Int) (fs:Bool) (R:Int) (has:Bool) (r:RowT):Bool:=cond (opensF r op) (prefF r fs R has) false
section
variable (l sp:List Int) (fl:Fl) (k R i:Int) (op:List Int) (fs has:Bool) (L G:List RowT)
abbrev t1A (g:V) (j:Int) (b:Bool):T:=[(0,.ptr 0 0),(1,opV op),(4,.ptr 1 0),(5,.int .u8 0),(6,g),(8,.ptr 2 0),(12,.sl rowE L [] .ro),(13,.int .i64 L.length),(14,.int .i64 j),(15,.bool true),(25,.bool b)]
abbrev t1G (g:V) (j:Int) (b:Bool):T:=[(0,.ptr 0 0),(1,opV op),(4,.ptr 1 0),(5,.int .u8 0),(6,g),(8,.ptr 3 0),(12,.sl rowE L [] .ro),(13,.int .i64 L.length),(14,.int .i64 j),(15,.bool true),(25,.bool b)]
abbrev t1E (g:V) (j:Int):T:=[(0,.ptr 0 0),(1,opV op),(4,.ptr 1 0),(5,.int .u8 0),(6,g),(12,.sl rowE L [] .ro),(13,.int .i64 L.length),(14,.int .i64 j),(15,.bool false)]
abbrev t1S (g:V) (j:Int):T:=[(0,.ptr 0 0),(1,opV op),(4,.ptr 1 0),(5,.int .u8 0),(6,g),(12,.sl rowE L [] .ro),(13,.int .i64 L.length),(14,.int .i64 j)]
def chR1:Tree St:=
 .br (decide (i<(L.length:Nat))) (.br (inside i L.length) (.br (opLen op) (.br (formOk (rowAt L i.toNat)) (.br (opensF (rowAt L i.toNat) op) (.br (formOk (rowAt L i.toNat)) (.br (prefF (rowAt L i.toNat) fs R has)
  (.leaf (.normal,t1A op L (.gro 4 rowE [rowAt L i.toNat]) (IntKind.wrap .i64 (i+1)) true,[wkO l sp fl k fs R has,rO zeroR,rO (rowAt L i.toNat),rO (rowAt L i.toNat),.tok 1 9]))
  (.leaf (.normal,t1A op L nilV (IntKind.wrap .i64 (i+1)) false,[wkO l sp fl k fs R has,rO zeroR,rO (rowAt L i.toNat),rO (rowAt L i.toNat)]))) .fail)
  (.leaf (.normal,t1A op L nilV (IntKind.wrap .i64 (i+1)) false,[wkO l sp fl k fs R has,rO zeroR,rO (rowAt L i.toNat)]))) .fail) .fail) .fail)
  (.leaf (.exit 0,t1E op L nilV i,[wkO l sp fl k fs R has,rO zeroR]))
theorem chR1_eq:(dcode cxCh rnd1 (t1S op L nilV i) [wkO l sp fl k fs R has,rO zeroR]).run=(chR1 l sp fl k R i op fs has L).run:=
 (show _=(chR1 l sp fl k R i op fs has L).out by kernel_rfl).trans (Tree.out_run _)
def chR2:Tree St:=
 .br (decide (i<(L.length:Nat))) (.br (inside i L.length) (.br (opLen op) (.br (formOk (rowAt L i.toNat)) (.br (opensF (rowAt L i.toNat) op) (.br (formOk (rowAt L i.toNat)) (.br (prefF (rowAt L i.toNat) fs R has)
  (.br (decide (G.length=G.length) && roomy (G.length+1) 80) (.leaf (.normal,t1G op L (.gro 2 rowE (G++[rowAt L i.toNat])) (IntKind.wrap .i64 (i+1)) true,[wkO l sp fl k fs R has,rO zeroR,.tok (G.length+1) 9,rO (rowAt L i.toNat),rO (rowAt L i.toNat)])) .fail)
  (.leaf (.normal,t1G op L (.gro 2 rowE G) (IntKind.wrap .i64 (i+1)) false,[wkO l sp fl k fs R has,rO zeroR,.tok G.length 9,rO (rowAt L i.toNat),rO (rowAt L i.toNat)]))) .fail)
  (.leaf (.normal,t1G op L (.gro 2 rowE G) (IntKind.wrap .i64 (i+1)) false,[wkO l sp fl k fs R has,rO zeroR,.tok G.length 9,rO (rowAt L i.toNat)]))) .fail) .fail) .fail)
  (.leaf (.exit 0,t1E op L (.gro 2 rowE G) i,[wkO l sp fl k fs R has,rO zeroR,.tok G.length 9]))
theorem chR2_eq:(dcode cxCh rnd1 (t1S op L (.gro 2 rowE G) i) [wkO l sp fl k fs R has,rO zeroR,.tok G.length 9]).run=(chR2 l sp fl k R i op fs has L G).run:=
 (show _=(chR2 l sp fl k R i op fs has L G).out by kernel_rfl).trans (Tree.out_run _)
end
end Go.Amd

namespace Go.Amd
open Go Go.Ab Go.Proofs
noncomputable abbrev T3:Code:=c2 (c2 (c2 Bch))
noncomputable abbrev rnd2:Code:=cin (cin (c2 (c1 (tailN 2 T3))))
abbrev fltV (e:Int):V:=.ifc 143 (.agg [.int .i64 e])
section
variable (l sp:List Int) (fl:Fl) (k R i c:Int) (op:List Int) (fs has:Bool) (G:List RowT)
abbrev t3S (g:V):T:=[(0,.ptr 0 0),(4,.ptr 1 0),(5,.int .u8 0),(6,g)]
abbrev H3 (r:RowT):List O:=[wkO l sp fl k fs R has,rO r,.tok G.length 9]
def chT:Tree St:=
 .br (!decide (0<(G.length:Int))) (.leaf (.panic (fltV 22),[(0,.ptr 0 0),(4,.ptr 1 0),(5,.int .u8 0),(6,.gro 2 rowE G),(31,.gro 2 rowE G),(32,.int .i64 (G.length:Nat)),(33,.bool (decide (0<(G.length:Int))))],H3 l sp fl k R fs has G zeroR))
  (.br (inside 0 G.length) (.br (formOk (rowAt G 0)) (.br (!modOf (formR (rowAt G 0))) (.br (inside 0 G.length) (.leaf (.ret,[(0,.ptr 0 0),(4,.ptr 1 0),(5,.int .u8 0),(6,.gro 2 rowE G),(39,.bool true)],H3 l sp fl k R fs has G (rowAt G 0))) .fail)
   (.leaf (.normal,[(0,.ptr 0 0),(4,.ptr 1 0),(5,.int .u8 0),(6,.gro 2 rowE G),(39,.bool false)],H3 l sp fl k R fs has G zeroR))) .fail) .fail)
theorem chT_eq:(dcode cxCh (headN 1 T3) (t3S (.gro 2 rowE G)) (H3 l sp fl k R fs has G zeroR)).run=(chT l sp fl k R fs has G).run:=
 (show _=(chT l sp fl k R fs has G).out by kernel_rfl).trans (Tree.out_run _)
def chN:Tree St:=
 .br (decide ((l.length:Nat)≤k)) (.leaf (.panic (fltV 2),[(0,.ptr 0 0),(4,.ptr 1 0),(5,.int .u8 0),(6,.gro 2 rowE G),(43,.ptr 0 0)],H3 l sp fl k R fs has G zeroR))
  (.br (inside (IntKind.wrap .i64 (IntKind.wrap .i64 (k+1) - 1)) l.length) (.leaf (.normal,[(0,.ptr 0 0),(4,.ptr 1 0),(5,.int .u8 0),(6,.gro 2 rowE G),(9,.int .u8 (l.getD (Int.toNat (IntKind.wrap .i64 (IntKind.wrap .i64 (k+1) - 1))) 0))],H3 l sp fl (IntKind.wrap .i64 (k+1)) R fs has G zeroR)) .fail)
theorem chN_eq:(dcode cxCh (headN 0 (tailN 1 T3)) (t3S (.gro 2 rowE G)) (H3 l sp fl k R fs has G zeroR)).run=(chN l sp fl k R fs has G).run:=
 (show _=(chN l sp fl k R fs has G).out by kernel_rfl).trans (Tree.out_run _)
def fitC (c:Int) (r:RowT):Bool:=fitF r (Int.fdiv c (2 ^ 6)) (and8 (Int.fdiv c (2 ^ 3)) 7) (and8 c 7)
abbrev t4S (j:Int):T:=[(0,.ptr 0 0),(4,.ptr 1 0),(5,.int .u8 0),(9,.int .u8 c),(45,.gro 2 rowE G),(46,.int .i64 (G.length:Nat)),(47,.int .i64 j)]
def chR3:Tree St:=
 .br (decide (i<(G.length:Nat))) (.br (inside i G.length) (.br (formOk (rowAt G i.toNat)) (.br (fitC c (rowAt G i.toNat))
  (.leaf (.ret,[(0,.ptr 0 0),(4,.ptr 1 0),(5,.int .u8 c),(9,.int .u8 c),(11,.ptr 3 0),(45,.gro 2 rowE G),(46,.int .i64 (G.length:Nat)),(47,.int .i64 i),(48,.bool true),(59,.bool true)],H3 l sp fl k R fs has G (rowAt G i.toNat)++[rO (rowAt G i.toNat)]))
  (.leaf (.normal,[(0,.ptr 0 0),(4,.ptr 1 0),(5,.int .u8 0),(9,.int .u8 c),(11,.ptr 3 0),(45,.gro 2 rowE G),(46,.int .i64 (G.length:Nat)),(47,.int .i64 (IntKind.wrap .i64 (i+1))),(48,.bool true),(59,.bool false)],H3 l sp fl k R fs has G zeroR++[rO (rowAt G i.toNat)]))) .fail) .fail)
  (.leaf (.exit 2,[(0,.ptr 0 0),(4,.ptr 1 0),(5,.int .u8 0),(9,.int .u8 c),(45,.gro 2 rowE G),(46,.int .i64 (G.length:Nat)),(47,.int .i64 i),(48,.bool false)],H3 l sp fl k R fs has G zeroR))
theorem chR3_eq:(dcode cxCh rnd2 (t4S c G i) (H3 l sp fl k R fs has G zeroR)).run=(chR3 l sp fl k R i c fs has G).run:=
 (show _=(chR3 l sp fl k R i c fs has G).out by kernel_rfl).trans (Tree.out_run _)
def fitT:Tree Res:=match G.find? (fitC c) with
 | some r=>.leaf (.ok (.tup [.agg (rowL r),.int .u8 c]) [wkO l sp fl k fs R has,rO r])
 | none=>.leaf (.pan (fltV 22) [wkO l sp fl k fs R has])
def cands:List RowT:=rowsL.filter (cand op fs R has)
def chosenT:Tree Res:=match cands R op fs has with
 | []=>.leaf (.pan (fltV 22) [wkO l sp fl k fs R has])
 | r0 :: G=>.br (modOf (formR r0)) (.br (decide ((l.length:Nat)≤k)) (.leaf (.pan (fltV 2) [wkO l sp fl k fs R has]))
   (fitT l sp fl (k+1) R (l.getD k.toNat 0) fs has (r0 :: G)))
  (.leaf (.ok (.tup [.agg (rowL r0),.int .u8 0]) [wkO l sp fl k fs R has,rO r0]))
theorem cand_fine {r:RowT} {G:List RowT} (h:∀ r ∈ G,r ∈ rowsL) (hr:r ∈ G):formOk r=true:=List.all_eq_true.1 rows_forms r (h r hr)
def chQ (r:Res) (e:AEx) (t:T) (H:List O):Prop:=∃ κ s,dropS 1 κ (e,t,H)=some s∧MPost Tryz.prog Tryz.f160 r s.1 s.2.1 s.2.2
variable {l sp fl k R op fs has G}
theorem chosen_fit (hG:∀ r ∈ G,r ∈ rowsL) (hlen:G.length≤58) {res:Res}
  (hres:(fitT l sp fl k R c fs has G).run=some res) :
  AWP Tryz.prog 65 (tailN 1 (c2 T3)) (chQ res) [(0,.ptr 0 0),(4,.ptr 1 0),(5,.int .u8 0),(6,.gro 2 rowE G),(9,.int .u8 c)] (H3 l sp fl k R fs has G zeroR):=by
 unfold fitT at hres
 have e:tailN 1 (c2 T3) = .seq (.seq (c1 (c1 (tailN 2 T3))) (.block 2 (.loop rnd2))) (c2 (tailN 2 T3)):=by kernel_rfl
 rw [e]
 refine AWP_seq (AWP_seq (AWP_run (cx:=cxCh) rfl rfl cxCh_ok (s:=(.normal,[(0,.ptr 0 0),(4,.ptr 1 0),(5,.int .u8 0),(6,.gro 2 rowE G),(9,.int .u8 c),(45,.gro 2 rowE G),(46,.int .i64 (G.length:Nat)),(47,.int .i64 0)],H3 l sp fl k R fs has G zeroR)) (by kernel_rfl) ?_))
 refine AWP_block ?_
 refine AWP.less (s:=t4S c G ((0:Nat):Int)) (Fits.tle ⟨rfl,rfl,rfl,rfl,rfl,rfl,rfl,trivial⟩) ?_
 refine AWP_rounds (cx:=cxCh) (P:=Tryz.prog) (n:=65) rfl rfl cxCh_ok (fun j:{ j:Nat // j≤G.length∧(G.take j).find? (fitC c)=none }=>(t4S c G (j.1:Int),H3 l sp fl k R fs has G zeroR)) (fun j=>58 - j.1) ?_ ⟨0,Nat.zero_le _,rfl⟩
 rintro ⟨j,hj,hnone⟩
 refine Tree.all_run_eq (chR3_eq l sp fl k R j c fs has G) ?_
 refine ⟨fun hlt=>⟨fun hin=>?_,fun hin=>?_⟩,fun hge=>?_⟩
 ·have hlt:j<G.length:=Int.ofNat_lt.1 (of_decide_eq_true hlt)
  have hmem:rowAt G j ∈ G:=by
   show G.getD j zeroR ∈ G
   rw [getD_lt hlt]
   exact List.getElem_mem hlt
  refine all_t (cand_fine hG hmem) ⟨fun hp=>?_,fun hp=>?_⟩
  ·have hf:G.find? (fitC c)=some (rowAt G j):=take_some hlt hnone hp
   rw [hf] at hres
   simp only [Tree.run,Option.some.injEq] at hres
   subst hres
   refine ⟨[],(.ret,[(0,.ptr 0 0),(4,.ptr 1 0),(5,.int .u8 c),(9,.int .u8 c),(11,.any),(45,.gro 2 rowE G),(46,.int .i64 (G.length:Nat)),(47,.int .i64 (j:Int)),(48,.bool true),(59,.bool true)],H3 l sp fl k R fs has G (rowAt G j)),by kernel_rfl,?_⟩
   show chQ _ _ _ _
   exact ⟨[1],(.ret,[(0,.ptr 0 0),(4,.ptr 1 0),(5,.int .u8 c),(9,.int .u8 c),(11,.any),(45,.any),(46,.int .i64 (G.length:Nat)),(47,.int .i64 (j:Int)),(48,.bool true),(59,.bool true)],[wkO l sp fl k fs R has,rO (rowAt G j)]),by kernel_rfl,.inl rfl,rfl,by kernel_rfl⟩
  ·have hn:(G.take (j+1)).find? (fitC c)=none:=take_none hlt hnone hp
   refine ⟨[],(.normal,[(0,.ptr 0 0),(4,.ptr 1 0),(5,.int .u8 0),(9,.int .u8 c),(11,.any),(45,.gro 2 rowE G),(46,.int .i64 (G.length:Nat)),(47,.int .i64 (IntKind.wrap .i64 ((j:Int)+1))),(48,.bool true),(59,.bool false)],H3 l sp fl k R fs has G zeroR),by kernel_rfl,
    ⟨j+1,hlt,hn⟩,by show 58 - (j+1)<58 - j; omega,Fits.tle ⟨rfl,rfl,rfl,rfl,rfl,rfl,?_,trivial⟩,rfl⟩
   show V.int .i64 (IntKind.wrap .i64 ((j:Int)+1))=V.int .i64 ((j+1:Nat):Int)
   rw [wrap_i64 (by omega) (by omega)]
   rfl
 ·exfalso
  have hlt:j<G.length:=Int.ofNat_lt.1 (of_decide_eq_true hlt)
  exact Bool.noConfusion ((inside_of (Int.natCast_nonneg j) (Int.ofNat_lt.2 hlt)).symm.trans hin)
 ·have hge:¬ j<G.length:=fun h=>of_decide_eq_false hge (Int.ofNat_lt.2 h)
  have hj' : j=G.length:=by omega
  have hf:G.find? (fitC c)=none:=by rw [← hnone,hj',List.take_length]
  rw [hf] at hres
  simp only [Tree.run,Option.some.injEq] at hres
  subst hres
  refine ⟨[],(.exit 2,[(0,.ptr 0 0),(4,.ptr 1 0),(5,.int .u8 0),(9,.int .u8 c),(45,.gro 2 rowE G),(46,.int .i64 (G.length:Nat)),(47,.int .i64 (j:Int)),(48,.bool false)],H3 l sp fl k R fs has G zeroR),by kernel_rfl,?_⟩
  show AWP _ _ _ _ _ _
  refine AWP.less (s:=[(0,.ptr 0 0),(4,.ptr 1 0),(5,.int .u8 0)]) (Fits.tle ⟨rfl,rfl,rfl,trivial⟩) ?_
  refine AWP_run (cx:=cxCh) rfl rfl cxCh_ok (s:=(.panic (fltV 22),[(0,.ptr 0 0),(4,.ptr 1 0),(5,.int .u8 0)],H3 l sp fl k R fs has G zeroR)) (by kernel_rfl) ?_
  exact ⟨[],(.panic (fltV 22),[(0,.ptr 0 0),(4,.any),(5,.int .u8 0)],[wkO l sp fl k fs R has]),by kernel_rfl,rfl,rfl⟩
end
end Go.Amd
