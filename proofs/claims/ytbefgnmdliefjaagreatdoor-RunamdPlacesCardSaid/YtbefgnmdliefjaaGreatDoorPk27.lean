/-
  Numbers of 64 bits: their highest bit; flags of sums, differences, shifts, as the program and the document have them. Conditions: none.
-/
import Derived.Test.YtbefgnmdliefjaaGreatDoorPk26
set_option linter.unusedVariables false
set_option linter.unusedSimpArgs false
namespace Go.Ra
open Go Go.Ab Go.Proofs
def hb (x:Int):Bool:=decide (9223372036854775808≤x)
theorem negB_hb {x:Int} (h:rng64 x=true):negB x=hb x:=by
 obtain ⟨h0,h1⟩:=rng_spec h
 unfold negB hb
 rw [wi_def]
 by_cases g:9223372036854775808≤x
 ·rw [if_pos (by omega),decide_eq_true (by omega),decide_eq_true g]
 ·rw [if_neg (by omega),decide_eq_false (by omega),decide_eq_false g]
theorem sh63 {x:Int} (h:rng64 x=true):shrF x 63=cond (hb x) 1 0:=by
 obtain ⟨h0,h1⟩:=rng_spec h
 have e:shrF x 63=x / 9223372036854775808:=Int.fdiv_eq_ediv_of_nonneg _ (by decide)
 rw [e]
 unfold hb
 by_cases g:9223372036854775808≤x
 ·rw [decide_eq_true g]
  show x / 9223372036854775808=1
  omega
 ·rw [decide_eq_false g]
  show x / 9223372036854775808=0
  omega
theorem sh63_one {x:Int} (h:rng64 x=true):(shrF x 63 == 1)=hb x:=by
 rw [sh63 h]
 cases hb x <;> rfl
theorem sh63_eq {x y:Int} (h:rng64 x=true) (g:rng64 y=true):(shrF x 63 == shrF y 63)=(hb x == hb y):=by
 rw [sh63 h,sh63 g]
 cases hb x <;> cases hb y <;> rfl
theorem sh63_ne {x y:Int} (h:rng64 x=true) (g:rng64 y=true):(shrF x 63 != shrF y 63)=(hb x != hb y):=by
 rw [sh63 h,sh63 g]
 cases hb x <;> cases hb y <;> rfl
theorem bv_nat {x:Int} (h:rng64 x=true):((BitVec.ofInt 64 x).toNat:Int)=x:=by
 obtain ⟨h0,h1⟩:=rng_spec h
 rw [BitVec.toNat_ofInt]
 omega
theorem hb_bv (b:BitVec 64):hb (b.toNat:Int)=b.msb:=by
 unfold hb
 rw [BitVec.msb_eq_decide]
 exact decide_eq_decide.2 (by omega)
theorem hb_msb {x:Int} (h:rng64 x=true):hb x=(BitVec.ofInt 64 x).msb:=by
 rw [← hb_bv,bv_nat h]
theorem wu_bv (b:BitVec 64):IntKind.wrap .u64 ((b.toNat:Nat):Int)=b.toNat:=wu_cast b.isLt
theorem xorU_rng (a b:Int):rng64 (xorU a b)=true:=rng_wu _
theorem andU_rng (a b:Int):rng64 (andU a b)=true:=rng_wu _
theorem orU_rng (a b:Int):rng64 (orU a b)=true:=rng_wu _
theorem hb_xor {a b:Int} (ha:rng64 a=true) (hb' : rng64 b=true):hb (xorU a b)=(hb a != hb b):=by
 unfold xorU
 rw [wu_bv,hb_bv,BitVec.msb_xor,← hb_msb ha,← hb_msb hb']
theorem hb_and {a b:Int} (ha:rng64 a=true) (hb' : rng64 b=true):hb (andU a b)=(hb a && hb b):=by
 unfold andU
 rw [wu_bv,hb_bv,BitVec.msb_and,← hb_msb ha,← hb_msb hb']
def sumW (x y:Int) (t:W):W:=flW (wu (x+y) == 0) (hb (wu (x+y))) (decide (wu (x+y)<x)) (cond (hb x == hb y) (hb (wu (x+y)) != hb x) false) t
def subW (x y:Int) (t:W):W:=flW (wu (x - y) == 0) (hb (wu (x - y))) (decide (x<y)) (cond (hb x != hb y) (hb (wu (x - y)) != hb x) false) t
def logW (x:Int) (t:W):W:=flW (x == 0) (hb x) false false t
section
variable {x y:Int} (hx:rng64 x=true) (hy:rng64 y=true) (t:W) (T:List V)
include hx hy
theorem addK_R (k:Int→KS):addK x y (t.1.l++T) k=k (wu (x+y)) ((sumW x y t).1.l++T):=by
 obtain ⟨x0,x1⟩:=rng_spec hx
 obtain ⟨y0,y1⟩:=rng_spec hy
 unfold addK q
 have e:(x+y+0) % 18446744073709551616=wu (x+y):=by rw [wu_mod,Int.add_zero]
 rw [e,decide_eq_true x0,decide_eq_true y0,sumS_R,negB_hb (rng_wu _)]
 have hs:=rng_wu (x+y)
 have ev:decide (wi (andU (xorU x (wu (x+y))) (xorU y (wu (x+y))))<0)=cond (hb x == hb y) (hb (wu (x+y)) != hb x) false:=by
  refine (negB_hb (andU_rng _ _)).trans ?_
  rw [hb_and (xorU_rng _ _) (xorU_rng _ _),hb_xor hx hs,hb_xor hy hs]
  cases hb x <;> cases hb y <;> cases hb (wu (x+y)) <;> rfl
 have ec:((x+y+0) / 18446744073709551616 != 0)=decide (wu (x+y)<x):=by
  rw [wu_mod]
  by_cases g:18446744073709551616≤x+y
  ·rw [decide_eq_true (by omega),show (x+y+0) / 18446744073709551616=1 by omega]
   rfl
  ·rw [decide_eq_false (by omega),show (x+y+0) / 18446744073709551616=0 by omega]
   rfl
 rw [ev,ec]
 rfl
theorem addD_R (k:Int→KS):addD x y (t.1.l++T) k=k (wu (x+y)) ((sumW x y t).1.l++T):=by
 have hs:=rng_wu (x+y)
 unfold addD sumW
 rw [nzS_R,nzS_R,sh63_eq hx hy,sh63_ne hs hx,sh63_one hs]
 cases hb x == hb y <;> rfl
theorem subK_R (k:Int→KS):subK x y (t.1.l++T) k=k (wu (x - y)) ((subW x y t).1.l++T):=by
 obtain ⟨x0,x1⟩:=rng_spec hx
 obtain ⟨y0,y1⟩:=rng_spec hy
 unfold subK q
 have e:(x - y - 0) % 18446744073709551616=wu (x - y):=by rw [wu_mod,Int.sub_zero]
 rw [e,decide_eq_true x0,decide_eq_true y0,decide_eq_true x1,decide_eq_true y1,sumS_R,negB_hb (rng_wu _)]
 have hs:=rng_wu (x - y)
 have ev:decide (wi (andU (xorU x y) (xorU x (wu (x - y))))<0)=cond (hb x != hb y) (hb (wu (x - y)) != hb x) false:=by
  refine (negB_hb (andU_rng _ _)).trans ?_
  rw [hb_and (xorU_rng _ _) (xorU_rng _ _),hb_xor hx hy,hb_xor hx hs]
  cases hb x <;> cases hb y <;> cases hb (wu (x - y)) <;> rfl
 have ec:(cond (decide (x<y+0)) (1:Int) 0 != 0)=decide (x<y):=by
  rw [Int.add_zero]
  cases decide (x<y) <;> rfl
 rw [ev,ec]
 rfl
theorem subD_R (k:Int→KS):subD x y (t.1.l++T) k=k (wu (x - y)) ((subW x y t).1.l++T):=by
 have hs:=rng_wu (x - y)
 unfold subD subW
 rw [nzS_R,nzS_R,sh63_ne hx hy,sh63_ne hs hx,sh63_one hs]
 cases hb x != hb y <;> rfl
end
theorem logS_R {x:Int} (hx:rng64 x=true) (t:W) (T:List V):logS x (t.1.l++T)=(logW x t).1.l++T:=by
 unfold logS
 rw [sumS_R,negB_hb hx]
 rfl
theorem logD_R {f:Int→Int→Int} {x y:Int} (hf:rng64 (f x y)=true) (t:W) (T:List V) (k:Int→KS):logD f x y (t.1.l++T) k=k (f x y) ((logW (f x y) t).1.l++T):=by
 unfold logD
 rw [nzS_R,sh63_one hf]
 rfl
theorem and_low (y:Int) (w k:Nat) (hk:k≤w):((BitVec.ofInt w y &&& BitVec.ofInt w (2 ^ k - 1)).toNat:Int)=y % 2 ^ k:=by
 have e1:(BitVec.ofInt w (2 ^ k - 1)).toNat=2 ^ k - 1:=by
  rw [BitVec.toNat_ofInt]
  have hp:2 ^ k≤2 ^ w:=Nat.pow_le_pow_right (by decide) hk
  have h1:1≤2 ^ k:=Nat.one_le_two_pow
  have e:((2:Int) ^ k - 1)=((2 ^ k - 1:Nat):Int):=by
   rw [Int.ofNat_sub h1]
   simp
  rw [e]
  have e2:(((2 ^ w:Nat)):Int)=((2:Int) ^ w):=by simp
  rw [← Int.natCast_emod,Int.toNat_natCast,Nat.mod_eq_of_lt (by omega)]
 rw [BitVec.toNat_and,e1,Nat.and_two_pow_sub_one_eq_mod,BitVec.toNat_ofInt]
 have hp:(0:Int)<((2 ^ w:Nat):Int):=by
  have:0<2 ^ w:=Nat.two_pow_pos w
  omega
 have h0:=Int.emod_nonneg y (Int.ne_of_gt hp)
 rw [Int.natCast_emod,Int.toNat_of_nonneg h0]
 have e2:((2 ^ k:Nat):Int)=(2:Int) ^ k:=by simp
 rw [e2]
 refine Int.emod_emod_of_dvd y ?_
 rw [show ((2 ^ w:Nat):Int)=(2:Int) ^ w by simp]
 exact ⟨2 ^ (w - k),by rw [← Int.pow_add,Nat.add_sub_cancel' hk]⟩
theorem andU_1 (y:Int):andU y 1=y % 2:=by
 have h:=and_low y 64 1 (by decide)
 have e:andU y 1=wu ((BitVec.ofInt 64 y &&& BitVec.ofInt 64 (2 ^ 1 - 1)).toNat:Int):=rfl
 rw [e,h,wu_mod]
 omega
theorem andU_63 (y:Int):andU y 63=y % 64:=by
 have h:=and_low y 64 6 (by decide)
 have e:andU y 63=wu ((BitVec.ofInt 64 y &&& BitVec.ofInt 64 (2 ^ 6 - 1)).toNat:Int):=rfl
 rw [e,h,wu_mod]
 omega
theorem out_eq (y:Int):(andU y 1 != 0)=(andU y 1 == 1):=by
 rw [andU_1]
 rcases (by omega:y % 2=0∨y % 2=1) with h | h <;> rw [h] <;> rfl
theorem shr_rng {x:Int} (hx:rng64 x=true) (n:Int):rng64 (shrF x n)=true:=by
 obtain ⟨h0,h1⟩:=rng_spec hx
 unfold shrF
 have hp:(0:Int)<2 ^ (min n.toNat 64):=Int.pow_pos (by decide)
 rw [Int.fdiv_eq_ediv_of_nonneg _ (Int.le_of_lt hp)]
 have:=Int.ediv_le_self (2 ^ (min n.toNat 64)) h0
 exact rng_of (Int.ediv_nonneg h0 (Int.le_of_lt hp)) (by omega)
theorem sar_out {x n:Int} (hx:rng64 x=true) (h0:1≤n) (h1:n≤64):(andU (wu (shrF (wi x) (wu (n - 1)))) 1)=andU (shrF x (wu (n - 1))) 1:=by
 obtain ⟨x0,x1⟩:=rng_spec hx
 obtain ⟨m,hm⟩:=Int.eq_ofNat_of_zero_le (show 0≤n - 1 by omega)
 have em:wu (n - 1)=(m:Int):=by rw [hm]; exact wu_cast (by omega)
 have hm63:m≤63:=by omega
 rw [em,andU_1,andU_1]
 have e:∀ z:Int,shrF z (m:Int)=z / 2 ^ m:=fun z=>by
  unfold shrF
  rw [Int.toNat_natCast,Nat.min_eq_left (by omega),Int.fdiv_eq_ediv_of_nonneg _ (Int.le_of_lt (Int.pow_pos (by decide)))]
 rw [e,e,wu_mod]
 have ew:wi x / 2 ^ m % 2=x / 2 ^ m % 2:=by
  rw [wi_def,Int.emod_eq_of_lt x0 x1]
  split
  ·have hp:(0:Int)<2 ^ m:=Int.pow_pos (by decide)
   have e2:(18446744073709551616:Int)=2 ^ m*(2*2 ^ (63 - m)):=by
    have:(2:Int) ^ m*(2*2 ^ (63 - m))=2 ^ (m+(63 - m)+1):=by
     rw [Int.pow_succ,Int.pow_add,Int.mul_comm 2,Int.mul_assoc]
    rw [this,Nat.add_sub_cancel' hm63]
    rfl
   rw [e2,show x - 2 ^ m*(2*2 ^ (63 - m))=x+2 ^ m*(-(2*2 ^ (63 - m))) by rw [Int.mul_neg]; rfl,Int.add_mul_ediv_left _ _ (Int.ne_of_gt hp)]
   omega
  ·rfl
 omega
end Go.Ra

namespace Go.Ra
open Go Go.Ab Go.Proofs Go.Amd
def Alike (x:RowT) (r g:RunTy):Prop:=∀ s a b c d m sz A B C D E,Fine s→lens5 A B C D E=true→okF x a b c d=true→(uI x=true→lowR x≤m∧m≤highR x) →
 Both s (r s a b c d m sz A B C D E) (g s a b c d m sz A B C D E)
structure Hy (x:RowT) (e:EnvR):Prop where
 s:Fine e.s
 l:lens5 e.A e.B e.C e.D e.E=true
 ok:okF x e.a e.b e.c e.d=true
 im:uI x=true→lowR x≤e.m∧e.m≤highR x
 bk:rng64 e.bk=true
def wE {x:RowT} {e:EnvR} (h:Hy x e):W:=⟨e.s,h.s.len⟩
theorem okReg_of {n:Int} (h:0≤n∧n<16):okReg n=true:=by
 simp only [okReg,Bool.and_eq_true,decide_eq_true_eq]
 omega
section
variable {x:RowT} {e:EnvR} (h:Hy x e)
include h
theorem Hy.a:okReg e.a=true:=by
 rcases ok_parts h.ok with ⟨_,g,_⟩ | ⟨_,g,_⟩ <;> exact okReg_of (reg_rng g)
theorem Hy.b (hu:uM x=false):okReg e.b=true:=by
 rcases ok_parts h.ok with ⟨g,_,_⟩ | ⟨_,_,g,_⟩
 ·rw [hu] at g; cases g
 ·exact okReg_of (reg_rng g)
theorem Hy.p (hu:uM x=true):(e.b=17∨((e.b == 17)=false∧okReg e.b=true))∧(e.c=16∨((e.c != 16)=true∧okReg e.c=true)):=by
 rcases ok_parts h.ok with ⟨_,_,g⟩ | ⟨g,_⟩
 ·rcases place_rng g with ⟨h1,h2,_⟩ | ⟨h1,h2,_⟩ | ⟨h1,h2,_⟩
  ·exact ⟨.inl h1,.inl h2⟩
  ·exact ⟨.inr ⟨by rw [beq_eq_false_iff_ne]; omega,okReg_of h1⟩,.inl h2⟩
  ·exact ⟨.inr ⟨by rw [beq_eq_false_iff_ne]; omega,okReg_of h1⟩,.inr ⟨by rw [bne_iff_ne]; omega,okReg_of h2⟩⟩
 ·rw [hu] at g; cases g
theorem Hy.d (hu:uM x=false):0≤e.d∧e.d<16:=by
 rcases ok_parts h.ok with ⟨g,_⟩ | ⟨_,_,_,_,g⟩
 ·rw [hu] at g; cases g
 ·rcases g with g | ⟨_,g⟩
  ·omega
  ·exact cond_rng g
theorem Hy.r (n:Int):rng64 (regW (wE h) n)=true:=h.s.rng _
end
theorem nx_rng (s:CpuT) (sz:Int):rng64 (wu (s.pc+wu sz))=true:=rng_wu _
def Does (e:EnvR) (nx:Int) (r:(List V→Option Res)→Option Res) (g:(Int→List V→Option Res)→Option Res):Prop:=
 ∃ (t t' : W) (er:Int),(er=0∨er=21)∧(er=0→Fine t.1∧t' = t)∧(∀ k,r k=cond (er != 0) (faultK e) (k (t.1.l++tlP e nx)))∧(∀ k,g k=k nx (t'.1.l++tlD e er))
theorem does_both {e:EnvR} {nx:Int} {r g} (hs:Fine e.s) (hl:lens5 e.A e.B e.C e.D e.E=true) (hn:rng64 nx=true) (h:Does e nx r g) :
  Both e.s (r (finS (memO e.A e.B e.C e.D e.E))) (g fun to=>finG e.s to 0 (refO e.A e.B e.C e.D e.E)):=by
 obtain ⟨t,t',er,h1,h2,h3,h4⟩:=h
 rw [h3,h4,finS_R,finG_R]
 rcases h1 with rfl | rfl
 ·obtain ⟨f1,rfl⟩:=h2 rfl
  exact both_out (fine_pc f1 hn) 0 hl
 ·exact both_err hs 21 hl
theorem al_row {x:RowT} {f:BodyR} {g:EnvR→Int→List V→KS→Option Res} {nm:List UInt8}
  (h:∀ e (hy:Hy x e),Does e e.bk (f e ((wE hy).1.l++tlP e e.bk)) fun k=>g e (regW (wE hy) e.a) ((wE hy).1.l++tlD e 0) (k e.bk)):Alike x (mvR f nm) (oneD g nm):=by
 intro s a b c d m sz A B C D E hs hl ho hi
 have hy:Hy x (envF s nm a b c d m sz A B C D E):=⟨hs,hl,ho,hi,nx_rng _ _⟩
 have hb:=does_both hs hl (nx_rng s sz) (h _ hy)
 unfold mvR oneD
 rw [stC_eq _ hs.len,dcC_eq _ hs.len,inX_R (a:=a) hy.a]
 exact hb
theorem al_flow {x:RowT} {f:BodyR} {g:EnvR→List V→(Int→KS)→Option Res} {nm:List UInt8}
  (h:∀ e (hy:Hy x e),∃ nx,rng64 nx=true∧Does e nx (f e ((wE hy).1.l++tlP e e.bk)) (g e ((wE hy).1.l++tlD e 0))):Alike x (mvR f nm) (floD g nm):=by
 intro s a b c d m sz A B C D E hs hl ho hi
 have hy:Hy x (envF s nm a b c d m sz A B C D E):=⟨hs,hl,ho,hi,nx_rng _ _⟩
 obtain ⟨nx,hn,hd⟩:=h _ hy
 exact does_both hs hl hn hd
theorem does_ok {e:EnvR} {nx:Int} {r g} (t:W) (ht:Fine t.1) (h1:∀ k,r k=k (t.1.l++tlP e nx)) (h2:∀ k,g k=k nx (t.1.l++tlD e 0)):Does e nx r g:=
 ⟨t,t,0,.inl rfl,fun _=>⟨ht,rfl⟩,h1,h2⟩
theorem does_bad {e:EnvR} {nx:Int} {r g} (t:W) (h1:∀ k,r k=faultK e) (h2:∀ k,g k=k nx (t.1.l++tlD e 21)):Does e nx r g:=
 ⟨t,t,21,.inr rfl,fun h=>absurd h (by decide),h1,h2⟩
section
variable {x:RowT} {nm:List UInt8}
theorem al_movrr (hu:uM x=false):Alike x (mvR (preRr fun e S k=>inA e.a (inX e.b S fun y=>putX e.a y S k)) nm) (oneD (fun e _ S k=>inX e.b S fun y=>setD e y S k) nm):=
 al_row fun e hy=>does_ok (putW e.a (regW (wE hy) e.b) (wE hy)) (fine_put hy.s _ (hy.r _))
  (fun k=>by simp only [preRr,inX_R (hy.b hu),inA_R hy.a,putX_R hy.a]) (fun k=>by simp only [inX_R (hy.b hu),setD_R hy.a _ _ e rfl])
theorem al_movri {f:BodyR} (hf:∀ e S k,f e S k=inA e.a (putX e.a (wu e.m) S k)∨f e S k=inA e.a (inA e.a (putX e.a (wu e.m) S k))):Alike x (mvR f nm) (oneD (fun e _ S k=>setD e (wu e.m) S k) nm):=
 al_row fun e hy=>does_ok (putW e.a (wu e.m) (wE hy)) (fine_put hy.s _ (rng_wu _))
  (fun k=>by rcases hf e ((wE hy).1.l++tlP e e.bk) k with h | h <;> (rw [h]; simp only [inA_R hy.a,putX_R hy.a])) (fun k=>by simp only [setD_R hy.a _ _ e rfl])
theorem adK_R {e:EnvR} (hy:Hy x e) (hu:uM x=true):∃ p,rng64 p=true ∧ ∀ (T:List V) (k:Int→Option Res),adK e ((wE hy).1.l++T) k=k p:=by
 obtain ⟨h1,h2⟩:=hy.p hu
 have g2:∀ z,rng64 z=true → ∃ p,rng64 p=true ∧ ∀ (T:List V) (k:Int→Option Res),adK2 e ((wE hy).1.l++T) z k=k p:=by
  intro z hz
  unfold adK2
  rcases h2 with h2 | ⟨h2,h3⟩
  ·refine ⟨z,hz,fun T k=>?_⟩
   rw [h2]
   rfl
  ·refine ⟨wu (z+wu (regW (wE hy) e.c*wu e.d)),rng_wu _,fun T k=>?_⟩
   rw [h2,cond_true,inX_R h3]
 unfold adK
 rcases h1 with h1 | ⟨h1,h3⟩
 ·obtain ⟨p,hp,g⟩:=g2 _ (rng_wu (wu e.m+e.bk))
  refine ⟨p,hp,fun T k=>?_⟩
  rw [h1]
  exact g T k
 ·obtain ⟨p,hp,g⟩:=g2 _ (rng_wu (wu e.m+regW (wE hy) e.b))
  refine ⟨p,hp,fun T k=>?_⟩
  rw [h1,cond_false,inX_R h3]
  exact g T k
theorem rng_ldN {A B C D E:List Int} {x:Int}:∀ (n:Nat) (v:Int),rng64 v=true→rng64 (ldN A B C D E x n v)=true
 | 0,_,h=>h
 | n+1,v,_=>rng_ldN n _ (rng_wu _)
theorem valLd_rng (A B C D E:List Int) (x n:Int):rng64 (valLd A B C D E x n)=true:=by
 unfold valLd
 cases mayB x n 4
 ·rfl
 ·exact rng_ldN _ 0 rfl
theorem errLd_or (p n:Int):errLd p n=0∨errLd p n=21:=by
 unfold errLd
 cases mayB p n 4
 ·exact .inr rfl
 ·exact .inl rfl
theorem errSt_or (p n:Int):errSt p n=0∨errSt p n=21:=by
 unfold errSt
 cases mayB p n 2
 ·exact .inr rfl
 ·exact .inl rfl
theorem loadK_R {e:EnvR} (hl:lens5 e.A e.B e.C e.D e.E=true) {p:Int} (hp:rng64 p=true) (n:Int) (k:Int→Option Res):loadK e p n k=cond (errLd p n != 0) (faultK e) (k (valLd e.A e.B e.C e.D e.E p n)):=by
 unfold loadK q
 rw [hl,hp]
 rfl
theorem loadD_R {e:EnvR} (hl:lens5 e.A e.B e.C e.D e.E=true) {p:Int} (hp:rng64 p=true) (n:Int) (t:W) (er:Int) (k:Int→KS) :
  loadD e p n (t.1.l++tlD e er) k=k (valLd e.A e.B e.C e.D e.E p n) (t.1.l++tlD e (errLd p n)):=by
 unfold loadD q
 rw [hl,hp,set40_R]
 rfl
theorem does_ld {e:EnvR} {nx:Int} {r:(List V→Option Res)→Option Res} {g:(Int→List V→Option Res)→Option Res} (p n:Int) (t:W) (ht:Fine t.1) (h1:∀ k,r k=cond (errLd p n != 0) (faultK e) (k (t.1.l++tlP e nx))) (h2:∀ k,g k=k nx (t.1.l++tlD e (errLd p n))):Does e nx r g:=
 ⟨t,t,errLd p n,errLd_or _ _,fun _=>⟨ht,rfl⟩,h1,h2⟩
theorem al_ld (hu:uM x=true) (n:Int) {f g:Int→Int} (hg:∀ y,g y=f y) (hf:∀ y,rng64 y=true→rng64 (f y)=true) :
  Alike x (ldR n f nm) (oneD (fun e _ S k=>adK e S fun p=>loadD e p n S fun y U=>setD e (g y) U k) nm):=
 al_row fun e hy=>by
  obtain ⟨p,hp,ha⟩:=adK_R hy hu
  refine does_ld p n (putW e.a (f (valLd e.A e.B e.C e.D e.E p n)) (wE hy)) (fine_put hy.s _ (hf _ (valLd_rng _ _ _ _ _ _ _))) (fun k=>?_) (fun k=>?_)
  ·simp only [inA_R hy.a,ha,loadK_R hy.l hp,putX_R hy.a]
  ·simp only [ha,loadD_R hy.l hp,setD_R hy.a _ _ e rfl,hg]
theorem al_lea (hu:uM x=true):Alike x (mvR (fun e S k=>inA e.a (adK e S fun x=>putX e.a x S k)) nm) (oneD (fun e _ S k=>adK e S fun p=>setD e p S k) nm):=
 al_row fun e hy=>by
  obtain ⟨p,hp,ha⟩:=adK_R hy hu
  exact does_ok (putW e.a p (wE hy)) (fine_put hy.s _ hp) (fun k=>by simp only [inA_R hy.a,ha,putX_R hy.a]) (fun k=>by simp only [ha,setD_R hy.a _ _ e rfl])
theorem al_fs:Alike x (fsR nm) (oneD (fun e _ S k=>loadD e (wu (e.s.th+wu e.m)) 8 S fun y U=>setD e y U k) nm):=
 al_row fun e hy=>by
  refine does_ld (wu (e.s.th+wu e.m)) 8 (putW e.a (valLd e.A e.B e.C e.D e.E (wu (e.s.th+wu e.m)) 8) (wE hy)) (fine_put hy.s _ (valLd_rng _ _ _ _ _ _ _)) (fun k=>?_) (fun k=>?_)
  ·simp only [inA_R hy.a,loadK_R hy.l (rng_wu _),putX_R hy.a]
  ·simp only [loadD_R hy.l (rng_wu _),setD_R hy.a _ _ e rfl]
theorem hold_eq (z n c v:Bool) {d:Int} (h0:0≤d) (h1:d<16):holdsF z n c v d=hdF z n c v d:=by
 obtain ⟨m,rfl⟩:=Int.eq_ofNat_of_zero_le h0
 have hm:m<16:=by omega
 have key:∀ m:Fin 16,∀ z n c v:Bool,holdsF z n c v ((m.val:Nat):Int)=hdF z n c v ((m.val:Nat):Int):=by decide +kernel
 exact key ⟨m,hm⟩ z n c v
theorem al_cmov (hu:uM x=false):Alike x (mvR (fun e S k=>inA e.a (cond (holdsF e.s.z e.s.n e.s.c e.s.v e.d) (inX e.b S fun y=>putX e.a y S k) (k S))) nm) (oneD (fun e _ S k=>cond (hdF e.s.z e.s.n e.s.c e.s.v e.d) (inX e.b S fun y=>setD e y S k) (k S)) nm):=
 al_row fun e hy=>by
  have he:=hold_eq e.s.z e.s.n e.s.c e.s.v (hy.d hu).1 (hy.d hu).2
  cases hh:hdF e.s.z e.s.n e.s.c e.s.v e.d
  ·exact does_ok (wE hy) hy.s (fun k=>by simp only [he,hh,inA_R hy.a,cond_false]) (fun k=>by simp only [hh,cond_false])
  ·exact does_ok (putW e.a (regW (wE hy) e.b) (wE hy)) (fine_put hy.s _ (hy.r _)) (fun k=>by simp only [he,hh,inA_R hy.a,cond_true,inX_R (hy.b hu),putX_R hy.a]) (fun k=>by simp only [hh,cond_true,inX_R (hy.b hu),setD_R hy.a _ _ e rfl])
theorem al_cqo:Alike x (mvR (fun e S k=>inA e.a (k (S.set 3 (.int .u64 (wu (Int.fdiv (wi (e.s.x.getD 0 0)) (2 ^ 63))))))) nm) (oneD (fun e _ S k=>k (S.set 3 (.int .u64 (wu (Int.fdiv (wi (e.s.x.getD 0 0)) (2 ^ 63)))))) nm):=
 al_row fun e hy=>does_ok (putW 2 (wu (Int.fdiv (wi (e.s.x.getD 0 0)) (2 ^ 63))) (wE hy)) (fine_put hy.s _ (rng_wu _)) (fun k=>by simp only [inA_R hy.a,set3_R]) (fun k=>by simp only [set3_R])
theorem al_nop:Alike x (mvR (fun e S k=>inA e.a (inA e.a (k S))) nm) (oneD (fun _ _ S k=>k S) nm):=
 al_row fun e hy=>does_ok (wE hy) hy.s (fun k=>by simp only [inA_R hy.a]) (fun k=>rfl)
theorem notI_rng (x:Int):rng64 (notI x)=true:=rng_wu _
theorem al_not:Alike x (mvR (fun e S k=>inA e.a (inA e.a (rdX e.a S fun x=>putX e.a (notI x) S k))) nm) (oneD (fun e x S k=>setD e (notI x) S k) nm):=
 al_row fun e hy=>does_ok (putW e.a (notI (regW (wE hy) e.a)) (wE hy)) (fine_put hy.s _ (notI_rng _)) (fun k=>by simp only [inA_R hy.a,rdX_R hy.a,putX_R hy.a]) (fun k=>by simp only [setD_R hy.a _ _ e rfl])
theorem fine_sum {t:W} (h:Fine t.1) (a b:Int):Fine (sumW a b t).1:=fine_fl h _ _ _ _
theorem fine_sub {t:W} (h:Fine t.1) (a b:Int):Fine (subW a b t).1:=fine_fl h _ _ _ _
theorem fine_log {t:W} (h:Fine t.1) (a:Int):Fine (logW a t).1:=fine_fl h _ _ _ _
theorem al_neg:Alike x (mvR (fun e S k=>inA e.a (inA e.a (rdX e.a S fun x=>subK 0 x S fun y T=>putX e.a y T k))) nm) (oneD (fun e x S k=>subD 0 x S fun v T=>setD e v T k) nm):=
 al_row fun e hy=>does_ok (putW e.a (wu (0 - regW (wE hy) e.a)) (subW 0 (regW (wE hy) e.a) (wE hy))) (fine_put (fine_sub hy.s _ _) _ (rng_wu _))
  (fun k=>by simp only [inA_R hy.a,rdX_R hy.a,subK_R (x:=(0:Int)) rfl (hy.r _),putX_R hy.a]) (fun k=>by simp only [subD_R (x:=(0:Int)) rfl (hy.r _),setD_R hy.a _ _ e rfl])
structure TwoV (F:TwoR) (G:EnvR→Int→Int→List V→KS→Option Res):Prop where
 al:∀ (x:RowT) (e:EnvR) (hy:Hy x e) (y:Int),rng64 y=true → ∃ t:W,Fine t.1∧(∀ T k,F e y ((wE hy).1.l++T) k=k (t.1.l++T))∧(∀ T k,G e (regW (wE hy) e.a) y ((wE hy).1.l++T) k=k (t.1.l++T))
theorem two_add:TwoV addT (fun e x y S k=>addD x y S fun v T=>keptD e v T k):=⟨fun x e hy y h=>⟨putW e.a (wu (regW (wE hy) e.a+y)) (sumW (regW (wE hy) e.a) y (wE hy)),fine_put (fine_sum hy.s _ _) _ (rng_wu _),
 fun T k=>by simp only [addT,inA_R hy.a,rdX_R hy.a,addK_R (hy.r _) h,putX_R hy.a],fun T k=>by simp only [keptD,addD_R (hy.r _) h,setD_R hy.a _ _ e rfl]⟩⟩
theorem two_sub:TwoV subT (fun e x y S k=>subD x y S fun v T=>keptD e v T k):=⟨fun x e hy y h=>⟨putW e.a (wu (regW (wE hy) e.a - y)) (subW (regW (wE hy) e.a) y (wE hy)),fine_put (fine_sub hy.s _ _) _ (rng_wu _),
 fun T k=>by simp only [subT,inA_R hy.a,rdX_R hy.a,subK_R (hy.r _) h,putX_R hy.a],fun T k=>by simp only [keptD,subD_R (hy.r _) h,setD_R hy.a _ _ e rfl]⟩⟩
theorem two_cmp:TwoV cmpT (fun e x y S k=>subD x y S fun v T=>lostD e v T k):=⟨fun x e hy y h=>⟨subW (regW (wE hy) e.a) y (wE hy),fine_sub hy.s _ _,
 fun T k=>by simp only [cmpT,inA_R hy.a,rdX_R hy.a,subK_R (hy.r _) h],fun T k=>by simp only [lostD,subD_R (hy.r _) h]⟩⟩
theorem two_log {f:Int→Int→Int} (hf:∀ a b,rng64 (f a b)=true):TwoV (logT f) (fun e x y S k=>logD f x y S fun v T=>keptD e v T k):=⟨fun x e hy y h=>⟨putW e.a (f (regW (wE hy) e.a) y) (logW (f (regW (wE hy) e.a) y) (wE hy)),fine_put (fine_log hy.s _) _ (hf _ _),
 fun T k=>by simp only [logT,inA_R hy.a,rdX_R hy.a,logS_R (hf _ _),putX_R hy.a],fun T k=>by simp only [keptD,logD_R (hf _ _),setD_R hy.a _ _ e rfl]⟩⟩
theorem two_test:TwoV testT (fun e x y S k=>logD andU x y S fun v T=>lostD e v T k):=⟨fun x e hy y h=>⟨logW (andU (regW (wE hy) e.a) y) (wE hy),fine_log hy.s _,
 fun T k=>by simp only [testT,inA_R hy.a,rdX_R hy.a,logS_R (andU_rng _ _)],fun T k=>by simp only [lostD,logD_R (andU_rng _ _)]⟩⟩
variable {F:TwoR} {G:EnvR→Int→Int→List V→KS→Option Res} (hF:TwoV F G)
include hF
theorem al_rr (hu:uM x=false):Alike x (rrR F nm) (oneD (fun e _ S k=>inX e.b S fun y=>inX e.a S fun x=>G e x y S k) nm):=
 al_row fun e hy=>by
  obtain ⟨t,ht,h1,h2⟩:=hF.al x e hy (regW (wE hy) e.b) (hy.r _)
  exact does_ok t ht (fun k=>by simp only [inX_R (hy.b hu),h1]) (fun k=>by simp only [inX_R (hy.b hu),inX_R hy.a,h2])
theorem al_ri:Alike x (riR F nm) (oneD (fun e _ S k=>inX e.a S fun x=>G e x (wu e.m) S k) nm):=
 al_row fun e hy=>by
  obtain ⟨t,ht,h1,h2⟩:=hF.al x e hy (wu e.m) (rng_wu _)
  exact does_ok t ht (fun k=>by simp only [h1]) (fun k=>by simp only [inX_R hy.a,h2])
theorem al_rm (hu:uM x=true):Alike x (rmR F nm) (oneD (fun e _ S k=>adK e S fun p=>loadD e p 8 S fun y U=>inX e.a U fun x=>G e x y U k) nm):=
 al_row fun e hy=>by
  obtain ⟨p,hp,ha⟩:=adK_R hy hu
  obtain ⟨t,ht,h1,h2⟩:=hF.al x e hy (valLd e.A e.B e.C e.D e.E p 8) (valLd_rng _ _ _ _ _ _ _)
  exact does_ld p 8 t ht (fun k=>by simp only [ha,loadK_R hy.l hp,h1]) (fun k=>by simp only [ha,loadD_R hy.l hp,inX_R hy.a,h2])
end
end Go.Ra
